/-
  The walk of the law RanksOrder.
-/
import Derived.Test.YtkmoaeckabjgnaaDoorKAlive
import Derived.Test.YtkmoaeckabjgnaaDoorKBigAll
import Derived.Test.YtkmoaeckabjgnaaDoorKRank2
namespace Go.Proofs.YtkmoaeckabjgnaaDoor.V
set_option linter.unusedVariables false
set_option linter.unusedSimpArgs false
open Go Go.RowKit Go.Sort

theorem rks_cells {g n c : Nat} {xs : List Rk} {ok : Nat → Prop} {w : World} (h : IsSl 4 RRk w ok (.slice (some ⟨g, 0, none⟩) n c) xs) {i : Nat} {x : Rk} (hi : xs[i]? = some x) :
    w.cell? ⟨g, i * 4, none⟩ = some (.int .i64 x.v) ∧ w.cell? ⟨g, i * 4 + 1, none⟩ = some (.int .i64 x.n) ∧ w.cell? ⟨g, i * 4 + 2, none⟩ = some (.int .i64 x.c) ∧ w.cell? ⟨g, i * 4 + 3, none⟩ = some (.int .i64 x.t) := by
  obtain ⟨b, o, hA, _, h0, h1, h2, h3⟩ := rks_at h hi
  injection hA with hA
  injection hA with ha hb
  subst ha; subst hb
  rw [Nat.zero_add] at h0 h1 h2 h3
  exact ⟨h0, h1, h2, h3⟩
theorem ranksL_at {xs : List Rcd} {on : List Bool} {ch : List ByteArray} {i : Nat} {x : Rcd} (h : xs[i]? = some x) : (ranksL xs on ch)[i]? = some (rkOf xs on ch x) := by simp [ranksL, h]
theorem recAt_of {xs : List Rcd} {i : Nat} {x : Rcd} (h : xs[i]? = some x) : recAt xs i = x := by simp [recAt, List.getD, h]
theorem onAt_of {on : List Bool} {i : Nat} {b : Bool} (h : on[i]? = some b) : on.getD i false = b := by simp [List.getD, h]
/-- What the law asks of two records' ranks. -/
structure Two (x y : Rcd) (c vi vj ni nj ti tj : Int) : Prop where
  r : c = -1 ∨ c = 0 ∨ c = 1
  v : c = 1 → vi < vj
  e : c = 0 → vi = vj
  n : c = 0 → y.num < x.num → ni < nj
  t : c = 0 → x.num = y.num → y.time < x.time → ti < tj
theorem two_of {xs : List Rcd} {on : List Bool} {i k : Nat} {x y : Rcd} (hx : xs[i]? = some x) (hy : xs[k]? = some y) (oi : on[i]? = some true) (hn : (x.name.toList == y.name.toList) = true) :
    Two x y (cmpVer x.ver y.ver) (rankV xs on x) (rankV xs on y) (rankN xs on x) (rankN xs on y) (rankT xs on x) (rankT xs on y) := by
  have hi := (List.getElem?_eq_some_iff.1 hx).1
  have ex := recAt_of hx
  have ey := recAt_of hy
  have eo := onAt_of oi
  have en := nm_on (x := true) (y := true) hn
  refine ⟨ordVer.range _ _, fun h => ?_, fun h => ?_, fun h hm => ?_, fun h he hm => ?_⟩
  · have := rankV_lt (xs := xs) (on := on) (i := i) (k := k) hi eo (by rw [ex, ey]; exact en) (by rw [ex, ey]; omega)
    rw [ex, ey] at this
    omega
  · have := rankV_eq (xs := xs) (on := on) (i := i) (k := k) (by rw [ex, ey]; exact en) (by rw [ex, ey]; omega)
    rw [ex, ey] at this
    omega
  · have := rankN_lt (xs := xs) (on := on) (i := i) (k := k) hi eo (by rw [ex, ey]; exact en) (by rw [ex, ey]; omega) (by rw [ex, ey]; exact hm)
    rw [ex, ey] at this
    omega
  · have := rankT_lt (xs := xs) (on := on) (i := i) (k := k) hi eo (by rw [ex, ey]; exact en) (by rw [ex, ey]; omega) (by rw [ex, ey]; exact he) (by rw [ex, ey]; exact hm)
    rw [ex, ey] at this
    omega

set_option maxHeartbeats 16000000 in
set_option maxRecDepth 100000 in
theorem korder_any (vr vo : Value) (xs : List Rcd) (on : List Bool) (w : World) (u : TypeId) (ev : Value) (m : Int) (hE : Env w u ev m) (hx : IsRcds w (Lt w.heap.size) vr xs) (ho : IsBools w (Lt w.heap.size) vo on) :
    Calls Tryd.prog 3 #[vr, vo] w fun e w' => e = .returned (.bool true) ∧ Below w.heap.size w w' := by
  have HE := Lib.hid hE
  obtain ⟨XA, xc, rfl, hxl, hxc⟩ := hx.form
  obtain ⟨OA, oc, rfl, hol, hoc⟩ := ho.form
  have HX := Lib.hid hx
  have HO := Lib.hid ho
  clear hE hx ho
  go_enter Tryd.func3, Tryd.ntmps3
  go_wp2_with fail
  refine (alive12_any w u ev m HE.out).mono ?_
  rintro e w1 ⟨rfl, hb1⟩
  have HB1 := Lib.hid hb1
  clear hb1
  go_wp2_with fail
  refine (BigAll_any _ xs 40 w.heap.size w1 (HX.out.keep keepsRcd (Nat.le_refl _) (Same.of_below HB1.out)) HB1.out.size).mono ?_
  rintro e w2 ⟨⟨bb, rfl, hbig⟩, hb2⟩
  have HB2 := Lib.hid (HB1.out.trans (hb2.mono HB1.out.size))
  have HBIG := Lib.hid hbig
  clear hb2 hbig
  cases bb with
  | true =>
    go_wp2_with fail
    go_ret
    exact ⟨rfl, HB2.out⟩
  | false =>
  have h40 : (xs.length : Int) ≤ 40 := HBIG.out rfl
  by_cases hl : on.length = xs.length
  rotate_left
  · have hl1 : ((on.length : Int) == (xs.length : Int)) = false := by simp; omega
    have hl2 : ((on.length : Int) != (xs.length : Int)) = true := by simp; omega
    go_wp2_with fail
    go_ret
    exact ⟨rfl, HB2.out⟩
  rw [hl] at HO ⊢
  have HL := Lib.hid hl
  clear hl hol
  go_wp2_with fail
  refine (ranksOf_any _ _ _ xs on [] w.heap.size w2 (HX.out.keep keepsRcd (Nat.le_refl _) (Same.of_below HB2.out)) (HO.out.keep keepsBool (Nat.le_refl _) (Same.of_below HB2.out)) (IsSl.nil _ _ _ _ _ _ (by decide)) HB2.out.size HL.out (by omega) (by decide)).mono ?_
  rintro _ w3 ⟨⟨g, rfl, hr⟩, hb3⟩
  have HR := Lib.hid hr
  have HB3 := Lib.hid (HB2.out.trans (hb3.mono HB2.out.size))
  clear hr hb3
  obtain ⟨wz, hwz⟩ : ∃ wz : World, wz = w3 := ⟨_, rfl⟩
  subst hwz
  go_wp2_with fail
  go_loopw [33] (fun i wr => ∃ k : Nat, k ≤ xs.length ∧ i = .int .i64 k ∧ Hid (Below wz.heap.size wz wr)) (fun i _ => xs.length - (intOf i).toNat)
  case atStart => exact ⟨0, Nat.zero_le _, rfl, Lib.hid (Below.refl _ _)⟩
  case round =>
    obtain ⟨k, hk, rfl, HW⟩ := hrel
    obtain ⟨wb, hwb⟩ : ∃ wb : World, wb = wr := ⟨_, rfl⟩
    subst hwb
    have HBW := Lib.hid (HB3.out.trans (HW.out.mono HB3.out.size))
    by_cases hlt : k < xs.length
    · obtain ⟨x, hx⟩ : ∃ x, xs[k]? = some x := ⟨_, List.getElem?_eq_getElem hlt⟩
      obtain ⟨oi, hoi⟩ : ∃ b, on[k]? = some b := ⟨_, List.getElem?_eq_getElem (by rw [HL.out]; exact hlt)⟩
      obtain ⟨b, o, aA1, an1, ac1, aA2, an2, ac2, aA3, an3, ac3, aA4, an4, ac4, aA5, an5, ac5, rfl, hb, hrec, hrow⟩ := rcds_at HX.out hx
      obtain ⟨b2, o2, rfl, hb2, hcell⟩ := bools_at HO.out hoi
      have q0 : wb.cell? ⟨b, o + k * 13, none⟩ = some (.string x.chan) := (HBW.out.cell hb).trans (hrow 0 _ rfl)
      have q1 : wb.cell? ⟨b, o + k * 13 + 1, none⟩ = some (.string x.file) := (HBW.out.cell hb).trans (hrow 1 _ rfl)
      have q2 : wb.cell? ⟨b, o + k * 13 + 2, none⟩ = some (.string x.name) := (HBW.out.cell hb).trans (hrow 2 _ rfl)
      have q3 : wb.cell? ⟨b, o + k * 13 + 3, none⟩ = some (.string x.text) := (HBW.out.cell hb).trans (hrow 3 _ rfl)
      have q4 : wb.cell? ⟨b, o + k * 13 + 4, none⟩ = some (.int .i64 x.ver.epoch) := (HBW.out.cell hb).trans (hrow 4 _ rfl)
      have q5 : wb.cell? ⟨b, o + k * 13 + 5, none⟩ = some (.slice aA1 an1 ac1) := (HBW.out.cell hb).trans (hrow 5 _ rfl)
      have q6 : wb.cell? ⟨b, o + k * 13 + 6, none⟩ = some (.slice aA2 an2 ac2) := (HBW.out.cell hb).trans (hrow 6 _ rfl)
      have q7 : wb.cell? ⟨b, o + k * 13 + 7, none⟩ = some (.string x.build) := (HBW.out.cell hb).trans (hrow 7 _ rfl)
      have q8 : wb.cell? ⟨b, o + k * 13 + 8, none⟩ = some (.int .i64 x.num) := (HBW.out.cell hb).trans (hrow 8 _ rfl)
      have q9 : wb.cell? ⟨b, o + k * 13 + 9, none⟩ = some (.int .i64 x.time) := (HBW.out.cell hb).trans (hrow 9 _ rfl)
      have q10 : wb.cell? ⟨b, o + k * 13 + 10, none⟩ = some (.slice aA3 an3 ac3) := (HBW.out.cell hb).trans (hrow 10 _ rfl)
      have q11 : wb.cell? ⟨b, o + k * 13 + 11, none⟩ = some (.slice aA4 an4 ac4) := (HBW.out.cell hb).trans (hrow 11 _ rfl)
      have q12 : wb.cell? ⟨b, o + k * 13 + 12, none⟩ = some (.slice aA5 an5 ac5) := (HBW.out.cell hb).trans (hrow 12 _ rfl)
      have HVX := Lib.hid hrec.ver
      have HKX := Lib.hid (Blk.new wb 37 #[.string x.chan, .string x.file, .string x.name, .string x.text, .int .i64 x.ver.epoch, .slice aA1 an1 ac1, .slice aA2 an2 ac2, .string x.build, .int .i64 x.num, .int .i64 x.time, .slice aA3 an3 ac3, .slice aA4 an4 ac4, .slice aA5 an5 ac5])
      have HXB := Lib.hid (news_alloc wb (.cells #[.string x.chan, .string x.file, .string x.name, .string x.text, .int .i64 x.ver.epoch, .slice aA1 an1 ac1, .slice aA2 an2 ac2, .string x.build, .int .i64 x.num, .int .i64 x.time, .slice aA3 an3 ac3, .slice aA4 an4 ac4, .slice aA5 an5 ac5] 37))
      have HXI := Lib.hid hx
      have HOI := Lib.hid hoi
      have HOC := Lib.hid hcell
      have HBB := Lib.hid (And.intro hb hb2)
      clear hx hoi hrec hrow hcell
      go_wp2_with fail
      clear q0 q1 q2 q3 q4 q5 q6 q7 q8 q9 q10 q11 q12
      generalize wb.alloc (.cells #[.string x.chan, .string x.file, .string x.name, .string x.text, .int .i64 x.ver.epoch, .slice aA1 an1 ac1, .slice aA2 an2 ac2, .string x.build, .int .i64 x.num, .int .i64 x.time, .slice aA3 an3 ac3, .slice aA4 an4 ac4, .slice aA5 an5 ac5] 37) = WX at *
      have HWX := Lib.hid (HW.out.trans (HXB.out.mono HW.out.size))
      go_loopw [40] (fun i wr => ∃ j : Nat, j ≤ xs.length ∧ i = .int .i64 j ∧ Hid (Below WX.heap.size WX wr)) (fun i _ => xs.length - (intOf i).toNat)
      case atStart => exact ⟨0, Nat.zero_le _, rfl, Lib.hid (Below.refl _ _)⟩
      case round =>
        obtain ⟨j, hj, rfl, HW2⟩ := hrel
        have HBZ : Hid (Below wz.heap.size wz wr) := Lib.hid (HWX.out.trans (HW2.out.mono HWX.out.size))
        have HBR : Hid (Below w.heap.size w wr) := Lib.hid (HB3.out.trans (HBZ.out.mono HB3.out.size))
        by_cases hjl : j < xs.length
        · obtain ⟨y, hy⟩ : ∃ y, xs[j]? = some y := ⟨_, List.getElem?_eq_getElem hjl⟩
          obtain ⟨oj, hoj⟩ : ∃ b, on[j]? = some b := ⟨_, List.getElem?_eq_getElem (by rw [HL.out]; exact hjl)⟩
          obtain ⟨b', o', cA1, cn1, cc1, cA2, cn2, cc2, cA3, cn3, cc3, cA4, cn4, cc4, cA5, cn5, cc5, hbe, hb', hrec', hrow'⟩ := rcds_at HX.out hy
          obtain ⟨b2', o2', hbe2, hb2', hcell'⟩ := bools_at HO.out hoj
          obtain ⟨rfl, rfl⟩ : b = b' ∧ o = o' := by injection hbe with h; injection h with h1 h2; exact ⟨h1, h2⟩
          obtain ⟨rfl, rfl⟩ : b2 = b2' ∧ o2 = o2' := by injection hbe2 with h; injection h with h1 h2; exact ⟨h1, h2⟩
          have p0 : wr.cell? ⟨b, o + j * 13, none⟩ = some (.string y.chan) := (HBR.out.cell hb').trans (hrow' 0 _ rfl)
          have p1 : wr.cell? ⟨b, o + j * 13 + 1, none⟩ = some (.string y.file) := (HBR.out.cell hb').trans (hrow' 1 _ rfl)
          have p2 : wr.cell? ⟨b, o + j * 13 + 2, none⟩ = some (.string y.name) := (HBR.out.cell hb').trans (hrow' 2 _ rfl)
          have p3 : wr.cell? ⟨b, o + j * 13 + 3, none⟩ = some (.string y.text) := (HBR.out.cell hb').trans (hrow' 3 _ rfl)
          have p4 : wr.cell? ⟨b, o + j * 13 + 4, none⟩ = some (.int .i64 y.ver.epoch) := (HBR.out.cell hb').trans (hrow' 4 _ rfl)
          have p5 : wr.cell? ⟨b, o + j * 13 + 5, none⟩ = some (.slice cA1 cn1 cc1) := (HBR.out.cell hb').trans (hrow' 5 _ rfl)
          have p6 : wr.cell? ⟨b, o + j * 13 + 6, none⟩ = some (.slice cA2 cn2 cc2) := (HBR.out.cell hb').trans (hrow' 6 _ rfl)
          have p7 : wr.cell? ⟨b, o + j * 13 + 7, none⟩ = some (.string y.build) := (HBR.out.cell hb').trans (hrow' 7 _ rfl)
          have p8 : wr.cell? ⟨b, o + j * 13 + 8, none⟩ = some (.int .i64 y.num) := (HBR.out.cell hb').trans (hrow' 8 _ rfl)
          have p9 : wr.cell? ⟨b, o + j * 13 + 9, none⟩ = some (.int .i64 y.time) := (HBR.out.cell hb').trans (hrow' 9 _ rfl)
          have p10 : wr.cell? ⟨b, o + j * 13 + 10, none⟩ = some (.slice cA3 cn3 cc3) := (HBR.out.cell hb').trans (hrow' 10 _ rfl)
          have p11 : wr.cell? ⟨b, o + j * 13 + 11, none⟩ = some (.slice cA4 cn4 cc4) := (HBR.out.cell hb').trans (hrow' 11 _ rfl)
          have p12 : wr.cell? ⟨b, o + j * 13 + 12, none⟩ = some (.slice cA5 cn5 cc5) := (HBR.out.cell hb').trans (hrow' 12 _ rfl)
          have e1 : wr.cell? ⟨b2, o2 + k, none⟩ = some (.bool oi) := (HBR.out.cell HBB.out.2).trans HOC.out
          have e2 : wr.cell? ⟨b2, o2 + j, none⟩ = some (.bool oj) := (HBR.out.cell hb2').trans hcell'
          have hbr : b < wr.heap.size := Nat.lt_of_lt_of_le hb' HBR.out.size
          have hb2r : b2 < wr.heap.size := Nat.lt_of_lt_of_le hb2' HBR.out.size
          have hxr : wb.heap.size < wr.heap.size := Nat.lt_of_lt_of_le HKX.out.lt HW2.out.size
          have HKXr := Lib.hid (HKX.out.belowSelf HW2.out)
          have s2 := HKXr.out.cell 2
          have s4 := HKXr.out.cell 4
          have s5 := HKXr.out.cell 5
          have s6 := HKXr.out.cell 6
          have HYB := Lib.hid (news_alloc wr (.cells #[.string y.chan, .string y.file, .string y.name, .string y.text, .int .i64 y.ver.epoch, .slice cA1 cn1 cc1, .slice cA2 cn2 cc2, .string y.build, .int .i64 y.num, .int .i64 y.time, .slice cA3 cn3 cc3, .slice cA4 cn4 cc4, .slice cA5 cn5 cc5] 37))
          have HKY := Lib.hid (Blk.new wr 37 #[.string y.chan, .string y.file, .string y.name, .string y.text, .int .i64 y.ver.epoch, .slice cA1 cn1 cc1, .slice cA2 cn2 cc2, .string y.build, .int .i64 y.num, .int .i64 y.time, .slice cA3 cn3 cc3, .slice cA4 cn4 cc4, .slice cA5 cn5 cc5])
          have HVY := Lib.hid hrec'.ver
          have HXJ := Lib.hid hy
          clear hy hbe hbe2 hrec' hrow' hcell' hoj
          cases oi with
          | false =>
            go_wp2_with fail
            go_roundw
            case rel => exact ⟨j + 1, by omega, by go_num, Lib.hid (HW2.out.trans (HYB.out.mono HW2.out.size))⟩
            case measure => simp [intOf]; omega
          | true =>
          cases oj with
          | false =>
            go_wp2_with fail
            go_roundw
            case rel => exact ⟨j + 1, by omega, by go_num, Lib.hid (HW2.out.trans (HYB.out.mono HW2.out.size))⟩
            case measure => simp [intOf]; omega
          | true =>
          cases hnm : (x.name.toList == y.name.toList) with
          | false =>
            go_wp2_with fail
            go_roundw
            case rel => exact ⟨j + 1, by omega, by go_num, Lib.hid (HW2.out.trans (HYB.out.mono HW2.out.size))⟩
            case measure => simp [intOf]; omega
          | true =>
            have HT := Lib.hid (two_of HXI.out HXJ.out HOI.out hnm)
            have HYW := Lib.hid (HBR.out.trans (HYB.out.mono HBR.out.size))
            go_wp2_with fail
            clear p0 p1 p2 p3 p4 p5 p6 p7 p8 p9 p10 p11 p12 e1 e2 s2 s4 s5 s6
            refine (rCompare_any _ _ x.ver y.ver w.heap.size _ (HVX.out.keep (Nat.le_refl _) (Same.of_below HYW.out)) (HVY.out.keep (Nat.le_refl _) (Same.of_below HYW.out)) HYW.out.size).mono ?_
            rintro e w6 ⟨rfl, hb6⟩
            have HB6 := Lib.hid (HYB.out.trans (hb6.mono HYB.out.size))
            have HKX6 := Lib.hid (HKXr.out.belowSelf HB6.out)
            have HKY6 := Lib.hid (HKY.out.belowSelf hb6)
            have HZ6 := Lib.hid (HBZ.out.trans (HB6.out.mono HBZ.out.size))
            have HR6 := Lib.hid (HR.out.keepOn keepsRk (ok' := fun _ => True) (fun _ _ => trivial) (fun p hp => HZ6.out.cell hp.2))
            clear hb6
            obtain ⟨hx0, hx1, _, hx3⟩ := rks_cells HR6.out (ranksL_at HXI.out)
            obtain ⟨hy0, hy1, _, hy3⟩ := rks_cells HR6.out (ranksL_at HXJ.out)
            obtain ⟨c, hc⟩ : ∃ c, c = cmpVer x.ver y.ver := ⟨_, rfl⟩
            obtain ⟨vi, hvi⟩ : ∃ z : Int, z = (rankV xs on x : Int) := ⟨_, rfl⟩
            obtain ⟨vj, hvj⟩ : ∃ z : Int, z = (rankV xs on y : Int) := ⟨_, rfl⟩
            obtain ⟨ni, hni⟩ : ∃ z : Int, z = (rankN xs on x : Int) := ⟨_, rfl⟩
            obtain ⟨nj, hnj⟩ : ∃ z : Int, z = (rankN xs on y : Int) := ⟨_, rfl⟩
            obtain ⟨ti, hti⟩ : ∃ z : Int, z = (rankT xs on x : Int) := ⟨_, rfl⟩
            obtain ⟨tj, htj⟩ : ∃ z : Int, z = (rankT xs on y : Int) := ⟨_, rfl⟩
            replace hx0 : w6.cell? ⟨g, k * 4, none⟩ = some (.int .i64 vi) := hvi ▸ hx0
            replace hx1 : w6.cell? ⟨g, k * 4 + 1, none⟩ = some (.int .i64 ni) := hni ▸ hx1
            replace hx3 : w6.cell? ⟨g, k * 4 + 3, none⟩ = some (.int .i64 ti) := hti ▸ hx3
            replace hy0 : w6.cell? ⟨g, j * 4, none⟩ = some (.int .i64 vj) := hvj ▸ hy0
            replace hy1 : w6.cell? ⟨g, j * 4 + 1, none⟩ = some (.int .i64 nj) := hnj ▸ hy1
            replace hy3 : w6.cell? ⟨g, j * 4 + 3, none⟩ = some (.int .i64 tj) := htj ▸ hy3
            rw [← hc, ← hvi, ← hvj, ← hni, ← hnj, ← hti, ← htj] at HT
            rw [← hc]
            have HXX := Lib.hid (And.intro hx0 (And.intro hx1 hx3))
            have HYY := Lib.hid (And.intro hy0 (And.intro hy1 hy3))
            have HG6 := Lib.hid (cell_lt hx0)
            have i1 : (0 : Int) ≤ (k : Int) := by omega
            have i2 : (k : Int) < (xs.length : Int) := by omega
            have i3 : (0 : Int) ≤ (j : Int) := by omega
            have i4 : (j : Int) < (xs.length : Int) := by omega
            clear hc hvi hvj hni hnj hti htj hx0 hx1 hx3 hy0 hy1 hy3
            rcases HT.out.r with rfl | rfl | rfl
            · have hdummy : True := trivial
              have z0 := cell_regrown (HKX6.out.cell 8)
              have z1 := cell_regrown (HKX6.out.cell 9)
              have z2 := cell_regrown (HKY6.out.cell 8)
              have z3 := cell_regrown (HKY6.out.cell 9)
              have z4 := cell_regrown HXX.out.1
              have z5 := cell_regrown HXX.out.2.1
              have z6 := cell_regrown HXX.out.2.2
              have z7 := cell_regrown HYY.out.1
              have z8 := cell_regrown HYY.out.2.1
              have z9 := cell_regrown HYY.out.2.2
              go_wp2_with fail
              refine wp_region_quiet_below (by kernel_rfl) (by kernel_rfl) ?_
              repeat (first | go_big_quiet_step (fail) | quiet_step (fail))
              refine wpQuiet_nil ?_
              intro _ hwq
              obtain ⟨⟨q, os⟩, hwq⟩ := hwq
              subst hwq
              have HR7 := Lib.hid (below_regrown w6 q os)
              have y0 := cell_regrown ((HKX6.out.belowSelf HR7.out).cell 8)
              have y1 := cell_regrown ((HKX6.out.belowSelf HR7.out).cell 9)
              have y2 := cell_regrown ((HKY6.out.belowSelf HR7.out).cell 8)
              have y3 := cell_regrown ((HKY6.out.belowSelf HR7.out).cell 9)
              have y4 := cell_regrown ((HR7.out.cell HG6.out).trans HXX.out.1)
              have y5 := cell_regrown ((HR7.out.cell HG6.out).trans HXX.out.2.1)
              have y6 := cell_regrown ((HR7.out.cell HG6.out).trans HXX.out.2.2)
              have y7 := cell_regrown ((HR7.out.cell HG6.out).trans HYY.out.1)
              have y8 := cell_regrown ((HR7.out.cell HG6.out).trans HYY.out.2.1)
              have y9 := cell_regrown ((HR7.out.cell HG6.out).trans HYY.out.2.2)
              clear z0 z1 z2 z3 z4 z5 z6 z7 z8 z9
              have HB7 := Lib.hid (HB6.out.trans (HR7.out.mono HB6.out.size))
              clear HR7
              generalize grow (redrawn w6 q) os = W7 at *
              go_wp2_with fail
              refine wp_region_quiet_below (by kernel_rfl) (by kernel_rfl) ?_
              repeat (first | go_big_quiet_step (fail) | quiet_step (fail))
              refine wpQuiet_nil ?_
              intro _ hwq2
              obtain ⟨⟨q2, os2⟩, hwq2⟩ := hwq2
              subst hwq2
              have HB8 := Lib.hid (HB7.out.trans ((below_regrown W7 q2 os2).mono HB7.out.size))
              clear y0 y1 y2 y3 y4 y5 y6 y7 y8 y9
              generalize grow (redrawn W7 q2) os2 = W8 at *
              go_wp2_with fail
              go_roundw
              case rel => exact ⟨j + 1, by omega, by go_num, Lib.hid (HW2.out.trans (HB8.out.mono HW2.out.size))⟩
              case measure => simp [intOf]; omega
            · have hv := HT.out.e rfl
              subst hv
              by_cases hm : y.num < x.num
              · have hn := HT.out.n rfl hm
                have hd : decide (nj ≤ ni) = false := decide_eq_false (by omega)
                have hm1 : decide (y.num < x.num) = true := decide_eq_true hm
                have he1 : (x.num == y.num) = false := beq_eq_false_iff_ne.2 (by omega)
                have z0 := cell_regrown (HKX6.out.cell 8)
                have z1 := cell_regrown (HKX6.out.cell 9)
                have z2 := cell_regrown (HKY6.out.cell 8)
                have z3 := cell_regrown (HKY6.out.cell 9)
                have z4 := cell_regrown HXX.out.1
                have z5 := cell_regrown HXX.out.2.1
                have z6 := cell_regrown HXX.out.2.2
                have z7 := cell_regrown HYY.out.1
                have z8 := cell_regrown HYY.out.2.1
                have z9 := cell_regrown HYY.out.2.2
                go_wp2_with fail
                refine wp_region_quiet_below (by kernel_rfl) (by kernel_rfl) ?_
                repeat (first | go_big_quiet_step (fail) | quiet_step (fail))
                refine wpQuiet_nil ?_
                intro _ hwq
                obtain ⟨⟨q, os⟩, hwq⟩ := hwq
                subst hwq
                have HR7 := Lib.hid (below_regrown w6 q os)
                have y0 := cell_regrown ((HKX6.out.belowSelf HR7.out).cell 8)
                have y1 := cell_regrown ((HKX6.out.belowSelf HR7.out).cell 9)
                have y2 := cell_regrown ((HKY6.out.belowSelf HR7.out).cell 8)
                have y3 := cell_regrown ((HKY6.out.belowSelf HR7.out).cell 9)
                have y4 := cell_regrown ((HR7.out.cell HG6.out).trans HXX.out.1)
                have y5 := cell_regrown ((HR7.out.cell HG6.out).trans HXX.out.2.1)
                have y6 := cell_regrown ((HR7.out.cell HG6.out).trans HXX.out.2.2)
                have y7 := cell_regrown ((HR7.out.cell HG6.out).trans HYY.out.1)
                have y8 := cell_regrown ((HR7.out.cell HG6.out).trans HYY.out.2.1)
                have y9 := cell_regrown ((HR7.out.cell HG6.out).trans HYY.out.2.2)
                clear z0 z1 z2 z3 z4 z5 z6 z7 z8 z9
                have HB7 := Lib.hid (HB6.out.trans (HR7.out.mono HB6.out.size))
                clear HR7
                generalize grow (redrawn w6 q) os = W7 at *
                go_wp2_with fail
                refine wp_region_quiet_below (by kernel_rfl) (by kernel_rfl) ?_
                repeat (first | go_big_quiet_step (fail) | quiet_step (fail))
                refine wpQuiet_nil ?_
                intro _ hwq2
                obtain ⟨⟨q2, os2⟩, hwq2⟩ := hwq2
                subst hwq2
                have HB8 := Lib.hid (HB7.out.trans ((below_regrown W7 q2 os2).mono HB7.out.size))
                clear y0 y1 y2 y3 y4 y5 y6 y7 y8 y9
                generalize grow (redrawn W7 q2) os2 = W8 at *
                go_wp2_with fail
                go_roundw
                case rel => exact ⟨j + 1, by omega, by go_num, Lib.hid (HW2.out.trans (HB8.out.mono HW2.out.size))⟩
                case measure => simp [intOf]; omega
              · have hm1 : decide (y.num < x.num) = false := decide_eq_false hm
                by_cases he : x.num = y.num
                · have he1 : (x.num == y.num) = true := by simpa using he
                  have HEQ := Lib.hid he
                  clear he
                  by_cases ht : y.time < x.time
                  · have htt := HT.out.t rfl HEQ.out ht
                    have hd : decide (tj ≤ ti) = false := decide_eq_false (by omega)
                    have ht1 : decide (y.time < x.time) = true := decide_eq_true ht
                    have z0 := cell_regrown (HKX6.out.cell 8)
                    have z1 := cell_regrown (HKX6.out.cell 9)
                    have z2 := cell_regrown (HKY6.out.cell 8)
                    have z3 := cell_regrown (HKY6.out.cell 9)
                    have z4 := cell_regrown HXX.out.1
                    have z5 := cell_regrown HXX.out.2.1
                    have z6 := cell_regrown HXX.out.2.2
                    have z7 := cell_regrown HYY.out.1
                    have z8 := cell_regrown HYY.out.2.1
                    have z9 := cell_regrown HYY.out.2.2
                    go_wp2_with fail
                    refine wp_region_quiet_below (by kernel_rfl) (by kernel_rfl) ?_
                    repeat (first | go_big_quiet_step (fail) | quiet_step (fail))
                    refine wpQuiet_nil ?_
                    intro _ hwq
                    obtain ⟨⟨q, os⟩, hwq⟩ := hwq
                    subst hwq
                    have HR7 := Lib.hid (below_regrown w6 q os)
                    have y0 := cell_regrown ((HKX6.out.belowSelf HR7.out).cell 8)
                    have y1 := cell_regrown ((HKX6.out.belowSelf HR7.out).cell 9)
                    have y2 := cell_regrown ((HKY6.out.belowSelf HR7.out).cell 8)
                    have y3 := cell_regrown ((HKY6.out.belowSelf HR7.out).cell 9)
                    have y4 := cell_regrown ((HR7.out.cell HG6.out).trans HXX.out.1)
                    have y5 := cell_regrown ((HR7.out.cell HG6.out).trans HXX.out.2.1)
                    have y6 := cell_regrown ((HR7.out.cell HG6.out).trans HXX.out.2.2)
                    have y7 := cell_regrown ((HR7.out.cell HG6.out).trans HYY.out.1)
                    have y8 := cell_regrown ((HR7.out.cell HG6.out).trans HYY.out.2.1)
                    have y9 := cell_regrown ((HR7.out.cell HG6.out).trans HYY.out.2.2)
                    clear z0 z1 z2 z3 z4 z5 z6 z7 z8 z9
                    have HB7 := Lib.hid (HB6.out.trans (HR7.out.mono HB6.out.size))
                    clear HR7
                    generalize grow (redrawn w6 q) os = W7 at *
                    go_wp2_with fail
                    refine wp_region_quiet_below (by kernel_rfl) (by kernel_rfl) ?_
                    repeat (first | go_big_quiet_step (fail) | quiet_step (fail))
                    refine wpQuiet_nil ?_
                    intro _ hwq2
                    obtain ⟨⟨q2, os2⟩, hwq2⟩ := hwq2
                    subst hwq2
                    have HB8 := Lib.hid (HB7.out.trans ((below_regrown W7 q2 os2).mono HB7.out.size))
                    clear y0 y1 y2 y3 y4 y5 y6 y7 y8 y9
                    generalize grow (redrawn W7 q2) os2 = W8 at *
                    go_wp2_with fail
                    go_roundw
                    case rel => exact ⟨j + 1, by omega, by go_num, Lib.hid (HW2.out.trans (HB8.out.mono HW2.out.size))⟩
                    case measure => simp [intOf]; omega
                  · have ht1 : decide (y.time < x.time) = false := decide_eq_false ht
                    have z0 := cell_regrown (HKX6.out.cell 8)
                    have z1 := cell_regrown (HKX6.out.cell 9)
                    have z2 := cell_regrown (HKY6.out.cell 8)
                    have z3 := cell_regrown (HKY6.out.cell 9)
                    have z4 := cell_regrown HXX.out.1
                    have z5 := cell_regrown HXX.out.2.1
                    have z6 := cell_regrown HXX.out.2.2
                    have z7 := cell_regrown HYY.out.1
                    have z8 := cell_regrown HYY.out.2.1
                    have z9 := cell_regrown HYY.out.2.2
                    go_wp2_with fail
                    refine wp_region_quiet_below (by kernel_rfl) (by kernel_rfl) ?_
                    repeat (first | go_big_quiet_step (fail) | quiet_step (fail))
                    refine wpQuiet_nil ?_
                    intro _ hwq
                    obtain ⟨⟨q, os⟩, hwq⟩ := hwq
                    subst hwq
                    have HR7 := Lib.hid (below_regrown w6 q os)
                    have y0 := cell_regrown ((HKX6.out.belowSelf HR7.out).cell 8)
                    have y1 := cell_regrown ((HKX6.out.belowSelf HR7.out).cell 9)
                    have y2 := cell_regrown ((HKY6.out.belowSelf HR7.out).cell 8)
                    have y3 := cell_regrown ((HKY6.out.belowSelf HR7.out).cell 9)
                    have y4 := cell_regrown ((HR7.out.cell HG6.out).trans HXX.out.1)
                    have y5 := cell_regrown ((HR7.out.cell HG6.out).trans HXX.out.2.1)
                    have y6 := cell_regrown ((HR7.out.cell HG6.out).trans HXX.out.2.2)
                    have y7 := cell_regrown ((HR7.out.cell HG6.out).trans HYY.out.1)
                    have y8 := cell_regrown ((HR7.out.cell HG6.out).trans HYY.out.2.1)
                    have y9 := cell_regrown ((HR7.out.cell HG6.out).trans HYY.out.2.2)
                    clear z0 z1 z2 z3 z4 z5 z6 z7 z8 z9
                    have HB7 := Lib.hid (HB6.out.trans (HR7.out.mono HB6.out.size))
                    clear HR7
                    generalize grow (redrawn w6 q) os = W7 at *
                    go_wp2_with fail
                    refine wp_region_quiet_below (by kernel_rfl) (by kernel_rfl) ?_
                    repeat (first | go_big_quiet_step (fail) | quiet_step (fail))
                    refine wpQuiet_nil ?_
                    intro _ hwq2
                    obtain ⟨⟨q2, os2⟩, hwq2⟩ := hwq2
                    subst hwq2
                    have HB8 := Lib.hid (HB7.out.trans ((below_regrown W7 q2 os2).mono HB7.out.size))
                    clear y0 y1 y2 y3 y4 y5 y6 y7 y8 y9
                    generalize grow (redrawn W7 q2) os2 = W8 at *
                    go_wp2_with fail
                    go_roundw
                    case rel => exact ⟨j + 1, by omega, by go_num, Lib.hid (HW2.out.trans (HB8.out.mono HW2.out.size))⟩
                    case measure => simp [intOf]; omega
                · have he1 : (x.num == y.num) = false := beq_eq_false_iff_ne.2 he
                  have z0 := cell_regrown (HKX6.out.cell 8)
                  have z1 := cell_regrown (HKX6.out.cell 9)
                  have z2 := cell_regrown (HKY6.out.cell 8)
                  have z3 := cell_regrown (HKY6.out.cell 9)
                  have z4 := cell_regrown HXX.out.1
                  have z5 := cell_regrown HXX.out.2.1
                  have z6 := cell_regrown HXX.out.2.2
                  have z7 := cell_regrown HYY.out.1
                  have z8 := cell_regrown HYY.out.2.1
                  have z9 := cell_regrown HYY.out.2.2
                  go_wp2_with fail
                  refine wp_region_quiet_below (by kernel_rfl) (by kernel_rfl) ?_
                  repeat (first | go_big_quiet_step (fail) | quiet_step (fail))
                  refine wpQuiet_nil ?_
                  intro _ hwq
                  obtain ⟨⟨q, os⟩, hwq⟩ := hwq
                  subst hwq
                  have HR7 := Lib.hid (below_regrown w6 q os)
                  have y0 := cell_regrown ((HKX6.out.belowSelf HR7.out).cell 8)
                  have y1 := cell_regrown ((HKX6.out.belowSelf HR7.out).cell 9)
                  have y2 := cell_regrown ((HKY6.out.belowSelf HR7.out).cell 8)
                  have y3 := cell_regrown ((HKY6.out.belowSelf HR7.out).cell 9)
                  have y4 := cell_regrown ((HR7.out.cell HG6.out).trans HXX.out.1)
                  have y5 := cell_regrown ((HR7.out.cell HG6.out).trans HXX.out.2.1)
                  have y6 := cell_regrown ((HR7.out.cell HG6.out).trans HXX.out.2.2)
                  have y7 := cell_regrown ((HR7.out.cell HG6.out).trans HYY.out.1)
                  have y8 := cell_regrown ((HR7.out.cell HG6.out).trans HYY.out.2.1)
                  have y9 := cell_regrown ((HR7.out.cell HG6.out).trans HYY.out.2.2)
                  clear z0 z1 z2 z3 z4 z5 z6 z7 z8 z9
                  have HB7 := Lib.hid (HB6.out.trans (HR7.out.mono HB6.out.size))
                  clear HR7
                  generalize grow (redrawn w6 q) os = W7 at *
                  go_wp2_with fail
                  refine wp_region_quiet_below (by kernel_rfl) (by kernel_rfl) ?_
                  repeat (first | go_big_quiet_step (fail) | quiet_step (fail))
                  refine wpQuiet_nil ?_
                  intro _ hwq2
                  obtain ⟨⟨q2, os2⟩, hwq2⟩ := hwq2
                  subst hwq2
                  have HB8 := Lib.hid (HB7.out.trans ((below_regrown W7 q2 os2).mono HB7.out.size))
                  clear y0 y1 y2 y3 y4 y5 y6 y7 y8 y9
                  generalize grow (redrawn W7 q2) os2 = W8 at *
                  go_wp2_with fail
                  go_roundw
                  case rel => exact ⟨j + 1, by omega, by go_num, Lib.hid (HW2.out.trans (HB8.out.mono HW2.out.size))⟩
                  case measure => simp [intOf]; omega
            · have hv := HT.out.v rfl
              have hd : decide (vj ≤ vi) = false := decide_eq_false (by omega)
              have z0 := cell_regrown (HKX6.out.cell 8)
              have z1 := cell_regrown (HKX6.out.cell 9)
              have z2 := cell_regrown (HKY6.out.cell 8)
              have z3 := cell_regrown (HKY6.out.cell 9)
              have z4 := cell_regrown HXX.out.1
              have z5 := cell_regrown HXX.out.2.1
              have z6 := cell_regrown HXX.out.2.2
              have z7 := cell_regrown HYY.out.1
              have z8 := cell_regrown HYY.out.2.1
              have z9 := cell_regrown HYY.out.2.2
              go_wp2_with fail
              refine wp_region_quiet_below (by kernel_rfl) (by kernel_rfl) ?_
              repeat (first | go_big_quiet_step (fail) | quiet_step (fail))
              refine wpQuiet_nil ?_
              intro _ hwq
              obtain ⟨⟨q, os⟩, hwq⟩ := hwq
              subst hwq
              have HR7 := Lib.hid (below_regrown w6 q os)
              have y0 := cell_regrown ((HKX6.out.belowSelf HR7.out).cell 8)
              have y1 := cell_regrown ((HKX6.out.belowSelf HR7.out).cell 9)
              have y2 := cell_regrown ((HKY6.out.belowSelf HR7.out).cell 8)
              have y3 := cell_regrown ((HKY6.out.belowSelf HR7.out).cell 9)
              have y4 := cell_regrown ((HR7.out.cell HG6.out).trans HXX.out.1)
              have y5 := cell_regrown ((HR7.out.cell HG6.out).trans HXX.out.2.1)
              have y6 := cell_regrown ((HR7.out.cell HG6.out).trans HXX.out.2.2)
              have y7 := cell_regrown ((HR7.out.cell HG6.out).trans HYY.out.1)
              have y8 := cell_regrown ((HR7.out.cell HG6.out).trans HYY.out.2.1)
              have y9 := cell_regrown ((HR7.out.cell HG6.out).trans HYY.out.2.2)
              clear z0 z1 z2 z3 z4 z5 z6 z7 z8 z9
              have HB7 := Lib.hid (HB6.out.trans (HR7.out.mono HB6.out.size))
              clear HR7
              generalize grow (redrawn w6 q) os = W7 at *
              go_wp2_with fail
              refine wp_region_quiet_below (by kernel_rfl) (by kernel_rfl) ?_
              repeat (first | go_big_quiet_step (fail) | quiet_step (fail))
              refine wpQuiet_nil ?_
              intro _ hwq2
              obtain ⟨⟨q2, os2⟩, hwq2⟩ := hwq2
              subst hwq2
              have HB8 := Lib.hid (HB7.out.trans ((below_regrown W7 q2 os2).mono HB7.out.size))
              clear y0 y1 y2 y3 y4 y5 y6 y7 y8 y9
              generalize grow (redrawn W7 q2) os2 = W8 at *
              go_wp2_with fail
              go_roundw
              case rel => exact ⟨j + 1, by omega, by go_num, Lib.hid (HW2.out.trans (HB8.out.mono HW2.out.size))⟩
              case measure => simp [intOf]; omega
        · obtain rfl : j = xs.length := by omega
          go_wp2_with fail
          go_roundw
          case rel => exact ⟨k + 1, by omega, by go_num, Lib.hid (HWX.out.trans (HW2.out.mono HWX.out.size))⟩
          case measure => simp [intOf]; omega
    · obtain rfl : k = xs.length := by omega
      go_wp2_with fail
      go_ret
      exact ⟨rfl, HBW.out⟩
end Go.Proofs.YtkmoaeckabjgnaaDoor.V
