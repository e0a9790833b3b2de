/-
  The walks of ranks.Best and of the law RanksBest.
-/
import Derived.Test.YtkmoaeckabjgnaaDoorLKOrder
import Derived.Test.YtkmoaeckabjgnaaDoorKDocR
namespace Go.Proofs.YtkmoaeckabjgnaaDoor.V
set_option linter.unusedVariables false
set_option linter.unusedSimpArgs false
open Go Go.RowKit Go.Sort

/-- The first of those below k that are in P; -1 if there is none. -/
def bestTo (P : Nat → Bool) : Nat → Int
  | 0 => -1
  | k + 1 => if 0 ≤ bestTo P k then bestTo P k else if P k then (k : Int) else -1
theorem bestTo_cases (P : Nat → Bool) : ∀ k, bestTo P k = -1 ∨ (0 ≤ bestTo P k ∧ bestTo P k < k)
  | 0 => .inl rfl
  | k + 1 => by
    rw [bestTo]
    rcases bestTo_cases P k with h | h
    · rw [h, if_neg (by decide)]
      split
      · right; omega
      · left; rfl
    · rw [if_pos h.1]; right; omega
theorem bestTo_none {P : Nat → Bool} : ∀ k, (∀ j, j < k → P j = false) → bestTo P k = -1
  | 0, _ => rfl
  | k + 1, h => by rw [bestTo, bestTo_none k (fun j hj => h j (by omega)), h k (by omega)]; rfl
theorem bestTo_first {P : Nat → Bool} {i : Nat} (hi : P i = true) (h : ∀ j, j < i → P j = false) : ∀ k, i < k → bestTo P k = i := by
  intro k
  induction k with
  | zero => intro h; omega
  | succ k ih =>
    intro hk
    by_cases e : i = k
    · subst e
      rw [bestTo, bestTo_none i h, hi]; rfl
    · rw [bestTo, ih (by omega), if_pos (by omega)]
def bestP (xs : List Rcd) (on : List Bool) (nm : ByteArray) (i : Nat) : Bool := baseP xs on nm i && (((rankV xs on (recAt xs i) : Int) == 0) && ((rankN xs on (recAt xs i) : Int) == 0))

set_option maxHeartbeats 8000000 in
set_option maxRecDepth 100000 in
theorem Best_any (vr vo : Value) (nm : ByteArray) (xs : List Rcd) (on : List Bool) (B : Nat) (w : World) (hx : IsRcds w (Lt B) vr xs) (ho : IsBools w (Lt B) vo on) (hB : B ≤ w.heap.size) (hl : on.length = xs.length) (hcap : xs.length ≤ 60) :
    Calls Tryd.prog 17 #[vr, vo, .string nm] w fun e w' => e = .returned (.int .i64 (bestTo (bestP xs on nm) xs.length)) ∧ Below w.heap.size w w' := by
  obtain ⟨XA, xc, rfl, hxl, hxc⟩ := hx.form
  obtain ⟨OA, oc, rfl, hol, hoc⟩ := ho.form
  rw [hl] at ho ⊢
  have HX := Lib.hid hx
  have HO := Lib.hid ho
  have HL := Lib.hid hl
  clear hx ho hl hol
  go_enter Tryd.func17, Tryd.ntmps17
  go_wp2_with fail
  refine (ranksOf_any _ _ _ xs on [] B w HX.out HO.out (IsSl.nil _ _ _ _ _ _ (by decide)) hB HL.out hcap (by decide)).mono ?_
  rintro _ w1 ⟨⟨g, rfl, hr⟩, hb1⟩
  have HR := Lib.hid hr
  have HB1 := Lib.hid hb1
  clear hr hb1
  obtain ⟨wz, hwz⟩ : ∃ wz : World, wz = w1 := ⟨_, rfl⟩
  subst hwz
  go_wp2_with fail
  go_loopw [21] (fun i wr => ∃ k : Nat, k ≤ xs.length ∧ i = .int .i64 k ∧ Hid (∀ j, j < k → bestP xs on nm j = false) ∧ Hid (Below wz.heap.size wz wr)) (fun i _ => xs.length - (intOf i).toNat)
  case atStart => exact ⟨0, Nat.zero_le _, rfl, Lib.hid (fun j h => by omega), Lib.hid (Below.refl _ _)⟩
  case round =>
    obtain ⟨k, hk, rfl, HN, HW⟩ := hrel
    have HBW := Lib.hid (HB1.out.trans (HW.out.mono HB1.out.size))
    by_cases hlt : k < xs.length
    · obtain ⟨y, hy⟩ : ∃ y, xs[k]? = some y := ⟨_, List.getElem?_eq_getElem hlt⟩
      obtain ⟨ob, hob⟩ : ∃ ob, on[k]? = some ob := ⟨_, List.getElem?_eq_getElem (by rw [HL.out]; exact hlt)⟩
      obtain ⟨b, o, aA1, an1, ac1, aA2, an2, ac2, aA3, an3, ac3, aA4, an4, ac4, aA5, an5, ac5, rfl, hb, hrec, hrow⟩ := rcds_at HX.out hy
      obtain ⟨b2, o2, rfl, hb2, hcell⟩ := bools_at HO.out hob
      have HSM := Lib.hid ((Same.of_below HBW.out).mono hB)
      have hbr : b < wr.heap.size := by have h : b < B := hb; have := HBW.out.size; omega
      have hb2r : b2 < wr.heap.size := by have h : b2 < B := hb2; have := HBW.out.size; omega
      have qb : wr.cell? ⟨b2, o2 + k, none⟩ = some (.bool ob) := (HSM.out _ hb2).trans hcell
      have q0 : wr.cell? ⟨b, o + k * 13, none⟩ = some (.string y.chan) := (HSM.out _ hb).trans (hrow 0 _ rfl)
      have q1 : wr.cell? ⟨b, o + k * 13 + 1, none⟩ = some (.string y.file) := (HSM.out _ hb).trans (hrow 1 _ rfl)
      have q2 : wr.cell? ⟨b, o + k * 13 + 2, none⟩ = some (.string y.name) := (HSM.out _ hb).trans (hrow 2 _ rfl)
      have q3 : wr.cell? ⟨b, o + k * 13 + 3, none⟩ = some (.string y.text) := (HSM.out _ hb).trans (hrow 3 _ rfl)
      have q4 : wr.cell? ⟨b, o + k * 13 + 4, none⟩ = some (.int .i64 y.ver.epoch) := (HSM.out _ hb).trans (hrow 4 _ rfl)
      have q5 : wr.cell? ⟨b, o + k * 13 + 5, none⟩ = some (.slice aA1 an1 ac1) := (HSM.out _ hb).trans (hrow 5 _ rfl)
      have q6 : wr.cell? ⟨b, o + k * 13 + 6, none⟩ = some (.slice aA2 an2 ac2) := (HSM.out _ hb).trans (hrow 6 _ rfl)
      have q7 : wr.cell? ⟨b, o + k * 13 + 7, none⟩ = some (.string y.build) := (HSM.out _ hb).trans (hrow 7 _ rfl)
      have q8 : wr.cell? ⟨b, o + k * 13 + 8, none⟩ = some (.int .i64 y.num) := (HSM.out _ hb).trans (hrow 8 _ rfl)
      have q9 : wr.cell? ⟨b, o + k * 13 + 9, none⟩ = some (.int .i64 y.time) := (HSM.out _ hb).trans (hrow 9 _ rfl)
      have q10 : wr.cell? ⟨b, o + k * 13 + 10, none⟩ = some (.slice aA3 an3 ac3) := (HSM.out _ hb).trans (hrow 10 _ rfl)
      have q11 : wr.cell? ⟨b, o + k * 13 + 11, none⟩ = some (.slice aA4 an4 ac4) := (HSM.out _ hb).trans (hrow 11 _ rfl)
      have q12 : wr.cell? ⟨b, o + k * 13 + 12, none⟩ = some (.slice aA5 an5 ac5) := (HSM.out _ hb).trans (hrow 12 _ rfl)
      have HR6 := Lib.hid (HR.out.keepOn keepsRk (ok' := fun _ => True) (fun _ _ => trivial) (fun p hp => HW.out.cell hp.2))
      obtain ⟨hx0, hx1, _, _⟩ := rks_cells HR6.out (ranksL_at hy)
      have hgl : g < wr.heap.size := cell_lt hx0
      obtain ⟨va, hva⟩ : ∃ z : Int, z = (rankV xs on y : Int) := ⟨_, rfl⟩
      obtain ⟨na, hna⟩ : ∃ z : Int, z = (rankN xs on y : Int) := ⟨_, rfl⟩
      replace hx0 : wr.cell? ⟨g, k * 4, none⟩ = some (.int .i64 va) := hva ▸ hx0
      replace hx1 : wr.cell? ⟨g, k * 4 + 1, none⟩ = some (.int .i64 na) := hna ▸ hx1
      have HBP := Lib.hid (fun c (hn : (y.name.toList == nm.toList) = c) => (show bestP xs on nm k = ((ob && c) && ((va == 0) && (na == 0))) by
        unfold bestP
        rw [base_eq hy hob hn, recAt_of hy, hva, hna]))
      have HBX := Lib.hid (HW.out.trans ((news_alloc wr (.cells #[.string y.chan, .string y.file, .string y.name, .string y.text, .int .i64 y.ver.epoch, .slice aA1 an1 ac1, .slice aA2 an2 ac2, .string y.build, .int .i64 y.num, .int .i64 y.time, .slice aA3 an3 ac3, .slice aA4 an4 ac4, .slice aA5 an5 ac5] 37)).mono HW.out.size))
      have HBWX := Lib.hid (HB1.out.trans (HBX.out.mono HB1.out.size))
      clear hy hob hrec hrow hcell hva hna
      cases ob with
      | false =>
        have HP : Hid (bestP xs on nm k = false) := Lib.hid (by rw [HBP.out _ rfl]; rfl)
        go_wp2_with fail
        go_roundw
        case rel => exact ⟨k + 1, by omega, by go_num, Lib.hid (fun j hj => by
          by_cases e : j < k
          · exact HN.out j e
          · obtain rfl : j = k := by omega
            rw [HP.out]), HBX⟩
        case measure => simp [intOf]; omega
      | true =>
      cases hnm : (y.name.toList == nm.toList) with
      | false =>
        have HP : Hid (bestP xs on nm k = false) := Lib.hid (by rw [HBP.out _ hnm]; rfl)
        go_wp2_with fail
        go_roundw
        case rel => exact ⟨k + 1, by omega, by go_num, Lib.hid (fun j hj => by
          by_cases e : j < k
          · exact HN.out j e
          · obtain rfl : j = k := by omega
            rw [HP.out]), HBX⟩
        case measure => simp [intOf]; omega
      | true =>
      cases hv0 : (va == 0) with
      | false =>
        have HP : Hid (bestP xs on nm k = false) := Lib.hid (by rw [HBP.out _ hnm, hv0]; rfl)
        go_wp2_with fail
        go_roundw
        case rel => exact ⟨k + 1, by omega, by go_num, Lib.hid (fun j hj => by
          by_cases e : j < k
          · exact HN.out j e
          · obtain rfl : j = k := by omega
            rw [HP.out]), HBX⟩
        case measure => simp [intOf]; omega
      | true =>
      cases hn0 : (na == 0) with
      | false =>
        have HP : Hid (bestP xs on nm k = false) := Lib.hid (by rw [HBP.out _ hnm, hn0]; simp)
        go_wp2_with fail
        go_roundw
        case rel => exact ⟨k + 1, by omega, by go_num, Lib.hid (fun j hj => by
          by_cases e : j < k
          · exact HN.out j e
          · obtain rfl : j = k := by omega
            rw [HP.out]), HBX⟩
        case measure => simp [intOf]; omega
      | true =>
        have HP : Hid (bestP xs on nm k = true) := Lib.hid (by rw [HBP.out _ hnm, hv0, hn0]; rfl)
        have HBT := Lib.hid (bestTo_first HP.out HN.out xs.length hlt)
        go_wp2_with fail
        go_ret
        exact ⟨ret_int HBT.out.symm, HBWX.out⟩
    · obtain rfl : k = xs.length := by omega
      go_wp2_with fail
      go_ret
      exact ⟨ret_int (bestTo_none _ HN.out).symm, HBW.out⟩

theorem bestTo_step {P : Nat → Bool} {k : Nat} {z : Int} (hz : z = bestTo P k) {b : Bool} (hb : P k = b) : bestTo P (k + 1) = if 0 ≤ z then z else if b then (k : Int) else -1 := by rw [bestTo, hz, hb]

set_option maxHeartbeats 16000000 in
set_option maxRecDepth 100000 in
theorem kbest_any (vr vo : Value) (nm : ByteArray) (xs : List Rcd) (on : List Bool) (w : World) (u : TypeId) (ev : Value) (m : Int) (hE : Env w u ev m) (hx : IsRcds w (Lt w.heap.size) vr xs) (ho : IsBools w (Lt w.heap.size) vo on) (hs : nm.size ≤ 9223372036854775807) :
    Calls Tryd.prog 5 #[vr, vo, .string nm] w fun e w' => e = .returned (.bool true) ∧ Below w.heap.size w w' := by
  have HE := Lib.hid hE
  obtain ⟨XA, xc, rfl, hxl, hxc⟩ := hx.form
  obtain ⟨OA, oc, rfl, hol, hoc⟩ := ho.form
  have HX := Lib.hid hx
  have HO := Lib.hid ho
  clear hE hx ho
  go_enter Tryd.func5, Tryd.ntmps5
  go_wp2_with fail
  refine (alive12_any w u ev m HE.out).mono ?_
  rintro e w1 ⟨rfl, hb1⟩
  have HB1 := Lib.hid hb1
  clear hb1
  go_wp2_with fail
  refine (BigAll_any _ xs 60 w.heap.size w1 (HX.out.keep keepsRcd (Nat.le_refl _) (Same.of_below HB1.out)) HB1.out.size).mono ?_
  rintro e w2 ⟨⟨bb, rfl, hbig⟩, hb2⟩
  have HB2 := Lib.hid (HB1.out.trans (hb2.mono HB1.out.size))
  have HBIG := Lib.hid hbig
  clear hb2 hbig
  cases bb with
  | true =>
    go_wp2_with fail
    go_ret
    exact ⟨rfl, HB2.out⟩
  | false =>
  have h60 : (xs.length : Int) ≤ 60 := HBIG.out rfl
  by_cases hl : on.length = xs.length
  rotate_left
  · have hl1 : ((on.length : Int) == (xs.length : Int)) = false := by simp; omega
    have hl2 : ((on.length : Int) != (xs.length : Int)) = true := by simp; omega
    go_wp2_with fail
    go_ret
    exact ⟨rfl, HB2.out⟩
  rw [hl] at HO ⊢
  have HL := Lib.hid hl
  clear hl hol
  by_cases h200 : 200 < nm.size
  · have d200 : decide ((200 : Int) < (nm.size : Int)) = true := decide_eq_true (by omega)
    go_wp2_with fail
    go_ret
    exact ⟨rfl, HB2.out⟩
  have d200 : decide ((200 : Int) < (nm.size : Int)) = false := decide_eq_false (by omega)
  obtain ⟨wz, hwz⟩ : ∃ wz : World, wz = w2 := ⟨_, rfl⟩
  subst hwz
  go_wp2_with fail
  go_loopw [7, 29] (fun v i wr => ∃ (k : Nat) (z : Int), k ≤ xs.length ∧ i = .int .i64 k ∧ v = .int .i64 z ∧ Hid (z = bestTo (bestP xs on nm) k) ∧ Hid (Below wz.heap.size wz wr)) (fun _ i _ => xs.length - (intOf i).toNat)
  case atStart => exact ⟨0, -1, Nat.zero_le _, rfl, rfl, Lib.hid rfl, Lib.hid (Below.refl _ _)⟩
  case round =>
    obtain ⟨k, z, hk, rfl, rfl, HZ, HW⟩ := hrel
    obtain ⟨wb, hwb⟩ : ∃ wb : World, wb = wr := ⟨_, rfl⟩
    subst hwb
    have HBW := Lib.hid (HB2.out.trans (HW.out.mono HB2.out.size))
    by_cases hlt : k < xs.length
    · obtain ⟨y, hy⟩ : ∃ y, xs[k]? = some y := ⟨_, List.getElem?_eq_getElem hlt⟩
      obtain ⟨ob, hob⟩ : ∃ ob, on[k]? = some ob := ⟨_, List.getElem?_eq_getElem (by rw [HL.out]; exact hlt)⟩
      obtain ⟨b, o, aA1, an1, ac1, aA2, an2, ac2, aA3, an3, ac3, aA4, an4, ac4, aA5, an5, ac5, rfl, hb, hrec, hrow⟩ := rcds_at HX.out hy
      obtain ⟨b2, o2, rfl, hb2, hcell⟩ := bools_at HO.out hob
      have HSM := Lib.hid (Same.of_below HBW.out)
      have hbr : b < wb.heap.size := by have h : b < w.heap.size := hb; have := HBW.out.size; omega
      have hb2r : b2 < wb.heap.size := by have h : b2 < w.heap.size := hb2; have := HBW.out.size; omega
      have qb : wb.cell? ⟨b2, o2 + k, none⟩ = some (.bool ob) := (HSM.out _ hb2).trans hcell
      have q0 : wb.cell? ⟨b, o + k * 13, none⟩ = some (.string y.chan) := (HSM.out _ hb).trans (hrow 0 _ rfl)
      have q1 : wb.cell? ⟨b, o + k * 13 + 1, none⟩ = some (.string y.file) := (HSM.out _ hb).trans (hrow 1 _ rfl)
      have q2 : wb.cell? ⟨b, o + k * 13 + 2, none⟩ = some (.string y.name) := (HSM.out _ hb).trans (hrow 2 _ rfl)
      have q3 : wb.cell? ⟨b, o + k * 13 + 3, none⟩ = some (.string y.text) := (HSM.out _ hb).trans (hrow 3 _ rfl)
      have q4 : wb.cell? ⟨b, o + k * 13 + 4, none⟩ = some (.int .i64 y.ver.epoch) := (HSM.out _ hb).trans (hrow 4 _ rfl)
      have q5 : wb.cell? ⟨b, o + k * 13 + 5, none⟩ = some (.slice aA1 an1 ac1) := (HSM.out _ hb).trans (hrow 5 _ rfl)
      have q6 : wb.cell? ⟨b, o + k * 13 + 6, none⟩ = some (.slice aA2 an2 ac2) := (HSM.out _ hb).trans (hrow 6 _ rfl)
      have q7 : wb.cell? ⟨b, o + k * 13 + 7, none⟩ = some (.string y.build) := (HSM.out _ hb).trans (hrow 7 _ rfl)
      have q8 : wb.cell? ⟨b, o + k * 13 + 8, none⟩ = some (.int .i64 y.num) := (HSM.out _ hb).trans (hrow 8 _ rfl)
      have q9 : wb.cell? ⟨b, o + k * 13 + 9, none⟩ = some (.int .i64 y.time) := (HSM.out _ hb).trans (hrow 9 _ rfl)
      have q10 : wb.cell? ⟨b, o + k * 13 + 10, none⟩ = some (.slice aA3 an3 ac3) := (HSM.out _ hb).trans (hrow 10 _ rfl)
      have q11 : wb.cell? ⟨b, o + k * 13 + 11, none⟩ = some (.slice aA4 an4 ac4) := (HSM.out _ hb).trans (hrow 11 _ rfl)
      have q12 : wb.cell? ⟨b, o + k * 13 + 12, none⟩ = some (.slice aA5 an5 ac5) := (HSM.out _ hb).trans (hrow 12 _ rfl)
      have HREC : Hid (IsRcd w (Lt w.heap.size) (.agg #[.string y.chan, .string y.file, .string y.name, .string y.text, .int .i64 y.ver.epoch, .slice aA1 an1 ac1, .slice aA2 an2 ac2, .string y.build, .int .i64 y.num, .int .i64 y.time, .slice aA3 an3 ac3, .slice aA4 an4 ac4, .slice aA5 an5 ac5]) y) := Lib.hid ⟨_, _, _, _, _, rfl, hrec⟩
      have HYK := Lib.hid hy
      have HBS := Lib.hid (fun c (hn : (y.name.toList == nm.toList) = c) => base_eq (nm := nm) hy hob hn)
      have HBX := Lib.hid (HW.out.trans ((news_alloc wb (.cells #[.string y.chan, .string y.file, .string y.name, .string y.text, .int .i64 y.ver.epoch, .slice aA1 an1 ac1, .slice aA2 an2 ac2, .string y.build, .int .i64 y.num, .int .i64 y.time, .slice aA3 an3 ac3, .slice aA4 an4 ac4, .slice aA5 an5 ac5] 37)).mono HW.out.size))
      have HBXX := Lib.hid (HB2.out.trans (HBX.out.mono HB2.out.size))
      clear hy hob hrec hrow hcell
      have HBC := Lib.hid (bestTo_cases (bestP xs on nm) k)
      rw [← HZ.out] at HBC
      cases ob with
      | false =>
        have HP := Lib.hid (bestTo_step HZ.out (b := false) (by unfold bestP; rw [HBS.out _ rfl]; rfl))
        go_wp2_with fail
        go_roundw
        case rel => exact ⟨k + 1, z, by omega, by go_num, rfl, Lib.hid (by rw [HP.out]; rcases HBC.out with h | h <;> simp <;> omega), HBX⟩
        case measure => simp [intOf]; omega
      | true =>
      cases hnm : (y.name.toList == nm.toList) with
      | false =>
        have HP := Lib.hid (bestTo_step HZ.out (b := false) (by unfold bestP; rw [HBS.out _ hnm]; rfl))
        go_wp2_with fail
        go_roundw
        case rel => exact ⟨k + 1, z, by omega, by go_num, rfl, Lib.hid (by rw [HP.out]; rcases HBC.out with h | h <;> simp <;> omega), HBX⟩
        case measure => simp [intOf]; omega
      | true =>
        go_wp2_with fail
        clear q0 q1 q2 q3 q4 q5 q6 q7 q8 q9 q10 q11 q12 qb
        refine (dRank_any _ _ _ _ xs on [] y w.heap.size _ (HX.out.keep keepsRcd (Nat.le_refl _) (Same.of_below HBXX.out)) (HO.out.keep keepsBool (Nat.le_refl _) (Same.of_below HBXX.out)) (IsSl.nil _ _ _ _ _ _ (by decide)) (HREC.out.keep (Nat.le_refl _) (Same.of_below HBXX.out)) HBXX.out.size HL.out (by omega)).mono ?_
        rintro e w5 ⟨rfl, hb5⟩
        have HB5 := Lib.hid (HBX.out.trans (hb5.mono HBX.out.size))
        clear hb5
        obtain ⟨va, hva⟩ : ∃ q : Int, q = (rankV xs on y : Int) := ⟨_, rfl⟩
        obtain ⟨na, hna⟩ : ∃ q : Int, q = (rankN xs on y : Int) := ⟨_, rfl⟩
        obtain ⟨ta, hta⟩ : ∃ q : Int, q = (rankT xs on y : Int) := ⟨_, rfl⟩
        obtain ⟨pa, hpa⟩ : ∃ q : Int, q = (placeL [] y.chan : Int) := ⟨_, rfl⟩
        rw [← hva, ← hna, ← hta, ← hpa]
        have HST := Lib.hid (fun b (h : ((va == 0) && (na == 0)) = b) => bestTo_step HZ.out (b := b) (by
          unfold bestP
          rw [HBS.out _ hnm, recAt_of HYK.out, ← hva, ← hna, h]
          rfl))
        have HB6 := Lib.hid (HB5.out.trans ((news_alloc w5 (.cells #[.int .i64 va, .int .i64 na, .int .i64 pa, .int .i64 ta] 40)).mono HB5.out.size))
        clear hva hna hta hpa
        rcases HBC.out with rfl | hzz
        · cases hv0 : (va == 0) with
          | false =>
            have HP := Lib.hid (HST.out false (by rw [hv0]; rfl))
            go_wp2_with fail
            go_roundw
            case rel => exact ⟨k + 1, -1, by omega, by go_num, rfl, Lib.hid (by rw [HP.out]; rfl), HB6⟩
            case measure => simp [intOf]; omega
          | true =>
            cases hn0 : (na == 0) with
            | false =>
              have HP := Lib.hid (HST.out false (by rw [hn0]; simp))
              go_wp2_with fail
              go_roundw
              case rel => exact ⟨k + 1, -1, by omega, by go_num, rfl, Lib.hid (by rw [HP.out]; rfl), HB6⟩
              case measure => simp [intOf]; omega
            | true =>
              have HP := Lib.hid (HST.out true (by rw [hv0, hn0]; rfl))
              go_wp2_with fail
              go_roundw
              case rel => exact ⟨k + 1, (k : Int), by omega, by go_num, rfl, Lib.hid (by rw [HP.out]; rfl), HB6⟩
              case measure => simp [intOf]; omega
        · have dz : decide (z < 0) = false := decide_eq_false (by omega)
          obtain ⟨pb, hpb⟩ : ∃ pb, ((va == 0) && (na == 0)) = pb := ⟨_, rfl⟩
          have HP := Lib.hid (HST.out pb hpb)
          clear hpb
          go_wp2_with fail
          go_roundw
          case rel => exact ⟨k + 1, z, by omega, by go_num, rfl, Lib.hid (by rw [HP.out, if_pos hzz.1]), HB6⟩
          case measure => simp [intOf]; omega
    · obtain rfl : k = xs.length := by omega
      have HBT := Lib.hid (Best_any _ _ nm xs on w.heap.size wb (HX.out.keep keepsRcd (Nat.le_refl _) (Same.of_below HBW.out)) (HO.out.keep keepsBool (Nat.le_refl _) (Same.of_below HBW.out)) HBW.out.size HL.out (by omega))
      rw [← HZ.out] at HBT
      go_wp2_with fail
      refine HBT.out.mono ?_
      rintro e w5 ⟨rfl, hb5⟩
      have HB5 := Lib.hid (HBW.out.trans (hb5.mono HBW.out.size))
      clear hb5
      go_wp2_with fail
      go_ret
      exact ⟨ret_bool (by simp), HB5.out⟩
end Go.Proofs.YtkmoaeckabjgnaaDoor.V
