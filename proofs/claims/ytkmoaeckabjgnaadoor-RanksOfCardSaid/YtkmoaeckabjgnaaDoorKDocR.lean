/-
  The walk of the document's Rank.
-/
import Derived.Test.YtkmoaeckabjgnaaDoorKDoc
import Derived.Test.YtkmoaeckabjgnaaDoorKOf
namespace Go.Proofs.YtkmoaeckabjgnaaDoor.V
set_option linter.unusedVariables false
set_option linter.unusedSimpArgs false
open Go Go.RowKit Go.Sort

theorem IsRcd.ver_of {w : World} {ok : Nat → Prop} {x : Rcd} {p l d c f : Value} (h : IsRcd w ok (.agg #[.string x.chan, .string x.file, .string x.name, .string x.text, .int .i64 x.ver.epoch, p, l, .string x.build, .int .i64 x.num, .int .i64 x.time, d, c, f]) x) : IsVer w ok (.agg #[.int .i64 x.ver.epoch, p, l]) x.ver := by
  obtain ⟨p', l', d', c', f', he, hr⟩ := h
  injection he with he
  have h2 := congrArg Array.toList he
  simp at h2
  obtain ⟨rfl, rfl, rfl, rfl, rfl⟩ := h2
  exact hr.ver
/-- The document's counts of the first k. -/
def docC (xs : List Rcd) (on : List Bool) (r : Rcd) (k : Nat) : Array Value := #[.int .i64 (cnt (docV xs on r) k), .int .i64 (cnt (docN xs on r) k), .int .i64 0, .int .i64 (cnt (docT xs on r) k)]
theorem docC_eq {xs : List Rcd} {on : List Bool} {r : Rcd} {k : Nat} {a b c : Bool} (hV : docV xs on r k = a) (hN : docN xs on r k = b) (hT : docT xs on r k = c) :
    docC xs on r (k + 1) = #[.int .i64 ((cnt (docV xs on r) k + if a then 1 else 0 : Nat) : Int), .int .i64 ((cnt (docN xs on r) k + if b then 1 else 0 : Nat) : Int), .int .i64 0, .int .i64 ((cnt (docT xs on r) k + if c then 1 else 0 : Nat) : Int)] := by
  unfold docC
  rw [cnt, cnt, cnt, hV, hN, hT]
theorem base_eq {xs : List Rcd} {on : List Bool} {nm : ByteArray} {k : Nat} {x : Rcd} {b c : Bool} (hx : xs[k]? = some x) (hb : on[k]? = some b) (hn : (x.name.toList == nm.toList) = c) : baseP xs on nm k = (b && c) := by
  have h1 : recAt xs k = x := by simp [recAt, List.getD, hx]
  unfold baseP
  rw [h1, nm_on (y := c) hn]
  simp [List.getD, hb]

set_option maxHeartbeats 16000000 in
set_option maxRecDepth 100000 in
theorem dRank_any (vr vo vc vx : Value) (xs : List Rcd) (on : List Bool) (ch : List ByteArray) (r : Rcd) (B : Nat) (w : World)
    (hx : IsRcds w (Lt B) vr xs) (ho : IsBools w (Lt B) vo on) (hc : IsStrs w (Lt B) vc ch) (hv : IsRcd w (Lt B) vx r) (hB : B ≤ w.heap.size) (hl : on.length = xs.length) (hcap : xs.length ≤ 100000) :
    Calls Tryd.prog 16 #[vr, vo, vc, vx] w fun e w' => e = .returned (.agg #[.int .i64 (rankV xs on r), .int .i64 (rankN xs on r), .int .i64 (placeL ch r.chan), .int .i64 (rankT xs on r)]) ∧ Below w.heap.size w w' := by
  obtain ⟨rA1, rn1, rc1, rA2, rn2, rc2, rA3, rn3, rc3, rA4, rn4, rc4, rA5, rn5, rc5, rfl, hr⟩ := hv.cells
  obtain ⟨XA, xc, rfl, hxl, hxc⟩ := hx.form
  obtain ⟨OA, oc, rfl, hol, hoc⟩ := ho.form
  obtain ⟨CA, cc, rfl, hcl, hcc⟩ := hc.form
  rw [hl] at ho ⊢
  have HX := Lib.hid hx
  have HO := Lib.hid ho
  have HC := Lib.hid hc
  have HR := Lib.hid hr
  have HL := Lib.hid hl
  clear hx ho hc hv hr hl hol
  obtain ⟨W0, HW0⟩ : ∃ W0 : World, Hid ((((w.alloc (.cells #[.string r.chan, .string r.file, .string r.name, .string r.text, .int .i64 r.ver.epoch, .slice rA1 rn1 rc1, .slice rA2 rn2 rc2, .string r.build, .int .i64 r.num, .int .i64 r.time, .slice rA3 rn3 rc3, .slice rA4 rn4 rc4, .slice rA5 rn5 rc5] 37)).alloc (.cells #[.int .i64 0, .int .i64 0, .int .i64 0, .int .i64 0] 40)).alloc (.cells #[.int .i64 0, .int .i64 0, .int .i64 0, .int .i64 0] 40)) = W0) := ⟨_, Lib.hid rfl⟩
  have HK0 : Hid (Blk W0 w.heap.size 37 #[.string r.chan, .string r.file, .string r.name, .string r.text, .int .i64 r.ver.epoch, .slice rA1 rn1 rc1, .slice rA2 rn2 rc2, .string r.build, .int .i64 r.num, .int .i64 r.time, .slice rA3 rn3 rc3, .slice rA4 rn4 rc4, .slice rA5 rn5 rc5]) := Lib.hid (HW0.out ▸ ((Blk.new w _ _).alloc _).alloc _)
  have HK1 : Hid (Blk W0 (w.heap.size + 1) 40 #[.int .i64 0, .int .i64 0, .int .i64 0, .int .i64 0]) := Lib.hid (HW0.out ▸ (by
    have h := (Blk.new (w.alloc (.cells #[.string r.chan, .string r.file, .string r.name, .string r.text, .int .i64 r.ver.epoch, .slice rA1 rn1 rc1, .slice rA2 rn2 rc2, .string r.build, .int .i64 r.num, .int .i64 r.time, .slice rA3 rn3 rc3, .slice rA4 rn4 rc4, .slice rA5 rn5 rc5] 37)) 40 #[.int .i64 0, .int .i64 0, .int .i64 0, .int .i64 0]).alloc (.cells #[.int .i64 0, .int .i64 0, .int .i64 0, .int .i64 0] 40)
    rw [size_alloc] at h
    exact h))
  have HK2 : Hid (Blk W0 (w.heap.size + 1 + 1) 40 #[.int .i64 0, .int .i64 0, .int .i64 0, .int .i64 0]) := Lib.hid (HW0.out ▸ (by
    have h := Blk.new ((w.alloc (.cells #[.string r.chan, .string r.file, .string r.name, .string r.text, .int .i64 r.ver.epoch, .slice rA1 rn1 rc1, .slice rA2 rn2 rc2, .string r.build, .int .i64 r.num, .int .i64 r.time, .slice rA3 rn3 rc3, .slice rA4 rn4 rc4, .slice rA5 rn5 rc5] 37)).alloc (.cells #[.int .i64 0, .int .i64 0, .int .i64 0, .int .i64 0] 40)) 40 #[.int .i64 0, .int .i64 0, .int .i64 0, .int .i64 0]
    rw [size_alloc, size_alloc] at h
    exact h))
  have HB0 : Hid (Below w.heap.size w W0) := Lib.hid (HW0.out ▸ ((((Below.refl _ _).alloc (Nat.le_refl _) _).alloc (by simp) _).alloc (by simp; omega) _))
  have HS0 := Lib.hid ((Same.of_below HB0.out).mono hB)
  have HX0 := Lib.hid (HX.out.keep keepsRcd hB HS0.out)
  have HO0 := Lib.hid (HO.out.keep keepsBool hB HS0.out)
  have HR0 := Lib.hid (HR.out.keep hB HS0.out)
  have HC0 := Lib.hid (HC.out.keep keepsStr hB HS0.out)
  clear HX HO HR HC
  go_enter Tryd.func16, Tryd.ntmps16
  go_wp2_with fail
  rw [HW0.out]
  go_loopw [22] (fun i wr => ∃ k : Nat, k ≤ xs.length ∧ i = .int .i64 k ∧ Hid (Blk wr (w.heap.size + 1 + 1) 40 (docC xs on r k)) ∧ Hid (Below (w.heap.size + 1 + 1) W0 wr)) (fun i _ => xs.length - (intOf i).toNat)
  case atStart => exact ⟨0, Nat.zero_le _, rfl, HK2, Lib.hid (Below.refl _ _)⟩
  case round =>
    obtain ⟨k, hk, rfl, HT, HW⟩ := hrel
    obtain ⟨wb, hwb⟩ : ∃ wb : World, wb = wr := ⟨_, rfl⟩
    subst hwb
    have HSM : Hid (Same w.heap.size W0 wb) := Lib.hid ((Same.of_below HW.out).mono (by omega))
    have HG := Lib.hid HT.out.lt
    have HKR : Hid (Blk wb w.heap.size 37 #[.string r.chan, .string r.file, .string r.name, .string r.text, .int .i64 r.ver.epoch, .slice rA1 rn1 rc1, .slice rA2 rn2 rc2, .string r.build, .int .i64 r.num, .int .i64 r.time, .slice rA3 rn3 rc3, .slice rA4 rn4 rc4, .slice rA5 rn5 rc5]) := Lib.hid (HK0.out.below HW.out (by omega))
    by_cases hlt : k < xs.length
    · obtain ⟨y, hy⟩ : ∃ y, xs[k]? = some y := ⟨_, List.getElem?_eq_getElem hlt⟩
      obtain ⟨ob, hob⟩ : ∃ ob, on[k]? = some ob := ⟨_, List.getElem?_eq_getElem (by rw [HL.out]; exact hlt)⟩
      obtain ⟨b, o, aA1, an1, ac1, aA2, an2, ac2, aA3, an3, ac3, aA4, an4, ac4, aA5, an5, ac5, rfl, hb, hrec, hrow⟩ := rcds_at HX0.out hy
      obtain ⟨b2, o2, rfl, hb2, hcell⟩ := bools_at HO0.out hob
      have hbr : b < wb.heap.size := by have := HG.out; have h : b < w.heap.size := hb; omega
      have hb2r : b2 < wb.heap.size := by have := HG.out; have h : b2 < w.heap.size := hb2; omega
      have hgr : w.heap.size < wb.heap.size := by have := HG.out; omega
      have qb : wb.cell? ⟨b2, o2 + k, none⟩ = some (.bool ob) := (HSM.out _ hb2).trans hcell
      have q0 : wb.cell? ⟨b, o + k * 13, none⟩ = some (.string y.chan) := (HSM.out _ hb).trans (hrow 0 _ rfl)
      have q1 : wb.cell? ⟨b, o + k * 13 + 1, none⟩ = some (.string y.file) := (HSM.out _ hb).trans (hrow 1 _ rfl)
      have q2 : wb.cell? ⟨b, o + k * 13 + 2, none⟩ = some (.string y.name) := (HSM.out _ hb).trans (hrow 2 _ rfl)
      have q3 : wb.cell? ⟨b, o + k * 13 + 3, none⟩ = some (.string y.text) := (HSM.out _ hb).trans (hrow 3 _ rfl)
      have q4 : wb.cell? ⟨b, o + k * 13 + 4, none⟩ = some (.int .i64 y.ver.epoch) := (HSM.out _ hb).trans (hrow 4 _ rfl)
      have q5 : wb.cell? ⟨b, o + k * 13 + 5, none⟩ = some (.slice aA1 an1 ac1) := (HSM.out _ hb).trans (hrow 5 _ rfl)
      have q6 : wb.cell? ⟨b, o + k * 13 + 6, none⟩ = some (.slice aA2 an2 ac2) := (HSM.out _ hb).trans (hrow 6 _ rfl)
      have q7 : wb.cell? ⟨b, o + k * 13 + 7, none⟩ = some (.string y.build) := (HSM.out _ hb).trans (hrow 7 _ rfl)
      have q8 : wb.cell? ⟨b, o + k * 13 + 8, none⟩ = some (.int .i64 y.num) := (HSM.out _ hb).trans (hrow 8 _ rfl)
      have q9 : wb.cell? ⟨b, o + k * 13 + 9, none⟩ = some (.int .i64 y.time) := (HSM.out _ hb).trans (hrow 9 _ rfl)
      have q10 : wb.cell? ⟨b, o + k * 13 + 10, none⟩ = some (.slice aA3 an3 ac3) := (HSM.out _ hb).trans (hrow 10 _ rfl)
      have q11 : wb.cell? ⟨b, o + k * 13 + 11, none⟩ = some (.slice aA4 an4 ac4) := (HSM.out _ hb).trans (hrow 11 _ rfl)
      have q12 : wb.cell? ⟨b, o + k * 13 + 12, none⟩ = some (.slice aA5 an5 ac5) := (HSM.out _ hb).trans (hrow 12 _ rfl)
      have r2 := HKR.out.cell 2
      have HBX := Lib.hid (news_alloc wb (.cells #[.string y.chan, .string y.file, .string y.name, .string y.text, .int .i64 y.ver.epoch, .slice aA1 an1 ac1, .slice aA2 an2 ac2, .string y.build, .int .i64 y.num, .int .i64 y.time, .slice aA3 an3 ac3, .slice aA4 an4 ac4, .slice aA5 an5 ac5] 37))
      have HKY := Lib.hid (Blk.new wb 37 #[.string y.chan, .string y.file, .string y.name, .string y.text, .int .i64 y.ver.epoch, .slice aA1 an1 ac1, .slice aA2 an2 ac2, .string y.build, .int .i64 y.num, .int .i64 y.time, .slice aA3 an3 ac3, .slice aA4 an4 ac4, .slice aA5 an5 ac5])
      have HREC : Hid (IsRcd W0 (Lt w.heap.size) (.agg #[.string y.chan, .string y.file, .string y.name, .string y.text, .int .i64 y.ver.epoch, .slice aA1 an1 ac1, .slice aA2 an2 ac2, .string y.build, .int .i64 y.num, .int .i64 y.time, .slice aA3 an3 ac3, .slice aA4 an4 ac4, .slice aA5 an5 ac5]) y) := Lib.hid ⟨_, _, _, _, _, rfl, hrec⟩
      have HYK := Lib.hid hy
      have HBS := Lib.hid (fun c (hn : (y.name.toList == r.name.toList) = c) => base_eq (nm := r.name) hy hob hn)
      clear hy hob hrec hrow hcell
      cases ob with
      | false =>
        have HN : Hid (docC xs on r (k + 1) = docC xs on r k) := Lib.hid (by
          have hb := HBS.out _ rfl
          rw [docC_eq (a := false) (b := false) (c := false) (by rw [docV_at HYK.out, hb]; rfl) (by rw [docN_at HYK.out, hb]; rfl) (by rw [docT_at HYK.out, hb]; rfl)]
          rfl)
        go_wp2_with fail
        go_roundw
        case rel => exact ⟨k + 1, by omega, by go_num, Lib.hid (by rw [HN.out]; exact HT.out.alloc _), Lib.hid (HW.out.trans (HBX.out.mono (Nat.le_of_lt HG.out)))⟩
        case measure => simp [intOf]; omega
      | true =>
      cases hnm : (y.name.toList == r.name.toList) with
      | false =>
        have HN : Hid (docC xs on r (k + 1) = docC xs on r k) := Lib.hid (by
          have hb := HBS.out _ hnm
          rw [docC_eq (a := false) (b := false) (c := false) (by rw [docV_at HYK.out, hb]; rfl) (by rw [docN_at HYK.out, hb]; rfl) (by rw [docT_at HYK.out, hb]; rfl)]
          rfl)
        go_wp2_with fail
        go_roundw
        case rel => exact ⟨k + 1, by omega, by go_num, Lib.hid (by rw [HN.out]; exact HT.out.alloc _), Lib.hid (HW.out.trans (HBX.out.mono (Nat.le_of_lt HG.out)))⟩
        case measure => simp [intOf]; omega
      | true =>
      have HBS1 : Hid (baseP xs on r.name k = true) := Lib.hid (HBS.out _ hnm)
      go_wp2_with fail
      clear q0 q1 q2 q3 q4 q5 q6 q7 q8 q9 q10 q11 q12 qb r2
      have HTY := Lib.hid (HT.out.alloc (.cells #[.string y.chan, .string y.file, .string y.name, .string y.text, .int .i64 y.ver.epoch, .slice aA1 an1 ac1, .slice aA2 an2 ac2, .string y.build, .int .i64 y.num, .int .i64 y.time, .slice aA3 an3 ac3, .slice aA4 an4 ac4, .slice aA5 an5 ac5] 37))
      have HKRY := Lib.hid (HKR.out.alloc (.cells #[.string y.chan, .string y.file, .string y.name, .string y.text, .int .i64 y.ver.epoch, .slice aA1 an1 ac1, .slice aA2 an2 ac2, .string y.build, .int .i64 y.num, .int .i64 y.time, .slice aA3 an3 ac3, .slice aA4 an4 ac4, .slice aA5 an5 ac5] 37))
      have HWY : Hid (Below (w.heap.size + 1 + 1) W0 (wb.alloc (.cells #[.string y.chan, .string y.file, .string y.name, .string y.text, .int .i64 y.ver.epoch, .slice aA1 an1 ac1, .slice aA2 an2 ac2, .string y.build, .int .i64 y.num, .int .i64 y.time, .slice aA3 an3 ac3, .slice aA4 an4 ac4, .slice aA5 an5 ac5] 37))) := Lib.hid (HW.out.trans (HBX.out.mono (Nat.le_of_lt HG.out)))
      generalize wb.alloc (.cells #[.string y.chan, .string y.file, .string y.name, .string y.text, .int .i64 y.ver.epoch, .slice aA1 an1 ac1, .slice aA2 an2 ac2, .string y.build, .int .i64 y.num, .int .i64 y.time, .slice aA3 an3 ac3, .slice aA4 an4 ac4, .slice aA5 an5 ac5] 37) = WY at *
      go_loopw [12, 13, 14, 43] (fun a12 a13 a14 i wr => ∃ j : Nat, j ≤ k ∧ i = .int .i64 j ∧ a12 = .bool (noneTo xs on y eqAll j) ∧ a13 = .bool (noneTo xs on y eqNum j) ∧ a14 = .bool (noneTo xs on y eqNT j) ∧ Hid (Below WY.heap.size WY wr)) (fun _ _ _ i _ => k - (intOf i).toNat)
      case atStart => exact ⟨0, Nat.zero_le _, rfl, rfl, rfl, rfl, Lib.hid (Below.refl _ _)⟩
      case round =>
        obtain ⟨j, hj, rfl, rfl, rfl, rfl, HW2⟩ := hrel
        have HGT := Lib.hid HTY.out.lt
        have HWR : Hid (Below (w.heap.size + 1 + 1) W0 wr) := Lib.hid (HWY.out.trans (HW2.out.mono (Nat.le_of_lt HGT.out)))
        have HSMz : Hid (Same w.heap.size W0 wr) := Lib.hid ((Same.of_below HWR.out).mono (by omega))
        have HKYr := Lib.hid (HKY.out.belowSelf HW2.out)
        have hyl : wb.heap.size < wr.heap.size := HKYr.out.lt
        by_cases hjk : j < k
        · obtain ⟨z, hz⟩ : ∃ z, xs[j]? = some z := ⟨_, List.getElem?_eq_getElem (by omega)⟩
          obtain ⟨oz, hoz⟩ : ∃ oz, on[j]? = some oz := ⟨_, List.getElem?_eq_getElem (by rw [HL.out]; omega)⟩
          obtain ⟨b', o', cA1, cn1, cc1, cA2, cn2, cc2, cA3, cn3, cc3, cA4, cn4, cc4, cA5, cn5, cc5, hbe, hb', hrec', hrow'⟩ := rcds_at HX0.out hz
          obtain ⟨rfl, rfl⟩ : b = b' ∧ o = o' := by injection hbe with h; injection h with h1 h2; exact ⟨h1, h2⟩
          obtain ⟨b2', o2', hbe2, hb2', hcell'⟩ := bools_at HO0.out hoz
          obtain ⟨rfl, rfl⟩ : b2 = b2' ∧ o2 = o2' := by injection hbe2 with h; injection h with h1 h2; exact ⟨h1, h2⟩
          have hbz : b < wr.heap.size := by have h : b < w.heap.size := hb; have := HGT.out; have := HW2.out.size; omega
          have hb2z : b2 < wr.heap.size := by have h : b2 < w.heap.size := hb2; have := HGT.out; have := HW2.out.size; omega
          have eb : wr.cell? ⟨b2, o2 + j, none⟩ = some (.bool oz) := (HSMz.out _ hb2').trans hcell'
          have p0 : wr.cell? ⟨b, o + j * 13, none⟩ = some (.string z.chan) := (HSMz.out _ hb').trans (hrow' 0 _ rfl)
          have p1 : wr.cell? ⟨b, o + j * 13 + 1, none⟩ = some (.string z.file) := (HSMz.out _ hb').trans (hrow' 1 _ rfl)
          have p2 : wr.cell? ⟨b, o + j * 13 + 2, none⟩ = some (.string z.name) := (HSMz.out _ hb').trans (hrow' 2 _ rfl)
          have p3 : wr.cell? ⟨b, o + j * 13 + 3, none⟩ = some (.string z.text) := (HSMz.out _ hb').trans (hrow' 3 _ rfl)
          have p4 : wr.cell? ⟨b, o + j * 13 + 4, none⟩ = some (.int .i64 z.ver.epoch) := (HSMz.out _ hb').trans (hrow' 4 _ rfl)
          have p5 : wr.cell? ⟨b, o + j * 13 + 5, none⟩ = some (.slice cA1 cn1 cc1) := (HSMz.out _ hb').trans (hrow' 5 _ rfl)
          have p6 : wr.cell? ⟨b, o + j * 13 + 6, none⟩ = some (.slice cA2 cn2 cc2) := (HSMz.out _ hb').trans (hrow' 6 _ rfl)
          have p7 : wr.cell? ⟨b, o + j * 13 + 7, none⟩ = some (.string z.build) := (HSMz.out _ hb').trans (hrow' 7 _ rfl)
          have p8 : wr.cell? ⟨b, o + j * 13 + 8, none⟩ = some (.int .i64 z.num) := (HSMz.out _ hb').trans (hrow' 8 _ rfl)
          have p9 : wr.cell? ⟨b, o + j * 13 + 9, none⟩ = some (.int .i64 z.time) := (HSMz.out _ hb').trans (hrow' 9 _ rfl)
          have p10 : wr.cell? ⟨b, o + j * 13 + 10, none⟩ = some (.slice cA3 cn3 cc3) := (HSMz.out _ hb').trans (hrow' 10 _ rfl)
          have p11 : wr.cell? ⟨b, o + j * 13 + 11, none⟩ = some (.slice cA4 cn4 cc4) := (HSMz.out _ hb').trans (hrow' 11 _ rfl)
          have p12 : wr.cell? ⟨b, o + j * 13 + 12, none⟩ = some (.slice cA5 cn5 cc5) := (HSMz.out _ hb').trans (hrow' 12 _ rfl)
          have s0 := HKYr.out.cell 0
          have s1 := HKYr.out.cell 1
          have s2 := HKYr.out.cell 2
          have s3 := HKYr.out.cell 3
          have s4 := HKYr.out.cell 4
          have s5 := HKYr.out.cell 5
          have s6 := HKYr.out.cell 6
          have s7 := HKYr.out.cell 7
          have s8 := HKYr.out.cell 8
          have s9 := HKYr.out.cell 9
          have s10 := HKYr.out.cell 10
          have s11 := HKYr.out.cell 11
          have s12 := HKYr.out.cell 12
          have HBZ := Lib.hid (news_alloc wr (.cells #[.string z.chan, .string z.file, .string z.name, .string z.text, .int .i64 z.ver.epoch, .slice cA1 cn1 cc1, .slice cA2 cn2 cc2, .string z.build, .int .i64 z.num, .int .i64 z.time, .slice cA3 cn3 cc3, .slice cA4 cn4 cc4, .slice cA5 cn5 cc5] 37))
          have HKZ := Lib.hid (Blk.new wr 37 #[.string z.chan, .string z.file, .string z.name, .string z.text, .int .i64 z.ver.epoch, .slice cA1 cn1 cc1, .slice cA2 cn2 cc2, .string z.build, .int .i64 z.num, .int .i64 z.time, .slice cA3 cn3 cc3, .slice cA4 cn4 cc4, .slice cA5 cn5 cc5])
          have HRECz : Hid (IsRcd W0 (Lt w.heap.size) (.agg #[.string z.chan, .string z.file, .string z.name, .string z.text, .int .i64 z.ver.epoch, .slice cA1 cn1 cc1, .slice cA2 cn2 cc2, .string z.build, .int .i64 z.num, .int .i64 z.time, .slice cA3 cn3 cc3, .slice cA4 cn4 cc4, .slice cA5 cn5 cc5]) z) := Lib.hid ⟨_, _, _, _, _, rfl, hrec'⟩
          have hra : recAt xs j = z := by simp [recAt, List.getD, hz]
          have hoa : on.getD j false = oz := by simp [List.getD, hoz]
          have HNV := Lib.hid (noneTo_succ xs on y eqAll j)
          have HNN := Lib.hid (noneTo_succ xs on y eqNum j)
          have HNT := Lib.hid (noneTo_succ xs on y eqNT j)
          rw [hra, hoa] at HNV HNN HNT
          clear hz hoz hbe hbe2 hrec' hrow' hcell' hra hoa
          cases oz with
          | false =>
            go_wp2_with fail
            go_roundw
            case rel => exact ⟨j + 1, by omega, by go_num, by rw [HNV.out]; simp, by rw [HNN.out]; simp, by rw [HNT.out]; simp, Lib.hid (HW2.out.trans (HBZ.out.mono HW2.out.size))⟩
            case measure => simp [intOf]; omega
          | true =>
            have HSZ : Hid (Same w.heap.size W0 (wr.alloc (.cells #[.string z.chan, .string z.file, .string z.name, .string z.text, .int .i64 z.ver.epoch, .slice cA1 cn1 cc1, .slice cA2 cn2 cc2, .string z.build, .int .i64 z.num, .int .i64 z.time, .slice cA3 cn3 cc3, .slice cA4 cn4 cc4, .slice cA5 cn5 cc5] 37))) := Lib.hid (HSMz.out.trans ((Same.of_below HBZ.out).mono (by have := HGT.out; have := HW2.out.size; omega)))
            have HKY2 := Lib.hid (HKYr.out.alloc (.cells #[.string z.chan, .string z.file, .string z.name, .string z.text, .int .i64 z.ver.epoch, .slice cA1 cn1 cc1, .slice cA2 cn2 cc2, .string z.build, .int .i64 z.num, .int .i64 z.time, .slice cA3 cn3 cc3, .slice cA4 cn4 cc4, .slice cA5 cn5 cc5] 37))
            go_wp2_with fail
            clear p0 p1 p2 p3 p4 p5 p6 p7 p8 p9 p10 p11 p12 s0 s1 s2 s3 s4 s5 s6 s7 s8 s9 s10 s11 s12 eb
            refine (dSame_any _ _ y z w.heap.size _ (HREC.out.keep (Nat.le_refl _) HSZ.out) (HRECz.out.keep (Nat.le_refl _) HSZ.out) (by have := HBZ.out.size; have := HGT.out; have := HW2.out.size; omega)).mono ?_
            rintro e w5 ⟨rfl, hb5⟩
            have HB5 := Lib.hid (HW2.out.trans ((HBZ.out.trans (hb5.mono HBZ.out.size)).mono HW2.out.size))
            have HKY5 := Lib.hid (HKY2.out.belowSelf hb5)
            have HKZ5 := Lib.hid (HKZ.out.belowSelf hb5)
            clear hb5
            cases hsm : sameR y z with
            | false =>
              rw [hsm] at HNV HNN HNT
              go_wp2_with fail
              go_roundw
              case rel => exact ⟨j + 1, by omega, by go_num, by rw [HNV.out]; simp, by rw [HNN.out]; simp, by rw [HNT.out]; simp, HB5⟩
              case measure => simp [intOf]; omega
            | true =>
              rw [hsm] at HNV HNN HNT
              have y8 := HKY5.out.cell 8
              have y9 := HKY5.out.cell 9
              have z8 := HKZ5.out.cell 8
              have z9 := HKZ5.out.cell 9
              obtain ⟨en, HEN⟩ : ∃ en, Hid (eqNum z y = en) := ⟨_, Lib.hid rfl⟩
              obtain ⟨et, HET⟩ : ∃ et, Hid (eqTime z y = et) := ⟨_, Lib.hid rfl⟩
              have hen : (z.num == y.num) = en := HEN.out
              have het : (z.time == y.time) = et := HET.out
              have hen2 : (z.num != y.num) = !en := by rw [← hen]; rfl
              have het2 : (z.time != y.time) = !et := by rw [← het]; rfl
              obtain ⟨fN, hN⟩ : ∃ fN, fN = noneTo xs on y eqNum j := ⟨_, rfl⟩
              obtain ⟨fT, hT⟩ : ∃ fT, fT = noneTo xs on y eqNT j := ⟨_, rfl⟩
              rw [← hN, HEN.out] at HNN
              rw [← hT] at HNT
              have HNT2 : Hid (noneTo xs on y eqNT (j + 1) = (fT && !(true && true && (en && et)))) := Lib.hid (by rw [HNT.out]; unfold eqNT; rw [HEN.out, HET.out])
              rw [← hN, ← hT]
              clear hN hT HNT


              cases fN <;> cases fT <;> cases en <;> cases et <;> simp only [Bool.not_true, Bool.not_false] at hen2 het2
              all_goals (
                go_wp2_with fail
                go_roundw
                case rel => exact ⟨j + 1, by omega, by go_num, by rw [HNV.out]; simp [eqAll], by rw [HNN.out]; rfl, by rw [HNT2.out]; rfl, HB5⟩
                case measure => simp [intOf]; omega)
        · obtain rfl : j = k := by omega
          have HKRr : Hid (Blk wr w.heap.size 37 #[.string r.chan, .string r.file, .string r.name, .string r.text, .int .i64 r.ver.epoch, .slice rA1 rn1 rc1, .slice rA2 rn2 rc2, .string r.build, .int .i64 r.num, .int .i64 r.time, .slice rA3 rn3 rc3, .slice rA4 rn4 rc4, .slice rA5 rn5 rc5]) := Lib.hid (HKRY.out.belowSelf HW2.out)
          have hgr2 : w.heap.size < wr.heap.size := HKRr.out.lt
          have hW0 : w.heap.size ≤ W0.heap.size := HB0.out.size
          have s4 := HKYr.out.cell 4
          have s5 := HKYr.out.cell 5
          have s6 := HKYr.out.cell 6
          have r4 := HKRr.out.cell 4
          have r5 := HKRr.out.cell 5
          have r6 := HKRr.out.cell 6
          go_wp2_with fail
          refine (rCompare_any _ _ y.ver r.ver w.heap.size _ ((HREC.out.keep (Nat.le_refl _) HSMz.out).ver_of) ((HR0.out.keep (Nat.le_refl _) HSMz.out).ver) (by omega)).mono ?_
          rintro e w6 ⟨rfl, hb6⟩
          clear s4 s5 s6 r4 r5 r6
          have HT6 := Lib.hid ((HTY.out.belowSelf HW2.out).belowSelf hb6)
          have HKY6 := Lib.hid (HKYr.out.belowSelf hb6)
          have HKR6 := Lib.hid (HKRr.out.belowSelf hb6)
          have HW6 : Hid (Below (w.heap.size + 1 + 1) W0 w6) := Lib.hid (HWR.out.trans (hb6.mono (by have := HGT.out; have := HW2.out.size; omega)))
          clear hb6
          obtain ⟨cv, hcv⟩ : ∃ cv, cv = cnt (docV xs on r) j := ⟨_, rfl⟩
          obtain ⟨cn, hcn⟩ : ∃ cv, cv = cnt (docN xs on r) j := ⟨_, rfl⟩
          obtain ⟨ct, hct⟩ : ∃ cv, cv = cnt (docT xs on r) j := ⟨_, rfl⟩
          have hv1 : cv ≤ 100000 := by have := cnt_le_n (docV xs on r) j; omega
          have hn1 : cn ≤ 100000 := by have := cnt_le_n (docN xs on r) j; omega
          have ht1 : ct ≤ 100000 := by have := cnt_le_n (docT xs on r) j; omega
          have HEQ := Lib.hid (fun (a b c : Bool) hV hN hT => docC_eq (xs := xs) (on := on) (r := r) (k := j) (a := a) (b := b) (c := c) hV hN hT)
          unfold docC at HT6
          rw [← hcv, ← hcn, ← hct] at HEQ HT6
          have HDV := Lib.hid (docV_at (on := on) (r := r) HYK.out)
          have HDN := Lib.hid (docN_at (on := on) (r := r) HYK.out)
          have HDT := Lib.hid (docT_at (on := on) (r := r) HYK.out)
          rw [HBS1.out] at HDV HDN HDT
          obtain ⟨fV, hfV⟩ : ∃ f, f = noneTo xs on y eqAll j := ⟨_, rfl⟩
          obtain ⟨fN, hfN⟩ : ∃ f, f = noneTo xs on y eqNum j := ⟨_, rfl⟩
          obtain ⟨fT, hfT⟩ : ∃ f, f = noneTo xs on y eqNT j := ⟨_, rfl⟩
          rw [← hfV] at HDV
          rw [← hfN] at HDN
          rw [← hfT] at HDT
          rw [← hfV, ← hfN, ← hfT]
          have HRG := Lib.hid (ordVer.range y.ver r.ver)
          obtain ⟨c, hc⟩ : ∃ c, c = cmpVer y.ver r.ver := ⟨_, rfl⟩
          have HNW : Hid (newer r y = decide (0 < c)) := Lib.hid (by rw [hc]; rfl)
          have HVE : Hid (verE y r = (c == 0)) := Lib.hid (by rw [hc]; rfl)
          rw [← hc] at HRG ⊢
          clear hcv hcn hct hfV hfN hfT hc
          have y8 := HKY6.out.cell 8
          have y9 := HKY6.out.cell 9
          have r8 := HKR6.out.cell 8
          have r9 := HKR6.out.cell 9
          have t0 := HT6.out.cell 0
          have t1 := HT6.out.cell 1
          have t2 := HT6.out.cell 2
          have t3 := HT6.out.cell 3
          have f0 := HT6.out.frozen 0
          have f1 := HT6.out.frozen 1
          have f3 := HT6.out.frozen 3
          rcases HRG.out with rfl | rfl | rfl
          · have hdummy : True := trivial
            have HN := Lib.hid (HEQ.out false false false (by rw [HDV.out, HNW.out]; first | rfl | simp) (by rw [HDN.out]; unfold greater; rw [HVE.out]; first | rfl | simp [*]) (by rw [HDT.out]; unfold later; rw [HVE.out]; first | rfl | simp [*]))
            go_wp2_with fail
            go_roundw
            case rel => exact ⟨j + 1, by omega, by go_num, Lib.hid (by rw [HN.out]; exact HT6.out), HW6⟩
            case measure => simp [intOf]; omega
          · have dz : decide ((0 : Int) < 0) = false := by decide
            by_cases hm : r.num < y.num
            · have dm : decide (r.num < y.num) = true := decide_eq_true hm
              have he1 : (y.num == r.num) = false := beq_eq_false_iff_ne.2 (by omega)
              cases fN with
              | true =>
                have HN := Lib.hid (HEQ.out false true false (by rw [HDV.out, HNW.out]; rfl) (by rw [HDN.out]; unfold greater; rw [HVE.out, dm]; rfl) (by rw [HDT.out]; unfold later; rw [he1]; simp))
                go_wp2_with fail
                go_roundw
                case rel => exact ⟨j + 1, by omega, by go_num, Lib.hid (by rw [HN.out]; have h := HT6.out.set_ 1 (.int .i64 ((cn : Int) + 1)); simpa using h), Lib.hid (below_set HW6.out ⟨w.heap.size + 1 + 1, 1, none⟩ (Nat.le_refl _) _)⟩
                case measure => simp [intOf]; omega
              | false =>
                have HN := Lib.hid (HEQ.out false false false (by rw [HDV.out, HNW.out]; first | rfl | simp) (by rw [HDN.out]; unfold greater; rw [HVE.out]; first | rfl | simp [*]) (by rw [HDT.out]; unfold later; rw [HVE.out]; first | rfl | simp [*]))
                go_wp2_with fail
                go_roundw
                case rel => exact ⟨j + 1, by omega, by go_num, Lib.hid (by rw [HN.out]; exact HT6.out), HW6⟩
                case measure => simp [intOf]; omega
            · have dm : decide (r.num < y.num) = false := decide_eq_false hm
              by_cases he : y.num = r.num
              · have he1 : (y.num == r.num) = true := by simpa using he
                have HEE := Lib.hid he
                clear he
                by_cases ht : r.time < y.time
                · have dt : decide (r.time < y.time) = true := decide_eq_true ht
                  cases fT with
                  | true =>
                    have HN := Lib.hid (HEQ.out false false true (by rw [HDV.out, HNW.out]; rfl) (by rw [HDN.out]; unfold greater; rw [dm]; rfl) (by rw [HDT.out]; unfold later; rw [HVE.out, he1, dt]; rfl))
                    go_wp2_with fail
                    go_roundw
                    case rel => exact ⟨j + 1, by omega, by go_num, Lib.hid (by rw [HN.out]; have h := HT6.out.set_ 3 (.int .i64 ((ct : Int) + 1)); simpa using h), Lib.hid (below_set HW6.out ⟨w.heap.size + 1 + 1, 3, none⟩ (Nat.le_refl _) _)⟩
                    case measure => simp [intOf]; omega
                  | false =>
                    have HN := Lib.hid (HEQ.out false false false (by rw [HDV.out, HNW.out]; first | rfl | simp) (by rw [HDN.out]; unfold greater; rw [HVE.out]; first | rfl | simp [*]) (by rw [HDT.out]; unfold later; rw [HVE.out]; first | rfl | simp [*]))
                    go_wp2_with fail
                    go_roundw
                    case rel => exact ⟨j + 1, by omega, by go_num, Lib.hid (by rw [HN.out]; exact HT6.out), HW6⟩
                    case measure => simp [intOf]; omega
                · have dt : decide (r.time < y.time) = false := decide_eq_false ht
                  have HN := Lib.hid (HEQ.out false false false (by rw [HDV.out, HNW.out]; first | rfl | simp) (by rw [HDN.out]; unfold greater; rw [HVE.out]; first | rfl | simp [*]) (by rw [HDT.out]; unfold later; rw [HVE.out]; first | rfl | simp [*]))
                  go_wp2_with fail
                  go_roundw
                  case rel => exact ⟨j + 1, by omega, by go_num, Lib.hid (by rw [HN.out]; exact HT6.out), HW6⟩
                  case measure => simp [intOf]; omega
              · have he1 : (y.num == r.num) = false := beq_eq_false_iff_ne.2 he
                have HN := Lib.hid (HEQ.out false false false (by rw [HDV.out, HNW.out]; first | rfl | simp) (by rw [HDN.out]; unfold greater; rw [HVE.out]; first | rfl | simp [*]) (by rw [HDT.out]; unfold later; rw [HVE.out]; first | rfl | simp [*]))
                go_wp2_with fail
                go_roundw
                case rel => exact ⟨j + 1, by omega, by go_num, Lib.hid (by rw [HN.out]; exact HT6.out), HW6⟩
                case measure => simp [intOf]; omega
          · cases fV with
            | true =>
              have HN := Lib.hid (HEQ.out true false false (by rw [HDV.out, HNW.out]; rfl) (by rw [HDN.out]; unfold greater; rw [HVE.out]; simp) (by rw [HDT.out]; unfold later; rw [HVE.out]; simp))
              go_wp2_with fail
              go_roundw
              case rel => exact ⟨j + 1, by omega, by go_num, Lib.hid (by rw [HN.out]; have h := HT6.out.set_ 0 (.int .i64 ((cv : Int) + 1)); simpa using h), Lib.hid (below_set HW6.out ⟨w.heap.size + 1 + 1, 0, none⟩ (Nat.le_refl _) _)⟩
              case measure => simp [intOf]; omega
            | false =>
              have HN := Lib.hid (HEQ.out false false false (by rw [HDV.out, HNW.out]; first | rfl | simp) (by rw [HDN.out]; unfold greater; rw [HVE.out]; first | rfl | simp [*]) (by rw [HDT.out]; unfold later; rw [HVE.out]; first | rfl | simp [*]))
              go_wp2_with fail
              go_roundw
              case rel => exact ⟨j + 1, by omega, by go_num, Lib.hid (by rw [HN.out]; exact HT6.out), HW6⟩
              case measure => simp [intOf]; omega
    · obtain rfl : k = xs.length := by omega
      have r0 := HKR.out.cell 0
      have hgr : w.heap.size < wb.heap.size := by have := HG.out; omega
      go_wp2_with fail
      clear r0
      refine (dPlace_any _ ch r.chan w.heap.size wb (HC0.out.keep keepsStr (Nat.le_refl _) HSM.out)).mono ?_
      rintro e w7 ⟨⟨p, rfl, hp1, hp2⟩, hb7⟩
      have HT7 := Lib.hid (HT.out.belowSelf hb7)
      have HO7 : Hid (Blk w7 (w.heap.size + 1) 40 #[.int .i64 0, .int .i64 0, .int .i64 0, .int .i64 0]) := Lib.hid ((HK1.out.below HW.out (by omega)).belowSelf hb7)
      have HW7 : Hid (Below (w.heap.size + 1 + 1) W0 w7) := Lib.hid (HW.out.trans (hb7.mono (Nat.le_of_lt HG.out)))
      have HP1 := Lib.hid hp1
      have HP2 := Lib.hid hp2
      clear hb7 hp1 hp2
      unfold docC at HT7
      rw [← rankV_doc, ← rankN_doc, ← rankT_doc] at HT7
      by_cases hp : 0 < p
      · have HPL := Lib.hid (HP1.out hp).symm
        have u2 := HT7.out.cell 2
        have v2 := HT7.out.frozen 2
        have HTX := Lib.hid (HT7.out.set_ 2 (.int .i64 p))
        have HOX := Lib.hid (HO7.out.far (p := ⟨w.heap.size + 1 + 1, 2, none⟩) (by show w.heap.size + 1 ≠ w.heap.size + 1 + 1; omega) (.int .i64 p))
        have HWX := Lib.hid (below_set HW7.out ⟨w.heap.size + 1 + 1, 2, none⟩ (Nat.le_refl _) (.int .i64 p))
        have t0 := HTX.out.cell 0
        have t1 := HTX.out.cell 1
        have t2 := HTX.out.cell 2
        have t3 := HTX.out.cell 3
        have c0 := HOX.out.cell 0
        have c1 := HOX.out.cell 1
        have c2 := HOX.out.cell 2
        have c3 := HOX.out.cell 3
        have f0 := HOX.out.frozen 0
        have f1 := HOX.out.frozen 1
        have f2 := HOX.out.frozen 2
        have f3 := HOX.out.frozen 3
        go_wp2_with fail
        have HOF := Lib.hid ((((HOX.out.set_ 0 (.int .i64 (rankV xs on r))).set_ 1 (.int .i64 (rankN xs on r))).set_ 2 (.int .i64 p)).set_ 3 (.int .i64 (rankT xs on r)))
        refine bodyPost_ret (results_cell_row Tryd.results16 _ _ (w.heap.size + 1) 40 _ (0, 0) _ rfl HOF.out Tryd.underlying40 rfl (by kernel_rfl)) rfl ⟨by rw [HPL.out]; simp, ?_⟩
        have hA := HB0.out.trans (HWX.out.mono (by omega))
        exact below_set (below_set (below_set (below_set hA ⟨w.heap.size + 1, 0, none⟩ (Nat.le_succ _) _) ⟨w.heap.size + 1, 1, none⟩ (Nat.le_succ _) _) ⟨w.heap.size + 1, 2, none⟩ (Nat.le_succ _) _) ⟨w.heap.size + 1, 3, none⟩ (Nat.le_succ _) _
      · have HPL := Lib.hid (HP2.out hp)
        have HTX := HT7
        have HOX := HO7
        have HWX := HW7
        have t0 := HTX.out.cell 0
        have t1 := HTX.out.cell 1
        have t2 := HTX.out.cell 2
        have t3 := HTX.out.cell 3
        have c0 := HOX.out.cell 0
        have c1 := HOX.out.cell 1
        have c2 := HOX.out.cell 2
        have c3 := HOX.out.cell 3
        have f0 := HOX.out.frozen 0
        have f1 := HOX.out.frozen 1
        have f2 := HOX.out.frozen 2
        have f3 := HOX.out.frozen 3
        go_wp2_with fail
        have HOF := Lib.hid ((((HOX.out.set_ 0 (.int .i64 (rankV xs on r))).set_ 1 (.int .i64 (rankN xs on r))).set_ 2 (.int .i64 0)).set_ 3 (.int .i64 (rankT xs on r)))
        refine bodyPost_ret (results_cell_row Tryd.results16 _ _ (w.heap.size + 1) 40 _ (0, 0) _ rfl HOF.out Tryd.underlying40 rfl (by kernel_rfl)) rfl ⟨by rw [HPL.out]; simp, ?_⟩
        have hA := HB0.out.trans (HWX.out.mono (by omega))
        exact below_set (below_set (below_set (below_set hA ⟨w.heap.size + 1, 0, none⟩ (Nat.le_succ _) _) ⟨w.heap.size + 1, 1, none⟩ (Nat.le_succ _) _) ⟨w.heap.size + 1, 2, none⟩ (Nat.le_succ _) _) ⟨w.heap.size + 1, 3, none⟩ (Nat.le_succ _) _
end Go.Proofs.YtkmoaeckabjgnaaDoor.V
