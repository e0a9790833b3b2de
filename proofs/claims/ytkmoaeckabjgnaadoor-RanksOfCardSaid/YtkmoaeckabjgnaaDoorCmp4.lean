/-
  The walks of version.compareComponents, rows over components, Compare.
-/
import Derived.Test.YtkmoaeckabjgnaaDoorCmp3
namespace Go.Proofs.YtkmoaeckabjgnaaDoor.V
set_option linter.unusedVariables false
set_option linter.unusedSimpArgs false
open Go Go.RowKit Go.Sort

set_option maxHeartbeats 400000 in
theorem cmpComps_any (va vb : Value) (xs ys : List Item) (B : Nat) (w : World) (ha : IsComp w (Lt B) va xs) (hb : IsComp w (Lt B) vb ys) (hB : B ≤ w.heap.size) :
    Calls Tryd.prog 71 #[va, vb] w fun e w' => e = .returned (.int .i64 (cmpComp xs ys)) ∧ Below w.heap.size w w' := by
  have HC := Lib.hid (rowsI_any va vb xs ys B w ha hb hB)
  clear ha hb
  go_enter Tryd.func71, Tryd.ntmps71
  go_wp2_with (go_at_call 80; refine HC.out.mono ?_; rintro e w1 ⟨rfl, hb1⟩; have HB1 := Lib.hid hb1; clear hb1)
  go_ret
  exact ⟨rfl, HB1.out⟩

def fP (xs ys : List (List Item)) (i : Nat) : Int := cmpComp (xs.getD i []) (ys.getD i [])

set_option maxHeartbeats 1000000 in
theorem rowsP_any (va vb : Value) (xs ys : List (List Item)) (B : Nat) (w : World) (ha : IsParts w (Lt B) va xs) (hb : IsParts w (Lt B) vb ys) (hB : B ≤ w.heap.size) :
    Calls Tryd.prog 70 #[va, vb, .slice none 0 0, .func (.func 71) #[] #[]] w fun e w' => e = .returned (.int .i64 (cmpParts xs ys)) ∧ Below w.heap.size w w' := by
  obtain ⟨A1, c1, rfl, hl1, hc1⟩ := ha.form
  obtain ⟨A2, c2, rfl, hl2, hc2⟩ := hb.form
  have HA := Lib.hid ha
  have HB' := Lib.hid hb
  clear ha hb
  go_enter Tryd.func70, Tryd.ntmps70
  go_wp2
  · have HN : Hid (max xs.length ys.length = ys.length) := Lib.hid (by omega)
    go_loopw [16] (fun i wr => ∃ k : Nat, k ≤ ys.length ∧ i = .int .i64 k ∧ Hid (cmpParts xs ys = nz (fP xs ys) k (ys.length - k)) ∧ Hid (Below w.heap.size w wr)) (fun i _ => ys.length - (intOf i).toNat)
    case atStart => exact ⟨0, Nat.zero_le _, rfl, Lib.hid (by unfold cmpParts rowsC; rw [HN.out]; rfl), Lib.hid (Below.refl _ _)⟩
    case round =>
      obtain ⟨k, hk, rfl, HO, HW⟩ := hrel
      by_cases hlt : k < ys.length
      · have HAr := Lib.hid (HA.out.keep keepsComp (Nat.le_refl _) ((Same.of_below HW.out).mono hB))
        have HBr := Lib.hid (HB'.out.keep keepsComp (Nat.le_refl _) ((Same.of_below HW.out).mono hB))
        have hBr : B ≤ wr.heap.size := by have := HW.out.size; omega
        obtain ⟨r, HR⟩ : ∃ r, Hid (cmpComp (xs.getD k []) (ys.getD k []) = r) := ⟨_, Lib.hid rfl⟩
        have HNZ := Lib.hid (nz_step (f := fP xs ys) hlt)
        have HFI : Hid (fP xs ys k = r) := Lib.hid HR.out
        by_cases hz : r = 0
        · subst hz
          go_wp2_with (first | (go_at_call_of 79 xs; refine (atP_any _ xs B k _ HAr.out).mono ?_; rintro e w1 ⟨⟨u1, rfl, hu1⟩, rfl⟩; have HU1 := Lib.hid hu1; clear hu1) | (go_at_call_of 79 ys; refine (atP_any _ ys B k _ HBr.out).mono ?_; rintro e w2 ⟨⟨u2, rfl, hu2⟩, rfl⟩; have HU2 := Lib.hid hu2; clear hu2) | (go_at_call 71; refine (cmpComps_any _ _ _ _ B _ HU1.out HU2.out hBr).mono ?_; rintro e w3 ⟨rfl, hb3⟩; have HB3 := Lib.hid hb3; clear hb3; rw [HR.out]))
          go_roundw
          case rel => exact ⟨k + 1, by omega, by go_num, Lib.hid (by rw [HO.out, HNZ.out, HFI.out, if_pos rfl]), Lib.hid (HW.out.trans (HB3.out.mono HW.out.size))⟩
          case measure => simp [intOf]; omega
        · have hzb : (r == 0) = false := by simpa using hz
          have hzn : (r != 0) = true := by simpa using hz
          go_wp2_with (first | (go_at_call_of 79 xs; refine (atP_any _ xs B k _ HAr.out).mono ?_; rintro e w1 ⟨⟨u1, rfl, hu1⟩, rfl⟩; have HU1 := Lib.hid hu1; clear hu1) | (go_at_call_of 79 ys; refine (atP_any _ ys B k _ HBr.out).mono ?_; rintro e w2 ⟨⟨u2, rfl, hu2⟩, rfl⟩; have HU2 := Lib.hid hu2; clear hu2) | (go_at_call 71; refine (cmpComps_any _ _ _ _ B _ HU1.out HU2.out hBr).mono ?_; rintro e w3 ⟨rfl, hb3⟩; have HB3 := Lib.hid hb3; clear hb3; rw [HR.out]))
          go_ret
          exact ⟨ret_int (by rw [HO.out, HNZ.out, HFI.out, if_neg hz]), HW.out.trans (HB3.out.mono HW.out.size)⟩
      · have HF : Hid (cmpParts xs ys = 0) := Lib.hid (by rw [HO.out, show ys.length - k = 0 by omega]; rfl)
        go_wp2_with fail
        go_ret
        exact ⟨ret_int (by rw [HF.out]), HW.out⟩
  · have HN : Hid (max xs.length ys.length = xs.length) := Lib.hid (by omega)
    go_loopw [16] (fun i wr => ∃ k : Nat, k ≤ xs.length ∧ i = .int .i64 k ∧ Hid (cmpParts xs ys = nz (fP xs ys) k (xs.length - k)) ∧ Hid (Below w.heap.size w wr)) (fun i _ => xs.length - (intOf i).toNat)
    case atStart => exact ⟨0, Nat.zero_le _, rfl, Lib.hid (by unfold cmpParts rowsC; rw [HN.out]; rfl), Lib.hid (Below.refl _ _)⟩
    case round =>
      obtain ⟨k, hk, rfl, HO, HW⟩ := hrel
      by_cases hlt : k < xs.length
      · have HAr := Lib.hid (HA.out.keep keepsComp (Nat.le_refl _) ((Same.of_below HW.out).mono hB))
        have HBr := Lib.hid (HB'.out.keep keepsComp (Nat.le_refl _) ((Same.of_below HW.out).mono hB))
        have hBr : B ≤ wr.heap.size := by have := HW.out.size; omega
        obtain ⟨r, HR⟩ : ∃ r, Hid (cmpComp (xs.getD k []) (ys.getD k []) = r) := ⟨_, Lib.hid rfl⟩
        have HNZ := Lib.hid (nz_step (f := fP xs ys) hlt)
        have HFI : Hid (fP xs ys k = r) := Lib.hid HR.out
        by_cases hz : r = 0
        · subst hz
          go_wp2_with (first | (go_at_call_of 79 xs; refine (atP_any _ xs B k _ HAr.out).mono ?_; rintro e w1 ⟨⟨u1, rfl, hu1⟩, rfl⟩; have HU1 := Lib.hid hu1; clear hu1) | (go_at_call_of 79 ys; refine (atP_any _ ys B k _ HBr.out).mono ?_; rintro e w2 ⟨⟨u2, rfl, hu2⟩, rfl⟩; have HU2 := Lib.hid hu2; clear hu2) | (go_at_call 71; refine (cmpComps_any _ _ _ _ B _ HU1.out HU2.out hBr).mono ?_; rintro e w3 ⟨rfl, hb3⟩; have HB3 := Lib.hid hb3; clear hb3; rw [HR.out]))
          go_roundw
          case rel => exact ⟨k + 1, by omega, by go_num, Lib.hid (by rw [HO.out, HNZ.out, HFI.out, if_pos rfl]), Lib.hid (HW.out.trans (HB3.out.mono HW.out.size))⟩
          case measure => simp [intOf]; omega
        · have hzb : (r == 0) = false := by simpa using hz
          have hzn : (r != 0) = true := by simpa using hz
          go_wp2_with (first | (go_at_call_of 79 xs; refine (atP_any _ xs B k _ HAr.out).mono ?_; rintro e w1 ⟨⟨u1, rfl, hu1⟩, rfl⟩; have HU1 := Lib.hid hu1; clear hu1) | (go_at_call_of 79 ys; refine (atP_any _ ys B k _ HBr.out).mono ?_; rintro e w2 ⟨⟨u2, rfl, hu2⟩, rfl⟩; have HU2 := Lib.hid hu2; clear hu2) | (go_at_call 71; refine (cmpComps_any _ _ _ _ B _ HU1.out HU2.out hBr).mono ?_; rintro e w3 ⟨rfl, hb3⟩; have HB3 := Lib.hid hb3; clear hb3; rw [HR.out]))
          go_ret
          exact ⟨ret_int (by rw [HO.out, HNZ.out, HFI.out, if_neg hz]), HW.out.trans (HB3.out.mono HW.out.size)⟩
      · have HF : Hid (cmpParts xs ys = 0) := Lib.hid (by rw [HO.out, show xs.length - k = 0 by omega]; rfl)
        go_wp2_with fail
        go_ret
        exact ⟨ret_int (by rw [HF.out]), HW.out⟩
end Go.Proofs.YtkmoaeckabjgnaaDoor.V
