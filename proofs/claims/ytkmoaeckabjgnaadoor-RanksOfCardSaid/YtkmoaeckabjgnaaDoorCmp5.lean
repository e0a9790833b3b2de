/-
  The walk of version.Compare.
-/
import Derived.Test.YtkmoaeckabjgnaaDoorCmp4
namespace Go.Proofs.YtkmoaeckabjgnaaDoor.V
set_option linter.unusedVariables false
set_option linter.unusedSimpArgs false
open Go Go.RowKit Go.Sort

theorem or2_first {a b : Int} (h : ¬ a = 0) : or2 a b = a := if_neg h
theorem or2_second (b : Int) : or2 0 b = b := if_pos rfl

set_option maxHeartbeats 1000000 in
theorem Compare_any (va vb : Value) (x y : Ver) (B : Nat) (w : World) (ha : IsVer w (Lt B) va x) (hb : IsVer w (Lt B) vb y) (hB : B ≤ w.heap.size) :
    Calls Tryd.prog 50 #[va, vb] w fun e w' => e = .returned (.int .i64 (cmpVer x y)) ∧ Below w.heap.size w w' := by
  obtain ⟨p1, l1, rfl, _, hp1, hl1⟩ := ha
  obtain ⟨p2, l2, rfl, _, hp2, hl2⟩ := hb
  obtain ⟨A1, c1, rfl, _⟩ := hp1.form
  obtain ⟨A2, c2, rfl, _⟩ := hp2.form
  obtain ⟨A3, c3, rfl, _⟩ := hl1.form
  obtain ⟨A4, c4, rfl, _⟩ := hl2.form
  have HP1 := Lib.hid hp1
  have HP2 := Lib.hid hp2
  have HL1 := Lib.hid hl1
  have HL2 := Lib.hid hl2
  clear hp1 hp2 hl1 hl2
  obtain ⟨r1, HR1⟩ : ∃ r, Hid (cmpI x.epoch y.epoch = r) := ⟨_, Lib.hid rfl⟩
  obtain ⟨r2, HR2⟩ : ∃ r, Hid (cmpParts x.parts y.parts = r) := ⟨_, Lib.hid rfl⟩
  obtain ⟨r3, HR3⟩ : ∃ r, Hid (cmpParts x.loc y.loc = r) := ⟨_, Lib.hid rfl⟩
  have HF : Hid (cmpVer x y = or2 r1 (or2 r2 r3)) := Lib.hid (by unfold cmpVer; rw [HR1.out, HR2.out, HR3.out])
  go_enter Tryd.func50, Tryd.ntmps50
  go_wp2_with fail
  have hb : Below w.heap.size w ((w.alloc (.cells #[.int .i64 x.epoch, .slice A1 x.parts.length c1, .slice A3 x.loc.length c3] 33)).alloc (.cells #[.int .i64 y.epoch, .slice A2 y.parts.length c2, .slice A4 y.loc.length c4] 33)) := ((Below.refl _ _).alloc (Nat.le_refl _) _).alloc (by simp) _
  obtain ⟨k0, k1⟩ := cells_two w #[.int .i64 x.epoch, .slice A1 x.parts.length c1, .slice A3 x.loc.length c3] #[.int .i64 y.epoch, .slice A2 y.parts.length c2, .slice A4 y.loc.length c4] 33 33
  have hsz : w.heap.size + 2 = ((w.alloc (.cells #[.int .i64 x.epoch, .slice A1 x.parts.length c1, .slice A3 x.loc.length c3] 33)).alloc (.cells #[.int .i64 y.epoch, .slice A2 y.parts.length c2, .slice A4 y.loc.length c4] 33)).heap.size := by simp
  generalize ((w.alloc (.cells #[.int .i64 x.epoch, .slice A1 x.parts.length c1, .slice A3 x.loc.length c3] 33)).alloc (.cells #[.int .i64 y.epoch, .slice A2 y.parts.length c2, .slice A4 y.loc.length c4] 33)) = W at *
  have HB := Lib.hid hb
  have HS := Lib.hid hsz
  clear hb hsz
  have e1 : W.cell? ⟨w.heap.size, 1, none⟩ = some (.slice A1 x.parts.length c1) := k0 1
  have e2 : W.cell? ⟨w.heap.size, 2, none⟩ = some (.slice A3 x.loc.length c3) := k0 2
  have f1 : W.cell? ⟨w.heap.size + 1, 1, none⟩ = some (.slice A2 y.parts.length c2) := k1 1
  have f2 : W.cell? ⟨w.heap.size + 1, 2, none⟩ = some (.slice A4 y.loc.length c4) := k1 2
  clear k0 k1
  have hBW : B ≤ W.heap.size := by have := HS.out; omega
  have HP1' := Lib.hid (HP1.out.keep keepsComp (Nat.le_refl _) ((Same.of_below HB.out).mono hB))
  have HP2' := Lib.hid (HP2.out.keep keepsComp (Nat.le_refl _) ((Same.of_below HB.out).mono hB))
  have HL1' := Lib.hid (HL1.out.keep keepsComp (Nat.le_refl _) ((Same.of_below HB.out).mono hB))
  have HL2' := Lib.hid (HL2.out.keep keepsComp (Nat.le_refl _) ((Same.of_below HB.out).mono hB))
  have E2 := Lib.hid e2
  have F2 := Lib.hid f2
  refine (cmpInt_any _ _ _).mono ?_
  rintro e w' ⟨rfl, rfl⟩
  rw [HR1.out]
  by_cases h1 : r1 = 0
  · subst h1
    go_wp2_with fail
    refine (rowsP_any _ _ _ _ B _ HP1'.out HP2'.out hBW).mono ?_
    rintro e w1 ⟨rfl, hb1⟩
    rw [HR2.out]
    have HB1 := Lib.hid hb1
    clear hb1 e1 e2 f1 f2
    have g2 : w1.cell? ⟨w.heap.size, 2, none⟩ = some (.slice A3 x.loc.length c3) := (HB1.out.cell (by have := HS.out; simp; omega)).trans E2.out
    have g3 : w1.cell? ⟨w.heap.size + 1, 2, none⟩ = some (.slice A4 y.loc.length c4) := (HB1.out.cell (by have := HS.out; simp; omega)).trans F2.out
    have HBW1 := Lib.hid (HB.out.trans (HB1.out.mono (by have := HS.out; omega)))
    by_cases h2 : r2 = 0
    · subst h2
      go_wp2_with fail
      refine (rowsP_any _ _ _ _ B _ (HL1'.out.keep keepsComp (Nat.le_refl _) ((Same.of_below HB1.out).mono hBW)) (HL2'.out.keep keepsComp (Nat.le_refl _) ((Same.of_below HB1.out).mono hBW)) (by have := HB1.out.size; omega)).mono ?_
      rintro e w2 ⟨rfl, hb2⟩
      have HB2 := Lib.hid hb2
      clear hb2
      go_wp2_with fail
      go_ret
      exact ⟨ret_int (by rw [HF.out, HR3.out, or2_second, or2_second]), HBW1.out.trans (HB2.out.mono (by have := HBW1.out.size; omega))⟩
    · have hzb : (r2 == 0) = false := by simpa using h2
      have hzn : (r2 != 0) = true := by simpa using h2
      go_wp2_with fail
      go_ret
      exact ⟨ret_int (by rw [HF.out, or2_second, or2_first h2]), HBW1.out⟩
  · have hzb : (r1 == 0) = false := by simpa using h1
    have hzn : (r1 != 0) = true := by simpa using h1
    go_wp2_with fail
    go_ret
    exact ⟨ret_int (by rw [HF.out, or2_first h1]), HB.out⟩
end Go.Proofs.YtkmoaeckabjgnaaDoor.V
