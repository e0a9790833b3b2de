/-
  The walk of the document's Compare.
-/
import Derived.Test.YtkmoaeckabjgnaaDoorRef2
namespace Go.Proofs.YtkmoaeckabjgnaaDoor.V
set_option linter.unusedVariables false
set_option linter.unusedSimpArgs false
open Go Go.RowKit Go.Sort

theorem cmpI_cases (a b : Int) : (a < b ∧ cmpI a b = -1) ∨ (¬ a < b ∧ b < a ∧ cmpI a b = 1) ∨ (¬ a < b ∧ ¬ b < a ∧ cmpI a b = 0) := by
  unfold cmpI
  by_cases h1 : a < b
  · simp [h1]
  · by_cases h2 : b < a
    · simp [h1, h2]
    · simp [h1, h2]

set_option maxHeartbeats 1000000 in
theorem rCompare_any (va vb : Value) (x y : Ver) (B : Nat) (w : World) (ha : IsVer w (Lt B) va x) (hb : IsVer w (Lt B) vb y) (hB : B ≤ w.heap.size) :
    Calls Tryd.prog 15 #[va, vb] w fun e w' => e = .returned (.int .i64 (cmpVer x y)) ∧ Below w.heap.size w w' := by
  obtain ⟨p1, l1, rfl, _, hp1, hl1⟩ := ha
  obtain ⟨p2, l2, rfl, _, hp2, hl2⟩ := hb
  obtain ⟨A1, c1, rfl, _⟩ := hp1.form
  obtain ⟨A2, c2, rfl, _⟩ := hp2.form
  obtain ⟨A3, c3, rfl, _⟩ := hl1.form
  obtain ⟨A4, c4, rfl, _⟩ := hl2.form
  have hb : Below w.heap.size w ((w.alloc (.cells #[.int .i64 x.epoch, .slice A1 x.parts.length c1, .slice A3 x.loc.length c3] 33)).alloc (.cells #[.int .i64 y.epoch, .slice A2 y.parts.length c2, .slice A4 y.loc.length c4] 33)) := ((Below.refl _ _).alloc (Nat.le_refl _) _).alloc (by simp) _
  obtain ⟨k0, k1⟩ := cells_two w #[.int .i64 x.epoch, .slice A1 x.parts.length c1, .slice A3 x.loc.length c3] #[.int .i64 y.epoch, .slice A2 y.parts.length c2, .slice A4 y.loc.length c4] 33 33
  have hsz : w.heap.size + 2 = ((w.alloc (.cells #[.int .i64 x.epoch, .slice A1 x.parts.length c1, .slice A3 x.loc.length c3] 33)).alloc (.cells #[.int .i64 y.epoch, .slice A2 y.parts.length c2, .slice A4 y.loc.length c4] 33)).heap.size := by simp
  obtain ⟨W, hW⟩ : ∃ W, W = ((w.alloc (.cells #[.int .i64 x.epoch, .slice A1 x.parts.length c1, .slice A3 x.loc.length c3] 33)).alloc (.cells #[.int .i64 y.epoch, .slice A2 y.parts.length c2, .slice A4 y.loc.length c4] 33)) := ⟨_, rfl⟩
  rw [← hW] at hb hsz k0 k1
  have HWE := Lib.hid hW
  have HB := Lib.hid hb
  have HS := Lib.hid hsz
  clear hW hb hsz
  have HP1 := Lib.hid (hp1.keep keepsComp (Nat.le_refl _) ((Same.of_below HB.out).mono hB))
  have HP2 := Lib.hid (hp2.keep keepsComp (Nat.le_refl _) ((Same.of_below HB.out).mono hB))
  have HL1 := Lib.hid (hl1.keep keepsComp (Nat.le_refl _) ((Same.of_below HB.out).mono hB))
  have HL2 := Lib.hid (hl2.keep keepsComp (Nat.le_refl _) ((Same.of_below HB.out).mono hB))
  clear hp1 hp2 hl1 hl2
  have hBW : B ≤ W.heap.size := by have := HS.out; omega
  have e2 : W.cell? ⟨w.heap.size, 2, none⟩ = some (.slice A3 x.loc.length c3) := k0 2
  have f2 : W.cell? ⟨w.heap.size + 1, 2, none⟩ = some (.slice A4 y.loc.length c4) := k1 2
  have E2 := Lib.hid e2
  have F2 := Lib.hid f2
  clear e2 f2 k0 k1
  obtain ⟨r2, HR2⟩ : ∃ r, Hid (cmpParts x.parts y.parts = r) := ⟨_, Lib.hid rfl⟩
  obtain ⟨r3, HR3⟩ : ∃ r, Hid (cmpParts x.loc y.loc = r) := ⟨_, Lib.hid rfl⟩
  have HF : Hid (cmpVer x y = or2 (cmpI x.epoch y.epoch) (or2 r2 r3)) := Lib.hid (by unfold cmpVer; rw [HR2.out, HR3.out])
  have CP : Hid (Calls Tryd.prog 37 #[.slice A1 x.parts.length c1, .slice A2 y.parts.length c2] W fun e w' => e = .returned (.int .i64 r2) ∧ Below W.heap.size W w') := Lib.hid (by rw [← HR2.out]; exact rholdRows_any _ _ _ _ B W HP1.out HP2.out hBW)
  have CL : Hid (∀ w', Below W.heap.size W w' → Calls Tryd.prog 37 #[.slice A3 x.loc.length c3, .slice A4 y.loc.length c4] w' fun e w'' => e = .returned (.int .i64 r3) ∧ Below w'.heap.size w' w'') := Lib.hid (fun w' hw' => by
    rw [← HR3.out]
    exact rholdRows_any _ _ _ _ B w' (HL1.out.keep keepsComp (Nat.le_refl _) ((Same.of_below hw').mono hBW)) (HL2.out.keep keepsComp (Nat.le_refl _) ((Same.of_below hw').mono hBW)) (Nat.le_trans hBW hw'.size))
  clear HP1 HP2 HL1 HL2 HR2 HR3
  rcases cmpI_cases x.epoch y.epoch with ⟨h1, hc⟩ | ⟨h1, h2, hc⟩ | ⟨h1, h2, hc⟩
  · have HCI := Lib.hid hc
    clear hc
    go_enter Tryd.func15, Tryd.ntmps15
    go_wp2_with fail
    go_ret
    exact ⟨ret_int (by rw [HF.out, HCI.out]; rfl), by rw [← HWE.out]; exact HB.out⟩
  · have HCI := Lib.hid hc
    clear hc
    go_enter Tryd.func15, Tryd.ntmps15
    go_wp2_with fail
    go_ret
    exact ⟨ret_int (by rw [HF.out, HCI.out]; rfl), by rw [← HWE.out]; exact HB.out⟩
  · have HCI := Lib.hid hc
    clear hc
    go_enter Tryd.func15, Tryd.ntmps15
    go_wp2_with fail
    rw [← HWE.out]
    refine CP.out.mono ?_
    rintro e w1 ⟨rfl, hb1⟩
    have g2 : w1.cell? ⟨w.heap.size, 2, none⟩ = some (.slice A3 x.loc.length c3) := (hb1.cell (by have := HS.out; show w.heap.size < _; omega)).trans E2.out
    have g3 : w1.cell? ⟨w.heap.size + 1, 2, none⟩ = some (.slice A4 y.loc.length c4) := (hb1.cell (by have := HS.out; show w.heap.size + 1 < _; omega)).trans F2.out
    have HB1 := Lib.hid hb1
    have HBW1 := Lib.hid (HB.out.trans (hb1.mono HB.out.size))
    clear hb1
    by_cases h2 : r2 = 0
    · subst h2
      go_wp2_with fail
      refine (CL.out _ HB1.out).mono ?_
      rintro e w2 ⟨rfl, hb2⟩
      have HB2 := Lib.hid hb2
      clear hb2
      go_wp2_with fail
      go_ret
      exact ⟨ret_int (by rw [HF.out, HCI.out]; rfl), HBW1.out.trans (HB2.out.mono HBW1.out.size)⟩
    · have hzb : (r2 == 0) = false := by simpa using h2
      have hzn : (r2 != 0) = true := by simpa using h2
      go_wp2_with fail
      go_ret
      exact ⟨ret_int (by rw [HF.out, HCI.out, or2_second, or2_first h2]), HBW1.out⟩
end Go.Proofs.YtkmoaeckabjgnaaDoor.V
