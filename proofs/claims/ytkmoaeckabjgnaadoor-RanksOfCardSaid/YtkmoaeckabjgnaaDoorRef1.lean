/-
  The walks of the document's own order: Less, item, part, hold, holdRows, Compare.
-/
import Derived.Test.YtkmoaeckabjgnaaDoorCmp5
namespace Go.Proofs.YtkmoaeckabjgnaaDoor.V
set_option linter.unusedVariables false
set_option linter.unusedSimpArgs false
open Go Go.RowKit Go.Sort

theorem cmpItem_same {x y : Item} (h : x.w = y.w) : cmpItem x y = cmpI x.n y.n := by
  unfold cmpItem
  rw [h, ordI.refl, ordL.refl]
  rfl
theorem cmpItem_other {x y : Item} (h : ¬ x.w = y.w) : cmpItem x y = -1 ↔ cls x.w < cls y.w ∨ (cls x.w = cls y.w ∧ cmpL x.w y.w = -1) := by
  have h0 : ¬ cmpL x.w y.w = 0 := by rw [cmpL_eq]; exact h
  unfold cmpItem or2 cmpI
  by_cases h1 : cls x.w < cls y.w
  · simp [h1]
  · by_cases h2 : cls y.w < cls x.w
    · have : ¬ cls x.w = cls y.w := by omega
      simp [h1, h2, this]
    · have : cls x.w = cls y.w := by omega
      simp [this, h0]
theorem cls_dev : cls [100, 101, 118] = 0 := by decide
theorem cls_post : cls [112, 111, 115, 116] = 3 := by decide
theorem cls_nil : cls [] = 2 := by decide
theorem cls_plain {l : List UInt8} (h1 : ¬ l = [100, 101, 118]) (h2 : ¬ l = []) (h3 : ¬ l = [112, 111, 115, 116]) : cls l = 1 := by unfold cls; rw [if_neg h1, if_neg h2, if_neg h3]
theorem cls_pos {l : List UInt8} (h1 : ¬ l = [100, 101, 118]) : 1 ≤ cls l := by unfold cls; rw [if_neg h1]; split <;> (try split) <;> omega
theorem cls_le2 {l : List UInt8} (h3 : ¬ l = [112, 111, 115, 116]) : cls l ≤ 2 := by unfold cls; split <;> (try split) <;> (try rw [if_neg h3]) <;> omega
/-- The document's 'Less', as it is written. -/
def lessL (x y : Item) : Bool :=
  if x.w = y.w then decide (x.n < y.n) else if x.w = [100, 101, 118] ∨ y.w = [112, 111, 115, 116] then true else if y.w = [100, 101, 118] ∨ x.w = [112, 111, 115, 116] then false
    else if x.w = [] then false else if y.w = [] then true else Op.bytesLess x.w y.w
theorem less_eq (x y : Item) : lessL x y = decide (cmpItem x y = -1) := by
  unfold lessL
  by_cases h : x.w = y.w
  · rw [if_pos h, cmpItem_same h]
    unfold cmpI
    by_cases h1 : x.n < y.n
    · simp [h1]
    · simp [h1]; split <;> omega
  · rw [if_neg h]
    have hh := cmpItem_other h
    by_cases h1 : x.w = [100, 101, 118]
    · rw [if_pos (.inl h1)]
      have h2 : ¬ y.w = [100, 101, 118] := fun e => h (h1.trans e.symm)
      have := cls_pos h2
      have h3 : cls x.w < cls y.w := by rw [h1, cls_dev]; omega
      exact (decide_eq_true (hh.2 (.inl h3))).symm
    · by_cases h2 : y.w = [112, 111, 115, 116]
      · rw [if_pos (.inr h2)]
        have h3 : ¬ x.w = [112, 111, 115, 116] := fun e => h (e.trans h2.symm)
        have := cls_le2 h3
        exact (decide_eq_true (hh.2 (.inl (by rw [h2, cls_post]; omega)))).symm
      · rw [if_neg (by simp [h1, h2])]
        have hx := cls_pos h1
        have hy := cls_le2 h2
        by_cases h3 : y.w = [100, 101, 118]
        · rw [if_pos (.inl h3)]
          have : cls y.w = 0 := by rw [h3, cls_dev]
          exact (decide_eq_false (fun e => by rcases hh.1 e with e | ⟨e, _⟩ <;> omega)).symm
        · by_cases h4 : x.w = [112, 111, 115, 116]
          · rw [if_pos (.inr h4)]
            have : cls x.w = 3 := by rw [h4, cls_post]
            exact (decide_eq_false (fun e => by rcases hh.1 e with e | ⟨e, _⟩ <;> omega)).symm
          · rw [if_neg (by simp [h3, h4])]
            by_cases h5 : x.w = []
            · rw [if_pos h5]
              have h6 : ¬ y.w = [] := fun e => h (h5.trans e.symm)
              have e1 : cls x.w = 2 := by rw [h5, cls_nil]
              have e2 := cls_plain h3 h6 h2
              exact (decide_eq_false (fun e => by rcases hh.1 e with e | ⟨e, _⟩ <;> omega)).symm
            · rw [if_neg h5]
              have e1 := cls_plain h1 h5 h4
              by_cases h6 : y.w = []
              · rw [if_pos h6]
                have e2 : cls y.w = 2 := by rw [h6, cls_nil]
                exact (decide_eq_true (hh.2 (.inl (by omega)))).symm
              · rw [if_neg h6]
                have e2 := cls_plain h3 h6 h2
                rw [cmpL_less]
                exact decide_eq_decide.2 ⟨fun e => hh.2 (.inr ⟨by omega, e⟩), fun e => by rcases hh.1 e with e | ⟨_, e⟩; (· omega); exact e⟩
theorem less_of {b : Bool} {x y : Item} (h : b = lessL x y) : b = decide (cmpItem x y = -1) := h.trans (less_eq x y)

theorem rLess_any (x y : Item) (w : World) : Calls Tryd.prog 73 #[.agg #[.int .i64 x.n, .string x.word], .agg #[.int .i64 y.n, .string y.word]] w fun e w' => e = .returned (.bool (decide (cmpItem x y = -1))) ∧ Below w.heap.size w w' := by
  go_enter Tryd.func73, Tryd.ntmps73
  go_wp2
  all_goals go_ret
  all_goals refine ⟨ret_bool (less_of ?_), ((Below.refl _ _).alloc (Nat.le_refl _) _).alloc (by simp) _⟩
  all_goals unfold lessL Item.w
  all_goals simp_all
end Go.Proofs.YtkmoaeckabjgnaaDoor.V
