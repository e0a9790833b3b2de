/-
  More plain laws of ranks: a record that is off; the document's ranks are these.
-/
import Derived.Test.YtkmoaeckabjgnaaDoorKRank
namespace Go.Proofs.YtkmoaeckabjgnaaDoor.V
set_option linter.unusedVariables false
set_option linter.unusedSimpArgs false
open Go Go.RowKit

/-- One that is off makes none greater; of other names it changes nothing. -/
theorem getD_set_false (on : List Bool) (off i : Nat) : (on.set off false).getD i false = (on.getD i false && !(i == off)) := by
  by_cases h : i = off
  · subst h
    by_cases hl : i < on.length <;> simp [List.getD, List.getElem?_set, hl]
  · have h2 : (i == off) = false := by simpa using h
    rw [h2]
    simp [List.getD, List.getElem?_set_ne (Ne.symm h)]
theorem onP_off (xs : List Rcd) (on : List Bool) (off : Nat) (nm : ByteArray) (A : Rcd → Bool) (i : Nat) : onP xs (on.set off false) nm A i = (onP xs on nm A i && !(i == off)) := by
  unfold onP baseP
  rw [getD_set_false]
  cases on.getD i false <;> cases (i == off) <;> simp
theorem diff_off (xs : List Rcd) (on : List Bool) (off : Nat) (nm : ByteArray) (A : Rcd → Bool) (E : Rcd → Rcd → Bool) (hr : ∀ a, E a a = true) (hs : ∀ a b, E a b = true → E b a = true) (ht : ∀ a b c, E a b = true → E b c = true → E a c = true) :
    diffL xs (on.set off false) nm A E ≤ diffL xs on nm A E := by
  rw [diffL_cnt _ _ _ _ _ hr ht, diffL_cnt _ _ _ _ _ hr ht]
  exact (cnt_off (E := eqP xs E) (fun a b h => hs (recAt xs a) (recAt xs b) h) (fun a b c h k => ht (recAt xs a) (recAt xs b) (recAt xs c) h k) (onP_off xs on off nm A) xs.length).1
theorem fnd_congr {P Q : Nat → Bool} {E : Nat → Nat → Bool} : ∀ n : Nat, (∀ i, i < n → P i = Q i) → fnd P E n = fnd Q E n := by
  intro n
  induction n with
  | zero => intro _; rfl
  | succ n ih => intro h; rw [fnd, fnd, ih (fun i hi => h i (by omega)), h n (by omega)]
theorem diff_other (xs : List Rcd) (on : List Bool) (off : Nat) (nm : ByteArray) (A : Rcd → Bool) (E : Rcd → Rcd → Bool) (h : nmE (recAt xs off).name nm = false) :
    diffL xs (on.set off false) nm A E = diffL xs on nm A E := by
  unfold diffL
  rw [fnd_congr (Q := onP xs on nm A) xs.length (fun i _ => by
    rw [onP_off]
    by_cases hi : i = off
    · subst hi
      unfold onP baseP
      rw [h]
      simp
    · rw [show (i == off) = false by simpa using hi]
      simp)]
theorem eqNum_eqv : (∀ a, eqNum a a = true) ∧ (∀ a b, eqNum a b = true → eqNum b a = true) ∧ (∀ a b c, eqNum a b = true → eqNum b c = true → eqNum a c = true) := by
  simp only [eqNum, beq_iff_eq]
  exact ⟨fun _ => trivial, fun _ _ h => h.symm, fun _ _ _ h k => h.trans k⟩
theorem eqTime_eqv : (∀ a, eqTime a a = true) ∧ (∀ a b, eqTime a b = true → eqTime b a = true) ∧ (∀ a b c, eqTime a b = true → eqTime b c = true → eqTime a c = true) := by
  simp only [eqTime, beq_iff_eq]
  exact ⟨fun _ => trivial, fun _ _ h => h.symm, fun _ _ _ h k => h.trans k⟩
theorem rankV_off (xs : List Rcd) (on : List Bool) (off : Nat) (r : Rcd) : rankV xs (on.set off false) r ≤ rankV xs on r := diff_off _ _ _ _ _ _ verE_refl (fun _ _ => verE_symm) (fun _ _ _ => verE_trans)
theorem rankN_off (xs : List Rcd) (on : List Bool) (off : Nat) (r : Rcd) : rankN xs (on.set off false) r ≤ rankN xs on r := diff_off _ _ _ _ _ _ eqNum_eqv.1 eqNum_eqv.2.1 eqNum_eqv.2.2
theorem rankT_off (xs : List Rcd) (on : List Bool) (off : Nat) (r : Rcd) : rankT xs (on.set off false) r ≤ rankT xs on r := diff_off _ _ _ _ _ _ eqTime_eqv.1 eqTime_eqv.2.1 eqTime_eqv.2.2

/-! The document's ranks: an element counts if none of its name and version (and number, and time) that is on stands ahead of it. -/
def sameR (a b : Rcd) : Bool := nmE a.name b.name && verE a b
def docV (xs : List Rcd) (on : List Bool) (r : Rcd) (i : Nat) : Bool :=
  baseP xs on r.name i && newer r (recAt xs i) && (List.range i).all fun k => !(on.getD k false && sameR (recAt xs i) (recAt xs k))
def docN (xs : List Rcd) (on : List Bool) (r : Rcd) (i : Nat) : Bool :=
  baseP xs on r.name i && greater r (recAt xs i) && (List.range i).all fun k => !(on.getD k false && sameR (recAt xs i) (recAt xs k) && eqNum (recAt xs k) (recAt xs i))
def docT (xs : List Rcd) (on : List Bool) (r : Rcd) (i : Nat) : Bool :=
  baseP xs on r.name i && later r (recAt xs i) && (List.range i).all fun k => !(on.getD k false && sameR (recAt xs i) (recAt xs k) && eqNum (recAt xs k) (recAt xs i) && eqTime (recAt xs k) (recAt xs i))
theorem nmE_trans {a b c : ByteArray} (h : nmE a b = true) (k : nmE b c = true) : nmE a c = true := by simp [nmE] at *; rw [h, k]
theorem nmE_symm {a b : ByteArray} (h : nmE a b = true) : nmE b a = true := by simp [nmE] at *; exact h.symm
theorem all_iff {i : Nat} {f : Nat → Bool} : (List.range i).all f = true ↔ ∀ k, k < i → f k = true := by
  rw [List.all_eq_true]
  exact ⟨fun h k hk => h k (List.mem_range.2 hk), fun h k hk => h k (List.mem_range.1 hk)⟩
theorem doc_gen {xs : List Rcd} {on : List Bool} {r : Rcd} {A : Rcd → Bool} {E E' : Rcd → Rcd → Bool} {i : Nat}
    (h : baseP xs on r.name i = true → A (recAt xs i) = true → ∀ k, (onP xs on r.name A k = true ∧ E (recAt xs k) (recAt xs i) = true) ↔ (on.getD k false = true ∧ sameR (recAt xs i) (recAt xs k) = true ∧ E' (recAt xs k) (recAt xs i) = true)) :
    isFirst (onP xs on r.name A) (eqP xs E) i = (baseP xs on r.name i && A (recAt xs i) && (List.range i).all fun k => !(on.getD k false && sameR (recAt xs i) (recAt xs k) && E' (recAt xs k) (recAt xs i))) := by
  rw [Bool.eq_iff_iff, isFirst_iff, Bool.and_eq_true, Bool.and_eq_true, all_iff]
  have hp : onP xs on r.name A i = true ↔ baseP xs on r.name i = true ∧ A (recAt xs i) = true := by unfold onP; rw [Bool.and_eq_true]
  constructor
  · rintro ⟨h1, h2⟩
    refine ⟨hp.1 h1, fun k hk => ?_⟩
    cases hc : (on.getD k false && sameR (recAt xs i) (recAt xs k) && E' (recAt xs k) (recAt xs i)) with
    | false => rfl
    | true =>
      rw [Bool.and_eq_true, Bool.and_eq_true] at hc
      obtain ⟨g1, g2⟩ := (h (hp.1 h1).1 (hp.1 h1).2 k).2 ⟨hc.1.1, hc.1.2, hc.2⟩
      have := h2 k hk g1
      unfold eqP at this
      rw [g2] at this
      cases this
  · rintro ⟨h1, h2⟩
    refine ⟨hp.2 h1, fun k hk hk' => ?_⟩
    cases hc : eqP xs E k i with
    | false => rfl
    | true =>
      obtain ⟨g1, g2, g3⟩ := (h h1.1 h1.2 k).1 ⟨hk', hc⟩
      have := h2 k hk
      rw [g1, g2, g3] at this
      cases this
theorem base_iff {xs : List Rcd} {on : List Bool} {nm : ByteArray} {i : Nat} : baseP xs on nm i = true ↔ on.getD i false = true ∧ nmE (recAt xs i).name nm = true := by unfold baseP; rw [Bool.and_eq_true]
theorem docV_eq (xs : List Rcd) (on : List Bool) (r : Rcd) (i : Nat) : isFirst (onP xs on r.name (newer r)) (eqP xs verE) i = docV xs on r i := by
  rw [doc_gen (E' := fun _ _ => true) (fun hb ha k => ?_)]
  · unfold docV
    simp only [Bool.and_true]
  · obtain ⟨b1, b2⟩ := base_iff.1 hb
    unfold onP
    rw [Bool.and_eq_true, base_iff, sameR, Bool.and_eq_true]
    constructor
    · rintro ⟨⟨⟨h1, h2⟩, h3⟩, h4⟩
      exact ⟨h1, ⟨nmE_trans b2 (nmE_symm h2), verE_symm h4⟩, rfl⟩
    · rintro ⟨h1, ⟨h2, h3⟩, _⟩
      exact ⟨⟨⟨h1, nmE_trans (nmE_symm h2) b2⟩, by rw [← newer_eq h3]; exact ha⟩, verE_symm h3⟩
theorem docN_eq (xs : List Rcd) (on : List Bool) (r : Rcd) (i : Nat) : isFirst (onP xs on r.name (greater r)) (eqP xs eqNum) i = docN xs on r i := by
  rw [doc_gen (E' := eqNum) (fun hb ha k => ?_)]
  · rfl
  · obtain ⟨b1, b2⟩ := base_iff.1 hb
    unfold greater at *
    unfold onP
    simp only [Bool.and_eq_true, base_iff, sameR, decide_eq_true_eq] at *
    constructor
    · rintro ⟨⟨⟨h1, h2⟩, h3⟩, h4⟩
      exact ⟨h1, ⟨nmE_trans b2 (nmE_symm h2), verE_trans ha.2 (verE_symm h3.2)⟩, h4⟩
    · rintro ⟨h1, ⟨h2, h3⟩, h4⟩
      have h5 : (recAt xs k).num = (recAt xs i).num := by simpa [eqNum] using h4
      exact ⟨⟨⟨h1, nmE_trans (nmE_symm h2) b2⟩, by rw [h5]; exact ha.1, verE_trans (verE_symm h3) ha.2⟩, h4⟩
theorem docT_eq (xs : List Rcd) (on : List Bool) (r : Rcd) (i : Nat) : isFirst (onP xs on r.name (later r)) (eqP xs eqTime) i = docT xs on r i := by
  rw [doc_gen (E' := fun a b => eqNum a b && eqTime a b) (fun hb ha k => ?_)]
  · unfold docT
    congr 2
    funext k
    simp only [Bool.and_assoc]
  · obtain ⟨b1, b2⟩ := base_iff.1 hb
    unfold later at *
    unfold onP
    simp only [Bool.and_eq_true, base_iff, sameR, decide_eq_true_eq, beq_iff_eq] at *
    constructor
    · rintro ⟨⟨⟨h1, h2⟩, h3⟩, h4⟩
      exact ⟨h1, ⟨nmE_trans b2 (nmE_symm h2), verE_trans ha.2 (verE_symm h3.2)⟩, by simp only [eqNum, beq_iff_eq]; omega, h4⟩
    · rintro ⟨h1, ⟨h2, h3⟩, h4, h6⟩
      have h5 : (recAt xs k).num = (recAt xs i).num := by simpa [eqNum] using h4
      have h7 : (recAt xs k).time = (recAt xs i).time := by simpa [eqTime] using h6
      exact ⟨⟨⟨h1, nmE_trans (nmE_symm h2) b2⟩, ⟨by rw [h7]; exact ha.1.1, by rw [h5]; exact ha.1.2⟩, verE_trans (verE_symm h3) ha.2⟩, h6⟩
theorem rankV_doc (xs : List Rcd) (on : List Bool) (r : Rcd) : rankV xs on r = cnt (docV xs on r) xs.length := by rw [rankV_cnt]; exact cnt_congr _ (fun i _ => docV_eq xs on r i)
theorem rankN_doc (xs : List Rcd) (on : List Bool) (r : Rcd) : rankN xs on r = cnt (docN xs on r) xs.length := by rw [rankN_cnt]; exact cnt_congr _ (fun i _ => docN_eq xs on r i)
theorem rankT_doc (xs : List Rcd) (on : List Bool) (r : Rcd) : rankT xs on r = cnt (docT xs on r) xs.length := by rw [rankT_cnt]; exact cnt_congr _ (fun i _ => docT_eq xs on r i)
end Go.Proofs.YtkmoaeckabjgnaaDoor.V
