/-
  Plain facts for the document's Components: where a component ends; which bytes it may have.
-/
import Derived.Test.YtmlmaklighgiiaaDoorTPlain
namespace Go.Proofs.YtmlmaklighgiiaaDoor.V
set_option linter.unusedVariables false
set_option linter.unusedSimpArgs false
open Go

def good (b : UInt8) : Bool := dig b || let_ b
def sepB (b : UInt8) : Bool := sepL.contains b
theorem good_not_sep {b : UInt8} (h : good b = true) : sepB b = false := by
  cases hs : sepB b with
  | false => rfl
  | true =>
    simp only [sepB, sepL, List.contains_cons, List.contains_nil, Bool.or_false, Bool.or_eq_true, beq_iff_eq] at hs
    rcases hs with rfl | rfl | rfl <;> exact absurd h (by decide)
theorem let_not_dig {b : UInt8} (h : let_ b = true) : dig b = false := by
  simp only [let_, letB, dig, digB, Bool.and_eq_true, decide_eq_true_eq, Bool.and_eq_false_iff, decide_eq_false_iff_not] at *
  omega
theorem indexAny_cons (a : UInt8) (l : List UInt8) : Lib.indexAny (a :: l) sepL = if sepB a = true then 0 else if (Lib.indexAny l sepL == -1) = true then -1 else Lib.indexAny l sepL + 1 := rfl
theorem indexAny_first {l : List UInt8} : ∀ {k : Nat} {b : UInt8}, l[k]? = some b → sepB b = true → (∀ j x, j < k → l[j]? = some x → sepB x = false) → Lib.indexAny l sepL = k := by
  induction l with
  | nil => intro k b h; simp at h
  | cons a l ih =>
    intro k b h hb hn
    cases k with
    | zero =>
      obtain rfl : a = b := by simpa using h
      rw [indexAny_cons, if_pos hb]
      rfl
    | succ k =>
      have ha : sepB a = false := hn 0 a (by omega) rfl
      have := ih (k := k) (b := b) (by simpa using h) hb (fun j x hj hx => hn (j + 1) x (by omega) (by simpa using hx))
      rw [indexAny_cons, if_neg (by simp [ha]), this]
      have : ((k : Int) == -1) = false := by simp
      rw [this]
      simp
theorem indexAny_none {l : List UInt8} : (∀ (j : Nat) (x : UInt8), l[j]? = some x → sepB x = false) → Lib.indexAny l sepL = -1 := by
  induction l with
  | nil => intro _; rfl
  | cons a l ih =>
    intro hn
    have ha : sepB a = false := hn 0 a rfl
    have := ih (fun j x hx => hn (j + 1) x (by simpa using hx))
    rw [indexAny_cons, if_neg (by simp [ha]), this]
    rfl
theorem indexAny_sep {l : List UInt8} : ∀ {k : Nat}, Lib.indexAny l sepL = k → ∃ b, l[k]? = some b ∧ sepB b = true := by
  induction l with
  | nil => intro k h; simp [Lib.indexAny] at h
  | cons a l ih =>
    intro k h
    rw [indexAny_cons] at h
    by_cases ha : sepB a = true
    · rw [if_pos ha] at h
      have : k = 0 := by omega
      subst this
      exact ⟨a, rfl, ha⟩
    · rw [if_neg ha] at h
      rcases indexAny_cases sepL l with h1 | ⟨k', h1, _⟩
      · rw [h1] at h
        simp at h
      · rw [h1] at h
        have h2 : ((k' : Int) == -1) = false := by simp
        rw [h2] at h
        simp at h
        obtain rfl : k = k' + 1 := by omega
        obtain ⟨b, hb, hs⟩ := ih h1
        exact ⟨b, by simpa using hb, hs⟩
theorem runN_good {p : UInt8 → Bool} {l : List UInt8} {k : Nat} {b : UInt8} (hb : l[k]? = some b) (hn : p b = false) : runN p l ≤ k := by
  induction l generalizing k with
  | nil => simp at hb
  | cons a l ih =>
    cases k with
    | zero =>
      obtain rfl : a = b := by simpa using hb
      unfold runN
      rw [if_neg (by simp [hn])]
      exact Nat.le_refl _
    | succ k =>
      have := ih (k := k) (by simpa using hb)
      unfold runN
      split <;> omega
theorem compA_bad (n : Nat) : ∀ {l : List UInt8} {k : Nat} {b : UInt8}, l.length ≤ n → l[k]? = some b → good b = false → compA l = none := by
  induction n with
  | zero =>
    intro l k b hl hb _
    have : l = [] := List.eq_nil_of_length_eq_zero (by omega)
    subst this
    simp at hb
  | succ n ih =>
    intro l k b hl hb hg
    have hlet : let_ b = false := by cases h : let_ b <;> simp [good, h] at hg ⊢
    have hdig : dig b = false := by cases h : dig b <;> simp [good, h] at hg ⊢
    have hk := (List.getElem?_eq_some_iff.1 hb).1
    obtain ⟨a, ha⟩ : ∃ a, l[0]? = some a := ⟨_, List.getElem?_eq_getElem (by omega)⟩
    by_cases h1 : let_ a = true
    · rw [compA_let ha h1]
      have h2 := runN_good (p := let_) hb hlet
      have h3 : 1 ≤ runN let_ l := by
        cases l with
        | nil => simp at ha
        | cons c l => obtain rfl : c = a := by simpa using ha
                      exact runN_pos h1
      rw [ih (l := l.drop (runN let_ l)) (k := k - runN let_ l) (b := b) (by rw [List.length_drop]; omega) (by rw [List.getElem?_drop]; rw [show runN let_ l + (k - runN let_ l) = k by omega]; exact hb) hg]
      rfl
    · have h1' : let_ a = false := by simpa using h1
      by_cases h4 : dig a = true
      · rw [compA_dig ha h1' h4]
        have h2 := runN_good (p := dig) hb hdig
        have h3 : 1 ≤ runN dig l := by
          cases l with
          | nil => simp at ha
          | cons c l => obtain rfl : c = a := by simpa using ha
                        exact runN_pos h4
        rw [ih (l := l.drop (runN dig l)) (k := k - runN dig l) (b := b) (by rw [List.length_drop]; omega) (by rw [List.getElem?_drop]; rw [show runN dig l + (k - runN dig l) = k by omega]; exact hb) hg]
        cases smallL (l.take (runN dig l)) maxI <;> rfl
      · exact compA_no ha h1' (by simpa using h4)
theorem compL_bad {l : List UInt8} {k : Nat} {b : UInt8} (hb : l[k]? = some b) (hg : good b = false) : compL l = none := by
  unfold compL
  split
  · rfl
  · rw [compA_bad l.length (Nat.le_refl _) hb hg]
    rfl
/-- A byte that no component has: none. -/
theorem compsL_bad {l : List UInt8} {k : Nat} {b : UInt8} (hb : l[k]? = some b) (hg : good b = false) (hs : sepB b = false) (hn : ∀ j x, j < k → l[j]? = some x → sepB x = false) : compsL l = none := by
  rcases indexAny_cases sepL l with h | ⟨m, h, hm⟩
  · rw [compsL_one h, compL_bad hb hg]
    rfl
  · obtain ⟨c, hc, hcs⟩ := indexAny_sep h
    have hkm : k < m := by
      rcases Nat.lt_trichotomy k m with e | e | e
      · exact e
      · subst e
        rw [hb] at hc
        obtain rfl := Option.some.inj hc
        rw [hs] at hcs
        cases hcs
      · have := hn m c e hc
        rw [this] at hcs
        cases hcs
    rw [compsL_more h hm, compL_bad (l := l.take m) (k := k) (b := b) (by rw [List.getElem?_take, if_pos hkm]; exact hb) hg]
    rfl
section
variable {L : List UInt8} {X : Option (List (List Item))} {acc : List (List Item)} {fr k : Nat}
theorem comps_end_more (h : X = (compsL (L.drop fr)).map (acc ++ ·)) (hfr : fr ≤ k) {b : UInt8} (hb : L[k]? = some b) (hs : sepB b = true) (hn : ∀ j x, fr ≤ j → j < k → L[j]? = some x → sepB x = false) :
    X = (compL ((L.drop fr).take (k - fr))).bind fun c => (compsL (L.drop (k + 1))).map ((acc ++ [c]) ++ ·) := by
  have hk := (List.getElem?_eq_some_iff.1 hb).1
  have hi : Lib.indexAny (L.drop fr) sepL = ((k - fr : Nat) : Int) := indexAny_first (b := b) (by rw [List.getElem?_drop, show fr + (k - fr) = k by omega]; exact hb) hs
    (fun j x hj hx => hn (fr + j) x (by omega) (by omega) (by rw [List.getElem?_drop] at hx; exact hx))
  rw [h, compsL_more hi (by rw [List.length_drop]; omega), List.drop_drop, show fr + (k - fr + 1) = k + 1 by omega]
  cases compL ((L.drop fr).take (k - fr)) with
  | none => rfl
  | some c => cases compsL (L.drop (k + 1)) <;> simp
theorem comps_end_last (h : X = (compsL (L.drop fr)).map (acc ++ ·)) (hk : k = L.length) (hn : ∀ j x, fr ≤ j → j < k → L[j]? = some x → sepB x = false) :
    X = (compL ((L.drop fr).take (k - fr))).map fun c => acc ++ [c] := by
  have hi : Lib.indexAny (L.drop fr) sepL = -1 := indexAny_none (fun j x hx => by
    rw [List.getElem?_drop] at hx
    exact hn (fr + j) x (by omega) (by rw [hk]; exact (List.getElem?_eq_some_iff.1 hx).1) hx)
  rw [h, compsL_one hi, List.take_of_length_le (by rw [List.length_drop, hk]; exact Nat.le_refl _)]
  cases compL (L.drop fr) <;> rfl
theorem comps_bad (h : X = (compsL (L.drop fr)).map (acc ++ ·)) (hfr : fr ≤ k) {b : UInt8} (hb : L[k]? = some b) (hg : good b = false) (hs : sepB b = false) (hn : ∀ j x, fr ≤ j → j < k → L[j]? = some x → sepB x = false) : X = none := by
  rw [h, compsL_bad (l := L.drop fr) (k := k - fr) (b := b) (by rw [List.getElem?_drop, show fr + (k - fr) = k by omega]; exact hb) hg hs
    (fun j x hj hx => hn (fr + j) x (by omega) (by omega) (by rw [List.getElem?_drop] at hx; exact hx))]
  rfl
end
/-- A run of one sort, of bytes that are digits or letters. -/
theorem run_sort {l : List UInt8} {a e : Nat} {b : UInt8} {p : UInt8 → Bool} (hp : ∀ x, good x = true → (p x = true ↔ dig x = dig b)) (hg : ∀ (j : Nat) (x : UInt8), l[j]? = some x → good x = true) (ha : a ≤ e) (he : e ≤ l.length)
    (hr : ∀ (j : Nat) (x : UInt8), a ≤ j → j < e → l[j]? = some x → dig x = dig b) (hend : ∀ x, l[e]? = some x → ¬ dig x = dig b) : runN p (l.drop a) = e - a := by
  apply runN_at
  · intro j x hj hx
    rw [List.getElem?_drop] at hx
    exact (hp x (hg _ _ hx)).2 (hr (a + j) x (by omega) (by omega) hx)
  · rw [List.length_drop]; omega
  · intro x hx
    rw [List.getElem?_drop, show a + (e - a) = e by omega] at hx
    cases h : p x with
    | false => rfl
    | true => exact absurd ((hp x (hg _ _ hx)).1 h) (hend x hx)
theorem sort_dig {b : UInt8} (hb : dig b = true) (x : UInt8) (_ : good x = true) : dig x = true ↔ dig x = dig b := by rw [hb]
theorem sort_let {b : UInt8} (hb : dig b = false) (x : UInt8) (hx : good x = true) : let_ x = true ↔ dig x = dig b := by
  rw [hb]
  constructor
  · exact let_not_dig
  · intro h
    simpa [good, h] using hx
theorem small_most {l : List UInt8} : smallL l 1000000000000000 = smallL l maxI := by
  unfold smallL
  split
  · rfl
  · rename_i h
    have hd : l.all dig = true := by
      cases hd : l.all dig with
      | true => rfl
      | false => exact absurd (.inr (.inr hd)) h
    obtain ⟨h3, h4⟩ := numL_bound l 0 (by omega) (fun b hb => List.all_eq_true.1 hd b hb)
    have h5 : (10 : Int) ^ l.length ≤ 10 ^ 15 := by
      have := Nat.pow_le_pow_right (n := 10) (show 0 < 10 by omega) (show l.length ≤ 15 by omega)
      exact_mod_cast this
    unfold maxI
    rw [if_neg (by omega), if_neg (by omega)]
end Go.Proofs.YtmlmaklighgiiaaDoor.V
