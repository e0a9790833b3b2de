/-
  Plain law of VersionNoughts: capitals, other separators, and components 0 at the end: what is parsed stands ahead with noughts behind it.
-/
import Derived.Test.YtmlmaklighgiiaaDoorBPlain
import Derived.Test.YtmlmaklighgiiaaDoorRefTPlain
import Derived.Test.YtmlmaklighgiiaaDoorRefT1
namespace Go.Proofs.YtmlmaklighgiiaaDoor.V
set_option linter.unusedVariables false
set_option linter.unusedSimpArgs false
open Go

/-- Byte i of the turned text. -/
def turnB (i : Nat) (b : UInt8) : UInt8 :=
  if 97 ≤ b.toNat ∧ b.toNat ≤ 122 then UInt8.ofNat (b.toNat - 32) else if b = 46 then sepL.getD (i % 3) 46 else b
/-- Two texts that differ in which separators stand where alone. -/
inductive SepEq : List UInt8 → List UInt8 → Prop
  | nil : SepEq [] []
  | same (b : UInt8) {l l' : List UInt8} : SepEq l l' → SepEq (b :: l) (b :: l')
  | sep {a b : UInt8} {l l' : List UInt8} : sepB a = true → sepB b = true → SepEq l l' → SepEq (a :: l) (b :: l')
theorem SepEq.refl : ∀ l, SepEq l l
  | [] => .nil
  | b :: l => .same b (SepEq.refl l)
theorem SepEq.len {l l' : List UInt8} (h : SepEq l l') : l.length = l'.length := by
  induction h with
  | nil => rfl
  | same b _ ih => simp [ih]
  | sep _ _ _ ih => simp [ih]
theorem SepEq.find {l l' : List UInt8} (h : SepEq l l') {c : UInt8} (hc : sepB c = false) : findL c l = findL c l' := by
  induction h with
  | nil => rfl
  | same b _ ih => unfold findL; rw [ih]
  | sep ha hb _ ih =>
    unfold findL
    have h1 : ∀ {x : UInt8}, sepB x = true → ¬ x = c := fun {x} hx e => by
      rw [e, hc] at hx
      cases hx
    rw [ih]
    simp only [h1 ha, h1 hb, if_false]
theorem SepEq.take {l l' : List UInt8} (h : SepEq l l') : ∀ k, SepEq (l.take k) (l'.take k) := by
  induction h with
  | nil => intro k; simpa using SepEq.nil
  | same b _ ih => intro k; cases k with
    | zero => exact .nil
    | succ k => exact .same b (ih k)
  | sep ha hb _ ih => intro k; cases k with
    | zero => exact .nil
    | succ k => exact .sep ha hb (ih k)
theorem SepEq.drop {l l' : List UInt8} (h : SepEq l l') : ∀ k, SepEq (l.drop k) (l'.drop k) := by
  induction h with
  | nil => intro k; simpa using SepEq.nil
  | same b h ih => intro k; cases k with
    | zero => exact .same b h
    | succ k => exact ih k
  | sep ha hb h ih => intro k; cases k with
    | zero => exact .sep ha hb h
    | succ k => exact ih k
theorem SepEq.index {l l' : List UInt8} (h : SepEq l l') : Lib.indexAny l sepL = Lib.indexAny l' sepL := by
  induction h with
  | nil => rfl
  | same b _ ih => rw [indexAny_cons, indexAny_cons, ih]
  | sep ha hb _ ih => rw [indexAny_cons, indexAny_cons, if_pos ha, if_pos hb]
theorem SepEq.eq {l l' : List UInt8} (h : SepEq l l') : (∀ x ∈ l, sepB x = false) → l = l' := by
  induction h with
  | nil => intro _; rfl
  | same b _ ih => intro hn; rw [ih (fun x hx => hn x (by simp [hx]))]
  | @sep a b l l' ha hb _ ih =>
    intro hn
    have h1 := hn a (List.mem_cons_self ..)
    rw [h1] at ha
    cases ha
theorem indexAny_before {l : List UInt8} : ∀ {k : Nat}, Lib.indexAny l sepL = k → ∀ x ∈ l.take k, sepB x = false := by
  induction l with
  | nil => intro k _ x hx; simp at hx
  | cons a l ih =>
    intro k h x hx
    rw [indexAny_cons] at h
    by_cases ha : sepB a = true
    · rw [if_pos ha] at h
      have : k = 0 := by omega
      subst this
      simp at hx
    · rw [if_neg ha] at h
      rcases indexAny_cases sepL l with h1 | ⟨k', h1, _⟩
      · rw [h1] at h
        simp at h
      · rw [h1] at h
        have h2 : ((k' : Int) == -1) = false := by simp
        rw [h2] at h
        simp at h
        obtain rfl : k = k' + 1 := by omega
        simp at hx
        rcases hx with rfl | hx
        · simpa using ha
        · exact ih h1 x hx
theorem indexAny_never {l : List UInt8} : Lib.indexAny l sepL = -1 → ∀ x ∈ l, sepB x = false := by
  induction l with
  | nil => intro _ x hx; simp at hx
  | cons a l ih =>
    intro h x hx
    rw [indexAny_cons] at h
    by_cases ha : sepB a = true
    · rw [if_pos ha] at h
      cases h
    · rw [if_neg ha] at h
      rcases indexAny_cases sepL l with h1 | ⟨k', h1, _⟩
      · simp at hx
        rcases hx with rfl | hx
        · simpa using ha
        · exact ih h1 x hx
      · rw [h1] at h
        have h2 : ((k' : Int) == -1) = false := by simp
        rw [h2] at h
        simp at h
        omega
theorem SepEq.comps (n : Nat) : ∀ {l l' : List UInt8}, l.length ≤ n → SepEq l l' → compsL l = compsL l' := by
  induction n with
  | zero =>
    intro l l' hl h
    have h1 : l = [] := List.eq_nil_of_length_eq_zero (by omega)
    have h2 : l' = [] := List.eq_nil_of_length_eq_zero (by rw [← h.len]; omega)
    rw [h1, h2]
  | succ n ih =>
    intro l l' hl h
    rcases indexAny_cases sepL l with h1 | ⟨k, h1, hk⟩
    · rw [h.eq (indexAny_never h1)]
    · have h2 := h.index.symm.trans h1
      rw [compsL_more h1 hk, compsL_more h2 (by rw [← h.len]; exact hk), (h.take k).eq (indexAny_before h1), ih (by rw [List.length_drop]; omega) (h.drop (k + 1))]
theorem comps_zero : compsL [48] = some [[Item.zero]] := by rfl
/-- ".0" at the end. -/
theorem comps_nought (n : Nat) : ∀ {l : List UInt8}, l.length ≤ n → compsL (l ++ [46, 48]) = (compsL l).map (· ++ [[Item.zero]]) := by
  induction n with
  | zero =>
    intro l hl
    have h1 : l = [] := List.eq_nil_of_length_eq_zero (by omega)
    subst h1
    rfl
  | succ n ih =>
    intro l hl
    rcases indexAny_cases sepL l with h1 | ⟨k, h1, hk⟩
    · have h2 : Lib.indexAny (l ++ [46, 48]) sepL = (l.length : Nat) := indexAny_first (b := 46) (by simp) (by decide) (fun j x hj hx => by
        rw [List.getElem?_append_left hj] at hx
        exact indexAny_never h1 x (List.mem_of_getElem? hx))
      rw [compsL_more h2 (by simp), compsL_one h1]
      have h3 : (l ++ [46, 48]).take l.length = l := by simp
      have h4 : (l ++ [46, 48]).drop (l.length + 1) = [48] := by simp
      rw [h3, h4, comps_zero]
      cases compL l <;> rfl
    · obtain ⟨b, hb, hs⟩ := indexAny_sep h1
      have h2 : Lib.indexAny (l ++ [46, 48]) sepL = (k : Nat) := indexAny_first (b := b) (by rw [List.getElem?_append_left hk]; exact hb) hs (fun j x hj hx => by
        rw [List.getElem?_append_left (by omega)] at hx
        exact indexAny_before h1 x (List.mem_of_getElem? (by rw [List.getElem?_take, if_pos hj]; exact hx)))
      rw [compsL_more h2 (by simp; omega), compsL_more h1 hk, List.take_append_of_le_length (by omega), List.drop_append_of_le_length (by omega), ih (by rw [List.length_drop]; omega)]
      cases compL (l.take k) with
      | none => rfl
      | some c => cases compsL (l.drop (k + 1)) <;> rfl
def zerosL : Nat → List UInt8
  | 0 => []
  | k + 1 => zerosL k ++ [46, 48]
theorem comps_noughts (l : List UInt8) : ∀ k, compsL (l ++ zerosL k) = (compsL l).map (· ++ List.replicate k [Item.zero])
  | 0 => by simp [zerosL]
  | k + 1 => by
    rw [zerosL, ← List.append_assoc, comps_nought _ (Nat.le_refl _), comps_noughts l k]
    cases compsL l with
    | none => rfl
    | some c => simp [List.replicate_succ']
end Go.Proofs.YtmlmaklighgiiaaDoor.V
