/-
  Plain laws: of numbered things, those that are found when equal ones count once; how many that are.
-/
import Derived.Test.YtkmoaeckabjgnaaDoorVPlain
namespace Go.Proofs.YtkmoaeckabjgnaaDoor.V
set_option linter.unusedVariables false
set_option linter.unusedSimpArgs false
open Go Go.RowKit

/-- Which of the first k are found: those of P that equal none that was found ahead of them. -/
def fnd (P : Nat → Bool) (E : Nat → Nat → Bool) : Nat → List Nat
  | 0 => []
  | k + 1 => if P k && !((fnd P E k).any fun j => E j k) then fnd P E k ++ [k] else fnd P E k
def isFirst (P : Nat → Bool) (E : Nat → Nat → Bool) (i : Nat) : Bool := P i && (List.range i).all fun k => !(P k && E k i)
def cnt (F : Nat → Bool) : Nat → Nat
  | 0 => 0
  | k + 1 => cnt F k + if F k then 1 else 0

theorem isFirst_iff {P : Nat → Bool} {E : Nat → Nat → Bool} {i : Nat} : isFirst P E i = true ↔ P i = true ∧ ∀ k, k < i → P k = true → E k i = false := by
  unfold isFirst
  rw [Bool.and_eq_true, List.all_eq_true]
  constructor
  · rintro ⟨h1, h2⟩
    refine ⟨h1, fun k hk hp => ?_⟩
    have := h2 k (List.mem_range.2 hk)
    simpa [hp] using this
  · rintro ⟨h1, h2⟩
    refine ⟨h1, fun k hk => ?_⟩
    cases hp : P k with
    | false => rfl
    | true => rw [h2 k (List.mem_range.1 hk) hp]; rfl
section
variable {P : Nat → Bool} {E : Nat → Nat → Bool}
theorem fnd_succ_yes {k : Nat} (hp : P k = true) (h : (fnd P E k).any (fun j => E j k) = false) : fnd P E (k + 1) = fnd P E k ++ [k] := by
  rw [fnd, hp, h]; rfl
theorem fnd_succ_off {k : Nat} (hp : P k = false) : fnd P E (k + 1) = fnd P E k := by
  rw [fnd, hp]; rfl
theorem fnd_succ_no {k : Nat} (h : (fnd P E k).any (fun j => E j k) = true) : fnd P E (k + 1) = fnd P E k := by
  rw [fnd, h]; simp
theorem fnd_mem : ∀ {k j : Nat}, j ∈ fnd P E k → j < k ∧ P j = true := by
  intro k
  induction k with
  | zero => intro j h; simp [fnd] at h
  | succ k ih =>
    intro j h
    cases hp : P k with
    | false => rw [fnd_succ_off hp] at h; have := ih h; exact ⟨by omega, this.2⟩
    | true =>
      cases ha : (fnd P E k).any (fun j => E j k) with
      | true => rw [fnd_succ_no ha] at h; have := ih h; exact ⟨by omega, this.2⟩
      | false =>
        rw [fnd_succ_yes hp ha] at h
        rcases List.mem_append.1 h with h | h
        · have := ih h; exact ⟨by omega, this.2⟩
        · obtain rfl : j = k := by simpa using h
          exact ⟨by omega, hp⟩
theorem fnd_len_le : ∀ k : Nat, (fnd P E k).length ≤ k := by
  intro k
  induction k with
  | zero => simp [fnd]
  | succ k ih =>
    rw [fnd]
    split
    · simp; omega
    · omega
theorem fnd_rep (hr : ∀ i, P i = true → E i i = true) : ∀ {k i : Nat}, i < k → P i = true → ∃ j, j ∈ fnd P E k ∧ E j i = true := by
  intro k
  induction k with
  | zero => intro i h; omega
  | succ k ih =>
    intro i hi hp
    by_cases hik : i < k
    · obtain ⟨j, hj, he⟩ := ih hik hp
      refine ⟨j, ?_, he⟩
      rw [fnd]
      split
      · exact List.mem_append_left _ hj
      · exact hj
    · obtain rfl : i = k := by omega
      cases ha : (fnd P E i).any (fun j => E j i) with
      | false => exact ⟨i, by rw [fnd_succ_yes hp ha]; simp, hr i hp⟩
      | true =>
        obtain ⟨j, hj, he⟩ := List.any_eq_true.1 ha
        exact ⟨j, by rw [fnd_succ_no ha]; exact hj, he⟩
theorem fnd_any (hr : ∀ i, P i = true → E i i = true) (ht : ∀ a b c, P a = true → P b = true → P c = true → E a b = true → E b c = true → E a c = true) {k : Nat} (hk : P k = true) :
    (fnd P E k).any (fun j => E j k) = true ↔ ∃ i, i < k ∧ P i = true ∧ E i k = true := by
  constructor
  · intro h
    obtain ⟨j, hj, he⟩ := List.any_eq_true.1 h
    exact ⟨j, (fnd_mem hj).1, (fnd_mem hj).2, he⟩
  · rintro ⟨i, hi, hp, he⟩
    obtain ⟨j, hj, he'⟩ := fnd_rep hr hi hp
    exact List.any_eq_true.2 ⟨j, hj, ht j i k (fnd_mem hj).2 hp hk he' he⟩
theorem fnd_len (hr : ∀ i, P i = true → E i i = true) (ht : ∀ a b c, P a = true → P b = true → P c = true → E a b = true → E b c = true → E a c = true) :
    ∀ k : Nat, (fnd P E k).length = cnt (isFirst P E) k := by
  intro k
  induction k with
  | zero => rfl
  | succ k ih =>
    rw [cnt, ← ih]
    cases hp : P k with
    | false =>
      rw [fnd_succ_off hp, show isFirst P E k = false by unfold isFirst; rw [hp]; rfl]
      rfl
    | true =>
      cases ha : (fnd P E k).any (fun j => E j k) with
      | true =>
        obtain ⟨i, hi, hpi, he⟩ := (fnd_any hr ht hp).1 ha
        have hf : isFirst P E k = false := by
          cases hc : isFirst P E k with
          | false => rfl
          | true => have := (isFirst_iff.1 hc).2 i hi hpi; rw [he] at this; cases this
        rw [fnd_succ_no ha, hf]
        rfl
      | false =>
        have hf : isFirst P E k = true := isFirst_iff.2 ⟨hp, fun i hi hpi => by
          cases hc : E i k with
          | false => rfl
          | true => have := (fnd_any hr ht hp).2 ⟨i, hi, hpi, hc⟩; rw [ha] at this; cases this⟩
        rw [fnd_succ_yes hp ha, hf]
        simp
end
theorem cnt_congr {F G : Nat → Bool} : ∀ n : Nat, (∀ i, i < n → F i = G i) → cnt F n = cnt G n := by
  intro n
  induction n with
  | zero => intro _; rfl
  | succ n ih => intro h; rw [cnt, cnt, ih (fun i hi => h i (by omega)), h n (by omega)]
theorem cnt_le {F G : Nat → Bool} : ∀ n : Nat, (∀ i, i < n → F i = true → G i = true) → cnt F n ≤ cnt G n := by
  intro n
  induction n with
  | zero => intro _; exact Nat.le_refl _
  | succ n ih =>
    intro h
    have h1 := ih (fun i hi => h i (by omega))
    have h2 := h n (by omega)
    rw [cnt, cnt]
    cases hf : F n with
    | false => simp; omega
    | true => rw [h2 hf]; simp; omega
theorem cnt_lt {F G : Nat → Bool} : ∀ n : Nat, (∀ i, i < n → F i = true → G i = true) → (∃ i, i < n ∧ G i = true ∧ F i = false) → cnt F n < cnt G n := by
  intro n
  induction n with
  | zero => rintro _ ⟨i, hi, _⟩; omega
  | succ n ih =>
    rintro h ⟨i, hi, hg, hf⟩
    by_cases hin : i < n
    · have h1 := ih (fun i hi => h i (by omega)) ⟨i, hin, hg, hf⟩
      have h2 := h n (by omega)
      rw [cnt, cnt]
      cases hfn : F n with
      | false => simp; omega
      | true => rw [h2 hfn]; simp; omega
    · obtain rfl : i = n := by omega
      have h1 := cnt_le i (fun j hj => h j (by omega))
      rw [cnt, cnt, hg, hf]
      simp
      omega
theorem cnt_le_n (F : Nat → Bool) : ∀ n : Nat, cnt F n ≤ n
  | 0 => Nat.le_refl _
  | n + 1 => by have := cnt_le_n F n; rw [cnt]; split <;> omega
theorem cnt_zero {F : Nat → Bool} : ∀ n : Nat, cnt F n = 0 ↔ ∀ i, i < n → F i = false
  | 0 => by simp [cnt]
  | n + 1 => by
    rw [cnt]
    constructor
    · intro h i hi
      have h1 : cnt F n = 0 := by omega
      by_cases hin : i < n
      · exact (cnt_zero n).1 h1 i hin
      · obtain rfl : i = n := by omega
        cases hc : F i with
        | false => rfl
        | true => rw [hc] at h; simp at h
    · intro h
      rw [(cnt_zero n).2 (fun i hi => h i (by omega)), h n (by omega)]
      rfl
section
variable {P : Nat → Bool} {E : Nat → Nat → Bool}
/-- Of each that is in P there is a first one that equals it. -/
theorem first_of (hr : ∀ i, P i = true → E i i = true) (ht : ∀ a b c, P a = true → P b = true → P c = true → E a b = true → E b c = true → E a c = true) :
    ∀ n i, i < n → P i = true → ∃ j, j ≤ i ∧ isFirst P E j = true ∧ E j i = true := by
  intro n
  induction n with
  | zero => intro i h; omega
  | succ n ih =>
    intro i hi hp
    cases hf : isFirst P E i with
    | true => exact ⟨i, Nat.le_refl _, hf, hr i hp⟩
    | false =>
      have : ∃ k, k < i ∧ P k = true ∧ E k i = true := Classical.byContradiction fun hno => by
        have : isFirst P E i = true := isFirst_iff.2 ⟨hp, fun k hk hpk => by
          cases hc : E k i with
          | false => rfl
          | true => exact absurd ⟨k, hk, hpk, hc⟩ hno⟩
        rw [hf] at this
        cases this
      obtain ⟨k, hk, hpk, he⟩ := this
      obtain ⟨j, hj, hfj, hej⟩ := ih k (by omega) hpk
      exact ⟨j, by omega, hfj, ht j k i (isFirst_iff.1 hfj).1 hpk hp hej he⟩
/-- A part that is whole under what equals. -/
theorem first_part {Q : Nat → Bool} (hQ : ∀ i, Q i = true → P i = true) (hc : ∀ k i, P k = true → Q i = true → E k i = true → Q k = true) (i : Nat) :
    isFirst Q E i = (Q i && isFirst P E i) := by
  cases hq : Q i with
  | false => unfold isFirst; rw [hq]; rfl
  | true =>
    rw [Bool.true_and, Bool.eq_iff_iff, isFirst_iff, isFirst_iff]
    constructor
    · rintro ⟨_, h⟩
      refine ⟨hQ i hq, fun k hk hp => ?_⟩
      cases he : E k i with
      | false => rfl
      | true => have := h k hk (hc k i hp hq he); rw [he] at this; exact this
    · rintro ⟨_, h⟩
      exact ⟨hq, fun k hk hp => h k hk (hQ k hp)⟩
/-- One that is off makes the number no greater. -/
theorem cnt_off (hs : ∀ a b, E a b = true → E b a = true) (ht : ∀ a b c, E a b = true → E b c = true → E a c = true) {P' : Nat → Bool} {off : Nat} (h' : ∀ i, P' i = (P i && !(i == off))) (n : Nat) :
    cnt (isFirst P' E) n ≤ cnt (isFirst P E) n ∧ ((off < n → P off = true → ∃ i, i < n ∧ P' i = true ∧ E i off = true) ∨ cnt (isFirst P' E) n + 1 ≤ cnt (isFirst P E) n) := by
  have hne : ∀ i, i ≠ off → P' i = P i := fun i hi => by rw [h', show (i == off) = false by simpa using hi]; simp
  have hoff : P' off = false := by rw [h']; simp
  induction n with
  | zero => exact ⟨Nat.le_refl _, .inl fun h => by omega⟩
  | succ n ih =>
    obtain ⟨h1, h2⟩ := ih
    rw [cnt, cnt]
    by_cases hn : n = off
    · subst hn
      have hf' : isFirst P' E n = false := by unfold isFirst; rw [hoff]; rfl
      rw [hf']
      cases hf : isFirst P E n with
      | true => exact ⟨by simp; omega, .inr (by simp; omega)⟩
      | false =>
        refine ⟨by simpa using h1, .inl fun _ hp => ?_⟩
        refine Classical.byContradiction fun hno => ?_
        have : isFirst P E n = true := isFirst_iff.2 ⟨hp, fun k hk hpk => by
          cases hc : E k n with
          | false => rfl
          | true => exact absurd ⟨k, by omega, by rw [hne k (by omega)]; exact hpk, hc⟩ hno⟩
        rw [hf] at this
        cases this
    · cases hp : P n with
      | false =>
        have hf : isFirst P E n = false := by unfold isFirst; rw [hp]; rfl
        have hf' : isFirst P' E n = false := by unfold isFirst; rw [hne n hn, hp]; rfl
        rw [hf, hf']
        refine ⟨by simpa using h1, ?_⟩
        rcases h2 with h2 | h2
        · left
          intro ho hpo
          obtain ⟨i, hi, h⟩ := h2 (by omega) hpo
          exact ⟨i, by omega, h⟩
        · right
          simpa using h2
      | true =>
        cases hf : isFirst P E n with
        | true =>
          have hf' : isFirst P' E n = true := isFirst_iff.2 ⟨by rw [hne n hn]; exact hp, fun k hk hpk => (isFirst_iff.1 hf).2 k hk (by
            by_cases hko : k = off
            · subst hko; rw [hoff] at hpk; cases hpk
            · rw [← hne k hko]; exact hpk)⟩
          rw [hf']
          refine ⟨by simpa using h1, ?_⟩
          rcases h2 with h2 | h2
          · left
            intro ho hpo
            obtain ⟨i, hi, h⟩ := h2 (by omega) hpo
            exact ⟨i, by omega, h⟩
          · right
            simp
            omega
        | false =>
          cases hf' : isFirst P' E n with
          | false =>
            refine ⟨by simpa using h1, ?_⟩
            rcases h2 with h2 | h2
            · left
              intro ho hpo
              obtain ⟨i, hi, h⟩ := h2 (by omega) hpo
              exact ⟨i, by omega, h⟩
            · right
              simpa using h2
          | true =>
            have hk : ∃ k, k < n ∧ P k = true ∧ E k n = true := Classical.byContradiction fun hno => by
              have : isFirst P E n = true := isFirst_iff.2 ⟨hp, fun k hk hpk => by
                cases hc : E k n with
                | false => rfl
                | true => exact absurd ⟨k, hk, hpk, hc⟩ hno⟩
              rw [hf] at this
              cases this
            obtain ⟨k, hk, hpk, he⟩ := hk
            have hko : k = off := Classical.byContradiction fun hko => by
              have := (isFirst_iff.1 hf').2 k hk (by rw [hne k hko]; exact hpk)
              rw [he] at this
              cases this
            subst hko
            rcases h2 with h2 | h2
            · obtain ⟨i, hi, hpi, hei⟩ := h2 hk hpk
              have := (isFirst_iff.1 hf').2 i hi hpi
              rw [ht _ _ _ hei he] at this
              cases this
            · refine ⟨by simp; omega, .inl fun _ _ => ⟨n, by omega, by rw [hne n hn]; exact hp, hs _ _ he⟩⟩
end
end Go.Proofs.YtkmoaeckabjgnaaDoor.V
