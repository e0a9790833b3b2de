/-
  The newest of many, found from behind as the law does it: the same place.
-/
import Derived.Test.YtmlmaklighgiiaaDoorBPlain
namespace Go.Proofs.YtmlmaklighgiiaaDoor.V
set_option linter.unusedVariables false
set_option linter.unusedSimpArgs false
open Go

def cv (xs : List Ver) (j i : Nat) : Int := match xs[j]?, xs[i]? with | some a, some b => cmpVer a b | _, _ => 0
theorem cv_at {xs : List Ver} {j i : Nat} {a b : Ver} (ha : xs[j]? = some a) (hb : xs[i]? = some b) : cv xs j i = cmpVer a b := by unfold cv; rw [ha, hb]
/-- None of the first k is newer than i's. -/
def topTo (xs : List Ver) (i : Nat) : Nat → Bool
  | 0 => true
  | k + 1 => topTo xs i k && decide (cv xs k i ≤ 0)
theorem topTo_iff (xs : List Ver) (i : Nat) : ∀ k, topTo xs i k = true ↔ ∀ j, j < k → cv xs j i ≤ 0
  | 0 => by simp [topTo]
  | k + 1 => by
    rw [topTo, Bool.and_eq_true, topTo_iff xs i k, decide_eq_true_iff]
    constructor
    · intro h j hj
      by_cases e : j = k
      · subst e; exact h.2
      · exact h.1 j (by omega)
    · intro h
      exact ⟨fun j hj => h j (by omega), h k (by omega)⟩
/-- The first place, found from behind in d steps. -/
def wantD (xs : List Ver) : Nat → Int
  | 0 => -1
  | d + 1 => if topTo xs (xs.length - 1 - d) xs.length = true then ((xs.length - 1 - d : Nat) : Int) else wantD xs d
theorem newTo_best (xs : List Ver) : ∀ k, k ≤ xs.length → 0 < k → ∃ r : Nat, newTo xs k = r ∧ r < k ∧ (∀ j, j < k → cv xs j r ≤ 0) ∧ (∀ j, j < r → cv xs j r < 0)
  | 0, _, h => absurd h (by omega)
  | k + 1, h, _ => by
    obtain ⟨v, hv⟩ : ∃ v, xs[k]? = some v := ⟨_, List.getElem?_eq_getElem (by omega)⟩
    by_cases hk : k = 0
    · subst hk
      refine ⟨0, newTo_one hv, by omega, fun j hj => ?_, fun j hj => absurd hj (by omega)⟩
      obtain rfl : j = 0 := by omega
      rw [cv_at hv hv, ordVer.refl]
      omega
    · obtain ⟨r, hr, hrk, h1, h2⟩ := newTo_best xs k (by omega) (by omega)
      obtain ⟨u, hu⟩ : ∃ u, xs[r]? = some u := ⟨_, List.getElem?_eq_getElem (by omega)⟩
      have hs := newTo_step hv hr hu
      by_cases hc : 0 < cmpVer v u
      · rw [if_pos hc] at hs
        have hanti := ordVer.anti v u
        refine ⟨k, hs, by omega, fun j hj => ?_, fun j hj => ?_⟩
        · by_cases e : j = k
          · subst e; rw [cv_at hv hv, ordVer.refl]; omega
          · obtain ⟨a, ha⟩ : ∃ a, xs[j]? = some a := ⟨_, List.getElem?_eq_getElem (by omega)⟩
            have := h1 j (by omega)
            rw [cv_at ha hu] at this
            rw [cv_at ha hv]
            have := ordVer.le_lt this (show cmpVer u v < 0 by omega)
            omega
        · obtain ⟨a, ha⟩ : ∃ a, xs[j]? = some a := ⟨_, List.getElem?_eq_getElem (by omega)⟩
          have := h1 j (by omega)
          rw [cv_at ha hu] at this
          rw [cv_at ha hv]
          have := ordVer.le_lt this (show cmpVer u v < 0 by omega)
          omega
      · rw [if_neg hc] at hs
        refine ⟨r, hs, by omega, fun j hj => ?_, h2⟩
        by_cases e : j = k
        · subst e; rw [cv_at hv hu]; omega
        · exact h1 j (by omega)
theorem cv_anti (xs : List Ver) {i j : Nat} (hi : i < xs.length) (hj : j < xs.length) : cv xs i j = - cv xs j i := by
  rw [cv_at (List.getElem?_eq_getElem hi) (List.getElem?_eq_getElem hj), cv_at (List.getElem?_eq_getElem hj) (List.getElem?_eq_getElem hi)]
  exact ordVer.anti _ _
theorem want_new (xs : List Ver) : wantD xs xs.length = newL xs := by
  by_cases h0 : xs.length = 0
  · have : xs = [] := List.eq_nil_of_length_eq_zero h0
    subst this
    rfl
  · obtain ⟨r, hr, hrk, h1, h2⟩ := newTo_best xs xs.length (Nat.le_refl _) (by omega)
    unfold newL
    rw [hr]
    have htop : topTo xs r xs.length = true := (topTo_iff xs r _).2 h1
    have hlow : ∀ j, j < r → topTo xs j xs.length = false := fun j hj => by
      cases ht : topTo xs j xs.length with
      | false => rfl
      | true =>
        have h3 := (topTo_iff xs j _).1 ht r hrk
        have h4 := h2 j hj
        rw [cv_anti xs (by omega) hrk] at h4
        omega
    have key : ∀ e, e ≤ r → wantD xs (xs.length - r + e) = r := by
      intro e
      induction e with
      | zero =>
        intro _
        obtain ⟨d, hd⟩ : ∃ d, xs.length - r = d + 1 := ⟨xs.length - r - 1, by omega⟩
        rw [Nat.add_zero, hd, wantD]
        rw [show xs.length - 1 - d = r by omega, if_pos htop]
      | succ e ih =>
        intro he
        rw [show xs.length - r + (e + 1) = (xs.length - r + e) + 1 by omega, wantD, hlow _ (by omega)]
        simpa using ih (by omega)
    have := key r (Nat.le_refl _)
    rw [show xs.length - r + r = xs.length by omega] at this
    exact this
end Go.Proofs.YtmlmaklighgiiaaDoor.V
