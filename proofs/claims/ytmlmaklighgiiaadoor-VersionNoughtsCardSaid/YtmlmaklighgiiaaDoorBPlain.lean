/-
  Plain functions: does a version begin with another one; which of many is the newest.
-/
import Derived.Test.YtmlmaklighgiiaaDoorVPlain
namespace Go.Proofs.YtmlmaklighgiiaaDoor.V
set_option linter.unusedVariables false
set_option linter.unusedSimpArgs false

def zeroTo (f : Nat → Int) (n : Nat) : Bool := (List.range n).all fun i => decide (f i = 0)
theorem zeroTo_true {f : Nat → Int} {n : Nat} (h : ∀ j, j < n → f j = 0) : zeroTo f n = true := by
  unfold zeroTo
  rw [List.all_eq_true]
  intro x hx
  simpa using h x (List.mem_range.1 hx)
theorem zeroTo_false {f : Nat → Int} {n k : Nat} (hk : k < n) (h : ¬ f k = 0) : zeroTo f n = false := by
  cases hz : zeroTo f n with
  | false => rfl
  | true =>
    unfold zeroTo at hz
    rw [List.all_eq_true] at hz
    exact absurd (by simpa using hz k (List.mem_range.2 hk)) h
theorem zeroTo_iff {f : Nat → Int} {n : Nat} : zeroTo f n = true ↔ ∀ j, j < n → f j = 0 := by
  refine ⟨fun h j hj => ?_, zeroTo_true⟩
  unfold zeroTo at h
  rw [List.all_eq_true] at h
  simpa using h j (List.mem_range.2 hj)

def bPart (v p : Ver) (i : Nat) : Int := cmpComp (v.parts.getD i []) (p.parts.getD i [])
def bItem (v p : Ver) (i : Nat) : Int := cmpItem ((v.parts.getD (p.parts.length - 1) []).getD i Item.zero) ((p.parts.getD (p.parts.length - 1) []).getD i Item.zero)
/-- Does v begin with p? -/
def begV (v p : Ver) : Bool :=
  decide (v.epoch = p.epoch) && (decide (p.loc.length = 0) && (decide (0 < p.parts.length) && (zeroTo (bPart v p) (p.parts.length - 1) && zeroTo (bItem v p) (p.parts.getD (p.parts.length - 1) []).length)))

/-- The newest of the first k, the first of them. -/
def newTo (l : List Ver) : Nat → Int
  | 0 => -1
  | k + 1 => match l[k]?, l[(newTo l k).toNat]? with
    | some v, some u => if newTo l k < 0 then k else if 0 < cmpVer v u then k else newTo l k
    | some _, none => k
    | none, _ => newTo l k
theorem newTo_range (l : List Ver) : ∀ k, k ≤ l.length → newTo l k = -1 ∧ k = 0 ∨ 0 ≤ newTo l k ∧ newTo l k < k
  | 0, _ => .inl ⟨rfl, rfl⟩
  | k + 1, h => by
    right
    have ih := newTo_range l k (by omega)
    have hk : l[k]? = some (l[k]'(by omega)) := List.getElem?_eq_getElem (by omega)
    unfold newTo
    rw [hk]
    split
    · split
      · omega
      · split <;> omega
    · omega
    · rename_i hc; cases hc
theorem newTo_step {l : List Ver} {k : Nat} {v u : Ver} {r : Nat} (hv : l[k]? = some v) (hr : newTo l k = r) (hu : l[r]? = some u) : newTo l (k + 1) = if 0 < cmpVer v u then (k : Int) else r := by
  rw [newTo, hv, hr, Int.toNat_natCast, hu]
  show (if (r : Int) < 0 then (k : Int) else _) = _
  rw [if_neg (by omega)]
theorem newTo_one {l : List Ver} {v : Ver} (hv : l[0]? = some v) : newTo l 1 = 0 := by
  unfold newTo
  rw [hv]
  split
  · rfl
  · rfl
  · rename_i hc; cases hc
def newL (l : List Ver) : Int := newTo l l.length
end Go.Proofs.YtmlmaklighgiiaaDoor.V
