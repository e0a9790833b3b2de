/-
  How a slice and what it holds read as a list: a predicate on worlds, kept below a block number; how an argument's reading opens into it.
-/
import Derived.Test.YtkmoaeckabjgnaaDoorVPlain
import Derived.Below
import Derived.Deep.Slices
import Derived.Deep.Draws
import Derived.Laws.OwnMore
import Derived.Laws.AppendOwn
import Derived.OwnWalk
import Derived.ChangeSame
namespace Go.Proofs.YtkmoaeckabjgnaaDoor.V
set_option linter.unusedVariables false
set_option linter.unusedSimpArgs false
open Go Go.RowKit

def I64 (n : Int) : Prop := -9223372036854775808 ≤ n ∧ n ≤ 9223372036854775807

def Row (w : World) (b o : Nat) (vs : List Value) : Prop := ∀ j u, vs[j]? = some u → w.cell? ⟨b, o + j, none⟩ = some u

/-- What is below block B reads in w' as it did in w. -/
def Same (B : Nat) (w w' : World) : Prop := ∀ p : Addr, p.block < B → w'.cell? p = w.cell? p
theorem Same.refl (B : Nat) (w : World) : Same B w w := fun _ _ => rfl
theorem Same.of_below {B : Nat} {w w' : World} (h : Below B w w') : Same B w w' := fun _ hp => h.cell hp
theorem Same.trans {B : Nat} {a b c : World} (h : Same B a b) (k : Same B b c) : Same B a c := fun p hp => (k p hp).trans (h p hp)
theorem Same.mono {B B' : Nat} {w w' : World} (h : Same B w w') (hB : B' ≤ B) : Same B' w w' := fun p hp => h p (by omega)

/-- What lies in such blocks reads in w' as it did in w. -/
def SameOn (ok : Nat → Prop) (w w' : World) : Prop := ∀ p : Addr, ok p.block → w'.cell? p = w.cell? p
/-- The blocks below B. -/
abbrev Lt (B b : Nat) : Prop := b < B
theorem Same.on {B : Nat} {w w' : World} (h : Same B w w') : SameOn (Lt B) w w' := fun p hp => h p hp

/-- How cells read as x, out of such blocks: kept where these are kept. -/
abbrev Rd (α : Type) := World → (Nat → Prop) → List Value → α → Prop
def Keeps {α : Type} (R : Rd α) : Prop := ∀ (w w' : World) (ok ok' : Nat → Prop) vs x, (∀ b, ok b → ok' b) → SameOn ok w w' → R w ok vs x → R w' ok' vs x

def IsSl {α : Type} (size : Nat) (R : Rd α) (w : World) (ok : Nat → Prop) (v : Value) (xs : List α) : Prop :=
  ∃ (A : Option Addr) (c : Nat), v = .slice A xs.length c ∧ xs.length ≤ c ∧ c ≤ 9223372036854775807 ∧
    ∀ i x, xs[i]? = some x → ∃ (b o : Nat) (vs : List Value), A = some ⟨b, o, none⟩ ∧ ok b ∧ vs.length = size ∧ R w ok vs x ∧ Row w b (o + i * size) vs

theorem IsSl.keepOn {α : Type} {size : Nat} {R : Rd α} (hR : Keeps R) {w w' : World} {ok ok' : Nat → Prop} {v : Value} {xs : List α} (h : IsSl size R w ok v xs) (hB : ∀ b, ok b → ok' b) (hs : SameOn ok w w') : IsSl size R w' ok' v xs := by
  obtain ⟨A, c, hv, hl, hc, hx⟩ := h
  refine ⟨A, c, hv, hl, hc, fun i x hi => ?_⟩
  obtain ⟨b, o, vs, hA, hb, hlen, hr, hrow⟩ := hx i x hi
  exact ⟨b, o, vs, hA, hB b hb, hlen, hR _ _ _ _ _ _ hB hs hr, fun j u hj => (hs _ hb).trans (hrow j u hj)⟩
theorem IsSl.keep {α : Type} {size : Nat} {R : Rd α} (hR : Keeps R) {w w' : World} {B B' : Nat} {v : Value} {xs : List α} (h : IsSl size R w (Lt B) v xs) (hB : B ≤ B') (hs : Same B w w') : IsSl size R w' (Lt B') v xs :=
  h.keepOn hR (fun _ hb => Nat.lt_of_lt_of_le hb hB) hs.on
theorem IsSl.nil {α : Type} (size : Nat) (R : Rd α) (w : World) (ok : Nat → Prop) (c : Nat) (A : Option Addr) (hc : c ≤ 9223372036854775807) : IsSl size R w ok (.slice A 0 c) [] :=
  ⟨A, c, rfl, by simp, hc, fun i x h => by simp at h⟩
/-- As one cell of a row. -/
def R1 {α : Type} (size : Nat) (R : Rd α) : Rd (List α) := fun w ok vs x => ∃ v, vs = [v] ∧ IsSl size R w ok v x
theorem Keeps.r1 {α : Type} {size : Nat} {R : Rd α} (hR : Keeps R) : Keeps (R1 size R) := fun _ _ _ _ _ _ hB hs ⟨v, hv, h⟩ => ⟨v, hv, h.keepOn hR hB hs⟩

/-- The length of what a slice reads as, and its form. -/
theorem IsSl.form {α : Type} {size : Nat} {R : Rd α} {w : World} {ok : Nat → Prop} {v : Value} {xs : List α} (h : IsSl size R w ok v xs) : ∃ A c, v = .slice A xs.length c ∧ xs.length ≤ c ∧ c ≤ 9223372036854775807 := by
  obtain ⟨A, c, hv, hl, hc, _⟩ := h
  exact ⟨A, c, hv, hl, hc⟩
theorem IsSl.len {α : Type} {size : Nat} {R : Rd α} {w : World} {ok : Nat → Prop} {v : Value} {xs : List α} (h : IsSl size R w ok v xs) : xs.length ≤ 9223372036854775807 := by
  obtain ⟨A, c, hv, hl, hc, _⟩ := h
  omega
theorem IsSl.at_ {α : Type} {size : Nat} {R : Rd α} {w : World} {ok : Nat → Prop} {A : Option Addr} {n c : Nat} {xs : List α} (h : IsSl size R w ok (.slice A n c) xs) {i : Nat} {x : α} (hi : xs[i]? = some x) :
    ∃ (b o : Nat) (vs : List Value), A = some ⟨b, o, none⟩ ∧ ok b ∧ vs.length = size ∧ R w ok vs x ∧ Row w b (o + i * size) vs := by
  obtain ⟨A', c', hv, _, _, hx⟩ := h
  injection hv with h1 h2 h3
  subst h1
  exact hx i x hi
/-- A cut at the front. -/
theorem IsSl.drop {α : Type} {size : Nat} {R : Rd α} {w : World} {ok : Nat → Prop} {A : Option Addr} {n c : Nat} {xs : List α} (h : IsSl size R w ok (.slice A n c) xs) {k : Nat} (hk : k ≤ n) :
    IsSl size R w ok (.slice (if c = k then A else A.map (·.add (k * size))) (n - k) (c - k)) (xs.drop k) := by
  obtain ⟨A', c', hv, hl, hc, hx⟩ := h
  injection hv with h1 h2 h3
  subst h1; subst h2; subst h3
  refine ⟨if c = k then A else A.map (·.add (k * size)), c - k, by rw [List.length_drop], by rw [List.length_drop]; omega, by omega, fun i x hi => ?_⟩
  rw [List.getElem?_drop] at hi
  obtain ⟨b, o, vs, hA, hb, hlen, hr, hrow⟩ := hx _ x hi
  have hik := (List.getElem?_eq_some_iff.1 hi).1
  rw [if_neg (by omega), hA]
  by_cases hz : k * size = 0
  · refine ⟨b, o, vs, by simp [Addr.add, hz], hb, hlen, hr, ?_⟩
    intro j u hj
    have := hrow j u hj
    rw [Nat.add_mul, hz, Nat.zero_add] at this
    exact this
  · refine ⟨b, o + k * size, vs, by simp [Addr.add, hz], hb, hlen, hr, ?_⟩
    intro j u hj
    have := hrow j u hj
    rw [Nat.add_mul, ← Nat.add_assoc] at this
    exact this
/-- A cut at the end. -/
theorem IsSl.take {α : Type} {size : Nat} {R : Rd α} {w : World} {ok : Nat → Prop} {A : Option Addr} {n c : Nat} {xs : List α} (h : IsSl size R w ok (.slice A n c) xs) {k : Nat} (hk : k ≤ n) :
    IsSl size R w ok (.slice A k c) (xs.take k) := by
  obtain ⟨A', c', hv, hl, hc, hx⟩ := h
  injection hv with h1 h2 h3
  subst h1; subst h2; subst h3
  refine ⟨A, c, by rw [List.length_take, Nat.min_eq_left hk], by rw [List.length_take]; omega, hc, fun i x hi => ?_⟩
  have hi' : xs[i]? = some x := by
    rw [List.getElem?_take] at hi
    split at hi
    · exact hi
    · cases hi
  exact hx i x hi'

/-! Items, components, versions. -/
def RItem : Rd Item := fun _ _ vs x => vs = [.int .i64 x.n, .string x.word] ∧ I64 x.n ∧ x.word.size ≤ 9223372036854775807
theorem keepsItem : Keeps RItem := fun _ _ _ _ _ _ _ _ h => h
abbrev IsComp := IsSl 2 RItem
abbrev RComp := R1 2 RItem
theorem keepsComp : Keeps RComp := keepsItem.r1
abbrev IsParts := IsSl 1 RComp
abbrev RParts := R1 1 RComp
theorem keepsParts : Keeps RParts := keepsComp.r1
def RVer : Rd Ver := fun w ok vs x => ∃ p l, vs = [.int .i64 x.epoch, p, l] ∧ I64 x.epoch ∧ IsParts w ok p x.parts ∧ IsParts w ok l x.loc
theorem keepsVer : Keeps RVer := fun _ _ _ _ _ _ hB hs ⟨p, l, hv, he, hp, hl⟩ => ⟨p, l, hv, he, hp.keepOn keepsComp hB hs, hl.keepOn keepsComp hB hs⟩
/-- A version by value. -/
def IsVer (w : World) (ok : Nat → Prop) (v : Value) (x : Ver) : Prop := ∃ p l, v = .agg #[.int .i64 x.epoch, p, l] ∧ I64 x.epoch ∧ IsParts w ok p x.parts ∧ IsParts w ok l x.loc
theorem IsVer.keepOn {w w' : World} {ok ok' : Nat → Prop} {v : Value} {x : Ver} (h : IsVer w ok v x) (hB : ∀ b, ok b → ok' b) (hs : SameOn ok w w') : IsVer w' ok' v x := by
  obtain ⟨p, l, hv, he, hp, hl⟩ := h
  exact ⟨p, l, hv, he, hp.keepOn keepsComp hB hs, hl.keepOn keepsComp hB hs⟩
theorem IsVer.keep {w w' : World} {B B' : Nat} {v : Value} {x : Ver} (h : IsVer w (Lt B) v x) (hB : B ≤ B') (hs : Same B w w') : IsVer w' (Lt B') v x :=
  h.keepOn (fun _ hb => Nat.lt_of_lt_of_le hb hB) hs.on
abbrev IsVers := IsSl 3 RVer

end Go.Proofs.YtkmoaeckabjgnaaDoor.V
