/-
  A slice that the call itself makes and appends to, as a list; what its elements lead to lies in other blocks.
-/
import Derived.Test.YtkmoaeckabjgnaaDoorRead
import Derived.Deep.AppendLies
namespace Go.Proofs.YtkmoaeckabjgnaaDoor.V
set_option linter.unusedVariables false
set_option linter.unusedSimpArgs false
open Go Go.RowKit

theorem news_alloc (w : World) (o : Obj) : Below w.heap.size w (w.alloc o) := (Below.refl _ _).alloc (Nat.le_refl _) _

/-- The blocks from base on that are there, but for a slice's own row. -/
def Off (w : World) (base : Nat) (v : Value) : Nat → Prop := fun b => base ≤ b ∧ b < w.heap.size ∧ v.ownBlock ≠ some b

/-- The blocks from base on that are there. -/
def From (base : Nat) (w : World) : Nat → Prop := fun b => base ≤ b ∧ b < w.heap.size

/-- v: nil or a row of the call's own from block base on; its cells read as xs, out of other blocks. -/
def OwnSl {α : Type} (size : Nat) (e : TypeId) (R : Rd α) (w : World) (base : Nat) (v : Value) (cs : List Value) (xs : List α) : Prop :=
  w.ownsRow base e size v xs.length cs ∧ ∀ i x, xs[i]? = some x → ∃ vs, vs.length = size ∧ R w (Off w base v) vs x ∧ ∀ j u, vs[j]? = some u → cs[i * size + j]? = some u

theorem OwnSl.nil {α : Type} (size : Nat) (e : TypeId) (R : Rd α) (w : World) (base : Nat) : OwnSl size e R w base (.slice none 0 0) [] ([] : List α) :=
  ⟨⟨by simp, .inl ⟨rfl, rfl⟩⟩, fun i x h => by simp at h⟩
/-- Kept where nothing that is there turns. -/
theorem OwnSl.grow {α : Type} {size : Nat} {e : TypeId} {R : Rd α} (hR : Keeps R) {w w' : World} {base : Nat} {v : Value} {cs : List Value} {xs : List α} (h : OwnSl size e R w base v cs xs) (hb : Below w.heap.size w w') :
    OwnSl size e R w' base v cs xs := by
  refine ⟨?_, fun i x hi => ?_⟩
  · refine ⟨h.1.1, ?_⟩
    rcases h.1.2 with hn | ⟨g, cap, cur, hv, hg, hh, r⟩
    · exact .inl hn
    · refine .inr ⟨g, cap, cur, hv, hg, ?_, r⟩
      have hlt : g < w.heap.size := by
        rcases Nat.lt_or_ge g w.heap.size with hl | hl
        · exact hl
        · rw [Array.getElem?_eq_none hl] at hh; cases hh
      rw [hb.block g hlt]
      exact hh
  · obtain ⟨vs, hl, hr, hc⟩ := h.2 i x hi
    exact ⟨vs, hl, hR _ _ _ _ _ _ (fun b hb' => ⟨hb'.1, Nat.lt_of_lt_of_le hb'.2.1 hb.size, hb'.2.2⟩) (fun p hp => hb.cell hp.2.1) hr, hc⟩
/-- One element more: behind append's law. -/
theorem OwnSl.snoc {α : Type} {size : Nat} {e : TypeId} {R : Rd α} (hR : Keeps R) {w w' : World} {base : Nat} {v v' : Value} {cs : List Value} {xs : List α} {vs : List Value} {x : α} (h : OwnSl size e R w base v cs xs)
    (hl : vs.length = size) (hx : R w (Off w base v) vs x) (hown : w'.ownsRow base e size v' (xs.length + 1) (cs ++ vs)) (hg : w.grownBy w' v.ownBlock) (hat : v'.ownBlock = v.ownBlock ∨ v'.ownBlock = some w.heap.size) :
    OwnSl size e R w' base v' (cs ++ vs) (xs ++ [x]) := by
  have hok : ∀ b, Off w base v b → Off w' base v' b := fun b hb => ⟨hb.1, Nat.lt_of_lt_of_le hb.2.1 hg.size, by
    rcases hat with h1 | h1
    · rw [h1]; exact hb.2.2
    · rw [h1]; intro h2; injection h2 with h2; have := hb.2.1; omega⟩
  have hs : SameOn (Off w base v) w w' := fun p hp => World.cell?_of_block (hg.block p.block hp.2.1 (fun e => hp.2.2 e.symm))
  refine ⟨by rw [List.length_append]; exact hown, fun i y hi => ?_⟩
  by_cases hlt : i < xs.length
  · rw [List.getElem?_append_left hlt] at hi
    obtain ⟨us, hl', hr, hc⟩ := h.2 i y hi
    refine ⟨us, hl', hR _ _ _ _ _ _ hok hs hr, fun j u hj => ?_⟩
    have := hc j u hj
    rw [List.getElem?_append_left (List.getElem?_eq_some_iff.1 this).1]
    exact this
  · rw [List.getElem?_append_right (by omega)] at hi
    have hix : i = xs.length := by
      by_cases hz : i - xs.length = 0
      · omega
      · obtain ⟨k, hk⟩ : ∃ k, i - xs.length = k + 1 := ⟨i - xs.length - 1, by omega⟩
        rw [hk] at hi
        simp at hi
    subst hix
    rw [Nat.sub_self] at hi
    obtain rfl : x = y := by simpa using hi
    refine ⟨vs, hl, hR _ _ _ _ _ _ hok hs hx, fun j u hj => ?_⟩
    have hcl : cs.length = xs.length * size := h.1.1
    rw [List.getElem?_append_right (by omega), hcl, Nat.add_sub_cancel_left]
    exact hj
/-- As a list. -/
theorem OwnSl.sl {α : Type} {size : Nat} {e : TypeId} {R : Rd α} (hR : Keeps R) {w : World} {base : Nat} {v : Value} {cs : List Value} {xs : List α} (h : OwnSl size e R w base v cs xs) (ok : Nat → Prop)
    (hok : ∀ b, Off w base v b → ok b) (hv : ∀ b, v.ownBlock = some b → ok b) : IsSl size R w ok v xs := by
  rcases h.1.2 with ⟨rfl, hn⟩ | ⟨g, cap, cur, rfl, hg, hh, hnc, hcm, hcs, htake⟩
  · have : xs = [] := List.eq_nil_of_length_eq_zero hn
    subst this
    exact IsSl.nil _ _ _ _ _ _ (by omega)
  · refine ⟨_, cap, rfl, hnc, by simp only [maxLen] at hcm; omega, fun i x hi => ?_⟩
    obtain ⟨vs, hl, hr, hc⟩ := h.2 i x hi
    refine ⟨g, 0, vs, rfl, hv g rfl, hl, hR _ _ _ _ _ _ hok (fun _ _ => rfl) hr, fun j u hj => ?_⟩
    have h1 := h.1.cells (g := g) rfl _ u (hc j u hj)
    rw [Go.WideShapes.add_plain] at h1
    rw [show 0 + i * size + j = 0 + (i * size + j) by omega]
    exact h1
theorem OwnSl.slLt {α : Type} {size : Nat} {e : TypeId} {R : Rd α} (hR : Keeps R) {w : World} {base : Nat} {v : Value} {cs : List Value} {xs : List α} (h : OwnSl size e R w base v cs xs) : IsSl size R w (Lt w.heap.size) v xs :=
  h.sl hR _ (fun _ hb => hb.2.1) (fun b hb => (h.1.lt b hb).2)
/-- .. out of the blocks from base on. -/
theorem OwnSl.slFrom {α : Type} {size : Nat} {e : TypeId} {R : Rd α} (hR : Keeps R) {w : World} {base base' : Nat} {v : Value} {cs : List Value} {xs : List α} (h : OwnSl size e R w base v cs xs) (hb : base' ≤ base) : IsSl size R w (From base' w) v xs :=
  h.sl hR _ (fun _ hb' => ⟨Nat.le_trans hb hb'.1, hb'.2.1⟩) (fun b hb' => ⟨Nat.le_trans hb (h.1.lt b hb').1, (h.1.lt b hb').2⟩)
/-- As a list, where the elements lead nowhere. -/
theorem OwnSl.slLeaf {α : Type} {size : Nat} {e : TypeId} {R : Rd α} (hR : ∀ w ok ok' vs x, R w ok vs x → R w ok' vs x) {w : World} {base : Nat} {v : Value} {cs : List Value} {xs : List α} (h : OwnSl size e R w base v cs xs) (ok : Nat → Prop)
    (hv : ∀ b, base ≤ b → b < w.heap.size → ok b) : IsSl size R w ok v xs := by
  rcases h.1.2 with ⟨rfl, hn⟩ | ⟨g, cap, cur, rfl, hg, hh, hnc, hcm, hcs, htake⟩
  · have : xs = [] := List.eq_nil_of_length_eq_zero hn
    subst this
    exact IsSl.nil _ _ _ _ _ _ (by omega)
  · refine ⟨_, cap, rfl, hnc, by simp only [maxLen] at hcm; omega, fun i x hi => ?_⟩
    obtain ⟨vs, hl, hr, hc⟩ := h.2 i x hi
    have hlt := (h.1.lt g rfl)
    refine ⟨g, 0, vs, rfl, hv g hlt.1 hlt.2, hl, hR _ _ _ _ _ hr, fun j u hj => ?_⟩
    have h1 := h.1.cells (g := g) rfl _ u (hc j u hj)
    rw [Go.WideShapes.add_plain] at h1
    rw [show 0 + i * size + j = 0 + (i * size + j) by omega]
    exact h1
/-- All that the call has made lies from base on: a frame for rows. -/
theorem below_of_grown {a w w' : World} {base : Nat} {v : Value} {e : TypeId} {size n : Nat} {cs : List Value} (h : Below base a w) (hg : w.grownBy w' v.ownBlock) (hB : base ≤ w.heap.size) (hown : w.ownsRow base e size v n cs) : Below base a w' :=
  h.grown hg hB (fun k hk => (hown.lt k hk).1)
theorem SameOn.trans {ok : Nat → Prop} {a b c : World} (h : SameOn ok a b) (k : SameOn ok b c) : SameOn ok a c := fun p hp => (k p hp).trans (h p hp)
theorem SameOn.weak {ok ok' : Nat → Prop} {a b : World} (h : SameOn ok a b) (hk : ∀ b, ok' b → ok b) : SameOn ok' a b := fun p hp => h p (hk _ hp)
theorem sameOn_store {ok : Nat → Prop} (w : World) (p : Addr) (u : Value) (h : ¬ ok p.block) : SameOn ok w (w.setCell p u) := fun q hq => World.cell?_setCell_other w p q u (fun e => h (by rw [e]; exact hq))
theorem sameOn_below {B : Nat} {ok : Nat → Prop} {w w' : World} (h : Below B w w') (hk : ∀ b, ok b → b < B) : SameOn ok w w' := fun p hp => h.cell (hk _ hp)
theorem not_from {B b : Nat} {w : World} (h : b < B) : ¬ From B w b := fun h' => by have := h'.1; omega
end Go.Proofs.YtkmoaeckabjgnaaDoor.V
