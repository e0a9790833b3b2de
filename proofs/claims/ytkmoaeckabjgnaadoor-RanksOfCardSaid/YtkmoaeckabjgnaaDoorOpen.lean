/-
  How an argument's reading opens into the plain data: slices of whatever elements, versions.
-/
import Derived.Test.YtkmoaeckabjgnaaDoorRead
import Derived.Deep.Slices
namespace Go.Proofs.YtkmoaeckabjgnaaDoor.V
set_option linter.unusedVariables false
set_option linter.unusedSimpArgs false
open Go Go.RowKit Go.ChangeShapes Go.WideShapes

theorem list_of {α : Type} {p : Nat → α → Prop} (n : Nat) (h : ∀ i, i < n → ∃ y, p i y) : ∃ xs : List α, xs.length = n ∧ ∀ i y, xs[i]? = some y → p i y := by
  induction n with
  | zero => exact ⟨[], rfl, fun i y hy => by simp at hy⟩
  | succ n ih =>
    obtain ⟨xs, hl, hx⟩ := ih (fun i hi => h i (by omega))
    obtain ⟨y, hy⟩ := h n (by omega)
    refine ⟨xs ++ [y], by simp [hl], fun i z hz => ?_⟩
    by_cases hi : i < xs.length
    · rw [List.getElem?_append_left hi] at hz
      exact hx i z hz
    · rw [List.getElem?_append_right (by omega)] at hz
      have : i = n := by
        by_cases hin : i - xs.length = 0
        · omega
        · obtain ⟨k, hk⟩ : ∃ k, i - xs.length = k + 1 := ⟨i - xs.length - 1, by omega⟩
          rw [hk] at hz
          simp at hz
      subst this
      rw [hl, Nat.sub_self] at hz
      obtain rfl : y = z := by simpa using hz
      exact hy

section
variable {H : Type} {enc : TypeId × Value → H} {P : Program} {w : World} {base : Nat} {spare : Nat → Bool} {held : Bool}
theorem cell_lt {p : Addr} {u : Value} (h : w.cell? p = some u) : p.block < w.heap.size := by
  unfold World.cell? at h
  rcases Nat.lt_or_ge p.block w.heap.size with hlt | hge
  · exact hlt
  · rw [Array.getElem?_eq_none hge] at h
    cases h
/-- Cells of type e open as R. -/
def Opens {α : Type} (enc : TypeId × Value → H) (P : Program) (w : World) (base : Nat) (spare : Nat → Bool) (held : Bool) (e : TypeId) (R : Rd α) : Prop :=
  ∀ fuel cs x, DataW.trod enc P w base spare held fuel e cs = some x → ∃ y, R w (Lt w.heap.size) cs y
theorem Opens.sl {α : Type} {R : Rd α} {t e : TypeId} {size : Nat} (ht : P.underlying t = some (.slice e)) (hsz : P.cellsOf e = size) (hpos : 0 < size) (he : Opens enc P w base spare held e R) :
    Opens enc P w base spare held t (R1 size R) := by
  intro fuel cs x h
  rcases Go.Deep.open_slice ht h with ⟨rfl, _⟩ | ⟨a, len, cap, m, n, D, Pl, rfl, _, hl, hm, hmm, _, hx⟩
  · exact ⟨[], _, rfl, IsSl.nil _ _ _ _ _ _ (by omega)⟩
  · have hlm : len ≤ m := by rw [hmm]; split <;> omega
    obtain ⟨xs, hxl, hxs⟩ := list_of (p := fun i y => ∃ (b o : Nat) (vs : List Value), some a = some (⟨b, o, none⟩ : Addr) ∧ Lt w.heap.size b ∧ vs.length = size ∧ R w (Lt w.heap.size) vs y ∧ Row w b (o + i * size) vs) len (by
      intro i hi
      obtain ⟨cs', hc, htr⟩ := hx i (by omega)
      rw [hsz] at hc
      obtain ⟨y, hy⟩ := he _ _ _ htr
      obtain ⟨_, hlen, hcell⟩ := World.cells?_some hc
      obtain ⟨b, o, sp⟩ := a
      obtain ⟨cs0, hc0, _⟩ := hx 0 (by omega)
      rw [hsz] at hc0
      obtain ⟨_, hlen0, hcell0⟩ := World.cells?_some hc0
      have h0 := hcell0 0 hpos
      rw [List.getElem?_eq_getElem (by omega), Nat.zero_mul] at h0
      have hsp : sp = none := by simpa [Addr.add] using World.cell?_spot h0
      subst hsp
      refine ⟨y, b, o, cs', rfl, ?_, hlen, hy, ?_⟩
      · have := cell_lt h0
        show b < w.heap.size
        simpa [Addr.add] using this
      · intro j u hj
        have hjl : j < size := by have := (List.getElem?_eq_some_iff.1 hj).1; omega
        rw [← hj, ← hcell j hjl, Go.Deep.add_add]
        congr 1
        simp only [Addr.add]
        split
        · rename_i hz; simp only [Addr.mk.injEq, and_true, true_and]; omega
        · simp only [Addr.mk.injEq, and_true, true_and]; omega)
    refine ⟨xs, _, rfl, some a, cap, by rw [hxl], by omega, by have : cap ≤ 2 ^ 63 - 1 := hm; omega, hxs⟩

theorem wf_i64_iff {n : Int} (h : (Lit.int .i64 n).wf = true) : I64 n := by
  simp [Lit.wf, IntKind.min, IntKind.max, IntKind.signed, IntKind.bits] at h
  unfold I64
  omega
theorem Opens.int {t : TypeId} (ht : P.underlying t = some (.int .i64)) : Opens enc P w base spare held t (fun _ _ vs (n : Int) => vs = [.int .i64 n] ∧ I64 n) := by
  intro fuel cs x h
  obtain ⟨n, rfl, _, hw⟩ := DataW.trod_int ht h
  exact ⟨n, rfl, wf_i64_iff hw⟩
theorem Opens.bool {t : TypeId} (ht : P.underlying t = some .bool) : Opens enc P w base spare held t (fun _ _ vs (b : Bool) => vs = [.bool b]) := by
  intro fuel cs x h
  obtain ⟨b, rfl, _⟩ := DataW.trod_bool ht h
  exact ⟨b, rfl⟩
theorem Opens.str {t : TypeId} (ht : P.underlying t = some .string) : Opens enc P w base spare held t (fun _ _ vs (s : ByteArray) => vs = [.string s] ∧ s.size ≤ 9223372036854775807) := by
  intro fuel cs x h
  obtain ⟨s, rfl, _, hs⟩ := DataW.trod_string ht h
  exact ⟨s, rfl, by have : s.size ≤ 2 ^ 63 - 1 := hs; omega⟩
/-- A struct: its field i's cells open. -/
theorem open_field {α : Type} {R : Rd α} {t : TypeId} {fs : Array Field} {fuel : Nat} {cs : List Value} {x : DataW H × List MemPlace} (ht : P.underlying t = some (.struct fs)) (h : DataW.trod enc P w base spare held fuel t cs = some x)
    (i : Nat) (f : Field) (hf : fs[i]? = some f) (ho : Opens enc P w base spare held f.type R) : ∃ y, R w (Lt w.heap.size) ((cs.drop f.offset).take (P.cellsOf f.type)) y := by
  obtain ⟨xs, n, _, _, _, hl, hx⟩ := DataW.trod_struct ht h
  have h1 := hx i f hf
  have hi : i < xs.length := by have := (Array.getElem?_eq_some_iff.1 hf).1; omega
  rw [List.getElem?_eq_getElem hi] at h1
  exact ho _ _ _ h1
theorem struct_len {t : TypeId} {fs : Array Field} {fuel : Nat} {cs : List Value} {x : DataW H × List MemPlace} (ht : P.underlying t = some (.struct fs)) (h : DataW.trod enc P w base spare held fuel t cs = some x) : cs.length = P.cellsOf t := by
  obtain ⟨xs, n, _, _, hc, _⟩ := DataW.trod_struct ht h
  exact hc
end
end Go.Proofs.YtkmoaeckabjgnaaDoor.V
