/-
  The walk of the document's Num: which error it is.
-/
import Derived.Test.YtkmoaeckabjgnaaDoorErrIs
import Derived.Test.YtkmoaeckabjgnaaDoorBlk
namespace Go.Proofs.YtkmoaeckabjgnaaDoor.V
set_option linter.unusedVariables false
set_option linter.unusedSimpArgs false
open Go Go.RowKit Go.Sort

/-- The errors' variables, by the document's table. -/
def errG : List Nat := [2, 3, 0, 4, 5, 6, 7, 8, 9, 1, 10, 11, 12]
structure Errs (w : World) (es : List Addr) : Prop where
  len : es.length = 13
  cell : ∀ (i : Nat) (a : Addr) (g : Nat), es[i]? = some a → errG[i]? = some g → w.cell? ⟨g, 0, none⟩ = some (.iface 165 (.pointer (some a)))
  rows : ∀ (i : Nat) (a : Addr), es[i]? = some a → ∃ c t, w.heap[a.block]? = some (.cells c t (0, 0))
  apart : ∀ (i j : Nat) (a b : Addr), i ≠ j → es[i]? = some a → es[j]? = some b → a ≠ b
theorem lt_of_get {w : World} {b : Nat} {o : Obj} (h : w.heap[b]? = some o) : b < w.heap.size := by
  rcases Nat.lt_or_ge b w.heap.size with hlt | hge
  · exact hlt
  · rw [Array.getElem?_eq_none hge] at h; cases h
theorem Errs.next {w w' : World} {es : List Addr} (h : Errs w es) (hb : Below w.heap.size w w') : Errs w' es where
  len := h.len
  cell i a g hi hg := (hb.cell (cell_lt (h.cell i a g hi hg))).trans (h.cell i a g hi hg)
  rows i a hi := by
    obtain ⟨c, t, hc⟩ := h.rows i a hi
    exact ⟨c, t, (hb.block _ (lt_of_get hc)).trans hc⟩
  apart := h.apart

theorem Num_nil (w : World) : Calls Tryd.prog 19 #[.nilIface] w fun e w' => e = .returned (.int .i64 0) ∧ Below w.heap.size w w' := by
  go_enter Tryd.func19, Tryd.ntmps19
  go_wp2_with fail
  go_ret
  exact ⟨rfl, Below.refl _ _⟩
set_option maxHeartbeats 4000000 in
set_option maxRecDepth 100000 in
theorem Num_any (es : List Addr) (k : Nat) (a : Addr) (w : World) (hk : es[k]? = some a) (hE : Errs w es) :
    Calls Tryd.prog 19 #[.iface 165 (.pointer (some a))] w fun e w' => e = .returned (.int .i64 ((k : Int) + 1)) ∧ Below w.heap.size w w' := by
  have HE := Lib.hid hE
  match es, hE.len with
  | [a0, a1, a2, a3, a4, a5, a6, a7, a8, a9, a10, a11, a12], _ =>
  have hk13 : k < 13 := by have := (List.getElem?_eq_some_iff.1 hk).1; simpa using this
  have c0 := HE.out.cell 0 _ _ rfl rfl
  have c1 := HE.out.cell 1 _ _ rfl rfl
  have c2 := HE.out.cell 2 _ _ rfl rfl
  have c3 := HE.out.cell 3 _ _ rfl rfl
  have c4 := HE.out.cell 4 _ _ rfl rfl
  have c5 := HE.out.cell 5 _ _ rfl rfl
  have c6 := HE.out.cell 6 _ _ rfl rfl
  have c7 := HE.out.cell 7 _ _ rfl rfl
  have c8 := HE.out.cell 8 _ _ rfl rfl
  have c9 := HE.out.cell 9 _ _ rfl rfl
  have c10 := HE.out.cell 10 _ _ rfl rfl
  have c11 := HE.out.cell 11 _ _ rfl rfl
  have c12 := HE.out.cell 12 _ _ rfl rfl
  have HX := Lib.hid (news_alloc w (.cells #[.iface 165 (.pointer (some a0)), .iface 165 (.pointer (some a1)), .iface 165 (.pointer (some a2)), .iface 165 (.pointer (some a3)), .iface 165 (.pointer (some a4)), .iface 165 (.pointer (some a5)), .iface 165 (.pointer (some a6)), .iface 165 (.pointer (some a7)), .iface 165 (.pointer (some a8)), .iface 165 (.pointer (some a9)), .iface 165 (.pointer (some a10)), .iface 165 (.pointer (some a11)), .iface 165 (.pointer (some a12))] 28))
  have HK := Lib.hid (Blk.new w 28 #[.iface 165 (.pointer (some a0)), .iface 165 (.pointer (some a1)), .iface 165 (.pointer (some a2)), .iface 165 (.pointer (some a3)), .iface 165 (.pointer (some a4)), .iface 165 (.pointer (some a5)), .iface 165 (.pointer (some a6)), .iface 165 (.pointer (some a7)), .iface 165 (.pointer (some a8)), .iface 165 (.pointer (some a9)), .iface 165 (.pointer (some a10)), .iface 165 (.pointer (some a11)), .iface 165 (.pointer (some a12))])
  have HEX := Lib.hid (HE.out.next HX.out)
  have HKK := Lib.hid hk
  clear hk hE
  go_enter Tryd.func19, Tryd.ntmps19
  go_wp2_with fail
  generalize w.alloc (.cells #[.iface 165 (.pointer (some a0)), .iface 165 (.pointer (some a1)), .iface 165 (.pointer (some a2)), .iface 165 (.pointer (some a3)), .iface 165 (.pointer (some a4)), .iface 165 (.pointer (some a5)), .iface 165 (.pointer (some a6)), .iface 165 (.pointer (some a7)), .iface 165 (.pointer (some a8)), .iface 165 (.pointer (some a9)), .iface 165 (.pointer (some a10)), .iface 165 (.pointer (some a11)), .iface 165 (.pointer (some a12))] 28) = W0 at *
  go_loopw [24] (fun i wr => ∃ j : Nat, j ≤ k ∧ i = .int .i64 j ∧ wr = W0) (fun i _ => k + 1 - (intOf i).toNat)
  case atStart => exact ⟨0, Nat.zero_le _, rfl, rfl⟩
  case round =>
    obtain ⟨j, hj, rfl, rfl⟩ := hrel
    obtain ⟨aj, haj⟩ : ∃ aj, ([a0, a1, a2, a3, a4, a5, a6, a7, a8, a9, a10, a11, a12] : List Addr)[j]? = some aj := ⟨_, List.getElem?_eq_getElem (by simp; omega)⟩
    have q0 : wr.cell? ⟨w.heap.size, j, none⟩ = some (.iface 165 (.pointer (some aj))) := by
      rw [HK.out.cell j]
      have e : (#[.iface 165 (.pointer (some a0)), .iface 165 (.pointer (some a1)), .iface 165 (.pointer (some a2)), .iface 165 (.pointer (some a3)), .iface 165 (.pointer (some a4)), .iface 165 (.pointer (some a5)), .iface 165 (.pointer (some a6)), .iface 165 (.pointer (some a7)), .iface 165 (.pointer (some a8)), .iface 165 (.pointer (some a9)), .iface 165 (.pointer (some a10)), .iface 165 (.pointer (some a11)), .iface 165 (.pointer (some a12))] : Array Value) = (([a0, a1, a2, a3, a4, a5, a6, a7, a8, a9, a10, a11, a12] : List Addr).map fun a => Value.iface 165 (.pointer (some a))).toArray := rfl
      rw [e, List.getElem?_toArray, List.getElem?_map, haj]
      rfl
    have hj13 : j < 13 := by omega
    by_cases e : j = k
    · subst e
      rw [HKK.out] at haj
      obtain rfl : a = aj := Option.some.inj haj
      clear haj
      go_wp2_with fail
      refine (is_same a _).mono ?_
      rintro e w2 ⟨rfl, hw2⟩
      subst hw2
      go_wp2_with fail
      go_ret
      exact ⟨rfl, HX.out⟩
    · obtain ⟨ca, ta, ha⟩ := HEX.out.rows k a HKK.out
      obtain ⟨cb, tb, hb⟩ := HEX.out.rows j aj haj
      have HNE := Lib.hid (HEX.out.apart k j a aj (fun h => e h.symm) HKK.out haj)
      have HA := Lib.hid ha
      have HB := Lib.hid hb
      clear ha hb haj
      go_wp2_with fail
      refine (is_other a aj ca cb ta tb _ HNE.out HA.out HB.out).mono ?_
      rintro e w2 ⟨rfl, hw2⟩
      subst hw2
      go_wp2_with fail
      go_roundw
      case rel => exact ⟨j + 1, by omega, by go_num, trivial⟩
      case measure => simp [intOf]; omega
end Go.Proofs.YtkmoaeckabjgnaaDoor.V
