/-
  The arguments of RanksSums, opened: ranks, lists of them, two of them.
-/
import Derived.Test.YtkmoaeckabjgnaaDoorKOpens
import Derived.Test.YtkmoaeckabjgnaaDoorKMap
namespace Go.Proofs.YtkmoaeckabjgnaaDoor.V
set_option linter.unusedVariables false
set_option linter.unusedSimpArgs false
open Go Go.RowKit Go.ChangeShapes Go.WideShapes

theorem cRk : Tryd.prog.cellsOf 40 = 4 := by kernel_rfl
theorem cTwoRk : Tryd.prog.cellsOf 61 = 8 := by kernel_rfl
section
variable {H : Type} {enc : TypeId × Value → H} {w : World} {base : Nat} {spare : Nat → Bool} {held : Bool}
theorem opensRk : Opens enc Tryd.prog w base spare held 40 RRk := by
  intro fuel cs x h
  have hl := struct_len Tryd.underlying40 h
  obtain ⟨n0, h0, _⟩ := open_field Tryd.underlying40 h 0 _ rfl (Opens.int Tryd.underlying3)
  obtain ⟨n1, h1, _⟩ := open_field Tryd.underlying40 h 1 _ rfl (Opens.int Tryd.underlying3)
  obtain ⟨n2, h2, _⟩ := open_field Tryd.underlying40 h 2 _ rfl (Opens.int Tryd.underlying3)
  obtain ⟨n3, h3, _⟩ := open_field Tryd.underlying40 h 3 _ rfl (Opens.int Tryd.underlying3)
  rw [cRk] at hl
  replace h0 : (cs.drop 0).take (Tryd.prog.cellsOf 3) = [.int .i64 n0] := h0
  replace h1 : (cs.drop 1).take (Tryd.prog.cellsOf 3) = [.int .i64 n1] := h1
  replace h2 : (cs.drop 2).take (Tryd.prog.cellsOf 3) = [.int .i64 n2] := h2
  replace h3 : (cs.drop 3).take (Tryd.prog.cellsOf 3) = [.int .i64 n3] := h3
  rw [cInt] at h0 h1 h2 h3
  match cs, hl with
  | [a, b, c, d], _ =>
    obtain rfl : a = .int .i64 n0 := by simpa using h0
    obtain rfl : b = .int .i64 n1 := by simpa using h1
    obtain rfl : c = .int .i64 n2 := by simpa using h2
    obtain rfl : d = .int .i64 n3 := by simpa using h3
    exact ⟨⟨n0, n1, n2, n3⟩, rfl⟩
theorem opensRks : Opens enc Tryd.prog w base spare held 26 (R1 4 RRk) := Opens.sl Tryd.underlying26 cRk (by decide) opensRk
set_option maxRecDepth 100000 in
theorem open_rks {r : Reach} {b0 : Nat} {v : Value} {d : DataW H} {ps : List MemPlace} (hval : Value.okWide Tryd.prog w r b0 26 v) (hd : DataW.Trod enc Tryd.prog w base spare held 26 v d ps) :
    ∃ xs : List Rk, IsSl 4 RRk w (Lt w.heap.size) v xs := by
  obtain ⟨a, len, cap, rfl⟩ := okWide_slice Tryd.underlying26 hval
  obtain ⟨fuel, hf⟩ := hd
  obtain ⟨xs, u, hu, hx⟩ := opensRks _ _ _ hf
  obtain rfl : Value.slice a len cap = u := by simpa [Value.cells] using hu
  exact ⟨xs, hx⟩
set_option maxRecDepth 100000 in
theorem open_two {r : Reach} {b0 : Nat} {v : Value} {d : DataW H} {ps : List MemPlace} (hval : Value.okWide Tryd.prog w r b0 61 v) (hd : DataW.Trod enc Tryd.prog w base spare held 61 v d ps) :
    ∃ x y : Rk, v = .agg #[.int .i64 x.v, .int .i64 x.n, .int .i64 x.c, .int .i64 x.t, .int .i64 y.v, .int .i64 y.n, .int .i64 y.c, .int .i64 y.t] := by
  simp only [Value.okWide, Tryd.underlying61] at hval
  obtain ⟨cs, rfl, hsz, _⟩ := hval
  obtain ⟨fuel, hf⟩ := hd
  obtain ⟨xs, n, _, _, hlen, hxl, hx⟩ := DataW.trod_array Tryd.underlying61 hf
  have k0 := hx 0 (by decide)
  have k1 := hx 1 (by decide)
  rw [List.getElem?_eq_getElem (by omega)] at k0 k1
  obtain ⟨x, h0⟩ := opensRk _ _ _ k0
  obtain ⟨y, h1⟩ := opensRk _ _ _ k1
  rw [cTwoRk] at hlen
  unfold RRk at h0 h1
  rw [cRk] at h0 h1
  obtain ⟨l⟩ := cs
  replace hlen : l.length = 8 := hlen
  replace h0 : (l.drop (0 * 4)).take 4 = _ := h0
  replace h1 : (l.drop (1 * 4)).take 4 = _ := h1
  refine ⟨x, y, ?_⟩
  match l, hlen with
  | [a, b, c, d, e, f, g, h], _ =>
    simp at h0 h1
    obtain ⟨rfl, rfl, rfl, rfl⟩ := h0
    obtain ⟨rfl, rfl, rfl, rfl⟩ := h1
    rfl
end
end Go.Proofs.YtkmoaeckabjgnaaDoor.V
