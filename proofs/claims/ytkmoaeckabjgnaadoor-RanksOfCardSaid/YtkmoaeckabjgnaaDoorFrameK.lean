/-
  What the row's frame gives a walk of the statements on ranks: the variables' cells, a world for the witness (three errors are laid).
-/
import Derived.Test.YtkmoaeckabjgnaaDoorFrame0
namespace Go.Proofs.YtkmoaeckabjgnaaDoor.V
set_option linter.unusedVariables false
set_option linter.unusedSimpArgs false
open Go Go.ChangeShapes Go.WideShapes Go.ChangeAt Go.RowKit

abbrev laid3 : List (String × DataW Unit) := [("haversack/api.ErrSize", Rows.laid_haversack_api_ErrSize), ("haversack/api.ErrVersion", Rows.laid_haversack_api_ErrVersion), ("haversack/api.ErrRange", Rows.laid_haversack_api_ErrRange)]
theorem noHandle3 : (laid3.filter fun x => x.2.handleName?.isSome) = [] := by kernel_rfl
theorem env_of3 {W : World} (hL : laidMetH Tryd.prog laid3 W) (hS : W.ShapedOpen Tryd.prog) : ∃ u ev m, Env W u ev m := by
  have h' : laidMet Tryd.prog laid3 W := laidMet_of_H noHandle3 hL
  obtain ⟨a, s, hv, _⟩ := laid_sentinel h'.tail gErr gErrType Tryd.underlying28 rowES Tryd.underlying165 Tryd.underlying190 rfl rfl Tryd.underlying9 cellsES cellsString
  have ha : W.cell? ⟨8, 0, none⟩ = some (.iface 165 (.pointer (some a))) := by simpa using World.var?_cell gErr hv 0
  obtain ⟨m, hm⟩ := cell_of_shapedOpen_int (P := Tryd.prog) (g := 13) (t := 3) (zero := #[.int .i64 0]) hS (of_decide_eq_true (by kernel_rfl)) (by kernel_rfl) rfl (by kernel_rfl) (by kernel_rfl) Tryd.underlying3
  exact ⟨_, _, m, ha, hm⟩

/-- A world for the witness: the settled one, the variables laid. -/
abbrev errText (l : List UInt8) : ByteArray := ⟨#[104, 97, 118, 101, 114, 115, 97, 99, 107, 58, 32] ++ l.toArray⟩
noncomputable def low : Nat := (World.holding Tryd.prog default ⟨#[], #[], []⟩).heap.size
noncomputable def layAt (h : Array Obj) (g b : Nat) : Array Obj := h.modify g fun
  | .cells _ t frozen => .cells #[.iface 165 (.pointer (some ⟨b, 0, none⟩))] t frozen
  | o => o
noncomputable def laidWorld3 (os : Os) : World :=
  let w0 := World.holding Tryd.prog os ⟨#[.cells #[.string (errText [115, 105, 122, 101])] 190, .cells #[.string (errText [118, 101, 114, 115, 105, 111, 110])] 190, .cells #[.string (errText [114, 97, 110, 103, 101])] 190], #[], []⟩
  { w0 with heap := layAt (layAt (layAt w0.heap 0 low) 8 (low + 1)) 1 (low + 2) }
theorem laidWorld3_met (os : Os) (args : Array Value) : laidMet Tryd.prog laid3 ((laidWorld3 os).forCall (fun _ _ => 0) ⟨#[], args, []⟩).memory :=
  laidMet_of_run (ps := [.cell 0 0, .cell low 0, .cell 8 0, .cell (low + 1) 0, .cell 1 0, .cell (low + 2) 0]) 8 (by kernel_rfl) (by kernel_rfl) (by kernel_rfl)
end Go.Proofs.YtkmoaeckabjgnaaDoor.V
