/-
  The arguments of the statements on versions, opened: items, components, rows, versions, lists of them.
-/
import Derived.Test.YtkmoaeckabjgnaaDoorOpen
import Derived.Test.YtkmoaeckabjgnaaDoorFrame0
namespace Go.Proofs.YtkmoaeckabjgnaaDoor.V
set_option linter.unusedVariables false
set_option linter.unusedSimpArgs false
open Go Go.RowKit Go.ChangeShapes Go.WideShapes

theorem cItem : Tryd.prog.cellsOf 124 = 2 := by kernel_rfl
theorem cItems : Tryd.prog.cellsOf 107 = 1 := by kernel_rfl
theorem cParts : Tryd.prog.cellsOf 31 = 1 := by kernel_rfl
theorem cVer : Tryd.prog.cellsOf 33 = 3 := by kernel_rfl
theorem cInt : Tryd.prog.cellsOf 3 = 1 := by kernel_rfl
theorem cString : Tryd.prog.cellsOf 9 = 1 := by kernel_rfl

section
variable {H : Type} {enc : TypeId × Value → H} {w : World} {base : Nat} {spare : Nat → Bool} {held : Bool}
theorem opensItem : Opens enc Tryd.prog w base spare held 124 RItem := by
  intro fuel cs x h
  have hl := struct_len Tryd.underlying124 h
  obtain ⟨n, hn, hn'⟩ := open_field Tryd.underlying124 h 0 _ rfl (Opens.int Tryd.underlying3)
  obtain ⟨s, hs, hs'⟩ := open_field Tryd.underlying124 h 1 _ rfl (Opens.str Tryd.underlying9)
  rw [cItem] at hl
  replace hn : (cs.drop 0).take (Tryd.prog.cellsOf 3) = [.int .i64 n] := hn
  rw [cInt] at hn
  replace hs : (cs.drop 1).take (Tryd.prog.cellsOf 9) = [.string s] := hs
  rw [cString] at hs
  match cs, hl with
  | [a, b], _ =>
    obtain rfl : a = .int .i64 n := by simpa using hn
    obtain rfl : b = .string s := by simpa using hs
    exact ⟨⟨n, s⟩, rfl, hn', hs'⟩
theorem opensComp : Opens enc Tryd.prog w base spare held 107 RComp := Opens.sl Tryd.underlying107 cItem (by decide) opensItem
theorem opensParts : Opens enc Tryd.prog w base spare held 31 RParts := Opens.sl Tryd.underlying31 cItems (by decide) opensComp
theorem opensVer : Opens enc Tryd.prog w base spare held 33 RVer := by
  intro fuel cs x h
  have hl := struct_len Tryd.underlying33 h
  obtain ⟨n, hn, hn'⟩ := open_field Tryd.underlying33 h 0 _ rfl (Opens.int Tryd.underlying3)
  obtain ⟨p, u, hp, hp'⟩ := open_field Tryd.underlying33 h 1 _ rfl opensParts
  obtain ⟨l, v, hv, hv'⟩ := open_field Tryd.underlying33 h 2 _ rfl opensParts
  rw [cVer] at hl
  replace hn : (cs.drop 0).take (Tryd.prog.cellsOf 3) = [.int .i64 n] := hn
  rw [cInt] at hn
  replace hp : (cs.drop 1).take (Tryd.prog.cellsOf 31) = [u] := hp
  rw [cParts] at hp
  replace hv : (cs.drop 2).take (Tryd.prog.cellsOf 31) = [v] := hv
  rw [cParts] at hv
  match cs, hl with
  | [a, b, c], _ =>
    obtain rfl : a = .int .i64 n := by simpa using hn
    obtain rfl : b = u := by simpa using hp
    obtain rfl : c = v := by simpa using hv
    exact ⟨⟨n, p, l⟩, _, _, rfl, hn', hp', hv'⟩
set_option maxRecDepth 100000 in
theorem open_ver {r : Reach} {b0 : Nat} {v : Value} {d : DataW H} {ps : List MemPlace} (hval : Value.okWide Tryd.prog w r b0 33 v) (hd : DataW.Trod enc Tryd.prog w base spare held 33 v d ps) :
    ∃ x, IsVer w (Lt w.heap.size) v x := by
  obtain ⟨cs, rfl, _⟩ := okWide_struct Tryd.underlying33 hval
  obtain ⟨fuel, hf⟩ := hd
  obtain ⟨x, p, l, hc, he, hp, hl⟩ := opensVer _ _ _ hf
  have hc' : cs = #[.int .i64 x.epoch, p, l] := by
    have : cs.toList = [.int .i64 x.epoch, p, l] := by simpa [Value.cells] using hc
    exact Array.toList_inj.1 (by simpa using this)
  subst hc'
  exact ⟨x, _, _, rfl, he, hp, hl⟩
end
end Go.Proofs.YtkmoaeckabjgnaaDoor.V
