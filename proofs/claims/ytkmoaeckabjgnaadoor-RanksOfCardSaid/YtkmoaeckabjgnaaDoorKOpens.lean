/-
  The arguments of the statements on records, opened.
-/
import Derived.Test.YtkmoaeckabjgnaaDoorOpens
import Derived.Test.YtkmoaeckabjgnaaDoorKRead
namespace Go.Proofs.YtkmoaeckabjgnaaDoor.V
set_option linter.unusedVariables false
set_option linter.unusedSimpArgs false
open Go Go.RowKit Go.ChangeShapes Go.WideShapes

theorem cTrm : Tryd.prog.cellsOf 145 = 4 := by kernel_rfl
theorem cRow : Tryd.prog.cellsOf 143 = 1 := by kernel_rfl
theorem cRows : Tryd.prog.cellsOf 98 = 1 := by kernel_rfl
theorem cWant : Tryd.prog.cellsOf 100 = 1 := by kernel_rfl
theorem cSpc : Tryd.prog.cellsOf 102 = 5 := by kernel_rfl
theorem cSpcs : Tryd.prog.cellsOf 34 = 1 := by kernel_rfl
theorem cRcd : Tryd.prog.cellsOf 37 = 13 := by kernel_rfl
theorem cStrs : Tryd.prog.cellsOf 35 = 1 := by kernel_rfl
theorem cBool : Tryd.prog.cellsOf 4 = 1 := by kernel_rfl

section
variable {H : Type} {enc : TypeId × Value → H} {w : World} {base : Nat} {spare : Nat → Bool} {held : Bool}
theorem opensStrs : Opens enc Tryd.prog w base spare held 35 (R1 1 RStr) := Opens.sl Tryd.underlying35 cString (by decide) (Opens.str Tryd.underlying9)
theorem opensBools : Opens enc Tryd.prog w base spare held 23 (R1 1 RBool) := Opens.sl Tryd.underlying23 cBool (by decide) (Opens.bool Tryd.underlying4)
theorem opensTrm : Opens enc Tryd.prog w base spare held 145 RTrm := by
  intro fuel cs x h
  have hl := struct_len Tryd.underlying145 h
  obtain ⟨s, hs, hs'⟩ := open_field Tryd.underlying145 h 0 _ rfl (Opens.str Tryd.underlying9)
  obtain ⟨v, p, l, hv, he, hp, hl'⟩ := open_field Tryd.underlying145 h 1 _ rfl opensVer
  rw [cTrm] at hl
  replace hs : (cs.drop 0).take (Tryd.prog.cellsOf 9) = [.string s] := hs
  rw [cString] at hs
  replace hv : (cs.drop 1).take (Tryd.prog.cellsOf 33) = [.int .i64 v.epoch, p, l] := hv
  rw [cVer] at hv
  match cs, hl with
  | [a, b, c, d], _ =>
    obtain rfl : a = .string s := by simpa using hs
    obtain ⟨rfl, rfl, rfl⟩ : b = .int .i64 v.epoch ∧ c = p ∧ d = l := by simpa using hv
    exact ⟨⟨s, v⟩, _, _, rfl, hs', he, hp, hl'⟩
theorem opensRow : Opens enc Tryd.prog w base spare held 143 RRow := Opens.sl Tryd.underlying143 cTrm (by decide) opensTrm
theorem opensRows : Opens enc Tryd.prog w base spare held 98 RRows := Opens.sl Tryd.underlying98 cRow (by decide) opensRow
theorem opensWant : Opens enc Tryd.prog w base spare held 100 RRows := by
  intro fuel cs x h
  have hl := struct_len Tryd.underlying100 h
  obtain ⟨rs, v, hv, hv'⟩ := open_field Tryd.underlying100 h 0 _ rfl opensRows
  rw [cWant] at hl
  replace hv : (cs.drop 0).take (Tryd.prog.cellsOf 98) = [v] := hv
  rw [cRows] at hv
  match cs, hl with
  | [a], _ =>
    obtain rfl : a = v := by simpa using hv
    exact ⟨rs, _, rfl, hv'⟩
theorem opensSpc : Opens enc Tryd.prog w base spare held 102 RSpc := by
  intro fuel cs x h
  have hl := struct_len Tryd.underlying102 h
  obtain ⟨s0, h0, h0'⟩ := open_field Tryd.underlying102 h 0 _ rfl (Opens.str Tryd.underlying9)
  obtain ⟨s1, h1, h1'⟩ := open_field Tryd.underlying102 h 1 _ rfl (Opens.str Tryd.underlying9)
  obtain ⟨rs, v, h2, h2'⟩ := open_field Tryd.underlying102 h 2 _ rfl opensWant
  obtain ⟨s3, h3, h3'⟩ := open_field Tryd.underlying102 h 3 _ rfl (Opens.str Tryd.underlying9)
  obtain ⟨n, h4, h4'⟩ := open_field Tryd.underlying102 h 4 _ rfl (Opens.int Tryd.underlying3)
  rw [cSpc] at hl
  replace h0 : (cs.drop 0).take (Tryd.prog.cellsOf 9) = [.string s0] := h0
  replace h1 : (cs.drop 1).take (Tryd.prog.cellsOf 9) = [.string s1] := h1
  replace h2 : (cs.drop 2).take (Tryd.prog.cellsOf 100) = [v] := h2
  replace h3 : (cs.drop 3).take (Tryd.prog.cellsOf 9) = [.string s3] := h3
  replace h4 : (cs.drop 4).take (Tryd.prog.cellsOf 3) = [.int .i64 n] := h4
  rw [cString] at h0 h1 h3
  rw [cWant] at h2
  rw [cInt] at h4
  match cs, hl with
  | [a, b, c, d, e], _ =>
    obtain rfl : a = .string s0 := by simpa using h0
    obtain rfl : b = .string s1 := by simpa using h1
    obtain rfl : c = v := by simpa using h2
    obtain rfl : d = .string s3 := by simpa using h3
    obtain rfl : e = .int .i64 n := by simpa using h4
    exact ⟨⟨s0, s1, rs, s3, n⟩, _, rfl, ⟨h0', h1', h3'⟩, h4', h2'⟩
theorem opensSpcs : Opens enc Tryd.prog w base spare held 34 RSpcs := Opens.sl Tryd.underlying34 cSpc (by decide) opensSpc
set_option maxHeartbeats 1000000 in
theorem opensRcd : Opens enc Tryd.prog w base spare held 37 RRcd := by
  intro fuel cs x h
  have hl := struct_len Tryd.underlying37 h
  obtain ⟨s0, h0, h0'⟩ := open_field Tryd.underlying37 h 0 _ rfl (Opens.str Tryd.underlying9)
  obtain ⟨s1, h1, h1'⟩ := open_field Tryd.underlying37 h 1 _ rfl (Opens.str Tryd.underlying9)
  obtain ⟨s2, h2, h2'⟩ := open_field Tryd.underlying37 h 2 _ rfl (Opens.str Tryd.underlying9)
  obtain ⟨s3, h3, h3'⟩ := open_field Tryd.underlying37 h 3 _ rfl (Opens.str Tryd.underlying9)
  obtain ⟨s5, h5, h5'⟩ := open_field Tryd.underlying37 h 5 _ rfl (Opens.str Tryd.underlying9)
  obtain ⟨v, p, l, h4, h4'⟩ := open_field Tryd.underlying37 h 4 _ rfl opensVer
  obtain ⟨n6, h6, h6'⟩ := open_field Tryd.underlying37 h 6 _ rfl (Opens.int Tryd.underlying3)
  obtain ⟨n7, h7, h7'⟩ := open_field Tryd.underlying37 h 7 _ rfl (Opens.int Tryd.underlying3)
  obtain ⟨ds, vd, h8, h8'⟩ := open_field Tryd.underlying37 h 8 _ rfl opensSpcs
  obtain ⟨cc, vc, h9, h9'⟩ := open_field Tryd.underlying37 h 9 _ rfl opensSpcs
  obtain ⟨fs, vf, h10, h10'⟩ := open_field Tryd.underlying37 h 10 _ rfl opensStrs
  rw [cRcd] at hl
  replace h0 : (cs.drop 0).take (Tryd.prog.cellsOf 9) = [.string s0] := h0
  replace h1 : (cs.drop 1).take (Tryd.prog.cellsOf 9) = [.string s1] := h1
  replace h2 : (cs.drop 2).take (Tryd.prog.cellsOf 9) = [.string s2] := h2
  replace h3 : (cs.drop 3).take (Tryd.prog.cellsOf 9) = [.string s3] := h3
  replace h4 : (cs.drop 4).take (Tryd.prog.cellsOf 33) = [.int .i64 v.epoch, p, l] := h4
  replace h5 : (cs.drop 7).take (Tryd.prog.cellsOf 9) = [.string s5] := h5
  replace h6 : (cs.drop 8).take (Tryd.prog.cellsOf 3) = [.int .i64 n6] := h6
  replace h7 : (cs.drop 9).take (Tryd.prog.cellsOf 3) = [.int .i64 n7] := h7
  replace h8 : (cs.drop 10).take (Tryd.prog.cellsOf 34) = [vd] := h8
  replace h9 : (cs.drop 11).take (Tryd.prog.cellsOf 34) = [vc] := h9
  replace h10 : (cs.drop 12).take (Tryd.prog.cellsOf 35) = [vf] := h10
  rw [cString] at h0 h1 h2 h3 h5
  rw [cVer] at h4
  rw [cInt] at h6 h7
  rw [cSpcs] at h8 h9
  rw [cStrs] at h10
  match cs, hl with
  | [a0, a1, a2, a3, a4, a5, a6, a7, a8, a9, a10, a11, a12], _ =>
    obtain rfl : a0 = .string s0 := by simpa using h0
    obtain rfl : a1 = .string s1 := by simpa using h1
    obtain rfl : a2 = .string s2 := by simpa using h2
    obtain rfl : a3 = .string s3 := by simpa using h3
    obtain ⟨rfl, rfl, rfl⟩ : a4 = .int .i64 v.epoch ∧ a5 = p ∧ a6 = l := by simpa using h4
    obtain rfl : a7 = .string s5 := by simpa using h5
    obtain rfl : a8 = .int .i64 n6 := by simpa using h6
    obtain rfl : a9 = .int .i64 n7 := by simpa using h7
    obtain rfl : a10 = vd := by simpa using h8
    obtain rfl : a11 = vc := by simpa using h9
    obtain rfl : a12 = vf := by simpa using h10
    exact ⟨⟨s0, s1, s2, s3, v, s5, n6, n7, ds, cc, fs⟩, _, _, _, _, _, rfl, ⟨h0', h1', h2', h3', h5'⟩, ⟨h4'.1, h6', h7'⟩, h4'.2.1, h4'.2.2, h8', h9', h10'⟩
theorem opensRcds : Opens enc Tryd.prog w base spare held 22 (R1 13 RRcd) := Opens.sl Tryd.underlying22 cRcd (by decide) opensRcd
set_option maxRecDepth 100000 in
theorem open_rcds {r : Reach} {b0 : Nat} {v : Value} {d : DataW H} {ps : List MemPlace} (hval : Value.okWide Tryd.prog w r b0 22 v) (hd : DataW.Trod enc Tryd.prog w base spare held 22 v d ps) :
    ∃ xs : List Rcd, IsRcds w (Lt w.heap.size) v xs := by
  obtain ⟨a, len, cap, rfl⟩ := okWide_slice Tryd.underlying22 hval
  obtain ⟨fuel, hf⟩ := hd
  obtain ⟨xs, u, hu, hx⟩ := opensRcds _ _ _ hf
  obtain rfl : Value.slice a len cap = u := by simpa [Value.cells] using hu
  exact ⟨xs, hx⟩
set_option maxRecDepth 100000 in
theorem open_bools {r : Reach} {b0 : Nat} {v : Value} {d : DataW H} {ps : List MemPlace} (hval : Value.okWide Tryd.prog w r b0 23 v) (hd : DataW.Trod enc Tryd.prog w base spare held 23 v d ps) :
    ∃ xs : List Bool, IsBools w (Lt w.heap.size) v xs := by
  obtain ⟨a, len, cap, rfl⟩ := okWide_slice Tryd.underlying23 hval
  obtain ⟨fuel, hf⟩ := hd
  obtain ⟨xs, u, hu, hx⟩ := opensBools _ _ _ hf
  obtain rfl : Value.slice a len cap = u := by simpa [Value.cells] using hu
  exact ⟨xs, hx⟩
set_option maxRecDepth 100000 in
theorem open_strs {r : Reach} {b0 : Nat} {v : Value} {d : DataW H} {ps : List MemPlace} (hval : Value.okWide Tryd.prog w r b0 35 v) (hd : DataW.Trod enc Tryd.prog w base spare held 35 v d ps) :
    ∃ xs : List ByteArray, IsStrs w (Lt w.heap.size) v xs := by
  obtain ⟨a, len, cap, rfl⟩ := okWide_slice Tryd.underlying35 hval
  obtain ⟨fuel, hf⟩ := hd
  obtain ⟨xs, u, hu, hx⟩ := opensStrs _ _ _ hf
  obtain rfl : Value.slice a len cap = u := by simpa [Value.cells] using hu
  exact ⟨xs, hx⟩
end
end Go.Proofs.YtkmoaeckabjgnaaDoor.V
