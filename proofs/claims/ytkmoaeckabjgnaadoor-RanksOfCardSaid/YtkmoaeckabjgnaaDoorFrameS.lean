/-
  What the row's frame gives a walk that asks which error it is: the thirteen errors' variables' cells, a world for the witness.
-/
import Derived.Test.YtkmoaeckabjgnaaDoorFrameK
import Derived.Test.YtkmoaeckabjgnaaDoorKNum
namespace Go.Proofs.YtkmoaeckabjgnaaDoor.V
set_option linter.unusedVariables false
set_option linter.unusedSimpArgs false
open Go Go.ChangeShapes Go.WideShapes Go.ChangeAt Go.RowKit

abbrev laid13 : List (String × DataW Unit) := [("haversack/api.ErrSyntax", Rows.laid_haversack_api_ErrSyntax), ("haversack/api.ErrDepth", Rows.laid_haversack_api_ErrDepth), ("haversack/api.ErrSize", Rows.laid_haversack_api_ErrSize), ("haversack/api.ErrNumber", Rows.laid_haversack_api_ErrNumber), ("haversack/api.ErrKey", Rows.laid_haversack_api_ErrKey), ("haversack/api.ErrType", Rows.laid_haversack_api_ErrType), ("haversack/api.ErrName", Rows.laid_haversack_api_ErrName), ("haversack/api.ErrVersion", Rows.laid_haversack_api_ErrVersion), ("haversack/api.ErrSpec", Rows.laid_haversack_api_ErrSpec), ("haversack/api.ErrRange", Rows.laid_haversack_api_ErrRange), ("haversack/api.ErrNone", Rows.laid_haversack_api_ErrNone), ("haversack/api.ErrLimit", Rows.laid_haversack_api_ErrLimit), ("haversack/api.ErrTwice", Rows.laid_haversack_api_ErrTwice)]
theorem noHandle13 : (laid13.filter fun x => x.2.handleName?.isSome) = [] := by kernel_rfl
def newErr (text : List UInt8) : DataW Unit := .iface "*errors.errorString" (.ptr (.agg [.lit (.string text)]))
set_option maxRecDepth 100000 in
theorem laid_errs {W : World} : ∀ (l : List (String × DataW Unit)) (gs : List Nat) (ps : List MemPlace), DataW.LaidVars Tryd.prog W l ps → ps.Nodup →
    (∀ b off, MemPlace.cell b off ∈ ps → (∃ c t, W.heap[b]? = some (.cells c t (0, 0))) ∧ ∀ u v, W.cell? ⟨b, off, none⟩ = some (.iface u v) → Value.okWide Tryd.prog W .any 0 u v) →
    (∀ (i : Nat) (n : String) (d : DataW Unit), l[i]? = some (n, d) → ∃ g text, gs[i]? = some g ∧ Tryd.prog.globalNamed n = some g ∧ (Tryd.prog.globals[g]?).map (·.type) = some 28 ∧ d = newErr text) →
    ∃ es : List Addr, es.length = l.length ∧ (∀ (i : Nat) (a : Addr) (g : Nat), es[i]? = some a → gs[i]? = some g → W.cell? ⟨g, 0, none⟩ = some (.iface 165 (.pointer (some a)))) ∧
      (∀ (i : Nat) (a : Addr), es[i]? = some a → MemPlace.cell a.block a.off ∈ ps) ∧ (∀ (i j : Nat) (a b : Addr), i ≠ j → es[i]? = some a → es[j]? = some b → a ≠ b)
  | [], gs, ps, _, _, _, _ => ⟨[], rfl, fun i a g h => by simp at h, fun i a h => by simp at h, fun i j a b _ h => by simp at h⟩
  | (n, d) :: r, gs, ps, hv, hnd, hrows, hgs => by
    obtain ⟨g0, t0, cs0, f0, p0, q0, hg0, ht0, hv0, hd0, hq, rfl⟩ := hv
    obtain ⟨g, text, hgi, hgn, hgt, rfl⟩ := hgs 0 n d rfl
    obtain rfl := Option.some.inj (hgn.symm.trans hg0)
    obtain rfl := Option.some.inj (hgt.symm.trans ht0)
    match gs, hgi with
    | g' :: gs', hgi =>
    obtain rfl : g' = g := by simpa using hgi
    obtain ⟨l0⟩ := cs0
    have ok0 : ∀ u v, l0 = [.iface u v] → Value.okWide Tryd.prog W .any 0 u v := fun u v e => by
      subst e
      exact (hrows g' 0 (by simp [MemPlace.row])).2 u v (by simpa using World.var?_cell hg0 hv0 0)
    obtain ⟨a0, s0, rfl, hc0, hs0, hz0, rfl⟩ := errorString_of_trod Tryd.underlying28 rowES Tryd.underlying165 Tryd.underlying190 rfl rfl Tryd.underlying9 cellsES cellsString hd0 ok0
    obtain ⟨es, h1, h2, h3, h4⟩ := laid_errs r gs' q0 hq (List.Nodup.sublist (List.sublist_append_right _ _) hnd) (fun b off hm => hrows b off (List.mem_append_right _ hm)) (fun i n d hi => by
      have := hgs (i + 1) n d (by simpa using hi)
      simpa using this)
    have hap : ∀ (i : Nat) (b : Addr), es[i]? = some b → a0 ≠ b := fun i b hb e => by
      subst e
      have hm := h3 i _ hb
      have hd := (List.nodup_append.1 hnd).2.2
      exact hd (.cell a0.block a0.off) (List.mem_append_right _ (by simp [MemPlace.row])) (.cell a0.block a0.off) hm rfl
    refine ⟨a0 :: es, by simp [h1], ?_, ?_, ?_⟩
    · intro i a g hi hg
      cases i with
      | zero =>
        obtain rfl : a0 = a := by simpa using hi
        obtain rfl : g' = g := by simpa using hg
        simpa using World.var?_cell hg0 hv0 0
      | succ i => exact h2 i a g (by simpa using hi) (by simpa using hg)
    · intro i a hi
      cases i with
      | zero =>
        obtain rfl : a0 = a := by simpa using hi
        exact List.mem_append_left _ (List.mem_append_right _ (by simp [MemPlace.row]))
      | succ i => exact List.mem_append_right _ (h3 i a (by simpa using hi))
    · intro i j a b hij hi hj
      cases i with
      | zero =>
        obtain rfl : a0 = a := by simpa using hi
        cases j with
        | zero => exact absurd rfl hij
        | succ j => exact hap j b (by simpa using hj)
      | succ i =>
        cases j with
        | zero =>
          obtain rfl : a0 = b := by simpa using hj
          exact fun e => hap i a (by simpa using hi) e.symm
        | succ j => exact h4 i j a b (by omega) (by simpa using hi) (by simpa using hj)
theorem laid13_at (i : Nat) (n : String) (d : DataW Unit) (h : laid13[i]? = some (n, d)) : ∃ g text, errG[i]? = some g ∧ Tryd.prog.globalNamed n = some g ∧ (Tryd.prog.globals[g]?).map (·.type) = some 28 ∧ d = newErr text := by
  match i, h with
  | 0, h =>
    obtain ⟨rfl, rfl⟩ : "haversack/api.ErrSyntax" = n ∧ Rows.laid_haversack_api_ErrSyntax = d := by simpa using h
    exact ⟨_, _, rfl, by kernel_rfl, by kernel_rfl, rfl⟩
  | 1, h =>
    obtain ⟨rfl, rfl⟩ : "haversack/api.ErrDepth" = n ∧ Rows.laid_haversack_api_ErrDepth = d := by simpa using h
    exact ⟨_, _, rfl, by kernel_rfl, by kernel_rfl, rfl⟩
  | 2, h =>
    obtain ⟨rfl, rfl⟩ : "haversack/api.ErrSize" = n ∧ Rows.laid_haversack_api_ErrSize = d := by simpa using h
    exact ⟨_, _, rfl, by kernel_rfl, by kernel_rfl, rfl⟩
  | 3, h =>
    obtain ⟨rfl, rfl⟩ : "haversack/api.ErrNumber" = n ∧ Rows.laid_haversack_api_ErrNumber = d := by simpa using h
    exact ⟨_, _, rfl, by kernel_rfl, by kernel_rfl, rfl⟩
  | 4, h =>
    obtain ⟨rfl, rfl⟩ : "haversack/api.ErrKey" = n ∧ Rows.laid_haversack_api_ErrKey = d := by simpa using h
    exact ⟨_, _, rfl, by kernel_rfl, by kernel_rfl, rfl⟩
  | 5, h =>
    obtain ⟨rfl, rfl⟩ : "haversack/api.ErrType" = n ∧ Rows.laid_haversack_api_ErrType = d := by simpa using h
    exact ⟨_, _, rfl, by kernel_rfl, by kernel_rfl, rfl⟩
  | 6, h =>
    obtain ⟨rfl, rfl⟩ : "haversack/api.ErrName" = n ∧ Rows.laid_haversack_api_ErrName = d := by simpa using h
    exact ⟨_, _, rfl, by kernel_rfl, by kernel_rfl, rfl⟩
  | 7, h =>
    obtain ⟨rfl, rfl⟩ : "haversack/api.ErrVersion" = n ∧ Rows.laid_haversack_api_ErrVersion = d := by simpa using h
    exact ⟨_, _, rfl, by kernel_rfl, by kernel_rfl, rfl⟩
  | 8, h =>
    obtain ⟨rfl, rfl⟩ : "haversack/api.ErrSpec" = n ∧ Rows.laid_haversack_api_ErrSpec = d := by simpa using h
    exact ⟨_, _, rfl, by kernel_rfl, by kernel_rfl, rfl⟩
  | 9, h =>
    obtain ⟨rfl, rfl⟩ : "haversack/api.ErrRange" = n ∧ Rows.laid_haversack_api_ErrRange = d := by simpa using h
    exact ⟨_, _, rfl, by kernel_rfl, by kernel_rfl, rfl⟩
  | 10, h =>
    obtain ⟨rfl, rfl⟩ : "haversack/api.ErrNone" = n ∧ Rows.laid_haversack_api_ErrNone = d := by simpa using h
    exact ⟨_, _, rfl, by kernel_rfl, by kernel_rfl, rfl⟩
  | 11, h =>
    obtain ⟨rfl, rfl⟩ : "haversack/api.ErrLimit" = n ∧ Rows.laid_haversack_api_ErrLimit = d := by simpa using h
    exact ⟨_, _, rfl, by kernel_rfl, by kernel_rfl, rfl⟩
  | 12, h =>
    obtain ⟨rfl, rfl⟩ : "haversack/api.ErrTwice" = n ∧ Rows.laid_haversack_api_ErrTwice = d := by simpa using h
    exact ⟨_, _, rfl, by kernel_rfl, by kernel_rfl, rfl⟩
  | i + 13, h => simp at h
theorem env_of13 {W : World} (hL : laidMetH Tryd.prog laid13 W) (hS : W.ShapedOpen Tryd.prog) : ∃ u ev m es, Env W u ev m ∧ Errs W es := by
  have h' : laidMet Tryd.prog laid13 W := laidMet_of_H noHandle13 hL
  obtain ⟨ps, hv, hnd, hrows⟩ := h'
  obtain ⟨es, h1, h2, h3, h4⟩ := laid_errs laid13 errG ps hv hnd hrows laid13_at
  have hlen : es.length = 13 := h1
  obtain ⟨m, hm⟩ := cell_of_shapedOpen_int (P := Tryd.prog) (g := 13) (t := 3) (zero := #[.int .i64 0]) hS (of_decide_eq_true (by kernel_rfl)) (by kernel_rfl) rfl (by kernel_rfl) (by kernel_rfl) Tryd.underlying3
  obtain ⟨a, ha⟩ : ∃ a, es[7]? = some a := ⟨_, List.getElem?_eq_getElem (by omega)⟩
  exact ⟨_, _, m, es, ⟨h2 7 a _ ha rfl, hm⟩, ⟨hlen, h2, fun i a hi => (hrows _ _ (h3 i a hi)).1, h4⟩⟩

/-- A world for the witness: the settled one, the variables laid. -/
noncomputable def laidWorld13 (os : Os) : World :=
  let w0 := World.holding Tryd.prog os ⟨#[.cells #[.string (errText [115, 121, 110, 116, 97, 120])] 190, .cells #[.string (errText [100, 101, 112, 116, 104])] 190, .cells #[.string (errText [115, 105, 122, 101])] 190, .cells #[.string (errText [110, 117, 109, 98, 101, 114])] 190, .cells #[.string (errText [107, 101, 121])] 190, .cells #[.string (errText [116, 121, 112, 101])] 190, .cells #[.string (errText [110, 97, 109, 101])] 190, .cells #[.string (errText [118, 101, 114, 115, 105, 111, 110])] 190, .cells #[.string (errText [115, 112, 101, 99])] 190, .cells #[.string (errText [114, 97, 110, 103, 101])] 190, .cells #[.string (errText [110, 111, 110, 101])] 190, .cells #[.string (errText [108, 105, 109, 105, 116])] 190, .cells #[.string (errText [116, 119, 105, 99, 101])] 190], #[], []⟩
  { w0 with heap := (layAt (layAt (layAt (layAt (layAt (layAt (layAt (layAt (layAt (layAt (layAt (layAt (layAt w0.heap 2 (low)) 3 (low + 1)) 0 (low + 2)) 4 (low + 3)) 5 (low + 4)) 6 (low + 5)) 7 (low + 6)) 8 (low + 7)) 9 (low + 8)) 1 (low + 9)) 10 (low + 10)) 11 (low + 11)) 12 (low + 12)) }
theorem laidWorld13_met (os : Os) (args : Array Value) : laidMet Tryd.prog laid13 ((laidWorld13 os).forCall (fun _ _ => 0) ⟨#[], args, []⟩).memory :=
  laidMet_of_run (ps := [.cell 2 0, .cell (low) 0, .cell 3 0, .cell (low + 1) 0, .cell 0 0, .cell (low + 2) 0, .cell 4 0, .cell (low + 3) 0, .cell 5 0, .cell (low + 4) 0, .cell 6 0, .cell (low + 5) 0, .cell 7 0, .cell (low + 6) 0, .cell 8 0, .cell (low + 7) 0, .cell 9 0, .cell (low + 8) 0, .cell 1 0, .cell (low + 9) 0, .cell 10 0, .cell (low + 10) 0, .cell 11 0, .cell (low + 11) 0, .cell 12 0, .cell (low + 12) 0]) 8 (by kernel_rfl) (by kernel_rfl) (by kernel_rfl)
end Go.Proofs.YtkmoaeckabjgnaaDoor.V
