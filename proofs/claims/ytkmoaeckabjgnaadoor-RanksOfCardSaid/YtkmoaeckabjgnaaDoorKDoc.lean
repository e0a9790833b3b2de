/-
  The walks of the document's same, Place, Rank.
-/
import Derived.Test.YtkmoaeckabjgnaaDoorKBigAll
import Derived.Test.YtkmoaeckabjgnaaDoorKMap
import Derived.Test.YtkmoaeckabjgnaaDoorKRank2
import Derived.Test.YtkmoaeckabjgnaaDoorRef3
namespace Go.Proofs.YtkmoaeckabjgnaaDoor.V
set_option linter.unusedVariables false
set_option linter.unusedSimpArgs false
open Go Go.RowKit Go.Sort

set_option maxHeartbeats 4000000 in
theorem dSame_any (va vb : Value) (x y : Rcd) (B : Nat) (w : World) (ha : IsRcd w (Lt B) va x) (hb : IsRcd w (Lt B) vb y) (hB : B ≤ w.heap.size) :
    Calls Tryd.prog 38 #[va, vb] w fun e w' => e = .returned (.bool (sameR x y)) ∧ Below w.heap.size w w' := by
  obtain ⟨aA1, an1, ac1, aA2, an2, ac2, aA3, an3, ac3, aA4, an4, ac4, aA5, an5, ac5, rfl, hra⟩ := ha.cells
  obtain ⟨bA1, bn1, bc1, bA2, bn2, bc2, bA3, bn3, bc3, bA4, bn4, bc4, bA5, bn5, bc5, rfl, hrb⟩ := hb.cells
  have HX := Lib.hid (news_two w (.cells #[.string x.chan, .string x.file, .string x.name, .string x.text, .int .i64 x.ver.epoch, .slice aA1 an1 ac1, .slice aA2 an2 ac2, .string x.build, .int .i64 x.num, .int .i64 x.time, .slice aA3 an3 ac3, .slice aA4 an4 ac4, .slice aA5 an5 ac5] 37) (.cells #[.string y.chan, .string y.file, .string y.name, .string y.text, .int .i64 y.ver.epoch, .slice bA1 bn1 bc1, .slice bA2 bn2 bc2, .string y.build, .int .i64 y.num, .int .i64 y.time, .slice bA3 bn3 bc3, .slice bA4 bn4 bc4, .slice bA5 bn5 bc5] 37))
  have HA := Lib.hid (hra.keep hB ((Same.of_below HX.out).mono hB))
  have HB := Lib.hid (hrb.keep hB ((Same.of_below HX.out).mono hB))
  clear hra hrb ha hb
  cases hnm : (x.name.toList == y.name.toList) with
  | false =>
    go_enter Tryd.func38, Tryd.ntmps38
    go_wp2_with fail
    go_ret
    exact ⟨ret_bool (by unfold sameR; rw [nm_on (x := false) (y := false) hnm]; rfl), HX.out⟩
  | true =>
    go_enter Tryd.func38, Tryd.ntmps38
    go_wp2_with fail
    refine (rCompare_any _ _ x.ver y.ver w.heap.size _ HA.out.ver HB.out.ver HX.out.size).mono ?_
    rintro e w2 ⟨rfl, hb2⟩
    have HY := Lib.hid (HX.out.trans (hb2.mono HX.out.size))
    clear hb2
    go_wp2_with fail
    go_ret
    exact ⟨ret_bool (by unfold sameR; rw [nm_on (x := true) (y := true) hnm]; rfl), HY.out⟩

theorem place_found {ch : List ByteArray} {s : ByteArray} {k : Nat} (h : hasTo ch k s = false) (hk : nmE (ch.getD k ByteArray.empty) s = true) : ∀ m, k < m → hasTo ch m s = true ∧ placeTo ch m s = k := by
  intro m
  induction m with
  | zero => intro h; omega
  | succ m ih =>
    intro hm
    by_cases e : k = m
    · subst e
      exact ⟨by rw [hasTo, hk]; simp, by rw [placeTo, h, hk]; simp⟩
    · obtain ⟨h1, h2⟩ := ih (by omega)
      exact ⟨by rw [hasTo, h1]; rfl, by rw [placeTo, h1, h2]; simp⟩
set_option maxHeartbeats 2000000 in
theorem dPlace_any (va : Value) (ch : List ByteArray) (s : ByteArray) (B : Nat) (w : World) (ha : IsStrs w (Lt B) va ch) :
    Calls Tryd.prog 39 #[va, .string s] w fun e w' => (∃ p : Int, e = .returned (.int .i64 p) ∧ (0 < p → p = placeL ch s) ∧ (¬ 0 < p → placeL ch s = 0)) ∧ Below w.heap.size w w' := by
  obtain ⟨A1, c1, rfl, hl1, hc1⟩ := ha.form
  have HA := Lib.hid ha
  clear ha
  go_enter Tryd.func39, Tryd.ntmps39
  go_wp2_with fail
  go_loopw [9] (fun i wr => ∃ k : Nat, k ≤ ch.length ∧ i = .int .i64 k ∧ Hid (hasTo ch k s = false) ∧ wr = w) (fun i _ => ch.length - (intOf i).toNat)
  case atStart => exact ⟨0, Nat.zero_le _, rfl, Lib.hid rfl, rfl⟩
  case round =>
    obtain ⟨k, hk, rfl, HN, rfl⟩ := hrel
    by_cases hlt : k < ch.length
    · obtain ⟨q, hq⟩ : ∃ q, ch[k]? = some q := ⟨_, List.getElem?_eq_getElem hlt⟩
      obtain ⟨b, o, rfl, hb, hsz, hcell⟩ := strs_at HA.out hq
      have HGD : Hid (ch.getD k ByteArray.empty = q) := Lib.hid (by simp [List.getD, hq])
      clear hq
      cases hnm : (q.toList == s.toList) with
      | true =>
        have HP := Lib.hid (place_found HN.out (by rw [HGD.out]; exact nm_on (x := true) (y := true) hnm) ch.length hlt)
        go_wp2_with fail
        go_ret
        exact ⟨⟨_, rfl, fun _ => by unfold placeL; rw [HP.out.2], fun h => by unfold placeL; rw [HP.out.2]; omega⟩, Below.refl _ _⟩
      | false =>
        go_wp2_with fail
        go_roundw
        case rel => exact ⟨k + 1, by omega, by go_num, Lib.hid (by rw [hasTo, HN.out, HGD.out, nm_on (x := false) (y := false) hnm]; rfl), trivial⟩
        case measure => simp [intOf]; omega
    · obtain rfl : k = ch.length := by omega
      go_wp2_with fail
      go_ret
      exact ⟨⟨_, rfl, fun h => by omega, fun _ => placeTo_none _ HN.out⟩, Below.refl _ _⟩

/-- None of the first j is of y's kind. -/
def noneTo (xs : List Rcd) (on : List Bool) (y : Rcd) (E : Rcd → Rcd → Bool) (j : Nat) : Bool := (List.range j).all fun k => !(on.getD k false && sameR y (recAt xs k) && E (recAt xs k) y)
theorem noneTo_succ (xs : List Rcd) (on : List Bool) (y : Rcd) (E : Rcd → Rcd → Bool) (j : Nat) : noneTo xs on y E (j + 1) = (noneTo xs on y E j && !(on.getD j false && sameR y (recAt xs j) && E (recAt xs j) y)) := by
  unfold noneTo
  rw [List.range_succ, List.all_append]
  simp
def eqAll (_ _ : Rcd) : Bool := true
def eqNT (a b : Rcd) : Bool := eqNum a b && eqTime a b
theorem docV_at {xs : List Rcd} {on : List Bool} {r y : Rcd} {i : Nat} (hy : xs[i]? = some y) : docV xs on r i = (baseP xs on r.name i && newer r y && noneTo xs on y eqAll i) := by
  have h : recAt xs i = y := by simp [recAt, List.getD, hy]
  unfold docV noneTo eqAll
  rw [h]
  simp only [Bool.and_true]
theorem docN_at {xs : List Rcd} {on : List Bool} {r y : Rcd} {i : Nat} (hy : xs[i]? = some y) : docN xs on r i = (baseP xs on r.name i && greater r y && noneTo xs on y eqNum i) := by
  have h : recAt xs i = y := by simp [recAt, List.getD, hy]
  unfold docN noneTo
  rw [h]
theorem docT_at {xs : List Rcd} {on : List Bool} {r y : Rcd} {i : Nat} (hy : xs[i]? = some y) : docT xs on r i = (baseP xs on r.name i && later r y && noneTo xs on y eqNT i) := by
  have h : recAt xs i = y := by simp [recAt, List.getD, hy]
  unfold docT noneTo eqNT
  rw [h]
  simp only [Bool.and_assoc]
end Go.Proofs.YtkmoaeckabjgnaaDoor.V
