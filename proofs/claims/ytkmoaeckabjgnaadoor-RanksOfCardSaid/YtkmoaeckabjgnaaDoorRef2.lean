/-
  The walks of the document's item, part, hold.
-/
import Derived.Test.YtkmoaeckabjgnaaDoorRef1
namespace Go.Proofs.YtkmoaeckabjgnaaDoor.V
set_option linter.unusedVariables false
set_option linter.unusedSimpArgs false
open Go Go.RowKit Go.Sort

theorem item_zero_n : Item.zero.n = 0 := rfl
theorem item_zero_word : Item.zero.word = ByteArray.empty := rfl

set_option maxHeartbeats 400000 in
theorem ritem_any (v : Value) (xs : List Item) (B i : Nat) (w : World) (h : IsComp w (Lt B) v xs) (hB : B ≤ w.heap.size) :
    Calls Tryd.prog 72 #[v, .int .i64 i] w fun e w' => e = .returned (.agg #[.int .i64 (xs.getD i Item.zero).n, .string (xs.getD i Item.zero).word]) ∧ Below w.heap.size w w' := by
  obtain ⟨A, c, rfl, hl, hc⟩ := h.form
  by_cases hlt : i < xs.length
  · obtain ⟨x, hx⟩ : ∃ x, xs[i]? = some x := ⟨_, List.getElem?_eq_getElem hlt⟩
    obtain ⟨b, o, vs, rfl, hb, hlen, ⟨rfl, _, _⟩, hrow⟩ := h.at_ hx
    have hbw : b < w.heap.size := by omega
    have h0 : w.cell? ⟨b, o + i * 2, none⟩ = some (.int .i64 x.n) := hrow 0 _ rfl
    have h1 : w.cell? ⟨b, o + i * 2 + 1, none⟩ = some (.string x.word) := hrow 1 _ rfl
    have HX := Lib.hid (getD_of (z := Item.zero) hx)
    clear hx hrow h
    go_enter Tryd.func72, Tryd.ntmps72
    go_wp2
    exact bodyPost_ret (v := .agg #[.int .i64 x.n, .string x.word]) (by simp [results, Tryd.results72, go_sem]) rfl ⟨by rw [HX.out], news_alloc _ _⟩
  · have HX := Lib.hid (getD_out (z := Item.zero) (i := i) (xs := xs) (by omega))
    clear h
    go_enter Tryd.func72, Tryd.ntmps72
    go_wp2
    exact bodyPost_ret (v := .agg #[.int .i64 0, .string ⟨#[]⟩]) (by simp [results, Tryd.results72, go_sem]) rfl ⟨by rw [HX.out]; rfl, news_alloc _ _⟩

set_option maxHeartbeats 400000 in
theorem rpart_any (v : Value) (xs : List (List Item)) (B i : Nat) (w : World) (h : IsParts w (Lt B) v xs) (hB : B ≤ w.heap.size) :
    Calls Tryd.prog 60 #[v, .int .i64 i] w fun e w' => (∃ u, e = .returned u ∧ IsComp w' (Lt w'.heap.size) u (xs.getD i [Item.zero])) ∧ Below w.heap.size w w' := by
  obtain ⟨A, c, rfl, hl, hc⟩ := h.form
  by_cases hlt : i < xs.length
  · obtain ⟨x, hx⟩ : ∃ x, xs[i]? = some x := ⟨_, List.getElem?_eq_getElem hlt⟩
    obtain ⟨b, o, vs, rfl, hb, hlen, ⟨u, rfl, hu⟩, hrow⟩ := h.at_ hx
    obtain ⟨A', c', rfl, hl', hc'⟩ := hu.form
    have h0 : w.cell? ⟨b, o + i, none⟩ = some (.slice A' x.length c') := by simpa using hrow 0 _ rfl
    have HX := Lib.hid (getD_of (z := [Item.zero]) hx)
    have HU := Lib.hid hu
    clear hx hrow h hu
    go_enter Tryd.func60, Tryd.ntmps60
    go_wp2
    go_ret
    exact ⟨⟨_, rfl, by rw [HX.out]; exact HU.out.keepOn keepsItem (fun _ hb => Nat.lt_of_lt_of_le hb hB) (fun _ _ => rfl)⟩, Below.refl _ _⟩
  · have HX := Lib.hid (getD_out (z := [Item.zero]) (i := i) (xs := xs) (by omega))
    clear h
    go_enter Tryd.func60, Tryd.ntmps60
    go_wp2
    go_ret
    refine ⟨⟨_, rfl, ?_⟩, news_alloc _ _⟩
    rw [HX.out]
    refine ⟨some ⟨w.heap.size, 0, none⟩, 1, rfl, Nat.le_refl _, by decide, fun j x hj => ?_⟩
    obtain ⟨rfl, rfl⟩ : j = 0 ∧ x = Item.zero := by
      cases j with
      | zero => exact ⟨rfl, by simpa using hj.symm⟩
      | succ j => simp at hj
    refine ⟨w.heap.size, 0, [.int .i64 0, .string ByteArray.empty], rfl, by show w.heap.size < _; simp, rfl, ⟨rfl, ⟨by decide, by decide⟩, by decide⟩, ?_⟩
    intro k u hk
    rw [show 0 + 0 * 2 + k = 0 + k by omega, Nat.zero_add, World.cell?_alloc_new]
    rw [List.getElem?_toArray]
    exact hk

theorem lessTrue {r : Int} (h : r = -1) : decide (r = -1) = true := decide_eq_true h
theorem lessFalse {r : Int} (h : ¬ r = -1) : decide (r = -1) = false := decide_eq_false h

set_option maxHeartbeats 2000000 in
theorem rhold_any (va vb : Value) (xs ys : List Item) (B : Nat) (w : World) (ha : IsComp w (Lt B) va xs) (hb : IsComp w (Lt B) vb ys) (hB : B ≤ w.heap.size) :
    Calls Tryd.prog 59 #[va, vb] w fun e w' => e = .returned (.int .i64 (cmpComp xs ys)) ∧ Below w.heap.size w w' := by
  obtain ⟨A1, c1, rfl, hl1, hc1⟩ := ha.form
  obtain ⟨A2, c2, rfl, hl2, hc2⟩ := hb.form
  have HA := Lib.hid ha
  have HB' := Lib.hid hb
  clear ha hb
  obtain ⟨n, HN⟩ : ∃ n, Hid (max xs.length ys.length = n) := ⟨_, Lib.hid rfl⟩
  go_enter Tryd.func59, Tryd.ntmps59
  go_wp2
  go_loopw [5] (fun i wr => ∃ k : Nat, k ≤ n ∧ i = .int .i64 k ∧ Hid (cmpComp xs ys = nz (fI xs ys) k (n - k)) ∧ Hid (Below w.heap.size w wr)) (fun i _ => n - (intOf i).toNat)
  case atStart => exact ⟨0, Nat.zero_le _, rfl, Lib.hid (by unfold cmpComp rowsC; rw [HN.out]; rfl), Lib.hid (Below.refl _ _)⟩
  case round =>
    obtain ⟨k, hk, rfl, HO, HW⟩ := hrel
    by_cases hlt : k < n
    · obtain ⟨x, HX⟩ : ∃ x, Hid (xs.getD k Item.zero = x) := ⟨_, Lib.hid rfl⟩
      obtain ⟨y, HY⟩ : ∃ y, Hid (ys.getD k Item.zero = y) := ⟨_, Lib.hid rfl⟩
      have HAr := Lib.hid (HA.out.keep keepsItem (Nat.le_refl _) ((Same.of_below HW.out).mono hB))
      have HBr := Lib.hid (HB'.out.keep keepsItem (Nat.le_refl _) ((Same.of_below HW.out).mono hB))
      have hBr : B ≤ wr.heap.size := by have := HW.out.size; omega
      have hor : (k < xs.length) ∨ (¬ k < xs.length ∧ k < ys.length) := by have := HN.out; omega
      have CA : Hid (Calls Tryd.prog 72 #[.slice A1 xs.length c1, .int .i64 k] wr fun e w' => e = .returned (.agg #[.int .i64 x.n, .string x.word]) ∧ Below wr.heap.size wr w') := Lib.hid (by rw [← HX.out]; exact ritem_any _ xs B k wr HAr.out hBr)
      have CB : Hid (∀ w', Below wr.heap.size wr w' → Calls Tryd.prog 72 #[.slice A2 ys.length c2, .int .i64 k] w' fun e w'' => e = .returned (.agg #[.int .i64 y.n, .string y.word]) ∧ Below w'.heap.size w' w'') := Lib.hid (fun w' hw' => by
        rw [← HY.out]
        exact ritem_any _ ys B k w' (HBr.out.keep keepsItem (Nat.le_refl _) ((Same.of_below hw').mono hBr)) (Nat.le_trans hBr hw'.size))
      rcases hor with h1 | ⟨h1, h2⟩
      all_goals (
        go_wp2_with (first | (go_at_call_of 72 xs; refine CA.out.mono ?_; rintro e w1 ⟨rfl, hb1⟩; have HB1 := Lib.hid hb1; clear hb1) | (go_at_call_of 72 ys; refine (CB.out _ HB1.out).mono ?_; rintro e w2 ⟨rfl, hb2⟩; have HB2 := Lib.hid hb2; clear hb2))
        have hbx : Below w2.heap.size w2 ((w2.alloc (.cells #[.int .i64 x.n, .string x.word] 124)).alloc (.cells #[.int .i64 y.n, .string y.word] 124)) := ((Below.refl _ _).alloc (Nat.le_refl _) _).alloc (by simp) _
        obtain ⟨k0, k1⟩ := cells_two w2 #[.int .i64 x.n, .string x.word] #[.int .i64 y.n, .string y.word] 124 124
        have hsz : w2.heap.size + 2 = ((w2.alloc (.cells #[.int .i64 x.n, .string x.word] 124)).alloc (.cells #[.int .i64 y.n, .string y.word] 124)).heap.size := by simp
        generalize ((w2.alloc (.cells #[.int .i64 x.n, .string x.word] 124)).alloc (.cells #[.int .i64 y.n, .string y.word] 124)) = W at *
        have HS := Lib.hid hsz
        have HBW := Lib.hid (HW.out.trans ((HB1.out.trans ((HB2.out.trans (hbx.mono HB2.out.size)).mono HB1.out.size)).mono HW.out.size))
        have K0 := Lib.hid k0
        have K1 := Lib.hid k1
        clear hsz hbx k0 k1
        refine (rLess_any x y W).mono ?_
        rintro e w3 ⟨rfl, hb3⟩
        have e0 : w3.cell? ⟨w2.heap.size, 0, none⟩ = some (.int .i64 x.n) := (hb3.cell (by have := HS.out; show w2.heap.size < _; omega)).trans (K0.out 0)
        have e1 : w3.cell? ⟨w2.heap.size, 1, none⟩ = some (.string x.word) := (hb3.cell (by have := HS.out; show w2.heap.size < _; omega)).trans (K0.out 1)
        have f0 : w3.cell? ⟨w2.heap.size + 1, 0, none⟩ = some (.int .i64 y.n) := (hb3.cell (by have := HS.out; show w2.heap.size + 1 < _; omega)).trans (K1.out 0)
        have f1 : w3.cell? ⟨w2.heap.size + 1, 1, none⟩ = some (.string y.word) := (hb3.cell (by have := HS.out; show w2.heap.size + 1 < _; omega)).trans (K1.out 1)
        have HBW3 := Lib.hid (HBW.out.trans (hb3.mono HBW.out.size))
        clear hb3
        have HNZ := Lib.hid (nz_step (f := fI xs ys) hlt)
        have HFI : Hid (fI xs ys k = cmpItem x y) := Lib.hid (by unfold fI; rw [HX.out, HY.out])
        obtain ⟨r, HR⟩ : ∃ r, Hid (cmpItem x y = r) := ⟨_, Lib.hid rfl⟩
        have HR2 : Hid (cmpItem y x = -r) := Lib.hid (by rw [← HR.out]; exact ordItem.anti x y)
        have hrr : r = -1 ∨ r = 0 ∨ r = 1 := HR.out ▸ ordItem.range x y
        rw [HR.out]
        rcases hrr with rfl | rfl | rfl
        · rw [lessTrue rfl]
          go_wp2_with fail
          go_ret
          exact ⟨ret_int (by rw [HO.out, HNZ.out, HFI.out, HR.out, if_neg (by decide)]), HBW3.out⟩
        · rw [lessFalse (by decide)]
          go_wp2_with (go_at_call 73; refine (rLess_any y x _).mono ?_; rintro e w4 ⟨rfl, hb4⟩; have HB4 := Lib.hid hb4; clear hb4; rw [HR2.out, lessFalse (by decide)])
          go_roundw
          case rel => exact ⟨k + 1, by omega, by go_num, Lib.hid (by rw [HO.out, HNZ.out, HFI.out, HR.out, if_pos rfl]), Lib.hid (HBW3.out.trans (HB4.out.mono HBW3.out.size))⟩
          case measure => simp [intOf]; omega
        · rw [lessFalse (by decide)]
          go_wp2_with (go_at_call 73; refine (rLess_any y x _).mono ?_; rintro e w4 ⟨rfl, hb4⟩; have HB4 := Lib.hid hb4; clear hb4; rw [HR2.out, lessTrue (by decide)])
          go_ret
          exact ⟨ret_int (by rw [HO.out, HNZ.out, HFI.out, HR.out, if_neg (by decide)]), HBW3.out.trans (HB4.out.mono HBW3.out.size)⟩)
    · have HF : Hid (cmpComp xs ys = 0) := Lib.hid (by rw [HO.out, show n - k = 0 by omega]; rfl)
      have h1 : ¬ k < xs.length := by have := HN.out; omega
      have h2 : ¬ k < ys.length := by have := HN.out; omega
      go_wp2_with fail
      go_ret
      exact ⟨ret_int (by rw [HF.out]), HW.out⟩

theorem comp_pad (b : List Item) : cmpComp [Item.zero] b = cmpComp [] b := by
  unfold cmpComp
  rw [rowsC_at ordItem Item.zero [Item.zero] b (max 1 b.length) (by simp; omega) (by omega), rowsC_at ordItem Item.zero [] b (max 1 b.length) (by simp) (by omega)]
  apply nz_congr
  intro j _ _
  have : ([Item.zero] : List Item).getD j Item.zero = ([] : List Item).getD j Item.zero := by
    cases j with
    | zero => rfl
    | succ j => simp [List.getD]
  rw [this]
theorem pad_getD {xs : List (List Item)} {k : Nat} (b : List Item) : cmpComp (xs.getD k [Item.zero]) b = cmpComp (xs.getD k []) b := by
  by_cases h : k < xs.length
  · simp [List.getD, h]
  · simp only [List.getD, List.getElem?_eq_none (show xs.length ≤ k by omega), Option.getD_none]
    exact comp_pad b
theorem pad_both {xs ys : List (List Item)} {k : Nat} : cmpComp (xs.getD k [Item.zero]) (ys.getD k [Item.zero]) = cmpComp (xs.getD k []) (ys.getD k []) := by
  rw [pad_getD]
  have h1 := ordComp.anti (ys.getD k [Item.zero]) (xs.getD k [])
  have h2 := ordComp.anti (ys.getD k []) (xs.getD k [])
  rw [pad_getD] at h1
  omega

set_option maxHeartbeats 1000000 in
theorem rholdRows_any (va vb : Value) (xs ys : List (List Item)) (B : Nat) (w : World) (ha : IsParts w (Lt B) va xs) (hb : IsParts w (Lt B) vb ys) (hB : B ≤ w.heap.size) :
    Calls Tryd.prog 37 #[va, vb] w fun e w' => e = .returned (.int .i64 (cmpParts xs ys)) ∧ Below w.heap.size w w' := by
  obtain ⟨A1, c1, rfl, hl1, hc1⟩ := ha.form
  obtain ⟨A2, c2, rfl, hl2, hc2⟩ := hb.form
  have HA := Lib.hid ha
  have HB' := Lib.hid hb
  clear ha hb
  obtain ⟨n, HN⟩ : ∃ n, Hid (max xs.length ys.length = n) := ⟨_, Lib.hid rfl⟩
  go_enter Tryd.func37, Tryd.ntmps37
  go_wp2
  go_loopw [5] (fun i wr => ∃ k : Nat, k ≤ n ∧ i = .int .i64 k ∧ Hid (cmpParts xs ys = nz (fP xs ys) k (n - k)) ∧ Hid (Below w.heap.size w wr)) (fun i _ => n - (intOf i).toNat)
  case atStart => exact ⟨0, Nat.zero_le _, rfl, Lib.hid (by unfold cmpParts rowsC; rw [HN.out]; rfl), Lib.hid (Below.refl _ _)⟩
  case round =>
    obtain ⟨k, hk, rfl, HO, HW⟩ := hrel
    by_cases hlt : k < n
    · have HAr := Lib.hid (HA.out.keep keepsComp (Nat.le_refl _) ((Same.of_below HW.out).mono hB))
      have HBr := Lib.hid (HB'.out.keep keepsComp (Nat.le_refl _) ((Same.of_below HW.out).mono hB))
      have hBr : B ≤ wr.heap.size := by have := HW.out.size; omega
      have hor : (k < xs.length) ∨ (¬ k < xs.length ∧ k < ys.length) := by have := HN.out; omega
      obtain ⟨r, HR⟩ : ∃ r, Hid (cmpComp (xs.getD k [Item.zero]) (ys.getD k [Item.zero]) = r) := ⟨_, Lib.hid rfl⟩
      have HNZ := Lib.hid (nz_step (f := fP xs ys) hlt)
      have HFI : Hid (fP xs ys k = r) := Lib.hid (pad_both.symm.trans HR.out)
      rcases hor with h1 | ⟨h1, h2⟩
      all_goals (
        by_cases hz : r = 0
        · subst hz
          go_wp2_with (first | (go_at_call_of 60 xs; refine (rpart_any _ xs B k _ HAr.out hBr).mono ?_; rintro e w1 ⟨⟨u1, rfl, hu1⟩, hb1⟩; have HU1 := Lib.hid hu1; have HB1 := Lib.hid hb1; clear hu1 hb1) | (go_at_call_of 60 ys; refine (rpart_any _ ys B k _ (HBr.out.keep keepsComp (Nat.le_refl _) ((Same.of_below HB1.out).mono hBr)) (Nat.le_trans hBr HB1.out.size)).mono ?_; rintro e w2 ⟨⟨u2, rfl, hu2⟩, hb2⟩; have HU2 := Lib.hid hu2; have HB2 := Lib.hid hb2; clear hu2 hb2) | (go_at_call 59; refine (rhold_any _ _ _ _ _ _ (HU1.out.keep keepsItem HB2.out.size (Same.of_below HB2.out)) HU2.out (Nat.le_refl _)).mono ?_; rintro e w3 ⟨rfl, hb3⟩; have HB3 := Lib.hid hb3; clear hb3; rw [HR.out]))
          have HBW := Lib.hid (HW.out.trans ((HB1.out.trans ((HB2.out.trans (HB3.out.mono HB2.out.size)).mono HB1.out.size)).mono HW.out.size))
          go_roundw
          case rel => exact ⟨k + 1, by omega, by go_num, Lib.hid (by rw [HO.out, HNZ.out, HFI.out, if_pos rfl]), HBW⟩
          case measure => simp [intOf]; omega
        · have hzb : (r == 0) = false := by simpa using hz
          have hzn : (r != 0) = true := by simpa using hz
          go_wp2_with (first | (go_at_call_of 60 xs; refine (rpart_any _ xs B k _ HAr.out hBr).mono ?_; rintro e w1 ⟨⟨u1, rfl, hu1⟩, hb1⟩; have HU1 := Lib.hid hu1; have HB1 := Lib.hid hb1; clear hu1 hb1) | (go_at_call_of 60 ys; refine (rpart_any _ ys B k _ (HBr.out.keep keepsComp (Nat.le_refl _) ((Same.of_below HB1.out).mono hBr)) (Nat.le_trans hBr HB1.out.size)).mono ?_; rintro e w2 ⟨⟨u2, rfl, hu2⟩, hb2⟩; have HU2 := Lib.hid hu2; have HB2 := Lib.hid hb2; clear hu2 hb2) | (go_at_call 59; refine (rhold_any _ _ _ _ _ _ (HU1.out.keep keepsItem HB2.out.size (Same.of_below HB2.out)) HU2.out (Nat.le_refl _)).mono ?_; rintro e w3 ⟨rfl, hb3⟩; have HB3 := Lib.hid hb3; clear hb3; rw [HR.out]))
          have HBW := Lib.hid (HW.out.trans ((HB1.out.trans ((HB2.out.trans (HB3.out.mono HB2.out.size)).mono HB1.out.size)).mono HW.out.size))
          go_ret
          exact ⟨ret_int (by rw [HO.out, HNZ.out, HFI.out, if_neg hz]), HBW.out⟩)
    · have HF : Hid (cmpParts xs ys = 0) := Lib.hid (by rw [HO.out, show n - k = 0 by omega]; rfl)
      have h1 : ¬ k < xs.length := by have := HN.out; omega
      have h2 : ¬ k < ys.length := by have := HN.out; omega
      go_wp2_with fail
      go_ret
      exact ⟨ret_int (by rw [HF.out]), HW.out⟩
end Go.Proofs.YtkmoaeckabjgnaaDoor.V
