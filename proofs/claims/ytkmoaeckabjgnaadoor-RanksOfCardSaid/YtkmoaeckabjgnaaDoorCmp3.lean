/-
  The walks of version.at, rows, compareComponents, Compare.
-/
import Derived.Test.YtkmoaeckabjgnaaDoorCmp2
namespace Go.Proofs.YtkmoaeckabjgnaaDoor.V
set_option linter.unusedVariables false
set_option linter.unusedSimpArgs false
open Go Go.RowKit Go.Sort

def Item.v (x : Item) : Value := .agg #[.int .i64 x.n, .string x.word]

theorem getD_of {α : Type} {xs : List α} {i : Nat} {x z : α} (h : xs[i]? = some x) : xs.getD i z = x := by simp [List.getD, h]
theorem getD_out {α : Type} {xs : List α} {i : Nat} {z : α} (h : xs.length ≤ i) : xs.getD i z = z := by simp [List.getD, List.getElem?_eq_none h]

set_option maxHeartbeats 400000 in
theorem atI_any (v : Value) (xs : List Item) (B i : Nat) (z : Item) (w : World) (h : IsComp w (Lt B) v xs) (hB : B ≤ w.heap.size) :
    Calls Tryd.prog 90 #[v, .int .i64 i, .agg #[.int .i64 z.n, .string z.word]] w fun e w' => e = .returned (.agg #[.int .i64 (xs.getD i z).n, .string (xs.getD i z).word]) ∧ Below w.heap.size w w' := by
  obtain ⟨A, c, rfl, hl, hc⟩ := h.form
  by_cases hlt : i < xs.length
  · obtain ⟨x, hx⟩ : ∃ x, xs[i]? = some x := ⟨_, List.getElem?_eq_getElem hlt⟩
    obtain ⟨b, o, vs, rfl, hb, hlen, ⟨rfl, _, _⟩, hrow⟩ := h.at_ hx
    have hbw : b < w.heap.size := by omega
    have h0 : w.cell? ⟨b, o + i * 2, none⟩ = some (.int .i64 x.n) := hrow 0 _ rfl
    have h1 : w.cell? ⟨b, o + i * 2 + 1, none⟩ = some (.string x.word) := hrow 1 _ rfl
    have HX := Lib.hid (getD_of (z := z) hx)
    clear hx hrow h
    go_enter Tryd.func90, Tryd.ntmps90
    go_wp2
    exact bodyPost_ret (v := .agg #[.int .i64 x.n, .string x.word]) (by simp [results, Tryd.results90, go_sem]) rfl ⟨by rw [HX.out], ((Below.refl _ _).alloc (Nat.le_refl _) _).alloc (by simp) _⟩
  · have HX := Lib.hid (getD_out (z := z) (i := i) (xs := xs) (by omega))
    clear h
    go_enter Tryd.func90, Tryd.ntmps90
    go_wp2
    exact bodyPost_ret (v := .agg #[.int .i64 z.n, .string z.word]) (by simp [results, Tryd.results90, go_sem]) rfl ⟨by rw [HX.out], ((Below.refl _ _).alloc (Nat.le_refl _) _).alloc (by simp) _⟩

set_option maxHeartbeats 400000 in
theorem atP_any (v : Value) (xs : List (List Item)) (B i : Nat) (w : World) (h : IsParts w (Lt B) v xs) :
    Calls Tryd.prog 79 #[v, .int .i64 i, .slice none 0 0] w fun e w' => (∃ u, e = .returned u ∧ IsComp w (Lt B) u (xs.getD i [])) ∧ w = w' := by
  obtain ⟨A, c, rfl, hl, hc⟩ := h.form
  by_cases hlt : i < xs.length
  · obtain ⟨x, hx⟩ : ∃ x, xs[i]? = some x := ⟨_, List.getElem?_eq_getElem hlt⟩
    obtain ⟨b, o, vs, rfl, hb, hlen, ⟨u, rfl, hu⟩, hrow⟩ := h.at_ hx
    obtain ⟨A', c', rfl, hl', hc'⟩ := hu.form
    have h0 : w.cell? ⟨b, o + i, none⟩ = some (.slice A' x.length c') := by simpa using hrow 0 _ rfl
    have HX := Lib.hid (getD_of (z := []) hx)
    have HU := Lib.hid hu
    clear hx hrow h hu
    go_enter Tryd.func79, Tryd.ntmps79
    go_wp2
    go_ret
    exact ⟨⟨_, rfl, by rw [HX.out]; exact HU.out⟩, rfl⟩
  · have HX := Lib.hid (getD_out (z := []) (i := i) (xs := xs) (by omega))
    clear h
    go_enter Tryd.func79, Tryd.ntmps79
    go_wp2
    go_ret
    exact ⟨⟨_, rfl, by rw [HX.out]; exact IsSl.nil _ _ _ _ _ _ (by omega)⟩, rfl⟩

def fI (xs ys : List Item) (i : Nat) : Int := cmpItem (xs.getD i Item.zero) (ys.getD i Item.zero)
theorem nz_step {f : Nat → Int} {k n : Nat} (h : k < n) : nz f k (n - k) = if f k = 0 then nz f (k + 1) (n - (k + 1)) else f k := by
  obtain ⟨d, hd⟩ : ∃ d, n - k = d + 1 := ⟨n - k - 1, by omega⟩
  rw [hd, show n - (k + 1) = d by omega]
  rfl

set_option maxHeartbeats 1000000 in
theorem rowsI_any (va vb : Value) (xs ys : List Item) (B : Nat) (w : World) (ha : IsComp w (Lt B) va xs) (hb : IsComp w (Lt B) vb ys) (hB : B ≤ w.heap.size) :
    Calls Tryd.prog 80 #[va, vb, .agg #[.int .i64 0, .string ByteArray.empty], .func (.func 81) #[] #[]] w fun e w' => e = .returned (.int .i64 (cmpComp xs ys)) ∧ Below w.heap.size w w' := by
  obtain ⟨A1, c1, rfl, hl1, hc1⟩ := ha.form
  obtain ⟨A2, c2, rfl, hl2, hc2⟩ := hb.form
  have HA := Lib.hid ha
  have HB' := Lib.hid hb
  clear ha hb
  go_enter Tryd.func80, Tryd.ntmps80
  go_wp2
  · have HN : Hid (max xs.length ys.length = ys.length) := Lib.hid (by omega)
    obtain ⟨W0, hW0⟩ : ∃ W0, W0 = w.alloc (.cells #[.int .i64 0, .string ByteArray.empty] 124) := ⟨_, rfl⟩
    have hz0 : W0.cell? ⟨w.heap.size, 0, none⟩ = some (.int .i64 0) := by rw [hW0, World.cell?_alloc_new]; rfl
    have hz1 : W0.cell? ⟨w.heap.size, 1, none⟩ = some (.string ByteArray.empty) := by rw [hW0, World.cell?_alloc_new]; rfl
    have hs0 : w.heap.size + 1 = W0.heap.size := by rw [hW0]; simp
    have hbw : Below w.heap.size w W0 := by rw [hW0]; exact news_alloc _ _
    rw [← hW0]
    have HZ0 := Lib.hid hz0
    have HZ1 := Lib.hid hz1
    have HS0 := Lib.hid hs0
    have HBW := Lib.hid hbw
    clear hz0 hz1 hs0 hbw hW0
    go_loopw [16] (fun i wr => ∃ k : Nat, k ≤ ys.length ∧ i = .int .i64 k ∧ Hid (cmpComp xs ys = nz (fI xs ys) k (ys.length - k)) ∧ Hid (Below (w.heap.size + 1) W0 wr)) (fun i _ => ys.length - (intOf i).toNat)
    case atStart => exact ⟨0, Nat.zero_le _, rfl, Lib.hid (by unfold cmpComp rowsC; rw [HN.out]; rfl), Lib.hid (Below.refl _ _)⟩
    case round =>
      obtain ⟨k, hk, rfl, HO, HW⟩ := hrel
      by_cases hlt : k < ys.length
      · obtain ⟨x, HX⟩ : ∃ x, Hid (xs.getD k Item.zero = x) := ⟨_, Lib.hid rfl⟩
        obtain ⟨y, HY⟩ : ∃ y, Hid (ys.getD k Item.zero = y) := ⟨_, Lib.hid rfl⟩
        have hbr : Below w.heap.size w wr := HBW.out.trans (HW.out.mono (by omega))
        have hszr : w.heap.size < wr.heap.size := by have := HW.out.size; have := HS0.out; omega
        have k0 := cell_regrown (w := wr) (a := ⟨w.heap.size, 0, none⟩) ((HW.out.cell (Nat.lt_succ_self _)).trans HZ0.out)
        have k1 := cell_regrown (w := wr) (a := ⟨w.heap.size, 1, none⟩) ((HW.out.cell (Nat.lt_succ_self _)).trans HZ1.out)
        have ca : ∀ d os, Calls Tryd.prog 90 #[.slice A1 xs.length c1, .int .i64 k, .agg #[.int .i64 0, .string ByteArray.empty]] (grow (redrawn wr d) os) fun e w'' => e = .returned (.agg #[.int .i64 x.n, .string x.word]) ∧ ∃ p : Regrown, w'' = grow (redrawn wr p.d) p.os := fun d os => by
          rw [← HX.out]
          exact Calls.regrown_of (atI_any _ xs B k Item.zero _ (HA.out.keep keepsItem (Nat.le_refl _) ((Same.of_below (hbr.trans ((below_regrown wr d os).mono (by omega)))).mono hB)) (by have := (below_regrown wr d os).size; omega))
        have cb : ∀ d os, Calls Tryd.prog 90 #[.slice A2 ys.length c2, .int .i64 k, .agg #[.int .i64 0, .string ByteArray.empty]] (grow (redrawn wr d) os) fun e w'' => e = .returned (.agg #[.int .i64 y.n, .string y.word]) ∧ ∃ p : Regrown, w'' = grow (redrawn wr p.d) p.os := fun d os => by
          rw [← HY.out]
          exact Calls.regrown_of (atI_any _ ys B k Item.zero _ (HB'.out.keep keepsItem (Nat.le_refl _) ((Same.of_below (hbr.trans ((below_regrown wr d os).mono (by omega)))).mono hB)) (by have := (below_regrown wr d os).size; omega))
        have HBR := Lib.hid hbr
        have CA := Lib.hid ca
        have CB := Lib.hid cb
        clear hbr ca cb
        go_wp2_with fail
        refine wp_region_quiet_below (by kernel_rfl) (by kernel_rfl) ?_
        repeat (first | go_big_quiet_step ((first | (go_at_call_of 90 xs; exact CA.out _ _) | (go_at_call_of 90 ys; exact CB.out _ _) | (go_at_call 81; exact Calls.regrown_of (cmpItems_any _ _ _)))) | quiet_step ((first | (go_at_call_of 90 xs; exact CA.out _ _) | (go_at_call_of 90 ys; exact CB.out _ _) | (go_at_call 81; exact Calls.regrown_of (cmpItems_any _ _ _)))))
        refine wpQuiet_nil ?_
        intro _ hwq
        obtain ⟨⟨q, os⟩, hwq⟩ := hwq
        subst hwq
        have HB1 := Lib.hid (below_regrown wr q os)
        clear k0 k1
        generalize grow (redrawn wr q) os = W1 at *
        have HNZ := Lib.hid (nz_step (f := fI xs ys) hlt)
        have HFI : Hid (fI xs ys k = cmpItem x y) := Lib.hid (by unfold fI; rw [HX.out, HY.out])
        have HW1 : Hid (Below (w.heap.size + 1) W0 W1) := Lib.hid (HW.out.trans (HB1.out.mono hszr))
        obtain ⟨r, HR⟩ : ∃ r, Hid (cmpItem x y = r) := ⟨_, Lib.hid rfl⟩
        rw [HR.out]
        by_cases hz : r = 0
        · subst hz
          go_wp2_with fail
          go_roundw
          case rel => exact ⟨k + 1, by omega, by go_num, Lib.hid (by rw [HO.out, HNZ.out, HFI.out, HR.out, if_pos rfl]), HW1⟩
          case measure => simp [intOf]; omega
        · have hzb : (r == 0) = false := by simpa using hz
          have hzn : (r != 0) = true := by simpa using hz
          go_wp2_with fail
          go_ret
          exact ⟨ret_int (by rw [HO.out, HNZ.out, HFI.out, HR.out, if_neg hz]), HBW.out.trans (HW1.out.mono (by omega))⟩
      · have HF : Hid (cmpComp xs ys = 0) := Lib.hid (by rw [HO.out, show ys.length - k = 0 by omega]; rfl)
        go_wp2_with fail
        go_ret
        exact ⟨ret_int (by rw [HF.out]), HBW.out.trans (HW.out.mono (by omega))⟩
  · have HN : Hid (max xs.length ys.length = xs.length) := Lib.hid (by omega)
    obtain ⟨W0, hW0⟩ : ∃ W0, W0 = w.alloc (.cells #[.int .i64 0, .string ByteArray.empty] 124) := ⟨_, rfl⟩
    have hz0 : W0.cell? ⟨w.heap.size, 0, none⟩ = some (.int .i64 0) := by rw [hW0, World.cell?_alloc_new]; rfl
    have hz1 : W0.cell? ⟨w.heap.size, 1, none⟩ = some (.string ByteArray.empty) := by rw [hW0, World.cell?_alloc_new]; rfl
    have hs0 : w.heap.size + 1 = W0.heap.size := by rw [hW0]; simp
    have hbw : Below w.heap.size w W0 := by rw [hW0]; exact news_alloc _ _
    rw [← hW0]
    have HZ0 := Lib.hid hz0
    have HZ1 := Lib.hid hz1
    have HS0 := Lib.hid hs0
    have HBW := Lib.hid hbw
    clear hz0 hz1 hs0 hbw hW0
    go_loopw [16] (fun i wr => ∃ k : Nat, k ≤ xs.length ∧ i = .int .i64 k ∧ Hid (cmpComp xs ys = nz (fI xs ys) k (xs.length - k)) ∧ Hid (Below (w.heap.size + 1) W0 wr)) (fun i _ => xs.length - (intOf i).toNat)
    case atStart => exact ⟨0, Nat.zero_le _, rfl, Lib.hid (by unfold cmpComp rowsC; rw [HN.out]; rfl), Lib.hid (Below.refl _ _)⟩
    case round =>
      obtain ⟨k, hk, rfl, HO, HW⟩ := hrel
      by_cases hlt : k < xs.length
      · obtain ⟨x, HX⟩ : ∃ x, Hid (xs.getD k Item.zero = x) := ⟨_, Lib.hid rfl⟩
        obtain ⟨y, HY⟩ : ∃ y, Hid (ys.getD k Item.zero = y) := ⟨_, Lib.hid rfl⟩
        have hbr : Below w.heap.size w wr := HBW.out.trans (HW.out.mono (by omega))
        have hszr : w.heap.size < wr.heap.size := by have := HW.out.size; have := HS0.out; omega
        have k0 := cell_regrown (w := wr) (a := ⟨w.heap.size, 0, none⟩) ((HW.out.cell (Nat.lt_succ_self _)).trans HZ0.out)
        have k1 := cell_regrown (w := wr) (a := ⟨w.heap.size, 1, none⟩) ((HW.out.cell (Nat.lt_succ_self _)).trans HZ1.out)
        have ca : ∀ d os, Calls Tryd.prog 90 #[.slice A1 xs.length c1, .int .i64 k, .agg #[.int .i64 0, .string ByteArray.empty]] (grow (redrawn wr d) os) fun e w'' => e = .returned (.agg #[.int .i64 x.n, .string x.word]) ∧ ∃ p : Regrown, w'' = grow (redrawn wr p.d) p.os := fun d os => by
          rw [← HX.out]
          exact Calls.regrown_of (atI_any _ xs B k Item.zero _ (HA.out.keep keepsItem (Nat.le_refl _) ((Same.of_below (hbr.trans ((below_regrown wr d os).mono (by omega)))).mono hB)) (by have := (below_regrown wr d os).size; omega))
        have cb : ∀ d os, Calls Tryd.prog 90 #[.slice A2 ys.length c2, .int .i64 k, .agg #[.int .i64 0, .string ByteArray.empty]] (grow (redrawn wr d) os) fun e w'' => e = .returned (.agg #[.int .i64 y.n, .string y.word]) ∧ ∃ p : Regrown, w'' = grow (redrawn wr p.d) p.os := fun d os => by
          rw [← HY.out]
          exact Calls.regrown_of (atI_any _ ys B k Item.zero _ (HB'.out.keep keepsItem (Nat.le_refl _) ((Same.of_below (hbr.trans ((below_regrown wr d os).mono (by omega)))).mono hB)) (by have := (below_regrown wr d os).size; omega))
        have HBR := Lib.hid hbr
        have CA := Lib.hid ca
        have CB := Lib.hid cb
        clear hbr ca cb
        go_wp2_with fail
        refine wp_region_quiet_below (by kernel_rfl) (by kernel_rfl) ?_
        repeat (first | go_big_quiet_step ((first | (go_at_call_of 90 xs; exact CA.out _ _) | (go_at_call_of 90 ys; exact CB.out _ _) | (go_at_call 81; exact Calls.regrown_of (cmpItems_any _ _ _)))) | quiet_step ((first | (go_at_call_of 90 xs; exact CA.out _ _) | (go_at_call_of 90 ys; exact CB.out _ _) | (go_at_call 81; exact Calls.regrown_of (cmpItems_any _ _ _)))))
        refine wpQuiet_nil ?_
        intro _ hwq
        obtain ⟨⟨q, os⟩, hwq⟩ := hwq
        subst hwq
        have HB1 := Lib.hid (below_regrown wr q os)
        clear k0 k1
        generalize grow (redrawn wr q) os = W1 at *
        have HNZ := Lib.hid (nz_step (f := fI xs ys) hlt)
        have HFI : Hid (fI xs ys k = cmpItem x y) := Lib.hid (by unfold fI; rw [HX.out, HY.out])
        have HW1 : Hid (Below (w.heap.size + 1) W0 W1) := Lib.hid (HW.out.trans (HB1.out.mono hszr))
        obtain ⟨r, HR⟩ : ∃ r, Hid (cmpItem x y = r) := ⟨_, Lib.hid rfl⟩
        rw [HR.out]
        by_cases hz : r = 0
        · subst hz
          go_wp2_with fail
          go_roundw
          case rel => exact ⟨k + 1, by omega, by go_num, Lib.hid (by rw [HO.out, HNZ.out, HFI.out, HR.out, if_pos rfl]), HW1⟩
          case measure => simp [intOf]; omega
        · have hzb : (r == 0) = false := by simpa using hz
          have hzn : (r != 0) = true := by simpa using hz
          go_wp2_with fail
          go_ret
          exact ⟨ret_int (by rw [HO.out, HNZ.out, HFI.out, HR.out, if_neg hz]), HBW.out.trans (HW1.out.mono (by omega))⟩
      · have HF : Hid (cmpComp xs ys = 0) := Lib.hid (by rw [HO.out, show xs.length - k = 0 by omega]; rfl)
        go_wp2_with fail
        go_ret
        exact ⟨ret_int (by rw [HF.out]), HBW.out.trans (HW.out.mono (by omega))⟩
end Go.Proofs.YtkmoaeckabjgnaaDoor.V
