/-
  The walk of version.Begins.
-/
import Derived.Test.YtmlmaklighgiiaaDoorCmp5
import Derived.Test.YtmlmaklighgiiaaDoorBPlain
namespace Go.Proofs.YtmlmaklighgiiaaDoor.V
set_option linter.unusedVariables false
set_option linter.unusedSimpArgs false
open Go Go.RowKit Go.Sort

/-- The component at a place: one value, in every world that keeps the list. -/
theorem atP_at {A : Option Addr} {n c : Nat} {xs : List (List Item)} {B : Nat} {w : World} (h : IsParts w (Lt B) (.slice A n c) xs) (i : Nat) :
    ∃ A' c', IsComp w (Lt B) (.slice A' (xs.getD i []).length c') (xs.getD i []) ∧ ∀ W : World, Same B w W → Calls Tryd.prog 34 #[.slice A n c, .int .i64 i, .slice none 0 0] W fun e w' => e = .returned (.slice A' (xs.getD i []).length c') ∧ W = w' := by
  by_cases hlt : i < xs.length
  · obtain ⟨x, hx⟩ : ∃ x, xs[i]? = some x := ⟨_, List.getElem?_eq_getElem hlt⟩
    obtain ⟨b, o, vs, rfl, hb, hlen, ⟨u, rfl, hu⟩, hrow⟩ := h.at_ hx
    obtain ⟨A', c', rfl, hl', hc'⟩ := hu.form
    have HX := Lib.hid (getD_of (z := []) hx)
    obtain ⟨_, _, hvv, hl, hc⟩ := h.form
    obtain ⟨rfl, rfl, rfl⟩ : some (⟨b, o, none⟩ : Addr) = _ ∧ n = _ ∧ c = _ := by injection hvv with h1 h2 h3; exact ⟨h1, h2, h3⟩
    refine ⟨A', c', by rw [HX.out]; exact hu, fun W hW => ?_⟩
    have h0 : W.cell? ⟨b, o + i, none⟩ = some (.slice A' x.length c') := (hW ⟨b, o + i, none⟩ hb).trans (by simpa using hrow 0 _ rfl)
    rw [HX.out]
    clear hx hrow h hu hW hvv
    go_enter Tryd.func34, Tryd.ntmps34
    go_wp2
    go_ret
    exact ⟨rfl, rfl⟩
  · have HX := Lib.hid (getD_out (z := []) (i := i) (xs := xs) (by omega))
    obtain ⟨_, _, hvv, hl, hc⟩ := h.form
    obtain ⟨rfl, rfl, rfl⟩ : A = _ ∧ n = _ ∧ c = _ := by injection hvv with h1 h2 h3; exact ⟨h1, h2, h3⟩
    refine ⟨none, 0, by rw [HX.out]; exact IsSl.nil _ _ _ _ _ _ (by omega), fun W hW => ?_⟩
    rw [HX.out]
    clear h hW hvv
    go_enter Tryd.func34, Tryd.ntmps34
    go_wp2
    go_ret
    exact ⟨rfl, rfl⟩

theorem ret_bool {a b : Bool} (h : a = b) : Ending.returned (.bool a) = .returned (.bool b) := by rw [h]
theorem begV_no {v p : Ver} (h : ¬ (v.epoch = p.epoch ∧ p.loc.length = 0 ∧ 0 < p.parts.length)) : begV v p = false := by
  unfold begV
  by_cases h1 : v.epoch = p.epoch
  · by_cases h2 : p.loc.length = 0
    · by_cases h3 : 0 < p.parts.length
      · exact absurd ⟨h1, h2, h3⟩ h
      · simp [h3]
    · simp [h2]
  · simp [h1]
theorem begV_yes {v p : Ver} (h1 : v.epoch = p.epoch) (h2 : p.loc.length = 0) (h3 : 0 < p.parts.length) :
    begV v p = (zeroTo (bPart v p) (p.parts.length - 1) && zeroTo (bItem v p) (p.parts.getD (p.parts.length - 1) []).length) := by
  unfold begV
  simp [h1, h2, h3]

set_option maxHeartbeats 2000000 in
theorem Begins_any (va vb : Value) (v p : Ver) (B : Nat) (w : World) (ha : IsVer w (Lt B) va v) (hb : IsVer w (Lt B) vb p) (hB : B ≤ w.heap.size) :
    Calls Tryd.prog 13 #[va, vb] w fun e w' => e = .returned (.bool (begV v p)) ∧ Below w.heap.size w w' := by
  obtain ⟨p1, l1, rfl, _, hp1, hl1⟩ := ha
  obtain ⟨p2, l2, rfl, _, hp2, hl2⟩ := hb
  obtain ⟨A1, c1, rfl, hA1, hA1'⟩ := hp1.form
  obtain ⟨A2, c2, rfl, hA2, hA2'⟩ := hp2.form
  obtain ⟨A3, c3, rfl, _⟩ := hl1.form
  obtain ⟨A4, c4, rfl, _⟩ := hl2.form
  have HP1 := Lib.hid hp1
  have HP2 := Lib.hid hp2
  clear hp1 hp2 hl1 hl2
  by_cases h1 : v.epoch = p.epoch
  case neg =>
    have HF : Hid (begV v p = false) := Lib.hid (begV_no (fun h => h1 h.1))
    have hb0 : (v.epoch == p.epoch) = false := by simpa using h1
    have hb1 : (v.epoch != p.epoch) = true := by simpa using h1
    go_enter Tryd.func13, Tryd.ntmps13
    go_wp2_with fail
    go_ret
    exact ⟨ret_bool HF.out.symm, ((Below.refl _ _).alloc (Nat.le_refl _) _).alloc (by simp) _⟩
  have hb0 : (v.epoch == p.epoch) = true := by simpa using h1
  have hb1 : (v.epoch != p.epoch) = false := by simpa using h1
  have H1 := Lib.hid h1
  clear h1
  by_cases h2 : p.loc.length = 0
  case neg =>
    have HF : Hid (begV v p = false) := Lib.hid (begV_no (fun h => h2 h.2.1))
    have h2' : 0 < p.loc.length := by omega
    go_enter Tryd.func13, Tryd.ntmps13
    go_wp2_with fail
    go_ret
    exact ⟨ret_bool HF.out.symm, ((Below.refl _ _).alloc (Nat.le_refl _) _).alloc (by simp) _⟩
  by_cases h3 : 0 < p.parts.length
  case neg =>
    have HF : Hid (begV v p = false) := Lib.hid (begV_no (fun h => h3 h.2.2))
    have h3' : ((p.parts.length : Int) == 0) = true := beq_iff_eq.2 (by omega)
    go_enter Tryd.func13, Tryd.ntmps13
    go_wp2_with fail
    go_ret
    exact ⟨ret_bool HF.out.symm, ((Below.refl _ _).alloc (Nat.le_refl _) _).alloc (by simp) _⟩
  have HBV := Lib.hid (begV_yes H1.out h2 h3)
  have H2 := Lib.hid h2
  obtain ⟨n, hn⟩ : ∃ n, p.parts.length = n + 1 := ⟨p.parts.length - 1, by omega⟩
  have hn0 : (((n : Int) + 1) == 0) = false := beq_eq_false_iff_ne.2 (by omega)
  have HN := Lib.hid hn
  rw [hn] at hA2
  have HP2' : Hid (IsParts w (Lt B) (.slice A2 (n + 1) c2) p.parts) := Lib.hid (by rw [← hn]; exact HP2.out)
  have HBN : Hid (begV v p = (zeroTo (bPart v p) n && zeroTo (bItem v p) (p.parts.getD n []).length)) := Lib.hid (by rw [HBV.out, hn]; rfl)
  clear h3 HBV HP2
  go_enter Tryd.func13, Tryd.ntmps13
  go_wp2_with fail
  have hb : Below w.heap.size w ((w.alloc (.cells #[.int .i64 v.epoch, .slice A1 v.parts.length c1, .slice A3 v.loc.length c3] 25)).alloc (.cells #[.int .i64 p.epoch, .slice A2 (n + 1) c2, .slice A4 0 c4] 25)) := ((Below.refl _ _).alloc (Nat.le_refl _) _).alloc (by simp) _
  obtain ⟨k0, k1⟩ := cells_two w #[.int .i64 v.epoch, .slice A1 v.parts.length c1, .slice A3 v.loc.length c3] #[.int .i64 p.epoch, .slice A2 (n + 1) c2, .slice A4 0 c4] 25 25
  have hsz : w.heap.size + 2 = ((w.alloc (.cells #[.int .i64 v.epoch, .slice A1 v.parts.length c1, .slice A3 v.loc.length c3] 25)).alloc (.cells #[.int .i64 p.epoch, .slice A2 (n + 1) c2, .slice A4 0 c4] 25)).heap.size := by simp
  generalize ((w.alloc (.cells #[.int .i64 v.epoch, .slice A1 v.parts.length c1, .slice A3 v.loc.length c3] 25)).alloc (.cells #[.int .i64 p.epoch, .slice A2 (n + 1) c2, .slice A4 0 c4] 25)) = W at *
  have HB := Lib.hid hb
  have HS := Lib.hid hsz
  have E1 : Hid (W.cell? ⟨w.heap.size, 1, none⟩ = some (.slice A1 v.parts.length c1)) := Lib.hid (k0 1)
  have F1 : Hid (W.cell? ⟨w.heap.size + 1, 1, none⟩ = some (.slice A2 (n + 1) c2)) := Lib.hid (k1 1)
  clear k0 k1 hb hsz hn0 hn hb0 hb1
  go_loopw [32] (fun i wr => ∃ k : Nat, k ≤ n ∧ i = .int .i64 k ∧ Hid (∀ j, j < k → bPart v p j = 0) ∧ Hid (Below (w.heap.size + 2) W wr)) (fun i _ => n - (intOf i).toNat)
  case atStart => exact ⟨0, Nat.zero_le _, rfl, Lib.hid (fun j hj => absurd hj (by omega)), Lib.hid (Below.refl _ _)⟩
  case round =>
    obtain ⟨k, hk, rfl, HZ, HWr⟩ := hrel
    have hbr : Below w.heap.size w wr := HB.out.trans (HWr.out.mono (by omega))
    have hszr : w.heap.size + 2 ≤ wr.heap.size := by have := HWr.out.size; have := HS.out; omega
    have hsame : Same B w wr := (Same.of_below hbr).mono hB
    have HBR := Lib.hid hbr
    have HSM := Lib.hid hsame
    clear hbr hsame
    by_cases hlt : k < n
    · obtain ⟨A5, c5, hu5, hat5⟩ := atP_at HP1.out k
      obtain ⟨y, hy⟩ : ∃ y, p.parts[k]? = some y := ⟨_, List.getElem?_eq_getElem (by have := HN.out; omega)⟩
      obtain ⟨b2, o2, vs2, rfl, hb2, _, ⟨u2, rfl, hu2⟩, hrow2⟩ := HP2'.out.at_ hy
      obtain ⟨A6, c6, rfl, _⟩ := hu2.form
      have hbb2 : b2 < w.heap.size := by have : b2 < B := hb2; omega
      obtain ⟨x, HX⟩ : ∃ x, Hid (v.parts.getD k [] = x) := ⟨_, Lib.hid rfl⟩
      rw [HX.out] at hu5 hat5
      have HFK : Hid (bPart v p k = cmpComp x y) := Lib.hid (by unfold bPart; rw [HX.out, getD_of hy])
      have e1 := cell_regrown (w := wr) (a := ⟨w.heap.size, 1, none⟩) ((HWr.out.cell (by show w.heap.size < _; omega)).trans E1.out)
      have f1 := cell_regrown (w := wr) (a := ⟨w.heap.size + 1, 1, none⟩) ((HWr.out.cell (by show w.heap.size + 1 < _; omega)).trans F1.out)
      have r2 : w.cell? ⟨b2, o2 + k, none⟩ = some (.slice A6 y.length c6) := by simpa using hrow2 0 _ rfl
      have g1 := cell_regrown (w := wr) (a := ⟨b2, o2 + k, none⟩) ((HSM.out _ hb2).trans r2)
      have i1 : (0 : Int) ≤ (k : Int) := by omega
      have i2 : (k : Int) < (n : Int) + 1 := by omega
      have CA : Hid (∀ d os, Calls Tryd.prog 34 #[.slice A1 v.parts.length c1, .int .i64 k, .slice none 0 0] (grow (redrawn wr d) os) fun e w'' => e = .returned (.slice A5 x.length c5) ∧ ∃ p : Regrown, w'' = grow (redrawn wr p.d) p.os) := Lib.hid (fun d os => regrown_same (hat5 _ (HSM.out.trans ((Same.of_below (below_regrown wr d os)).mono (by omega)))))
      have CB : Hid (∀ d os, Calls Tryd.prog 32 #[.slice A5 x.length c5, .slice A6 y.length c6] (grow (redrawn wr d) os) fun e w'' => e = .returned (.int .i64 (cmpComp x y)) ∧ ∃ p : Regrown, w'' = grow (redrawn wr p.d) p.os) := Lib.hid (fun d os => by
        have hs : Same B w (grow (redrawn wr d) os) := HSM.out.trans ((Same.of_below (below_regrown wr d os)).mono (by omega))
        exact Calls.regrown_of (cmpComps_any _ _ _ _ B _ (hu5.keep keepsItem (Nat.le_refl _) hs) (hu2.keep keepsItem (Nat.le_refl _) hs) (by have := (below_regrown wr d os).size; omega)))
      obtain ⟨r, HR⟩ : ∃ r, Hid (cmpComp x y = r) := ⟨_, Lib.hid rfl⟩
      rw [HR.out] at CB
      clear hu5 hat5 hy hu2 hrow2 r2
      by_cases hz : r = 0
      · subst hz
        go_wp2_with fail
        refine wp_region_quiet_below (by kernel_rfl) (by kernel_rfl) ?_
        repeat (first | go_big_quiet_step ((first | (go_at_call 34; exact CA.out _ _) | (go_at_call 32; exact CB.out _ _))) | quiet_step ((first | (go_at_call 34; exact CA.out _ _) | (go_at_call 32; exact CB.out _ _))))
        refine wpQuiet_nil ?_
        intro _ hwq
        obtain ⟨⟨q, os⟩, hwq⟩ := hwq
        subst hwq
        have HB1 := Lib.hid (below_regrown wr q os)
        clear e1 f1 g1
        generalize grow (redrawn wr q) os = W1 at *
        go_wp2_with fail
        go_roundw
        case rel => exact ⟨k + 1, by omega, by go_num, Lib.hid (fun j hj => by
          by_cases e : j = k
          · rw [e, HFK.out, HR.out]
          · exact HZ.out j (by omega)), Lib.hid (HWr.out.trans (HB1.out.mono (by omega)))⟩
        case measure => simp [intOf]; omega
      · have hzb : (r == 0) = false := by simpa using hz
        have hzn : (r != 0) = true := by simpa using hz
        have HF : Hid (begV v p = false) := Lib.hid (by rw [HBN.out, zeroTo_false hlt (by rw [HFK.out, HR.out]; exact hz)]; rfl)
        go_wp2_with fail
        refine wp_region_quiet_below (by kernel_rfl) (by kernel_rfl) ?_
        repeat (first | go_big_quiet_step ((first | (go_at_call 34; exact CA.out _ _) | (go_at_call 32; exact CB.out _ _))) | quiet_step ((first | (go_at_call 34; exact CA.out _ _) | (go_at_call 32; exact CB.out _ _))))
        refine wpQuiet_nil ?_
        intro _ hwq
        obtain ⟨⟨q, os⟩, hwq⟩ := hwq
        subst hwq
        have HB1 := Lib.hid (below_regrown wr q os)
        clear e1 f1 g1
        generalize grow (redrawn wr q) os = W1 at *
        go_wp2_with fail
        go_ret
        exact ⟨ret_bool HF.out.symm, HBR.out.trans (HB1.out.mono (by omega))⟩
    · obtain rfl : k = n := by omega
      have HZT : Hid (zeroTo (bPart v p) k = true) := Lib.hid (zeroTo_true HZ.out)
      rw [HZT.out, Bool.true_and] at HBN
      obtain ⟨A5, c5, hu5, hat5⟩ := atP_at HP1.out k
      obtain ⟨y, hy⟩ : ∃ y, p.parts[k]? = some y := ⟨_, List.getElem?_eq_getElem (by have := HN.out; omega)⟩
      obtain ⟨b2, o2, vs2, rfl, hb2, _, ⟨u2, rfl, hu2⟩, hrow2⟩ := HP2'.out.at_ hy
      obtain ⟨A6, c6, rfl, hy6, hy6'⟩ := hu2.form
      have hbb2 : b2 < w.heap.size := by have : b2 < B := hb2; omega
      obtain ⟨x, HX⟩ : ∃ x, Hid (v.parts.getD k [] = x) := ⟨_, Lib.hid rfl⟩
      rw [HX.out] at hu5 hat5
      have HY : Hid (p.parts.getD k [] = y) := Lib.hid (getD_of hy)
      rw [HY.out] at HBN
      have HFI : Hid (∀ j, bItem v p j = cmpItem (x.getD j Item.zero) (y.getD j Item.zero)) := Lib.hid (fun j => by unfold bItem; rw [HN.out, Nat.add_sub_cancel, HX.out, HY.out])
      have e1 : wr.cell? ⟨w.heap.size, 1, none⟩ = some (.slice A1 v.parts.length c1) := (HWr.out.cell (by show w.heap.size < _; omega)).trans E1.out
      have f1 : wr.cell? ⟨w.heap.size + 1, 1, none⟩ = some (.slice (some ⟨b2, o2, none⟩) (k + 1) c2) := (HWr.out.cell (by show w.heap.size + 1 < _; omega)).trans F1.out
      have r2 : w.cell? ⟨b2, o2 + k, none⟩ = some (.slice A6 y.length c6) := by simpa using hrow2 0 _ rfl
      have g1 : wr.cell? ⟨b2, o2 + k, none⟩ = some (.slice A6 y.length c6) := (HSM.out _ hb2).trans r2
      have i1 : (0 : Int) ≤ (k : Int) := by omega
      have i2 : (k : Int) < (k : Int) + 1 := by omega
      have CA := Lib.hid (hat5 wr HSM.out)
      have HU5 := Lib.hid hu5
      have HU2 := Lib.hid hu2
      clear hu5 hat5 hy hu2 hrow2 r2
      go_wp2_with (go_at_call 34; refine CA.out.mono ?_; rintro e w1 ⟨rfl, rfl⟩)
      obtain ⟨wo, rfl⟩ : ∃ wo : World, wo = wr := ⟨_, rfl⟩
      go_loopw [57] (fun i wq => ∃ k2 : Nat, k2 ≤ y.length ∧ i = .int .i64 k2 ∧ Hid (∀ j, j < k2 → bItem v p j = 0) ∧ Hid (Below (w.heap.size + 2) wo wq)) (fun i _ => y.length - (intOf i).toNat)
      case atStart => exact ⟨0, Nat.zero_le _, rfl, Lib.hid (fun j hj => absurd hj (by omega)), Lib.hid (Below.refl _ _)⟩
      case round =>
        obtain ⟨wq, rfl⟩ : ∃ wq : World, wq = wr := ⟨_, rfl⟩
        obtain ⟨k2, hk2, rfl, HZ2, HWq⟩ := hrel
        have HWw := Lib.hid (HBR.out.trans (HWq.out.mono (by omega)))
        have hszq : w.heap.size + 2 ≤ wq.heap.size := by have := HWq.out.size; omega
        have HSq := Lib.hid ((Same.of_below HWw.out).mono hB)
        by_cases hlt : k2 < y.length
        · obtain ⟨it, hit⟩ : ∃ it, y[k2]? = some it := ⟨_, List.getElem?_eq_getElem hlt⟩
          obtain ⟨b3, o3, vs3, rfl, hb3, _, ⟨rfl, _, _⟩, hrow3⟩ := HU2.out.at_ hit
          have hbb3 : b3 < w.heap.size := by have : b3 < B := hb3; omega
          have hbb3' : b3 < wq.heap.size := by omega
          have m0 : wq.cell? ⟨b3, o3 + k2 * 2, none⟩ = some (.int .i64 it.n) := (HSq.out _ hb3).trans (hrow3 0 _ rfl)
          have m1 : wq.cell? ⟨b3, o3 + k2 * 2 + 1, none⟩ = some (.string it.word) := (HSq.out _ hb3).trans (hrow3 1 _ rfl)
          obtain ⟨x2, HX2⟩ : ∃ x2, Hid (x.getD k2 Item.zero = x2) := ⟨_, Lib.hid rfl⟩
          have HFK : Hid (bItem v p k2 = cmpItem x2 it) := Lib.hid (by rw [HFI.out, HX2.out, getD_of hit])
          have HBX := Lib.hid (news_alloc wq (.cells #[.int .i64 it.n, .string it.word] 62))
          have HC0 : Hid ((wq.alloc (.cells #[.int .i64 it.n, .string it.word] 62)).cell? ⟨wq.heap.size, 0, none⟩ = some (.int .i64 it.n)) := Lib.hid (by rw [World.cell?_alloc_new]; rfl)
          have HC1 : Hid ((wq.alloc (.cells #[.int .i64 it.n, .string it.word] 62)).cell? ⟨wq.heap.size, 1, none⟩ = some (.string it.word)) := Lib.hid (by rw [World.cell?_alloc_new]; rfl)
          clear hit hrow3
          obtain ⟨r, HR⟩ : ∃ r, Hid (cmpItem x2 it = r) := ⟨_, Lib.hid rfl⟩
          by_cases hz : r = 0
          · subst hz
            go_wp2_with fail
            generalize wq.alloc (.cells #[.int .i64 it.n, .string it.word] 62) = W' at *
            have c0 := cell_regrown HC0.out
            have c1' := cell_regrown HC1.out
            have CI : Hid (∀ d os, Calls Tryd.prog 36 #[.slice A5 x.length c5, .int .i64 k2, .agg #[.int .i64 0, .string ByteArray.empty]] (grow (redrawn W' d) os) fun e w'' => e = .returned (.agg #[.int .i64 x2.n, .string x2.word]) ∧ ∃ p : Regrown, w'' = grow (redrawn W' p.d) p.os) := Lib.hid (fun d os => by
              rw [← HX2.out]
              have h1 : Same B w (grow (redrawn W' d) os) := HSq.out.trans (((Same.of_below (B := wq.heap.size) HBX.out).mono (by omega)).trans ((Same.of_below (below_regrown W' d os)).mono (by have := HBX.out.size; omega)))
              exact Calls.regrown_of (atI_any _ x B k2 Item.zero _ (HU5.out.keep keepsItem (Nat.le_refl _) h1) (by have := (below_regrown W' d os).size; have := HBX.out.size; omega)))
            have CJ : Hid (∀ d os, Calls Tryd.prog 35 #[.agg #[.int .i64 x2.n, .string x2.word], .agg #[.int .i64 it.n, .string it.word]] (grow (redrawn W' d) os) fun e w'' => e = .returned (.int .i64 (cmpItem x2 it)) ∧ ∃ p : Regrown, w'' = grow (redrawn W' p.d) p.os) := Lib.hid (fun d os => Calls.regrown_of (cmpItems_any _ _ _))
            rw [HR.out] at CJ
            refine wp_region_quiet_below (by kernel_rfl) (by kernel_rfl) ?_
            repeat (first | go_big_quiet_step ((first | (go_at_call 36; exact CI.out _ _) | (go_at_call 35; exact CJ.out _ _))) | quiet_step ((first | (go_at_call 36; exact CI.out _ _) | (go_at_call 35; exact CJ.out _ _))))
            refine wpQuiet_nil ?_
            intro _ hwq
            obtain ⟨⟨q, os⟩, hwq⟩ := hwq
            subst hwq
            have HB1 := Lib.hid (HBX.out.trans ((below_regrown W' q os).mono HBX.out.size))
            clear c0 c1'
            generalize grow (redrawn W' q) os = W1 at *
            go_wp2_with fail
            go_roundw
            case rel => exact ⟨k2 + 1, by omega, by go_num, Lib.hid (fun j hj => by
              by_cases e : j = k2
              · rw [e, HFK.out, HR.out]
              · exact HZ2.out j (by omega)), Lib.hid (HWq.out.trans (HB1.out.mono (by omega)))⟩
            case measure => simp [intOf]; omega
          · have hzb : (r == 0) = false := by simpa using hz
            have hzn : (r != 0) = true := by simpa using hz
            have HF : Hid (begV v p = false) := Lib.hid (by rw [HBN.out, zeroTo_false hlt (by rw [HFK.out, HR.out]; exact hz)])
            go_wp2_with fail
            generalize wq.alloc (.cells #[.int .i64 it.n, .string it.word] 62) = W' at *
            have c0 := cell_regrown HC0.out
            have c1' := cell_regrown HC1.out
            have CI : Hid (∀ d os, Calls Tryd.prog 36 #[.slice A5 x.length c5, .int .i64 k2, .agg #[.int .i64 0, .string ByteArray.empty]] (grow (redrawn W' d) os) fun e w'' => e = .returned (.agg #[.int .i64 x2.n, .string x2.word]) ∧ ∃ p : Regrown, w'' = grow (redrawn W' p.d) p.os) := Lib.hid (fun d os => by
              rw [← HX2.out]
              have h1 : Same B w (grow (redrawn W' d) os) := HSq.out.trans (((Same.of_below (B := wq.heap.size) HBX.out).mono (by omega)).trans ((Same.of_below (below_regrown W' d os)).mono (by have := HBX.out.size; omega)))
              exact Calls.regrown_of (atI_any _ x B k2 Item.zero _ (HU5.out.keep keepsItem (Nat.le_refl _) h1) (by have := (below_regrown W' d os).size; have := HBX.out.size; omega)))
            have CJ : Hid (∀ d os, Calls Tryd.prog 35 #[.agg #[.int .i64 x2.n, .string x2.word], .agg #[.int .i64 it.n, .string it.word]] (grow (redrawn W' d) os) fun e w'' => e = .returned (.int .i64 (cmpItem x2 it)) ∧ ∃ p : Regrown, w'' = grow (redrawn W' p.d) p.os) := Lib.hid (fun d os => Calls.regrown_of (cmpItems_any _ _ _))
            rw [HR.out] at CJ
            refine wp_region_quiet_below (by kernel_rfl) (by kernel_rfl) ?_
            repeat (first | go_big_quiet_step ((first | (go_at_call 36; exact CI.out _ _) | (go_at_call 35; exact CJ.out _ _))) | quiet_step ((first | (go_at_call 36; exact CI.out _ _) | (go_at_call 35; exact CJ.out _ _))))
            refine wpQuiet_nil ?_
            intro _ hwq
            obtain ⟨⟨q, os⟩, hwq⟩ := hwq
            subst hwq
            have HB1 := Lib.hid (HBX.out.trans ((below_regrown W' q os).mono HBX.out.size))
            clear c0 c1'
            generalize grow (redrawn W' q) os = W1 at *
            go_wp2_with fail
            go_ret
            exact ⟨ret_bool HF.out.symm, HWw.out.trans (HB1.out.mono HWw.out.size)⟩
        · obtain rfl : k2 = y.length := by omega
          have HF : Hid (begV v p = true) := Lib.hid (by rw [HBN.out, zeroTo_true HZ2.out])
          go_wp2_with fail
          go_ret
          exact ⟨ret_bool HF.out.symm, HWw.out⟩
end Go.Proofs.YtmlmaklighgiiaaDoor.V
