/-
  The walk of the document's Begins.
-/
import Derived.Test.YtmlmaklighgiiaaDoorRef3
import Derived.Test.YtmlmaklighgiiaaDoorBegins
import Derived.Deep.RegionHeld3
import Derived.Test.YtmlmaklighgiiaaDoorBlk
namespace Go.Proofs.YtmlmaklighgiiaaDoor.V
set_option linter.unusedVariables false
set_option linter.unusedSimpArgs false
open Go Go.RowKit Go.Sort

theorem pad_item {xs : List (List Item)} {n k : Nat} : (xs.getD n [Item.zero]).getD k Item.zero = (xs.getD n []).getD k Item.zero := by
  by_cases h : n < xs.length
  · simp [List.getD, h]
  · simp only [List.getD, List.getElem?_eq_none (show xs.length ≤ n by omega), Option.getD_none]
    cases k with
    | zero => rfl
    | succ k => simp
theorem below_drew {w w' : World} (h : Below w.drew.heap.size w.drew w') : Below w.heap.size w w' := ((Below.refl w.heap.size w).drew).trans h

set_option maxHeartbeats 4000000 in
set_option maxRecDepth 100000 in
theorem rBegins_any (va vb : Value) (v p : Ver) (B : Nat) (w : World) (ha : IsVer w (Lt B) va v) (hb : IsVer w (Lt B) vb p) (hB : B ≤ w.heap.size) :
    Calls Tryd.prog 14 #[va, vb] w fun e w' => e = .returned (.bool (begV v p)) ∧ Below w.heap.size w w' := by
  obtain ⟨p1, l1, rfl, _, hp1, hl1⟩ := ha
  obtain ⟨p2, l2, rfl, _, hp2, hl2⟩ := hb
  obtain ⟨A1, c1, rfl, _⟩ := hp1.form
  obtain ⟨A2, c2, rfl, hA2, hA2'⟩ := hp2.form
  obtain ⟨A3, c3, rfl, _⟩ := hl1.form
  obtain ⟨A4, c4, rfl, _⟩ := hl2.form
  have HP1 := Lib.hid hp1
  have HP2 := Lib.hid hp2
  clear hp1 hp2 hl1 hl2
  have hb : Below w.heap.size w ((w.alloc (.cells #[.int .i64 v.epoch, .slice A1 v.parts.length c1, .slice A3 v.loc.length c3] 25)).alloc (.cells #[.int .i64 p.epoch, .slice A2 p.parts.length c2, .slice A4 p.loc.length c4] 25)) := ((Below.refl _ _).alloc (Nat.le_refl _) _).alloc (by simp) _
  obtain ⟨k0, k1⟩ := cells_two w #[.int .i64 v.epoch, .slice A1 v.parts.length c1, .slice A3 v.loc.length c3] #[.int .i64 p.epoch, .slice A2 p.parts.length c2, .slice A4 p.loc.length c4] 25 25
  have hsz : w.heap.size + 2 = ((w.alloc (.cells #[.int .i64 v.epoch, .slice A1 v.parts.length c1, .slice A3 v.loc.length c3] 25)).alloc (.cells #[.int .i64 p.epoch, .slice A2 p.parts.length c2, .slice A4 p.loc.length c4] 25)).heap.size := by simp
  have HB := Lib.hid hb
  have HS := Lib.hid hsz
  have K0 := Lib.hid k0
  have K1 := Lib.hid k1
  clear hb hsz k0 k1
  by_cases hc : v.epoch = p.epoch ∧ p.loc.length = 0 ∧ 0 < p.parts.length
  · obtain ⟨h1, h2, h3⟩ := hc
    have hz : ¬ (p.parts.length : Int) = 0 := by omega
    have hz2 : ((p.parts.length : Int) == 0) = false := beq_eq_false_iff_ne.2 hz
    have hl : ¬ (0 : Int) < p.loc.length := by omega
    have he : ((v.epoch : Int) != p.epoch) = false := by simpa using h1
    have HP : Hid (p.loc.length = 0) := Lib.hid h2
    have HE : Hid (v.epoch = p.epoch) := Lib.hid h1
    have HY := Lib.hid (begV_yes h1 h2 h3)
    rw [h1, h2] at HB HS K0 K1
    rw [h1, h2]
    clear h1 h2 hl he
    go_enter Tryd.func14, Tryd.ntmps14
    go_wp2_with fail
    generalize ((w.alloc (.cells #[.int .i64 p.epoch, .slice A1 v.parts.length c1, .slice A3 v.loc.length c3] 25)).alloc (.cells #[.int .i64 p.epoch, .slice A2 p.parts.length c2, .slice A4 0 c4] 25)) = W at *
    go_loopw [6] (fun i wr => ∃ k : Nat, k ≤ p.parts.length - 1 ∧ i = .int .i64 k ∧ Hid (∀ j, j < k → bPart v p j = 0) ∧ Hid (Below W.heap.size W wr)) (fun i _ => p.parts.length - (intOf i).toNat)
    case atStart => exact ⟨0, Nat.zero_le _, rfl, Lib.hid (fun j hj => absurd hj (by omega)), Lib.hid (Below.refl _ _)⟩
    case round =>
      obtain ⟨k, hk, rfl, HZ, HW⟩ := hrel
      by_cases hlt : k < p.parts.length - 1
      · obtain ⟨y, hy⟩ : ∃ y, p.parts[k]? = some y := ⟨_, List.getElem?_eq_getElem (by omega)⟩
        have HYK := Lib.hid hy
        obtain ⟨b, o, vs, rfl, hbB, hlen, ⟨u, rfl, hu⟩, hrow⟩ := HP2.out.at_ hy
        obtain ⟨A6, c6, rfl, _⟩ := hu.form
        have hlt2 : (k : Int) < (p.parts.length : Int) - 1 := by omega
        have HU := Lib.hid hu
        have hbw : b < W.heap.size := by have : b < B := hbB; have := HS.out; omega
        have q0 : w.cell? ⟨b, o + k, none⟩ = some (.slice A6 y.length c6) := by simpa using hrow 0 _ rfl
        have q1 : wr.cell? ⟨b, o + k, none⟩ = some (.slice A6 y.length c6) := (HW.out.cell hbw).trans ((HB.out.cell (by have : b < B := hbB; show b < _; omega)).trans q0)
        have r1 : wr.cell? ⟨w.heap.size, 1, none⟩ = some (.slice A1 v.parts.length c1) := (HW.out.cell (by have := HS.out; show w.heap.size < _; omega)).trans (K0.out 1)
        have r2 : wr.cell? ⟨w.heap.size + 1, 1, none⟩ = some (.slice (some ⟨b, o, none⟩) p.parts.length c2) := (HW.out.cell (by have := HS.out; show w.heap.size + 1 < _; omega)).trans (K1.out 1)
        have hu0 := hu
        clear hy hrow hu q0
        go_wp2_with fail
        have hbr : b < wr.heap.size := by have := HW.out.size; omega
        have hwr : w.heap.size + 1 < wr.heap.size := by have := HW.out.size; have := HS.out; omega
        have hBr : B ≤ wr.heap.size := by omega
        have HSM := Lib.hid ((Same.of_below HB.out).trans ((Same.of_below HW.out).mono (by have := HS.out; omega)))
        have HPr := Lib.hid (HP1.out.keep keepsComp (Nat.le_refl _) (HSM.out.mono hB))
        have HUr := Lib.hid (hu0.keep keepsItem (Nat.le_refl _) (HSM.out.mono hB))
        clear hu0
        have HPd : Hid (IsParts wr.drew (Lt B) (.slice A1 v.parts.length c1) v.parts) := Lib.hid (HPr.out.keep keepsComp (Nat.le_refl _) (fun _ _ => rfl))
        obtain ⟨r, HR⟩ : ∃ r, Hid (cmpComp (v.parts.getD k [Item.zero]) y = r) := ⟨_, Lib.hid rfl⟩
        have HFI : Hid (bPart v p k = r) := Lib.hid (by rw [← HR.out, pad_getD]; unfold bPart; rw [getD_of HYK.out])
        have hi0 : (0 : Int) ≤ (k : Int) := by omega
        have hi1 : (k : Int) < (p.parts.length : Int) := by omega
        go_region_held3 (fun w' => w'.cell? ⟨b, o + k, none⟩ = some (.slice A6 y.length c6) ∧ w'.cell? ⟨w.heap.size, 1, none⟩ = some (.slice A1 v.parts.length c1) ∧ w'.cell? ⟨w.heap.size + 1, 1, none⟩ = some (.slice (some ⟨b, o, none⟩) p.parts.length c2)) (first | exact ⟨q1, r1, r2⟩ | exact ⟨a1, a2, a3⟩ | exact ⟨d1, d2, d3⟩)
          (first
            | (go_at_call 38; refine (rpart_any _ v.parts B k _ HPd.out hBr).mono ?_; rintro e w1 ⟨⟨u1, rfl, hu1⟩, hb1⟩; have HU1 := Lib.hid hu1; have HB1 : Hid (Below wr.heap.size wr w1) := Lib.hid (below_drew hb1); have a1 := (HB1.out.cell (p := ⟨b, o + k, none⟩) hbr).trans q1; have a2 := (HB1.out.cell (p := ⟨w.heap.size, 1, none⟩) (Nat.lt_of_succ_lt hwr)).trans r1; have a3 := (HB1.out.cell (p := ⟨w.heap.size + 1, 1, none⟩) hwr).trans r2; clear hu1 hb1)
            | (go_at_call 37; refine (rhold_any _ _ _ y _ _ HU1.out (HUr.out.keep keepsItem (Nat.le_trans hBr HB1.out.size) ((Same.of_below HB1.out).mono hBr)) (Nat.le_refl _)).mono ?_; rintro e w2 ⟨rfl, hb2⟩; rw [HR.out]; have HB2 : Hid (Below wr.heap.size wr w2) := Lib.hid (HB1.out.trans (hb2.mono HB1.out.size)); have d1 := (HB2.out.cell (p := ⟨b, o + k, none⟩) hbr).trans q1; have d2 := (HB2.out.cell (p := ⟨w.heap.size, 1, none⟩) (Nat.lt_of_succ_lt hwr)).trans r1; have d3 := (HB2.out.cell (p := ⟨w.heap.size + 1, 1, none⟩) hwr).trans r2; clear hb2))
        have HW2 := Lib.hid (HW.out.trans (HB2.out.mono HW.out.size))
        clear q1 r1 r2 a1 a2 a3 d1 d2 d3
        by_cases hz : r = 0
        · subst hz
          go_wp2_with fail
          go_roundw
          case rel => exact ⟨k + 1, by omega, by go_num, Lib.hid (fun j hj => by
            by_cases e : j = k
            · subst e; exact HFI.out
            · exact HZ.out j (by omega)), HW2⟩
          case measure => simp [intOf]; omega
        · have hzb : (r == 0) = false := by simpa using hz
          have hzn : (r != 0) = true := by simpa using hz
          have HF : Hid (begV v p = false) := Lib.hid (by rw [HY.out, zeroTo_false (by omega) (by rw [HFI.out]; exact hz)]; rfl)
          go_wp2_with fail
          go_ret
          exact ⟨ret_bool (by rw [HF.out]), HB.out.trans (HW2.out.mono (by have := HS.out; omega))⟩
      · obtain rfl : k = p.parts.length - 1 := by omega
        have HZP : Hid (zeroTo (bPart v p) (p.parts.length - 1) = true) := Lib.hid (zeroTo_true HZ.out)
        have HYY : Hid (begV v p = zeroTo (bItem v p) (p.parts.getD (p.parts.length - 1) []).length) := Lib.hid (by rw [HY.out, HZP.out, Bool.true_and])
        obtain ⟨y, hy⟩ : ∃ y, p.parts[p.parts.length - 1]? = some y := ⟨_, List.getElem?_eq_getElem (by omega)⟩
        have HYK := Lib.hid hy
        obtain ⟨b, o, vs, rfl, hbB, hlen, ⟨u, rfl, hu⟩, hrow⟩ := HP2.out.at_ hy
        obtain ⟨A6, c6, rfl, _⟩ := hu.form
        have hu0 := hu
        have hbw : b < W.heap.size := by have : b < B := hbB; have := HS.out; omega
        have q0 : w.cell? ⟨b, o + (p.parts.length - 1), none⟩ = some (.slice A6 y.length c6) := by simpa using hrow 0 _ rfl
        have HQ : Hid (∀ w', Below W.heap.size W w' → w'.cell? ⟨b, o + (p.parts.length - 1), none⟩ = some (.slice A6 y.length c6)) := Lib.hid (fun w' h => (h.cell hbw).trans ((HB.out.cell (by have : b < B := hbB; show b < _; omega)).trans q0))
        have r1 : wr.cell? ⟨w.heap.size, 1, none⟩ = some (.slice A1 v.parts.length c1) := (HW.out.cell (by have := HS.out; show w.heap.size < _; omega)).trans (K0.out 1)
        have HR2 : Hid (∀ w', Below W.heap.size W w' → w'.cell? ⟨w.heap.size + 1, 1, none⟩ = some (.slice (some ⟨b, o, none⟩) p.parts.length c2)) := Lib.hid (fun w' h => (h.cell (by have := HS.out; show w.heap.size + 1 < _; omega)).trans (K1.out 1))
        clear hy hrow hu q0
        have hBr : B ≤ wr.heap.size := by have := HW.out.size; have := HS.out; omega
        have HSM := Lib.hid ((Same.of_below HB.out).trans ((Same.of_below HW.out).mono (by have := HS.out; omega)))
        have HPr := Lib.hid (HP1.out.keep keepsComp (Nat.le_refl _) (HSM.out.mono hB))
        have HUr := Lib.hid (hu0.keep keepsItem (Nat.le_refl _) (HSM.out.mono hB))
        clear hu0
        have hcast : (p.parts.length : Int) - 1 = ((p.parts.length - 1 : Nat) : Int) := by omega
        have CP := Lib.hid (rpart_any _ v.parts B (p.parts.length - 1) wr HPr.out hBr)
        obtain ⟨cp, HCP⟩ : ∃ cp, Hid (v.parts.getD (p.parts.length - 1) [Item.zero] = cp) := ⟨_, Lib.hid rfl⟩
        rw [HCP.out] at CP
        have hi1 : ((p.parts.length - 1 : Nat) : Int) < (p.parts.length : Int) := by omega
        have hnl : ¬ ((p.parts.length - 1 : Nat) : Int) < (p.parts.length : Int) - 1 := by omega
        obtain ⟨wo, hwo⟩ : ∃ wo : World, wo = wr := ⟨_, rfl⟩
        subst hwo
        go_wp2_with fail
        refine CP.out.mono ?_
        rintro e w1 ⟨⟨u1, rfl, hu1⟩, hb1⟩
        have HU1 := Lib.hid hu1
        have HW1 := Lib.hid (HW.out.trans (hb1.mono HW.out.size))
        have HUr1 := Lib.hid (HUr.out.keep keepsItem (Nat.le_refl _) ((Same.of_below hb1).mono hBr))
        have hBr1 : B ≤ w1.heap.size := by have := hb1.size; omega
        have q1 := HQ.out _ HW1.out
        have r2 := HR2.out _ HW1.out
        clear hb1 r1
        go_wp2_with fail
        obtain ⟨A8, c8, rfl, _⟩ := HU1.out.form
        have HYL : Hid ((p.parts.getD (p.parts.length - 1) []).length = y.length) := Lib.hid (by rw [getD_of HYK.out])
        clear q1 r2
        go_loopw [58] (fun i wr => ∃ k : Nat, k ≤ y.length ∧ i = .int .i64 k ∧ Hid (∀ j, j < k → bItem v p j = 0) ∧ Hid (Below w1.heap.size w1 wr)) (fun i _ => y.length - (intOf i).toNat)
        case atStart => exact ⟨0, Nat.zero_le _, rfl, Lib.hid (fun j hj => absurd hj (by omega)), Lib.hid (Below.refl _ _)⟩
        case round =>
          obtain ⟨k, hk, rfl, HZ2, HW3⟩ := hrel
          by_cases hkl : k < y.length
          · obtain ⟨x, hx⟩ : ∃ x, y[k]? = some x := ⟨_, List.getElem?_eq_getElem hkl⟩
            obtain ⟨b5, o5, vs5, rfl, hb5, hlen5, ⟨rfl, _, _⟩, hrow5⟩ := HUr1.out.at_ hx
            have hb5' : b5 < w1.heap.size := by have : b5 < B := hb5; omega
            have hb5r : b5 < wr.heap.size := by have := HW3.out.size; omega
            have g0 : wr.cell? ⟨b5, o5 + k * 2, none⟩ = some (.int .i64 x.n) := (HW3.out.cell hb5').trans (hrow5 0 _ rfl)
            have g1 : wr.cell? ⟨b5, o5 + k * 2 + 1, none⟩ = some (.string x.word) := (HW3.out.cell hb5').trans (hrow5 1 _ rfl)
            obtain ⟨z, HZV⟩ : ∃ z, Hid (cp.getD k Item.zero = z) := ⟨_, Lib.hid rfl⟩
            have HBI : Hid (bItem v p k = cmpItem z x) := Lib.hid (by
              unfold bItem
              rw [getD_of HYK.out, getD_of hx, ← HZV.out, ← HCP.out, pad_item])
            have CI : Hid (∀ w', Below w1.heap.size w1 w' → Calls Tryd.prog 39 #[.slice A8 cp.length c8, .int .i64 k] w' fun e w'' => e = .returned (.agg #[.int .i64 z.n, .string z.word]) ∧ Below w'.heap.size w' w'') := Lib.hid (fun w' h => by
              rw [← HZV.out]
              exact ritem_any _ _ w1.heap.size k w' (HU1.out.keep keepsItem (Nat.le_refl _) (Same.of_below h)) h.size)
            have HX1 := Lib.hid (news_alloc wr (.cells #[.int .i64 x.n, .string x.word] 62))
            have HKX := Lib.hid (Blk.new wr 62 #[.int .i64 x.n, .string x.word])
            clear hx hrow5
            go_wp2_with fail
            generalize wr.alloc (.cells #[.int .i64 x.n, .string x.word] 62) = W4 at *
            have HW4 := Lib.hid (HW3.out.trans (HX1.out.mono HW3.out.size))
            refine (CI.out _ HW4.out).mono ?_
            rintro e w5 ⟨rfl, hb5w⟩
            have HKX5 := Lib.hid ((HKX.out.belowSelf hb5w).alloc (.cells #[.int .i64 z.n, .string z.word] 62))
            have HKZ5 := Lib.hid (Blk.new w5 62 #[.int .i64 z.n, .string z.word])
            have HW5 := Lib.hid ((HW4.out.trans (hb5w.mono HW4.out.size)).trans ((news_alloc w5 (.cells #[.int .i64 z.n, .string z.word] 62)).mono (HW4.out.trans (hb5w.mono HW4.out.size)).size))
            clear hb5w
            have e0 : (w5.alloc (.cells #[.int .i64 z.n, .string z.word] 62)).cell? ⟨wr.heap.size, 0, none⟩ = some (.int .i64 x.n) := HKX5.out.cell 0
            have e1 : (w5.alloc (.cells #[.int .i64 z.n, .string z.word] 62)).cell? ⟨wr.heap.size, 1, none⟩ = some (.string x.word) := HKX5.out.cell 1
            have f0 : (w5.alloc (.cells #[.int .i64 z.n, .string z.word] 62)).cell? ⟨w5.heap.size, 0, none⟩ = some (.int .i64 z.n) := HKZ5.out.cell 0
            have f1 : (w5.alloc (.cells #[.int .i64 z.n, .string z.word] 62)).cell? ⟨w5.heap.size, 1, none⟩ = some (.string z.word) := HKZ5.out.cell 1
            go_wp2_with fail
            generalize w5.alloc (.cells #[.int .i64 z.n, .string z.word] 62) = W5 at *
            refine (rLess_any x z W5).mono ?_
            rintro e w6 ⟨rfl, hb6⟩
            have j0 : w6.cell? ⟨wr.heap.size, 0, none⟩ = some (.int .i64 x.n) := (HKX5.out.belowSelf hb6).cell 0
            have j1 : w6.cell? ⟨wr.heap.size, 1, none⟩ = some (.string x.word) := (HKX5.out.belowSelf hb6).cell 1
            have l0 : w6.cell? ⟨w5.heap.size, 0, none⟩ = some (.int .i64 z.n) := (HKZ5.out.belowSelf hb6).cell 0
            have l1 : w6.cell? ⟨w5.heap.size, 1, none⟩ = some (.string z.word) := (HKZ5.out.belowSelf hb6).cell 1
            have HW6 := Lib.hid (HW5.out.trans (hb6.mono HW5.out.size))
            clear hb6 e0 e1 f0 f1
            obtain ⟨r, HRR⟩ : ∃ r, Hid (cmpItem x z = r) := ⟨_, Lib.hid rfl⟩
            have HRZ : Hid (cmpItem z x = -r) := Lib.hid (by rw [← HRR.out]; exact ordItem.anti x z)
            have hrr : r = -1 ∨ r = 0 ∨ r = 1 := HRR.out ▸ ordItem.range x z
            rw [HRR.out]
            have HFN : Hid (¬ r = 0 → begV v p = false) := Lib.hid (fun h => by rw [HYY.out, HYL.out, zeroTo_false hkl (by rw [HBI.out, HRZ.out]; omega)])
            rcases hrr with rfl | rfl | rfl
            · rw [lessTrue rfl]
              have HF := Lib.hid (HFN.out (by decide))
              go_wp2_with fail
              go_ret
              exact ⟨ret_bool (by rw [HF.out]), HB.out.trans ((HW1.out.trans (HW6.out.mono HW1.out.size)).mono (by have := HS.out; omega))⟩
            · rw [lessFalse (by decide)]
              go_wp2_with (go_at_call 40; refine (rLess_any z x _).mono ?_; rintro e w7 ⟨rfl, hb7⟩; have HB7 := Lib.hid hb7; clear hb7; rw [HRZ.out, lessFalse (by decide)])
              go_roundw
              case rel => exact ⟨k + 1, by omega, by go_num, Lib.hid (fun j hj => by
                by_cases e : j = k
                · subst e; rw [HBI.out, HRZ.out]; rfl
                · exact HZ2.out j (by omega)), Lib.hid (HW6.out.trans (HB7.out.mono HW6.out.size))⟩
              case measure => simp [intOf]; omega
            · rw [lessFalse (by decide)]
              have HF := Lib.hid (HFN.out (by decide))
              go_wp2_with (go_at_call 40; refine (rLess_any z x _).mono ?_; rintro e w7 ⟨rfl, hb7⟩; have HB7 := Lib.hid hb7; clear hb7; rw [HRZ.out, lessTrue (by decide)])
              go_ret
              exact ⟨ret_bool (by rw [HF.out]), HB.out.trans ((HW1.out.trans ((HW6.out.trans (HB7.out.mono HW6.out.size)).mono HW1.out.size)).mono (by have := HS.out; omega))⟩
          · obtain rfl : k = y.length := by omega
            have HF : Hid (begV v p = true) := Lib.hid (by rw [HYY.out, HYL.out]; exact zeroTo_true HZ2.out)
            go_wp2_with fail
            go_ret
            exact ⟨ret_bool (by rw [HF.out]), HB.out.trans ((HW1.out.trans (HW3.out.mono HW1.out.size)).mono (by have := HS.out; omega))⟩
  · have HF : Hid (begV v p = false) := Lib.hid (begV_no hc)
    by_cases h0 : p.parts.length = 0
    · clear hc HB HS K0 K1 HP1 HP2
      go_enter Tryd.func14, Tryd.ntmps14
      go_wp2_with fail
      go_ret
      exact ⟨ret_bool (by rw [HF.out]), ((Below.refl _ _).alloc (Nat.le_refl _) _).alloc (by simp) _⟩
    · have hz : ¬ (p.parts.length : Int) = 0 := by omega
      have hz2 : ((p.parts.length : Int) == 0) = false := beq_eq_false_iff_ne.2 hz
      by_cases h1 : 0 < p.loc.length
      · have hl : (0 : Int) < p.loc.length := by omega
        have hl2 : decide ((0 : Int) < (p.loc.length : Int)) = true := decide_eq_true hl
        clear hc HB HS K0 K1 HP1 HP2 h0
        obtain ⟨nl, hnl⟩ : ∃ nl, p.loc.length = nl + 1 := ⟨p.loc.length - 1, by omega⟩
        rw [hnl] at h1 hl hl2 ⊢
        clear hnl h1 hl hl2
        have hl : (0 : Int) < ((nl + 1 : Nat) : Int) := by omega
        go_enter Tryd.func14, Tryd.ntmps14
        go_wp2_with fail
        go_ret
        exact ⟨ret_bool (by rw [HF.out]), ((Below.refl _ _).alloc (Nat.le_refl _) _).alloc (by simp) _⟩
      · have h2 : p.loc.length = 0 := by omega
        have he : ¬ v.epoch = p.epoch := fun e => hc ⟨e, h2, by omega⟩
        have he2 : ((v.epoch : Int) == p.epoch) = false := beq_eq_false_iff_ne.2 he
        have he3 : ((v.epoch : Int) != p.epoch) = true := by simpa using he
        rw [h2]
        clear hc HB HS K0 K1 HP1 HP2 h0 h1 h2
        go_enter Tryd.func14, Tryd.ntmps14
        go_wp2_with fail
        go_ret
        exact ⟨ret_bool (by rw [HF.out]), ((Below.refl _ _).alloc (Nat.le_refl _) _).alloc (by simp) _⟩
end Go.Proofs.YtmlmaklighgiiaaDoor.V
