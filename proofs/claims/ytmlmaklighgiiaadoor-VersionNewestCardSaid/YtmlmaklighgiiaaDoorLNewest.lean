/-
  The walk of the law VersionNewest.
-/
import Derived.Test.YtmlmaklighgiiaaDoorAlive7
import Derived.Test.YtmlmaklighgiiaaDoorRef4
import Derived.Test.YtmlmaklighgiiaaDoorNPlain
namespace Go.Proofs.YtmlmaklighgiiaaDoor.V
set_option linter.unusedVariables false
set_option linter.unusedSimpArgs false
open Go Go.RowKit Go.Sort

theorem wantD_step {xs : List Ver} {d : Nat} {t : Bool} {i : Nat} (hi : xs.length - 1 - d = i) (ht : topTo xs i xs.length = t) : wantD xs (d + 1) = if t = true then (i : Int) else wantD xs d := by
  rw [wantD, hi, ht]

set_option maxHeartbeats 8000000 in
set_option maxRecDepth 100000 in
theorem newest7_any (va : Value) (xs : List Ver) (w : World) (u : TypeId) (ev : Value) (m : Int) (hE : Env w u ev m) (ha : IsVers w (Lt w.heap.size) va xs) :
    Calls Tryd.prog 4 #[va] w fun e w' => e = .returned (.bool true) ∧ Below w.heap.size w w' := by
  have HE := Lib.hid hE
  clear hE
  obtain ⟨A, c, rfl, hl, hc⟩ := ha.form
  have HA := Lib.hid ha
  clear ha
  by_cases h40 : 40 < xs.length
  · go_enter Tryd.func4, Tryd.ntmps4
    go_wp2_with (go_at_call 8; refine (alive7_any _ u ev m HE.out).mono ?_; rintro e w1 ⟨rfl, hb1⟩; have HB1 := Lib.hid hb1; clear hb1)
    go_ret
    exact ⟨rfl, HB1.out⟩
  · go_enter Tryd.func4, Tryd.ntmps4
    go_wp2_with (go_at_call 8; refine (alive7_any _ u ev m HE.out).mono ?_; rintro e w1 ⟨rfl, hb1⟩; have HB1 := Lib.hid hb1; clear hb1)
    go_loopw [17] (fun i wr => ∃ k : Nat, k ≤ xs.length ∧ i = .int .i64 k ∧ Hid (Below w.heap.size w wr)) (fun i _ => xs.length - (intOf i).toNat)
    case atStart => exact ⟨0, Nat.zero_le _, rfl, HB1⟩
    case round =>
      obtain ⟨k, hk, rfl, HW⟩ := hrel
      have HSM := Lib.hid (Same.of_below HW.out)
      by_cases hlt : k < xs.length
      · obtain ⟨v, hv⟩ : ∃ v, xs[k]? = some v := ⟨_, List.getElem?_eq_getElem hlt⟩
        obtain ⟨b, o, A1, n1, c1, A2, n2, c2, rfl, hb, hver, m0, m1, m2⟩ := vers_at HA.out hv
        have hbr : b < wr.heap.size := by have := HW.out.size; omega
        have q0 : wr.cell? ⟨b, o + k * 3, none⟩ = some (.int .i64 v.epoch) := (HSM.out _ hb).trans m0
        have q1 : wr.cell? ⟨b, o + k * 3 + 1, none⟩ = some (.slice A1 n1 c1) := (HSM.out _ hb).trans m1
        have q2 : wr.cell? ⟨b, o + k * 3 + 2, none⟩ = some (.slice A2 n2 c2) := (HSM.out _ hb).trans m2
        have HBX := Lib.hid (news_alloc wr (.cells #[.int .i64 v.epoch, .slice A1 n1 c1, .slice A2 n2 c2] 25))
        have CB : Hid (Calls Tryd.prog 15 #[.agg #[.int .i64 v.epoch, .slice A1 n1 c1, .slice A2 n2 c2]] (wr.alloc (.cells #[.int .i64 v.epoch, .slice A1 n1 c1, .slice A2 n2 c2] 25)) fun e w' => AnyBool e ∧ Below (wr.alloc (.cells #[.int .i64 v.epoch, .slice A1 n1 c1, .slice A2 n2 c2] 25)).heap.size (wr.alloc (.cells #[.int .i64 v.epoch, .slice A1 n1 c1, .slice A2 n2 c2] 25)) w') := Lib.hid
          (rBig_any _ v w.heap.size _ (hver.keep (Nat.le_refl _) (HSM.out.trans ((Same.of_below HBX.out).mono HW.out.size))) (by have := HW.out.size; have := HBX.out.size; omega))
        clear hv hver m0 m1 m2
        go_wp2_with fail
        refine CB.out.mono ?_
        rintro e w2 ⟨⟨bb, rfl⟩, hb2⟩
        have HB2 := Lib.hid (HW.out.trans ((HBX.out.trans (hb2.mono HBX.out.size)).mono HW.out.size))
        clear hb2
        cases bb with
        | true =>
          go_wp2_with fail
          go_ret
          exact ⟨rfl, HB2.out⟩
        | false =>
          go_wp2_with fail
          go_roundw
          case rel => exact ⟨k + 1, by omega, by go_num, HB2⟩
          case measure => simp [intOf]; omega
      · obtain rfl : k = xs.length := by omega
        obtain ⟨wo, hwo⟩ : ∃ wo : World, wo = wr := ⟨_, rfl⟩
        subst hwo
        go_wp2_with fail
        go_loopw [5, 6] (fun q i wr => ∃ (d k : Nat) (z : Int), d + k = xs.length ∧ i = .int .i64 z ∧ z = (k : Int) - 1 ∧ q = .int .i64 (wantD xs d) ∧ Hid (Below w.heap.size w wr)) (fun _ i _ => (intOf i + 1).toNat)
        case atStart => exact ⟨0, xs.length, _, by omega, rfl, rfl, rfl, HW⟩
        case round =>
          obtain ⟨d, k, z, hdk, rfl, hz, rfl, HW2⟩ := hrel
          obtain ⟨wo2, hwo2⟩ : ∃ wo : World, wo = wr := ⟨_, rfl⟩
          subst hwo2
          cases k with
          | zero =>
            obtain rfl : z = -1 := by omega
            obtain rfl : d = xs.length := by omega
            have CN : Hid (Calls Tryd.prog 16 #[.slice A xs.length c] wo2 fun e w' => e = .returned (.int .i64 (wantD xs xs.length)) ∧ Below wo2.heap.size wo2 w') := Lib.hid (by
              rw [want_new]
              exact Newest_any _ xs w.heap.size wo2 (HA.out.keepOn keepsVer (fun _ hb => hb) (fun p hp => HW2.out.cell hp)) HW2.out.size)
            obtain ⟨wd, hwd⟩ : ∃ wd, wd = wantD xs xs.length := ⟨_, rfl⟩
            rw [← hwd] at CN ⊢
            clear hwd hz
            go_wp2_with (go_at_call 16; refine CN.out.mono ?_; rintro e w3 ⟨rfl, hb3⟩; have HB3 := Lib.hid hb3; clear hb3)
            go_ret
            exact ⟨ret_bool (by simp), HW2.out.trans (HB3.out.mono HW2.out.size)⟩
          | succ k =>
            obtain rfl : z = (k : Int) := by omega
            obtain ⟨y, hy⟩ : ∃ y, xs[k]? = some y := ⟨_, List.getElem?_eq_getElem (by omega)⟩
            have hkn : k < xs.length := by omega
            obtain ⟨wd, HWD⟩ : ∃ wd, Hid (wantD xs d = wd) := ⟨_, Lib.hid rfl⟩
            rw [HWD.out]
            have HST := Lib.hid (fun (t : Bool) (ht : topTo xs k xs.length = t) => wantD_step (xs := xs) (d := d) (i := k) (by omega) ht)
            clear hz
            obtain ⟨b, o, A3, n3, c3, A4, n4, c4, rfl, hb, hver', p0, p1, p2⟩ := vers_at HA.out hy
            have HVY := Lib.hid hver'
            have P0 := Lib.hid p0
            have P1 := Lib.hid p1
            have P2 := Lib.hid p2
            have HYK := Lib.hid hy
            clear hver' p0 p1 p2 hy
            go_wp2_with fail
            go_loopw [7, 33] (fun q i wr => ∃ k' : Nat, k' ≤ xs.length ∧ i = .int .i64 k' ∧ q = .bool (topTo xs k k') ∧ Hid (Below w.heap.size w wr)) (fun _ i _ => xs.length - (intOf i).toNat)
            case atStart => exact ⟨0, Nat.zero_le _, rfl, rfl, HW2⟩
            case round =>
              obtain ⟨j, hj, rfl, rfl, HW3⟩ := hrel
              have HSM := Lib.hid (Same.of_below HW3.out)
              by_cases hjl : j < xs.length
              · obtain ⟨v, hv⟩ : ∃ v, xs[j]? = some v := ⟨_, List.getElem?_eq_getElem hjl⟩
                obtain ⟨b', o', A1, n1, c1, A2, n2, c2, hbe, hb', hver, m0, m1, m2⟩ := vers_at HA.out hv
                obtain ⟨rfl, rfl⟩ : b = b' ∧ o = o' := by injection hbe with h; injection h with h1 h2; exact ⟨h1, h2⟩
                have hbr : b < wr.heap.size := by have := HW3.out.size; omega
                have q0 : wr.cell? ⟨b, o + j * 3, none⟩ = some (.int .i64 v.epoch) := (HSM.out _ hb).trans m0
                have q1 : wr.cell? ⟨b, o + j * 3 + 1, none⟩ = some (.slice A1 n1 c1) := (HSM.out _ hb).trans m1
                have q2 : wr.cell? ⟨b, o + j * 3 + 2, none⟩ = some (.slice A2 n2 c2) := (HSM.out _ hb).trans m2
                have HBX := Lib.hid (news_alloc wr (.cells #[.int .i64 v.epoch, .slice A1 n1 c1, .slice A2 n2 c2] 25))
                have HCV : Hid (∀ i, (wr.alloc (.cells #[.int .i64 v.epoch, .slice A1 n1 c1, .slice A2 n2 c2] 25)).cell? ⟨wr.heap.size, i, none⟩ = #[(.int .i64 v.epoch : Value), .slice A1 n1 c1, .slice A2 n2 c2][i]?) := Lib.hid (fun i => World.cell?_alloc_new _ _ _ _)
                have HVER := Lib.hid hver
                obtain ⟨r, HCMP⟩ : ∃ r, Hid (cmpVer v y = r) := ⟨_, Lib.hid rfl⟩
                have HTT : Hid (topTo xs k (j + 1) = (topTo xs k j && decide (r ≤ 0))) := Lib.hid (by rw [topTo, cv_at hv HYK.out, HCMP.out])
                clear hv hbe hver m0 m1 m2
                have i1 : (0 : Int) ≤ (k : Int) := by omega
                have i2 : (k : Int) < (xs.length : Int) := by omega
                cases htb : topTo xs k j with
                | true =>
                  rw [htb] at HTT
                  go_wp2_with fail
                  generalize wr.alloc (.cells #[.int .i64 v.epoch, .slice A1 n1 c1, .slice A2 n2 c2] 25) = W' at *
                  have hbW : b < W'.heap.size := by have := HBX.out.size; omega
                  have s0 := cell_regrown (HCV.out 0)
                  have s1 := cell_regrown (HCV.out 1)
                  have s2 := cell_regrown (HCV.out 2)
                  have hkb : ∀ i, (W').cell? ⟨b, i, none⟩ = w.cell? ⟨b, i, none⟩ := fun i => (HBX.out.cell hbr).trans (HSM.out _ hb)
                  have t0 := cell_regrown (w := W') (a := ⟨b, o + k * 3, none⟩) ((hkb _).trans P0.out)
                  have t1 := cell_regrown (w := W') (a := ⟨b, o + k * 3 + 1, none⟩) ((hkb _).trans P1.out)
                  have t2 := cell_regrown (w := W') (a := ⟨b, o + k * 3 + 2, none⟩) ((hkb _).trans P2.out)
                  have CC : Hid (∀ d os, Calls Tryd.prog 12 #[.agg #[.int .i64 v.epoch, .slice A1 n1 c1, .slice A2 n2 c2], .agg #[.int .i64 y.epoch, .slice A3 n3 c3, .slice A4 n4 c4]] (grow (redrawn W' d) os) fun e w'' => e = .returned (.int .i64 (cmpVer v y)) ∧ ∃ p : Regrown, w'' = grow (redrawn W' p.d) p.os) := Lib.hid (fun d os => by
                    have h1 : Same w.heap.size w (grow (redrawn W' d) os) := HSM.out.trans (((Same.of_below (B := wr.heap.size) HBX.out).mono HW3.out.size).trans ((Same.of_below (below_regrown W' d os)).mono (by have := HBX.out.size; have := HW3.out.size; omega)))
                    exact Calls.regrown_of (rCompare_any _ _ v y w.heap.size _ (HVER.out.keep (Nat.le_refl _) h1) (HVY.out.keep (Nat.le_refl _) h1) (by have := (below_regrown W' d os).size; have := HBX.out.size; have := HW3.out.size; omega)))
                  rw [HCMP.out] at CC
                  clear hkb
                  refine wp_region_quiet_below (by kernel_rfl) (by kernel_rfl) ?_
                  repeat (first | go_big_quiet_step ((go_at_call 12; exact CC.out _ _)) | quiet_step ((go_at_call 12; exact CC.out _ _)))
                  refine wpQuiet_nil ?_
                  intro _ hwq
                  obtain ⟨⟨q, os⟩, hwq⟩ := hwq
                  subst hwq
                  have HB1 := Lib.hid (HBX.out.trans ((below_regrown W' q os).mono HBX.out.size))
                  clear s0 s1 s2 t0 t1 t2
                  generalize grow (redrawn W' q) os = W1 at *
                  go_wp2_with fail
                  go_roundw
                  case rel => exact ⟨j + 1, by omega, by go_num, by rw [HTT.out]; simp, Lib.hid (HW3.out.trans (HB1.out.mono HW3.out.size))⟩
                  case measure => simp [intOf]; omega
                | false =>
                  rw [htb] at HTT
                  go_wp2_with fail
                  generalize wr.alloc (.cells #[.int .i64 v.epoch, .slice A1 n1 c1, .slice A2 n2 c2] 25) = W' at *
                  have hbW : b < W'.heap.size := by have := HBX.out.size; omega
                  have s0 := cell_regrown (HCV.out 0)
                  have s1 := cell_regrown (HCV.out 1)
                  have s2 := cell_regrown (HCV.out 2)
                  have hkb : ∀ i, (W').cell? ⟨b, i, none⟩ = w.cell? ⟨b, i, none⟩ := fun i => (HBX.out.cell hbr).trans (HSM.out _ hb)
                  have t0 := cell_regrown (w := W') (a := ⟨b, o + k * 3, none⟩) ((hkb _).trans P0.out)
                  have t1 := cell_regrown (w := W') (a := ⟨b, o + k * 3 + 1, none⟩) ((hkb _).trans P1.out)
                  have t2 := cell_regrown (w := W') (a := ⟨b, o + k * 3 + 2, none⟩) ((hkb _).trans P2.out)
                  have CC : Hid (∀ d os, Calls Tryd.prog 12 #[.agg #[.int .i64 v.epoch, .slice A1 n1 c1, .slice A2 n2 c2], .agg #[.int .i64 y.epoch, .slice A3 n3 c3, .slice A4 n4 c4]] (grow (redrawn W' d) os) fun e w'' => e = .returned (.int .i64 (cmpVer v y)) ∧ ∃ p : Regrown, w'' = grow (redrawn W' p.d) p.os) := Lib.hid (fun d os => by
                    have h1 : Same w.heap.size w (grow (redrawn W' d) os) := HSM.out.trans (((Same.of_below (B := wr.heap.size) HBX.out).mono HW3.out.size).trans ((Same.of_below (below_regrown W' d os)).mono (by have := HBX.out.size; have := HW3.out.size; omega)))
                    exact Calls.regrown_of (rCompare_any _ _ v y w.heap.size _ (HVER.out.keep (Nat.le_refl _) h1) (HVY.out.keep (Nat.le_refl _) h1) (by have := (below_regrown W' d os).size; have := HBX.out.size; have := HW3.out.size; omega)))
                  rw [HCMP.out] at CC
                  clear hkb
                  refine wp_region_quiet_below (by kernel_rfl) (by kernel_rfl) ?_
                  repeat (first | go_big_quiet_step ((go_at_call 12; exact CC.out _ _)) | quiet_step ((go_at_call 12; exact CC.out _ _)))
                  refine wpQuiet_nil ?_
                  intro _ hwq
                  obtain ⟨⟨q, os⟩, hwq⟩ := hwq
                  subst hwq
                  have HB1 := Lib.hid (HBX.out.trans ((below_regrown W' q os).mono HBX.out.size))
                  clear s0 s1 s2 t0 t1 t2
                  generalize grow (redrawn W' q) os = W1 at *
                  go_wp2_with fail
                  go_roundw
                  case rel => exact ⟨j + 1, by omega, by go_num, by rw [HTT.out]; simp, Lib.hid (HW3.out.trans (HB1.out.mono HW3.out.size))⟩
                  case measure => simp [intOf]; omega
              · obtain rfl : j = xs.length := by omega
                cases htb : topTo xs k xs.length with
                | true =>
                  have HW' := Lib.hid (HST.out _ htb)
                  go_wp2_with fail
                  go_roundw
                  case rel => exact ⟨d + 1, k, _, by omega, rfl, by omega, by rw [HW'.out, if_pos rfl], HW3⟩
                  case measure => simp [intOf]
                | false =>
                  have HW' := Lib.hid (HST.out _ htb)
                  go_wp2_with fail
                  go_roundw
                  case rel => exact ⟨d + 1, k, _, by omega, rfl, by omega, by rw [HW'.out, if_neg (by decide), HWD.out], HW3⟩
                  case measure => simp [intOf]
end Go.Proofs.YtmlmaklighgiiaaDoor.V
