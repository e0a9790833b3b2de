/-
  The walk of version.Newest.
-/
import Derived.Test.YtmlmaklighgiiaaDoorBegins
namespace Go.Proofs.YtmlmaklighgiiaaDoor.V
set_option linter.unusedVariables false
set_option linter.unusedSimpArgs false
open Go Go.RowKit Go.Sort

/-- An element of a list of versions: its cells and their reading, in every world that keeps the list. -/
theorem vers_at {A : Option Addr} {n c : Nat} {xs : List Ver} {B : Nat} {w : World} (h : IsVers w (Lt B) (.slice A n c) xs) {i : Nat} {x : Ver} (hi : xs[i]? = some x) :
    ∃ b o A1 n1 c1 A2 n2 c2, A = some ⟨b, o, none⟩ ∧ b < B ∧ IsVer w (Lt B) (.agg #[.int .i64 x.epoch, .slice A1 n1 c1, .slice A2 n2 c2]) x ∧
      w.cell? ⟨b, o + i * 3, none⟩ = some (.int .i64 x.epoch) ∧ w.cell? ⟨b, o + i * 3 + 1, none⟩ = some (.slice A1 n1 c1) ∧ w.cell? ⟨b, o + i * 3 + 2, none⟩ = some (.slice A2 n2 c2) := by
  obtain ⟨b, o, vs, hA, hb, hlen, ⟨p, l, rfl, he, hp, hl⟩, hrow⟩ := h.at_ hi
  obtain ⟨A1, c1, rfl, _⟩ := hp.form
  obtain ⟨A2, c2, rfl, _⟩ := hl.form
  exact ⟨b, o, A1, _, c1, A2, _, c2, hA, hb, ⟨_, _, rfl, he, hp, hl⟩, hrow 0 _ rfl, hrow 1 _ rfl, hrow 2 _ rfl⟩

set_option maxHeartbeats 2000000 in
theorem Newest_any (va : Value) (xs : List Ver) (B : Nat) (w : World) (ha : IsVers w (Lt B) va xs) (hB : B ≤ w.heap.size) :
    Calls Tryd.prog 16 #[va] w fun e w' => e = .returned (.int .i64 (newL xs)) ∧ Below w.heap.size w w' := by
  obtain ⟨A, c, rfl, hl, hc⟩ := ha.form
  have HA := Lib.hid ha
  clear ha
  go_enter Tryd.func16, Tryd.ntmps16
  go_wp2_with fail
  go_loopw [3, 8] (fun q i wr => ∃ k : Nat, k ≤ xs.length ∧ i = .int .i64 k ∧ q = .int .i64 (newTo xs k) ∧ Hid (Below w.heap.size w wr)) (fun _ i _ => xs.length - (intOf i).toNat)
  case atStart => exact ⟨0, Nat.zero_le _, rfl, rfl, Lib.hid (Below.refl _ _)⟩
  case round =>
    obtain ⟨k, hk, rfl, rfl, HW⟩ := hrel
    have hBr : B ≤ wr.heap.size := by have := HW.out.size; omega
    have HSM := Lib.hid ((Same.of_below HW.out).mono hB)
    by_cases hlt : k < xs.length
    · obtain ⟨v, hv⟩ : ∃ v, xs[k]? = some v := ⟨_, List.getElem?_eq_getElem hlt⟩
      obtain ⟨b, o, A1, n1, c1, A2, n2, c2, rfl, hb, hver, m0, m1, m2⟩ := vers_at HA.out hv
      have hbr : b < wr.heap.size := by omega
      have q0 : wr.cell? ⟨b, o + k * 3, none⟩ = some (.int .i64 v.epoch) := (HSM.out _ hb).trans m0
      have q1 : wr.cell? ⟨b, o + k * 3 + 1, none⟩ = some (.slice A1 n1 c1) := (HSM.out _ hb).trans m1
      have q2 : wr.cell? ⟨b, o + k * 3 + 2, none⟩ = some (.slice A2 n2 c2) := (HSM.out _ hb).trans m2
      have HV := Lib.hid hv
      have HVER := Lib.hid hver
      clear hv hver m0 m1 m2
      by_cases hk0 : k = 0
      · subst hk0
        have hT : newTo xs 0 = -1 := rfl
        have HT1 := Lib.hid (newTo_one HV.out)
        rw [hT]
        clear hT
        simp only [Nat.zero_mul, Nat.add_zero] at q0 q1 q2
        have HBX := Lib.hid (news_alloc wr (.cells #[.int .i64 v.epoch, .slice A1 n1 c1, .slice A2 n2 c2] 25))
        go_wp2_with fail
        generalize wr.alloc (.cells #[.int .i64 v.epoch, .slice A1 n1 c1, .slice A2 n2 c2] 25) = W' at *
        refine wp_region_quiet_below (by kernel_rfl) (by kernel_rfl) ?_
        repeat (first | go_big_quiet_step (fail) | quiet_step (fail))
        refine wpQuiet_nil ?_
        intro _ hwq
        obtain ⟨⟨q, os⟩, hwq⟩ := hwq
        subst hwq
        have HB1 := Lib.hid (HBX.out.trans ((below_regrown W' q os).mono HBX.out.size))
        generalize grow (redrawn W' q) os = W1 at *
        go_wp2_with fail
        go_roundw
        case rel => exact ⟨1, by omega, rfl, by rw [HT1.out]; rfl, Lib.hid (HW.out.trans (HB1.out.mono HW.out.size))⟩
        case measure => simp [intOf]; omega
      · obtain ⟨r, hr, hrk⟩ : ∃ r : Nat, newTo xs k = r ∧ r < k := by
          rcases newTo_range xs k hk with ⟨_, h⟩ | ⟨h1, h2⟩
          · exact absurd h hk0
          · exact ⟨(newTo xs k).toNat, by omega, by omega⟩
        obtain ⟨u, hu⟩ : ∃ u, xs[r]? = some u := ⟨_, List.getElem?_eq_getElem (by omega)⟩
        obtain ⟨b', o', A3, n3, c3, A4, n4, c4, hbe, hb', hver', m0, m1, m2⟩ := vers_at HA.out hu
        obtain ⟨rfl, rfl⟩ : b = b' ∧ o = o' := by injection hbe with h; injection h with h1 h2; exact ⟨h1, h2⟩
        have HST := Lib.hid (newTo_step HV.out hr hu)
        have HVER' := Lib.hid hver'
        rw [hr]
        have p0 : wr.cell? ⟨b, o + r * 3, none⟩ = some (.int .i64 u.epoch) := (HSM.out _ hb).trans m0
        have p1 : wr.cell? ⟨b, o + r * 3 + 1, none⟩ = some (.slice A3 n3 c3) := (HSM.out _ hb).trans m1
        have p2 : wr.cell? ⟨b, o + r * 3 + 2, none⟩ = some (.slice A4 n4 c4) := (HSM.out _ hb).trans m2
        have HBX := Lib.hid (news_alloc wr (.cells #[.int .i64 v.epoch, .slice A1 n1 c1, .slice A2 n2 c2] 25))
        have HCV : Hid (∀ i, (wr.alloc (.cells #[.int .i64 v.epoch, .slice A1 n1 c1, .slice A2 n2 c2] 25)).cell? ⟨wr.heap.size, i, none⟩ = #[(.int .i64 v.epoch : Value), .slice A1 n1 c1, .slice A2 n2 c2][i]?) := Lib.hid (fun i => World.cell?_alloc_new _ _ _ _)
        have P0 := Lib.hid p0
        have P1 := Lib.hid p1
        have P2 := Lib.hid p2
        have hbsz := hbr
        clear hr hu hbe hver' m0 m1 m2 p0 p1 p2
        obtain ⟨cv, HCMP⟩ : ∃ cv, Hid (cmpVer v u = cv) := ⟨_, Lib.hid rfl⟩
        rw [HCMP.out] at HST
        have i1 : (0 : Int) ≤ (r : Int) := by omega
        have i2 : (r : Int) < (xs.length : Int) := by omega
        by_cases hz : 0 < cv
        · have HST2 : Hid (newTo xs (k + 1) = (k : Int)) := Lib.hid (by rw [HST.out, if_pos hz])
          go_wp2_with fail
          generalize wr.alloc (.cells #[.int .i64 v.epoch, .slice A1 n1 c1, .slice A2 n2 c2] 25) = W' at *
          have s0 := cell_regrown (HCV.out 0)
          have s1 := cell_regrown (HCV.out 1)
          have s2 := cell_regrown (HCV.out 2)
          have t0 := cell_regrown (w := W') (a := ⟨b, o + r * 3, none⟩) ((HBX.out.cell hbsz).trans P0.out)
          have t1 := cell_regrown (w := W') (a := ⟨b, o + r * 3 + 1, none⟩) ((HBX.out.cell hbsz).trans P1.out)
          have t2 := cell_regrown (w := W') (a := ⟨b, o + r * 3 + 2, none⟩) ((HBX.out.cell hbsz).trans P2.out)
          have CC : Hid (∀ d os, Calls Tryd.prog 11 #[.agg #[.int .i64 v.epoch, .slice A1 n1 c1, .slice A2 n2 c2], .agg #[.int .i64 u.epoch, .slice A3 n3 c3, .slice A4 n4 c4]] (grow (redrawn W' d) os) fun e w'' => e = .returned (.int .i64 (cmpVer v u)) ∧ ∃ p : Regrown, w'' = grow (redrawn W' p.d) p.os) := Lib.hid (fun d os => by
            have h1 : Same B w (grow (redrawn W' d) os) := HSM.out.trans (((Same.of_below (B := wr.heap.size) HBX.out).mono hBr).trans ((Same.of_below (below_regrown W' d os)).mono (by have := HBX.out.size; omega)))
            exact Calls.regrown_of (Compare_any _ _ v u B _ (HVER.out.keep (Nat.le_refl _) h1) (HVER'.out.keep (Nat.le_refl _) h1) (by have := (below_regrown W' d os).size; have := HBX.out.size; omega)))
          rw [HCMP.out] at CC
          refine wp_region_quiet_below (by kernel_rfl) (by kernel_rfl) ?_
          repeat (first | go_big_quiet_step ((go_at_call 11; exact CC.out _ _)) | quiet_step ((go_at_call 11; exact CC.out _ _)))
          refine wpQuiet_nil ?_
          intro _ hwq
          obtain ⟨⟨q, os⟩, hwq⟩ := hwq
          subst hwq
          have HB1 := Lib.hid (HBX.out.trans ((below_regrown W' q os).mono HBX.out.size))
          clear s0 s1 s2 t0 t1 t2
          generalize grow (redrawn W' q) os = W1 at *
          go_wp2_with fail
          go_roundw
          case rel => exact ⟨k + 1, by omega, by go_num, by rw [HST2.out], Lib.hid (HW.out.trans (HB1.out.mono HW.out.size))⟩
          case measure => simp [intOf]; omega
        · have HST2 : Hid (newTo xs (k + 1) = (r : Int)) := Lib.hid (by rw [HST.out, if_neg hz])
          go_wp2_with fail
          generalize wr.alloc (.cells #[.int .i64 v.epoch, .slice A1 n1 c1, .slice A2 n2 c2] 25) = W' at *
          have s0 := cell_regrown (HCV.out 0)
          have s1 := cell_regrown (HCV.out 1)
          have s2 := cell_regrown (HCV.out 2)
          have t0 := cell_regrown (w := W') (a := ⟨b, o + r * 3, none⟩) ((HBX.out.cell hbsz).trans P0.out)
          have t1 := cell_regrown (w := W') (a := ⟨b, o + r * 3 + 1, none⟩) ((HBX.out.cell hbsz).trans P1.out)
          have t2 := cell_regrown (w := W') (a := ⟨b, o + r * 3 + 2, none⟩) ((HBX.out.cell hbsz).trans P2.out)
          have CC : Hid (∀ d os, Calls Tryd.prog 11 #[.agg #[.int .i64 v.epoch, .slice A1 n1 c1, .slice A2 n2 c2], .agg #[.int .i64 u.epoch, .slice A3 n3 c3, .slice A4 n4 c4]] (grow (redrawn W' d) os) fun e w'' => e = .returned (.int .i64 (cmpVer v u)) ∧ ∃ p : Regrown, w'' = grow (redrawn W' p.d) p.os) := Lib.hid (fun d os => by
            have h1 : Same B w (grow (redrawn W' d) os) := HSM.out.trans (((Same.of_below (B := wr.heap.size) HBX.out).mono hBr).trans ((Same.of_below (below_regrown W' d os)).mono (by have := HBX.out.size; omega)))
            exact Calls.regrown_of (Compare_any _ _ v u B _ (HVER.out.keep (Nat.le_refl _) h1) (HVER'.out.keep (Nat.le_refl _) h1) (by have := (below_regrown W' d os).size; have := HBX.out.size; omega)))
          rw [HCMP.out] at CC
          refine wp_region_quiet_below (by kernel_rfl) (by kernel_rfl) ?_
          repeat (first | go_big_quiet_step ((go_at_call 11; exact CC.out _ _)) | quiet_step ((go_at_call 11; exact CC.out _ _)))
          refine wpQuiet_nil ?_
          intro _ hwq
          obtain ⟨⟨q, os⟩, hwq⟩ := hwq
          subst hwq
          have HB1 := Lib.hid (HBX.out.trans ((below_regrown W' q os).mono HBX.out.size))
          clear s0 s1 s2 t0 t1 t2
          generalize grow (redrawn W' q) os = W1 at *
          go_wp2_with fail
          go_roundw
          case rel => exact ⟨k + 1, by omega, by go_num, by rw [HST2.out], Lib.hid (HW.out.trans (HB1.out.mono HW.out.size))⟩
          case measure => simp [intOf]; omega
    · obtain rfl : k = xs.length := by omega
      go_wp2_with fail
      go_ret
      exact ⟨rfl, HW.out⟩
end Go.Proofs.YtmlmaklighgiiaaDoor.V
