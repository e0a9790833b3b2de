/-
  The walk of the law RanksSums.
-/
import Derived.Test.YtkmoaeckabjgnaaDoorKSum
import Derived.Test.YtkmoaeckabjgnaaDoorKNum
import Derived.Test.YtkmoaeckabjgnaaDoorLKOrder
import Derived.Deep.DeepCutAuto
namespace Go.Proofs.YtkmoaeckabjgnaaDoor.V
set_option linter.unusedVariables false
set_option linter.unusedSimpArgs false
open Go Go.RowKit Go.Sort

def befL (x y : Rk) : Bool := decide (x.v < y.v) || ((x.v == y.v) && (decide (x.n < y.n) || ((x.n == y.n) && (decide (x.c < y.c) || ((x.c == y.c) && decide (x.t < y.t))))))
theorem kI_lt {a b : Int} (h : a < b) : cmpI a b = -1 := by unfold cmpI; rw [if_pos h]
theorem kI_gt {a b : Int} (h : b < a) : cmpI a b = 1 := by unfold cmpI; rw [if_neg (by omega), if_pos h]
theorem kI_eq (a : Int) : cmpI a a = 0 := by unfold cmpI; rw [if_neg (by omega), if_neg (by omega)]
theorem bef_step (a b : Int) (l : List Int) (q : Bool) (h : decide (orL l < 0) = q) : decide (orL (cmpI a b :: l) < 0) = (decide (a < b) || ((a == b) && q)) := by
  rcases Int.lt_trichotomy a b with h1 | h1 | h1
  · rw [kI_lt h1, decide_eq_true h1]
    simp [orL]
  · subst h1
    rw [kI_eq]
    simp [orL, h]
  · rw [kI_gt h1, decide_eq_false (show ¬ a < b by omega), show (a == b) = false from beq_eq_false_iff_ne.2 (by omega)]
    simp [orL]
theorem bef_eq (x y : Rk) : decide (rkBefore x y < 0) = befL x y := by
  unfold rkBefore befL
  refine bef_step _ _ _ _ (bef_step _ _ _ _ (bef_step _ _ _ _ ?_))
  rw [bef_step _ _ _ false rfl]
  simp
set_option maxHeartbeats 16000000 in
set_option maxRecDepth 100000 in
theorem ksums_any (vr vo : Value) (xs : List Rk) (ch : List Bool) (x y : Rk) (w : World) (u : TypeId) (ev : Value) (m : Int) (es : List Addr) (hE : Env w u ev m) (hEs : Errs w es) (hx : IsSl 4 RRk w (Lt w.heap.size) vr xs) (ho : IsBools w (Lt w.heap.size) vo ch) :
    Calls Tryd.prog 8 #[vr, vo, .agg #[.int .i64 x.v, .int .i64 x.n, .int .i64 x.c, .int .i64 x.t, .int .i64 y.v, .int .i64 y.n, .int .i64 y.c, .int .i64 y.t]] w fun e w' => e = .returned (.bool true) ∧ Below w.heap.size w w' := by
  have HE := Lib.hid hE
  have HES := Lib.hid hEs
  obtain ⟨XA, xc, rfl, hxl, hxc⟩ := hx.form
  obtain ⟨OA, oc, rfl, hol, hoc⟩ := ho.form
  have HX := Lib.hid hx
  have HO := Lib.hid ho
  clear hE hEs hx ho
  go_enter Tryd.func8, Tryd.ntmps8
  go_wp2_with fail
  have HB0 := Lib.hid (news_alloc w (.cells #[.int .i64 x.v, .int .i64 x.n, .int .i64 x.c, .int .i64 x.t, .int .i64 y.v, .int .i64 y.n, .int .i64 y.c, .int .i64 y.t] 61))
  have HK := Lib.hid (Blk.new w 61 #[.int .i64 x.v, .int .i64 x.n, .int .i64 x.c, .int .i64 x.t, .int .i64 y.v, .int .i64 y.n, .int .i64 y.c, .int .i64 y.t])
  generalize w.alloc (.cells #[.int .i64 x.v, .int .i64 x.n, .int .i64 x.c, .int .i64 x.t, .int .i64 y.v, .int .i64 y.n, .int .i64 y.c, .int .i64 y.t] 61) = W0 at *
  have q0 := HK.out.cell 0
  have q1 := HK.out.cell 1
  have q2 := HK.out.cell 2
  have q3 := HK.out.cell 3
  have q4 := HK.out.cell 4
  have q5 := HK.out.cell 5
  have q6 := HK.out.cell 6
  have q7 := HK.out.cell 7
  have hlt := HK.out.lt
  go_upto_region 1 with fail
  go_cut [7, 8] (fun s7 s8 wx => ∃ ga gb, s7 = .pointer (some ⟨ga, 0, none⟩) ∧ s8 = .pointer (some ⟨gb, 0, none⟩) ∧ Hid (Blk wx ga 40 #[.int .i64 x.v, .int .i64 x.n, .int .i64 x.c, .int .i64 x.t]) ∧ Hid (Blk wx gb 40 #[.int .i64 y.v, .int .i64 y.n, .int .i64 y.c, .int .i64 y.t]) ∧ Hid (Below w.heap.size w wx))
  case first =>
    go_region
    · go_wp2_with fail
      go_meet
      refine ⟨_, _, rfl, rfl, Lib.hid ?_, Lib.hid ?_, Lib.hid ?_⟩
      · exact (Blk.new W0 40 #[.int .i64 x.v, .int .i64 x.n, .int .i64 x.c, .int .i64 x.t]).alloc _
      · have h := Blk.new (W0.alloc (.cells #[.int .i64 x.v, .int .i64 x.n, .int .i64 x.c, .int .i64 x.t] 40)) 40 #[.int .i64 y.v, .int .i64 y.n, .int .i64 y.c, .int .i64 y.t]
        rw [size_alloc] at h
        exact h
      · exact (HB0.out.trans ((news_two W0 _ _).mono HB0.out.size)).drew
    · go_wp2_with fail
      go_meet
      refine ⟨_, _, rfl, rfl, Lib.hid ?_, Lib.hid ?_, Lib.hid ?_⟩
      · have h := Blk.new (W0.alloc (.cells #[.int .i64 y.v, .int .i64 y.n, .int .i64 y.c, .int .i64 y.t] 40)) 40 #[.int .i64 x.v, .int .i64 x.n, .int .i64 x.c, .int .i64 x.t]
        rw [size_alloc] at h
        exact h
      · exact (Blk.new W0 40 #[.int .i64 y.v, .int .i64 y.n, .int .i64 y.c, .int .i64 y.t]).alloc _
      · exact (HB0.out.trans ((news_two W0 _ _).mono HB0.out.size)).drew
  case rest =>
  obtain ⟨ga, gb, rfl, rfl, HKA, HKB, HB1⟩ := hcut
  clear q0 q1 q2 q3 q4 q5 q6 q7 hlt
  go_wp2_with fail
  refine (alive12_any wc u ev m (HE.out.next HB1.out)).mono ?_
  rintro e w1 ⟨rfl, hb⟩
  have HB2 := Lib.hid (HB1.out.trans (hb.mono HB1.out.size))
  replace HKA := Lib.hid (HKA.out.belowSelf hb)
  replace HKB := Lib.hid (HKB.out.belowSelf hb)
  clear hb
  by_cases h100 : 100 < xs.length
  · have d100 : decide ((100 : Int) < (xs.length : Int)) = true := decide_eq_true (by omega)
    go_wp2_with fail
    go_ret
    exact ⟨rfl, HB2.out⟩
  have d100 : decide ((100 : Int) < (xs.length : Int)) = false := decide_eq_false (by omega)
  by_cases h200 : 200 < ch.length
  · have d200 : decide ((200 : Int) < (ch.length : Int)) = true := decide_eq_true (by omega)
    go_wp2_with fail
    go_ret
    exact ⟨rfl, HB2.out⟩
  have d200 : decide ((200 : Int) < (ch.length : Int)) = false := decide_eq_false (by omega)
  by_cases hl : ch.length = xs.length
  · rw [hl] at HO ⊢
    have HL := Lib.hid hl
    clear hl hol
    go_wp2_with fail
    refine (Sum_any _ _ xs ch w.heap.size w1 (HX.out.keep keepsRk (Nat.le_refl _) (Same.of_below HB2.out)) (HO.out.keep keepsBool (Nat.le_refl _) (Same.of_below HB2.out)) HB2.out.size HL.out).mono ?_
    rintro e w2 ⟨rfl, hb⟩
    unfold sumC
    have HB3 := Lib.hid (HB2.out.trans (hb.mono HB2.out.size))
    replace HKA := Lib.hid (HKA.out.belowSelf hb)
    replace HKB := Lib.hid (HKB.out.belowSelf hb)
    clear hb
    go_upto_region 7 with fail
    have HB4 := Lib.hid (HB3.out.trans ((news_alloc w2 (.cells #[.int .i64 (sumTo Rk.v xs ch xs.length), .int .i64 (sumTo Rk.n xs ch xs.length), .int .i64 (sumTo Rk.c xs ch xs.length), .int .i64 (sumTo Rk.t xs ch xs.length)] 40)).mono HB3.out.size))
    have HKS := Lib.hid (Blk.new w2 40 #[.int .i64 (sumTo Rk.v xs ch xs.length), .int .i64 (sumTo Rk.n xs ch xs.length), .int .i64 (sumTo Rk.c xs ch xs.length), .int .i64 (sumTo Rk.t xs ch xs.length)])
    have HKA4 := Lib.hid (HKA.out.alloc (.cells #[.int .i64 (sumTo Rk.v xs ch xs.length), .int .i64 (sumTo Rk.n xs ch xs.length), .int .i64 (sumTo Rk.c xs ch xs.length), .int .i64 (sumTo Rk.t xs ch xs.length)] 40))
    have HKB4 := Lib.hid (HKB.out.alloc (.cells #[.int .i64 (sumTo Rk.v xs ch xs.length), .int .i64 (sumTo Rk.n xs ch xs.length), .int .i64 (sumTo Rk.c xs ch xs.length), .int .i64 (sumTo Rk.t xs ch xs.length)] 40))
    generalize w2.alloc (.cells #[.int .i64 (sumTo Rk.v xs ch xs.length), .int .i64 (sumTo Rk.n xs ch xs.length), .int .i64 (sumTo Rk.c xs ch xs.length), .int .i64 (sumTo Rk.t xs ch xs.length)] 40) = W4 at *
    have a0 := HKA4.out.cell 0
    have b0 := HKB4.out.cell 0
    have a1 := HKA4.out.cell 1
    have b1 := HKB4.out.cell 1
    have a2 := HKA4.out.cell 2
    have b2 := HKB4.out.cell 2
    have a3 := HKA4.out.cell 3
    have b3 := HKB4.out.cell 3
    go_cut [11] (fun s11 wx => s11 = .bool (befL x y) ∧ wx = W4)
    case first =>
      rcases Int.lt_trichotomy x.v y.v with hv | hv | hv
      · have lv : decide (x.v < y.v) = true := decide_eq_true hv
        have HBF : Hid (befL x y = true) := Lib.hid (by unfold befL; simp [lv])
        go_wp2_with fail
        go_meet
        exact ⟨by rw [HBF.out], rfl⟩
      · have lv : decide (x.v < y.v) = false := decide_eq_false (by omega)
        have ev : (x.v == y.v) = true := by rw [hv]; simp
        clear hv
        rcases Int.lt_trichotomy x.n y.n with hn | hn | hn
        · have ln : decide (x.n < y.n) = true := decide_eq_true hn
          have HBF : Hid (befL x y = true) := Lib.hid (by unfold befL; simp [lv, ev, ln])
          go_wp2_with fail
          go_meet
          exact ⟨by rw [HBF.out], rfl⟩
        · have ln : decide (x.n < y.n) = false := decide_eq_false (by omega)
          have en : (x.n == y.n) = true := by rw [hn]; simp
          clear hn
          rcases Int.lt_trichotomy x.c y.c with hc | hc | hc
          · have lc : decide (x.c < y.c) = true := decide_eq_true hc
            have HBF : Hid (befL x y = true) := Lib.hid (by unfold befL; simp [lv, ev, ln, en, lc])
            go_wp2_with fail
            go_meet
            exact ⟨by rw [HBF.out], rfl⟩
          · have lc : decide (x.c < y.c) = false := decide_eq_false (by omega)
            have ec : (x.c == y.c) = true := by rw [hc]; simp
            clear hc
            rcases Int.lt_trichotomy x.t y.t with ht | ht | ht
            · have lt : decide (x.t < y.t) = true := decide_eq_true ht
              have HBF : Hid (befL x y = true) := Lib.hid (by unfold befL; simp [lv, ev, ln, en, lc, ec, lt])
              go_wp2_with fail
              go_meet
              exact ⟨by rw [HBF.out], rfl⟩
            · have lt : decide (x.t < y.t) = false := decide_eq_false (by omega)
              have et : (x.t == y.t) = true := by rw [ht]; simp
              clear ht
              have HBF : Hid (befL x y = false) := Lib.hid (by unfold befL; simp [lv, ev, ln, en, lc, ec, lt, et])
              go_wp2_with fail
              go_meet
              exact ⟨by rw [HBF.out], rfl⟩
            · have lt : decide (x.t < y.t) = false := decide_eq_false (by omega)
              have et : (x.t == y.t) = false := beq_eq_false_iff_ne.2 (by omega)
              have HBF : Hid (befL x y = false) := Lib.hid (by unfold befL; simp [lv, ev, ln, en, lc, ec, lt, et])
              go_wp2_with fail
              go_meet
              exact ⟨by rw [HBF.out], rfl⟩
          · have lc : decide (x.c < y.c) = false := decide_eq_false (by omega)
            have ec : (x.c == y.c) = false := beq_eq_false_iff_ne.2 (by omega)
            have HBF : Hid (befL x y = false) := Lib.hid (by unfold befL; simp [lv, ev, ln, en, lc, ec])
            go_wp2_with fail
            go_meet
            exact ⟨by rw [HBF.out], rfl⟩
        · have ln : decide (x.n < y.n) = false := decide_eq_false (by omega)
          have en : (x.n == y.n) = false := beq_eq_false_iff_ne.2 (by omega)
          have HBF : Hid (befL x y = false) := Lib.hid (by unfold befL; simp [lv, ev, ln, en])
          go_wp2_with fail
          go_meet
          exact ⟨by rw [HBF.out], rfl⟩
      · have lv : decide (x.v < y.v) = false := decide_eq_false (by omega)
        have ev : (x.v == y.v) = false := beq_eq_false_iff_ne.2 (by omega)
        have HBF : Hid (befL x y = false) := Lib.hid (by unfold befL; simp [lv, ev])
        go_wp2_with fail
        go_meet
        exact ⟨by rw [HBF.out], rfl⟩
    case rest =>
    obtain ⟨rfl, rfl⟩ := hcut
    obtain ⟨bl, hbl⟩ : ∃ bl, bl = befL x y := ⟨_, rfl⟩
    rw [← hbl]
    have HBL := Lib.hid hbl
    clear hbl
    go_wp2_with fail
    refine (Before_any x y _).mono ?_
    rintro e w5 ⟨rfl, hb5⟩
    rw [bef_eq, ← HBL.out]
    have HB5 := Lib.hid (HB4.out.trans (hb5.mono HB4.out.size))
    have HKS5 := Lib.hid (HKS.out.belowSelf hb5)
    clear hb5 a0 a1 a2 a3 b0 b1 b2 b3
    go_wp2_with fail
    have HKW := Lib.hid (Blk.new w5 65 #[.int .i64 0, .int .i64 0, .int .i64 0, .int .i64 0])
    have HBN := Lib.hid (news_alloc w5 (.cells #[.int .i64 0, .int .i64 0, .int .i64 0, .int .i64 0] 65))
    have HB6 := Lib.hid (HB5.out.trans (HBN.out.mono HB5.out.size))
    have HKS6 := Lib.hid (HKS5.out.alloc (.cells #[.int .i64 0, .int .i64 0, .int .i64 0, .int .i64 0] 65))
    have HLS := Lib.hid HKS5.out.lt
    have hw5 : w.heap.size ≤ w5.heap.size := HB5.out.size
    have HW5 := Lib.hid hw5
    clear hw5
    generalize w5.alloc (.cells #[.int .i64 0, .int .i64 0, .int .i64 0, .int .i64 0] 65) = W6 at *
    go_loopw [103] (fun i wr => ∃ k : Nat, k ≤ xs.length ∧ i = .int .i64 k ∧ Hid (Blk wr w5.heap.size 65 (sumC xs ch k)) ∧ Hid (Below w5.heap.size W6 wr)) (fun i _ => xs.length - (intOf i).toNat)
    case atStart => exact ⟨0, Nat.zero_le _, rfl, HKW, Lib.hid (Below.refl _ _)⟩
    case round =>
      obtain ⟨k, hk, rfl, HT, HW⟩ := hrel
      have HG := Lib.hid HT.out.lt
      have HS2 : Hid (Same w.heap.size w wr) := Lib.hid ((Same.of_below HB6.out).trans ((Same.of_below HW.out).mono HW5.out))
      by_cases hlt : k < xs.length
      · obtain ⟨z, hz⟩ : ∃ z, xs[k]? = some z := ⟨_, List.getElem?_eq_getElem hlt⟩
        obtain ⟨ob, hob⟩ : ∃ ob, ch[k]? = some ob := ⟨_, List.getElem?_eq_getElem (by rw [HL.out]; exact hlt)⟩
        obtain ⟨b, o, rfl, hb, h0, h1, h2, h3⟩ := rks_at HX.out hz
        obtain ⟨b2, o2, rfl, hb2, hcell⟩ := bools_at HO.out hob
        have hbr : b < wr.heap.size := by have h : b < w.heap.size := hb; have := HG.out; have := HW5.out; omega
        have hb2r : b2 < wr.heap.size := by have h : b2 < w.heap.size := hb2; have := HG.out; have := HW5.out; omega
        have qb : wr.cell? ⟨b2, o2 + k, none⟩ = some (.bool ob) := (HS2.out _ hb2).trans hcell
        have q0 : wr.cell? ⟨b, o + k * 4, none⟩ = some (.int .i64 z.v) := (HS2.out _ hb).trans h0
        have q1 : wr.cell? ⟨b, o + k * 4 + 1, none⟩ = some (.int .i64 z.n) := (HS2.out _ hb).trans h1
        have q2 : wr.cell? ⟨b, o + k * 4 + 2, none⟩ = some (.int .i64 z.c) := (HS2.out _ hb).trans h2
        have q3 : wr.cell? ⟨b, o + k * 4 + 3, none⟩ = some (.int .i64 z.t) := (HS2.out _ hb).trans h3
        have HSV := Lib.hid (sumTo_at (f := Rk.v) hz hob)
        have HSN := Lib.hid (sumTo_at (f := Rk.n) hz hob)
        have HSC := Lib.hid (sumTo_at (f := Rk.c) hz hob)
        have HST := Lib.hid (sumTo_at (f := Rk.t) hz hob)
        clear hz hob h0 h1 h2 h3 hcell
        cases ob with
        | false =>
          have HN : Hid (sumC xs ch (k + 1) = sumC xs ch k) := Lib.hid (by unfold sumC; rw [HSV.out, HSN.out, HSC.out, HST.out]; rfl)
          go_wp2_with fail
          go_roundw
          case rel => exact ⟨k + 1, by omega, by go_num, Lib.hid (by rw [HN.out]; exact HT.out.alloc _), Lib.hid (HW.out.trans ((news_alloc wr _).mono (by have := HG.out; omega)))⟩
          case measure => simp [intOf]; omega
        | true =>
          have HTX := Lib.hid (HT.out.alloc (.cells #[.int .i64 z.v, .int .i64 z.n, .int .i64 z.c, .int .i64 z.t] 40))
          have HKX := Lib.hid (Blk.new wr 40 #[.int .i64 z.v, .int .i64 z.n, .int .i64 z.c, .int .i64 z.t])
          unfold sumC at HTX
          have t0 := HTX.out.cell 0
          have t1 := HTX.out.cell 1
          have t2 := HTX.out.cell 2
          have t3 := HTX.out.cell 3
          have f0 := HTX.out.frozen 0
          have f1 := HTX.out.frozen 1
          have f2 := HTX.out.frozen 2
          have f3 := HTX.out.frozen 3
          have y0 := HKX.out.cell 0
          have y1 := HKX.out.cell 1
          have y2 := HKX.out.cell 2
          have y3 := HKX.out.cell 3
          have hne : ¬ wr.heap.size = w5.heap.size := by have := HG.out; omega
          have hne2 : ¬ w5.heap.size = wr.heap.size := by have := HG.out; omega
          go_wp2_with fail
          go_roundw
          case rel => exact ⟨k + 1, by omega, by go_num, Lib.hid (by
            have h := (((HTX.out.set_ 0 (.int .i64 (RowKit.wrap64 (sumTo Rk.v xs ch k + z.v)))).set_ 1 (.int .i64 (RowKit.wrap64 (sumTo Rk.n xs ch k + z.n)))).set_ 2 (.int .i64 (RowKit.wrap64 (sumTo Rk.c xs ch k + z.c)))).set_ 3 (.int .i64 (RowKit.wrap64 (sumTo Rk.t xs ch k + z.t)))
            unfold sumC
            rw [HSV.out, HSN.out, HSC.out, HST.out]
            simpa [addW] using h), Lib.hid (below_set (below_set (below_set (below_set (HW.out.trans ((news_alloc wr _).mono (by have := HG.out; omega))) ⟨w5.heap.size, 0, none⟩ (Nat.le_refl _) _) ⟨w5.heap.size, 1, none⟩ (Nat.le_refl _) _) ⟨w5.heap.size, 2, none⟩ (Nat.le_refl _) _) ⟨w5.heap.size, 3, none⟩ (Nat.le_refl _) _)⟩
          case measure => simp [intOf]; omega
      · obtain rfl : k = xs.length := by omega
        unfold sumC at HT
        have HKS7 := Lib.hid (HKS6.out.below HW.out HLS.out)
        have t0 := HT.out.cell 0
        have t1 := HT.out.cell 1
        have t2 := HT.out.cell 2
        have t3 := HT.out.cell 3
        have s0 := HKS7.out.cell 0
        have s1 := HKS7.out.cell 1
        have s2 := HKS7.out.cell 2
        have s3 := HKS7.out.cell 3
        go_wp2_with fail
        go_ret
        exact ⟨ret_bool (by simp), HB6.out.trans (HW.out.mono HW5.out)⟩
  · have hl1 : ((ch.length : Int) == (xs.length : Int)) = false := beq_eq_false_iff_ne.2 (by omega)
    have hl2 : ((xs.length : Int) == (ch.length : Int)) = false := beq_eq_false_iff_ne.2 (by omega)
    have hl3 : ((xs.length : Int) != (ch.length : Int)) = true := by rw [bne, hl2]; rfl
    have HEW := Lib.hid (HES.out.next HB2.out)
    obtain ⟨er, her⟩ : ∃ er, es[9]? = some er := ⟨_, List.getElem?_eq_getElem (by rw [HES.out.len]; decide)⟩
    have HER := Lib.hid her
    clear her
    go_wp2_with fail
    refine (Sum_err _ _ xs ch 165 (.pointer (some er)) (Lt w.heap.size) w1 (HX.out.keep keepsRk (Nat.le_refl _) (Same.of_below HB2.out)) (HO.out.keep keepsBool (Nat.le_refl _) (Same.of_below HB2.out)) hl (HEW.out.cell 9 _ _ HER.out rfl)).mono ?_
    rintro e w2 ⟨rfl, hb⟩
    have HB3 := Lib.hid (HB2.out.trans (hb.mono HB2.out.size))
    replace HKA := Lib.hid (HKA.out.belowSelf hb)
    replace HKB := Lib.hid (HKB.out.belowSelf hb)
    clear hb
    go_upto_region 7 with fail
    have HB4 := Lib.hid (HB3.out.trans ((news_alloc w2 (.cells #[.int .i64 0, .int .i64 0, .int .i64 0, .int .i64 0] 40)).mono HB3.out.size))
    have HKS := Lib.hid (Blk.new w2 40 #[.int .i64 0, .int .i64 0, .int .i64 0, .int .i64 0])
    have HKA4 := Lib.hid (HKA.out.alloc (.cells #[.int .i64 0, .int .i64 0, .int .i64 0, .int .i64 0] 40))
    have HKB4 := Lib.hid (HKB.out.alloc (.cells #[.int .i64 0, .int .i64 0, .int .i64 0, .int .i64 0] 40))
    generalize w2.alloc (.cells #[.int .i64 0, .int .i64 0, .int .i64 0, .int .i64 0] 40) = W4 at *
    have a0 := HKA4.out.cell 0
    have b0 := HKB4.out.cell 0
    have a1 := HKA4.out.cell 1
    have b1 := HKB4.out.cell 1
    have a2 := HKA4.out.cell 2
    have b2 := HKB4.out.cell 2
    have a3 := HKA4.out.cell 3
    have b3 := HKB4.out.cell 3
    go_cut [11] (fun s11 wx => s11 = .bool (befL x y) ∧ wx = W4)
    case first =>
      rcases Int.lt_trichotomy x.v y.v with hv | hv | hv
      · have lv : decide (x.v < y.v) = true := decide_eq_true hv
        have HBF : Hid (befL x y = true) := Lib.hid (by unfold befL; simp [lv])
        go_wp2_with fail
        go_meet
        exact ⟨by rw [HBF.out], rfl⟩
      · have lv : decide (x.v < y.v) = false := decide_eq_false (by omega)
        have ev : (x.v == y.v) = true := by rw [hv]; simp
        clear hv
        rcases Int.lt_trichotomy x.n y.n with hn | hn | hn
        · have ln : decide (x.n < y.n) = true := decide_eq_true hn
          have HBF : Hid (befL x y = true) := Lib.hid (by unfold befL; simp [lv, ev, ln])
          go_wp2_with fail
          go_meet
          exact ⟨by rw [HBF.out], rfl⟩
        · have ln : decide (x.n < y.n) = false := decide_eq_false (by omega)
          have en : (x.n == y.n) = true := by rw [hn]; simp
          clear hn
          rcases Int.lt_trichotomy x.c y.c with hc | hc | hc
          · have lc : decide (x.c < y.c) = true := decide_eq_true hc
            have HBF : Hid (befL x y = true) := Lib.hid (by unfold befL; simp [lv, ev, ln, en, lc])
            go_wp2_with fail
            go_meet
            exact ⟨by rw [HBF.out], rfl⟩
          · have lc : decide (x.c < y.c) = false := decide_eq_false (by omega)
            have ec : (x.c == y.c) = true := by rw [hc]; simp
            clear hc
            rcases Int.lt_trichotomy x.t y.t with ht | ht | ht
            · have lt : decide (x.t < y.t) = true := decide_eq_true ht
              have HBF : Hid (befL x y = true) := Lib.hid (by unfold befL; simp [lv, ev, ln, en, lc, ec, lt])
              go_wp2_with fail
              go_meet
              exact ⟨by rw [HBF.out], rfl⟩
            · have lt : decide (x.t < y.t) = false := decide_eq_false (by omega)
              have et : (x.t == y.t) = true := by rw [ht]; simp
              clear ht
              have HBF : Hid (befL x y = false) := Lib.hid (by unfold befL; simp [lv, ev, ln, en, lc, ec, lt, et])
              go_wp2_with fail
              go_meet
              exact ⟨by rw [HBF.out], rfl⟩
            · have lt : decide (x.t < y.t) = false := decide_eq_false (by omega)
              have et : (x.t == y.t) = false := beq_eq_false_iff_ne.2 (by omega)
              have HBF : Hid (befL x y = false) := Lib.hid (by unfold befL; simp [lv, ev, ln, en, lc, ec, lt, et])
              go_wp2_with fail
              go_meet
              exact ⟨by rw [HBF.out], rfl⟩
          · have lc : decide (x.c < y.c) = false := decide_eq_false (by omega)
            have ec : (x.c == y.c) = false := beq_eq_false_iff_ne.2 (by omega)
            have HBF : Hid (befL x y = false) := Lib.hid (by unfold befL; simp [lv, ev, ln, en, lc, ec])
            go_wp2_with fail
            go_meet
            exact ⟨by rw [HBF.out], rfl⟩
        · have ln : decide (x.n < y.n) = false := decide_eq_false (by omega)
          have en : (x.n == y.n) = false := beq_eq_false_iff_ne.2 (by omega)
          have HBF : Hid (befL x y = false) := Lib.hid (by unfold befL; simp [lv, ev, ln, en])
          go_wp2_with fail
          go_meet
          exact ⟨by rw [HBF.out], rfl⟩
      · have lv : decide (x.v < y.v) = false := decide_eq_false (by omega)
        have ev : (x.v == y.v) = false := beq_eq_false_iff_ne.2 (by omega)
        have HBF : Hid (befL x y = false) := Lib.hid (by unfold befL; simp [lv, ev])
        go_wp2_with fail
        go_meet
        exact ⟨by rw [HBF.out], rfl⟩
    case rest =>
    obtain ⟨rfl, rfl⟩ := hcut
    obtain ⟨bl, hbl⟩ : ∃ bl, bl = befL x y := ⟨_, rfl⟩
    rw [← hbl]
    have HBL := Lib.hid hbl
    clear hbl
    go_wp2_with fail
    refine (Before_any x y _).mono ?_
    rintro e w5 ⟨rfl, hb5⟩
    rw [bef_eq, ← HBL.out]
    have HB5 := Lib.hid (HB4.out.trans (hb5.mono HB4.out.size))
    have HKS5 := Lib.hid (HKS.out.belowSelf hb5)
    clear hb5 a0 a1 a2 a3 b0 b1 b2 b3
    have s0 := HKS5.out.cell 0
    have s1 := HKS5.out.cell 1
    have s2 := HKS5.out.cell 2
    have s3 := HKS5.out.cell 3
    go_wp2_with fail
    refine (Num_any es 9 er w5 HER.out (HES.out.next HB5.out)).mono ?_
    rintro e w6 ⟨rfl, hb6⟩
    have HB6 := Lib.hid (HB5.out.trans (hb6.mono HB5.out.size))
    clear hb6
    go_wp2_with fail
    go_ret
    exact ⟨rfl, HB6.out⟩
end Go.Proofs.YtkmoaeckabjgnaaDoor.V
