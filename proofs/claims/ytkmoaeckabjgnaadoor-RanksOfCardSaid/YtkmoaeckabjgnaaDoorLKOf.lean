/-
  The walk of the law RanksOf.
-/
import Derived.Test.YtkmoaeckabjgnaaDoorKDocO
import Derived.Test.YtkmoaeckabjgnaaDoorKNum
import Derived.Test.YtkmoaeckabjgnaaDoorLKOrder
namespace Go.Proofs.YtkmoaeckabjgnaaDoor.V
set_option linter.unusedVariables false
set_option linter.unusedSimpArgs false
open Go Go.RowKit Go.Sort

set_option maxHeartbeats 16000000 in
set_option maxRecDepth 100000 in
theorem kof_any (vr vo vc : Value) (xs : List Rcd) (on : List Bool) (ch : List ByteArray) (w : World) (u : TypeId) (ev : Value) (m : Int) (es : List Addr) (hE : Env w u ev m) (hEs : Errs w es)
    (hx : IsRcds w (Lt w.heap.size) vr xs) (ho : IsBools w (Lt w.heap.size) vo on) (hc : IsStrs w (Lt w.heap.size) vc ch) :
    Calls Tryd.prog 6 #[vr, vo, vc] w fun e w' => e = .returned (.bool true) ∧ Below w.heap.size w w' := by
  have HE := Lib.hid hE
  have HES := Lib.hid hEs
  obtain ⟨XA, xc, rfl, hxl, hxc⟩ := hx.form
  obtain ⟨OA, oc, rfl, hol, hoc⟩ := ho.form
  obtain ⟨CA, cc, rfl, hcl, hcc⟩ := hc.form
  have HX := Lib.hid hx
  have HO := Lib.hid ho
  have HC := Lib.hid hc
  clear hE hEs hx ho hc
  go_enter Tryd.func6, Tryd.ntmps6
  go_wp2_with fail
  refine (alive12_any w u ev m HE.out).mono ?_
  rintro e w1 ⟨rfl, hb1⟩
  have HB1 := Lib.hid hb1
  clear hb1
  go_wp2_with fail
  refine (BigAll_any _ xs 70 w.heap.size w1 (HX.out.keep keepsRcd (Nat.le_refl _) (Same.of_below HB1.out)) HB1.out.size).mono ?_
  rintro e w2 ⟨⟨bb, rfl, hbig⟩, hb2⟩
  have HB2 := Lib.hid (HB1.out.trans (hb2.mono HB1.out.size))
  have HBIG := Lib.hid hbig
  clear hb2 hbig
  cases bb with
  | true =>
    go_wp2_with fail
    go_ret
    exact ⟨rfl, HB2.out⟩
  | false =>
  have h70 : (xs.length : Int) ≤ 70 := HBIG.out rfl
  by_cases h100 : 100 < on.length
  · have d100 : decide ((100 : Int) < (on.length : Int)) = true := decide_eq_true (by omega)
    go_wp2_with fail
    go_ret
    exact ⟨rfl, HB2.out⟩
  have d100 : decide ((100 : Int) < (on.length : Int)) = false := decide_eq_false (by omega)
  by_cases h20 : 20 < ch.length
  · have d20 : decide ((20 : Int) < (ch.length : Int)) = true := decide_eq_true (by omega)
    go_wp2_with fail
    go_ret
    exact ⟨rfl, HB2.out⟩
  have d20 : decide ((20 : Int) < (ch.length : Int)) = false := decide_eq_false (by omega)
  go_wp2_with fail
  refine (Long_any _ ch 500 w.heap.size w2 (HC.out.keep keepsStr (Nat.le_refl _) (Same.of_below HB2.out)) rfl).mono ?_
  rintro e w3 ⟨⟨bb, rfl⟩, hb⟩
  have HB3 := Lib.hid (HB2.out.trans (hb.mono HB2.out.size))
  clear hb
  cases bb with
  | true =>
    go_wp2_with fail
    go_ret
    exact ⟨rfl, HB3.out⟩
  | false =>
  have HX3 := Lib.hid (HX.out.keep keepsRcd (Nat.le_refl _) (Same.of_below HB3.out))
  have HO3 := Lib.hid (HO.out.keep keepsBool (Nat.le_refl _) (Same.of_below HB3.out))
  have HC3 := Lib.hid (HC.out.keep keepsStr (Nat.le_refl _) (Same.of_below HB3.out))
  have HEW := Lib.hid (HES.out.next HB3.out)
  by_cases h60 : 60 < xs.length
  · have d60 : decide ((60 : Int) < (xs.length : Int)) = true := decide_eq_true (by omega)
    obtain ⟨er, her⟩ : ∃ er, es[2]? = some er := ⟨_, List.getElem?_eq_getElem (by rw [HES.out.len]; decide)⟩
    have HER := Lib.hid her
    clear her
    go_wp2_with fail
    refine (ranksOf_size _ _ _ xs on ch 165 (.pointer (some er)) (Lt w.heap.size) w3 HX3.out HO3.out HC3.out h60 (HEW.out.cell 2 _ _ HER.out rfl)).mono ?_
    rintro e w4 ⟨rfl, hb⟩
    have HB4 := Lib.hid (HB3.out.trans (hb.mono HB3.out.size))
    clear hb
    go_wp2_with fail
    refine (Num_any es 2 er w4 HER.out (HES.out.next HB4.out)).mono ?_
    rintro e w5 ⟨rfl, hb⟩
    have HB5 := Lib.hid (HB4.out.trans (hb.mono HB4.out.size))
    clear hb
    go_wp2_with fail
    go_ret
    exact ⟨rfl, HB5.out⟩
  have d60 : decide ((60 : Int) < (xs.length : Int)) = false := decide_eq_false (by omega)
  by_cases hl : on.length = xs.length
  rotate_left
  · have hl1 : ((on.length : Int) == (xs.length : Int)) = false := beq_eq_false_iff_ne.2 (by omega)
    have hl2 : ((on.length : Int) != (xs.length : Int)) = true := by rw [bne, hl1]; rfl
    obtain ⟨er, her⟩ : ∃ er, es[9]? = some er := ⟨_, List.getElem?_eq_getElem (by rw [HES.out.len]; decide)⟩
    have HER := Lib.hid her
    clear her
    go_wp2_with fail
    refine (ranksOf_range _ _ _ xs on ch 165 (.pointer (some er)) (Lt w.heap.size) w3 HX3.out HO3.out HC3.out h60 hl (HEW.out.cell 9 _ _ HER.out rfl)).mono ?_
    rintro e w4 ⟨rfl, hb⟩
    have HB4 := Lib.hid (HB3.out.trans (hb.mono HB3.out.size))
    clear hb
    go_wp2_with fail
    refine (Num_any es 9 er w4 HER.out (HES.out.next HB4.out)).mono ?_
    rintro e w5 ⟨rfl, hb⟩
    have HB5 := Lib.hid (HB4.out.trans (hb.mono HB4.out.size))
    clear hb
    go_wp2_with fail
    go_ret
    exact ⟨rfl, HB5.out⟩
  rw [hl] at HO3 ⊢
  have HL := Lib.hid hl
  clear hl hol d100 h100 HO
  go_wp2_with fail
  refine (ranksOf_any _ _ _ xs on ch w.heap.size w3 HX3.out HO3.out HC3.out HB3.out.size HL.out (by omega) (by omega)).mono ?_
  rintro _ w4 ⟨⟨g, rfl, hr⟩, hb⟩
  have HB4 := Lib.hid (HB3.out.trans (hb.mono HB3.out.size))
  have HS4 := Lib.hid ((Same.of_below hb).mono HB3.out.size)
  have HR := Lib.hid hr
  clear hr hb
  go_wp2_with fail
  refine (dOf_any _ _ _ xs on ch w.heap.size w4 (HX3.out.keep keepsRcd (Nat.le_refl _) HS4.out) (HO3.out.keep keepsBool (Nat.le_refl _) HS4.out) (HC3.out.keep keepsStr (Nat.le_refl _) HS4.out) HB4.out.size HL.out (by omega)).mono ?_
  rintro _ w5 ⟨⟨DA, dc, rfl, hd⟩, hb⟩
  have HB5 := Lib.hid (HB4.out.trans (hb.mono HB4.out.size))
  have HR5 := Lib.hid (HR.out.keepOn keepsRk (ok' := Lt w5.heap.size) (fun b h => Nat.lt_of_lt_of_le h.2 hb.size) (fun p hp => hb.cell hp.2))
  have HD := Lib.hid hd
  clear hd hb HR
  obtain ⟨wz, hwz⟩ : ∃ wz : World, wz = w5 := ⟨_, rfl⟩
  subst hwz
  go_wp2_with fail
  go_loopw [77] (fun i wr => ∃ k : Nat, k ≤ xs.length ∧ i = .int .i64 k ∧ Hid (Below wz.heap.size wz wr)) (fun i _ => xs.length - (intOf i).toNat)
  case atStart => exact ⟨0, Nat.zero_le _, rfl, Lib.hid (Below.refl _ _)⟩
  case round =>
    obtain ⟨k, hk, rfl, HW⟩ := hrel
    by_cases hlt : k < xs.length
    · obtain ⟨y, hy⟩ : ∃ y, xs[k]? = some y := ⟨_, List.getElem?_eq_getElem hlt⟩
      obtain ⟨rk, hrk⟩ : ∃ rk, (ranksL xs on ch)[k]? = some rk := ⟨_, ranksL_at hy⟩
      obtain ⟨x0, x1, x2, x3⟩ := rks_cells (HR5.out.keep keepsRk HW.out.size (Same.of_below HW.out)) hrk
      obtain ⟨b, o, rfl, hb, y0, y1, y2, y3⟩ := rks_at (HD.out.keep keepsRk HW.out.size (Same.of_below HW.out)) hrk
      clear hy hrk
      have c0 := cell_regrown x0
      have c1 := cell_regrown x1
      have c2 := cell_regrown x2
      have c3 := cell_regrown x3
      have d0 := cell_regrown y0
      have d1 := cell_regrown y1
      have d2 := cell_regrown y2
      have d3 := cell_regrown y3
      have i1 : (0 : Int) ≤ (k : Int) := by omega
      have i2 : (k : Int) < (xs.length : Int) := by omega
      clear x0 x1 x2 x3 y0 y1 y2 y3
      go_wp2_with fail
      refine wp_region_quiet_below (by kernel_rfl) (by kernel_rfl) ?_
      repeat (first | go_big_quiet_step (fail) | quiet_step (fail))
      refine wpQuiet_nil ?_
      intro _ hwq
      obtain ⟨⟨q, os⟩, hwq⟩ := hwq
      subst hwq
      have HB7 := Lib.hid (HW.out.trans ((below_regrown wr q os).mono HW.out.size))
      clear c0 c1 c2 c3 d0 d1 d2 d3
      generalize grow (redrawn wr q) os = W7 at *
      go_wp2_with fail
      go_roundw
      case rel => exact ⟨k + 1, by omega, by go_num, HB7⟩
      case measure => simp [intOf]; omega
    · obtain rfl : k = xs.length := by omega
      go_wp2_with fail
      go_ret
      exact ⟨rfl, HB5.out.trans (HW.out.mono HB5.out.size)⟩
end Go.Proofs.YtkmoaeckabjgnaaDoor.V
