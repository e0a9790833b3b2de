/-
  The walk of ranks.Of.
-/
import Derived.Test.YtkmoaeckabjgnaaDoorKMap
namespace Go.Proofs.YtkmoaeckabjgnaaDoor.V
set_option linter.unusedVariables false
set_option linter.unusedSimpArgs false
open Go Go.RowKit Go.Sort Go.Maps Go.WideMaps

theorem rkInfo : (Tryd.prog.info? 40).map (fun i => (i.zero, i.size, i.bytes)) = some (some (.agg #[.int .i64 0, .int .i64 0, .int .i64 0, .int .i64 0]), 4, 32) := by kernel_rfl

theorem below_set {B : Nat} {w w' : World} (h : Below B w w') (p : Addr) (hp : B ≤ p.block) (u : Value) : Below B w (w'.setCell p u) := h.setCell hp u

set_option maxHeartbeats 16000000 in
set_option maxRecDepth 100000 in
theorem ranksOf_any (vr vo vc : Value) (xs : List Rcd) (on : List Bool) (ch : List ByteArray) (B : Nat) (w : World)
    (hx : IsRcds w (Lt B) vr xs) (ho : IsBools w (Lt B) vo on) (hc : IsStrs w (Lt B) vc ch) (hB : B ≤ w.heap.size) (hl : on.length = xs.length) (hcap : xs.length ≤ 60) (hch : ch.length ≤ 1000000) :
    Calls Tryd.prog 14 #[vr, vo, vc] w fun e w' => (∃ g, e = .returned (.tuple #[.slice (some ⟨g, 0, none⟩) xs.length xs.length, .nilIface]) ∧ IsSl 4 RRk w' (From w.heap.size w') (.slice (some ⟨g, 0, none⟩) xs.length xs.length) (ranksL xs on ch)) ∧ Below w.heap.size w w' := by
  have hmm := @run_makeMap Tryd.prog
  obtain ⟨i0, hi0, hz0, hz1, hz2⟩ := info_parts rkInfo
  obtain ⟨XA, xc, rfl, hxl, hxc⟩ := hx.form
  obtain ⟨OA, oc, rfl, hol, hoc⟩ := ho.form
  obtain ⟨CA, cc, rfl, hcl, hcc⟩ := hc.form
  rw [hl] at ho ⊢
  have HX := Lib.hid hx
  have HO := Lib.hid ho
  have HC := Lib.hid hc
  have HL := Lib.hid hl
  have HI := Lib.hid (And.intro hi0 (And.intro hz0 (And.intro hz1 hz2)))
  clear hx ho hc hl hol hi0 hz0 hz1 hz2
  go_enter Tryd.func14, Tryd.ntmps14
  go_wp2_with fail
  go_loopw [29] (fun i wr => ∃ (k : Nat) (D : DataW Unit), k ≤ ch.length ∧ i = .int .i64 k ∧ Hid (wr.ownsMap Tryd.prog 9 (plainElem Tryd.prog 3) w.heap.size k D) ∧ Hid (PlInv ch k D) ∧ Hid (Below w.heap.size w wr)) (fun i _ => ch.length - (intOf i).toNat)
  case atStart => exact ⟨0, .map [], Nat.zero_le _, rfl, Lib.hid (World.ownsMap_made _ _ _ _), Lib.hid (PlInv.start ch), Lib.hid ((Below.refl _ _).alloc (Nat.le_refl _) _)⟩
  case round =>
    obtain ⟨k, D, hk, rfl, HOM, HPL, HW⟩ := hrel
    have HSM := Lib.hid ((Same.of_below HW.out).mono hB)
    by_cases hlt : k < ch.length
    · obtain ⟨s, hs⟩ : ∃ s, ch[k]? = some s := ⟨_, List.getElem?_eq_getElem hlt⟩
      obtain ⟨b, o, rfl, hb, hsz, hcell⟩ := strs_at HC.out hs
      have hbr : b < wr.heap.size := by have := HW.out.size; omega
      have q0 : wr.cell? ⟨b, o + k, none⟩ = some (.string s) := (HSM.out _ hb).trans hcell
      have HKEY := Lib.hid (key_ok hsz)
      have HGD : Hid (ch.getD k ByteArray.empty = s) := Lib.hid (by simp [List.getD, hs])
      clear hs hcell
      cases hhas : hasTo ch k s with
      | true =>
        have HH : Hid (Maps.has D (klS s) = true) := Lib.hid (by rw [HPL.out.has_, hhas])
        have HN : Hid (PlInv ch (k + 1) D) := Lib.hid (HPL.out.skip (by rw [HGD.out]; exact hhas))
        go_wp2_with (at_lookup; refine wpList_lookup_own_ok_int _ rfl _ _ 80 rfl 9 3 .i64 law Tryd.underlying80 Tryd.underlying3 (zeroInt _) w.heap.size k D rfl HOM.out _ _ rfl HKEY.out ?_; intro cL hat hwc; rw [HH.out]; clear hat hwc)
        go_roundw
        case rel => exact ⟨k + 1, D, by omega, by go_num, Lib.hid (HOM.out.mono (Nat.le_succ _)), HN, HW⟩
        case measure => simp [intOf]; omega
      | false =>
        have HH : Hid (Maps.has D (klS s) = false) := Lib.hid (by rw [HPL.out.has_, hhas])
        have HN : Hid (PlInv ch (k + 1) (D.put (klS s) (.lit (.int .i64 k)))) := Lib.hid (by
          have h := HPL.out.put HOM.out.isMap (by rw [HGD.out]; exact hhas)
          rw [HGD.out] at h
          exact h)
        go_wp2_with (first
          | (at_lookup; refine wpList_lookup_own_ok_int _ rfl _ _ 80 rfl 9 3 .i64 law Tryd.underlying80 Tryd.underlying3 (zeroInt _) w.heap.size k D rfl HOM.out _ _ rfl HKEY.out ?_; intro cL hat hwc; rw [HH.out]; clear hat hwc)
          | (at_mapUpdate; refine wpList_mapUpdate_own _ rfl _ _ _ 80 rfl 9 3 law Tryd.underlying80 _ w.heap.size k _ rfl HOM.out (by unfold maxLen; omega) _ _ _ rfl rfl HKEY.out _ [] (plainElem_int Tryd.underlying3 (WalkArith.wf_i64 (by omega))) ?_; intro w1 hown1 hgrow1; have HOM1 := Lib.hid hown1; have HG1 := Lib.hid hgrow1; clear hown1 hgrow1))
        go_roundw
        case rel => exact ⟨k + 1, _, by omega, by go_num, HOM1, HN, Lib.hid (HW.out.grown HG1.out HW.out.size (fun j hj => by cases hj; exact Nat.le_refl _))⟩
        case measure => simp [intOf]; omega
    · obtain rfl : k = ch.length := by omega
      obtain ⟨hi0, hz0, hz1, hz2⟩ := HI.out
      obtain ⟨wo, hwo⟩ : ∃ wo : World, wo = wr := ⟨_, rfl⟩
      subst hwo
      have hws := HW.out.size
      go_wp2_with (at_make; refine wpList_make_full _ rfl _ _ 26 rfl w.heap.size 40 i0 (.agg #[.int .i64 0, .int .i64 0, .int .i64 0, .int .i64 0]) 4 Tryd.underlying26 hi0 hz0 hz1 .i64 .i64 _ _ xs.length rfl rfl rfl rfl (by rw [hz2]; omega) (by unfold maxLen; omega) hws ?_; intro w0 hown0 hgrow0; have HOW0 := Lib.hid hown0; have HG0 := Lib.hid hgrow0; clear hown0 hgrow0)
      clear hi0 hz0 hz1 hz2
      obtain ⟨gl, hgl⟩ : ∃ gl, gl = wo.heap.size := ⟨_, rfl⟩
      rw [← hgl]
      have HBLK : Hid (∃ cur, Blk w0 gl 40 cur ∧ cur.size = (ranksL xs on ch).length * 4) := Lib.hid (by
        rcases HOW0.out.2 with ⟨h, _⟩ | ⟨g, cap, cur, hv, hg, hh, hnc, hcm, hcs, htake⟩
        · cases h
        · injection hv with h1 h2 h3
          injection h1 with h1
          injection h1 with h1
          subst h1
          subst h3
          exact ⟨cur, by rw [hgl]; exact hh, by rw [hcs]; simp [ranksL]⟩)
      obtain ⟨cur, hB0, hcur⟩ := HBLK.out
      have HRK0 : Hid (RkTo (ranksL xs on ch) 0 cur) := Lib.hid ⟨hcur, fun i r h => by omega⟩
      have HB0 := Lib.hid hB0
      have HBW0 : Hid (Below w.heap.size w w0) := Lib.hid (HW.out.grown HG0.out hws (fun j hj => by cases hj))
      have HOM0 : Hid (w0.ownsMap Tryd.prog 9 (plainElem Tryd.prog 3) w.heap.size ch.length D) := Lib.hid (ownsMap_block HOM.out (HG0.out.block _ HOM.out.lt (by simp)))
      have HGL : Hid (w.heap.size < gl ∧ gl < w0.heap.size) := Lib.hid ⟨by have := HOM.out.lt; omega, HB0.out.lt⟩
      clear hB0 hcur HBLK hgl HOM HOW0 HG0 HW hws
      have HS0 := Lib.hid ((Same.of_below HBW0.out).mono hB)
      have HX0 := Lib.hid (HX.out.keep keepsRcd hB HS0.out)
      have HO0 := Lib.hid (HO.out.keep keepsBool hB HS0.out)
      go_wp2_with fail
      go_loopw [51] (fun i wr => ∃ (k : Nat) (cs : Array Value), k ≤ xs.length ∧ i = .int .i64 k ∧ Hid (RkTo (ranksL xs on ch) k cs) ∧ Hid (Blk wr gl 40 cs) ∧ Hid (Below gl w0 wr) ∧ Hid (gl < wr.heap.size)) (fun i _ => xs.length - (intOf i).toNat)
      case atStart => exact ⟨0, cur, Nat.zero_le _, rfl, HRK0, HB0, Lib.hid (Below.refl _ _), Lib.hid HGL.out.2⟩
      case round =>
        obtain ⟨k, cs, hk, rfl, HRK, HBK, HW2, HGW⟩ := hrel
        obtain ⟨wb, hwb⟩ : ∃ wb : World, wb = wr := ⟨_, rfl⟩
        subst hwb
        have HSMr : Hid (Same w.heap.size w0 wb) := Lib.hid ((Same.of_below HW2.out).mono (by have := HGL.out; omega))
        by_cases hlt : k < xs.length
        · obtain ⟨x, hx⟩ : ∃ x, xs[k]? = some x := ⟨_, List.getElem?_eq_getElem hlt⟩
          obtain ⟨b, o, aA1, an1, ac1, aA2, an2, ac2, aA3, an3, ac3, aA4, an4, ac4, aA5, an5, ac5, rfl, hb, hrec, hrow⟩ := rcds_at HX0.out hx
          have hbr : b < wb.heap.size := by have := HGL.out; have := HGW.out; have h : b < w.heap.size := hb; omega
          have q0 : wb.cell? ⟨b, o + k * 13, none⟩ = some (.string x.chan) := (HSMr.out _ hb).trans (hrow 0 _ rfl)
          have q1 : wb.cell? ⟨b, o + k * 13 + 1, none⟩ = some (.string x.file) := (HSMr.out _ hb).trans (hrow 1 _ rfl)
          have q2 : wb.cell? ⟨b, o + k * 13 + 2, none⟩ = some (.string x.name) := (HSMr.out _ hb).trans (hrow 2 _ rfl)
          have q3 : wb.cell? ⟨b, o + k * 13 + 3, none⟩ = some (.string x.text) := (HSMr.out _ hb).trans (hrow 3 _ rfl)
          have q4 : wb.cell? ⟨b, o + k * 13 + 4, none⟩ = some (.int .i64 x.ver.epoch) := (HSMr.out _ hb).trans (hrow 4 _ rfl)
          have q5 : wb.cell? ⟨b, o + k * 13 + 5, none⟩ = some (.slice aA1 an1 ac1) := (HSMr.out _ hb).trans (hrow 5 _ rfl)
          have q6 : wb.cell? ⟨b, o + k * 13 + 6, none⟩ = some (.slice aA2 an2 ac2) := (HSMr.out _ hb).trans (hrow 6 _ rfl)
          have q7 : wb.cell? ⟨b, o + k * 13 + 7, none⟩ = some (.string x.build) := (HSMr.out _ hb).trans (hrow 7 _ rfl)
          have q8 : wb.cell? ⟨b, o + k * 13 + 8, none⟩ = some (.int .i64 x.num) := (HSMr.out _ hb).trans (hrow 8 _ rfl)
          have q9 : wb.cell? ⟨b, o + k * 13 + 9, none⟩ = some (.int .i64 x.time) := (HSMr.out _ hb).trans (hrow 9 _ rfl)
          have q10 : wb.cell? ⟨b, o + k * 13 + 10, none⟩ = some (.slice aA3 an3 ac3) := (HSMr.out _ hb).trans (hrow 10 _ rfl)
          have q11 : wb.cell? ⟨b, o + k * 13 + 11, none⟩ = some (.slice aA4 an4 ac4) := (HSMr.out _ hb).trans (hrow 11 _ rfl)
          have q12 : wb.cell? ⟨b, o + k * 13 + 12, none⟩ = some (.slice aA5 an5 ac5) := (HSMr.out _ hb).trans (hrow 12 _ rfl)
          have HBX := Lib.hid (news_alloc wb (.cells #[.string x.chan, .string x.file, .string x.name, .string x.text, .int .i64 x.ver.epoch, .slice aA1 an1 ac1, .slice aA2 an2 ac2, .string x.build, .int .i64 x.num, .int .i64 x.time, .slice aA3 an3 ac3, .slice aA4 an4 ac4, .slice aA5 an5 ac5] 37))
          have HREC : Hid (IsRcd w0 (Lt w.heap.size) (.agg #[.string x.chan, .string x.file, .string x.name, .string x.text, .int .i64 x.ver.epoch, .slice aA1 an1 ac1, .slice aA2 an2 ac2, .string x.build, .int .i64 x.num, .int .i64 x.time, .slice aA3 an3 ac3, .slice aA4 an4 ac4, .slice aA5 an5 ac5]) x) := Lib.hid ⟨_, _, _, _, _, rfl, hrec⟩
          have HRS : Hid ((ranksL xs on ch)[k]? = some (rkOf xs on ch x)) := Lib.hid (by simp [ranksL, hx])
          have HKEY := Lib.hid (key_ok (s := x.chan) hrec.1.1)
          clear hx hrec hrow
          go_wp2_with fail
          refine (rank_any _ _ _ xs on x w.heap.size _ (HX0.out.keep keepsRcd (Nat.le_refl _) (HSMr.out.trans ((Same.of_below HBX.out).mono (by have := HGW.out; have := HGL.out; omega)))) (HO0.out.keep keepsBool (Nat.le_refl _) (HSMr.out.trans ((Same.of_below HBX.out).mono (by have := HGW.out; have := HGL.out; omega)))) (HREC.out.keep (Nat.le_refl _) (HSMr.out.trans ((Same.of_below HBX.out).mono (by have := HGW.out; have := HGL.out; omega)))) (by have := HBX.out.size; have := HGW.out; have := HGL.out; omega) HL.out (by omega)).mono ?_
          rintro e w2 ⟨rfl, hb2⟩
          have HB2 := Lib.hid (HBX.out.trans (hb2.mono HBX.out.size))
          have HBX2 := Lib.hid ((Blk.new wb 37 #[.string x.chan, .string x.file, .string x.name, .string x.text, .int .i64 x.ver.epoch, .slice aA1 an1 ac1, .slice aA2 an2 ac2, .string x.build, .int .i64 x.num, .int .i64 x.time, .slice aA3 an3 ac3, .slice aA4 an4 ac4, .slice aA5 an5 ac5]).belowSelf hb2)
          clear hb2 q0 q1 q2 q3 q4 q5 q6 q7 q8 q9 q10 q11 q12
          have HBK2 := Lib.hid (HBK.out.belowSelf HB2.out)
          have HOM2 : Hid (w2.ownsMap Tryd.prog 9 (plainElem Tryd.prog 3) w.heap.size ch.length D) := Lib.hid (ownsMap_block (ownsMap_block HOM0.out (HW2.out.block _ HGL.out.1)) (HB2.out.block _ (by have := HGL.out; have := HGW.out; omega)))
          have HBW2 : Hid (Below gl w0 w2) := Lib.hid (HW2.out.trans (HB2.out.mono (Nat.le_of_lt HGW.out)))
          have hsz2 : w2.heap.size ≥ wb.heap.size := HB2.out.size
          have HSZ := Lib.hid (And.intro hsz2 HGW.out)
          have hne : ¬ wb.heap.size = gl := by have := HGW.out; omega
          have hne2 : ¬ gl = wb.heap.size := by have := HGW.out; omega
          have hcsz : k * 4 + 3 < cs.size := by have h := HRK.out.size; simp [ranksL] at h; omega
          obtain ⟨u0, v0⟩ : ∃ u, cs[k * 4]? = some u := ⟨_, Array.getElem?_eq_getElem (by omega)⟩
          obtain ⟨u1, v1⟩ : ∃ u, cs[k * 4 + 1]? = some u := ⟨_, Array.getElem?_eq_getElem (by omega)⟩
          obtain ⟨u2, v2⟩ : ∃ u, cs[k * 4 + 2]? = some u := ⟨_, Array.getElem?_eq_getElem (by omega)⟩
          obtain ⟨u3, v3⟩ : ∃ u, cs[k * 4 + 3]? = some u := ⟨_, Array.getElem?_eq_getElem (by omega)⟩
          have t0 := (HBK2.out.cell (k * 4)).trans v0
          have t1 := (HBK2.out.cell (k * 4 + 1)).trans v1
          have t2 := (HBK2.out.cell (k * 4 + 2)).trans v2
          have t3 := (HBK2.out.cell (k * 4 + 3)).trans v3
          have f0 := HBK2.out.frozen (k * 4)
          have f1 := HBK2.out.frozen (k * 4 + 1)
          have f2 := HBK2.out.frozen (k * 4 + 2)
          have f3 := HBK2.out.frozen (k * 4 + 3)
          have c0 : w2.cell? ⟨wb.heap.size, 0, none⟩ = some (.string x.chan) := HBX2.out.cell 0
          clear hsz2 hcsz v0 v1 v2 v3
          go_wp2_with (at_lookup; refine wpList_lookup_own_int _ rfl _ _ 80 rfl 9 3 .i64 law Tryd.underlying80 Tryd.underlying3 (zeroInt _) w.heap.size ch.length D rfl ?own _ _ rfl HKEY.out ?_)
          case own => exact (((HOM2.out.setCell (by have := HGL.out; show w.heap.size ≠ gl; omega) _).setCell (by have := HGL.out; show w.heap.size ≠ gl; omega) _).setCell (by have := HGL.out; show w.heap.size ≠ gl; omega) _).setCell (by have := HGL.out; show w.heap.size ≠ gl; omega) _
          intro c hat hwc
          rw [HPL.out.at_] at hat
          injection hat with hat
          injection hat with _ hat
          subst hat
          clear hwc t0 t1 t2 t3 f0 f1 f2 f3 c0
          have HBK4 := Lib.hid ((((HBK2.out.set_ (k * 4) (.int .i64 (rankV xs on x))).set_ (k * 4 + 1) (.int .i64 (rankN xs on x))).set_ (k * 4 + 2) (.int .i64 0)).set_ (k * 4 + 3) (.int .i64 (rankT xs on x)))
          have HBW4 := Lib.hid (below_set (below_set (below_set (below_set HBW2.out ⟨gl, k * 4, none⟩ (Nat.le_refl gl) (.int .i64 (rankV xs on x))) ⟨gl, k * 4 + 1, none⟩ (Nat.le_refl gl) (.int .i64 (rankN xs on x))) ⟨gl, k * 4 + 2, none⟩ (Nat.le_refl gl) (.int .i64 0)) ⟨gl, k * 4 + 3, none⟩ (Nat.le_refl gl) (.int .i64 (rankT xs on x)))
          generalize (((w2.setCell { block := gl, off := k * 4 } (.int .i64 (rankV xs on x))).setCell { block := gl, off := k * 4 + 1 } (.int .i64 (rankN xs on x))).setCell { block := gl, off := k * 4 + 2 } (.int .i64 0)).setCell { block := gl, off := k * 4 + 3 } (.int .i64 (rankT xs on x)) = W4 at *
          have HSTEP := Lib.hid (HRK.out.step (u := .int .i64 0) HRS.out)
          obtain ⟨u5, h5⟩ : ∃ u, (((((cs.setIfInBounds (k * 4) (.int .i64 (rankV xs on x))).setIfInBounds (k * 4 + 1) (.int .i64 (rankN xs on x))).setIfInBounds (k * 4 + 2) (.int .i64 0)).setIfInBounds (k * 4 + 3) (.int .i64 (rankT xs on x))))[k * 4 + 2]? = some u := ⟨_, Array.getElem?_eq_getElem (by have h := HRK.out.size; simp [ranksL] at h ⊢; omega)⟩
          have t2 := (HBK4.out.cell (k * 4 + 2)).trans h5
          have f2 := HBK4.out.frozen (k * 4 + 2)
          clear h5
          go_wp2_with fail
          go_roundw
          case rel => exact ⟨k + 1, _, by omega, by go_num, HSTEP, Lib.hid (HBK4.out.set_ (k * 4 + 2) _), Lib.hid (below_set HBW4.out ⟨gl, k * 4 + 2, none⟩ (Nat.le_refl gl) _), Lib.hid (by have h := HBK4.out.lt; simpa using h)⟩
          case measure => simp [intOf]; omega
        · obtain rfl : k = xs.length := by omega
          go_wp2_with fail
          go_ret2
          have HFI : IsSl 4 RRk wb (From w.heap.size wb) (.slice (some ⟨gl, 0, none⟩) xs.length xs.length) (ranksL xs on ch) := by
            have hlen : (ranksL xs on ch).length = xs.length := by simp [ranksL]
            have h := RkTo.sl (rs := ranksL xs on ch) (ok := From w.heap.size wb) (by rw [hlen]; exact HRK.out) HBK.out ⟨by have := HGL.out; omega, HGW.out⟩ (by rw [hlen]; omega)
            rw [hlen] at h
            exact h
          exact ⟨⟨gl, rfl, HFI⟩, HBW0.out.trans (HW2.out.mono (by have := HGL.out; omega))⟩
end Go.Proofs.YtkmoaeckabjgnaaDoor.V
