/-
  The walks of ranks.Of's errors and of the document's Of.
-/
import Derived.Test.YtkmoaeckabjgnaaDoorKDocR
import Derived.Test.YtkmoaeckabjgnaaDoorKSum
import Derived.Test.YtkmoaeckabjgnaaDoorComp1
namespace Go.Proofs.YtkmoaeckabjgnaaDoor.V
set_option linter.unusedVariables false
set_option linter.unusedSimpArgs false
open Go Go.RowKit Go.Sort

set_option maxHeartbeats 4000000 in
theorem ranksOf_size (vr vo vc : Value) (xs : List Rcd) (on : List Bool) (ch : List ByteArray) (u : TypeId) (ev : Value) (ok : Nat → Prop) (w : World) (hx : IsRcds w ok vr xs) (ho : IsBools w ok vo on) (hc : IsStrs w ok vc ch) (hl : 60 < xs.length) (he : w.cell? ⟨0, 0, none⟩ = some (.iface u ev)) :
    Calls Tryd.prog 14 #[vr, vo, vc] w fun e w' => e = .returned (.tuple #[.slice none 0 0, .iface u ev]) ∧ Below w.heap.size w w' := by
  obtain ⟨XA, xc, rfl, hxl, hxc⟩ := hx.form
  obtain ⟨OA, oc, rfl, hol, hoc⟩ := ho.form
  obtain ⟨CA, cc, rfl, hcl, hcc⟩ := hc.form
  clear hx ho hc
  have d60 : decide ((60 : Int) < (xs.length : Int)) = true := decide_eq_true (by omega)
  go_enter Tryd.func14, Tryd.ntmps14
  go_wp2_with fail
  go_region
  go_wp2_with fail
  go_ret2
  exact ⟨rfl, (Below.refl _ _).drew⟩
set_option maxHeartbeats 4000000 in
theorem ranksOf_range (vr vo vc : Value) (xs : List Rcd) (on : List Bool) (ch : List ByteArray) (u : TypeId) (ev : Value) (ok : Nat → Prop) (w : World) (hx : IsRcds w ok vr xs) (ho : IsBools w ok vo on) (hc : IsStrs w ok vc ch) (hl : ¬ 60 < xs.length) (hn : ¬ on.length = xs.length) (he : w.cell? ⟨1, 0, none⟩ = some (.iface u ev)) :
    Calls Tryd.prog 14 #[vr, vo, vc] w fun e w' => e = .returned (.tuple #[.slice none 0 0, .iface u ev]) ∧ Below w.heap.size w w' := by
  obtain ⟨XA, xc, rfl, hxl, hxc⟩ := hx.form
  obtain ⟨OA, oc, rfl, hol, hoc⟩ := ho.form
  obtain ⟨CA, cc, rfl, hcl, hcc⟩ := hc.form
  clear hx ho hc
  have d60 : decide ((60 : Int) < (xs.length : Int)) = false := decide_eq_false (by omega)
  have hl1 : ((on.length : Int) == (xs.length : Int)) = false := beq_eq_false_iff_ne.2 (by omega)
  have hl2 : ((on.length : Int) != (xs.length : Int)) = true := by rw [bne, hl1]; rfl
  go_enter Tryd.func14, Tryd.ntmps14
  go_wp2_with fail
  go_region
  go_wp2_with fail
  go_ret2
  exact ⟨rfl, (Below.refl _ _).drew⟩

set_option maxHeartbeats 8000000 in
set_option maxRecDepth 100000 in
theorem dOf_any (vr vo vc : Value) (xs : List Rcd) (on : List Bool) (ch : List ByteArray) (B : Nat) (w : World)
    (hx : IsRcds w (Lt B) vr xs) (ho : IsBools w (Lt B) vo on) (hc : IsStrs w (Lt B) vc ch) (hB : B ≤ w.heap.size) (hl : on.length = xs.length) (hcap : xs.length ≤ 100) :
    Calls Tryd.prog 20 #[vr, vo, vc] w fun e w' => (∃ A c, e = .returned (.slice A xs.length c) ∧ IsSl 4 RRk w' (Lt w'.heap.size) (.slice A xs.length c) (ranksL xs on ch)) ∧ Below w.heap.size w w' := by
  obtain ⟨i0, hi0, hz0, hz1, hz2⟩ := info_parts rkInfo
  obtain ⟨XA, xc, rfl, hxl, hxc⟩ := hx.form
  obtain ⟨OA, oc, rfl, hol, hoc⟩ := ho.form
  obtain ⟨CA, cc, rfl, hcl, hcc⟩ := hc.form
  rw [hl] at ho ⊢
  have HX := Lib.hid hx
  have HO := Lib.hid ho
  have HC := Lib.hid hc
  have HL := Lib.hid hl
  clear hx ho hc hl hol
  go_enter Tryd.func20, Tryd.ntmps20
  go_wp2_with fail
  have HOW0 : Hid (OwnSl 4 40 RRk (w.alloc (.cells #[] 40)) w.heap.size (.slice (some ⟨w.heap.size, 0, none⟩) 0 0) [] ([] : List Rk)) := Lib.hid
    ⟨⟨rfl, .inr ⟨w.heap.size, 0, #[], rfl, Nat.le_refl _, heap_alloc_new _ _, Nat.le_refl _, by decide, rfl, rfl⟩⟩, fun i x h => by simp at h⟩
  go_loopw [7, 13] (fun v i wr => ∃ (k n : Nat) (A : Option Addr) (c : Nat) (cs : List Value), k ≤ xs.length ∧ n ≤ k ∧ i = .int .i64 k ∧ v = .slice A n c ∧ Hid (n = k) ∧ Hid (OwnSl 4 40 RRk wr w.heap.size (.slice A n c) cs ((ranksL xs on ch).take k)) ∧ Hid (Below w.heap.size w wr)) (fun _ i _ => xs.length - (intOf i).toNat)
  case atStart => exact ⟨0, 0, _, 0, _, Nat.zero_le _, Nat.le_refl _, rfl, rfl, Lib.hid rfl, HOW0, Lib.hid (news_alloc _ _)⟩
  case round =>
    obtain ⟨k, n, SA, sc, cs, hk, hnk, rfl, rfl, HNK, HOW, HW⟩ := hrel
    have HSM := Lib.hid ((Same.of_below HW.out).mono hB)
    by_cases hlt : k < xs.length
    · obtain ⟨y, hy⟩ : ∃ y, xs[k]? = some y := ⟨_, List.getElem?_eq_getElem hlt⟩
      obtain ⟨b, o, aA1, an1, ac1, aA2, an2, ac2, aA3, an3, ac3, aA4, an4, ac4, aA5, an5, ac5, rfl, hb, hrec, hrow⟩ := rcds_at HX.out hy
      have hbr : b < wr.heap.size := by have h : b < B := hb; have := HW.out.size; omega
      have q0 : wr.cell? ⟨b, o + k * 13, none⟩ = some (.string y.chan) := (HSM.out _ hb).trans (hrow 0 _ rfl)
      have q1 : wr.cell? ⟨b, o + k * 13 + 1, none⟩ = some (.string y.file) := (HSM.out _ hb).trans (hrow 1 _ rfl)
      have q2 : wr.cell? ⟨b, o + k * 13 + 2, none⟩ = some (.string y.name) := (HSM.out _ hb).trans (hrow 2 _ rfl)
      have q3 : wr.cell? ⟨b, o + k * 13 + 3, none⟩ = some (.string y.text) := (HSM.out _ hb).trans (hrow 3 _ rfl)
      have q4 : wr.cell? ⟨b, o + k * 13 + 4, none⟩ = some (.int .i64 y.ver.epoch) := (HSM.out _ hb).trans (hrow 4 _ rfl)
      have q5 : wr.cell? ⟨b, o + k * 13 + 5, none⟩ = some (.slice aA1 an1 ac1) := (HSM.out _ hb).trans (hrow 5 _ rfl)
      have q6 : wr.cell? ⟨b, o + k * 13 + 6, none⟩ = some (.slice aA2 an2 ac2) := (HSM.out _ hb).trans (hrow 6 _ rfl)
      have q7 : wr.cell? ⟨b, o + k * 13 + 7, none⟩ = some (.string y.build) := (HSM.out _ hb).trans (hrow 7 _ rfl)
      have q8 : wr.cell? ⟨b, o + k * 13 + 8, none⟩ = some (.int .i64 y.num) := (HSM.out _ hb).trans (hrow 8 _ rfl)
      have q9 : wr.cell? ⟨b, o + k * 13 + 9, none⟩ = some (.int .i64 y.time) := (HSM.out _ hb).trans (hrow 9 _ rfl)
      have q10 : wr.cell? ⟨b, o + k * 13 + 10, none⟩ = some (.slice aA3 an3 ac3) := (HSM.out _ hb).trans (hrow 10 _ rfl)
      have q11 : wr.cell? ⟨b, o + k * 13 + 11, none⟩ = some (.slice aA4 an4 ac4) := (HSM.out _ hb).trans (hrow 11 _ rfl)
      have q12 : wr.cell? ⟨b, o + k * 13 + 12, none⟩ = some (.slice aA5 an5 ac5) := (HSM.out _ hb).trans (hrow 12 _ rfl)
      have HBX := Lib.hid (news_alloc wr (.cells #[.string y.chan, .string y.file, .string y.name, .string y.text, .int .i64 y.ver.epoch, .slice aA1 an1 ac1, .slice aA2 an2 ac2, .string y.build, .int .i64 y.num, .int .i64 y.time, .slice aA3 an3 ac3, .slice aA4 an4 ac4, .slice aA5 an5 ac5] 37))
      have HWX := Lib.hid (HW.out.trans (HBX.out.mono HW.out.size))
      have HSX := Lib.hid ((Same.of_below HWX.out).mono hB)
      have HREC : Hid (IsRcd w (Lt B) (.agg #[.string y.chan, .string y.file, .string y.name, .string y.text, .int .i64 y.ver.epoch, .slice aA1 an1 ac1, .slice aA2 an2 ac2, .string y.build, .int .i64 y.num, .int .i64 y.time, .slice aA3 an3 ac3, .slice aA4 an4 ac4, .slice aA5 an5 ac5]) y) := Lib.hid ⟨_, _, _, _, _, rfl, hrec⟩
      have HRK := Lib.hid (show (ranksL xs on ch).take (k + 1) = (ranksL xs on ch).take k ++ [rkOf xs on ch y] by
        have h : (ranksL xs on ch)[k]? = some (rkOf xs on ch y) := by simp [ranksL, hy]
        obtain ⟨h1, h2⟩ := List.getElem?_eq_some_iff.1 h
        rw [List.take_succ_eq_append_getElem h1, h2])
      have HLN : Hid (((ranksL xs on ch).take k).length = k) := Lib.hid (by rw [List.length_take]; simp [ranksL]; omega)
      clear hy hrec hrow
      go_wp2_with fail
      clear q0 q1 q2 q3 q4 q5 q6 q7 q8 q9 q10 q11 q12
      refine (dRank_any _ _ _ _ xs on ch y B _ (HX.out.keep keepsRcd (Nat.le_refl _) HSX.out) (HO.out.keep keepsBool (Nat.le_refl _) HSX.out) (HC.out.keep keepsStr (Nat.le_refl _) HSX.out) (HREC.out.keep (Nat.le_refl _) HSX.out) (by have := HWX.out.size; omega) HL.out (by omega)).mono ?_
      rintro e w5 ⟨rfl, hb5⟩
      have HB5 := Lib.hid (HBX.out.trans (hb5.mono HBX.out.size))
      have HW5 := Lib.hid (HW.out.trans (HB5.out.mono HW.out.size))
      have HO5 := Lib.hid (HOW.out.grow keepsRk HB5.out)
      have HOWn : Hid (w5.ownsRow w.heap.size 40 4 (.slice SA n sc) n cs) := Lib.hid (by have h := HO5.out.1; rw [HLN.out, ← HNK.out] at h; exact h)
      clear hb5
      go_wp2_with (at_builtin; refine wpList_append_lies _ rfl _ _ 26 rfl w.heap.size 40 i0 (.agg #[.int .i64 0, .int .i64 0, .int .i64 0, .int .i64 0]) 4 32 Tryd.underlying26 hi0 hz0 hz1 hz2 rfl (by decide) (.slice SA n sc) n cs rfl (HOWn.out.alloc _) ⟨w5.heap.size, 0, none⟩ 1 1 [.int .i64 (rankV xs on y), .int .i64 (rankN xs on y), .int .i64 (placeL ch y.chan), .int .i64 (rankT xs on y)] rfl rfl ?c1 ?c2 (by omega) ?c3 ?c4 ?c5 (w5.heap.size + 1) ?c6 ?_)
      case c1 => exact cell_news _ [.int .i64 (rankV xs on y), .int .i64 (rankN xs on y), .int .i64 (placeL ch y.chan), .int .i64 (rankT xs on y)] _ _ rfl
      case c2 => simp [Value.oneCell']
      case c3 => simp [maxLen]; omega
      case c4 => omega
      case c5 => have := HW5.out.size; simp; omega
      case c6 => simp
      intro g1 cap1 w6 hown6 hgrow6 hat6 hlt6
      have hbb : Below w5.heap.size w5 (w5.alloc (.cells #[.int .i64 (rankV xs on y), .int .i64 (rankN xs on y), .int .i64 (placeL ch y.chan), .int .i64 (rankT xs on y)] 40)) := news_alloc _ _
      have HOW6 := Lib.hid (OwnSl.snoc keepsRk (HO5.out.grow keepsRk hbb) (vs := [.int .i64 (rankV xs on y), .int .i64 (rankN xs on y), .int .i64 (placeL ch y.chan), .int .i64 (rankT xs on y)]) (x := rkOf xs on ch y) rfl rfl (by rw [HLN.out, ← HNK.out]; exact hown6) hgrow6 (hat_of hat6 (by simp)))
      have HBW6 := Lib.hid ((HW5.out.trans (hbb.mono HW5.out.size)).grown hgrow6 (by have := HW5.out.size; simp; omega) (fun i hi => (HOWn.out.lt i hi).1))
      clear hown6 hgrow6 hat6 hlt6 hbb
      go_wp2_with fail
      go_roundw
      case rel => exact ⟨k + 1, n + 1, _, _, _, by omega, by omega, by go_num, rfl, Lib.hid (by rw [HNK.out]), Lib.hid (by rw [HRK.out]; exact HOW6.out), HBW6⟩
      case measure => simp [intOf]; omega
    · obtain rfl : k = xs.length := by omega
      have HFI : Hid (IsSl 4 RRk wr (Lt wr.heap.size) (.slice SA n sc) (ranksL xs on ch)) := Lib.hid (by
        have h := HOW.out.slLt keepsRk
        rw [List.take_of_length_le (by simp [ranksL])] at h
        exact h)
      go_wp2_with fail
      go_ret
      have hn := HNK.out
      subst hn
      exact ⟨⟨_, _, rfl, HFI.out⟩, HW.out⟩
end Go.Proofs.YtkmoaeckabjgnaaDoor.V
