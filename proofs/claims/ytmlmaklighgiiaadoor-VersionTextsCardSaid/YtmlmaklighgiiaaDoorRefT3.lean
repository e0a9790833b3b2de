/-
  The walk of the document's Components.
-/
import Derived.Test.YtmlmaklighgiiaaDoorRefT2
import Derived.Test.YtmlmaklighgiiaaDoorRefTPlain
import Derived.Test.YtmlmaklighgiiaaDoorComp2
namespace Go.Proofs.YtmlmaklighgiiaaDoor.V
set_option linter.unusedVariables false
set_option linter.unusedSimpArgs false
open Go Go.RowKit Go.Sort

theorem own_empty {α : Type} (size : Nat) (e : TypeId) (R : Rd α) (w : World) (base : Nat) (hb : base ≤ w.heap.size) : OwnSl size e R (w.alloc (.cells #[] e)) base (.slice (some ⟨w.heap.size, 0, none⟩) 0 0) [] ([] : List α) :=
  ⟨⟨by simp, .inr ⟨w.heap.size, 0, #[], rfl, hb, heap_alloc_new _ _, Nat.le_refl _, by decide, by simp, by simp⟩⟩, fun i x h => by simp at h⟩
theorem toList_cut (s : ByteArray) (a b : Nat) : (s.extract a b).data.toList = (s.data.toList.drop a).take (b - a) := by
  rw [Lib.extract_data]

theorem compL_empty {c : ByteArray} (h : c.size = 0) : compL c.data.toList = none := by
  have h1 : c.data.toList.length = c.size := by simp
  rw [List.eq_nil_of_length_eq_zero (l := c.data.toList) (by omega)]
  rfl
theorem sub_good {s : ByteArray} {fr k : Nat} (h : ∀ (j : Nat) (x : UInt8), fr ≤ j → j < k → s.data.toList[j]? = some x → good x = true) (j : Nat) (x : UInt8) (hx : (s.extract fr k).data.toList[j]? = some x) : good x = true := by
  rw [toList_cut] at hx
  have hj : j < k - fr := by
    have := (List.getElem?_eq_some_iff.1 hx).1
    rw [List.length_take] at this
    omega
  rw [List.getElem?_take, if_pos hj, List.getElem?_drop] at hx
  exact h (fr + j) x (by omega) (by omega) hx
theorem not_sep {b : UInt8} (h : sepB b = false) : ¬ (b.toNat : Int) = 46 ∧ ¬ (b.toNat : Int) = 95 ∧ ¬ (b.toNat : Int) = 45 := by
  refine ⟨fun e => ?_, fun e => ?_, fun e => ?_⟩
  · obtain rfl : b = 46 := UInt8.toNat_inj.1 (by show b.toNat = 46; omega)
    exact absurd h (by decide)
  · obtain rfl : b = 95 := UInt8.toNat_inj.1 (by show b.toNat = 95; omega)
    exact absurd h (by decide)
  · obtain rfl : b = 45 := UInt8.toNat_inj.1 (by show b.toNat = 45; omega)
    exact absurd h (by decide)
theorem is_sep {b : UInt8} (h : sepB b = true) : b = 46 ∨ b = 95 ∨ b = 45 := by
  simpa [sepB, sepL] using h
theorem all_from {l : List UInt8} {p : UInt8 → Bool} {a k : Nat} {y : UInt8} (h : ∀ (j : Nat) (x : UInt8), a ≤ j → j < k → l[j]? = some x → p x = true) (hy : l[k]? = some y) (hp : p y = true) : ∀ (j : Nat) (x : UInt8), a ≤ j → j < k + 1 → l[j]? = some x → p x = true := by
  intro j x ha hj hx
  by_cases e : j = k
  · subst e
    rw [hy] at hx
    obtain rfl := Option.some.inj hx
    exact hp
  · exact h j x ha (by omega) hx

set_option maxHeartbeats 8000000 in
set_option maxRecDepth 100000 in
theorem rComponents_any (s : ByteArray) (w : World) (hs : s.size ≤ 1000000000) :
    Calls Tryd.prog 29 #[.string s] w fun e w' => CompsPost w.heap.size s.data.toList e w' ∧ Below w.heap.size w w' := by
  obtain ⟨i0, hi0, hz0, hz1, hz2⟩ := info_parts itemsInfo
  obtain ⟨j0, hj0, hy0, hy1, hy2⟩ := info_parts itemInfo
  have HSZ : Hid (s.data.toList.length = s.size) := Lib.hid (by simp)
  have HNS : Hid (∀ (fr k : Nat), (∀ (j : Nat) (x : UInt8), fr ≤ j → j < k → s.data.toList[j]? = some x → good x = true) → ∀ (j : Nat) (x : UInt8), fr ≤ j → j < k → s.data.toList[j]? = some x → sepB x = false) := Lib.hid (fun fr k h j x h1 h2 h3 => good_not_sep (h j x h1 h2 h3))
  go_enter Tryd.func29, Tryd.ntmps29
  go_wp2_with fail
  have HOW : Hid (OwnSl 1 57 RComp (w.alloc (.cells #[] 57)) w.heap.size (.slice (some ⟨w.heap.size, 0, none⟩) 0 0) [] ([] : List (List Item))) := Lib.hid (own_empty _ _ _ _ _ (Nat.le_refl _))
  have HBW := Lib.hid (news_alloc w (.cells #[] 57))
  generalize w.alloc (.cells #[] 57) = W0 at *
  go_loopw [4, 5, 6] (fun v f i wr => ∃ (k fr : Nat) (acc : List (List Item)) (cs : List Value), k ≤ s.size + 1 ∧ i = .int .i64 k ∧ f = .int .i64 fr ∧ fr ≤ k ∧ acc.length ≤ k ∧ Hid (OwnSl 1 57 RComp wr w.heap.size v cs acc) ∧
      Hid (∀ (j : Nat) (x : UInt8), fr ≤ j → j < k → s.data.toList[j]? = some x → good x = true) ∧
      Hid ((k ≤ s.size → compsL s.data.toList = (compsL (s.data.toList.drop fr)).map (acc ++ ·)) ∧ (k = s.size + 1 → compsL s.data.toList = some acc)) ∧ Hid (Below w.heap.size w wr)) (fun _ _ i _ => s.size + 1 - (intOf i).toNat)
  case atStart => exact ⟨0, 0, [], _, by omega, rfl, rfl, Nat.le_refl _, by simp, HOW, Lib.hid (fun j x _ h => absurd h (by omega)), Lib.hid ⟨fun _ => by simp, fun h => by omega⟩, HBW⟩
  case round =>
    obtain ⟨k, fr, acc, cs, hk, rfl, rfl, hfr, hacc, hown, HG, HO, HW⟩ := hrel
    by_cases hkn : k ≤ s.size
    · have HO1 := Lib.hid (HO.out.1 hkn)
      by_cases hlt : k < s.size
      · have HX := Lib.hid (byteAt hlt)
        by_cases hsep : sepB s[k] = true
        · have HNO : Hid (compL (s.extract fr k).data.toList = none → compsL s.data.toList = none) := Lib.hid (fun h => by rw [comps_end_more HO1.out hfr HX.out hsep (HNS.out _ _ HG.out), ← toList_cut, h]; rfl)
          have HYES : Hid (∀ c, compL (s.extract fr k).data.toList = some c → (k + 1 ≤ s.size → compsL s.data.toList = (compsL (s.data.toList.drop (k + 1))).map ((acc ++ [c]) ++ ·)) ∧ (k + 1 = s.size + 1 → compsL s.data.toList = some (acc ++ [c]))) :=
            Lib.hid (fun c h => ⟨fun _ => by rw [comps_end_more HO1.out hfr HX.out hsep (HNS.out _ _ HG.out), ← toList_cut, h]; rfl, fun e => by omega⟩)
          rcases is_sep hsep with hb | hb | hb
          · have g1 : (s[k].toNat : Int) = 46 := by rw [hb]; rfl
            clear hb hsep
            obtain ⟨wo, hwo⟩ : ∃ wo : World, wo = wr := ⟨_, rfl⟩
            subst hwo
            have hcs : (s.extract fr k).size = k - fr := by rw [ByteArray.size_extract]; omega
            by_cases hem : k - fr = 0
            · have hemp := isEmpty_of (s := s.extract fr k) (by omega)
              have HF : Hid (compsL s.data.toList = none) := Lib.hid (HNO.out (compL_empty (by omega)))
              go_wp2_with fail
              go_ret2
              exact ⟨CompsPost.no HF.out, HW.out⟩
            · have hemp := not_isEmpty_of (s := s.extract fr k) (by omega)
              have hpos : 0 < (s.extract fr k).size := by omega
              have HGC := Lib.hid (sub_good HG.out)
              have hcb : (s.extract fr k).size ≤ 1000000000 := by omega
              have HCS := Lib.hid hcs
              have hpos2 : 0 < k - fr := by omega
              clear hcs hem
              go_wp2_with fail
              have HOI : Hid (OwnSl 2 62 RItem (wo.alloc (.cells #[] 62)) wo.heap.size (.slice (some ⟨wo.heap.size, 0, none⟩) 0 0) [] ([] : List Item)) := Lib.hid (own_empty _ _ _ _ _ (Nat.le_refl _))
              have HBI := Lib.hid (news_alloc wo (.cells #[] 62))
              have HSI : Hid ((wo.alloc (.cells #[] 62)).heap.size = wo.heap.size + 1) := Lib.hid (by simp)
              generalize wo.alloc (.cells #[] 62) = W1 at *
              have hc00 := byteAt hpos
              obtain ⟨b0, hb0⟩ : ∃ b, (s.extract fr k)[0] = b := ⟨_, rfl⟩
              rw [hb0] at hc00
              have HC0 := Lib.hid hc00
              simp only [hb0]
              clear hb0 hc00 hpos2
              generalize s.extract fr k = c at *
              have HZC : Hid (c.data.toList.length = c.size) := Lib.hid (by simp)
              have HPRE : Hid (preL c.data.toList = if letB b0.toNat then [Item.zero] else []) := Lib.hid (by
                have h1 := HC0.out
                cases hl : c.data.toList with
                | nil => rw [hl] at h1; simp at h1
                | cons a l => rw [hl] at h1; simp at h1; rw [← h1]; rfl)
              have HCL : Hid (compL c.data.toList = (compA c.data.toList).map (preL c.data.toList ++ ·)) := Lib.hid (if_neg (by intro h; have := HZC.out; rw [h] at this; simp at this; omega))
              by_cases hl : letB b0.toNat = true
              · have HL := Lib.hid hl
                clear hl
                refine (rletter_any _ _).mono ?_
                rintro e w1 ⟨rfl, rfl⟩
                rw [HL.out]
                go_wp2_with (at_builtin; refine wpList_append_lies _ rfl _ _ 57 rfl wo.heap.size 62 j0 (.agg #[.int .i64 0, .string ByteArray.empty]) 2 24 Tryd.underlying57 hj0 hy0 hy1 hy2 rfl (by decide) (.slice (some ⟨wo.heap.size, 0, none⟩) 0 0) 0 [] rfl (HOI.out.1.alloc _) ⟨W1.heap.size, 0, none⟩ 1 1 [.int .i64 0, .string ⟨#[]⟩] rfl rfl ?c1 ?c2 (by omega) ?c3 ?c4 ?c5 (W1.heap.size + 1) ?c6 ?_)
                case c1 => exact cell_news _ [.int .i64 0, .string ⟨#[]⟩] _ _ rfl
                case c2 => simp [Value.oneCell']
                case c3 => simp [maxLen]
                case c4 => omega
                case c5 => simp; have := HSI.out; omega
                case c6 => simp
                intro g0 cap0 w1 hown1 hgrow1 hat1 hlt1
                have hbb := news_alloc W1 (.cells #[.int .i64 0, .string ⟨#[]⟩] 62)
                have HOW2 : Hid (OwnSl 2 62 RItem w1 wo.heap.size (.slice (some ⟨g0, 0, none⟩) 1 cap0) [.int .i64 0, .string ⟨#[]⟩] [Item.zero]) :=
                  Lib.hid (OwnSl.snoc keepsItem (HOI.out.grow keepsItem hbb) (vs := [.int .i64 0, .string ⟨#[]⟩]) (x := Item.zero) rfl ⟨rfl, i64_zero, by decide⟩ hown1 hgrow1 (hat_of hat1 (by simp)))
                have HBW2 : Hid (Below wo.heap.size wo w1) := Lib.hid ((HBI.out.trans (hbb.mono HBI.out.size)).grown hgrow1 (by have := HSI.out; simp; omega) (fun j hj => (HOI.out.1.lt j hj).1))
                have HCI : Hid (compL c.data.toList = (compA (c.data.toList.drop 0)).map ([Item.zero] ++ ·)) := Lib.hid (by rw [HCL.out, HPRE.out, HL.out]; rfl)
                clear hown1 hgrow1 hat1 hlt1 hbb
                go_wp2_with fail
                go_loopw [8, 9] (fun v i wr => ∃ (a : Nat) (its : List Item) (cs2 : List Value), a ≤ c.size ∧ i = .int .i64 a ∧ its.length ≤ a + 1 ∧ Hid (OwnSl 2 62 RItem wr wo.heap.size v cs2 its) ∧ Hid (compL c.data.toList = (compA (c.data.toList.drop a)).map (its ++ ·)) ∧ Hid (Below wo.heap.size wo wr)) (fun _ i _ => c.size - (intOf i).toNat)
                case atStart => exact ⟨0, _, _, Nat.zero_le _, rfl, by simp, HOW2, HCI, HBW2⟩
                case round =>
                  obtain ⟨a, its, cs2, hac, rfl, hits, hown2, HC2, HW2⟩ := hrel
                  obtain ⟨wp, hwp⟩ : ∃ wp : World, wp = wr := ⟨_, rfl⟩
                  subst hwp
                  by_cases hal : a < c.size
                  · have HXA := Lib.hid (byteAt hal)
                    have HXA0 : Hid ((c.data.toList.drop a)[0]? = some c[a]) := Lib.hid (by rw [List.getElem?_drop]; exact HXA.out)
                    have HGA := Lib.hid (HGC.out _ _ HXA.out)
                    go_wp2_with fail
                    go_loopw [10] (fun i wr => ∃ e : Nat, a ≤ e ∧ e ≤ c.size ∧ i = .int .i64 e ∧ Hid (∀ (j : Nat) (x : UInt8), a ≤ j → j < e → c.data.toList[j]? = some x → dig x = dig c[a]) ∧ Hid (Below wp.heap.size wp wr)) (fun i _ => c.size - (intOf i).toNat)
                    case atStart => exact ⟨a, Nat.le_refl _, by omega, rfl, Lib.hid (fun j x h1 h2 => absurd h1 (by omega)), Lib.hid (Below.refl _ _)⟩
                    case round =>
                      obtain ⟨e, hae, hec, rfl, HA, HW3⟩ := hrel
                      by_cases hel : e < c.size
                      · have HXE := Lib.hid (byteAt hel)
                        have hg1 : (e : Int) < (c.size : Int) := by omega
                        have hg2 : decide ((e : Int) < (c.size : Int)) = true := decide_eq_true hg1
                        by_cases hq : digB c[e].toNat = digB c[a].toNat
                        · have hq2 : (digB c[e].toNat == digB c[a].toNat) = true := by simpa using hq
                          go_wp2_with fail
                          refine wp_region_quiet_below (by kernel_rfl) (by kernel_rfl) ?_
                          repeat (first | go_big_quiet_step ((go_at_call 53; exact regrown_same (rdigit_any _ _))) | quiet_step ((go_at_call 53; exact regrown_same (rdigit_any _ _))))
                          refine wpQuiet_nil ?_
                          intro _ hwq
                          obtain ⟨⟨q, os⟩, hwq⟩ := hwq
                          subst hwq
                          have HB1 := Lib.hid (below_regrown wr q os)
                          generalize grow (redrawn wr q) os = W4 at *
                          go_wp2_with fail
                          go_roundw
                          case rel => exact ⟨e + 1, by omega, by omega, by go_num, Lib.hid (fun j x h1 h2 hx => by
                            by_cases hj : j = e
                            · subst hj
                              rw [HXE.out] at hx
                              obtain rfl := Option.some.inj hx
                              exact hq
                            · exact HA.out j x h1 (by omega) hx), Lib.hid (HW3.out.trans (HB1.out.mono HW3.out.size))⟩
                          case measure => simp [intOf]; omega
                        · have hq2 : (digB c[e].toNat == digB c[a].toNat) = false := by simpa using hq
                          have HEND : Hid (∀ x, c.data.toList[e]? = some x → ¬ dig x = dig c[a]) := Lib.hid (fun x hx => by
                            rw [HXE.out] at hx
                            obtain rfl := Option.some.inj hx
                            exact hq)
                          have hlt2 : a < e := by
                            rcases Nat.lt_or_ge a e with h | h
                            · exact h
                            · exfalso
                              obtain rfl : e = a := by omega
                              exact hq rfl
                          go_wp2_with fail
                          refine wp_region_quiet_below (by kernel_rfl) (by kernel_rfl) ?_
                          repeat (first | go_big_quiet_step ((go_at_call 53; exact regrown_same (rdigit_any _ _))) | quiet_step ((go_at_call 53; exact regrown_same (rdigit_any _ _))))
                          refine wpQuiet_nil ?_
                          intro _ hwq
                          obtain ⟨⟨q, os⟩, hwq⟩ := hwq
                          subst hwq
                          have HB1 := Lib.hid (below_regrown wr q os)
                          have HW4 := Lib.hid (HW3.out.trans (HB1.out.mono HW3.out.size))
                          clear HB1
                          generalize grow (redrawn wr q) os = W4 at *
                          have hes : (c.extract a e).size ≤ 1000000000 := by rw [ByteArray.size_extract]; omega
                          have HES := Lib.hid hes
                          have HXT : Hid ((c.extract a e).data.toList = (c.data.toList.drop a).take (e - a)) := Lib.hid (toList_cut _ _ _)
                          have HWB : Hid ((c.extract a e).size ≤ 9223372036854775807) := Lib.hid (by omega)
                          clear hes
                          by_cases hd : digB c[a].toNat = true
                          · have HD := Lib.hid hd
                            have HNL : Hid (let_ c[a] = false) := Lib.hid (by
                              cases h : let_ c[a] with
                              | false => rfl
                              | true => exact absurd (let_not_dig h) (by show ¬ digB c[a].toNat = false; rw [hd]; simp))
                            have HRUN : Hid (runN dig (c.data.toList.drop a) = e - a) := Lib.hid (run_sort (sort_dig hd) HGC.out hae (by rw [HZC.out]; exact hec) HA.out HEND.out)
                            clear hd
                            have HCA := Lib.hid (compA_dig HXA0.out HNL.out HD.out)
                            cases hsm : smallL (c.extract a e).data.toList 1000000000000000 with
                            | none =>
                              have HSM : Hid (smallR (c.extract a e).data.toList 1000000000000000 = -1) := Lib.hid (by unfold smallR; rw [hsm]; rfl)
                              have HF : Hid (compsL s.data.toList = none) := Lib.hid (HNO.out (by
                                rw [HC2.out, HCA.out, HRUN.out, ← HXT.out, ← small_most, hsm]; rfl))
                              clear hsm
                              go_wp2_with (first
                                | (go_at_call 53; refine (rdigit_any _ _).mono ?_; rintro e w1 ⟨rfl, rfl⟩; rw [HD.out])
                                | (go_at_call 28; refine (rSmall_any _ _ _ HES.out).mono ?_; rintro e w1 ⟨rfl, rfl⟩; rw [HSM.out]))
                              go_ret2
                              exact ⟨CompsPost.no HF.out, HW.out.trans ((HW2.out.trans (HW4.out.mono HW2.out.size)).mono HW.out.size)⟩
                            | some v =>
                              have HSM : Hid (smallR (c.extract a e).data.toList 1000000000000000 = v) := Lib.hid (by unfold smallR; rw [hsm]; rfl)
                              have hv := smallL_bd hsm
                              have HI := Lib.hid (i64_small hsm)
                              have HSTEP : Hid (compA (c.data.toList.drop a) = (compA (c.data.toList.drop e)).map (⟨v, ByteArray.empty⟩ :: ·)) := Lib.hid (by
                                rw [HCA.out, HRUN.out, ← HXT.out, ← small_most, hsm, List.drop_drop, show a + (e - a) = e by omega]; rfl)
                              have hv0 : ¬ v < 0 := by omega
                              clear hsm hv
                              go_wp2_with (first
                                | (go_at_call 53; refine (rdigit_any _ _).mono ?_; rintro e w1 ⟨rfl, rfl⟩; rw [HD.out])
                                | (go_at_call 28; refine (rSmall_any _ _ _ HES.out).mono ?_; rintro e w1 ⟨rfl, rfl⟩; rw [HSM.out])
                                | (at_builtin; refine wpList_append_lies _ rfl _ _ 57 rfl wo.heap.size 62 j0 (.agg #[.int .i64 0, .string ByteArray.empty]) 2 24 Tryd.underlying57 hj0 hy0 hy1 hy2 rfl (by decide) u8 its.length cs2 rfl ((hown2.out.grow keepsItem HW4.out).1.alloc _) ⟨W4.heap.size, 0, none⟩ 1 1 [.int .i64 v, .string ⟨#[]⟩] rfl rfl ?c1 ?c2 (by omega) ?c3 ?c4 ?c5 (W4.heap.size + 1) ?c6 ?_))
                              case c1 => exact cell_news _ [.int .i64 v, .string ⟨#[]⟩] _ _ rfl
                              case c2 => simp [Value.oneCell']
                              case c3 => simp [maxLen]; omega
                              case c4 => omega
                              case c5 => have := HW2.out.size; have := HW4.out.size; simp; omega
                              case c6 => simp
                              intro g2 cap2 w5 hown5 hgrow5 hat5 hlt5
                              have hbb := news_alloc W4 (.cells #[.int .i64 v, .string ⟨#[]⟩] 62)
                              have HOW5 := Lib.hid (OwnSl.snoc keepsItem ((hown2.out.grow keepsItem HW4.out).grow keepsItem hbb) (vs := [.int .i64 v, .string ⟨#[]⟩]) (x := ⟨v, ByteArray.empty⟩) rfl ⟨rfl, HI.out, empty_size⟩ hown5 hgrow5 (hat_of hat5 (by simp)))
                              have HBW5 := Lib.hid (((HW2.out.trans (HW4.out.mono HW2.out.size)).trans (hbb.mono (by have := HW2.out.size; have := HW4.out.size; omega))).grown hgrow5 (by have := HW2.out.size; have := HW4.out.size; simp; omega) (fun j hj => (hown2.out.1.lt j hj).1))
                              clear hown5 hgrow5 hat5 hlt5 hbb
                              go_wp2_with fail
                              go_roundw
                              case rel => exact ⟨e, its ++ [⟨v, ByteArray.empty⟩], _, hec, rfl, by rw [List.length_append, List.length_singleton]; omega, HOW5, Lib.hid (comp_step HC2.out HSTEP.out), HBW5⟩
                              case measure => simp [intOf]; omega
                          · have hd0 : digB c[a].toNat = false := by simpa using hd
                            have HD := Lib.hid hd0
                            have HLT : Hid (let_ c[a] = true) := Lib.hid (by
                              have := HGA.out
                              unfold good at this
                              rw [show dig c[a] = false from hd0, Bool.false_or] at this
                              exact this)
                            have HRUN : Hid (runN let_ (c.data.toList.drop a) = e - a) := Lib.hid (run_sort (sort_let hd0) HGC.out hae (by rw [HZC.out]; exact hec) HA.out HEND.out)
                            clear hd hd0
                            have HSTEP : Hid (compA (c.data.toList.drop a) = (compA (c.data.toList.drop e)).map (⟨0, c.extract a e⟩ :: ·)) := Lib.hid (by
                              rw [compA_let HXA0.out HLT.out, HRUN.out, List.drop_drop, show a + (e - a) = e by omega, ← HXT.out])
                            go_wp2_with (first
                              | (go_at_call 53; refine (rdigit_any _ _).mono ?_; rintro e w1 ⟨rfl, rfl⟩; rw [HD.out])
                              | (at_builtin; refine wpList_append_lies _ rfl _ _ 57 rfl wo.heap.size 62 j0 (.agg #[.int .i64 0, .string ByteArray.empty]) 2 24 Tryd.underlying57 hj0 hy0 hy1 hy2 rfl (by decide) u8 its.length cs2 rfl ((hown2.out.grow keepsItem HW4.out).1.alloc _) ⟨W4.heap.size, 0, none⟩ 1 1 [.int .i64 0, .string (c.extract a e)] rfl rfl ?c1 ?c2 (by omega) ?c3 ?c4 ?c5 (W4.heap.size + 1) ?c6 ?_))
                            case c1 => exact cell_news _ [.int .i64 0, .string (c.extract a e)] _ _ rfl
                            case c2 => simp [Value.oneCell']
                            case c3 => simp [maxLen]; omega
                            case c4 => omega
                            case c5 => have := HW2.out.size; have := HW4.out.size; simp; omega
                            case c6 => simp
                            intro g2 cap2 w5 hown5 hgrow5 hat5 hlt5
                            have hbb := news_alloc W4 (.cells #[.int .i64 0, .string (c.extract a e)] 62)
                            have HOW5 := Lib.hid (OwnSl.snoc keepsItem ((hown2.out.grow keepsItem HW4.out).grow keepsItem hbb) (vs := [.int .i64 0, .string (c.extract a e)]) (x := ⟨0, c.extract a e⟩) rfl ⟨rfl, i64_zero, HWB.out⟩ hown5 hgrow5 (hat_of hat5 (by simp)))
                            have HBW5 := Lib.hid (((HW2.out.trans (HW4.out.mono HW2.out.size)).trans (hbb.mono (by have := HW2.out.size; have := HW4.out.size; omega))).grown hgrow5 (by have := HW2.out.size; have := HW4.out.size; simp; omega) (fun j hj => (hown2.out.1.lt j hj).1))
                            clear hown5 hgrow5 hat5 hlt5 hbb
                            go_wp2_with fail
                            go_roundw
                            case rel => exact ⟨e, its ++ [⟨0, c.extract a e⟩], _, hec, rfl, by rw [List.length_append, List.length_singleton]; omega, HOW5, Lib.hid (comp_step HC2.out HSTEP.out), HBW5⟩
                            case measure => simp [intOf]; omega
                      · have HEND : Hid (∀ x, c.data.toList[e]? = some x → ¬ dig x = dig c[a]) := Lib.hid (fun x hx => by
                          rw [List.getElem?_eq_none (by rw [HZC.out]; omega)] at hx
                          cases hx)
                        have hlt2 : a < e := by omega
                        have hg1 : ¬ (e : Int) < (c.size : Int) := by omega
                        have hg2 : decide ((e : Int) < (c.size : Int)) = false := decide_eq_false hg1
                        go_wp2_with fail
                        refine wp_region_quiet_below (by kernel_rfl) (by kernel_rfl) ?_
                        repeat (first | go_big_quiet_step ((go_at_call 53; exact regrown_same (rdigit_any _ _))) | quiet_step ((go_at_call 53; exact regrown_same (rdigit_any _ _))))
                        refine wpQuiet_nil ?_
                        intro _ hwq
                        obtain ⟨⟨q, os⟩, hwq⟩ := hwq
                        subst hwq
                        have HB1 := Lib.hid (below_regrown wr q os)
                        have HW4 := Lib.hid (HW3.out.trans (HB1.out.mono HW3.out.size))
                        clear HB1
                        generalize grow (redrawn wr q) os = W4 at *
                        have hes : (c.extract a e).size ≤ 1000000000 := by rw [ByteArray.size_extract]; omega
                        have HES := Lib.hid hes
                        have HXT : Hid ((c.extract a e).data.toList = (c.data.toList.drop a).take (e - a)) := Lib.hid (toList_cut _ _ _)
                        have HWB : Hid ((c.extract a e).size ≤ 9223372036854775807) := Lib.hid (by omega)
                        clear hes
                        by_cases hd : digB c[a].toNat = true
                        · have HD := Lib.hid hd
                          have HNL : Hid (let_ c[a] = false) := Lib.hid (by
                            cases h : let_ c[a] with
                            | false => rfl
                            | true => exact absurd (let_not_dig h) (by show ¬ digB c[a].toNat = false; rw [hd]; simp))
                          have HRUN : Hid (runN dig (c.data.toList.drop a) = e - a) := Lib.hid (run_sort (sort_dig hd) HGC.out hae (by rw [HZC.out]; exact hec) HA.out HEND.out)
                          clear hd
                          have HCA := Lib.hid (compA_dig HXA0.out HNL.out HD.out)
                          cases hsm : smallL (c.extract a e).data.toList 1000000000000000 with
                          | none =>
                            have HSM : Hid (smallR (c.extract a e).data.toList 1000000000000000 = -1) := Lib.hid (by unfold smallR; rw [hsm]; rfl)
                            have HF : Hid (compsL s.data.toList = none) := Lib.hid (HNO.out (by
                              rw [HC2.out, HCA.out, HRUN.out, ← HXT.out, ← small_most, hsm]; rfl))
                            clear hsm
                            go_wp2_with (first
                              | (go_at_call 53; refine (rdigit_any _ _).mono ?_; rintro e w1 ⟨rfl, rfl⟩; rw [HD.out])
                              | (go_at_call 28; refine (rSmall_any _ _ _ HES.out).mono ?_; rintro e w1 ⟨rfl, rfl⟩; rw [HSM.out]))
                            go_ret2
                            exact ⟨CompsPost.no HF.out, HW.out.trans ((HW2.out.trans (HW4.out.mono HW2.out.size)).mono HW.out.size)⟩
                          | some v =>
                            have HSM : Hid (smallR (c.extract a e).data.toList 1000000000000000 = v) := Lib.hid (by unfold smallR; rw [hsm]; rfl)
                            have hv := smallL_bd hsm
                            have HI := Lib.hid (i64_small hsm)
                            have HSTEP : Hid (compA (c.data.toList.drop a) = (compA (c.data.toList.drop e)).map (⟨v, ByteArray.empty⟩ :: ·)) := Lib.hid (by
                              rw [HCA.out, HRUN.out, ← HXT.out, ← small_most, hsm, List.drop_drop, show a + (e - a) = e by omega]; rfl)
                            have hv0 : ¬ v < 0 := by omega
                            clear hsm hv
                            go_wp2_with (first
                              | (go_at_call 53; refine (rdigit_any _ _).mono ?_; rintro e w1 ⟨rfl, rfl⟩; rw [HD.out])
                              | (go_at_call 28; refine (rSmall_any _ _ _ HES.out).mono ?_; rintro e w1 ⟨rfl, rfl⟩; rw [HSM.out])
                              | (at_builtin; refine wpList_append_lies _ rfl _ _ 57 rfl wo.heap.size 62 j0 (.agg #[.int .i64 0, .string ByteArray.empty]) 2 24 Tryd.underlying57 hj0 hy0 hy1 hy2 rfl (by decide) u8 its.length cs2 rfl ((hown2.out.grow keepsItem HW4.out).1.alloc _) ⟨W4.heap.size, 0, none⟩ 1 1 [.int .i64 v, .string ⟨#[]⟩] rfl rfl ?c1 ?c2 (by omega) ?c3 ?c4 ?c5 (W4.heap.size + 1) ?c6 ?_))
                            case c1 => exact cell_news _ [.int .i64 v, .string ⟨#[]⟩] _ _ rfl
                            case c2 => simp [Value.oneCell']
                            case c3 => simp [maxLen]; omega
                            case c4 => omega
                            case c5 => have := HW2.out.size; have := HW4.out.size; simp; omega
                            case c6 => simp
                            intro g2 cap2 w5 hown5 hgrow5 hat5 hlt5
                            have hbb := news_alloc W4 (.cells #[.int .i64 v, .string ⟨#[]⟩] 62)
                            have HOW5 := Lib.hid (OwnSl.snoc keepsItem ((hown2.out.grow keepsItem HW4.out).grow keepsItem hbb) (vs := [.int .i64 v, .string ⟨#[]⟩]) (x := ⟨v, ByteArray.empty⟩) rfl ⟨rfl, HI.out, empty_size⟩ hown5 hgrow5 (hat_of hat5 (by simp)))
                            have HBW5 := Lib.hid (((HW2.out.trans (HW4.out.mono HW2.out.size)).trans (hbb.mono (by have := HW2.out.size; have := HW4.out.size; omega))).grown hgrow5 (by have := HW2.out.size; have := HW4.out.size; simp; omega) (fun j hj => (hown2.out.1.lt j hj).1))
                            clear hown5 hgrow5 hat5 hlt5 hbb
                            go_wp2_with fail
                            go_roundw
                            case rel => exact ⟨e, its ++ [⟨v, ByteArray.empty⟩], _, hec, rfl, by rw [List.length_append, List.length_singleton]; omega, HOW5, Lib.hid (comp_step HC2.out HSTEP.out), HBW5⟩
                            case measure => simp [intOf]; omega
                        · have hd0 : digB c[a].toNat = false := by simpa using hd
                          have HD := Lib.hid hd0
                          have HLT : Hid (let_ c[a] = true) := Lib.hid (by
                            have := HGA.out
                            unfold good at this
                            rw [show dig c[a] = false from hd0, Bool.false_or] at this
                            exact this)
                          have HRUN : Hid (runN let_ (c.data.toList.drop a) = e - a) := Lib.hid (run_sort (sort_let hd0) HGC.out hae (by rw [HZC.out]; exact hec) HA.out HEND.out)
                          clear hd hd0
                          have HSTEP : Hid (compA (c.data.toList.drop a) = (compA (c.data.toList.drop e)).map (⟨0, c.extract a e⟩ :: ·)) := Lib.hid (by
                            rw [compA_let HXA0.out HLT.out, HRUN.out, List.drop_drop, show a + (e - a) = e by omega, ← HXT.out])
                          go_wp2_with (first
                            | (go_at_call 53; refine (rdigit_any _ _).mono ?_; rintro e w1 ⟨rfl, rfl⟩; rw [HD.out])
                            | (at_builtin; refine wpList_append_lies _ rfl _ _ 57 rfl wo.heap.size 62 j0 (.agg #[.int .i64 0, .string ByteArray.empty]) 2 24 Tryd.underlying57 hj0 hy0 hy1 hy2 rfl (by decide) u8 its.length cs2 rfl ((hown2.out.grow keepsItem HW4.out).1.alloc _) ⟨W4.heap.size, 0, none⟩ 1 1 [.int .i64 0, .string (c.extract a e)] rfl rfl ?c1 ?c2 (by omega) ?c3 ?c4 ?c5 (W4.heap.size + 1) ?c6 ?_))
                          case c1 => exact cell_news _ [.int .i64 0, .string (c.extract a e)] _ _ rfl
                          case c2 => simp [Value.oneCell']
                          case c3 => simp [maxLen]; omega
                          case c4 => omega
                          case c5 => have := HW2.out.size; have := HW4.out.size; simp; omega
                          case c6 => simp
                          intro g2 cap2 w5 hown5 hgrow5 hat5 hlt5
                          have hbb := news_alloc W4 (.cells #[.int .i64 0, .string (c.extract a e)] 62)
                          have HOW5 := Lib.hid (OwnSl.snoc keepsItem ((hown2.out.grow keepsItem HW4.out).grow keepsItem hbb) (vs := [.int .i64 0, .string (c.extract a e)]) (x := ⟨0, c.extract a e⟩) rfl ⟨rfl, i64_zero, HWB.out⟩ hown5 hgrow5 (hat_of hat5 (by simp)))
                          have HBW5 := Lib.hid (((HW2.out.trans (HW4.out.mono HW2.out.size)).trans (hbb.mono (by have := HW2.out.size; have := HW4.out.size; omega))).grown hgrow5 (by have := HW2.out.size; have := HW4.out.size; simp; omega) (fun j hj => (hown2.out.1.lt j hj).1))
                          clear hown5 hgrow5 hat5 hlt5 hbb
                          go_wp2_with fail
                          go_roundw
                          case rel => exact ⟨e, its ++ [⟨0, c.extract a e⟩], _, hec, rfl, by rw [List.length_append, List.length_singleton]; omega, HOW5, Lib.hid (comp_step HC2.out HSTEP.out), HBW5⟩
                          case measure => simp [intOf]; omega
                  · obtain rfl : a = c.size := by omega
                    have HF : Hid (compL c.data.toList = some its) := Lib.hid (by rw [HC2.out, List.drop_eq_nil_of_le (by rw [HZC.out]; exact Nat.le_refl _), compA_nil]; simp)
                    have HYC := Lib.hid (HYES.out _ HF.out)
                    obtain ⟨A2, d2, rfl, hl2, hc2⟩ := (hown2.out.slLt keepsItem).form
                    have HO9 := Lib.hid (hown.out.grow keepsComp HW2.out)
                    go_wp2_with (at_builtin; refine wpList_append_lies _ rfl _ _ 23 rfl w.heap.size 57 i0 (.slice none 0 0) 1 24 Tryd.underlying23 hi0 hz0 hz1 hz2 rfl (by decide) u4 acc.length cs rfl (HO9.out.1.alloc _) ⟨wp.heap.size, 0, none⟩ 1 1 [.slice A2 its.length d2] rfl rfl ?c1 ?c2 (by omega) ?c3 ?c4 ?c5 (wp.heap.size + 1) ?c6 ?_)
                    case c1 => exact cell_news _ [.slice A2 its.length d2] _ _ rfl
                    case c2 => simp [Value.oneCell']
                    case c3 => simp [maxLen]; omega
                    case c4 => omega
                    case c5 => have := HW.out.size; have := HW2.out.size; simp; omega
                    case c6 => simp
                    intro g6 cap6 w6 hown6 hgrow6 hat6 hlt6
                    have hbb : Below wp.heap.size wp (wp.alloc (.cells #[.slice A2 its.length d2] 57)) := news_alloc _ _
                    have HOW6 := Lib.hid (OwnSl.snoc keepsComp (HO9.out.grow keepsComp hbb) (vs := [.slice A2 its.length d2]) (x := its) rfl (rcomp_of (hown2.out.grow keepsItem hbb) HW.out.size (fun j hj => (hown.out.1.lt j hj).2)) hown6 hgrow6 (hat_of hat6 (by simp)))
                    have HBW6 := Lib.hid (((HW.out.trans (HW2.out.mono HW.out.size)).trans (hbb.mono (by have := HW.out.size; have := HW2.out.size; omega))).grown hgrow6 (by have := HW.out.size; have := HW2.out.size; simp; omega) (fun j hj => (hown.out.1.lt j hj).1))
                    clear hown6 hgrow6 hat6 hlt6 hbb
                    go_wp2_with fail
                    go_roundw
                    case rel => exact ⟨k + 1, k + 1, acc ++ [its], _, by omega, by go_num, by go_num, Nat.le_refl _, by rw [List.length_append, List.length_singleton]; omega, HOW6, Lib.hid (fun j x h1 h2 => absurd h1 (by omega)), HYC, HBW6⟩
                    case measure => simp [intOf]; omega
              · have HL : Hid (letB b0.toNat = false) := Lib.hid (by simpa using hl)
                clear hl
                refine (rletter_any _ _).mono ?_
                rintro e w1 ⟨rfl, rfl⟩
                rw [HL.out]
                have HCI : Hid (compL c.data.toList = (compA (c.data.toList.drop 0)).map (([] : List Item) ++ ·)) := Lib.hid (by rw [HCL.out, HPRE.out, HL.out]; rfl)
                go_wp2_with fail
                go_loopw [8, 9] (fun v i wr => ∃ (a : Nat) (its : List Item) (cs2 : List Value), a ≤ c.size ∧ i = .int .i64 a ∧ its.length ≤ a + 1 ∧ Hid (OwnSl 2 62 RItem wr wo.heap.size v cs2 its) ∧ Hid (compL c.data.toList = (compA (c.data.toList.drop a)).map (its ++ ·)) ∧ Hid (Below wo.heap.size wo wr)) (fun _ i _ => c.size - (intOf i).toNat)
                case atStart => exact ⟨0, _, _, Nat.zero_le _, rfl, by simp, HOI, HCI, HBI⟩
                case round =>
                  obtain ⟨a, its, cs2, hac, rfl, hits, hown2, HC2, HW2⟩ := hrel
                  obtain ⟨wp, hwp⟩ : ∃ wp : World, wp = wr := ⟨_, rfl⟩
                  subst hwp
                  by_cases hal : a < c.size
                  · have HXA := Lib.hid (byteAt hal)
                    have HXA0 : Hid ((c.data.toList.drop a)[0]? = some c[a]) := Lib.hid (by rw [List.getElem?_drop]; exact HXA.out)
                    have HGA := Lib.hid (HGC.out _ _ HXA.out)
                    go_wp2_with fail
                    go_loopw [10] (fun i wr => ∃ e : Nat, a ≤ e ∧ e ≤ c.size ∧ i = .int .i64 e ∧ Hid (∀ (j : Nat) (x : UInt8), a ≤ j → j < e → c.data.toList[j]? = some x → dig x = dig c[a]) ∧ Hid (Below wp.heap.size wp wr)) (fun i _ => c.size - (intOf i).toNat)
                    case atStart => exact ⟨a, Nat.le_refl _, by omega, rfl, Lib.hid (fun j x h1 h2 => absurd h1 (by omega)), Lib.hid (Below.refl _ _)⟩
                    case round =>
                      obtain ⟨e, hae, hec, rfl, HA, HW3⟩ := hrel
                      by_cases hel : e < c.size
                      · have HXE := Lib.hid (byteAt hel)
                        have hg1 : (e : Int) < (c.size : Int) := by omega
                        have hg2 : decide ((e : Int) < (c.size : Int)) = true := decide_eq_true hg1
                        by_cases hq : digB c[e].toNat = digB c[a].toNat
                        · have hq2 : (digB c[e].toNat == digB c[a].toNat) = true := by simpa using hq
                          go_wp2_with fail
                          refine wp_region_quiet_below (by kernel_rfl) (by kernel_rfl) ?_
                          repeat (first | go_big_quiet_step ((go_at_call 53; exact regrown_same (rdigit_any _ _))) | quiet_step ((go_at_call 53; exact regrown_same (rdigit_any _ _))))
                          refine wpQuiet_nil ?_
                          intro _ hwq
                          obtain ⟨⟨q, os⟩, hwq⟩ := hwq
                          subst hwq
                          have HB1 := Lib.hid (below_regrown wr q os)
                          generalize grow (redrawn wr q) os = W4 at *
                          go_wp2_with fail
                          go_roundw
                          case rel => exact ⟨e + 1, by omega, by omega, by go_num, Lib.hid (fun j x h1 h2 hx => by
                            by_cases hj : j = e
                            · subst hj
                              rw [HXE.out] at hx
                              obtain rfl := Option.some.inj hx
                              exact hq
                            · exact HA.out j x h1 (by omega) hx), Lib.hid (HW3.out.trans (HB1.out.mono HW3.out.size))⟩
                          case measure => simp [intOf]; omega
                        · have hq2 : (digB c[e].toNat == digB c[a].toNat) = false := by simpa using hq
                          have HEND : Hid (∀ x, c.data.toList[e]? = some x → ¬ dig x = dig c[a]) := Lib.hid (fun x hx => by
                            rw [HXE.out] at hx
                            obtain rfl := Option.some.inj hx
                            exact hq)
                          have hlt2 : a < e := by
                            rcases Nat.lt_or_ge a e with h | h
                            · exact h
                            · exfalso
                              obtain rfl : e = a := by omega
                              exact hq rfl
                          go_wp2_with fail
                          refine wp_region_quiet_below (by kernel_rfl) (by kernel_rfl) ?_
                          repeat (first | go_big_quiet_step ((go_at_call 53; exact regrown_same (rdigit_any _ _))) | quiet_step ((go_at_call 53; exact regrown_same (rdigit_any _ _))))
                          refine wpQuiet_nil ?_
                          intro _ hwq
                          obtain ⟨⟨q, os⟩, hwq⟩ := hwq
                          subst hwq
                          have HB1 := Lib.hid (below_regrown wr q os)
                          have HW4 := Lib.hid (HW3.out.trans (HB1.out.mono HW3.out.size))
                          clear HB1
                          generalize grow (redrawn wr q) os = W4 at *
                          have hes : (c.extract a e).size ≤ 1000000000 := by rw [ByteArray.size_extract]; omega
                          have HES := Lib.hid hes
                          have HXT : Hid ((c.extract a e).data.toList = (c.data.toList.drop a).take (e - a)) := Lib.hid (toList_cut _ _ _)
                          have HWB : Hid ((c.extract a e).size ≤ 9223372036854775807) := Lib.hid (by omega)
                          clear hes
                          by_cases hd : digB c[a].toNat = true
                          · have HD := Lib.hid hd
                            have HNL : Hid (let_ c[a] = false) := Lib.hid (by
                              cases h : let_ c[a] with
                              | false => rfl
                              | true => exact absurd (let_not_dig h) (by show ¬ digB c[a].toNat = false; rw [hd]; simp))
                            have HRUN : Hid (runN dig (c.data.toList.drop a) = e - a) := Lib.hid (run_sort (sort_dig hd) HGC.out hae (by rw [HZC.out]; exact hec) HA.out HEND.out)
                            clear hd
                            have HCA := Lib.hid (compA_dig HXA0.out HNL.out HD.out)
                            cases hsm : smallL (c.extract a e).data.toList 1000000000000000 with
                            | none =>
                              have HSM : Hid (smallR (c.extract a e).data.toList 1000000000000000 = -1) := Lib.hid (by unfold smallR; rw [hsm]; rfl)
                              have HF : Hid (compsL s.data.toList = none) := Lib.hid (HNO.out (by
                                rw [HC2.out, HCA.out, HRUN.out, ← HXT.out, ← small_most, hsm]; rfl))
                              clear hsm
                              go_wp2_with (first
                                | (go_at_call 53; refine (rdigit_any _ _).mono ?_; rintro e w1 ⟨rfl, rfl⟩; rw [HD.out])
                                | (go_at_call 28; refine (rSmall_any _ _ _ HES.out).mono ?_; rintro e w1 ⟨rfl, rfl⟩; rw [HSM.out]))
                              go_ret2
                              exact ⟨CompsPost.no HF.out, HW.out.trans ((HW2.out.trans (HW4.out.mono HW2.out.size)).mono HW.out.size)⟩
                            | some v =>
                              have HSM : Hid (smallR (c.extract a e).data.toList 1000000000000000 = v) := Lib.hid (by unfold smallR; rw [hsm]; rfl)
                              have hv := smallL_bd hsm
                              have HI := Lib.hid (i64_small hsm)
                              have HSTEP : Hid (compA (c.data.toList.drop a) = (compA (c.data.toList.drop e)).map (⟨v, ByteArray.empty⟩ :: ·)) := Lib.hid (by
                                rw [HCA.out, HRUN.out, ← HXT.out, ← small_most, hsm, List.drop_drop, show a + (e - a) = e by omega]; rfl)
                              have hv0 : ¬ v < 0 := by omega
                              clear hsm hv
                              go_wp2_with (first
                                | (go_at_call 53; refine (rdigit_any _ _).mono ?_; rintro e w1 ⟨rfl, rfl⟩; rw [HD.out])
                                | (go_at_call 28; refine (rSmall_any _ _ _ HES.out).mono ?_; rintro e w1 ⟨rfl, rfl⟩; rw [HSM.out])
                                | (at_builtin; refine wpList_append_lies _ rfl _ _ 57 rfl wo.heap.size 62 j0 (.agg #[.int .i64 0, .string ByteArray.empty]) 2 24 Tryd.underlying57 hj0 hy0 hy1 hy2 rfl (by decide) u8 its.length cs2 rfl ((hown2.out.grow keepsItem HW4.out).1.alloc _) ⟨W4.heap.size, 0, none⟩ 1 1 [.int .i64 v, .string ⟨#[]⟩] rfl rfl ?c1 ?c2 (by omega) ?c3 ?c4 ?c5 (W4.heap.size + 1) ?c6 ?_))
                              case c1 => exact cell_news _ [.int .i64 v, .string ⟨#[]⟩] _ _ rfl
                              case c2 => simp [Value.oneCell']
                              case c3 => simp [maxLen]; omega
                              case c4 => omega
                              case c5 => have := HW2.out.size; have := HW4.out.size; simp; omega
                              case c6 => simp
                              intro g2 cap2 w5 hown5 hgrow5 hat5 hlt5
                              have hbb := news_alloc W4 (.cells #[.int .i64 v, .string ⟨#[]⟩] 62)
                              have HOW5 := Lib.hid (OwnSl.snoc keepsItem ((hown2.out.grow keepsItem HW4.out).grow keepsItem hbb) (vs := [.int .i64 v, .string ⟨#[]⟩]) (x := ⟨v, ByteArray.empty⟩) rfl ⟨rfl, HI.out, empty_size⟩ hown5 hgrow5 (hat_of hat5 (by simp)))
                              have HBW5 := Lib.hid (((HW2.out.trans (HW4.out.mono HW2.out.size)).trans (hbb.mono (by have := HW2.out.size; have := HW4.out.size; omega))).grown hgrow5 (by have := HW2.out.size; have := HW4.out.size; simp; omega) (fun j hj => (hown2.out.1.lt j hj).1))
                              clear hown5 hgrow5 hat5 hlt5 hbb
                              go_wp2_with fail
                              go_roundw
                              case rel => exact ⟨e, its ++ [⟨v, ByteArray.empty⟩], _, hec, rfl, by rw [List.length_append, List.length_singleton]; omega, HOW5, Lib.hid (comp_step HC2.out HSTEP.out), HBW5⟩
                              case measure => simp [intOf]; omega
                          · have hd0 : digB c[a].toNat = false := by simpa using hd
                            have HD := Lib.hid hd0
                            have HLT : Hid (let_ c[a] = true) := Lib.hid (by
                              have := HGA.out
                              unfold good at this
                              rw [show dig c[a] = false from hd0, Bool.false_or] at this
                              exact this)
                            have HRUN : Hid (runN let_ (c.data.toList.drop a) = e - a) := Lib.hid (run_sort (sort_let hd0) HGC.out hae (by rw [HZC.out]; exact hec) HA.out HEND.out)
                            clear hd hd0
                            have HSTEP : Hid (compA (c.data.toList.drop a) = (compA (c.data.toList.drop e)).map (⟨0, c.extract a e⟩ :: ·)) := Lib.hid (by
                              rw [compA_let HXA0.out HLT.out, HRUN.out, List.drop_drop, show a + (e - a) = e by omega, ← HXT.out])
                            go_wp2_with (first
                              | (go_at_call 53; refine (rdigit_any _ _).mono ?_; rintro e w1 ⟨rfl, rfl⟩; rw [HD.out])
                              | (at_builtin; refine wpList_append_lies _ rfl _ _ 57 rfl wo.heap.size 62 j0 (.agg #[.int .i64 0, .string ByteArray.empty]) 2 24 Tryd.underlying57 hj0 hy0 hy1 hy2 rfl (by decide) u8 its.length cs2 rfl ((hown2.out.grow keepsItem HW4.out).1.alloc _) ⟨W4.heap.size, 0, none⟩ 1 1 [.int .i64 0, .string (c.extract a e)] rfl rfl ?c1 ?c2 (by omega) ?c3 ?c4 ?c5 (W4.heap.size + 1) ?c6 ?_))
                            case c1 => exact cell_news _ [.int .i64 0, .string (c.extract a e)] _ _ rfl
                            case c2 => simp [Value.oneCell']
                            case c3 => simp [maxLen]; omega
                            case c4 => omega
                            case c5 => have := HW2.out.size; have := HW4.out.size; simp; omega
                            case c6 => simp
                            intro g2 cap2 w5 hown5 hgrow5 hat5 hlt5
                            have hbb := news_alloc W4 (.cells #[.int .i64 0, .string (c.extract a e)] 62)
                            have HOW5 := Lib.hid (OwnSl.snoc keepsItem ((hown2.out.grow keepsItem HW4.out).grow keepsItem hbb) (vs := [.int .i64 0, .string (c.extract a e)]) (x := ⟨0, c.extract a e⟩) rfl ⟨rfl, i64_zero, HWB.out⟩ hown5 hgrow5 (hat_of hat5 (by simp)))
                            have HBW5 := Lib.hid (((HW2.out.trans (HW4.out.mono HW2.out.size)).trans (hbb.mono (by have := HW2.out.size; have := HW4.out.size; omega))).grown hgrow5 (by have := HW2.out.size; have := HW4.out.size; simp; omega) (fun j hj => (hown2.out.1.lt j hj).1))
                            clear hown5 hgrow5 hat5 hlt5 hbb
                            go_wp2_with fail
                            go_roundw
                            case rel => exact ⟨e, its ++ [⟨0, c.extract a e⟩], _, hec, rfl, by rw [List.length_append, List.length_singleton]; omega, HOW5, Lib.hid (comp_step HC2.out HSTEP.out), HBW5⟩
                            case measure => simp [intOf]; omega
                      · have HEND : Hid (∀ x, c.data.toList[e]? = some x → ¬ dig x = dig c[a]) := Lib.hid (fun x hx => by
                          rw [List.getElem?_eq_none (by rw [HZC.out]; omega)] at hx
                          cases hx)
                        have hlt2 : a < e := by omega
                        have hg1 : ¬ (e : Int) < (c.size : Int) := by omega
                        have hg2 : decide ((e : Int) < (c.size : Int)) = false := decide_eq_false hg1
                        go_wp2_with fail
                        refine wp_region_quiet_below (by kernel_rfl) (by kernel_rfl) ?_
                        repeat (first | go_big_quiet_step ((go_at_call 53; exact regrown_same (rdigit_any _ _))) | quiet_step ((go_at_call 53; exact regrown_same (rdigit_any _ _))))
                        refine wpQuiet_nil ?_
                        intro _ hwq
                        obtain ⟨⟨q, os⟩, hwq⟩ := hwq
                        subst hwq
                        have HB1 := Lib.hid (below_regrown wr q os)
                        have HW4 := Lib.hid (HW3.out.trans (HB1.out.mono HW3.out.size))
                        clear HB1
                        generalize grow (redrawn wr q) os = W4 at *
                        have hes : (c.extract a e).size ≤ 1000000000 := by rw [ByteArray.size_extract]; omega
                        have HES := Lib.hid hes
                        have HXT : Hid ((c.extract a e).data.toList = (c.data.toList.drop a).take (e - a)) := Lib.hid (toList_cut _ _ _)
                        have HWB : Hid ((c.extract a e).size ≤ 9223372036854775807) := Lib.hid (by omega)
                        clear hes
                        by_cases hd : digB c[a].toNat = true
                        · have HD := Lib.hid hd
                          have HNL : Hid (let_ c[a] = false) := Lib.hid (by
                            cases h : let_ c[a] with
                            | false => rfl
                            | true => exact absurd (let_not_dig h) (by show ¬ digB c[a].toNat = false; rw [hd]; simp))
                          have HRUN : Hid (runN dig (c.data.toList.drop a) = e - a) := Lib.hid (run_sort (sort_dig hd) HGC.out hae (by rw [HZC.out]; exact hec) HA.out HEND.out)
                          clear hd
                          have HCA := Lib.hid (compA_dig HXA0.out HNL.out HD.out)
                          cases hsm : smallL (c.extract a e).data.toList 1000000000000000 with
                          | none =>
                            have HSM : Hid (smallR (c.extract a e).data.toList 1000000000000000 = -1) := Lib.hid (by unfold smallR; rw [hsm]; rfl)
                            have HF : Hid (compsL s.data.toList = none) := Lib.hid (HNO.out (by
                              rw [HC2.out, HCA.out, HRUN.out, ← HXT.out, ← small_most, hsm]; rfl))
                            clear hsm
                            go_wp2_with (first
                              | (go_at_call 53; refine (rdigit_any _ _).mono ?_; rintro e w1 ⟨rfl, rfl⟩; rw [HD.out])
                              | (go_at_call 28; refine (rSmall_any _ _ _ HES.out).mono ?_; rintro e w1 ⟨rfl, rfl⟩; rw [HSM.out]))
                            go_ret2
                            exact ⟨CompsPost.no HF.out, HW.out.trans ((HW2.out.trans (HW4.out.mono HW2.out.size)).mono HW.out.size)⟩
                          | some v =>
                            have HSM : Hid (smallR (c.extract a e).data.toList 1000000000000000 = v) := Lib.hid (by unfold smallR; rw [hsm]; rfl)
                            have hv := smallL_bd hsm
                            have HI := Lib.hid (i64_small hsm)
                            have HSTEP : Hid (compA (c.data.toList.drop a) = (compA (c.data.toList.drop e)).map (⟨v, ByteArray.empty⟩ :: ·)) := Lib.hid (by
                              rw [HCA.out, HRUN.out, ← HXT.out, ← small_most, hsm, List.drop_drop, show a + (e - a) = e by omega]; rfl)
                            have hv0 : ¬ v < 0 := by omega
                            clear hsm hv
                            go_wp2_with (first
                              | (go_at_call 53; refine (rdigit_any _ _).mono ?_; rintro e w1 ⟨rfl, rfl⟩; rw [HD.out])
                              | (go_at_call 28; refine (rSmall_any _ _ _ HES.out).mono ?_; rintro e w1 ⟨rfl, rfl⟩; rw [HSM.out])
                              | (at_builtin; refine wpList_append_lies _ rfl _ _ 57 rfl wo.heap.size 62 j0 (.agg #[.int .i64 0, .string ByteArray.empty]) 2 24 Tryd.underlying57 hj0 hy0 hy1 hy2 rfl (by decide) u8 its.length cs2 rfl ((hown2.out.grow keepsItem HW4.out).1.alloc _) ⟨W4.heap.size, 0, none⟩ 1 1 [.int .i64 v, .string ⟨#[]⟩] rfl rfl ?c1 ?c2 (by omega) ?c3 ?c4 ?c5 (W4.heap.size + 1) ?c6 ?_))
                            case c1 => exact cell_news _ [.int .i64 v, .string ⟨#[]⟩] _ _ rfl
                            case c2 => simp [Value.oneCell']
                            case c3 => simp [maxLen]; omega
                            case c4 => omega
                            case c5 => have := HW2.out.size; have := HW4.out.size; simp; omega
                            case c6 => simp
                            intro g2 cap2 w5 hown5 hgrow5 hat5 hlt5
                            have hbb := news_alloc W4 (.cells #[.int .i64 v, .string ⟨#[]⟩] 62)
                            have HOW5 := Lib.hid (OwnSl.snoc keepsItem ((hown2.out.grow keepsItem HW4.out).grow keepsItem hbb) (vs := [.int .i64 v, .string ⟨#[]⟩]) (x := ⟨v, ByteArray.empty⟩) rfl ⟨rfl, HI.out, empty_size⟩ hown5 hgrow5 (hat_of hat5 (by simp)))
                            have HBW5 := Lib.hid (((HW2.out.trans (HW4.out.mono HW2.out.size)).trans (hbb.mono (by have := HW2.out.size; have := HW4.out.size; omega))).grown hgrow5 (by have := HW2.out.size; have := HW4.out.size; simp; omega) (fun j hj => (hown2.out.1.lt j hj).1))
                            clear hown5 hgrow5 hat5 hlt5 hbb
                            go_wp2_with fail
                            go_roundw
                            case rel => exact ⟨e, its ++ [⟨v, ByteArray.empty⟩], _, hec, rfl, by rw [List.length_append, List.length_singleton]; omega, HOW5, Lib.hid (comp_step HC2.out HSTEP.out), HBW5⟩
                            case measure => simp [intOf]; omega
                        · have hd0 : digB c[a].toNat = false := by simpa using hd
                          have HD := Lib.hid hd0
                          have HLT : Hid (let_ c[a] = true) := Lib.hid (by
                            have := HGA.out
                            unfold good at this
                            rw [show dig c[a] = false from hd0, Bool.false_or] at this
                            exact this)
                          have HRUN : Hid (runN let_ (c.data.toList.drop a) = e - a) := Lib.hid (run_sort (sort_let hd0) HGC.out hae (by rw [HZC.out]; exact hec) HA.out HEND.out)
                          clear hd hd0
                          have HSTEP : Hid (compA (c.data.toList.drop a) = (compA (c.data.toList.drop e)).map (⟨0, c.extract a e⟩ :: ·)) := Lib.hid (by
                            rw [compA_let HXA0.out HLT.out, HRUN.out, List.drop_drop, show a + (e - a) = e by omega, ← HXT.out])
                          go_wp2_with (first
                            | (go_at_call 53; refine (rdigit_any _ _).mono ?_; rintro e w1 ⟨rfl, rfl⟩; rw [HD.out])
                            | (at_builtin; refine wpList_append_lies _ rfl _ _ 57 rfl wo.heap.size 62 j0 (.agg #[.int .i64 0, .string ByteArray.empty]) 2 24 Tryd.underlying57 hj0 hy0 hy1 hy2 rfl (by decide) u8 its.length cs2 rfl ((hown2.out.grow keepsItem HW4.out).1.alloc _) ⟨W4.heap.size, 0, none⟩ 1 1 [.int .i64 0, .string (c.extract a e)] rfl rfl ?c1 ?c2 (by omega) ?c3 ?c4 ?c5 (W4.heap.size + 1) ?c6 ?_))
                          case c1 => exact cell_news _ [.int .i64 0, .string (c.extract a e)] _ _ rfl
                          case c2 => simp [Value.oneCell']
                          case c3 => simp [maxLen]; omega
                          case c4 => omega
                          case c5 => have := HW2.out.size; have := HW4.out.size; simp; omega
                          case c6 => simp
                          intro g2 cap2 w5 hown5 hgrow5 hat5 hlt5
                          have hbb := news_alloc W4 (.cells #[.int .i64 0, .string (c.extract a e)] 62)
                          have HOW5 := Lib.hid (OwnSl.snoc keepsItem ((hown2.out.grow keepsItem HW4.out).grow keepsItem hbb) (vs := [.int .i64 0, .string (c.extract a e)]) (x := ⟨0, c.extract a e⟩) rfl ⟨rfl, i64_zero, HWB.out⟩ hown5 hgrow5 (hat_of hat5 (by simp)))
                          have HBW5 := Lib.hid (((HW2.out.trans (HW4.out.mono HW2.out.size)).trans (hbb.mono (by have := HW2.out.size; have := HW4.out.size; omega))).grown hgrow5 (by have := HW2.out.size; have := HW4.out.size; simp; omega) (fun j hj => (hown2.out.1.lt j hj).1))
                          clear hown5 hgrow5 hat5 hlt5 hbb
                          go_wp2_with fail
                          go_roundw
                          case rel => exact ⟨e, its ++ [⟨0, c.extract a e⟩], _, hec, rfl, by rw [List.length_append, List.length_singleton]; omega, HOW5, Lib.hid (comp_step HC2.out HSTEP.out), HBW5⟩
                          case measure => simp [intOf]; omega
                  · obtain rfl : a = c.size := by omega
                    have HF : Hid (compL c.data.toList = some its) := Lib.hid (by rw [HC2.out, List.drop_eq_nil_of_le (by rw [HZC.out]; exact Nat.le_refl _), compA_nil]; simp)
                    have HYC := Lib.hid (HYES.out _ HF.out)
                    obtain ⟨A2, d2, rfl, hl2, hc2⟩ := (hown2.out.slLt keepsItem).form
                    have HO9 := Lib.hid (hown.out.grow keepsComp HW2.out)
                    go_wp2_with (at_builtin; refine wpList_append_lies _ rfl _ _ 23 rfl w.heap.size 57 i0 (.slice none 0 0) 1 24 Tryd.underlying23 hi0 hz0 hz1 hz2 rfl (by decide) u4 acc.length cs rfl (HO9.out.1.alloc _) ⟨wp.heap.size, 0, none⟩ 1 1 [.slice A2 its.length d2] rfl rfl ?c1 ?c2 (by omega) ?c3 ?c4 ?c5 (wp.heap.size + 1) ?c6 ?_)
                    case c1 => exact cell_news _ [.slice A2 its.length d2] _ _ rfl
                    case c2 => simp [Value.oneCell']
                    case c3 => simp [maxLen]; omega
                    case c4 => omega
                    case c5 => have := HW.out.size; have := HW2.out.size; simp; omega
                    case c6 => simp
                    intro g6 cap6 w6 hown6 hgrow6 hat6 hlt6
                    have hbb : Below wp.heap.size wp (wp.alloc (.cells #[.slice A2 its.length d2] 57)) := news_alloc _ _
                    have HOW6 := Lib.hid (OwnSl.snoc keepsComp (HO9.out.grow keepsComp hbb) (vs := [.slice A2 its.length d2]) (x := its) rfl (rcomp_of (hown2.out.grow keepsItem hbb) HW.out.size (fun j hj => (hown.out.1.lt j hj).2)) hown6 hgrow6 (hat_of hat6 (by simp)))
                    have HBW6 := Lib.hid (((HW.out.trans (HW2.out.mono HW.out.size)).trans (hbb.mono (by have := HW.out.size; have := HW2.out.size; omega))).grown hgrow6 (by have := HW.out.size; have := HW2.out.size; simp; omega) (fun j hj => (hown.out.1.lt j hj).1))
                    clear hown6 hgrow6 hat6 hlt6 hbb
                    go_wp2_with fail
                    go_roundw
                    case rel => exact ⟨k + 1, k + 1, acc ++ [its], _, by omega, by go_num, by go_num, Nat.le_refl _, by rw [List.length_append, List.length_singleton]; omega, HOW6, Lib.hid (fun j x h1 h2 => absurd h1 (by omega)), HYC, HBW6⟩
                    case measure => simp [intOf]; omega
          · have g1 : (s[k].toNat : Int) = 95 := by rw [hb]; rfl
            clear hb hsep
            obtain ⟨wo, hwo⟩ : ∃ wo : World, wo = wr := ⟨_, rfl⟩
            subst hwo
            have hcs : (s.extract fr k).size = k - fr := by rw [ByteArray.size_extract]; omega
            by_cases hem : k - fr = 0
            · have hemp := isEmpty_of (s := s.extract fr k) (by omega)
              have HF : Hid (compsL s.data.toList = none) := Lib.hid (HNO.out (compL_empty (by omega)))
              go_wp2_with fail
              go_ret2
              exact ⟨CompsPost.no HF.out, HW.out⟩
            · have hemp := not_isEmpty_of (s := s.extract fr k) (by omega)
              have hpos : 0 < (s.extract fr k).size := by omega
              have HGC := Lib.hid (sub_good HG.out)
              have hcb : (s.extract fr k).size ≤ 1000000000 := by omega
              have HCS := Lib.hid hcs
              have hpos2 : 0 < k - fr := by omega
              clear hcs hem
              go_wp2_with fail
              have HOI : Hid (OwnSl 2 62 RItem (wo.alloc (.cells #[] 62)) wo.heap.size (.slice (some ⟨wo.heap.size, 0, none⟩) 0 0) [] ([] : List Item)) := Lib.hid (own_empty _ _ _ _ _ (Nat.le_refl _))
              have HBI := Lib.hid (news_alloc wo (.cells #[] 62))
              have HSI : Hid ((wo.alloc (.cells #[] 62)).heap.size = wo.heap.size + 1) := Lib.hid (by simp)
              generalize wo.alloc (.cells #[] 62) = W1 at *
              have hc00 := byteAt hpos
              obtain ⟨b0, hb0⟩ : ∃ b, (s.extract fr k)[0] = b := ⟨_, rfl⟩
              rw [hb0] at hc00
              have HC0 := Lib.hid hc00
              simp only [hb0]
              clear hb0 hc00 hpos2
              generalize s.extract fr k = c at *
              have HZC : Hid (c.data.toList.length = c.size) := Lib.hid (by simp)
              have HPRE : Hid (preL c.data.toList = if letB b0.toNat then [Item.zero] else []) := Lib.hid (by
                have h1 := HC0.out
                cases hl : c.data.toList with
                | nil => rw [hl] at h1; simp at h1
                | cons a l => rw [hl] at h1; simp at h1; rw [← h1]; rfl)
              have HCL : Hid (compL c.data.toList = (compA c.data.toList).map (preL c.data.toList ++ ·)) := Lib.hid (if_neg (by intro h; have := HZC.out; rw [h] at this; simp at this; omega))
              by_cases hl : letB b0.toNat = true
              · have HL := Lib.hid hl
                clear hl
                refine (rletter_any _ _).mono ?_
                rintro e w1 ⟨rfl, rfl⟩
                rw [HL.out]
                go_wp2_with (at_builtin; refine wpList_append_lies _ rfl _ _ 57 rfl wo.heap.size 62 j0 (.agg #[.int .i64 0, .string ByteArray.empty]) 2 24 Tryd.underlying57 hj0 hy0 hy1 hy2 rfl (by decide) (.slice (some ⟨wo.heap.size, 0, none⟩) 0 0) 0 [] rfl (HOI.out.1.alloc _) ⟨W1.heap.size, 0, none⟩ 1 1 [.int .i64 0, .string ⟨#[]⟩] rfl rfl ?c1 ?c2 (by omega) ?c3 ?c4 ?c5 (W1.heap.size + 1) ?c6 ?_)
                case c1 => exact cell_news _ [.int .i64 0, .string ⟨#[]⟩] _ _ rfl
                case c2 => simp [Value.oneCell']
                case c3 => simp [maxLen]
                case c4 => omega
                case c5 => simp; have := HSI.out; omega
                case c6 => simp
                intro g0 cap0 w1 hown1 hgrow1 hat1 hlt1
                have hbb := news_alloc W1 (.cells #[.int .i64 0, .string ⟨#[]⟩] 62)
                have HOW2 : Hid (OwnSl 2 62 RItem w1 wo.heap.size (.slice (some ⟨g0, 0, none⟩) 1 cap0) [.int .i64 0, .string ⟨#[]⟩] [Item.zero]) :=
                  Lib.hid (OwnSl.snoc keepsItem (HOI.out.grow keepsItem hbb) (vs := [.int .i64 0, .string ⟨#[]⟩]) (x := Item.zero) rfl ⟨rfl, i64_zero, by decide⟩ hown1 hgrow1 (hat_of hat1 (by simp)))
                have HBW2 : Hid (Below wo.heap.size wo w1) := Lib.hid ((HBI.out.trans (hbb.mono HBI.out.size)).grown hgrow1 (by have := HSI.out; simp; omega) (fun j hj => (HOI.out.1.lt j hj).1))
                have HCI : Hid (compL c.data.toList = (compA (c.data.toList.drop 0)).map ([Item.zero] ++ ·)) := Lib.hid (by rw [HCL.out, HPRE.out, HL.out]; rfl)
                clear hown1 hgrow1 hat1 hlt1 hbb
                go_wp2_with fail
                go_loopw [8, 9] (fun v i wr => ∃ (a : Nat) (its : List Item) (cs2 : List Value), a ≤ c.size ∧ i = .int .i64 a ∧ its.length ≤ a + 1 ∧ Hid (OwnSl 2 62 RItem wr wo.heap.size v cs2 its) ∧ Hid (compL c.data.toList = (compA (c.data.toList.drop a)).map (its ++ ·)) ∧ Hid (Below wo.heap.size wo wr)) (fun _ i _ => c.size - (intOf i).toNat)
                case atStart => exact ⟨0, _, _, Nat.zero_le _, rfl, by simp, HOW2, HCI, HBW2⟩
                case round =>
                  obtain ⟨a, its, cs2, hac, rfl, hits, hown2, HC2, HW2⟩ := hrel
                  obtain ⟨wp, hwp⟩ : ∃ wp : World, wp = wr := ⟨_, rfl⟩
                  subst hwp
                  by_cases hal : a < c.size
                  · have HXA := Lib.hid (byteAt hal)
                    have HXA0 : Hid ((c.data.toList.drop a)[0]? = some c[a]) := Lib.hid (by rw [List.getElem?_drop]; exact HXA.out)
                    have HGA := Lib.hid (HGC.out _ _ HXA.out)
                    go_wp2_with fail
                    go_loopw [10] (fun i wr => ∃ e : Nat, a ≤ e ∧ e ≤ c.size ∧ i = .int .i64 e ∧ Hid (∀ (j : Nat) (x : UInt8), a ≤ j → j < e → c.data.toList[j]? = some x → dig x = dig c[a]) ∧ Hid (Below wp.heap.size wp wr)) (fun i _ => c.size - (intOf i).toNat)
                    case atStart => exact ⟨a, Nat.le_refl _, by omega, rfl, Lib.hid (fun j x h1 h2 => absurd h1 (by omega)), Lib.hid (Below.refl _ _)⟩
                    case round =>
                      obtain ⟨e, hae, hec, rfl, HA, HW3⟩ := hrel
                      by_cases hel : e < c.size
                      · have HXE := Lib.hid (byteAt hel)
                        have hg1 : (e : Int) < (c.size : Int) := by omega
                        have hg2 : decide ((e : Int) < (c.size : Int)) = true := decide_eq_true hg1
                        by_cases hq : digB c[e].toNat = digB c[a].toNat
                        · have hq2 : (digB c[e].toNat == digB c[a].toNat) = true := by simpa using hq
                          go_wp2_with fail
                          refine wp_region_quiet_below (by kernel_rfl) (by kernel_rfl) ?_
                          repeat (first | go_big_quiet_step ((go_at_call 53; exact regrown_same (rdigit_any _ _))) | quiet_step ((go_at_call 53; exact regrown_same (rdigit_any _ _))))
                          refine wpQuiet_nil ?_
                          intro _ hwq
                          obtain ⟨⟨q, os⟩, hwq⟩ := hwq
                          subst hwq
                          have HB1 := Lib.hid (below_regrown wr q os)
                          generalize grow (redrawn wr q) os = W4 at *
                          go_wp2_with fail
                          go_roundw
                          case rel => exact ⟨e + 1, by omega, by omega, by go_num, Lib.hid (fun j x h1 h2 hx => by
                            by_cases hj : j = e
                            · subst hj
                              rw [HXE.out] at hx
                              obtain rfl := Option.some.inj hx
                              exact hq
                            · exact HA.out j x h1 (by omega) hx), Lib.hid (HW3.out.trans (HB1.out.mono HW3.out.size))⟩
                          case measure => simp [intOf]; omega
                        · have hq2 : (digB c[e].toNat == digB c[a].toNat) = false := by simpa using hq
                          have HEND : Hid (∀ x, c.data.toList[e]? = some x → ¬ dig x = dig c[a]) := Lib.hid (fun x hx => by
                            rw [HXE.out] at hx
                            obtain rfl := Option.some.inj hx
                            exact hq)
                          have hlt2 : a < e := by
                            rcases Nat.lt_or_ge a e with h | h
                            · exact h
                            · exfalso
                              obtain rfl : e = a := by omega
                              exact hq rfl
                          go_wp2_with fail
                          refine wp_region_quiet_below (by kernel_rfl) (by kernel_rfl) ?_
                          repeat (first | go_big_quiet_step ((go_at_call 53; exact regrown_same (rdigit_any _ _))) | quiet_step ((go_at_call 53; exact regrown_same (rdigit_any _ _))))
                          refine wpQuiet_nil ?_
                          intro _ hwq
                          obtain ⟨⟨q, os⟩, hwq⟩ := hwq
                          subst hwq
                          have HB1 := Lib.hid (below_regrown wr q os)
                          have HW4 := Lib.hid (HW3.out.trans (HB1.out.mono HW3.out.size))
                          clear HB1
                          generalize grow (redrawn wr q) os = W4 at *
                          have hes : (c.extract a e).size ≤ 1000000000 := by rw [ByteArray.size_extract]; omega
                          have HES := Lib.hid hes
                          have HXT : Hid ((c.extract a e).data.toList = (c.data.toList.drop a).take (e - a)) := Lib.hid (toList_cut _ _ _)
                          have HWB : Hid ((c.extract a e).size ≤ 9223372036854775807) := Lib.hid (by omega)
                          clear hes
                          by_cases hd : digB c[a].toNat = true
                          · have HD := Lib.hid hd
                            have HNL : Hid (let_ c[a] = false) := Lib.hid (by
                              cases h : let_ c[a] with
                              | false => rfl
                              | true => exact absurd (let_not_dig h) (by show ¬ digB c[a].toNat = false; rw [hd]; simp))
                            have HRUN : Hid (runN dig (c.data.toList.drop a) = e - a) := Lib.hid (run_sort (sort_dig hd) HGC.out hae (by rw [HZC.out]; exact hec) HA.out HEND.out)
                            clear hd
                            have HCA := Lib.hid (compA_dig HXA0.out HNL.out HD.out)
                            cases hsm : smallL (c.extract a e).data.toList 1000000000000000 with
                            | none =>
                              have HSM : Hid (smallR (c.extract a e).data.toList 1000000000000000 = -1) := Lib.hid (by unfold smallR; rw [hsm]; rfl)
                              have HF : Hid (compsL s.data.toList = none) := Lib.hid (HNO.out (by
                                rw [HC2.out, HCA.out, HRUN.out, ← HXT.out, ← small_most, hsm]; rfl))
                              clear hsm
                              go_wp2_with (first
                                | (go_at_call 53; refine (rdigit_any _ _).mono ?_; rintro e w1 ⟨rfl, rfl⟩; rw [HD.out])
                                | (go_at_call 28; refine (rSmall_any _ _ _ HES.out).mono ?_; rintro e w1 ⟨rfl, rfl⟩; rw [HSM.out]))
                              go_ret2
                              exact ⟨CompsPost.no HF.out, HW.out.trans ((HW2.out.trans (HW4.out.mono HW2.out.size)).mono HW.out.size)⟩
                            | some v =>
                              have HSM : Hid (smallR (c.extract a e).data.toList 1000000000000000 = v) := Lib.hid (by unfold smallR; rw [hsm]; rfl)
                              have hv := smallL_bd hsm
                              have HI := Lib.hid (i64_small hsm)
                              have HSTEP : Hid (compA (c.data.toList.drop a) = (compA (c.data.toList.drop e)).map (⟨v, ByteArray.empty⟩ :: ·)) := Lib.hid (by
                                rw [HCA.out, HRUN.out, ← HXT.out, ← small_most, hsm, List.drop_drop, show a + (e - a) = e by omega]; rfl)
                              have hv0 : ¬ v < 0 := by omega
                              clear hsm hv
                              go_wp2_with (first
                                | (go_at_call 53; refine (rdigit_any _ _).mono ?_; rintro e w1 ⟨rfl, rfl⟩; rw [HD.out])
                                | (go_at_call 28; refine (rSmall_any _ _ _ HES.out).mono ?_; rintro e w1 ⟨rfl, rfl⟩; rw [HSM.out])
                                | (at_builtin; refine wpList_append_lies _ rfl _ _ 57 rfl wo.heap.size 62 j0 (.agg #[.int .i64 0, .string ByteArray.empty]) 2 24 Tryd.underlying57 hj0 hy0 hy1 hy2 rfl (by decide) u8 its.length cs2 rfl ((hown2.out.grow keepsItem HW4.out).1.alloc _) ⟨W4.heap.size, 0, none⟩ 1 1 [.int .i64 v, .string ⟨#[]⟩] rfl rfl ?c1 ?c2 (by omega) ?c3 ?c4 ?c5 (W4.heap.size + 1) ?c6 ?_))
                              case c1 => exact cell_news _ [.int .i64 v, .string ⟨#[]⟩] _ _ rfl
                              case c2 => simp [Value.oneCell']
                              case c3 => simp [maxLen]; omega
                              case c4 => omega
                              case c5 => have := HW2.out.size; have := HW4.out.size; simp; omega
                              case c6 => simp
                              intro g2 cap2 w5 hown5 hgrow5 hat5 hlt5
                              have hbb := news_alloc W4 (.cells #[.int .i64 v, .string ⟨#[]⟩] 62)
                              have HOW5 := Lib.hid (OwnSl.snoc keepsItem ((hown2.out.grow keepsItem HW4.out).grow keepsItem hbb) (vs := [.int .i64 v, .string ⟨#[]⟩]) (x := ⟨v, ByteArray.empty⟩) rfl ⟨rfl, HI.out, empty_size⟩ hown5 hgrow5 (hat_of hat5 (by simp)))
                              have HBW5 := Lib.hid (((HW2.out.trans (HW4.out.mono HW2.out.size)).trans (hbb.mono (by have := HW2.out.size; have := HW4.out.size; omega))).grown hgrow5 (by have := HW2.out.size; have := HW4.out.size; simp; omega) (fun j hj => (hown2.out.1.lt j hj).1))
                              clear hown5 hgrow5 hat5 hlt5 hbb
                              go_wp2_with fail
                              go_roundw
                              case rel => exact ⟨e, its ++ [⟨v, ByteArray.empty⟩], _, hec, rfl, by rw [List.length_append, List.length_singleton]; omega, HOW5, Lib.hid (comp_step HC2.out HSTEP.out), HBW5⟩
                              case measure => simp [intOf]; omega
                          · have hd0 : digB c[a].toNat = false := by simpa using hd
                            have HD := Lib.hid hd0
                            have HLT : Hid (let_ c[a] = true) := Lib.hid (by
                              have := HGA.out
                              unfold good at this
                              rw [show dig c[a] = false from hd0, Bool.false_or] at this
                              exact this)
                            have HRUN : Hid (runN let_ (c.data.toList.drop a) = e - a) := Lib.hid (run_sort (sort_let hd0) HGC.out hae (by rw [HZC.out]; exact hec) HA.out HEND.out)
                            clear hd hd0
                            have HSTEP : Hid (compA (c.data.toList.drop a) = (compA (c.data.toList.drop e)).map (⟨0, c.extract a e⟩ :: ·)) := Lib.hid (by
                              rw [compA_let HXA0.out HLT.out, HRUN.out, List.drop_drop, show a + (e - a) = e by omega, ← HXT.out])
                            go_wp2_with (first
                              | (go_at_call 53; refine (rdigit_any _ _).mono ?_; rintro e w1 ⟨rfl, rfl⟩; rw [HD.out])
                              | (at_builtin; refine wpList_append_lies _ rfl _ _ 57 rfl wo.heap.size 62 j0 (.agg #[.int .i64 0, .string ByteArray.empty]) 2 24 Tryd.underlying57 hj0 hy0 hy1 hy2 rfl (by decide) u8 its.length cs2 rfl ((hown2.out.grow keepsItem HW4.out).1.alloc _) ⟨W4.heap.size, 0, none⟩ 1 1 [.int .i64 0, .string (c.extract a e)] rfl rfl ?c1 ?c2 (by omega) ?c3 ?c4 ?c5 (W4.heap.size + 1) ?c6 ?_))
                            case c1 => exact cell_news _ [.int .i64 0, .string (c.extract a e)] _ _ rfl
                            case c2 => simp [Value.oneCell']
                            case c3 => simp [maxLen]; omega
                            case c4 => omega
                            case c5 => have := HW2.out.size; have := HW4.out.size; simp; omega
                            case c6 => simp
                            intro g2 cap2 w5 hown5 hgrow5 hat5 hlt5
                            have hbb := news_alloc W4 (.cells #[.int .i64 0, .string (c.extract a e)] 62)
                            have HOW5 := Lib.hid (OwnSl.snoc keepsItem ((hown2.out.grow keepsItem HW4.out).grow keepsItem hbb) (vs := [.int .i64 0, .string (c.extract a e)]) (x := ⟨0, c.extract a e⟩) rfl ⟨rfl, i64_zero, HWB.out⟩ hown5 hgrow5 (hat_of hat5 (by simp)))
                            have HBW5 := Lib.hid (((HW2.out.trans (HW4.out.mono HW2.out.size)).trans (hbb.mono (by have := HW2.out.size; have := HW4.out.size; omega))).grown hgrow5 (by have := HW2.out.size; have := HW4.out.size; simp; omega) (fun j hj => (hown2.out.1.lt j hj).1))
                            clear hown5 hgrow5 hat5 hlt5 hbb
                            go_wp2_with fail
                            go_roundw
                            case rel => exact ⟨e, its ++ [⟨0, c.extract a e⟩], _, hec, rfl, by rw [List.length_append, List.length_singleton]; omega, HOW5, Lib.hid (comp_step HC2.out HSTEP.out), HBW5⟩
                            case measure => simp [intOf]; omega
                      · have HEND : Hid (∀ x, c.data.toList[e]? = some x → ¬ dig x = dig c[a]) := Lib.hid (fun x hx => by
                          rw [List.getElem?_eq_none (by rw [HZC.out]; omega)] at hx
                          cases hx)
                        have hlt2 : a < e := by omega
                        have hg1 : ¬ (e : Int) < (c.size : Int) := by omega
                        have hg2 : decide ((e : Int) < (c.size : Int)) = false := decide_eq_false hg1
                        go_wp2_with fail
                        refine wp_region_quiet_below (by kernel_rfl) (by kernel_rfl) ?_
                        repeat (first | go_big_quiet_step ((go_at_call 53; exact regrown_same (rdigit_any _ _))) | quiet_step ((go_at_call 53; exact regrown_same (rdigit_any _ _))))
                        refine wpQuiet_nil ?_
                        intro _ hwq
                        obtain ⟨⟨q, os⟩, hwq⟩ := hwq
                        subst hwq
                        have HB1 := Lib.hid (below_regrown wr q os)
                        have HW4 := Lib.hid (HW3.out.trans (HB1.out.mono HW3.out.size))
                        clear HB1
                        generalize grow (redrawn wr q) os = W4 at *
                        have hes : (c.extract a e).size ≤ 1000000000 := by rw [ByteArray.size_extract]; omega
                        have HES := Lib.hid hes
                        have HXT : Hid ((c.extract a e).data.toList = (c.data.toList.drop a).take (e - a)) := Lib.hid (toList_cut _ _ _)
                        have HWB : Hid ((c.extract a e).size ≤ 9223372036854775807) := Lib.hid (by omega)
                        clear hes
                        by_cases hd : digB c[a].toNat = true
                        · have HD := Lib.hid hd
                          have HNL : Hid (let_ c[a] = false) := Lib.hid (by
                            cases h : let_ c[a] with
                            | false => rfl
                            | true => exact absurd (let_not_dig h) (by show ¬ digB c[a].toNat = false; rw [hd]; simp))
                          have HRUN : Hid (runN dig (c.data.toList.drop a) = e - a) := Lib.hid (run_sort (sort_dig hd) HGC.out hae (by rw [HZC.out]; exact hec) HA.out HEND.out)
                          clear hd
                          have HCA := Lib.hid (compA_dig HXA0.out HNL.out HD.out)
                          cases hsm : smallL (c.extract a e).data.toList 1000000000000000 with
                          | none =>
                            have HSM : Hid (smallR (c.extract a e).data.toList 1000000000000000 = -1) := Lib.hid (by unfold smallR; rw [hsm]; rfl)
                            have HF : Hid (compsL s.data.toList = none) := Lib.hid (HNO.out (by
                              rw [HC2.out, HCA.out, HRUN.out, ← HXT.out, ← small_most, hsm]; rfl))
                            clear hsm
                            go_wp2_with (first
                              | (go_at_call 53; refine (rdigit_any _ _).mono ?_; rintro e w1 ⟨rfl, rfl⟩; rw [HD.out])
                              | (go_at_call 28; refine (rSmall_any _ _ _ HES.out).mono ?_; rintro e w1 ⟨rfl, rfl⟩; rw [HSM.out]))
                            go_ret2
                            exact ⟨CompsPost.no HF.out, HW.out.trans ((HW2.out.trans (HW4.out.mono HW2.out.size)).mono HW.out.size)⟩
                          | some v =>
                            have HSM : Hid (smallR (c.extract a e).data.toList 1000000000000000 = v) := Lib.hid (by unfold smallR; rw [hsm]; rfl)
                            have hv := smallL_bd hsm
                            have HI := Lib.hid (i64_small hsm)
                            have HSTEP : Hid (compA (c.data.toList.drop a) = (compA (c.data.toList.drop e)).map (⟨v, ByteArray.empty⟩ :: ·)) := Lib.hid (by
                              rw [HCA.out, HRUN.out, ← HXT.out, ← small_most, hsm, List.drop_drop, show a + (e - a) = e by omega]; rfl)
                            have hv0 : ¬ v < 0 := by omega
                            clear hsm hv
                            go_wp2_with (first
                              | (go_at_call 53; refine (rdigit_any _ _).mono ?_; rintro e w1 ⟨rfl, rfl⟩; rw [HD.out])
                              | (go_at_call 28; refine (rSmall_any _ _ _ HES.out).mono ?_; rintro e w1 ⟨rfl, rfl⟩; rw [HSM.out])
                              | (at_builtin; refine wpList_append_lies _ rfl _ _ 57 rfl wo.heap.size 62 j0 (.agg #[.int .i64 0, .string ByteArray.empty]) 2 24 Tryd.underlying57 hj0 hy0 hy1 hy2 rfl (by decide) u8 its.length cs2 rfl ((hown2.out.grow keepsItem HW4.out).1.alloc _) ⟨W4.heap.size, 0, none⟩ 1 1 [.int .i64 v, .string ⟨#[]⟩] rfl rfl ?c1 ?c2 (by omega) ?c3 ?c4 ?c5 (W4.heap.size + 1) ?c6 ?_))
                            case c1 => exact cell_news _ [.int .i64 v, .string ⟨#[]⟩] _ _ rfl
                            case c2 => simp [Value.oneCell']
                            case c3 => simp [maxLen]; omega
                            case c4 => omega
                            case c5 => have := HW2.out.size; have := HW4.out.size; simp; omega
                            case c6 => simp
                            intro g2 cap2 w5 hown5 hgrow5 hat5 hlt5
                            have hbb := news_alloc W4 (.cells #[.int .i64 v, .string ⟨#[]⟩] 62)
                            have HOW5 := Lib.hid (OwnSl.snoc keepsItem ((hown2.out.grow keepsItem HW4.out).grow keepsItem hbb) (vs := [.int .i64 v, .string ⟨#[]⟩]) (x := ⟨v, ByteArray.empty⟩) rfl ⟨rfl, HI.out, empty_size⟩ hown5 hgrow5 (hat_of hat5 (by simp)))
                            have HBW5 := Lib.hid (((HW2.out.trans (HW4.out.mono HW2.out.size)).trans (hbb.mono (by have := HW2.out.size; have := HW4.out.size; omega))).grown hgrow5 (by have := HW2.out.size; have := HW4.out.size; simp; omega) (fun j hj => (hown2.out.1.lt j hj).1))
                            clear hown5 hgrow5 hat5 hlt5 hbb
                            go_wp2_with fail
                            go_roundw
                            case rel => exact ⟨e, its ++ [⟨v, ByteArray.empty⟩], _, hec, rfl, by rw [List.length_append, List.length_singleton]; omega, HOW5, Lib.hid (comp_step HC2.out HSTEP.out), HBW5⟩
                            case measure => simp [intOf]; omega
                        · have hd0 : digB c[a].toNat = false := by simpa using hd
                          have HD := Lib.hid hd0
                          have HLT : Hid (let_ c[a] = true) := Lib.hid (by
                            have := HGA.out
                            unfold good at this
                            rw [show dig c[a] = false from hd0, Bool.false_or] at this
                            exact this)
                          have HRUN : Hid (runN let_ (c.data.toList.drop a) = e - a) := Lib.hid (run_sort (sort_let hd0) HGC.out hae (by rw [HZC.out]; exact hec) HA.out HEND.out)
                          clear hd hd0
                          have HSTEP : Hid (compA (c.data.toList.drop a) = (compA (c.data.toList.drop e)).map (⟨0, c.extract a e⟩ :: ·)) := Lib.hid (by
                            rw [compA_let HXA0.out HLT.out, HRUN.out, List.drop_drop, show a + (e - a) = e by omega, ← HXT.out])
                          go_wp2_with (first
                            | (go_at_call 53; refine (rdigit_any _ _).mono ?_; rintro e w1 ⟨rfl, rfl⟩; rw [HD.out])
                            | (at_builtin; refine wpList_append_lies _ rfl _ _ 57 rfl wo.heap.size 62 j0 (.agg #[.int .i64 0, .string ByteArray.empty]) 2 24 Tryd.underlying57 hj0 hy0 hy1 hy2 rfl (by decide) u8 its.length cs2 rfl ((hown2.out.grow keepsItem HW4.out).1.alloc _) ⟨W4.heap.size, 0, none⟩ 1 1 [.int .i64 0, .string (c.extract a e)] rfl rfl ?c1 ?c2 (by omega) ?c3 ?c4 ?c5 (W4.heap.size + 1) ?c6 ?_))
                          case c1 => exact cell_news _ [.int .i64 0, .string (c.extract a e)] _ _ rfl
                          case c2 => simp [Value.oneCell']
                          case c3 => simp [maxLen]; omega
                          case c4 => omega
                          case c5 => have := HW2.out.size; have := HW4.out.size; simp; omega
                          case c6 => simp
                          intro g2 cap2 w5 hown5 hgrow5 hat5 hlt5
                          have hbb := news_alloc W4 (.cells #[.int .i64 0, .string (c.extract a e)] 62)
                          have HOW5 := Lib.hid (OwnSl.snoc keepsItem ((hown2.out.grow keepsItem HW4.out).grow keepsItem hbb) (vs := [.int .i64 0, .string (c.extract a e)]) (x := ⟨0, c.extract a e⟩) rfl ⟨rfl, i64_zero, HWB.out⟩ hown5 hgrow5 (hat_of hat5 (by simp)))
                          have HBW5 := Lib.hid (((HW2.out.trans (HW4.out.mono HW2.out.size)).trans (hbb.mono (by have := HW2.out.size; have := HW4.out.size; omega))).grown hgrow5 (by have := HW2.out.size; have := HW4.out.size; simp; omega) (fun j hj => (hown2.out.1.lt j hj).1))
                          clear hown5 hgrow5 hat5 hlt5 hbb
                          go_wp2_with fail
                          go_roundw
                          case rel => exact ⟨e, its ++ [⟨0, c.extract a e⟩], _, hec, rfl, by rw [List.length_append, List.length_singleton]; omega, HOW5, Lib.hid (comp_step HC2.out HSTEP.out), HBW5⟩
                          case measure => simp [intOf]; omega
                  · obtain rfl : a = c.size := by omega
                    have HF : Hid (compL c.data.toList = some its) := Lib.hid (by rw [HC2.out, List.drop_eq_nil_of_le (by rw [HZC.out]; exact Nat.le_refl _), compA_nil]; simp)
                    have HYC := Lib.hid (HYES.out _ HF.out)
                    obtain ⟨A2, d2, rfl, hl2, hc2⟩ := (hown2.out.slLt keepsItem).form
                    have HO9 := Lib.hid (hown.out.grow keepsComp HW2.out)
                    go_wp2_with (at_builtin; refine wpList_append_lies _ rfl _ _ 23 rfl w.heap.size 57 i0 (.slice none 0 0) 1 24 Tryd.underlying23 hi0 hz0 hz1 hz2 rfl (by decide) u4 acc.length cs rfl (HO9.out.1.alloc _) ⟨wp.heap.size, 0, none⟩ 1 1 [.slice A2 its.length d2] rfl rfl ?c1 ?c2 (by omega) ?c3 ?c4 ?c5 (wp.heap.size + 1) ?c6 ?_)
                    case c1 => exact cell_news _ [.slice A2 its.length d2] _ _ rfl
                    case c2 => simp [Value.oneCell']
                    case c3 => simp [maxLen]; omega
                    case c4 => omega
                    case c5 => have := HW.out.size; have := HW2.out.size; simp; omega
                    case c6 => simp
                    intro g6 cap6 w6 hown6 hgrow6 hat6 hlt6
                    have hbb : Below wp.heap.size wp (wp.alloc (.cells #[.slice A2 its.length d2] 57)) := news_alloc _ _
                    have HOW6 := Lib.hid (OwnSl.snoc keepsComp (HO9.out.grow keepsComp hbb) (vs := [.slice A2 its.length d2]) (x := its) rfl (rcomp_of (hown2.out.grow keepsItem hbb) HW.out.size (fun j hj => (hown.out.1.lt j hj).2)) hown6 hgrow6 (hat_of hat6 (by simp)))
                    have HBW6 := Lib.hid (((HW.out.trans (HW2.out.mono HW.out.size)).trans (hbb.mono (by have := HW.out.size; have := HW2.out.size; omega))).grown hgrow6 (by have := HW.out.size; have := HW2.out.size; simp; omega) (fun j hj => (hown.out.1.lt j hj).1))
                    clear hown6 hgrow6 hat6 hlt6 hbb
                    go_wp2_with fail
                    go_roundw
                    case rel => exact ⟨k + 1, k + 1, acc ++ [its], _, by omega, by go_num, by go_num, Nat.le_refl _, by rw [List.length_append, List.length_singleton]; omega, HOW6, Lib.hid (fun j x h1 h2 => absurd h1 (by omega)), HYC, HBW6⟩
                    case measure => simp [intOf]; omega
              · have HL : Hid (letB b0.toNat = false) := Lib.hid (by simpa using hl)
                clear hl
                refine (rletter_any _ _).mono ?_
                rintro e w1 ⟨rfl, rfl⟩
                rw [HL.out]
                have HCI : Hid (compL c.data.toList = (compA (c.data.toList.drop 0)).map (([] : List Item) ++ ·)) := Lib.hid (by rw [HCL.out, HPRE.out, HL.out]; rfl)
                go_wp2_with fail
                go_loopw [8, 9] (fun v i wr => ∃ (a : Nat) (its : List Item) (cs2 : List Value), a ≤ c.size ∧ i = .int .i64 a ∧ its.length ≤ a + 1 ∧ Hid (OwnSl 2 62 RItem wr wo.heap.size v cs2 its) ∧ Hid (compL c.data.toList = (compA (c.data.toList.drop a)).map (its ++ ·)) ∧ Hid (Below wo.heap.size wo wr)) (fun _ i _ => c.size - (intOf i).toNat)
                case atStart => exact ⟨0, _, _, Nat.zero_le _, rfl, by simp, HOI, HCI, HBI⟩
                case round =>
                  obtain ⟨a, its, cs2, hac, rfl, hits, hown2, HC2, HW2⟩ := hrel
                  obtain ⟨wp, hwp⟩ : ∃ wp : World, wp = wr := ⟨_, rfl⟩
                  subst hwp
                  by_cases hal : a < c.size
                  · have HXA := Lib.hid (byteAt hal)
                    have HXA0 : Hid ((c.data.toList.drop a)[0]? = some c[a]) := Lib.hid (by rw [List.getElem?_drop]; exact HXA.out)
                    have HGA := Lib.hid (HGC.out _ _ HXA.out)
                    go_wp2_with fail
                    go_loopw [10] (fun i wr => ∃ e : Nat, a ≤ e ∧ e ≤ c.size ∧ i = .int .i64 e ∧ Hid (∀ (j : Nat) (x : UInt8), a ≤ j → j < e → c.data.toList[j]? = some x → dig x = dig c[a]) ∧ Hid (Below wp.heap.size wp wr)) (fun i _ => c.size - (intOf i).toNat)
                    case atStart => exact ⟨a, Nat.le_refl _, by omega, rfl, Lib.hid (fun j x h1 h2 => absurd h1 (by omega)), Lib.hid (Below.refl _ _)⟩
                    case round =>
                      obtain ⟨e, hae, hec, rfl, HA, HW3⟩ := hrel
                      by_cases hel : e < c.size
                      · have HXE := Lib.hid (byteAt hel)
                        have hg1 : (e : Int) < (c.size : Int) := by omega
                        have hg2 : decide ((e : Int) < (c.size : Int)) = true := decide_eq_true hg1
                        by_cases hq : digB c[e].toNat = digB c[a].toNat
                        · have hq2 : (digB c[e].toNat == digB c[a].toNat) = true := by simpa using hq
                          go_wp2_with fail
                          refine wp_region_quiet_below (by kernel_rfl) (by kernel_rfl) ?_
                          repeat (first | go_big_quiet_step ((go_at_call 53; exact regrown_same (rdigit_any _ _))) | quiet_step ((go_at_call 53; exact regrown_same (rdigit_any _ _))))
                          refine wpQuiet_nil ?_
                          intro _ hwq
                          obtain ⟨⟨q, os⟩, hwq⟩ := hwq
                          subst hwq
                          have HB1 := Lib.hid (below_regrown wr q os)
                          generalize grow (redrawn wr q) os = W4 at *
                          go_wp2_with fail
                          go_roundw
                          case rel => exact ⟨e + 1, by omega, by omega, by go_num, Lib.hid (fun j x h1 h2 hx => by
                            by_cases hj : j = e
                            · subst hj
                              rw [HXE.out] at hx
                              obtain rfl := Option.some.inj hx
                              exact hq
                            · exact HA.out j x h1 (by omega) hx), Lib.hid (HW3.out.trans (HB1.out.mono HW3.out.size))⟩
                          case measure => simp [intOf]; omega
                        · have hq2 : (digB c[e].toNat == digB c[a].toNat) = false := by simpa using hq
                          have HEND : Hid (∀ x, c.data.toList[e]? = some x → ¬ dig x = dig c[a]) := Lib.hid (fun x hx => by
                            rw [HXE.out] at hx
                            obtain rfl := Option.some.inj hx
                            exact hq)
                          have hlt2 : a < e := by
                            rcases Nat.lt_or_ge a e with h | h
                            · exact h
                            · exfalso
                              obtain rfl : e = a := by omega
                              exact hq rfl
                          go_wp2_with fail
                          refine wp_region_quiet_below (by kernel_rfl) (by kernel_rfl) ?_
                          repeat (first | go_big_quiet_step ((go_at_call 53; exact regrown_same (rdigit_any _ _))) | quiet_step ((go_at_call 53; exact regrown_same (rdigit_any _ _))))
                          refine wpQuiet_nil ?_
                          intro _ hwq
                          obtain ⟨⟨q, os⟩, hwq⟩ := hwq
                          subst hwq
                          have HB1 := Lib.hid (below_regrown wr q os)
                          have HW4 := Lib.hid (HW3.out.trans (HB1.out.mono HW3.out.size))
                          clear HB1
                          generalize grow (redrawn wr q) os = W4 at *
                          have hes : (c.extract a e).size ≤ 1000000000 := by rw [ByteArray.size_extract]; omega
                          have HES := Lib.hid hes
                          have HXT : Hid ((c.extract a e).data.toList = (c.data.toList.drop a).take (e - a)) := Lib.hid (toList_cut _ _ _)
                          have HWB : Hid ((c.extract a e).size ≤ 9223372036854775807) := Lib.hid (by omega)
                          clear hes
                          by_cases hd : digB c[a].toNat = true
                          · have HD := Lib.hid hd
                            have HNL : Hid (let_ c[a] = false) := Lib.hid (by
                              cases h : let_ c[a] with
                              | false => rfl
                              | true => exact absurd (let_not_dig h) (by show ¬ digB c[a].toNat = false; rw [hd]; simp))
                            have HRUN : Hid (runN dig (c.data.toList.drop a) = e - a) := Lib.hid (run_sort (sort_dig hd) HGC.out hae (by rw [HZC.out]; exact hec) HA.out HEND.out)
                            clear hd
                            have HCA := Lib.hid (compA_dig HXA0.out HNL.out HD.out)
                            cases hsm : smallL (c.extract a e).data.toList 1000000000000000 with
                            | none =>
                              have HSM : Hid (smallR (c.extract a e).data.toList 1000000000000000 = -1) := Lib.hid (by unfold smallR; rw [hsm]; rfl)
                              have HF : Hid (compsL s.data.toList = none) := Lib.hid (HNO.out (by
                                rw [HC2.out, HCA.out, HRUN.out, ← HXT.out, ← small_most, hsm]; rfl))
                              clear hsm
                              go_wp2_with (first
                                | (go_at_call 53; refine (rdigit_any _ _).mono ?_; rintro e w1 ⟨rfl, rfl⟩; rw [HD.out])
                                | (go_at_call 28; refine (rSmall_any _ _ _ HES.out).mono ?_; rintro e w1 ⟨rfl, rfl⟩; rw [HSM.out]))
                              go_ret2
                              exact ⟨CompsPost.no HF.out, HW.out.trans ((HW2.out.trans (HW4.out.mono HW2.out.size)).mono HW.out.size)⟩
                            | some v =>
                              have HSM : Hid (smallR (c.extract a e).data.toList 1000000000000000 = v) := Lib.hid (by unfold smallR; rw [hsm]; rfl)
                              have hv := smallL_bd hsm
                              have HI := Lib.hid (i64_small hsm)
                              have HSTEP : Hid (compA (c.data.toList.drop a) = (compA (c.data.toList.drop e)).map (⟨v, ByteArray.empty⟩ :: ·)) := Lib.hid (by
                                rw [HCA.out, HRUN.out, ← HXT.out, ← small_most, hsm, List.drop_drop, show a + (e - a) = e by omega]; rfl)
                              have hv0 : ¬ v < 0 := by omega
                              clear hsm hv
                              go_wp2_with (first
                                | (go_at_call 53; refine (rdigit_any _ _).mono ?_; rintro e w1 ⟨rfl, rfl⟩; rw [HD.out])
                                | (go_at_call 28; refine (rSmall_any _ _ _ HES.out).mono ?_; rintro e w1 ⟨rfl, rfl⟩; rw [HSM.out])
                                | (at_builtin; refine wpList_append_lies _ rfl _ _ 57 rfl wo.heap.size 62 j0 (.agg #[.int .i64 0, .string ByteArray.empty]) 2 24 Tryd.underlying57 hj0 hy0 hy1 hy2 rfl (by decide) u8 its.length cs2 rfl ((hown2.out.grow keepsItem HW4.out).1.alloc _) ⟨W4.heap.size, 0, none⟩ 1 1 [.int .i64 v, .string ⟨#[]⟩] rfl rfl ?c1 ?c2 (by omega) ?c3 ?c4 ?c5 (W4.heap.size + 1) ?c6 ?_))
                              case c1 => exact cell_news _ [.int .i64 v, .string ⟨#[]⟩] _ _ rfl
                              case c2 => simp [Value.oneCell']
                              case c3 => simp [maxLen]; omega
                              case c4 => omega
                              case c5 => have := HW2.out.size; have := HW4.out.size; simp; omega
                              case c6 => simp
                              intro g2 cap2 w5 hown5 hgrow5 hat5 hlt5
                              have hbb := news_alloc W4 (.cells #[.int .i64 v, .string ⟨#[]⟩] 62)
                              have HOW5 := Lib.hid (OwnSl.snoc keepsItem ((hown2.out.grow keepsItem HW4.out).grow keepsItem hbb) (vs := [.int .i64 v, .string ⟨#[]⟩]) (x := ⟨v, ByteArray.empty⟩) rfl ⟨rfl, HI.out, empty_size⟩ hown5 hgrow5 (hat_of hat5 (by simp)))
                              have HBW5 := Lib.hid (((HW2.out.trans (HW4.out.mono HW2.out.size)).trans (hbb.mono (by have := HW2.out.size; have := HW4.out.size; omega))).grown hgrow5 (by have := HW2.out.size; have := HW4.out.size; simp; omega) (fun j hj => (hown2.out.1.lt j hj).1))
                              clear hown5 hgrow5 hat5 hlt5 hbb
                              go_wp2_with fail
                              go_roundw
                              case rel => exact ⟨e, its ++ [⟨v, ByteArray.empty⟩], _, hec, rfl, by rw [List.length_append, List.length_singleton]; omega, HOW5, Lib.hid (comp_step HC2.out HSTEP.out), HBW5⟩
                              case measure => simp [intOf]; omega
                          · have hd0 : digB c[a].toNat = false := by simpa using hd
                            have HD := Lib.hid hd0
                            have HLT : Hid (let_ c[a] = true) := Lib.hid (by
                              have := HGA.out
                              unfold good at this
                              rw [show dig c[a] = false from hd0, Bool.false_or] at this
                              exact this)
                            have HRUN : Hid (runN let_ (c.data.toList.drop a) = e - a) := Lib.hid (run_sort (sort_let hd0) HGC.out hae (by rw [HZC.out]; exact hec) HA.out HEND.out)
                            clear hd hd0
                            have HSTEP : Hid (compA (c.data.toList.drop a) = (compA (c.data.toList.drop e)).map (⟨0, c.extract a e⟩ :: ·)) := Lib.hid (by
                              rw [compA_let HXA0.out HLT.out, HRUN.out, List.drop_drop, show a + (e - a) = e by omega, ← HXT.out])
                            go_wp2_with (first
                              | (go_at_call 53; refine (rdigit_any _ _).mono ?_; rintro e w1 ⟨rfl, rfl⟩; rw [HD.out])
                              | (at_builtin; refine wpList_append_lies _ rfl _ _ 57 rfl wo.heap.size 62 j0 (.agg #[.int .i64 0, .string ByteArray.empty]) 2 24 Tryd.underlying57 hj0 hy0 hy1 hy2 rfl (by decide) u8 its.length cs2 rfl ((hown2.out.grow keepsItem HW4.out).1.alloc _) ⟨W4.heap.size, 0, none⟩ 1 1 [.int .i64 0, .string (c.extract a e)] rfl rfl ?c1 ?c2 (by omega) ?c3 ?c4 ?c5 (W4.heap.size + 1) ?c6 ?_))
                            case c1 => exact cell_news _ [.int .i64 0, .string (c.extract a e)] _ _ rfl
                            case c2 => simp [Value.oneCell']
                            case c3 => simp [maxLen]; omega
                            case c4 => omega
                            case c5 => have := HW2.out.size; have := HW4.out.size; simp; omega
                            case c6 => simp
                            intro g2 cap2 w5 hown5 hgrow5 hat5 hlt5
                            have hbb := news_alloc W4 (.cells #[.int .i64 0, .string (c.extract a e)] 62)
                            have HOW5 := Lib.hid (OwnSl.snoc keepsItem ((hown2.out.grow keepsItem HW4.out).grow keepsItem hbb) (vs := [.int .i64 0, .string (c.extract a e)]) (x := ⟨0, c.extract a e⟩) rfl ⟨rfl, i64_zero, HWB.out⟩ hown5 hgrow5 (hat_of hat5 (by simp)))
                            have HBW5 := Lib.hid (((HW2.out.trans (HW4.out.mono HW2.out.size)).trans (hbb.mono (by have := HW2.out.size; have := HW4.out.size; omega))).grown hgrow5 (by have := HW2.out.size; have := HW4.out.size; simp; omega) (fun j hj => (hown2.out.1.lt j hj).1))
                            clear hown5 hgrow5 hat5 hlt5 hbb
                            go_wp2_with fail
                            go_roundw
                            case rel => exact ⟨e, its ++ [⟨0, c.extract a e⟩], _, hec, rfl, by rw [List.length_append, List.length_singleton]; omega, HOW5, Lib.hid (comp_step HC2.out HSTEP.out), HBW5⟩
                            case measure => simp [intOf]; omega
                      · have HEND : Hid (∀ x, c.data.toList[e]? = some x → ¬ dig x = dig c[a]) := Lib.hid (fun x hx => by
                          rw [List.getElem?_eq_none (by rw [HZC.out]; omega)] at hx
                          cases hx)
                        have hlt2 : a < e := by omega
                        have hg1 : ¬ (e : Int) < (c.size : Int) := by omega
                        have hg2 : decide ((e : Int) < (c.size : Int)) = false := decide_eq_false hg1
                        go_wp2_with fail
                        refine wp_region_quiet_below (by kernel_rfl) (by kernel_rfl) ?_
                        repeat (first | go_big_quiet_step ((go_at_call 53; exact regrown_same (rdigit_any _ _))) | quiet_step ((go_at_call 53; exact regrown_same (rdigit_any _ _))))
                        refine wpQuiet_nil ?_
                        intro _ hwq
                        obtain ⟨⟨q, os⟩, hwq⟩ := hwq
                        subst hwq
                        have HB1 := Lib.hid (below_regrown wr q os)
                        have HW4 := Lib.hid (HW3.out.trans (HB1.out.mono HW3.out.size))
                        clear HB1
                        generalize grow (redrawn wr q) os = W4 at *
                        have hes : (c.extract a e).size ≤ 1000000000 := by rw [ByteArray.size_extract]; omega
                        have HES := Lib.hid hes
                        have HXT : Hid ((c.extract a e).data.toList = (c.data.toList.drop a).take (e - a)) := Lib.hid (toList_cut _ _ _)
                        have HWB : Hid ((c.extract a e).size ≤ 9223372036854775807) := Lib.hid (by omega)
                        clear hes
                        by_cases hd : digB c[a].toNat = true
                        · have HD := Lib.hid hd
                          have HNL : Hid (let_ c[a] = false) := Lib.hid (by
                            cases h : let_ c[a] with
                            | false => rfl
                            | true => exact absurd (let_not_dig h) (by show ¬ digB c[a].toNat = false; rw [hd]; simp))
                          have HRUN : Hid (runN dig (c.data.toList.drop a) = e - a) := Lib.hid (run_sort (sort_dig hd) HGC.out hae (by rw [HZC.out]; exact hec) HA.out HEND.out)
                          clear hd
                          have HCA := Lib.hid (compA_dig HXA0.out HNL.out HD.out)
                          cases hsm : smallL (c.extract a e).data.toList 1000000000000000 with
                          | none =>
                            have HSM : Hid (smallR (c.extract a e).data.toList 1000000000000000 = -1) := Lib.hid (by unfold smallR; rw [hsm]; rfl)
                            have HF : Hid (compsL s.data.toList = none) := Lib.hid (HNO.out (by
                              rw [HC2.out, HCA.out, HRUN.out, ← HXT.out, ← small_most, hsm]; rfl))
                            clear hsm
                            go_wp2_with (first
                              | (go_at_call 53; refine (rdigit_any _ _).mono ?_; rintro e w1 ⟨rfl, rfl⟩; rw [HD.out])
                              | (go_at_call 28; refine (rSmall_any _ _ _ HES.out).mono ?_; rintro e w1 ⟨rfl, rfl⟩; rw [HSM.out]))
                            go_ret2
                            exact ⟨CompsPost.no HF.out, HW.out.trans ((HW2.out.trans (HW4.out.mono HW2.out.size)).mono HW.out.size)⟩
                          | some v =>
                            have HSM : Hid (smallR (c.extract a e).data.toList 1000000000000000 = v) := Lib.hid (by unfold smallR; rw [hsm]; rfl)
                            have hv := smallL_bd hsm
                            have HI := Lib.hid (i64_small hsm)
                            have HSTEP : Hid (compA (c.data.toList.drop a) = (compA (c.data.toList.drop e)).map (⟨v, ByteArray.empty⟩ :: ·)) := Lib.hid (by
                              rw [HCA.out, HRUN.out, ← HXT.out, ← small_most, hsm, List.drop_drop, show a + (e - a) = e by omega]; rfl)
                            have hv0 : ¬ v < 0 := by omega
                            clear hsm hv
                            go_wp2_with (first
                              | (go_at_call 53; refine (rdigit_any _ _).mono ?_; rintro e w1 ⟨rfl, rfl⟩; rw [HD.out])
                              | (go_at_call 28; refine (rSmall_any _ _ _ HES.out).mono ?_; rintro e w1 ⟨rfl, rfl⟩; rw [HSM.out])
                              | (at_builtin; refine wpList_append_lies _ rfl _ _ 57 rfl wo.heap.size 62 j0 (.agg #[.int .i64 0, .string ByteArray.empty]) 2 24 Tryd.underlying57 hj0 hy0 hy1 hy2 rfl (by decide) u8 its.length cs2 rfl ((hown2.out.grow keepsItem HW4.out).1.alloc _) ⟨W4.heap.size, 0, none⟩ 1 1 [.int .i64 v, .string ⟨#[]⟩] rfl rfl ?c1 ?c2 (by omega) ?c3 ?c4 ?c5 (W4.heap.size + 1) ?c6 ?_))
                            case c1 => exact cell_news _ [.int .i64 v, .string ⟨#[]⟩] _ _ rfl
                            case c2 => simp [Value.oneCell']
                            case c3 => simp [maxLen]; omega
                            case c4 => omega
                            case c5 => have := HW2.out.size; have := HW4.out.size; simp; omega
                            case c6 => simp
                            intro g2 cap2 w5 hown5 hgrow5 hat5 hlt5
                            have hbb := news_alloc W4 (.cells #[.int .i64 v, .string ⟨#[]⟩] 62)
                            have HOW5 := Lib.hid (OwnSl.snoc keepsItem ((hown2.out.grow keepsItem HW4.out).grow keepsItem hbb) (vs := [.int .i64 v, .string ⟨#[]⟩]) (x := ⟨v, ByteArray.empty⟩) rfl ⟨rfl, HI.out, empty_size⟩ hown5 hgrow5 (hat_of hat5 (by simp)))
                            have HBW5 := Lib.hid (((HW2.out.trans (HW4.out.mono HW2.out.size)).trans (hbb.mono (by have := HW2.out.size; have := HW4.out.size; omega))).grown hgrow5 (by have := HW2.out.size; have := HW4.out.size; simp; omega) (fun j hj => (hown2.out.1.lt j hj).1))
                            clear hown5 hgrow5 hat5 hlt5 hbb
                            go_wp2_with fail
                            go_roundw
                            case rel => exact ⟨e, its ++ [⟨v, ByteArray.empty⟩], _, hec, rfl, by rw [List.length_append, List.length_singleton]; omega, HOW5, Lib.hid (comp_step HC2.out HSTEP.out), HBW5⟩
                            case measure => simp [intOf]; omega
                        · have hd0 : digB c[a].toNat = false := by simpa using hd
                          have HD := Lib.hid hd0
                          have HLT : Hid (let_ c[a] = true) := Lib.hid (by
                            have := HGA.out
                            unfold good at this
                            rw [show dig c[a] = false from hd0, Bool.false_or] at this
                            exact this)
                          have HRUN : Hid (runN let_ (c.data.toList.drop a) = e - a) := Lib.hid (run_sort (sort_let hd0) HGC.out hae (by rw [HZC.out]; exact hec) HA.out HEND.out)
                          clear hd hd0
                          have HSTEP : Hid (compA (c.data.toList.drop a) = (compA (c.data.toList.drop e)).map (⟨0, c.extract a e⟩ :: ·)) := Lib.hid (by
                            rw [compA_let HXA0.out HLT.out, HRUN.out, List.drop_drop, show a + (e - a) = e by omega, ← HXT.out])
                          go_wp2_with (first
                            | (go_at_call 53; refine (rdigit_any _ _).mono ?_; rintro e w1 ⟨rfl, rfl⟩; rw [HD.out])
                            | (at_builtin; refine wpList_append_lies _ rfl _ _ 57 rfl wo.heap.size 62 j0 (.agg #[.int .i64 0, .string ByteArray.empty]) 2 24 Tryd.underlying57 hj0 hy0 hy1 hy2 rfl (by decide) u8 its.length cs2 rfl ((hown2.out.grow keepsItem HW4.out).1.alloc _) ⟨W4.heap.size, 0, none⟩ 1 1 [.int .i64 0, .string (c.extract a e)] rfl rfl ?c1 ?c2 (by omega) ?c3 ?c4 ?c5 (W4.heap.size + 1) ?c6 ?_))
                          case c1 => exact cell_news _ [.int .i64 0, .string (c.extract a e)] _ _ rfl
                          case c2 => simp [Value.oneCell']
                          case c3 => simp [maxLen]; omega
                          case c4 => omega
                          case c5 => have := HW2.out.size; have := HW4.out.size; simp; omega
                          case c6 => simp
                          intro g2 cap2 w5 hown5 hgrow5 hat5 hlt5
                          have hbb := news_alloc W4 (.cells #[.int .i64 0, .string (c.extract a e)] 62)
                          have HOW5 := Lib.hid (OwnSl.snoc keepsItem ((hown2.out.grow keepsItem HW4.out).grow keepsItem hbb) (vs := [.int .i64 0, .string (c.extract a e)]) (x := ⟨0, c.extract a e⟩) rfl ⟨rfl, i64_zero, HWB.out⟩ hown5 hgrow5 (hat_of hat5 (by simp)))
                          have HBW5 := Lib.hid (((HW2.out.trans (HW4.out.mono HW2.out.size)).trans (hbb.mono (by have := HW2.out.size; have := HW4.out.size; omega))).grown hgrow5 (by have := HW2.out.size; have := HW4.out.size; simp; omega) (fun j hj => (hown2.out.1.lt j hj).1))
                          clear hown5 hgrow5 hat5 hlt5 hbb
                          go_wp2_with fail
                          go_roundw
                          case rel => exact ⟨e, its ++ [⟨0, c.extract a e⟩], _, hec, rfl, by rw [List.length_append, List.length_singleton]; omega, HOW5, Lib.hid (comp_step HC2.out HSTEP.out), HBW5⟩
                          case measure => simp [intOf]; omega
                  · obtain rfl : a = c.size := by omega
                    have HF : Hid (compL c.data.toList = some its) := Lib.hid (by rw [HC2.out, List.drop_eq_nil_of_le (by rw [HZC.out]; exact Nat.le_refl _), compA_nil]; simp)
                    have HYC := Lib.hid (HYES.out _ HF.out)
                    obtain ⟨A2, d2, rfl, hl2, hc2⟩ := (hown2.out.slLt keepsItem).form
                    have HO9 := Lib.hid (hown.out.grow keepsComp HW2.out)
                    go_wp2_with (at_builtin; refine wpList_append_lies _ rfl _ _ 23 rfl w.heap.size 57 i0 (.slice none 0 0) 1 24 Tryd.underlying23 hi0 hz0 hz1 hz2 rfl (by decide) u4 acc.length cs rfl (HO9.out.1.alloc _) ⟨wp.heap.size, 0, none⟩ 1 1 [.slice A2 its.length d2] rfl rfl ?c1 ?c2 (by omega) ?c3 ?c4 ?c5 (wp.heap.size + 1) ?c6 ?_)
                    case c1 => exact cell_news _ [.slice A2 its.length d2] _ _ rfl
                    case c2 => simp [Value.oneCell']
                    case c3 => simp [maxLen]; omega
                    case c4 => omega
                    case c5 => have := HW.out.size; have := HW2.out.size; simp; omega
                    case c6 => simp
                    intro g6 cap6 w6 hown6 hgrow6 hat6 hlt6
                    have hbb : Below wp.heap.size wp (wp.alloc (.cells #[.slice A2 its.length d2] 57)) := news_alloc _ _
                    have HOW6 := Lib.hid (OwnSl.snoc keepsComp (HO9.out.grow keepsComp hbb) (vs := [.slice A2 its.length d2]) (x := its) rfl (rcomp_of (hown2.out.grow keepsItem hbb) HW.out.size (fun j hj => (hown.out.1.lt j hj).2)) hown6 hgrow6 (hat_of hat6 (by simp)))
                    have HBW6 := Lib.hid (((HW.out.trans (HW2.out.mono HW.out.size)).trans (hbb.mono (by have := HW.out.size; have := HW2.out.size; omega))).grown hgrow6 (by have := HW.out.size; have := HW2.out.size; simp; omega) (fun j hj => (hown.out.1.lt j hj).1))
                    clear hown6 hgrow6 hat6 hlt6 hbb
                    go_wp2_with fail
                    go_roundw
                    case rel => exact ⟨k + 1, k + 1, acc ++ [its], _, by omega, by go_num, by go_num, Nat.le_refl _, by rw [List.length_append, List.length_singleton]; omega, HOW6, Lib.hid (fun j x h1 h2 => absurd h1 (by omega)), HYC, HBW6⟩
                    case measure => simp [intOf]; omega
          · have g1 : (s[k].toNat : Int) = 45 := by rw [hb]; rfl
            clear hb hsep
            obtain ⟨wo, hwo⟩ : ∃ wo : World, wo = wr := ⟨_, rfl⟩
            subst hwo
            have hcs : (s.extract fr k).size = k - fr := by rw [ByteArray.size_extract]; omega
            by_cases hem : k - fr = 0
            · have hemp := isEmpty_of (s := s.extract fr k) (by omega)
              have HF : Hid (compsL s.data.toList = none) := Lib.hid (HNO.out (compL_empty (by omega)))
              go_wp2_with fail
              go_ret2
              exact ⟨CompsPost.no HF.out, HW.out⟩
            · have hemp := not_isEmpty_of (s := s.extract fr k) (by omega)
              have hpos : 0 < (s.extract fr k).size := by omega
              have HGC := Lib.hid (sub_good HG.out)
              have hcb : (s.extract fr k).size ≤ 1000000000 := by omega
              have HCS := Lib.hid hcs
              have hpos2 : 0 < k - fr := by omega
              clear hcs hem
              go_wp2_with fail
              have HOI : Hid (OwnSl 2 62 RItem (wo.alloc (.cells #[] 62)) wo.heap.size (.slice (some ⟨wo.heap.size, 0, none⟩) 0 0) [] ([] : List Item)) := Lib.hid (own_empty _ _ _ _ _ (Nat.le_refl _))
              have HBI := Lib.hid (news_alloc wo (.cells #[] 62))
              have HSI : Hid ((wo.alloc (.cells #[] 62)).heap.size = wo.heap.size + 1) := Lib.hid (by simp)
              generalize wo.alloc (.cells #[] 62) = W1 at *
              have hc00 := byteAt hpos
              obtain ⟨b0, hb0⟩ : ∃ b, (s.extract fr k)[0] = b := ⟨_, rfl⟩
              rw [hb0] at hc00
              have HC0 := Lib.hid hc00
              simp only [hb0]
              clear hb0 hc00 hpos2
              generalize s.extract fr k = c at *
              have HZC : Hid (c.data.toList.length = c.size) := Lib.hid (by simp)
              have HPRE : Hid (preL c.data.toList = if letB b0.toNat then [Item.zero] else []) := Lib.hid (by
                have h1 := HC0.out
                cases hl : c.data.toList with
                | nil => rw [hl] at h1; simp at h1
                | cons a l => rw [hl] at h1; simp at h1; rw [← h1]; rfl)
              have HCL : Hid (compL c.data.toList = (compA c.data.toList).map (preL c.data.toList ++ ·)) := Lib.hid (if_neg (by intro h; have := HZC.out; rw [h] at this; simp at this; omega))
              by_cases hl : letB b0.toNat = true
              · have HL := Lib.hid hl
                clear hl
                refine (rletter_any _ _).mono ?_
                rintro e w1 ⟨rfl, rfl⟩
                rw [HL.out]
                go_wp2_with (at_builtin; refine wpList_append_lies _ rfl _ _ 57 rfl wo.heap.size 62 j0 (.agg #[.int .i64 0, .string ByteArray.empty]) 2 24 Tryd.underlying57 hj0 hy0 hy1 hy2 rfl (by decide) (.slice (some ⟨wo.heap.size, 0, none⟩) 0 0) 0 [] rfl (HOI.out.1.alloc _) ⟨W1.heap.size, 0, none⟩ 1 1 [.int .i64 0, .string ⟨#[]⟩] rfl rfl ?c1 ?c2 (by omega) ?c3 ?c4 ?c5 (W1.heap.size + 1) ?c6 ?_)
                case c1 => exact cell_news _ [.int .i64 0, .string ⟨#[]⟩] _ _ rfl
                case c2 => simp [Value.oneCell']
                case c3 => simp [maxLen]
                case c4 => omega
                case c5 => simp; have := HSI.out; omega
                case c6 => simp
                intro g0 cap0 w1 hown1 hgrow1 hat1 hlt1
                have hbb := news_alloc W1 (.cells #[.int .i64 0, .string ⟨#[]⟩] 62)
                have HOW2 : Hid (OwnSl 2 62 RItem w1 wo.heap.size (.slice (some ⟨g0, 0, none⟩) 1 cap0) [.int .i64 0, .string ⟨#[]⟩] [Item.zero]) :=
                  Lib.hid (OwnSl.snoc keepsItem (HOI.out.grow keepsItem hbb) (vs := [.int .i64 0, .string ⟨#[]⟩]) (x := Item.zero) rfl ⟨rfl, i64_zero, by decide⟩ hown1 hgrow1 (hat_of hat1 (by simp)))
                have HBW2 : Hid (Below wo.heap.size wo w1) := Lib.hid ((HBI.out.trans (hbb.mono HBI.out.size)).grown hgrow1 (by have := HSI.out; simp; omega) (fun j hj => (HOI.out.1.lt j hj).1))
                have HCI : Hid (compL c.data.toList = (compA (c.data.toList.drop 0)).map ([Item.zero] ++ ·)) := Lib.hid (by rw [HCL.out, HPRE.out, HL.out]; rfl)
                clear hown1 hgrow1 hat1 hlt1 hbb
                go_wp2_with fail
                go_loopw [8, 9] (fun v i wr => ∃ (a : Nat) (its : List Item) (cs2 : List Value), a ≤ c.size ∧ i = .int .i64 a ∧ its.length ≤ a + 1 ∧ Hid (OwnSl 2 62 RItem wr wo.heap.size v cs2 its) ∧ Hid (compL c.data.toList = (compA (c.data.toList.drop a)).map (its ++ ·)) ∧ Hid (Below wo.heap.size wo wr)) (fun _ i _ => c.size - (intOf i).toNat)
                case atStart => exact ⟨0, _, _, Nat.zero_le _, rfl, by simp, HOW2, HCI, HBW2⟩
                case round =>
                  obtain ⟨a, its, cs2, hac, rfl, hits, hown2, HC2, HW2⟩ := hrel
                  obtain ⟨wp, hwp⟩ : ∃ wp : World, wp = wr := ⟨_, rfl⟩
                  subst hwp
                  by_cases hal : a < c.size
                  · have HXA := Lib.hid (byteAt hal)
                    have HXA0 : Hid ((c.data.toList.drop a)[0]? = some c[a]) := Lib.hid (by rw [List.getElem?_drop]; exact HXA.out)
                    have HGA := Lib.hid (HGC.out _ _ HXA.out)
                    go_wp2_with fail
                    go_loopw [10] (fun i wr => ∃ e : Nat, a ≤ e ∧ e ≤ c.size ∧ i = .int .i64 e ∧ Hid (∀ (j : Nat) (x : UInt8), a ≤ j → j < e → c.data.toList[j]? = some x → dig x = dig c[a]) ∧ Hid (Below wp.heap.size wp wr)) (fun i _ => c.size - (intOf i).toNat)
                    case atStart => exact ⟨a, Nat.le_refl _, by omega, rfl, Lib.hid (fun j x h1 h2 => absurd h1 (by omega)), Lib.hid (Below.refl _ _)⟩
                    case round =>
                      obtain ⟨e, hae, hec, rfl, HA, HW3⟩ := hrel
                      by_cases hel : e < c.size
                      · have HXE := Lib.hid (byteAt hel)
                        have hg1 : (e : Int) < (c.size : Int) := by omega
                        have hg2 : decide ((e : Int) < (c.size : Int)) = true := decide_eq_true hg1
                        by_cases hq : digB c[e].toNat = digB c[a].toNat
                        · have hq2 : (digB c[e].toNat == digB c[a].toNat) = true := by simpa using hq
                          go_wp2_with fail
                          refine wp_region_quiet_below (by kernel_rfl) (by kernel_rfl) ?_
                          repeat (first | go_big_quiet_step ((go_at_call 53; exact regrown_same (rdigit_any _ _))) | quiet_step ((go_at_call 53; exact regrown_same (rdigit_any _ _))))
                          refine wpQuiet_nil ?_
                          intro _ hwq
                          obtain ⟨⟨q, os⟩, hwq⟩ := hwq
                          subst hwq
                          have HB1 := Lib.hid (below_regrown wr q os)
                          generalize grow (redrawn wr q) os = W4 at *
                          go_wp2_with fail
                          go_roundw
                          case rel => exact ⟨e + 1, by omega, by omega, by go_num, Lib.hid (fun j x h1 h2 hx => by
                            by_cases hj : j = e
                            · subst hj
                              rw [HXE.out] at hx
                              obtain rfl := Option.some.inj hx
                              exact hq
                            · exact HA.out j x h1 (by omega) hx), Lib.hid (HW3.out.trans (HB1.out.mono HW3.out.size))⟩
                          case measure => simp [intOf]; omega
                        · have hq2 : (digB c[e].toNat == digB c[a].toNat) = false := by simpa using hq
                          have HEND : Hid (∀ x, c.data.toList[e]? = some x → ¬ dig x = dig c[a]) := Lib.hid (fun x hx => by
                            rw [HXE.out] at hx
                            obtain rfl := Option.some.inj hx
                            exact hq)
                          have hlt2 : a < e := by
                            rcases Nat.lt_or_ge a e with h | h
                            · exact h
                            · exfalso
                              obtain rfl : e = a := by omega
                              exact hq rfl
                          go_wp2_with fail
                          refine wp_region_quiet_below (by kernel_rfl) (by kernel_rfl) ?_
                          repeat (first | go_big_quiet_step ((go_at_call 53; exact regrown_same (rdigit_any _ _))) | quiet_step ((go_at_call 53; exact regrown_same (rdigit_any _ _))))
                          refine wpQuiet_nil ?_
                          intro _ hwq
                          obtain ⟨⟨q, os⟩, hwq⟩ := hwq
                          subst hwq
                          have HB1 := Lib.hid (below_regrown wr q os)
                          have HW4 := Lib.hid (HW3.out.trans (HB1.out.mono HW3.out.size))
                          clear HB1
                          generalize grow (redrawn wr q) os = W4 at *
                          have hes : (c.extract a e).size ≤ 1000000000 := by rw [ByteArray.size_extract]; omega
                          have HES := Lib.hid hes
                          have HXT : Hid ((c.extract a e).data.toList = (c.data.toList.drop a).take (e - a)) := Lib.hid (toList_cut _ _ _)
                          have HWB : Hid ((c.extract a e).size ≤ 9223372036854775807) := Lib.hid (by omega)
                          clear hes
                          by_cases hd : digB c[a].toNat = true
                          · have HD := Lib.hid hd
                            have HNL : Hid (let_ c[a] = false) := Lib.hid (by
                              cases h : let_ c[a] with
                              | false => rfl
                              | true => exact absurd (let_not_dig h) (by show ¬ digB c[a].toNat = false; rw [hd]; simp))
                            have HRUN : Hid (runN dig (c.data.toList.drop a) = e - a) := Lib.hid (run_sort (sort_dig hd) HGC.out hae (by rw [HZC.out]; exact hec) HA.out HEND.out)
                            clear hd
                            have HCA := Lib.hid (compA_dig HXA0.out HNL.out HD.out)
                            cases hsm : smallL (c.extract a e).data.toList 1000000000000000 with
                            | none =>
                              have HSM : Hid (smallR (c.extract a e).data.toList 1000000000000000 = -1) := Lib.hid (by unfold smallR; rw [hsm]; rfl)
                              have HF : Hid (compsL s.data.toList = none) := Lib.hid (HNO.out (by
                                rw [HC2.out, HCA.out, HRUN.out, ← HXT.out, ← small_most, hsm]; rfl))
                              clear hsm
                              go_wp2_with (first
                                | (go_at_call 53; refine (rdigit_any _ _).mono ?_; rintro e w1 ⟨rfl, rfl⟩; rw [HD.out])
                                | (go_at_call 28; refine (rSmall_any _ _ _ HES.out).mono ?_; rintro e w1 ⟨rfl, rfl⟩; rw [HSM.out]))
                              go_ret2
                              exact ⟨CompsPost.no HF.out, HW.out.trans ((HW2.out.trans (HW4.out.mono HW2.out.size)).mono HW.out.size)⟩
                            | some v =>
                              have HSM : Hid (smallR (c.extract a e).data.toList 1000000000000000 = v) := Lib.hid (by unfold smallR; rw [hsm]; rfl)
                              have hv := smallL_bd hsm
                              have HI := Lib.hid (i64_small hsm)
                              have HSTEP : Hid (compA (c.data.toList.drop a) = (compA (c.data.toList.drop e)).map (⟨v, ByteArray.empty⟩ :: ·)) := Lib.hid (by
                                rw [HCA.out, HRUN.out, ← HXT.out, ← small_most, hsm, List.drop_drop, show a + (e - a) = e by omega]; rfl)
                              have hv0 : ¬ v < 0 := by omega
                              clear hsm hv
                              go_wp2_with (first
                                | (go_at_call 53; refine (rdigit_any _ _).mono ?_; rintro e w1 ⟨rfl, rfl⟩; rw [HD.out])
                                | (go_at_call 28; refine (rSmall_any _ _ _ HES.out).mono ?_; rintro e w1 ⟨rfl, rfl⟩; rw [HSM.out])
                                | (at_builtin; refine wpList_append_lies _ rfl _ _ 57 rfl wo.heap.size 62 j0 (.agg #[.int .i64 0, .string ByteArray.empty]) 2 24 Tryd.underlying57 hj0 hy0 hy1 hy2 rfl (by decide) u8 its.length cs2 rfl ((hown2.out.grow keepsItem HW4.out).1.alloc _) ⟨W4.heap.size, 0, none⟩ 1 1 [.int .i64 v, .string ⟨#[]⟩] rfl rfl ?c1 ?c2 (by omega) ?c3 ?c4 ?c5 (W4.heap.size + 1) ?c6 ?_))
                              case c1 => exact cell_news _ [.int .i64 v, .string ⟨#[]⟩] _ _ rfl
                              case c2 => simp [Value.oneCell']
                              case c3 => simp [maxLen]; omega
                              case c4 => omega
                              case c5 => have := HW2.out.size; have := HW4.out.size; simp; omega
                              case c6 => simp
                              intro g2 cap2 w5 hown5 hgrow5 hat5 hlt5
                              have hbb := news_alloc W4 (.cells #[.int .i64 v, .string ⟨#[]⟩] 62)
                              have HOW5 := Lib.hid (OwnSl.snoc keepsItem ((hown2.out.grow keepsItem HW4.out).grow keepsItem hbb) (vs := [.int .i64 v, .string ⟨#[]⟩]) (x := ⟨v, ByteArray.empty⟩) rfl ⟨rfl, HI.out, empty_size⟩ hown5 hgrow5 (hat_of hat5 (by simp)))
                              have HBW5 := Lib.hid (((HW2.out.trans (HW4.out.mono HW2.out.size)).trans (hbb.mono (by have := HW2.out.size; have := HW4.out.size; omega))).grown hgrow5 (by have := HW2.out.size; have := HW4.out.size; simp; omega) (fun j hj => (hown2.out.1.lt j hj).1))
                              clear hown5 hgrow5 hat5 hlt5 hbb
                              go_wp2_with fail
                              go_roundw
                              case rel => exact ⟨e, its ++ [⟨v, ByteArray.empty⟩], _, hec, rfl, by rw [List.length_append, List.length_singleton]; omega, HOW5, Lib.hid (comp_step HC2.out HSTEP.out), HBW5⟩
                              case measure => simp [intOf]; omega
                          · have hd0 : digB c[a].toNat = false := by simpa using hd
                            have HD := Lib.hid hd0
                            have HLT : Hid (let_ c[a] = true) := Lib.hid (by
                              have := HGA.out
                              unfold good at this
                              rw [show dig c[a] = false from hd0, Bool.false_or] at this
                              exact this)
                            have HRUN : Hid (runN let_ (c.data.toList.drop a) = e - a) := Lib.hid (run_sort (sort_let hd0) HGC.out hae (by rw [HZC.out]; exact hec) HA.out HEND.out)
                            clear hd hd0
                            have HSTEP : Hid (compA (c.data.toList.drop a) = (compA (c.data.toList.drop e)).map (⟨0, c.extract a e⟩ :: ·)) := Lib.hid (by
                              rw [compA_let HXA0.out HLT.out, HRUN.out, List.drop_drop, show a + (e - a) = e by omega, ← HXT.out])
                            go_wp2_with (first
                              | (go_at_call 53; refine (rdigit_any _ _).mono ?_; rintro e w1 ⟨rfl, rfl⟩; rw [HD.out])
                              | (at_builtin; refine wpList_append_lies _ rfl _ _ 57 rfl wo.heap.size 62 j0 (.agg #[.int .i64 0, .string ByteArray.empty]) 2 24 Tryd.underlying57 hj0 hy0 hy1 hy2 rfl (by decide) u8 its.length cs2 rfl ((hown2.out.grow keepsItem HW4.out).1.alloc _) ⟨W4.heap.size, 0, none⟩ 1 1 [.int .i64 0, .string (c.extract a e)] rfl rfl ?c1 ?c2 (by omega) ?c3 ?c4 ?c5 (W4.heap.size + 1) ?c6 ?_))
                            case c1 => exact cell_news _ [.int .i64 0, .string (c.extract a e)] _ _ rfl
                            case c2 => simp [Value.oneCell']
                            case c3 => simp [maxLen]; omega
                            case c4 => omega
                            case c5 => have := HW2.out.size; have := HW4.out.size; simp; omega
                            case c6 => simp
                            intro g2 cap2 w5 hown5 hgrow5 hat5 hlt5
                            have hbb := news_alloc W4 (.cells #[.int .i64 0, .string (c.extract a e)] 62)
                            have HOW5 := Lib.hid (OwnSl.snoc keepsItem ((hown2.out.grow keepsItem HW4.out).grow keepsItem hbb) (vs := [.int .i64 0, .string (c.extract a e)]) (x := ⟨0, c.extract a e⟩) rfl ⟨rfl, i64_zero, HWB.out⟩ hown5 hgrow5 (hat_of hat5 (by simp)))
                            have HBW5 := Lib.hid (((HW2.out.trans (HW4.out.mono HW2.out.size)).trans (hbb.mono (by have := HW2.out.size; have := HW4.out.size; omega))).grown hgrow5 (by have := HW2.out.size; have := HW4.out.size; simp; omega) (fun j hj => (hown2.out.1.lt j hj).1))
                            clear hown5 hgrow5 hat5 hlt5 hbb
                            go_wp2_with fail
                            go_roundw
                            case rel => exact ⟨e, its ++ [⟨0, c.extract a e⟩], _, hec, rfl, by rw [List.length_append, List.length_singleton]; omega, HOW5, Lib.hid (comp_step HC2.out HSTEP.out), HBW5⟩
                            case measure => simp [intOf]; omega
                      · have HEND : Hid (∀ x, c.data.toList[e]? = some x → ¬ dig x = dig c[a]) := Lib.hid (fun x hx => by
                          rw [List.getElem?_eq_none (by rw [HZC.out]; omega)] at hx
                          cases hx)
                        have hlt2 : a < e := by omega
                        have hg1 : ¬ (e : Int) < (c.size : Int) := by omega
                        have hg2 : decide ((e : Int) < (c.size : Int)) = false := decide_eq_false hg1
                        go_wp2_with fail
                        refine wp_region_quiet_below (by kernel_rfl) (by kernel_rfl) ?_
                        repeat (first | go_big_quiet_step ((go_at_call 53; exact regrown_same (rdigit_any _ _))) | quiet_step ((go_at_call 53; exact regrown_same (rdigit_any _ _))))
                        refine wpQuiet_nil ?_
                        intro _ hwq
                        obtain ⟨⟨q, os⟩, hwq⟩ := hwq
                        subst hwq
                        have HB1 := Lib.hid (below_regrown wr q os)
                        have HW4 := Lib.hid (HW3.out.trans (HB1.out.mono HW3.out.size))
                        clear HB1
                        generalize grow (redrawn wr q) os = W4 at *
                        have hes : (c.extract a e).size ≤ 1000000000 := by rw [ByteArray.size_extract]; omega
                        have HES := Lib.hid hes
                        have HXT : Hid ((c.extract a e).data.toList = (c.data.toList.drop a).take (e - a)) := Lib.hid (toList_cut _ _ _)
                        have HWB : Hid ((c.extract a e).size ≤ 9223372036854775807) := Lib.hid (by omega)
                        clear hes
                        by_cases hd : digB c[a].toNat = true
                        · have HD := Lib.hid hd
                          have HNL : Hid (let_ c[a] = false) := Lib.hid (by
                            cases h : let_ c[a] with
                            | false => rfl
                            | true => exact absurd (let_not_dig h) (by show ¬ digB c[a].toNat = false; rw [hd]; simp))
                          have HRUN : Hid (runN dig (c.data.toList.drop a) = e - a) := Lib.hid (run_sort (sort_dig hd) HGC.out hae (by rw [HZC.out]; exact hec) HA.out HEND.out)
                          clear hd
                          have HCA := Lib.hid (compA_dig HXA0.out HNL.out HD.out)
                          cases hsm : smallL (c.extract a e).data.toList 1000000000000000 with
                          | none =>
                            have HSM : Hid (smallR (c.extract a e).data.toList 1000000000000000 = -1) := Lib.hid (by unfold smallR; rw [hsm]; rfl)
                            have HF : Hid (compsL s.data.toList = none) := Lib.hid (HNO.out (by
                              rw [HC2.out, HCA.out, HRUN.out, ← HXT.out, ← small_most, hsm]; rfl))
                            clear hsm
                            go_wp2_with (first
                              | (go_at_call 53; refine (rdigit_any _ _).mono ?_; rintro e w1 ⟨rfl, rfl⟩; rw [HD.out])
                              | (go_at_call 28; refine (rSmall_any _ _ _ HES.out).mono ?_; rintro e w1 ⟨rfl, rfl⟩; rw [HSM.out]))
                            go_ret2
                            exact ⟨CompsPost.no HF.out, HW.out.trans ((HW2.out.trans (HW4.out.mono HW2.out.size)).mono HW.out.size)⟩
                          | some v =>
                            have HSM : Hid (smallR (c.extract a e).data.toList 1000000000000000 = v) := Lib.hid (by unfold smallR; rw [hsm]; rfl)
                            have hv := smallL_bd hsm
                            have HI := Lib.hid (i64_small hsm)
                            have HSTEP : Hid (compA (c.data.toList.drop a) = (compA (c.data.toList.drop e)).map (⟨v, ByteArray.empty⟩ :: ·)) := Lib.hid (by
                              rw [HCA.out, HRUN.out, ← HXT.out, ← small_most, hsm, List.drop_drop, show a + (e - a) = e by omega]; rfl)
                            have hv0 : ¬ v < 0 := by omega
                            clear hsm hv
                            go_wp2_with (first
                              | (go_at_call 53; refine (rdigit_any _ _).mono ?_; rintro e w1 ⟨rfl, rfl⟩; rw [HD.out])
                              | (go_at_call 28; refine (rSmall_any _ _ _ HES.out).mono ?_; rintro e w1 ⟨rfl, rfl⟩; rw [HSM.out])
                              | (at_builtin; refine wpList_append_lies _ rfl _ _ 57 rfl wo.heap.size 62 j0 (.agg #[.int .i64 0, .string ByteArray.empty]) 2 24 Tryd.underlying57 hj0 hy0 hy1 hy2 rfl (by decide) u8 its.length cs2 rfl ((hown2.out.grow keepsItem HW4.out).1.alloc _) ⟨W4.heap.size, 0, none⟩ 1 1 [.int .i64 v, .string ⟨#[]⟩] rfl rfl ?c1 ?c2 (by omega) ?c3 ?c4 ?c5 (W4.heap.size + 1) ?c6 ?_))
                            case c1 => exact cell_news _ [.int .i64 v, .string ⟨#[]⟩] _ _ rfl
                            case c2 => simp [Value.oneCell']
                            case c3 => simp [maxLen]; omega
                            case c4 => omega
                            case c5 => have := HW2.out.size; have := HW4.out.size; simp; omega
                            case c6 => simp
                            intro g2 cap2 w5 hown5 hgrow5 hat5 hlt5
                            have hbb := news_alloc W4 (.cells #[.int .i64 v, .string ⟨#[]⟩] 62)
                            have HOW5 := Lib.hid (OwnSl.snoc keepsItem ((hown2.out.grow keepsItem HW4.out).grow keepsItem hbb) (vs := [.int .i64 v, .string ⟨#[]⟩]) (x := ⟨v, ByteArray.empty⟩) rfl ⟨rfl, HI.out, empty_size⟩ hown5 hgrow5 (hat_of hat5 (by simp)))
                            have HBW5 := Lib.hid (((HW2.out.trans (HW4.out.mono HW2.out.size)).trans (hbb.mono (by have := HW2.out.size; have := HW4.out.size; omega))).grown hgrow5 (by have := HW2.out.size; have := HW4.out.size; simp; omega) (fun j hj => (hown2.out.1.lt j hj).1))
                            clear hown5 hgrow5 hat5 hlt5 hbb
                            go_wp2_with fail
                            go_roundw
                            case rel => exact ⟨e, its ++ [⟨v, ByteArray.empty⟩], _, hec, rfl, by rw [List.length_append, List.length_singleton]; omega, HOW5, Lib.hid (comp_step HC2.out HSTEP.out), HBW5⟩
                            case measure => simp [intOf]; omega
                        · have hd0 : digB c[a].toNat = false := by simpa using hd
                          have HD := Lib.hid hd0
                          have HLT : Hid (let_ c[a] = true) := Lib.hid (by
                            have := HGA.out
                            unfold good at this
                            rw [show dig c[a] = false from hd0, Bool.false_or] at this
                            exact this)
                          have HRUN : Hid (runN let_ (c.data.toList.drop a) = e - a) := Lib.hid (run_sort (sort_let hd0) HGC.out hae (by rw [HZC.out]; exact hec) HA.out HEND.out)
                          clear hd hd0
                          have HSTEP : Hid (compA (c.data.toList.drop a) = (compA (c.data.toList.drop e)).map (⟨0, c.extract a e⟩ :: ·)) := Lib.hid (by
                            rw [compA_let HXA0.out HLT.out, HRUN.out, List.drop_drop, show a + (e - a) = e by omega, ← HXT.out])
                          go_wp2_with (first
                            | (go_at_call 53; refine (rdigit_any _ _).mono ?_; rintro e w1 ⟨rfl, rfl⟩; rw [HD.out])
                            | (at_builtin; refine wpList_append_lies _ rfl _ _ 57 rfl wo.heap.size 62 j0 (.agg #[.int .i64 0, .string ByteArray.empty]) 2 24 Tryd.underlying57 hj0 hy0 hy1 hy2 rfl (by decide) u8 its.length cs2 rfl ((hown2.out.grow keepsItem HW4.out).1.alloc _) ⟨W4.heap.size, 0, none⟩ 1 1 [.int .i64 0, .string (c.extract a e)] rfl rfl ?c1 ?c2 (by omega) ?c3 ?c4 ?c5 (W4.heap.size + 1) ?c6 ?_))
                          case c1 => exact cell_news _ [.int .i64 0, .string (c.extract a e)] _ _ rfl
                          case c2 => simp [Value.oneCell']
                          case c3 => simp [maxLen]; omega
                          case c4 => omega
                          case c5 => have := HW2.out.size; have := HW4.out.size; simp; omega
                          case c6 => simp
                          intro g2 cap2 w5 hown5 hgrow5 hat5 hlt5
                          have hbb := news_alloc W4 (.cells #[.int .i64 0, .string (c.extract a e)] 62)
                          have HOW5 := Lib.hid (OwnSl.snoc keepsItem ((hown2.out.grow keepsItem HW4.out).grow keepsItem hbb) (vs := [.int .i64 0, .string (c.extract a e)]) (x := ⟨0, c.extract a e⟩) rfl ⟨rfl, i64_zero, HWB.out⟩ hown5 hgrow5 (hat_of hat5 (by simp)))
                          have HBW5 := Lib.hid (((HW2.out.trans (HW4.out.mono HW2.out.size)).trans (hbb.mono (by have := HW2.out.size; have := HW4.out.size; omega))).grown hgrow5 (by have := HW2.out.size; have := HW4.out.size; simp; omega) (fun j hj => (hown2.out.1.lt j hj).1))
                          clear hown5 hgrow5 hat5 hlt5 hbb
                          go_wp2_with fail
                          go_roundw
                          case rel => exact ⟨e, its ++ [⟨0, c.extract a e⟩], _, hec, rfl, by rw [List.length_append, List.length_singleton]; omega, HOW5, Lib.hid (comp_step HC2.out HSTEP.out), HBW5⟩
                          case measure => simp [intOf]; omega
                  · obtain rfl : a = c.size := by omega
                    have HF : Hid (compL c.data.toList = some its) := Lib.hid (by rw [HC2.out, List.drop_eq_nil_of_le (by rw [HZC.out]; exact Nat.le_refl _), compA_nil]; simp)
                    have HYC := Lib.hid (HYES.out _ HF.out)
                    obtain ⟨A2, d2, rfl, hl2, hc2⟩ := (hown2.out.slLt keepsItem).form
                    have HO9 := Lib.hid (hown.out.grow keepsComp HW2.out)
                    go_wp2_with (at_builtin; refine wpList_append_lies _ rfl _ _ 23 rfl w.heap.size 57 i0 (.slice none 0 0) 1 24 Tryd.underlying23 hi0 hz0 hz1 hz2 rfl (by decide) u4 acc.length cs rfl (HO9.out.1.alloc _) ⟨wp.heap.size, 0, none⟩ 1 1 [.slice A2 its.length d2] rfl rfl ?c1 ?c2 (by omega) ?c3 ?c4 ?c5 (wp.heap.size + 1) ?c6 ?_)
                    case c1 => exact cell_news _ [.slice A2 its.length d2] _ _ rfl
                    case c2 => simp [Value.oneCell']
                    case c3 => simp [maxLen]; omega
                    case c4 => omega
                    case c5 => have := HW.out.size; have := HW2.out.size; simp; omega
                    case c6 => simp
                    intro g6 cap6 w6 hown6 hgrow6 hat6 hlt6
                    have hbb : Below wp.heap.size wp (wp.alloc (.cells #[.slice A2 its.length d2] 57)) := news_alloc _ _
                    have HOW6 := Lib.hid (OwnSl.snoc keepsComp (HO9.out.grow keepsComp hbb) (vs := [.slice A2 its.length d2]) (x := its) rfl (rcomp_of (hown2.out.grow keepsItem hbb) HW.out.size (fun j hj => (hown.out.1.lt j hj).2)) hown6 hgrow6 (hat_of hat6 (by simp)))
                    have HBW6 := Lib.hid (((HW.out.trans (HW2.out.mono HW.out.size)).trans (hbb.mono (by have := HW.out.size; have := HW2.out.size; omega))).grown hgrow6 (by have := HW.out.size; have := HW2.out.size; simp; omega) (fun j hj => (hown.out.1.lt j hj).1))
                    clear hown6 hgrow6 hat6 hlt6 hbb
                    go_wp2_with fail
                    go_roundw
                    case rel => exact ⟨k + 1, k + 1, acc ++ [its], _, by omega, by go_num, by go_num, Nat.le_refl _, by rw [List.length_append, List.length_singleton]; omega, HOW6, Lib.hid (fun j x h1 h2 => absurd h1 (by omega)), HYC, HBW6⟩
                    case measure => simp [intOf]; omega
              · have HL : Hid (letB b0.toNat = false) := Lib.hid (by simpa using hl)
                clear hl
                refine (rletter_any _ _).mono ?_
                rintro e w1 ⟨rfl, rfl⟩
                rw [HL.out]
                have HCI : Hid (compL c.data.toList = (compA (c.data.toList.drop 0)).map (([] : List Item) ++ ·)) := Lib.hid (by rw [HCL.out, HPRE.out, HL.out]; rfl)
                go_wp2_with fail
                go_loopw [8, 9] (fun v i wr => ∃ (a : Nat) (its : List Item) (cs2 : List Value), a ≤ c.size ∧ i = .int .i64 a ∧ its.length ≤ a + 1 ∧ Hid (OwnSl 2 62 RItem wr wo.heap.size v cs2 its) ∧ Hid (compL c.data.toList = (compA (c.data.toList.drop a)).map (its ++ ·)) ∧ Hid (Below wo.heap.size wo wr)) (fun _ i _ => c.size - (intOf i).toNat)
                case atStart => exact ⟨0, _, _, Nat.zero_le _, rfl, by simp, HOI, HCI, HBI⟩
                case round =>
                  obtain ⟨a, its, cs2, hac, rfl, hits, hown2, HC2, HW2⟩ := hrel
                  obtain ⟨wp, hwp⟩ : ∃ wp : World, wp = wr := ⟨_, rfl⟩
                  subst hwp
                  by_cases hal : a < c.size
                  · have HXA := Lib.hid (byteAt hal)
                    have HXA0 : Hid ((c.data.toList.drop a)[0]? = some c[a]) := Lib.hid (by rw [List.getElem?_drop]; exact HXA.out)
                    have HGA := Lib.hid (HGC.out _ _ HXA.out)
                    go_wp2_with fail
                    go_loopw [10] (fun i wr => ∃ e : Nat, a ≤ e ∧ e ≤ c.size ∧ i = .int .i64 e ∧ Hid (∀ (j : Nat) (x : UInt8), a ≤ j → j < e → c.data.toList[j]? = some x → dig x = dig c[a]) ∧ Hid (Below wp.heap.size wp wr)) (fun i _ => c.size - (intOf i).toNat)
                    case atStart => exact ⟨a, Nat.le_refl _, by omega, rfl, Lib.hid (fun j x h1 h2 => absurd h1 (by omega)), Lib.hid (Below.refl _ _)⟩
                    case round =>
                      obtain ⟨e, hae, hec, rfl, HA, HW3⟩ := hrel
                      by_cases hel : e < c.size
                      · have HXE := Lib.hid (byteAt hel)
                        have hg1 : (e : Int) < (c.size : Int) := by omega
                        have hg2 : decide ((e : Int) < (c.size : Int)) = true := decide_eq_true hg1
                        by_cases hq : digB c[e].toNat = digB c[a].toNat
                        · have hq2 : (digB c[e].toNat == digB c[a].toNat) = true := by simpa using hq
                          go_wp2_with fail
                          refine wp_region_quiet_below (by kernel_rfl) (by kernel_rfl) ?_
                          repeat (first | go_big_quiet_step ((go_at_call 53; exact regrown_same (rdigit_any _ _))) | quiet_step ((go_at_call 53; exact regrown_same (rdigit_any _ _))))
                          refine wpQuiet_nil ?_
                          intro _ hwq
                          obtain ⟨⟨q, os⟩, hwq⟩ := hwq
                          subst hwq
                          have HB1 := Lib.hid (below_regrown wr q os)
                          generalize grow (redrawn wr q) os = W4 at *
                          go_wp2_with fail
                          go_roundw
                          case rel => exact ⟨e + 1, by omega, by omega, by go_num, Lib.hid (fun j x h1 h2 hx => by
                            by_cases hj : j = e
                            · subst hj
                              rw [HXE.out] at hx
                              obtain rfl := Option.some.inj hx
                              exact hq
                            · exact HA.out j x h1 (by omega) hx), Lib.hid (HW3.out.trans (HB1.out.mono HW3.out.size))⟩
                          case measure => simp [intOf]; omega
                        · have hq2 : (digB c[e].toNat == digB c[a].toNat) = false := by simpa using hq
                          have HEND : Hid (∀ x, c.data.toList[e]? = some x → ¬ dig x = dig c[a]) := Lib.hid (fun x hx => by
                            rw [HXE.out] at hx
                            obtain rfl := Option.some.inj hx
                            exact hq)
                          have hlt2 : a < e := by
                            rcases Nat.lt_or_ge a e with h | h
                            · exact h
                            · exfalso
                              obtain rfl : e = a := by omega
                              exact hq rfl
                          go_wp2_with fail
                          refine wp_region_quiet_below (by kernel_rfl) (by kernel_rfl) ?_
                          repeat (first | go_big_quiet_step ((go_at_call 53; exact regrown_same (rdigit_any _ _))) | quiet_step ((go_at_call 53; exact regrown_same (rdigit_any _ _))))
                          refine wpQuiet_nil ?_
                          intro _ hwq
                          obtain ⟨⟨q, os⟩, hwq⟩ := hwq
                          subst hwq
                          have HB1 := Lib.hid (below_regrown wr q os)
                          have HW4 := Lib.hid (HW3.out.trans (HB1.out.mono HW3.out.size))
                          clear HB1
                          generalize grow (redrawn wr q) os = W4 at *
                          have hes : (c.extract a e).size ≤ 1000000000 := by rw [ByteArray.size_extract]; omega
                          have HES := Lib.hid hes
                          have HXT : Hid ((c.extract a e).data.toList = (c.data.toList.drop a).take (e - a)) := Lib.hid (toList_cut _ _ _)
                          have HWB : Hid ((c.extract a e).size ≤ 9223372036854775807) := Lib.hid (by omega)
                          clear hes
                          by_cases hd : digB c[a].toNat = true
                          · have HD := Lib.hid hd
                            have HNL : Hid (let_ c[a] = false) := Lib.hid (by
                              cases h : let_ c[a] with
                              | false => rfl
                              | true => exact absurd (let_not_dig h) (by show ¬ digB c[a].toNat = false; rw [hd]; simp))
                            have HRUN : Hid (runN dig (c.data.toList.drop a) = e - a) := Lib.hid (run_sort (sort_dig hd) HGC.out hae (by rw [HZC.out]; exact hec) HA.out HEND.out)
                            clear hd
                            have HCA := Lib.hid (compA_dig HXA0.out HNL.out HD.out)
                            cases hsm : smallL (c.extract a e).data.toList 1000000000000000 with
                            | none =>
                              have HSM : Hid (smallR (c.extract a e).data.toList 1000000000000000 = -1) := Lib.hid (by unfold smallR; rw [hsm]; rfl)
                              have HF : Hid (compsL s.data.toList = none) := Lib.hid (HNO.out (by
                                rw [HC2.out, HCA.out, HRUN.out, ← HXT.out, ← small_most, hsm]; rfl))
                              clear hsm
                              go_wp2_with (first
                                | (go_at_call 53; refine (rdigit_any _ _).mono ?_; rintro e w1 ⟨rfl, rfl⟩; rw [HD.out])
                                | (go_at_call 28; refine (rSmall_any _ _ _ HES.out).mono ?_; rintro e w1 ⟨rfl, rfl⟩; rw [HSM.out]))
                              go_ret2
                              exact ⟨CompsPost.no HF.out, HW.out.trans ((HW2.out.trans (HW4.out.mono HW2.out.size)).mono HW.out.size)⟩
                            | some v =>
                              have HSM : Hid (smallR (c.extract a e).data.toList 1000000000000000 = v) := Lib.hid (by unfold smallR; rw [hsm]; rfl)
                              have hv := smallL_bd hsm
                              have HI := Lib.hid (i64_small hsm)
                              have HSTEP : Hid (compA (c.data.toList.drop a) = (compA (c.data.toList.drop e)).map (⟨v, ByteArray.empty⟩ :: ·)) := Lib.hid (by
                                rw [HCA.out, HRUN.out, ← HXT.out, ← small_most, hsm, List.drop_drop, show a + (e - a) = e by omega]; rfl)
                              have hv0 : ¬ v < 0 := by omega
                              clear hsm hv
                              go_wp2_with (first
                                | (go_at_call 53; refine (rdigit_any _ _).mono ?_; rintro e w1 ⟨rfl, rfl⟩; rw [HD.out])
                                | (go_at_call 28; refine (rSmall_any _ _ _ HES.out).mono ?_; rintro e w1 ⟨rfl, rfl⟩; rw [HSM.out])
                                | (at_builtin; refine wpList_append_lies _ rfl _ _ 57 rfl wo.heap.size 62 j0 (.agg #[.int .i64 0, .string ByteArray.empty]) 2 24 Tryd.underlying57 hj0 hy0 hy1 hy2 rfl (by decide) u8 its.length cs2 rfl ((hown2.out.grow keepsItem HW4.out).1.alloc _) ⟨W4.heap.size, 0, none⟩ 1 1 [.int .i64 v, .string ⟨#[]⟩] rfl rfl ?c1 ?c2 (by omega) ?c3 ?c4 ?c5 (W4.heap.size + 1) ?c6 ?_))
                              case c1 => exact cell_news _ [.int .i64 v, .string ⟨#[]⟩] _ _ rfl
                              case c2 => simp [Value.oneCell']
                              case c3 => simp [maxLen]; omega
                              case c4 => omega
                              case c5 => have := HW2.out.size; have := HW4.out.size; simp; omega
                              case c6 => simp
                              intro g2 cap2 w5 hown5 hgrow5 hat5 hlt5
                              have hbb := news_alloc W4 (.cells #[.int .i64 v, .string ⟨#[]⟩] 62)
                              have HOW5 := Lib.hid (OwnSl.snoc keepsItem ((hown2.out.grow keepsItem HW4.out).grow keepsItem hbb) (vs := [.int .i64 v, .string ⟨#[]⟩]) (x := ⟨v, ByteArray.empty⟩) rfl ⟨rfl, HI.out, empty_size⟩ hown5 hgrow5 (hat_of hat5 (by simp)))
                              have HBW5 := Lib.hid (((HW2.out.trans (HW4.out.mono HW2.out.size)).trans (hbb.mono (by have := HW2.out.size; have := HW4.out.size; omega))).grown hgrow5 (by have := HW2.out.size; have := HW4.out.size; simp; omega) (fun j hj => (hown2.out.1.lt j hj).1))
                              clear hown5 hgrow5 hat5 hlt5 hbb
                              go_wp2_with fail
                              go_roundw
                              case rel => exact ⟨e, its ++ [⟨v, ByteArray.empty⟩], _, hec, rfl, by rw [List.length_append, List.length_singleton]; omega, HOW5, Lib.hid (comp_step HC2.out HSTEP.out), HBW5⟩
                              case measure => simp [intOf]; omega
                          · have hd0 : digB c[a].toNat = false := by simpa using hd
                            have HD := Lib.hid hd0
                            have HLT : Hid (let_ c[a] = true) := Lib.hid (by
                              have := HGA.out
                              unfold good at this
                              rw [show dig c[a] = false from hd0, Bool.false_or] at this
                              exact this)
                            have HRUN : Hid (runN let_ (c.data.toList.drop a) = e - a) := Lib.hid (run_sort (sort_let hd0) HGC.out hae (by rw [HZC.out]; exact hec) HA.out HEND.out)
                            clear hd hd0
                            have HSTEP : Hid (compA (c.data.toList.drop a) = (compA (c.data.toList.drop e)).map (⟨0, c.extract a e⟩ :: ·)) := Lib.hid (by
                              rw [compA_let HXA0.out HLT.out, HRUN.out, List.drop_drop, show a + (e - a) = e by omega, ← HXT.out])
                            go_wp2_with (first
                              | (go_at_call 53; refine (rdigit_any _ _).mono ?_; rintro e w1 ⟨rfl, rfl⟩; rw [HD.out])
                              | (at_builtin; refine wpList_append_lies _ rfl _ _ 57 rfl wo.heap.size 62 j0 (.agg #[.int .i64 0, .string ByteArray.empty]) 2 24 Tryd.underlying57 hj0 hy0 hy1 hy2 rfl (by decide) u8 its.length cs2 rfl ((hown2.out.grow keepsItem HW4.out).1.alloc _) ⟨W4.heap.size, 0, none⟩ 1 1 [.int .i64 0, .string (c.extract a e)] rfl rfl ?c1 ?c2 (by omega) ?c3 ?c4 ?c5 (W4.heap.size + 1) ?c6 ?_))
                            case c1 => exact cell_news _ [.int .i64 0, .string (c.extract a e)] _ _ rfl
                            case c2 => simp [Value.oneCell']
                            case c3 => simp [maxLen]; omega
                            case c4 => omega
                            case c5 => have := HW2.out.size; have := HW4.out.size; simp; omega
                            case c6 => simp
                            intro g2 cap2 w5 hown5 hgrow5 hat5 hlt5
                            have hbb := news_alloc W4 (.cells #[.int .i64 0, .string (c.extract a e)] 62)
                            have HOW5 := Lib.hid (OwnSl.snoc keepsItem ((hown2.out.grow keepsItem HW4.out).grow keepsItem hbb) (vs := [.int .i64 0, .string (c.extract a e)]) (x := ⟨0, c.extract a e⟩) rfl ⟨rfl, i64_zero, HWB.out⟩ hown5 hgrow5 (hat_of hat5 (by simp)))
                            have HBW5 := Lib.hid (((HW2.out.trans (HW4.out.mono HW2.out.size)).trans (hbb.mono (by have := HW2.out.size; have := HW4.out.size; omega))).grown hgrow5 (by have := HW2.out.size; have := HW4.out.size; simp; omega) (fun j hj => (hown2.out.1.lt j hj).1))
                            clear hown5 hgrow5 hat5 hlt5 hbb
                            go_wp2_with fail
                            go_roundw
                            case rel => exact ⟨e, its ++ [⟨0, c.extract a e⟩], _, hec, rfl, by rw [List.length_append, List.length_singleton]; omega, HOW5, Lib.hid (comp_step HC2.out HSTEP.out), HBW5⟩
                            case measure => simp [intOf]; omega
                      · have HEND : Hid (∀ x, c.data.toList[e]? = some x → ¬ dig x = dig c[a]) := Lib.hid (fun x hx => by
                          rw [List.getElem?_eq_none (by rw [HZC.out]; omega)] at hx
                          cases hx)
                        have hlt2 : a < e := by omega
                        have hg1 : ¬ (e : Int) < (c.size : Int) := by omega
                        have hg2 : decide ((e : Int) < (c.size : Int)) = false := decide_eq_false hg1
                        go_wp2_with fail
                        refine wp_region_quiet_below (by kernel_rfl) (by kernel_rfl) ?_
                        repeat (first | go_big_quiet_step ((go_at_call 53; exact regrown_same (rdigit_any _ _))) | quiet_step ((go_at_call 53; exact regrown_same (rdigit_any _ _))))
                        refine wpQuiet_nil ?_
                        intro _ hwq
                        obtain ⟨⟨q, os⟩, hwq⟩ := hwq
                        subst hwq
                        have HB1 := Lib.hid (below_regrown wr q os)
                        have HW4 := Lib.hid (HW3.out.trans (HB1.out.mono HW3.out.size))
                        clear HB1
                        generalize grow (redrawn wr q) os = W4 at *
                        have hes : (c.extract a e).size ≤ 1000000000 := by rw [ByteArray.size_extract]; omega
                        have HES := Lib.hid hes
                        have HXT : Hid ((c.extract a e).data.toList = (c.data.toList.drop a).take (e - a)) := Lib.hid (toList_cut _ _ _)
                        have HWB : Hid ((c.extract a e).size ≤ 9223372036854775807) := Lib.hid (by omega)
                        clear hes
                        by_cases hd : digB c[a].toNat = true
                        · have HD := Lib.hid hd
                          have HNL : Hid (let_ c[a] = false) := Lib.hid (by
                            cases h : let_ c[a] with
                            | false => rfl
                            | true => exact absurd (let_not_dig h) (by show ¬ digB c[a].toNat = false; rw [hd]; simp))
                          have HRUN : Hid (runN dig (c.data.toList.drop a) = e - a) := Lib.hid (run_sort (sort_dig hd) HGC.out hae (by rw [HZC.out]; exact hec) HA.out HEND.out)
                          clear hd
                          have HCA := Lib.hid (compA_dig HXA0.out HNL.out HD.out)
                          cases hsm : smallL (c.extract a e).data.toList 1000000000000000 with
                          | none =>
                            have HSM : Hid (smallR (c.extract a e).data.toList 1000000000000000 = -1) := Lib.hid (by unfold smallR; rw [hsm]; rfl)
                            have HF : Hid (compsL s.data.toList = none) := Lib.hid (HNO.out (by
                              rw [HC2.out, HCA.out, HRUN.out, ← HXT.out, ← small_most, hsm]; rfl))
                            clear hsm
                            go_wp2_with (first
                              | (go_at_call 53; refine (rdigit_any _ _).mono ?_; rintro e w1 ⟨rfl, rfl⟩; rw [HD.out])
                              | (go_at_call 28; refine (rSmall_any _ _ _ HES.out).mono ?_; rintro e w1 ⟨rfl, rfl⟩; rw [HSM.out]))
                            go_ret2
                            exact ⟨CompsPost.no HF.out, HW.out.trans ((HW2.out.trans (HW4.out.mono HW2.out.size)).mono HW.out.size)⟩
                          | some v =>
                            have HSM : Hid (smallR (c.extract a e).data.toList 1000000000000000 = v) := Lib.hid (by unfold smallR; rw [hsm]; rfl)
                            have hv := smallL_bd hsm
                            have HI := Lib.hid (i64_small hsm)
                            have HSTEP : Hid (compA (c.data.toList.drop a) = (compA (c.data.toList.drop e)).map (⟨v, ByteArray.empty⟩ :: ·)) := Lib.hid (by
                              rw [HCA.out, HRUN.out, ← HXT.out, ← small_most, hsm, List.drop_drop, show a + (e - a) = e by omega]; rfl)
                            have hv0 : ¬ v < 0 := by omega
                            clear hsm hv
                            go_wp2_with (first
                              | (go_at_call 53; refine (rdigit_any _ _).mono ?_; rintro e w1 ⟨rfl, rfl⟩; rw [HD.out])
                              | (go_at_call 28; refine (rSmall_any _ _ _ HES.out).mono ?_; rintro e w1 ⟨rfl, rfl⟩; rw [HSM.out])
                              | (at_builtin; refine wpList_append_lies _ rfl _ _ 57 rfl wo.heap.size 62 j0 (.agg #[.int .i64 0, .string ByteArray.empty]) 2 24 Tryd.underlying57 hj0 hy0 hy1 hy2 rfl (by decide) u8 its.length cs2 rfl ((hown2.out.grow keepsItem HW4.out).1.alloc _) ⟨W4.heap.size, 0, none⟩ 1 1 [.int .i64 v, .string ⟨#[]⟩] rfl rfl ?c1 ?c2 (by omega) ?c3 ?c4 ?c5 (W4.heap.size + 1) ?c6 ?_))
                            case c1 => exact cell_news _ [.int .i64 v, .string ⟨#[]⟩] _ _ rfl
                            case c2 => simp [Value.oneCell']
                            case c3 => simp [maxLen]; omega
                            case c4 => omega
                            case c5 => have := HW2.out.size; have := HW4.out.size; simp; omega
                            case c6 => simp
                            intro g2 cap2 w5 hown5 hgrow5 hat5 hlt5
                            have hbb := news_alloc W4 (.cells #[.int .i64 v, .string ⟨#[]⟩] 62)
                            have HOW5 := Lib.hid (OwnSl.snoc keepsItem ((hown2.out.grow keepsItem HW4.out).grow keepsItem hbb) (vs := [.int .i64 v, .string ⟨#[]⟩]) (x := ⟨v, ByteArray.empty⟩) rfl ⟨rfl, HI.out, empty_size⟩ hown5 hgrow5 (hat_of hat5 (by simp)))
                            have HBW5 := Lib.hid (((HW2.out.trans (HW4.out.mono HW2.out.size)).trans (hbb.mono (by have := HW2.out.size; have := HW4.out.size; omega))).grown hgrow5 (by have := HW2.out.size; have := HW4.out.size; simp; omega) (fun j hj => (hown2.out.1.lt j hj).1))
                            clear hown5 hgrow5 hat5 hlt5 hbb
                            go_wp2_with fail
                            go_roundw
                            case rel => exact ⟨e, its ++ [⟨v, ByteArray.empty⟩], _, hec, rfl, by rw [List.length_append, List.length_singleton]; omega, HOW5, Lib.hid (comp_step HC2.out HSTEP.out), HBW5⟩
                            case measure => simp [intOf]; omega
                        · have hd0 : digB c[a].toNat = false := by simpa using hd
                          have HD := Lib.hid hd0
                          have HLT : Hid (let_ c[a] = true) := Lib.hid (by
                            have := HGA.out
                            unfold good at this
                            rw [show dig c[a] = false from hd0, Bool.false_or] at this
                            exact this)
                          have HRUN : Hid (runN let_ (c.data.toList.drop a) = e - a) := Lib.hid (run_sort (sort_let hd0) HGC.out hae (by rw [HZC.out]; exact hec) HA.out HEND.out)
                          clear hd hd0
                          have HSTEP : Hid (compA (c.data.toList.drop a) = (compA (c.data.toList.drop e)).map (⟨0, c.extract a e⟩ :: ·)) := Lib.hid (by
                            rw [compA_let HXA0.out HLT.out, HRUN.out, List.drop_drop, show a + (e - a) = e by omega, ← HXT.out])
                          go_wp2_with (first
                            | (go_at_call 53; refine (rdigit_any _ _).mono ?_; rintro e w1 ⟨rfl, rfl⟩; rw [HD.out])
                            | (at_builtin; refine wpList_append_lies _ rfl _ _ 57 rfl wo.heap.size 62 j0 (.agg #[.int .i64 0, .string ByteArray.empty]) 2 24 Tryd.underlying57 hj0 hy0 hy1 hy2 rfl (by decide) u8 its.length cs2 rfl ((hown2.out.grow keepsItem HW4.out).1.alloc _) ⟨W4.heap.size, 0, none⟩ 1 1 [.int .i64 0, .string (c.extract a e)] rfl rfl ?c1 ?c2 (by omega) ?c3 ?c4 ?c5 (W4.heap.size + 1) ?c6 ?_))
                          case c1 => exact cell_news _ [.int .i64 0, .string (c.extract a e)] _ _ rfl
                          case c2 => simp [Value.oneCell']
                          case c3 => simp [maxLen]; omega
                          case c4 => omega
                          case c5 => have := HW2.out.size; have := HW4.out.size; simp; omega
                          case c6 => simp
                          intro g2 cap2 w5 hown5 hgrow5 hat5 hlt5
                          have hbb := news_alloc W4 (.cells #[.int .i64 0, .string (c.extract a e)] 62)
                          have HOW5 := Lib.hid (OwnSl.snoc keepsItem ((hown2.out.grow keepsItem HW4.out).grow keepsItem hbb) (vs := [.int .i64 0, .string (c.extract a e)]) (x := ⟨0, c.extract a e⟩) rfl ⟨rfl, i64_zero, HWB.out⟩ hown5 hgrow5 (hat_of hat5 (by simp)))
                          have HBW5 := Lib.hid (((HW2.out.trans (HW4.out.mono HW2.out.size)).trans (hbb.mono (by have := HW2.out.size; have := HW4.out.size; omega))).grown hgrow5 (by have := HW2.out.size; have := HW4.out.size; simp; omega) (fun j hj => (hown2.out.1.lt j hj).1))
                          clear hown5 hgrow5 hat5 hlt5 hbb
                          go_wp2_with fail
                          go_roundw
                          case rel => exact ⟨e, its ++ [⟨0, c.extract a e⟩], _, hec, rfl, by rw [List.length_append, List.length_singleton]; omega, HOW5, Lib.hid (comp_step HC2.out HSTEP.out), HBW5⟩
                          case measure => simp [intOf]; omega
                  · obtain rfl : a = c.size := by omega
                    have HF : Hid (compL c.data.toList = some its) := Lib.hid (by rw [HC2.out, List.drop_eq_nil_of_le (by rw [HZC.out]; exact Nat.le_refl _), compA_nil]; simp)
                    have HYC := Lib.hid (HYES.out _ HF.out)
                    obtain ⟨A2, d2, rfl, hl2, hc2⟩ := (hown2.out.slLt keepsItem).form
                    have HO9 := Lib.hid (hown.out.grow keepsComp HW2.out)
                    go_wp2_with (at_builtin; refine wpList_append_lies _ rfl _ _ 23 rfl w.heap.size 57 i0 (.slice none 0 0) 1 24 Tryd.underlying23 hi0 hz0 hz1 hz2 rfl (by decide) u4 acc.length cs rfl (HO9.out.1.alloc _) ⟨wp.heap.size, 0, none⟩ 1 1 [.slice A2 its.length d2] rfl rfl ?c1 ?c2 (by omega) ?c3 ?c4 ?c5 (wp.heap.size + 1) ?c6 ?_)
                    case c1 => exact cell_news _ [.slice A2 its.length d2] _ _ rfl
                    case c2 => simp [Value.oneCell']
                    case c3 => simp [maxLen]; omega
                    case c4 => omega
                    case c5 => have := HW.out.size; have := HW2.out.size; simp; omega
                    case c6 => simp
                    intro g6 cap6 w6 hown6 hgrow6 hat6 hlt6
                    have hbb : Below wp.heap.size wp (wp.alloc (.cells #[.slice A2 its.length d2] 57)) := news_alloc _ _
                    have HOW6 := Lib.hid (OwnSl.snoc keepsComp (HO9.out.grow keepsComp hbb) (vs := [.slice A2 its.length d2]) (x := its) rfl (rcomp_of (hown2.out.grow keepsItem hbb) HW.out.size (fun j hj => (hown.out.1.lt j hj).2)) hown6 hgrow6 (hat_of hat6 (by simp)))
                    have HBW6 := Lib.hid (((HW.out.trans (HW2.out.mono HW.out.size)).trans (hbb.mono (by have := HW.out.size; have := HW2.out.size; omega))).grown hgrow6 (by have := HW.out.size; have := HW2.out.size; simp; omega) (fun j hj => (hown.out.1.lt j hj).1))
                    clear hown6 hgrow6 hat6 hlt6 hbb
                    go_wp2_with fail
                    go_roundw
                    case rel => exact ⟨k + 1, k + 1, acc ++ [its], _, by omega, by go_num, by go_num, Nat.le_refl _, by rw [List.length_append, List.length_singleton]; omega, HOW6, Lib.hid (fun j x h1 h2 => absurd h1 (by omega)), HYC, HBW6⟩
                    case measure => simp [intOf]; omega
        · have hns : sepB s[k] = false := by simpa using hsep
          obtain ⟨hb1, hb2, hb3⟩ := not_sep hns
          have hc1 : ((s[k].toNat : Int) == 46) = false := by simpa using hb1
          have hn1 : ((s[k].toNat : Int) != 46) = true := by simpa using hb1
          have hc2 : ((s[k].toNat : Int) == 95) = false := by simpa using hb2
          have hn2 : ((s[k].toNat : Int) != 95) = true := by simpa using hb2
          have hc3 : ((s[k].toNat : Int) == 45) = false := by simpa using hb3
          have hn3 : ((s[k].toNat : Int) != 45) = true := by simpa using hb3
          by_cases hd : digB s[k].toNat = true
          · have HD := Lib.hid hd
            clear hd
            go_wp2_with (first | (go_at_call 53; refine (rdigit_any _ _).mono ?_; rintro e w1 ⟨rfl, rfl⟩; rw [HD.out]) | (go_at_call 54; refine (rletter_any _ _).mono ?_; rintro e w1 ⟨rfl, rfl⟩; rw [HL.out]))
            go_roundw
            case rel => exact ⟨k + 1, fr, acc, cs, by omega, by go_num, rfl, by omega, by omega, hown, Lib.hid (all_from HG.out HX.out (by unfold good dig; rw [HD.out]; rfl)), Lib.hid ⟨fun _ => HO1.out, fun h => by omega⟩, HW⟩
            case measure => simp [intOf]; omega
          · have HD : Hid (digB s[k].toNat = false) := Lib.hid (by simpa using hd)
            clear hd
            by_cases hl : letB s[k].toNat = true
            · have HL := Lib.hid hl
              clear hl
              go_wp2_with (first | (go_at_call 53; refine (rdigit_any _ _).mono ?_; rintro e w1 ⟨rfl, rfl⟩; rw [HD.out]) | (go_at_call 54; refine (rletter_any _ _).mono ?_; rintro e w1 ⟨rfl, rfl⟩; rw [HL.out]))
              go_roundw
              case rel => exact ⟨k + 1, fr, acc, cs, by omega, by go_num, rfl, by omega, by omega, hown, Lib.hid (all_from HG.out HX.out (by unfold good let_; rw [HL.out, Bool.or_true])), Lib.hid ⟨fun _ => HO1.out, fun h => by omega⟩, HW⟩
              case measure => simp [intOf]; omega
            · have HL : Hid (letB s[k].toNat = false) := Lib.hid (by simpa using hl)
              clear hl
              have HF : Hid (compsL s.data.toList = none) := Lib.hid (comps_bad HO1.out hfr HX.out (by unfold good dig let_; rw [HD.out, HL.out]; rfl) hns (HNS.out _ _ HG.out))
              go_wp2_with (first | (go_at_call 53; refine (rdigit_any _ _).mono ?_; rintro e w1 ⟨rfl, rfl⟩; rw [HD.out]) | (go_at_call 54; refine (rletter_any _ _).mono ?_; rintro e w1 ⟨rfl, rfl⟩; rw [HL.out]))
              go_ret2
              exact ⟨CompsPost.no HF.out, HW.out⟩
      · have hke : k = s.size := by omega
        have HNO : Hid (compL (s.extract fr k).data.toList = none → compsL s.data.toList = none) := Lib.hid (fun h => by rw [comps_end_last HO1.out (by rw [HSZ.out]; exact hke) (HNS.out _ _ HG.out), ← toList_cut, h]; rfl)
        have HYES : Hid (∀ c, compL (s.extract fr k).data.toList = some c → (k + 1 ≤ s.size → compsL s.data.toList = (compsL (s.data.toList.drop (k + 1))).map ((acc ++ [c]) ++ ·)) ∧ (k + 1 = s.size + 1 → compsL s.data.toList = some (acc ++ [c]))) :=
          Lib.hid (fun c h => ⟨fun e => by omega, fun _ => by rw [comps_end_last HO1.out (by rw [HSZ.out]; exact hke) (HNS.out _ _ HG.out), ← toList_cut, h]; rfl⟩)
        clear hke
        obtain ⟨wo, hwo⟩ : ∃ wo : World, wo = wr := ⟨_, rfl⟩
        subst hwo
        have hcs : (s.extract fr k).size = k - fr := by rw [ByteArray.size_extract]; omega
        by_cases hem : k - fr = 0
        · have hemp := isEmpty_of (s := s.extract fr k) (by omega)
          have HF : Hid (compsL s.data.toList = none) := Lib.hid (HNO.out (compL_empty (by omega)))
          go_wp2_with fail
          go_ret2
          exact ⟨CompsPost.no HF.out, HW.out⟩
        · have hemp := not_isEmpty_of (s := s.extract fr k) (by omega)
          have hpos : 0 < (s.extract fr k).size := by omega
          have HGC := Lib.hid (sub_good HG.out)
          have hcb : (s.extract fr k).size ≤ 1000000000 := by omega
          have HCS := Lib.hid hcs
          have hpos2 : 0 < k - fr := by omega
          clear hcs hem
          go_wp2_with fail
          have HOI : Hid (OwnSl 2 62 RItem (wo.alloc (.cells #[] 62)) wo.heap.size (.slice (some ⟨wo.heap.size, 0, none⟩) 0 0) [] ([] : List Item)) := Lib.hid (own_empty _ _ _ _ _ (Nat.le_refl _))
          have HBI := Lib.hid (news_alloc wo (.cells #[] 62))
          have HSI : Hid ((wo.alloc (.cells #[] 62)).heap.size = wo.heap.size + 1) := Lib.hid (by simp)
          generalize wo.alloc (.cells #[] 62) = W1 at *
          have hc00 := byteAt hpos
          obtain ⟨b0, hb0⟩ : ∃ b, (s.extract fr k)[0] = b := ⟨_, rfl⟩
          rw [hb0] at hc00
          have HC0 := Lib.hid hc00
          simp only [hb0]
          clear hb0 hc00 hpos2
          generalize s.extract fr k = c at *
          have HZC : Hid (c.data.toList.length = c.size) := Lib.hid (by simp)
          have HPRE : Hid (preL c.data.toList = if letB b0.toNat then [Item.zero] else []) := Lib.hid (by
            have h1 := HC0.out
            cases hl : c.data.toList with
            | nil => rw [hl] at h1; simp at h1
            | cons a l => rw [hl] at h1; simp at h1; rw [← h1]; rfl)
          have HCL : Hid (compL c.data.toList = (compA c.data.toList).map (preL c.data.toList ++ ·)) := Lib.hid (if_neg (by intro h; have := HZC.out; rw [h] at this; simp at this; omega))
          by_cases hl : letB b0.toNat = true
          · have HL := Lib.hid hl
            clear hl
            refine (rletter_any _ _).mono ?_
            rintro e w1 ⟨rfl, rfl⟩
            rw [HL.out]
            go_wp2_with (at_builtin; refine wpList_append_lies _ rfl _ _ 57 rfl wo.heap.size 62 j0 (.agg #[.int .i64 0, .string ByteArray.empty]) 2 24 Tryd.underlying57 hj0 hy0 hy1 hy2 rfl (by decide) (.slice (some ⟨wo.heap.size, 0, none⟩) 0 0) 0 [] rfl (HOI.out.1.alloc _) ⟨W1.heap.size, 0, none⟩ 1 1 [.int .i64 0, .string ⟨#[]⟩] rfl rfl ?c1 ?c2 (by omega) ?c3 ?c4 ?c5 (W1.heap.size + 1) ?c6 ?_)
            case c1 => exact cell_news _ [.int .i64 0, .string ⟨#[]⟩] _ _ rfl
            case c2 => simp [Value.oneCell']
            case c3 => simp [maxLen]
            case c4 => omega
            case c5 => simp; have := HSI.out; omega
            case c6 => simp
            intro g0 cap0 w1 hown1 hgrow1 hat1 hlt1
            have hbb := news_alloc W1 (.cells #[.int .i64 0, .string ⟨#[]⟩] 62)
            have HOW2 : Hid (OwnSl 2 62 RItem w1 wo.heap.size (.slice (some ⟨g0, 0, none⟩) 1 cap0) [.int .i64 0, .string ⟨#[]⟩] [Item.zero]) :=
              Lib.hid (OwnSl.snoc keepsItem (HOI.out.grow keepsItem hbb) (vs := [.int .i64 0, .string ⟨#[]⟩]) (x := Item.zero) rfl ⟨rfl, i64_zero, by decide⟩ hown1 hgrow1 (hat_of hat1 (by simp)))
            have HBW2 : Hid (Below wo.heap.size wo w1) := Lib.hid ((HBI.out.trans (hbb.mono HBI.out.size)).grown hgrow1 (by have := HSI.out; simp; omega) (fun j hj => (HOI.out.1.lt j hj).1))
            have HCI : Hid (compL c.data.toList = (compA (c.data.toList.drop 0)).map ([Item.zero] ++ ·)) := Lib.hid (by rw [HCL.out, HPRE.out, HL.out]; rfl)
            clear hown1 hgrow1 hat1 hlt1 hbb
            go_wp2_with fail
            go_loopw [8, 9] (fun v i wr => ∃ (a : Nat) (its : List Item) (cs2 : List Value), a ≤ c.size ∧ i = .int .i64 a ∧ its.length ≤ a + 1 ∧ Hid (OwnSl 2 62 RItem wr wo.heap.size v cs2 its) ∧ Hid (compL c.data.toList = (compA (c.data.toList.drop a)).map (its ++ ·)) ∧ Hid (Below wo.heap.size wo wr)) (fun _ i _ => c.size - (intOf i).toNat)
            case atStart => exact ⟨0, _, _, Nat.zero_le _, rfl, by simp, HOW2, HCI, HBW2⟩
            case round =>
              obtain ⟨a, its, cs2, hac, rfl, hits, hown2, HC2, HW2⟩ := hrel
              obtain ⟨wp, hwp⟩ : ∃ wp : World, wp = wr := ⟨_, rfl⟩
              subst hwp
              by_cases hal : a < c.size
              · have HXA := Lib.hid (byteAt hal)
                have HXA0 : Hid ((c.data.toList.drop a)[0]? = some c[a]) := Lib.hid (by rw [List.getElem?_drop]; exact HXA.out)
                have HGA := Lib.hid (HGC.out _ _ HXA.out)
                go_wp2_with fail
                go_loopw [10] (fun i wr => ∃ e : Nat, a ≤ e ∧ e ≤ c.size ∧ i = .int .i64 e ∧ Hid (∀ (j : Nat) (x : UInt8), a ≤ j → j < e → c.data.toList[j]? = some x → dig x = dig c[a]) ∧ Hid (Below wp.heap.size wp wr)) (fun i _ => c.size - (intOf i).toNat)
                case atStart => exact ⟨a, Nat.le_refl _, by omega, rfl, Lib.hid (fun j x h1 h2 => absurd h1 (by omega)), Lib.hid (Below.refl _ _)⟩
                case round =>
                  obtain ⟨e, hae, hec, rfl, HA, HW3⟩ := hrel
                  by_cases hel : e < c.size
                  · have HXE := Lib.hid (byteAt hel)
                    have hg1 : (e : Int) < (c.size : Int) := by omega
                    have hg2 : decide ((e : Int) < (c.size : Int)) = true := decide_eq_true hg1
                    by_cases hq : digB c[e].toNat = digB c[a].toNat
                    · have hq2 : (digB c[e].toNat == digB c[a].toNat) = true := by simpa using hq
                      go_wp2_with fail
                      refine wp_region_quiet_below (by kernel_rfl) (by kernel_rfl) ?_
                      repeat (first | go_big_quiet_step ((go_at_call 53; exact regrown_same (rdigit_any _ _))) | quiet_step ((go_at_call 53; exact regrown_same (rdigit_any _ _))))
                      refine wpQuiet_nil ?_
                      intro _ hwq
                      obtain ⟨⟨q, os⟩, hwq⟩ := hwq
                      subst hwq
                      have HB1 := Lib.hid (below_regrown wr q os)
                      generalize grow (redrawn wr q) os = W4 at *
                      go_wp2_with fail
                      go_roundw
                      case rel => exact ⟨e + 1, by omega, by omega, by go_num, Lib.hid (fun j x h1 h2 hx => by
                        by_cases hj : j = e
                        · subst hj
                          rw [HXE.out] at hx
                          obtain rfl := Option.some.inj hx
                          exact hq
                        · exact HA.out j x h1 (by omega) hx), Lib.hid (HW3.out.trans (HB1.out.mono HW3.out.size))⟩
                      case measure => simp [intOf]; omega
                    · have hq2 : (digB c[e].toNat == digB c[a].toNat) = false := by simpa using hq
                      have HEND : Hid (∀ x, c.data.toList[e]? = some x → ¬ dig x = dig c[a]) := Lib.hid (fun x hx => by
                        rw [HXE.out] at hx
                        obtain rfl := Option.some.inj hx
                        exact hq)
                      have hlt2 : a < e := by
                        rcases Nat.lt_or_ge a e with h | h
                        · exact h
                        · exfalso
                          obtain rfl : e = a := by omega
                          exact hq rfl
                      go_wp2_with fail
                      refine wp_region_quiet_below (by kernel_rfl) (by kernel_rfl) ?_
                      repeat (first | go_big_quiet_step ((go_at_call 53; exact regrown_same (rdigit_any _ _))) | quiet_step ((go_at_call 53; exact regrown_same (rdigit_any _ _))))
                      refine wpQuiet_nil ?_
                      intro _ hwq
                      obtain ⟨⟨q, os⟩, hwq⟩ := hwq
                      subst hwq
                      have HB1 := Lib.hid (below_regrown wr q os)
                      have HW4 := Lib.hid (HW3.out.trans (HB1.out.mono HW3.out.size))
                      clear HB1
                      generalize grow (redrawn wr q) os = W4 at *
                      have hes : (c.extract a e).size ≤ 1000000000 := by rw [ByteArray.size_extract]; omega
                      have HES := Lib.hid hes
                      have HXT : Hid ((c.extract a e).data.toList = (c.data.toList.drop a).take (e - a)) := Lib.hid (toList_cut _ _ _)
                      have HWB : Hid ((c.extract a e).size ≤ 9223372036854775807) := Lib.hid (by omega)
                      clear hes
                      by_cases hd : digB c[a].toNat = true
                      · have HD := Lib.hid hd
                        have HNL : Hid (let_ c[a] = false) := Lib.hid (by
                          cases h : let_ c[a] with
                          | false => rfl
                          | true => exact absurd (let_not_dig h) (by show ¬ digB c[a].toNat = false; rw [hd]; simp))
                        have HRUN : Hid (runN dig (c.data.toList.drop a) = e - a) := Lib.hid (run_sort (sort_dig hd) HGC.out hae (by rw [HZC.out]; exact hec) HA.out HEND.out)
                        clear hd
                        have HCA := Lib.hid (compA_dig HXA0.out HNL.out HD.out)
                        cases hsm : smallL (c.extract a e).data.toList 1000000000000000 with
                        | none =>
                          have HSM : Hid (smallR (c.extract a e).data.toList 1000000000000000 = -1) := Lib.hid (by unfold smallR; rw [hsm]; rfl)
                          have HF : Hid (compsL s.data.toList = none) := Lib.hid (HNO.out (by
                            rw [HC2.out, HCA.out, HRUN.out, ← HXT.out, ← small_most, hsm]; rfl))
                          clear hsm
                          go_wp2_with (first
                            | (go_at_call 53; refine (rdigit_any _ _).mono ?_; rintro e w1 ⟨rfl, rfl⟩; rw [HD.out])
                            | (go_at_call 28; refine (rSmall_any _ _ _ HES.out).mono ?_; rintro e w1 ⟨rfl, rfl⟩; rw [HSM.out]))
                          go_ret2
                          exact ⟨CompsPost.no HF.out, HW.out.trans ((HW2.out.trans (HW4.out.mono HW2.out.size)).mono HW.out.size)⟩
                        | some v =>
                          have HSM : Hid (smallR (c.extract a e).data.toList 1000000000000000 = v) := Lib.hid (by unfold smallR; rw [hsm]; rfl)
                          have hv := smallL_bd hsm
                          have HI := Lib.hid (i64_small hsm)
                          have HSTEP : Hid (compA (c.data.toList.drop a) = (compA (c.data.toList.drop e)).map (⟨v, ByteArray.empty⟩ :: ·)) := Lib.hid (by
                            rw [HCA.out, HRUN.out, ← HXT.out, ← small_most, hsm, List.drop_drop, show a + (e - a) = e by omega]; rfl)
                          have hv0 : ¬ v < 0 := by omega
                          clear hsm hv
                          go_wp2_with (first
                            | (go_at_call 53; refine (rdigit_any _ _).mono ?_; rintro e w1 ⟨rfl, rfl⟩; rw [HD.out])
                            | (go_at_call 28; refine (rSmall_any _ _ _ HES.out).mono ?_; rintro e w1 ⟨rfl, rfl⟩; rw [HSM.out])
                            | (at_builtin; refine wpList_append_lies _ rfl _ _ 57 rfl wo.heap.size 62 j0 (.agg #[.int .i64 0, .string ByteArray.empty]) 2 24 Tryd.underlying57 hj0 hy0 hy1 hy2 rfl (by decide) u8 its.length cs2 rfl ((hown2.out.grow keepsItem HW4.out).1.alloc _) ⟨W4.heap.size, 0, none⟩ 1 1 [.int .i64 v, .string ⟨#[]⟩] rfl rfl ?c1 ?c2 (by omega) ?c3 ?c4 ?c5 (W4.heap.size + 1) ?c6 ?_))
                          case c1 => exact cell_news _ [.int .i64 v, .string ⟨#[]⟩] _ _ rfl
                          case c2 => simp [Value.oneCell']
                          case c3 => simp [maxLen]; omega
                          case c4 => omega
                          case c5 => have := HW2.out.size; have := HW4.out.size; simp; omega
                          case c6 => simp
                          intro g2 cap2 w5 hown5 hgrow5 hat5 hlt5
                          have hbb := news_alloc W4 (.cells #[.int .i64 v, .string ⟨#[]⟩] 62)
                          have HOW5 := Lib.hid (OwnSl.snoc keepsItem ((hown2.out.grow keepsItem HW4.out).grow keepsItem hbb) (vs := [.int .i64 v, .string ⟨#[]⟩]) (x := ⟨v, ByteArray.empty⟩) rfl ⟨rfl, HI.out, empty_size⟩ hown5 hgrow5 (hat_of hat5 (by simp)))
                          have HBW5 := Lib.hid (((HW2.out.trans (HW4.out.mono HW2.out.size)).trans (hbb.mono (by have := HW2.out.size; have := HW4.out.size; omega))).grown hgrow5 (by have := HW2.out.size; have := HW4.out.size; simp; omega) (fun j hj => (hown2.out.1.lt j hj).1))
                          clear hown5 hgrow5 hat5 hlt5 hbb
                          go_wp2_with fail
                          go_roundw
                          case rel => exact ⟨e, its ++ [⟨v, ByteArray.empty⟩], _, hec, rfl, by rw [List.length_append, List.length_singleton]; omega, HOW5, Lib.hid (comp_step HC2.out HSTEP.out), HBW5⟩
                          case measure => simp [intOf]; omega
                      · have hd0 : digB c[a].toNat = false := by simpa using hd
                        have HD := Lib.hid hd0
                        have HLT : Hid (let_ c[a] = true) := Lib.hid (by
                          have := HGA.out
                          unfold good at this
                          rw [show dig c[a] = false from hd0, Bool.false_or] at this
                          exact this)
                        have HRUN : Hid (runN let_ (c.data.toList.drop a) = e - a) := Lib.hid (run_sort (sort_let hd0) HGC.out hae (by rw [HZC.out]; exact hec) HA.out HEND.out)
                        clear hd hd0
                        have HSTEP : Hid (compA (c.data.toList.drop a) = (compA (c.data.toList.drop e)).map (⟨0, c.extract a e⟩ :: ·)) := Lib.hid (by
                          rw [compA_let HXA0.out HLT.out, HRUN.out, List.drop_drop, show a + (e - a) = e by omega, ← HXT.out])
                        go_wp2_with (first
                          | (go_at_call 53; refine (rdigit_any _ _).mono ?_; rintro e w1 ⟨rfl, rfl⟩; rw [HD.out])
                          | (at_builtin; refine wpList_append_lies _ rfl _ _ 57 rfl wo.heap.size 62 j0 (.agg #[.int .i64 0, .string ByteArray.empty]) 2 24 Tryd.underlying57 hj0 hy0 hy1 hy2 rfl (by decide) u8 its.length cs2 rfl ((hown2.out.grow keepsItem HW4.out).1.alloc _) ⟨W4.heap.size, 0, none⟩ 1 1 [.int .i64 0, .string (c.extract a e)] rfl rfl ?c1 ?c2 (by omega) ?c3 ?c4 ?c5 (W4.heap.size + 1) ?c6 ?_))
                        case c1 => exact cell_news _ [.int .i64 0, .string (c.extract a e)] _ _ rfl
                        case c2 => simp [Value.oneCell']
                        case c3 => simp [maxLen]; omega
                        case c4 => omega
                        case c5 => have := HW2.out.size; have := HW4.out.size; simp; omega
                        case c6 => simp
                        intro g2 cap2 w5 hown5 hgrow5 hat5 hlt5
                        have hbb := news_alloc W4 (.cells #[.int .i64 0, .string (c.extract a e)] 62)
                        have HOW5 := Lib.hid (OwnSl.snoc keepsItem ((hown2.out.grow keepsItem HW4.out).grow keepsItem hbb) (vs := [.int .i64 0, .string (c.extract a e)]) (x := ⟨0, c.extract a e⟩) rfl ⟨rfl, i64_zero, HWB.out⟩ hown5 hgrow5 (hat_of hat5 (by simp)))
                        have HBW5 := Lib.hid (((HW2.out.trans (HW4.out.mono HW2.out.size)).trans (hbb.mono (by have := HW2.out.size; have := HW4.out.size; omega))).grown hgrow5 (by have := HW2.out.size; have := HW4.out.size; simp; omega) (fun j hj => (hown2.out.1.lt j hj).1))
                        clear hown5 hgrow5 hat5 hlt5 hbb
                        go_wp2_with fail
                        go_roundw
                        case rel => exact ⟨e, its ++ [⟨0, c.extract a e⟩], _, hec, rfl, by rw [List.length_append, List.length_singleton]; omega, HOW5, Lib.hid (comp_step HC2.out HSTEP.out), HBW5⟩
                        case measure => simp [intOf]; omega
                  · have HEND : Hid (∀ x, c.data.toList[e]? = some x → ¬ dig x = dig c[a]) := Lib.hid (fun x hx => by
                      rw [List.getElem?_eq_none (by rw [HZC.out]; omega)] at hx
                      cases hx)
                    have hlt2 : a < e := by omega
                    have hg1 : ¬ (e : Int) < (c.size : Int) := by omega
                    have hg2 : decide ((e : Int) < (c.size : Int)) = false := decide_eq_false hg1
                    go_wp2_with fail
                    refine wp_region_quiet_below (by kernel_rfl) (by kernel_rfl) ?_
                    repeat (first | go_big_quiet_step ((go_at_call 53; exact regrown_same (rdigit_any _ _))) | quiet_step ((go_at_call 53; exact regrown_same (rdigit_any _ _))))
                    refine wpQuiet_nil ?_
                    intro _ hwq
                    obtain ⟨⟨q, os⟩, hwq⟩ := hwq
                    subst hwq
                    have HB1 := Lib.hid (below_regrown wr q os)
                    have HW4 := Lib.hid (HW3.out.trans (HB1.out.mono HW3.out.size))
                    clear HB1
                    generalize grow (redrawn wr q) os = W4 at *
                    have hes : (c.extract a e).size ≤ 1000000000 := by rw [ByteArray.size_extract]; omega
                    have HES := Lib.hid hes
                    have HXT : Hid ((c.extract a e).data.toList = (c.data.toList.drop a).take (e - a)) := Lib.hid (toList_cut _ _ _)
                    have HWB : Hid ((c.extract a e).size ≤ 9223372036854775807) := Lib.hid (by omega)
                    clear hes
                    by_cases hd : digB c[a].toNat = true
                    · have HD := Lib.hid hd
                      have HNL : Hid (let_ c[a] = false) := Lib.hid (by
                        cases h : let_ c[a] with
                        | false => rfl
                        | true => exact absurd (let_not_dig h) (by show ¬ digB c[a].toNat = false; rw [hd]; simp))
                      have HRUN : Hid (runN dig (c.data.toList.drop a) = e - a) := Lib.hid (run_sort (sort_dig hd) HGC.out hae (by rw [HZC.out]; exact hec) HA.out HEND.out)
                      clear hd
                      have HCA := Lib.hid (compA_dig HXA0.out HNL.out HD.out)
                      cases hsm : smallL (c.extract a e).data.toList 1000000000000000 with
                      | none =>
                        have HSM : Hid (smallR (c.extract a e).data.toList 1000000000000000 = -1) := Lib.hid (by unfold smallR; rw [hsm]; rfl)
                        have HF : Hid (compsL s.data.toList = none) := Lib.hid (HNO.out (by
                          rw [HC2.out, HCA.out, HRUN.out, ← HXT.out, ← small_most, hsm]; rfl))
                        clear hsm
                        go_wp2_with (first
                          | (go_at_call 53; refine (rdigit_any _ _).mono ?_; rintro e w1 ⟨rfl, rfl⟩; rw [HD.out])
                          | (go_at_call 28; refine (rSmall_any _ _ _ HES.out).mono ?_; rintro e w1 ⟨rfl, rfl⟩; rw [HSM.out]))
                        go_ret2
                        exact ⟨CompsPost.no HF.out, HW.out.trans ((HW2.out.trans (HW4.out.mono HW2.out.size)).mono HW.out.size)⟩
                      | some v =>
                        have HSM : Hid (smallR (c.extract a e).data.toList 1000000000000000 = v) := Lib.hid (by unfold smallR; rw [hsm]; rfl)
                        have hv := smallL_bd hsm
                        have HI := Lib.hid (i64_small hsm)
                        have HSTEP : Hid (compA (c.data.toList.drop a) = (compA (c.data.toList.drop e)).map (⟨v, ByteArray.empty⟩ :: ·)) := Lib.hid (by
                          rw [HCA.out, HRUN.out, ← HXT.out, ← small_most, hsm, List.drop_drop, show a + (e - a) = e by omega]; rfl)
                        have hv0 : ¬ v < 0 := by omega
                        clear hsm hv
                        go_wp2_with (first
                          | (go_at_call 53; refine (rdigit_any _ _).mono ?_; rintro e w1 ⟨rfl, rfl⟩; rw [HD.out])
                          | (go_at_call 28; refine (rSmall_any _ _ _ HES.out).mono ?_; rintro e w1 ⟨rfl, rfl⟩; rw [HSM.out])
                          | (at_builtin; refine wpList_append_lies _ rfl _ _ 57 rfl wo.heap.size 62 j0 (.agg #[.int .i64 0, .string ByteArray.empty]) 2 24 Tryd.underlying57 hj0 hy0 hy1 hy2 rfl (by decide) u8 its.length cs2 rfl ((hown2.out.grow keepsItem HW4.out).1.alloc _) ⟨W4.heap.size, 0, none⟩ 1 1 [.int .i64 v, .string ⟨#[]⟩] rfl rfl ?c1 ?c2 (by omega) ?c3 ?c4 ?c5 (W4.heap.size + 1) ?c6 ?_))
                        case c1 => exact cell_news _ [.int .i64 v, .string ⟨#[]⟩] _ _ rfl
                        case c2 => simp [Value.oneCell']
                        case c3 => simp [maxLen]; omega
                        case c4 => omega
                        case c5 => have := HW2.out.size; have := HW4.out.size; simp; omega
                        case c6 => simp
                        intro g2 cap2 w5 hown5 hgrow5 hat5 hlt5
                        have hbb := news_alloc W4 (.cells #[.int .i64 v, .string ⟨#[]⟩] 62)
                        have HOW5 := Lib.hid (OwnSl.snoc keepsItem ((hown2.out.grow keepsItem HW4.out).grow keepsItem hbb) (vs := [.int .i64 v, .string ⟨#[]⟩]) (x := ⟨v, ByteArray.empty⟩) rfl ⟨rfl, HI.out, empty_size⟩ hown5 hgrow5 (hat_of hat5 (by simp)))
                        have HBW5 := Lib.hid (((HW2.out.trans (HW4.out.mono HW2.out.size)).trans (hbb.mono (by have := HW2.out.size; have := HW4.out.size; omega))).grown hgrow5 (by have := HW2.out.size; have := HW4.out.size; simp; omega) (fun j hj => (hown2.out.1.lt j hj).1))
                        clear hown5 hgrow5 hat5 hlt5 hbb
                        go_wp2_with fail
                        go_roundw
                        case rel => exact ⟨e, its ++ [⟨v, ByteArray.empty⟩], _, hec, rfl, by rw [List.length_append, List.length_singleton]; omega, HOW5, Lib.hid (comp_step HC2.out HSTEP.out), HBW5⟩
                        case measure => simp [intOf]; omega
                    · have hd0 : digB c[a].toNat = false := by simpa using hd
                      have HD := Lib.hid hd0
                      have HLT : Hid (let_ c[a] = true) := Lib.hid (by
                        have := HGA.out
                        unfold good at this
                        rw [show dig c[a] = false from hd0, Bool.false_or] at this
                        exact this)
                      have HRUN : Hid (runN let_ (c.data.toList.drop a) = e - a) := Lib.hid (run_sort (sort_let hd0) HGC.out hae (by rw [HZC.out]; exact hec) HA.out HEND.out)
                      clear hd hd0
                      have HSTEP : Hid (compA (c.data.toList.drop a) = (compA (c.data.toList.drop e)).map (⟨0, c.extract a e⟩ :: ·)) := Lib.hid (by
                        rw [compA_let HXA0.out HLT.out, HRUN.out, List.drop_drop, show a + (e - a) = e by omega, ← HXT.out])
                      go_wp2_with (first
                        | (go_at_call 53; refine (rdigit_any _ _).mono ?_; rintro e w1 ⟨rfl, rfl⟩; rw [HD.out])
                        | (at_builtin; refine wpList_append_lies _ rfl _ _ 57 rfl wo.heap.size 62 j0 (.agg #[.int .i64 0, .string ByteArray.empty]) 2 24 Tryd.underlying57 hj0 hy0 hy1 hy2 rfl (by decide) u8 its.length cs2 rfl ((hown2.out.grow keepsItem HW4.out).1.alloc _) ⟨W4.heap.size, 0, none⟩ 1 1 [.int .i64 0, .string (c.extract a e)] rfl rfl ?c1 ?c2 (by omega) ?c3 ?c4 ?c5 (W4.heap.size + 1) ?c6 ?_))
                      case c1 => exact cell_news _ [.int .i64 0, .string (c.extract a e)] _ _ rfl
                      case c2 => simp [Value.oneCell']
                      case c3 => simp [maxLen]; omega
                      case c4 => omega
                      case c5 => have := HW2.out.size; have := HW4.out.size; simp; omega
                      case c6 => simp
                      intro g2 cap2 w5 hown5 hgrow5 hat5 hlt5
                      have hbb := news_alloc W4 (.cells #[.int .i64 0, .string (c.extract a e)] 62)
                      have HOW5 := Lib.hid (OwnSl.snoc keepsItem ((hown2.out.grow keepsItem HW4.out).grow keepsItem hbb) (vs := [.int .i64 0, .string (c.extract a e)]) (x := ⟨0, c.extract a e⟩) rfl ⟨rfl, i64_zero, HWB.out⟩ hown5 hgrow5 (hat_of hat5 (by simp)))
                      have HBW5 := Lib.hid (((HW2.out.trans (HW4.out.mono HW2.out.size)).trans (hbb.mono (by have := HW2.out.size; have := HW4.out.size; omega))).grown hgrow5 (by have := HW2.out.size; have := HW4.out.size; simp; omega) (fun j hj => (hown2.out.1.lt j hj).1))
                      clear hown5 hgrow5 hat5 hlt5 hbb
                      go_wp2_with fail
                      go_roundw
                      case rel => exact ⟨e, its ++ [⟨0, c.extract a e⟩], _, hec, rfl, by rw [List.length_append, List.length_singleton]; omega, HOW5, Lib.hid (comp_step HC2.out HSTEP.out), HBW5⟩
                      case measure => simp [intOf]; omega
              · obtain rfl : a = c.size := by omega
                have HF : Hid (compL c.data.toList = some its) := Lib.hid (by rw [HC2.out, List.drop_eq_nil_of_le (by rw [HZC.out]; exact Nat.le_refl _), compA_nil]; simp)
                have HYC := Lib.hid (HYES.out _ HF.out)
                obtain ⟨A2, d2, rfl, hl2, hc2⟩ := (hown2.out.slLt keepsItem).form
                have HO9 := Lib.hid (hown.out.grow keepsComp HW2.out)
                go_wp2_with (at_builtin; refine wpList_append_lies _ rfl _ _ 23 rfl w.heap.size 57 i0 (.slice none 0 0) 1 24 Tryd.underlying23 hi0 hz0 hz1 hz2 rfl (by decide) u4 acc.length cs rfl (HO9.out.1.alloc _) ⟨wp.heap.size, 0, none⟩ 1 1 [.slice A2 its.length d2] rfl rfl ?c1 ?c2 (by omega) ?c3 ?c4 ?c5 (wp.heap.size + 1) ?c6 ?_)
                case c1 => exact cell_news _ [.slice A2 its.length d2] _ _ rfl
                case c2 => simp [Value.oneCell']
                case c3 => simp [maxLen]; omega
                case c4 => omega
                case c5 => have := HW.out.size; have := HW2.out.size; simp; omega
                case c6 => simp
                intro g6 cap6 w6 hown6 hgrow6 hat6 hlt6
                have hbb : Below wp.heap.size wp (wp.alloc (.cells #[.slice A2 its.length d2] 57)) := news_alloc _ _
                have HOW6 := Lib.hid (OwnSl.snoc keepsComp (HO9.out.grow keepsComp hbb) (vs := [.slice A2 its.length d2]) (x := its) rfl (rcomp_of (hown2.out.grow keepsItem hbb) HW.out.size (fun j hj => (hown.out.1.lt j hj).2)) hown6 hgrow6 (hat_of hat6 (by simp)))
                have HBW6 := Lib.hid (((HW.out.trans (HW2.out.mono HW.out.size)).trans (hbb.mono (by have := HW.out.size; have := HW2.out.size; omega))).grown hgrow6 (by have := HW.out.size; have := HW2.out.size; simp; omega) (fun j hj => (hown.out.1.lt j hj).1))
                clear hown6 hgrow6 hat6 hlt6 hbb
                go_wp2_with fail
                go_roundw
                case rel => exact ⟨k + 1, k + 1, acc ++ [its], _, by omega, by go_num, by go_num, Nat.le_refl _, by rw [List.length_append, List.length_singleton]; omega, HOW6, Lib.hid (fun j x h1 h2 => absurd h1 (by omega)), HYC, HBW6⟩
                case measure => simp [intOf]; omega
          · have HL : Hid (letB b0.toNat = false) := Lib.hid (by simpa using hl)
            clear hl
            refine (rletter_any _ _).mono ?_
            rintro e w1 ⟨rfl, rfl⟩
            rw [HL.out]
            have HCI : Hid (compL c.data.toList = (compA (c.data.toList.drop 0)).map (([] : List Item) ++ ·)) := Lib.hid (by rw [HCL.out, HPRE.out, HL.out]; rfl)
            go_wp2_with fail
            go_loopw [8, 9] (fun v i wr => ∃ (a : Nat) (its : List Item) (cs2 : List Value), a ≤ c.size ∧ i = .int .i64 a ∧ its.length ≤ a + 1 ∧ Hid (OwnSl 2 62 RItem wr wo.heap.size v cs2 its) ∧ Hid (compL c.data.toList = (compA (c.data.toList.drop a)).map (its ++ ·)) ∧ Hid (Below wo.heap.size wo wr)) (fun _ i _ => c.size - (intOf i).toNat)
            case atStart => exact ⟨0, _, _, Nat.zero_le _, rfl, by simp, HOI, HCI, HBI⟩
            case round =>
              obtain ⟨a, its, cs2, hac, rfl, hits, hown2, HC2, HW2⟩ := hrel
              obtain ⟨wp, hwp⟩ : ∃ wp : World, wp = wr := ⟨_, rfl⟩
              subst hwp
              by_cases hal : a < c.size
              · have HXA := Lib.hid (byteAt hal)
                have HXA0 : Hid ((c.data.toList.drop a)[0]? = some c[a]) := Lib.hid (by rw [List.getElem?_drop]; exact HXA.out)
                have HGA := Lib.hid (HGC.out _ _ HXA.out)
                go_wp2_with fail
                go_loopw [10] (fun i wr => ∃ e : Nat, a ≤ e ∧ e ≤ c.size ∧ i = .int .i64 e ∧ Hid (∀ (j : Nat) (x : UInt8), a ≤ j → j < e → c.data.toList[j]? = some x → dig x = dig c[a]) ∧ Hid (Below wp.heap.size wp wr)) (fun i _ => c.size - (intOf i).toNat)
                case atStart => exact ⟨a, Nat.le_refl _, by omega, rfl, Lib.hid (fun j x h1 h2 => absurd h1 (by omega)), Lib.hid (Below.refl _ _)⟩
                case round =>
                  obtain ⟨e, hae, hec, rfl, HA, HW3⟩ := hrel
                  by_cases hel : e < c.size
                  · have HXE := Lib.hid (byteAt hel)
                    have hg1 : (e : Int) < (c.size : Int) := by omega
                    have hg2 : decide ((e : Int) < (c.size : Int)) = true := decide_eq_true hg1
                    by_cases hq : digB c[e].toNat = digB c[a].toNat
                    · have hq2 : (digB c[e].toNat == digB c[a].toNat) = true := by simpa using hq
                      go_wp2_with fail
                      refine wp_region_quiet_below (by kernel_rfl) (by kernel_rfl) ?_
                      repeat (first | go_big_quiet_step ((go_at_call 53; exact regrown_same (rdigit_any _ _))) | quiet_step ((go_at_call 53; exact regrown_same (rdigit_any _ _))))
                      refine wpQuiet_nil ?_
                      intro _ hwq
                      obtain ⟨⟨q, os⟩, hwq⟩ := hwq
                      subst hwq
                      have HB1 := Lib.hid (below_regrown wr q os)
                      generalize grow (redrawn wr q) os = W4 at *
                      go_wp2_with fail
                      go_roundw
                      case rel => exact ⟨e + 1, by omega, by omega, by go_num, Lib.hid (fun j x h1 h2 hx => by
                        by_cases hj : j = e
                        · subst hj
                          rw [HXE.out] at hx
                          obtain rfl := Option.some.inj hx
                          exact hq
                        · exact HA.out j x h1 (by omega) hx), Lib.hid (HW3.out.trans (HB1.out.mono HW3.out.size))⟩
                      case measure => simp [intOf]; omega
                    · have hq2 : (digB c[e].toNat == digB c[a].toNat) = false := by simpa using hq
                      have HEND : Hid (∀ x, c.data.toList[e]? = some x → ¬ dig x = dig c[a]) := Lib.hid (fun x hx => by
                        rw [HXE.out] at hx
                        obtain rfl := Option.some.inj hx
                        exact hq)
                      have hlt2 : a < e := by
                        rcases Nat.lt_or_ge a e with h | h
                        · exact h
                        · exfalso
                          obtain rfl : e = a := by omega
                          exact hq rfl
                      go_wp2_with fail
                      refine wp_region_quiet_below (by kernel_rfl) (by kernel_rfl) ?_
                      repeat (first | go_big_quiet_step ((go_at_call 53; exact regrown_same (rdigit_any _ _))) | quiet_step ((go_at_call 53; exact regrown_same (rdigit_any _ _))))
                      refine wpQuiet_nil ?_
                      intro _ hwq
                      obtain ⟨⟨q, os⟩, hwq⟩ := hwq
                      subst hwq
                      have HB1 := Lib.hid (below_regrown wr q os)
                      have HW4 := Lib.hid (HW3.out.trans (HB1.out.mono HW3.out.size))
                      clear HB1
                      generalize grow (redrawn wr q) os = W4 at *
                      have hes : (c.extract a e).size ≤ 1000000000 := by rw [ByteArray.size_extract]; omega
                      have HES := Lib.hid hes
                      have HXT : Hid ((c.extract a e).data.toList = (c.data.toList.drop a).take (e - a)) := Lib.hid (toList_cut _ _ _)
                      have HWB : Hid ((c.extract a e).size ≤ 9223372036854775807) := Lib.hid (by omega)
                      clear hes
                      by_cases hd : digB c[a].toNat = true
                      · have HD := Lib.hid hd
                        have HNL : Hid (let_ c[a] = false) := Lib.hid (by
                          cases h : let_ c[a] with
                          | false => rfl
                          | true => exact absurd (let_not_dig h) (by show ¬ digB c[a].toNat = false; rw [hd]; simp))
                        have HRUN : Hid (runN dig (c.data.toList.drop a) = e - a) := Lib.hid (run_sort (sort_dig hd) HGC.out hae (by rw [HZC.out]; exact hec) HA.out HEND.out)
                        clear hd
                        have HCA := Lib.hid (compA_dig HXA0.out HNL.out HD.out)
                        cases hsm : smallL (c.extract a e).data.toList 1000000000000000 with
                        | none =>
                          have HSM : Hid (smallR (c.extract a e).data.toList 1000000000000000 = -1) := Lib.hid (by unfold smallR; rw [hsm]; rfl)
                          have HF : Hid (compsL s.data.toList = none) := Lib.hid (HNO.out (by
                            rw [HC2.out, HCA.out, HRUN.out, ← HXT.out, ← small_most, hsm]; rfl))
                          clear hsm
                          go_wp2_with (first
                            | (go_at_call 53; refine (rdigit_any _ _).mono ?_; rintro e w1 ⟨rfl, rfl⟩; rw [HD.out])
                            | (go_at_call 28; refine (rSmall_any _ _ _ HES.out).mono ?_; rintro e w1 ⟨rfl, rfl⟩; rw [HSM.out]))
                          go_ret2
                          exact ⟨CompsPost.no HF.out, HW.out.trans ((HW2.out.trans (HW4.out.mono HW2.out.size)).mono HW.out.size)⟩
                        | some v =>
                          have HSM : Hid (smallR (c.extract a e).data.toList 1000000000000000 = v) := Lib.hid (by unfold smallR; rw [hsm]; rfl)
                          have hv := smallL_bd hsm
                          have HI := Lib.hid (i64_small hsm)
                          have HSTEP : Hid (compA (c.data.toList.drop a) = (compA (c.data.toList.drop e)).map (⟨v, ByteArray.empty⟩ :: ·)) := Lib.hid (by
                            rw [HCA.out, HRUN.out, ← HXT.out, ← small_most, hsm, List.drop_drop, show a + (e - a) = e by omega]; rfl)
                          have hv0 : ¬ v < 0 := by omega
                          clear hsm hv
                          go_wp2_with (first
                            | (go_at_call 53; refine (rdigit_any _ _).mono ?_; rintro e w1 ⟨rfl, rfl⟩; rw [HD.out])
                            | (go_at_call 28; refine (rSmall_any _ _ _ HES.out).mono ?_; rintro e w1 ⟨rfl, rfl⟩; rw [HSM.out])
                            | (at_builtin; refine wpList_append_lies _ rfl _ _ 57 rfl wo.heap.size 62 j0 (.agg #[.int .i64 0, .string ByteArray.empty]) 2 24 Tryd.underlying57 hj0 hy0 hy1 hy2 rfl (by decide) u8 its.length cs2 rfl ((hown2.out.grow keepsItem HW4.out).1.alloc _) ⟨W4.heap.size, 0, none⟩ 1 1 [.int .i64 v, .string ⟨#[]⟩] rfl rfl ?c1 ?c2 (by omega) ?c3 ?c4 ?c5 (W4.heap.size + 1) ?c6 ?_))
                          case c1 => exact cell_news _ [.int .i64 v, .string ⟨#[]⟩] _ _ rfl
                          case c2 => simp [Value.oneCell']
                          case c3 => simp [maxLen]; omega
                          case c4 => omega
                          case c5 => have := HW2.out.size; have := HW4.out.size; simp; omega
                          case c6 => simp
                          intro g2 cap2 w5 hown5 hgrow5 hat5 hlt5
                          have hbb := news_alloc W4 (.cells #[.int .i64 v, .string ⟨#[]⟩] 62)
                          have HOW5 := Lib.hid (OwnSl.snoc keepsItem ((hown2.out.grow keepsItem HW4.out).grow keepsItem hbb) (vs := [.int .i64 v, .string ⟨#[]⟩]) (x := ⟨v, ByteArray.empty⟩) rfl ⟨rfl, HI.out, empty_size⟩ hown5 hgrow5 (hat_of hat5 (by simp)))
                          have HBW5 := Lib.hid (((HW2.out.trans (HW4.out.mono HW2.out.size)).trans (hbb.mono (by have := HW2.out.size; have := HW4.out.size; omega))).grown hgrow5 (by have := HW2.out.size; have := HW4.out.size; simp; omega) (fun j hj => (hown2.out.1.lt j hj).1))
                          clear hown5 hgrow5 hat5 hlt5 hbb
                          go_wp2_with fail
                          go_roundw
                          case rel => exact ⟨e, its ++ [⟨v, ByteArray.empty⟩], _, hec, rfl, by rw [List.length_append, List.length_singleton]; omega, HOW5, Lib.hid (comp_step HC2.out HSTEP.out), HBW5⟩
                          case measure => simp [intOf]; omega
                      · have hd0 : digB c[a].toNat = false := by simpa using hd
                        have HD := Lib.hid hd0
                        have HLT : Hid (let_ c[a] = true) := Lib.hid (by
                          have := HGA.out
                          unfold good at this
                          rw [show dig c[a] = false from hd0, Bool.false_or] at this
                          exact this)
                        have HRUN : Hid (runN let_ (c.data.toList.drop a) = e - a) := Lib.hid (run_sort (sort_let hd0) HGC.out hae (by rw [HZC.out]; exact hec) HA.out HEND.out)
                        clear hd hd0
                        have HSTEP : Hid (compA (c.data.toList.drop a) = (compA (c.data.toList.drop e)).map (⟨0, c.extract a e⟩ :: ·)) := Lib.hid (by
                          rw [compA_let HXA0.out HLT.out, HRUN.out, List.drop_drop, show a + (e - a) = e by omega, ← HXT.out])
                        go_wp2_with (first
                          | (go_at_call 53; refine (rdigit_any _ _).mono ?_; rintro e w1 ⟨rfl, rfl⟩; rw [HD.out])
                          | (at_builtin; refine wpList_append_lies _ rfl _ _ 57 rfl wo.heap.size 62 j0 (.agg #[.int .i64 0, .string ByteArray.empty]) 2 24 Tryd.underlying57 hj0 hy0 hy1 hy2 rfl (by decide) u8 its.length cs2 rfl ((hown2.out.grow keepsItem HW4.out).1.alloc _) ⟨W4.heap.size, 0, none⟩ 1 1 [.int .i64 0, .string (c.extract a e)] rfl rfl ?c1 ?c2 (by omega) ?c3 ?c4 ?c5 (W4.heap.size + 1) ?c6 ?_))
                        case c1 => exact cell_news _ [.int .i64 0, .string (c.extract a e)] _ _ rfl
                        case c2 => simp [Value.oneCell']
                        case c3 => simp [maxLen]; omega
                        case c4 => omega
                        case c5 => have := HW2.out.size; have := HW4.out.size; simp; omega
                        case c6 => simp
                        intro g2 cap2 w5 hown5 hgrow5 hat5 hlt5
                        have hbb := news_alloc W4 (.cells #[.int .i64 0, .string (c.extract a e)] 62)
                        have HOW5 := Lib.hid (OwnSl.snoc keepsItem ((hown2.out.grow keepsItem HW4.out).grow keepsItem hbb) (vs := [.int .i64 0, .string (c.extract a e)]) (x := ⟨0, c.extract a e⟩) rfl ⟨rfl, i64_zero, HWB.out⟩ hown5 hgrow5 (hat_of hat5 (by simp)))
                        have HBW5 := Lib.hid (((HW2.out.trans (HW4.out.mono HW2.out.size)).trans (hbb.mono (by have := HW2.out.size; have := HW4.out.size; omega))).grown hgrow5 (by have := HW2.out.size; have := HW4.out.size; simp; omega) (fun j hj => (hown2.out.1.lt j hj).1))
                        clear hown5 hgrow5 hat5 hlt5 hbb
                        go_wp2_with fail
                        go_roundw
                        case rel => exact ⟨e, its ++ [⟨0, c.extract a e⟩], _, hec, rfl, by rw [List.length_append, List.length_singleton]; omega, HOW5, Lib.hid (comp_step HC2.out HSTEP.out), HBW5⟩
                        case measure => simp [intOf]; omega
                  · have HEND : Hid (∀ x, c.data.toList[e]? = some x → ¬ dig x = dig c[a]) := Lib.hid (fun x hx => by
                      rw [List.getElem?_eq_none (by rw [HZC.out]; omega)] at hx
                      cases hx)
                    have hlt2 : a < e := by omega
                    have hg1 : ¬ (e : Int) < (c.size : Int) := by omega
                    have hg2 : decide ((e : Int) < (c.size : Int)) = false := decide_eq_false hg1
                    go_wp2_with fail
                    refine wp_region_quiet_below (by kernel_rfl) (by kernel_rfl) ?_
                    repeat (first | go_big_quiet_step ((go_at_call 53; exact regrown_same (rdigit_any _ _))) | quiet_step ((go_at_call 53; exact regrown_same (rdigit_any _ _))))
                    refine wpQuiet_nil ?_
                    intro _ hwq
                    obtain ⟨⟨q, os⟩, hwq⟩ := hwq
                    subst hwq
                    have HB1 := Lib.hid (below_regrown wr q os)
                    have HW4 := Lib.hid (HW3.out.trans (HB1.out.mono HW3.out.size))
                    clear HB1
                    generalize grow (redrawn wr q) os = W4 at *
                    have hes : (c.extract a e).size ≤ 1000000000 := by rw [ByteArray.size_extract]; omega
                    have HES := Lib.hid hes
                    have HXT : Hid ((c.extract a e).data.toList = (c.data.toList.drop a).take (e - a)) := Lib.hid (toList_cut _ _ _)
                    have HWB : Hid ((c.extract a e).size ≤ 9223372036854775807) := Lib.hid (by omega)
                    clear hes
                    by_cases hd : digB c[a].toNat = true
                    · have HD := Lib.hid hd
                      have HNL : Hid (let_ c[a] = false) := Lib.hid (by
                        cases h : let_ c[a] with
                        | false => rfl
                        | true => exact absurd (let_not_dig h) (by show ¬ digB c[a].toNat = false; rw [hd]; simp))
                      have HRUN : Hid (runN dig (c.data.toList.drop a) = e - a) := Lib.hid (run_sort (sort_dig hd) HGC.out hae (by rw [HZC.out]; exact hec) HA.out HEND.out)
                      clear hd
                      have HCA := Lib.hid (compA_dig HXA0.out HNL.out HD.out)
                      cases hsm : smallL (c.extract a e).data.toList 1000000000000000 with
                      | none =>
                        have HSM : Hid (smallR (c.extract a e).data.toList 1000000000000000 = -1) := Lib.hid (by unfold smallR; rw [hsm]; rfl)
                        have HF : Hid (compsL s.data.toList = none) := Lib.hid (HNO.out (by
                          rw [HC2.out, HCA.out, HRUN.out, ← HXT.out, ← small_most, hsm]; rfl))
                        clear hsm
                        go_wp2_with (first
                          | (go_at_call 53; refine (rdigit_any _ _).mono ?_; rintro e w1 ⟨rfl, rfl⟩; rw [HD.out])
                          | (go_at_call 28; refine (rSmall_any _ _ _ HES.out).mono ?_; rintro e w1 ⟨rfl, rfl⟩; rw [HSM.out]))
                        go_ret2
                        exact ⟨CompsPost.no HF.out, HW.out.trans ((HW2.out.trans (HW4.out.mono HW2.out.size)).mono HW.out.size)⟩
                      | some v =>
                        have HSM : Hid (smallR (c.extract a e).data.toList 1000000000000000 = v) := Lib.hid (by unfold smallR; rw [hsm]; rfl)
                        have hv := smallL_bd hsm
                        have HI := Lib.hid (i64_small hsm)
                        have HSTEP : Hid (compA (c.data.toList.drop a) = (compA (c.data.toList.drop e)).map (⟨v, ByteArray.empty⟩ :: ·)) := Lib.hid (by
                          rw [HCA.out, HRUN.out, ← HXT.out, ← small_most, hsm, List.drop_drop, show a + (e - a) = e by omega]; rfl)
                        have hv0 : ¬ v < 0 := by omega
                        clear hsm hv
                        go_wp2_with (first
                          | (go_at_call 53; refine (rdigit_any _ _).mono ?_; rintro e w1 ⟨rfl, rfl⟩; rw [HD.out])
                          | (go_at_call 28; refine (rSmall_any _ _ _ HES.out).mono ?_; rintro e w1 ⟨rfl, rfl⟩; rw [HSM.out])
                          | (at_builtin; refine wpList_append_lies _ rfl _ _ 57 rfl wo.heap.size 62 j0 (.agg #[.int .i64 0, .string ByteArray.empty]) 2 24 Tryd.underlying57 hj0 hy0 hy1 hy2 rfl (by decide) u8 its.length cs2 rfl ((hown2.out.grow keepsItem HW4.out).1.alloc _) ⟨W4.heap.size, 0, none⟩ 1 1 [.int .i64 v, .string ⟨#[]⟩] rfl rfl ?c1 ?c2 (by omega) ?c3 ?c4 ?c5 (W4.heap.size + 1) ?c6 ?_))
                        case c1 => exact cell_news _ [.int .i64 v, .string ⟨#[]⟩] _ _ rfl
                        case c2 => simp [Value.oneCell']
                        case c3 => simp [maxLen]; omega
                        case c4 => omega
                        case c5 => have := HW2.out.size; have := HW4.out.size; simp; omega
                        case c6 => simp
                        intro g2 cap2 w5 hown5 hgrow5 hat5 hlt5
                        have hbb := news_alloc W4 (.cells #[.int .i64 v, .string ⟨#[]⟩] 62)
                        have HOW5 := Lib.hid (OwnSl.snoc keepsItem ((hown2.out.grow keepsItem HW4.out).grow keepsItem hbb) (vs := [.int .i64 v, .string ⟨#[]⟩]) (x := ⟨v, ByteArray.empty⟩) rfl ⟨rfl, HI.out, empty_size⟩ hown5 hgrow5 (hat_of hat5 (by simp)))
                        have HBW5 := Lib.hid (((HW2.out.trans (HW4.out.mono HW2.out.size)).trans (hbb.mono (by have := HW2.out.size; have := HW4.out.size; omega))).grown hgrow5 (by have := HW2.out.size; have := HW4.out.size; simp; omega) (fun j hj => (hown2.out.1.lt j hj).1))
                        clear hown5 hgrow5 hat5 hlt5 hbb
                        go_wp2_with fail
                        go_roundw
                        case rel => exact ⟨e, its ++ [⟨v, ByteArray.empty⟩], _, hec, rfl, by rw [List.length_append, List.length_singleton]; omega, HOW5, Lib.hid (comp_step HC2.out HSTEP.out), HBW5⟩
                        case measure => simp [intOf]; omega
                    · have hd0 : digB c[a].toNat = false := by simpa using hd
                      have HD := Lib.hid hd0
                      have HLT : Hid (let_ c[a] = true) := Lib.hid (by
                        have := HGA.out
                        unfold good at this
                        rw [show dig c[a] = false from hd0, Bool.false_or] at this
                        exact this)
                      have HRUN : Hid (runN let_ (c.data.toList.drop a) = e - a) := Lib.hid (run_sort (sort_let hd0) HGC.out hae (by rw [HZC.out]; exact hec) HA.out HEND.out)
                      clear hd hd0
                      have HSTEP : Hid (compA (c.data.toList.drop a) = (compA (c.data.toList.drop e)).map (⟨0, c.extract a e⟩ :: ·)) := Lib.hid (by
                        rw [compA_let HXA0.out HLT.out, HRUN.out, List.drop_drop, show a + (e - a) = e by omega, ← HXT.out])
                      go_wp2_with (first
                        | (go_at_call 53; refine (rdigit_any _ _).mono ?_; rintro e w1 ⟨rfl, rfl⟩; rw [HD.out])
                        | (at_builtin; refine wpList_append_lies _ rfl _ _ 57 rfl wo.heap.size 62 j0 (.agg #[.int .i64 0, .string ByteArray.empty]) 2 24 Tryd.underlying57 hj0 hy0 hy1 hy2 rfl (by decide) u8 its.length cs2 rfl ((hown2.out.grow keepsItem HW4.out).1.alloc _) ⟨W4.heap.size, 0, none⟩ 1 1 [.int .i64 0, .string (c.extract a e)] rfl rfl ?c1 ?c2 (by omega) ?c3 ?c4 ?c5 (W4.heap.size + 1) ?c6 ?_))
                      case c1 => exact cell_news _ [.int .i64 0, .string (c.extract a e)] _ _ rfl
                      case c2 => simp [Value.oneCell']
                      case c3 => simp [maxLen]; omega
                      case c4 => omega
                      case c5 => have := HW2.out.size; have := HW4.out.size; simp; omega
                      case c6 => simp
                      intro g2 cap2 w5 hown5 hgrow5 hat5 hlt5
                      have hbb := news_alloc W4 (.cells #[.int .i64 0, .string (c.extract a e)] 62)
                      have HOW5 := Lib.hid (OwnSl.snoc keepsItem ((hown2.out.grow keepsItem HW4.out).grow keepsItem hbb) (vs := [.int .i64 0, .string (c.extract a e)]) (x := ⟨0, c.extract a e⟩) rfl ⟨rfl, i64_zero, HWB.out⟩ hown5 hgrow5 (hat_of hat5 (by simp)))
                      have HBW5 := Lib.hid (((HW2.out.trans (HW4.out.mono HW2.out.size)).trans (hbb.mono (by have := HW2.out.size; have := HW4.out.size; omega))).grown hgrow5 (by have := HW2.out.size; have := HW4.out.size; simp; omega) (fun j hj => (hown2.out.1.lt j hj).1))
                      clear hown5 hgrow5 hat5 hlt5 hbb
                      go_wp2_with fail
                      go_roundw
                      case rel => exact ⟨e, its ++ [⟨0, c.extract a e⟩], _, hec, rfl, by rw [List.length_append, List.length_singleton]; omega, HOW5, Lib.hid (comp_step HC2.out HSTEP.out), HBW5⟩
                      case measure => simp [intOf]; omega
              · obtain rfl : a = c.size := by omega
                have HF : Hid (compL c.data.toList = some its) := Lib.hid (by rw [HC2.out, List.drop_eq_nil_of_le (by rw [HZC.out]; exact Nat.le_refl _), compA_nil]; simp)
                have HYC := Lib.hid (HYES.out _ HF.out)
                obtain ⟨A2, d2, rfl, hl2, hc2⟩ := (hown2.out.slLt keepsItem).form
                have HO9 := Lib.hid (hown.out.grow keepsComp HW2.out)
                go_wp2_with (at_builtin; refine wpList_append_lies _ rfl _ _ 23 rfl w.heap.size 57 i0 (.slice none 0 0) 1 24 Tryd.underlying23 hi0 hz0 hz1 hz2 rfl (by decide) u4 acc.length cs rfl (HO9.out.1.alloc _) ⟨wp.heap.size, 0, none⟩ 1 1 [.slice A2 its.length d2] rfl rfl ?c1 ?c2 (by omega) ?c3 ?c4 ?c5 (wp.heap.size + 1) ?c6 ?_)
                case c1 => exact cell_news _ [.slice A2 its.length d2] _ _ rfl
                case c2 => simp [Value.oneCell']
                case c3 => simp [maxLen]; omega
                case c4 => omega
                case c5 => have := HW.out.size; have := HW2.out.size; simp; omega
                case c6 => simp
                intro g6 cap6 w6 hown6 hgrow6 hat6 hlt6
                have hbb : Below wp.heap.size wp (wp.alloc (.cells #[.slice A2 its.length d2] 57)) := news_alloc _ _
                have HOW6 := Lib.hid (OwnSl.snoc keepsComp (HO9.out.grow keepsComp hbb) (vs := [.slice A2 its.length d2]) (x := its) rfl (rcomp_of (hown2.out.grow keepsItem hbb) HW.out.size (fun j hj => (hown.out.1.lt j hj).2)) hown6 hgrow6 (hat_of hat6 (by simp)))
                have HBW6 := Lib.hid (((HW.out.trans (HW2.out.mono HW.out.size)).trans (hbb.mono (by have := HW.out.size; have := HW2.out.size; omega))).grown hgrow6 (by have := HW.out.size; have := HW2.out.size; simp; omega) (fun j hj => (hown.out.1.lt j hj).1))
                clear hown6 hgrow6 hat6 hlt6 hbb
                go_wp2_with fail
                go_roundw
                case rel => exact ⟨k + 1, k + 1, acc ++ [its], _, by omega, by go_num, by go_num, Nat.le_refl _, by rw [List.length_append, List.length_singleton]; omega, HOW6, Lib.hid (fun j x h1 h2 => absurd h1 (by omega)), HYC, HBW6⟩
                case measure => simp [intOf]; omega
    · obtain rfl : k = s.size + 1 := by omega
      have HF := Lib.hid (HO.out.2 rfl)
      obtain ⟨A, c, rfl, _⟩ := (hown.out.slLt keepsComp).form
      go_wp2_with fail
      go_ret2
      exact ⟨CompsPost.yes HF.out rfl hown.out, HW.out⟩
end Go.Proofs.YtmlmaklighgiiaaDoor.V
