/-
  The walk of the law VersionTexts.
-/
import Derived.Test.YtmlmaklighgiiaaDoorLOrder
import Derived.Test.YtmlmaklighgiiaaDoorRefParse
import Derived.Test.YtmlmaklighgiiaaDoorRefB
namespace Go.Proofs.YtmlmaklighgiiaaDoor.V
set_option linter.unusedVariables false
set_option linter.unusedSimpArgs false
open Go Go.RowKit Go.Sort

theorem RPost.elim_yes {base : Nat} {l : List UInt8} {e : Ending} {w' : World} {x : Ver} (h : parseL l = some x) (hp : RPost base l e w') :
    ∃ A1 c1 A2 c2, e = .returned (.tuple #[.agg #[.int .i64 x.epoch, .slice A1 x.parts.length c1, .slice A2 x.loc.length c2], .bool true]) ∧
      IsVer w' (From base w') (.agg #[.int .i64 x.epoch, .slice A1 x.parts.length c1, .slice A2 x.loc.length c2]) x := by
  unfold RPost at hp
  rw [h] at hp
  exact hp
/-- The document's Parse of a text that is right, its parts named one by one. -/
theorem rparse_yes {s : ByteArray} {x : Ver} (hp : parseL s.data.toList = some x) (hs : s.size ≤ 1000000000) (w : World) :
    Calls Tryd.prog 10 #[.string s] w fun e w' => (∃ ep A n c D m d, e = .returned (.tuple #[.agg #[.int .i64 ep, .slice A n c, .slice D m d], .bool true]) ∧ IsVer w' (From w.heap.size w') (.agg #[.int .i64 ep, .slice A n c, .slice D m d]) x) ∧ Below w.heap.size w w' := by
  refine (rParse_any s w hs).mono ?_
  rintro e w1 ⟨h, hb⟩
  obtain ⟨A1, c1, A2, c2, he, hv⟩ := RPost.elim_yes hp h
  exact ⟨⟨_, _, _, _, _, _, _, he, hv⟩, hb⟩

set_option maxHeartbeats 8000000 in
set_option maxRecDepth 100000 in
theorem texts_any (s t : ByteArray) (w : World) (u : TypeId) (ev : Value) (m : Int) (hE : Env w u ev m) (hs : s.size ≤ 9223372036854775807) (ht : t.size ≤ 9223372036854775807) :
    Calls Tryd.prog 3 #[.string s, .string t] w fun e w' => e = .returned (.bool true) ∧ Below w.heap.size w w' := by
  have HE := Lib.hid hE
  clear hE
  go_enter Tryd.func3, Tryd.ntmps3
  go_wp2_with (go_at_call 8; refine (alive7_any _ u ev m HE.out).mono ?_; rintro e w1 ⟨rfl, hb1⟩; have HB1 := Lib.hid hb1; clear hb1)
  · go_ret; exact ⟨rfl, HB1.out⟩
  rotate_left
  · go_ret; exact ⟨rfl, HB1.out⟩
  have hs1 : s.size ≤ 1000000000 := by omega
  have ht1 : t.size ≤ 1000000000 := by omega
  clear hs ht
  refine (parse_two _ u ev m _ (HE.out.next HB1.out) hs1).mono ?_
  rintro _ x1 ⟨⟨ep1, A1, n1, c1, D1, m1, d1, er1, rfl, hn1, hy1⟩, hb⟩
  have HN1 := Lib.hid hn1
  have HY1 := Lib.hid hy1
  have HB := Lib.hid hb
  clear hn1 hy1 hb
  go_wp2_with fail
  have HX1 := Lib.hid (news_alloc x1 (.cells #[.int .i64 ep1, .slice A1 n1 c1, .slice D1 m1 d1] 25))
  have HK1 := Lib.hid (Blk.new x1 25 #[.int .i64 ep1, .slice A1 n1 c1, .slice D1 m1 d1])
  generalize x1.alloc (.cells #[.int .i64 ep1, .slice A1 n1 c1, .slice D1 m1 d1] 25) = W1 at *
  have HM1 := Lib.hid (HB.out.trans (HX1.out.mono HB.out.size))
  clear HB
  have HB2 := Lib.hid (HB1.out.trans (HM1.out.mono HB1.out.size))
  refine (parse_two _ u ev m _ (HE.out.next HB2.out) ht1).mono ?_
  rintro _ x2 ⟨⟨ep2, A2, n2, c2, D2, m2, d2, er2, rfl, hn2, hy2⟩, hb⟩
  have HN2 := Lib.hid hn2
  have HY2 := Lib.hid hy2
  have HB := Lib.hid hb
  clear hn2 hy2 hb
  have HX2 := Lib.hid (news_alloc x2 (.cells #[.int .i64 ep2, .slice A2 n2 c2, .slice D2 m2 d2] 25))
  have HM2 := Lib.hid (HB.out.trans (HX2.out.mono HB.out.size))
  have HB3 := Lib.hid (HB2.out.trans (HM2.out.mono HB2.out.size))
  clear HB
  cases hA : parseL s.data.toList with
  | none =>
    obtain rfl := HN1.out hA
    go_wp2_with fail
    go_ret
    exact ⟨rfl, HB3.out⟩
  | some a =>
  obtain ⟨rfl, hva⟩ := HY1.out a hA
  cases hB : parseL t.data.toList with
  | none =>
    obtain rfl := HN2.out hB
    go_wp2_with fail
    go_ret
    exact ⟨rfl, HB3.out⟩
  | some b =>
  obtain ⟨rfl, hvb⟩ := HY2.out b hB
  have HVA := Lib.hid hva
  have HVB := Lib.hid hvb
  have HA := Lib.hid hA
  have HBB := Lib.hid hB
  clear hva hvb HN1 HN2 HY1 HY2 hA hB
  go_wp2_with fail
  have HK2 := Lib.hid (Blk.new x2 25 #[.int .i64 ep2, .slice A2 n2 c2, .slice D2 m2 d2])
  generalize x2.alloc (.cells #[.int .i64 ep2, .slice A2 n2 c2, .slice D2 m2 d2] 25) = W2 at *
  refine (rparse_yes HA.out hs1 _).mono ?_
  rintro _ x3 ⟨⟨ep3, A3, n3, c3, D3, m3, d3, rfl, hv3⟩, hb⟩
  have HV3 := Lib.hid hv3
  have HB := Lib.hid hb
  clear hv3 hb
  go_wp2_with fail
  have HX3 := Lib.hid (news_alloc x3 (.cells #[.int .i64 ep3, .slice A3 n3 c3, .slice D3 m3 d3] 25))
  have HK3 := Lib.hid (Blk.new x3 25 #[.int .i64 ep3, .slice A3 n3 c3, .slice D3 m3 d3])
  generalize x3.alloc (.cells #[.int .i64 ep3, .slice A3 n3 c3, .slice D3 m3 d3] 25) = W3 at *
  have HM3 := Lib.hid (HB.out.trans (HX3.out.mono HB.out.size))
  clear HB
  refine (rparse_yes HBB.out ht1 _).mono ?_
  rintro _ x4 ⟨⟨ep4, A4, n4, c4, D4, m4, d4, rfl, hv4⟩, hb⟩
  have HV4 := Lib.hid hv4
  have HB := Lib.hid hb
  clear hv4 hb
  go_wp2_with fail
  have HX4 := Lib.hid (news_alloc x4 (.cells #[.int .i64 ep4, .slice A4 n4 c4, .slice D4 m4 d4] 25))
  have HK4 := Lib.hid (Blk.new x4 25 #[.int .i64 ep4, .slice A4 n4 c4, .slice D4 m4 d4])
  generalize x4.alloc (.cells #[.int .i64 ep4, .slice A4 n4 c4, .slice D4 m4 d4] 25) = W4 at *
  have HM4 := Lib.hid (HB.out.trans (HX4.out.mono HB.out.size))
  clear HB
  have HM34 := Lib.hid (HM3.out.trans (HM4.out.mono HM3.out.size))
  have HM24 := Lib.hid (HM2.out.trans (HM34.out.mono HM2.out.size))
  have HK14 := Lib.hid (HK1.out.belowSelf HM24.out)
  have HK24 := Lib.hid (HK2.out.belowSelf HM34.out)
  have HK34 := Lib.hid (HK3.out.belowSelf HM4.out)
  have HB5 := Lib.hid (HB3.out.trans (HM34.out.mono HB3.out.size))
  have HVA4 : Hid (IsVer W4 (Lt W4.heap.size) (.agg #[.int .i64 ep1, .slice A1 n1 c1, .slice D1 m1 d1]) a) := Lib.hid (by
    have h := HX1.out.trans (HM24.out.mono HX1.out.size)
    exact HVA.out.keepOn (fun b hb => Nat.lt_of_lt_of_le hb.2 h.size) (fun p hp => h.cell hp.2))
  have HVB4 : Hid (IsVer W4 (Lt W4.heap.size) (.agg #[.int .i64 ep2, .slice A2 n2 c2, .slice D2 m2 d2]) b) := Lib.hid (by
    have h := HX2.out.trans (HM34.out.mono HX2.out.size)
    exact HVB.out.keepOn (fun b hb => Nat.lt_of_lt_of_le hb.2 h.size) (fun p hp => h.cell hp.2))
  have HVC4 : Hid (IsVer W4 (Lt W4.heap.size) (.agg #[.int .i64 ep3, .slice A3 n3 c3, .slice D3 m3 d3]) a) := Lib.hid (by
    have h := HX3.out.trans (HM4.out.mono HX3.out.size)
    exact HV3.out.keepOn (fun b hb => Nat.lt_of_lt_of_le hb.2 h.size) (fun p hp => h.cell hp.2))
  have HVD4 : Hid (IsVer W4 (Lt W4.heap.size) (.agg #[.int .i64 ep4, .slice A4 n4 c4, .slice D4 m4 d4]) b) := Lib.hid (by
    exact HV4.out.keepOn (fun b hb => Nat.lt_of_lt_of_le hb.2 HX4.out.size) (fun p hp => HX4.out.cell hp.2))
  obtain ⟨x, HXv⟩ : ∃ x, Hid (cmpVer a b = x) := ⟨_, Lib.hid rfl⟩
  obtain ⟨y, HYv⟩ : ∃ y, Hid (begV a b = y) := ⟨_, Lib.hid rfl⟩
  have HZv : Hid (cmpVer a a = 0) := Lib.hid (ordVer.refl a)
  have CAB : Hid (∀ d os, Calls Tryd.prog 11 #[.agg #[.int .i64 ep1, .slice A1 n1 c1, .slice D1 m1 d1], .agg #[.int .i64 ep2, .slice A2 n2 c2, .slice D2 m2 d2]] (grow (redrawn W4 d) os) fun e w'' => e = .returned (.int .i64 (cmpVer a b)) ∧ ∃ p : Regrown, w'' = grow (redrawn W4 p.d) p.os) := Lib.hid (fun d os => by
    have h1 := Same.of_below (below_regrown W4 d os)
    exact Calls.regrown_of (Compare_any _ _ a b W4.heap.size _ (HVA4.out.keep (Nat.le_refl _) h1) (HVB4.out.keep (Nat.le_refl _) h1) (below_regrown W4 d os).size))
  rw [HXv.out] at CAB
  have CAA : Hid (∀ d os, Calls Tryd.prog 11 #[.agg #[.int .i64 ep1, .slice A1 n1 c1, .slice D1 m1 d1], .agg #[.int .i64 ep1, .slice A1 n1 c1, .slice D1 m1 d1]] (grow (redrawn W4 d) os) fun e w'' => e = .returned (.int .i64 (cmpVer a a)) ∧ ∃ p : Regrown, w'' = grow (redrawn W4 p.d) p.os) := Lib.hid (fun d os => by
    have h1 := Same.of_below (below_regrown W4 d os)
    exact Calls.regrown_of (Compare_any _ _ a a W4.heap.size _ (HVA4.out.keep (Nat.le_refl _) h1) (HVA4.out.keep (Nat.le_refl _) h1) (below_regrown W4 d os).size))
  rw [HZv.out] at CAA
  have CR : Hid (∀ d os, Calls Tryd.prog 12 #[.agg #[.int .i64 ep3, .slice A3 n3 c3, .slice D3 m3 d3], .agg #[.int .i64 ep4, .slice A4 n4 c4, .slice D4 m4 d4]] (grow (redrawn W4 d) os) fun e w'' => e = .returned (.int .i64 (cmpVer a b)) ∧ ∃ p : Regrown, w'' = grow (redrawn W4 p.d) p.os) := Lib.hid (fun d os => by
    have h1 := Same.of_below (below_regrown W4 d os)
    exact Calls.regrown_of (rCompare_any _ _ a b W4.heap.size _ (HVC4.out.keep (Nat.le_refl _) h1) (HVD4.out.keep (Nat.le_refl _) h1) (below_regrown W4 d os).size))
  rw [HXv.out] at CR
  have CG : Hid (∀ d os, Calls Tryd.prog 13 #[.agg #[.int .i64 ep1, .slice A1 n1 c1, .slice D1 m1 d1], .agg #[.int .i64 ep2, .slice A2 n2 c2, .slice D2 m2 d2]] (grow (redrawn W4 d) os) fun e w'' => e = .returned (.bool (begV a b)) ∧ ∃ p : Regrown, w'' = grow (redrawn W4 p.d) p.os) := Lib.hid (fun d os => by
    have h1 := Same.of_below (below_regrown W4 d os)
    exact Calls.regrown_of (Begins_any _ _ a b W4.heap.size _ (HVA4.out.keep (Nat.le_refl _) h1) (HVB4.out.keep (Nat.le_refl _) h1) (below_regrown W4 d os).size))
  rw [HYv.out] at CG
  have CH : Hid (∀ d os, Calls Tryd.prog 14 #[.agg #[.int .i64 ep3, .slice A3 n3 c3, .slice D3 m3 d3], .agg #[.int .i64 ep4, .slice A4 n4 c4, .slice D4 m4 d4]] (grow (redrawn W4 d) os) fun e w'' => e = .returned (.bool (begV a b)) ∧ ∃ p : Regrown, w'' = grow (redrawn W4 p.d) p.os) := Lib.hid (fun d os => by
    have h1 := Same.of_below (below_regrown W4 d os)
    exact Calls.regrown_of (rBegins_any _ _ a b W4.heap.size _ (HVC4.out.keep (Nat.le_refl _) h1) (HVD4.out.keep (Nat.le_refl _) h1) (below_regrown W4 d os).size))
  rw [HYv.out] at CH
  have t0 := cell_regrown (w := W4) (HK14.out.cell 0)
  have t1 := cell_regrown (w := W4) (HK14.out.cell 1)
  have t2 := cell_regrown (w := W4) (HK14.out.cell 2)
  have t3 := cell_regrown (w := W4) (HK24.out.cell 0)
  have t4 := cell_regrown (w := W4) (HK24.out.cell 1)
  have t5 := cell_regrown (w := W4) (HK24.out.cell 2)
  have t6 := cell_regrown (w := W4) (HK34.out.cell 0)
  have t7 := cell_regrown (w := W4) (HK34.out.cell 1)
  have t8 := cell_regrown (w := W4) (HK34.out.cell 2)
  have t9 := cell_regrown (w := W4) (HK4.out.cell 0)
  have ta := cell_regrown (w := W4) (HK4.out.cell 1)
  have tb := cell_regrown (w := W4) (HK4.out.cell 2)
  refine wp_region_quiet_below (by kernel_rfl) (by kernel_rfl) ?_
  repeat (first | go_big_quiet_step ((first | (go_at_call 11; first | with_reducible exact CAB.out _ _ | with_reducible exact CAA.out _ _) | (go_at_call 12; with_reducible exact CR.out _ _) | (go_at_call 13; with_reducible exact CG.out _ _) | (go_at_call 14; with_reducible exact CH.out _ _))) | quiet_step ((first | (go_at_call 11; first | with_reducible exact CAB.out _ _ | with_reducible exact CAA.out _ _) | (go_at_call 12; with_reducible exact CR.out _ _) | (go_at_call 13; with_reducible exact CG.out _ _) | (go_at_call 14; with_reducible exact CH.out _ _))))
  refine wpQuiet_nil ?_
  intro _ hwq
  obtain ⟨⟨q, os⟩, hwq⟩ := hwq
  subst hwq
  have HR4 := Lib.hid (below_regrown W4 q os)
  clear t0 t1 t2 t3 t4 t5 t6 t7 t8 t9 ta tb
  generalize grow (redrawn W4 q) os = W5 at *
  go_wp2_with fail
  go_ret
  exact ⟨rfl, HB5.out.trans (HR4.out.mono HB5.out.size)⟩
end Go.Proofs.YtmlmaklighgiiaaDoor.V
