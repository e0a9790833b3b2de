/-
  The walk of the law VersionOrder.
-/
import Derived.Test.YtmlmaklighgiiaaDoorAlive7
namespace Go.Proofs.YtmlmaklighgiiaaDoor.V
set_option linter.unusedVariables false
set_option linter.unusedSimpArgs false
open Go Go.RowKit Go.Sort

/-- Parse, of whatever text: what it returns has these parts; by the two cases what they are. -/
def PTwo (base : Nat) (u : TypeId) (ev : Value) (l : List UInt8) (e : Ending) (w' : World) : Prop :=
  ∃ ep A1 n1 c1 A2 n2 c2 er, e = .returned (.tuple #[.agg #[.int .i64 ep, .slice A1 n1 c1, .slice A2 n2 c2], er]) ∧
    (parseL l = none → er = .iface u ev) ∧
    (∀ x, parseL l = some x → er = .nilIface ∧ IsVer w' (From base w') (.agg #[.int .i64 ep, .slice A1 n1 c1, .slice A2 n2 c2]) x)
theorem parse_two (s : ByteArray) (u : TypeId) (ev : Value) (m : Int) (w : World) (hE : Env w u ev m) (hs : s.size ≤ 1000000000) :
    Calls Tryd.prog 9 #[.string s] w fun e w' => PTwo w.heap.size u ev s.data.toList e w' ∧ Below w.heap.size w w' := by
  refine (Parse_any s u ev m w hs hE.err hE.ml).mono ?_
  rintro e w1 ⟨h, hb⟩
  refine ⟨?_, hb⟩
  cases hp : parseL s.data.toList with
  | none =>
    obtain rfl := ParsePost.elim_no hp h
    exact ⟨_, _, _, _, _, _, _, _, rfl, fun _ => rfl, fun x hx => by rw [hp] at hx; cases hx⟩
  | some x =>
    obtain ⟨A1, c1, A2, c2, rfl, hv⟩ := ParsePost.elim_yes hp h
    refine ⟨_, _, _, _, _, _, _, _, rfl, fun hn => (by rw [hp] at hn; cases hn), fun y hy => ?_⟩
    obtain rfl : x = y := by rw [hp] at hy; exact Option.some.inj hy
    exact ⟨rfl, hv⟩

set_option maxHeartbeats 4000000 in
set_option maxRecDepth 100000 in
theorem order_any (s t r : ByteArray) (w : World) (u : TypeId) (ev : Value) (m : Int) (hE : Env w u ev m) (hs : s.size ≤ 9223372036854775807) (ht : t.size ≤ 9223372036854775807) (hr : r.size ≤ 9223372036854775807) :
    Calls Tryd.prog 5 #[.string s, .string t, .string r] w fun e w' => e = .returned (.bool true) ∧ Below w.heap.size w w' := by
  have HE := Lib.hid hE
  clear hE
  go_enter Tryd.func5, Tryd.ntmps5
  go_wp2_with (go_at_call 8; refine (alive7_any _ u ev m HE.out).mono ?_; rintro e w1 ⟨rfl, hb1⟩; have HB1 := Lib.hid hb1; clear hb1)
  · go_ret; exact ⟨rfl, HB1.out⟩
  rotate_left
  · go_ret; exact ⟨rfl, HB1.out⟩
  · go_ret; exact ⟨rfl, HB1.out⟩
  have hs1 : s.size ≤ 1000000000 := by omega
  have ht1 : t.size ≤ 1000000000 := by omega
  have hr1 : r.size ≤ 1000000000 := by omega
  clear hs ht hr
  refine (parse_two _ u ev m _ (HE.out.next HB1.out) hs1).mono ?_
  rintro _ x1 ⟨⟨ep1, A1, n1, c1, D1, m1, d1, er1, rfl, hn1, hy1⟩, hb⟩
  have HN1 := Lib.hid hn1
  have HY1 := Lib.hid hy1
  have HB := Lib.hid hb
  clear hn1 hy1 hb
  go_wp2_with fail
  have HX1 := Lib.hid (news_alloc x1 (.cells #[.int .i64 ep1, .slice A1 n1 c1, .slice D1 m1 d1] 25))
  have HK1 := Lib.hid (Blk.new x1 25 #[.int .i64 ep1, .slice A1 n1 c1, .slice D1 m1 d1])
  generalize x1.alloc (.cells #[.int .i64 ep1, .slice A1 n1 c1, .slice D1 m1 d1] 25) = W1 at *
  have HM1 := Lib.hid (HB.out.trans (HX1.out.mono HB.out.size))
  clear HB
  have HB2 := Lib.hid (HB1.out.trans (HM1.out.mono HB1.out.size))
  refine (parse_two _ u ev m _ (HE.out.next HB2.out) ht1).mono ?_
  rintro _ x2 ⟨⟨ep2, A2, n2, c2, D2, m2, d2, er2, rfl, hn2, hy2⟩, hb⟩
  have HN2 := Lib.hid hn2
  have HY2 := Lib.hid hy2
  have HB := Lib.hid hb
  clear hn2 hy2 hb
  go_wp2_with fail
  have HX2 := Lib.hid (news_alloc x2 (.cells #[.int .i64 ep2, .slice A2 n2 c2, .slice D2 m2 d2] 25))
  have HK2 := Lib.hid (Blk.new x2 25 #[.int .i64 ep2, .slice A2 n2 c2, .slice D2 m2 d2])
  generalize x2.alloc (.cells #[.int .i64 ep2, .slice A2 n2 c2, .slice D2 m2 d2] 25) = W2 at *
  have HM2 := Lib.hid (HB.out.trans (HX2.out.mono HB.out.size))
  clear HB
  have HB3 := Lib.hid (HB2.out.trans (HM2.out.mono HB2.out.size))
  refine (parse_two _ u ev m _ (HE.out.next HB3.out) hr1).mono ?_
  rintro _ x3 ⟨⟨ep3, A3, n3, c3, D3, m3, d3, er3, rfl, hn3, hy3⟩, hb⟩
  have HY3 := Lib.hid hy3
  have HN3 := Lib.hid hn3
  have HB := Lib.hid hb
  clear hn3 hy3 hb
  have HX3 := Lib.hid (news_alloc x3 (.cells #[.int .i64 ep3, .slice A3 n3 c3, .slice D3 m3 d3] 25))
  have HM3 := Lib.hid (HB.out.trans (HX3.out.mono HB.out.size))
  have HB4 := Lib.hid (HB3.out.trans (HM3.out.mono HB3.out.size))
  cases hA : parseL s.data.toList with
  | none =>
    obtain rfl := HN1.out hA
    go_wp2_with fail
    go_ret
    exact ⟨rfl, HB4.out⟩
  | some a =>
  obtain ⟨rfl, hva⟩ := HY1.out a hA
  cases hB : parseL t.data.toList with
  | none =>
    obtain rfl := HN2.out hB
    go_wp2_with fail
    go_ret
    exact ⟨rfl, HB4.out⟩
  | some b =>
  obtain ⟨rfl, hvb⟩ := HY2.out b hB
  cases hC : parseL r.data.toList with
  | none =>
    obtain rfl := HN3.out hC
    go_wp2_with fail
    go_ret
    exact ⟨rfl, HB4.out⟩
  | some c =>
  obtain ⟨rfl, hvc⟩ := HY3.out c hC
  have HVA := Lib.hid hva
  have HVB := Lib.hid hvb
  have HVC := Lib.hid hvc
  clear hva hvb hvc HN1 HN2 HN3 HY1 HY2 HY3 hA hB hC
  go_wp2_with fail
  have HK3 := Lib.hid (Blk.new x3 25 #[.int .i64 ep3, .slice A3 n3 c3, .slice D3 m3 d3])
  generalize x3.alloc (.cells #[.int .i64 ep3, .slice A3 n3 c3, .slice D3 m3 d3] 25) = W3 at *
  have HK13 := Lib.hid ((HK1.out.belowSelf HM2.out).belowSelf HM3.out)
  have HK23 := Lib.hid (HK2.out.belowSelf HM3.out)
  have HM23 := Lib.hid (HM2.out.trans (HM3.out.mono HM2.out.size))
  have HVA3 : Hid (IsVer W3 (Lt W3.heap.size) (.agg #[.int .i64 ep1, .slice A1 n1 c1, .slice D1 m1 d1]) a) := Lib.hid (by
    have h := HX1.out.trans (HM23.out.mono HX1.out.size)
    exact HVA.out.keepOn (fun b hb => Nat.lt_of_lt_of_le hb.2 h.size) (fun p hp => h.cell hp.2))
  have HVB3 : Hid (IsVer W3 (Lt W3.heap.size) (.agg #[.int .i64 ep2, .slice A2 n2 c2, .slice D2 m2 d2]) b) := Lib.hid (by
    have h := HX2.out.trans (HM3.out.mono HX2.out.size)
    exact HVB.out.keepOn (fun b hb => Nat.lt_of_lt_of_le hb.2 h.size) (fun p hp => h.cell hp.2))
  have HVC3 : Hid (IsVer W3 (Lt W3.heap.size) (.agg #[.int .i64 ep3, .slice A3 n3 c3, .slice D3 m3 d3]) c) := Lib.hid (by
    exact HVC.out.keepOn (fun b hb => Nat.lt_of_lt_of_le hb.2 HX3.out.size) (fun p hp => HX3.out.cell hp.2))
  obtain ⟨x, HXv⟩ : ∃ x, Hid (cmpVer a b = x) := ⟨_, Lib.hid rfl⟩
  obtain ⟨y, HYv⟩ : ∃ y, Hid (cmpVer b c = y) := ⟨_, Lib.hid rfl⟩
  obtain ⟨z, HZv⟩ : ∃ z, Hid (cmpVer a c = z) := ⟨_, Lib.hid rfl⟩
  have CAB : Hid (∀ d os, Calls Tryd.prog 11 #[.agg #[.int .i64 ep1, .slice A1 n1 c1, .slice D1 m1 d1], .agg #[.int .i64 ep2, .slice A2 n2 c2, .slice D2 m2 d2]] (grow (redrawn W3 d) os) fun e w'' => e = .returned (.int .i64 (cmpVer a b)) ∧ ∃ p : Regrown, w'' = grow (redrawn W3 p.d) p.os) := Lib.hid (fun d os => by
    have h1 := Same.of_below (below_regrown W3 d os)
    exact Calls.regrown_of (Compare_any _ _ a b W3.heap.size _ (HVA3.out.keep (Nat.le_refl _) h1) (HVB3.out.keep (Nat.le_refl _) h1) (below_regrown W3 d os).size))
  rw [HXv.out] at CAB
  have CBC : Hid (∀ d os, Calls Tryd.prog 11 #[.agg #[.int .i64 ep2, .slice A2 n2 c2, .slice D2 m2 d2], .agg #[.int .i64 ep3, .slice A3 n3 c3, .slice D3 m3 d3]] (grow (redrawn W3 d) os) fun e w'' => e = .returned (.int .i64 (cmpVer b c)) ∧ ∃ p : Regrown, w'' = grow (redrawn W3 p.d) p.os) := Lib.hid (fun d os => by
    have h1 := Same.of_below (below_regrown W3 d os)
    exact Calls.regrown_of (Compare_any _ _ b c W3.heap.size _ (HVB3.out.keep (Nat.le_refl _) h1) (HVC3.out.keep (Nat.le_refl _) h1) (below_regrown W3 d os).size))
  rw [HYv.out] at CBC
  have CAC : Hid (∀ d os, Calls Tryd.prog 11 #[.agg #[.int .i64 ep1, .slice A1 n1 c1, .slice D1 m1 d1], .agg #[.int .i64 ep3, .slice A3 n3 c3, .slice D3 m3 d3]] (grow (redrawn W3 d) os) fun e w'' => e = .returned (.int .i64 (cmpVer a c)) ∧ ∃ p : Regrown, w'' = grow (redrawn W3 p.d) p.os) := Lib.hid (fun d os => by
    have h1 := Same.of_below (below_regrown W3 d os)
    exact Calls.regrown_of (Compare_any _ _ a c W3.heap.size _ (HVA3.out.keep (Nat.le_refl _) h1) (HVC3.out.keep (Nat.le_refl _) h1) (below_regrown W3 d os).size))
  rw [HZv.out] at CAC
  have t0 := cell_regrown (w := W3) (HK13.out.cell 0)
  have t1 := cell_regrown (w := W3) (HK13.out.cell 1)
  have t2 := cell_regrown (w := W3) (HK13.out.cell 2)
  have t3 := cell_regrown (w := W3) (HK23.out.cell 0)
  have t4 := cell_regrown (w := W3) (HK23.out.cell 1)
  have t5 := cell_regrown (w := W3) (HK23.out.cell 2)
  have t6 := cell_regrown (w := W3) (HK3.out.cell 0)
  have t7 := cell_regrown (w := W3) (HK3.out.cell 1)
  have t8 := cell_regrown (w := W3) (HK3.out.cell 2)
  refine wp_region_quiet_below (by kernel_rfl) (by kernel_rfl) ?_
  repeat (first | go_big_quiet_step ((go_at_call 11; first | with_reducible exact CAB.out _ _ | with_reducible exact CBC.out _ _ | with_reducible exact CAC.out _ _)) | quiet_step ((go_at_call 11; first | with_reducible exact CAB.out _ _ | with_reducible exact CBC.out _ _ | with_reducible exact CAC.out _ _)))
  refine wpQuiet_nil ?_
  intro _ hwq
  obtain ⟨⟨q, os⟩, hwq⟩ := hwq
  subst hwq
  have HR4 := Lib.hid (below_regrown W3 q os)
  have HK14 := Lib.hid (HK13.out.belowSelf HR4.out)
  have HK24 := Lib.hid (HK23.out.belowSelf HR4.out)
  have HVA4 := Lib.hid (HVA3.out.keep (Nat.le_refl _) (Same.of_below HR4.out))
  have HVB4 := Lib.hid (HVB3.out.keep (Nat.le_refl _) (Same.of_below HR4.out))
  have HB5 := Lib.hid (HB4.out.trans (HR4.out.mono HB4.out.size))
  have HL4 := Lib.hid HR4.out.size
  clear t0 t1 t2 t3 t4 t5 t6 t7 t8 CAB CBC CAC HR4
  generalize grow (redrawn W3 q) os = W4 at *
  have r1 : x = -1 ∨ x = 0 ∨ x = 1 := HXv.out ▸ ordVer.range a b
  have r2 : y = -1 ∨ y = 0 ∨ y = 1 := HYv.out ▸ ordVer.range b c
  have r3 : z = -1 ∨ z = 0 ∨ z = 1 := HZv.out ▸ ordVer.range a c
  have r4 : x ≤ 0 → y ≤ 0 → z ≤ 0 := fun h1 h2 => HZv.out ▸ ordVer.le a b c (HXv.out ▸ h1) (HYv.out ▸ h2)
  have r5 : x < 0 → y ≤ 0 → z = -1 := fun h1 h2 => HZv.out ▸ ordVer.lt_le (HXv.out ▸ h1) (HYv.out ▸ h2)
  have r6 : x ≤ 0 → y < 0 → z = -1 := fun h1 h2 => HZv.out ▸ ordVer.le_lt (HXv.out ▸ h1) (HYv.out ▸ h2)
  obtain ⟨nx, HNX⟩ : ∃ nx, Hid (cmpVer b a = nx) := ⟨_, Lib.hid rfl⟩
  have r7 : nx = -x := HNX.out ▸ HXv.out ▸ ordVer.anti a b
  have CBA : Hid (Calls Tryd.prog 11 #[.agg #[.int .i64 ep2, .slice A2 n2 c2, .slice D2 m2 d2], .agg #[.int .i64 ep1, .slice A1 n1 c1, .slice D1 m1 d1]] W4 fun e w'' => e = .returned (.int .i64 (cmpVer b a)) ∧ Below W4.heap.size W4 w'') := Lib.hid
    (Compare_any _ _ b a W3.heap.size _ HVB4.out HVA4.out HL4.out)
  rw [HNX.out] at CBA
  rw [r7] at CBA
  clear HNX r7
  have t0 : W4.cell? ⟨x1.heap.size, 0, none⟩ = some (.int .i64 ep1) := HK14.out.cell 0
  have t1 : W4.cell? ⟨x1.heap.size, 1, none⟩ = some (.slice A1 n1 c1) := HK14.out.cell 1
  have t2 : W4.cell? ⟨x1.heap.size, 2, none⟩ = some (.slice D1 m1 d1) := HK14.out.cell 2
  have t3 : W4.cell? ⟨x2.heap.size, 0, none⟩ = some (.int .i64 ep2) := HK24.out.cell 0
  have t4 : W4.cell? ⟨x2.heap.size, 1, none⟩ = some (.slice A2 n2 c2) := HK24.out.cell 1
  have t5 : W4.cell? ⟨x2.heap.size, 2, none⟩ = some (.slice D2 m2 d2) := HK24.out.cell 2
  have hx : x = 1 ∨ (x = -1 ∧ y = 1) ∨ (x = 0 ∧ y = 1) ∨ (x = -1 ∧ y ≤ 0 ∧ z = -1) ∨ (x = 0 ∧ y = -1 ∧ z = -1) ∨ (x = 0 ∧ y = 0 ∧ z = -1) ∨ (x = 0 ∧ y = 0 ∧ z = 0) := by omega
  clear r1 r2 r3 r4 r5 r6 HXv HYv HZv
  rcases hx with rfl | ⟨rfl, rfl⟩ | ⟨rfl, rfl⟩ | ⟨rfl, hy, rfl⟩ | ⟨rfl, rfl, rfl⟩ | ⟨rfl, rfl, rfl⟩ | ⟨rfl, rfl, rfl⟩
  all_goals (
    go_wp2_with (go_at_call 11; refine CBA.out.mono ?_; rintro e w5 ⟨rfl, hb5⟩; have HBZ := Lib.hid hb5; clear hb5)
    go_ret
    exact ⟨ret_bool (by decide), HB5.out.trans (HBZ.out.mono HB5.out.size)⟩)
end Go.Proofs.YtmlmaklighgiiaaDoor.V
