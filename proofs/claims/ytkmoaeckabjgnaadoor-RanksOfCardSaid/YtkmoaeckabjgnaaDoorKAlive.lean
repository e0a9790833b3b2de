/-
  The walks of the examples of the statements on ranks: a text's version by value; 'alive'.
-/
import Derived.Test.YtkmoaeckabjgnaaDoorKOf
import Derived.Test.YtkmoaeckabjgnaaDoorEnv
namespace Go.Proofs.YtkmoaeckabjgnaaDoor.V
set_option linter.unusedVariables false
set_option linter.unusedSimpArgs false
open Go Go.RowKit Go.Sort

def verOf (t : List UInt8) : Ver := (parseL t).getD ⟨0, [], []⟩
def VerPost (base : Nat) (x : Ver) (e : Ending) (w' : World) : Prop :=
  ∃ ep A1 n1 c1 A2 n2 c2, e = .returned (.agg #[.int .i64 ep, .slice A1 n1 c1, .slice A2 n2 c2]) ∧ IsVer w' (From base w') (.agg #[.int .i64 ep, .slice A1 n1 c1, .slice A2 n2 c2]) x
theorem VerPost.mk {base : Nat} {x : Ver} {w' : World} {ep : Int} {A1 A2 : Option Addr} {n1 c1 n2 c2 : Nat} (h : IsVer w' (From base w') (.agg #[.int .i64 ep, .slice A1 n1 c1, .slice A2 n2 c2]) x) : VerPost base x (.returned (.agg #[.int .i64 ep, .slice A1 n1 c1, .slice A2 n2 c2])) w' := ⟨_, _, _, _, _, _, _, rfl, h⟩
set_option maxHeartbeats 4000000 in
theorem v12_any (t : ByteArray) (x : Ver) (hp : parseL t.data.toList = some x) (hs : t.size ≤ 1000000000) (u : TypeId) (ev : Value) (m : Int) (w : World) (hE : Env w u ev m) :
    Calls Tryd.prog 34 #[.string t] w fun e w' => VerPost w.heap.size x e w' ∧ Below w.heap.size w w' := by
  have HP := Lib.hid hp
  have HB0 := Lib.hid (news_alloc w (.cells #[.int .i64 0, .slice none 0 0, .slice none 0 0] 33))
  have HK0 := Lib.hid (Blk.new w 33 #[.int .i64 0, .slice none 0 0, .slice none 0 0])
  have HE0 := Lib.hid (hE.next HB0.out)
  have HS := Lib.hid hs
  have HSZ : Hid ((w.alloc (.cells #[.int .i64 0, .slice none 0 0, .slice none 0 0] 33)).heap.size = w.heap.size + 1) := Lib.hid (by simp)
  clear hp hE hs
  go_enter Tryd.func34, Tryd.ntmps34
  go_wp2_with fail
  generalize w.alloc (.cells #[.int .i64 0, .slice none 0 0, .slice none 0 0] 33) = W0 at *
  refine (parse_two t u ev m W0 HE0.out HS.out).mono ?_
  rintro _ w1 ⟨⟨ep, A1, n1, c1, A2, n2, c2, er, rfl, _, hy⟩, hb⟩
  obtain ⟨rfl, hv⟩ := hy _ HP.out
  have HV := Lib.hid hv
  have HB1 := Lib.hid hb
  have HK1 := Lib.hid (HK0.out.belowSelf hb)
  have HX := Lib.hid (news_alloc w1 (.cells #[.int .i64 ep, .slice A1 n1 c1, .slice A2 n2 c2] 33))
  have HK2 := Lib.hid (HK1.out.belowSelf HX.out)
  have HK3 := Lib.hid (Blk.new w1 33 #[.int .i64 ep, .slice A1 n1 c1, .slice A2 n2 c2])
  have hne : ¬ w1.heap.size = w.heap.size := by have := hb.size; have := HSZ.out; omega
  have hne2 : ¬ w.heap.size = w1.heap.size := by omega
  clear hv hb hy
  have q0 := HK3.out.cell 0
  have q1 := HK3.out.cell 1
  have q2 := HK3.out.cell 2
  have t0 := HK2.out.cell 0
  have t1 := HK2.out.cell 1
  have t2 := HK2.out.cell 2
  have f0 := HK2.out.frozen 0
  have f1 := HK2.out.frozen 1
  have f2 := HK2.out.frozen 2
  go_wp2_with fail
  have HKF := Lib.hid (((HK2.out.set_ 0 (.int .i64 ep)).set_ 1 (.slice A1 n1 c1)).set_ 2 (.slice A2 n2 c2))
  refine bodyPost_ret (results_cell_row Tryd.results34 _ _ w.heap.size 33 _ (0, 0) _ rfl HKF.out Tryd.underlying33 rfl (by kernel_rfl)) rfl ⟨?_, ?_⟩
  · refine VerPost.mk (ep := ep) (A1 := A1) (A2 := A2) ?_
    have h1 := HV.out.keepOn (ok' := From (w.heap.size + 1) (w1.alloc (.cells #[.int .i64 ep, .slice A1 n1 c1, .slice A2 n2 c2] 33))) (fun b hb => ⟨by have := hb.1; have := HSZ.out; omega, Nat.lt_of_lt_of_le hb.2 HX.out.size⟩) (fun p hp => HX.out.cell hp.2)
    have h2 := h1.keepOn (ok' := From (w.heap.size + 1) (w1.alloc (.cells #[.int .i64 ep, .slice A1 n1 c1, .slice A2 n2 c2] 33))) (fun b hb => hb) (((sameOn_store _ ⟨w.heap.size, 0, none⟩ (.int .i64 ep) (not_from (Nat.lt_succ_self _))).trans (sameOn_store _ ⟨w.heap.size, 1, none⟩ (.slice A1 n1 c1) (not_from (Nat.lt_succ_self _)))).trans (sameOn_store _ ⟨w.heap.size, 2, none⟩ (.slice A2 n2 c2) (not_from (Nat.lt_succ_self _))))
    exact h2.keepOn (fun b hb => ⟨by have := hb.1; omega, by have := hb.2; simpa using this⟩) (fun _ _ => rfl)
  · have hA := HB0.out.trans ((HB1.out.trans (HX.out.mono HB1.out.size)).mono HB0.out.size)
    exact ((hA.setCell (Nat.le_refl w.heap.size) _).setCell (Nat.le_refl w.heap.size) _).setCell (Nat.le_refl w.heap.size) _
set_option maxHeartbeats 4000000 in
theorem v20_any (t : ByteArray) (x : Ver) (hp : parseL t.data.toList = some x) (hs : t.size ≤ 1000000000) (u : TypeId) (ev : Value) (m : Int) (w : World) (hE : Env w u ev m) :
    Calls Tryd.prog 41 #[.string t] w fun e w' => VerPost w.heap.size x e w' ∧ Below w.heap.size w w' := by
  have HP := Lib.hid hp
  have HB0 := Lib.hid (news_alloc w (.cells #[.int .i64 0, .slice none 0 0, .slice none 0 0] 33))
  have HK0 := Lib.hid (Blk.new w 33 #[.int .i64 0, .slice none 0 0, .slice none 0 0])
  have HE0 := Lib.hid (hE.next HB0.out)
  have HS := Lib.hid hs
  have HSZ : Hid ((w.alloc (.cells #[.int .i64 0, .slice none 0 0, .slice none 0 0] 33)).heap.size = w.heap.size + 1) := Lib.hid (by simp)
  clear hp hE hs
  go_enter Tryd.func41, Tryd.ntmps41
  go_wp2_with fail
  generalize w.alloc (.cells #[.int .i64 0, .slice none 0 0, .slice none 0 0] 33) = W0 at *
  refine (parse_two t u ev m W0 HE0.out HS.out).mono ?_
  rintro _ w1 ⟨⟨ep, A1, n1, c1, A2, n2, c2, er, rfl, _, hy⟩, hb⟩
  obtain ⟨rfl, hv⟩ := hy _ HP.out
  have HV := Lib.hid hv
  have HB1 := Lib.hid hb
  have HK1 := Lib.hid (HK0.out.belowSelf hb)
  have HX := Lib.hid (news_alloc w1 (.cells #[.int .i64 ep, .slice A1 n1 c1, .slice A2 n2 c2] 33))
  have HK2 := Lib.hid (HK1.out.belowSelf HX.out)
  have HK3 := Lib.hid (Blk.new w1 33 #[.int .i64 ep, .slice A1 n1 c1, .slice A2 n2 c2])
  have hne : ¬ w1.heap.size = w.heap.size := by have := hb.size; have := HSZ.out; omega
  have hne2 : ¬ w.heap.size = w1.heap.size := by omega
  clear hv hb hy
  have q0 := HK3.out.cell 0
  have q1 := HK3.out.cell 1
  have q2 := HK3.out.cell 2
  have t0 := HK2.out.cell 0
  have t1 := HK2.out.cell 1
  have t2 := HK2.out.cell 2
  have f0 := HK2.out.frozen 0
  have f1 := HK2.out.frozen 1
  have f2 := HK2.out.frozen 2
  go_wp2_with fail
  have HKF := Lib.hid (((HK2.out.set_ 0 (.int .i64 ep)).set_ 1 (.slice A1 n1 c1)).set_ 2 (.slice A2 n2 c2))
  refine bodyPost_ret (results_cell_row Tryd.results41 _ _ w.heap.size 33 _ (0, 0) _ rfl HKF.out Tryd.underlying33 rfl (by kernel_rfl)) rfl ⟨?_, ?_⟩
  · refine VerPost.mk (ep := ep) (A1 := A1) (A2 := A2) ?_
    have h1 := HV.out.keepOn (ok' := From (w.heap.size + 1) (w1.alloc (.cells #[.int .i64 ep, .slice A1 n1 c1, .slice A2 n2 c2] 33))) (fun b hb => ⟨by have := hb.1; have := HSZ.out; omega, Nat.lt_of_lt_of_le hb.2 HX.out.size⟩) (fun p hp => HX.out.cell hp.2)
    have h2 := h1.keepOn (ok' := From (w.heap.size + 1) (w1.alloc (.cells #[.int .i64 ep, .slice A1 n1 c1, .slice A2 n2 c2] 33))) (fun b hb => hb) (((sameOn_store _ ⟨w.heap.size, 0, none⟩ (.int .i64 ep) (not_from (Nat.lt_succ_self _))).trans (sameOn_store _ ⟨w.heap.size, 1, none⟩ (.slice A1 n1 c1) (not_from (Nat.lt_succ_self _)))).trans (sameOn_store _ ⟨w.heap.size, 2, none⟩ (.slice A2 n2 c2) (not_from (Nat.lt_succ_self _))))
    exact h2.keepOn (fun b hb => ⟨by have := hb.1; omega, by have := hb.2; simpa using this⟩) (fun _ _ => rfl)
  · have hA := HB0.out.trans ((HB1.out.trans (HX.out.mono HB1.out.size)).mono HB0.out.size)
    exact ((hA.setCell (Nat.le_refl w.heap.size) _).setCell (Nat.le_refl w.heap.size) _).setCell (Nat.le_refl w.heap.size) _

/-- A record with a name and a version, a number, else nothing. -/
def recN (x : Ver) (n : Int) : Rcd := ⟨⟨#[]⟩, ⟨#[]⟩, ⟨#[97]⟩, ⟨#[]⟩, x, ⟨#[]⟩, n, 0, [], [], []⟩
def t10 : List UInt8 := [49, 46, 48]
def t20 : List UInt8 := [50, 46, 48]
def t200 : List UInt8 := [50, 46, 48, 46, 48]
theorem p10 : parseL t10 = some (verOf t10) := by kernel_rfl
theorem p20 : parseL t20 = some (verOf t20) := by kernel_rfl
theorem p200 : parseL t200 = some (verOf t200) := by kernel_rfl
def aliveRs : List Rcd := [recN (verOf t10) 0, recN (verOf t20) 0, recN (verOf t200) 1]
theorem aliveRanks : ranksL aliveRs [true, true, true] [] = [⟨1, 0, 0, 0⟩, ⟨0, 1, 0, 0⟩, ⟨0, 0, 0, 0⟩] := by kernel_rfl
theorem recN_of {w : World} {ok : Nat → Prop} {x : Ver} {n ep : Int} {A1 A2 : Option Addr} {n1 c1 n2 c2 : Nat} (h : IsVer w ok (.agg #[.int .i64 ep, .slice A1 n1 c1, .slice A2 n2 c2]) x) (hn : I64 n) :
    RRcd w ok [.string ⟨#[]⟩, .string ⟨#[]⟩, .string ⟨#[97]⟩, .string ⟨#[]⟩, .int .i64 ep, .slice A1 n1 c1, .slice A2 n2 c2, .string ⟨#[]⟩, .int .i64 n, .int .i64 0, .slice none 0 0, .slice none 0 0, .slice none 0 0] (recN x n) := by
  have e0 : (⟨#[]⟩ : ByteArray).size ≤ 9223372036854775807 := by decide
  have e1 : (⟨#[97]⟩ : ByteArray).size ≤ 9223372036854775807 := by decide
  have i0 : I64 0 := by unfold I64; decide
  obtain ⟨p, l, he, hi, hp, hl⟩ := h
  injection he with he
  have h2 := congrArg Array.toList he
  simp at h2
  obtain ⟨rfl, rfl, rfl⟩ := h2
  exact ⟨_, _, _, _, _, rfl, ⟨e0, e0, e1, e0, e0⟩, ⟨hi, hn, i0⟩, hp, hl, IsSl.nil _ _ _ _ _ _ (by decide), IsSl.nil _ _ _ _ _ _ (by decide), IsSl.nil _ _ _ _ _ _ (by decide)⟩
/-- Cells in a row read as a list. -/
theorem isSl_blk {α : Type} {R : Rd α} {size : Nat} {w : World} {ok : Nat → Prop} {g : Nat} {t : TypeId} {cs : Array Value} {xs : List α} (hb : Blk w g t cs) (hok : ok g) (hl : xs.length ≤ 9223372036854775807)
    (h : ∀ i x, xs[i]? = some x → ∃ vs, vs.length = size ∧ R w ok vs x ∧ ∀ j u, vs[j]? = some u → cs[i * size + j]? = some u) : IsSl size R w ok (.slice (some ⟨g, 0, none⟩) xs.length xs.length) xs := by
  refine ⟨_, _, rfl, Nat.le_refl _, hl, fun i x hi => ?_⟩
  obtain ⟨vs, h1, h2, h3⟩ := h i x hi
  exact ⟨g, 0, vs, rfl, hok, h1, h2, fun j u hj => by rw [Nat.zero_add, hb.cell]; exact h3 j u hj⟩

set_option maxHeartbeats 8000000 in
set_option maxRecDepth 100000 in
theorem alive12_any (w : World) (u : TypeId) (ev : Value) (m : Int) (hE : Env w u ev m) : Calls Tryd.prog 12 #[] w fun e w' => e = .returned (.bool true) ∧ Below w.heap.size w w' := by
  have HE := Lib.hid hE
  clear hE
  go_enter Tryd.func12, Tryd.ntmps12
  go_wp2_with fail
  refine (v12_any _ _ (by exact p10) (by decide) u ev m w HE.out).mono ?_
  rintro _ w1 ⟨⟨ep1, A1, n1, c1, A2, n2, c2, rfl, hv1⟩, hb1⟩
  have HV1 := Lib.hid hv1
  have HB1 := Lib.hid hb1
  clear hv1 hb1
  go_wp2_with fail
  refine (v12_any _ _ (by exact p20) (by decide) u ev m w1 (HE.out.next HB1.out)).mono ?_
  rintro _ w2 ⟨⟨ep2, A3, n3, c3, A4, n4, c4, rfl, hv2⟩, hb2⟩
  have HV2 := Lib.hid hv2
  have HB2 := Lib.hid hb2
  have HB12 := Lib.hid (HB1.out.trans (hb2.mono HB1.out.size))
  clear hv2 hb2
  go_wp2_with fail
  refine (v12_any _ _ (by exact p200) (by decide) u ev m w2 (HE.out.next HB12.out)).mono ?_
  rintro _ w3 ⟨⟨ep3, A5, n5, c5, A6, n6, c6, rfl, hv3⟩, hb3⟩
  have HV3 := Lib.hid hv3
  have HB3 := Lib.hid hb3
  have HB13 := Lib.hid (HB12.out.trans (hb3.mono HB12.out.size))
  clear hv3 hb3
  go_wp2_with fail
  have HX1 := Lib.hid (news_alloc w3 (.cells #[.string ⟨#[]⟩, .string ⟨#[]⟩, .string ⟨#[97]⟩, .string ⟨#[]⟩, .int .i64 ep1, .slice A1 n1 c1, .slice A2 n2 c2, .string ⟨#[]⟩, .int .i64 0, .int .i64 0, .slice none 0 0, .slice none 0 0, .slice none 0 0, .string ⟨#[]⟩, .string ⟨#[]⟩, .string ⟨#[97]⟩, .string ⟨#[]⟩, .int .i64 ep2, .slice A3 n3 c3, .slice A4 n4 c4, .string ⟨#[]⟩, .int .i64 0, .int .i64 0, .slice none 0 0, .slice none 0 0, .slice none 0 0, .string ⟨#[]⟩, .string ⟨#[]⟩, .string ⟨#[97]⟩, .string ⟨#[]⟩, .int .i64 ep3, .slice A5 n5 c5, .slice A6 n6 c6, .string ⟨#[]⟩, .int .i64 1, .int .i64 0, .slice none 0 0, .slice none 0 0, .slice none 0 0] 37))
  have HX2 := Lib.hid (HX1.out.trans ((news_alloc (w3.alloc (.cells #[.string ⟨#[]⟩, .string ⟨#[]⟩, .string ⟨#[97]⟩, .string ⟨#[]⟩, .int .i64 ep1, .slice A1 n1 c1, .slice A2 n2 c2, .string ⟨#[]⟩, .int .i64 0, .int .i64 0, .slice none 0 0, .slice none 0 0, .slice none 0 0, .string ⟨#[]⟩, .string ⟨#[]⟩, .string ⟨#[97]⟩, .string ⟨#[]⟩, .int .i64 ep2, .slice A3 n3 c3, .slice A4 n4 c4, .string ⟨#[]⟩, .int .i64 0, .int .i64 0, .slice none 0 0, .slice none 0 0, .slice none 0 0, .string ⟨#[]⟩, .string ⟨#[]⟩, .string ⟨#[97]⟩, .string ⟨#[]⟩, .int .i64 ep3, .slice A5 n5 c5, .slice A6 n6 c6, .string ⟨#[]⟩, .int .i64 1, .int .i64 0, .slice none 0 0, .slice none 0 0, .slice none 0 0] 37)) (.cells #[.bool true, .bool true, .bool true] 4)).mono HX1.out.size))
  have HKA := Lib.hid ((Blk.new w3 37 #[.string ⟨#[]⟩, .string ⟨#[]⟩, .string ⟨#[97]⟩, .string ⟨#[]⟩, .int .i64 ep1, .slice A1 n1 c1, .slice A2 n2 c2, .string ⟨#[]⟩, .int .i64 0, .int .i64 0, .slice none 0 0, .slice none 0 0, .slice none 0 0, .string ⟨#[]⟩, .string ⟨#[]⟩, .string ⟨#[97]⟩, .string ⟨#[]⟩, .int .i64 ep2, .slice A3 n3 c3, .slice A4 n4 c4, .string ⟨#[]⟩, .int .i64 0, .int .i64 0, .slice none 0 0, .slice none 0 0, .slice none 0 0, .string ⟨#[]⟩, .string ⟨#[]⟩, .string ⟨#[97]⟩, .string ⟨#[]⟩, .int .i64 ep3, .slice A5 n5 c5, .slice A6 n6 c6, .string ⟨#[]⟩, .int .i64 1, .int .i64 0, .slice none 0 0, .slice none 0 0, .slice none 0 0]).alloc (.cells #[.bool true, .bool true, .bool true] 4))
  have HKB : Hid (Blk ((w3.alloc (.cells #[.string ⟨#[]⟩, .string ⟨#[]⟩, .string ⟨#[97]⟩, .string ⟨#[]⟩, .int .i64 ep1, .slice A1 n1 c1, .slice A2 n2 c2, .string ⟨#[]⟩, .int .i64 0, .int .i64 0, .slice none 0 0, .slice none 0 0, .slice none 0 0, .string ⟨#[]⟩, .string ⟨#[]⟩, .string ⟨#[97]⟩, .string ⟨#[]⟩, .int .i64 ep2, .slice A3 n3 c3, .slice A4 n4 c4, .string ⟨#[]⟩, .int .i64 0, .int .i64 0, .slice none 0 0, .slice none 0 0, .slice none 0 0, .string ⟨#[]⟩, .string ⟨#[]⟩, .string ⟨#[97]⟩, .string ⟨#[]⟩, .int .i64 ep3, .slice A5 n5 c5, .slice A6 n6 c6, .string ⟨#[]⟩, .int .i64 1, .int .i64 0, .slice none 0 0, .slice none 0 0, .slice none 0 0] 37)).alloc (.cells #[.bool true, .bool true, .bool true] 4)) (w3.heap.size + 1) 4 #[.bool true, .bool true, .bool true]) := Lib.hid (by
    have h := Blk.new (w3.alloc (.cells #[.string ⟨#[]⟩, .string ⟨#[]⟩, .string ⟨#[97]⟩, .string ⟨#[]⟩, .int .i64 ep1, .slice A1 n1 c1, .slice A2 n2 c2, .string ⟨#[]⟩, .int .i64 0, .int .i64 0, .slice none 0 0, .slice none 0 0, .slice none 0 0, .string ⟨#[]⟩, .string ⟨#[]⟩, .string ⟨#[97]⟩, .string ⟨#[]⟩, .int .i64 ep2, .slice A3 n3 c3, .slice A4 n4 c4, .string ⟨#[]⟩, .int .i64 0, .int .i64 0, .slice none 0 0, .slice none 0 0, .slice none 0 0, .string ⟨#[]⟩, .string ⟨#[]⟩, .string ⟨#[97]⟩, .string ⟨#[]⟩, .int .i64 ep3, .slice A5 n5 c5, .slice A6 n6 c6, .string ⟨#[]⟩, .int .i64 1, .int .i64 0, .slice none 0 0, .slice none 0 0, .slice none 0 0] 37)) 4 #[.bool true, .bool true, .bool true]
    rw [size_alloc] at h
    exact h)
  generalize ((w3.alloc (.cells #[.string ⟨#[]⟩, .string ⟨#[]⟩, .string ⟨#[97]⟩, .string ⟨#[]⟩, .int .i64 ep1, .slice A1 n1 c1, .slice A2 n2 c2, .string ⟨#[]⟩, .int .i64 0, .int .i64 0, .slice none 0 0, .slice none 0 0, .slice none 0 0, .string ⟨#[]⟩, .string ⟨#[]⟩, .string ⟨#[97]⟩, .string ⟨#[]⟩, .int .i64 ep2, .slice A3 n3 c3, .slice A4 n4 c4, .string ⟨#[]⟩, .int .i64 0, .int .i64 0, .slice none 0 0, .slice none 0 0, .slice none 0 0, .string ⟨#[]⟩, .string ⟨#[]⟩, .string ⟨#[97]⟩, .string ⟨#[]⟩, .int .i64 ep3, .slice A5 n5 c5, .slice A6 n6 c6, .string ⟨#[]⟩, .int .i64 1, .int .i64 0, .slice none 0 0, .slice none 0 0, .slice none 0 0] 37)).alloc (.cells #[.bool true, .bool true, .bool true] 4)) = W0 at *
  have HXS : Hid (IsRcds W0 (Lt W0.heap.size) (.slice (some ⟨w3.heap.size, 0, none⟩) 3 3) aliveRs) := Lib.hid (by
    have b1 := HB2.out.trans ((HB3.out.trans (HX2.out.mono HB3.out.size)).mono HB2.out.size)
    have b2 := HB3.out.trans (HX2.out.mono HB3.out.size)
    have r1 := recN_of (n := 0) (HV1.out.keepOn (ok' := Lt W0.heap.size) (fun b hb => Nat.lt_of_lt_of_le hb.2 b1.size) (fun p hp => b1.cell hp.2)) (by unfold I64; decide)
    have r2 := recN_of (n := 0) (HV2.out.keepOn (ok' := Lt W0.heap.size) (fun b hb => Nat.lt_of_lt_of_le hb.2 b2.size) (fun p hp => b2.cell hp.2)) (by unfold I64; decide)
    have r3 := recN_of (n := 1) (HV3.out.keepOn (ok' := Lt W0.heap.size) (fun b hb => Nat.lt_of_lt_of_le hb.2 HX2.out.size) (fun p hp => HX2.out.cell hp.2)) (by unfold I64; decide)
    refine isSl_blk (xs := aliveRs) HKA.out (by have := HKA.out.lt; exact this) (by decide) (fun i x hi => ?_)
    match i, hi with
    | 0, hi =>
      obtain rfl : recN (verOf t10) 0 = x := by simpa [aliveRs] using hi
      refine ⟨_, rfl, r1, fun j u hj => ?_⟩
      have hj13 : j < 13 := (List.getElem?_eq_some_iff.1 hj).1
      match j, hj13, hj with
      | 0, _, hj => exact hj
      | 1, _, hj => exact hj
      | 2, _, hj => exact hj
      | 3, _, hj => exact hj
      | 4, _, hj => exact hj
      | 5, _, hj => exact hj
      | 6, _, hj => exact hj
      | 7, _, hj => exact hj
      | 8, _, hj => exact hj
      | 9, _, hj => exact hj
      | 10, _, hj => exact hj
      | 11, _, hj => exact hj
      | 12, _, hj => exact hj
    | 1, hi =>
      obtain rfl : recN (verOf t20) 0 = x := by simpa [aliveRs] using hi
      refine ⟨_, rfl, r2, fun j u hj => ?_⟩
      have hj13 : j < 13 := (List.getElem?_eq_some_iff.1 hj).1
      match j, hj13, hj with
      | 0, _, hj => exact hj
      | 1, _, hj => exact hj
      | 2, _, hj => exact hj
      | 3, _, hj => exact hj
      | 4, _, hj => exact hj
      | 5, _, hj => exact hj
      | 6, _, hj => exact hj
      | 7, _, hj => exact hj
      | 8, _, hj => exact hj
      | 9, _, hj => exact hj
      | 10, _, hj => exact hj
      | 11, _, hj => exact hj
      | 12, _, hj => exact hj
    | 2, hi =>
      obtain rfl : recN (verOf t200) 1 = x := by simpa [aliveRs] using hi
      refine ⟨_, rfl, r3, fun j u hj => ?_⟩
      have hj13 : j < 13 := (List.getElem?_eq_some_iff.1 hj).1
      match j, hj13, hj with
      | 0, _, hj => exact hj
      | 1, _, hj => exact hj
      | 2, _, hj => exact hj
      | 3, _, hj => exact hj
      | 4, _, hj => exact hj
      | 5, _, hj => exact hj
      | 6, _, hj => exact hj
      | 7, _, hj => exact hj
      | 8, _, hj => exact hj
      | 9, _, hj => exact hj
      | 10, _, hj => exact hj
      | 11, _, hj => exact hj
      | 12, _, hj => exact hj
    | i + 3, hi => simp [aliveRs] at hi)
  have HON : Hid (IsBools W0 (Lt W0.heap.size) (.slice (some ⟨w3.heap.size + 1, 0, none⟩) 3 3) [true, true, true]) := Lib.hid (by
    refine isSl_blk (xs := [true, true, true]) HKB.out (by have := HKB.out.lt; exact this) (by decide) (fun i x hi => ?_)
    match i, hi with
    | 0, hi => obtain rfl : true = x := by simpa using hi
               exact ⟨[.bool true], rfl, rfl, fun j u hj => by match j, hj with
                                                            | 0, hj => exact hj⟩
    | 1, hi => obtain rfl : true = x := by simpa using hi
               exact ⟨[.bool true], rfl, rfl, fun j u hj => by match j, hj with
                                                            | 0, hj => exact hj⟩
    | 2, hi => obtain rfl : true = x := by simpa using hi
               exact ⟨[.bool true], rfl, rfl, fun j u hj => by match j, hj with
                                                            | 0, hj => exact hj⟩
    | i + 3, hi => simp at hi)
  refine (ranksOf_any _ _ _ aliveRs [true, true, true] [] W0.heap.size W0 HXS.out HON.out (IsSl.nil _ _ _ _ _ _ (by decide)) (Nat.le_refl _) rfl (by decide) (by decide)).mono ?_
  rintro _ w4 ⟨⟨g, rfl, hr⟩, hb4⟩
  rw [aliveRanks] at hr
  have HB4 := Lib.hid (HB13.out.trans ((HX2.out.trans (hb4.mono HX2.out.size)).mono HB13.out.size))
  obtain ⟨g0, o0, h0, _, a0, a1, a2, a3⟩ := rks_at hr (i := 0) rfl
  obtain ⟨g1, o1, h1, _, b0, b1, b2, b3⟩ := rks_at hr (i := 1) rfl
  obtain ⟨g2, o2, h2, _, d0, d1, d2, d3⟩ := rks_at hr (i := 2) rfl
  injection h0 with h0
  injection h0 with h0a h0b
  subst h0a; subst h0b
  injection h1 with h1
  injection h1 with h1a h1b
  subst h1a; subst h1b
  injection h2 with h2
  injection h2 with h2a h2b
  subst h2a; subst h2b
  clear hr hb4
  go_wp2_with fail
  go_ret
  exact ⟨rfl, HB4.out⟩
end Go.Proofs.YtkmoaeckabjgnaaDoor.V
