/-
  The walks of ranks.Sum and ranks.Before.
-/
import Derived.Test.YtkmoaeckabjgnaaDoorKOf
import Derived.Test.YtkmoaeckabjgnaaDoorCmp2
import Derived.Test.YtkmoaeckabjgnaaDoorEnv
namespace Go.Proofs.YtkmoaeckabjgnaaDoor.V
set_option linter.unusedVariables false
set_option linter.unusedSimpArgs false
open Go Go.RowKit Go.Sort

def addW (a b : Int) : Int := RowKit.wrap64 (a + b)
/-- The sum of the chosen ones' f, as Go's int adds. -/
def sumTo (f : Rk → Int) (xs : List Rk) (ch : List Bool) : Nat → Int
  | 0 => 0
  | k + 1 => if ch.getD k false then addW (sumTo f xs ch k) (f (xs.getD k ⟨0, 0, 0, 0⟩)) else sumTo f xs ch k
theorem sumTo_at {f : Rk → Int} {xs : List Rk} {ch : List Bool} {k : Nat} {x : Rk} {b : Bool} (hx : xs[k]? = some x) (hb : ch[k]? = some b) : sumTo f xs ch (k + 1) = if b then addW (sumTo f xs ch k) (f x) else sumTo f xs ch k := by
  rw [sumTo]
  simp [List.getD, hx, hb]
def sumC (xs : List Rk) (ch : List Bool) (k : Nat) : Array Value := #[.int .i64 (sumTo Rk.v xs ch k), .int .i64 (sumTo Rk.n xs ch k), .int .i64 (sumTo Rk.c xs ch k), .int .i64 (sumTo Rk.t xs ch k)]

set_option maxHeartbeats 8000000 in
set_option maxRecDepth 100000 in
theorem Sum_any (vr vo : Value) (xs : List Rk) (ch : List Bool) (B : Nat) (w : World) (hx : IsSl 4 RRk w (Lt B) vr xs) (ho : IsBools w (Lt B) vo ch) (hB : B ≤ w.heap.size) (hl : ch.length = xs.length) :
    Calls Tryd.prog 26 #[vr, vo] w fun e w' => e = .returned (.tuple #[.agg (sumC xs ch xs.length), .nilIface]) ∧ Below w.heap.size w w' := by
  obtain ⟨XA, xc, rfl, hxl, hxc⟩ := hx.form
  obtain ⟨OA, oc, rfl, hol, hoc⟩ := ho.form
  rw [hl] at ho ⊢
  have HX := Lib.hid hx
  have HO := Lib.hid ho
  have HL := Lib.hid hl
  clear hx ho hl hol
  go_enter Tryd.func26, Tryd.ntmps26
  go_wp2_with fail
  have HB0 := Lib.hid (news_two w (.cells #[.int .i64 0, .int .i64 0, .int .i64 0, .int .i64 0] 40) (.cells #[.int .i64 0, .int .i64 0, .int .i64 0, .int .i64 0] 40))
  have HK0 := Lib.hid ((Blk.new w 40 #[.int .i64 0, .int .i64 0, .int .i64 0, .int .i64 0]).alloc (.cells #[.int .i64 0, .int .i64 0, .int .i64 0, .int .i64 0] 40))
  have HK1 : Hid (Blk ((w.alloc (.cells #[.int .i64 0, .int .i64 0, .int .i64 0, .int .i64 0] 40)).alloc (.cells #[.int .i64 0, .int .i64 0, .int .i64 0, .int .i64 0] 40)) (w.heap.size + 1) 40 #[.int .i64 0, .int .i64 0, .int .i64 0, .int .i64 0]) := Lib.hid (by
    have h := Blk.new (w.alloc (.cells #[.int .i64 0, .int .i64 0, .int .i64 0, .int .i64 0] 40)) 40 #[.int .i64 0, .int .i64 0, .int .i64 0, .int .i64 0]
    rw [size_alloc] at h
    exact h)
  generalize (w.alloc (.cells #[.int .i64 0, .int .i64 0, .int .i64 0, .int .i64 0] 40)).alloc (.cells #[.int .i64 0, .int .i64 0, .int .i64 0, .int .i64 0] 40) = W0 at *
  go_loopw [18] (fun i wr => ∃ k : Nat, k ≤ xs.length ∧ i = .int .i64 k ∧ Hid (Blk wr (w.heap.size + 1) 40 (sumC xs ch k)) ∧ Hid (Below (w.heap.size + 1) W0 wr)) (fun i _ => xs.length - (intOf i).toNat)
  case atStart => exact ⟨0, Nat.zero_le _, rfl, HK1, Lib.hid (Below.refl _ _)⟩
  case round =>
    obtain ⟨k, hk, rfl, HT, HW⟩ := hrel
    have HG := Lib.hid HT.out.lt
    have HSM : Hid (Same w.heap.size W0 wr) := Lib.hid ((Same.of_below HW.out).mono (by omega))
    have HS2 : Hid (Same B w wr) := Lib.hid (((Same.of_below HB0.out).mono hB).trans (HSM.out.mono hB))
    by_cases hlt : k < xs.length
    · obtain ⟨y, hy⟩ : ∃ y, xs[k]? = some y := ⟨_, List.getElem?_eq_getElem hlt⟩
      obtain ⟨ob, hob⟩ : ∃ ob, ch[k]? = some ob := ⟨_, List.getElem?_eq_getElem (by rw [HL.out]; exact hlt)⟩
      obtain ⟨b, o, rfl, hb, h0, h1, h2, h3⟩ := rks_at HX.out hy
      obtain ⟨b2, o2, rfl, hb2, hcell⟩ := bools_at HO.out hob
      have hbr : b < wr.heap.size := by have h : b < B := hb; have := HG.out; omega
      have hb2r : b2 < wr.heap.size := by have h : b2 < B := hb2; have := HG.out; omega
      have qb : wr.cell? ⟨b2, o2 + k, none⟩ = some (.bool ob) := (HS2.out _ hb2).trans hcell
      have q0 : wr.cell? ⟨b, o + k * 4, none⟩ = some (.int .i64 y.v) := (HS2.out _ hb).trans h0
      have q1 : wr.cell? ⟨b, o + k * 4 + 1, none⟩ = some (.int .i64 y.n) := (HS2.out _ hb).trans h1
      have q2 : wr.cell? ⟨b, o + k * 4 + 2, none⟩ = some (.int .i64 y.c) := (HS2.out _ hb).trans h2
      have q3 : wr.cell? ⟨b, o + k * 4 + 3, none⟩ = some (.int .i64 y.t) := (HS2.out _ hb).trans h3
      have HSV := Lib.hid (sumTo_at (f := Rk.v) hy hob)
      have HSN := Lib.hid (sumTo_at (f := Rk.n) hy hob)
      have HSC := Lib.hid (sumTo_at (f := Rk.c) hy hob)
      have HST := Lib.hid (sumTo_at (f := Rk.t) hy hob)
      clear hy hob h0 h1 h2 h3 hcell
      cases ob with
      | false =>
        have HN : Hid (sumC xs ch (k + 1) = sumC xs ch k) := Lib.hid (by unfold sumC; rw [HSV.out, HSN.out, HSC.out, HST.out]; rfl)
        go_wp2_with fail
        go_roundw
        case rel => exact ⟨k + 1, by omega, by go_num, Lib.hid (by rw [HN.out]; exact HT.out.alloc _), Lib.hid (HW.out.trans ((news_alloc wr _).mono (by have := HG.out; omega)))⟩
        case measure => simp [intOf]; omega
      | true =>
        have hgl0 : True := trivial
        have HTX := Lib.hid (HT.out.alloc (.cells #[.int .i64 y.v, .int .i64 y.n, .int .i64 y.c, .int .i64 y.t] 40))
        have HKX := Lib.hid (Blk.new wr 40 #[.int .i64 y.v, .int .i64 y.n, .int .i64 y.c, .int .i64 y.t])
        unfold sumC at HTX
        have t0 := HTX.out.cell 0
        have t1 := HTX.out.cell 1
        have t2 := HTX.out.cell 2
        have t3 := HTX.out.cell 3
        have f0 := HTX.out.frozen 0
        have f1 := HTX.out.frozen 1
        have f2 := HTX.out.frozen 2
        have f3 := HTX.out.frozen 3
        have y0 := HKX.out.cell 0
        have y1 := HKX.out.cell 1
        have y2 := HKX.out.cell 2
        have y3 := HKX.out.cell 3
        have hne : ¬ wr.heap.size = w.heap.size + 1 := by have := HG.out; omega
        have hne2 : ¬ w.heap.size + 1 = wr.heap.size := by have := HG.out; omega
        go_wp2_with fail
        go_roundw
        case rel => exact ⟨k + 1, by omega, by go_num, Lib.hid (by
          have h := (((HTX.out.set_ 0 (.int .i64 (RowKit.wrap64 (sumTo Rk.v xs ch k + y.v)))).set_ 1 (.int .i64 (RowKit.wrap64 (sumTo Rk.n xs ch k + y.n)))).set_ 2 (.int .i64 (RowKit.wrap64 (sumTo Rk.c xs ch k + y.c)))).set_ 3 (.int .i64 (RowKit.wrap64 (sumTo Rk.t xs ch k + y.t)))
          unfold sumC
          rw [HSV.out, HSN.out, HSC.out, HST.out]
          simpa [addW] using h), Lib.hid (below_set (below_set (below_set (below_set (HW.out.trans ((news_alloc wr _).mono (by have := HG.out; omega))) ⟨w.heap.size + 1, 0, none⟩ (Nat.le_refl _) _) ⟨w.heap.size + 1, 1, none⟩ (Nat.le_refl _) _) ⟨w.heap.size + 1, 2, none⟩ (Nat.le_refl _) _) ⟨w.heap.size + 1, 3, none⟩ (Nat.le_refl _) _)⟩
        case measure => simp [intOf]; omega
    · obtain rfl : k = xs.length := by omega
      unfold sumC at HT
      have HO1 : Hid (Blk wr w.heap.size 40 #[.int .i64 0, .int .i64 0, .int .i64 0, .int .i64 0]) := Lib.hid (HK0.out.below HW.out (Nat.lt_succ_self _))
      have t0 := HT.out.cell 0
      have t1 := HT.out.cell 1
      have t2 := HT.out.cell 2
      have t3 := HT.out.cell 3
      have c0 := HO1.out.cell 0
      have c1 := HO1.out.cell 1
      have c2 := HO1.out.cell 2
      have c3 := HO1.out.cell 3
      have f0 := HO1.out.frozen 0
      have f1 := HO1.out.frozen 1
      have f2 := HO1.out.frozen 2
      have f3 := HO1.out.frozen 3
      go_wp2_with fail
      have HF := Lib.hid ((((HO1.out.set_ 0 (.int .i64 (sumTo Rk.v xs ch xs.length))).set_ 1 (.int .i64 (sumTo Rk.n xs ch xs.length))).set_ 2 (.int .i64 (sumTo Rk.c xs ch xs.length))).set_ 3 (.int .i64 (sumTo Rk.t xs ch xs.length)))
      have r0 := HF.out.cell 0
      have r1 := HF.out.cell 1
      have r2 := HF.out.cell 2
      have r3 := HF.out.cell 3
      refine bodyPost_ret (v := .tuple #[.agg (sumC xs ch xs.length), .nilIface]) (by unfold sumC; simp [results, Tryd.results26, go_sem, r0, r1, r2, r3]) rfl ⟨rfl, ?_⟩
      have hA := HB0.out.trans (HW.out.mono (Nat.le_succ _))
      exact below_set (below_set (below_set (below_set hA ⟨w.heap.size, 0, none⟩ (Nat.le_refl _) _) ⟨w.heap.size, 1, none⟩ (Nat.le_refl _) _) ⟨w.heap.size, 2, none⟩ (Nat.le_refl _) _) ⟨w.heap.size, 3, none⟩ (Nat.le_refl _) _

set_option maxHeartbeats 4000000 in
theorem Sum_err (vr vo : Value) (xs : List Rk) (ch : List Bool) (u : TypeId) (ev : Value) (ok : Nat → Prop) (w : World) (hx : IsSl 4 RRk w ok vr xs) (ho : IsBools w ok vo ch) (hl : ¬ ch.length = xs.length) (he : w.cell? ⟨1, 0, none⟩ = some (.iface u ev)) :
    Calls Tryd.prog 26 #[vr, vo] w fun e w' => e = .returned (.tuple #[.agg #[.int .i64 0, .int .i64 0, .int .i64 0, .int .i64 0], .iface u ev]) ∧ Below w.heap.size w w' := by
  obtain ⟨XA, xc, rfl, hxl, hxc⟩ := hx.form
  obtain ⟨OA, oc, rfl, hol, hoc⟩ := ho.form
  have hg0 : 1 < w.heap.size := cell_lt he
  have HB := Lib.hid (news_alloc w (.cells #[.int .i64 0, .int .i64 0, .int .i64 0, .int .i64 0] 40))
  have HK := Lib.hid (Blk.new w 40 #[.int .i64 0, .int .i64 0, .int .i64 0, .int .i64 0])
  have qe : (w.alloc (.cells #[.int .i64 0, .int .i64 0, .int .i64 0, .int .i64 0] 40)).cell? ⟨1, 0, none⟩ = some (.iface u ev) := by rw [World.cell?_alloc_lt _ _ _ (by exact hg0)]; exact he
  have hne : ¬ w.heap.size = 1 := by omega
  have hne2 : ¬ 1 = w.heap.size := by omega
  have hl1 : ((ch.length : Int) == (xs.length : Int)) = false := beq_eq_false_iff_ne.2 (by omega)
  have hl2 : ((ch.length : Int) != (xs.length : Int)) = true := by rw [bne, hl1]; rfl
  clear hx ho he
  go_enter Tryd.func26, Tryd.ntmps26
  go_wp2_with fail
  generalize w.alloc (.cells #[.int .i64 0, .int .i64 0, .int .i64 0, .int .i64 0] 40) = W at *
  have q0 := HK.out.cell 0
  have q1 := HK.out.cell 1
  have q2 := HK.out.cell 2
  have q3 := HK.out.cell 3
  have f0 := HK.out.frozen 0
  have f1 := HK.out.frozen 1
  have f2 := HK.out.frozen 2
  have f3 := HK.out.frozen 3
  go_region
  go_wp2_with fail
  refine bodyPost_ret (v := .tuple #[.agg #[.int .i64 0, .int .i64 0, .int .i64 0, .int .i64 0], .iface u ev]) (by simp [results, Tryd.results26, go_sem, q0, q1, q2, q3]) rfl ⟨rfl, ?_⟩
  exact ((((HB.out.setCell (Nat.le_refl _) _).setCell (Nat.le_refl _) _).setCell (Nat.le_refl _) _).setCell (Nat.le_refl _) _).drew
def rkBefore (a b : Rk) : Int := orL [cmpI a.v b.v, cmpI a.n b.n, cmpI a.c b.c, cmpI a.t b.t]
set_option maxHeartbeats 4000000 in
theorem Before_any (x y : Rk) (w : World) :
    Calls Tryd.prog 27 #[.agg #[.int .i64 x.v, .int .i64 x.n, .int .i64 x.c, .int .i64 x.t], .agg #[.int .i64 y.v, .int .i64 y.n, .int .i64 y.c, .int .i64 y.t]] w fun e w' => e = .returned (.bool (decide (rkBefore x y < 0))) ∧ Below w.heap.size w w' := by
  go_enter Tryd.func27, Tryd.ntmps27
  go_wp2_with fail
  have hb := news_two w (.cells #[.int .i64 x.v, .int .i64 x.n, .int .i64 x.c, .int .i64 x.t] 40) (.cells #[.int .i64 y.v, .int .i64 y.n, .int .i64 y.c, .int .i64 y.t] 40)
  obtain ⟨k0, k1⟩ := cells_two w #[.int .i64 x.v, .int .i64 x.n, .int .i64 x.c, .int .i64 x.t] #[.int .i64 y.v, .int .i64 y.n, .int .i64 y.c, .int .i64 y.t] 40 40
  have hsz : w.heap.size + 2 = ((w.alloc (.cells #[.int .i64 x.v, .int .i64 x.n, .int .i64 x.c, .int .i64 x.t] 40)).alloc (.cells #[.int .i64 y.v, .int .i64 y.n, .int .i64 y.c, .int .i64 y.t] 40)).heap.size := by simp
  generalize (w.alloc (.cells #[.int .i64 x.v, .int .i64 x.n, .int .i64 x.c, .int .i64 x.t] 40)).alloc (.cells #[.int .i64 y.v, .int .i64 y.n, .int .i64 y.c, .int .i64 y.t] 40) = W at *
  have HB := Lib.hid hb
  have HS := Lib.hid hsz
  clear hb hsz
  have c0 := cell_regrown (k0 0)
  have c1 := cell_regrown (k0 1)
  have c2 := cell_regrown (k0 2)
  have c3 := cell_regrown (k0 3)
  have d0 := cell_regrown (k1 0)
  have d1 := cell_regrown (k1 1)
  have d2 := cell_regrown (k1 2)
  have d3 := cell_regrown (k1 3)
  clear k0 k1
  refine wp_region_tail 20 (by kernel_rfl) (by kernel_rfl) ?_
  simp only [List.take_succ_cons, List.take_zero, List.drop_succ_cons, List.drop_zero]
  repeat (first | go_big_quiet_step ((go_at_call 44; exact regrown_same (cmpInt_any _ _ _))) | quiet_step ((go_at_call 44; exact regrown_same (cmpInt_any _ _ _))))
  refine wpQuiet_nil ?_
  intro _ hwq1
  obtain ⟨⟨q1, o1⟩, hwq1⟩ := hwq1
  subst hwq1
  have hb2 := Lib.hid (HB.out.trans ((below_regrown W q1 o1).mono (by rw [← HS.out]; omega)))
  clear c0 c1 c2 c3 d0 d1 d2 d3
  generalize grow (redrawn W q1) o1 = W2 at *
  go_wp2_with (go_at_call 43; refine (cmpOr_any _ 4 4 [_, _, _, _] _ rfl (by omega) (news_ints _ [_, _, _, _] _)).mono ?_; rintro e w' ⟨rfl, rfl⟩)
  go_ret
  exact ⟨rfl, hb2.out.alloc hb2.out.size _⟩
end Go.Proofs.YtkmoaeckabjgnaaDoor.V
