/-
  The walks of ranks.rank and its counting closure.
-/
import Derived.Test.YtkmoaeckabjgnaaDoorKDiff
import Derived.Laws.EntriesVeiled
namespace Go.Proofs.YtkmoaeckabjgnaaDoor.V
set_option linter.unusedVariables false
set_option linter.unusedSimpArgs false
open Go Go.RowKit Go.Sort

set_option maxHeartbeats 2000000 in
theorem countV_any (g h b3 b4 : Nat) (vr vo : Value) (xs : List Rcd) (on : List Bool) (x : Rcd) (rA1 : Option Addr) (rn1 rc1 : Nat) (rA2 : Option Addr) (rn2 rc2 : Nat) (rA3 : Option Addr) (rn3 rc3 : Nat) (rA4 : Option Addr) (rn4 rc4 : Nat) (rA5 : Option Addr) (rn5 rc5 : Nat) (B : Nat) (w : World)
    (hx : IsRcds w (Lt B) vr xs) (ho : IsBools w (Lt B) vo on) (hB : B ≤ w.heap.size) (hl : on.length = xs.length) (hcap : xs.length ≤ 100000)
    (hb3 : Blk w b3 22 #[vr]) (hb4 : Blk w b4 23 #[vo]) (hg : Blk w g 37 #[.string x.chan, .string x.file, .string x.name, .string x.text, .int .i64 x.ver.epoch, .slice rA1 rn1 rc1, .slice rA2 rn2 rc2, .string x.build, .int .i64 x.num, .int .i64 x.time, .slice rA3 rn3 rc3, .slice rA4 rn4 rc4, .slice rA5 rn5 rc5]) (hh : Blk w h 79 #[.func (.func 49) #[] #[.pointer (some ⟨g, 0, none⟩)]]) (hr : RecOf w (Lt B) x (.slice rA1 rn1 rc1) (.slice rA2 rn2 rc2) (.slice rA3 rn3 rc3) (.slice rA4 rn4 rc4) (.slice rA5 rn5 rc5)) :
    Calls Tryd.prog 54 #[.func (.func 51) #[] #[.pointer (some ⟨g, 0, none⟩)], .func (.func 56) #[] #[], .pointer (some ⟨b3, 0, none⟩), .pointer (some ⟨b4, 0, none⟩), .pointer (some ⟨g, 0, none⟩)] w fun e w' => e = .returned (.int .i64 (diffL xs on x.name (newer x) verE)) ∧ Below w.heap.size w w' := by
  have HX := Lib.hid hx
  have HO := Lib.hid ho
  have HG := Lib.hid hg
  have HH := Lib.hid hh
  have HR := Lib.hid hr
  have t0 := hb3.cell 0
  have t1 := hb4.cell 0
  have t2 := hg.cell 2
  have l3 := hb3.lt
  have l4 := hb4.lt
  have l5 := hg.lt
  clear hx ho hg hh hr hb3 hb4
  go_enter Tryd.func54, Tryd.ntmps54
  go_wp2_with fail
  refine (diffV_any g h (newer x) verE vr vo xs on x.name B w HX.out HO.out hB hl hcap (fun w' v y hb hv => newer_any v y x g _ _ _ _ _ _ _ _ _ _ _ _ _ _ _ B w' hv (HG.out.belowSelf hb) (HR.out.keep (Nat.le_refl _) ((Same.of_below hb).mono hB)) (Nat.le_trans hB hb.size)) (fun w' v u y z hb hv hu => eqV_any v u y z B w' hv hu (Nat.le_trans hB hb.size))).mono ?_
  rintro e w2 ⟨rfl, hb2⟩
  have HY := Lib.hid hb2
  clear hb2
  go_wp2_with fail
  go_ret
  exact ⟨rfl, HY.out⟩
set_option maxHeartbeats 2000000 in
theorem countN_any (g h b3 b4 : Nat) (vr vo : Value) (xs : List Rcd) (on : List Bool) (x : Rcd) (rA1 : Option Addr) (rn1 rc1 : Nat) (rA2 : Option Addr) (rn2 rc2 : Nat) (rA3 : Option Addr) (rn3 rc3 : Nat) (rA4 : Option Addr) (rn4 rc4 : Nat) (rA5 : Option Addr) (rn5 rc5 : Nat) (B : Nat) (w : World)
    (hx : IsRcds w (Lt B) vr xs) (ho : IsBools w (Lt B) vo on) (hB : B ≤ w.heap.size) (hl : on.length = xs.length) (hcap : xs.length ≤ 100000)
    (hb3 : Blk w b3 22 #[vr]) (hb4 : Blk w b4 23 #[vo]) (hg : Blk w g 37 #[.string x.chan, .string x.file, .string x.name, .string x.text, .int .i64 x.ver.epoch, .slice rA1 rn1 rc1, .slice rA2 rn2 rc2, .string x.build, .int .i64 x.num, .int .i64 x.time, .slice rA3 rn3 rc3, .slice rA4 rn4 rc4, .slice rA5 rn5 rc5]) (hh : Blk w h 79 #[.func (.func 49) #[] #[.pointer (some ⟨g, 0, none⟩)]]) (hr : RecOf w (Lt B) x (.slice rA1 rn1 rc1) (.slice rA2 rn2 rc2) (.slice rA3 rn3 rc3) (.slice rA4 rn4 rc4) (.slice rA5 rn5 rc5)) :
    Calls Tryd.prog 54 #[.func (.func 52) #[] #[.pointer (some ⟨g, 0, none⟩), .pointer (some ⟨h, 0, none⟩)], .func (.func 57) #[] #[], .pointer (some ⟨b3, 0, none⟩), .pointer (some ⟨b4, 0, none⟩), .pointer (some ⟨g, 0, none⟩)] w fun e w' => e = .returned (.int .i64 (diffL xs on x.name (greater x) eqNum)) ∧ Below w.heap.size w w' := by
  have HX := Lib.hid hx
  have HO := Lib.hid ho
  have HG := Lib.hid hg
  have HH := Lib.hid hh
  have HR := Lib.hid hr
  have t0 := hb3.cell 0
  have t1 := hb4.cell 0
  have t2 := hg.cell 2
  have l3 := hb3.lt
  have l4 := hb4.lt
  have l5 := hg.lt
  clear hx ho hg hh hr hb3 hb4
  go_enter Tryd.func54, Tryd.ntmps54
  go_wp2_with fail
  refine (diffN_any g h (greater x) eqNum vr vo xs on x.name B w HX.out HO.out hB hl hcap (fun w' v y hb hv => greater_any v y x g h _ _ _ _ _ _ _ _ _ _ _ _ _ _ _ B w' hv (HG.out.belowSelf hb) (HH.out.belowSelf hb) (HR.out.keep (Nat.le_refl _) ((Same.of_below hb).mono hB)) (Nat.le_trans hB hb.size)) (fun w' v u y z hb hv hu => eqN_any v u y z B w' hv hu (Nat.le_trans hB hb.size))).mono ?_
  rintro e w2 ⟨rfl, hb2⟩
  have HY := Lib.hid hb2
  clear hb2
  go_wp2_with fail
  go_ret
  exact ⟨rfl, HY.out⟩
set_option maxHeartbeats 2000000 in
theorem countT_any (g h b3 b4 : Nat) (vr vo : Value) (xs : List Rcd) (on : List Bool) (x : Rcd) (rA1 : Option Addr) (rn1 rc1 : Nat) (rA2 : Option Addr) (rn2 rc2 : Nat) (rA3 : Option Addr) (rn3 rc3 : Nat) (rA4 : Option Addr) (rn4 rc4 : Nat) (rA5 : Option Addr) (rn5 rc5 : Nat) (B : Nat) (w : World)
    (hx : IsRcds w (Lt B) vr xs) (ho : IsBools w (Lt B) vo on) (hB : B ≤ w.heap.size) (hl : on.length = xs.length) (hcap : xs.length ≤ 100000)
    (hb3 : Blk w b3 22 #[vr]) (hb4 : Blk w b4 23 #[vo]) (hg : Blk w g 37 #[.string x.chan, .string x.file, .string x.name, .string x.text, .int .i64 x.ver.epoch, .slice rA1 rn1 rc1, .slice rA2 rn2 rc2, .string x.build, .int .i64 x.num, .int .i64 x.time, .slice rA3 rn3 rc3, .slice rA4 rn4 rc4, .slice rA5 rn5 rc5]) (hh : Blk w h 79 #[.func (.func 49) #[] #[.pointer (some ⟨g, 0, none⟩)]]) (hr : RecOf w (Lt B) x (.slice rA1 rn1 rc1) (.slice rA2 rn2 rc2) (.slice rA3 rn3 rc3) (.slice rA4 rn4 rc4) (.slice rA5 rn5 rc5)) :
    Calls Tryd.prog 54 #[.func (.func 53) #[] #[.pointer (some ⟨g, 0, none⟩), .pointer (some ⟨h, 0, none⟩)], .func (.func 58) #[] #[], .pointer (some ⟨b3, 0, none⟩), .pointer (some ⟨b4, 0, none⟩), .pointer (some ⟨g, 0, none⟩)] w fun e w' => e = .returned (.int .i64 (diffL xs on x.name (later x) eqTime)) ∧ Below w.heap.size w w' := by
  have HX := Lib.hid hx
  have HO := Lib.hid ho
  have HG := Lib.hid hg
  have HH := Lib.hid hh
  have HR := Lib.hid hr
  have t0 := hb3.cell 0
  have t1 := hb4.cell 0
  have t2 := hg.cell 2
  have l3 := hb3.lt
  have l4 := hb4.lt
  have l5 := hg.lt
  clear hx ho hg hh hr hb3 hb4
  go_enter Tryd.func54, Tryd.ntmps54
  go_wp2_with fail
  refine (diffT_any g h (later x) eqTime vr vo xs on x.name B w HX.out HO.out hB hl hcap (fun w' v y hb hv => later_any v y x g h _ _ _ _ _ _ _ _ _ _ _ _ _ _ _ B w' hv (HG.out.belowSelf hb) (HH.out.belowSelf hb) (HR.out.keep (Nat.le_refl _) ((Same.of_below hb).mono hB)) (Nat.le_trans hB hb.size)) (fun w' v u y z hb hv hu => eqT_any v u y z B w' hv hu (Nat.le_trans hB hb.size))).mono ?_
  rintro e w2 ⟨rfl, hb2⟩
  have HY := Lib.hid hb2
  clear hb2
  go_wp2_with fail
  go_ret
  exact ⟨rfl, HY.out⟩

theorem size_alloc (w : World) (o : Obj) : (w.alloc o).heap.size = w.heap.size + 1 := by simp
set_option maxHeartbeats 8000000 in
set_option maxRecDepth 100000 in
theorem rank_any (vr vo vx : Value) (xs : List Rcd) (on : List Bool) (x : Rcd) (B : Nat) (w : World)
    (hx : IsRcds w (Lt B) vr xs) (ho : IsBools w (Lt B) vo on) (hv : IsRcd w (Lt B) vx x) (hB : B ≤ w.heap.size) (hl : on.length = xs.length) (hcap : xs.length ≤ 100000) :
    Calls Tryd.prog 36 #[vr, vo, vx] w fun e w' => e = .returned (.agg #[.int .i64 (rankV xs on x), .int .i64 (rankN xs on x), .int .i64 0, .int .i64 (rankT xs on x)]) ∧ Below w.heap.size w w' := by
  have HX := Lib.hid hx
  obtain ⟨rA1, rn1, rc1, rA2, rn2, rc2, rA3, rn3, rc3, rA4, rn4, rc4, rA5, rn5, rc5, rfl, hr⟩ := hv.cells
  obtain ⟨XA, xc, rfl, hxl, hxc⟩ := hx.form
  obtain ⟨OA, oc, rfl, hol, hoc⟩ := ho.form
  rw [hl] at ho ⊢
  have HO := Lib.hid ho
  have HR := Lib.hid hr
  clear hx ho hv hr
  obtain ⟨W0, HW0⟩ : ∃ W0 : World, Hid ((((((w.alloc (.cells #[.slice XA xs.length xc] 22)).alloc (.cells #[.slice OA xs.length oc] 23)).alloc (.cells #[.string x.chan, .string x.file, .string x.name, .string x.text, .int .i64 x.ver.epoch, .slice rA1 rn1 rc1, .slice rA2 rn2 rc2, .string x.build, .int .i64 x.num, .int .i64 x.time, .slice rA3 rn3 rc3, .slice rA4 rn4 rc4, .slice rA5 rn5 rc5] 37)).alloc (.cells #[.int .i64 0, .int .i64 0, .int .i64 0, .int .i64 0] 40)).alloc (.cells #[.func (.func 49) #[] #[.pointer (some ⟨w.heap.size + 1 + 1, 0, none⟩)]] 79)) = W0) := ⟨_, Lib.hid rfl⟩
  have HK0 : Hid (Blk W0 w.heap.size 22 #[.slice XA xs.length xc]) := Lib.hid (HW0.out ▸ ((((Blk.new w _ _).alloc _).alloc _).alloc _).alloc _)
  have HK1 : Hid (Blk W0 (w.heap.size + 1) 23 #[.slice OA xs.length oc]) := Lib.hid (HW0.out ▸ (by
    have h := (((Blk.new (w.alloc (.cells #[.slice XA xs.length xc] 22)) 23 #[.slice OA xs.length oc]).alloc (.cells #[.string x.chan, .string x.file, .string x.name, .string x.text, .int .i64 x.ver.epoch, .slice rA1 rn1 rc1, .slice rA2 rn2 rc2, .string x.build, .int .i64 x.num, .int .i64 x.time, .slice rA3 rn3 rc3, .slice rA4 rn4 rc4, .slice rA5 rn5 rc5] 37)).alloc (.cells #[.int .i64 0, .int .i64 0, .int .i64 0, .int .i64 0] 40)).alloc (.cells #[.func (.func 49) #[] #[.pointer (some ⟨w.heap.size + 1 + 1, 0, none⟩)]] 79)
    rw [size_alloc] at h
    exact h))
  have HK2 : Hid (Blk W0 (w.heap.size + 1 + 1) 37 #[.string x.chan, .string x.file, .string x.name, .string x.text, .int .i64 x.ver.epoch, .slice rA1 rn1 rc1, .slice rA2 rn2 rc2, .string x.build, .int .i64 x.num, .int .i64 x.time, .slice rA3 rn3 rc3, .slice rA4 rn4 rc4, .slice rA5 rn5 rc5]) := Lib.hid (HW0.out ▸ (by
    have h := ((Blk.new ((w.alloc (.cells #[.slice XA xs.length xc] 22)).alloc (.cells #[.slice OA xs.length oc] 23)) 37 #[.string x.chan, .string x.file, .string x.name, .string x.text, .int .i64 x.ver.epoch, .slice rA1 rn1 rc1, .slice rA2 rn2 rc2, .string x.build, .int .i64 x.num, .int .i64 x.time, .slice rA3 rn3 rc3, .slice rA4 rn4 rc4, .slice rA5 rn5 rc5]).alloc (.cells #[.int .i64 0, .int .i64 0, .int .i64 0, .int .i64 0] 40)).alloc (.cells #[.func (.func 49) #[] #[.pointer (some ⟨w.heap.size + 1 + 1, 0, none⟩)]] 79)
    rw [size_alloc, size_alloc] at h
    exact h))
  have HK3 : Hid (Blk W0 (w.heap.size + 1 + 1 + 1) 40 #[.int .i64 0, .int .i64 0, .int .i64 0, .int .i64 0]) := Lib.hid (HW0.out ▸ (by
    have h := (Blk.new (((w.alloc (.cells #[.slice XA xs.length xc] 22)).alloc (.cells #[.slice OA xs.length oc] 23)).alloc (.cells #[.string x.chan, .string x.file, .string x.name, .string x.text, .int .i64 x.ver.epoch, .slice rA1 rn1 rc1, .slice rA2 rn2 rc2, .string x.build, .int .i64 x.num, .int .i64 x.time, .slice rA3 rn3 rc3, .slice rA4 rn4 rc4, .slice rA5 rn5 rc5] 37)) 40 #[.int .i64 0, .int .i64 0, .int .i64 0, .int .i64 0]).alloc (.cells #[.func (.func 49) #[] #[.pointer (some ⟨w.heap.size + 1 + 1, 0, none⟩)]] 79)
    rw [size_alloc, size_alloc, size_alloc] at h
    exact h))
  have HK4 : Hid (Blk W0 (w.heap.size + 1 + 1 + 1 + 1) 79 #[.func (.func 49) #[] #[.pointer (some ⟨w.heap.size + 1 + 1, 0, none⟩)]]) := Lib.hid (HW0.out ▸ (by
    have h := Blk.new ((((w.alloc (.cells #[.slice XA xs.length xc] 22)).alloc (.cells #[.slice OA xs.length oc] 23)).alloc (.cells #[.string x.chan, .string x.file, .string x.name, .string x.text, .int .i64 x.ver.epoch, .slice rA1 rn1 rc1, .slice rA2 rn2 rc2, .string x.build, .int .i64 x.num, .int .i64 x.time, .slice rA3 rn3 rc3, .slice rA4 rn4 rc4, .slice rA5 rn5 rc5] 37)).alloc (.cells #[.int .i64 0, .int .i64 0, .int .i64 0, .int .i64 0] 40)) 79 #[.func (.func 49) #[] #[.pointer (some ⟨w.heap.size + 1 + 1, 0, none⟩)]]
    rw [size_alloc, size_alloc, size_alloc, size_alloc] at h
    exact h))
  have HB0 : Hid (Below w.heap.size w W0) := Lib.hid (HW0.out ▸ ((((((Below.refl _ _).alloc (Nat.le_refl _) _).alloc (by simp) _).alloc (by simp; omega) _).alloc (by simp; omega) _).alloc (by simp; omega) _))
  have HS0 := Lib.hid ((Same.of_below HB0.out).mono hB)
  have HX0 := Lib.hid (HX.out.keep keepsRcd hB HS0.out)
  have HO0 := Lib.hid (HO.out.keep keepsBool hB HS0.out)
  have HR0 := Lib.hid (HR.out.keep hB HS0.out)
  have HL := Lib.hid hl
  clear hl hol
  go_enter Tryd.func36, Tryd.ntmps36
  go_wp2_with fail
  rw [HW0.out]
  refine (countV_any (w.heap.size + 1 + 1) (w.heap.size + 1 + 1 + 1 + 1) w.heap.size (w.heap.size + 1) _ _ xs on x _ _ _ _ _ _ _ _ _ _ _ _ _ _ _ w.heap.size W0 HX0.out HO0.out HB0.out.size HL.out hcap HK0.out HK1.out HK2.out HK4.out HR0.out).mono ?_
  rintro e W1 ⟨rfl, hb⟩
  have HB1 := Lib.hid (HB0.out.trans (hb.mono HB0.out.size))
  have HX1 := Lib.hid (HX0.out.keep keepsRcd (Nat.le_refl _) ((Same.of_below hb).mono HB0.out.size))
  have HO1 := Lib.hid (HO0.out.keep keepsBool (Nat.le_refl _) ((Same.of_below hb).mono HB0.out.size))
  have HR1 := Lib.hid (HR0.out.keep (Nat.le_refl _) ((Same.of_below hb).mono HB0.out.size))
  replace HK0 := Lib.hid (HK0.out.belowSelf hb)
  replace HK1 := Lib.hid (HK1.out.belowSelf hb)
  replace HK2 := Lib.hid (HK2.out.belowSelf hb)
  replace HK3 := Lib.hid (HK3.out.belowSelf hb)
  replace HK4 := Lib.hid (HK4.out.belowSelf hb)
  clear hb
  have c0 := HK3.out.cell 0
  have c1 := HK3.out.cell 1
  have c2 := HK3.out.cell 2
  have c3 := HK3.out.cell 3
  have f0 := HK3.out.frozen 0
  have f1 := HK3.out.frozen 1
  have f2 := HK3.out.frozen 2
  have f3 := HK3.out.frozen 3
  go_wp2_with fail
  clear c0 c1 c2 c3 f0 f1 f2 f3
  refine (countN_any (w.heap.size + 1 + 1) (w.heap.size + 1 + 1 + 1 + 1) w.heap.size (w.heap.size + 1) _ _ xs on x _ _ _ _ _ _ _ _ _ _ _ _ _ _ _ w.heap.size W1 HX1.out HO1.out HB1.out.size HL.out hcap HK0.out HK1.out HK2.out HK4.out HR1.out).mono ?_
  rintro e W2 ⟨rfl, hb⟩
  have HB2 := Lib.hid (HB1.out.trans (hb.mono HB1.out.size))
  have HX2 := Lib.hid (HX1.out.keep keepsRcd (Nat.le_refl _) ((Same.of_below hb).mono HB1.out.size))
  have HO2 := Lib.hid (HO1.out.keep keepsBool (Nat.le_refl _) ((Same.of_below hb).mono HB1.out.size))
  have HR2 := Lib.hid (HR1.out.keep (Nat.le_refl _) ((Same.of_below hb).mono HB1.out.size))
  replace HK0 := Lib.hid (HK0.out.belowSelf hb)
  replace HK1 := Lib.hid (HK1.out.belowSelf hb)
  replace HK2 := Lib.hid (HK2.out.belowSelf hb)
  replace HK3 := Lib.hid (HK3.out.belowSelf hb)
  replace HK4 := Lib.hid (HK4.out.belowSelf hb)
  clear hb
  have c0 := HK3.out.cell 0
  have c1 := HK3.out.cell 1
  have c2 := HK3.out.cell 2
  have c3 := HK3.out.cell 3
  have f0 := HK3.out.frozen 0
  have f1 := HK3.out.frozen 1
  have f2 := HK3.out.frozen 2
  have f3 := HK3.out.frozen 3
  go_wp2_with fail
  clear c0 c1 c2 c3 f0 f1 f2 f3
  refine (countT_any (w.heap.size + 1 + 1) (w.heap.size + 1 + 1 + 1 + 1) w.heap.size (w.heap.size + 1) _ _ xs on x _ _ _ _ _ _ _ _ _ _ _ _ _ _ _ w.heap.size W2 HX2.out HO2.out HB2.out.size HL.out hcap HK0.out HK1.out HK2.out HK4.out HR2.out).mono ?_
  rintro e W3 ⟨rfl, hb⟩
  have HB3 := Lib.hid (HB2.out.trans (hb.mono HB2.out.size))
  have HX3 := Lib.hid (HX2.out.keep keepsRcd (Nat.le_refl _) ((Same.of_below hb).mono HB2.out.size))
  have HO3 := Lib.hid (HO2.out.keep keepsBool (Nat.le_refl _) ((Same.of_below hb).mono HB2.out.size))
  have HR3 := Lib.hid (HR2.out.keep (Nat.le_refl _) ((Same.of_below hb).mono HB2.out.size))
  replace HK0 := Lib.hid (HK0.out.belowSelf hb)
  replace HK1 := Lib.hid (HK1.out.belowSelf hb)
  replace HK2 := Lib.hid (HK2.out.belowSelf hb)
  replace HK3 := Lib.hid (HK3.out.belowSelf hb)
  replace HK4 := Lib.hid (HK4.out.belowSelf hb)
  clear hb
  have c0 := HK3.out.cell 0
  have c1 := HK3.out.cell 1
  have c2 := HK3.out.cell 2
  have c3 := HK3.out.cell 3
  have f0 := HK3.out.frozen 0
  have f1 := HK3.out.frozen 1
  have f2 := HK3.out.frozen 2
  have f3 := HK3.out.frozen 3
  go_wp2_with fail
  clear c0 c1 c2 c3 f0 f1 f2 f3
  have HKF := Lib.hid ((((HK3.out.set_ 0 (.int .i64 (diffL xs on x.name (newer x) verE))).set_ 1 (.int .i64 (diffL xs on x.name (greater x) eqNum))).set_ 2 (.int .i64 0)).set_ 3 (.int .i64 (diffL xs on x.name (later x) eqTime)))
  refine bodyPost_ret (results_cell_row Tryd.results36 _ _ (w.heap.size + 1 + 1 + 1) 40 _ (0, 0) _ rfl HKF.out Tryd.underlying40 rfl (by kernel_rfl)) rfl ⟨by simp [rankV, rankN, rankT], ?_⟩
  exact (((HB3.out.setCell (by simp; omega) _).setCell (by simp; omega) _).setCell (by simp; omega) _).setCell (by simp; omega) _
end Go.Proofs.YtkmoaeckabjgnaaDoor.V
