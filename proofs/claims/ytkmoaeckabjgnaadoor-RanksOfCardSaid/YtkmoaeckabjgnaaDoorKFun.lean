/-
  The walks of the closures of ranks.rank.
-/
import Derived.Test.YtkmoaeckabjgnaaDoorKRank
import Derived.Test.YtkmoaeckabjgnaaDoorKRead
import Derived.Test.YtkmoaeckabjgnaaDoorCmp5
import Derived.Test.YtkmoaeckabjgnaaDoorBlk
namespace Go.Proofs.YtkmoaeckabjgnaaDoor.V
set_option linter.unusedVariables false
set_option linter.unusedSimpArgs false
open Go Go.RowKit Go.Sort

/-- A record by value: its cells. -/
theorem IsRcd.cells {w : World} {ok : Nat → Prop} {v : Value} {x : Rcd} (h : IsRcd w ok v x) :
    ∃ A1 n1 c1 A2 n2 c2 A3 n3 c3 A4 n4 c4 A5 n5 c5, v = .agg #[.string x.chan, .string x.file, .string x.name, .string x.text, .int .i64 x.ver.epoch, .slice A1 n1 c1, .slice A2 n2 c2, .string x.build, .int .i64 x.num, .int .i64 x.time, .slice A3 n3 c3, .slice A4 n4 c4, .slice A5 n5 c5] ∧
      RecOf w ok x (.slice A1 n1 c1) (.slice A2 n2 c2) (.slice A3 n3 c3) (.slice A4 n4 c4) (.slice A5 n5 c5) := by
  obtain ⟨p, l, d, c, f, rfl, hr⟩ := h
  obtain ⟨A1, c1, A2, c2, A3, c3, A4, c4, A5, c5, rfl, rfl, rfl, rfl, rfl⟩ := hr.form
  exact ⟨A1, _, c1, A2, _, c2, A3, _, c3, A4, _, c4, A5, _, c5, rfl, hr⟩
theorem news_two (w : World) (o p : Obj) : Below w.heap.size w ((w.alloc o).alloc p) := ((Below.refl _ _).alloc (Nat.le_refl _) _).alloc (by simp) _

set_option maxHeartbeats 2000000 in
theorem eqV_any (va vb : Value) (x y : Rcd) (B : Nat) (w : World) (ha : IsRcd w (Lt B) va x) (hb : IsRcd w (Lt B) vb y) (hB : B ≤ w.heap.size) :
    Calls Tryd.prog 56 #[va, vb] w fun e w' => e = .returned (.bool (verE x y)) ∧ Below w.heap.size w w' := by
  obtain ⟨aA1, an1, ac1, aA2, an2, ac2, aA3, an3, ac3, aA4, an4, ac4, aA5, an5, ac5, rfl, hra⟩ := ha.cells
  obtain ⟨bA1, bn1, bc1, bA2, bn2, bc2, bA3, bn3, bc3, bA4, bn4, bc4, bA5, bn5, bc5, rfl, hrb⟩ := hb.cells
  have HX := Lib.hid (news_two w (.cells #[.string x.chan, .string x.file, .string x.name, .string x.text, .int .i64 x.ver.epoch, .slice aA1 an1 ac1, .slice aA2 an2 ac2, .string x.build, .int .i64 x.num, .int .i64 x.time, .slice aA3 an3 ac3, .slice aA4 an4 ac4, .slice aA5 an5 ac5] 37) (.cells #[.string y.chan, .string y.file, .string y.name, .string y.text, .int .i64 y.ver.epoch, .slice bA1 bn1 bc1, .slice bA2 bn2 bc2, .string y.build, .int .i64 y.num, .int .i64 y.time, .slice bA3 bn3 bc3, .slice bA4 bn4 bc4, .slice bA5 bn5 bc5] 37))
  have HA := Lib.hid (hra.keep hB ((Same.of_below HX.out).mono hB))
  have HB := Lib.hid (hrb.keep hB ((Same.of_below HX.out).mono hB))
  clear hra hrb ha hb
  go_enter Tryd.func56, Tryd.ntmps56
  go_wp2_with fail
  refine (Compare_any _ _ x.ver y.ver w.heap.size _ HA.out.ver HB.out.ver HX.out.size).mono ?_
  rintro e w2 ⟨rfl, hb2⟩
  have HY := Lib.hid (HX.out.trans (hb2.mono HX.out.size))
  clear hb2
  go_wp2_with fail
  go_ret
  exact ⟨ret_bool (by rfl), HY.out⟩
set_option maxHeartbeats 2000000 in
theorem eqN_any (va vb : Value) (x y : Rcd) (B : Nat) (w : World) (ha : IsRcd w (Lt B) va x) (hb : IsRcd w (Lt B) vb y) (hB : B ≤ w.heap.size) :
    Calls Tryd.prog 57 #[va, vb] w fun e w' => e = .returned (.bool (eqNum x y)) ∧ Below w.heap.size w w' := by
  obtain ⟨aA1, an1, ac1, aA2, an2, ac2, aA3, an3, ac3, aA4, an4, ac4, aA5, an5, ac5, rfl, hra⟩ := ha.cells
  obtain ⟨bA1, bn1, bc1, bA2, bn2, bc2, bA3, bn3, bc3, bA4, bn4, bc4, bA5, bn5, bc5, rfl, hrb⟩ := hb.cells
  have HX := Lib.hid (news_two w (.cells #[.string x.chan, .string x.file, .string x.name, .string x.text, .int .i64 x.ver.epoch, .slice aA1 an1 ac1, .slice aA2 an2 ac2, .string x.build, .int .i64 x.num, .int .i64 x.time, .slice aA3 an3 ac3, .slice aA4 an4 ac4, .slice aA5 an5 ac5] 37) (.cells #[.string y.chan, .string y.file, .string y.name, .string y.text, .int .i64 y.ver.epoch, .slice bA1 bn1 bc1, .slice bA2 bn2 bc2, .string y.build, .int .i64 y.num, .int .i64 y.time, .slice bA3 bn3 bc3, .slice bA4 bn4 bc4, .slice bA5 bn5 bc5] 37))
  clear hra hrb ha hb
  go_enter Tryd.func57, Tryd.ntmps57
  go_wp2_with fail
  go_ret
  exact ⟨ret_bool (by rfl), HX.out⟩
set_option maxHeartbeats 2000000 in
theorem eqT_any (va vb : Value) (x y : Rcd) (B : Nat) (w : World) (ha : IsRcd w (Lt B) va x) (hb : IsRcd w (Lt B) vb y) (hB : B ≤ w.heap.size) :
    Calls Tryd.prog 58 #[va, vb] w fun e w' => e = .returned (.bool (eqTime x y)) ∧ Below w.heap.size w w' := by
  obtain ⟨aA1, an1, ac1, aA2, an2, ac2, aA3, an3, ac3, aA4, an4, ac4, aA5, an5, ac5, rfl, hra⟩ := ha.cells
  obtain ⟨bA1, bn1, bc1, bA2, bn2, bc2, bA3, bn3, bc3, bA4, bn4, bc4, bA5, bn5, bc5, rfl, hrb⟩ := hb.cells
  have HX := Lib.hid (news_two w (.cells #[.string x.chan, .string x.file, .string x.name, .string x.text, .int .i64 x.ver.epoch, .slice aA1 an1 ac1, .slice aA2 an2 ac2, .string x.build, .int .i64 x.num, .int .i64 x.time, .slice aA3 an3 ac3, .slice aA4 an4 ac4, .slice aA5 an5 ac5] 37) (.cells #[.string y.chan, .string y.file, .string y.name, .string y.text, .int .i64 y.ver.epoch, .slice bA1 bn1 bc1, .slice bA2 bn2 bc2, .string y.build, .int .i64 y.num, .int .i64 y.time, .slice bA3 bn3 bc3, .slice bA4 bn4 bc4, .slice bA5 bn5 bc5] 37))
  clear hra hrb ha hb
  go_enter Tryd.func58, Tryd.ntmps58
  go_wp2_with fail
  go_ret
  exact ⟨ret_bool (by rfl), HX.out⟩

set_option maxHeartbeats 2000000 in
theorem same_any (va : Value) (y x : Rcd) (g : Nat) (rA1 : Option Addr) (rn1 rc1 : Nat) (rA2 : Option Addr) (rn2 rc2 : Nat) (rA3 : Option Addr) (rn3 rc3 : Nat) (rA4 : Option Addr) (rn4 rc4 : Nat) (rA5 : Option Addr) (rn5 rc5 : Nat) (B : Nat) (w : World) (ha : IsRcd w (Lt B) va y) (hg : Blk w g 37 #[.string x.chan, .string x.file, .string x.name, .string x.text, .int .i64 x.ver.epoch, .slice rA1 rn1 rc1, .slice rA2 rn2 rc2, .string x.build, .int .i64 x.num, .int .i64 x.time, .slice rA3 rn3 rc3, .slice rA4 rn4 rc4, .slice rA5 rn5 rc5]) (hr : RecOf w (Lt B) x (.slice rA1 rn1 rc1) (.slice rA2 rn2 rc2) (.slice rA3 rn3 rc3) (.slice rA4 rn4 rc4) (.slice rA5 rn5 rc5)) (hB : B ≤ w.heap.size) :
    Calls Tryd.prog 49 #[va, .pointer (some ⟨g, 0, none⟩)] w fun e w' => e = .returned (.bool (verE y x)) ∧ Below w.heap.size w w' := by
  obtain ⟨aA1, an1, ac1, aA2, an2, ac2, aA3, an3, ac3, aA4, an4, ac4, aA5, an5, ac5, rfl, hra⟩ := ha.cells
  have HX := Lib.hid (news_alloc w (.cells #[.string y.chan, .string y.file, .string y.name, .string y.text, .int .i64 y.ver.epoch, .slice aA1 an1 ac1, .slice aA2 an2 ac2, .string y.build, .int .i64 y.num, .int .i64 y.time, .slice aA3 an3 ac3, .slice aA4 an4 ac4, .slice aA5 an5 ac5] 37))
  have HA := Lib.hid (hra.keep hB ((Same.of_below HX.out).mono hB))
  have HR := Lib.hid (hr.keep hB ((Same.of_below HX.out).mono hB))
  have t0 := hg.cell 4
  have t1 := hg.cell 5
  have t2 := hg.cell 6
  have hgl := hg.lt
  clear hra hr ha hg
  go_enter Tryd.func49, Tryd.ntmps49
  go_wp2_with fail
  refine (Compare_any _ _ y.ver x.ver w.heap.size _ HA.out.ver HR.out.ver HX.out.size).mono ?_
  rintro e w2 ⟨rfl, hb2⟩
  have HY := Lib.hid (HX.out.trans (hb2.mono HX.out.size))
  clear hb2
  go_wp2_with fail
  go_ret
  exact ⟨ret_bool (by rfl), HY.out⟩
set_option maxHeartbeats 2000000 in
theorem newer_any (va : Value) (y x : Rcd) (g : Nat) (rA1 : Option Addr) (rn1 rc1 : Nat) (rA2 : Option Addr) (rn2 rc2 : Nat) (rA3 : Option Addr) (rn3 rc3 : Nat) (rA4 : Option Addr) (rn4 rc4 : Nat) (rA5 : Option Addr) (rn5 rc5 : Nat) (B : Nat) (w : World) (ha : IsRcd w (Lt B) va y) (hg : Blk w g 37 #[.string x.chan, .string x.file, .string x.name, .string x.text, .int .i64 x.ver.epoch, .slice rA1 rn1 rc1, .slice rA2 rn2 rc2, .string x.build, .int .i64 x.num, .int .i64 x.time, .slice rA3 rn3 rc3, .slice rA4 rn4 rc4, .slice rA5 rn5 rc5]) (hr : RecOf w (Lt B) x (.slice rA1 rn1 rc1) (.slice rA2 rn2 rc2) (.slice rA3 rn3 rc3) (.slice rA4 rn4 rc4) (.slice rA5 rn5 rc5)) (hB : B ≤ w.heap.size) :
    Calls Tryd.prog 51 #[va, .pointer (some ⟨g, 0, none⟩)] w fun e w' => e = .returned (.bool (newer x y)) ∧ Below w.heap.size w w' := by
  obtain ⟨aA1, an1, ac1, aA2, an2, ac2, aA3, an3, ac3, aA4, an4, ac4, aA5, an5, ac5, rfl, hra⟩ := ha.cells
  have HX := Lib.hid (news_alloc w (.cells #[.string y.chan, .string y.file, .string y.name, .string y.text, .int .i64 y.ver.epoch, .slice aA1 an1 ac1, .slice aA2 an2 ac2, .string y.build, .int .i64 y.num, .int .i64 y.time, .slice aA3 an3 ac3, .slice aA4 an4 ac4, .slice aA5 an5 ac5] 37))
  have HA := Lib.hid (hra.keep hB ((Same.of_below HX.out).mono hB))
  have HR := Lib.hid (hr.keep hB ((Same.of_below HX.out).mono hB))
  have t0 := hg.cell 4
  have t1 := hg.cell 5
  have t2 := hg.cell 6
  have hgl := hg.lt
  clear hra hr ha hg
  go_enter Tryd.func51, Tryd.ntmps51
  go_wp2_with fail
  refine (Compare_any _ _ y.ver x.ver w.heap.size _ HA.out.ver HR.out.ver HX.out.size).mono ?_
  rintro e w2 ⟨rfl, hb2⟩
  have HY := Lib.hid (HX.out.trans (hb2.mono HX.out.size))
  clear hb2
  go_wp2_with fail
  go_ret
  exact ⟨ret_bool (by rfl), HY.out⟩

set_option maxHeartbeats 2000000 in
theorem greater_any (va : Value) (y x : Rcd) (g h : Nat) (rA1 : Option Addr) (rn1 rc1 : Nat) (rA2 : Option Addr) (rn2 rc2 : Nat) (rA3 : Option Addr) (rn3 rc3 : Nat) (rA4 : Option Addr) (rn4 rc4 : Nat) (rA5 : Option Addr) (rn5 rc5 : Nat) (B : Nat) (w : World) (ha : IsRcd w (Lt B) va y) (hg : Blk w g 37 #[.string x.chan, .string x.file, .string x.name, .string x.text, .int .i64 x.ver.epoch, .slice rA1 rn1 rc1, .slice rA2 rn2 rc2, .string x.build, .int .i64 x.num, .int .i64 x.time, .slice rA3 rn3 rc3, .slice rA4 rn4 rc4, .slice rA5 rn5 rc5]) (hh : Blk w h 79 #[.func (.func 49) #[] #[.pointer (some ⟨g, 0, none⟩)]]) (hr : RecOf w (Lt B) x (.slice rA1 rn1 rc1) (.slice rA2 rn2 rc2) (.slice rA3 rn3 rc3) (.slice rA4 rn4 rc4) (.slice rA5 rn5 rc5)) (hB : B ≤ w.heap.size) :
    Calls Tryd.prog 52 #[va, .pointer (some ⟨g, 0, none⟩), .pointer (some ⟨h, 0, none⟩)] w fun e w' => e = .returned (.bool (greater x y)) ∧ Below w.heap.size w w' := by
  have HVA := Lib.hid ha
  obtain ⟨aA1, an1, ac1, aA2, an2, ac2, aA3, an3, ac3, aA4, an4, ac4, aA5, an5, ac5, rfl, hra⟩ := ha.cells
  have HX := Lib.hid (news_alloc w (.cells #[.string y.chan, .string y.file, .string y.name, .string y.text, .int .i64 y.ver.epoch, .slice aA1 an1 ac1, .slice aA2 an2 ac2, .string y.build, .int .i64 y.num, .int .i64 y.time, .slice aA3 an3 ac3, .slice aA4 an4 ac4, .slice aA5 an5 ac5] 37))
  have HG := Lib.hid (hg.belowSelf HX.out)
  have HR := Lib.hid (hr.keep hB ((Same.of_below HX.out).mono hB))
  have HVA2 := Lib.hid (HVA.out.keep hB ((Same.of_below HX.out).mono hB))
  have t0 := hg.cell 8
  have t1 := hh.cell 0
  have hgl := hg.lt
  have hhl := hh.lt
  clear hra hr ha hg hh
  by_cases hlt : x.num < y.num
  · go_enter Tryd.func52, Tryd.ntmps52
    go_wp2_with fail
    refine (same_any _ y x g _ _ _ _ _ _ _ _ _ _ _ _ _ _ _ w.heap.size _ HVA2.out HG.out HR.out HX.out.size).mono ?_
    rintro e w2 ⟨rfl, hb2⟩
    have HY := Lib.hid (HX.out.trans (hb2.mono HX.out.size))
    clear hb2
    go_wp2_with fail
    go_ret
    exact ⟨ret_bool (by simp [greater, hlt]), HY.out⟩
  · go_enter Tryd.func52, Tryd.ntmps52
    go_wp2_with fail
    go_ret
    exact ⟨ret_bool (by unfold greater; rw [show decide (x.num < y.num) = false from decide_eq_false (by omega)]; rfl), HX.out⟩
set_option maxHeartbeats 2000000 in
theorem later_any (va : Value) (y x : Rcd) (g h : Nat) (rA1 : Option Addr) (rn1 rc1 : Nat) (rA2 : Option Addr) (rn2 rc2 : Nat) (rA3 : Option Addr) (rn3 rc3 : Nat) (rA4 : Option Addr) (rn4 rc4 : Nat) (rA5 : Option Addr) (rn5 rc5 : Nat) (B : Nat) (w : World) (ha : IsRcd w (Lt B) va y) (hg : Blk w g 37 #[.string x.chan, .string x.file, .string x.name, .string x.text, .int .i64 x.ver.epoch, .slice rA1 rn1 rc1, .slice rA2 rn2 rc2, .string x.build, .int .i64 x.num, .int .i64 x.time, .slice rA3 rn3 rc3, .slice rA4 rn4 rc4, .slice rA5 rn5 rc5]) (hh : Blk w h 79 #[.func (.func 49) #[] #[.pointer (some ⟨g, 0, none⟩)]]) (hr : RecOf w (Lt B) x (.slice rA1 rn1 rc1) (.slice rA2 rn2 rc2) (.slice rA3 rn3 rc3) (.slice rA4 rn4 rc4) (.slice rA5 rn5 rc5)) (hB : B ≤ w.heap.size) :
    Calls Tryd.prog 53 #[va, .pointer (some ⟨g, 0, none⟩), .pointer (some ⟨h, 0, none⟩)] w fun e w' => e = .returned (.bool (later x y)) ∧ Below w.heap.size w w' := by
  have HVA := Lib.hid ha
  obtain ⟨aA1, an1, ac1, aA2, an2, ac2, aA3, an3, ac3, aA4, an4, ac4, aA5, an5, ac5, rfl, hra⟩ := ha.cells
  have HX := Lib.hid (news_alloc w (.cells #[.string y.chan, .string y.file, .string y.name, .string y.text, .int .i64 y.ver.epoch, .slice aA1 an1 ac1, .slice aA2 an2 ac2, .string y.build, .int .i64 y.num, .int .i64 y.time, .slice aA3 an3 ac3, .slice aA4 an4 ac4, .slice aA5 an5 ac5] 37))
  have HG := Lib.hid (hg.belowSelf HX.out)
  have HR := Lib.hid (hr.keep hB ((Same.of_below HX.out).mono hB))
  have HVA2 := Lib.hid (HVA.out.keep hB ((Same.of_below HX.out).mono hB))
  have t0 := hg.cell 8
  have t2 := hg.cell 9
  have t1 := hh.cell 0
  have hgl := hg.lt
  have hhl := hh.lt
  clear hra hr ha hg hh
  by_cases hlt : x.time < y.time
  · by_cases hn : y.num = x.num
    · have HN := Lib.hid hn
      have hn1 : (y.num == x.num) = true := by simpa using hn
      clear hn
      go_enter Tryd.func53, Tryd.ntmps53
      go_wp2_with fail
      refine (same_any _ y x g _ _ _ _ _ _ _ _ _ _ _ _ _ _ _ w.heap.size _ HVA2.out HG.out HR.out HX.out.size).mono ?_
      rintro e w2 ⟨rfl, hb2⟩
      have HY := Lib.hid (HX.out.trans (hb2.mono HX.out.size))
      clear hb2
      go_wp2_with fail
      go_ret
      exact ⟨ret_bool (by simp [later, hlt, HN.out]), HY.out⟩
    · have hn1 : (y.num == x.num) = false := by simpa using hn
      go_enter Tryd.func53, Tryd.ntmps53
      go_wp2_with fail
      go_ret
      exact ⟨ret_bool (by simp [later, hlt, hn]), HX.out⟩
  · go_enter Tryd.func53, Tryd.ntmps53
    go_wp2_with fail
    go_ret
    exact ⟨ret_bool (by unfold later; rw [show decide (x.time < y.time) = false from decide_eq_false (by omega)]; rfl), HX.out⟩
end Go.Proofs.YtkmoaeckabjgnaaDoor.V
