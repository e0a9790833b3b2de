/-
  The walks of the document's Big of a record and of all records.
-/
import Derived.Test.YtkmoaeckabjgnaaDoorKRecBig
namespace Go.Proofs.YtkmoaeckabjgnaaDoor.V
set_option linter.unusedVariables false
set_option linter.unusedSimpArgs false
open Go Go.RowKit Go.Sort

set_option maxHeartbeats 16000000 in
set_option maxRecDepth 100000 in
theorem r10Big_any (va : Value) (x : Rcd) (B : Nat) (w : World) (ha : IsRcd w (Lt B) va x) (hB : B ≤ w.heap.size) :
    Calls Tryd.prog 35 #[va] w fun e w' => AnyBool e ∧ Below w.heap.size w w' := by
  have HVA := Lib.hid ha
  obtain ⟨A1, n1, c1, A2, n2, c2, A3, n3, c3, A4, n4, c4, A5, n5, c5, rfl, hra⟩ := ha.cells
  obtain ⟨_, _, hlp, hll, hld, hlc, hlf⟩ := hra
  have HD := Lib.hid hld
  have HC := Lib.hid hlc
  have HF := Lib.hid hlf
  obtain ⟨A3', c3', e3, hl3, _⟩ := hld.form
  obtain ⟨A4', c4', e4, hl4, _⟩ := hlc.form
  obtain ⟨A5', c5', e5, hl5, _⟩ := hlf.form
  injection e3 with e3a e3b e3c
  injection e4 with e4a e4b e4c
  injection e5 with e5a e5b e5c
  subst e3a; subst e3b; subst e3c
  subst e4a; subst e4b; subst e4c
  subst e5a; subst e5b; subst e5c
  have HB0 := Lib.hid (news_alloc w (.cells #[.string x.chan, .string x.file, .string x.name, .string x.text, .int .i64 x.ver.epoch, .slice A1 n1 c1, .slice A2 n2 c2, .string x.build, .int .i64 x.num, .int .i64 x.time, .slice A3 x.deps.length c3, .slice A4 x.cons.length c4, .slice A5 x.feats.length c5] 37))
  have HK0 := Lib.hid (Blk.new w 37 #[.string x.chan, .string x.file, .string x.name, .string x.text, .int .i64 x.ver.epoch, .slice A1 n1 c1, .slice A2 n2 c2, .string x.build, .int .i64 x.num, .int .i64 x.time, .slice A3 x.deps.length c3, .slice A4 x.cons.length c4, .slice A5 x.feats.length c5])
  clear ha hlp hll hld hlc hlf
  go_enter Tryd.func35, Tryd.ntmps35
  go_wp2_with fail
  refine (r09BigRec_any _ x B _ (HVA.out.keep (Nat.le_refl _) ((Same.of_below HB0.out).mono hB)) (by have := HB0.out.size; omega)).mono ?_
  rintro e w1 ⟨⟨bb, rfl⟩, hb⟩
  have HB1 := Lib.hid (HB0.out.trans (hb.mono HB0.out.size))
  have HK1 := Lib.hid (HK0.out.belowSelf hb)
  have HG := Lib.hid (Nat.lt_of_lt_of_le HK0.out.lt hb.size)
  clear hb HB0 HK0
  have t1 := HK1.out.cell 1
  have t3 := HK1.out.cell 3
  have t10 := HK1.out.cell 10
  have t11 := HK1.out.cell 11
  have t12 := HK1.out.cell 12
  cases bb with
  | true =>
    go_wp2_with fail
    go_ret
    exact ⟨AnyBool.mk _, HB1.out⟩
  | false =>
  by_cases h1 : 200 < x.file.size
  · go_wp2_with fail
    go_ret
    exact ⟨AnyBool.mk _, HB1.out⟩
  have dh1 : decide ((200 : Int) < (x.file.size : Int)) = false := decide_eq_false (by omega)
  by_cases h2 : 200 < x.text.size
  · go_wp2_with fail
    go_ret
    exact ⟨AnyBool.mk _, HB1.out⟩
  have dh2 : decide ((200 : Int) < (x.text.size : Int)) = false := decide_eq_false (by omega)
  by_cases h3 : 20 < x.feats.length
  · go_wp2_with fail
    go_ret
    exact ⟨AnyBool.mk _, HB1.out⟩
  have dh3 : decide ((20 : Int) < (x.feats.length : Int)) = false := decide_eq_false (by omega)
  go_wp2_with fail
  refine (Long_any _ x.feats 500 B _ (HF.out.keep keepsStr (Nat.le_refl _) ((Same.of_below HB1.out).mono hB)) rfl).mono ?_
  rintro e w2 ⟨⟨bb, rfl⟩, hb⟩
  have HB2 := Lib.hid (HB1.out.trans (hb.mono HB1.out.size))
  have HK2 := Lib.hid (HK1.out.belowSelf hb)
  have HG2 := Lib.hid (Nat.lt_of_lt_of_le HG.out hb.size)
  clear hb t1 t3 t10 t11 t12
  have t10 := HK2.out.cell 10
  have t11 := HK2.out.cell 11
  cases bb with
  | true =>
    go_wp2_with fail
    go_ret
    exact ⟨AnyBool.mk _, HB2.out⟩
  | false =>
  by_cases h4 : 20 < x.deps.length
  · go_wp2_with fail
    go_ret
    exact ⟨AnyBool.mk _, HB2.out⟩
  have dh4 : decide ((20 : Int) < (x.deps.length : Int)) = false := decide_eq_false (by omega)
  by_cases h5 : 20 < x.cons.length
  · go_wp2_with fail
    go_ret
    exact ⟨AnyBool.mk _, HB2.out⟩
  have dh5 : decide ((20 : Int) < (x.cons.length : Int)) = false := decide_eq_false (by omega)
  go_wp2_with fail
  have HB3 := Lib.hid (HB2.out.trans ((news_alloc w2 (.cells #[.slice A3 x.deps.length c3, .slice A4 x.cons.length c4] 34)).mono HB2.out.size))
  have HK3 := Lib.hid (Blk.new w2 34 #[.slice A3 x.deps.length c3, .slice A4 x.cons.length c4])
  have HZ3 : Hid ((w2.alloc (.cells #[.slice A3 x.deps.length c3, .slice A4 x.cons.length c4] 34)).heap.size = w2.heap.size + 1) := Lib.hid (by simp)
  generalize w2.alloc (.cells #[.slice A3 x.deps.length c3, .slice A4 x.cons.length c4] 34) = W0 at *
  have HSL : Hid (IsSl 1 (R1 5 RSpc) W0 (Lt W0.heap.size) (.slice (some ⟨w2.heap.size, 0, none⟩) 2 2) [x.deps, x.cons]) := Lib.hid (by
    have hs := (Same.of_below HB3.out).mono hB
    exact isSl_two (by show w2.heap.size < W0.heap.size; have := HZ3.out; omega) (HK3.out.cell 0) (HK3.out.cell 1) ⟨_, rfl, HD.out.keep keepsSpc (by have := HB3.out.size; omega) hs⟩ ⟨_, rfl, HC.out.keep keepsSpc (by have := HB3.out.size; omega) hs⟩)
  clear t10 t11
  go_loopw [50] (fun i wr => ∃ k : Nat, k ≤ 2 ∧ i = .int .i64 k ∧ Hid (Below W0.heap.size W0 wr)) (fun i _ => 2 - (intOf i).toNat)
  case atStart => exact ⟨0, Nat.zero_le _, rfl, Lib.hid (Below.refl _ _)⟩
  case round =>
    obtain ⟨k, hk, rfl, HW⟩ := hrel
    by_cases hlt : k < 2
    · have dk : decide ((k : Int) < 2) = true := decide_eq_true (by omega)
      obtain ⟨l, hl⟩ : ∃ l, [x.deps, x.cons][k]? = some l := ⟨_, List.getElem?_eq_getElem hlt⟩
      obtain ⟨b, o, vs, hA, hb, hlen, ⟨u, rfl, hu⟩, hrow⟩ := HSL.out.at_ hl
      obtain ⟨rfl, rfl⟩ : w2.heap.size = b ∧ 0 = o := by injection hA with h; injection h with h1 h2; exact ⟨h1, h2⟩
      obtain ⟨A6, c6, rfl, hl6, hc6⟩ := hu.form
      have HU := Lib.hid hu
      have hr0 : W0.cell? ⟨w2.heap.size, k, none⟩ = some (.slice A6 l.length c6) := by simpa using hrow 0 _ rfl
      have h0 : wr.cell? ⟨w2.heap.size, k, none⟩ = some (.slice A6 l.length c6) := (HW.out.cell hb).trans hr0
      clear hl hA hrow hu hr0
      obtain ⟨wo, hwo⟩ : ∃ wo : World, wo = wr := ⟨_, rfl⟩
      subst hwo
      go_wp2_with fail
      go_loopw [56] (fun i wr => ∃ j : Nat, j ≤ l.length ∧ i = .int .i64 j ∧ Hid (Below W0.heap.size W0 wr)) (fun i _ => l.length - (intOf i).toNat)
      case atStart => exact ⟨0, Nat.zero_le _, rfl, HW⟩
      case round =>
        obtain ⟨j, hj, rfl, HW2⟩ := hrel
        by_cases hjl : j < l.length
        · obtain ⟨s, hs⟩ : ∃ s, l[j]? = some s := ⟨_, List.getElem?_eq_getElem hjl⟩
          obtain ⟨b3, o3, vs3, rfl, hb3, hlen3, ⟨r, rfl, _, _, hr⟩, hrow3⟩ := HU.out.at_ hs
          obtain ⟨A7, c7, rfl, hl7, hc7⟩ := hr.form
          have hb3r : b3 < wr.heap.size := by have := HW2.out.size; have h : b3 < W0.heap.size := hb3; omega
          have g0 : wr.cell? ⟨b3, o3 + j * 5, none⟩ = some (.string s.chan) := (HW2.out.cell hb3).trans (hrow3 0 _ rfl)
          have g1 : wr.cell? ⟨b3, o3 + j * 5 + 1, none⟩ = some (.string s.name) := (HW2.out.cell hb3).trans (hrow3 1 _ rfl)
          have g2 : wr.cell? ⟨b3, o3 + j * 5 + 2, none⟩ = some (.slice A7 s.rows.length c7) := (HW2.out.cell hb3).trans (hrow3 2 _ rfl)
          have g3 : wr.cell? ⟨b3, o3 + j * 5 + 3, none⟩ = some (.string s.build) := (HW2.out.cell hb3).trans (hrow3 3 _ rfl)
          have g4 : wr.cell? ⟨b3, o3 + j * 5 + 4, none⟩ = some (.int .i64 s.num) := (HW2.out.cell hb3).trans (hrow3 4 _ rfl)
          have HX := Lib.hid (HW2.out.trans ((news_alloc wr (.cells #[.string s.chan, .string s.name, .slice A7 s.rows.length c7, .string s.build, .int .i64 s.num] 102)).mono HW2.out.size))
          have HRW := Lib.hid (hr.keep keepsRow (Nat.le_refl _) (Same.of_below HX.out))
          clear hs hr hrow3
          go_wp2_with fail
          refine (r09Big_any _ s W0.heap.size _ HRW.out HX.out.size).mono ?_
          rintro e w5 ⟨⟨bb, rfl⟩, hb5⟩
          have HB5 := Lib.hid (HX.out.trans (hb5.mono HX.out.size))
          clear hb5
          cases bb with
          | true =>
            go_wp2_with fail
            go_ret
            exact ⟨AnyBool.mk _, HB3.out.trans (HB5.out.mono HB3.out.size)⟩
          | false =>
            go_wp2_with fail
            go_roundw
            case rel => exact ⟨j + 1, by omega, by go_num, HB5⟩
            case measure => simp [intOf]; omega
        · obtain rfl : j = l.length := by omega
          go_wp2_with fail
          go_roundw
          case rel => exact ⟨k + 1, by omega, by go_num, HW2⟩
          case measure => simp [intOf]; omega
    · obtain rfl : k = 2 := by omega
      go_wp2_with fail
      go_ret
      exact ⟨AnyBool.mk _, HB3.out.trans (HW.out.mono HB3.out.size)⟩

/-- All records: false alone if they are no more than so many. -/
def BigPost (n : Nat) (most : Int) (e : Ending) : Prop := ∃ b, e = .returned (.bool b) ∧ (b = false → (n : Int) ≤ most)
set_option maxHeartbeats 8000000 in
theorem BigAll_any (va : Value) (xs : List Rcd) (most : Int) (B : Nat) (w : World) (ha : IsRcds w (Lt B) va xs) (hB : B ≤ w.heap.size) :
    Calls Tryd.prog 13 #[va, .int .i64 most] w fun e w' => BigPost xs.length most e ∧ Below w.heap.size w w' := by
  obtain ⟨A, c, rfl, hl, hc⟩ := ha.form
  have HA := Lib.hid ha
  clear ha
  by_cases hm : most < (xs.length : Int)
  · go_enter Tryd.func13, Tryd.ntmps13
    go_wp2_with fail
    go_ret
    exact ⟨⟨true, rfl, fun h => by cases h⟩, Below.refl _ _⟩
  · go_enter Tryd.func13, Tryd.ntmps13
    go_wp2_with fail
    go_loopw [13] (fun i wr => ∃ k : Nat, k ≤ xs.length ∧ i = .int .i64 k ∧ Hid (Below w.heap.size w wr)) (fun i _ => xs.length - (intOf i).toNat)
    case atStart => exact ⟨0, Nat.zero_le _, rfl, Lib.hid (Below.refl _ _)⟩
    case round =>
      obtain ⟨k, hk, rfl, HW⟩ := hrel
      have HSM := Lib.hid ((Same.of_below HW.out).mono hB)
      by_cases hlt : k < xs.length
      · obtain ⟨x, hx⟩ : ∃ x, xs[k]? = some x := ⟨_, List.getElem?_eq_getElem hlt⟩
        obtain ⟨b, o, aA1, an1, ac1, aA2, an2, ac2, aA3, an3, ac3, aA4, an4, ac4, aA5, an5, ac5, rfl, hb, hrec, hrow⟩ := rcds_at HA.out hx
        have hbr : b < wr.heap.size := by have := HW.out.size; have h : b < B := hb; omega
        have q0 : wr.cell? ⟨b, o + k * 13, none⟩ = some (.string x.chan) := (HSM.out _ hb).trans (hrow 0 _ rfl)
        have q1 : wr.cell? ⟨b, o + k * 13 + 1, none⟩ = some (.string x.file) := (HSM.out _ hb).trans (hrow 1 _ rfl)
        have q2 : wr.cell? ⟨b, o + k * 13 + 2, none⟩ = some (.string x.name) := (HSM.out _ hb).trans (hrow 2 _ rfl)
        have q3 : wr.cell? ⟨b, o + k * 13 + 3, none⟩ = some (.string x.text) := (HSM.out _ hb).trans (hrow 3 _ rfl)
        have q4 : wr.cell? ⟨b, o + k * 13 + 4, none⟩ = some (.int .i64 x.ver.epoch) := (HSM.out _ hb).trans (hrow 4 _ rfl)
        have q5 : wr.cell? ⟨b, o + k * 13 + 5, none⟩ = some (.slice aA1 an1 ac1) := (HSM.out _ hb).trans (hrow 5 _ rfl)
        have q6 : wr.cell? ⟨b, o + k * 13 + 6, none⟩ = some (.slice aA2 an2 ac2) := (HSM.out _ hb).trans (hrow 6 _ rfl)
        have q7 : wr.cell? ⟨b, o + k * 13 + 7, none⟩ = some (.string x.build) := (HSM.out _ hb).trans (hrow 7 _ rfl)
        have q8 : wr.cell? ⟨b, o + k * 13 + 8, none⟩ = some (.int .i64 x.num) := (HSM.out _ hb).trans (hrow 8 _ rfl)
        have q9 : wr.cell? ⟨b, o + k * 13 + 9, none⟩ = some (.int .i64 x.time) := (HSM.out _ hb).trans (hrow 9 _ rfl)
        have q10 : wr.cell? ⟨b, o + k * 13 + 10, none⟩ = some (.slice aA3 an3 ac3) := (HSM.out _ hb).trans (hrow 10 _ rfl)
        have q11 : wr.cell? ⟨b, o + k * 13 + 11, none⟩ = some (.slice aA4 an4 ac4) := (HSM.out _ hb).trans (hrow 11 _ rfl)
        have q12 : wr.cell? ⟨b, o + k * 13 + 12, none⟩ = some (.slice aA5 an5 ac5) := (HSM.out _ hb).trans (hrow 12 _ rfl)
        have HX := Lib.hid (HW.out.trans ((news_alloc wr (.cells #[.string x.chan, .string x.file, .string x.name, .string x.text, .int .i64 x.ver.epoch, .slice aA1 an1 ac1, .slice aA2 an2 ac2, .string x.build, .int .i64 x.num, .int .i64 x.time, .slice aA3 an3 ac3, .slice aA4 an4 ac4, .slice aA5 an5 ac5] 37)).mono HW.out.size))
        have HREC : Hid (IsRcd (wr.alloc (.cells #[.string x.chan, .string x.file, .string x.name, .string x.text, .int .i64 x.ver.epoch, .slice aA1 an1 ac1, .slice aA2 an2 ac2, .string x.build, .int .i64 x.num, .int .i64 x.time, .slice aA3 an3 ac3, .slice aA4 an4 ac4, .slice aA5 an5 ac5] 37)) (Lt B) (.agg #[.string x.chan, .string x.file, .string x.name, .string x.text, .int .i64 x.ver.epoch, .slice aA1 an1 ac1, .slice aA2 an2 ac2, .string x.build, .int .i64 x.num, .int .i64 x.time, .slice aA3 an3 ac3, .slice aA4 an4 ac4, .slice aA5 an5 ac5]) x) := Lib.hid (IsRcd.keep ⟨_, _, _, _, _, rfl, hrec⟩ (Nat.le_refl _) ((Same.of_below HX.out).mono hB))
        clear hx hrec hrow
        go_wp2_with fail
        refine (r10Big_any _ x B _ HREC.out (by have := HX.out.size; omega)).mono ?_
        rintro e w2 ⟨⟨bb, rfl⟩, hb2⟩
        have HB2 := Lib.hid (HX.out.trans (hb2.mono HX.out.size))
        clear hb2
        cases bb with
        | true =>
          go_wp2_with fail
          go_ret
          exact ⟨⟨true, rfl, fun h => by cases h⟩, HB2.out⟩
        | false =>
          go_wp2_with fail
          go_roundw
          case rel => exact ⟨k + 1, by omega, by go_num, HB2⟩
          case measure => simp [intOf]; omega
      · obtain rfl : k = xs.length := by omega
        go_wp2_with fail
        go_ret
        exact ⟨⟨false, rfl, fun _ => by omega⟩, HW.out⟩
end Go.Proofs.YtkmoaeckabjgnaaDoor.V
