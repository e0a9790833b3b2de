/-
  The walks of the document's Big of constraints, specs, records: they answer, whatever comes.
-/
import Derived.Test.YtkmoaeckabjgnaaDoorKFun
import Derived.Test.YtkmoaeckabjgnaaDoorRef4
namespace Go.Proofs.YtkmoaeckabjgnaaDoor.V
set_option linter.unusedVariables false
set_option linter.unusedSimpArgs false
open Go Go.RowKit Go.Sort

theorem RTrm.cells {w : World} {ok : Nat → Prop} {vs : List Value} {x : Trm} (h : RTrm w ok vs x) :
    ∃ A1 n1 c1 A2 n2 c2, vs = [.string x.op, .int .i64 x.ver.epoch, .slice A1 n1 c1, .slice A2 n2 c2] ∧ IsVer w ok (.agg #[.int .i64 x.ver.epoch, .slice A1 n1 c1, .slice A2 n2 c2]) x.ver := by
  obtain ⟨p, l, rfl, _, he, hp, hl⟩ := h
  obtain ⟨A1, c1, rfl, _⟩ := hp.form
  obtain ⟨A2, c2, rfl, _⟩ := hl.form
  exact ⟨A1, _, c1, A2, _, c2, rfl, _, _, rfl, he, hp, hl⟩

set_option maxHeartbeats 8000000 in
set_option maxRecDepth 100000 in
theorem r08Big_any (vr : Value) (rs : List (List Trm)) (B : Nat) (w : World) (hr : IsRows w (Lt B) vr rs) (hB : B ≤ w.heap.size) :
    Calls Tryd.prog 69 #[.agg #[vr]] w fun e w' => AnyBool e ∧ Below w.heap.size w w' := by
  obtain ⟨A1, c1, rfl, hl1, hc1⟩ := hr.form
  have HR := Lib.hid hr
  clear hr
  by_cases hbig : 20 < rs.length
  · go_enter Tryd.func69, Tryd.ntmps69
    go_wp2_with fail
    go_ret
    exact ⟨AnyBool.mk _, news_alloc _ _⟩
  · go_enter Tryd.func69, Tryd.ntmps69
    go_wp2_with fail
    have HB0 := Lib.hid (news_alloc w (.cells #[.slice A1 rs.length c1] 100))
    generalize w.alloc (.cells #[.slice A1 rs.length c1] 100) = W0 at *
    go_loopw [14] (fun i wr => ∃ k : Nat, k ≤ rs.length ∧ i = .int .i64 k ∧ Hid (Below w.heap.size w wr)) (fun i _ => rs.length - (intOf i).toNat)
    case atStart => exact ⟨0, Nat.zero_le _, rfl, HB0⟩
    case round =>
      obtain ⟨k, hk, rfl, HW⟩ := hrel
      have HSM := Lib.hid ((Same.of_below HW.out).mono hB)
      by_cases hlt : k < rs.length
      · obtain ⟨row, hrow⟩ : ∃ row, rs[k]? = some row := ⟨_, List.getElem?_eq_getElem hlt⟩
        obtain ⟨b, o, vs, rfl, hb, hlen, ⟨u, rfl, hu⟩, hc⟩ := HR.out.at_ hrow
        obtain ⟨A2, c2, rfl, hl2, hc2⟩ := hu.form
        have HU := Lib.hid hu
        have hbr : b < wr.heap.size := by have := HW.out.size; have h : b < B := hb; omega
        have q0 : wr.cell? ⟨b, o + k, none⟩ = some (.slice A2 row.length c2) := (HSM.out _ hb).trans (by simpa using hc 0 _ rfl)
        clear hrow hu hc
        obtain ⟨wo, hwo⟩ : ∃ wo : World, wo = wr := ⟨_, rfl⟩
        subst hwo
        by_cases h20 : 20 < row.length
        · go_wp2_with fail
          go_ret
          exact ⟨AnyBool.mk _, HW.out⟩
        · go_wp2_with fail
          go_loopw [23] (fun i wr => ∃ j : Nat, j ≤ row.length ∧ i = .int .i64 j ∧ Hid (Below w.heap.size w wr)) (fun i _ => row.length - (intOf i).toNat)
          case atStart => exact ⟨0, Nat.zero_le _, rfl, HW⟩
          case round =>
            obtain ⟨j, hj, rfl, HW2⟩ := hrel
            have HSM2 := Lib.hid ((Same.of_below HW2.out).mono hB)
            by_cases hjl : j < row.length
            · obtain ⟨t, ht⟩ : ∃ t, row[j]? = some t := ⟨_, List.getElem?_eq_getElem hjl⟩
              obtain ⟨b2, o2, vs2, rfl, hb2, hlen2, hterm, hc2'⟩ := HU.out.at_ ht
              obtain ⟨A3, n3, c3, A4, n4, c4, rfl, hver⟩ := hterm.cells
              have hb2r : b2 < wr.heap.size := by have := HW2.out.size; have h : b2 < B := hb2; omega
              have p0 : wr.cell? ⟨b2, o2 + j * 4, none⟩ = some (.string t.op) := (HSM2.out _ hb2).trans (hc2' 0 _ rfl)
              have p1 : wr.cell? ⟨b2, o2 + j * 4 + 1, none⟩ = some (.int .i64 t.ver.epoch) := (HSM2.out _ hb2).trans (hc2' 1 _ rfl)
              have p2 : wr.cell? ⟨b2, o2 + j * 4 + 2, none⟩ = some (.slice A3 n3 c3) := (HSM2.out _ hb2).trans (hc2' 2 _ rfl)
              have p3 : wr.cell? ⟨b2, o2 + j * 4 + 3, none⟩ = some (.slice A4 n4 c4) := (HSM2.out _ hb2).trans (hc2' 3 _ rfl)
              have HBX := Lib.hid (news_alloc wr (.cells #[.string t.op, .int .i64 t.ver.epoch, .slice A3 n3 c3, .slice A4 n4 c4] 145))
              have HVER := Lib.hid (hver.keep (Nat.le_refl _) (HSM2.out.trans ((Same.of_below HBX.out).mono (by have := HW2.out.size; omega))))
              have HX := Lib.hid (HW2.out.trans (HBX.out.mono HW2.out.size))
              clear ht hterm hver hc2'
              by_cases hop : 20 < t.op.size
              · go_wp2_with fail
                go_ret
                exact ⟨AnyBool.mk _, HX.out⟩
              · go_wp2_with fail
                refine (rBig_any _ t.ver B _ HVER.out (by have := HX.out.size; omega)).mono ?_
                rintro e w2 ⟨⟨bb, rfl⟩, hb3⟩
                have HB3 := Lib.hid (HX.out.trans (hb3.mono HX.out.size))
                clear hb3
                cases bb with
                | true =>
                  go_wp2_with fail
                  go_ret
                  exact ⟨AnyBool.mk _, HB3.out⟩
                | false =>
                  go_wp2_with fail
                  go_roundw
                  case rel => exact ⟨j + 1, by omega, by go_num, HB3⟩
                  case measure => simp [intOf]; omega
            · obtain rfl : j = row.length := by omega
              go_wp2_with fail
              go_roundw
              case rel => exact ⟨k + 1, by omega, by go_num, HW2⟩
              case measure => simp [intOf]; omega
      · obtain rfl : k = rs.length := by omega
        go_wp2_with fail
        go_ret
        exact ⟨AnyBool.mk _, HW.out⟩

set_option maxHeartbeats 8000000 in
theorem r09Big_any (vr : Value) (x : Spc) (B : Nat) (w : World) (hr : IsRows w (Lt B) vr x.rows) (hB : B ≤ w.heap.size) :
    Calls Tryd.prog 48 #[.agg #[.string x.chan, .string x.name, vr, .string x.build, .int .i64 x.num]] w fun e w' => AnyBool e ∧ Below w.heap.size w w' := by
  obtain ⟨A1, c1, rfl, hl1, hc1⟩ := hr.form
  have HB0 := Lib.hid (news_alloc w (.cells #[.string x.chan, .string x.name, .slice A1 x.rows.length c1, .string x.build, .int .i64 x.num] 102))
  have HR := Lib.hid (hr.keep keepsRow (Nat.le_refl _) ((Same.of_below HB0.out).mono hB))
  clear hr
  by_cases h1 : 200 < x.chan.size
  · go_enter Tryd.func48, Tryd.ntmps48
    go_wp2_with fail
    go_ret
    exact ⟨AnyBool.mk _, HB0.out⟩
  · by_cases h2 : 200 < x.name.size
    · go_enter Tryd.func48, Tryd.ntmps48
      go_wp2_with fail
      go_ret
      exact ⟨AnyBool.mk _, HB0.out⟩
    · by_cases h3 : 200 < x.build.size
      · go_enter Tryd.func48, Tryd.ntmps48
        go_wp2_with fail
        go_ret
        exact ⟨AnyBool.mk _, HB0.out⟩
      · go_enter Tryd.func48, Tryd.ntmps48
        go_wp2_with fail
        refine (r08Big_any _ x.rows B _ HR.out (by have := HB0.out.size; omega)).mono ?_
        rintro e w2 ⟨⟨bb, rfl⟩, hb3⟩
        have HB3 := Lib.hid (HB0.out.trans (hb3.mono HB0.out.size))
        clear hb3
        go_wp2_with fail
        go_ret
        exact ⟨AnyBool.mk _, HB3.out⟩
set_option maxHeartbeats 8000000 in
theorem r09BigRec_any (va : Value) (x : Rcd) (B : Nat) (w : World) (ha : IsRcd w (Lt B) va x) (hB : B ≤ w.heap.size) :
    Calls Tryd.prog 47 #[va] w fun e w' => AnyBool e ∧ Below w.heap.size w w' := by
  obtain ⟨aA1, an1, ac1, aA2, an2, ac2, aA3, an3, ac3, aA4, an4, ac4, aA5, an5, ac5, rfl, hra⟩ := ha.cells
  have HB0 := Lib.hid (news_alloc w (.cells #[.string x.chan, .string x.file, .string x.name, .string x.text, .int .i64 x.ver.epoch, .slice aA1 an1 ac1, .slice aA2 an2 ac2, .string x.build, .int .i64 x.num, .int .i64 x.time, .slice aA3 an3 ac3, .slice aA4 an4 ac4, .slice aA5 an5 ac5] 37))
  have HR := Lib.hid (hra.keep (Nat.le_refl _) ((Same.of_below HB0.out).mono hB)).ver
  clear ha hra
  by_cases h1 : 200 < x.chan.size
  · go_enter Tryd.func47, Tryd.ntmps47
    go_wp2_with fail
    go_ret
    exact ⟨AnyBool.mk _, HB0.out⟩
  · by_cases h2 : 200 < x.name.size
    · go_enter Tryd.func47, Tryd.ntmps47
      go_wp2_with fail
      go_ret
      exact ⟨AnyBool.mk _, HB0.out⟩
    · by_cases h3 : 200 < x.build.size
      · go_enter Tryd.func47, Tryd.ntmps47
        go_wp2_with fail
        go_ret
        exact ⟨AnyBool.mk _, HB0.out⟩
      · go_enter Tryd.func47, Tryd.ntmps47
        go_wp2_with fail
        refine (rBig_any _ x.ver B _ HR.out (by have := HB0.out.size; omega)).mono ?_
        rintro e w2 ⟨⟨bb, rfl⟩, hb3⟩
        have HB3 := Lib.hid (HB0.out.trans (hb3.mono HB0.out.size))
        clear hb3
        go_wp2_with fail
        go_ret
        exact ⟨AnyBool.mk _, HB3.out⟩
set_option maxHeartbeats 8000000 in
theorem Long_any (va : Value) (xs : List ByteArray) (n : Int) (B : Nat) (w : World) (ha : IsStrs w (Lt B) va xs) (hn : n = 500) :
    Calls Tryd.prog 18 #[va, .int .i64 n] w fun e w' => AnyBool e ∧ Below w.heap.size w w' := by
  obtain ⟨A1, c1, rfl, hl1, hc1⟩ := ha.form
  subst hn
  have HA := Lib.hid ha
  clear ha
  go_enter Tryd.func18, Tryd.ntmps18
  go_wp2_with fail
  go_loopw [5, 10] (fun v i wr => ∃ (k : Nat) (z : Int), k ≤ xs.length ∧ i = .int .i64 k ∧ v = .int .i64 z ∧ (0 ≤ z ∧ z ≤ 500) ∧ wr = w) (fun _ i _ => xs.length - (intOf i).toNat)
  case atStart => exact ⟨0, 0, Nat.zero_le _, rfl, rfl, ⟨by omega, by omega⟩, rfl⟩
  case round =>
    obtain ⟨k, z, hk, rfl, rfl, hz, rfl⟩ := hrel
    by_cases hlt : k < xs.length
    · obtain ⟨s, hs⟩ : ∃ s, xs[k]? = some s := ⟨_, List.getElem?_eq_getElem hlt⟩
      obtain ⟨b, o, rfl, hb, hsz, hcell⟩ := strs_at HA.out hs
      clear hs
      by_cases h1 : 500 < s.size
      · go_wp2_with fail
        go_ret
        exact ⟨AnyBool.mk _, Below.refl _ _⟩
      · by_cases h2 : 500 < z + (1 + (s.size : Int))
        · go_wp2_with fail
          go_ret
          exact ⟨AnyBool.mk _, Below.refl _ _⟩
        · go_wp2_with fail
          go_roundw
          case rel => exact ⟨k + 1, z + (1 + (s.size : Int)), by omega, by go_num, by go_num, ⟨by omega, by omega⟩, trivial⟩
          case measure => simp [intOf]; omega
    · obtain rfl : k = xs.length := by omega
      go_wp2_with fail
      go_ret
      exact ⟨AnyBool.mk _, Below.refl _ _⟩
end Go.Proofs.YtkmoaeckabjgnaaDoor.V
