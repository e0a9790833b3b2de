/-
  The walk of the law VersionNoughts.
-/
import Derived.Test.YtmlmaklighgiiaaDoorLOrder
import Derived.Test.YtmlmaklighgiiaaDoorZPlain2
namespace Go.Proofs.YtmlmaklighgiiaaDoor.V
set_option linter.unusedVariables false
set_option linter.unusedSimpArgs false
open Go Go.RowKit Go.Sort

theorem turnTo_same (l : List UInt8) (k : Nat) (x : UInt8) (h : l[k]? = some x) (hu : turnB k x = x) : turnTo l (k + 1) = turnTo l k := by
  rw [turnTo_succ l k x h, hu]
  apply List.ext_getElem?
  intro j
  by_cases e : k = j
  · subst e
    rw [List.getElem?_set_self (by rw [turnTo_len]; exact (List.getElem?_eq_some_iff.1 h).1), turnTo_at, h]
  · rw [List.getElem?_set_ne e]
theorem times5 (many : Int) : ∃ kk : Nat, RowKit.wrap64 ((IntKind.u64.wrap many).tmod 5) = kk ∧ kk < 5 := by
  have h0 : 0 ≤ IntKind.u64.wrap many := by
    simp [IntKind.wrap, IntKind.signed, IntKind.bits]
    omega
  have h1 : (IntKind.u64.wrap many).tmod 5 = IntKind.u64.wrap many % 5 := Int.tmod_eq_emod_of_nonneg h0
  rw [h1]
  generalize IntKind.u64.wrap many = q at *
  refine ⟨(q % 5).toNat, ?_, by omega⟩
  unfold RowKit.wrap64
  omega
theorem dot_at : ∀ (r : Nat) (h : r < 3), ((⟨#[46, 95, 45]⟩ : ByteArray)[r]'h) = sepL.getD r 46
  | 0, _ => rfl
  | 1, _ => rfl
  | 2, _ => rfl
theorem turnB_low {k : Nat} {x : UInt8} (h1 : (97 : Int) ≤ x.toNat) (h2 : (x.toNat : Int) ≤ 122) : ((turnB k x).toNat : Int) = x.toNat - 32 := by
  unfold turnB
  rw [if_pos (by omega), UInt8.toNat_ofNat']
  omega
theorem turnB_dot {k : Nat} {x : UInt8} (h : (x.toNat : Int) = 46) : turnB k x = sepL.getD (k % 3) 46 := by
  unfold turnB
  obtain rfl : x = 46 := UInt8.toNat_inj.1 (by show x.toNat = 46; omega)
  rw [if_neg (by decide), if_pos rfl]
theorem turnB_else {k : Nat} {x : UInt8} (h : ¬ ((97 : Int) ≤ x.toNat ∧ (x.toNat : Int) ≤ 122)) (h2 : ¬ (x.toNat : Int) = 46) : turnB k x = x := by
  unfold turnB
  rw [if_neg (by omega), if_neg (fun e => h2 (by rw [e]; rfl))]

set_option maxHeartbeats 8000000 in
set_option maxRecDepth 100000 in
theorem noughts_any (s : ByteArray) (many : Int) (w : World) (u : TypeId) (ev : Value) (m : Int) (hE : Env w u ev m) (hs : s.size ≤ 9223372036854775807) (hm : I64 many) :
    Calls Tryd.prog 6 #[.string s, .int .i64 many] w fun e w' => e = .returned (.bool true) ∧ Below w.heap.size w w' := by
  have HE := Lib.hid hE
  clear hE
  go_enter Tryd.func6, Tryd.ntmps6
  go_wp2_with (go_at_call 8; refine (alive7_any _ u ev m HE.out).mono ?_; rintro e w1 ⟨rfl, hb1⟩; have HB1 := Lib.hid hb1; clear hb1)
  · go_ret; exact ⟨rfl, HB1.out⟩
  have hs1 : s.size ≤ 1000000000 := by omega
  have hs100 : s.size ≤ 100 := by omega
  clear hs
  refine (parse_two _ u ev m _ (HE.out.next HB1.out) hs1).mono ?_
  rintro _ x1 ⟨⟨ep1, A1, n1, c1, D1, m1, d1, er1, rfl, hn1, hy1⟩, hb⟩
  have HN1 := Lib.hid hn1
  have HY1 := Lib.hid hy1
  have HX1 := Lib.hid (news_alloc x1 (.cells #[.int .i64 ep1, .slice A1 n1 c1, .slice D1 m1 d1] 25))
  have HK1 := Lib.hid (Blk.new x1 25 #[.int .i64 ep1, .slice A1 n1 c1, .slice D1 m1 d1])
  have HM1 := Lib.hid (hb.trans (HX1.out.mono hb.size))
  have HB2 := Lib.hid (HB1.out.trans (HM1.out.mono HB1.out.size))
  clear hn1 hy1 hb
  cases hA : parseL s.data.toList with
  | none =>
    obtain rfl := HN1.out hA
    go_wp2_with fail
    go_ret
    exact ⟨rfl, HB2.out⟩
  | some a =>
  obtain ⟨rfl, hva⟩ := HY1.out a hA
  have HVA := Lib.hid hva
  have HA := Lib.hid hA
  clear hA HN1 HY1
  have hm1 : m1 = a.loc.length := by
    obtain ⟨p1, l1, hag, _, hpp, hll⟩ := hva
    obtain ⟨A', c', rfl, _⟩ := hll.form
    injection hag with h1
    have h2 := congrArg Array.toList h1
    simp at h2
    exact h2.2.2.2.1
  have HMM := Lib.hid hm1
  clear hva hm1
  by_cases hloc : 0 < m1
  · go_wp2_with fail
    go_ret
    exact ⟨rfl, HB2.out⟩
  · have HLOC : Hid (a.loc = []) := Lib.hid (List.eq_nil_of_length_eq_zero (by have := HMM.out; omega))
    obtain rfl : m1 = 0 := by omega
    clear hloc
    have hconv := Lib.run_convert_string_bytes (P := Tryd.prog) (x1.alloc (.cells #[.int .i64 ep1, .slice A1 n1 c1, .slice D1 0 d1] 25)) 9 40 5 s Tryd.underlying9 Tryd.underlying40 Tryd.underlying5
    have HZB : Hid ((x1.alloc (.cells #[.int .i64 ep1, .slice A1 n1 c1, .slice D1 0 d1] 25)).heap.size = x1.heap.size + 1) := Lib.hid (by simp)
    have HR := Lib.hid (BRow.new (x1.alloc (.cells #[.int .i64 ep1, .slice A1 n1 c1, .slice D1 0 d1] 25)) s 5)
    have HBY := Lib.hid (below_bytes (x1.alloc (.cells #[.int .i64 ep1, .slice A1 n1 c1, .slice D1 0 d1] 25)) 5 s)
    have HSZ : Hid (s.data.toList.length = s.size) := Lib.hid (by simp)
    rw [HZB.out] at HR
    generalize grownCap (x1.alloc (.cells #[.int .i64 ep1, .slice A1 n1 c1, .slice D1 0 d1] 25)) s.size 0 5 = cap at hconv
    generalize Lib.bytesWorld (x1.alloc (.cells #[.int .i64 ep1, .slice A1 n1 c1, .slice D1 0 d1] 25)) 5 s = W0 at *
    have HBA : Hid (Below w.heap.size w W0) := Lib.hid (HB2.out.trans (HBY.out.mono HB2.out.size))
    have HKA : Hid (Blk W0 x1.heap.size 25 #[.int .i64 ep1, .slice A1 n1 c1, .slice D1 0 d1]) := Lib.hid (HK1.out.belowSelf HBY.out)
    go_wp2_with fail
    go_loopw [33] (fun i wr => ∃ k : Nat, k ≤ s.size ∧ i = .int .i64 k ∧ Hid (BRow wr (x1.heap.size + 1) (turnTo s.data.toList k)) ∧ Hid (Below (x1.heap.size + 1) W0 wr)) (fun i _ => s.size - (intOf i).toNat)
    case atStart => exact ⟨0, Nat.zero_le _, rfl, Lib.hid (by rw [turnTo_zero]; exact HR.out), Lib.hid (Below.refl _ _)⟩
    case round =>
      obtain ⟨k, hk, rfl, HRk, HBk⟩ := hrel
      by_cases hlt : k < s.size
      · obtain ⟨x, hx⟩ : ∃ x, s.data.toList[k]? = some x := ⟨_, List.getElem?_eq_getElem (by rw [HSZ.out]; exact hlt)⟩
        have hc : wr.cell? ⟨x1.heap.size + 1, k, none⟩ = some (.int .u8 x.toNat) := HRk.out.1 k x (by rw [turnTo_at]; exact hx)
        have hf : wr.frozen? ⟨x1.heap.size + 1, k, none⟩ = false := HRk.out.2 k (by rw [turnTo_len, HSZ.out]; exact hlt)
        have hx1 : (x.toNat : Int) < 256 := by have := x.toNat_lt; omega
        have HSU := Lib.hid (turnTo_succ _ _ _ hx)
        have HX := Lib.hid hx
        clear hx
        by_cases h1 : (97 : Int) ≤ x.toNat
        · by_cases h2 : (x.toNat : Int) ≤ 122
          · have HL := Lib.hid (turnB_low (k := k) h1 h2)
            go_wp2_with fail
            go_roundw
            case rel => exact ⟨k + 1, by omega, by go_num, Lib.hid (by rw [HSU.out, show (x.toNat : Int) - 32 = (turnB k x).toNat by rw [HL.out]]; exact HRk.out.set _ (by rw [turnTo_len, HSZ.out]; exact hlt)), Lib.hid (HBk.out.setCell (Nat.le_refl _) _)⟩
            case measure => simp [intOf]; omega
          · have h3 : ¬ (x.toNat : Int) = 46 := by omega
            have h4 : ((x.toNat : Int) == 46) = false := by simpa using h3
            have HL := Lib.hid (turnTo_same _ _ _ HX.out (turnB_else (k := k) (fun h => h2 h.2) h3))
            go_wp2_with fail
            go_roundw
            case rel => exact ⟨k + 1, by omega, by go_num, Lib.hid (by rw [HL.out]; exact HRk.out), HBk⟩
            case measure => simp [intOf]; omega
        · by_cases h3 : (x.toNat : Int) = 46
          · have HL := Lib.hid (turnB_dot (k := k) h3)
            have hk0 : (0 : Int) ≤ (k : Int) % 3 := by omega
            have hk3 : (k : Int) % 3 < 3 := by omega
            go_wp2_with fail
            go_roundw
            case rel => exact ⟨k + 1, by omega, by go_num, Lib.hid (by rw [HSU.out, HL.out, ← dot_at (k % 3) (Nat.mod_lt _ (by decide))]; exact HRk.out.set _ (by rw [turnTo_len, HSZ.out]; exact hlt)), Lib.hid (HBk.out.setCell (Nat.le_refl _) _)⟩
            case measure => simp [intOf]; omega
          · have h4 : ((x.toNat : Int) == 46) = false := by simpa using h3
            have HL := Lib.hid (turnTo_same _ _ _ HX.out (turnB_else (k := k) (fun h => h1 h.1) h3))
            go_wp2_with fail
            go_roundw
            case rel => exact ⟨k + 1, by omega, by go_num, Lib.hid (by rw [HL.out]; exact HRk.out), HBk⟩
            case measure => simp [intOf]; omega
      · have hback : (convert 40 9 (.slice (some ⟨x1.heap.size + 1, 0, none⟩) s.size cap)).run Tryd.prog wr = .ok (.string ⟨(turnL s.data.toList).toArray⟩) wr := by
          have h := run_convert_bytes_back (P := Tryd.prog) wr 40 9 5 ⟨x1.heap.size + 1, 0, none⟩ cap (turnTo s.data.toList k) Tryd.underlying40 Tryd.underlying5 Tryd.underlying9 (fun j hj => by
            have h2 := HRk.out.1 j _ (List.getElem?_eq_getElem hj)
            rw [Go.WideShapes.add_plain, Nat.zero_add]
            exact h2)
          rw [turnTo_len, HSZ.out, turnTo_all _ (by rw [HSZ.out]; omega)] at h
          exact h
        obtain ⟨wo, hwo⟩ : ∃ wo : World, wo = wr := ⟨_, rfl⟩
        subst hwo
        go_wp2_with fail
        obtain ⟨kk, hkk, hk5⟩ := times5 many
        rw [hkk]
        clear hkk
        generalize (IntKind.u64.wrap many).tmod 5 = r5
        generalize IntKind.u64.wrap many = q5
        go_loop [9, 74] (fun v i => ∃ (j : Nat) (t : ByteArray), j ≤ kk ∧ i = .int .i64 j ∧ v = .string t ∧ Hid (t.data.toList = turnL s.data.toList ++ zerosL j)) (fun _ i => kk - (intOf i).toNat)
        case atStart => exact ⟨0, _, Nat.zero_le _, rfl, rfl, Lib.hid (by simp [zerosL])⟩
        case round =>
          obtain ⟨j, t, hj, rfl, rfl, HT⟩ := hrel
          by_cases hjk : j < kk
          · have hadd := run_string_add_sum (P := Tryd.prog) wo t ⟨#[46, 48]⟩ (by
              have h1 := congrArg List.length HT.out
              rw [List.length_append, zeros_len, show (turnL s.data.toList).length = s.data.toList.length from turnTo_len _ _, HSZ.out] at h1
              have h2 : t.data.toList.length = t.size := by simp
              have h3 : (⟨#[46, 48]⟩ : ByteArray).size = 2 := rfl
              omega)
            go_wp2_with fail
            go_round
            case rel => exact ⟨j + 1, _, by omega, by go_num, rfl, Lib.hid (by rw [zerosL, ← List.append_assoc, ← HT.out]; simp)⟩
            case measure => simp [intOf]; omega
          · obtain rfl : j = kk := by omega
            have HTZ : Hid (t.size = s.size + 2 * j) := Lib.hid (by
              have h1 := congrArg List.length HT.out
              rw [List.length_append, zeros_len, show (turnL s.data.toList).length = s.data.toList.length from turnTo_len _ _, HSZ.out] at h1
              have h2 : t.data.toList.length = t.size := by simp
              omega)
            have HWO := Lib.hid (HBA.out.trans (HBk.out.mono (by have := HBY.out.size; have := HB2.out.size; have := HZB.out; omega)))
            have HKO : Hid (Blk wo x1.heap.size 25 #[.int .i64 ep1, .slice A1 n1 c1, .slice D1 0 d1]) := Lib.hid (HKA.out.below HBk.out (Nat.lt_succ_self _))
            have ht1 : t.size ≤ 1000000000 := by have := HTZ.out; omega
            go_wp2_with fail
            refine (parse_two _ u ev m _ (HE.out.next HWO.out) ht1).mono ?_
            rintro _ x3 ⟨⟨ep3, A3, n3, c3, D3, m3, d3, er3, rfl, hn3, hy3⟩, hb⟩
            have HY3 := Lib.hid hy3
            have HB := Lib.hid hb
            clear hn3 hy3 hb
            have HX3 := Lib.hid (news_alloc x3 (.cells #[.int .i64 ep3, .slice A3 n3 c3, .slice D3 m3 d3] 25))
            have HK3 := Lib.hid (Blk.new x3 25 #[.int .i64 ep3, .slice A3 n3 c3, .slice D3 m3 d3])
            have HM3 := Lib.hid (HB.out.trans (HX3.out.mono HB.out.size))
            have HXW := Lib.hid (HX1.out.trans (HBY.out.mono HX1.out.size))
            have HXW2 := Lib.hid (HXW.out.trans ((HBk.out.mono (Nat.le_succ _)).mono (Nat.le_refl _)))
            have HXW3 := Lib.hid (HXW2.out.trans (HM3.out.mono HXW2.out.size))
            have HK13 := Lib.hid (HKO.out.belowSelf HM3.out)
            have HB4 := Lib.hid (HWO.out.trans (HM3.out.mono HWO.out.size))
            clear HB HM3 HXW HXW2 HWO HBk HRk HBA HBY HR HZB hback
            by_cases h40 : 40 < t.size
            · have h41 : (40 : Int) < t.size := by omega
              go_wp2_with fail
              go_ret
              exact ⟨rfl, HB4.out⟩
            · have h41 : ¬ (40 : Int) < t.size := by omega
              obtain ⟨hp, hpt⟩ := parse_turn (s := s.data.toList) j HA.out HLOC.out (by rw [← HT.out, Lib.size_eq] at *; omega)
              rw [← HT.out] at hpt
              obtain ⟨rfl, hvc⟩ := HY3.out _ hpt
              have HP := Lib.hid hp
              have HVA3 : Hid (IsVer (x3.alloc (.cells #[.int .i64 ep3, .slice A3 n3 c3, .slice D3 m3 d3] 25)) (Lt (x3.alloc (.cells #[.int .i64 ep3, .slice A3 n3 c3, .slice D3 m3 d3] 25)).heap.size) (.agg #[.int .i64 ep1, .slice A1 n1 c1, .slice D1 0 d1]) a) := Lib.hid
                (HVA.out.keepOn (fun b hb => Nat.lt_of_lt_of_le hb.2 HXW3.out.size) (fun p hp => HXW3.out.cell hp.2))
              have HVC3 : Hid (IsVer (x3.alloc (.cells #[.int .i64 ep3, .slice A3 n3 c3, .slice D3 m3 d3] 25)) (Lt (x3.alloc (.cells #[.int .i64 ep3, .slice A3 n3 c3, .slice D3 m3 d3] 25)).heap.size) (.agg #[.int .i64 ep3, .slice A3 n3 c3, .slice D3 m3 d3]) _) := Lib.hid
                (IsVer.keepOn hvc (fun b hb => Nat.lt_of_lt_of_le hb.2 HX3.out.size) (fun p hp => HX3.out.cell hp.2))
              clear hp hpt hvc HY3 HVA
              have t0 := HK13.out.cell 0
              have t1 := HK13.out.cell 1
              have t2 := HK13.out.cell 2
              have t3 := HK3.out.cell 0
              have t4 := HK3.out.cell 1
              have t5 := HK3.out.cell 2
              go_wp2_with fail
              clear t0 t1 t2 t3 t4 t5
              generalize x3.alloc (.cells #[.int .i64 ep3, .slice A3 n3 c3, .slice D3 m3 d3] 25) = W3 at *
              refine (Compare_any _ _ a _ W3.heap.size W3 HVA3.out HVC3.out (Nat.le_refl _)).mono ?_
              rintro e W4 ⟨rfl, hb4⟩
              rw [cmp_noughts j HLOC.out]
              have HVA4 := Lib.hid (HVA3.out.keep (Nat.le_refl _) (Same.of_below hb4))
              have HVC4 := Lib.hid (HVC3.out.keep (Nat.le_refl _) (Same.of_below hb4))
              have HK14 := Lib.hid (HK13.out.belowSelf hb4)
              have HK4 := Lib.hid (HK3.out.belowSelf hb4)
              have HB5 := Lib.hid (HB4.out.trans (hb4.mono HB4.out.size))
              have HL4 := Lib.hid hb4.size
              clear hb4
              have t0 := HK14.out.cell 0
              have t1 := HK14.out.cell 1
              have t2 := HK14.out.cell 2
              have t3 := HK4.out.cell 0
              have t4 := HK4.out.cell 1
              have t5 := HK4.out.cell 2
              go_wp2_with fail
              refine (Begins_any _ _ _ a W3.heap.size W4 HVC4.out HVA4.out HL4.out).mono ?_
              rintro e W5 ⟨rfl, hb5⟩
              rw [beg_noughts j HLOC.out HP.out]
              have HVA5 := Lib.hid (HVA4.out.keep (Nat.le_refl _) (Same.of_below (hb5.mono HL4.out)))
              have HK15 := Lib.hid (HK14.out.belowSelf hb5)
              have HB6 := Lib.hid (HB5.out.trans (hb5.mono HB5.out.size))
              have HL5 := Lib.hid (Nat.le_trans HL4.out hb5.size)
              clear hb5 t0 t1 t2 t3 t4 t5
              have t0 := HK15.out.cell 0
              have t1 := HK15.out.cell 1
              have t2 := HK15.out.cell 2
              go_wp2_with fail
              refine (Begins_any _ _ a a W3.heap.size W5 HVA5.out HVA5.out HL5.out).mono ?_
              rintro e W6 ⟨rfl, hb6⟩
              rw [beg_self HLOC.out HP.out]
              have HB7 := Lib.hid (HB6.out.trans (hb6.mono HB6.out.size))
              clear hb6 t0 t1 t2
              go_wp2_with fail
              go_ret
              exact ⟨rfl, HB7.out⟩
end Go.Proofs.YtmlmaklighgiiaaDoor.V
