/-
  The walks of the document's run and Small.
-/
import Derived.Test.YtmlmaklighgiiaaDoorRefT1
import Derived.Test.YtmlmaklighgiiaaDoorComp1
namespace Go.Proofs.YtmlmaklighgiiaaDoor.V
set_option linter.unusedVariables false
set_option linter.unusedSimpArgs false
open Go Go.RowKit Go.Sort

set_option maxHeartbeats 1000000 in
theorem rrun_any (s : ByteArray) (w : World) (hs : s.size ≤ 1000000000) : Calls Tryd.prog 52 #[.string s, .int .i64 0] w fun e w' => e = .returned (.int .i64 (runN dig s.data.toList)) ∧ w = w' := by
  have HSZ : Hid (s.data.toList.length = s.size) := Lib.hid (by simp)
  go_enter Tryd.func52, Tryd.ntmps52
  go_wp2
  go_loop [5] (fun i => ∃ k : Nat, k ≤ s.size ∧ i = .int .i64 k ∧ Hid (∀ j x, j < k → s.data.toList[j]? = some x → dig x = true)) (fun i => s.size - (intOf i).toNat)
  case atStart => exact ⟨0, Nat.zero_le _, rfl, Lib.hid (fun j x hj => absurd hj (by omega))⟩
  case round =>
    obtain ⟨k, hk, rfl, HA⟩ := hrel
    by_cases hlt : k < s.size
    · have HX := Lib.hid (byteAt hlt)
      by_cases h1 : 48 ≤ (s[k].toNat : Int)
      · by_cases h2 : (s[k].toNat : Int) ≤ 57
        · have HD : Hid (dig s[k] = true) := Lib.hid (by simp [dig, digB, h1, h2])
          go_wp2
          go_round
          case rel => exact ⟨k + 1, by omega, by go_num, Lib.hid (fun j x hj hx => by
            by_cases e : j = k
            · subst e
              rw [HX.out] at hx
              obtain rfl := Option.some.inj hx
              exact HD.out
            · exact HA.out j x (by omega) hx)⟩
          case measure => simp [intOf]; omega
        · have HF : Hid (runN dig s.data.toList = k) := Lib.hid (runN_at _ _ _ HA.out (by rw [HSZ.out]; exact hk) (fun x hx => by
            rw [HX.out] at hx
            obtain rfl := Option.some.inj hx
            simp [dig, digB, h2]))
          go_wp2
          go_ret
          exact ⟨ret_int (by rw [HF.out]), rfl⟩
      · have HF : Hid (runN dig s.data.toList = k) := Lib.hid (runN_at _ _ _ HA.out (by rw [HSZ.out]; exact hk) (fun x hx => by
            rw [HX.out] at hx
            obtain rfl := Option.some.inj hx
            simp [dig, digB, h1]))
        go_wp2
        go_ret
        exact ⟨ret_int (by rw [HF.out]), rfl⟩
    · have HF : Hid (runN dig s.data.toList = k) := Lib.hid (runN_at _ _ _ HA.out (by rw [HSZ.out]; exact hk) (fun x hx => by
            rw [List.getElem?_eq_none (by rw [HSZ.out]; omega)] at hx
            cases hx))
      go_wp2
      go_ret
      exact ⟨ret_int (by rw [HF.out]), rfl⟩

/-- The document's Small: -1 for none. -/
def smallR (l : List UInt8) (most : Int) : Int := (smallL l most).getD (-1)
set_option maxHeartbeats 1000000 in
theorem rSmall_any (s : ByteArray) (most : Int) (w : World) (hs : s.size ≤ 1000000000) :
    Calls Tryd.prog 28 #[.string s, .int .i64 most] w fun e w' => e = .returned (.int .i64 (smallR s.data.toList most)) ∧ w = w' := by
  have HSZ : Hid (s.data.toList.length = s.size) := Lib.hid (by simp)
  have HAL := Lib.hid (runN_all dig s.data.toList)
  by_cases h1 : s.size < 1
  · have HF : Hid (smallR s.data.toList most = -1) := Lib.hid (by unfold smallR; rw [small_no (.inl (by rw [HSZ.out]; exact h1))]; rfl)
    have hemp := isEmpty_of (s := s) (by omega)
    go_enter Tryd.func28, Tryd.ntmps28
    go_wp2
    go_ret
    exact ⟨ret_int (by rw [HF.out]), rfl⟩
  have hemp := not_isEmpty_of (s := s) (by omega)
  by_cases h2 : 15 < s.size
  · have HF : Hid (smallR s.data.toList most = -1) := Lib.hid (by unfold smallR; rw [small_no (.inr (.inl (by rw [HSZ.out]; exact h2)))]; rfl)
    go_enter Tryd.func28, Tryd.ntmps28
    go_wp2
    go_ret
    exact ⟨ret_int (by rw [HF.out]), rfl⟩
  obtain ⟨r, HR⟩ : ∃ r, Hid (runN dig s.data.toList = r) := ⟨_, Lib.hid rfl⟩
  by_cases h3 : r = s.size
  · have HALL : Hid (s.data.toList.all dig = true) := Lib.hid (HAL.out.1 (by rw [HR.out, h3, HSZ.out]))
    have HF := Lib.hid (small_yes (most := most) (by rw [HSZ.out]; exact h1) (by rw [HSZ.out]; exact h2) HALL.out)
    subst h3
    go_enter Tryd.func28, Tryd.ntmps28
    go_wp2_with (go_at_call 52; refine (rrun_any _ _ hs).mono ?_; rintro e w1 ⟨rfl, rfl⟩; rw [HR.out])
    go_loop [5, 6] (fun n i => ∃ k : Nat, k ≤ s.size ∧ i = .int .i64 k ∧ n = .int .i64 (numL 0 (s.data.toList.take k))) (fun _ i => s.size - (intOf i).toNat)
    case atStart => exact ⟨0, Nat.zero_le _, rfl, rfl⟩
    case round =>
      obtain ⟨k, hk, rfl, rfl⟩ := hrel
      obtain ⟨b1, b2⟩ := numL_take_bd (l := s.data.toList) (k := k) (fun b hb => List.all_eq_true.1 HALL.out b hb) (by omega)
      by_cases hlt : k < s.size
      · have HX := Lib.hid (byteAt hlt)
        have hd : dig s[k] = true := List.all_eq_true.1 HALL.out _ (List.mem_of_getElem? HX.out)
        simp only [dig, digB, Bool.and_eq_true, decide_eq_true_eq] at hd
        obtain ⟨d1, d2⟩ := hd
        have HT := Lib.hid (numL_take HX.out)
        go_wp2_with fail
        go_round
        case rel => exact ⟨k + 1, by omega, by go_num, by rw [HT.out, Int.mul_comm]⟩
        case measure => simp [intOf]; omega
      · have HT : Hid (s.data.toList.take k = s.data.toList) := Lib.hid (List.take_of_length_le (by rw [HSZ.out]; omega))
        rw [HT.out] at b1 b2
        rw [HT.out]
        by_cases hm : most < numL 0 s.data.toList
        · have HG : Hid (smallR s.data.toList most = -1) := Lib.hid (by unfold smallR; rw [HF.out, if_pos hm]; rfl)
          go_wp2_with fail
          go_ret
          exact ⟨ret_int (by rw [HG.out]), rfl⟩
        · have HG : Hid (smallR s.data.toList most = numL 0 s.data.toList) := Lib.hid (by unfold smallR; rw [HF.out, if_neg hm]; rfl)
          go_wp2_with fail
          go_ret
          exact ⟨ret_int (by rw [HG.out]), rfl⟩
  · have HALL : Hid (s.data.toList.all dig = false) := Lib.hid (by
      cases h : s.data.toList.all dig with
      | false => rfl
      | true => exact absurd (by rw [← HR.out, HAL.out.2 h, HSZ.out]) h3)
    have HF : Hid (smallR s.data.toList most = -1) := Lib.hid (by unfold smallR; rw [small_no (.inr (.inr HALL.out))]; rfl)
    have hle : r ≤ s.size := by have := runN_le dig s.data.toList; rw [HR.out, HSZ.out] at this; exact this
    have hlt : (r : Int) < s.size := by omega
    go_enter Tryd.func28, Tryd.ntmps28
    go_wp2_with (go_at_call 52; refine (rrun_any _ _ hs).mono ?_; rintro e w1 ⟨rfl, rfl⟩; rw [HR.out])
    go_ret
    exact ⟨ret_int (by rw [HF.out]), rfl⟩
end Go.Proofs.YtmlmaklighgiiaaDoor.V
