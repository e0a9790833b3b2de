/-
  The walks of ints.Small and version.number.
-/
import Derived.Test.YtkmoaeckabjgnaaDoorTxt1
namespace Go.Proofs.YtkmoaeckabjgnaaDoor.V
set_option linter.unusedVariables false
set_option linter.unusedSimpArgs false
open Go Go.RowKit Go.Sort

theorem numL_take {l : List UInt8} {k : Nat} {x : UInt8} (h : l[k]? = some x) : numL 0 (l.take (k + 1)) = numL 0 (l.take k) * 10 + (x.toNat - 48) := by
  obtain ⟨hk, hx⟩ := List.getElem?_eq_some_iff.1 h
  rw [List.take_succ_eq_append_getElem hk, hx, numL_snoc]
theorem numL_take_bd {l : List UInt8} {k : Nat} (hd : ∀ b ∈ l, dig b = true) (hk : k ≤ 15) : 0 ≤ numL 0 (l.take k) ∧ numL 0 (l.take k) ≤ 1000000000000000 := by
  obtain ⟨h1, h2⟩ := numL_bound (l.take k) 0 (by omega) (fun b hb => hd b (List.mem_of_mem_take hb))
  refine ⟨h1, ?_⟩
  have h3 : (l.take k).length ≤ 15 := by rw [List.length_take]; omega
  have h4 : (10 : Int) ^ (l.take k).length ≤ 10 ^ 15 := by
    have := Nat.pow_le_pow_right (n := 10) (by omega) h3
    exact_mod_cast this
  omega

def okv (o : Option Int) : Value := .tuple #[.int .i64 (o.getD 0), .bool o.isSome]
theorem small_no {l : List UInt8} {most : Int} (h : l.length < 1 ∨ 15 < l.length ∨ l.all dig = false) : smallL l most = none := if_pos h
theorem small_yes {l : List UInt8} {most : Int} (h1 : ¬ l.length < 1) (h2 : ¬ 15 < l.length) (h3 : l.all dig = true) : smallL l most = if most < numL 0 l then none else some (numL 0 l) := by
  unfold smallL
  rw [if_neg]
  intro h
  rcases h with h | h | h
  · exact h1 h
  · exact h2 h
  · rw [h3] at h; cases h

set_option maxHeartbeats 1000000 in
theorem Small_any (s : ByteArray) (most : Int) (w : World) (hs : s.size ≤ 1000000000) :
    Calls Tryd.prog 76 #[.string s, .int .i64 most] w fun e w' => e = .returned (okv (smallL s.data.toList most)) ∧ w = w' := by
  have HSZ : Hid (s.data.toList.length = s.size) := Lib.hid (by simp)
  have HAL := Lib.hid (runN_all dig s.data.toList)
  by_cases h1 : s.size < 1
  · have HF : Hid (smallL s.data.toList most = none) := Lib.hid (small_no (.inl (by rw [HSZ.out]; exact h1)))
    go_enter Tryd.func76, Tryd.ntmps76
    go_wp2
    go_ret2
    exact ⟨by rw [HF.out]; rfl, rfl⟩
  by_cases h2 : 15 < s.size
  · have HF : Hid (smallL s.data.toList most = none) := Lib.hid (small_no (.inr (.inl (by rw [HSZ.out]; exact h2))))
    go_enter Tryd.func76, Tryd.ntmps76
    go_wp2
    go_ret2
    exact ⟨by rw [HF.out]; rfl, rfl⟩
  obtain ⟨r, HR⟩ : ∃ r, Hid (runN dig s.data.toList = r) := ⟨_, Lib.hid rfl⟩
  by_cases h3 : r = s.size
  · have HALL : Hid (s.data.toList.all dig = true) := Lib.hid (HAL.out.1 (by rw [HR.out, h3, HSZ.out]))
    have HF := Lib.hid (small_yes (most := most) (by rw [HSZ.out]; exact h1) (by rw [HSZ.out]; exact h2) HALL.out)
    subst h3
    go_enter Tryd.func76, Tryd.ntmps76
    go_wp2_with (go_at_call 83; refine (digits_any _ _ hs).mono ?_; rintro e w1 ⟨rfl, rfl⟩; rw [HR.out])
    go_loop [6, 25] (fun n i => ∃ k : Nat, k ≤ s.size ∧ i = .int .i64 k ∧ n = .int .i64 (numL 0 (s.data.toList.take k))) (fun _ i => s.size - (intOf i).toNat)
    case atStart => exact ⟨0, Nat.zero_le _, rfl, rfl⟩
    case round =>
      obtain ⟨k, hk, rfl, rfl⟩ := hrel
      obtain ⟨b1, b2⟩ := numL_take_bd (l := s.data.toList) (k := k) (fun b hb => List.all_eq_true.1 HALL.out b hb) (by omega)
      by_cases hlt : k < s.size
      · have HX := Lib.hid (byteAt hlt)
        have hd : dig s[k] = true := List.all_eq_true.1 HALL.out _ (List.mem_of_getElem? HX.out)
        simp only [dig, digB, Bool.and_eq_true, decide_eq_true_eq] at hd
        obtain ⟨d1, d2⟩ := hd
        have HT := Lib.hid (numL_take HX.out)
        go_wp2_with fail
        go_round
        case rel => exact ⟨k + 1, by omega, by go_num, by rw [HT.out]⟩
        case measure => simp [intOf]; omega
      · have HT : Hid (s.data.toList.take k = s.data.toList) := Lib.hid (List.take_of_length_le (by rw [HSZ.out]; omega))
        rw [HT.out] at b1 b2
        rw [HT.out]
        by_cases hm : most < numL 0 s.data.toList
        · have HG : Hid (smallL s.data.toList most = none) := Lib.hid (by rw [HF.out, if_pos hm])
          go_wp2_with fail
          go_ret2
          exact ⟨by rw [HG.out]; rfl, rfl⟩
        · have HG : Hid (smallL s.data.toList most = some (numL 0 s.data.toList)) := Lib.hid (by rw [HF.out, if_neg hm])
          go_wp2_with fail
          go_ret2
          exact ⟨by rw [HG.out]; rfl, rfl⟩
  · have HALL : Hid (s.data.toList.all dig = false) := Lib.hid (by
      cases h : s.data.toList.all dig with
      | false => rfl
      | true => exact absurd (by rw [← HR.out, HAL.out.2 h, HSZ.out]) h3)
    have HF : Hid (smallL s.data.toList most = none) := Lib.hid (small_no (.inr (.inr HALL.out)))
    have hb : ((r : Int) == (s.size : Int)) = false := by simp; omega
    have hb' : ((r : Int) != (s.size : Int)) = true := by simp; omega
    go_enter Tryd.func76, Tryd.ntmps76
    go_wp2_with (go_at_call 83; refine (digits_any _ _ hs).mono ?_; rintro e w1 ⟨rfl, rfl⟩; rw [HR.out])
    go_ret2
    exact ⟨by rw [HF.out]; rfl, rfl⟩

theorem number_any (s : ByteArray) (w : World) (hs : s.size ≤ 1000000000) :
    Calls Tryd.prog 66 #[.string s] w fun e w' => e = .returned (okv (smallL s.data.toList 9223372036854775807)) ∧ w = w' := by
  go_enter Tryd.func66, Tryd.ntmps66
  unfold okv
  go_wp2_with (go_at_call 76; refine (Small_any _ _ _ hs).mono ?_; rintro e w1 ⟨rfl, rfl⟩; unfold okv)
  go_ret2
  exact ⟨rfl, rfl⟩
end Go.Proofs.YtkmoaeckabjgnaaDoor.V
