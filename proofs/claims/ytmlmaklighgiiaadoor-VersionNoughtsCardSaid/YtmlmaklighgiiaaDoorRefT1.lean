/-
  The walks of the document's small functions on texts: digit, letter, Lower, find, run, Small.
-/
import Derived.Test.YtmlmaklighgiiaaDoorTxt2
namespace Go.Proofs.YtmlmaklighgiiaaDoor.V
set_option linter.unusedVariables false
set_option linter.unusedSimpArgs false
open Go Go.RowKit Go.Sort

theorem rdigit_any (c : Int) (w : World) : Calls Tryd.prog 53 #[.int .u8 c] w fun e w' => e = .returned (.bool (digB c)) ∧ w = w' := by
  unfold digB
  by_cases h1 : 48 ≤ c <;> by_cases h2 : c ≤ 57
  all_goals
    go_enter Tryd.func53, Tryd.ntmps53
    go_wp2
    go_ret
    exact ⟨by simp [h1, h2], rfl⟩
theorem rletter_any (c : Int) (w : World) : Calls Tryd.prog 54 #[.int .u8 c] w fun e w' => e = .returned (.bool (letB c)) ∧ w = w' := by
  unfold letB
  by_cases h1 : 97 ≤ c <;> by_cases h2 : c ≤ 122
  all_goals
    go_enter Tryd.func54, Tryd.ntmps54
    go_wp2
    go_ret
    exact ⟨by simp [h1, h2], rfl⟩

set_option maxHeartbeats 1000000 in
theorem rLower_any (s : ByteArray) (w : World) (hs : s.size ≤ 1000000000) : Calls Tryd.prog 26 #[.string s] w fun e w' => e = .returned (.string ⟨(lowL s.data.toList).toArray⟩) ∧ Below w.heap.size w w' := by
  have hconv := Lib.run_convert_string_bytes (P := Tryd.prog) w 9 40 5 s Tryd.underlying9 Tryd.underlying40 Tryd.underlying5
  have HR := Lib.hid (BRow.new w s 5)
  have HB := Lib.hid (below_bytes w 5 s)
  have HS := Lib.hid (Lib.bytesWorld_size w 5 s)
  have HSZ : Hid (s.data.toList.length = s.size) := Lib.hid (by simp)
  generalize grownCap w s.size 0 5 = cap at hconv
  generalize Lib.bytesWorld w 5 s = W0 at *
  go_enter Tryd.func26, Tryd.ntmps26
  go_wp2_with fail
  go_loopw [9] (fun i wr => ∃ k : Nat, k ≤ s.size ∧ i = .int .i64 k ∧ Hid (BRow wr w.heap.size (lowTo s.data.toList k)) ∧ Hid (Below w.heap.size w wr)) (fun i _ => s.size - (intOf i).toNat)
  case atStart => exact ⟨0, Nat.zero_le _, rfl, Lib.hid (by rw [lowTo_zero]; exact HR.out), HB⟩
  case round =>
    obtain ⟨k, hk, rfl, HRk, HBk⟩ := hrel
    by_cases hlt : k < s.size
    · obtain ⟨x, hx⟩ : ∃ x, s.data.toList[k]? = some x := ⟨_, List.getElem?_eq_getElem (by rw [HSZ.out]; exact hlt)⟩
      have hc : wr.cell? ⟨w.heap.size, k, none⟩ = some (.int .u8 x.toNat) := HRk.out.1 k x (by rw [lowTo_at]; exact hx)
      have hf : wr.frozen? ⟨w.heap.size, k, none⟩ = false := HRk.out.2 k (by rw [lowTo_len, HSZ.out]; exact hlt)
      have hx1 : (x.toNat : Int) < 256 := by have := x.toNat_lt; omega
      have HSU := Lib.hid (lowTo_succ _ _ _ hx)
      have HX := Lib.hid hx
      clear hx
      by_cases hu1 : (65 : Int) ≤ x.toNat
      · by_cases hu2 : (x.toNat : Int) ≤ 90
        · have HL := Lib.hid (lowB_toNat_up (b := x) (by simp [upB, hu1, hu2]))
          go_wp2_with fail
          go_roundw
          case rel => exact ⟨k + 1, by omega, by go_num, Lib.hid (by rw [HSU.out, show (x.toNat : Int) + 32 = (lowB x).toNat by rw [HL.out]]; exact HRk.out.set _ (by rw [lowTo_len, HSZ.out]; exact hlt)), Lib.hid (HBk.out.setCell (Nat.le_refl _) _)⟩
          case measure => simp [intOf]; omega
        · have HL := Lib.hid (lowTo_same _ _ _ HX.out (by simp [upB, hu2]))
          go_wp2_with fail
          go_roundw
          case rel => exact ⟨k + 1, by omega, by go_num, Lib.hid (by rw [HL.out]; exact HRk.out), HBk⟩
          case measure => simp [intOf]; omega
      · have HL := Lib.hid (lowTo_same _ _ _ HX.out (by simp [upB, hu1]))
        go_wp2_with fail
        go_roundw
        case rel => exact ⟨k + 1, by omega, by go_num, Lib.hid (by rw [HL.out]; exact HRk.out), HBk⟩
        case measure => simp [intOf]; omega
    · have hback : (convert 40 9 (.slice (some ⟨w.heap.size, 0, none⟩) s.size cap)).run Tryd.prog wr = .ok (.string ⟨(lowL s.data.toList).toArray⟩) wr := by
        have h := run_convert_bytes_back (P := Tryd.prog) wr 40 9 5 ⟨w.heap.size, 0, none⟩ cap (lowTo s.data.toList k) Tryd.underlying40 Tryd.underlying5 Tryd.underlying9 (fun j hj => by
          have h2 := HRk.out.1 j _ (List.getElem?_eq_getElem hj)
          rw [Go.WideShapes.add_plain, Nat.zero_add]
          exact h2)
        rw [lowTo_len, HSZ.out, lowTo_all _ (by rw [HSZ.out]; omega)] at h
        exact h
      go_wp2_with fail
      go_ret
      exact ⟨rfl, HBk.out⟩

/-- The first place of a byte. -/
def findL (c : UInt8) : List UInt8 → Int
  | [] => -1
  | b :: l => if b = c then 0 else if findL c l < 0 then -1 else findL c l + 1
theorem findL_cases (c : UInt8) : ∀ l, (findL c l = -1 ∧ ∀ (j : Nat) (x : UInt8), l[j]? = some x → x ≠ c) ∨ ∃ k : Nat, findL c l = k ∧ l[k]? = some c ∧ ∀ (j : Nat) (x : UInt8), j < k → l[j]? = some x → x ≠ c
  | [] => .inl ⟨rfl, fun j x h => by simp at h⟩
  | b :: l => by
    unfold findL
    by_cases hb : b = c
    · subst hb
      exact .inr ⟨0, by simp, rfl, fun j x hj => absurd hj (by omega)⟩
    · rw [if_neg hb]
      rcases findL_cases c l with ⟨h, hn⟩ | ⟨k, h, hk, hn⟩
      · left
        rw [h]
        refine ⟨rfl, fun j x hj => ?_⟩
        cases j with
        | zero => obtain rfl : b = x := by simpa using hj
                  exact hb
        | succ j => exact hn j x (by simpa using hj)
      · right
        rw [h, if_neg (by omega)]
        refine ⟨k + 1, by omega, by simpa using hk, fun j x hj hx => ?_⟩
        cases j with
        | zero => obtain rfl : b = x := by simpa using hx
                  exact hb
        | succ j => exact hn j x (by omega) (by simpa using hx)
theorem findL_is {c : UInt8} {l : List UInt8} {k : Nat} (hk : l[k]? = some c) (hn : ∀ (j : Nat) (x : UInt8), j < k → l[j]? = some x → x ≠ c) : findL c l = k := by
  rcases findL_cases c l with ⟨h, h1⟩ | ⟨k', h, hk', hn'⟩
  · exact absurd rfl (h1 k c hk)
  · rcases Nat.lt_trichotomy k k' with e | e | e
    · exact absurd rfl (hn' k c e hk)
    · rw [h, e]
    · exact absurd rfl (hn k' c e hk')
theorem findL_no {c : UInt8} {l : List UInt8} (hn : ∀ (j : Nat) (x : UInt8), j < l.length → l[j]? = some x → x ≠ c) : findL c l = -1 := by
  rcases findL_cases c l with ⟨h, h1⟩ | ⟨k', h, hk', hn'⟩
  · exact h
  · exact absurd rfl (hn k' c (List.getElem?_eq_some_iff.1 hk').1 hk')

set_option maxHeartbeats 1000000 in
theorem rfind_any (s : ByteArray) (c : UInt8) (w : World) (hs : s.size ≤ 1000000000) : Calls Tryd.prog 27 #[.string s, .int .u8 c.toNat] w fun e w' => e = .returned (.int .i64 (findL c s.data.toList)) ∧ w = w' := by
  have HSZ : Hid (s.data.toList.length = s.size) := Lib.hid (by simp)
  go_enter Tryd.func27, Tryd.ntmps27
  go_wp2
  go_loop [5] (fun i => ∃ k : Nat, k ≤ s.size ∧ i = .int .i64 k ∧ Hid (∀ (j : Nat) (x : UInt8), j < k → s.data.toList[j]? = some x → x ≠ c)) (fun i => s.size - (intOf i).toNat)
  case atStart => exact ⟨0, Nat.zero_le _, rfl, Lib.hid (fun j x hj => absurd hj (by omega))⟩
  case round =>
    obtain ⟨k, hk, rfl, HA⟩ := hrel
    by_cases hlt : k < s.size
    · have HX := Lib.hid (byteAt hlt)
      by_cases h1 : s[k] = c
      · have HF : Hid (findL c s.data.toList = k) := Lib.hid (findL_is (by rw [HX.out, h1]) HA.out)
        have h2 : (s[k].toNat : Int) = c.toNat := by rw [h1]
        go_wp2
        go_ret
        exact ⟨ret_int (by rw [HF.out]), rfl⟩
      · have h2 : ¬ (s[k].toNat : Int) = c.toNat := fun e => h1 (UInt8.toNat_inj.1 (by omega))
        have h3 : ((s[k].toNat : Int) == (c.toNat : Int)) = false := by simpa using h2
        go_wp2
        go_round
        case rel => exact ⟨k + 1, by omega, by go_num, Lib.hid (fun j x hj hx => by
            by_cases e : j = k
            · subst e
              rw [HX.out] at hx
              obtain rfl := Option.some.inj hx
              exact h1
            · exact HA.out j x (by omega) hx)⟩
        case measure => simp [intOf]; omega
    · have HF : Hid (findL c s.data.toList = -1) := Lib.hid (findL_no (fun j x hj hx => HA.out j x (by rw [HSZ.out] at hj; omega) hx))
      go_wp2
      go_ret
      exact ⟨ret_int (by rw [HF.out]), rfl⟩
end Go.Proofs.YtmlmaklighgiiaaDoor.V
