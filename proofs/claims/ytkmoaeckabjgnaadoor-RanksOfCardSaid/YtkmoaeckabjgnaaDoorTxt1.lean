/-
  The walks of glob.upper, glob.Lower, ints.digits, ints.Small, version.number, isDigit, isLetter.
-/
import Derived.Test.YtkmoaeckabjgnaaDoorCmp1
import Derived.Test.YtkmoaeckabjgnaaDoorTPlain
import Derived.Lib.ConvBytes
import Derived.Laws.IdiomStrings
namespace Go.Proofs.YtkmoaeckabjgnaaDoor.V
set_option linter.unusedVariables false
set_option linter.unusedSimpArgs false
open Go Go.RowKit Go.Sort

theorem upper_any (c : Int) (w : World) : Calls Tryd.prog 74 #[.int .u8 c] w fun e w' => e = .returned (.bool (upB c)) ∧ w = w' := by
  unfold upB
  by_cases h1 : 65 ≤ c <;> by_cases h2 : c ≤ 90
  all_goals
    go_enter Tryd.func74, Tryd.ntmps74
    go_wp2
    go_ret
    exact ⟨by simp [h1, h2], rfl⟩
theorem isDigit_any (c : Int) (w : World) : Calls Tryd.prog 89 #[.int .u8 c] w fun e w' => e = .returned (.bool (digB c)) ∧ w = w' := by
  unfold digB
  by_cases h1 : 48 ≤ c <;> by_cases h2 : c ≤ 57
  all_goals
    go_enter Tryd.func89, Tryd.ntmps89
    go_wp2
    go_ret
    exact ⟨by simp [h1, h2], rfl⟩
theorem isLetter_any (c : Int) (w : World) : Calls Tryd.prog 88 #[.int .u8 c] w fun e w' => e = .returned (.bool (letB c)) ∧ w = w' := by
  unfold letB
  by_cases h1 : 97 ≤ c <;> by_cases h2 : c ≤ 122
  all_goals
    go_enter Tryd.func88, Tryd.ntmps88
    go_wp2
    go_ret
    exact ⟨by simp [h1, h2], rfl⟩
/-- A row of bytes that may be written. -/
def BRow (w : World) (g : Nat) (l : List UInt8) : Prop :=
  (∀ j x, l[j]? = some x → w.cell? ⟨g, j, none⟩ = some (.int .u8 x.toNat)) ∧ ∀ j, j < l.length → w.frozen? ⟨g, j, none⟩ = false
theorem BRow.set {w : World} {g k : Nat} {l : List UInt8} (h : BRow w g l) (y : UInt8) (hk : k < l.length) : BRow (w.setCell ⟨g, k, none⟩ (.int .u8 y.toNat)) g (l.set k y) := by
  refine ⟨fun j x hj => ?_, fun j hj => ?_⟩
  · by_cases e : j = k
    · subst e
      rw [List.getElem?_set_self hk] at hj
      obtain rfl : y = x := by simpa using hj
      obtain ⟨u, hu⟩ : ∃ u, w.cell? ⟨g, j, none⟩ = some u := ⟨_, h.1 j _ (List.getElem?_eq_getElem hk)⟩
      exact World.cell?_setCell_same _ _ _ hu
    · rw [List.getElem?_set_ne (Ne.symm e)] at hj
      rw [World.cell?_setCell_other _ _ _ _ (fun h => e (Addr.mk.inj h).2.1.symm)]
      exact h.1 j x hj
  · rw [List.length_set] at hj
    have := h.2 j hj
    rw [World.frozen?_setCell]
    exact this
theorem BRow.new (w : World) (s : ByteArray) (e : TypeId) : BRow (Lib.bytesWorld w e s) w.heap.size s.data.toList := by
  refine ⟨fun j x hj => ?_, fun j hj => ?_⟩
  · have hl := (List.getElem?_eq_some_iff.1 hj).1
    rw [Lib.bytesWorld_cell w e s j (by simpa using hl)]
    simp [List.getD, hj]
  · have h := Lib.bytesWorld_at_new w e s
    have hl : j < (Lib.bytesCells w e s).size := by
      simp [Lib.bytesCells] at hj ⊢
      omega
    unfold World.frozen?
    rw [h]
    simp
    omega
theorem below_bytes (w : World) (e : TypeId) (s : ByteArray) : Below w.heap.size w (Lib.bytesWorld w e s) :=
  ⟨by rfl, by rfl, by rfl, by rw [Lib.bytesWorld_size]; omega, fun k hk => Lib.bytesWorld_at_old w e s k hk⟩

set_option maxHeartbeats 1000000 in
theorem Lower_any (s : ByteArray) (w : World) (hs : s.size ≤ 1000000000) : Calls Tryd.prog 64 #[.string s] w fun e w' => e = .returned (.string ⟨(lowL s.data.toList).toArray⟩) ∧ Below w.heap.size w w' := by
  have hconv := Lib.run_convert_string_bytes (P := Tryd.prog) w 9 136 5 s Tryd.underlying9 Tryd.underlying136 Tryd.underlying5
  have HR := Lib.hid (BRow.new w s 5)
  have HB := Lib.hid (below_bytes w 5 s)
  have HS := Lib.hid (Lib.bytesWorld_size w 5 s)
  have HSZ : Hid (s.data.toList.length = s.size) := Lib.hid (by simp)
  generalize grownCap w s.size 0 5 = cap at hconv
  generalize Lib.bytesWorld w 5 s = W0 at *
  go_enter Tryd.func64, Tryd.ntmps64
  go_wp2_with fail
  go_loopw [10] (fun i wr => ∃ k : Nat, k ≤ s.size ∧ i = .int .i64 k ∧ Hid (BRow wr w.heap.size (lowTo s.data.toList k)) ∧ Hid (Below w.heap.size w wr)) (fun i _ => s.size - (intOf i).toNat)
  case atStart => exact ⟨0, Nat.zero_le _, rfl, Lib.hid (by rw [lowTo_zero]; exact HR.out), HB⟩
  case round =>
    obtain ⟨k, hk, rfl, HRk, HBk⟩ := hrel
    by_cases hlt : k < s.size
    · obtain ⟨x, hx⟩ : ∃ x, s.data.toList[k]? = some x := ⟨_, List.getElem?_eq_getElem (by rw [HSZ.out]; exact hlt)⟩
      have hc : wr.cell? ⟨w.heap.size, k, none⟩ = some (.int .u8 x.toNat) := HRk.out.1 k x (by rw [lowTo_at]; exact hx)
      have hf : wr.frozen? ⟨w.heap.size, k, none⟩ = false := HRk.out.2 k (by rw [lowTo_len, HSZ.out]; exact hlt)
      have hx1 : (x.toNat : Int) < 256 := by have := x.toNat_lt; omega
      have HSU := Lib.hid (lowTo_succ _ _ _ hx)
      have HX := Lib.hid hx
      clear hx
      by_cases hu : upB x.toNat = true
      · have hu' := hu
        simp only [upB, Bool.and_eq_true, decide_eq_true_eq] at hu'
        obtain ⟨hu1, hu2⟩ := hu'
        have HL := Lib.hid (lowB_toNat_up hu)
        go_wp2_with (go_at_call 74; refine (upper_any _ _).mono ?_; rintro e w1 ⟨rfl, rfl⟩)
        go_roundw
        case rel => exact ⟨k + 1, by omega, by go_num, Lib.hid (by rw [HSU.out, show (x.toNat : Int) - 65 + 97 = (lowB x).toNat by rw [HL.out]; omega]; exact HRk.out.set _ (by rw [lowTo_len, HSZ.out]; exact hlt)), Lib.hid (HBk.out.setCell (Nat.le_refl _) _)⟩
        case measure => simp [intOf]; omega
      · have hu0 : upB x.toNat = false := by simpa using hu
        have HL := Lib.hid (lowTo_same _ _ _ HX.out hu0)
        go_wp2_with (go_at_call 74; refine (upper_any _ _).mono ?_; rintro e w1 ⟨rfl, rfl⟩)
        go_roundw
        case rel => exact ⟨k + 1, by omega, by go_num, Lib.hid (by rw [HL.out]; exact HRk.out), HBk⟩
        case measure => simp [intOf]; omega
    · have hback : (convert 136 9 (.slice (some ⟨w.heap.size, 0, none⟩) s.size cap)).run Tryd.prog wr = .ok (.string ⟨(lowL s.data.toList).toArray⟩) wr := by
        have h := run_convert_bytes_back (P := Tryd.prog) wr 136 9 5 ⟨w.heap.size, 0, none⟩ cap (lowTo s.data.toList k) Tryd.underlying136 Tryd.underlying5 Tryd.underlying9 (fun j hj => by
          have h2 := HRk.out.1 j _ (List.getElem?_eq_getElem hj)
          rw [Go.WideShapes.add_plain, Nat.zero_add]
          exact h2)
        rw [lowTo_len, HSZ.out, lowTo_all _ (by rw [HSZ.out]; omega)] at h
        exact h
      go_wp2_with fail
      go_ret
      exact ⟨rfl, HBk.out⟩
theorem byteAt {s : ByteArray} {k : Nat} (h : k < s.size) : s.data.toList[k]? = some s[k] := by
  rw [List.getElem?_eq_getElem (by simpa using h)]
  rfl

set_option maxHeartbeats 1000000 in
theorem digits_any (s : ByteArray) (w : World) (hs : s.size ≤ 1000000000) : Calls Tryd.prog 83 #[.string s, .int .i64 0] w fun e w' => e = .returned (.int .i64 (runN dig s.data.toList)) ∧ w = w' := by
  have HSZ : Hid (s.data.toList.length = s.size) := Lib.hid (by simp)
  go_enter Tryd.func83, Tryd.ntmps83
  go_wp2
  go_loop [1] (fun i => ∃ k : Nat, k ≤ s.size ∧ i = .int .i64 k ∧ Hid (∀ j x, j < k → s.data.toList[j]? = some x → dig x = true)) (fun i => s.size - (intOf i).toNat)
  case atStart => exact ⟨0, Nat.zero_le _, rfl, Lib.hid (fun j x hj => absurd hj (by omega))⟩
  case round =>
    obtain ⟨k, hk, rfl, HA⟩ := hrel
    by_cases hlt : k < s.size
    · have HX := Lib.hid (byteAt hlt)
      by_cases h1 : 48 ≤ (s[k].toNat : Int)
      · by_cases h2 : (s[k].toNat : Int) ≤ 57
        · have HD : Hid (dig s[k] = true) := Lib.hid (by simp [dig, digB, h1, h2])
          go_wp2
          go_round
          case rel => exact ⟨k + 1, by omega, by go_num, Lib.hid (fun j x hj hx => by
            by_cases e : j = k
            · subst e
              rw [HX.out] at hx
              obtain rfl := Option.some.inj hx
              exact HD.out
            · exact HA.out j x (by omega) hx)⟩
          case measure => simp [intOf]; omega
        · have HF : Hid (runN dig s.data.toList = k) := Lib.hid (runN_at _ _ _ HA.out (by rw [HSZ.out]; exact hk) (fun x hx => by
            rw [HX.out] at hx
            obtain rfl := Option.some.inj hx
            simp [dig, digB, h2]))
          go_wp2
          go_ret
          exact ⟨ret_int (by rw [HF.out]), rfl⟩
      · have HF : Hid (runN dig s.data.toList = k) := Lib.hid (runN_at _ _ _ HA.out (by rw [HSZ.out]; exact hk) (fun x hx => by
            rw [HX.out] at hx
            obtain rfl := Option.some.inj hx
            simp [dig, digB, h1]))
        go_wp2
        go_ret
        exact ⟨ret_int (by rw [HF.out]), rfl⟩
    · have HF : Hid (runN dig s.data.toList = k) := Lib.hid (runN_at _ _ _ HA.out (by rw [HSZ.out]; exact hk) (fun x hx => by
            rw [List.getElem?_eq_none (by rw [HSZ.out]; omega)] at hx
            cases hx))
      go_wp2
      go_ret
      exact ⟨ret_int (by rw [HF.out]), rfl⟩
end Go.Proofs.YtkmoaeckabjgnaaDoor.V
