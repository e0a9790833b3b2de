/-
  The walks of the small functions under version.Compare.
-/
import Derived.Test.YtkmoaeckabjgnaaDoorProg
import Derived.Test.YtkmoaeckabjgnaaDoorRead
import Derived.Test.YtkmoaeckabjgnaaDoorRegion
import Derived.WalkKit
import Derived.WalkSpells
import Derived.WalkLawsBesides
import Derived.Lib.Hide
import Derived.Outline
import Derived.BigQuiet
import Derived.Deep.QuietTactic
import Derived.Deep.RegionWith
namespace Go.Proofs.YtkmoaeckabjgnaaDoor.V
set_option linter.unusedVariables false
set_option linter.unusedSimpArgs false
open Go Go.RowKit Go.Sort

theorem ret_bool {a b : Bool} (h : a = b) : Ending.returned (.bool a) = .returned (.bool b) := by rw [h]

theorem ret_int {a b : Int} (h : a = b) : Ending.returned (.int .i64 a) = .returned (.int .i64 b) := by rw [h]
theorem cls0 {l : List UInt8} (h : (l == [100, 101, 118]) = true) : 0 = cls l := by unfold cls; rw [if_pos (by simpa using h)]
theorem cls2 {l : List UInt8} (h : (l == [100, 101, 118]) = false) (h2 : l.isEmpty = true) : 2 = cls l := by
  unfold cls
  rw [if_neg (by simpa using h), if_pos (by simpa using h2)]
theorem cls3 {l : List UInt8} (h : (l == [100, 101, 118]) = false) (h2 : l.isEmpty = false) (h3 : (l == [112, 111, 115, 116]) = true) : 3 = cls l := by
  unfold cls
  rw [if_neg (by simpa using h), if_neg (by simpa using h2), if_pos (by simpa using h3)]
theorem cls1 {l : List UInt8} (h : (l == [100, 101, 118]) = false) (h2 : l.isEmpty = false) (h3 : (l == [112, 111, 115, 116]) = false) : 1 = cls l := by
  unfold cls
  rw [if_neg (by simpa using h), if_neg (by simpa using h2), if_neg (by simpa using h3)]
theorem class_any (x : Item) (w : World) : Calls Tryd.prog 91 #[.agg #[.int .i64 x.n, .string x.word]] w fun e w' => e = .returned (.int .i64 (cls x.w)) ∧ Below w.heap.size w w' := by
  go_enter Tryd.func91, Tryd.ntmps91
  go_wp2
  all_goals go_ret
  · exact ⟨ret_int (cls0 (by assumption)), (Below.refl _ _).alloc (Nat.le_refl _) _⟩
  · exact ⟨ret_int (cls2 (by assumption) (by assumption)), (Below.refl _ _).alloc (Nat.le_refl _) _⟩
  · exact ⟨ret_int (cls3 (by assumption) (by assumption) (by assumption)), (Below.refl _ _).alloc (Nat.le_refl _) _⟩
  · exact ⟨ret_int (cls1 (by assumption) (by assumption) (by assumption)), (Below.refl _ _).alloc (Nat.le_refl _) _⟩

theorem isNaNInt_any (a : Int) (w : World) : Calls Tryd.prog 63 #[.int .i64 a] w fun e w' => e = .returned (.bool false) ∧ w = w' := by
  go_enter Tryd.func63, Tryd.ntmps63
  go_wp2
  go_ret
  exact ⟨by simp, rfl⟩
theorem isNaNStr_any (a : ByteArray) (w : World) : Calls Tryd.prog 99 #[.string a] w fun e w' => e = .returned (.bool false) ∧ w = w' := by
  go_enter Tryd.func99, Tryd.ntmps99
  go_wp2
  go_ret
  exact ⟨by simp, rfl⟩
theorem cmpI_lt {a b : Int} (h : a < b) : -1 = cmpI a b := by unfold cmpI; rw [if_pos h]
theorem cmpI_gt {a b : Int} (h : b < a) : 1 = cmpI a b := by unfold cmpI; rw [if_neg (by omega), if_pos h]
theorem cmpI_eq {a b : Int} (h : b ≤ a) (h2 : a ≤ b) : 0 = cmpI a b := by unfold cmpI; rw [if_neg (by omega), if_neg (by omega)]
theorem cmpInt_any (a b : Int) (w : World) : Calls Tryd.prog 44 #[.int .i64 a, .int .i64 b] w fun e w' => e = .returned (.int .i64 (cmpI a b)) ∧ w = w' := by
  go_enter Tryd.func44, Tryd.ntmps44
  go_wp2_with (go_at_call 63; refine (isNaNInt_any _ _).mono ?_; rintro e w' ⟨rfl, rfl⟩)
  all_goals go_ret
  · exact ⟨ret_int (cmpI_lt (by assumption)), rfl⟩
  · exact ⟨ret_int (cmpI_gt (by assumption)), rfl⟩
  · exact ⟨ret_int (cmpI_eq (by assumption) (by assumption)), rfl⟩
theorem cmpS_lt {a b : List UInt8} (h : Op.bytesLess a b = true) : -1 = cmpL a b := by rw [cmpL_less] at h; exact (of_decide_eq_true h).symm
theorem cmpS_gt {a b : List UInt8} (h : Op.bytesLess a b = false) (h2 : (!a == b) = true) : 1 = cmpL a b := by
  rw [cmpL_less] at h
  have h3 := of_decide_eq_false h
  have h4 : ¬ cmpL a b = 0 := by rw [cmpL_eq]; simpa using h2
  rcases cmpL_range a b with e | e | e
  · exact absurd e h3
  · exact absurd e h4
  · exact e.symm
theorem cmpS_eq {a b : List UInt8} (h2 : (!a == b) = false) : 0 = cmpL a b := by
  have : a = b := by simpa using h2
  exact ((cmpL_eq a b).2 this).symm
theorem cmpStr_any (a b : ByteArray) (w : World) : Calls Tryd.prog 92 #[.string a, .string b] w fun e w' => e = .returned (.int .i64 (cmpL a.toList b.toList)) ∧ w = w' := by
  go_enter Tryd.func92, Tryd.ntmps92
  go_wp2_with (go_at_call 99; refine (isNaNStr_any _ _).mono ?_; rintro e w' ⟨rfl, rfl⟩)
  all_goals go_ret
  · exact ⟨ret_int (cmpS_lt (by assumption)), rfl⟩
  · exact ⟨ret_int (cmpS_gt (by assumption) (by assumption)), rfl⟩
  · exact ⟨ret_int (cmpS_eq (by assumption)), rfl⟩

theorem orL_at {l : List Int} {k : Nat} {x : Int} (h : l[k]? = some x) : orL (l.drop k) = if x = 0 then orL (l.drop (k + 1)) else x := by
  have hk := (List.getElem?_eq_some_iff.1 h)
  obtain ⟨hlt, hx⟩ := hk
  rw [List.drop_eq_getElem_cons hlt, hx]
  rfl
set_option maxHeartbeats 400000 in
theorem cmpOr_any (b n c : Nat) (l : List Int) (w : World) (hl : l.length = n) (hn : n ≤ 1000000) (hc : ∀ k x, l[k]? = some x → w.cell? ⟨b, k, none⟩ = some (.int .i64 x)) :
    Calls Tryd.prog 43 #[.slice (some ⟨b, 0, none⟩) n c] w fun e w' => e = .returned (.int .i64 (orL l)) ∧ w = w' := by
  have HL := Lib.hid hl
  clear hl
  have HC := Lib.hid hc
  clear hc
  go_enter Tryd.func43, Tryd.ntmps43
  go_wp2
  go_loop [8] (fun i => ∃ k : Nat, k ≤ n ∧ i = .int .i64 k ∧ Hid (orL l = orL (l.drop k))) (fun i => n - (intOf i).toNat)
  case atStart => exact ⟨0, Nat.zero_le _, rfl, Lib.hid rfl⟩
  case round =>
    obtain ⟨k, hk, rfl, HO⟩ := hrel
    by_cases hlt : k < n
    · obtain ⟨x, hx⟩ : ∃ x, l[k]? = some x := ⟨l[k]'(by rw [HL.out]; exact hlt), List.getElem?_eq_getElem (by rw [HL.out]; exact hlt)⟩
      have hcell := HC.out k x hx
      have HX := Lib.hid (orL_at hx)
      clear hx
      by_cases hz : x = 0
      · subst hz
        go_wp2
        go_round
        case rel => exact ⟨k + 1, by omega, by go_num, Lib.hid (by rw [HO.out, HX.out, if_pos rfl])⟩
        case measure => simp [intOf]; omega
      · have hzb : (x == 0) = false := by simpa using hz
        have hzn : (x != 0) = true := by simpa using hz
        go_wp2
        go_ret
        exact ⟨ret_int (by rw [HO.out, HX.out, if_neg hz]), rfl⟩
    · have HF : Hid (orL l = 0) := Lib.hid (by rw [HO.out, List.drop_eq_nil_of_le (by rw [HL.out]; omega)]; rfl)
      go_wp2
      go_ret
      exact ⟨ret_int (by rw [HF.out]), rfl⟩
end Go.Proofs.YtkmoaeckabjgnaaDoor.V
