/-
  The walks of version.compareItems, at, rows, compareComponents, Compare.
-/
import Derived.Test.YtkmoaeckabjgnaaDoorCmp1
import Derived.Test.YtkmoaeckabjgnaaDoorOwn
namespace Go.Proofs.YtkmoaeckabjgnaaDoor.V
set_option linter.unusedVariables false
set_option linter.unusedSimpArgs false
open Go Go.RowKit Go.Sort

theorem orL3 (x y z : Int) : orL [x, y, z] = or2 x (or2 y z) := by
  unfold orL or2 orL orL orL
  split
  · split
    · split
      · omega
      · rfl
    · rfl
  · rfl

theorem news_ints (w : World) (l : List Int) (t : TypeId) (k : Nat) (x : Int) (h : l[k]? = some x) : (w.alloc (.cells (l.map (Value.int .i64)).toArray t)).cell? ⟨w.heap.size, k, none⟩ = some (.int .i64 x) := by
  rw [World.cell?_alloc_new]
  simp [h]

set_option maxHeartbeats 1000000 in
theorem cmpItems_any (x y : Item) (w : World) :
    Calls Tryd.prog 81 #[.agg #[.int .i64 x.n, .string x.word], .agg #[.int .i64 y.n, .string y.word]] w fun e w' => e = .returned (.int .i64 (cmpItem x y)) ∧ Below w.heap.size w w' := by
  have HF : Hid (orL [cmpI (cls x.w) (cls y.w), cmpL x.word.toList y.word.toList, cmpI x.n y.n] = cmpItem x y) := Lib.hid (orL3 _ _ _)
  go_enter Tryd.func81, Tryd.ntmps81
  go_wp2
  have hb : Below w.heap.size w ((w.alloc (.cells #[.int .i64 x.n, .string x.word] 124)).alloc (.cells #[.int .i64 y.n, .string y.word] 124)) := ((Below.refl _ _).alloc (Nat.le_refl _) _).alloc (by simp) _
  obtain ⟨k0, k1⟩ := cells_two w #[.int .i64 x.n, .string x.word] #[.int .i64 y.n, .string y.word] 124 124
  have hsz : w.heap.size + 2 = ((w.alloc (.cells #[.int .i64 x.n, .string x.word] 124)).alloc (.cells #[.int .i64 y.n, .string y.word] 124)).heap.size := by simp
  generalize (w.alloc (.cells #[.int .i64 x.n, .string x.word] 124)).alloc (.cells #[.int .i64 y.n, .string y.word] 124) = W at *
  have HB := Lib.hid hb
  have HS := Lib.hid hsz
  clear hb hsz
  have c0 := cell_regrown (k0 0)
  have c1 := cell_regrown (k0 1)
  have d0 := cell_regrown (k1 0)
  have d1 := cell_regrown (k1 1)
  clear k0 k1
  refine wp_region_tail 15 (by kernel_rfl) (by kernel_rfl) ?_
  simp only [List.take_succ_cons, List.take_zero, List.drop_succ_cons, List.drop_zero]
  repeat (first | go_big_quiet_step ((first | (go_at_call 91; exact Calls.regrown_of (class_any _ _)) | (go_at_call 44; exact regrown_same (cmpInt_any _ _ _)) | (go_at_call 92; exact regrown_same (cmpStr_any _ _ _)))) | quiet_step ((first | (go_at_call 91; exact Calls.regrown_of (class_any _ _)) | (go_at_call 44; exact regrown_same (cmpInt_any _ _ _)) | (go_at_call 92; exact regrown_same (cmpStr_any _ _ _)))))
  refine wpQuiet_nil ?_
  intro _ hwq1
  obtain ⟨⟨q1, o1⟩, hwq1⟩ := hwq1
  subst hwq1
  have hb2 := Lib.hid (HB.out.trans ((below_regrown W q1 o1).mono (by rw [← HS.out]; omega)))
  clear c0 c1 d0 d1
  generalize grow (redrawn W q1) o1 = W2 at *
  go_wp2_with (go_at_call 43; refine (cmpOr_any _ 3 3 [_, _, _] _ rfl (by omega) (news_ints _ [_, _, _] _)).mono ?_; rintro e w' ⟨rfl, rfl⟩)
  go_ret
  exact ⟨ret_int HF.out, hb2.out.alloc hb2.out.size _⟩
end Go.Proofs.YtkmoaeckabjgnaaDoor.V
