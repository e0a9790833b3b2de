/-
  The walk of strings.IndexRune at a rune that is no byte of ASCII, in a text of ASCII: it isn't there.
-/
import Derived.Test.YtkmoaeckabjgnaaDoorTxt1
import Derived.Test.YtkmoaeckabjgnaaDoorShelf
import Derived.Laws.Runes
import Derived.Laws.RangeAny
import Derived.WalkMore
import Derived.Lib.OthersKept
import Derived.Deep.LoopGhost
namespace Go.Proofs.YtkmoaeckabjgnaaDoor.V
set_option linter.unusedVariables false
set_option linter.unusedSimpArgs false
open Go Go.RowKit Go.Sort

theorem below_iter (w : World) (s : ByteArray) (p : Nat) : Below w.heap.size w (w.iter s p) :=
  (Below.refl _ _).alloc (Nat.le_refl _) (.stringIter s p)

set_option maxHeartbeats 1000000 in
set_option maxRecDepth 1000000 in
theorem IndexRune_err (s : ByteArray) (w : World) (hascii : ∀ (j : Nat) b, s.data.toList[j]? = some b → b.toNat < 128) :
    Calls Tryd.prog 84 #[.string s, .int .i32 65533] w fun e w' => e = .returned (.int .i64 (-1)) ∧ Below w.heap.size w w' := by
  have HA := Lib.hid hascii
  clear hascii
  go_enter Tryd.func84, Tryd.ntmps84
  go_wp2_with fail
  go_loopg [5, 6] s.size (fun g _ _ wx => ∃ i : Nat, i + g = s.size ∧ wx = w.iter s i)
  case atStart => exact ⟨0, by omega, rfl⟩
  case round =>
    obtain ⟨i, hig, rfl⟩ := hrel
    cases gk with
    | zero =>
      obtain rfl : i = s.size := by omega
      have hnx := run_next_end (P := Tryd.prog) w s s.size
      go_wp2_with fail
      go_ret
      exact ⟨rfl, below_iter _ _ _⟩
    | succ g =>
      have hi : i < s.size := by omega
      obtain ⟨x, hx⟩ : ∃ x : UInt8, s[i]'hi = x := ⟨_, rfl⟩
      have hx128 : x.toNat < 128 := HA.out i x (by rw [byteAt hi, hx])
      have hnx := fun ty => run_next_ascii (P := Tryd.prog) w s i ty hi (by rw [hx]; exact hx128)
      rw [hx] at hnx
      clear hx
      go_wp2_with fail
      go_roundg g
      case measure => omega
      case rel => exact ⟨i + 1, by omega, rfl⟩

theorem toList_drop (s : ByteArray) (e : Nat) : (s.extract e s.size).data.toList = s.data.toList.drop e := by
  rw [Lib.extract_data, List.take_of_length_le (by simp)]
theorem idx_none {l : List UInt8} {c : UInt8} (h : ∀ b ∈ l, b ≠ c) : Lib.indexByte l c = -1 := by
  induction l with
  | nil => rfl
  | cons b l ih =>
    have h1 : (b == c) = false := by simpa using h b (by simp)
    unfold Lib.indexByte
    rw [h1, ih (fun x hx => h x (by simp [hx]))]
    rfl
theorem regrown_back {P : Program} {f : FuncId} {args : Array Value} {w : World} {d : Nat} {os : Array Obj} {v : Value}
    (h : Calls P f args (grow (redrawn w d) os) fun e w' => e = .returned v ∧ w' = grow (redrawn w d) os) : Calls P f args (grow (redrawn w d) os) fun e w'' => e = .returned v ∧ ∃ p : Regrown, w'' = grow (redrawn w p.d) p.os :=
  regrown_same (h.mono fun _ _ ⟨he, hw⟩ => ⟨he, hw.symm⟩)
set_option maxHeartbeats 1000000 in
set_option maxRecDepth 1000000 in
theorem IndexRune_high (s : ByteArray) (r : Int) (w : World) (hascii : ∀ b ∈ s.data.toList, b.toNat < 128) (h1 : 128 ≤ r) (hne : ¬ r = 65533) (hv : Utf8.valid r = true) :
    Calls Tryd.prog 84 #[.string s, .int .i32 r] w fun e w' => e = .returned (.int .i64 (-1)) ∧ Below w.heap.size w w' := by
  obtain ⟨f1, f2, f3⟩ := encode_facts r hv h1
  have HV : Hid (Lib.validRune r = true) := Lib.hid (by rw [Go.validRune_eq] at hv; exact hv)
  have hb : (r == 65533) = false := by simpa using hne
  obtain ⟨rs, HRS⟩ : ∃ rs, Hid (Utf8.encode r = rs) := ⟨_, Lib.hid rfl⟩
  rw [HRS.out] at f1 f2 f3
  have hrs := HRS.out
  obtain ⟨m, hm⟩ : ∃ m, rs.size = m + 1 := ⟨rs.size - 1, by omega⟩
  have hm3 : m ≤ 3 := by omega
  have hmr : m < rs.size := by omega
  have HX2 : Hid (128 ≤ rs[m].toNat) := Lib.hid (by
    have h := f3 (by omega)
    have e : rs.size - 1 = m := by omega
    simp only [e] at h
    exact h)
  clear f1 f2 f3 hv
  go_enter Tryd.func84, Tryd.ntmps84
  go_wp2_with (go_at_call 98; refine (Tryd.utf8_ValidRune _ _).mono ?_; rintro e w1 ⟨rfl, hw1⟩; rw [hw1, HV.out]; clear hw1)
  go_step3
  by_cases hlt : m < s.size
  · have HX1 : Hid (s[m].toNat < 128) := Lib.hid (hascii _ (List.mem_of_getElem? (byteAt hlt)))
    go_wp2_with fail
    refine wp_loop_rounds 1 ?_
    rw [rounds_succ]
    go_wp2_with fail
    go_step3
    go_wp2_with fail
    have HM := Lib.hid hm
    clear hm
    have x1 := HX1.out
    have x2 := HX2.out
    have x3 : ((s[m].toNat : Int) == (rs[m].toNat : Int)) = false := by simp; omega
    have x4 : ((s[m].toNat : Int) != (rs[m].toNat : Int)) = true := by simp; omega
    have y1 : (m : Int) < (s.size : Int) := by omega
    have y2 : (m : Int) < (rs.size : Int) := by have := HM.out; omega
    go_quiet (fail)
    go_wp2_with fail
    have HB1 : Hid (Below w.heap.size w (w.drewN nq)) := Lib.hid ⟨rfl, rfl, rfl, Nat.le_refl _, fun _ _ => rfl⟩
    generalize w.drewN nq = W1 at *
    have z1 : IntKind.i64.wrap ((m : Int) + 1) = (m : Int) + 1 := by rw [IntKind.wrap_i64]; omega
    have z2 : (0 : Int) ≤ (m : Int) + 1 := by omega
    have z3 : ((m : Int) + 1).toNat = m + 1 := by omega
    have z4 : (m : Int) + 1 ≤ (s.size : Int) := by omega
    have CI : Hid (∀ d os, Calls Tryd.prog 97 #[.string (s.extract (m + 1) s.size), .int .u8 rs[m].toNat] (grow (redrawn W1 d) os) fun e w'' => e = .returned (.int .i64 (-1)) ∧ ∃ p : Regrown, w'' = grow (redrawn W1 p.d) p.os) := Lib.hid (fun d os => regrown_back ((Tryd.strings_IndexByte _ _ _).mono (fun e w' ⟨he, hw⟩ => ⟨by
      rw [he, idx_none]
      intro b hb hbc
      rw [toList_drop] at hb
      have h3 := hascii b (List.mem_of_mem_drop hb)
      have h4 := HX2.out
      rw [hbc] at h3
      simp at h3
      omega, hw⟩)))
    refine wp_region_quiet_below (by kernel_rfl) (by kernel_rfl) ?_
    repeat (first | go_big_quiet_step ((go_at_call 97; exact CI.out _ _)) | quiet_step ((go_at_call 97; exact CI.out _ _)))
    refine wpQuiet_nil ?_
    intro _ hwq
    obtain ⟨⟨q, os⟩, hwq⟩ := hwq
    subst hwq
    have HB2 := Lib.hid (HB1.out.trans ((below_regrown W1 q os).mono HB1.out.size))
    generalize grow (redrawn W1 q) os = W2 at *
    go_wp2_with fail
    rw [Exit.noGoto_ret]
    go_simp
    go_ret
    exact ⟨rfl, HB2.out⟩
  · go_wp2_with fail
    refine wp_loop_rounds 1 ?_
    rw [rounds_succ]
    go_wp2_with fail
    rw [Exit.noGoto_ret]
    go_ret
    exact ⟨rfl, Below.refl _ _⟩

/-- What a rune of a text is that is no byte of ASCII, and what it takes. -/
theorem decode_high2 (s : ByteArray) (i : Nat) (h : i < s.size) (hb : 128 ≤ (s[i]'h).toNat) :
    128 ≤ (Utf8.decode s i).1 ∧ Utf8.valid ((Utf8.decode s i).1 : Int) = true ∧ 1 ≤ (Utf8.decode s i).2 ∧ i + (Utf8.decode s i).2 ≤ s.size ∧ ∀ j, i ≤ j → j < i + (Utf8.decode s i).2 → 128 ≤ (s.get! j).toNat := by
  have h0 : s.get! (i + 0) = s[i]'h := get_at s i h
  have hx : ∀ k, (s.get! (i + k)).toNat < 256 := fun k => (s.get! (i + k)).toNat_lt
  have x0 := hx 0; have x1 := hx 1; have x2 := hx 2; have x3 := hx 3
  have hn : ¬ (s.get! (i + 0)).toNat < 128 := by rw [h0]; omega
  have hl : ∀ n, 1 ≤ n → (∀ k, k < n → i + k < s.size → 128 ≤ (s.get! (i + k)).toNat) → i + n ≤ s.size → i + n ≤ s.size ∧ ∀ j, i ≤ j → j < i + n → 128 ≤ (s.get! j).toNat := fun n _ hk hle => ⟨hle, fun j h1 h2 => by
    obtain ⟨k, rfl⟩ : ∃ k, j = i + k := ⟨j - i, by omega⟩
    exact hk k (by omega) (by omega)⟩
  have one : 128 ≤ Utf8.runeError ∧ Utf8.valid (Utf8.runeError : Int) = true ∧ 1 ≤ 1 ∧ i + 1 ≤ s.size ∧ ∀ j, i ≤ j → j < i + 1 → 128 ≤ (s.get! j).toNat :=
    ⟨by decide, by decide, by omega, by omega, fun j h1 h2 => by
      have e : j = i + 0 := by omega
      rw [e]
      omega⟩
  simp only [Utf8.decode, hn, if_false]
  split
  · rename_i c1
    simp only [Bool.and_eq_true, decide_eq_true_eq, beq_iff_eq] at c1
    split
    · rename_i c2
      refine ⟨by omega, ?_, by omega, hl 2 (by omega) (fun k hk _ => ?_) (by omega)⟩
      · simp only [Utf8.valid, Bool.or_eq_true, Bool.and_eq_true, decide_eq_true_eq]
        omega
      · match k, hk with
        | 0, _ => omega
        | 1, _ => omega
    · exact one
  · split
    · rename_i c1
      simp only [Bool.and_eq_true, decide_eq_true_eq, beq_iff_eq] at c1
      split
      · rename_i c2
        simp only [Bool.and_eq_true, decide_eq_true_eq] at c2
        refine ⟨by omega, c2.2, by omega, hl 3 (by omega) (fun k hk _ => ?_) (by omega)⟩
        match k, hk with
        | 0, _ => omega
        | 1, _ => omega
        | 2, _ => omega
      · exact one
    · split
      · rename_i c1
        simp only [Bool.and_eq_true, decide_eq_true_eq, beq_iff_eq] at c1
        split
        · rename_i c2
          simp only [Bool.and_eq_true, decide_eq_true_eq] at c2
          refine ⟨by omega, c2.2, by omega, hl 4 (by omega) (fun k hk _ => ?_) (by omega)⟩
          match k, hk with
          | 0, _ => omega
          | 1, _ => omega
          | 2, _ => omega
          | 3, _ => omega
        · exact one
      · exact one

set_option maxHeartbeats 2000000 in
set_option maxRecDepth 1000000 in
/-- strings.IndexAny at a short text, whatever its bytes; chars: ASCII, two or more. -/
theorem IndexAny_short (s chars : ByteArray) (w : World) (h2 : 2 ≤ chars.size) (h8 : s.size ≤ 8) (hascii : ∀ b ∈ chars.data.toList, b.toNat < 128) :
    Calls Tryd.prog 77 #[.string s, .string chars] w fun e w' => e = .returned (.int .i64 (Lib.indexAny s.data.toList chars.data.toList)) ∧ Below w.heap.size w w' := by
  have HA := Lib.hid hascii
  have HA2 : Hid (∀ (j : Nat) b, chars.data.toList[j]? = some b → b.toNat < 128) := Lib.hid (fun j b h => hascii b (List.mem_of_getElem? h))
  clear hascii
  have hemp : chars.toList.isEmpty = false := by
    rw [Lib.toList_data]
    cases h : chars.data.toList with
    | nil => have := Lib.size_eq chars; rw [h, List.length_nil] at this; omega
    | cons _ _ => rfl
  have hn1 : ((chars.size : Int) == 1) = false := beq_eq_false_iff_ne.2 (by omega)
  have h8z : decide ((8 : Int) < (s.size : Int)) = false := decide_eq_false (by omega)
  have H8 := Lib.hid h8z
  clear h8z
  go_enter Tryd.func77, Tryd.ntmps77
  go_wp2_with (go_at_call 85; refine (Tryd.strings_shouldUseASCIISet _ _).mono ?_; rintro e w' ⟨rfl, hw⟩; rw [hw, H8.out]; clear hw)
  go_loopg [9, 10] s.size (fun g _ _ wx => ∃ i : Nat, i + g = s.size ∧ Hid (Below w.heap.size w wx) ∧ Hid (wx.heap[w.heap.size]? = some (.stringIter s i)) ∧ Hid (Lib.NoAny s.data.toList chars.data.toList i))
  case atStart => exact ⟨0, by omega, Lib.hid (below_iter _ _ _), Lib.hid (heap_alloc_new _ _), Lib.hid (Lib.NoAny.zero _ _)⟩
  case round =>
    obtain ⟨i, hig, HW, HI, HN⟩ := hrel
    have hlt0 : w.heap.size < wr.heap.size := (Array.getElem?_eq_some_iff.1 HI.out).1
    by_cases hi : i < s.size
    · have HIK := Lib.hid (fun p => Lib.iterAt_heap wr w.heap.size s i p HI.out)
      have HBI := Lib.hid (fun p => Lib.below_iterAt HW.out (Nat.le_refl _) s p)
      have HX := Lib.hid (byteAt hi)
      obtain ⟨x, hx⟩ : ∃ x : UInt8, s[i]'hi = x := ⟨_, rfl⟩
      rw [hx] at HX
      by_cases ha : x.toNat < 128
      · have hnx := fun ty => Lib.run_next_ascii_at (P := Tryd.prog) wr w.heap.size s i ty HI.out hi (by rw [hx]; exact ha)
        rw [hx] at hnx
        clear hx
        have hsz : (wr.iterAt w.heap.size s (i + 1)).heap.size = wr.heap.size := Lib.iterAt_size _ _ _ _
        have HIK1 := Lib.hid (HIK.out (i + 1))
        have HBI1 := Lib.hid (HBI.out (i + 1))
        have HSZ1 := Lib.hid hsz
        clear hsz HIK HBI
        generalize wr.iterAt w.heap.size s (i + 1) = W1 at *
        have hcon := Lib.contains_iff_indexByte chars.data.toList x
        have hback : ((x.toNat : Int)).toNat.toUInt8 = x := by simp
        have HBK := Lib.hid hback
        clear hback
        cases hin : chars.data.toList.contains x
        · rw [hin] at hcon
          have hlt : ¬ ((0 : Int) ≤ Lib.indexByte chars.data.toList x) := of_decide_eq_false hcon.symm
          have HIN := Lib.hid hin
          clear hcon hin
          go_wp2_with (go_at_call 84; refine (Tryd.strings_IndexRune_ascii _ _ _ (by omega) (by omega)).mono ?_; rintro e w' ⟨rfl, hw⟩; rw [hw, HBK.out]; clear hw)
          go_roundg (s.size - (i + 1))
          case measure => omega
          case rel => exact ⟨i + 1, by omega, HBI1, HIK1, Lib.hid (HN.out.succ HX.out HIN.out)⟩
        · rw [hin] at hcon
          have hge : (0 : Int) ≤ Lib.indexByte chars.data.toList x := of_decide_eq_true hcon.symm
          have HIN := Lib.hid hin
          clear hcon hin
          go_wp2_with (go_at_call 84; refine (Tryd.strings_IndexRune_ascii _ _ _ (by omega) (by omega)).mono ?_; rintro e w' ⟨rfl, hw⟩; rw [hw, HBK.out]; clear hw)
          go_ret
          exact ⟨ret_int (Lib.indexAny_hit HN.out HX.out HIN.out).symm, HBI1.out⟩
      · obtain ⟨d1, d2, d3, d4, d5⟩ := decode_high2 s i hi (by rw [hx]; omega)
        have hnx := fun ty => Lib.run_next_any_at (P := Tryd.prog) wr w.heap.size s i ty HI.out hi
        clear hx
        obtain ⟨r, HR⟩ : ∃ r, Hid ((Utf8.decode s i).1 = r) := ⟨_, Lib.hid rfl⟩
        obtain ⟨n, HNN⟩ : ∃ n, Hid ((Utf8.decode s i).2 = n) := ⟨_, Lib.hid rfl⟩
        rw [HNN.out] at d3 d4 d5
        rw [HR.out] at d1 d2
        simp only [HR.out, HNN.out] at hnx
        have hsz : (wr.iterAt w.heap.size s (i + n)).heap.size = wr.heap.size := Lib.iterAt_size _ _ _ _
        have HIK1 := Lib.hid (HIK.out (i + n))
        have HBI1 := Lib.hid (HBI.out (i + n))
        have HSZ1 := Lib.hid hsz
        have HD2 := Lib.hid d2
        have HNO : Hid (Lib.NoAny s.data.toList chars.data.toList (i + n)) := Lib.hid (fun j b hj hb => by
          by_cases hji : j < i
          · exact HN.out j b hji hb
          · have h1 := d5 j (by omega) hj
            have h2 : s.get! j = b := by
              have hjs : j < s.size := by omega
              have h3 := byteAt hjs
              rw [h3] at hb
              have h4 := Option.some.inj hb
              rw [← h4]
              exact get_at s j hjs
            rw [h2] at h1
            cases hc : chars.data.toList.contains b with
            | false => rfl
            | true => exact absurd (HA.out b (by simpa using hc)) (by omega))
        clear hsz HIK HBI d2 d5
        generalize wr.iterAt w.heap.size s (i + n) = W1 at *
        by_cases he : r = 65533
        · subst he
          go_wp2_with (go_at_call 84; refine (IndexRune_err _ _ HA2.out).mono ?_; rintro e w2 ⟨rfl, hb2⟩; have HB2 := Lib.hid hb2; clear hb2)
          go_roundg (s.size - (i + n))
          case measure => omega
          case rel => exact ⟨i + n, by omega, Lib.hid (HBI1.out.trans (HB2.out.mono (by have := HSZ1.out; omega))), Lib.hid ((HB2.out.block _ (by have := HSZ1.out; omega)).trans HIK1.out), HNO⟩
        · have hne : ¬ (r : Int) = 65533 := by omega
          go_wp2_with (go_at_call 84; refine (IndexRune_high _ _ _ HA.out (by omega) hne HD2.out).mono ?_; rintro e w2 ⟨rfl, hb2⟩; have HB2 := Lib.hid hb2; clear hb2)
          go_roundg (s.size - (i + n))
          case measure => omega
          case rel => exact ⟨i + n, by omega, Lib.hid (HBI1.out.trans (HB2.out.mono (by have := HSZ1.out; omega))), Lib.hid ((HB2.out.block _ (by have := HSZ1.out; omega)).trans HIK1.out), HNO⟩
    · obtain rfl : i = s.size := by omega
      have hnx := fun ty => Lib.run_next_end_at (P := Tryd.prog) wr w.heap.size s s.size ty HI.out (by omega)
      have HF := Lib.hid (Lib.indexAny_none (s := s.data.toList) (chars := chars.data.toList) (by rw [← Lib.size_eq]; exact HN.out))
      go_wp2_with fail
      go_ret
      exact ⟨ret_int (by rw [HF.out]), HW.out⟩
theorem IndexAny_any (s chars : ByteArray) (w : World) (h2 : 2 ≤ chars.size) (hs : s.size < 4294967281) (hc : chars.size < 4294967281) (hascii : ∀ b ∈ chars.data.toList, b.toNat < 128) :
    Calls Tryd.prog 77 #[.string s, .string chars] w fun e w' => e = .returned (.int .i64 (Lib.indexAny s.data.toList chars.data.toList)) ∧ Below w.heap.size w w' := by
  by_cases h8 : s.size ≤ 8
  · exact IndexAny_short s chars w h2 h8 hascii
  · refine (Tryd.strings_IndexAny_long (fun _ => by kernel_rfl) s chars w h2 (by omega) hs hc (fun j b h => hascii b (List.mem_of_getElem? h))).mono ?_
    rintro e w' ⟨rfl, rfl⟩
    exact ⟨rfl, ((Below.refl _ _).alloc (Nat.le_refl _) _).alloc (by simp) _⟩
end Go.Proofs.YtkmoaeckabjgnaaDoor.V
