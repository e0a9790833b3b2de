/-
  The walk of version.component.
-/
import Derived.Test.YtkmoaeckabjgnaaDoorTxt2
import Derived.Test.YtkmoaeckabjgnaaDoorOwn
import Derived.Test.YtkmoaeckabjgnaaDoorIdx1
namespace Go.Proofs.YtkmoaeckabjgnaaDoor.V
set_option linter.unusedVariables false
set_option linter.unusedSimpArgs false
open Go Go.RowKit Go.Sort

theorem itemInfo : (Tryd.prog.info? 124).map (fun i => (i.zero, i.size, i.bytes)) = some (some (.agg #[.int .i64 0, .string ByteArray.empty]), 2, 24) := by kernel_rfl
theorem toList_take (s : ByteArray) (e : Nat) : (s.extract 0 e).data.toList = s.data.toList.take e := by rw [Lib.extract_data]; simp
theorem extract_take (s : ByteArray) (e : Nat) : s.extract 0 e = ⟨(s.data.toList.take e).toArray⟩ := by
  apply ByteArray.ext
  rw [← toList_take]

def CompPost (base : Nat) (l : List UInt8) (e : Ending) (w' : World) : Prop :=
  match compL l with
  | none => e = .returned (.tuple #[.slice none 0 0, .bool false])
  | some xs => ∃ v, e = .returned (.tuple #[v, .bool true]) ∧ ∃ cs, OwnSl 2 124 RItem w' base v cs xs
theorem CompPost.no {base : Nat} {l : List UInt8} {w' : World} (h : compL l = none) : CompPost base l (.returned (.tuple #[.slice none 0 0, .bool false])) w' := by unfold CompPost; rw [h]
theorem CompPost.yes {base : Nat} {l : List UInt8} {w' : World} {xs : List Item} {v : Value} {cs : List Value} (h : compL l = some xs) (ho : OwnSl 2 124 RItem w' base v cs xs) : CompPost base l (.returned (.tuple #[v, .bool true])) w' := by
  unfold CompPost
  rw [h]
  exact ⟨v, rfl, cs, ho⟩
theorem CompPost.elim_no {base : Nat} {l : List UInt8} {e : Ending} {w' : World} (h : compL l = none) (hp : CompPost base l e w') : e = .returned (.tuple #[.slice none 0 0, .bool false]) := by
  unfold CompPost at hp
  rw [h] at hp
  exact hp
theorem CompPost.elim_yes {base : Nat} {l : List UInt8} {e : Ending} {w' : World} {xs : List Item} (h : compL l = some xs) (hp : CompPost base l e w') :
    ∃ A c cs, e = .returned (.tuple #[.slice A xs.length c, .bool true]) ∧ OwnSl 2 124 RItem w' base (.slice A xs.length c) cs xs := by
  unfold CompPost at hp
  rw [h] at hp
  obtain ⟨v, he, cs, ho⟩ := hp
  obtain ⟨A, c, rfl, _⟩ := (ho.slLt keepsItem).form
  exact ⟨A, c, cs, he, ho⟩
theorem cell_news (w : World) (l : List Value) (t : TypeId) (n : Nat) (hn : n = w.heap.size) (j : Nat) (u : Value) (h : l[j]? = some u) : (w.alloc (.cells l.toArray t)).cell? ((⟨n, 0, none⟩ : Addr).add j) = some u := by
  subst hn
  rw [Go.WideShapes.add_plain, Nat.zero_add, World.cell?_alloc_new]
  simpa using h
theorem letB_not_dig {c : Int} (h : letB c = true) : digB c = false := by
  simp only [letB, digB, Bool.and_eq_true, decide_eq_true_eq, Bool.and_eq_false_iff, decide_eq_false_iff_not] at *
  omega
theorem isEmpty_of {s : ByteArray} (h : s.size = 0) : s.toList.isEmpty = true := by
  rw [Lib.toList_data]
  have : s.data.toList.length = 0 := by simpa using h
  rw [List.eq_nil_of_length_eq_zero this]
  rfl
theorem not_isEmpty_of {s : ByteArray} (h : 0 < s.size) : s.toList.isEmpty = false := by
  rw [Lib.toList_data]
  have : 0 < s.data.toList.length := by simpa using h
  cases hl : s.data.toList with
  | nil => rw [hl] at this; cases this
  | cons a l => rfl

theorem hat_of {v : Value} {g H n c : Nat} {w : World} (h : v.ownBlock = some g ∨ g = H) (hH : w.heap.size = H) : (Value.slice (some ⟨g, 0, none⟩) n c).ownBlock = v.ownBlock ∨ (Value.slice (some ⟨g, 0, none⟩) n c).ownBlock = some w.heap.size := by
  rcases h with h | h
  · exact .inl h.symm
  · subst h; subst hH; exact .inr rfl
theorem empty_size : ByteArray.empty.size ≤ 9223372036854775807 := by decide
theorem i64_small {l : List UInt8} {most v : Int} (h : smallL l most = some v) : I64 v := by
  have := smallL_bd h
  unfold I64
  omega
theorem i64_zero : I64 0 := by unfold I64; omega
theorem comp_step {X : Option (List Item)} {r d : List UInt8} {acc : List Item} {it : Item} (h : X = (compA r).map (acc ++ ·)) (h2 : compA r = (compA d).map (it :: ·)) : X = (compA d).map ((acc ++ [it]) ++ ·) := by
  rw [h, h2]
  cases compA d <;> simp
def strSize : Value → Nat | .string s => s.size | _ => 0
theorem runN_first {p : UInt8 → Bool} {l : List UInt8} {b : UInt8} (h : l[0]? = some b) (hb : p b = true) : 1 ≤ runN p l := by
  cases l with
  | nil => simp at h
  | cons a l =>
    obtain rfl : a = b := by simpa using h
    exact runN_pos hb
theorem all_more {l : List UInt8} {p : UInt8 → Bool} {k : Nat} {y : UInt8} (h : ∀ j x, j < k → l[j]? = some x → p x = true) (hy : l[k]? = some y) (hp : p y = true) : ∀ j x, j < k + 1 → l[j]? = some x → p x = true := by
  intro j x hj hx
  by_cases e : j = k
  · subst e
    rw [hy] at hx
    obtain rfl := Option.some.inj hx
    exact hp
  · exact h j x (by omega) hx

set_option maxHeartbeats 4000000 in
theorem component_any (s : ByteArray) (w : World) (hs : s.size ≤ 1000000000) :
    Calls Tryd.prog 78 #[.string s] w fun e w' => CompPost w.heap.size s.data.toList e w' ∧ Below w.heap.size w w' := by
  have HSZ : Hid (s.data.toList.length = s.size) := Lib.hid (by simp)
  by_cases h0 : s.size = 0
  · have hemp := isEmpty_of h0
    have HF : Hid (compL s.data.toList = none) := Lib.hid (by
      have : s.data.toList = [] := List.eq_nil_of_length_eq_zero (by rw [HSZ.out]; exact h0)
      rw [this]; rfl)
    clear h0
    go_enter Tryd.func78, Tryd.ntmps78
    go_wp2_with fail
    go_ret2
    exact ⟨CompPost.no HF.out, Below.refl _ _⟩
  have hpos : 0 < s.size := by omega
  have hemp := not_isEmpty_of hpos
  clear h0
  obtain ⟨i0, hi0, hz0, hz1, hz2⟩ := info_parts itemInfo
  have HNE : Hid (¬ s.data.toList = []) := Lib.hid (by intro h; rw [h] at HSZ; have := HSZ.out; simp at this; omega)
  have HX0 := Lib.hid (byteAt hpos)
  have HPRE : Hid (preL s.data.toList = if letB s[0].toNat then [Item.zero] else []) := Lib.hid (by
    have := HX0.out
    cases hl : s.data.toList with
    | nil => exact absurd hl HNE.out
    | cons a l => rw [hl] at this; simp at this; rw [← this]; rfl)
  have HCL : Hid (compL s.data.toList = (compA s.data.toList).map (preL s.data.toList ++ ·)) := Lib.hid (if_neg HNE.out)
  by_cases hl : letB s[0].toNat = true
  · have HL := Lib.hid hl
    clear hl
    go_enter Tryd.func78, Tryd.ntmps78
    go_wp2_with (first
      | (go_at_call 88; refine (isLetter_any _ _).mono ?_; rintro e w1 ⟨rfl, rfl⟩; rw [HL.out])
      | (at_builtin; refine wpList_append_lies _ rfl _ _ 107 rfl w.heap.size 124 i0 (.agg #[.int .i64 0, .string ByteArray.empty]) 2 24 Tryd.underlying107 hi0 hz0 hz1 hz2 rfl (by decide) (.slice none 0 0) 0 [] rfl ⟨by simp, .inl ⟨rfl, rfl⟩⟩ ⟨w.heap.size, 0, none⟩ 1 1 [.int .i64 0, .string ByteArray.empty] rfl rfl ?c1 ?c2 (by omega) ?c3 ?c4 ?c5 (w.heap.size + 1) ?c6 ?_))
    case c1 => exact cell_news _ [.int .i64 0, .string ByteArray.empty] _ _ rfl
    case c2 => simp [Value.oneCell']
    case c3 => simp [maxLen]
    case c4 => omega
    case c5 => simp
    case c6 => simp
    intro g0 cap0 w1 hown1 hgrow1 hat1 hlt1
    have HOW : Hid (OwnSl 2 124 RItem w1 w.heap.size (.slice (some ⟨g0, 0, none⟩) 1 cap0) [.int .i64 0, .string ByteArray.empty] [Item.zero]) :=
      Lib.hid (OwnSl.snoc keepsItem (OwnSl.nil 2 124 RItem _ w.heap.size) (vs := [.int .i64 0, .string ByteArray.empty]) (x := Item.zero) rfl ⟨rfl, i64_zero, by decide⟩ hown1 hgrow1 (hat_of hat1 (by simp)))
    have HBW : Hid (Below w.heap.size w w1) := Lib.hid ((news_alloc _ _).grown hgrow1 (by simp) (fun k hk => by simp [Value.ownBlock] at hk))
    clear hown1 hgrow1 hat1 hlt1
    go_wp2_with fail
    go_loopw [0, 4] (fun u0 u4 wr => ∃ (rest : ByteArray) (acc : List Item) (cs : List Value), u0 = .string rest ∧ Hid (OwnSl 2 124 RItem wr w.heap.size u4 cs acc) ∧ Hid (compL s.data.toList = (compA rest.data.toList).map (acc ++ ·)) ∧ (acc.length + rest.size ≤ s.size + 1 ∧ rest.size ≤ s.size) ∧ Hid (Below w.heap.size w wr)) (fun u0 _ _ => strSize u0)
    case atStart => exact ⟨s, _, _, rfl, HOW, Lib.hid (by rw [HCL.out, HPRE.out, HL.out]; rfl), ⟨by simp; omega, Nat.le_refl _⟩, HBW⟩
    case round =>
      obtain ⟨rest, acc, cs, rfl, hown, HO, ⟨hlen, hle⟩, HW⟩ := hrel
      by_cases hr : rest.size = 0
      · have he := isEmpty_of hr
        have HF : Hid (compL s.data.toList = some acc) := Lib.hid (by
          have : rest.data.toList = [] := List.eq_nil_of_length_eq_zero (by simpa using hr)
          rw [HO.out, this, compA_nil]; simp)
        clear hr
        go_wp2_with fail
        go_ret2
        exact ⟨CompPost.yes HF.out hown.out, HW.out⟩
      have hrp : 0 < rest.size := by omega
      have he := not_isEmpty_of hrp
      clear hr
      have HXR := Lib.hid (byteAt hrp)
      have HZR : Hid (rest.data.toList.length = rest.size) := Lib.hid (by simp)
      by_cases hb : letB rest[0].toNat = true
      · have HL0 := Lib.hid hb
        have HND := Lib.hid (letB_not_dig hb)
        clear hb
        go_wp2_with (go_at_call 88; refine (isLetter_any _ _).mono ?_; rintro e w1 ⟨rfl, rfl⟩; rw [HL0.out])
        go_loop [6] (fun i => ∃ k : Nat, k ≤ rest.size ∧ i = .int .i64 k ∧ Hid (∀ j x, j < k → rest.data.toList[j]? = some x → let_ x = true)) (fun i => rest.size - (intOf i).toNat)
        case atStart => exact ⟨0, Nat.zero_le _, rfl, Lib.hid (fun j x hj => absurd hj (by omega))⟩
        case round =>
          obtain ⟨k, hk, rfl, HA⟩ := hrel
          by_cases hlt : k < rest.size
          · have HX := Lib.hid (byteAt hlt)
            by_cases hq : letB rest[k].toNat = true
            · have HQ := Lib.hid hq
              clear hq
              go_wp2_with (go_at_call 88; refine (isLetter_any _ _).mono ?_; rintro e w1 ⟨rfl, rfl⟩; rw [HQ.out])
              go_round
              case rel => exact ⟨k + 1, by omega, by go_num, Lib.hid (all_more HA.out HX.out HQ.out)⟩
              case measure => simp [intOf]; omega
            · have HQ : Hid (letB rest[k].toNat = false) := Lib.hid (by simpa using hq)
              clear hq
              have HE : Hid (runN let_ rest.data.toList = k) := Lib.hid (runN_at _ _ _ HA.out (by rw [HZR.out]; exact hk) (by intro x hx; rw [HX.out] at hx; obtain rfl := Option.some.inj hx; exact HQ.out))
              have hk1 : 1 ≤ k := by have := runN_first (p := let_) (HXR.out) HL0.out; rw [HE.out] at this; exact this
              have hb0 : ((k : Int) == 0) = false := by simp; omega
              have hb1 : decide ((k : Int) = 0) = false := by simp; omega
              go_wp2_with (first
                | (go_at_call 88; refine (isLetter_any _ _).mono ?_; rintro e w1 ⟨rfl, rfl⟩; rw [HQ.out])
                | (go_at_call 89; refine (isDigit_any _ _).mono ?_; rintro e w1 ⟨rfl, rfl⟩; rw [HND.out])
                | (at_builtin; refine wpList_append_lies _ rfl _ _ 107 rfl w.heap.size 124 i0 (.agg #[.int .i64 0, .string ByteArray.empty]) 2 24 Tryd.underlying107 hi0 hz0 hz1 hz2 rfl (by decide) u4 acc.length cs rfl ((hown.out.1.alloc _).alloc _) ⟨wr.heap.size + 1, 0, none⟩ 1 1 [.int .i64 0, .string (rest.extract 0 k)] rfl rfl ?c1 ?c2 (by omega) ?c3 ?c4 ?c5 (wr.heap.size + 1 + 1) ?c6 ?_))
              case c1 => exact cell_news _ [.int .i64 0, .string (rest.extract 0 k)] _ _ (by simp)
              case c2 => simp [Value.oneCell']
              case c3 => simp [maxLen]; omega
              case c4 => omega
              case c5 => have := HW.out.size; simp; omega
              case c6 => simp
              intro g1 cap1 w2 hown2 hgrow2 hat2 hlt2
              have hbb : Below wr.heap.size wr ((wr.alloc (.cells #[.int .i64 0, .string (rest.extract 0 k)] 124)).alloc (.cells [.int .i64 0, .string (rest.extract 0 k)].toArray 124)) := ((Below.refl _ _).alloc (Nat.le_refl _) _).alloc (by simp) _
              have HOW2 := Lib.hid (OwnSl.snoc keepsItem (hown.out.grow keepsItem hbb) (vs := [.int .i64 0, .string (rest.extract 0 k)]) (x := ⟨0, rest.extract 0 k⟩) rfl ⟨rfl, i64_zero, by rw [ByteArray.size_extract]; omega⟩ hown2 hgrow2 (hat_of hat2 (by simp)))
              have HBW2 := Lib.hid ((HW.out.trans (hbb.mono HW.out.size)).grown hgrow2 (by have := HW.out.size; simp; omega) (fun j hj => (hown.out.1.lt j hj).1))
              clear hown2 hgrow2 hat2 hlt2 hbb
              go_wp2_with fail
              go_roundw
              case rel => exact ⟨rest.extract k rest.size, acc ++ [⟨0, rest.extract 0 k⟩], _, rfl, HOW2, Lib.hid (comp_step HO.out (by rw [compA_let HXR.out HL0.out, HE.out, toList_drop, extract_take])), ⟨by rw [List.length_append, List.length_singleton, ByteArray.size_extract]; omega, by rw [ByteArray.size_extract]; omega⟩, HBW2⟩
              case measure => simp [strSize]; omega
          · have HQ : Hid (letB 0 = false) := Lib.hid (by decide)
            have HE : Hid (runN let_ rest.data.toList = k) := Lib.hid (runN_at _ _ _ HA.out (by rw [HZR.out]; exact hk) (by intro x hx; rw [List.getElem?_eq_none (by rw [HZR.out]; omega)] at hx; cases hx))
            have hk1 : 1 ≤ k := by have := runN_first (p := let_) (HXR.out) HL0.out; rw [HE.out] at this; exact this
            have hb0 : ((k : Int) == 0) = false := by simp; omega
            have hb1 : decide ((k : Int) = 0) = false := by simp; omega
            go_wp2_with (first
              | (go_at_call 88; refine (isLetter_any _ _).mono ?_; rintro e w1 ⟨rfl, rfl⟩; rw [HQ.out])
              | (go_at_call 89; refine (isDigit_any _ _).mono ?_; rintro e w1 ⟨rfl, rfl⟩; rw [HND.out])
              | (at_builtin; refine wpList_append_lies _ rfl _ _ 107 rfl w.heap.size 124 i0 (.agg #[.int .i64 0, .string ByteArray.empty]) 2 24 Tryd.underlying107 hi0 hz0 hz1 hz2 rfl (by decide) u4 acc.length cs rfl ((hown.out.1.alloc _).alloc _) ⟨wr.heap.size + 1, 0, none⟩ 1 1 [.int .i64 0, .string (rest.extract 0 k)] rfl rfl ?c1 ?c2 (by omega) ?c3 ?c4 ?c5 (wr.heap.size + 1 + 1) ?c6 ?_))
            case c1 => exact cell_news _ [.int .i64 0, .string (rest.extract 0 k)] _ _ (by simp)
            case c2 => simp [Value.oneCell']
            case c3 => simp [maxLen]; omega
            case c4 => omega
            case c5 => have := HW.out.size; simp; omega
            case c6 => simp
            intro g1 cap1 w2 hown2 hgrow2 hat2 hlt2
            have hbb : Below wr.heap.size wr ((wr.alloc (.cells #[.int .i64 0, .string (rest.extract 0 k)] 124)).alloc (.cells [.int .i64 0, .string (rest.extract 0 k)].toArray 124)) := ((Below.refl _ _).alloc (Nat.le_refl _) _).alloc (by simp) _
            have HOW2 := Lib.hid (OwnSl.snoc keepsItem (hown.out.grow keepsItem hbb) (vs := [.int .i64 0, .string (rest.extract 0 k)]) (x := ⟨0, rest.extract 0 k⟩) rfl ⟨rfl, i64_zero, by rw [ByteArray.size_extract]; omega⟩ hown2 hgrow2 (hat_of hat2 (by simp)))
            have HBW2 := Lib.hid ((HW.out.trans (hbb.mono HW.out.size)).grown hgrow2 (by have := HW.out.size; simp; omega) (fun j hj => (hown.out.1.lt j hj).1))
            clear hown2 hgrow2 hat2 hlt2 hbb
            go_wp2_with fail
            go_roundw
            case rel => exact ⟨rest.extract k rest.size, acc ++ [⟨0, rest.extract 0 k⟩], _, rfl, HOW2, Lib.hid (comp_step HO.out (by rw [compA_let HXR.out HL0.out, HE.out, toList_drop, extract_take])), ⟨by rw [List.length_append, List.length_singleton, ByteArray.size_extract]; omega, by rw [ByteArray.size_extract]; omega⟩, HBW2⟩
            case measure => simp [strSize]; omega
      · have HNL : Hid (letB rest[0].toNat = false) := Lib.hid (by simpa using hb)
        clear hb
        by_cases hd : digB rest[0].toNat = true
        · have HD0 := Lib.hid hd
          clear hd
          go_wp2_with (go_at_call 88; refine (isLetter_any _ _).mono ?_; rintro e w1 ⟨rfl, rfl⟩; rw [HNL.out])
          go_loop [6] (fun i => ∃ k : Nat, k ≤ rest.size ∧ i = .int .i64 k ∧ Hid (∀ j x, j < k → rest.data.toList[j]? = some x → dig x = true)) (fun i => rest.size - (intOf i).toNat)
          case atStart => exact ⟨0, Nat.zero_le _, rfl, Lib.hid (fun j x hj => absurd hj (by omega))⟩
          case round =>
            obtain ⟨k, hk, rfl, HA⟩ := hrel
            by_cases hlt : k < rest.size
            · have HX := Lib.hid (byteAt hlt)
              by_cases hq : digB rest[k].toNat = true
              · have HQ := Lib.hid hq
                clear hq
                go_wp2_with (go_at_call 89; refine (isDigit_any _ _).mono ?_; rintro e w1 ⟨rfl, rfl⟩; rw [HQ.out])
                go_round
                case rel => exact ⟨k + 1, by omega, by go_num, Lib.hid (all_more HA.out HX.out HQ.out)⟩
                case measure => simp [intOf]; omega
              · have HQ : Hid (digB rest[k].toNat = false) := Lib.hid (by simpa using hq)
                clear hq
                have HE : Hid (runN dig rest.data.toList = k) := Lib.hid (runN_at _ _ _ HA.out (by rw [HZR.out]; exact hk) (by intro x hx; rw [HX.out] at hx; obtain rfl := Option.some.inj hx; exact HQ.out))
                have hk1 : 1 ≤ k := by have := runN_first (p := dig) (HXR.out) HD0.out; rw [HE.out] at this; exact this
                have hb0 : ((k : Int) == 0) = false := by simp; omega
                have hb1 : decide ((k : Int) = 0) = false := by simp; omega
                have HSM2 : Hid (smallL (rest.data.toList.take k) maxI = smallL (rest.extract 0 k).data.toList 9223372036854775807) := Lib.hid (by rw [toList_take]; rfl)
                have hes : (rest.extract 0 k).size ≤ 1000000000 := by rw [ByteArray.size_extract]; omega
                have HES := Lib.hid hes
                clear hes
                cases hsm : smallL (rest.extract 0 k).data.toList 9223372036854775807 with
                | none =>
                  have HSM := Lib.hid hsm
                  rw [HSM.out] at HSM2
                  clear hsm
                  have HF : Hid (compL s.data.toList = none) := Lib.hid (by rw [HO.out, compA_dig HXR.out HNL.out HD0.out, HE.out, HSM2.out]; rfl)
                  go_wp2_with (first
                    | (go_at_call 89; refine (isDigit_any _ _).mono ?_; rintro e w1 ⟨rfl, rfl⟩; first | rw [HQ.out] | rw [HD0.out])
                    | (go_at_call 66; refine (number_any _ _ HES.out).mono ?_; rintro e w1 ⟨rfl, rfl⟩; rw [HSM.out]; unfold okv))
                  go_ret2
                  exact ⟨CompPost.no HF.out, HW.out.alloc HW.out.size _⟩
                | some v =>
                  have HSM := Lib.hid hsm
                  rw [HSM.out] at HSM2
                  clear hsm
                  go_wp2_with (first
                    | (go_at_call 89; refine (isDigit_any _ _).mono ?_; rintro e w1 ⟨rfl, rfl⟩; first | rw [HQ.out] | rw [HD0.out])
                    | (go_at_call 66; refine (number_any _ _ HES.out).mono ?_; rintro e w1 ⟨rfl, rfl⟩; rw [HSM.out]; unfold okv)
                    | (at_builtin; refine wpList_append_lies _ rfl _ _ 107 rfl w.heap.size 124 i0 (.agg #[.int .i64 0, .string ByteArray.empty]) 2 24 Tryd.underlying107 hi0 hz0 hz1 hz2 rfl (by decide) u4 acc.length cs rfl ((hown.out.1.alloc _).alloc _) ⟨wr.heap.size + 1, 0, none⟩ 1 1 [.int .i64 v, .string ByteArray.empty] rfl rfl ?c1 ?c2 (by omega) ?c3 ?c4 ?c5 (wr.heap.size + 1 + 1) ?c6 ?_))
                  case c1 => exact cell_news _ [.int .i64 v, .string ByteArray.empty] _ _ (by simp)
                  case c2 => simp [Value.oneCell']
                  case c3 => simp [maxLen]; omega
                  case c4 => omega
                  case c5 => have := HW.out.size; simp; omega
                  case c6 => simp
                  intro g1 cap1 w2 hown2 hgrow2 hat2 hlt2
                  have hbb : Below wr.heap.size wr ((wr.alloc (.cells #[.int .i64 v, .string ByteArray.empty] 124)).alloc (.cells [.int .i64 v, .string ByteArray.empty].toArray 124)) := ((Below.refl _ _).alloc (Nat.le_refl _) _).alloc (by simp) _
                  have HOW2 := Lib.hid (OwnSl.snoc keepsItem (hown.out.grow keepsItem hbb) (vs := [.int .i64 v, .string ByteArray.empty]) (x := ⟨v, ByteArray.empty⟩) rfl ⟨rfl, i64_small HSM.out, empty_size⟩ hown2 hgrow2 (hat_of hat2 (by simp)))
                  have HBW2 := Lib.hid ((HW.out.trans (hbb.mono HW.out.size)).grown hgrow2 (by have := HW.out.size; simp; omega) (fun j hj => (hown.out.1.lt j hj).1))
                  clear hown2 hgrow2 hat2 hlt2 hbb
                  go_wp2_with fail
                  go_roundw
                  case rel => exact ⟨rest.extract k rest.size, acc ++ [⟨v, ByteArray.empty⟩], _, rfl, HOW2, Lib.hid (comp_step HO.out (by rw [compA_dig HXR.out HNL.out HD0.out, HE.out, toList_drop, HSM2.out, Option.bind_some])), ⟨by rw [List.length_append, List.length_singleton, ByteArray.size_extract]; omega, by rw [ByteArray.size_extract]; omega⟩, HBW2⟩
                  case measure => simp [strSize]; omega
            · have HQ : Hid (digB 0 = false) := Lib.hid (by decide)
              have HE : Hid (runN dig rest.data.toList = k) := Lib.hid (runN_at _ _ _ HA.out (by rw [HZR.out]; exact hk) (by intro x hx; rw [List.getElem?_eq_none (by rw [HZR.out]; omega)] at hx; cases hx))
              have hk1 : 1 ≤ k := by have := runN_first (p := dig) (HXR.out) HD0.out; rw [HE.out] at this; exact this
              have hb0 : ((k : Int) == 0) = false := by simp; omega
              have hb1 : decide ((k : Int) = 0) = false := by simp; omega
              have HSM2 : Hid (smallL (rest.data.toList.take k) maxI = smallL (rest.extract 0 k).data.toList 9223372036854775807) := Lib.hid (by rw [toList_take]; rfl)
              have hes : (rest.extract 0 k).size ≤ 1000000000 := by rw [ByteArray.size_extract]; omega
              have HES := Lib.hid hes
              clear hes
              cases hsm : smallL (rest.extract 0 k).data.toList 9223372036854775807 with
              | none =>
                have HSM := Lib.hid hsm
                rw [HSM.out] at HSM2
                clear hsm
                have HF : Hid (compL s.data.toList = none) := Lib.hid (by rw [HO.out, compA_dig HXR.out HNL.out HD0.out, HE.out, HSM2.out]; rfl)
                go_wp2_with (first
                  | (go_at_call 89; refine (isDigit_any _ _).mono ?_; rintro e w1 ⟨rfl, rfl⟩; first | rw [HQ.out] | rw [HD0.out])
                  | (go_at_call 66; refine (number_any _ _ HES.out).mono ?_; rintro e w1 ⟨rfl, rfl⟩; rw [HSM.out]; unfold okv))
                go_ret2
                exact ⟨CompPost.no HF.out, HW.out.alloc HW.out.size _⟩
              | some v =>
                have HSM := Lib.hid hsm
                rw [HSM.out] at HSM2
                clear hsm
                go_wp2_with (first
                  | (go_at_call 89; refine (isDigit_any _ _).mono ?_; rintro e w1 ⟨rfl, rfl⟩; first | rw [HQ.out] | rw [HD0.out])
                  | (go_at_call 66; refine (number_any _ _ HES.out).mono ?_; rintro e w1 ⟨rfl, rfl⟩; rw [HSM.out]; unfold okv)
                  | (at_builtin; refine wpList_append_lies _ rfl _ _ 107 rfl w.heap.size 124 i0 (.agg #[.int .i64 0, .string ByteArray.empty]) 2 24 Tryd.underlying107 hi0 hz0 hz1 hz2 rfl (by decide) u4 acc.length cs rfl ((hown.out.1.alloc _).alloc _) ⟨wr.heap.size + 1, 0, none⟩ 1 1 [.int .i64 v, .string ByteArray.empty] rfl rfl ?c1 ?c2 (by omega) ?c3 ?c4 ?c5 (wr.heap.size + 1 + 1) ?c6 ?_))
                case c1 => exact cell_news _ [.int .i64 v, .string ByteArray.empty] _ _ (by simp)
                case c2 => simp [Value.oneCell']
                case c3 => simp [maxLen]; omega
                case c4 => omega
                case c5 => have := HW.out.size; simp; omega
                case c6 => simp
                intro g1 cap1 w2 hown2 hgrow2 hat2 hlt2
                have hbb : Below wr.heap.size wr ((wr.alloc (.cells #[.int .i64 v, .string ByteArray.empty] 124)).alloc (.cells [.int .i64 v, .string ByteArray.empty].toArray 124)) := ((Below.refl _ _).alloc (Nat.le_refl _) _).alloc (by simp) _
                have HOW2 := Lib.hid (OwnSl.snoc keepsItem (hown.out.grow keepsItem hbb) (vs := [.int .i64 v, .string ByteArray.empty]) (x := ⟨v, ByteArray.empty⟩) rfl ⟨rfl, i64_small HSM.out, empty_size⟩ hown2 hgrow2 (hat_of hat2 (by simp)))
                have HBW2 := Lib.hid ((HW.out.trans (hbb.mono HW.out.size)).grown hgrow2 (by have := HW.out.size; simp; omega) (fun j hj => (hown.out.1.lt j hj).1))
                clear hown2 hgrow2 hat2 hlt2 hbb
                go_wp2_with fail
                go_roundw
                case rel => exact ⟨rest.extract k rest.size, acc ++ [⟨v, ByteArray.empty⟩], _, rfl, HOW2, Lib.hid (comp_step HO.out (by rw [compA_dig HXR.out HNL.out HD0.out, HE.out, toList_drop, HSM2.out, Option.bind_some])), ⟨by rw [List.length_append, List.length_singleton, ByteArray.size_extract]; omega, by rw [ByteArray.size_extract]; omega⟩, HBW2⟩
                case measure => simp [strSize]; omega
        · have HD0 : Hid (digB rest[0].toNat = false) := Lib.hid (by simpa using hd)
          clear hd
          have HF : Hid (compL s.data.toList = none) := Lib.hid (by rw [HO.out, compA_no HXR.out HNL.out HD0.out]; rfl)
          have HR0 : Hid (runN dig rest.data.toList = 0) := Lib.hid (runN_at _ _ _ (fun j x hj => absurd hj (by omega)) (Nat.zero_le _) (fun x hx => by rw [HXR.out] at hx; obtain rfl := Option.some.inj hx; exact HD0.out))
          go_wp2_with (go_at_call 88; refine (isLetter_any _ _).mono ?_; rintro e w1 ⟨rfl, rfl⟩; rw [HNL.out])
          go_loop [6] (fun i => ∃ k : Nat, k ≤ rest.size ∧ i = .int .i64 k ∧ Hid (∀ j x, j < k → rest.data.toList[j]? = some x → dig x = true)) (fun i => rest.size - (intOf i).toNat)
          case atStart => exact ⟨0, Nat.zero_le _, rfl, Lib.hid (fun j x hj => absurd hj (by omega))⟩
          case round =>
            obtain ⟨k, hk, rfl, HA⟩ := hrel
            by_cases hlt : k < rest.size
            · have HX := Lib.hid (byteAt hlt)
              by_cases hq : digB rest[k].toNat = true
              · have HQ := Lib.hid hq
                clear hq
                go_wp2_with (go_at_call 89; refine (isDigit_any _ _).mono ?_; rintro e w1 ⟨rfl, rfl⟩; rw [HQ.out])
                go_round
                case rel => exact ⟨k + 1, by omega, by go_num, Lib.hid (all_more HA.out HX.out HQ.out)⟩
                case measure => simp [intOf]; omega
              · have HQ : Hid (digB rest[k].toNat = false) := Lib.hid (by simpa using hq)
                clear hq
                have HE : Hid (runN dig rest.data.toList = k) := Lib.hid (runN_at _ _ _ HA.out (by rw [HZR.out]; exact hk) (by intro x hx; rw [HX.out] at hx; obtain rfl := Option.some.inj hx; exact HQ.out))
                obtain rfl : k = 0 := by rw [← HE.out, HR0.out]
                go_wp2_with (go_at_call 89; refine (isDigit_any _ _).mono ?_; rintro e w1 ⟨rfl, rfl⟩; rw [HQ.out])
                go_ret2
                exact ⟨CompPost.no HF.out, HW.out⟩
            · have HQ : Hid (digB 0 = false) := Lib.hid (by decide)
              exact absurd (by have := runN_le dig rest.data.toList; omega : 0 < rest.size) (by
                  have HE := Lib.hid (runN_at dig rest.data.toList k HA.out (by rw [HZR.out]; exact hk) (by intro x hx; rw [List.getElem?_eq_none (by rw [HZR.out]; omega)] at hx; cases hx))
                  rw [HR0.out] at HE
                  have := HE.out
                  omega)
  · have HL : Hid (letB s[0].toNat = false) := Lib.hid (by simpa using hl)
    clear hl
    go_enter Tryd.func78, Tryd.ntmps78
    go_wp2_with (go_at_call 88; refine (isLetter_any _ _).mono ?_; rintro e w1 ⟨rfl, rfl⟩; rw [HL.out])
    go_loopw [0, 4] (fun u0 u4 wr => ∃ (rest : ByteArray) (acc : List Item) (cs : List Value), u0 = .string rest ∧ Hid (OwnSl 2 124 RItem wr w.heap.size u4 cs acc) ∧ Hid (compL s.data.toList = (compA rest.data.toList).map (acc ++ ·)) ∧ (acc.length + rest.size ≤ s.size + 1 ∧ rest.size ≤ s.size) ∧ Hid (Below w.heap.size w wr)) (fun u0 _ _ => strSize u0)
    case atStart => exact ⟨s, _, _, rfl, Lib.hid (OwnSl.nil 2 124 RItem _ _), Lib.hid (by rw [HCL.out, HPRE.out, HL.out]; rfl), ⟨by simp, Nat.le_refl _⟩, Lib.hid (Below.refl _ _)⟩
    case round =>
      obtain ⟨rest, acc, cs, rfl, hown, HO, ⟨hlen, hle⟩, HW⟩ := hrel
      by_cases hr : rest.size = 0
      · have he := isEmpty_of hr
        have HF : Hid (compL s.data.toList = some acc) := Lib.hid (by
          have : rest.data.toList = [] := List.eq_nil_of_length_eq_zero (by simpa using hr)
          rw [HO.out, this, compA_nil]; simp)
        clear hr
        go_wp2_with fail
        go_ret2
        exact ⟨CompPost.yes HF.out hown.out, HW.out⟩
      have hrp : 0 < rest.size := by omega
      have he := not_isEmpty_of hrp
      clear hr
      have HXR := Lib.hid (byteAt hrp)
      have HZR : Hid (rest.data.toList.length = rest.size) := Lib.hid (by simp)
      by_cases hb : letB rest[0].toNat = true
      · have HL0 := Lib.hid hb
        have HND := Lib.hid (letB_not_dig hb)
        clear hb
        go_wp2_with (go_at_call 88; refine (isLetter_any _ _).mono ?_; rintro e w1 ⟨rfl, rfl⟩; rw [HL0.out])
        go_loop [6] (fun i => ∃ k : Nat, k ≤ rest.size ∧ i = .int .i64 k ∧ Hid (∀ j x, j < k → rest.data.toList[j]? = some x → let_ x = true)) (fun i => rest.size - (intOf i).toNat)
        case atStart => exact ⟨0, Nat.zero_le _, rfl, Lib.hid (fun j x hj => absurd hj (by omega))⟩
        case round =>
          obtain ⟨k, hk, rfl, HA⟩ := hrel
          by_cases hlt : k < rest.size
          · have HX := Lib.hid (byteAt hlt)
            by_cases hq : letB rest[k].toNat = true
            · have HQ := Lib.hid hq
              clear hq
              go_wp2_with (go_at_call 88; refine (isLetter_any _ _).mono ?_; rintro e w1 ⟨rfl, rfl⟩; rw [HQ.out])
              go_round
              case rel => exact ⟨k + 1, by omega, by go_num, Lib.hid (all_more HA.out HX.out HQ.out)⟩
              case measure => simp [intOf]; omega
            · have HQ : Hid (letB rest[k].toNat = false) := Lib.hid (by simpa using hq)
              clear hq
              have HE : Hid (runN let_ rest.data.toList = k) := Lib.hid (runN_at _ _ _ HA.out (by rw [HZR.out]; exact hk) (by intro x hx; rw [HX.out] at hx; obtain rfl := Option.some.inj hx; exact HQ.out))
              have hk1 : 1 ≤ k := by have := runN_first (p := let_) (HXR.out) HL0.out; rw [HE.out] at this; exact this
              have hb0 : ((k : Int) == 0) = false := by simp; omega
              have hb1 : decide ((k : Int) = 0) = false := by simp; omega
              go_wp2_with (first
                | (go_at_call 88; refine (isLetter_any _ _).mono ?_; rintro e w1 ⟨rfl, rfl⟩; rw [HQ.out])
                | (go_at_call 89; refine (isDigit_any _ _).mono ?_; rintro e w1 ⟨rfl, rfl⟩; rw [HND.out])
                | (at_builtin; refine wpList_append_lies _ rfl _ _ 107 rfl w.heap.size 124 i0 (.agg #[.int .i64 0, .string ByteArray.empty]) 2 24 Tryd.underlying107 hi0 hz0 hz1 hz2 rfl (by decide) u4 acc.length cs rfl ((hown.out.1.alloc _).alloc _) ⟨wr.heap.size + 1, 0, none⟩ 1 1 [.int .i64 0, .string (rest.extract 0 k)] rfl rfl ?c1 ?c2 (by omega) ?c3 ?c4 ?c5 (wr.heap.size + 1 + 1) ?c6 ?_))
              case c1 => exact cell_news _ [.int .i64 0, .string (rest.extract 0 k)] _ _ (by simp)
              case c2 => simp [Value.oneCell']
              case c3 => simp [maxLen]; omega
              case c4 => omega
              case c5 => have := HW.out.size; simp; omega
              case c6 => simp
              intro g1 cap1 w2 hown2 hgrow2 hat2 hlt2
              have hbb : Below wr.heap.size wr ((wr.alloc (.cells #[.int .i64 0, .string (rest.extract 0 k)] 124)).alloc (.cells [.int .i64 0, .string (rest.extract 0 k)].toArray 124)) := ((Below.refl _ _).alloc (Nat.le_refl _) _).alloc (by simp) _
              have HOW2 := Lib.hid (OwnSl.snoc keepsItem (hown.out.grow keepsItem hbb) (vs := [.int .i64 0, .string (rest.extract 0 k)]) (x := ⟨0, rest.extract 0 k⟩) rfl ⟨rfl, i64_zero, by rw [ByteArray.size_extract]; omega⟩ hown2 hgrow2 (hat_of hat2 (by simp)))
              have HBW2 := Lib.hid ((HW.out.trans (hbb.mono HW.out.size)).grown hgrow2 (by have := HW.out.size; simp; omega) (fun j hj => (hown.out.1.lt j hj).1))
              clear hown2 hgrow2 hat2 hlt2 hbb
              go_wp2_with fail
              go_roundw
              case rel => exact ⟨rest.extract k rest.size, acc ++ [⟨0, rest.extract 0 k⟩], _, rfl, HOW2, Lib.hid (comp_step HO.out (by rw [compA_let HXR.out HL0.out, HE.out, toList_drop, extract_take])), ⟨by rw [List.length_append, List.length_singleton, ByteArray.size_extract]; omega, by rw [ByteArray.size_extract]; omega⟩, HBW2⟩
              case measure => simp [strSize]; omega
          · have HQ : Hid (letB 0 = false) := Lib.hid (by decide)
            have HE : Hid (runN let_ rest.data.toList = k) := Lib.hid (runN_at _ _ _ HA.out (by rw [HZR.out]; exact hk) (by intro x hx; rw [List.getElem?_eq_none (by rw [HZR.out]; omega)] at hx; cases hx))
            have hk1 : 1 ≤ k := by have := runN_first (p := let_) (HXR.out) HL0.out; rw [HE.out] at this; exact this
            have hb0 : ((k : Int) == 0) = false := by simp; omega
            have hb1 : decide ((k : Int) = 0) = false := by simp; omega
            go_wp2_with (first
              | (go_at_call 88; refine (isLetter_any _ _).mono ?_; rintro e w1 ⟨rfl, rfl⟩; rw [HQ.out])
              | (go_at_call 89; refine (isDigit_any _ _).mono ?_; rintro e w1 ⟨rfl, rfl⟩; rw [HND.out])
              | (at_builtin; refine wpList_append_lies _ rfl _ _ 107 rfl w.heap.size 124 i0 (.agg #[.int .i64 0, .string ByteArray.empty]) 2 24 Tryd.underlying107 hi0 hz0 hz1 hz2 rfl (by decide) u4 acc.length cs rfl ((hown.out.1.alloc _).alloc _) ⟨wr.heap.size + 1, 0, none⟩ 1 1 [.int .i64 0, .string (rest.extract 0 k)] rfl rfl ?c1 ?c2 (by omega) ?c3 ?c4 ?c5 (wr.heap.size + 1 + 1) ?c6 ?_))
            case c1 => exact cell_news _ [.int .i64 0, .string (rest.extract 0 k)] _ _ (by simp)
            case c2 => simp [Value.oneCell']
            case c3 => simp [maxLen]; omega
            case c4 => omega
            case c5 => have := HW.out.size; simp; omega
            case c6 => simp
            intro g1 cap1 w2 hown2 hgrow2 hat2 hlt2
            have hbb : Below wr.heap.size wr ((wr.alloc (.cells #[.int .i64 0, .string (rest.extract 0 k)] 124)).alloc (.cells [.int .i64 0, .string (rest.extract 0 k)].toArray 124)) := ((Below.refl _ _).alloc (Nat.le_refl _) _).alloc (by simp) _
            have HOW2 := Lib.hid (OwnSl.snoc keepsItem (hown.out.grow keepsItem hbb) (vs := [.int .i64 0, .string (rest.extract 0 k)]) (x := ⟨0, rest.extract 0 k⟩) rfl ⟨rfl, i64_zero, by rw [ByteArray.size_extract]; omega⟩ hown2 hgrow2 (hat_of hat2 (by simp)))
            have HBW2 := Lib.hid ((HW.out.trans (hbb.mono HW.out.size)).grown hgrow2 (by have := HW.out.size; simp; omega) (fun j hj => (hown.out.1.lt j hj).1))
            clear hown2 hgrow2 hat2 hlt2 hbb
            go_wp2_with fail
            go_roundw
            case rel => exact ⟨rest.extract k rest.size, acc ++ [⟨0, rest.extract 0 k⟩], _, rfl, HOW2, Lib.hid (comp_step HO.out (by rw [compA_let HXR.out HL0.out, HE.out, toList_drop, extract_take])), ⟨by rw [List.length_append, List.length_singleton, ByteArray.size_extract]; omega, by rw [ByteArray.size_extract]; omega⟩, HBW2⟩
            case measure => simp [strSize]; omega
      · have HNL : Hid (letB rest[0].toNat = false) := Lib.hid (by simpa using hb)
        clear hb
        by_cases hd : digB rest[0].toNat = true
        · have HD0 := Lib.hid hd
          clear hd
          go_wp2_with (go_at_call 88; refine (isLetter_any _ _).mono ?_; rintro e w1 ⟨rfl, rfl⟩; rw [HNL.out])
          go_loop [6] (fun i => ∃ k : Nat, k ≤ rest.size ∧ i = .int .i64 k ∧ Hid (∀ j x, j < k → rest.data.toList[j]? = some x → dig x = true)) (fun i => rest.size - (intOf i).toNat)
          case atStart => exact ⟨0, Nat.zero_le _, rfl, Lib.hid (fun j x hj => absurd hj (by omega))⟩
          case round =>
            obtain ⟨k, hk, rfl, HA⟩ := hrel
            by_cases hlt : k < rest.size
            · have HX := Lib.hid (byteAt hlt)
              by_cases hq : digB rest[k].toNat = true
              · have HQ := Lib.hid hq
                clear hq
                go_wp2_with (go_at_call 89; refine (isDigit_any _ _).mono ?_; rintro e w1 ⟨rfl, rfl⟩; rw [HQ.out])
                go_round
                case rel => exact ⟨k + 1, by omega, by go_num, Lib.hid (all_more HA.out HX.out HQ.out)⟩
                case measure => simp [intOf]; omega
              · have HQ : Hid (digB rest[k].toNat = false) := Lib.hid (by simpa using hq)
                clear hq
                have HE : Hid (runN dig rest.data.toList = k) := Lib.hid (runN_at _ _ _ HA.out (by rw [HZR.out]; exact hk) (by intro x hx; rw [HX.out] at hx; obtain rfl := Option.some.inj hx; exact HQ.out))
                have hk1 : 1 ≤ k := by have := runN_first (p := dig) (HXR.out) HD0.out; rw [HE.out] at this; exact this
                have hb0 : ((k : Int) == 0) = false := by simp; omega
                have hb1 : decide ((k : Int) = 0) = false := by simp; omega
                have HSM2 : Hid (smallL (rest.data.toList.take k) maxI = smallL (rest.extract 0 k).data.toList 9223372036854775807) := Lib.hid (by rw [toList_take]; rfl)
                have hes : (rest.extract 0 k).size ≤ 1000000000 := by rw [ByteArray.size_extract]; omega
                have HES := Lib.hid hes
                clear hes
                cases hsm : smallL (rest.extract 0 k).data.toList 9223372036854775807 with
                | none =>
                  have HSM := Lib.hid hsm
                  rw [HSM.out] at HSM2
                  clear hsm
                  have HF : Hid (compL s.data.toList = none) := Lib.hid (by rw [HO.out, compA_dig HXR.out HNL.out HD0.out, HE.out, HSM2.out]; rfl)
                  go_wp2_with (first
                    | (go_at_call 89; refine (isDigit_any _ _).mono ?_; rintro e w1 ⟨rfl, rfl⟩; first | rw [HQ.out] | rw [HD0.out])
                    | (go_at_call 66; refine (number_any _ _ HES.out).mono ?_; rintro e w1 ⟨rfl, rfl⟩; rw [HSM.out]; unfold okv))
                  go_ret2
                  exact ⟨CompPost.no HF.out, HW.out.alloc HW.out.size _⟩
                | some v =>
                  have HSM := Lib.hid hsm
                  rw [HSM.out] at HSM2
                  clear hsm
                  go_wp2_with (first
                    | (go_at_call 89; refine (isDigit_any _ _).mono ?_; rintro e w1 ⟨rfl, rfl⟩; first | rw [HQ.out] | rw [HD0.out])
                    | (go_at_call 66; refine (number_any _ _ HES.out).mono ?_; rintro e w1 ⟨rfl, rfl⟩; rw [HSM.out]; unfold okv)
                    | (at_builtin; refine wpList_append_lies _ rfl _ _ 107 rfl w.heap.size 124 i0 (.agg #[.int .i64 0, .string ByteArray.empty]) 2 24 Tryd.underlying107 hi0 hz0 hz1 hz2 rfl (by decide) u4 acc.length cs rfl ((hown.out.1.alloc _).alloc _) ⟨wr.heap.size + 1, 0, none⟩ 1 1 [.int .i64 v, .string ByteArray.empty] rfl rfl ?c1 ?c2 (by omega) ?c3 ?c4 ?c5 (wr.heap.size + 1 + 1) ?c6 ?_))
                  case c1 => exact cell_news _ [.int .i64 v, .string ByteArray.empty] _ _ (by simp)
                  case c2 => simp [Value.oneCell']
                  case c3 => simp [maxLen]; omega
                  case c4 => omega
                  case c5 => have := HW.out.size; simp; omega
                  case c6 => simp
                  intro g1 cap1 w2 hown2 hgrow2 hat2 hlt2
                  have hbb : Below wr.heap.size wr ((wr.alloc (.cells #[.int .i64 v, .string ByteArray.empty] 124)).alloc (.cells [.int .i64 v, .string ByteArray.empty].toArray 124)) := ((Below.refl _ _).alloc (Nat.le_refl _) _).alloc (by simp) _
                  have HOW2 := Lib.hid (OwnSl.snoc keepsItem (hown.out.grow keepsItem hbb) (vs := [.int .i64 v, .string ByteArray.empty]) (x := ⟨v, ByteArray.empty⟩) rfl ⟨rfl, i64_small HSM.out, empty_size⟩ hown2 hgrow2 (hat_of hat2 (by simp)))
                  have HBW2 := Lib.hid ((HW.out.trans (hbb.mono HW.out.size)).grown hgrow2 (by have := HW.out.size; simp; omega) (fun j hj => (hown.out.1.lt j hj).1))
                  clear hown2 hgrow2 hat2 hlt2 hbb
                  go_wp2_with fail
                  go_roundw
                  case rel => exact ⟨rest.extract k rest.size, acc ++ [⟨v, ByteArray.empty⟩], _, rfl, HOW2, Lib.hid (comp_step HO.out (by rw [compA_dig HXR.out HNL.out HD0.out, HE.out, toList_drop, HSM2.out, Option.bind_some])), ⟨by rw [List.length_append, List.length_singleton, ByteArray.size_extract]; omega, by rw [ByteArray.size_extract]; omega⟩, HBW2⟩
                  case measure => simp [strSize]; omega
            · have HQ : Hid (digB 0 = false) := Lib.hid (by decide)
              have HE : Hid (runN dig rest.data.toList = k) := Lib.hid (runN_at _ _ _ HA.out (by rw [HZR.out]; exact hk) (by intro x hx; rw [List.getElem?_eq_none (by rw [HZR.out]; omega)] at hx; cases hx))
              have hk1 : 1 ≤ k := by have := runN_first (p := dig) (HXR.out) HD0.out; rw [HE.out] at this; exact this
              have hb0 : ((k : Int) == 0) = false := by simp; omega
              have hb1 : decide ((k : Int) = 0) = false := by simp; omega
              have HSM2 : Hid (smallL (rest.data.toList.take k) maxI = smallL (rest.extract 0 k).data.toList 9223372036854775807) := Lib.hid (by rw [toList_take]; rfl)
              have hes : (rest.extract 0 k).size ≤ 1000000000 := by rw [ByteArray.size_extract]; omega
              have HES := Lib.hid hes
              clear hes
              cases hsm : smallL (rest.extract 0 k).data.toList 9223372036854775807 with
              | none =>
                have HSM := Lib.hid hsm
                rw [HSM.out] at HSM2
                clear hsm
                have HF : Hid (compL s.data.toList = none) := Lib.hid (by rw [HO.out, compA_dig HXR.out HNL.out HD0.out, HE.out, HSM2.out]; rfl)
                go_wp2_with (first
                  | (go_at_call 89; refine (isDigit_any _ _).mono ?_; rintro e w1 ⟨rfl, rfl⟩; first | rw [HQ.out] | rw [HD0.out])
                  | (go_at_call 66; refine (number_any _ _ HES.out).mono ?_; rintro e w1 ⟨rfl, rfl⟩; rw [HSM.out]; unfold okv))
                go_ret2
                exact ⟨CompPost.no HF.out, HW.out.alloc HW.out.size _⟩
              | some v =>
                have HSM := Lib.hid hsm
                rw [HSM.out] at HSM2
                clear hsm
                go_wp2_with (first
                  | (go_at_call 89; refine (isDigit_any _ _).mono ?_; rintro e w1 ⟨rfl, rfl⟩; first | rw [HQ.out] | rw [HD0.out])
                  | (go_at_call 66; refine (number_any _ _ HES.out).mono ?_; rintro e w1 ⟨rfl, rfl⟩; rw [HSM.out]; unfold okv)
                  | (at_builtin; refine wpList_append_lies _ rfl _ _ 107 rfl w.heap.size 124 i0 (.agg #[.int .i64 0, .string ByteArray.empty]) 2 24 Tryd.underlying107 hi0 hz0 hz1 hz2 rfl (by decide) u4 acc.length cs rfl ((hown.out.1.alloc _).alloc _) ⟨wr.heap.size + 1, 0, none⟩ 1 1 [.int .i64 v, .string ByteArray.empty] rfl rfl ?c1 ?c2 (by omega) ?c3 ?c4 ?c5 (wr.heap.size + 1 + 1) ?c6 ?_))
                case c1 => exact cell_news _ [.int .i64 v, .string ByteArray.empty] _ _ (by simp)
                case c2 => simp [Value.oneCell']
                case c3 => simp [maxLen]; omega
                case c4 => omega
                case c5 => have := HW.out.size; simp; omega
                case c6 => simp
                intro g1 cap1 w2 hown2 hgrow2 hat2 hlt2
                have hbb : Below wr.heap.size wr ((wr.alloc (.cells #[.int .i64 v, .string ByteArray.empty] 124)).alloc (.cells [.int .i64 v, .string ByteArray.empty].toArray 124)) := ((Below.refl _ _).alloc (Nat.le_refl _) _).alloc (by simp) _
                have HOW2 := Lib.hid (OwnSl.snoc keepsItem (hown.out.grow keepsItem hbb) (vs := [.int .i64 v, .string ByteArray.empty]) (x := ⟨v, ByteArray.empty⟩) rfl ⟨rfl, i64_small HSM.out, empty_size⟩ hown2 hgrow2 (hat_of hat2 (by simp)))
                have HBW2 := Lib.hid ((HW.out.trans (hbb.mono HW.out.size)).grown hgrow2 (by have := HW.out.size; simp; omega) (fun j hj => (hown.out.1.lt j hj).1))
                clear hown2 hgrow2 hat2 hlt2 hbb
                go_wp2_with fail
                go_roundw
                case rel => exact ⟨rest.extract k rest.size, acc ++ [⟨v, ByteArray.empty⟩], _, rfl, HOW2, Lib.hid (comp_step HO.out (by rw [compA_dig HXR.out HNL.out HD0.out, HE.out, toList_drop, HSM2.out, Option.bind_some])), ⟨by rw [List.length_append, List.length_singleton, ByteArray.size_extract]; omega, by rw [ByteArray.size_extract]; omega⟩, HBW2⟩
                case measure => simp [strSize]; omega
        · have HD0 : Hid (digB rest[0].toNat = false) := Lib.hid (by simpa using hd)
          clear hd
          have HF : Hid (compL s.data.toList = none) := Lib.hid (by rw [HO.out, compA_no HXR.out HNL.out HD0.out]; rfl)
          have HR0 : Hid (runN dig rest.data.toList = 0) := Lib.hid (runN_at _ _ _ (fun j x hj => absurd hj (by omega)) (Nat.zero_le _) (fun x hx => by rw [HXR.out] at hx; obtain rfl := Option.some.inj hx; exact HD0.out))
          go_wp2_with (go_at_call 88; refine (isLetter_any _ _).mono ?_; rintro e w1 ⟨rfl, rfl⟩; rw [HNL.out])
          go_loop [6] (fun i => ∃ k : Nat, k ≤ rest.size ∧ i = .int .i64 k ∧ Hid (∀ j x, j < k → rest.data.toList[j]? = some x → dig x = true)) (fun i => rest.size - (intOf i).toNat)
          case atStart => exact ⟨0, Nat.zero_le _, rfl, Lib.hid (fun j x hj => absurd hj (by omega))⟩
          case round =>
            obtain ⟨k, hk, rfl, HA⟩ := hrel
            by_cases hlt : k < rest.size
            · have HX := Lib.hid (byteAt hlt)
              by_cases hq : digB rest[k].toNat = true
              · have HQ := Lib.hid hq
                clear hq
                go_wp2_with (go_at_call 89; refine (isDigit_any _ _).mono ?_; rintro e w1 ⟨rfl, rfl⟩; rw [HQ.out])
                go_round
                case rel => exact ⟨k + 1, by omega, by go_num, Lib.hid (all_more HA.out HX.out HQ.out)⟩
                case measure => simp [intOf]; omega
              · have HQ : Hid (digB rest[k].toNat = false) := Lib.hid (by simpa using hq)
                clear hq
                have HE : Hid (runN dig rest.data.toList = k) := Lib.hid (runN_at _ _ _ HA.out (by rw [HZR.out]; exact hk) (by intro x hx; rw [HX.out] at hx; obtain rfl := Option.some.inj hx; exact HQ.out))
                obtain rfl : k = 0 := by rw [← HE.out, HR0.out]
                go_wp2_with (go_at_call 89; refine (isDigit_any _ _).mono ?_; rintro e w1 ⟨rfl, rfl⟩; rw [HQ.out])
                go_ret2
                exact ⟨CompPost.no HF.out, HW.out⟩
            · have HQ : Hid (digB 0 = false) := Lib.hid (by decide)
              exact absurd (by have := runN_le dig rest.data.toList; omega : 0 < rest.size) (by
                  have HE := Lib.hid (runN_at dig rest.data.toList k HA.out (by rw [HZR.out]; exact hk) (by intro x hx; rw [List.getElem?_eq_none (by rw [HZR.out]; omega)] at hx; cases hx))
                  rw [HR0.out] at HE
                  have := HE.out
                  omega)
end Go.Proofs.YtkmoaeckabjgnaaDoor.V
