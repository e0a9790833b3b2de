/-
  The walk of version.components.
-/
import Derived.Test.YtkmoaeckabjgnaaDoorComp1
namespace Go.Proofs.YtkmoaeckabjgnaaDoor.V
set_option linter.unusedVariables false
set_option linter.unusedSimpArgs false
open Go Go.RowKit Go.Sort

theorem itemsInfo : (Tryd.prog.info? 107).map (fun i => (i.zero, i.size, i.bytes)) = some (some (.slice none 0 0), 1, 24) := by kernel_rfl
theorem leafItem (w : World) (ok ok' : Nat → Prop) (vs : List Value) (x : Item) (h : RItem w ok vs x) : RItem w ok' vs x := h

def CompsPost (base : Nat) (l : List UInt8) (e : Ending) (w' : World) : Prop :=
  match compsL l with
  | none => e = .returned (.tuple #[.slice none 0 0, .bool false])
  | some xs => ∃ A c cs, e = .returned (.tuple #[.slice A xs.length c, .bool true]) ∧ OwnSl 1 107 RComp w' base (.slice A xs.length c) cs xs
theorem CompsPost.no {base : Nat} {l : List UInt8} {w' : World} (h : compsL l = none) : CompsPost base l (.returned (.tuple #[.slice none 0 0, .bool false])) w' := by unfold CompsPost; rw [h]
theorem CompsPost.yes {base : Nat} {l : List UInt8} {w' : World} {xs : List (List Item)} {A : Option Addr} {n c : Nat} {cs : List Value} (h : compsL l = some xs) (hn : n = xs.length) (ho : OwnSl 1 107 RComp w' base (.slice A n c) cs xs) :
    CompsPost base l (.returned (.tuple #[.slice A n c, .bool true])) w' := by
  subst hn
  unfold CompsPost
  rw [h]
  exact ⟨A, c, cs, rfl, ho⟩
theorem comps_step {X : Option (List (List Item))} {r d : List UInt8} {acc : List (List Item)} {it : List Item} (h : X = (compsL r).map (acc ++ ·)) (h2 : compsL r = (compsL d).map (it :: ·)) : X = (compsL d).map ((acc ++ [it]) ++ ·) := by
  rw [h, h2]
  cases compsL d <;> simp
theorem rcomp_of {w : World} {v lv : Value} {base base0 : Nat} {cs : List Value} {xs : List Item} (h : OwnSl 2 124 RItem w base v cs xs) (h0 : base0 ≤ base) (hl : ∀ k, lv.ownBlock = some k → k < base) : RComp w (Off w base0 lv) [v] xs :=
  ⟨v, rfl, h.slLeaf leafItem _ (fun b h1 h2 => ⟨Nat.le_trans h0 h1, h2, fun hb => by have := hl b hb; omega⟩)⟩

set_option maxHeartbeats 4000000 in
set_option maxRecDepth 100000 in
theorem components_any (s : ByteArray) (w : World) (hs : s.size ≤ 1000000000) :
    Calls Tryd.prog 67 #[.string s] w fun e w' => CompsPost w.heap.size s.data.toList e w' ∧ Below w.heap.size w w' := by
  obtain ⟨i0, hi0, hz0, hz1, hz2⟩ := info_parts itemsInfo

  go_enter Tryd.func67, Tryd.ntmps67
  go_wp2_with fail
  go_loopw [0, 4] (fun u0 u4 wr => ∃ (rest : ByteArray) (acc : List (List Item)) (cs : List Value), u0 = .string rest ∧ Hid (OwnSl 1 107 RComp wr w.heap.size u4 cs acc) ∧ Hid (compsL s.data.toList = (compsL rest.data.toList).map (acc ++ ·)) ∧ (acc.length + rest.size ≤ s.size ∧ rest.size ≤ s.size) ∧ Hid (Below w.heap.size w wr)) (fun u0 _ _ => strSize u0)
  case atStart => exact ⟨s, _, _, rfl, Lib.hid (OwnSl.nil 1 107 RComp _ _), Lib.hid (by simp), ⟨by simp, Nat.le_refl _⟩, Lib.hid (Below.refl _ _)⟩
  case round =>
    obtain ⟨rest, acc, cs, rfl, hown, HO, ⟨hlen, hle⟩, HW⟩ := hrel
    obtain ⟨r, HR⟩ : ∃ r, Hid (Lib.indexAny rest.data.toList sepL = r) := ⟨_, Lib.hid rfl⟩
    have HIA : Hid (∀ W : World, Calls Tryd.prog 77 #[.string rest, .string { data := #[46, 95, 45] }] W fun e w' => e = .returned (.int .i64 r) ∧ Below W.heap.size W w') := Lib.hid (fun W => by
      rw [← HR.out]
      exact IndexAny_any rest ⟨#[46, 95, 45]⟩ W (by decide) (by omega) (by decide) (by decide))
    rcases indexAny_cases sepL rest.data.toList with h | ⟨k, h, hk⟩
    · rw [HR.out] at h
      subst h
      have HES : Hid (rest.size ≤ 1000000000) := Lib.hid (by omega)
      cases hc : compL rest.data.toList with
      | none =>
        have HC := Lib.hid hc
        have HF : Hid (compsL s.data.toList = none) := Lib.hid (by rw [HO.out, compsL_one HR.out, hc]; rfl)
        clear hc
        go_wp2_with (first
          | (go_at_call 77; refine (HIA.out _).mono ?_; rintro e w1 ⟨rfl, hb1⟩; have HB1 := Lib.hid hb1; clear hb1)
          | (go_at_call 78; refine (component_any _ _ HES.out).mono ?_; rintro e w2 ⟨hp, hb2⟩; obtain rfl := CompPost.elim_no HC.out hp; have HB2 := Lib.hid hb2; clear hb2 hp))
        go_ret2
        exact ⟨CompsPost.no HF.out, HW.out.trans ((HB1.out.trans (HB2.out.mono HB1.out.size)).mono HW.out.size)⟩
      | some c =>
        have HC := Lib.hid hc
        have HF : Hid (compsL s.data.toList = some (acc ++ [c])) := Lib.hid (by rw [HO.out, compsL_one HR.out, hc]; rfl)
        clear hc
        go_wp2_with (first
          | (go_at_call 77; refine (HIA.out _).mono ?_; rintro e w1 ⟨rfl, hb1⟩; have HB1 := Lib.hid hb1; clear hb1)
          | (go_at_call 78; refine (component_any _ _ HES.out).mono ?_; rintro e w2 ⟨hp, hb2⟩; obtain ⟨A2, c2, cs2, rfl, ho2⟩ := CompPost.elim_yes HC.out hp; have HB2 := Lib.hid hb2; have HO2 := Lib.hid ho2; have HOG := Lib.hid (hown.out.grow keepsComp (HB1.out.trans (HB2.out.mono HB1.out.size))); clear hb2 hp ho2)
          | (at_builtin; refine wpList_append_lies _ rfl _ _ 31 rfl w.heap.size 107 i0 (.slice none 0 0) 1 24 Tryd.underlying31 hi0 hz0 hz1 hz2 rfl (by decide) u4 acc.length cs rfl (HOG.out.1.alloc _) ⟨w2.heap.size, 0, none⟩ 1 1 [.slice A2 c.length c2] rfl rfl ?c1 ?c2 (by omega) ?c3 ?c4 ?c5 (w2.heap.size + 1) ?c6 ?_))
        case c1 => exact cell_news _ [.slice A2 c.length c2] _ _ rfl
        case c2 => simp [Value.oneCell']
        case c3 => simp [maxLen]; omega
        case c4 => omega
        case c5 => have := HW.out.size; have := HB1.out.size; have := HB2.out.size; simp; omega
        case c6 => simp
        intro g1 cap1 w3 hown3 hgrow3 hat3 hlt3
        have HB12 := Lib.hid (HB1.out.trans (HB2.out.mono HB1.out.size))
        have hbb : Below w2.heap.size w2 (w2.alloc (.cells #[.slice A2 c.length c2] 107)) := news_alloc _ _
        have HOW3 := Lib.hid (OwnSl.snoc keepsComp (HOG.out.grow keepsComp hbb) (vs := [.slice A2 c.length c2]) (x := c) rfl (rcomp_of (HO2.out.grow keepsItem hbb) (by have := HW.out.size; have := HB1.out.size; omega) (fun j hj => by have := (hown.out.1.lt j hj).2; have := HB1.out.size; omega)) hown3 hgrow3 (hat_of hat3 (by simp)))
        have HBW3 := Lib.hid (((HW.out.trans (HB12.out.mono HW.out.size)).trans (hbb.mono (by have := HW.out.size; have := HB12.out.size; omega))).grown hgrow3 (by have := HW.out.size; have := HB12.out.size; simp; omega) (fun j hj => (hown.out.1.lt j hj).1))
        clear hown3 hgrow3 hat3 hlt3 hbb
        go_wp2_with fail
        go_ret2
        exact ⟨CompsPost.yes HF.out (by simp) HOW3.out, HBW3.out⟩
    · rw [HR.out] at h
      subst h
      have HK : Hid (rest.data.toList.length = rest.size) := Lib.hid (by simp)
      have hks : k < rest.size := by rw [← HK.out]; exact hk
      have HES : Hid ((rest.extract 0 k).size ≤ 1000000000) := Lib.hid (by rw [ByteArray.size_extract]; omega)
      have HM := Lib.hid (compsL_more HR.out hk)
      clear hk
      cases hc : compL (rest.extract 0 k).data.toList with
      | none =>
        have HC := Lib.hid hc
        have HF : Hid (compsL s.data.toList = none) := Lib.hid (by rw [HO.out, HM.out, ← toList_take, hc]; rfl)
        clear hc
        go_wp2_with (first
          | (go_at_call 77; refine (HIA.out _).mono ?_; rintro e w1 ⟨rfl, hb1⟩; have HB1 := Lib.hid hb1; clear hb1)
          | (go_at_call 78; refine (component_any _ _ HES.out).mono ?_; rintro e w2 ⟨hp, hb2⟩; obtain rfl := CompPost.elim_no HC.out hp; have HB2 := Lib.hid hb2; clear hb2 hp))
        go_ret2
        exact ⟨CompsPost.no HF.out, HW.out.trans ((HB1.out.trans (HB2.out.mono HB1.out.size)).mono HW.out.size)⟩
      | some c =>
        have HC := Lib.hid hc
        have HF : Hid (compsL rest.data.toList = (compsL (rest.extract (k + 1) rest.size).data.toList).map (c :: ·)) := Lib.hid (by rw [HM.out, ← toList_take, hc, toList_drop]; rfl)
        clear hc
        go_wp2_with (first
          | (go_at_call 77; refine (HIA.out _).mono ?_; rintro e w1 ⟨rfl, hb1⟩; have HB1 := Lib.hid hb1; clear hb1)
          | (go_at_call 78; refine (component_any _ _ HES.out).mono ?_; rintro e w2 ⟨hp, hb2⟩; obtain ⟨A2, c2, cs2, rfl, ho2⟩ := CompPost.elim_yes HC.out hp; have HB2 := Lib.hid hb2; have HO2 := Lib.hid ho2; have HOG := Lib.hid (hown.out.grow keepsComp (HB1.out.trans (HB2.out.mono HB1.out.size))); clear hb2 hp ho2)
          | (at_builtin; refine wpList_append_lies _ rfl _ _ 31 rfl w.heap.size 107 i0 (.slice none 0 0) 1 24 Tryd.underlying31 hi0 hz0 hz1 hz2 rfl (by decide) u4 acc.length cs rfl (HOG.out.1.alloc _) ⟨w2.heap.size, 0, none⟩ 1 1 [.slice A2 c.length c2] rfl rfl ?c1 ?c2 (by omega) ?c3 ?c4 ?c5 (w2.heap.size + 1) ?c6 ?_))
        case c1 => exact cell_news _ [.slice A2 c.length c2] _ _ rfl
        case c2 => simp [Value.oneCell']
        case c3 => simp [maxLen]; omega
        case c4 => omega
        case c5 => have := HW.out.size; have := HB1.out.size; have := HB2.out.size; simp; omega
        case c6 => simp
        intro g1 cap1 w3 hown3 hgrow3 hat3 hlt3
        have HB12 := Lib.hid (HB1.out.trans (HB2.out.mono HB1.out.size))
        have hbb : Below w2.heap.size w2 (w2.alloc (.cells #[.slice A2 c.length c2] 107)) := news_alloc _ _
        have HOW3 := Lib.hid (OwnSl.snoc keepsComp (HOG.out.grow keepsComp hbb) (vs := [.slice A2 c.length c2]) (x := c) rfl (rcomp_of (HO2.out.grow keepsItem hbb) (by have := HW.out.size; have := HB1.out.size; omega) (fun j hj => by have := (hown.out.1.lt j hj).2; have := HB1.out.size; omega)) hown3 hgrow3 (hat_of hat3 (by simp)))
        have HBW3 := Lib.hid (((HW.out.trans (HB12.out.mono HW.out.size)).trans (hbb.mono (by have := HW.out.size; have := HB12.out.size; omega))).grown hgrow3 (by have := HW.out.size; have := HB12.out.size; simp; omega) (fun j hj => (hown.out.1.lt j hj).1))
        clear hown3 hgrow3 hat3 hlt3 hbb
        go_wp2_with fail
        go_roundw
        case rel => exact ⟨rest.extract (k + 1) rest.size, acc ++ [c], _, rfl, HOW3, Lib.hid (comps_step HO.out HF.out), ⟨by rw [List.length_append, List.length_singleton, ByteArray.size_extract]; omega, by rw [ByteArray.size_extract]; omega⟩, HBW3⟩
        case measure => simp [strSize]; omega
end Go.Proofs.YtkmoaeckabjgnaaDoor.V
