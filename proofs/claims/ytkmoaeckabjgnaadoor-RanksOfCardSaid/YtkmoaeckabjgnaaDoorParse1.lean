/-
  The walk of version.Parse.
-/
import Derived.Test.YtkmoaeckabjgnaaDoorComp2
import Derived.Test.YtkmoaeckabjgnaaDoorBlk
import Derived.Test.YtkmoaeckabjgnaaDoorOpen
import Derived.RegionTactic
import Derived.BigRegion
namespace Go.Proofs.YtkmoaeckabjgnaaDoor.V
set_option linter.unusedVariables false
set_option linter.unusedSimpArgs false
open Go Go.RowKit Go.Sort

def ParsePost (base : Nat) (ev : Value) (l : List UInt8) (e : Ending) (w' : World) : Prop :=
  match parseL l with
  | none => e = .returned (.tuple #[.agg #[.int .i64 0, .slice none 0 0, .slice none 0 0], ev])
  | some x => ∃ A1 c1 A2 c2, e = .returned (.tuple #[.agg #[.int .i64 x.epoch, .slice A1 x.parts.length c1, .slice A2 x.loc.length c2], .nilIface]) ∧
      IsVer w' (From base w') (.agg #[.int .i64 x.epoch, .slice A1 x.parts.length c1, .slice A2 x.loc.length c2]) x
theorem ParsePost.no {base : Nat} {ev : Value} {l : List UInt8} {w' : World} (h : parseL l = none) : ParsePost base ev l (.returned (.tuple #[.agg #[.int .i64 0, .slice none 0 0, .slice none 0 0], ev])) w' := by
  unfold ParsePost
  rw [h]
theorem ParsePost.yes {base : Nat} {ev : Value} {l : List UInt8} {w' : World} {x : Ver} {ep : Int} {n1 n2 : Nat} {A1 A2 : Option Addr} {c1 c2 : Nat} (h : parseL l = some x) (he : ep = x.epoch) (h1 : n1 = x.parts.length) (h2 : n2 = x.loc.length) (hi : I64 x.epoch)
    (hp : IsParts w' (From base w') (.slice A1 x.parts.length c1) x.parts) (hl : IsParts w' (From base w') (.slice A2 x.loc.length c2) x.loc) :
    ParsePost base ev l (.returned (.tuple #[.agg #[.int .i64 ep, .slice A1 n1 c1, .slice A2 n2 c2], .nilIface])) w' := by
  subst he; subst h1; subst h2
  unfold ParsePost
  rw [h]
  exact ⟨A1, c1, A2, c2, rfl, _, _, rfl, hi, hp, hl⟩
theorem CompsPost.elim_no {base : Nat} {l : List UInt8} {e : Ending} {w' : World} (h : compsL l = none) (hp : CompsPost base l e w') : e = .returned (.tuple #[.slice none 0 0, .bool false]) := by
  unfold CompsPost at hp
  rw [h] at hp
  exact hp
theorem CompsPost.elim_yes {base : Nat} {l : List UInt8} {e : Ending} {w' : World} {xs : List (List Item)} (h : compsL l = some xs) (hp : CompsPost base l e w') :
    ∃ A c cs, e = .returned (.tuple #[.slice A xs.length c, .bool true]) ∧ OwnSl 1 107 RComp w' base (.slice A xs.length c) cs xs := by
  unfold CompsPost at hp
  rw [h] at hp
  exact hp
theorem Cut_any (s sep : ByteArray) (m : Int) (w : World) (hs : s.size < 4294967281) (hm : w.cell? ⟨13, 0, none⟩ = some (.int .i64 m)) :
    Calls Tryd.prog 65 #[.string s, .string sep] w fun e w' => e = .returned (.tuple #[.string ⟨(Lib.cut s.data.toList sep.data.toList).1.toArray⟩, .string ⟨(Lib.cut s.data.toList sep.data.toList).2.1.toArray⟩, .bool (Lib.cut s.data.toList sep.data.toList).2.2]) ∧ Below w.heap.size w w' := by
  refine (Tryd.strings_Cut s sep m w hs hm).mono ?_
  rintro e w' ⟨he, n, rfl⟩
  exact ⟨he, ⟨rfl, rfl, rfl, Nat.le_refl _, fun _ _ => rfl⟩⟩

/-- The state of Parse: its result's block, the version's, and the globals. -/
structure PS (w W : World) (ev : Value) (m : Int) (g : Nat) (cs : Array Value) : Prop where
  res : Blk W w.heap.size 33 #[.int .i64 0, .slice none 0 0, .slice none 0 0]
  var : Blk W g 33 cs
  err : W.cell? ⟨8, 0, none⟩ = some ev
  ml : W.cell? ⟨13, 0, none⟩ = some (.int .i64 m)
  below : Below w.heap.size w W
  lt : w.heap.size < g
  lt0 : 8 < w.heap.size
  lt1 : 13 < w.heap.size
theorem PS.next {w W W' : World} {ev : Value} {m : Int} {g : Nat} {cs : Array Value} (h : PS w W ev m g cs) (hb : Below W.heap.size W W') : PS w W' ev m g cs :=
  ⟨h.res.belowSelf hb, h.var.belowSelf hb, (hb.cell (Nat.lt_of_lt_of_le h.lt0 h.below.size)).trans h.err, (hb.cell (Nat.lt_of_lt_of_le h.lt1 h.below.size)).trans h.ml, h.below.trans (hb.mono h.below.size), h.lt, h.lt0, h.lt1⟩
theorem PS.store {w W : World} {ev : Value} {m : Int} {g : Nat} {cs : Array Value} (h : PS w W ev m g cs) (i : Nat) (u : Value) : PS w (W.setCell ⟨g, i, none⟩ u) ev m g (cs.setIfInBounds i u) := by
  have h1 := h.lt
  have h2 := h.lt0
  have h3 := h.lt1
  refine ⟨h.res.far (by simp; omega) _, h.var.set_ _ _, ?_, ?_, h.below.setCell (by simp; omega) _, h.lt, h.lt0, h.lt1⟩
  · rw [World.cell?_setCell_other _ _ _ _ (by intro e; have := (Addr.mk.inj e).1; omega)]
    exact h.err
  · rw [World.cell?_setCell_other _ _ _ _ (by intro e; have := (Addr.mk.inj e).1; omega)]
    exact h.ml

set_option maxHeartbeats 4000000 in
theorem Parse_any (s : ByteArray) (u : TypeId) (ev : Value) (m : Int) (w : World) (hs : s.size ≤ 1000000000) (he : w.cell? ⟨8, 0, none⟩ = some (.iface u ev)) (hm : w.cell? ⟨13, 0, none⟩ = some (.int .i64 m)) :
    Calls Tryd.prog 46 #[.string s] w fun e w' => ParsePost w.heap.size (.iface u ev) s.data.toList e w' ∧ Below w.heap.size w w' := by
  have hg0 : 8 < w.heap.size := cell_lt he
  have hg1 : 13 < w.heap.size := cell_lt hm
  have HSZ : Hid (s.data.toList.length = s.size) := Lib.hid (by simp)
  have HBk := Lib.hid (Blk.new w 33 #[.int .i64 0, .slice none 0 0, .slice none 0 0])
  have HE : Hid ((w.alloc (.cells #[.int .i64 0, .slice none 0 0, .slice none 0 0] 33)).cell? ⟨8, 0, none⟩ = some (.iface u ev)) := Lib.hid (by rw [World.cell?_alloc_lt _ _ _ (by exact hg0)]; exact he)
  have HM : Hid ((w.alloc (.cells #[.int .i64 0, .slice none 0 0, .slice none 0 0] 33)).cell? ⟨13, 0, none⟩ = some (.int .i64 m)) := Lib.hid (by rw [World.cell?_alloc_lt _ _ _ (by exact hg1)]; exact hm)
  have HBW := Lib.hid (news_alloc w (.cells #[.int .i64 0, .slice none 0 0, .slice none 0 0] 33))
  have HSW : Hid ((w.alloc (.cells #[.int .i64 0, .slice none 0 0, .slice none 0 0] 33)).heap.size = w.heap.size + 1) := Lib.hid (by simp)
  have HG0 := Lib.hid hg0
  have HG1 := Lib.hid hg1
  clear he hm hg0 hg1
  by_cases h1 : s.size < 1
  · have HF : Hid (parseL s.data.toList = none) := Lib.hid (if_pos (.inl (by rw [HSZ.out]; omega)))
    go_enter Tryd.func46, Tryd.ntmps46
    go_wp2_with fail
    generalize w.alloc (.cells #[.int .i64 0, .slice none 0 0, .slice none 0 0] 33) = W at *
    have q0 := HBk.out.cell 0
    have q1 := HBk.out.cell 1
    have q2 := HBk.out.cell 2
    have f0 := HBk.out.frozen 0
    have f1 := HBk.out.frozen 1
    have f2 := HBk.out.frozen 2
    have qe := HE.out
    have qg := HG0.out
    go_region
    go_wp2_with fail
    refine bodyPost_ret (v := .tuple #[.agg #[.int .i64 0, .slice none 0 0, .slice none 0 0], .iface u ev]) (by simp [results, Tryd.results46, go_sem, q0, q1, q2]) rfl ⟨ParsePost.no HF.out, ?_⟩
    exact (((HBW.out.setCell (Nat.le_refl _) _).setCell (Nat.le_refl _) _).setCell (Nat.le_refl _) _).drew
  by_cases h2 : 40 < s.size
  · have HF : Hid (parseL s.data.toList = none) := Lib.hid (if_pos (.inr (by rw [HSZ.out]; omega)))
    go_enter Tryd.func46, Tryd.ntmps46
    go_wp2_with fail
    generalize w.alloc (.cells #[.int .i64 0, .slice none 0 0, .slice none 0 0] 33) = W at *
    have q0 := HBk.out.cell 0
    have q1 := HBk.out.cell 1
    have q2 := HBk.out.cell 2
    have f0 := HBk.out.frozen 0
    have f1 := HBk.out.frozen 1
    have f2 := HBk.out.frozen 2
    have qe := HE.out
    have qg := HG0.out
    go_region
    go_wp2_with fail
    refine bodyPost_ret (v := .tuple #[.agg #[.int .i64 0, .slice none 0 0, .slice none 0 0], .iface u ev]) (by simp [results, Tryd.results46, go_sem, q0, q1, q2]) rfl ⟨ParsePost.no HF.out, ?_⟩
    exact (((HBW.out.setCell (Nat.le_refl _) _).setCell (Nat.le_refl _) _).setCell (Nat.le_refl _) _).drew
  have HP : Hid (parseL s.data.toList = if (Lib.cut (lowL s.data.toList) [33]).2.2 = true then (smallL (Lib.cut (lowL s.data.toList) [33]).1 maxI).bind fun e => parse2 e (Lib.cut (lowL s.data.toList) [33]).2.1
      else parse2 0 (lowL s.data.toList)) := Lib.hid (if_neg (by rw [HSZ.out]; omega))
  have HC1 := Lib.hid (cut_len (lowL s.data.toList) [33])
  obtain ⟨s1, HS1⟩ : ∃ s1 : ByteArray, Hid (s1.data.toList = lowL s.data.toList) := ⟨⟨(lowL s.data.toList).toArray⟩, Lib.hid rfl⟩
  have HLS : Hid (s1.size ≤ 40) := Lib.hid (by
    have h := congrArg List.length HS1.out
    simp only [lowL, List.length_map, HSZ.out] at h
    have : s1.data.toList.length = s1.size := by simp
    omega)
  have HLW : Hid (∀ W : World, Calls Tryd.prog 64 #[.string s] W fun e w' => e = .returned (.string s1) ∧ Below W.heap.size W w') := Lib.hid (fun W => by
    have e : (⟨(lowL s.data.toList).toArray⟩ : ByteArray) = s1 := by
      apply ByteArray.ext
      rw [← HS1.out]
    rw [← e]
    exact Lower_any s W hs)
  rw [← HS1.out] at HP HC1
  obtain ⟨b1, HB1⟩ : ∃ b : ByteArray, Hid (b.data.toList = (Lib.cut s1.data.toList [33]).1) := ⟨⟨(Lib.cut s1.data.toList [33]).1.toArray⟩, Lib.hid rfl⟩
  obtain ⟨a1, HA1⟩ : ∃ b : ByteArray, Hid (b.data.toList = (Lib.cut s1.data.toList [33]).2.1) := ⟨⟨(Lib.cut s1.data.toList [33]).2.1.toArray⟩, Lib.hid rfl⟩
  obtain ⟨k1, HK1⟩ : ∃ k, Hid ((Lib.cut s1.data.toList [33]).2.2 = k) := ⟨_, Lib.hid rfl⟩
  have HLB : Hid (b1.size ≤ 40 ∧ a1.size ≤ 40) := Lib.hid (by
    have h1 : b1.data.toList.length = b1.size := by simp
    have h2 : a1.data.toList.length = a1.size := by simp
    have h3 : s1.data.toList.length = s1.size := by simp
    have h4 := HC1.out
    have h5 := HLS.out
    rw [← HB1.out, ← HA1.out] at h4
    omega)
  have HCT : Hid (∀ W : World, W.cell? ⟨13, 0, none⟩ = some (.int .i64 m) → Calls Tryd.prog 65 #[.string s1, .string { data := #[33] }] W fun e w' => e = .returned (.tuple #[.string b1, .string a1, .bool k1]) ∧ Below W.heap.size W w') := Lib.hid (fun W hW => by
    have e1 : (⟨(Lib.cut s1.data.toList [33]).1.toArray⟩ : ByteArray) = b1 := ByteArray.ext (by rw [← HB1.out])
    have e2 : (⟨(Lib.cut s1.data.toList [33]).2.1.toArray⟩ : ByteArray) = a1 := ByteArray.ext (by rw [← HA1.out])
    rw [← e1, ← e2, ← HK1.out]
    exact Cut_any s1 ⟨#[33]⟩ m W (by have := HLS.out; omega) hW)
  rw [HK1.out, ← HB1.out, ← HA1.out] at HP
  cases k1 with
  | false =>
    have HQ : Hid (parseL s.data.toList = parse2 0 s1.data.toList) := HP
    have HC2 := Lib.hid (cut_len s1.data.toList [43])
    obtain ⟨m2, HM2⟩ : ∃ b : ByteArray, Hid (b.data.toList = (Lib.cut s1.data.toList [43]).1) := ⟨⟨(Lib.cut s1.data.toList [43]).1.toArray⟩, Lib.hid rfl⟩
    obtain ⟨l2, HL2⟩ : ∃ b : ByteArray, Hid (b.data.toList = (Lib.cut s1.data.toList [43]).2.1) := ⟨⟨(Lib.cut s1.data.toList [43]).2.1.toArray⟩, Lib.hid rfl⟩
    obtain ⟨k2, HK2⟩ : ∃ k, Hid ((Lib.cut s1.data.toList [43]).2.2 = k) := ⟨_, Lib.hid rfl⟩
    have HLM : Hid (m2.size ≤ 1000000000 ∧ l2.size ≤ 1000000000) := Lib.hid (by
      have h1 : m2.data.toList.length = m2.size := by simp
      have h2 : l2.data.toList.length = l2.size := by simp
      have h3 : s1.data.toList.length = s1.size := by simp
      have h4 := HC2.out
      have h5 := HLS.out
      have h6 := HLB.out
      rw [← HM2.out, ← HL2.out] at h4
      omega)
    have HCU : Hid (∀ W : World, W.cell? ⟨13, 0, none⟩ = some (.int .i64 m) → Calls Tryd.prog 65 #[.string s1, .string { data := #[43] }] W fun e w' => e = .returned (.tuple #[.string m2, .string l2, .bool k2]) ∧ Below W.heap.size W w') := Lib.hid (fun W hW => by
      have e1 : (⟨(Lib.cut s1.data.toList [43]).1.toArray⟩ : ByteArray) = m2 := ByteArray.ext (by rw [← HM2.out])
      have e2 : (⟨(Lib.cut s1.data.toList [43]).2.1.toArray⟩ : ByteArray) = l2 := ByteArray.ext (by rw [← HL2.out])
      rw [← e1, ← e2, ← HK2.out]
      exact Cut_any s1 ⟨#[43]⟩ m W (by have := HLS.out; have := HLB.out; omega) hW)
    have HP2 : Hid (parse2 0 s1.data.toList = (compsL m2.data.toList).bind fun p => if k2 = true then (compsL l2.data.toList).map fun q => ⟨0, p, q⟩ else some ⟨0, p, []⟩) := Lib.hid (by
      unfold parse2
      rw [HK2.out, ← HM2.out, ← HL2.out])
    go_enter Tryd.func46, Tryd.ntmps46
    go_wp2_with fail
    generalize w.alloc (.cells #[.int .i64 0, .slice none 0 0, .slice none 0 0] 33) = W at *
    refine (HLW.out _).mono ?_
    rintro e w1 ⟨rfl, hb1⟩
    have HR1 := Lib.hid (HBk.out.belowSelf hb1)
    have HE1 := Lib.hid ((hb1.cell (by have := HSW.out; have := HG0.out; show 8 < _; omega)).trans HE.out)
    have HM1 := Lib.hid ((hb1.cell (by have := HSW.out; have := HG1.out; show 13 < _; omega)).trans HM.out)
    have HW1 := Lib.hid (HBW.out.trans (hb1.mono (by have := HSW.out; omega)))
    have HZ1 := Lib.hid hb1.size
    clear hb1
    go_wp2_with fail
    have HS : Hid (PS w (w1.alloc (.cells #[.int .i64 0, .slice none 0 0, .slice none 0 0] 33)) (.iface u ev) m w1.heap.size #[.int .i64 0, .slice none 0 0, .slice none 0 0]) := Lib.hid
      ⟨HR1.out.alloc _, Blk.new _ _ _, by rw [World.cell?_alloc_lt _ _ _ (cell_lt HE1.out)]; exact HE1.out, by rw [World.cell?_alloc_lt _ _ _ (cell_lt HM1.out)]; exact HM1.out, HW1.out.alloc HW1.out.size _, by have := HSW.out; have := HZ1.out; omega, HG0.out, HG1.out⟩
    generalize w1.alloc (.cells #[.int .i64 0, .slice none 0 0, .slice none 0 0] 33) = W2 at *
    generalize w1.heap.size = g at *
    refine (HCT.out _ HS.out.ml).mono ?_
    rintro e w3 ⟨rfl, hb3⟩
    have HS3 := Lib.hid (HS.out.next hb3)
    clear hb3
    go_wp2_with fail
    refine (HCU.out _ HS3.out.ml).mono ?_
    rintro e w4 ⟨rfl, hb4⟩
    have HS4 := Lib.hid (HS3.out.next hb4)
    clear hb4
    go_wp2_with fail
    refine (components_any _ _ HLM.out.1).mono ?_
    rintro e w5 ⟨hp5, hb5⟩
    have HS5 := Lib.hid (HS4.out.next hb5)
    cases hc : compsL m2.data.toList with
    | none =>
      obtain rfl := CompsPost.elim_no hc hp5
      have HF : Hid (parseL s.data.toList = none) := Lib.hid (by rw [HQ.out, HP2.out, hc]; rfl)
      clear hc hp5 hb5
      have v0 := HS5.out.var.cell 1
      have v1 := HS5.out.var.frozen 1
      go_wp2_with fail
      have HS6 := Lib.hid (HS5.out.store 1 (.slice none 0 0))
      clear v0 v1
      generalize w5.setCell ⟨g, 1, none⟩ (.slice none 0 0) = W6 at *
      have q0 := HS6.out.res.cell 0
      have q1 := HS6.out.res.cell 1
      have q2 := HS6.out.res.cell 2
      have f0 := HS6.out.res.frozen 0
      have f1 := HS6.out.res.frozen 1
      have f2 := HS6.out.res.frozen 2
      have qe := HS6.out.err
      have qg := HG0.out
      go_region
      go_wp2_with fail
      refine bodyPost_ret (v := .tuple #[.agg #[.int .i64 0, .slice none 0 0, .slice none 0 0], .iface u ev]) (by simp [results, Tryd.results46, go_sem, q0, q1, q2]) rfl ⟨ParsePost.no HF.out, ?_⟩
      exact (((HS6.out.below.setCell (Nat.le_refl _) _).setCell (Nat.le_refl _) _).setCell (Nat.le_refl _) _).drew
    | some p =>
      obtain ⟨A5, c5, cs5, rfl, ho5⟩ := CompsPost.elim_yes hc hp5
      have HC5 := Lib.hid hc
      have HO5 := Lib.hid (ho5.slFrom keepsComp (Nat.le_refl _))
      have HG4 : Hid (g < w4.heap.size ∧ w.heap.size < w4.heap.size) := Lib.hid ⟨HS4.out.var.lt, Nat.lt_trans HS4.out.lt HS4.out.var.lt⟩
      have HW4 := Lib.hid hb5.size
      clear hc hp5 hb5 ho5
      have v0 := HS5.out.var.cell 1
      have v1 := HS5.out.var.frozen 1
      have v2 := HS5.out.var.cell 0
      have v3 := HS5.out.var.cell 2
      cases k2 with
      | false =>
        have HF : Hid (parseL s.data.toList = some ⟨0, p, []⟩) := Lib.hid (by rw [HQ.out, HP2.out, HC5.out]; rfl)
        have HS6 := Lib.hid (HS5.out.store 1 (.slice A5 p.length c5))
        have t0 := HS6.out.var.cell 0
        have t1 := HS6.out.var.cell 1
        have t2 := HS6.out.var.cell 2
        have r0 := HS6.out.res.cell 0
        have r1 := HS6.out.res.cell 1
        have r2 := HS6.out.res.cell 2
        have f0 := HS6.out.res.frozen 0
        have f1 := HS6.out.res.frozen 1
        have f2 := HS6.out.res.frozen 2
        go_wp2_with fail
        refine bodyPost_ret (v := .tuple #[.agg #[.int .i64 0, .slice A5 p.length c5, .slice none 0 0], .nilIface]) (by simp [results, Tryd.results46, go_sem, r0, r1, r2]) rfl
          ⟨ParsePost.yes (x := ⟨0, p, []⟩) HF.out rfl rfl rfl i64_zero ?_ (IsSl.nil _ _ _ _ _ _ (by omega)), ((HS6.out.below.setCell (Nat.le_refl _) _).setCell (Nat.le_refl _) _).setCell (Nat.le_refl _) _⟩
        refine HO5.out.keepOn keepsComp (fun b hb => ⟨by have := hb.1; have := HG4.out.2; omega, by simpa using hb.2⟩) ?_
        exact (((sameOn_store _ _ _ (not_from HG4.out.1)).trans (sameOn_store _ _ _ (not_from HG4.out.2))).trans (sameOn_store _ _ _ (not_from HG4.out.2))).trans (sameOn_store _ _ _ (not_from HG4.out.2))
      | true =>
        have HS6 := Lib.hid (HS5.out.store 1 (.slice A5 p.length c5))
        clear v2 v3
        go_wp2_with fail
        clear v0 v1
        have HO6 : Hid (IsParts (w5.setCell ⟨g, 1, none⟩ (.slice A5 p.length c5)) (From w4.heap.size (w5.setCell ⟨g, 1, none⟩ (.slice A5 p.length c5))) (.slice A5 p.length c5) p) := Lib.hid
          (HO5.out.keepOn keepsComp (fun b hb => ⟨hb.1, by simpa using hb.2⟩) (sameOn_store _ _ _ (not_from HG4.out.1)))
        have HSZ6 : Hid (w4.heap.size ≤ (w5.setCell ⟨g, 1, none⟩ (.slice A5 p.length c5)).heap.size) := Lib.hid (by simp; exact HW4.out)
        generalize w5.setCell ⟨g, 1, none⟩ (.slice A5 p.length c5) = W6 at *
        refine (components_any _ _ HLM.out.2).mono ?_
        rintro e w7 ⟨hp7, hb7⟩
        have HS7 := Lib.hid (HS6.out.next hb7)
        cases hc : compsL l2.data.toList with
        | none =>
          obtain rfl := CompsPost.elim_no hc hp7
          have HF : Hid (parseL s.data.toList = none) := Lib.hid (by rw [HQ.out, HP2.out, HC5.out, hc]; rfl)
          clear hc hp7 hb7
          have v0 := HS7.out.var.cell 2
          have v1 := HS7.out.var.frozen 2
          go_wp2_with fail
          have HS8 := Lib.hid (HS7.out.store 2 (.slice none 0 0))
          clear v0 v1
          generalize w7.setCell ⟨g, 2, none⟩ (.slice none 0 0) = W8 at *
          have q0 := HS8.out.res.cell 0
          have q1 := HS8.out.res.cell 1
          have q2 := HS8.out.res.cell 2
          have f0 := HS8.out.res.frozen 0
          have f1 := HS8.out.res.frozen 1
          have f2 := HS8.out.res.frozen 2
          have qe := HS8.out.err
          have qg := HG0.out
          go_region
          go_wp2_with fail
          refine bodyPost_ret (v := .tuple #[.agg #[.int .i64 0, .slice none 0 0, .slice none 0 0], .iface u ev]) (by simp [results, Tryd.results46, go_sem, q0, q1, q2]) rfl ⟨ParsePost.no HF.out, ?_⟩
          exact (((HS8.out.below.setCell (Nat.le_refl _) _).setCell (Nat.le_refl _) _).setCell (Nat.le_refl _) _).drew
        | some q =>
          obtain ⟨A7, c7, cs7, rfl, ho7⟩ := CompsPost.elim_yes hc hp7
          have HC7 := Lib.hid hc
          have HO7 := Lib.hid (ho7.slFrom keepsComp HSZ6.out)
          have HOP := Lib.hid (HO6.out.keepOn keepsComp (ok' := From w4.heap.size w7) (fun b hb => ⟨hb.1, Nat.lt_of_lt_of_le hb.2 hb7.size⟩) (sameOn_below hb7 (fun b hb => hb.2)))
          clear hc hp7 hb7 ho7
          have v0 := HS7.out.var.cell 2
          have v1 := HS7.out.var.frozen 2
          have HF : Hid (parseL s.data.toList = some ⟨0, p, q⟩) := Lib.hid (by rw [HQ.out, HP2.out, HC5.out, HC7.out]; rfl)
          have HS8 := Lib.hid (HS7.out.store 2 (.slice A7 q.length c7))
          have t0 := HS8.out.var.cell 0
          have t1 := HS8.out.var.cell 1
          have t2 := HS8.out.var.cell 2
          have r0 := HS8.out.res.cell 0
          have r1 := HS8.out.res.cell 1
          have r2 := HS8.out.res.cell 2
          have f0 := HS8.out.res.frozen 0
          have f1 := HS8.out.res.frozen 1
          have f2 := HS8.out.res.frozen 2
          go_wp2_with fail
          refine bodyPost_ret (v := .tuple #[.agg #[.int .i64 0, .slice A5 p.length c5, .slice A7 q.length c7], .nilIface]) (by simp [results, Tryd.results46, go_sem, r0, r1, r2]) rfl
            ⟨ParsePost.yes (x := ⟨0, p, q⟩) HF.out rfl rfl rfl i64_zero ?_ ?_, ((HS8.out.below.setCell (Nat.le_refl _) _).setCell (Nat.le_refl _) _).setCell (Nat.le_refl _) _⟩
          · refine HOP.out.keepOn keepsComp (fun b hb => ⟨by have := hb.1; have := HG4.out.2; omega, by simpa using hb.2⟩) ?_
            exact (((sameOn_store _ _ _ (not_from HG4.out.1)).trans (sameOn_store _ _ _ (not_from HG4.out.2))).trans (sameOn_store _ _ _ (not_from HG4.out.2))).trans (sameOn_store _ _ _ (not_from HG4.out.2))
          · refine HO7.out.keepOn keepsComp (fun b hb => ⟨by have := hb.1; have := HG4.out.2; omega, by simpa using hb.2⟩) ?_
            exact (((sameOn_store _ _ _ (not_from HG4.out.1)).trans (sameOn_store _ _ _ (not_from HG4.out.2))).trans (sameOn_store _ _ _ (not_from HG4.out.2))).trans (sameOn_store _ _ _ (not_from HG4.out.2))
  | true =>
    cases hn : smallL b1.data.toList maxI with
    | none =>
      have HF : Hid (parseL s.data.toList = none) := Lib.hid (by rw [HP.out, if_pos rfl, hn]; rfl)
      have HN : Hid (smallL b1.data.toList 9223372036854775807 = none) := Lib.hid hn
      clear hn
      go_enter Tryd.func46, Tryd.ntmps46
      go_wp2_with fail
      generalize w.alloc (.cells #[.int .i64 0, .slice none 0 0, .slice none 0 0] 33) = W at *
      refine (HLW.out _).mono ?_
      rintro e w1 ⟨rfl, hb1⟩
      have HR1 := Lib.hid (HBk.out.belowSelf hb1)
      have HE1 := Lib.hid ((hb1.cell (by have := HSW.out; have := HG0.out; show 8 < _; omega)).trans HE.out)
      have HM1 := Lib.hid ((hb1.cell (by have := HSW.out; have := HG1.out; show 13 < _; omega)).trans HM.out)
      have HW1 := Lib.hid (HBW.out.trans (hb1.mono (by have := HSW.out; omega)))
      have HZ1 := Lib.hid hb1.size
      clear hb1
      go_wp2_with fail
      have HS : Hid (PS w (w1.alloc (.cells #[.int .i64 0, .slice none 0 0, .slice none 0 0] 33)) (.iface u ev) m w1.heap.size #[.int .i64 0, .slice none 0 0, .slice none 0 0]) := Lib.hid
        ⟨HR1.out.alloc _, Blk.new _ _ _, by rw [World.cell?_alloc_lt _ _ _ (cell_lt HE1.out)]; exact HE1.out, by rw [World.cell?_alloc_lt _ _ _ (cell_lt HM1.out)]; exact HM1.out, HW1.out.alloc HW1.out.size _, by have := HSW.out; have := HZ1.out; omega, HG0.out, HG1.out⟩
      generalize w1.alloc (.cells #[.int .i64 0, .slice none 0 0, .slice none 0 0] 33) = W2 at *
      generalize w1.heap.size = g at *
      refine (HCT.out _ HS.out.ml).mono ?_
      rintro e w3 ⟨rfl, hb3⟩
      have HS3 := Lib.hid (HS.out.next hb3)
      clear hb3
      go_wp2_with (go_at_call 66; refine (number_any _ _ (by have := HLB.out.1; omega)).mono ?_; rintro e w4 ⟨rfl, rfl⟩; rw [HN.out]; unfold okv)
      have q0 := HS3.out.res.cell 0
      have q1 := HS3.out.res.cell 1
      have q2 := HS3.out.res.cell 2
      have f0 := HS3.out.res.frozen 0
      have f1 := HS3.out.res.frozen 1
      have f2 := HS3.out.res.frozen 2
      have qe := HS3.out.err
      have qg := HG0.out
      go_region
      go_wp2_with fail
      refine bodyPost_ret (v := .tuple #[.agg #[.int .i64 0, .slice none 0 0, .slice none 0 0], .iface u ev]) (by simp [results, Tryd.results46, go_sem, q0, q1, q2]) rfl ⟨ParsePost.no HF.out, ?_⟩
      exact (((HS3.out.below.setCell (Nat.le_refl _) _).setCell (Nat.le_refl _) _).setCell (Nat.le_refl _) _).drew
    | some ep =>
      have HQ : Hid (parseL s.data.toList = parse2 ep a1.data.toList) := Lib.hid (by rw [HP.out, if_pos rfl, hn]; rfl)
      have HN : Hid (smallL b1.data.toList 9223372036854775807 = some ep) := Lib.hid hn
      clear hn
      have HC2 := Lib.hid (cut_len a1.data.toList [43])
      obtain ⟨m2, HM2⟩ : ∃ b : ByteArray, Hid (b.data.toList = (Lib.cut a1.data.toList [43]).1) := ⟨⟨(Lib.cut a1.data.toList [43]).1.toArray⟩, Lib.hid rfl⟩
      obtain ⟨l2, HL2⟩ : ∃ b : ByteArray, Hid (b.data.toList = (Lib.cut a1.data.toList [43]).2.1) := ⟨⟨(Lib.cut a1.data.toList [43]).2.1.toArray⟩, Lib.hid rfl⟩
      obtain ⟨k2, HK2⟩ : ∃ k, Hid ((Lib.cut a1.data.toList [43]).2.2 = k) := ⟨_, Lib.hid rfl⟩
      have HLM : Hid (m2.size ≤ 1000000000 ∧ l2.size ≤ 1000000000) := Lib.hid (by
        have h1 : m2.data.toList.length = m2.size := by simp
        have h2 : l2.data.toList.length = l2.size := by simp
        have h3 : a1.data.toList.length = a1.size := by simp
        have h4 := HC2.out
        have h5 := HLS.out
        have h6 := HLB.out
        rw [← HM2.out, ← HL2.out] at h4
        omega)
      have HCU : Hid (∀ W : World, W.cell? ⟨13, 0, none⟩ = some (.int .i64 m) → Calls Tryd.prog 65 #[.string a1, .string { data := #[43] }] W fun e w' => e = .returned (.tuple #[.string m2, .string l2, .bool k2]) ∧ Below W.heap.size W w') := Lib.hid (fun W hW => by
        have e1 : (⟨(Lib.cut a1.data.toList [43]).1.toArray⟩ : ByteArray) = m2 := ByteArray.ext (by rw [← HM2.out])
        have e2 : (⟨(Lib.cut a1.data.toList [43]).2.1.toArray⟩ : ByteArray) = l2 := ByteArray.ext (by rw [← HL2.out])
        rw [← e1, ← e2, ← HK2.out]
        exact Cut_any a1 ⟨#[43]⟩ m W (by have := HLS.out; have := HLB.out; omega) hW)
      have HP2 : Hid (parse2 ep a1.data.toList = (compsL m2.data.toList).bind fun p => if k2 = true then (compsL l2.data.toList).map fun q => ⟨ep, p, q⟩ else some ⟨ep, p, []⟩) := Lib.hid (by
        unfold parse2
        rw [HK2.out, ← HM2.out, ← HL2.out])
      go_enter Tryd.func46, Tryd.ntmps46
      go_wp2_with fail
      generalize w.alloc (.cells #[.int .i64 0, .slice none 0 0, .slice none 0 0] 33) = W at *
      refine (HLW.out _).mono ?_
      rintro e w1 ⟨rfl, hb1⟩
      have HR1 := Lib.hid (HBk.out.belowSelf hb1)
      have HE1 := Lib.hid ((hb1.cell (by have := HSW.out; have := HG0.out; show 8 < _; omega)).trans HE.out)
      have HM1 := Lib.hid ((hb1.cell (by have := HSW.out; have := HG1.out; show 13 < _; omega)).trans HM.out)
      have HW1 := Lib.hid (HBW.out.trans (hb1.mono (by have := HSW.out; omega)))
      have HZ1 := Lib.hid hb1.size
      clear hb1
      go_wp2_with fail
      have HS : Hid (PS w (w1.alloc (.cells #[.int .i64 0, .slice none 0 0, .slice none 0 0] 33)) (.iface u ev) m w1.heap.size #[.int .i64 0, .slice none 0 0, .slice none 0 0]) := Lib.hid
        ⟨HR1.out.alloc _, Blk.new _ _ _, by rw [World.cell?_alloc_lt _ _ _ (cell_lt HE1.out)]; exact HE1.out, by rw [World.cell?_alloc_lt _ _ _ (cell_lt HM1.out)]; exact HM1.out, HW1.out.alloc HW1.out.size _, by have := HSW.out; have := HZ1.out; omega, HG0.out, HG1.out⟩
      generalize w1.alloc (.cells #[.int .i64 0, .slice none 0 0, .slice none 0 0] 33) = W2 at *
      generalize w1.heap.size = g at *
      refine (HCT.out _ HS.out.ml).mono ?_
      rintro e w3 ⟨rfl, hb3⟩
      have HS3 := Lib.hid (HS.out.next hb3)
      clear hb3
      have z0 := HS3.out.var.cell 0
      have z1 := HS3.out.var.frozen 0
      go_wp2_with (go_at_call 66; refine (number_any _ _ (by have := HLB.out.1; omega)).mono ?_; rintro e w4 ⟨rfl, rfl⟩; rw [HN.out]; unfold okv)
      have HS3b := Lib.hid (HS3.out.store 0 (.int .i64 ep))
      clear z0 z1
      generalize w3.setCell ⟨g, 0, none⟩ (.int .i64 ep) = W3b at *
      refine (HCU.out _ HS3b.out.ml).mono ?_
      rintro e w4 ⟨rfl, hb4⟩
      have HS4 := Lib.hid (HS3b.out.next hb4)
      clear hb4
      go_wp2_with fail
      refine (components_any _ _ HLM.out.1).mono ?_
      rintro e w5 ⟨hp5, hb5⟩
      have HS5 := Lib.hid (HS4.out.next hb5)
      cases hc : compsL m2.data.toList with
      | none =>
        obtain rfl := CompsPost.elim_no hc hp5
        have HF : Hid (parseL s.data.toList = none) := Lib.hid (by rw [HQ.out, HP2.out, hc]; rfl)
        clear hc hp5 hb5
        have v0 := HS5.out.var.cell 1
        have v1 := HS5.out.var.frozen 1
        go_wp2_with fail
        have HS6 := Lib.hid (HS5.out.store 1 (.slice none 0 0))
        clear v0 v1
        generalize w5.setCell ⟨g, 1, none⟩ (.slice none 0 0) = W6 at *
        have q0 := HS6.out.res.cell 0
        have q1 := HS6.out.res.cell 1
        have q2 := HS6.out.res.cell 2
        have f0 := HS6.out.res.frozen 0
        have f1 := HS6.out.res.frozen 1
        have f2 := HS6.out.res.frozen 2
        have qe := HS6.out.err
        have qg := HG0.out
        go_region
        go_wp2_with fail
        refine bodyPost_ret (v := .tuple #[.agg #[.int .i64 0, .slice none 0 0, .slice none 0 0], .iface u ev]) (by simp [results, Tryd.results46, go_sem, q0, q1, q2]) rfl ⟨ParsePost.no HF.out, ?_⟩
        exact (((HS6.out.below.setCell (Nat.le_refl _) _).setCell (Nat.le_refl _) _).setCell (Nat.le_refl _) _).drew
      | some p =>
        obtain ⟨A5, c5, cs5, rfl, ho5⟩ := CompsPost.elim_yes hc hp5
        have HC5 := Lib.hid hc
        have HO5 := Lib.hid (ho5.slFrom keepsComp (Nat.le_refl _))
        have HG4 : Hid (g < w4.heap.size ∧ w.heap.size < w4.heap.size) := Lib.hid ⟨HS4.out.var.lt, Nat.lt_trans HS4.out.lt HS4.out.var.lt⟩
        have HW4 := Lib.hid hb5.size
        clear hc hp5 hb5 ho5
        have v0 := HS5.out.var.cell 1
        have v1 := HS5.out.var.frozen 1
        have v2 := HS5.out.var.cell 0
        have v3 := HS5.out.var.cell 2
        cases k2 with
        | false =>
          have HF : Hid (parseL s.data.toList = some ⟨ep, p, []⟩) := Lib.hid (by rw [HQ.out, HP2.out, HC5.out]; rfl)
          have HS6 := Lib.hid (HS5.out.store 1 (.slice A5 p.length c5))
          have t0 := HS6.out.var.cell 0
          have t1 := HS6.out.var.cell 1
          have t2 := HS6.out.var.cell 2
          have r0 := HS6.out.res.cell 0
          have r1 := HS6.out.res.cell 1
          have r2 := HS6.out.res.cell 2
          have f0 := HS6.out.res.frozen 0
          have f1 := HS6.out.res.frozen 1
          have f2 := HS6.out.res.frozen 2
          go_wp2_with fail
          refine bodyPost_ret (v := .tuple #[.agg #[.int .i64 ep, .slice A5 p.length c5, .slice none 0 0], .nilIface]) (by simp [results, Tryd.results46, go_sem, r0, r1, r2]) rfl
            ⟨ParsePost.yes (x := ⟨ep, p, []⟩) HF.out rfl rfl rfl (i64_small HN.out) ?_ (IsSl.nil _ _ _ _ _ _ (by omega)), ((HS6.out.below.setCell (Nat.le_refl _) _).setCell (Nat.le_refl _) _).setCell (Nat.le_refl _) _⟩
          refine HO5.out.keepOn keepsComp (fun b hb => ⟨by have := hb.1; have := HG4.out.2; omega, by simpa using hb.2⟩) ?_
          exact (((sameOn_store _ _ _ (not_from HG4.out.1)).trans (sameOn_store _ _ _ (not_from HG4.out.2))).trans (sameOn_store _ _ _ (not_from HG4.out.2))).trans (sameOn_store _ _ _ (not_from HG4.out.2))
        | true =>
          have HS6 := Lib.hid (HS5.out.store 1 (.slice A5 p.length c5))
          clear v2 v3
          go_wp2_with fail
          clear v0 v1
          have HO6 : Hid (IsParts (w5.setCell ⟨g, 1, none⟩ (.slice A5 p.length c5)) (From w4.heap.size (w5.setCell ⟨g, 1, none⟩ (.slice A5 p.length c5))) (.slice A5 p.length c5) p) := Lib.hid
            (HO5.out.keepOn keepsComp (fun b hb => ⟨hb.1, by simpa using hb.2⟩) (sameOn_store _ _ _ (not_from HG4.out.1)))
          have HSZ6 : Hid (w4.heap.size ≤ (w5.setCell ⟨g, 1, none⟩ (.slice A5 p.length c5)).heap.size) := Lib.hid (by simp; exact HW4.out)
          generalize w5.setCell ⟨g, 1, none⟩ (.slice A5 p.length c5) = W6 at *
          refine (components_any _ _ HLM.out.2).mono ?_
          rintro e w7 ⟨hp7, hb7⟩
          have HS7 := Lib.hid (HS6.out.next hb7)
          cases hc : compsL l2.data.toList with
          | none =>
            obtain rfl := CompsPost.elim_no hc hp7
            have HF : Hid (parseL s.data.toList = none) := Lib.hid (by rw [HQ.out, HP2.out, HC5.out, hc]; rfl)
            clear hc hp7 hb7
            have v0 := HS7.out.var.cell 2
            have v1 := HS7.out.var.frozen 2
            go_wp2_with fail
            have HS8 := Lib.hid (HS7.out.store 2 (.slice none 0 0))
            clear v0 v1
            generalize w7.setCell ⟨g, 2, none⟩ (.slice none 0 0) = W8 at *
            have q0 := HS8.out.res.cell 0
            have q1 := HS8.out.res.cell 1
            have q2 := HS8.out.res.cell 2
            have f0 := HS8.out.res.frozen 0
            have f1 := HS8.out.res.frozen 1
            have f2 := HS8.out.res.frozen 2
            have qe := HS8.out.err
            have qg := HG0.out
            go_region
            go_wp2_with fail
            refine bodyPost_ret (v := .tuple #[.agg #[.int .i64 0, .slice none 0 0, .slice none 0 0], .iface u ev]) (by simp [results, Tryd.results46, go_sem, q0, q1, q2]) rfl ⟨ParsePost.no HF.out, ?_⟩
            exact (((HS8.out.below.setCell (Nat.le_refl _) _).setCell (Nat.le_refl _) _).setCell (Nat.le_refl _) _).drew
          | some q =>
            obtain ⟨A7, c7, cs7, rfl, ho7⟩ := CompsPost.elim_yes hc hp7
            have HC7 := Lib.hid hc
            have HO7 := Lib.hid (ho7.slFrom keepsComp HSZ6.out)
            have HOP := Lib.hid (HO6.out.keepOn keepsComp (ok' := From w4.heap.size w7) (fun b hb => ⟨hb.1, Nat.lt_of_lt_of_le hb.2 hb7.size⟩) (sameOn_below hb7 (fun b hb => hb.2)))
            clear hc hp7 hb7 ho7
            have v0 := HS7.out.var.cell 2
            have v1 := HS7.out.var.frozen 2
            have HF : Hid (parseL s.data.toList = some ⟨ep, p, q⟩) := Lib.hid (by rw [HQ.out, HP2.out, HC5.out, HC7.out]; rfl)
            have HS8 := Lib.hid (HS7.out.store 2 (.slice A7 q.length c7))
            have t0 := HS8.out.var.cell 0
            have t1 := HS8.out.var.cell 1
            have t2 := HS8.out.var.cell 2
            have r0 := HS8.out.res.cell 0
            have r1 := HS8.out.res.cell 1
            have r2 := HS8.out.res.cell 2
            have f0 := HS8.out.res.frozen 0
            have f1 := HS8.out.res.frozen 1
            have f2 := HS8.out.res.frozen 2
            go_wp2_with fail
            refine bodyPost_ret (v := .tuple #[.agg #[.int .i64 ep, .slice A5 p.length c5, .slice A7 q.length c7], .nilIface]) (by simp [results, Tryd.results46, go_sem, r0, r1, r2]) rfl
              ⟨ParsePost.yes (x := ⟨ep, p, q⟩) HF.out rfl rfl rfl (i64_small HN.out) ?_ ?_, ((HS8.out.below.setCell (Nat.le_refl _) _).setCell (Nat.le_refl _) _).setCell (Nat.le_refl _) _⟩
            · refine HOP.out.keepOn keepsComp (fun b hb => ⟨by have := hb.1; have := HG4.out.2; omega, by simpa using hb.2⟩) ?_
              exact (((sameOn_store _ _ _ (not_from HG4.out.1)).trans (sameOn_store _ _ _ (not_from HG4.out.2))).trans (sameOn_store _ _ _ (not_from HG4.out.2))).trans (sameOn_store _ _ _ (not_from HG4.out.2))
            · refine HO7.out.keepOn keepsComp (fun b hb => ⟨by have := hb.1; have := HG4.out.2; omega, by simpa using hb.2⟩) ?_
              exact (((sameOn_store _ _ _ (not_from HG4.out.1)).trans (sameOn_store _ _ _ (not_from HG4.out.2))).trans (sameOn_store _ _ _ (not_from HG4.out.2))).trans (sameOn_store _ _ _ (not_from HG4.out.2))
end Go.Proofs.YtkmoaeckabjgnaaDoor.V
