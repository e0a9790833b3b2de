/-
  The walk of the document's Parse.
-/
import Derived.Test.YtmlmaklighgiiaaDoorRefT3
import Derived.Test.YtmlmaklighgiiaaDoorParse1
namespace Go.Proofs.YtmlmaklighgiiaaDoor.V
set_option linter.unusedVariables false
set_option linter.unusedSimpArgs false
open Go Go.RowKit Go.Sort

theorem index_find (c : UInt8) : ∀ l : List UInt8, Lib.index l [c] = findL c l
  | [] => rfl
  | b :: l => by
    unfold Lib.index findL
    rw [index_find c l]
    by_cases hb : b = c
    · subst hb
      rw [if_pos (by simp [List.isPrefixOf]), if_pos rfl]
    · rw [if_neg (by simp [List.isPrefixOf]; exact fun e => hb e.symm), if_neg hb]
      rcases findL_cases c l with ⟨h, _⟩ | ⟨k, h, _⟩
      · rw [h]; rfl
      · rw [h]
        have : ((k : Int) == -1) = false := by simp
        rw [this, if_neg (by simp), if_neg (by omega)]
theorem cut_no {c : UInt8} {l : List UInt8} (h : findL c l = -1) : Lib.cut l [c] = (l, [], false) := by
  unfold Lib.cut
  rw [index_find, h]
  rfl
theorem cut_at {c : UInt8} {l : List UInt8} {k : Nat} (h : findL c l = k) : Lib.cut l [c] = (l.take k, l.drop (k + 1), true) := by
  unfold Lib.cut
  rw [index_find, h, if_pos (by omega)]
  rfl
/-- What the document's Parse returns. -/
def RPost (base : Nat) (l : List UInt8) (e : Ending) (w' : World) : Prop :=
  match parseL l with
  | none => e = .returned (.tuple #[.agg #[.int .i64 0, .slice none 0 0, .slice none 0 0], .bool false])
  | some x => ∃ A1 c1 A2 c2, e = .returned (.tuple #[.agg #[.int .i64 x.epoch, .slice A1 x.parts.length c1, .slice A2 x.loc.length c2], .bool true]) ∧
      IsVer w' (From base w') (.agg #[.int .i64 x.epoch, .slice A1 x.parts.length c1, .slice A2 x.loc.length c2]) x
theorem RPost.no {base : Nat} {l : List UInt8} {w' : World} (h : parseL l = none) : RPost base l (.returned (.tuple #[.agg #[.int .i64 0, .slice none 0 0, .slice none 0 0], .bool false])) w' := by
  unfold RPost
  rw [h]
theorem RPost.yes {base : Nat} {l : List UInt8} {w' : World} {x : Ver} {ep : Int} {n1 n2 : Nat} {A1 A2 : Option Addr} {c1 c2 : Nat} (h : parseL l = some x) (he : ep = x.epoch) (h1 : n1 = x.parts.length) (h2 : n2 = x.loc.length) (hi : I64 x.epoch)
    (hp : IsParts w' (From base w') (.slice A1 x.parts.length c1) x.parts) (hl : IsParts w' (From base w') (.slice A2 x.loc.length c2) x.loc) :
    RPost base l (.returned (.tuple #[.agg #[.int .i64 ep, .slice A1 n1 c1, .slice A2 n2 c2], .bool true])) w' := by
  subst he; subst h1; subst h2
  unfold RPost
  rw [h]
  exact ⟨A1, c1, A2, c2, rfl, _, _, rfl, hi, hp, hl⟩

/-- The state of the document's Parse: its result's block, the empty version's, the version's. -/
structure PR (w W : World) (g : Nat) (cs : Array Value) : Prop where
  res : Blk W w.heap.size 25 #[.int .i64 0, .slice none 0 0, .slice none 0 0]
  non : Blk W (w.heap.size + 1) 25 #[.int .i64 0, .slice none 0 0, .slice none 0 0]
  var : Blk W g 25 cs
  below : Below w.heap.size w W
  lt : w.heap.size + 1 < g
theorem PR.next {w W W' : World} {g : Nat} {cs : Array Value} (h : PR w W g cs) (hb : Below W.heap.size W W') : PR w W' g cs :=
  ⟨h.res.belowSelf hb, h.non.belowSelf hb, h.var.belowSelf hb, h.below.trans (hb.mono h.below.size), h.lt⟩
theorem PR.store {w W : World} {g : Nat} {cs : Array Value} (h : PR w W g cs) (i : Nat) (u : Value) : PR w (W.setCell ⟨g, i, none⟩ u) g (cs.setIfInBounds i u) := by
  have h1 := h.lt
  exact ⟨h.res.far (by simp; omega) _, h.non.far (by simp; omega) _, h.var.set_ _ _, h.below.setCell (by simp; omega) _, h.lt⟩
theorem parse_empty {l : List UInt8} (h : l.length < 1) : parse2 0 (lowL l) = none := by
  have : l = [] := List.eq_nil_of_length_eq_zero (by omega)
  subst this
  rfl

set_option maxHeartbeats 8000000 in
set_option maxRecDepth 100000 in
theorem rParse_any (s : ByteArray) (w : World) (hs : s.size ≤ 1000000000) :
    Calls Tryd.prog 10 #[.string s] w fun e w' => RPost w.heap.size s.data.toList e w' ∧ Below w.heap.size w w' := by
  have HSZ : Hid (s.data.toList.length = s.size) := Lib.hid (by simp)
  by_cases h40 : 40 < s.size
  · have HF : Hid (parseL s.data.toList = none) := Lib.hid (if_pos (.inr (by rw [HSZ.out]; omega)))
    go_enter Tryd.func10, Tryd.ntmps10
    go_wp2_with fail
    refine bodyPost_ret (v := .tuple #[.agg #[.int .i64 0, .slice none 0 0, .slice none 0 0], .bool false]) (by simp [results, Tryd.results10, go_sem]) rfl ⟨RPost.no HF.out, ?_⟩
    exact ((Below.refl _ _).alloc (Nat.le_refl _) _).alloc (by simp) _
  · have HP : Hid (parseL s.data.toList = if (Lib.cut (lowL s.data.toList) [33]).2.2 = true then (smallL (Lib.cut (lowL s.data.toList) [33]).1 maxI).bind fun e => parse2 e (Lib.cut (lowL s.data.toList) [33]).2.1
      else parse2 0 (lowL s.data.toList)) := Lib.hid (by
        by_cases h1 : s.size < 1
        · have h2 : s.data.toList = [] := List.eq_nil_of_length_eq_zero (by rw [HSZ.out]; omega)
          rw [h2]; rfl
        · exact if_neg (by rw [HSZ.out]; omega))
    obtain ⟨s1, HS1⟩ : ∃ s1 : ByteArray, Hid (s1.data.toList = lowL s.data.toList) := ⟨⟨(lowL s.data.toList).toArray⟩, Lib.hid rfl⟩
    have HLS : Hid (s1.size ≤ 40) := Lib.hid (by
      have h := congrArg List.length HS1.out
      simp only [lowL, List.length_map, HSZ.out] at h
      have : s1.data.toList.length = s1.size := by simp
      omega)
    have HLW : Hid (∀ W : World, Calls Tryd.prog 26 #[.string s] W fun e w' => e = .returned (.string s1) ∧ Below W.heap.size W w') := Lib.hid (fun W => by
      have e : (⟨(lowL s.data.toList).toArray⟩ : ByteArray) = s1 := by
        apply ByteArray.ext
        rw [← HS1.out]
      rw [← e]
      exact rLower_any s W hs)
    rw [← HS1.out] at HP
    obtain ⟨r1, HR1⟩ : ∃ r, Hid (findL 33 s1.data.toList = r) := ⟨_, Lib.hid rfl⟩
    have HFD : Hid (∀ W : World, Calls Tryd.prog 27 #[.string s1, .int .u8 33] W fun e w' => e = .returned (.int .i64 r1) ∧ W = w') := Lib.hid (fun W => by
      rw [← HR1.out]
      exact rfind_any s1 33 W (by have := HLS.out; omega))
    have HK0 := Lib.hid ((Blk.new w 25 #[.int .i64 0, .slice none 0 0, .slice none 0 0]).alloc (.cells #[.int .i64 0, .slice none 0 0, .slice none 0 0] 25))
    have HK1 : Hid (Blk ((w.alloc (.cells #[.int .i64 0, .slice none 0 0, .slice none 0 0] 25)).alloc (.cells #[.int .i64 0, .slice none 0 0, .slice none 0 0] 25)) (w.heap.size + 1) 25 #[.int .i64 0, .slice none 0 0, .slice none 0 0]) := Lib.hid (by
      have := Blk.new (w.alloc (.cells #[.int .i64 0, .slice none 0 0, .slice none 0 0] 25)) 25 #[.int .i64 0, .slice none 0 0, .slice none 0 0]
      simpa using this)
    have HBW : Hid (Below w.heap.size w ((w.alloc (.cells #[.int .i64 0, .slice none 0 0, .slice none 0 0] 25)).alloc (.cells #[.int .i64 0, .slice none 0 0, .slice none 0 0] 25))) := Lib.hid (((Below.refl _ _).alloc (Nat.le_refl _) _).alloc (by simp) _)
    have HZ0 : Hid (((w.alloc (.cells #[.int .i64 0, .slice none 0 0, .slice none 0 0] 25)).alloc (.cells #[.int .i64 0, .slice none 0 0, .slice none 0 0] 25)).heap.size = w.heap.size + 2) := Lib.hid (by simp)
    go_enter Tryd.func10, Tryd.ntmps10
    go_wp2_with fail
    generalize ((w.alloc (.cells #[.int .i64 0, .slice none 0 0, .slice none 0 0] 25)).alloc (.cells #[.int .i64 0, .slice none 0 0, .slice none 0 0] 25)) = W0 at *
    refine (HLW.out _).mono ?_
    rintro e w1 ⟨rfl, hb1⟩
    have HS : Hid (PR w (w1.alloc (.cells #[.int .i64 0, .slice none 0 0, .slice none 0 0] 25)) w1.heap.size #[.int .i64 0, .slice none 0 0, .slice none 0 0]) := Lib.hid
      ⟨(HK0.out.belowSelf hb1).alloc _, (HK1.out.belowSelf hb1).alloc _, Blk.new _ _ _, (HBW.out.trans (hb1.mono HBW.out.size)).alloc (HBW.out.trans (hb1.mono HBW.out.size)).size _, by have := HZ0.out; have := hb1.size; omega⟩
    clear hb1
    go_wp2_with fail
    generalize w1.alloc (.cells #[.int .i64 0, .slice none 0 0, .slice none 0 0] 25) = W2 at *
    generalize w1.heap.size = g at *
    refine (HFD.out _).mono ?_
    rintro e w3 ⟨rfl, rfl⟩
    rcases findL_cases 33 s1.data.toList with ⟨h, _⟩ | ⟨k, h, hk, _⟩
    · rw [HR1.out] at h
      subst h
      have HQ : Hid (parseL s.data.toList = parse2 0 s1.data.toList) := Lib.hid (by rw [HP.out, cut_no HR1.out]; rfl)
      go_wp2_with fail
      have HL2 : Hid (s1.size ≤ 1000000000) := Lib.hid (by have := HLS.out; omega)
      obtain ⟨r2, HR2⟩ : ∃ r, Hid (findL 43 s1.data.toList = r) := ⟨_, Lib.hid rfl⟩
      have HF2 : Hid (∀ W : World, Calls Tryd.prog 27 #[.string s1, .int .u8 43] W fun e w' => e = .returned (.int .i64 r2) ∧ W = w') := Lib.hid (fun W => by
        rw [← HR2.out]
        exact rfind_any s1 43 W HL2.out)
      refine (HF2.out _).mono ?_
      rintro e w3 ⟨rfl, rfl⟩
      rcases findL_cases 43 s1.data.toList with ⟨h, _⟩ | ⟨k2, h, hk2, _⟩
      · rw [HR2.out] at h
        subst h
        have HP2 : Hid (parse2 0 s1.data.toList = (compsL s1.data.toList).bind fun p => some ⟨0, p, []⟩) := Lib.hid (by
          unfold parse2
          rw [cut_no HR2.out]
          rfl)
        go_wp2_with fail
        refine (rComponents_any _ _ HL2.out).mono ?_
        rintro e w5 ⟨hp5, hb5⟩
        have HS5 := Lib.hid (HS.out.next hb5)
        have hgw : g < W2.heap.size := HS.out.var.lt
        have hww : w.heap.size < W2.heap.size := by have := HS.out.lt; omega
        cases hc : compsL s1.data.toList with
        | none =>
          obtain rfl := CompsPost.elim_no hc hp5
          have HF : Hid (parseL s.data.toList = none) := Lib.hid (by rw [HQ.out, HP2.out, hc]; rfl)
          clear hc hp5 hb5
          have v0 := HS5.out.var.cell 1
          have v1 := HS5.out.var.frozen 1
          have HS6 := Lib.hid (HS5.out.store 1 (.slice none 0 0))
          have t0 := HS6.out.var.cell 0
          have t1 := HS6.out.var.cell 1
          have t2 := HS6.out.var.cell 2
          have q0 := HS6.out.res.cell 0
          have q1 := HS6.out.res.cell 1
          have q2 := HS6.out.res.cell 2
          have f0 := HS6.out.res.frozen 0
          have f1 := HS6.out.res.frozen 1
          have f2 := HS6.out.res.frozen 2
          have n0 := HS6.out.non.cell 0
          have n1 := HS6.out.non.cell 1
          have n2 := HS6.out.non.cell 2
          go_wp2_with fail
          refine bodyPost_ret (v := .tuple #[.agg #[.int .i64 0, .slice none 0 0, .slice none 0 0], .bool false]) (by simp [results, Tryd.results10, go_sem, q0, q1, q2]) rfl ⟨RPost.no HF.out, ?_⟩
          exact (((HS6.out.below.setCell (Nat.le_refl _) _).setCell (Nat.le_refl _) _).setCell (Nat.le_refl _) _)
        | some p =>
          obtain ⟨A5, c5, cs5, rfl, ho5⟩ := CompsPost.elim_yes hc hp5
          have HO5 := Lib.hid (ho5.slFrom keepsComp (Nat.le_refl _))
          have HF : Hid (parseL s.data.toList = some ⟨0, p, []⟩) := Lib.hid (by rw [HQ.out, HP2.out, hc]; rfl)
          clear hc hp5 hb5 ho5
          have v0 := HS5.out.var.cell 1
          have v1 := HS5.out.var.frozen 1
          have HS6 := Lib.hid (HS5.out.store 1 (.slice A5 p.length c5))
          have t0 := HS6.out.var.cell 0
          have t1 := HS6.out.var.cell 1
          have t2 := HS6.out.var.cell 2
          have q0 := HS6.out.res.cell 0
          have q1 := HS6.out.res.cell 1
          have q2 := HS6.out.res.cell 2
          have f0 := HS6.out.res.frozen 0
          have f1 := HS6.out.res.frozen 1
          have f2 := HS6.out.res.frozen 2
          have n0 := HS6.out.non.cell 0
          have n1 := HS6.out.non.cell 1
          have n2 := HS6.out.non.cell 2
          go_wp2_with fail
          refine bodyPost_ret (v := .tuple #[.agg #[.int .i64 0, .slice A5 p.length c5, .slice none 0 0], .bool true]) (by simp [results, Tryd.results10, go_sem, q0, q1, q2]) rfl
            ⟨RPost.yes (x := ⟨0, p, []⟩) HF.out rfl rfl rfl i64_zero ?_ (IsSl.nil _ _ _ _ _ _ (by omega)), ((HS6.out.below.setCell (Nat.le_refl _) _).setCell (Nat.le_refl _) _).setCell (Nat.le_refl _) _⟩
          refine HO5.out.keepOn keepsComp (fun b hb => ⟨by have := hb.1; omega, by simpa using hb.2⟩) ?_
          exact (((sameOn_store _ _ _ (not_from hgw)).trans (sameOn_store _ _ _ (not_from hww))).trans (sameOn_store _ _ _ (not_from hww))).trans (sameOn_store _ _ _ (not_from hww))
      · rw [HR2.out] at h
        subst h
        have hks2 : k2 < s1.size := by
          have h1 := (List.getElem?_eq_some_iff.1 hk2).1
          have h2 : s1.data.toList.length = s1.size := by simp
          omega
        have HP2 : Hid (parse2 0 s1.data.toList = (compsL (s1.extract 0 k2).data.toList).bind fun p => (compsL (s1.extract (k2 + 1) s1.size).data.toList).map fun q => ⟨0, p, q⟩) := Lib.hid (by
          unfold parse2
          rw [cut_at HR2.out, ← toList_take, ← toList_drop]
          rfl)
        have hsz2 := HL2.out
        have HEL : Hid ((s1.extract (k2 + 1) s1.size).size ≤ 1000000000) := Lib.hid (by rw [ByteArray.size_extract]; omega)
        have HEM : Hid ((s1.extract 0 k2).size ≤ 1000000000) := Lib.hid (by rw [ByteArray.size_extract]; omega)
        go_wp2_with fail
        refine (rComponents_any _ _ HEL.out).mono ?_
        rintro e w5 ⟨hp5, hb5⟩
        have HS5 := Lib.hid (HS.out.next hb5)
        have hgw : g < W2.heap.size := HS.out.var.lt
        have hww : w.heap.size < W2.heap.size := by have := HS.out.lt; omega
        cases hc : compsL (s1.extract (k2 + 1) s1.size).data.toList with
        | none =>
          obtain rfl := CompsPost.elim_no hc hp5
          have HF : Hid (parseL s.data.toList = none) := Lib.hid (by rw [HQ.out, HP2.out, hc]; cases compsL (s1.extract 0 k2).data.toList <;> rfl)
          clear hc hp5 hb5
          have v0 := HS5.out.var.cell 2
          have v1 := HS5.out.var.frozen 2
          have HS6 := Lib.hid (HS5.out.store 2 (.slice none 0 0))
          have t0 := HS6.out.var.cell 0
          have t1 := HS6.out.var.cell 1
          have t2 := HS6.out.var.cell 2
          have q0 := HS6.out.res.cell 0
          have q1 := HS6.out.res.cell 1
          have q2 := HS6.out.res.cell 2
          have f0 := HS6.out.res.frozen 0
          have f1 := HS6.out.res.frozen 1
          have f2 := HS6.out.res.frozen 2
          have n0 := HS6.out.non.cell 0
          have n1 := HS6.out.non.cell 1
          have n2 := HS6.out.non.cell 2
          go_wp2_with fail
          refine bodyPost_ret (v := .tuple #[.agg #[.int .i64 0, .slice none 0 0, .slice none 0 0], .bool false]) (by simp [results, Tryd.results10, go_sem, q0, q1, q2]) rfl ⟨RPost.no HF.out, ?_⟩
          exact (((HS6.out.below.setCell (Nat.le_refl _) _).setCell (Nat.le_refl _) _).setCell (Nat.le_refl _) _)
        | some q =>
          obtain ⟨A5, c5, cs5, rfl, ho5⟩ := CompsPost.elim_yes hc hp5
          have HC5 := Lib.hid hc
          have HO5 := Lib.hid (ho5.slFrom keepsComp (Nat.le_refl _))
          have HW5 := Lib.hid hb5.size
          clear hc hp5 hb5 ho5
          have v0 := HS5.out.var.cell 2
          have v1 := HS5.out.var.frozen 2
          have HS6 := Lib.hid (HS5.out.store 2 (.slice A5 q.length c5))
          go_wp2_with fail
          clear v0 v1
          have HO6 : Hid (IsParts (w5.setCell ⟨g, 2, none⟩ (.slice A5 q.length c5)) (From W2.heap.size (w5.setCell ⟨g, 2, none⟩ (.slice A5 q.length c5))) (.slice A5 q.length c5) q) := Lib.hid
            (HO5.out.keepOn keepsComp (fun b hb => ⟨hb.1, by simpa using hb.2⟩) (sameOn_store _ _ _ (not_from hgw)))
          have HSZ6 : Hid (W2.heap.size ≤ (w5.setCell ⟨g, 2, none⟩ (.slice A5 q.length c5)).heap.size) := Lib.hid (by simp; exact HW5.out)
          generalize w5.setCell ⟨g, 2, none⟩ (.slice A5 q.length c5) = W6 at *
          refine (rComponents_any _ _ HEM.out).mono ?_
          rintro e w7 ⟨hp7, hb7⟩
          have HS7 := Lib.hid (HS6.out.next hb7)
          cases hc : compsL (s1.extract 0 k2).data.toList with
          | none =>
            obtain rfl := CompsPost.elim_no hc hp7
            have HF : Hid (parseL s.data.toList = none) := Lib.hid (by rw [HQ.out, HP2.out, hc]; rfl)
            clear hc hp7 hb7
            have v0 := HS7.out.var.cell 1
            have v1 := HS7.out.var.frozen 1
            have HS8 := Lib.hid (HS7.out.store 1 (.slice none 0 0))
            have t0 := HS8.out.var.cell 0
            have t1 := HS8.out.var.cell 1
            have t2 := HS8.out.var.cell 2
            have q0 := HS8.out.res.cell 0
            have q1 := HS8.out.res.cell 1
            have q2 := HS8.out.res.cell 2
            have f0 := HS8.out.res.frozen 0
            have f1 := HS8.out.res.frozen 1
            have f2 := HS8.out.res.frozen 2
            have n0 := HS8.out.non.cell 0
            have n1 := HS8.out.non.cell 1
            have n2 := HS8.out.non.cell 2
            go_wp2_with fail
            refine bodyPost_ret (v := .tuple #[.agg #[.int .i64 0, .slice none 0 0, .slice none 0 0], .bool false]) (by simp [results, Tryd.results10, go_sem, q0, q1, q2]) rfl ⟨RPost.no HF.out, ?_⟩
            exact (((HS8.out.below.setCell (Nat.le_refl _) _).setCell (Nat.le_refl _) _).setCell (Nat.le_refl _) _)
          | some p =>
            obtain ⟨A7, c7, cs7, rfl, ho7⟩ := CompsPost.elim_yes hc hp7
            have HO7 := Lib.hid (ho7.slFrom keepsComp HSZ6.out)
            have HOP := Lib.hid (HO6.out.keepOn keepsComp (ok' := From W2.heap.size w7) (fun b hb => ⟨hb.1, Nat.lt_of_lt_of_le hb.2 hb7.size⟩) (sameOn_below hb7 (fun b hb => hb.2)))
            have HF : Hid (parseL s.data.toList = some ⟨0, p, q⟩) := Lib.hid (by rw [HQ.out, HP2.out, HC5.out, hc]; rfl)
            clear hc hp7 hb7 ho7
            have v0 := HS7.out.var.cell 1
            have v1 := HS7.out.var.frozen 1
            have HS8 := Lib.hid (HS7.out.store 1 (.slice A7 p.length c7))
            have t0 := HS8.out.var.cell 0
            have t1 := HS8.out.var.cell 1
            have t2 := HS8.out.var.cell 2
            have q0 := HS8.out.res.cell 0
            have q1 := HS8.out.res.cell 1
            have q2 := HS8.out.res.cell 2
            have f0 := HS8.out.res.frozen 0
            have f1 := HS8.out.res.frozen 1
            have f2 := HS8.out.res.frozen 2
            have n0 := HS8.out.non.cell 0
            have n1 := HS8.out.non.cell 1
            have n2 := HS8.out.non.cell 2
            go_wp2_with fail
            refine bodyPost_ret (v := .tuple #[.agg #[.int .i64 0, .slice A7 p.length c7, .slice A5 q.length c5], .bool true]) (by simp [results, Tryd.results10, go_sem, q0, q1, q2]) rfl
              ⟨RPost.yes (x := ⟨0, p, q⟩) HF.out rfl rfl rfl i64_zero ?_ ?_, ((HS8.out.below.setCell (Nat.le_refl _) _).setCell (Nat.le_refl _) _).setCell (Nat.le_refl _) _⟩
            · refine HO7.out.keepOn keepsComp (fun b hb => ⟨by have := hb.1; omega, by simpa using hb.2⟩) ?_
              exact (((sameOn_store _ _ _ (not_from hgw)).trans (sameOn_store _ _ _ (not_from hww))).trans (sameOn_store _ _ _ (not_from hww))).trans (sameOn_store _ _ _ (not_from hww))
            · refine HOP.out.keepOn keepsComp (fun b hb => ⟨by have := hb.1; omega, by simpa using hb.2⟩) ?_
              exact (((sameOn_store _ _ _ (not_from hgw)).trans (sameOn_store _ _ _ (not_from hww))).trans (sameOn_store _ _ _ (not_from hww))).trans (sameOn_store _ _ _ (not_from hww))
    · rw [HR1.out] at h
      subst h
      have hks : k < s1.size := by have h1 := (List.getElem?_eq_some_iff.1 hk).1; have h2 : s1.data.toList.length = s1.size := by simp
                                   omega
      have HQ : Hid (parseL s.data.toList = (smallL (s1.extract 0 k).data.toList maxI).bind fun e => parse2 e (s1.extract (k + 1) s1.size).data.toList) := Lib.hid (by
        rw [HP.out, cut_at HR1.out, if_pos rfl, ← toList_take, toList_drop])
      have HES : Hid ((s1.extract 0 k).size ≤ 1000000000) := Lib.hid (by rw [ByteArray.size_extract]; have := HLS.out; omega)
      have hs1z : s1.size ≤ 40 := HLS.out
      cases hn : smallL (s1.extract 0 k).data.toList maxI with
      | none =>
        have HF : Hid (parseL s.data.toList = none) := Lib.hid (by rw [HQ.out, hn]; rfl)
        have HN : Hid (smallR (s1.extract 0 k).data.toList 1000000000000000 = -1) := Lib.hid (by unfold smallR; rw [small_most, hn]; rfl)
        clear hn
        go_wp2_with fail
        refine (rSmall_any _ _ _ HES.out).mono ?_
        rintro e w4 ⟨rfl, rfl⟩
        rw [HN.out]
        have v0 := HS.out.var.cell 0
        have v1 := HS.out.var.frozen 0
        have HS6 := Lib.hid (HS.out.store 0 (.int .i64 (-1)))
        have t0 := HS6.out.var.cell 0
        have t1 := HS6.out.var.cell 1
        have t2 := HS6.out.var.cell 2
        have q0 := HS6.out.res.cell 0
        have q1 := HS6.out.res.cell 1
        have q2 := HS6.out.res.cell 2
        have f0 := HS6.out.res.frozen 0
        have f1 := HS6.out.res.frozen 1
        have f2 := HS6.out.res.frozen 2
        have n0 := HS6.out.non.cell 0
        have n1 := HS6.out.non.cell 1
        have n2 := HS6.out.non.cell 2
        go_wp2_with fail
        refine bodyPost_ret (v := .tuple #[.agg #[.int .i64 0, .slice none 0 0, .slice none 0 0], .bool false]) (by simp [results, Tryd.results10, go_sem, q0, q1, q2]) rfl ⟨RPost.no HF.out, ?_⟩
        exact (((HS6.out.below.setCell (Nat.le_refl _) _).setCell (Nat.le_refl _) _).setCell (Nat.le_refl _) _)
      | some ep =>
        have HQ2 : Hid (parseL s.data.toList = parse2 ep (s1.extract (k + 1) s1.size).data.toList) := Lib.hid (by rw [HQ.out, hn]; rfl)
        have HN : Hid (smallR (s1.extract 0 k).data.toList 1000000000000000 = ep) := Lib.hid (by unfold smallR; rw [small_most, hn]; rfl)
        have HI := Lib.hid (i64_small hn)
        have hep : ¬ ep < 0 := by have := smallL_bd hn; omega
        clear hn
        go_wp2_with fail
        refine (rSmall_any _ _ _ HES.out).mono ?_
        rintro e w4 ⟨rfl, rfl⟩
        rw [HN.out]
        have v0 := HS.out.var.cell 0
        have v1 := HS.out.var.frozen 0
        have v2 := HS.out.var.cell 1
        have HS6 := Lib.hid (HS.out.store 0 (.int .i64 ep))
        have v3 := HS6.out.var.cell 0
        go_wp2_with fail
        clear v0 v1 v2 v3
        generalize W2.setCell ⟨g, 0, none⟩ (.int .i64 ep) = W3 at *
        obtain ⟨s2, HS2⟩ : ∃ s2, Hid (s1.extract (k + 1) s1.size = s2) := ⟨_, Lib.hid rfl⟩
        rw [HS2.out] at HQ2 ⊢
        have HZ2 : Hid (s2.size ≤ 1000000000) := Lib.hid (by rw [← HS2.out, ByteArray.size_extract]; omega)
        have HL2 : Hid (s2.size ≤ 1000000000) := Lib.hid HZ2.out
        obtain ⟨r2, HR2⟩ : ∃ r, Hid (findL 43 s2.data.toList = r) := ⟨_, Lib.hid rfl⟩
        have HF2 : Hid (∀ W : World, Calls Tryd.prog 27 #[.string s2, .int .u8 43] W fun e w' => e = .returned (.int .i64 r2) ∧ W = w') := Lib.hid (fun W => by
          rw [← HR2.out]
          exact rfind_any s2 43 W HL2.out)
        refine (HF2.out _).mono ?_
        rintro e w3 ⟨rfl, rfl⟩
        rcases findL_cases 43 s2.data.toList with ⟨h, _⟩ | ⟨k2, h, hk2, _⟩
        · rw [HR2.out] at h
          subst h
          have HP2 : Hid (parse2 ep s2.data.toList = (compsL s2.data.toList).bind fun p => some ⟨ep, p, []⟩) := Lib.hid (by
            unfold parse2
            rw [cut_no HR2.out]
            rfl)
          go_wp2_with fail
          refine (rComponents_any _ _ HL2.out).mono ?_
          rintro e w5 ⟨hp5, hb5⟩
          have HS5 := Lib.hid (HS6.out.next hb5)
          have hgw : g < W3.heap.size := HS6.out.var.lt
          have hww : w.heap.size < W3.heap.size := by have := HS6.out.lt; omega
          cases hc : compsL s2.data.toList with
          | none =>
            obtain rfl := CompsPost.elim_no hc hp5
            have HF : Hid (parseL s.data.toList = none) := Lib.hid (by rw [HQ2.out, HP2.out, hc]; rfl)
            clear hc hp5 hb5
            have v0 := HS5.out.var.cell 1
            have v1 := HS5.out.var.frozen 1
            have HS6 := Lib.hid (HS5.out.store 1 (.slice none 0 0))
            have t0 := HS6.out.var.cell 0
            have t1 := HS6.out.var.cell 1
            have t2 := HS6.out.var.cell 2
            have q0 := HS6.out.res.cell 0
            have q1 := HS6.out.res.cell 1
            have q2 := HS6.out.res.cell 2
            have f0 := HS6.out.res.frozen 0
            have f1 := HS6.out.res.frozen 1
            have f2 := HS6.out.res.frozen 2
            have n0 := HS6.out.non.cell 0
            have n1 := HS6.out.non.cell 1
            have n2 := HS6.out.non.cell 2
            go_wp2_with fail
            refine bodyPost_ret (v := .tuple #[.agg #[.int .i64 0, .slice none 0 0, .slice none 0 0], .bool false]) (by simp [results, Tryd.results10, go_sem, q0, q1, q2]) rfl ⟨RPost.no HF.out, ?_⟩
            exact (((HS6.out.below.setCell (Nat.le_refl _) _).setCell (Nat.le_refl _) _).setCell (Nat.le_refl _) _)
          | some p =>
            obtain ⟨A5, c5, cs5, rfl, ho5⟩ := CompsPost.elim_yes hc hp5
            have HO5 := Lib.hid (ho5.slFrom keepsComp (Nat.le_refl _))
            have HF : Hid (parseL s.data.toList = some ⟨ep, p, []⟩) := Lib.hid (by rw [HQ2.out, HP2.out, hc]; rfl)
            clear hc hp5 hb5 ho5
            have v0 := HS5.out.var.cell 1
            have v1 := HS5.out.var.frozen 1
            have HS6 := Lib.hid (HS5.out.store 1 (.slice A5 p.length c5))
            have t0 := HS6.out.var.cell 0
            have t1 := HS6.out.var.cell 1
            have t2 := HS6.out.var.cell 2
            have q0 := HS6.out.res.cell 0
            have q1 := HS6.out.res.cell 1
            have q2 := HS6.out.res.cell 2
            have f0 := HS6.out.res.frozen 0
            have f1 := HS6.out.res.frozen 1
            have f2 := HS6.out.res.frozen 2
            have n0 := HS6.out.non.cell 0
            have n1 := HS6.out.non.cell 1
            have n2 := HS6.out.non.cell 2
            go_wp2_with fail
            refine bodyPost_ret (v := .tuple #[.agg #[.int .i64 ep, .slice A5 p.length c5, .slice none 0 0], .bool true]) (by simp [results, Tryd.results10, go_sem, q0, q1, q2]) rfl
              ⟨RPost.yes (x := ⟨ep, p, []⟩) HF.out rfl rfl rfl HI.out ?_ (IsSl.nil _ _ _ _ _ _ (by omega)), ((HS6.out.below.setCell (Nat.le_refl _) _).setCell (Nat.le_refl _) _).setCell (Nat.le_refl _) _⟩
            refine HO5.out.keepOn keepsComp (fun b hb => ⟨by have := hb.1; omega, by simpa using hb.2⟩) ?_
            exact (((sameOn_store _ _ _ (not_from hgw)).trans (sameOn_store _ _ _ (not_from hww))).trans (sameOn_store _ _ _ (not_from hww))).trans (sameOn_store _ _ _ (not_from hww))
        · rw [HR2.out] at h
          subst h
          have hks2 : k2 < s2.size := by
            have h1 := (List.getElem?_eq_some_iff.1 hk2).1
            have h2 : s2.data.toList.length = s2.size := by simp
            omega
          have HP2 : Hid (parse2 ep s2.data.toList = (compsL (s2.extract 0 k2).data.toList).bind fun p => (compsL (s2.extract (k2 + 1) s2.size).data.toList).map fun q => ⟨ep, p, q⟩) := Lib.hid (by
            unfold parse2
            rw [cut_at HR2.out, ← toList_take, ← toList_drop]
            rfl)
          have hsz2 := HL2.out
          have HEL : Hid ((s2.extract (k2 + 1) s2.size).size ≤ 1000000000) := Lib.hid (by rw [ByteArray.size_extract]; omega)
          have HEM : Hid ((s2.extract 0 k2).size ≤ 1000000000) := Lib.hid (by rw [ByteArray.size_extract]; omega)
          go_wp2_with fail
          refine (rComponents_any _ _ HEL.out).mono ?_
          rintro e w5 ⟨hp5, hb5⟩
          have HS5 := Lib.hid (HS6.out.next hb5)
          have hgw : g < W3.heap.size := HS6.out.var.lt
          have hww : w.heap.size < W3.heap.size := by have := HS6.out.lt; omega
          cases hc : compsL (s2.extract (k2 + 1) s2.size).data.toList with
          | none =>
            obtain rfl := CompsPost.elim_no hc hp5
            have HF : Hid (parseL s.data.toList = none) := Lib.hid (by rw [HQ2.out, HP2.out, hc]; cases compsL (s2.extract 0 k2).data.toList <;> rfl)
            clear hc hp5 hb5
            have v0 := HS5.out.var.cell 2
            have v1 := HS5.out.var.frozen 2
            have HS6 := Lib.hid (HS5.out.store 2 (.slice none 0 0))
            have t0 := HS6.out.var.cell 0
            have t1 := HS6.out.var.cell 1
            have t2 := HS6.out.var.cell 2
            have q0 := HS6.out.res.cell 0
            have q1 := HS6.out.res.cell 1
            have q2 := HS6.out.res.cell 2
            have f0 := HS6.out.res.frozen 0
            have f1 := HS6.out.res.frozen 1
            have f2 := HS6.out.res.frozen 2
            have n0 := HS6.out.non.cell 0
            have n1 := HS6.out.non.cell 1
            have n2 := HS6.out.non.cell 2
            go_wp2_with fail
            refine bodyPost_ret (v := .tuple #[.agg #[.int .i64 0, .slice none 0 0, .slice none 0 0], .bool false]) (by simp [results, Tryd.results10, go_sem, q0, q1, q2]) rfl ⟨RPost.no HF.out, ?_⟩
            exact (((HS6.out.below.setCell (Nat.le_refl _) _).setCell (Nat.le_refl _) _).setCell (Nat.le_refl _) _)
          | some q =>
            obtain ⟨A5, c5, cs5, rfl, ho5⟩ := CompsPost.elim_yes hc hp5
            have HC5 := Lib.hid hc
            have HO5 := Lib.hid (ho5.slFrom keepsComp (Nat.le_refl _))
            have HW5 := Lib.hid hb5.size
            clear hc hp5 hb5 ho5
            have v0 := HS5.out.var.cell 2
            have v1 := HS5.out.var.frozen 2
            have HS6 := Lib.hid (HS5.out.store 2 (.slice A5 q.length c5))
            go_wp2_with fail
            clear v0 v1
            have HO6 : Hid (IsParts (w5.setCell ⟨g, 2, none⟩ (.slice A5 q.length c5)) (From W3.heap.size (w5.setCell ⟨g, 2, none⟩ (.slice A5 q.length c5))) (.slice A5 q.length c5) q) := Lib.hid
              (HO5.out.keepOn keepsComp (fun b hb => ⟨hb.1, by simpa using hb.2⟩) (sameOn_store _ _ _ (not_from hgw)))
            have HSZ6 : Hid (W3.heap.size ≤ (w5.setCell ⟨g, 2, none⟩ (.slice A5 q.length c5)).heap.size) := Lib.hid (by simp; exact HW5.out)
            generalize w5.setCell ⟨g, 2, none⟩ (.slice A5 q.length c5) = W6 at *
            refine (rComponents_any _ _ HEM.out).mono ?_
            rintro e w7 ⟨hp7, hb7⟩
            have HS7 := Lib.hid (HS6.out.next hb7)
            cases hc : compsL (s2.extract 0 k2).data.toList with
            | none =>
              obtain rfl := CompsPost.elim_no hc hp7
              have HF : Hid (parseL s.data.toList = none) := Lib.hid (by rw [HQ2.out, HP2.out, hc]; rfl)
              clear hc hp7 hb7
              have v0 := HS7.out.var.cell 1
              have v1 := HS7.out.var.frozen 1
              have HS8 := Lib.hid (HS7.out.store 1 (.slice none 0 0))
              have t0 := HS8.out.var.cell 0
              have t1 := HS8.out.var.cell 1
              have t2 := HS8.out.var.cell 2
              have q0 := HS8.out.res.cell 0
              have q1 := HS8.out.res.cell 1
              have q2 := HS8.out.res.cell 2
              have f0 := HS8.out.res.frozen 0
              have f1 := HS8.out.res.frozen 1
              have f2 := HS8.out.res.frozen 2
              have n0 := HS8.out.non.cell 0
              have n1 := HS8.out.non.cell 1
              have n2 := HS8.out.non.cell 2
              go_wp2_with fail
              refine bodyPost_ret (v := .tuple #[.agg #[.int .i64 0, .slice none 0 0, .slice none 0 0], .bool false]) (by simp [results, Tryd.results10, go_sem, q0, q1, q2]) rfl ⟨RPost.no HF.out, ?_⟩
              exact (((HS8.out.below.setCell (Nat.le_refl _) _).setCell (Nat.le_refl _) _).setCell (Nat.le_refl _) _)
            | some p =>
              obtain ⟨A7, c7, cs7, rfl, ho7⟩ := CompsPost.elim_yes hc hp7
              have HO7 := Lib.hid (ho7.slFrom keepsComp HSZ6.out)
              have HOP := Lib.hid (HO6.out.keepOn keepsComp (ok' := From W3.heap.size w7) (fun b hb => ⟨hb.1, Nat.lt_of_lt_of_le hb.2 hb7.size⟩) (sameOn_below hb7 (fun b hb => hb.2)))
              have HF : Hid (parseL s.data.toList = some ⟨ep, p, q⟩) := Lib.hid (by rw [HQ2.out, HP2.out, HC5.out, hc]; rfl)
              clear hc hp7 hb7 ho7
              have v0 := HS7.out.var.cell 1
              have v1 := HS7.out.var.frozen 1
              have HS8 := Lib.hid (HS7.out.store 1 (.slice A7 p.length c7))
              have t0 := HS8.out.var.cell 0
              have t1 := HS8.out.var.cell 1
              have t2 := HS8.out.var.cell 2
              have q0 := HS8.out.res.cell 0
              have q1 := HS8.out.res.cell 1
              have q2 := HS8.out.res.cell 2
              have f0 := HS8.out.res.frozen 0
              have f1 := HS8.out.res.frozen 1
              have f2 := HS8.out.res.frozen 2
              have n0 := HS8.out.non.cell 0
              have n1 := HS8.out.non.cell 1
              have n2 := HS8.out.non.cell 2
              go_wp2_with fail
              refine bodyPost_ret (v := .tuple #[.agg #[.int .i64 ep, .slice A7 p.length c7, .slice A5 q.length c5], .bool true]) (by simp [results, Tryd.results10, go_sem, q0, q1, q2]) rfl
                ⟨RPost.yes (x := ⟨ep, p, q⟩) HF.out rfl rfl rfl HI.out ?_ ?_, ((HS8.out.below.setCell (Nat.le_refl _) _).setCell (Nat.le_refl _) _).setCell (Nat.le_refl _) _⟩
              · refine HO7.out.keepOn keepsComp (fun b hb => ⟨by have := hb.1; omega, by simpa using hb.2⟩) ?_
                exact (((sameOn_store _ _ _ (not_from hgw)).trans (sameOn_store _ _ _ (not_from hww))).trans (sameOn_store _ _ _ (not_from hww))).trans (sameOn_store _ _ _ (not_from hww))
              · refine HOP.out.keepOn keepsComp (fun b hb => ⟨by have := hb.1; omega, by simpa using hb.2⟩) ?_
                exact (((sameOn_store _ _ _ (not_from hgw)).trans (sameOn_store _ _ _ (not_from hww))).trans (sameOn_store _ _ _ (not_from hww))).trans (sameOn_store _ _ _ (not_from hww))
end Go.Proofs.YtmlmaklighgiiaaDoor.V
