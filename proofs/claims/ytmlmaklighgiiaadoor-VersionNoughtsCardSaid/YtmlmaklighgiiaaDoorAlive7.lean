/-
  The walk of the examples ('alive') of the statements on versions.
-/
import Derived.Test.YtmlmaklighgiiaaDoorNewest
import Derived.Test.YtmlmaklighgiiaaDoorParse1
namespace Go.Proofs.YtmlmaklighgiiaaDoor.V
set_option linter.unusedVariables false
set_option linter.unusedSimpArgs false
open Go Go.RowKit Go.Sort

/-- What the walks want of the package-level variables. -/
structure Env (w : World) (u : TypeId) (ev : Value) (m : Int) : Prop where
  err : w.cell? ⟨0, 0, none⟩ = some (.iface u ev)
  ml : w.cell? ⟨13, 0, none⟩ = some (.int .i64 m)
theorem Env.next {w w' : World} {u : TypeId} {ev : Value} {m : Int} (h : Env w u ev m) (hb : Below w.heap.size w w') : Env w' u ev m :=
  ⟨(hb.cell (cell_lt h.err)).trans h.err, (hb.cell (cell_lt h.ml)).trans h.ml⟩
theorem ParsePost.elim_no {base : Nat} {ev : Value} {l : List UInt8} {e : Ending} {w' : World} (h : parseL l = none) (hp : ParsePost base ev l e w') : e = .returned (.tuple #[.agg #[.int .i64 0, .slice none 0 0, .slice none 0 0], ev]) := by
  unfold ParsePost at hp
  rw [h] at hp
  exact hp
theorem ParsePost.elim_yes {base : Nat} {ev : Value} {l : List UInt8} {e : Ending} {w' : World} {x : Ver} (h : parseL l = some x) (hp : ParsePost base ev l e w') :
    ∃ A1 c1 A2 c2, e = .returned (.tuple #[.agg #[.int .i64 x.epoch, .slice A1 x.parts.length c1, .slice A2 x.loc.length c2], .nilIface]) ∧
      IsVer w' (From base w') (.agg #[.int .i64 x.epoch, .slice A1 x.parts.length c1, .slice A2 x.loc.length c2]) x := by
  unfold ParsePost at hp
  rw [h] at hp
  exact hp
theorem verInfo : (Tryd.prog.info? 25).map (fun i => (i.zero, i.size, i.bytes)) = some (some (.agg #[.int .i64 0, .slice none 0 0, .slice none 0 0]), 3, 56) := by kernel_rfl
theorem from_off {w : World} {base base' : Nat} {lv : Value} (hb : base ≤ base') (hl : ∀ k, lv.ownBlock = some k → k < base') : ∀ b, From base' w b → Off w base lv b :=
  fun b h => ⟨Nat.le_trans hb h.1, h.2, fun e => by have := hl b e; have := h.1; omega⟩
theorem IsVer.rd {w : World} {ok : Nat → Prop} {n : Int} {p l : Value} {x : Ver} (h : IsVer w ok (.agg #[.int .i64 n, p, l]) x) : RVer w ok [.int .i64 n, p, l] x := by
  obtain ⟨p', l', hv, he, hp, hl⟩ := h
  injection hv with h1
  have h2 := congrArg Array.toList h1
  simp at h2
  obtain ⟨rfl, rfl, rfl⟩ := h2
  exact ⟨_, _, rfl, he, hp, hl⟩

def S (l : List UInt8) : ByteArray := ⟨l.toArray⟩
def num (n : Int) : Item := ⟨n, ByteArray.empty⟩
def wrd (l : List UInt8) : Item := ⟨0, S l⟩
/-- "1.0dev", "1.0a1", "1.0", "1.0post", "1.1" -/
def aTexts : List (List UInt8) := [[49, 46, 48, 100, 101, 118], [49, 46, 48, 97, 49], [49, 46, 48], [49, 46, 48, 112, 111, 115, 116], [49, 46, 49]]
def aVers : List Ver := [⟨0, [[num 1], [num 0, wrd [100, 101, 118]]], []⟩, ⟨0, [[num 1], [num 0, wrd [97], num 1]], []⟩, ⟨0, [[num 1], [num 0]], []⟩, ⟨0, [[num 1], [num 0, wrd [112, 111, 115, 116]]], []⟩, ⟨0, [[num 1], [num 1]], []⟩]
theorem aParsed0 : parseL [49, 46, 48, 100, 101, 118] = some ⟨0, [[num 1], [num 0, wrd [100, 101, 118]]], []⟩ := by kernel_rfl
theorem aParsed : aTexts.map parseL = aVers.map some := by kernel_rfl
theorem aRows : ∀ i, i < 4 → ∃ x y, aVers[i]? = some x ∧ aVers[i + 1]? = some y ∧ cmpVer x y = -1 := by
  intro i hi
  match i, hi with
  | 0, _ => exact ⟨_, _, rfl, rfl, by kernel_rfl⟩
  | 1, _ => exact ⟨_, _, rfl, rfl, by kernel_rfl⟩
  | 2, _ => exact ⟨_, _, rfl, rfl, by kernel_rfl⟩
  | 3, _ => exact ⟨_, _, rfl, rfl, by kernel_rfl⟩
theorem aNewest : newL aVers = 4 := by kernel_rfl
def verL : Ver := ⟨0, [[num 1], [num 10], [num 3]], []⟩
def verR : Ver := ⟨0, [[num 1], [num 1]], []⟩
theorem aLeft : parseL (S [49, 46, 49, 48, 46, 51]).data.toList = some verL := by kernel_rfl
theorem aRight : parseL (S [49, 46, 49]).data.toList = some verR := by kernel_rfl
theorem aBegins : begV verL verR = false := by kernel_rfl
theorem sLeft : (S [49, 46, 49, 48, 46, 51]).size ≤ 1000000000 := by show (6 : Nat) ≤ 1000000000; omega
theorem sRight : (S [49, 46, 49]).size ≤ 1000000000 := by show (3 : Nat) ≤ 1000000000; omega
attribute [local irreducible] parseL verL verR
/-- Parse of a text that is right: the version. -/
def YesPost (base : Nat) (x : Ver) (e : Ending) (w' : World) : Prop :=
  ∃ A1 c1 A2 c2, e = .returned (.tuple #[.agg #[.int .i64 x.epoch, .slice A1 x.parts.length c1, .slice A2 x.loc.length c2], .nilIface]) ∧
      IsVer w' (From base w') (.agg #[.int .i64 x.epoch, .slice A1 x.parts.length c1, .slice A2 x.loc.length c2]) x
theorem parse_yes {s : ByteArray} {x : Ver} (hp : parseL s.data.toList = some x) (hs : s.size ≤ 1000000000) (u : TypeId) (ev : Value) (m : Int) (w : World) (hE : Env w u ev m) :
    Calls Tryd.prog 9 #[.string s] w fun e w' => YesPost w.heap.size x e w' ∧ Below w.heap.size w w' := by
  refine (Parse_any s u ev m w hs hE.err hE.ml).mono ?_
  rintro e w1 ⟨h, hb⟩
  exact ⟨ParsePost.elim_yes hp h, hb⟩
theorem parse_left (u : TypeId) (ev : Value) (m : Int) (w : World) (hE : Env w u ev m) : Calls Tryd.prog 9 #[.string ⟨#[49, 46, 49, 48, 46, 51]⟩] w fun e w' => YesPost w.heap.size verL e w' ∧ Below w.heap.size w w' :=
  parse_yes aLeft sLeft u ev m w hE
theorem parse_right (u : TypeId) (ev : Value) (m : Int) (w : World) (hE : Env w u ev m) : Calls Tryd.prog 9 #[.string ⟨#[49, 46, 49]⟩] w fun e w' => YesPost w.heap.size verR e w' ∧ Below w.heap.size w w' :=
  parse_yes aRight sRight u ev m w hE

theorem aAt {k : Nat} (h : k < 5) : ∃ t x, aTexts[k]? = some t ∧ aVers[k]? = some x ∧ parseL t = some x ∧ t.length ≤ 40 := by
  match k, h with
  | 0, _ => exact ⟨_, _, rfl, rfl, by kernel_rfl, by decide⟩
  | 1, _ => exact ⟨_, _, rfl, rfl, by kernel_rfl, by decide⟩
  | 2, _ => exact ⟨_, _, rfl, rfl, by kernel_rfl, by decide⟩
  | 3, _ => exact ⟨_, _, rfl, rfl, by kernel_rfl, by decide⟩
  | 4, _ => exact ⟨_, _, rfl, rfl, by kernel_rfl, by decide⟩

set_option maxHeartbeats 4000000 in
set_option maxRecDepth 100000 in
theorem alive7_any (w : World) (u : TypeId) (ev : Value) (m : Int) (hE : Env w u ev m) : Calls Tryd.prog 8 #[] w fun e w' => e = .returned (.bool true) ∧ Below w.heap.size w w' := by
  have HE := Lib.hid hE
  clear hE
  obtain ⟨i0, hi0, hz0, hz1, hz2⟩ := info_parts verInfo
  go_enter Tryd.func8, Tryd.ntmps8
  go_wp2_with fail
  have HOW : Hid (OwnSl 3 25 RVer ((w.alloc (.cells #[] 25)).alloc (.cells #[.string (S [49, 46, 48, 100, 101, 118]), .string (S [49, 46, 48, 97, 49]), .string (S [49, 46, 48]), .string (S [49, 46, 48, 112, 111, 115, 116]), .string (S [49, 46, 49])] 9)) w.heap.size (.slice (some ⟨w.heap.size, 0, none⟩) 0 0) [] ([] : List Ver)) := Lib.hid
    ⟨⟨rfl, .inr ⟨w.heap.size, 0, #[], rfl, Nat.le_refl _, by rw [Below.heap_alloc _ _ _ (by simp)]; exact heap_alloc_new _ _, Nat.le_refl _, by decide, rfl, rfl⟩⟩, fun i x h => by simp at h⟩
  have HST : Hid (Blk ((w.alloc (.cells #[] 25)).alloc (.cells #[.string (S [49, 46, 48, 100, 101, 118]), .string (S [49, 46, 48, 97, 49]), .string (S [49, 46, 48]), .string (S [49, 46, 48, 112, 111, 115, 116]), .string (S [49, 46, 49])] 9)) (w.heap.size + 1) 9 #[.string (S [49, 46, 48, 100, 101, 118]), .string (S [49, 46, 48, 97, 49]), .string (S [49, 46, 48]), .string (S [49, 46, 48, 112, 111, 115, 116]), .string (S [49, 46, 49])]) := Lib.hid (by have := Blk.new (w.alloc (.cells #[] 25)) 9 #[.string (S [49, 46, 48, 100, 101, 118]), .string (S [49, 46, 48, 97, 49]), .string (S [49, 46, 48]), .string (S [49, 46, 48, 112, 111, 115, 116]), .string (S [49, 46, 49])]; simpa using this)
  have HBW : Hid (Below w.heap.size w ((w.alloc (.cells #[] 25)).alloc (.cells #[.string (S [49, 46, 48, 100, 101, 118]), .string (S [49, 46, 48, 97, 49]), .string (S [49, 46, 48]), .string (S [49, 46, 48, 112, 111, 115, 116]), .string (S [49, 46, 49])] 9))) := Lib.hid (((Below.refl _ _).alloc (Nat.le_refl _) _).alloc (by simp) _)
  have HSZ0 : Hid (((w.alloc (.cells #[] 25)).alloc (.cells #[.string (S [49, 46, 48, 100, 101, 118]), .string (S [49, 46, 48, 97, 49]), .string (S [49, 46, 48]), .string (S [49, 46, 48, 112, 111, 115, 116]), .string (S [49, 46, 49])] 9)).heap.size = w.heap.size + 2) := Lib.hid (by simp)
  change Code.wp _ _ _ _ ((w.alloc (.cells #[] 25)).alloc (.cells #[.string (S [49, 46, 48, 100, 101, 118]), .string (S [49, 46, 48, 97, 49]), .string (S [49, 46, 48]), .string (S [49, 46, 48, 112, 111, 115, 116]), .string (S [49, 46, 49])] 9))
  generalize ((w.alloc (.cells #[] 25)).alloc (.cells #[.string (S [49, 46, 48, 100, 101, 118]), .string (S [49, 46, 48, 97, 49]), .string (S [49, 46, 48]), .string (S [49, 46, 48, 112, 111, 115, 116]), .string (S [49, 46, 49])] 9)) = W0 at *
  go_loopw [1, 14] (fun v i wr => ∃ (k : Nat) (cs : List Value), k ≤ 5 ∧ i = .int .i64 k ∧ Hid (OwnSl 3 25 RVer wr w.heap.size v cs (aVers.take k)) ∧ Hid (Blk wr (w.heap.size + 1) 9 #[.string (S [49, 46, 48, 100, 101, 118]), .string (S [49, 46, 48, 97, 49]), .string (S [49, 46, 48]), .string (S [49, 46, 48, 112, 111, 115, 116]), .string (S [49, 46, 49])]) ∧ Hid (Below w.heap.size w wr)) (fun _ i _ => 5 - (intOf i).toNat)
  case atStart => exact ⟨0, _, by omega, rfl, HOW, HST, HBW⟩
  case round =>
    obtain ⟨k, cs, hk, rfl, hown, HSr, HWr⟩ := hrel
    by_cases hlt : k < 5
    · obtain ⟨t, x, ht, hx, hp, hlen⟩ := aAt hlt
      have hcell : wr.cell? ⟨w.heap.size + 1, k, none⟩ = some (.string (S t)) := by
        rw [HSr.out.cell k]
        have e : (#[.string (S [49, 46, 48, 100, 101, 118]), .string (S [49, 46, 48, 97, 49]), .string (S [49, 46, 48]), .string (S [49, 46, 48, 112, 111, 115, 116]), .string (S [49, 46, 49])] : Array Value) = (aTexts.map fun t => Value.string (S t)).toArray := rfl
        rw [e, List.getElem?_toArray, List.getElem?_map, ht]
        rfl
      have HP : Hid (parseL (S t).data.toList = some x) := Lib.hid hp
      have HL : Hid ((S t).size ≤ 1000000000) := Lib.hid (by show t.toArray.size ≤ _; simp; omega)
      have HX : Hid (aVers.take (k + 1) = aVers.take k ++ [x]) := Lib.hid (by
        obtain ⟨hk', hx'⟩ := List.getElem?_eq_some_iff.1 hx
        rw [List.take_succ_eq_append_getElem hk', hx'])
      have HLN : Hid ((aVers.take k).length = k) := Lib.hid (by rw [List.length_take]; show min k 5 = k; omega)
      have HEr : Hid (Env wr u ev m) := Lib.hid (HE.out.next HWr.out)
      obtain ⟨xs, hxs⟩ : ∃ xs, xs = aVers.take k := ⟨_, rfl⟩
      rw [← hxs] at hown HX HLN
      clear ht hx hp hxs
      go_wp2_with (first
        | (go_at_call 9; refine (Parse_any _ u ev m _ HL.out HEr.out.err HEr.out.ml).mono ?_; rintro e w1 ⟨hp1, hb1⟩; obtain ⟨A1, c1, A2, c2, rfl, hv1⟩ := ParsePost.elim_yes HP.out hp1; have HB1 := Lib.hid hb1; have HV1 := Lib.hid hv1; have HO1 := Lib.hid (hown.out.grow keepsVer hb1); clear hb1 hv1 hp1)
        | (at_builtin; refine wpList_append_lies _ rfl _ _ 35 rfl w.heap.size 25 i0 (.agg #[.int .i64 0, .slice none 0 0, .slice none 0 0]) 3 56 Tryd.underlying35 hi0 hz0 hz1 hz2 rfl (by decide) u1 xs.length cs rfl ((HO1.out.1.alloc _).alloc _) ⟨w1.heap.size + 1, 0, none⟩ 1 1 [.int .i64 x.epoch, .slice A1 x.parts.length c1, .slice A2 x.loc.length c2] rfl rfl ?c1 ?c2 (by omega) ?c3 ?c4 ?c5 (w1.heap.size + 1 + 1) ?c6 ?_))
      case c1 => exact cell_news (w1.alloc _) [.int .i64 x.epoch, .slice A1 x.parts.length c1, .slice A2 x.loc.length c2] _ _ (by simp)
      case c2 => simp [Value.oneCell']
      case c3 => have := HLN.out; simp [maxLen]; omega
      case c4 => have := HLN.out; omega
      case c5 => have := HWr.out.size; have := HB1.out.size; simp; omega
      case c6 => simp
      intro g1 cap1 w3 hown3 hgrow3 hat3 hlt3
      have hbb : Below w1.heap.size w1 ((w1.alloc (.cells #[.int .i64 x.epoch, .slice A1 x.parts.length c1, .slice A2 x.loc.length c2] 25)).alloc (.cells #[.int .i64 x.epoch, .slice A1 x.parts.length c1, .slice A2 x.loc.length c2] 25)) := ((Below.refl _ _).alloc (Nat.le_refl _) _).alloc (by simp) _
      have hst2 := (HSr.out.belowSelf (HB1.out.trans (hbb.mono HB1.out.size)))
      have ho2 := HO1.out.grow keepsVer hbb
      have HST3 := Lib.hid (hst2.grown hgrow3 (own_ne ho2.1 hst2 (by decide)))
      have HOW3 := Lib.hid (OwnSl.snoc keepsVer ho2 (vs := [.int .i64 x.epoch, .slice A1 x.parts.length c1, .slice A2 x.loc.length c2]) (x := x) rfl (keepsVer _ _ _ _ _ _ (fun b hb => ⟨Nat.le_trans HWr.out.size hb.1, Nat.lt_of_lt_of_le hb.2 hbb.size, fun e => by have := (hown.out.1.lt b e).2; have := hb.1; omega⟩) (fun p hp => hbb.cell hp.2) HV1.out.rd) hown3 hgrow3 (hat_of hat3 (by simp)))
      have HBW3 := Lib.hid (((HWr.out.trans (HB1.out.mono HWr.out.size)).trans (hbb.mono (by have := HWr.out.size; have := HB1.out.size; omega))).grown hgrow3 (by have := HWr.out.size; have := HB1.out.size; simp; omega) (fun j hj => (hown.out.1.lt j hj).1))
      clear hown3 hgrow3 hat3 hlt3 hbb hst2 ho2
      go_wp2_with fail
      go_roundw
      case rel => exact ⟨k + 1, _, by omega, by simp, by rw [HX.out]; exact HOW3, HST3, HBW3⟩
      case measure => simp [intOf]; omega
    · have hk5 : k = 5 := by omega
      subst hk5
      have HOW5 : Hid (OwnSl 3 25 RVer wr w.heap.size u1 cs aVers) := hown
      clear hown HSr HST HOW
      obtain ⟨wo, hwo⟩ : ∃ wo : World, wo = wr := ⟨_, rfl⟩
      subst hwo
      go_wp2_with fail
      obtain ⟨b0, o0, c0, rfl, hb0⟩ : ∃ b o c, u1 = .slice (some ⟨b, o, none⟩) 5 c ∧ b < wo.heap.size := by
        rcases HOW5.out.1.2 with ⟨_, h0⟩ | ⟨g, cap, cur, hv, _⟩
        · exact absurd h0 (by decide)
        · exact ⟨g, 0, cap, hv, (HOW5.out.1.lt g (by rw [hv]; rfl)).2⟩
      have HVS : Hid (IsVers wo (Lt wo.heap.size) (.slice (some ⟨b0, o0, none⟩) 5 c0) aVers) := Lib.hid (HOW5.out.slLt keepsVer)
      clear HOW5
      go_loopw [6] (fun i wr => ∃ k : Nat, k ≤ 4 ∧ i = .int .i64 (k + 1 : Nat) ∧ Hid (Below wo.heap.size wo wr)) (fun i _ => 5 - (intOf i).toNat)
      case atStart => exact ⟨0, by omega, rfl, Lib.hid (Below.refl _ _)⟩
      case round =>
        obtain ⟨k, hk, rfl, HW⟩ := hrel
        by_cases hlt : k < 4
        · obtain ⟨x, y, hx, hy, hxy⟩ := aRows k hlt
          obtain ⟨b, o, A1, n1, c1, A2, n2, c2, hbe, hb, hver, m0, m1, m2⟩ := vers_at HVS.out hx
          obtain ⟨b', o', A3, n3, c3, A4, n4, c4, hbe', hb', hver', m0', m1', m2'⟩ := vers_at HVS.out hy
          obtain ⟨rfl, rfl⟩ : b0 = b ∧ o0 = o := by injection hbe with h; injection h with h1 h2; exact ⟨h1, h2⟩
          obtain ⟨rfl, rfl⟩ : b0 = b' ∧ o0 = o' := by injection hbe' with h; injection h with h1 h2; exact ⟨h1, h2⟩
          have HVER := Lib.hid hver
          have HVER' := Lib.hid hver'
          have hbr : b0 < wr.heap.size := by have := HW.out.size; omega
          have HSM := Lib.hid (Same.of_below HW.out)
          have s0 := cell_regrown (w := wr) ((HSM.out _ hb0).trans m0)
          have s1 := cell_regrown (w := wr) ((HSM.out _ hb0).trans m1)
          have s2 := cell_regrown (w := wr) ((HSM.out _ hb0).trans m2)
          have t0 := cell_regrown (w := wr) ((HSM.out _ hb0).trans m0')
          have t1 := cell_regrown (w := wr) ((HSM.out _ hb0).trans m1')
          have t2 := cell_regrown (w := wr) ((HSM.out _ hb0).trans m2')
          have CC : Hid (∀ d os, Calls Tryd.prog 11 #[.agg #[.int .i64 x.epoch, .slice A1 n1 c1, .slice A2 n2 c2], .agg #[.int .i64 y.epoch, .slice A3 n3 c3, .slice A4 n4 c4]] (grow (redrawn wr d) os) fun e w'' => e = .returned (.int .i64 (cmpVer x y)) ∧ ∃ p : Regrown, w'' = grow (redrawn wr p.d) p.os) := Lib.hid (fun d os => by
            have h1 : Same wo.heap.size wo (grow (redrawn wr d) os) := HSM.out.trans ((Same.of_below (below_regrown wr d os)).mono HW.out.size)
            exact Calls.regrown_of (Compare_any _ _ x y wo.heap.size _ (HVER.out.keep (Nat.le_refl _) h1) (HVER'.out.keep (Nat.le_refl _) h1) (by have := (below_regrown wr d os).size; have := HW.out.size; omega)))
          rw [hxy] at CC
          clear hx hy hxy hbe hbe' hver hver' m0 m1 m2 m0' m1' m2'
          have i1 : (k : Int) + 1 - 1 = k := by omega
          go_wp2_with fail
          refine wp_region_quiet_below (by kernel_rfl) (by kernel_rfl) ?_
          repeat (first | go_big_quiet_step ((go_at_call 11; exact CC.out _ _)) | quiet_step ((go_at_call 11; exact CC.out _ _)))
          refine wpQuiet_nil ?_
          intro _ hwq
          obtain ⟨⟨q, os⟩, hwq⟩ := hwq
          subst hwq
          have HB1 := Lib.hid (below_regrown wr q os)
          clear s0 s1 s2 t0 t1 t2
          generalize grow (redrawn wr q) os = W1 at *
          go_wp2_with fail
          go_roundw
          case rel => exact ⟨k + 1, by omega, by go_num, Lib.hid (HW.out.trans (HB1.out.mono HW.out.size))⟩
          case measure => simp [intOf]; omega
        · obtain rfl : k = 4 := by omega
          have HEr : Hid (Env wr u ev m) := Lib.hid (HE.out.next (HWr.out.trans (HW.out.mono HWr.out.size)))
          have HSM := Lib.hid (Same.of_below HW.out)
          have HCL := Lib.hid (parse_left u ev m)
          have HCR := Lib.hid (parse_right u ev m)
          obtain ⟨xL, hxL⟩ : ∃ x, x = verL := ⟨_, rfl⟩
          obtain ⟨xR, hxR⟩ : ∃ x, x = verR := ⟨_, rfl⟩
          rw [← hxL] at HCL
          rw [← hxR] at HCR
          have HBG : Hid (begV xL xR = false) := Lib.hid (by rw [hxL, hxR]; exact aBegins)
          clear hxL hxR
          go_wp2_with fail
          refine (HCL.out _ HEr.out).mono ?_; rintro e w1 ⟨⟨A1, c1, A2, c2, rfl, hv1⟩, hb1⟩; have HB1 := Lib.hid hb1; have HV1 := Lib.hid hv1; clear hb1 hv1
          go_wp2_with fail
          have HX1 := Lib.hid (news_alloc w1 (.cells #[.int .i64 xL.epoch, .slice A1 xL.parts.length c1, .slice A2 xL.loc.length c2] 25))
          have HCV1 : Hid (∀ i, (w1.alloc (.cells #[.int .i64 xL.epoch, .slice A1 xL.parts.length c1, .slice A2 xL.loc.length c2] 25)).cell? ⟨w1.heap.size, i, none⟩ = #[(.int .i64 xL.epoch : Value), .slice A1 xL.parts.length c1, .slice A2 xL.loc.length c2][i]?) := Lib.hid (fun i => World.cell?_alloc_new _ _ _ _)
          have HZ1 : Hid ((w1.alloc (.cells #[.int .i64 xL.epoch, .slice A1 xL.parts.length c1, .slice A2 xL.loc.length c2] 25)).heap.size = w1.heap.size + 1) := Lib.hid (by simp)
          generalize w1.alloc (.cells #[.int .i64 xL.epoch, .slice A1 xL.parts.length c1, .slice A2 xL.loc.length c2] 25) = W1 at *
          have HBW1 := Lib.hid (HW.out.trans ((HB1.out.trans (HX1.out.mono HB1.out.size)).mono HW.out.size))
          refine (HCR.out _ (HE.out.next (HWr.out.trans (HBW1.out.mono HWr.out.size)))).mono ?_; rintro e w2 ⟨⟨A3, c3, A4, c4, rfl, hv2⟩, hb2⟩; have HB2 := Lib.hid hb2; have HV2 := Lib.hid hv2; clear hb2 hv2
          have hlt1 : w1.heap.size < w2.heap.size := by have := HB2.out.size; have := HZ1.out; omega
          have HX2 := Lib.hid (news_alloc w2 (.cells #[.int .i64 xR.epoch, .slice A3 xR.parts.length c3, .slice A4 xR.loc.length c4] 25))
          have hlt2 : w1.heap.size < W1.heap.size := by have := HZ1.out; omega
          have r0 := (HX2.out.cell (p := ⟨w1.heap.size, 0, none⟩) hlt1).trans ((HB2.out.cell (p := ⟨w1.heap.size, 0, none⟩) hlt2).trans (HCV1.out 0))
          have r1 := (HX2.out.cell (p := ⟨w1.heap.size, 1, none⟩) hlt1).trans ((HB2.out.cell (p := ⟨w1.heap.size, 1, none⟩) hlt2).trans (HCV1.out 1))
          have r2 := (HX2.out.cell (p := ⟨w1.heap.size, 2, none⟩) hlt1).trans ((HB2.out.cell (p := ⟨w1.heap.size, 2, none⟩) hlt2).trans (HCV1.out 2))
          have HCV2 : Hid (∀ i, (w2.alloc (.cells #[.int .i64 xR.epoch, .slice A3 xR.parts.length c3, .slice A4 xR.loc.length c4] 25)).cell? ⟨w2.heap.size, i, none⟩ = #[(.int .i64 xR.epoch : Value), .slice A3 xR.parts.length c3, .slice A4 xR.loc.length c4][i]?) := Lib.hid (fun i => World.cell?_alloc_new _ _ _ _)
          have q0 := HCV2.out 0
          have q1 := HCV2.out 1
          have q2 := HCV2.out 2
          have HBA := Lib.hid (HB1.out.trans ((HX1.out.trans ((HB2.out.trans (HX2.out.mono HB2.out.size)).mono HX1.out.size)).mono HB1.out.size))
          have hch := HX1.out.trans ((HB2.out.trans (HX2.out.mono HB2.out.size)).mono HX1.out.size)
          have HBB : Hid (Calls Tryd.prog 13 #[.agg #[.int .i64 xL.epoch, .slice A1 xL.parts.length c1, .slice A2 xL.loc.length c2], .agg #[.int .i64 xR.epoch, .slice A3 xR.parts.length c3, .slice A4 xR.loc.length c4]] (w2.alloc (.cells #[.int .i64 xR.epoch, .slice A3 xR.parts.length c3, .slice A4 xR.loc.length c4] 25))
              fun e w' => e = .returned (.bool (begV xL xR)) ∧ Below (w2.alloc (.cells #[.int .i64 xR.epoch, .slice A3 xR.parts.length c3, .slice A4 xR.loc.length c4] 25)).heap.size (w2.alloc (.cells #[.int .i64 xR.epoch, .slice A3 xR.parts.length c3, .slice A4 xR.loc.length c4] 25)) w') :=
            Lib.hid (Begins_any _ _ xL xR _ _ (HV1.out.keepOn (fun b hb => Nat.lt_of_lt_of_le hb.2 hch.size) (fun p hp => hch.cell hp.2)) (HV2.out.keepOn (fun b hb => Nat.lt_of_lt_of_le hb.2 HX2.out.size) (fun p hp => HX2.out.cell hp.2)) (Nat.le_refl _))
          rw [HBG.out] at HBB
          have hbw2 := HW.out.trans (HBA.out.mono HW.out.size)
          have HNW : Hid (∀ w', Below (w2.alloc (.cells #[.int .i64 xR.epoch, .slice A3 xR.parts.length c3, .slice A4 xR.loc.length c4] 25)).heap.size (w2.alloc (.cells #[.int .i64 xR.epoch, .slice A3 xR.parts.length c3, .slice A4 xR.loc.length c4] 25)) w' →
              Calls Tryd.prog 16 #[.slice (some ⟨b0, o0, none⟩) 5 c0] w' fun e w'' => e = .returned (.int .i64 4) ∧ Below w'.heap.size w' w'') := Lib.hid (fun w' hw' => by
            rw [← aNewest]
            have hb := hbw2.trans (hw'.mono hbw2.size)
            exact Newest_any _ aVers wo.heap.size w' (HVS.out.keepOn keepsVer (fun _ hb => hb) (fun p hp => hb.cell hp)) hb.size)
          have HFIN := Lib.hid (HWr.out.trans (hbw2.mono HWr.out.size))
          clear hch hbw2
          go_wp2_with (first
            | (go_at_call 13; refine HBB.out.mono ?_; rintro e w3 ⟨rfl, hb3⟩; have HB3 := Lib.hid hb3; clear hb3)
            | (go_at_call 16; refine (HNW.out _ HB3.out).mono ?_; rintro e w4 ⟨rfl, hb4⟩; have HB4 := Lib.hid hb4; clear hb4))
          go_ret
          exact ⟨ret_bool (by decide), HFIN.out.trans ((HB3.out.trans (HB4.out.mono HB3.out.size)).mono HFIN.out.size)⟩
end Go.Proofs.YtmlmaklighgiiaaDoor.V
