/-
  The walk of the law RanksOff.
-/
import Derived.Test.YtkmoaeckabjgnaaDoorLKOrder
namespace Go.Proofs.YtkmoaeckabjgnaaDoor.V
set_option linter.unusedVariables false
set_option linter.unusedSimpArgs false
open Go Go.RowKit Go.Sort

theorem ows_blk {w : World} {base : Nat} {e : TypeId} {g n cap : Nat} {cs : List Value} (h : w.ownsRow base e 1 (.slice (some ⟨g, 0, none⟩) n cap) n cs) : ∃ cur, Blk w g e cur ∧ cur.toList.take n = cs ∧ n ≤ cap ∧ cap ≤ 9223372036854775807 := by
  rcases h.2 with ⟨h, _⟩ | ⟨g', cap', cur, hv, hg, hh, hnc, hcm, hcs, htake⟩
  · cases h
  · injection hv with h1 h2 h3
    injection h1 with h1
    injection h1 with h1
    subst h1
    subst h3
    exact ⟨cur, hh, by simpa using htake, hnc, by simp only [maxLen] at hcm; omega⟩
theorem bools_set {w : World} {g kk cap : Nat} {cur : Array Value} {on : List Bool} (h : Blk w g 4 cur) (ht : cur.toList.take on.length = on.map (Value.bool ·)) (hc : on.length ≤ cap) (hm : cap ≤ 9223372036854775807) :
    IsBools (w.setCell ⟨g, kk, none⟩ (.bool false)) (Lt (w.setCell ⟨g, kk, none⟩ (.bool false)).heap.size) (.slice (some ⟨g, 0, none⟩) on.length cap) (on.set kk false) := by
  have hb := h.set_ kk (.bool false)
  refine ⟨_, cap, by rw [List.length_set], by rw [List.length_set]; exact hc, hm, fun i x hi => ?_⟩
  refine ⟨g, 0, [.bool x], rfl, hb.lt, rfl, rfl, fun j u hj => ?_⟩
  match j, hj with
  | 0, hj =>
    obtain rfl : (Value.bool x) = u := by simpa using hj
    have hil : i < on.length := by have := (List.getElem?_eq_some_iff.1 hi).1; simpa using this
    have hci : cur[i]? = (on[i]?).map (Value.bool ·) := by
      have h1 : (cur.toList.take on.length)[i]? = cur.toList[i]? := List.getElem?_take_of_lt hil
      rw [ht, List.getElem?_map] at h1
      rw [h1]
      simp
    rw [show 0 + i * 1 + 0 = i by omega, hb.cell]
    by_cases e : kk = i
    · subst e
      rw [List.getElem?_set_self hil] at hi
      have hlt : kk < cur.size := by
        rw [List.getElem?_eq_getElem hil] at hci
        exact (Array.getElem?_eq_some_iff.1 hci).1
      rw [Array.getElem?_setIfInBounds_self_of_lt hlt]
      obtain rfl : false = x := Option.some.inj hi
      rfl
    · rw [List.getElem?_set_ne e] at hi
      rw [Array.getElem?_setIfInBounds_ne e, hci, hi]
      rfl
theorem off_mod (off : Int) (n : Nat) (hn : 0 < n) (h40 : n ≤ 40) : ∃ kk : Nat, RowKit.wrap64 ((IntKind.u64.wrap off).tmod (n : Int)) = kk ∧ kk < n := by
  have h0 : 0 ≤ IntKind.u64.wrap off := by
    simp [IntKind.wrap, IntKind.signed, IntKind.bits]
    omega
  have h1 : (IntKind.u64.wrap off).tmod (n : Int) = IntKind.u64.wrap off % (n : Int) := Int.tmod_eq_emod_of_nonneg h0
  rw [h1]
  generalize IntKind.u64.wrap off = q at *
  have h2 : 0 ≤ q % (n : Int) := Int.emod_nonneg _ (by omega)
  have h3 : q % (n : Int) < n := Int.emod_lt_of_pos _ (by omega)
  refine ⟨(q % (n : Int)).toNat, ?_, by omega⟩
  unfold RowKit.wrap64
  omega
theorem u64_small (n : Nat) (h : n ≤ 40) : IntKind.u64.wrap (n : Int) = n := by
  simp [IntKind.wrap, IntKind.signed, IntKind.bits]
  omega
theorem boolInfo : (Tryd.prog.info? 4).map (fun i => (i.zero, i.size, i.bytes)) = some (some (.bool false), 1, 1) := by kernel_rfl
/-- Facts on the ranks with one record off. -/
structure OffR (xs : List Rcd) (on : List Bool) (off : Nat) (x : Rcd) (vb nb tb va na ta : Int) : Prop where
  v : vb ≤ va
  n : nb ≤ na
  t : tb ≤ ta
  v0 : 0 ≤ vb
  n0 : 0 ≤ nb
  t0 : 0 ≤ tb
  e : nmE (recAt xs off).name x.name = false → vb = va ∧ nb = na ∧ tb = ta
theorem off_ranks (xs : List Rcd) (on : List Bool) (off : Nat) (x : Rcd) : OffR xs on off x (rankV xs (on.set off false) x) (rankN xs (on.set off false) x) (rankT xs (on.set off false) x) (rankV xs on x) (rankN xs on x) (rankT xs on x) := by
  have h1 := rankV_off xs on off x
  have h2 := rankN_off xs on off x
  have h3 := rankT_off xs on off x
  refine ⟨by omega, by omega, by omega, by omega, by omega, by omega, fun h => ?_⟩
  unfold rankV rankN rankT
  rw [diff_other _ _ _ _ _ _ h, diff_other _ _ _ _ _ _ h, diff_other _ _ _ _ _ _ h]
  exact ⟨rfl, rfl, rfl⟩

set_option maxHeartbeats 16000000 in
set_option maxRecDepth 100000 in
theorem koff_any (vr vo : Value) (off : Int) (xs : List Rcd) (on : List Bool) (w : World) (u : TypeId) (ev : Value) (m : Int) (hE : Env w u ev m) (hx : IsRcds w (Lt w.heap.size) vr xs) (ho : IsBools w (Lt w.heap.size) vo on) :
    Calls Tryd.prog 4 #[vr, vo, .int .i64 off] w fun e w' => e = .returned (.bool true) ∧ Below w.heap.size w w' := by
  have HE := Lib.hid hE
  obtain ⟨i0, hi0, hz0, hz1, hz2⟩ := info_parts boolInfo
  obtain ⟨XA, xc, rfl, hxl, hxc⟩ := hx.form
  obtain ⟨OA, oc, rfl, hol, hoc⟩ := ho.form
  have HX := Lib.hid hx
  have HO := Lib.hid ho
  have HI := Lib.hid (And.intro hi0 (And.intro hz0 (And.intro hz1 hz2)))
  clear hE hx ho hi0 hz0 hz1 hz2
  go_enter Tryd.func4, Tryd.ntmps4
  go_wp2_with fail
  refine (alive12_any w u ev m HE.out).mono ?_
  rintro e w1 ⟨rfl, hb1⟩
  have HB1 := Lib.hid hb1
  clear hb1
  go_wp2_with fail
  refine (BigAll_any _ xs 40 w.heap.size w1 (HX.out.keep keepsRcd (Nat.le_refl _) (Same.of_below HB1.out)) HB1.out.size).mono ?_
  rintro e w2 ⟨⟨bb, rfl, hbig⟩, hb2⟩
  have HB2 := Lib.hid (HB1.out.trans (hb2.mono HB1.out.size))
  have HBIG := Lib.hid hbig
  clear hb2 hbig
  cases bb with
  | true =>
    go_wp2_with fail
    go_ret
    exact ⟨rfl, HB2.out⟩
  | false =>
  have h40 : (xs.length : Int) ≤ 40 := HBIG.out rfl
  by_cases hl : on.length = xs.length
  rotate_left
  · have hl1 : ((on.length : Int) == (xs.length : Int)) = false := by simp; omega
    have hl2 : ((on.length : Int) != (xs.length : Int)) = true := by simp; omega
    go_wp2_with fail
    go_ret
    exact ⟨rfl, HB2.out⟩
  rw [hl] at HO ⊢
  have HL := Lib.hid hl
  have hol2 : xs.length ≤ oc := by omega
  clear hl hol
  by_cases hz : xs.length = 0
  · have hz1 : ((xs.length : Int) == 0) = true := by rw [beq_iff_eq]; omega
    have HZ := Lib.hid hz
    clear hz
    go_wp2_with fail
    go_ret
    exact ⟨rfl, HB2.out⟩
  have hz1 : ((xs.length : Int) == 0) = false := beq_eq_false_iff_ne.2 (by omega)
  have hz2 : ¬ (xs.length : Int) = 0 := by omega
  have hu := u64_small xs.length (by omega)
  obtain ⟨kk, hkk, hkl⟩ := off_mod off xs.length (by omega) (by omega)
  have HKK := Lib.hid hkk
  clear hkk
  obtain ⟨ob, ho0⟩ : ∃ ob, on[0]? = some ob := ⟨_, List.getElem?_eq_getElem (by rw [HL.out]; omega)⟩
  obtain ⟨b2, o2, rfl, hb2, _⟩ := bools_at HO.out ho0
  clear ho0
  obtain ⟨hi0, hq0, hq1, hq2⟩ := HI.out
  go_wp2_with (at_builtin; refine wpList_append_lies _ rfl _ _ 23 rfl w.heap.size 4 i0 (.bool false) 1 1 Tryd.underlying23 hi0 hq0 hq1 hq2 rfl (by decide) (.slice (some ⟨w2.heap.size, 0, none⟩) 0 0) 0 [] rfl ?own ⟨b2, o2, none⟩ xs.length oc (on.map (Value.bool ·)) rfl (by rw [List.length_map, HL.out, Nat.mul_one]) ?c1 ?c2 (by omega) ?c3 ?c4 ?c5 (w2.heap.size + 1) ?c6 ?_)
  case own => exact ⟨rfl, .inr ⟨w2.heap.size, 0, #[], rfl, HB2.out.size, heap_alloc_new _ _, Nat.le_refl _, by decide, rfl, rfl⟩⟩
  case c1 =>
    intro j u hj
    rw [List.getElem?_map] at hj
    cases hoj : on[j]? with
    | none => rw [hoj] at hj; cases hj
    | some x =>
      rw [hoj] at hj
      obtain rfl : Value.bool x = u := by simpa using hj
      obtain ⟨b', o', hbe, hb', hcell⟩ := bools_at HO.out hoj
      obtain ⟨rfl, rfl⟩ : b2 = b' ∧ o2 = o' := by injection hbe with h; injection h with h1 h2; exact ⟨h1, h2⟩
      rw [Go.WideShapes.add_plain]
      exact ((HB2.out.trans ((news_alloc w2 (.cells #[] 4)).mono HB2.out.size)).cell hb').trans hcell
  case c2 => intro v hv; obtain ⟨x, _, rfl⟩ := List.mem_map.1 hv; rfl
  case c3 => simp [maxLen]; omega
  case c4 => omega
  case c5 => have := HB2.out.size; simp; omega
  case c6 => simp
  intro g1 cap1 w3 hown3 hgrow3 hat3 hlt3
  try simp only [Nat.zero_add, List.nil_append] at hown3 ⊢
  rw [HKK.out]
  obtain ⟨cur, hBK, htk, hnc, hcm⟩ := ows_blk hown3
  have HB3 := Lib.hid ((HB2.out.trans ((news_alloc w2 (.cells #[] 4)).mono HB2.out.size)).grown hgrow3 (by have := HB2.out.size; simp; omega) (fun j hj => by
    have h : w2.heap.size = j := by simpa [Value.ownBlock] using hj
    have := HB2.out.size
    omega))
  have HG1 : Hid (w.heap.size ≤ g1) := Lib.hid (hown3.lt g1 rfl).1
  have HBK := Lib.hid hBK
  have HTK := Lib.hid htk
  clear hBK htk hown3 hgrow3 hat3 hlt3 hi0 hq0 hq1 hq2
  have hkc : kk < cur.size := by
    have h := congrArg List.length HTK.out
    rw [List.length_take, List.length_map, HL.out] at h
    have h2 : cur.toList.length = cur.size := by simp
    omega
  obtain ⟨uk, huk⟩ : ∃ uk, cur[kk]? = some uk := ⟨_, Array.getElem?_eq_getElem hkc⟩
  have t0 := (HBK.out.cell kk).trans huk
  have f0 := HBK.out.frozen kk
  clear huk
  have HFS := Lib.hid (bools_set (kk := kk) (on := on) HBK.out (by rw [HL.out]; exact HTK.out) (by rw [HL.out]; exact hnc) hcm)
  have HB4 : Hid (Below w.heap.size w (w3.setCell ⟨g1, kk, none⟩ (.bool false))) := Lib.hid (below_set HB3.out ⟨g1, kk, none⟩ HG1.out (.bool false))
  rw [HL.out] at HFS
  go_wp2_with fail
  clear t0 f0
  generalize w3.setCell ⟨g1, kk, none⟩ (.bool false) = W4 at *
  refine (ranksOf_any _ _ _ xs on [] w.heap.size W4 (HX.out.keep keepsRcd (Nat.le_refl _) (Same.of_below HB4.out)) (HO.out.keep keepsBool (Nat.le_refl _) (Same.of_below HB4.out)) (IsSl.nil _ _ _ _ _ _ (by decide)) HB4.out.size HL.out (by omega) (by decide)).mono ?_
  rintro _ w5 ⟨⟨ga, rfl, hra⟩, hb5⟩
  have HB5 := Lib.hid (HB4.out.trans (hb5.mono HB4.out.size))
  have HRA := Lib.hid hra
  have HFS5 := Lib.hid (HFS.out.keep keepsBool hb5.size (Same.of_below hb5))
  clear hra hb5
  go_wp2_with fail
  refine (ranksOf_any _ _ _ xs (on.set kk false) [] w5.heap.size w5 (HX.out.keep keepsRcd HB5.out.size (Same.of_below HB5.out)) HFS5.out (IsSl.nil _ _ _ _ _ _ (by decide)) (Nat.le_refl _) (by rw [List.length_set]; exact HL.out) (by omega) (by decide)).mono ?_
  rintro _ w6 ⟨⟨gb, rfl, hrb⟩, hb6⟩
  have HB6 := Lib.hid (HB5.out.trans (hb6.mono HB5.out.size))
  have HRA6 := Lib.hid (HRA.out.keepOn keepsRk (ok' := Lt w6.heap.size) (fun b hb => Nat.lt_of_lt_of_le hb.2 hb6.size) (fun p hp => hb6.cell hp.2))
  have HRB6 := Lib.hid (hrb.keepOn keepsRk (ok' := Lt w6.heap.size) (fun b hb => hb.2) (fun _ _ => rfl))
  clear hrb hb6 HRA
  obtain ⟨wz, hwz⟩ : ∃ wz : World, wz = w6 := ⟨_, rfl⟩
  subst hwz
  go_wp2_with fail
  go_loopw [76] (fun i wr => ∃ k : Nat, k ≤ xs.length ∧ i = .int .i64 k ∧ Hid (Below wz.heap.size wz wr)) (fun i _ => xs.length - (intOf i).toNat)
  case atStart => exact ⟨0, Nat.zero_le _, rfl, Lib.hid (Below.refl _ _)⟩
  case round =>
    obtain ⟨k, hk, rfl, HW⟩ := hrel
    have HBW := Lib.hid (HB6.out.trans (HW.out.mono HB6.out.size))
    by_cases hlt : k < xs.length
    · obtain ⟨x, hx⟩ : ∃ x, xs[k]? = some x := ⟨_, List.getElem?_eq_getElem hlt⟩
      obtain ⟨y, hy⟩ : ∃ y, xs[kk]? = some y := ⟨_, List.getElem?_eq_getElem hkl⟩
      obtain ⟨b, o, aA1, an1, ac1, aA2, an2, ac2, aA3, an3, ac3, aA4, an4, ac4, aA5, an5, ac5, rfl, hb, _, hrow⟩ := rcds_at HX.out hx
      obtain ⟨b', o', cA1, cn1, cc1, cA2, cn2, cc2, cA3, cn3, cc3, cA4, cn4, cc4, cA5, cn5, cc5, hbe, hb', _, hrow'⟩ := rcds_at HX.out hy
      obtain ⟨rfl, rfl⟩ : b = b' ∧ o = o' := by injection hbe with h; injection h with h1 h2; exact ⟨h1, h2⟩
      have HR := Lib.hid (off_ranks xs on kk x)
      obtain ⟨hx0, hx1, hx2, hx3⟩ := rks_cells (HRA6.out.keep keepsRk HW.out.size (Same.of_below HW.out)) (ranksL_at hx)
      obtain ⟨hy0, hy1, hy2, hy3⟩ := rks_cells (HRB6.out.keep keepsRk HW.out.size (Same.of_below HW.out)) (ranksL_at hx)
      have HY := Lib.hid (recAt_of hy)
      obtain ⟨va, hva⟩ : ∃ z : Int, z = (rankV xs on x : Int) := ⟨_, rfl⟩
      obtain ⟨vb, hvb⟩ : ∃ z : Int, z = (rankV xs (on.set kk false) x : Int) := ⟨_, rfl⟩
      obtain ⟨na, hna⟩ : ∃ z : Int, z = (rankN xs on x : Int) := ⟨_, rfl⟩
      obtain ⟨nb, hnb⟩ : ∃ z : Int, z = (rankN xs (on.set kk false) x : Int) := ⟨_, rfl⟩
      obtain ⟨ta, hta⟩ : ∃ z : Int, z = (rankT xs on x : Int) := ⟨_, rfl⟩
      obtain ⟨tb, htb⟩ : ∃ z : Int, z = (rankT xs (on.set kk false) x : Int) := ⟨_, rfl⟩
      replace hx0 : wr.cell? ⟨ga, k * 4, none⟩ = some (.int .i64 va) := hva ▸ hx0
      replace hx1 : wr.cell? ⟨ga, k * 4 + 1, none⟩ = some (.int .i64 na) := hna ▸ hx1
      replace hx2 : wr.cell? ⟨ga, k * 4 + 2, none⟩ = some (.int .i64 0) := hx2
      replace hx3 : wr.cell? ⟨ga, k * 4 + 3, none⟩ = some (.int .i64 ta) := hta ▸ hx3
      replace hy0 : wr.cell? ⟨gb, k * 4, none⟩ = some (.int .i64 vb) := hvb ▸ hy0
      replace hy1 : wr.cell? ⟨gb, k * 4 + 1, none⟩ = some (.int .i64 nb) := hnb ▸ hy1
      replace hy2 : wr.cell? ⟨gb, k * 4 + 2, none⟩ = some (.int .i64 0) := hy2
      replace hy3 : wr.cell? ⟨gb, k * 4 + 3, none⟩ = some (.int .i64 tb) := htb ▸ hy3
      rw [← hva, ← hvb, ← hna, ← hnb, ← hta, ← htb] at HR
      have g1' : decide (va < vb) = false := decide_eq_false (by have := HR.out.v; omega)
      have g2' : decide (na < nb) = false := decide_eq_false (by have := HR.out.n; omega)
      have g3' : decide (ta < tb) = false := decide_eq_false (by have := HR.out.t; omega)
      have g4' : decide (vb < 0) = false := decide_eq_false (by have := HR.out.v0; omega)
      have g5' : decide (nb < 0) = false := decide_eq_false (by have := HR.out.n0; omega)
      have g6' : decide (tb < 0) = false := decide_eq_false (by have := HR.out.t0; omega)
      have HN0 : Hid (wr.cell? ⟨b, o + k * 13 + 2, none⟩ = some (.string x.name)) := Lib.hid ((HBW.out.cell hb).trans (hrow 2 _ rfl))
      have HN1 : Hid (wr.cell? ⟨b, o + kk * 13 + 2, none⟩ = some (.string y.name)) := Lib.hid ((HBW.out.cell hb).trans (hrow' 2 _ rfl))
      have i1 : (0 : Int) ≤ (k : Int) := by omega
      have i2 : (k : Int) < (xs.length : Int) := by omega
      have i3 : (0 : Int) ≤ (kk : Int) := by omega
      have i4 : (kk : Int) < (xs.length : Int) := by omega
      clear hva hvb hna hnb hta htb hx hy hbe hrow hrow'
      have HXA := Lib.hid (And.intro hx0 (And.intro hx1 (And.intro hx2 hx3)))
      have HXB := Lib.hid (And.intro hy0 (And.intro hy1 (And.intro hy2 hy3)))
      have HLT : Hid (ga < wr.heap.size ∧ gb < wr.heap.size ∧ b < wr.heap.size) := Lib.hid ⟨cell_lt hx0, cell_lt hy0, cell_lt HN0.out⟩
      clear hx0 hx1 hx2 hx3 hy0 hy1 hy2 hy3
      cases hnm : (x.name.toList == y.name.toList) with
      | true =>
        have c0 := cell_regrown HXA.out.1
        have c1 := cell_regrown HXA.out.2.1
        have c2 := cell_regrown HXA.out.2.2.1
        have c3 := cell_regrown HXA.out.2.2.2
        have d0 := cell_regrown HXB.out.1
        have d1 := cell_regrown HXB.out.2.1
        have d2 := cell_regrown HXB.out.2.2.1
        have d3 := cell_regrown HXB.out.2.2.2
        go_wp2_with fail
        refine wp_region_quiet_below (by kernel_rfl) (by kernel_rfl) ?_
        repeat (first | go_big_quiet_step (fail) | quiet_step (fail))
        refine wpQuiet_nil ?_
        intro _ hwq
        obtain ⟨⟨q, os⟩, hwq⟩ := hwq
        subst hwq
        have HR7 := Lib.hid (below_regrown wr q os)
        clear c0 c1 c2 c3 d0 d1 d2 d3
        have c0 := cell_regrown ((HR7.out.cell HLT.out.1).trans HXA.out.1)
        have c1 := cell_regrown ((HR7.out.cell HLT.out.1).trans HXA.out.2.1)
        have c2 := cell_regrown ((HR7.out.cell HLT.out.1).trans HXA.out.2.2.1)
        have c3 := cell_regrown ((HR7.out.cell HLT.out.1).trans HXA.out.2.2.2)
        have d0 := cell_regrown ((HR7.out.cell HLT.out.2.1).trans HXB.out.1)
        have d1 := cell_regrown ((HR7.out.cell HLT.out.2.1).trans HXB.out.2.1)
        have d2 := cell_regrown ((HR7.out.cell HLT.out.2.1).trans HXB.out.2.2.1)
        have d3 := cell_regrown ((HR7.out.cell HLT.out.2.1).trans HXB.out.2.2.2)
        have n0 := cell_regrown ((HR7.out.cell HLT.out.2.2).trans HN0.out)
        have n1 := cell_regrown ((HR7.out.cell HLT.out.2.2).trans HN1.out)
        have HB7 := Lib.hid (HW.out.trans (HR7.out.mono HW.out.size))
        clear HR7
        generalize grow (redrawn wr q) os = W7 at *
        go_wp2_with fail
        refine wp_region_quiet_below (by kernel_rfl) (by kernel_rfl) ?_
        repeat (first | go_big_quiet_step (fail) | quiet_step (fail))
        refine wpQuiet_nil ?_
        intro _ hwq2
        obtain ⟨⟨q2, os2⟩, hwq2⟩ := hwq2
        subst hwq2
        have HB8 := Lib.hid (HB7.out.trans ((below_regrown W7 q2 os2).mono HB7.out.size))
        clear c0 c1 c2 c3 d0 d1 d2 d3 n0 n1
        generalize grow (redrawn W7 q2) os2 = W8 at *
        go_wp2_with fail
        go_roundw
        case rel => exact ⟨k + 1, by omega, by go_num, HB8⟩
        case measure => simp [intOf]; omega
      | false =>
        have hne : nmE (recAt xs kk).name x.name = false := by
          rw [HY.out]
          cases hc : nmE y.name x.name with
          | false => rfl
          | true => have h := nm_on (x := false) (y := false) hnm; rw [nmE_symm hc] at h; cases h
        obtain ⟨e1, e2, e3⟩ := HR.out.e hne
        subst e1; subst e2; subst e3
        clear hne
        have c0 := cell_regrown HXA.out.1
        have c1 := cell_regrown HXA.out.2.1
        have c2 := cell_regrown HXA.out.2.2.1
        have c3 := cell_regrown HXA.out.2.2.2
        have d0 := cell_regrown HXB.out.1
        have d1 := cell_regrown HXB.out.2.1
        have d2 := cell_regrown HXB.out.2.2.1
        have d3 := cell_regrown HXB.out.2.2.2
        go_wp2_with fail
        refine wp_region_quiet_below (by kernel_rfl) (by kernel_rfl) ?_
        repeat (first | go_big_quiet_step (fail) | quiet_step (fail))
        refine wpQuiet_nil ?_
        intro _ hwq
        obtain ⟨⟨q, os⟩, hwq⟩ := hwq
        subst hwq
        have HR7 := Lib.hid (below_regrown wr q os)
        clear c0 c1 c2 c3 d0 d1 d2 d3
        have c0 := cell_regrown ((HR7.out.cell HLT.out.1).trans HXA.out.1)
        have c1 := cell_regrown ((HR7.out.cell HLT.out.1).trans HXA.out.2.1)
        have c2 := cell_regrown ((HR7.out.cell HLT.out.1).trans HXA.out.2.2.1)
        have c3 := cell_regrown ((HR7.out.cell HLT.out.1).trans HXA.out.2.2.2)
        have d0 := cell_regrown ((HR7.out.cell HLT.out.2.1).trans HXB.out.1)
        have d1 := cell_regrown ((HR7.out.cell HLT.out.2.1).trans HXB.out.2.1)
        have d2 := cell_regrown ((HR7.out.cell HLT.out.2.1).trans HXB.out.2.2.1)
        have d3 := cell_regrown ((HR7.out.cell HLT.out.2.1).trans HXB.out.2.2.2)
        have n0 := cell_regrown ((HR7.out.cell HLT.out.2.2).trans HN0.out)
        have n1 := cell_regrown ((HR7.out.cell HLT.out.2.2).trans HN1.out)
        have HB7 := Lib.hid (HW.out.trans (HR7.out.mono HW.out.size))
        clear HR7
        generalize grow (redrawn wr q) os = W7 at *
        go_wp2_with fail
        refine wp_region_quiet_below (by kernel_rfl) (by kernel_rfl) ?_
        repeat (first | go_big_quiet_step (fail) | quiet_step (fail))
        refine wpQuiet_nil ?_
        intro _ hwq2
        obtain ⟨⟨q2, os2⟩, hwq2⟩ := hwq2
        subst hwq2
        have HB8 := Lib.hid (HB7.out.trans ((below_regrown W7 q2 os2).mono HB7.out.size))
        clear c0 c1 c2 c3 d0 d1 d2 d3 n0 n1
        generalize grow (redrawn W7 q2) os2 = W8 at *
        go_wp2_with fail
        go_roundw
        case rel => exact ⟨k + 1, by omega, by go_num, HB8⟩
        case measure => simp [intOf]; omega
    · obtain rfl : k = xs.length := by omega
      go_wp2_with fail
      go_ret
      exact ⟨rfl, HBW.out⟩
end Go.Proofs.YtkmoaeckabjgnaaDoor.V
