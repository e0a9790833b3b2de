/-
  The walk of ranks.different: how many different ones are ahead, whatever the two functions.
-/
import Derived.Test.YtkmoaeckabjgnaaDoorKFun
import Derived.Test.YtkmoaeckabjgnaaDoorComp1
namespace Go.Proofs.YtkmoaeckabjgnaaDoor.V
set_option linter.unusedVariables false
set_option linter.unusedSimpArgs false
open Go Go.RowKit Go.Sort

def RNat : Rd Nat := fun _ _ vs x => vs = [.int .i64 (x : Int)]
theorem keepsNat : Keeps RNat := fun _ _ _ _ _ _ _ _ h => h
theorem intInfo : (Tryd.prog.info? 3).map (fun i => (i.zero, i.size, i.bytes)) = some (some (.int .i64 0), 1, 8) := by kernel_rfl
theorem nm_on {a b : ByteArray} {x y : Bool} (h : (a.toList == b.toList) = x) : nmE a b = x := by
  rw [Lib.toList_data, Lib.toList_data] at h
  exact h
theorem onP_eq {xs : List Rcd} {on : List Bool} {nm : ByteArray} {A : Rcd → Bool} {k : Nat} {x : Rcd} {b c : Bool} (hx : xs[k]? = some x) (hb : on[k]? = some b) (hn : (x.name.toList == nm.toList) = c) : onP xs on nm A k = (b && c && A x) := by
  have h1 : recAt xs k = x := by simp [recAt, List.getD, hx]
  unfold onP baseP
  rw [h1, nm_on (y := c) hn]
  simp [List.getD, hb]

set_option maxHeartbeats 8000000 in
set_option maxRecDepth 100000 in
theorem diffV_any (g h : Nat) (A : Rcd → Bool) (E : Rcd → Rcd → Bool) (vr vo : Value) (xs : List Rcd) (on : List Bool) (nm : ByteArray) (B : Nat) (w : World)
    (hx : IsRcds w (Lt B) vr xs) (ho : IsBools w (Lt B) vo on) (hB : B ≤ w.heap.size) (hl : on.length = xs.length) (hcap : xs.length ≤ 100000)
    (hA : ∀ (w' : World) (v : Value) (x : Rcd), Below w.heap.size w w' → IsRcd w' (Lt B) v x → Calls Tryd.prog 51 #[v, .pointer (some ⟨g, 0, none⟩)] w' fun e w'' => e = .returned (.bool (A x)) ∧ Below w'.heap.size w' w'')
    (hE : ∀ (w' : World) (v u : Value) (x y : Rcd), Below w.heap.size w w' → IsRcd w' (Lt B) v x → IsRcd w' (Lt B) u y → Calls Tryd.prog 56 #[v, u] w' fun e w'' => e = .returned (.bool (E x y)) ∧ Below w'.heap.size w' w'') :
    Calls Tryd.prog 55 #[vr, vo, .string nm, .func (.func 51) #[] #[.pointer (some ⟨g, 0, none⟩)], .func (.func 56) #[] #[]] w fun e w' => e = .returned (.int .i64 (diffL xs on nm A E)) ∧ Below w.heap.size w w' := by
  obtain ⟨i0, hi0, hz0, hz1, hz2⟩ := info_parts intInfo
  obtain ⟨XA, xc, rfl, hxl, hxc⟩ := hx.form
  obtain ⟨OA, oc, rfl, hol, hoc⟩ := ho.form
  rw [hl]
  have HX := Lib.hid hx
  have HO := Lib.hid ho
  have HL := Lib.hid hl
  have HFA := Lib.hid hA
  have HFE := Lib.hid hE
  obtain ⟨P, HP⟩ : ∃ P, Hid (onP xs on nm A = P) := ⟨_, Lib.hid rfl⟩
  obtain ⟨F, HF⟩ : ∃ F, Hid (eqP xs E = F) := ⟨_, Lib.hid rfl⟩
  have HRES : Hid (∀ n : Nat, n = (fnd P F xs.length).length → n = diffL xs on nm A E) := Lib.hid (fun n hn => by rw [hn, ← HP.out, ← HF.out]; rfl)
  clear hx ho hl hA hE
  go_enter Tryd.func55, Tryd.ntmps55
  go_wp2_with fail
  go_step3
  go_wp2_with fail
  go_step3
  go_wp2_with fail
  go_loopw [11, 18] (fun fv i wr => ∃ (k m : Nat) (FA : Option Addr) (fc : Nat) (cs : List Value), k ≤ xs.length ∧ m ≤ k ∧ i = .int .i64 k ∧ fv = .slice FA m fc ∧ Hid (m = (fnd P F k).length) ∧ Hid (OwnSl 1 3 RNat wr w.heap.size (.slice FA m fc) cs (fnd P F k)) ∧ Hid (Below w.heap.size w wr)) (fun _ i _ => xs.length - (intOf i).toNat)
  case atStart => exact ⟨0, 0, none, 0, [], Nat.zero_le _, Nat.zero_le _, rfl, rfl, Lib.hid rfl, Lib.hid (OwnSl.nil 1 3 RNat _ _), Lib.hid (Below.refl _ _)⟩
  case round =>
    obtain ⟨k, m, FA, fc, cs, hk, hmk, rfl, rfl, HM, HOW, HW⟩ := hrel
    obtain ⟨wb, hwb⟩ : ∃ wb : World, wb = wr := ⟨_, rfl⟩
    subst hwb
    have hBr : B ≤ wb.heap.size := by have := HW.out.size; omega
    have HSM := Lib.hid ((Same.of_below HW.out).mono hB)
    by_cases hlt : k < xs.length
    · obtain ⟨x, hx⟩ : ∃ x, xs[k]? = some x := ⟨_, List.getElem?_eq_getElem hlt⟩
      obtain ⟨ob, hob⟩ : ∃ ob, on[k]? = some ob := ⟨_, List.getElem?_eq_getElem (by rw [HL.out]; exact hlt)⟩
      obtain ⟨b, o, aA1, an1, ac1, aA2, an2, ac2, aA3, an3, ac3, aA4, an4, ac4, aA5, an5, ac5, rfl, hb, hrec, hrow⟩ := rcds_at HX.out hx
      obtain ⟨b2, o2, rfl, hb2, hcell⟩ := bools_at HO.out hob
      have hbr : b < wb.heap.size := by omega
      have hb2r : b2 < wb.heap.size := by omega
      have qb : wb.cell? ⟨b2, o2 + k, none⟩ = some (.bool ob) := (HSM.out _ hb2).trans hcell
      have q0 : wb.cell? ⟨b, o + k * 13, none⟩ = some (.string x.chan) := (HSM.out _ hb).trans (hrow 0 _ rfl)
      have q1 : wb.cell? ⟨b, o + k * 13 + 1, none⟩ = some (.string x.file) := (HSM.out _ hb).trans (hrow 1 _ rfl)
      have q2 : wb.cell? ⟨b, o + k * 13 + 2, none⟩ = some (.string x.name) := (HSM.out _ hb).trans (hrow 2 _ rfl)
      have q3 : wb.cell? ⟨b, o + k * 13 + 3, none⟩ = some (.string x.text) := (HSM.out _ hb).trans (hrow 3 _ rfl)
      have q4 : wb.cell? ⟨b, o + k * 13 + 4, none⟩ = some (.int .i64 x.ver.epoch) := (HSM.out _ hb).trans (hrow 4 _ rfl)
      have q5 : wb.cell? ⟨b, o + k * 13 + 5, none⟩ = some (.slice aA1 an1 ac1) := (HSM.out _ hb).trans (hrow 5 _ rfl)
      have q6 : wb.cell? ⟨b, o + k * 13 + 6, none⟩ = some (.slice aA2 an2 ac2) := (HSM.out _ hb).trans (hrow 6 _ rfl)
      have q7 : wb.cell? ⟨b, o + k * 13 + 7, none⟩ = some (.string x.build) := (HSM.out _ hb).trans (hrow 7 _ rfl)
      have q8 : wb.cell? ⟨b, o + k * 13 + 8, none⟩ = some (.int .i64 x.num) := (HSM.out _ hb).trans (hrow 8 _ rfl)
      have q9 : wb.cell? ⟨b, o + k * 13 + 9, none⟩ = some (.int .i64 x.time) := (HSM.out _ hb).trans (hrow 9 _ rfl)
      have q10 : wb.cell? ⟨b, o + k * 13 + 10, none⟩ = some (.slice aA3 an3 ac3) := (HSM.out _ hb).trans (hrow 10 _ rfl)
      have q11 : wb.cell? ⟨b, o + k * 13 + 11, none⟩ = some (.slice aA4 an4 ac4) := (HSM.out _ hb).trans (hrow 11 _ rfl)
      have q12 : wb.cell? ⟨b, o + k * 13 + 12, none⟩ = some (.slice aA5 an5 ac5) := (HSM.out _ hb).trans (hrow 12 _ rfl)
      have HBX := Lib.hid (news_alloc wb (.cells #[.string x.chan, .string x.file, .string x.name, .string x.text, .int .i64 x.ver.epoch, .slice aA1 an1 ac1, .slice aA2 an2 ac2, .string x.build, .int .i64 x.num, .int .i64 x.time, .slice aA3 an3 ac3, .slice aA4 an4 ac4, .slice aA5 an5 ac5] 37))
      have HREC : Hid (IsRcd w (Lt B) (.agg #[.string x.chan, .string x.file, .string x.name, .string x.text, .int .i64 x.ver.epoch, .slice aA1 an1 ac1, .slice aA2 an2 ac2, .string x.build, .int .i64 x.num, .int .i64 x.time, .slice aA3 an3 ac3, .slice aA4 an4 ac4, .slice aA5 an5 ac5]) x) := Lib.hid ⟨_, _, _, _, _, rfl, hrec⟩
      have HPX := Lib.hid (fun c (hn : (x.name.toList == nm.toList) = c) => onP_eq (xs := xs) (on := on) (nm := nm) (A := A) hx hob hn)
      have HXK := Lib.hid hx
      rw [HP.out] at HPX
      clear hx hob hrec hrow hcell
      cases ob with
      | false =>
        have HNX : Hid (fnd P F (k + 1) = fnd P F k) := Lib.hid (fnd_succ_off (by rw [HPX.out _ rfl]; rfl))
        go_wp2_with fail
        go_roundw
        case rel => exact ⟨k + 1, m, FA, fc, cs, by omega, by omega, by go_num, rfl, Lib.hid (by rw [HNX.out]; exact HM.out), Lib.hid (by rw [HNX.out]; exact HOW.out.grow keepsNat HBX.out), Lib.hid (HW.out.trans (HBX.out.mono HW.out.size))⟩
        case measure => simp [intOf]; omega
      | true =>
        cases hnm : (x.name.toList == nm.toList) with
        | false =>
          have HNX : Hid (fnd P F (k + 1) = fnd P F k) := Lib.hid (fnd_succ_off (by rw [HPX.out _ hnm]; rfl))
          go_wp2_with fail
          go_roundw
          case rel => exact ⟨k + 1, m, FA, fc, cs, by omega, by omega, by go_num, rfl, Lib.hid (by rw [HNX.out]; exact HM.out), Lib.hid (by rw [HNX.out]; exact HOW.out.grow keepsNat HBX.out), Lib.hid (HW.out.trans (HBX.out.mono HW.out.size))⟩
          case measure => simp [intOf]; omega
        | true =>
          go_wp2_with fail
          refine (HFA.out _ _ x (HW.out.trans (HBX.out.mono HW.out.size)) (HREC.out.keep (Nat.le_refl _) (HSM.out.trans ((Same.of_below HBX.out).mono hBr)))).mono ?_
          rintro e w2 ⟨rfl, hb2⟩
          have HB2 := Lib.hid (HBX.out.trans (hb2.mono HBX.out.size))
          have HBK := Lib.hid ((Blk.new wb 37 #[.string x.chan, .string x.file, .string x.name, .string x.text, .int .i64 x.ver.epoch, .slice aA1 an1 ac1, .slice aA2 an2 ac2, .string x.build, .int .i64 x.num, .int .i64 x.time, .slice aA3 an3 ac3, .slice aA4 an4 ac4, .slice aA5 an5 ac5]).belowSelf hb2)
          clear hb2 q0 q1 q2 q3 q4 q5 q6 q7 q8 q9 q10 q11 q12 qb
          cases hax : A x with
          | false =>
            have HNX : Hid (fnd P F (k + 1) = fnd P F k) := Lib.hid (fnd_succ_off (by rw [HPX.out _ hnm, hax]; rfl))
            go_wp2_with fail
            go_roundw
            case rel => exact ⟨k + 1, m, FA, fc, cs, by omega, by omega, by go_num, rfl, Lib.hid (by rw [HNX.out]; exact HM.out), Lib.hid (by rw [HNX.out]; exact HOW.out.grow keepsNat HB2.out), Lib.hid (HW.out.trans (HB2.out.mono HW.out.size))⟩
            case measure => simp [intOf]; omega
          | true =>
            have HPK : Hid (P k = true) := Lib.hid (by rw [HPX.out _ hnm, hax]; rfl)
            have HM2 : Hid (Below w.heap.size w w2) := Lib.hid (HW.out.trans (HB2.out.mono HW.out.size))
            have HOW2 := Lib.hid (HOW.out.grow keepsNat HB2.out)
            obtain ⟨wo, hwo⟩ : ∃ wo : World, wo = w2 := ⟨_, rfl⟩
            subst hwo
            go_wp2_with fail
            have HFS := Lib.hid (HOW2.out.slLt keepsNat)
            go_loopw [42] (fun i wr => ∃ j : Nat, j ≤ m ∧ i = .int .i64 j ∧ Hid (∀ j' f, j' < j → (fnd P F k)[j']? = some f → F f k = false) ∧ Hid (Below wo.heap.size wo wr)) (fun i _ => m - (intOf i).toNat)
            case atStart => exact ⟨0, Nat.zero_le _, rfl, Lib.hid (fun j' f h => by omega), Lib.hid (Below.refl _ _)⟩
            case round =>
              obtain ⟨j, hj, rfl, HNO, HW3⟩ := hrel
              have HB3 : Hid (Below w.heap.size w wr) := Lib.hid (HM2.out.trans (HW3.out.mono HM2.out.size))
              have HSMr : Hid (Same B w wr) := Lib.hid ((Same.of_below HB3.out).mono hB)
              by_cases hjl : j < m
              · obtain ⟨f, hf⟩ : ∃ f, (fnd P F k)[j]? = some f := ⟨_, List.getElem?_eq_getElem (by rw [← HM.out]; exact hjl)⟩
                have hfm := (fnd_mem (List.mem_of_getElem? hf)).1
                obtain ⟨y, hy⟩ : ∃ y, xs[f]? = some y := ⟨_, List.getElem?_eq_getElem (by omega)⟩
                obtain ⟨b3, o3, vs3, rfl, hb3, _, rfl, hrow3⟩ := HFS.out.at_ hf
                have g0 : wr.cell? ⟨b3, o3 + j, none⟩ = some (.int .i64 (f : Int)) := (HW3.out.cell hb3).trans (by simpa using hrow3 0 _ rfl)
                obtain ⟨b', o', cA1, cn1, cc1, cA2, cn2, cc2, cA3, cn3, cc3, cA4, cn4, cc4, cA5, cn5, cc5, hbe, hb', hrec', hrow'⟩ := rcds_at HX.out hy
                obtain ⟨rfl, rfl⟩ : b = b' ∧ o = o' := by injection hbe with h; injection h with h1 h2; exact ⟨h1, h2⟩
                have p0 := cell_regrown (w := wr) (a := ⟨b, o + f * 13, none⟩) ((HSMr.out _ hb).trans (hrow' 0 _ rfl))
                have p1 := cell_regrown (w := wr) (a := ⟨b, o + f * 13 + 1, none⟩) ((HSMr.out _ hb).trans (hrow' 1 _ rfl))
                have p2 := cell_regrown (w := wr) (a := ⟨b, o + f * 13 + 2, none⟩) ((HSMr.out _ hb).trans (hrow' 2 _ rfl))
                have p3 := cell_regrown (w := wr) (a := ⟨b, o + f * 13 + 3, none⟩) ((HSMr.out _ hb).trans (hrow' 3 _ rfl))
                have p4 := cell_regrown (w := wr) (a := ⟨b, o + f * 13 + 4, none⟩) ((HSMr.out _ hb).trans (hrow' 4 _ rfl))
                have p5 := cell_regrown (w := wr) (a := ⟨b, o + f * 13 + 5, none⟩) ((HSMr.out _ hb).trans (hrow' 5 _ rfl))
                have p6 := cell_regrown (w := wr) (a := ⟨b, o + f * 13 + 6, none⟩) ((HSMr.out _ hb).trans (hrow' 6 _ rfl))
                have p7 := cell_regrown (w := wr) (a := ⟨b, o + f * 13 + 7, none⟩) ((HSMr.out _ hb).trans (hrow' 7 _ rfl))
                have p8 := cell_regrown (w := wr) (a := ⟨b, o + f * 13 + 8, none⟩) ((HSMr.out _ hb).trans (hrow' 8 _ rfl))
                have p9 := cell_regrown (w := wr) (a := ⟨b, o + f * 13 + 9, none⟩) ((HSMr.out _ hb).trans (hrow' 9 _ rfl))
                have p10 := cell_regrown (w := wr) (a := ⟨b, o + f * 13 + 10, none⟩) ((HSMr.out _ hb).trans (hrow' 10 _ rfl))
                have p11 := cell_regrown (w := wr) (a := ⟨b, o + f * 13 + 11, none⟩) ((HSMr.out _ hb).trans (hrow' 11 _ rfl))
                have p12 := cell_regrown (w := wr) (a := ⟨b, o + f * 13 + 12, none⟩) ((HSMr.out _ hb).trans (hrow' 12 _ rfl))
                have HBKr := Lib.hid (HBK.out.belowSelf HW3.out)
                have s0 := cell_regrown (HBKr.out.cell 0)
                have s1 := cell_regrown (HBKr.out.cell 1)
                have s2 := cell_regrown (HBKr.out.cell 2)
                have s3 := cell_regrown (HBKr.out.cell 3)
                have s4 := cell_regrown (HBKr.out.cell 4)
                have s5 := cell_regrown (HBKr.out.cell 5)
                have s6 := cell_regrown (HBKr.out.cell 6)
                have s7 := cell_regrown (HBKr.out.cell 7)
                have s8 := cell_regrown (HBKr.out.cell 8)
                have s9 := cell_regrown (HBKr.out.cell 9)
                have s10 := cell_regrown (HBKr.out.cell 10)
                have s11 := cell_regrown (HBKr.out.cell 11)
                have s12 := cell_regrown (HBKr.out.cell 12)
                obtain ⟨ev, HEV⟩ : ∃ ev, Hid (E y x = ev) := ⟨_, Lib.hid rfl⟩
                have HEF : Hid (F f k = ev) := Lib.hid (by rw [← HF.out, ← HEV.out]; unfold eqP recAt; simp [List.getD, hy, HXK.out])
                have i1 : (0 : Int) ≤ (f : Int) := by omega
                have i2 : (f : Int) < (xs.length : Int) := by omega
                have CC : Hid (∀ d os, Calls Tryd.prog 56 #[.agg #[.string y.chan, .string y.file, .string y.name, .string y.text, .int .i64 y.ver.epoch, .slice cA1 cn1 cc1, .slice cA2 cn2 cc2, .string y.build, .int .i64 y.num, .int .i64 y.time, .slice cA3 cn3 cc3, .slice cA4 cn4 cc4, .slice cA5 cn5 cc5], .agg #[.string x.chan, .string x.file, .string x.name, .string x.text, .int .i64 x.ver.epoch, .slice aA1 an1 ac1, .slice aA2 an2 ac2, .string x.build, .int .i64 x.num, .int .i64 x.time, .slice aA3 an3 ac3, .slice aA4 an4 ac4, .slice aA5 an5 ac5]] (grow (redrawn wr d) os) fun e w'' => e = .returned (.bool ev) ∧ ∃ p : Regrown, w'' = grow (redrawn wr p.d) p.os) := Lib.hid (fun d os => by
                  have h1 := HB3.out.trans ((below_regrown wr d os).mono HB3.out.size)
                  have h2 := (Same.of_below h1).mono hB
                  have h3 := HFE.out _ _ _ y x h1 (IsRcd.keep ⟨_, _, _, _, _, rfl, hrec'⟩ (Nat.le_refl _) h2) (HREC.out.keep (Nat.le_refl _) h2)
                  rw [HEV.out] at h3
                  exact Calls.regrown_of h3)
                have HJF := Lib.hid hf
                clear hf hy hbe hrec' hrow' hrow3 hfm
                go_wp2_with fail
                refine wp_region_quiet_below (by kernel_rfl) (by kernel_rfl) ?_
                repeat (first | go_big_quiet_step ((go_at_call 56; exact CC.out _ _)) | quiet_step ((go_at_call 56; exact CC.out _ _)))
                refine wpQuiet_nil ?_
                intro _ hwq
                obtain ⟨⟨q, os⟩, hwq⟩ := hwq
                subst hwq
                have HB4 := Lib.hid (HW3.out.trans ((below_regrown wr q os).mono HW3.out.size))
                clear p0 p1 p2 p3 p4 p5 p6 p7 p8 p9 p10 p11 p12 s0 s1 s2 s3 s4 s5 s6 s7 s8 s9 s10 s11 s12 CC g0
                generalize grow (redrawn wr q) os = W1 at *
                cases ev with
                | true =>
                  have HNX : Hid (fnd P F (k + 1) = fnd P F k) := Lib.hid (fnd_succ_no (List.any_eq_true.2 ⟨f, List.mem_of_getElem? HJF.out, HEF.out⟩))
                  go_wp2_with fail
                  go_roundw
                  case rel => exact ⟨k + 1, m, _, fc, cs, by omega, by omega, by go_num, rfl, Lib.hid (by rw [HNX.out]; exact HM.out), Lib.hid (by rw [HNX.out]; exact HOW2.out.grow keepsNat HB4.out), Lib.hid (HM2.out.trans (HB4.out.mono HM2.out.size))⟩
                  case measure => simp [intOf]; omega
                | false =>
                  go_wp2_with fail
                  go_roundw
                  case rel => exact ⟨j + 1, by omega, by go_num, Lib.hid (fun j' f' h hf' => by
                    by_cases e : j' < j
                    · exact HNO.out j' f' e hf'
                    · obtain rfl : j' = j := by omega
                      rw [HJF.out] at hf'
                      obtain rfl : f = f' := Option.some.inj hf'
                      exact HEF.out), HB4⟩
                  case measure => simp [intOf]; omega
              · obtain rfl : j = m := by omega
                have HNX : Hid (fnd P F (k + 1) = fnd P F k ++ [k]) := Lib.hid (fnd_succ_yes HPK.out (by
                  rw [List.any_eq_false]
                  intro f hf
                  obtain ⟨i, hi, he⟩ := List.getElem_of_mem hf
                  rw [HNO.out i f (by rw [HM.out]; exact hi) (by rw [List.getElem?_eq_getElem hi, he])]
                  decide))
                have HOG := Lib.hid (HOW2.out.grow keepsNat HW3.out)
                have HOWm : Hid (wr.ownsRow w.heap.size 3 1 (.slice FA j fc) j cs) := Lib.hid (by have h := HOG.out.1; rw [← HM.out] at h; exact h)
                go_wp2_with (at_builtin; refine wpList_append_lies _ rfl _ _ 55 rfl w.heap.size 3 i0 (.int .i64 0) 1 8 Tryd.underlying55 hi0 hz0 hz1 hz2 rfl (by decide) (.slice FA j fc) j cs rfl (HOWm.out.alloc _) ⟨wr.heap.size, 0, none⟩ 1 1 [.int .i64 k] rfl rfl ?c1 ?c2 (by omega) ?c3 ?c4 ?c5 (wr.heap.size + 1) ?c6 ?_)
                case c1 => exact cell_news _ [.int .i64 (k : Int)] _ _ rfl
                case c2 => simp [Value.oneCell']
                case c3 => simp [maxLen]; omega
                case c4 => omega
                case c5 => have := HB3.out.size; simp; omega
                case c6 => simp
                intro g1 cap1 w3 hown3 hgrow3 hat3 hlt3
                have hbb : Below wr.heap.size wr (wr.alloc (.cells #[.int .i64 (k : Int)] 3)) := news_alloc _ _
                have HOW3 := Lib.hid (OwnSl.snoc keepsNat (HOG.out.grow keepsNat hbb) (vs := [.int .i64 (k : Int)]) (x := k) rfl rfl (by rw [← HM.out]; exact hown3) hgrow3 (hat_of hat3 (by simp)))
                have HBW3 := Lib.hid ((HB3.out.trans (hbb.mono HB3.out.size)).grown hgrow3 (by have := HB3.out.size; simp; omega) (fun i hi => (HOWm.out.lt i hi).1))
                clear hown3 hgrow3 hat3 hlt3 hbb
                go_wp2_with fail
                go_roundw
                case rel => exact ⟨k + 1, j + 1, _, _, _, by omega, by omega, by go_num, rfl, Lib.hid (by rw [HNX.out, List.length_append, ← HM.out]; rfl), Lib.hid (by rw [HNX.out]; exact HOW3.out), HBW3⟩
                case measure => simp [intOf]; omega
    · obtain rfl : k = xs.length := by omega
      go_wp2_with fail
      rw [Exit.noGoto_ret]
      go_ret
      exact ⟨ret_int (by rw [HRES.out m HM.out]), HW.out⟩
set_option maxHeartbeats 8000000 in
set_option maxRecDepth 100000 in
theorem diffN_any (g h : Nat) (A : Rcd → Bool) (E : Rcd → Rcd → Bool) (vr vo : Value) (xs : List Rcd) (on : List Bool) (nm : ByteArray) (B : Nat) (w : World)
    (hx : IsRcds w (Lt B) vr xs) (ho : IsBools w (Lt B) vo on) (hB : B ≤ w.heap.size) (hl : on.length = xs.length) (hcap : xs.length ≤ 100000)
    (hA : ∀ (w' : World) (v : Value) (x : Rcd), Below w.heap.size w w' → IsRcd w' (Lt B) v x → Calls Tryd.prog 52 #[v, .pointer (some ⟨g, 0, none⟩), .pointer (some ⟨h, 0, none⟩)] w' fun e w'' => e = .returned (.bool (A x)) ∧ Below w'.heap.size w' w'')
    (hE : ∀ (w' : World) (v u : Value) (x y : Rcd), Below w.heap.size w w' → IsRcd w' (Lt B) v x → IsRcd w' (Lt B) u y → Calls Tryd.prog 57 #[v, u] w' fun e w'' => e = .returned (.bool (E x y)) ∧ Below w'.heap.size w' w'') :
    Calls Tryd.prog 55 #[vr, vo, .string nm, .func (.func 52) #[] #[.pointer (some ⟨g, 0, none⟩), .pointer (some ⟨h, 0, none⟩)], .func (.func 57) #[] #[]] w fun e w' => e = .returned (.int .i64 (diffL xs on nm A E)) ∧ Below w.heap.size w w' := by
  obtain ⟨i0, hi0, hz0, hz1, hz2⟩ := info_parts intInfo
  obtain ⟨XA, xc, rfl, hxl, hxc⟩ := hx.form
  obtain ⟨OA, oc, rfl, hol, hoc⟩ := ho.form
  rw [hl]
  have HX := Lib.hid hx
  have HO := Lib.hid ho
  have HL := Lib.hid hl
  have HFA := Lib.hid hA
  have HFE := Lib.hid hE
  obtain ⟨P, HP⟩ : ∃ P, Hid (onP xs on nm A = P) := ⟨_, Lib.hid rfl⟩
  obtain ⟨F, HF⟩ : ∃ F, Hid (eqP xs E = F) := ⟨_, Lib.hid rfl⟩
  have HRES : Hid (∀ n : Nat, n = (fnd P F xs.length).length → n = diffL xs on nm A E) := Lib.hid (fun n hn => by rw [hn, ← HP.out, ← HF.out]; rfl)
  clear hx ho hl hA hE
  go_enter Tryd.func55, Tryd.ntmps55
  go_wp2_with fail
  go_step3
  go_wp2_with fail
  go_step3
  go_wp2_with fail
  go_loopw [11, 18] (fun fv i wr => ∃ (k m : Nat) (FA : Option Addr) (fc : Nat) (cs : List Value), k ≤ xs.length ∧ m ≤ k ∧ i = .int .i64 k ∧ fv = .slice FA m fc ∧ Hid (m = (fnd P F k).length) ∧ Hid (OwnSl 1 3 RNat wr w.heap.size (.slice FA m fc) cs (fnd P F k)) ∧ Hid (Below w.heap.size w wr)) (fun _ i _ => xs.length - (intOf i).toNat)
  case atStart => exact ⟨0, 0, none, 0, [], Nat.zero_le _, Nat.zero_le _, rfl, rfl, Lib.hid rfl, Lib.hid (OwnSl.nil 1 3 RNat _ _), Lib.hid (Below.refl _ _)⟩
  case round =>
    obtain ⟨k, m, FA, fc, cs, hk, hmk, rfl, rfl, HM, HOW, HW⟩ := hrel
    obtain ⟨wb, hwb⟩ : ∃ wb : World, wb = wr := ⟨_, rfl⟩
    subst hwb
    have hBr : B ≤ wb.heap.size := by have := HW.out.size; omega
    have HSM := Lib.hid ((Same.of_below HW.out).mono hB)
    by_cases hlt : k < xs.length
    · obtain ⟨x, hx⟩ : ∃ x, xs[k]? = some x := ⟨_, List.getElem?_eq_getElem hlt⟩
      obtain ⟨ob, hob⟩ : ∃ ob, on[k]? = some ob := ⟨_, List.getElem?_eq_getElem (by rw [HL.out]; exact hlt)⟩
      obtain ⟨b, o, aA1, an1, ac1, aA2, an2, ac2, aA3, an3, ac3, aA4, an4, ac4, aA5, an5, ac5, rfl, hb, hrec, hrow⟩ := rcds_at HX.out hx
      obtain ⟨b2, o2, rfl, hb2, hcell⟩ := bools_at HO.out hob
      have hbr : b < wb.heap.size := by omega
      have hb2r : b2 < wb.heap.size := by omega
      have qb : wb.cell? ⟨b2, o2 + k, none⟩ = some (.bool ob) := (HSM.out _ hb2).trans hcell
      have q0 : wb.cell? ⟨b, o + k * 13, none⟩ = some (.string x.chan) := (HSM.out _ hb).trans (hrow 0 _ rfl)
      have q1 : wb.cell? ⟨b, o + k * 13 + 1, none⟩ = some (.string x.file) := (HSM.out _ hb).trans (hrow 1 _ rfl)
      have q2 : wb.cell? ⟨b, o + k * 13 + 2, none⟩ = some (.string x.name) := (HSM.out _ hb).trans (hrow 2 _ rfl)
      have q3 : wb.cell? ⟨b, o + k * 13 + 3, none⟩ = some (.string x.text) := (HSM.out _ hb).trans (hrow 3 _ rfl)
      have q4 : wb.cell? ⟨b, o + k * 13 + 4, none⟩ = some (.int .i64 x.ver.epoch) := (HSM.out _ hb).trans (hrow 4 _ rfl)
      have q5 : wb.cell? ⟨b, o + k * 13 + 5, none⟩ = some (.slice aA1 an1 ac1) := (HSM.out _ hb).trans (hrow 5 _ rfl)
      have q6 : wb.cell? ⟨b, o + k * 13 + 6, none⟩ = some (.slice aA2 an2 ac2) := (HSM.out _ hb).trans (hrow 6 _ rfl)
      have q7 : wb.cell? ⟨b, o + k * 13 + 7, none⟩ = some (.string x.build) := (HSM.out _ hb).trans (hrow 7 _ rfl)
      have q8 : wb.cell? ⟨b, o + k * 13 + 8, none⟩ = some (.int .i64 x.num) := (HSM.out _ hb).trans (hrow 8 _ rfl)
      have q9 : wb.cell? ⟨b, o + k * 13 + 9, none⟩ = some (.int .i64 x.time) := (HSM.out _ hb).trans (hrow 9 _ rfl)
      have q10 : wb.cell? ⟨b, o + k * 13 + 10, none⟩ = some (.slice aA3 an3 ac3) := (HSM.out _ hb).trans (hrow 10 _ rfl)
      have q11 : wb.cell? ⟨b, o + k * 13 + 11, none⟩ = some (.slice aA4 an4 ac4) := (HSM.out _ hb).trans (hrow 11 _ rfl)
      have q12 : wb.cell? ⟨b, o + k * 13 + 12, none⟩ = some (.slice aA5 an5 ac5) := (HSM.out _ hb).trans (hrow 12 _ rfl)
      have HBX := Lib.hid (news_alloc wb (.cells #[.string x.chan, .string x.file, .string x.name, .string x.text, .int .i64 x.ver.epoch, .slice aA1 an1 ac1, .slice aA2 an2 ac2, .string x.build, .int .i64 x.num, .int .i64 x.time, .slice aA3 an3 ac3, .slice aA4 an4 ac4, .slice aA5 an5 ac5] 37))
      have HREC : Hid (IsRcd w (Lt B) (.agg #[.string x.chan, .string x.file, .string x.name, .string x.text, .int .i64 x.ver.epoch, .slice aA1 an1 ac1, .slice aA2 an2 ac2, .string x.build, .int .i64 x.num, .int .i64 x.time, .slice aA3 an3 ac3, .slice aA4 an4 ac4, .slice aA5 an5 ac5]) x) := Lib.hid ⟨_, _, _, _, _, rfl, hrec⟩
      have HPX := Lib.hid (fun c (hn : (x.name.toList == nm.toList) = c) => onP_eq (xs := xs) (on := on) (nm := nm) (A := A) hx hob hn)
      have HXK := Lib.hid hx
      rw [HP.out] at HPX
      clear hx hob hrec hrow hcell
      cases ob with
      | false =>
        have HNX : Hid (fnd P F (k + 1) = fnd P F k) := Lib.hid (fnd_succ_off (by rw [HPX.out _ rfl]; rfl))
        go_wp2_with fail
        go_roundw
        case rel => exact ⟨k + 1, m, FA, fc, cs, by omega, by omega, by go_num, rfl, Lib.hid (by rw [HNX.out]; exact HM.out), Lib.hid (by rw [HNX.out]; exact HOW.out.grow keepsNat HBX.out), Lib.hid (HW.out.trans (HBX.out.mono HW.out.size))⟩
        case measure => simp [intOf]; omega
      | true =>
        cases hnm : (x.name.toList == nm.toList) with
        | false =>
          have HNX : Hid (fnd P F (k + 1) = fnd P F k) := Lib.hid (fnd_succ_off (by rw [HPX.out _ hnm]; rfl))
          go_wp2_with fail
          go_roundw
          case rel => exact ⟨k + 1, m, FA, fc, cs, by omega, by omega, by go_num, rfl, Lib.hid (by rw [HNX.out]; exact HM.out), Lib.hid (by rw [HNX.out]; exact HOW.out.grow keepsNat HBX.out), Lib.hid (HW.out.trans (HBX.out.mono HW.out.size))⟩
          case measure => simp [intOf]; omega
        | true =>
          go_wp2_with fail
          refine (HFA.out _ _ x (HW.out.trans (HBX.out.mono HW.out.size)) (HREC.out.keep (Nat.le_refl _) (HSM.out.trans ((Same.of_below HBX.out).mono hBr)))).mono ?_
          rintro e w2 ⟨rfl, hb2⟩
          have HB2 := Lib.hid (HBX.out.trans (hb2.mono HBX.out.size))
          have HBK := Lib.hid ((Blk.new wb 37 #[.string x.chan, .string x.file, .string x.name, .string x.text, .int .i64 x.ver.epoch, .slice aA1 an1 ac1, .slice aA2 an2 ac2, .string x.build, .int .i64 x.num, .int .i64 x.time, .slice aA3 an3 ac3, .slice aA4 an4 ac4, .slice aA5 an5 ac5]).belowSelf hb2)
          clear hb2 q0 q1 q2 q3 q4 q5 q6 q7 q8 q9 q10 q11 q12 qb
          cases hax : A x with
          | false =>
            have HNX : Hid (fnd P F (k + 1) = fnd P F k) := Lib.hid (fnd_succ_off (by rw [HPX.out _ hnm, hax]; rfl))
            go_wp2_with fail
            go_roundw
            case rel => exact ⟨k + 1, m, FA, fc, cs, by omega, by omega, by go_num, rfl, Lib.hid (by rw [HNX.out]; exact HM.out), Lib.hid (by rw [HNX.out]; exact HOW.out.grow keepsNat HB2.out), Lib.hid (HW.out.trans (HB2.out.mono HW.out.size))⟩
            case measure => simp [intOf]; omega
          | true =>
            have HPK : Hid (P k = true) := Lib.hid (by rw [HPX.out _ hnm, hax]; rfl)
            have HM2 : Hid (Below w.heap.size w w2) := Lib.hid (HW.out.trans (HB2.out.mono HW.out.size))
            have HOW2 := Lib.hid (HOW.out.grow keepsNat HB2.out)
            obtain ⟨wo, hwo⟩ : ∃ wo : World, wo = w2 := ⟨_, rfl⟩
            subst hwo
            go_wp2_with fail
            have HFS := Lib.hid (HOW2.out.slLt keepsNat)
            go_loopw [42] (fun i wr => ∃ j : Nat, j ≤ m ∧ i = .int .i64 j ∧ Hid (∀ j' f, j' < j → (fnd P F k)[j']? = some f → F f k = false) ∧ Hid (Below wo.heap.size wo wr)) (fun i _ => m - (intOf i).toNat)
            case atStart => exact ⟨0, Nat.zero_le _, rfl, Lib.hid (fun j' f h => by omega), Lib.hid (Below.refl _ _)⟩
            case round =>
              obtain ⟨j, hj, rfl, HNO, HW3⟩ := hrel
              have HB3 : Hid (Below w.heap.size w wr) := Lib.hid (HM2.out.trans (HW3.out.mono HM2.out.size))
              have HSMr : Hid (Same B w wr) := Lib.hid ((Same.of_below HB3.out).mono hB)
              by_cases hjl : j < m
              · obtain ⟨f, hf⟩ : ∃ f, (fnd P F k)[j]? = some f := ⟨_, List.getElem?_eq_getElem (by rw [← HM.out]; exact hjl)⟩
                have hfm := (fnd_mem (List.mem_of_getElem? hf)).1
                obtain ⟨y, hy⟩ : ∃ y, xs[f]? = some y := ⟨_, List.getElem?_eq_getElem (by omega)⟩
                obtain ⟨b3, o3, vs3, rfl, hb3, _, rfl, hrow3⟩ := HFS.out.at_ hf
                have g0 : wr.cell? ⟨b3, o3 + j, none⟩ = some (.int .i64 (f : Int)) := (HW3.out.cell hb3).trans (by simpa using hrow3 0 _ rfl)
                obtain ⟨b', o', cA1, cn1, cc1, cA2, cn2, cc2, cA3, cn3, cc3, cA4, cn4, cc4, cA5, cn5, cc5, hbe, hb', hrec', hrow'⟩ := rcds_at HX.out hy
                obtain ⟨rfl, rfl⟩ : b = b' ∧ o = o' := by injection hbe with h; injection h with h1 h2; exact ⟨h1, h2⟩
                have p0 := cell_regrown (w := wr) (a := ⟨b, o + f * 13, none⟩) ((HSMr.out _ hb).trans (hrow' 0 _ rfl))
                have p1 := cell_regrown (w := wr) (a := ⟨b, o + f * 13 + 1, none⟩) ((HSMr.out _ hb).trans (hrow' 1 _ rfl))
                have p2 := cell_regrown (w := wr) (a := ⟨b, o + f * 13 + 2, none⟩) ((HSMr.out _ hb).trans (hrow' 2 _ rfl))
                have p3 := cell_regrown (w := wr) (a := ⟨b, o + f * 13 + 3, none⟩) ((HSMr.out _ hb).trans (hrow' 3 _ rfl))
                have p4 := cell_regrown (w := wr) (a := ⟨b, o + f * 13 + 4, none⟩) ((HSMr.out _ hb).trans (hrow' 4 _ rfl))
                have p5 := cell_regrown (w := wr) (a := ⟨b, o + f * 13 + 5, none⟩) ((HSMr.out _ hb).trans (hrow' 5 _ rfl))
                have p6 := cell_regrown (w := wr) (a := ⟨b, o + f * 13 + 6, none⟩) ((HSMr.out _ hb).trans (hrow' 6 _ rfl))
                have p7 := cell_regrown (w := wr) (a := ⟨b, o + f * 13 + 7, none⟩) ((HSMr.out _ hb).trans (hrow' 7 _ rfl))
                have p8 := cell_regrown (w := wr) (a := ⟨b, o + f * 13 + 8, none⟩) ((HSMr.out _ hb).trans (hrow' 8 _ rfl))
                have p9 := cell_regrown (w := wr) (a := ⟨b, o + f * 13 + 9, none⟩) ((HSMr.out _ hb).trans (hrow' 9 _ rfl))
                have p10 := cell_regrown (w := wr) (a := ⟨b, o + f * 13 + 10, none⟩) ((HSMr.out _ hb).trans (hrow' 10 _ rfl))
                have p11 := cell_regrown (w := wr) (a := ⟨b, o + f * 13 + 11, none⟩) ((HSMr.out _ hb).trans (hrow' 11 _ rfl))
                have p12 := cell_regrown (w := wr) (a := ⟨b, o + f * 13 + 12, none⟩) ((HSMr.out _ hb).trans (hrow' 12 _ rfl))
                have HBKr := Lib.hid (HBK.out.belowSelf HW3.out)
                have s0 := cell_regrown (HBKr.out.cell 0)
                have s1 := cell_regrown (HBKr.out.cell 1)
                have s2 := cell_regrown (HBKr.out.cell 2)
                have s3 := cell_regrown (HBKr.out.cell 3)
                have s4 := cell_regrown (HBKr.out.cell 4)
                have s5 := cell_regrown (HBKr.out.cell 5)
                have s6 := cell_regrown (HBKr.out.cell 6)
                have s7 := cell_regrown (HBKr.out.cell 7)
                have s8 := cell_regrown (HBKr.out.cell 8)
                have s9 := cell_regrown (HBKr.out.cell 9)
                have s10 := cell_regrown (HBKr.out.cell 10)
                have s11 := cell_regrown (HBKr.out.cell 11)
                have s12 := cell_regrown (HBKr.out.cell 12)
                obtain ⟨ev, HEV⟩ : ∃ ev, Hid (E y x = ev) := ⟨_, Lib.hid rfl⟩
                have HEF : Hid (F f k = ev) := Lib.hid (by rw [← HF.out, ← HEV.out]; unfold eqP recAt; simp [List.getD, hy, HXK.out])
                have i1 : (0 : Int) ≤ (f : Int) := by omega
                have i2 : (f : Int) < (xs.length : Int) := by omega
                have CC : Hid (∀ d os, Calls Tryd.prog 57 #[.agg #[.string y.chan, .string y.file, .string y.name, .string y.text, .int .i64 y.ver.epoch, .slice cA1 cn1 cc1, .slice cA2 cn2 cc2, .string y.build, .int .i64 y.num, .int .i64 y.time, .slice cA3 cn3 cc3, .slice cA4 cn4 cc4, .slice cA5 cn5 cc5], .agg #[.string x.chan, .string x.file, .string x.name, .string x.text, .int .i64 x.ver.epoch, .slice aA1 an1 ac1, .slice aA2 an2 ac2, .string x.build, .int .i64 x.num, .int .i64 x.time, .slice aA3 an3 ac3, .slice aA4 an4 ac4, .slice aA5 an5 ac5]] (grow (redrawn wr d) os) fun e w'' => e = .returned (.bool ev) ∧ ∃ p : Regrown, w'' = grow (redrawn wr p.d) p.os) := Lib.hid (fun d os => by
                  have h1 := HB3.out.trans ((below_regrown wr d os).mono HB3.out.size)
                  have h2 := (Same.of_below h1).mono hB
                  have h3 := HFE.out _ _ _ y x h1 (IsRcd.keep ⟨_, _, _, _, _, rfl, hrec'⟩ (Nat.le_refl _) h2) (HREC.out.keep (Nat.le_refl _) h2)
                  rw [HEV.out] at h3
                  exact Calls.regrown_of h3)
                have HJF := Lib.hid hf
                clear hf hy hbe hrec' hrow' hrow3 hfm
                go_wp2_with fail
                refine wp_region_quiet_below (by kernel_rfl) (by kernel_rfl) ?_
                repeat (first | go_big_quiet_step ((go_at_call 57; exact CC.out _ _)) | quiet_step ((go_at_call 57; exact CC.out _ _)))
                refine wpQuiet_nil ?_
                intro _ hwq
                obtain ⟨⟨q, os⟩, hwq⟩ := hwq
                subst hwq
                have HB4 := Lib.hid (HW3.out.trans ((below_regrown wr q os).mono HW3.out.size))
                clear p0 p1 p2 p3 p4 p5 p6 p7 p8 p9 p10 p11 p12 s0 s1 s2 s3 s4 s5 s6 s7 s8 s9 s10 s11 s12 CC g0
                generalize grow (redrawn wr q) os = W1 at *
                cases ev with
                | true =>
                  have HNX : Hid (fnd P F (k + 1) = fnd P F k) := Lib.hid (fnd_succ_no (List.any_eq_true.2 ⟨f, List.mem_of_getElem? HJF.out, HEF.out⟩))
                  go_wp2_with fail
                  go_roundw
                  case rel => exact ⟨k + 1, m, _, fc, cs, by omega, by omega, by go_num, rfl, Lib.hid (by rw [HNX.out]; exact HM.out), Lib.hid (by rw [HNX.out]; exact HOW2.out.grow keepsNat HB4.out), Lib.hid (HM2.out.trans (HB4.out.mono HM2.out.size))⟩
                  case measure => simp [intOf]; omega
                | false =>
                  go_wp2_with fail
                  go_roundw
                  case rel => exact ⟨j + 1, by omega, by go_num, Lib.hid (fun j' f' h hf' => by
                    by_cases e : j' < j
                    · exact HNO.out j' f' e hf'
                    · obtain rfl : j' = j := by omega
                      rw [HJF.out] at hf'
                      obtain rfl : f = f' := Option.some.inj hf'
                      exact HEF.out), HB4⟩
                  case measure => simp [intOf]; omega
              · obtain rfl : j = m := by omega
                have HNX : Hid (fnd P F (k + 1) = fnd P F k ++ [k]) := Lib.hid (fnd_succ_yes HPK.out (by
                  rw [List.any_eq_false]
                  intro f hf
                  obtain ⟨i, hi, he⟩ := List.getElem_of_mem hf
                  rw [HNO.out i f (by rw [HM.out]; exact hi) (by rw [List.getElem?_eq_getElem hi, he])]
                  decide))
                have HOG := Lib.hid (HOW2.out.grow keepsNat HW3.out)
                have HOWm : Hid (wr.ownsRow w.heap.size 3 1 (.slice FA j fc) j cs) := Lib.hid (by have h := HOG.out.1; rw [← HM.out] at h; exact h)
                go_wp2_with (at_builtin; refine wpList_append_lies _ rfl _ _ 55 rfl w.heap.size 3 i0 (.int .i64 0) 1 8 Tryd.underlying55 hi0 hz0 hz1 hz2 rfl (by decide) (.slice FA j fc) j cs rfl (HOWm.out.alloc _) ⟨wr.heap.size, 0, none⟩ 1 1 [.int .i64 k] rfl rfl ?c1 ?c2 (by omega) ?c3 ?c4 ?c5 (wr.heap.size + 1) ?c6 ?_)
                case c1 => exact cell_news _ [.int .i64 (k : Int)] _ _ rfl
                case c2 => simp [Value.oneCell']
                case c3 => simp [maxLen]; omega
                case c4 => omega
                case c5 => have := HB3.out.size; simp; omega
                case c6 => simp
                intro g1 cap1 w3 hown3 hgrow3 hat3 hlt3
                have hbb : Below wr.heap.size wr (wr.alloc (.cells #[.int .i64 (k : Int)] 3)) := news_alloc _ _
                have HOW3 := Lib.hid (OwnSl.snoc keepsNat (HOG.out.grow keepsNat hbb) (vs := [.int .i64 (k : Int)]) (x := k) rfl rfl (by rw [← HM.out]; exact hown3) hgrow3 (hat_of hat3 (by simp)))
                have HBW3 := Lib.hid ((HB3.out.trans (hbb.mono HB3.out.size)).grown hgrow3 (by have := HB3.out.size; simp; omega) (fun i hi => (HOWm.out.lt i hi).1))
                clear hown3 hgrow3 hat3 hlt3 hbb
                go_wp2_with fail
                go_roundw
                case rel => exact ⟨k + 1, j + 1, _, _, _, by omega, by omega, by go_num, rfl, Lib.hid (by rw [HNX.out, List.length_append, ← HM.out]; rfl), Lib.hid (by rw [HNX.out]; exact HOW3.out), HBW3⟩
                case measure => simp [intOf]; omega
    · obtain rfl : k = xs.length := by omega
      go_wp2_with fail
      rw [Exit.noGoto_ret]
      go_ret
      exact ⟨ret_int (by rw [HRES.out m HM.out]), HW.out⟩
set_option maxHeartbeats 8000000 in
set_option maxRecDepth 100000 in
theorem diffT_any (g h : Nat) (A : Rcd → Bool) (E : Rcd → Rcd → Bool) (vr vo : Value) (xs : List Rcd) (on : List Bool) (nm : ByteArray) (B : Nat) (w : World)
    (hx : IsRcds w (Lt B) vr xs) (ho : IsBools w (Lt B) vo on) (hB : B ≤ w.heap.size) (hl : on.length = xs.length) (hcap : xs.length ≤ 100000)
    (hA : ∀ (w' : World) (v : Value) (x : Rcd), Below w.heap.size w w' → IsRcd w' (Lt B) v x → Calls Tryd.prog 53 #[v, .pointer (some ⟨g, 0, none⟩), .pointer (some ⟨h, 0, none⟩)] w' fun e w'' => e = .returned (.bool (A x)) ∧ Below w'.heap.size w' w'')
    (hE : ∀ (w' : World) (v u : Value) (x y : Rcd), Below w.heap.size w w' → IsRcd w' (Lt B) v x → IsRcd w' (Lt B) u y → Calls Tryd.prog 58 #[v, u] w' fun e w'' => e = .returned (.bool (E x y)) ∧ Below w'.heap.size w' w'') :
    Calls Tryd.prog 55 #[vr, vo, .string nm, .func (.func 53) #[] #[.pointer (some ⟨g, 0, none⟩), .pointer (some ⟨h, 0, none⟩)], .func (.func 58) #[] #[]] w fun e w' => e = .returned (.int .i64 (diffL xs on nm A E)) ∧ Below w.heap.size w w' := by
  obtain ⟨i0, hi0, hz0, hz1, hz2⟩ := info_parts intInfo
  obtain ⟨XA, xc, rfl, hxl, hxc⟩ := hx.form
  obtain ⟨OA, oc, rfl, hol, hoc⟩ := ho.form
  rw [hl]
  have HX := Lib.hid hx
  have HO := Lib.hid ho
  have HL := Lib.hid hl
  have HFA := Lib.hid hA
  have HFE := Lib.hid hE
  obtain ⟨P, HP⟩ : ∃ P, Hid (onP xs on nm A = P) := ⟨_, Lib.hid rfl⟩
  obtain ⟨F, HF⟩ : ∃ F, Hid (eqP xs E = F) := ⟨_, Lib.hid rfl⟩
  have HRES : Hid (∀ n : Nat, n = (fnd P F xs.length).length → n = diffL xs on nm A E) := Lib.hid (fun n hn => by rw [hn, ← HP.out, ← HF.out]; rfl)
  clear hx ho hl hA hE
  go_enter Tryd.func55, Tryd.ntmps55
  go_wp2_with fail
  go_step3
  go_wp2_with fail
  go_step3
  go_wp2_with fail
  go_loopw [11, 18] (fun fv i wr => ∃ (k m : Nat) (FA : Option Addr) (fc : Nat) (cs : List Value), k ≤ xs.length ∧ m ≤ k ∧ i = .int .i64 k ∧ fv = .slice FA m fc ∧ Hid (m = (fnd P F k).length) ∧ Hid (OwnSl 1 3 RNat wr w.heap.size (.slice FA m fc) cs (fnd P F k)) ∧ Hid (Below w.heap.size w wr)) (fun _ i _ => xs.length - (intOf i).toNat)
  case atStart => exact ⟨0, 0, none, 0, [], Nat.zero_le _, Nat.zero_le _, rfl, rfl, Lib.hid rfl, Lib.hid (OwnSl.nil 1 3 RNat _ _), Lib.hid (Below.refl _ _)⟩
  case round =>
    obtain ⟨k, m, FA, fc, cs, hk, hmk, rfl, rfl, HM, HOW, HW⟩ := hrel
    obtain ⟨wb, hwb⟩ : ∃ wb : World, wb = wr := ⟨_, rfl⟩
    subst hwb
    have hBr : B ≤ wb.heap.size := by have := HW.out.size; omega
    have HSM := Lib.hid ((Same.of_below HW.out).mono hB)
    by_cases hlt : k < xs.length
    · obtain ⟨x, hx⟩ : ∃ x, xs[k]? = some x := ⟨_, List.getElem?_eq_getElem hlt⟩
      obtain ⟨ob, hob⟩ : ∃ ob, on[k]? = some ob := ⟨_, List.getElem?_eq_getElem (by rw [HL.out]; exact hlt)⟩
      obtain ⟨b, o, aA1, an1, ac1, aA2, an2, ac2, aA3, an3, ac3, aA4, an4, ac4, aA5, an5, ac5, rfl, hb, hrec, hrow⟩ := rcds_at HX.out hx
      obtain ⟨b2, o2, rfl, hb2, hcell⟩ := bools_at HO.out hob
      have hbr : b < wb.heap.size := by omega
      have hb2r : b2 < wb.heap.size := by omega
      have qb : wb.cell? ⟨b2, o2 + k, none⟩ = some (.bool ob) := (HSM.out _ hb2).trans hcell
      have q0 : wb.cell? ⟨b, o + k * 13, none⟩ = some (.string x.chan) := (HSM.out _ hb).trans (hrow 0 _ rfl)
      have q1 : wb.cell? ⟨b, o + k * 13 + 1, none⟩ = some (.string x.file) := (HSM.out _ hb).trans (hrow 1 _ rfl)
      have q2 : wb.cell? ⟨b, o + k * 13 + 2, none⟩ = some (.string x.name) := (HSM.out _ hb).trans (hrow 2 _ rfl)
      have q3 : wb.cell? ⟨b, o + k * 13 + 3, none⟩ = some (.string x.text) := (HSM.out _ hb).trans (hrow 3 _ rfl)
      have q4 : wb.cell? ⟨b, o + k * 13 + 4, none⟩ = some (.int .i64 x.ver.epoch) := (HSM.out _ hb).trans (hrow 4 _ rfl)
      have q5 : wb.cell? ⟨b, o + k * 13 + 5, none⟩ = some (.slice aA1 an1 ac1) := (HSM.out _ hb).trans (hrow 5 _ rfl)
      have q6 : wb.cell? ⟨b, o + k * 13 + 6, none⟩ = some (.slice aA2 an2 ac2) := (HSM.out _ hb).trans (hrow 6 _ rfl)
      have q7 : wb.cell? ⟨b, o + k * 13 + 7, none⟩ = some (.string x.build) := (HSM.out _ hb).trans (hrow 7 _ rfl)
      have q8 : wb.cell? ⟨b, o + k * 13 + 8, none⟩ = some (.int .i64 x.num) := (HSM.out _ hb).trans (hrow 8 _ rfl)
      have q9 : wb.cell? ⟨b, o + k * 13 + 9, none⟩ = some (.int .i64 x.time) := (HSM.out _ hb).trans (hrow 9 _ rfl)
      have q10 : wb.cell? ⟨b, o + k * 13 + 10, none⟩ = some (.slice aA3 an3 ac3) := (HSM.out _ hb).trans (hrow 10 _ rfl)
      have q11 : wb.cell? ⟨b, o + k * 13 + 11, none⟩ = some (.slice aA4 an4 ac4) := (HSM.out _ hb).trans (hrow 11 _ rfl)
      have q12 : wb.cell? ⟨b, o + k * 13 + 12, none⟩ = some (.slice aA5 an5 ac5) := (HSM.out _ hb).trans (hrow 12 _ rfl)
      have HBX := Lib.hid (news_alloc wb (.cells #[.string x.chan, .string x.file, .string x.name, .string x.text, .int .i64 x.ver.epoch, .slice aA1 an1 ac1, .slice aA2 an2 ac2, .string x.build, .int .i64 x.num, .int .i64 x.time, .slice aA3 an3 ac3, .slice aA4 an4 ac4, .slice aA5 an5 ac5] 37))
      have HREC : Hid (IsRcd w (Lt B) (.agg #[.string x.chan, .string x.file, .string x.name, .string x.text, .int .i64 x.ver.epoch, .slice aA1 an1 ac1, .slice aA2 an2 ac2, .string x.build, .int .i64 x.num, .int .i64 x.time, .slice aA3 an3 ac3, .slice aA4 an4 ac4, .slice aA5 an5 ac5]) x) := Lib.hid ⟨_, _, _, _, _, rfl, hrec⟩
      have HPX := Lib.hid (fun c (hn : (x.name.toList == nm.toList) = c) => onP_eq (xs := xs) (on := on) (nm := nm) (A := A) hx hob hn)
      have HXK := Lib.hid hx
      rw [HP.out] at HPX
      clear hx hob hrec hrow hcell
      cases ob with
      | false =>
        have HNX : Hid (fnd P F (k + 1) = fnd P F k) := Lib.hid (fnd_succ_off (by rw [HPX.out _ rfl]; rfl))
        go_wp2_with fail
        go_roundw
        case rel => exact ⟨k + 1, m, FA, fc, cs, by omega, by omega, by go_num, rfl, Lib.hid (by rw [HNX.out]; exact HM.out), Lib.hid (by rw [HNX.out]; exact HOW.out.grow keepsNat HBX.out), Lib.hid (HW.out.trans (HBX.out.mono HW.out.size))⟩
        case measure => simp [intOf]; omega
      | true =>
        cases hnm : (x.name.toList == nm.toList) with
        | false =>
          have HNX : Hid (fnd P F (k + 1) = fnd P F k) := Lib.hid (fnd_succ_off (by rw [HPX.out _ hnm]; rfl))
          go_wp2_with fail
          go_roundw
          case rel => exact ⟨k + 1, m, FA, fc, cs, by omega, by omega, by go_num, rfl, Lib.hid (by rw [HNX.out]; exact HM.out), Lib.hid (by rw [HNX.out]; exact HOW.out.grow keepsNat HBX.out), Lib.hid (HW.out.trans (HBX.out.mono HW.out.size))⟩
          case measure => simp [intOf]; omega
        | true =>
          go_wp2_with fail
          refine (HFA.out _ _ x (HW.out.trans (HBX.out.mono HW.out.size)) (HREC.out.keep (Nat.le_refl _) (HSM.out.trans ((Same.of_below HBX.out).mono hBr)))).mono ?_
          rintro e w2 ⟨rfl, hb2⟩
          have HB2 := Lib.hid (HBX.out.trans (hb2.mono HBX.out.size))
          have HBK := Lib.hid ((Blk.new wb 37 #[.string x.chan, .string x.file, .string x.name, .string x.text, .int .i64 x.ver.epoch, .slice aA1 an1 ac1, .slice aA2 an2 ac2, .string x.build, .int .i64 x.num, .int .i64 x.time, .slice aA3 an3 ac3, .slice aA4 an4 ac4, .slice aA5 an5 ac5]).belowSelf hb2)
          clear hb2 q0 q1 q2 q3 q4 q5 q6 q7 q8 q9 q10 q11 q12 qb
          cases hax : A x with
          | false =>
            have HNX : Hid (fnd P F (k + 1) = fnd P F k) := Lib.hid (fnd_succ_off (by rw [HPX.out _ hnm, hax]; rfl))
            go_wp2_with fail
            go_roundw
            case rel => exact ⟨k + 1, m, FA, fc, cs, by omega, by omega, by go_num, rfl, Lib.hid (by rw [HNX.out]; exact HM.out), Lib.hid (by rw [HNX.out]; exact HOW.out.grow keepsNat HB2.out), Lib.hid (HW.out.trans (HB2.out.mono HW.out.size))⟩
            case measure => simp [intOf]; omega
          | true =>
            have HPK : Hid (P k = true) := Lib.hid (by rw [HPX.out _ hnm, hax]; rfl)
            have HM2 : Hid (Below w.heap.size w w2) := Lib.hid (HW.out.trans (HB2.out.mono HW.out.size))
            have HOW2 := Lib.hid (HOW.out.grow keepsNat HB2.out)
            obtain ⟨wo, hwo⟩ : ∃ wo : World, wo = w2 := ⟨_, rfl⟩
            subst hwo
            go_wp2_with fail
            have HFS := Lib.hid (HOW2.out.slLt keepsNat)
            go_loopw [42] (fun i wr => ∃ j : Nat, j ≤ m ∧ i = .int .i64 j ∧ Hid (∀ j' f, j' < j → (fnd P F k)[j']? = some f → F f k = false) ∧ Hid (Below wo.heap.size wo wr)) (fun i _ => m - (intOf i).toNat)
            case atStart => exact ⟨0, Nat.zero_le _, rfl, Lib.hid (fun j' f h => by omega), Lib.hid (Below.refl _ _)⟩
            case round =>
              obtain ⟨j, hj, rfl, HNO, HW3⟩ := hrel
              have HB3 : Hid (Below w.heap.size w wr) := Lib.hid (HM2.out.trans (HW3.out.mono HM2.out.size))
              have HSMr : Hid (Same B w wr) := Lib.hid ((Same.of_below HB3.out).mono hB)
              by_cases hjl : j < m
              · obtain ⟨f, hf⟩ : ∃ f, (fnd P F k)[j]? = some f := ⟨_, List.getElem?_eq_getElem (by rw [← HM.out]; exact hjl)⟩
                have hfm := (fnd_mem (List.mem_of_getElem? hf)).1
                obtain ⟨y, hy⟩ : ∃ y, xs[f]? = some y := ⟨_, List.getElem?_eq_getElem (by omega)⟩
                obtain ⟨b3, o3, vs3, rfl, hb3, _, rfl, hrow3⟩ := HFS.out.at_ hf
                have g0 : wr.cell? ⟨b3, o3 + j, none⟩ = some (.int .i64 (f : Int)) := (HW3.out.cell hb3).trans (by simpa using hrow3 0 _ rfl)
                obtain ⟨b', o', cA1, cn1, cc1, cA2, cn2, cc2, cA3, cn3, cc3, cA4, cn4, cc4, cA5, cn5, cc5, hbe, hb', hrec', hrow'⟩ := rcds_at HX.out hy
                obtain ⟨rfl, rfl⟩ : b = b' ∧ o = o' := by injection hbe with h; injection h with h1 h2; exact ⟨h1, h2⟩
                have p0 := cell_regrown (w := wr) (a := ⟨b, o + f * 13, none⟩) ((HSMr.out _ hb).trans (hrow' 0 _ rfl))
                have p1 := cell_regrown (w := wr) (a := ⟨b, o + f * 13 + 1, none⟩) ((HSMr.out _ hb).trans (hrow' 1 _ rfl))
                have p2 := cell_regrown (w := wr) (a := ⟨b, o + f * 13 + 2, none⟩) ((HSMr.out _ hb).trans (hrow' 2 _ rfl))
                have p3 := cell_regrown (w := wr) (a := ⟨b, o + f * 13 + 3, none⟩) ((HSMr.out _ hb).trans (hrow' 3 _ rfl))
                have p4 := cell_regrown (w := wr) (a := ⟨b, o + f * 13 + 4, none⟩) ((HSMr.out _ hb).trans (hrow' 4 _ rfl))
                have p5 := cell_regrown (w := wr) (a := ⟨b, o + f * 13 + 5, none⟩) ((HSMr.out _ hb).trans (hrow' 5 _ rfl))
                have p6 := cell_regrown (w := wr) (a := ⟨b, o + f * 13 + 6, none⟩) ((HSMr.out _ hb).trans (hrow' 6 _ rfl))
                have p7 := cell_regrown (w := wr) (a := ⟨b, o + f * 13 + 7, none⟩) ((HSMr.out _ hb).trans (hrow' 7 _ rfl))
                have p8 := cell_regrown (w := wr) (a := ⟨b, o + f * 13 + 8, none⟩) ((HSMr.out _ hb).trans (hrow' 8 _ rfl))
                have p9 := cell_regrown (w := wr) (a := ⟨b, o + f * 13 + 9, none⟩) ((HSMr.out _ hb).trans (hrow' 9 _ rfl))
                have p10 := cell_regrown (w := wr) (a := ⟨b, o + f * 13 + 10, none⟩) ((HSMr.out _ hb).trans (hrow' 10 _ rfl))
                have p11 := cell_regrown (w := wr) (a := ⟨b, o + f * 13 + 11, none⟩) ((HSMr.out _ hb).trans (hrow' 11 _ rfl))
                have p12 := cell_regrown (w := wr) (a := ⟨b, o + f * 13 + 12, none⟩) ((HSMr.out _ hb).trans (hrow' 12 _ rfl))
                have HBKr := Lib.hid (HBK.out.belowSelf HW3.out)
                have s0 := cell_regrown (HBKr.out.cell 0)
                have s1 := cell_regrown (HBKr.out.cell 1)
                have s2 := cell_regrown (HBKr.out.cell 2)
                have s3 := cell_regrown (HBKr.out.cell 3)
                have s4 := cell_regrown (HBKr.out.cell 4)
                have s5 := cell_regrown (HBKr.out.cell 5)
                have s6 := cell_regrown (HBKr.out.cell 6)
                have s7 := cell_regrown (HBKr.out.cell 7)
                have s8 := cell_regrown (HBKr.out.cell 8)
                have s9 := cell_regrown (HBKr.out.cell 9)
                have s10 := cell_regrown (HBKr.out.cell 10)
                have s11 := cell_regrown (HBKr.out.cell 11)
                have s12 := cell_regrown (HBKr.out.cell 12)
                obtain ⟨ev, HEV⟩ : ∃ ev, Hid (E y x = ev) := ⟨_, Lib.hid rfl⟩
                have HEF : Hid (F f k = ev) := Lib.hid (by rw [← HF.out, ← HEV.out]; unfold eqP recAt; simp [List.getD, hy, HXK.out])
                have i1 : (0 : Int) ≤ (f : Int) := by omega
                have i2 : (f : Int) < (xs.length : Int) := by omega
                have CC : Hid (∀ d os, Calls Tryd.prog 58 #[.agg #[.string y.chan, .string y.file, .string y.name, .string y.text, .int .i64 y.ver.epoch, .slice cA1 cn1 cc1, .slice cA2 cn2 cc2, .string y.build, .int .i64 y.num, .int .i64 y.time, .slice cA3 cn3 cc3, .slice cA4 cn4 cc4, .slice cA5 cn5 cc5], .agg #[.string x.chan, .string x.file, .string x.name, .string x.text, .int .i64 x.ver.epoch, .slice aA1 an1 ac1, .slice aA2 an2 ac2, .string x.build, .int .i64 x.num, .int .i64 x.time, .slice aA3 an3 ac3, .slice aA4 an4 ac4, .slice aA5 an5 ac5]] (grow (redrawn wr d) os) fun e w'' => e = .returned (.bool ev) ∧ ∃ p : Regrown, w'' = grow (redrawn wr p.d) p.os) := Lib.hid (fun d os => by
                  have h1 := HB3.out.trans ((below_regrown wr d os).mono HB3.out.size)
                  have h2 := (Same.of_below h1).mono hB
                  have h3 := HFE.out _ _ _ y x h1 (IsRcd.keep ⟨_, _, _, _, _, rfl, hrec'⟩ (Nat.le_refl _) h2) (HREC.out.keep (Nat.le_refl _) h2)
                  rw [HEV.out] at h3
                  exact Calls.regrown_of h3)
                have HJF := Lib.hid hf
                clear hf hy hbe hrec' hrow' hrow3 hfm
                go_wp2_with fail
                refine wp_region_quiet_below (by kernel_rfl) (by kernel_rfl) ?_
                repeat (first | go_big_quiet_step ((go_at_call 58; exact CC.out _ _)) | quiet_step ((go_at_call 58; exact CC.out _ _)))
                refine wpQuiet_nil ?_
                intro _ hwq
                obtain ⟨⟨q, os⟩, hwq⟩ := hwq
                subst hwq
                have HB4 := Lib.hid (HW3.out.trans ((below_regrown wr q os).mono HW3.out.size))
                clear p0 p1 p2 p3 p4 p5 p6 p7 p8 p9 p10 p11 p12 s0 s1 s2 s3 s4 s5 s6 s7 s8 s9 s10 s11 s12 CC g0
                generalize grow (redrawn wr q) os = W1 at *
                cases ev with
                | true =>
                  have HNX : Hid (fnd P F (k + 1) = fnd P F k) := Lib.hid (fnd_succ_no (List.any_eq_true.2 ⟨f, List.mem_of_getElem? HJF.out, HEF.out⟩))
                  go_wp2_with fail
                  go_roundw
                  case rel => exact ⟨k + 1, m, _, fc, cs, by omega, by omega, by go_num, rfl, Lib.hid (by rw [HNX.out]; exact HM.out), Lib.hid (by rw [HNX.out]; exact HOW2.out.grow keepsNat HB4.out), Lib.hid (HM2.out.trans (HB4.out.mono HM2.out.size))⟩
                  case measure => simp [intOf]; omega
                | false =>
                  go_wp2_with fail
                  go_roundw
                  case rel => exact ⟨j + 1, by omega, by go_num, Lib.hid (fun j' f' h hf' => by
                    by_cases e : j' < j
                    · exact HNO.out j' f' e hf'
                    · obtain rfl : j' = j := by omega
                      rw [HJF.out] at hf'
                      obtain rfl : f = f' := Option.some.inj hf'
                      exact HEF.out), HB4⟩
                  case measure => simp [intOf]; omega
              · obtain rfl : j = m := by omega
                have HNX : Hid (fnd P F (k + 1) = fnd P F k ++ [k]) := Lib.hid (fnd_succ_yes HPK.out (by
                  rw [List.any_eq_false]
                  intro f hf
                  obtain ⟨i, hi, he⟩ := List.getElem_of_mem hf
                  rw [HNO.out i f (by rw [HM.out]; exact hi) (by rw [List.getElem?_eq_getElem hi, he])]
                  decide))
                have HOG := Lib.hid (HOW2.out.grow keepsNat HW3.out)
                have HOWm : Hid (wr.ownsRow w.heap.size 3 1 (.slice FA j fc) j cs) := Lib.hid (by have h := HOG.out.1; rw [← HM.out] at h; exact h)
                go_wp2_with (at_builtin; refine wpList_append_lies _ rfl _ _ 55 rfl w.heap.size 3 i0 (.int .i64 0) 1 8 Tryd.underlying55 hi0 hz0 hz1 hz2 rfl (by decide) (.slice FA j fc) j cs rfl (HOWm.out.alloc _) ⟨wr.heap.size, 0, none⟩ 1 1 [.int .i64 k] rfl rfl ?c1 ?c2 (by omega) ?c3 ?c4 ?c5 (wr.heap.size + 1) ?c6 ?_)
                case c1 => exact cell_news _ [.int .i64 (k : Int)] _ _ rfl
                case c2 => simp [Value.oneCell']
                case c3 => simp [maxLen]; omega
                case c4 => omega
                case c5 => have := HB3.out.size; simp; omega
                case c6 => simp
                intro g1 cap1 w3 hown3 hgrow3 hat3 hlt3
                have hbb : Below wr.heap.size wr (wr.alloc (.cells #[.int .i64 (k : Int)] 3)) := news_alloc _ _
                have HOW3 := Lib.hid (OwnSl.snoc keepsNat (HOG.out.grow keepsNat hbb) (vs := [.int .i64 (k : Int)]) (x := k) rfl rfl (by rw [← HM.out]; exact hown3) hgrow3 (hat_of hat3 (by simp)))
                have HBW3 := Lib.hid ((HB3.out.trans (hbb.mono HB3.out.size)).grown hgrow3 (by have := HB3.out.size; simp; omega) (fun i hi => (HOWm.out.lt i hi).1))
                clear hown3 hgrow3 hat3 hlt3 hbb
                go_wp2_with fail
                go_roundw
                case rel => exact ⟨k + 1, j + 1, _, _, _, by omega, by omega, by go_num, rfl, Lib.hid (by rw [HNX.out, List.length_append, ← HM.out]; rfl), Lib.hid (by rw [HNX.out]; exact HOW3.out), HBW3⟩
                case measure => simp [intOf]; omega
    · obtain rfl : k = xs.length := by omega
      go_wp2_with fail
      rw [Exit.noGoto_ret]
      go_ret
      exact ⟨ret_int (by rw [HRES.out m HM.out]), HW.out⟩
end Go.Proofs.YtkmoaeckabjgnaaDoor.V
