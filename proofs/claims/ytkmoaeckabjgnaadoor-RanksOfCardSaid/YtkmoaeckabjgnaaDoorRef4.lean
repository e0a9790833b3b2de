/-
  The walk of the document's Big: it answers, whatever the version.
-/
import Derived.Test.YtkmoaeckabjgnaaDoorRef3
namespace Go.Proofs.YtkmoaeckabjgnaaDoor.V
set_option linter.unusedVariables false
set_option linter.unusedSimpArgs false
open Go Go.RowKit Go.Sort

theorem isSl_two {α : Type} {R : Rd α} {W : World} {ok : Nat → Prop} {b : Nat} {u v : Value} {x y : α} (hb : ok b) (h0 : W.cell? ⟨b, 0, none⟩ = some u) (h1 : W.cell? ⟨b, 1, none⟩ = some v) (hx : R W ok [u] x) (hy : R W ok [v] y) :
    IsSl 1 R W ok (.slice (some ⟨b, 0, none⟩) 2 2) [x, y] := by
  refine ⟨some ⟨b, 0, none⟩, 2, rfl, Nat.le_refl _, by decide, fun i z hi => ?_⟩
  match i, hi with
  | 0, hi =>
    obtain rfl : x = z := by simpa using hi
    refine ⟨b, 0, [u], rfl, hb, rfl, hx, fun j v' hj => ?_⟩
    match j, hj with
    | 0, hj => obtain rfl : u = v' := by simpa using hj
               exact h0
    | j + 1, hj => simp at hj
  | 1, hi =>
    obtain rfl : y = z := by simpa using hi
    refine ⟨b, 0, [v], rfl, hb, rfl, hy, fun j v' hj => ?_⟩
    match j, hj with
    | 0, hj => obtain rfl : v = v' := by simpa using hj
               exact h1
    | j + 1, hj => simp at hj
  | i + 2, hi => simp at hi
def AnyBool (e : Ending) : Prop := ∃ b, e = .returned (.bool b)
theorem AnyBool.mk (b : Bool) : AnyBool (.returned (.bool b)) := ⟨b, rfl⟩

set_option maxHeartbeats 4000000 in
set_option maxRecDepth 100000 in
theorem rBig_any (va : Value) (x : Ver) (B : Nat) (w : World) (ha : IsVer w (Lt B) va x) (hB : B ≤ w.heap.size) :
    Calls Tryd.prog 68 #[va] w fun e w' => AnyBool e ∧ Below w.heap.size w w' := by
  obtain ⟨p1, l1, rfl, _, hp1, hl1⟩ := ha
  obtain ⟨A1, c1, rfl, _⟩ := hp1.form
  obtain ⟨A2, c2, rfl, _⟩ := hl1.form
  have HP1 := Lib.hid hp1
  have HL1 := Lib.hid hl1
  clear hp1 hl1
  by_cases hbig : 50 < x.parts.length ∨ 50 < x.loc.length
  · by_cases h1 : 50 < x.parts.length
    · clear hbig
      go_enter Tryd.func68, Tryd.ntmps68
      go_wp2_with fail
      go_ret
      exact ⟨AnyBool.mk _, news_alloc _ _⟩
    · have h2 : 50 < x.loc.length := by omega
      clear hbig
      go_enter Tryd.func68, Tryd.ntmps68
      go_wp2_with fail
      go_ret
      exact ⟨AnyBool.mk _, news_alloc _ _⟩
  · have h1 : ¬ 50 < x.parts.length := by omega
    have h2 : ¬ 50 < x.loc.length := by omega
    clear hbig
    go_enter Tryd.func68, Tryd.ntmps68
    go_wp2_with fail
    have HSL : Hid (IsSl 1 RParts ((w.alloc (.cells #[.int .i64 x.epoch, .slice A1 x.parts.length c1, .slice A2 x.loc.length c2] 33)).alloc (.cells #[.slice A1 x.parts.length c1, .slice A2 x.loc.length c2] 31)) (Lt (w.heap.size + 2)) (.slice (some ⟨w.heap.size + 1, 0, none⟩) 2 2) [x.parts, x.loc]) := Lib.hid (by
      have hb : Below w.heap.size w ((w.alloc (.cells #[.int .i64 x.epoch, .slice A1 x.parts.length c1, .slice A2 x.loc.length c2] 33)).alloc (.cells #[.slice A1 x.parts.length c1, .slice A2 x.loc.length c2] 31)) := ((Below.refl _ _).alloc (Nat.le_refl _) _).alloc (by simp) _
      obtain ⟨_, k1⟩ := cells_two w #[.int .i64 x.epoch, .slice A1 x.parts.length c1, .slice A2 x.loc.length c2] #[.slice A1 x.parts.length c1, .slice A2 x.loc.length c2] 33 31
      exact isSl_two (by show w.heap.size + 1 < w.heap.size + 2; omega) (k1 0) (k1 1) ⟨_, rfl, HP1.out.keep keepsComp (by omega) ((Same.of_below hb).mono hB)⟩ ⟨_, rfl, HL1.out.keep keepsComp (by omega) ((Same.of_below hb).mono hB)⟩)
    have HBW : Hid (Below w.heap.size w ((w.alloc (.cells #[.int .i64 x.epoch, .slice A1 x.parts.length c1, .slice A2 x.loc.length c2] 33)).alloc (.cells #[.slice A1 x.parts.length c1, .slice A2 x.loc.length c2] 31))) := Lib.hid (((Below.refl _ _).alloc (Nat.le_refl _) _).alloc (by simp) _)
    have HSZ : Hid (((w.alloc (.cells #[.int .i64 x.epoch, .slice A1 x.parts.length c1, .slice A2 x.loc.length c2] 33)).alloc (.cells #[.slice A1 x.parts.length c1, .slice A2 x.loc.length c2] 31)).heap.size = w.heap.size + 2) := Lib.hid (by simp)
    generalize ((w.alloc (.cells #[.int .i64 x.epoch, .slice A1 x.parts.length c1, .slice A2 x.loc.length c2] 33)).alloc (.cells #[.slice A1 x.parts.length c1, .slice A2 x.loc.length c2] 31)) = W0 at *
    go_loopw [25] (fun i wr => ∃ k : Nat, k ≤ 2 ∧ i = .int .i64 k ∧ Hid (Below W0.heap.size W0 wr)) (fun i _ => 2 - (intOf i).toNat)
    case atStart => exact ⟨0, Nat.zero_le _, rfl, Lib.hid (Below.refl _ _)⟩
    case round =>
      obtain ⟨k, hk, rfl, HW⟩ := hrel
      by_cases hlt : k < 2
      · obtain ⟨l, hl⟩ : ∃ l, [x.parts, x.loc][k]? = some l := ⟨_, List.getElem?_eq_getElem hlt⟩
        obtain ⟨b, o, vs, hA, hb, hlen, ⟨u, rfl, hu⟩, hrow⟩ := HSL.out.at_ hl
        obtain ⟨rfl, rfl⟩ : w.heap.size + 1 = b ∧ 0 = o := by injection hA with h; injection h with h1 h2; exact ⟨h1, h2⟩
        obtain ⟨A3, c3, rfl, hl3, hc3⟩ := hu.form
        have HU := Lib.hid hu
        have hr0 : W0.cell? ⟨w.heap.size + 1, k, none⟩ = some (.slice A3 l.length c3) := by simpa using hrow 0 _ rfl
        have h0 : wr.cell? ⟨w.heap.size + 1, k, none⟩ = some (.slice A3 l.length c3) := (HW.out.cell (by have := HSZ.out; show w.heap.size + 1 < _; omega)).trans hr0
        clear hl hA hrow hu hr0
        obtain ⟨wo, hwo⟩ : ∃ wo : World, wo = wr := ⟨_, rfl⟩
        subst hwo
        go_wp2_with fail
        go_loopw [31] (fun i wr => ∃ j : Nat, j ≤ l.length ∧ i = .int .i64 j ∧ Hid (Below W0.heap.size W0 wr)) (fun i _ => l.length - (intOf i).toNat)
        case atStart => exact ⟨0, Nat.zero_le _, rfl, HW⟩
        case round =>
          obtain ⟨j, hj, rfl, HW2⟩ := hrel
          by_cases hjl : j < l.length
          · obtain ⟨c, hcc⟩ : ∃ c, l[j]? = some c := ⟨_, List.getElem?_eq_getElem hjl⟩
            obtain ⟨b3, o3, vs3, rfl, hb3, hlen3, ⟨u4, rfl, hu4⟩, hrow3⟩ := HU.out.at_ hcc
            obtain ⟨A4, c4, rfl, hl4, hc4⟩ := hu4.form
            have HU4 := Lib.hid hu4
            have hr1 : W0.cell? ⟨b3, o3 + j, none⟩ = some (.slice A4 c.length c4) := by simpa using hrow3 0 _ rfl
            have hb3' : b3 < W0.heap.size := by have h : b3 < w.heap.size + 2 := hb3; have := HSZ.out; omega
            have hb3r : b3 < wr.heap.size := by have := HW2.out.size; omega
            have h1' : wr.cell? ⟨b3, o3 + j, none⟩ = some (.slice A4 c.length c4) := (HW2.out.cell hb3').trans hr1
            clear hcc hrow3 hu4 hr1
            obtain ⟨wo2, hwo2⟩ : ∃ wo : World, wo = wr := ⟨_, rfl⟩
            subst hwo2
            by_cases h30 : 30 < c.length
            · go_wp2_with fail
              go_ret
              exact ⟨AnyBool.mk _, HBW.out.trans (HW2.out.mono (by have := HBW.out.size; omega))⟩
            · go_wp2_with fail
              go_loopw [40] (fun i wr => ∃ m : Nat, m ≤ c.length ∧ i = .int .i64 m ∧ Hid (Below W0.heap.size W0 wr)) (fun i _ => c.length - (intOf i).toNat)
              case atStart => exact ⟨0, Nat.zero_le _, rfl, HW2⟩
              case round =>
                obtain ⟨m, hm, rfl, HW3⟩ := hrel
                by_cases hml : m < c.length
                · obtain ⟨it, hit⟩ : ∃ c', c[m]? = some c' := ⟨_, List.getElem?_eq_getElem hml⟩
                  obtain ⟨b5, o5, vs5, rfl, hb5, hlen5, ⟨rfl, _, hws⟩, hrow5⟩ := HU4.out.at_ hit
                  have hb5' : b5 < W0.heap.size := by have h : b5 < w.heap.size + 2 := hb5; have := HSZ.out; omega
                  have hb5r : b5 < wr.heap.size := by have := HW3.out.size; omega
                  have g0 : wr.cell? ⟨b5, o5 + m * 2, none⟩ = some (.int .i64 it.n) := (HW3.out.cell hb5').trans (hrow5 0 _ rfl)
                  have g1 : wr.cell? ⟨b5, o5 + m * 2 + 1, none⟩ = some (.string it.word) := (HW3.out.cell hb5').trans (hrow5 1 _ rfl)
                  clear hit hrow5
                  have HX := Lib.hid (HW3.out.trans ((news_alloc wr (.cells #[.int .i64 it.n, .string it.word] 124)).mono HW3.out.size))
                  by_cases h60 : 60 < it.word.size
                  · go_wp2_with fail
                    go_ret
                    exact ⟨AnyBool.mk _, HBW.out.trans (HX.out.mono (by have := HBW.out.size; omega))⟩
                  · go_wp2_with fail
                    go_roundw
                    case rel => exact ⟨m + 1, by omega, by go_num, HX⟩
                    case measure => simp [intOf]; omega
                · obtain rfl : m = c.length := by omega
                  go_wp2_with fail
                  go_roundw
                  case rel => exact ⟨j + 1, by omega, by go_num, HW3⟩
                  case measure => simp [intOf]; omega
          · obtain rfl : j = l.length := by omega
            go_wp2_with fail
            go_roundw
            case rel => exact ⟨k + 1, by omega, by go_num, HW2⟩
            case measure => simp [intOf]; omega
      · obtain rfl : k = 2 := by omega
        go_wp2_with fail
        go_ret
        exact ⟨AnyBool.mk _, HBW.out.trans (HW.out.mono (by have := HBW.out.size; omega))⟩
end Go.Proofs.YtkmoaeckabjgnaaDoor.V
