/-
  Plain law of VersionNoughts, continued: the turned text's version.
-/
import Derived.Test.YtmlmaklighgiiaaDoorZPlain
import Derived.Test.YtmlmaklighgiiaaDoorRefT1
import Derived.Test.YtmlmaklighgiiaaDoorRef2
namespace Go.Proofs.YtmlmaklighgiiaaDoor.V
set_option linter.unusedVariables false
set_option linter.unusedSimpArgs false
open Go

theorem index_findZ (c : UInt8) : ∀ l : List UInt8, Lib.index l [c] = findL c l
  | [] => rfl
  | b :: l => by
    unfold Lib.index findL
    rw [index_findZ c l]
    by_cases hb : b = c
    · subst hb
      rw [if_pos (by simp [List.isPrefixOf]), if_pos rfl]
    · rw [if_neg (by simp [List.isPrefixOf]; exact fun e => hb e.symm), if_neg hb]
      rcases findL_cases c l with ⟨h, _⟩ | ⟨k, h, _⟩
      · rw [h]; rfl
      · rw [h]
        have : ((k : Int) == -1) = false := by simp
        rw [this, if_neg (by simp), if_neg (by omega)]
theorem cut_noZ {c : UInt8} {l : List UInt8} (h : findL c l = -1) : Lib.cut l [c] = (l, [], false) := by
  unfold Lib.cut
  rw [index_findZ, h]
  rfl
theorem cut_atZ {c : UInt8} {l : List UInt8} {k : Nat} (h : findL c l = k) : Lib.cut l [c] = (l.take k, l.drop (k + 1), true) := by
  unfold Lib.cut
  rw [index_findZ, h, if_pos (by omega)]
  rfl
/-- What the document's Parse returns. -/
def turnTo (l : List UInt8) (k : Nat) : List UInt8 := l.mapIdx fun i b => if i < k then turnB i b else b
def turnL (l : List UInt8) : List UInt8 := turnTo l l.length
theorem turnTo_len (l : List UInt8) (k : Nat) : (turnTo l k).length = l.length := by simp [turnTo]
theorem turnTo_get (l : List UInt8) (k j : Nat) : (turnTo l k)[j]? = (l[j]?).map fun b => if j < k then turnB j b else b := by simp [turnTo]
theorem turnTo_zero (l : List UInt8) : turnTo l 0 = l := by
  apply List.ext_getElem?
  intro j
  rw [turnTo_get]
  cases l[j]? <;> simp
theorem turnTo_all (l : List UInt8) {k : Nat} (h : l.length ≤ k) : turnTo l k = turnL l := by
  apply List.ext_getElem?
  intro j
  unfold turnL
  rw [turnTo_get, turnTo_get]
  cases hj : l[j]? with
  | none => rfl
  | some b =>
    have := (List.getElem?_eq_some_iff.1 hj).1
    simp only [Option.map_some]
    rw [if_pos (by omega), if_pos (by omega)]
theorem turnTo_at (l : List UInt8) (k : Nat) : (turnTo l k)[k]? = l[k]? := by
  rw [turnTo_get]
  cases l[k]? <;> simp
theorem turnTo_succ (l : List UInt8) (k : Nat) (x : UInt8) (h : l[k]? = some x) : turnTo l (k + 1) = (turnTo l k).set k (turnB k x) := by
  apply List.ext_getElem?
  intro j
  by_cases e : k = j
  · subst e
    rw [List.getElem?_set_self (by rw [turnTo_len]; exact (List.getElem?_eq_some_iff.1 h).1), turnTo_get, h]
    simp
  · rw [List.getElem?_set_ne e, turnTo_get, turnTo_get]
    cases l[j]? with
    | none => rfl
    | some b =>
      simp only [Option.map_some]
      by_cases hj : j < k
      · rw [if_pos hj, if_pos (by omega)]
      · rw [if_neg hj, if_neg (by omega)]
theorem sepEq_of {l : List UInt8} : ∀ {l' : List UInt8}, l.length = l'.length → (∀ (i : Nat) (x y : UInt8), l[i]? = some x → l'[i]? = some y → x = y ∨ (sepB x = true ∧ sepB y = true)) → SepEq l l' := by
  induction l with
  | nil => intro l' hl _; have : l' = [] := List.eq_nil_of_length_eq_zero (by simpa using hl.symm); subst this; exact .nil
  | cons a l ih =>
    intro l' hl h
    cases l' with
    | nil => simp at hl
    | cons b l' =>
      have ht := ih (l' := l') (by simpa using hl) (fun i x y hx hy => h (i + 1) x y (by simpa using hx) (by simpa using hy))
      rcases h 0 a b rfl rfl with rfl | ⟨ha, hb⟩
      · exact .same a ht
      · exact .sep ha hb ht
theorem lowB_sep {b : UInt8} (h : sepB b = true) : lowB b = b := by
  rcases (show b = 46 ∨ b = 95 ∨ b = 45 by simpa [sepB, sepL] using h) with rfl | rfl | rfl <;> rfl
theorem low_turn (i : Nat) (b : UInt8) : lowB b = lowB (turnB i b) ∨ (sepB (lowB b) = true ∧ sepB (lowB (turnB i b)) = true) := by
  unfold turnB
  by_cases h1 : 97 ≤ b.toNat ∧ b.toNat ≤ 122
  · rw [if_pos h1]
    left
    have h2 : (UInt8.ofNat (b.toNat - 32)).toNat = b.toNat - 32 := by rw [UInt8.toNat_ofNat']; omega
    rw [lowB_same (b := b) (by simp [upB]; omega)]
    unfold lowB
    rw [if_pos (by simp [upB]; omega), h2]
    apply UInt8.toNat_inj.1
    rw [UInt8.toNat_ofNat']
    omega
  · rw [if_neg h1]
    by_cases h2 : b = 46
    · rw [if_pos h2]
      right
      subst h2
      have h3 : sepB (sepL.getD (i % 3) 46) = true := by
        have : i % 3 = 0 ∨ i % 3 = 1 ∨ i % 3 = 2 := by omega
        rcases this with e | e | e <;> rw [e] <;> rfl
      rw [lowB_sep h3]
      exact ⟨rfl, h3⟩
    · rw [if_neg h2]
      exact .inl rfl
theorem sepEq_turn (l : List UInt8) : SepEq (lowL l) (lowL (turnL l)) := by
  apply sepEq_of
  · simp [lowL, turnL, turnTo_len]
  · intro i x y hx hy
    unfold lowL turnL at *
    rw [List.getElem?_map] at hx hy
    rw [turnTo_get] at hy
    cases hb : l[i]? with
    | none => rw [hb] at hx; cases hx
    | some b =>
      rw [hb] at hx hy
      have hi := (List.getElem?_eq_some_iff.1 hb).1
      simp only [Option.map_some] at hx hy
      rw [if_pos hi] at hy
      obtain rfl := Option.some.inj hx
      obtain rfl := Option.some.inj hy
      exact low_turn i b
theorem zeros_mem : ∀ (k : Nat) (x : UInt8), x ∈ zerosL k → x = 46 ∨ x = 48
  | 0, x, h => by simp [zerosL] at h
  | k + 1, x, h => by
    simp [zerosL] at h
    rcases h with h | h | h
    · exact zeros_mem k x h
    · exact .inl h
    · exact .inr h
theorem zeros_low : ∀ k, lowL (zerosL k) = zerosL k
  | 0 => rfl
  | k + 1 => by
    have := zeros_low k
    unfold lowL at *
    rw [zerosL, List.map_append, this]
    rfl
theorem zeros_len : ∀ k, (zerosL k).length = 2 * k
  | 0 => rfl
  | k + 1 => by rw [zerosL, List.length_append, zeros_len k]; simp; omega
theorem find_none {c : UInt8} {l r : List UInt8} (h : findL c l = -1) (hr : ∀ x ∈ r, x ≠ c) : findL c (l ++ r) = -1 := by
  apply findL_no
  intro j x _ hx e
  rw [e] at hx
  have hm := List.mem_of_getElem? hx
  rcases List.mem_append.1 hm with h1 | h1
  · rcases findL_cases c l with ⟨_, h2⟩ | ⟨k, h2, _⟩
    · obtain ⟨i, hi⟩ := List.getElem?_of_mem h1
      exact h2 i c hi rfl
    · rw [h] at h2; omega
  · exact hr c h1 rfl
theorem find_some {c : UInt8} {l r : List UInt8} {k : Nat} (h : findL c l = k) : findL c (l ++ r) = k := by
  rcases findL_cases c l with ⟨h1, _⟩ | ⟨k', h1, h2, h3⟩
  · rw [h] at h1; omega
  · obtain rfl : k = k' := by rw [h] at h1; omega
    have hk := (List.getElem?_eq_some_iff.1 h2).1
    apply findL_is
    · rw [List.getElem?_append_left hk]; exact h2
    · intro j x hj hx
      rw [List.getElem?_append_left (by omega)] at hx
      exact h3 j x hj hx
theorem compsL_ne {l : List UInt8} {q : List (List Item)} (h : compsL l = some q) : q ≠ [] := by
  rcases indexAny_cases sepL l with h1 | ⟨k, h1, hk⟩
  · rw [compsL_one h1] at h
    cases hc : compL l with
    | none => rw [hc] at h; cases h
    | some c => rw [hc] at h; obtain rfl := Option.some.inj h; simp
  · rw [compsL_more h1 hk] at h
    cases hc : compL (l.take k) with
    | none => rw [hc] at h; cases h
    | some c =>
      rw [hc] at h
      simp only [Option.bind_some] at h
      cases hd : compsL (l.drop (k + 1)) with
      | none => rw [hd] at h; cases h
      | some d => rw [hd] at h; obtain rfl := Option.some.inj h; simp
theorem parse2_turn {e : Int} {X Y : List UInt8} {a : Ver} (k : Nat) (hxy : SepEq X Y) (h : parse2 e X = some a) (hl : a.loc = []) :
    a.epoch = e ∧ a.parts ≠ [] ∧ parse2 e (Y ++ zerosL k) = some ⟨e, a.parts ++ List.replicate k [Item.zero], []⟩ := by
  unfold parse2 at h
  rcases findL_cases 43 X with ⟨h1, _⟩ | ⟨j, h1, _⟩
  · rw [cut_noZ h1] at h
    simp only [Bool.false_eq_true, if_false] at h
    cases hc : compsL X with
    | none => rw [hc] at h; cases h
    | some p =>
      rw [hc] at h
      obtain rfl := Option.some.inj h
      refine ⟨rfl, compsL_ne hc, ?_⟩
      have h2 : findL 43 (Y ++ zerosL k) = -1 := find_none (by rw [← hxy.find (by decide)]; exact h1) (fun x hx e => by
        rcases zeros_mem k x hx with r | r <;> rw [r] at e <;> exact absurd e (by decide))
      unfold parse2
      rw [cut_noZ h2]
      simp only [Bool.false_eq_true, if_false]
      rw [comps_noughts, ← SepEq.comps _ (Nat.le_refl _) hxy, hc]
      rfl
  · rw [cut_atZ h1] at h
    simp only [if_true] at h
    cases hc : compsL (X.take j) with
    | none => rw [hc] at h; cases h
    | some p =>
      rw [hc] at h
      simp only [Option.bind_some] at h
      cases hd : compsL (X.drop (j + 1)) with
      | none => rw [hd] at h; cases h
      | some q =>
        rw [hd] at h
        obtain rfl := Option.some.inj h
        exact absurd hl (compsL_ne hd)
theorem parse_turn {s : List UInt8} {a : Ver} (k : Nat) (h : parseL s = some a) (hl : a.loc = []) (h40 : (turnL s ++ zerosL k).length ≤ 40) :
    a.parts ≠ [] ∧ parseL (turnL s ++ zerosL k) = some ⟨a.epoch, a.parts ++ List.replicate k [Item.zero], []⟩ := by
  unfold parseL at h
  by_cases hs : s.length < 1 ∨ 40 < s.length
  · rw [if_pos hs] at h; cases h
  rw [if_neg hs] at h
  have hlen : (turnL s).length = s.length := turnTo_len _ _
  have hlow : lowL (turnL s ++ zerosL k) = lowL (turnL s) ++ zerosL k := by
    have := zeros_low k
    unfold lowL at *
    rw [List.map_append, this]
  have hxy := sepEq_turn s
  have hP : parseL (turnL s ++ zerosL k) = if (Lib.cut (lowL (turnL s) ++ zerosL k) [33]).2.2 = true then (smallL (Lib.cut (lowL (turnL s) ++ zerosL k) [33]).1 maxI).bind fun e => parse2 e (Lib.cut (lowL (turnL s) ++ zerosL k) [33]).2.1
      else parse2 0 (lowL (turnL s) ++ zerosL k) := by
    unfold parseL
    rw [if_neg (by rw [List.length_append] at *; omega), hlow]
  rw [hP]
  generalize lowL s = X at *
  generalize lowL (turnL s) = Y at *
  rcases findL_cases 33 X with ⟨h1, _⟩ | ⟨j, h1, hj, _⟩
  · rw [cut_noZ h1] at h
    simp only [Bool.false_eq_true, if_false] at h
    have h2 : findL 33 (Y ++ zerosL k) = -1 := find_none (by rw [← hxy.find (by decide)]; exact h1) (fun x hx e => by
      rcases zeros_mem k x hx with r | r <;> rw [r] at e <;> exact absurd e (by decide))
    rw [cut_noZ h2]
    simp only [Bool.false_eq_true, if_false]
    obtain ⟨he, hp, h3⟩ := parse2_turn k hxy h hl
    exact ⟨hp, by rw [h3, he]⟩
  · rw [cut_atZ h1] at h
    simp only [if_true] at h
    have hjX := (List.getElem?_eq_some_iff.1 hj).1
    have h2 : findL 33 (Y ++ zerosL k) = (j : Nat) := find_some (by rw [← hxy.find (by decide)]; exact h1)
    rw [cut_atZ h2]
    simp only [if_true]
    rw [List.take_append_of_le_length (by rw [← hxy.len]; omega), List.drop_append_of_le_length (by rw [← hxy.len]; omega)]
    cases hs : smallL (X.take j) maxI with
    | none => rw [hs] at h; cases h
    | some e =>
      rw [hs] at h
      simp only [Option.bind_some] at h
      have hd := (smallL_some hs).1
      have h3 := (hxy.take j).eq (fun x hx => good_not_sep (by unfold good; rw [List.all_eq_true.1 hd x hx]; rfl))
      rw [← h3, hs]
      simp only [Option.bind_some]
      obtain ⟨he, hp, h4⟩ := parse2_turn k (hxy.drop (j + 1)) h hl
      exact ⟨hp, by rw [h4, he]⟩
/-- Noughts behind. -/
theorem comp_zero_nil : cmpComp [] [Item.zero] = 0 := by
  have h1 := comp_pad []
  have h2 := ordComp.refl []
  have h3 := ordComp.anti [] [Item.zero]
  omega
theorem getD_noughts (p : List (List Item)) (k i : Nat) : cmpComp (p.getD i []) ((p ++ List.replicate k [Item.zero]).getD i []) = 0 := by
  by_cases h : i < p.length
  · have : (p ++ List.replicate k [Item.zero]).getD i [] = p.getD i [] := by
      simp [List.getD, List.getElem?_append_left h]
    rw [this]
    exact ordComp.refl _
  · have h1 : p.getD i [] = [] := by simp [List.getD, List.getElem?_eq_none (show p.length ≤ i by omega)]
    rw [h1]
    by_cases h2 : i - p.length < k
    · have : (p ++ List.replicate k [Item.zero]).getD i [] = [Item.zero] := by
        simp [List.getD, List.getElem?_append_right (show p.length ≤ i by omega), List.getElem?_replicate, h2]
      rw [this]
      exact comp_zero_nil
    · have : (p ++ List.replicate k [Item.zero]).getD i [] = [] := by
        simp [List.getD, List.getElem?_append_right (show p.length ≤ i by omega), List.getElem?_replicate, h2]
      rw [this]
      exact ordComp.refl _
theorem cmp_noughts {a : Ver} (k : Nat) (hl : a.loc = []) : cmpVer a ⟨a.epoch, a.parts ++ List.replicate k [Item.zero], []⟩ = 0 := by
  have h1 : cmpParts a.parts (a.parts ++ List.replicate k [Item.zero]) = 0 := by
    unfold cmpParts rowsC
    exact nz_zero _ _ (fun j _ _ => getD_noughts _ _ _)
  show or2 (cmpI a.epoch a.epoch) (or2 (cmpParts a.parts (a.parts ++ List.replicate k [Item.zero])) (cmpParts a.loc [])) = 0
  rw [ordI.refl, h1, hl, ordParts.refl]
  rfl
theorem beg_noughts {a : Ver} (k : Nat) (hl : a.loc = []) (hp : a.parts ≠ []) : begV ⟨a.epoch, a.parts ++ List.replicate k [Item.zero], []⟩ a = true := by
  have hpos : 0 < a.parts.length := List.length_pos_iff.2 hp
  have hg : ∀ i, i < a.parts.length → (a.parts ++ List.replicate k [Item.zero]).getD i [] = a.parts.getD i [] := fun i hi => by
    simp [List.getD, List.getElem?_append_left hi]
  unfold begV
  rw [zeroTo_true (fun j hj => by unfold bPart; rw [hg j (by omega)]; exact ordComp.refl _), zeroTo_true (fun j hj => by unfold bItem; rw [hg _ (by omega)]; exact ordItem.refl _)]
  simp [hl, hpos]
theorem beg_self {a : Ver} (hl : a.loc = []) (hp : a.parts ≠ []) : begV a a = true := by
  have := beg_noughts (a := a) 0 hl hp
  have e : (⟨a.epoch, a.parts ++ List.replicate 0 [Item.zero], []⟩ : Ver) = a := by
    cases a
    simp only [List.replicate_zero, List.append_nil] at *
    subst hl
    rfl
  rw [e] at this
  exact this
end Go.Proofs.YtmlmaklighgiiaaDoor.V
