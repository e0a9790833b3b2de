/-
  Plain functions on texts: small letters, digits, numbers, a text's components, a text's version, as the program makes them.
-/
import Derived.Test.YtkmoaeckabjgnaaDoorVPlain
import Derived.Lib.IndexMore
import Derived.Lib.CutLaws
import Derived.Lib.IndexAny
namespace Go.Proofs.YtkmoaeckabjgnaaDoor.V
set_option linter.unusedVariables false
set_option linter.unusedSimpArgs false

def upB (c : Int) : Bool := decide (65 ≤ c) && decide (c ≤ 90)
def lowB (b : UInt8) : UInt8 := if upB b.toNat then UInt8.ofNat (b.toNat + 32) else b
def lowL (l : List UInt8) : List UInt8 := l.map lowB
def digB (c : Int) : Bool := decide (48 ≤ c) && decide (c ≤ 57)
def letB (c : Int) : Bool := decide (97 ≤ c) && decide (c ≤ 122)
def dig (b : UInt8) : Bool := digB b.toNat
def let_ (b : UInt8) : Bool := letB b.toNat

theorem lowB_toNat_up {b : UInt8} (h : upB b.toNat = true) : ((lowB b).toNat : Int) = b.toNat + 32 := by
  unfold lowB
  rw [if_pos h]
  simp only [upB, Bool.and_eq_true, decide_eq_true_eq] at h
  rw [UInt8.toNat_ofNat']
  omega
theorem lowB_same {b : UInt8} (h : upB b.toNat = false) : lowB b = b := by
  unfold lowB
  rw [if_neg (by simp [h])]

/-- So many bytes turned. -/
def lowTo (l : List UInt8) (k : Nat) : List UInt8 := lowL (l.take k) ++ l.drop k
theorem lowTo_zero (l : List UInt8) : lowTo l 0 = l := by simp [lowTo, lowL]
theorem lowTo_all (l : List UInt8) {k : Nat} (h : l.length ≤ k) : lowTo l k = lowL l := by simp [lowTo, List.take_of_length_le h, List.drop_eq_nil_of_le h]
theorem lowTo_len (l : List UInt8) (k : Nat) : (lowTo l k).length = l.length := by simp [lowTo, lowL]; omega
theorem lowTo_at (l : List UInt8) (k : Nat) : (lowTo l k)[k]? = l[k]? := by
  by_cases h : k < l.length
  · unfold lowTo
    rw [List.getElem?_append_right (by simp [lowL]; omega), List.getElem?_drop]
    simp [lowL, Nat.min_eq_left (Nat.le_of_lt h)]
  · rw [List.getElem?_eq_none (by rw [lowTo_len]; omega), List.getElem?_eq_none (by omega)]
theorem lowTo_succ (l : List UInt8) (k : Nat) (x : UInt8) (h : l[k]? = some x) : lowTo l (k + 1) = (lowTo l k).set k (lowB x) := by
  obtain ⟨hk, hx⟩ := List.getElem?_eq_some_iff.1 h
  unfold lowTo
  rw [List.take_succ_eq_append_getElem hk, List.drop_eq_getElem_cons hk, hx]
  simp [lowL, Nat.min_eq_left (Nat.le_of_lt hk)]
theorem lowTo_same (l : List UInt8) (k : Nat) (x : UInt8) (h : l[k]? = some x) (hu : upB x.toNat = false) : lowTo l (k + 1) = lowTo l k := by
  rw [lowTo_succ l k x h, lowB_same hu]
  apply List.ext_getElem?
  intro j
  by_cases e : k = j
  · subst e
    rw [lowTo_at, h, List.getElem?_set_self (by rw [lowTo_len]; exact (List.getElem?_eq_some_iff.1 h).1)]
  · rw [List.getElem?_set_ne e]
/-- How many bytes ahead are such. -/
def runN (p : UInt8 → Bool) : List UInt8 → Nat
  | [] => 0
  | b :: l => if p b then runN p l + 1 else 0
theorem runN_le (p : UInt8 → Bool) (l : List UInt8) : runN p l ≤ l.length := by
  induction l with
  | nil => exact Nat.le_refl _
  | cons b l ih => unfold runN; split <;> simp <;> omega
theorem runN_at (p : UInt8 → Bool) (l : List UInt8) : ∀ k, (∀ j x, j < k → l[j]? = some x → p x = true) → k ≤ l.length → (∀ x, l[k]? = some x → p x = false) → runN p l = k := by
  induction l with
  | nil => intro k _ hk _; simp at hk; subst hk; rfl
  | cons b l ih =>
    intro k h1 hk h2
    cases k with
    | zero => unfold runN; rw [if_neg (by simp [h2 b rfl])]
    | succ k =>
      unfold runN
      rw [if_pos (h1 0 b (by omega) rfl), ih k (fun j x hj hx => h1 (j + 1) x (by omega) (by simpa using hx)) (by simpa using hk) (fun x hx => h2 x (by simpa using hx))]
theorem runN_all (p : UInt8 → Bool) (l : List UInt8) : runN p l = l.length ↔ l.all p = true := by
  induction l with
  | nil => simp [runN]
  | cons b l ih =>
    unfold runN
    cases h : p b <;> simp [h]
    simpa using ih
/-- The number of digits, from n on. -/
def numL (n : Int) : List UInt8 → Int
  | [] => n
  | b :: l => numL (n * 10 + (b.toNat - 48)) l
theorem numL_snoc (l : List UInt8) (b : UInt8) : ∀ n, numL n (l ++ [b]) = numL n l * 10 + (b.toNat - 48) := by
  induction l with
  | nil => intro n; rfl
  | cons a l ih => intro n; exact ih _
theorem numL_bound (l : List UInt8) : ∀ n, 0 ≤ n → (∀ b ∈ l, dig b = true) → 0 ≤ numL n l ∧ numL n l < (n + 1) * 10 ^ l.length := by
  induction l with
  | nil => intro n h _; simp [numL]; omega
  | cons b l ih =>
    intro n h hb
    have h1 : dig b = true := hb b (by simp)
    simp only [dig, digB, Bool.and_eq_true, decide_eq_true_eq] at h1
    obtain ⟨h2, h3⟩ := ih (n * 10 + (b.toNat - 48)) (by omega) (fun c hc => hb c (by simp [hc]))
    refine ⟨h2, Int.lt_of_lt_of_le h3 ?_⟩
    rw [List.length_cons, Int.pow_succ, ← Int.mul_assoc, Int.mul_right_comm]
    exact Int.mul_le_mul_of_nonneg_right (by omega) (Int.pow_nonneg (by omega))
/-- The number of a text of 1 to 15 digits, at most so much. -/
def smallL (l : List UInt8) (most : Int) : Option Int :=
  if l.length < 1 ∨ 15 < l.length ∨ l.all dig = false then none else if most < numL 0 l then none else some (numL 0 l)

theorem smallL_some {l : List UInt8} {most v : Int} (h : smallL l most = some v) : l.all dig = true ∧ l.length ≤ 15 ∧ 1 ≤ l.length ∧ v = numL 0 l ∧ v ≤ most := by
  unfold smallL at h
  split at h
  · cases h
  · rename_i hc
    split at h
    · cases h
    · obtain rfl := Option.some.inj h
      refine ⟨?_, by omega, by omega, rfl, by omega⟩
      cases hd : l.all dig with
      | true => rfl
      | false => exact absurd (.inr (.inr hd)) hc
theorem smallL_bd {l : List UInt8} {most v : Int} (h : smallL l most = some v) : 0 ≤ v ∧ v ≤ 999999999999999 := by
  obtain ⟨h1, h2, _, rfl, _⟩ := smallL_some h
  obtain ⟨h3, h4⟩ := numL_bound l 0 (by omega) (fun b hb => List.all_eq_true.1 h1 b hb)
  have h5 : (10 : Int) ^ l.length ≤ 10 ^ 15 := by
    have := Nat.pow_le_pow_right (n := 10) (by omega) h2
    exact_mod_cast this
  omega
def maxI : Int := 9223372036854775807
/-- The items of a component's text, in order. -/
def compF : Nat → List UInt8 → Option (List Item)
  | 0, _ => some []
  | _ + 1, [] => some []
  | n + 1, b :: l =>
    if let_ b then (compF n ((b :: l).drop (runN let_ (b :: l)))).map (⟨0, ⟨((b :: l).take (runN let_ (b :: l))).toArray⟩⟩ :: ·)
    else if dig b then (smallL ((b :: l).take (runN dig (b :: l))) maxI).bind fun v => (compF n ((b :: l).drop (runN dig (b :: l)))).map (⟨v, ByteArray.empty⟩ :: ·)
    else none
theorem runN_pos {p : UInt8 → Bool} {b : UInt8} {l : List UInt8} (h : p b = true) : 1 ≤ runN p (b :: l) := by unfold runN; rw [if_pos h]; omega
theorem compF_fuel (n : Nat) : ∀ m l, l.length ≤ n → l.length ≤ m → compF n l = compF m l := by
  induction n with
  | zero =>
    intro m l h1 h2
    have : l = [] := List.eq_nil_of_length_eq_zero (by omega)
    subst this
    cases m <;> rfl
  | succ n ih =>
    intro m l h1 h2
    cases m with
    | zero =>
      have : l = [] := List.eq_nil_of_length_eq_zero (by omega)
      subst this
      rfl
    | succ m =>
      cases l with
      | nil => rfl
      | cons b l =>
        unfold compF
        by_cases hb : let_ b = true
        · have := runN_pos (p := let_) (l := l) hb
          rw [if_pos hb, if_pos hb, ih m _ (by rw [List.length_drop]; simp at h1 ⊢; omega) (by rw [List.length_drop]; simp at h2 ⊢; omega)]
        · rw [if_neg hb, if_neg hb]
          by_cases hd : dig b = true
          · have := runN_pos (p := dig) (l := l) hd
            rw [if_pos hd, if_pos hd, ih m _ (by rw [List.length_drop]; simp at h1 ⊢; omega) (by rw [List.length_drop]; simp at h2 ⊢; omega)]
          · rw [if_neg hd, if_neg hd]
def compA (l : List UInt8) : Option (List Item) := compF l.length l
theorem compA_nil : compA [] = some [] := rfl
theorem compA_let {l : List UInt8} {b : UInt8} (h : l[0]? = some b) (hb : let_ b = true) :
    compA l = (compA (l.drop (runN let_ l))).map (⟨0, ⟨(l.take (runN let_ l)).toArray⟩⟩ :: ·) := by
  cases l with
  | nil => simp at h
  | cons a l =>
    obtain rfl : a = b := by simpa using h
    have := runN_pos (p := let_) (l := l) hb
    show compF (l.length + 1) (a :: l) = _
    unfold compF compA
    rw [if_pos hb, compF_fuel l.length _ _ (by rw [List.length_drop]; simp; omega) (Nat.le_refl _)]
theorem compA_dig {l : List UInt8} {b : UInt8} (h : l[0]? = some b) (hb : let_ b = false) (hd : dig b = true) :
    compA l = (smallL (l.take (runN dig l)) maxI).bind fun v => (compA (l.drop (runN dig l))).map (⟨v, ByteArray.empty⟩ :: ·) := by
  cases l with
  | nil => simp at h
  | cons a l =>
    obtain rfl : a = b := by simpa using h
    have := runN_pos (p := dig) (l := l) hd
    show compF (l.length + 1) (a :: l) = _
    unfold compF compA
    rw [if_neg (by simp [hb]), if_pos hd, compF_fuel l.length _ _ (by rw [List.length_drop]; simp; omega) (Nat.le_refl _)]
theorem compA_no {l : List UInt8} {b : UInt8} (h : l[0]? = some b) (hb : let_ b = false) (hd : dig b = false) : compA l = none := by
  cases l with
  | nil => simp at h
  | cons a l =>
    obtain rfl : a = b := by simpa using h
    show compF (l.length + 1) (a :: l) = _
    unfold compF
    rw [if_neg (by simp [hb]), if_neg (by simp [hd])]
/-- What stands ahead of a component that begins with a word. -/
def preL (l : List UInt8) : List Item := match l with
  | [] => []
  | b :: _ => if let_ b then [Item.zero] else []
/-- A component. -/
def compL (l : List UInt8) : Option (List Item) := if l = [] then none else (compA l).map (preL l ++ ·)

/-- What parts a version's components. -/
def sepL : List UInt8 := [46, 95, 45]
theorem indexAny_cases (chars : List UInt8) : ∀ l, Lib.indexAny l chars = -1 ∨ ∃ k : Nat, Lib.indexAny l chars = k ∧ k < l.length
  | [] => .inl rfl
  | b :: l => by
    unfold Lib.indexAny
    split
    · exact .inr ⟨0, rfl, by simp⟩
    · rcases indexAny_cases chars l with h | ⟨k, h, hk⟩
      · left; rw [h]; rfl
      · right
        refine ⟨k + 1, ?_, by simp; omega⟩
        rw [h]
        simp
/-- The components of a text, at least one. -/
def compsF : Nat → List UInt8 → Option (List (List Item))
  | 0, _ => none
  | n + 1, l =>
    if Lib.indexAny l sepL < 0 then (compL l).map fun c => [c]
    else (compL (l.take (Lib.indexAny l sepL).toNat)).bind fun c => (compsF n (l.drop ((Lib.indexAny l sepL).toNat + 1))).map (c :: ·)
theorem compsF_fuel (n : Nat) : ∀ m l, l.length < n → l.length < m → compsF n l = compsF m l := by
  induction n with
  | zero => intro m l h1; omega
  | succ n ih =>
    intro m l h1 h2
    cases m with
    | zero => omega
    | succ m =>
      unfold compsF
      rcases indexAny_cases sepL l with h | ⟨k, h, hk⟩
      · rw [h]; rfl
      · rw [h, if_neg (by omega), if_neg (by omega)]
        rw [ih m _ (by rw [List.length_drop]; omega) (by rw [List.length_drop]; omega)]
def compsL (l : List UInt8) : Option (List (List Item)) := compsF (l.length + 1) l
theorem compsL_one {l : List UInt8} (h : Lib.indexAny l sepL = -1) : compsL l = (compL l).map fun c => [c] := by
  unfold compsL compsF
  rw [h]
  rfl
theorem compsL_more {l : List UInt8} {k : Nat} (h : Lib.indexAny l sepL = k) (hk : k < l.length) : compsL l = (compL (l.take k)).bind fun c => (compsL (l.drop (k + 1))).map (c :: ·) := by
  unfold compsL
  rw [compsF, h, if_neg (by omega), Int.toNat_natCast, compsF_fuel _ ((l.drop (k + 1)).length + 1) _ (by rw [List.length_drop]; omega) (by omega)]

theorem cut_len (l sep : List UInt8) : (Lib.cut l sep).1.length ≤ l.length ∧ (Lib.cut l sep).2.1.length ≤ l.length := by
  unfold Lib.cut
  split
  · simp [List.length_take, List.length_drop]
    omega
  · simp
/-- A text's version, without the epoch. -/
def parse2 (ep : Int) (l : List UInt8) : Option Ver :=
  (compsL (Lib.cut l [43]).1).bind fun p => if (Lib.cut l [43]).2.2 = true then (compsL (Lib.cut l [43]).2.1).map fun q => ⟨ep, p, q⟩ else some ⟨ep, p, []⟩
/-- A text's version. -/
def parseL (l : List UInt8) : Option Ver :=
  if l.length < 1 ∨ 40 < l.length then none
  else if (Lib.cut (lowL l) [33]).2.2 = true then (smallL (Lib.cut (lowL l) [33]).1 maxI).bind fun e => parse2 e (Lib.cut (lowL l) [33]).2.1
  else parse2 0 (lowL l)
end Go.Proofs.YtkmoaeckabjgnaaDoor.V
