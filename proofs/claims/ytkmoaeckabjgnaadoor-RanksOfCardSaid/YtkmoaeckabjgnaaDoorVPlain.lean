/-
  Plain data and plain functions of the versions: what the program's version package computes, and that its order is one. No program in it.
-/
import Derived.Lib.Strings
import Derived.Below
namespace Go.Proofs.YtkmoaeckabjgnaaDoor.V
set_option linter.unusedVariables false
set_option linter.unusedSimpArgs false

structure Item where
  n : Int
  word : ByteArray

def Item.zero : Item := ⟨0, ByteArray.empty⟩

structure Ver where
  epoch : Int
  parts : List (List Item)
  loc : List (List Item)

/-- A three-valued order. -/
structure Ord3 {α : Type} (c : α → α → Int) : Prop where
  range : ∀ a b, c a b = -1 ∨ c a b = 0 ∨ c a b = 1
  anti : ∀ a b, c b a = - c a b
  le : ∀ a b d, c a b ≤ 0 → c b d ≤ 0 → c a d ≤ 0

namespace Ord3
variable {α β : Type} {c : α → α → Int}
theorem refl (h : Ord3 c) (a : α) : c a a = 0 := by have := h.anti a a; omega
theorem lt_le (h : Ord3 c) {a b d : α} (h1 : c a b < 0) (h2 : c b d ≤ 0) : c a d = -1 := by
  have h3 := h.le a b d (by omega) h2
  rcases h.range a d with e | e | e
  · exact e
  · have h4 := h.anti a d
    have h5 := h.le b d a h2 (by omega)
    have h6 := h.anti a b
    omega
  · omega
theorem le_lt (h : Ord3 c) {a b d : α} (h1 : c a b ≤ 0) (h2 : c b d < 0) : c a d = -1 := by
  have h3 := h.le a b d h1 (by omega)
  rcases h.range a d with e | e | e
  · exact e
  · have h4 := h.anti a d
    have h5 := h.le d a b (by omega) h1
    have h6 := h.anti b d
    omega
  · omega
theorem eq_left (h : Ord3 c) {a b : α} (d : α) (h1 : c a b = 0) : c a d = c b d := by
  have h2 := h.anti a b
  rcases h.range b d with e | e | e
  · rw [e]; exact h.le_lt (b := b) (by omega) (by omega)
  · have h3 := h.le a b d (by omega) (by omega)
    have h4 := h.anti b d
    have h5 := h.le d b a (by omega) (by omega)
    have h6 := h.anti a d
    omega
  · have h4 := h.anti b d
    have h5 := h.lt_le (a := d) (b := b) (d := a) (by omega) (by omega)
    have h6 := h.anti a d
    omega
theorem eq_right (h : Ord3 c) {a b : α} (d : α) (h1 : c a b = 0) : c d a = c d b := by
  have h2 := h.eq_left d h1
  have h3 := h.anti a d
  have h4 := h.anti b d
  omega
theorem on (h : Ord3 c) (f : β → α) : Ord3 (fun x y => c (f x) (f y)) :=
  ⟨fun _ _ => h.range _ _, fun _ _ => h.anti _ _, fun _ _ _ => h.le _ _ _⟩
end Ord3

/-- The first that is not 0. -/
def or2 (a b : Int) : Int := if a = 0 then b else a
theorem Ord3.or2 {α : Type} {c d : α → α → Int} (hc : Ord3 c) (hd : Ord3 d) : Ord3 (fun x y => or2 (c x y) (d x y)) where
  range a b := by
    unfold V.or2
    split
    · exact hd.range a b
    · exact hc.range a b
  anti a b := by
    have h1 := hc.anti a b
    have h2 := hd.anti a b
    unfold V.or2
    split <;> split <;> omega
  le a b e := by
    unfold V.or2
    intro h1 h2
    by_cases e1 : c a b = 0
    · rw [if_pos e1] at h1
      by_cases e2 : c b e = 0
      · rw [if_pos e2] at h2
        have e3 := hc.eq_left e e1
        rw [if_pos (by omega)]
        exact hd.le a b e h1 h2
      · rw [if_neg e2] at h2
        have e3 := hc.eq_left e e1
        rw [if_neg (by omega)]
        omega
    · rw [if_neg e1] at h1
      by_cases e2 : c b e = 0
      · have e3 := hc.eq_right a e2
        rw [if_neg (by omega)]
        omega
      · rw [if_neg e2] at h2
        have e3 := hc.lt_le (a := a) (b := b) (d := e) (by omega) h2
        rw [if_neg (by omega)]
        omega

/-- The first of d numbers from i on that is not 0. -/
def nz (f : Nat → Int) (i : Nat) : Nat → Int
  | 0 => 0
  | d + 1 => if f i = 0 then nz f (i + 1) d else f i
theorem nz_congr {f g : Nat → Int} (d : Nat) : ∀ i, (∀ j, i ≤ j → j < i + d → f j = g j) → nz f i d = nz g i d := by
  induction d with
  | zero => intro i _; rfl
  | succ d ih =>
    intro i h
    unfold nz
    rw [h i (by omega) (by omega), ih (i + 1) (fun j h1 h2 => h j (by omega) (by omega))]
theorem nz_more {f : Nat → Int} (d : Nat) : ∀ i m, (∀ j, i + d ≤ j → f j = 0) → nz f i (d + m) = nz f i d := by
  induction d with
  | zero =>
    intro i m
    induction m generalizing i with
    | zero => intro _; rfl
    | succ m ih =>
      intro h
      rw [Nat.zero_add]
      unfold nz
      rw [if_pos (h i (by omega))]
      have := ih (i + 1) (fun j hj => h j (by omega))
      rw [Nat.zero_add] at this
      simpa [nz] using this
  | succ d ih =>
    intro i m h
    rw [show d + 1 + m = (d + m) + 1 by omega]
    unfold nz
    rw [ih (i + 1) m (fun j hj => h j (by omega))]
theorem nz_zero {f : Nat → Int} (d : Nat) : ∀ i, (∀ j, i ≤ j → j < i + d → f j = 0) → nz f i d = 0 := by
  induction d with
  | zero => intro i _; rfl
  | succ d ih =>
    intro i h
    unfold nz
    rw [if_pos (h i (by omega) (by omega)), ih (i + 1) (fun j h1 h2 => h j (by omega) (by omega))]
theorem nz_eq_zero {f : Nat → Int} (d : Nat) : ∀ i, nz f i d = 0 → ∀ j, i ≤ j → j < i + d → f j = 0 := by
  induction d with
  | zero => intro i _ j h1 h2; omega
  | succ d ih =>
    intro i h j h1 h2
    unfold nz at h
    by_cases e : f i = 0
    · rw [if_pos e] at h
      by_cases ej : j = i
      · subst ej; exact e
      · exact ih (i + 1) h j (by omega) (by omega)
    · rw [if_neg e] at h
      exact absurd h e
theorem Ord3.nz {α : Type} {c : α → α → Int} (hc : Ord3 c) (d : Nat) : ∀ i, Ord3 (fun x y : Nat → α => nz (fun j => c (x j) (y j)) i d) := by
  induction d with
  | zero => intro i; exact ⟨fun _ _ => by simp [V.nz], fun _ _ => by simp [V.nz], fun _ _ _ => by simp [V.nz]⟩
  | succ d ih =>
    intro i
    exact (hc.on (fun x : Nat → α => x i)).or2 (ih (i + 1))

/-- Two lists held against each other, as if the shorter one went on with z. -/
def rowsC {α : Type} (c : α → α → Int) (z : α) (a b : List α) : Int := nz (fun i => c (a.getD i z) (b.getD i z)) 0 (max a.length b.length)
theorem rowsC_at {α : Type} {c : α → α → Int} (hc : Ord3 c) (z : α) (a b : List α) (n : Nat) (ha : a.length ≤ n) (hb : b.length ≤ n) :
    rowsC c z a b = nz (fun i => c (a.getD i z) (b.getD i z)) 0 n := by
  unfold rowsC
  obtain ⟨m, rfl⟩ : ∃ m, n = max a.length b.length + m := ⟨n - max a.length b.length, by omega⟩
  rw [nz_more]
  intro j hj
  rw [Nat.zero_add] at hj
  simp only [List.getD, List.getElem?_eq_none (show a.length ≤ j by omega), List.getElem?_eq_none (show b.length ≤ j by omega), Option.getD_none]
  exact hc.refl z
theorem Ord3.rows {α : Type} {c : α → α → Int} (hc : Ord3 c) (z : α) : Ord3 (rowsC c z) where
  range a b := ((hc.nz (max a.length b.length) 0).on (fun (l : List α) (i : Nat) => l.getD i z)).range a b
  anti a b := by
    have h := ((hc.nz (max a.length b.length) 0).on (fun (l : List α) (i : Nat) => l.getD i z)).anti a b
    rw [rowsC_at hc z b a (max a.length b.length) (by omega) (by omega)]
    exact h
  le a b d := by
    have h := ((hc.nz (max (max a.length b.length) d.length) 0).on (fun (l : List α) (i : Nat) => l.getD i z)).le a b d
    rw [rowsC_at hc z a b (max (max a.length b.length) d.length) (by omega) (by omega), rowsC_at hc z b d (max (max a.length b.length) d.length) (by omega) (by omega), rowsC_at hc z a d (max (max a.length b.length) d.length) (by omega) (by omega)]
    exact h

/-- Numbers. -/
def cmpI (a b : Int) : Int := if a < b then -1 else if b < a then 1 else 0
theorem ordI : Ord3 cmpI where
  range a b := by unfold cmpI; split <;> (try split) <;> simp
  anti a b := by unfold cmpI; split <;> split <;> (try split) <;> omega
  le a b d := by unfold cmpI; split <;> split <;> (try split) <;> (try split) <;> (try split) <;> (try split) <;> omega


/-- Texts, byte by byte. -/
def cmpL : List UInt8 → List UInt8 → Int
  | [], [] => 0
  | [], _ :: _ => -1
  | _ :: _, [] => 1
  | a :: x, b :: y => if a.toNat < b.toNat then -1 else if b.toNat < a.toNat then 1 else cmpL x y
theorem cmpL_range : ∀ a b, cmpL a b = -1 ∨ cmpL a b = 0 ∨ cmpL a b = 1
  | [], [] => by simp [cmpL]
  | [], _ :: _ => by simp [cmpL]
  | _ :: _, [] => by simp [cmpL]
  | a :: x, b :: y => by
    have := cmpL_range x y
    unfold cmpL
    split
    · simp
    · split
      · simp
      · exact this
theorem cmpL_anti : ∀ a b, cmpL b a = - cmpL a b
  | [], [] => by simp [cmpL]
  | [], _ :: _ => by simp [cmpL]
  | _ :: _, [] => by simp [cmpL]
  | a :: x, b :: y => by
    have := cmpL_anti x y
    unfold cmpL
    split <;> split <;> omega
theorem cmpL_le : ∀ a b d, cmpL a b ≤ 0 → cmpL b d ≤ 0 → cmpL a d ≤ 0
  | [], _, [] => by simp [cmpL]
  | [], _, _ :: _ => by simp [cmpL]
  | _ :: _, [], _ => by simp [cmpL]
  | a :: x, b :: y, [] => by simp [cmpL]
  | a :: x, b :: y, d :: z => by
    have := cmpL_le x y z
    unfold cmpL
    intro h1 h2
    split at h1 <;> split at h2 <;> (try split at h1) <;> (try split at h2) <;> split <;> (try split) <;> first | omega | (apply this <;> assumption)
theorem cmpL_eq : ∀ a b, cmpL a b = 0 ↔ a = b
  | [], [] => by simp [cmpL]
  | [], _ :: _ => by simp [cmpL]
  | _ :: _, [] => by simp [cmpL]
  | a :: x, b :: y => by
    have := cmpL_eq x y
    unfold cmpL
    have e : a = b ↔ a.toNat = b.toNat := ⟨fun h => by rw [h], fun h => UInt8.toNat_inj.1 h⟩
    split
    · simp; intro h; rw [e] at h; omega
    · split
      · simp; intro h; rw [e] at h; omega
      · rw [this, List.cons.injEq, e]; constructor
        · intro h; exact ⟨by omega, h⟩
        · intro h; exact h.2
theorem cmpL_less : ∀ a b, Op.bytesLess a b = decide (cmpL a b = -1)
  | [], [] => by simp [cmpL, Op.bytesLess]
  | [], _ :: _ => by simp [cmpL, Op.bytesLess]
  | _ :: _, [] => by simp [cmpL, Op.bytesLess]
  | a :: x, b :: y => by
    have := cmpL_less x y
    have e : a = b ↔ a.toNat = b.toNat := ⟨fun h => by rw [h], fun h => UInt8.toNat_inj.1 h⟩
    unfold cmpL Op.bytesLess
    by_cases h1 : a.toNat < b.toNat
    · simp [h1, UInt8.lt_iff_toNat_lt]
    · by_cases h2 : b.toNat < a.toNat
      · have : ¬ a = b := by rw [e]; omega
        simp [h1, h2, UInt8.lt_iff_toNat_lt, this]
      · have : a = b := by rw [e]; omega
        subst this
        simp [h1, cmpL_less x y]
/-- The first of some numbers that is not 0. -/
def orL : List Int → Int
  | [] => 0
  | a :: l => if a = 0 then orL l else a
theorem ordL : Ord3 cmpL := ⟨cmpL_range, cmpL_anti, cmpL_le⟩

/-- The place of an item's sort among the sorts. -/
def cls (s : List UInt8) : Int := if s = [100, 101, 118] then 0 else if s = [] then 2 else if s = [112, 111, 115, 116] then 3 else 1
theorem cls_range (s : List UInt8) : 0 ≤ cls s ∧ cls s ≤ 3 := by unfold cls; split <;> (try split) <;> (try split) <;> omega

def Item.w (x : Item) : List UInt8 := x.word.toList
/-- Which item comes ahead. -/
def cmpItem (a b : Item) : Int := or2 (cmpI (cls a.w) (cls b.w)) (or2 (cmpL a.w b.w) (cmpI a.n b.n))
theorem ordItem : Ord3 cmpItem := (ordI.on (fun x : Item => cls x.w)).or2 ((ordL.on Item.w).or2 (ordI.on Item.n))

def cmpComp (a b : List Item) : Int := rowsC cmpItem Item.zero a b
theorem ordComp : Ord3 cmpComp := ordItem.rows _
def cmpParts (a b : List (List Item)) : Int := rowsC cmpComp [] a b
theorem ordParts : Ord3 cmpParts := ordComp.rows _
def cmpVer (a b : Ver) : Int := or2 (cmpI a.epoch b.epoch) (or2 (cmpParts a.parts b.parts) (cmpParts a.loc b.loc))
theorem ordVer : Ord3 cmpVer := (ordI.on Ver.epoch).or2 ((ordParts.on Ver.parts).or2 (ordParts.on Ver.loc))

end Go.Proofs.YtkmoaeckabjgnaaDoor.V
