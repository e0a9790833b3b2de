/-
  The map of channels' places, key by key; the list of ranks as cells.
-/
import Derived.Test.YtkmoaeckabjgnaaDoorKRk
import Derived.Maps.OwnSet
namespace Go.Proofs.YtkmoaeckabjgnaaDoor.V
set_option linter.unusedVariables false
set_option linter.unusedSimpArgs false
open Go Go.RowKit Go.Maps Go.WideMaps

def hasTo (ch : List ByteArray) : Nat → ByteArray → Bool
  | 0, _ => false
  | k + 1, s => hasTo ch k s || nmE (ch.getD k ByteArray.empty) s
/-- The place of the first of the first k that is s; 0 if there is none. -/
def placeTo (ch : List ByteArray) : Nat → ByteArray → Nat
  | 0, _ => 0
  | k + 1, s => if hasTo ch k s then placeTo ch k s else if nmE (ch.getD k ByteArray.empty) s then k else 0
def placeL (ch : List ByteArray) (s : ByteArray) : Nat := placeTo ch ch.length s
def klS (s : ByteArray) : Lit := .string s.data.toList
theorem law : Keyed Tryd.prog 9 := string_keyed Tryd.underlying9
theorem zeroInt (w : World) : (zeroValue 3).run Tryd.prog w = .ok (.int .i64 0) w := by kernel_rfl
theorem key_ok {s : ByteArray} (hs : s.size ≤ 9223372036854775807) : keyOf Tryd.prog 9 (.string s) = some (klS s) := keyOf_string_mk Tryd.underlying9 (by unfold maxLen; omega)
theorem nmE_lit {a b : ByteArray} : nmE a b = true ↔ klS a = klS b := by
  unfold nmE klS
  simp
theorem hasTo_congr {ch : List ByteArray} {a b : ByteArray} (h : nmE a b = true) : ∀ k, hasTo ch k a = hasTo ch k b
  | 0 => rfl
  | k + 1 => by rw [hasTo, hasTo, hasTo_congr h k, nmE_eq h]
theorem placeTo_congr {ch : List ByteArray} {a b : ByteArray} (h : nmE a b = true) : ∀ k, placeTo ch k a = placeTo ch k b
  | 0 => rfl
  | k + 1 => by rw [placeTo, placeTo, hasTo_congr h k, placeTo_congr h k, nmE_eq h]
theorem placeTo_none {ch : List ByteArray} {s : ByteArray} : ∀ k, hasTo ch k s = false → placeTo ch k s = 0
  | 0, _ => rfl
  | k + 1, h => by
    rw [hasTo, Bool.or_eq_false_iff] at h
    rw [placeTo, h.1, h.2]
    simp
theorem placeTo_lt {ch : List ByteArray} {s : ByteArray} : ∀ k, placeTo ch k s ≤ k
  | 0 => Nat.le_refl _
  | k + 1 => by
    have := placeTo_lt (ch := ch) (s := s) k
    rw [placeTo]
    split
    · omega
    · split <;> omega
/-- What the map holds behind k rounds. -/
structure PlInv (ch : List ByteArray) (k : Nat) (D : DataW Unit) : Prop where
  has_ : ∀ s, Maps.has D (klS s) = hasTo ch k s
  at_ : ∀ s, D.atKey (klS s) (.lit (.int .i64 0)) = .lit (.int .i64 (placeTo ch k s))
theorem PlInv.start (ch : List ByteArray) : PlInv ch 0 (.map []) := ⟨fun _ => rfl, fun _ => rfl⟩
theorem PlInv.skip {ch : List ByteArray} {k : Nat} {D : DataW Unit} (h : PlInv ch k D) (hs : hasTo ch k (ch.getD k ByteArray.empty) = true) : PlInv ch (k + 1) D := by
  have e1 : ∀ s, hasTo ch (k + 1) s = hasTo ch k s := fun s => by
    rw [hasTo]
    cases hn : nmE (ch.getD k ByteArray.empty) s with
    | false => simp
    | true => rw [← hasTo_congr hn, hs]; rfl
  refine ⟨fun s => by rw [h.has_, e1], fun s => ?_⟩
  rw [h.at_, placeTo]
  cases ha : hasTo ch k s with
  | true => simp
  | false =>
    cases hn : nmE (ch.getD k ByteArray.empty) s with
    | false => rw [placeTo_none k ha]; simp
    | true => rw [← hasTo_congr hn, hs] at ha; cases ha
theorem PlInv.put {ch : List ByteArray} {k : Nat} {D : DataW Unit} (h : PlInv ch k D) (hD : IsMap D) (hs : hasTo ch k (ch.getD k ByteArray.empty) = false) :
    PlInv ch (k + 1) (D.put (klS (ch.getD k ByteArray.empty)) (.lit (.int .i64 k))) := by
  have hkl : WideAt.IsKeyLit (klS (ch.getD k ByteArray.empty)) := trivial
  constructor
  · intro s
    rw [hasTo]
    cases hn : nmE (ch.getD k ByteArray.empty) s with
    | true => rw [← nmE_lit.1 hn, has_put_same hD hkl]; simp
    | false => rw [has_put_other (fun e => by rw [nmE_lit.2 e.symm] at hn; cases hn), h.has_]; simp
  · intro s
    rw [placeTo]
    cases hn : nmE (ch.getD k ByteArray.empty) s with
    | true => rw [← nmE_lit.1 hn, atKey_put_same hD hkl, ← hasTo_congr hn, hs]; simp
    | false =>
      rw [atKey_put_other (fun e => by rw [nmE_lit.2 e.symm] at hn; cases hn), h.at_]
      cases ha : hasTo ch k s with
      | true => simp
      | false => rw [placeTo_none k ha]; simp
theorem ownsMap_block {P : Program} {k : TypeId} {R : Value → Option (DataW Unit × List MemPlace)} {w w' : World} {b n : Nat} {D : DataW Unit} (h : w.ownsMap P k R b n D) (hb : w'.heap[b]? = w.heap[b]?) : w'.ownsMap P k R b n D := by
  obtain ⟨es, clock, h1, r⟩ := h
  exact ⟨es, clock, hb.trans h1, r⟩

/-! Ranks. -/
def rkOf (xs : List Rcd) (on : List Bool) (ch : List ByteArray) (x : Rcd) : Rk := ⟨rankV xs on x, rankN xs on x, placeL ch x.chan, rankT xs on x⟩
def ranksL (xs : List Rcd) (on : List Bool) (ch : List ByteArray) : List Rk := xs.map (rkOf xs on ch)
def RRk : Rd Rk := fun _ _ vs r => vs = [.int .i64 r.v, .int .i64 r.n, .int .i64 r.c, .int .i64 r.t]
theorem keepsRk : Keeps RRk := fun _ _ _ _ _ _ _ _ h => h
/-- The cells of a list of ranks, the first k laid. -/
structure RkTo (rs : List Rk) (k : Nat) (cs : Array Value) : Prop where
  size : cs.size = rs.length * 4
  at_ : ∀ i r, i < k → rs[i]? = some r → cs[i * 4]? = some (.int .i64 r.v) ∧ cs[i * 4 + 1]? = some (.int .i64 r.n) ∧ cs[i * 4 + 2]? = some (.int .i64 r.c) ∧ cs[i * 4 + 3]? = some (.int .i64 r.t)
theorem RkTo.step {rs : List Rk} {k : Nat} {cs : Array Value} {r : Rk} {u : Value} (h : RkTo rs k cs) (hr : rs[k]? = some r) :
    RkTo rs (k + 1) (((((cs.setIfInBounds (k * 4) (.int .i64 r.v)).setIfInBounds (k * 4 + 1) (.int .i64 r.n)).setIfInBounds (k * 4 + 2) u).setIfInBounds (k * 4 + 3) (.int .i64 r.t)).setIfInBounds (k * 4 + 2) (.int .i64 r.c)) := by
  have hk := (List.getElem?_eq_some_iff.1 hr).1
  have hsz := h.size
  refine ⟨by simpa using hsz, fun i q hi hq => ?_⟩
  by_cases e : i = k
  · subst e
    rw [hr] at hq
    obtain rfl := Option.some.inj hq
    have l0 : i * 4 < cs.size := by omega
    have l1 : i * 4 + 1 < cs.size := by omega
    have l2 : i * 4 + 2 < cs.size := by omega
    have l3 : i * 4 + 3 < cs.size := by omega
    refine ⟨?_, ?_, ?_, ?_⟩ <;> simp [Array.getElem?_setIfInBounds, l0, l1, l2, l3]
  · have h1 := h.at_ i q (by omega) hq
    have d0 : ∀ j, j < 4 → ∀ j', j' < 4 → ¬ k * 4 + j = i * 4 + j' := fun j _ j' _ => by omega
    have e0 := fun j' (h' : j' < 4) => d0 0 (by omega) j' h'
    simp only [Nat.add_zero] at e0
    refine ⟨?_, ?_, ?_, ?_⟩
    · rw [Array.getElem?_setIfInBounds_ne (by omega), Array.getElem?_setIfInBounds_ne (by omega), Array.getElem?_setIfInBounds_ne (by omega), Array.getElem?_setIfInBounds_ne (by omega), Array.getElem?_setIfInBounds_ne (by omega)]
      exact h1.1
    · rw [Array.getElem?_setIfInBounds_ne (by omega), Array.getElem?_setIfInBounds_ne (by omega), Array.getElem?_setIfInBounds_ne (by omega), Array.getElem?_setIfInBounds_ne (by omega), Array.getElem?_setIfInBounds_ne (by omega)]
      exact h1.2.1
    · rw [Array.getElem?_setIfInBounds_ne (by omega), Array.getElem?_setIfInBounds_ne (by omega), Array.getElem?_setIfInBounds_ne (by omega), Array.getElem?_setIfInBounds_ne (by omega), Array.getElem?_setIfInBounds_ne (by omega)]
      exact h1.2.2.1
    · rw [Array.getElem?_setIfInBounds_ne (by omega), Array.getElem?_setIfInBounds_ne (by omega), Array.getElem?_setIfInBounds_ne (by omega), Array.getElem?_setIfInBounds_ne (by omega), Array.getElem?_setIfInBounds_ne (by omega)]
      exact h1.2.2.2
theorem RkTo.sl {rs : List Rk} {cs : Array Value} {w : World} {g : Nat} {ok : Nat → Prop} (h : RkTo rs rs.length cs) (hb : Blk w g 40 cs) (hok : ok g) (hl : rs.length ≤ 9223372036854775807) : IsSl 4 RRk w ok (.slice (some ⟨g, 0, none⟩) rs.length rs.length) rs := by
  refine ⟨some ⟨g, 0, none⟩, rs.length, rfl, Nat.le_refl _, hl, fun i r hi => ?_⟩
  have hlt := (List.getElem?_eq_some_iff.1 hi).1
  obtain ⟨h0, h1, h2, h3⟩ := h.at_ i r hlt hi
  refine ⟨g, 0, [.int .i64 r.v, .int .i64 r.n, .int .i64 r.c, .int .i64 r.t], rfl, hok, rfl, rfl, fun j u hj => ?_⟩
  rw [Nat.zero_add, hb.cell]
  match j, hj with
  | 0, hj => obtain rfl : (Value.int .i64 r.v) = u := by simpa using hj
             exact h0
  | 1, hj => obtain rfl : (Value.int .i64 r.n) = u := by simpa using hj
             exact h1
  | 2, hj => obtain rfl : (Value.int .i64 r.c) = u := by simpa using hj
             exact h2
  | 3, hj => obtain rfl : (Value.int .i64 r.t) = u := by simpa using hj
             exact h3
  | j + 4, hj => simp at hj
theorem rks_at {A : Option Addr} {n c : Nat} {xs : List Rk} {ok : Nat → Prop} {w : World} (h : IsSl 4 RRk w ok (.slice A n c) xs) {i : Nat} {x : Rk} (hi : xs[i]? = some x) :
    ∃ b o, A = some ⟨b, o, none⟩ ∧ ok b ∧ w.cell? ⟨b, o + i * 4, none⟩ = some (.int .i64 x.v) ∧ w.cell? ⟨b, o + i * 4 + 1, none⟩ = some (.int .i64 x.n) ∧ w.cell? ⟨b, o + i * 4 + 2, none⟩ = some (.int .i64 x.c) ∧ w.cell? ⟨b, o + i * 4 + 3, none⟩ = some (.int .i64 x.t) := by
  obtain ⟨b, o, vs, hA, hb, hlen, rfl, hrow⟩ := h.at_ hi
  exact ⟨b, o, hA, hb, hrow 0 _ rfl, hrow 1 _ rfl, hrow 2 _ rfl, hrow 3 _ rfl⟩
end Go.Proofs.YtkmoaeckabjgnaaDoor.V
