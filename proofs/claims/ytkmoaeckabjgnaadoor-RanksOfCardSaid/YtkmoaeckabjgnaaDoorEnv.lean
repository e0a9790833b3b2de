/-
  What the walks want of the package-level variables; version.Parse by one contract.
-/
import Derived.Test.YtkmoaeckabjgnaaDoorParse1
namespace Go.Proofs.YtkmoaeckabjgnaaDoor.V
set_option linter.unusedVariables false
set_option linter.unusedSimpArgs false
open Go Go.RowKit Go.Sort

/-- What the walks want of the package-level variables. -/
structure Env (w : World) (u : TypeId) (ev : Value) (m : Int) : Prop where
  err : w.cell? ⟨8, 0, none⟩ = some (.iface u ev)
  ml : w.cell? ⟨13, 0, none⟩ = some (.int .i64 m)
theorem Env.next {w w' : World} {u : TypeId} {ev : Value} {m : Int} (h : Env w u ev m) (hb : Below w.heap.size w w') : Env w' u ev m :=
  ⟨(hb.cell (cell_lt h.err)).trans h.err, (hb.cell (cell_lt h.ml)).trans h.ml⟩
theorem ParsePost.elim_no {base : Nat} {ev : Value} {l : List UInt8} {e : Ending} {w' : World} (h : parseL l = none) (hp : ParsePost base ev l e w') : e = .returned (.tuple #[.agg #[.int .i64 0, .slice none 0 0, .slice none 0 0], ev]) := by
  unfold ParsePost at hp
  rw [h] at hp
  exact hp
theorem ParsePost.elim_yes {base : Nat} {ev : Value} {l : List UInt8} {e : Ending} {w' : World} {x : Ver} (h : parseL l = some x) (hp : ParsePost base ev l e w') :
    ∃ A1 c1 A2 c2, e = .returned (.tuple #[.agg #[.int .i64 x.epoch, .slice A1 x.parts.length c1, .slice A2 x.loc.length c2], .nilIface]) ∧
      IsVer w' (From base w') (.agg #[.int .i64 x.epoch, .slice A1 x.parts.length c1, .slice A2 x.loc.length c2]) x := by
  unfold ParsePost at hp
  rw [h] at hp
  exact hp
theorem verInfo : (Tryd.prog.info? 33).map (fun i => (i.zero, i.size, i.bytes)) = some (some (.agg #[.int .i64 0, .slice none 0 0, .slice none 0 0]), 3, 56) := by kernel_rfl
theorem from_off {w : World} {base base' : Nat} {lv : Value} (hb : base ≤ base') (hl : ∀ k, lv.ownBlock = some k → k < base') : ∀ b, From base' w b → Off w base lv b :=
  fun b h => ⟨Nat.le_trans hb h.1, h.2, fun e => by have := hl b e; have := h.1; omega⟩
theorem IsVer.rd {w : World} {ok : Nat → Prop} {n : Int} {p l : Value} {x : Ver} (h : IsVer w ok (.agg #[.int .i64 n, p, l]) x) : RVer w ok [.int .i64 n, p, l] x := by
  obtain ⟨p', l', hv, he, hp, hl⟩ := h
  injection hv with h1
  have h2 := congrArg Array.toList h1
  simp at h2
  obtain ⟨rfl, rfl, rfl⟩ := h2
  exact ⟨_, _, rfl, he, hp, hl⟩

def S (l : List UInt8) : ByteArray := ⟨l.toArray⟩
def num (n : Int) : Item := ⟨n, ByteArray.empty⟩
def wrd (l : List UInt8) : Item := ⟨0, S l⟩
/-- Parse, of whatever text: what it returns has these parts; by the two cases what they are. -/
def PTwo (base : Nat) (u : TypeId) (ev : Value) (l : List UInt8) (e : Ending) (w' : World) : Prop :=
  ∃ ep A1 n1 c1 A2 n2 c2 er, e = .returned (.tuple #[.agg #[.int .i64 ep, .slice A1 n1 c1, .slice A2 n2 c2], er]) ∧
    (parseL l = none → er = .iface u ev) ∧
    (∀ x, parseL l = some x → er = .nilIface ∧ IsVer w' (From base w') (.agg #[.int .i64 ep, .slice A1 n1 c1, .slice A2 n2 c2]) x)
theorem parse_two (s : ByteArray) (u : TypeId) (ev : Value) (m : Int) (w : World) (hE : Env w u ev m) (hs : s.size ≤ 1000000000) :
    Calls Tryd.prog 46 #[.string s] w fun e w' => PTwo w.heap.size u ev s.data.toList e w' ∧ Below w.heap.size w w' := by
  refine (Parse_any s u ev m w hs hE.err hE.ml).mono ?_
  rintro e w1 ⟨h, hb⟩
  refine ⟨?_, hb⟩
  cases hp : parseL s.data.toList with
  | none =>
    obtain rfl := ParsePost.elim_no hp h
    exact ⟨_, _, _, _, _, _, _, _, rfl, fun _ => rfl, fun x hx => by rw [hp] at hx; cases hx⟩
  | some x =>
    obtain ⟨A1, c1, A2, c2, rfl, hv⟩ := ParsePost.elim_yes hp h
    refine ⟨_, _, _, _, _, _, _, _, rfl, fun hn => (by rw [hp] at hn; cases hn), fun y hy => ?_⟩
    obtain rfl : x = y := by rw [hp] at hy; exact Option.some.inj hy
    exact ⟨rfl, hv⟩

end Go.Proofs.YtkmoaeckabjgnaaDoor.V
