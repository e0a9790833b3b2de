/-
  How terms, specs, records and lists of them read in memory.
-/
import Derived.Test.YtkmoaeckabjgnaaDoorRead
import Derived.Test.YtkmoaeckabjgnaaDoorKRank
namespace Go.Proofs.YtkmoaeckabjgnaaDoor.V
set_option linter.unusedVariables false
set_option linter.unusedSimpArgs false
open Go Go.RowKit

def RStr : Rd ByteArray := fun _ _ vs s => vs = [.string s] ∧ s.size ≤ 9223372036854775807
theorem keepsStr : Keeps RStr := fun _ _ _ _ _ _ _ _ h => h
abbrev IsStrs := IsSl 1 RStr
def RBool : Rd Bool := fun _ _ vs b => vs = [.bool b]
theorem keepsBool : Keeps RBool := fun _ _ _ _ _ _ _ _ h => h
abbrev IsBools := IsSl 1 RBool
def RTrm : Rd Trm := fun w ok vs x => ∃ p l, vs = [.string x.op, .int .i64 x.ver.epoch, p, l] ∧ x.op.size ≤ 9223372036854775807 ∧ I64 x.ver.epoch ∧ IsParts w ok p x.ver.parts ∧ IsParts w ok l x.ver.loc
theorem keepsTrm : Keeps RTrm := fun _ _ _ _ _ _ hB hs ⟨p, l, hv, ho, he, hp, hl⟩ => ⟨p, l, hv, ho, he, hp.keepOn keepsComp hB hs, hl.keepOn keepsComp hB hs⟩
abbrev IsRow := IsSl 4 RTrm
abbrev RRow := R1 4 RTrm
theorem keepsRow : Keeps RRow := keepsTrm.r1
abbrev IsRows := IsSl 1 RRow
abbrev RRows := R1 1 RRow
theorem keepsRows : Keeps RRows := keepsRow.r1
def RSpc : Rd Spc := fun w ok vs x => ∃ r, vs = [.string x.chan, .string x.name, r, .string x.build, .int .i64 x.num] ∧ (x.chan.size ≤ 9223372036854775807 ∧ x.name.size ≤ 9223372036854775807 ∧ x.build.size ≤ 9223372036854775807) ∧ I64 x.num ∧ IsRows w ok r x.rows
theorem keepsSpc : Keeps RSpc := fun _ _ _ _ _ _ hB hs ⟨r, hv, ho, he, hr⟩ => ⟨r, hv, ho, he, hr.keepOn keepsRow hB hs⟩
abbrev IsSpcs := IsSl 5 RSpc
abbrev RSpcs := R1 5 RSpc
/-- A record's texts have lengths. -/
def Rcd.sizes (x : Rcd) : Prop := x.chan.size ≤ 9223372036854775807 ∧ x.file.size ≤ 9223372036854775807 ∧ x.name.size ≤ 9223372036854775807 ∧ x.text.size ≤ 9223372036854775807 ∧ x.build.size ≤ 9223372036854775807
/-- What a record's cells read as, given the five slices. -/
def RecOf (w : World) (ok : Nat → Prop) (x : Rcd) (p l d c f : Value) : Prop :=
  x.sizes ∧ (I64 x.ver.epoch ∧ I64 x.num ∧ I64 x.time) ∧ IsParts w ok p x.ver.parts ∧ IsParts w ok l x.ver.loc ∧ IsSpcs w ok d x.deps ∧ IsSpcs w ok c x.cons ∧ IsStrs w ok f x.feats
theorem RecOf.keepOn {w w' : World} {ok ok' : Nat → Prop} {x : Rcd} {p l d c f : Value} (h : RecOf w ok x p l d c f) (hB : ∀ b, ok b → ok' b) (hs : SameOn ok w w') : RecOf w' ok' x p l d c f := by
  obtain ⟨h1, h2, h3, h4, h5, h6, h7⟩ := h
  exact ⟨h1, h2, h3.keepOn keepsComp hB hs, h4.keepOn keepsComp hB hs, h5.keepOn keepsSpc hB hs, h6.keepOn keepsSpc hB hs, h7.keepOn keepsStr hB hs⟩
theorem RecOf.keep {w w' : World} {B B' : Nat} {x : Rcd} {p l d c f : Value} (h : RecOf w (Lt B) x p l d c f) (hB : B ≤ B') (hs : Same B w w') : RecOf w' (Lt B') x p l d c f :=
  h.keepOn (fun _ hb => Nat.lt_of_lt_of_le hb hB) hs.on
def RRcd : Rd Rcd := fun w ok vs x => ∃ p l d c f, vs = [.string x.chan, .string x.file, .string x.name, .string x.text, .int .i64 x.ver.epoch, p, l, .string x.build, .int .i64 x.num, .int .i64 x.time, d, c, f] ∧ RecOf w ok x p l d c f
theorem keepsRcd : Keeps RRcd := fun _ _ _ _ _ _ hB hs ⟨p, l, d, c, f, hv, h⟩ => ⟨p, l, d, c, f, hv, h.keepOn hB hs⟩
abbrev IsRcds := IsSl 13 RRcd
/-- A record by value. -/
def IsRcd (w : World) (ok : Nat → Prop) (v : Value) (x : Rcd) : Prop := ∃ p l d c f, v = .agg #[.string x.chan, .string x.file, .string x.name, .string x.text, .int .i64 x.ver.epoch, p, l, .string x.build, .int .i64 x.num, .int .i64 x.time, d, c, f] ∧ RecOf w ok x p l d c f
theorem IsRcd.keepOn {w w' : World} {ok ok' : Nat → Prop} {v : Value} {x : Rcd} (h : IsRcd w ok v x) (hB : ∀ b, ok b → ok' b) (hs : SameOn ok w w') : IsRcd w' ok' v x := by
  obtain ⟨p, l, d, c, f, hv, h⟩ := h
  exact ⟨p, l, d, c, f, hv, h.keepOn hB hs⟩
theorem IsRcd.keep {w w' : World} {B B' : Nat} {v : Value} {x : Rcd} (h : IsRcd w (Lt B) v x) (hB : B ≤ B') (hs : Same B w w') : IsRcd w' (Lt B') v x :=
  h.keepOn (fun _ hb => Nat.lt_of_lt_of_le hb hB) hs.on
theorem RecOf.ver {w : World} {ok : Nat → Prop} {x : Rcd} {p l d c f : Value} (h : RecOf w ok x p l d c f) : IsVer w ok (.agg #[.int .i64 x.ver.epoch, p, l]) x.ver := ⟨p, l, rfl, h.2.1.1, h.2.2.1, h.2.2.2.1⟩

/-- The slices of a record, written out. -/
theorem RecOf.form {w : World} {ok : Nat → Prop} {x : Rcd} {p l d c f : Value} (h : RecOf w ok x p l d c f) :
    ∃ A1 c1 A2 c2 A3 c3 A4 c4 A5 c5, p = .slice A1 x.ver.parts.length c1 ∧ l = .slice A2 x.ver.loc.length c2 ∧ d = .slice A3 x.deps.length c3 ∧ c = .slice A4 x.cons.length c4 ∧ f = .slice A5 x.feats.length c5 := by
  obtain ⟨_, _, h3, h4, h5, h6, h7⟩ := h
  obtain ⟨A1, c1, rfl, _⟩ := h3.form
  obtain ⟨A2, c2, rfl, _⟩ := h4.form
  obtain ⟨A3, c3, rfl, _⟩ := h5.form
  obtain ⟨A4, c4, rfl, _⟩ := h6.form
  obtain ⟨A5, c5, rfl, _⟩ := h7.form
  exact ⟨A1, c1, A2, c2, A3, c3, A4, c4, A5, c5, rfl, rfl, rfl, rfl, rfl⟩
/-- An element of a list of records: its cells and their reading. -/
theorem rcds_at {A : Option Addr} {n c : Nat} {xs : List Rcd} {B : Nat} {w : World} (h : IsRcds w (Lt B) (.slice A n c) xs) {i : Nat} {x : Rcd} (hi : xs[i]? = some x) :
    ∃ b o A1 n1 c1 A2 n2 c2 A3 n3 c3 A4 n4 c4 A5 n5 c5, A = some ⟨b, o, none⟩ ∧ b < B ∧ RecOf w (Lt B) x (.slice A1 n1 c1) (.slice A2 n2 c2) (.slice A3 n3 c3) (.slice A4 n4 c4) (.slice A5 n5 c5) ∧
      Row w b (o + i * 13) [.string x.chan, .string x.file, .string x.name, .string x.text, .int .i64 x.ver.epoch, .slice A1 n1 c1, .slice A2 n2 c2, .string x.build, .int .i64 x.num, .int .i64 x.time, .slice A3 n3 c3, .slice A4 n4 c4, .slice A5 n5 c5] := by
  obtain ⟨b, o, vs, hA, hb, hlen, ⟨p, l, d, cc, f, rfl, hr⟩, hrow⟩ := h.at_ hi
  obtain ⟨A1, c1, A2, c2, A3, c3, A4, c4, A5, c5, rfl, rfl, rfl, rfl, rfl⟩ := hr.form
  exact ⟨b, o, A1, _, c1, A2, _, c2, A3, _, c3, A4, _, c4, A5, _, c5, hA, hb, hr, hrow⟩
theorem strs_at {A : Option Addr} {n c : Nat} {xs : List ByteArray} {B : Nat} {w : World} (h : IsStrs w (Lt B) (.slice A n c) xs) {i : Nat} {x : ByteArray} (hi : xs[i]? = some x) :
    ∃ b o, A = some ⟨b, o, none⟩ ∧ b < B ∧ x.size ≤ 9223372036854775807 ∧ w.cell? ⟨b, o + i, none⟩ = some (.string x) := by
  obtain ⟨b, o, vs, hA, hb, hlen, ⟨rfl, hs⟩, hrow⟩ := h.at_ hi
  exact ⟨b, o, hA, hb, hs, by simpa using hrow 0 _ rfl⟩
theorem bools_at {A : Option Addr} {n c : Nat} {xs : List Bool} {B : Nat} {w : World} (h : IsBools w (Lt B) (.slice A n c) xs) {i : Nat} {x : Bool} (hi : xs[i]? = some x) :
    ∃ b o, A = some ⟨b, o, none⟩ ∧ b < B ∧ w.cell? ⟨b, o + i, none⟩ = some (.bool x) := by
  obtain ⟨b, o, vs, hA, hb, hlen, rfl, hrow⟩ := h.at_ hi
  exact ⟨b, o, hA, hb, by simpa using hrow 0 _ rfl⟩
end Go.Proofs.YtkmoaeckabjgnaaDoor.V
