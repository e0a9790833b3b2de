/-
  NARROWER THAN 'FOR EVERY INPUT', by the rows' own cells (each row's printed sentence says how): RanksOrder: laid · RanksOff: laid · RanksBest: laid · RanksOf: laid · AimsNone: laid · RanksSums: laid · AimsOne: laid · AimsOrder: laid · AimsTuples: laid.
  DERIVED. THE GIVEN ROWS OF THIS SEAT. 9 by the template 'for every input the law returns true; each argument reads behind the call as it read before'; 0 by the template 'total and deterministic' (their statements: YtkmoaeckabjgnaaDoorTotals.lean).
  GIVEN WITH THE SEED: the statements are not yours to turn. If you find one false, say at which input.
  Laid BY PROGRAM, IN A SANDBOX (cutbox-rows.mjs): the forced cells as the released guide's own fill.sh prints them over the translation b298b29baf88cf97… (all of the seat's roots in one cut). By AI agents, Wed Nov 11 2026. No macro, syntax, notation, axiom, sorry.
-/
import Derived.Test.YtkmoaeckabjgnaaDoorChecked
import GoSem.Claim
import GoSem.ClaimJoined
import GoSem.ClaimMapViews
import Derived.JoinedTies
import Derived.KernelRfl
namespace Go.Proofs.YtkmoaeckabjgnaaDoor
/- THE CELL 'sum', in the pinned program and in every row, IS THE sha256 OF THE DUMP (.gsa) THAT YtkmoaeckabjgnaaDoorProg.lean LOADS. Nothing in Lean hashes anything: it is a label: what it is worth is what the hold of that sum in a sandbox is worth. -/
noncomputable def Tryd.pinned : Pinned := { name := "ytkmoaeckabjgnaadoor", sum := "b298b29baf88cf97f64213faae6ff87323e12b636f9cec4f32c1677fe71476e8", checked := Tryd.checked }
namespace Rows
def none {H : Type} : Left H := { results := [], args := [] }

/- WHAT THE LISTED PACKAGE-LEVEL VARIABLES READ AS WHEN THE CALL BEGINS. Each datum BY PROGRAM (the guide's laid-datum.mjs) off the statement by which the dump's own 'gosem.cut.vars' lays the variable. In a bare row this is a premise. The card (YtkmoaeckabjgnaaDoorCards.lean) ties it to the program's text. -/
def laid_haversack_api_ErrSize {H : Type} : DataW H := .iface "*errors.errorString" (.ptr (.agg [.lit (.string [104, 97, 118, 101, 114, 115, 97, 99, 107, 58, 32, 115, 105, 122, 101])]))
def laid_haversack_api_ErrVersion {H : Type} : DataW H := .iface "*errors.errorString" (.ptr (.agg [.lit (.string [104, 97, 118, 101, 114, 115, 97, 99, 107, 58, 32, 118, 101, 114, 115, 105, 111, 110])]))
def laid_haversack_api_ErrRange {H : Type} : DataW H := .iface "*errors.errorString" (.ptr (.agg [.lit (.string [104, 97, 118, 101, 114, 115, 97, 99, 107, 58, 32, 114, 97, 110, 103, 101])]))
def laid_haversack_api_ErrSyntax {H : Type} : DataW H := .iface "*errors.errorString" (.ptr (.agg [.lit (.string [104, 97, 118, 101, 114, 115, 97, 99, 107, 58, 32, 115, 121, 110, 116, 97, 120])]))
def laid_haversack_api_ErrDepth {H : Type} : DataW H := .iface "*errors.errorString" (.ptr (.agg [.lit (.string [104, 97, 118, 101, 114, 115, 97, 99, 107, 58, 32, 100, 101, 112, 116, 104])]))
def laid_haversack_api_ErrNumber {H : Type} : DataW H := .iface "*errors.errorString" (.ptr (.agg [.lit (.string [104, 97, 118, 101, 114, 115, 97, 99, 107, 58, 32, 110, 117, 109, 98, 101, 114])]))
def laid_haversack_api_ErrKey {H : Type} : DataW H := .iface "*errors.errorString" (.ptr (.agg [.lit (.string [104, 97, 118, 101, 114, 115, 97, 99, 107, 58, 32, 107, 101, 121])]))
def laid_haversack_api_ErrType {H : Type} : DataW H := .iface "*errors.errorString" (.ptr (.agg [.lit (.string [104, 97, 118, 101, 114, 115, 97, 99, 107, 58, 32, 116, 121, 112, 101])]))
def laid_haversack_api_ErrName {H : Type} : DataW H := .iface "*errors.errorString" (.ptr (.agg [.lit (.string [104, 97, 118, 101, 114, 115, 97, 99, 107, 58, 32, 110, 97, 109, 101])]))
def laid_haversack_api_ErrSpec {H : Type} : DataW H := .iface "*errors.errorString" (.ptr (.agg [.lit (.string [104, 97, 118, 101, 114, 115, 97, 99, 107, 58, 32, 115, 112, 101, 99])]))
def laid_haversack_api_ErrNone {H : Type} : DataW H := .iface "*errors.errorString" (.ptr (.agg [.lit (.string [104, 97, 118, 101, 114, 115, 97, 99, 107, 58, 32, 110, 111, 110, 101])]))
def laid_haversack_api_ErrLimit {H : Type} : DataW H := .iface "*errors.errorString" (.ptr (.agg [.lit (.string [104, 97, 118, 101, 114, 115, 97, 99, 107, 58, 32, 108, 105, 109, 105, 116])]))
def laid_haversack_api_ErrTwice {H : Type} : DataW H := .iface "*errors.errorString" (.ptr (.agg [.lit (.string [104, 97, 118, 101, 114, 115, 97, 99, 107, 58, 32, 116, 119, 105, 99, 101])]))

/-- 'haversacklaw12.RanksOrder': WHATEVER THE INPUT: true; the input reads as it did. -/
def ranksOrderSpec : ChangeSpec := { name := "ranksOrder", fn := fun _ => fun
  | [d1, d2] => { results := [.lit (.bool true)], args := [d1, d2] }
  | _ => none }
def ranksOrderRow : OpenClaim := { program := "ytkmoaeckabjgnaadoor", sum := "b298b29baf88cf97f64213faae6ff87323e12b636f9cec4f32c1677fe71476e8", func := "haversack/haversacklaw12.RanksOrder", spec := "ranksOrder", inPlace := ["internal/bytealg.IndexByteString", "internal/bytealg.IndexString"], unfollowed := true, recurses := true, named := ["haversack/api.ErrVersion", "internal/bytealg.MaxLen", "haversack/api.ErrSize", "haversack/api.ErrRange"], apart := false, laid := [("haversack/api.ErrSize", laid_haversack_api_ErrSize), ("haversack/api.ErrVersion", laid_haversack_api_ErrVersion), ("haversack/api.ErrRange", laid_haversack_api_ErrRange)] }
def RanksOrderSaid : Prop := ranksOrderRow.holds Tryd.pinned (OpenSpec.ofChange ranksOrderSpec)

/-- ITS FALSE NEIGHBOUR: 'it returns false'. Refute it at one input. -/
def ranksOrderWrong : ChangeSpec := { name := "ranksOrder", fn := fun _ => fun
  | [d1, d2] => { results := [.lit (.bool false)], args := [d1, d2] }
  | _ => none }
def RanksOrderWrongFalsely : Prop := ranksOrderRow.holds Tryd.pinned (OpenSpec.ofChange ranksOrderWrong)

/-- 'haversacklaw12.RanksOff': WHATEVER THE INPUT: true; the input reads as it did. -/
def ranksOffSpec : ChangeSpec := { name := "ranksOff", fn := fun _ => fun
  | [d1, d2, d3] => { results := [.lit (.bool true)], args := [d1, d2, d3] }
  | _ => none }
def ranksOffRow : OpenClaim := { program := "ytkmoaeckabjgnaadoor", sum := "b298b29baf88cf97f64213faae6ff87323e12b636f9cec4f32c1677fe71476e8", func := "haversack/haversacklaw12.RanksOff", spec := "ranksOff", inPlace := ["internal/bytealg.IndexByteString", "internal/bytealg.IndexString"], unfollowed := true, recurses := true, named := ["haversack/api.ErrVersion", "internal/bytealg.MaxLen", "haversack/api.ErrSize", "haversack/api.ErrRange"], apart := false, laid := [("haversack/api.ErrSize", laid_haversack_api_ErrSize), ("haversack/api.ErrVersion", laid_haversack_api_ErrVersion), ("haversack/api.ErrRange", laid_haversack_api_ErrRange)] }
def RanksOffSaid : Prop := ranksOffRow.holds Tryd.pinned (OpenSpec.ofChange ranksOffSpec)

/-- ITS FALSE NEIGHBOUR: 'it returns false'. Refute it at one input. -/
def ranksOffWrong : ChangeSpec := { name := "ranksOff", fn := fun _ => fun
  | [d1, d2, d3] => { results := [.lit (.bool false)], args := [d1, d2, d3] }
  | _ => none }
def RanksOffWrongFalsely : Prop := ranksOffRow.holds Tryd.pinned (OpenSpec.ofChange ranksOffWrong)

/-- 'haversacklaw12.RanksBest': WHATEVER THE INPUT: true; the input reads as it did. -/
def ranksBestSpec : ChangeSpec := { name := "ranksBest", fn := fun _ => fun
  | [d1, d2, d3] => { results := [.lit (.bool true)], args := [d1, d2, d3] }
  | _ => none }
def ranksBestRow : OpenClaim := { program := "ytkmoaeckabjgnaadoor", sum := "b298b29baf88cf97f64213faae6ff87323e12b636f9cec4f32c1677fe71476e8", func := "haversack/haversacklaw12.RanksBest", spec := "ranksBest", inPlace := ["internal/bytealg.IndexByteString", "internal/bytealg.IndexString"], unfollowed := true, recurses := true, named := ["haversack/api.ErrVersion", "internal/bytealg.MaxLen", "haversack/api.ErrSize", "haversack/api.ErrRange"], apart := false, laid := [("haversack/api.ErrSize", laid_haversack_api_ErrSize), ("haversack/api.ErrVersion", laid_haversack_api_ErrVersion), ("haversack/api.ErrRange", laid_haversack_api_ErrRange)] }
def RanksBestSaid : Prop := ranksBestRow.holds Tryd.pinned (OpenSpec.ofChange ranksBestSpec)

/-- ITS FALSE NEIGHBOUR: 'it returns false'. Refute it at one input. -/
def ranksBestWrong : ChangeSpec := { name := "ranksBest", fn := fun _ => fun
  | [d1, d2, d3] => { results := [.lit (.bool false)], args := [d1, d2, d3] }
  | _ => none }
def RanksBestWrongFalsely : Prop := ranksBestRow.holds Tryd.pinned (OpenSpec.ofChange ranksBestWrong)

/-- 'haversacklaw12.RanksOf': WHATEVER THE INPUT: true; the input reads as it did. -/
def ranksOfSpec : ChangeSpec := { name := "ranksOf", fn := fun _ => fun
  | [d1, d2, d3] => { results := [.lit (.bool true)], args := [d1, d2, d3] }
  | _ => none }
def ranksOfRow : OpenClaim := { program := "ytkmoaeckabjgnaadoor", sum := "b298b29baf88cf97f64213faae6ff87323e12b636f9cec4f32c1677fe71476e8", func := "haversack/haversacklaw12.RanksOf", spec := "ranksOf", inPlace := ["internal/bytealg.IndexByteString", "internal/bytealg.IndexString", "internal/reflectlite.TypeOf"], unfollowed := true, recurses := true, named := ["haversack/api.ErrVersion", "internal/bytealg.MaxLen", "haversack/api.ErrSize", "haversack/api.ErrRange", "haversack/api.ErrSyntax", "haversack/api.ErrDepth", "haversack/api.ErrNumber", "haversack/api.ErrKey", "haversack/api.ErrType", "haversack/api.ErrName", "haversack/api.ErrSpec", "haversack/api.ErrNone", "haversack/api.ErrLimit", "haversack/api.ErrTwice"], apart := false, laid := [("haversack/api.ErrSyntax", laid_haversack_api_ErrSyntax), ("haversack/api.ErrDepth", laid_haversack_api_ErrDepth), ("haversack/api.ErrSize", laid_haversack_api_ErrSize), ("haversack/api.ErrNumber", laid_haversack_api_ErrNumber), ("haversack/api.ErrKey", laid_haversack_api_ErrKey), ("haversack/api.ErrType", laid_haversack_api_ErrType), ("haversack/api.ErrName", laid_haversack_api_ErrName), ("haversack/api.ErrVersion", laid_haversack_api_ErrVersion), ("haversack/api.ErrSpec", laid_haversack_api_ErrSpec), ("haversack/api.ErrRange", laid_haversack_api_ErrRange), ("haversack/api.ErrNone", laid_haversack_api_ErrNone), ("haversack/api.ErrLimit", laid_haversack_api_ErrLimit), ("haversack/api.ErrTwice", laid_haversack_api_ErrTwice)] }
def RanksOfSaid : Prop := ranksOfRow.holds Tryd.pinned (OpenSpec.ofChange ranksOfSpec)

/-- ITS FALSE NEIGHBOUR: 'it returns false'. Refute it at one input. -/
def ranksOfWrong : ChangeSpec := { name := "ranksOf", fn := fun _ => fun
  | [d1, d2, d3] => { results := [.lit (.bool false)], args := [d1, d2, d3] }
  | _ => none }
def RanksOfWrongFalsely : Prop := ranksOfRow.holds Tryd.pinned (OpenSpec.ofChange ranksOfWrong)

/-- 'haversacklaw20.AimsNone': WHATEVER THE INPUT: true; the input reads as it did. -/
def aimsNoneSpec : ChangeSpec := { name := "aimsNone", fn := fun _ => fun
  | [d1, d2, d3] => { results := [.lit (.bool true)], args := [d1, d2, d3] }
  | _ => none }
def aimsNoneRow : OpenClaim := { program := "ytkmoaeckabjgnaadoor", sum := "b298b29baf88cf97f64213faae6ff87323e12b636f9cec4f32c1677fe71476e8", func := "haversack/haversacklaw20.AimsNone", spec := "aimsNone", inPlace := ["internal/bytealg.IndexByteString", "internal/bytealg.IndexString"], unfollowed := true, recurses := true, named := ["haversack/api.ErrVersion", "internal/bytealg.MaxLen", "haversack/api.ErrRange", "haversack/api.ErrSize"], apart := false, laid := [("haversack/api.ErrSize", laid_haversack_api_ErrSize), ("haversack/api.ErrVersion", laid_haversack_api_ErrVersion), ("haversack/api.ErrRange", laid_haversack_api_ErrRange)] }
def AimsNoneSaid : Prop := aimsNoneRow.holds Tryd.pinned (OpenSpec.ofChange aimsNoneSpec)

/-- ITS FALSE NEIGHBOUR: 'it returns false'. Refute it at one input. -/
def aimsNoneWrong : ChangeSpec := { name := "aimsNone", fn := fun _ => fun
  | [d1, d2, d3] => { results := [.lit (.bool false)], args := [d1, d2, d3] }
  | _ => none }
def AimsNoneWrongFalsely : Prop := aimsNoneRow.holds Tryd.pinned (OpenSpec.ofChange aimsNoneWrong)

/-- 'haversacklaw12.RanksSums': WHATEVER THE INPUT: true; the input reads as it did. -/
def ranksSumsSpec : ChangeSpec := { name := "ranksSums", fn := fun _ => fun
  | [d1, d2, d3] => { results := [.lit (.bool true)], args := [d1, d2, d3] }
  | _ => none }
def ranksSumsRow : OpenClaim := { program := "ytkmoaeckabjgnaadoor", sum := "b298b29baf88cf97f64213faae6ff87323e12b636f9cec4f32c1677fe71476e8", func := "haversack/haversacklaw12.RanksSums", spec := "ranksSums", inPlace := ["internal/bytealg.IndexByteString", "internal/bytealg.IndexString", "internal/reflectlite.TypeOf"], unfollowed := true, recurses := true, named := ["haversack/api.ErrVersion", "internal/bytealg.MaxLen", "haversack/api.ErrSize", "haversack/api.ErrRange", "haversack/api.ErrSyntax", "haversack/api.ErrDepth", "haversack/api.ErrNumber", "haversack/api.ErrKey", "haversack/api.ErrType", "haversack/api.ErrName", "haversack/api.ErrSpec", "haversack/api.ErrNone", "haversack/api.ErrLimit", "haversack/api.ErrTwice"], apart := false, laid := [("haversack/api.ErrSyntax", laid_haversack_api_ErrSyntax), ("haversack/api.ErrDepth", laid_haversack_api_ErrDepth), ("haversack/api.ErrSize", laid_haversack_api_ErrSize), ("haversack/api.ErrNumber", laid_haversack_api_ErrNumber), ("haversack/api.ErrKey", laid_haversack_api_ErrKey), ("haversack/api.ErrType", laid_haversack_api_ErrType), ("haversack/api.ErrName", laid_haversack_api_ErrName), ("haversack/api.ErrVersion", laid_haversack_api_ErrVersion), ("haversack/api.ErrSpec", laid_haversack_api_ErrSpec), ("haversack/api.ErrRange", laid_haversack_api_ErrRange), ("haversack/api.ErrNone", laid_haversack_api_ErrNone), ("haversack/api.ErrLimit", laid_haversack_api_ErrLimit), ("haversack/api.ErrTwice", laid_haversack_api_ErrTwice)] }
def RanksSumsSaid : Prop := ranksSumsRow.holds Tryd.pinned (OpenSpec.ofChange ranksSumsSpec)

/-- ITS FALSE NEIGHBOUR: 'it returns false'. Refute it at one input. -/
def ranksSumsWrong : ChangeSpec := { name := "ranksSums", fn := fun _ => fun
  | [d1, d2, d3] => { results := [.lit (.bool false)], args := [d1, d2, d3] }
  | _ => none }
def RanksSumsWrongFalsely : Prop := ranksSumsRow.holds Tryd.pinned (OpenSpec.ofChange ranksSumsWrong)

/-- 'haversacklaw20.AimsOne': WHATEVER THE INPUT: true; the input reads as it did. -/
def aimsOneSpec : ChangeSpec := { name := "aimsOne", fn := fun _ => fun
  | [d1, d2] => { results := [.lit (.bool true)], args := [d1, d2] }
  | _ => none }
def aimsOneRow : OpenClaim := { program := "ytkmoaeckabjgnaadoor", sum := "b298b29baf88cf97f64213faae6ff87323e12b636f9cec4f32c1677fe71476e8", func := "haversack/haversacklaw20.AimsOne", spec := "aimsOne", inPlace := ["internal/bytealg.IndexByteString", "internal/bytealg.IndexString"], unfollowed := true, recurses := true, named := ["haversack/api.ErrVersion", "internal/bytealg.MaxLen", "haversack/api.ErrRange", "haversack/api.ErrSize"], apart := false, laid := [("haversack/api.ErrSize", laid_haversack_api_ErrSize), ("haversack/api.ErrVersion", laid_haversack_api_ErrVersion), ("haversack/api.ErrRange", laid_haversack_api_ErrRange)] }
def AimsOneSaid : Prop := aimsOneRow.holds Tryd.pinned (OpenSpec.ofChange aimsOneSpec)

/-- ITS FALSE NEIGHBOUR: 'it returns false'. Refute it at one input. -/
def aimsOneWrong : ChangeSpec := { name := "aimsOne", fn := fun _ => fun
  | [d1, d2] => { results := [.lit (.bool false)], args := [d1, d2] }
  | _ => none }
def AimsOneWrongFalsely : Prop := aimsOneRow.holds Tryd.pinned (OpenSpec.ofChange aimsOneWrong)

/-- 'haversacklaw20.AimsOrder': WHATEVER THE INPUT: true; the input reads as it did. -/
def aimsOrderSpec : ChangeSpec := { name := "aimsOrder", fn := fun _ => fun
  | [d] => { results := [.lit (.bool true)], args := [d] }
  | _ => none }
def aimsOrderRow : OpenClaim := { program := "ytkmoaeckabjgnaadoor", sum := "b298b29baf88cf97f64213faae6ff87323e12b636f9cec4f32c1677fe71476e8", func := "haversack/haversacklaw20.AimsOrder", spec := "aimsOrder", inPlace := ["internal/bytealg.IndexByteString", "internal/bytealg.IndexString"], unfollowed := true, recurses := true, named := ["haversack/api.ErrVersion", "internal/bytealg.MaxLen", "haversack/api.ErrRange", "haversack/api.ErrSize"], apart := false, laid := [("haversack/api.ErrSize", laid_haversack_api_ErrSize), ("haversack/api.ErrVersion", laid_haversack_api_ErrVersion), ("haversack/api.ErrRange", laid_haversack_api_ErrRange)] }
def AimsOrderSaid : Prop := aimsOrderRow.holds Tryd.pinned (OpenSpec.ofChange aimsOrderSpec)

/-- ITS FALSE NEIGHBOUR: 'it returns false'. Refute it at one input. -/
def aimsOrderWrong : ChangeSpec := { name := "aimsOrder", fn := fun _ => fun
  | [d] => { results := [.lit (.bool false)], args := [d] }
  | _ => none }
def AimsOrderWrongFalsely : Prop := aimsOrderRow.holds Tryd.pinned (OpenSpec.ofChange aimsOrderWrong)

/-- 'haversacklaw20.AimsTuples': WHATEVER THE INPUT: true; the input reads as it did. -/
def aimsTuplesSpec : ChangeSpec := { name := "aimsTuples", fn := fun _ => fun
  | [d1, d2] => { results := [.lit (.bool true)], args := [d1, d2] }
  | _ => none }
def aimsTuplesRow : OpenClaim := { program := "ytkmoaeckabjgnaadoor", sum := "b298b29baf88cf97f64213faae6ff87323e12b636f9cec4f32c1677fe71476e8", func := "haversack/haversacklaw20.AimsTuples", spec := "aimsTuples", inPlace := ["internal/bytealg.IndexByteString", "internal/bytealg.IndexString", "internal/reflectlite.TypeOf"], unfollowed := true, recurses := true, named := ["haversack/api.ErrVersion", "internal/bytealg.MaxLen", "haversack/api.ErrRange", "haversack/api.ErrSize", "haversack/api.ErrSyntax", "haversack/api.ErrDepth", "haversack/api.ErrNumber", "haversack/api.ErrKey", "haversack/api.ErrType", "haversack/api.ErrName", "haversack/api.ErrSpec", "haversack/api.ErrNone", "haversack/api.ErrLimit", "haversack/api.ErrTwice"], apart := false, laid := [("haversack/api.ErrSyntax", laid_haversack_api_ErrSyntax), ("haversack/api.ErrDepth", laid_haversack_api_ErrDepth), ("haversack/api.ErrSize", laid_haversack_api_ErrSize), ("haversack/api.ErrNumber", laid_haversack_api_ErrNumber), ("haversack/api.ErrKey", laid_haversack_api_ErrKey), ("haversack/api.ErrType", laid_haversack_api_ErrType), ("haversack/api.ErrName", laid_haversack_api_ErrName), ("haversack/api.ErrVersion", laid_haversack_api_ErrVersion), ("haversack/api.ErrSpec", laid_haversack_api_ErrSpec), ("haversack/api.ErrRange", laid_haversack_api_ErrRange), ("haversack/api.ErrNone", laid_haversack_api_ErrNone), ("haversack/api.ErrLimit", laid_haversack_api_ErrLimit), ("haversack/api.ErrTwice", laid_haversack_api_ErrTwice)] }
def AimsTuplesSaid : Prop := aimsTuplesRow.holds Tryd.pinned (OpenSpec.ofChange aimsTuplesSpec)

/-- ITS FALSE NEIGHBOUR: 'it returns false'. Refute it at one input. -/
def aimsTuplesWrong : ChangeSpec := { name := "aimsTuples", fn := fun _ => fun
  | [d1, d2] => { results := [.lit (.bool false)], args := [d1, d2] }
  | _ => none }
def AimsTuplesWrongFalsely : Prop := aimsTuplesRow.holds Tryd.pinned (OpenSpec.ofChange aimsTuplesWrong)

/- THE SECOND FORM. 'bulk': how many values and letters a reading holds, each counted each time it is reached (what is shared counts as often as it is met; a slice's spare places count too). A statement '..UptoSaid' is the law's where the arguments, and the package variables that the reading takes, are together of bulk at most 1048576: NARROWER than '..Said'. Prove '..Said' where nothing that the law and all that it calls make is longer than what came in: it says more and counts as full. Else prove '..UptoSaid'. A law counts once. -/
mutual
def uptoBulk {H : Type} : DataW H → Nat
  | .lit (.string bytes) => bytes.length + 1
  | .lit _ => 1
  | .nil => 1
  | .ptr d => uptoBulk d + 1
  | .slice elems spare => uptoBulkAll elems + uptoBulkAll spare + 1
  | .agg parts => uptoBulkAll parts + 1
  | .iface _ d => uptoBulk d + 1
  | .map entries => uptoBulkEntries entries + 1
  | .held _ => 1
def uptoBulkAll {H : Type} : List (DataW H) → Nat
  | [] => 0
  | d :: r => uptoBulk d + uptoBulkAll r
def uptoBulkEntries {H : Type} : List (Lit × DataW H) → Nat
  | [] => 0
  | x :: r => uptoBulkEntry x + uptoBulkEntries r
def uptoBulkEntry {H : Type} : Lit × DataW H → Nat
  | (.string bytes, d) => bytes.length + uptoBulk d + 1
  | (_, d) => uptoBulk d + 1
 end
def uptoSmall : (H : Type) → List (DataW H) → Bool := fun _ ds => decide (uptoBulkAll ds ≤ 1048576)
def OpenSpec.upto (s : _root_.Go.ChangeSpec) : _root_.Go.OpenSpec := { _root_.Go.OpenSpec.ofChange s with cond := some uptoSmall }

/-- 'haversacklaw12.RanksOrder', WHERE WHAT IT READS IS OF BULK AT MOST 1048576: true; the input reads as it did. -/
def ranksOrderUptoRow : OpenClaim := { program := "ytkmoaeckabjgnaadoor", sum := "b298b29baf88cf97f64213faae6ff87323e12b636f9cec4f32c1677fe71476e8", func := "haversack/haversacklaw12.RanksOrder", spec := "ranksOrder", inPlace := ["internal/bytealg.IndexByteString", "internal/bytealg.IndexString"], unfollowed := true, recurses := true, named := ["haversack/api.ErrVersion", "internal/bytealg.MaxLen", "haversack/api.ErrSize", "haversack/api.ErrRange"], apart := false, laid := [("haversack/api.ErrSize", laid_haversack_api_ErrSize), ("haversack/api.ErrVersion", laid_haversack_api_ErrVersion), ("haversack/api.ErrRange", laid_haversack_api_ErrRange)], narrowed := true }
def RanksOrderUptoSaid : Prop := ranksOrderUptoRow.holds Tryd.pinned (OpenSpec.upto ranksOrderSpec)

/-- 'haversacklaw12.RanksOff', WHERE WHAT IT READS IS OF BULK AT MOST 1048576: true; the input reads as it did. -/
def ranksOffUptoRow : OpenClaim := { program := "ytkmoaeckabjgnaadoor", sum := "b298b29baf88cf97f64213faae6ff87323e12b636f9cec4f32c1677fe71476e8", func := "haversack/haversacklaw12.RanksOff", spec := "ranksOff", inPlace := ["internal/bytealg.IndexByteString", "internal/bytealg.IndexString"], unfollowed := true, recurses := true, named := ["haversack/api.ErrVersion", "internal/bytealg.MaxLen", "haversack/api.ErrSize", "haversack/api.ErrRange"], apart := false, laid := [("haversack/api.ErrSize", laid_haversack_api_ErrSize), ("haversack/api.ErrVersion", laid_haversack_api_ErrVersion), ("haversack/api.ErrRange", laid_haversack_api_ErrRange)], narrowed := true }
def RanksOffUptoSaid : Prop := ranksOffUptoRow.holds Tryd.pinned (OpenSpec.upto ranksOffSpec)

/-- 'haversacklaw12.RanksBest', WHERE WHAT IT READS IS OF BULK AT MOST 1048576: true; the input reads as it did. -/
def ranksBestUptoRow : OpenClaim := { program := "ytkmoaeckabjgnaadoor", sum := "b298b29baf88cf97f64213faae6ff87323e12b636f9cec4f32c1677fe71476e8", func := "haversack/haversacklaw12.RanksBest", spec := "ranksBest", inPlace := ["internal/bytealg.IndexByteString", "internal/bytealg.IndexString"], unfollowed := true, recurses := true, named := ["haversack/api.ErrVersion", "internal/bytealg.MaxLen", "haversack/api.ErrSize", "haversack/api.ErrRange"], apart := false, laid := [("haversack/api.ErrSize", laid_haversack_api_ErrSize), ("haversack/api.ErrVersion", laid_haversack_api_ErrVersion), ("haversack/api.ErrRange", laid_haversack_api_ErrRange)], narrowed := true }
def RanksBestUptoSaid : Prop := ranksBestUptoRow.holds Tryd.pinned (OpenSpec.upto ranksBestSpec)

/-- 'haversacklaw12.RanksOf', WHERE WHAT IT READS IS OF BULK AT MOST 1048576: true; the input reads as it did. -/
def ranksOfUptoRow : OpenClaim := { program := "ytkmoaeckabjgnaadoor", sum := "b298b29baf88cf97f64213faae6ff87323e12b636f9cec4f32c1677fe71476e8", func := "haversack/haversacklaw12.RanksOf", spec := "ranksOf", inPlace := ["internal/bytealg.IndexByteString", "internal/bytealg.IndexString", "internal/reflectlite.TypeOf"], unfollowed := true, recurses := true, named := ["haversack/api.ErrVersion", "internal/bytealg.MaxLen", "haversack/api.ErrSize", "haversack/api.ErrRange", "haversack/api.ErrSyntax", "haversack/api.ErrDepth", "haversack/api.ErrNumber", "haversack/api.ErrKey", "haversack/api.ErrType", "haversack/api.ErrName", "haversack/api.ErrSpec", "haversack/api.ErrNone", "haversack/api.ErrLimit", "haversack/api.ErrTwice"], apart := false, laid := [("haversack/api.ErrSyntax", laid_haversack_api_ErrSyntax), ("haversack/api.ErrDepth", laid_haversack_api_ErrDepth), ("haversack/api.ErrSize", laid_haversack_api_ErrSize), ("haversack/api.ErrNumber", laid_haversack_api_ErrNumber), ("haversack/api.ErrKey", laid_haversack_api_ErrKey), ("haversack/api.ErrType", laid_haversack_api_ErrType), ("haversack/api.ErrName", laid_haversack_api_ErrName), ("haversack/api.ErrVersion", laid_haversack_api_ErrVersion), ("haversack/api.ErrSpec", laid_haversack_api_ErrSpec), ("haversack/api.ErrRange", laid_haversack_api_ErrRange), ("haversack/api.ErrNone", laid_haversack_api_ErrNone), ("haversack/api.ErrLimit", laid_haversack_api_ErrLimit), ("haversack/api.ErrTwice", laid_haversack_api_ErrTwice)], narrowed := true }
def RanksOfUptoSaid : Prop := ranksOfUptoRow.holds Tryd.pinned (OpenSpec.upto ranksOfSpec)

/-- 'haversacklaw20.AimsNone', WHERE WHAT IT READS IS OF BULK AT MOST 1048576: true; the input reads as it did. -/
def aimsNoneUptoRow : OpenClaim := { program := "ytkmoaeckabjgnaadoor", sum := "b298b29baf88cf97f64213faae6ff87323e12b636f9cec4f32c1677fe71476e8", func := "haversack/haversacklaw20.AimsNone", spec := "aimsNone", inPlace := ["internal/bytealg.IndexByteString", "internal/bytealg.IndexString"], unfollowed := true, recurses := true, named := ["haversack/api.ErrVersion", "internal/bytealg.MaxLen", "haversack/api.ErrRange", "haversack/api.ErrSize"], apart := false, laid := [("haversack/api.ErrSize", laid_haversack_api_ErrSize), ("haversack/api.ErrVersion", laid_haversack_api_ErrVersion), ("haversack/api.ErrRange", laid_haversack_api_ErrRange)], narrowed := true }
def AimsNoneUptoSaid : Prop := aimsNoneUptoRow.holds Tryd.pinned (OpenSpec.upto aimsNoneSpec)

/-- 'haversacklaw12.RanksSums', WHERE WHAT IT READS IS OF BULK AT MOST 1048576: true; the input reads as it did. -/
def ranksSumsUptoRow : OpenClaim := { program := "ytkmoaeckabjgnaadoor", sum := "b298b29baf88cf97f64213faae6ff87323e12b636f9cec4f32c1677fe71476e8", func := "haversack/haversacklaw12.RanksSums", spec := "ranksSums", inPlace := ["internal/bytealg.IndexByteString", "internal/bytealg.IndexString", "internal/reflectlite.TypeOf"], unfollowed := true, recurses := true, named := ["haversack/api.ErrVersion", "internal/bytealg.MaxLen", "haversack/api.ErrSize", "haversack/api.ErrRange", "haversack/api.ErrSyntax", "haversack/api.ErrDepth", "haversack/api.ErrNumber", "haversack/api.ErrKey", "haversack/api.ErrType", "haversack/api.ErrName", "haversack/api.ErrSpec", "haversack/api.ErrNone", "haversack/api.ErrLimit", "haversack/api.ErrTwice"], apart := false, laid := [("haversack/api.ErrSyntax", laid_haversack_api_ErrSyntax), ("haversack/api.ErrDepth", laid_haversack_api_ErrDepth), ("haversack/api.ErrSize", laid_haversack_api_ErrSize), ("haversack/api.ErrNumber", laid_haversack_api_ErrNumber), ("haversack/api.ErrKey", laid_haversack_api_ErrKey), ("haversack/api.ErrType", laid_haversack_api_ErrType), ("haversack/api.ErrName", laid_haversack_api_ErrName), ("haversack/api.ErrVersion", laid_haversack_api_ErrVersion), ("haversack/api.ErrSpec", laid_haversack_api_ErrSpec), ("haversack/api.ErrRange", laid_haversack_api_ErrRange), ("haversack/api.ErrNone", laid_haversack_api_ErrNone), ("haversack/api.ErrLimit", laid_haversack_api_ErrLimit), ("haversack/api.ErrTwice", laid_haversack_api_ErrTwice)], narrowed := true }
def RanksSumsUptoSaid : Prop := ranksSumsUptoRow.holds Tryd.pinned (OpenSpec.upto ranksSumsSpec)

/-- 'haversacklaw20.AimsOne', WHERE WHAT IT READS IS OF BULK AT MOST 1048576: true; the input reads as it did. -/
def aimsOneUptoRow : OpenClaim := { program := "ytkmoaeckabjgnaadoor", sum := "b298b29baf88cf97f64213faae6ff87323e12b636f9cec4f32c1677fe71476e8", func := "haversack/haversacklaw20.AimsOne", spec := "aimsOne", inPlace := ["internal/bytealg.IndexByteString", "internal/bytealg.IndexString"], unfollowed := true, recurses := true, named := ["haversack/api.ErrVersion", "internal/bytealg.MaxLen", "haversack/api.ErrRange", "haversack/api.ErrSize"], apart := false, laid := [("haversack/api.ErrSize", laid_haversack_api_ErrSize), ("haversack/api.ErrVersion", laid_haversack_api_ErrVersion), ("haversack/api.ErrRange", laid_haversack_api_ErrRange)], narrowed := true }
def AimsOneUptoSaid : Prop := aimsOneUptoRow.holds Tryd.pinned (OpenSpec.upto aimsOneSpec)

/-- 'haversacklaw20.AimsOrder', WHERE WHAT IT READS IS OF BULK AT MOST 1048576: true; the input reads as it did. -/
def aimsOrderUptoRow : OpenClaim := { program := "ytkmoaeckabjgnaadoor", sum := "b298b29baf88cf97f64213faae6ff87323e12b636f9cec4f32c1677fe71476e8", func := "haversack/haversacklaw20.AimsOrder", spec := "aimsOrder", inPlace := ["internal/bytealg.IndexByteString", "internal/bytealg.IndexString"], unfollowed := true, recurses := true, named := ["haversack/api.ErrVersion", "internal/bytealg.MaxLen", "haversack/api.ErrRange", "haversack/api.ErrSize"], apart := false, laid := [("haversack/api.ErrSize", laid_haversack_api_ErrSize), ("haversack/api.ErrVersion", laid_haversack_api_ErrVersion), ("haversack/api.ErrRange", laid_haversack_api_ErrRange)], narrowed := true }
def AimsOrderUptoSaid : Prop := aimsOrderUptoRow.holds Tryd.pinned (OpenSpec.upto aimsOrderSpec)

/-- 'haversacklaw20.AimsTuples', WHERE WHAT IT READS IS OF BULK AT MOST 1048576: true; the input reads as it did. -/
def aimsTuplesUptoRow : OpenClaim := { program := "ytkmoaeckabjgnaadoor", sum := "b298b29baf88cf97f64213faae6ff87323e12b636f9cec4f32c1677fe71476e8", func := "haversack/haversacklaw20.AimsTuples", spec := "aimsTuples", inPlace := ["internal/bytealg.IndexByteString", "internal/bytealg.IndexString", "internal/reflectlite.TypeOf"], unfollowed := true, recurses := true, named := ["haversack/api.ErrVersion", "internal/bytealg.MaxLen", "haversack/api.ErrRange", "haversack/api.ErrSize", "haversack/api.ErrSyntax", "haversack/api.ErrDepth", "haversack/api.ErrNumber", "haversack/api.ErrKey", "haversack/api.ErrType", "haversack/api.ErrName", "haversack/api.ErrSpec", "haversack/api.ErrNone", "haversack/api.ErrLimit", "haversack/api.ErrTwice"], apart := false, laid := [("haversack/api.ErrSyntax", laid_haversack_api_ErrSyntax), ("haversack/api.ErrDepth", laid_haversack_api_ErrDepth), ("haversack/api.ErrSize", laid_haversack_api_ErrSize), ("haversack/api.ErrNumber", laid_haversack_api_ErrNumber), ("haversack/api.ErrKey", laid_haversack_api_ErrKey), ("haversack/api.ErrType", laid_haversack_api_ErrType), ("haversack/api.ErrName", laid_haversack_api_ErrName), ("haversack/api.ErrVersion", laid_haversack_api_ErrVersion), ("haversack/api.ErrSpec", laid_haversack_api_ErrSpec), ("haversack/api.ErrRange", laid_haversack_api_ErrRange), ("haversack/api.ErrNone", laid_haversack_api_ErrNone), ("haversack/api.ErrLimit", laid_haversack_api_ErrLimit), ("haversack/api.ErrTwice", laid_haversack_api_ErrTwice)], narrowed := true }
def AimsTuplesUptoSaid : Prop := aimsTuplesUptoRow.holds Tryd.pinned (OpenSpec.upto aimsTuplesSpec)

end Rows
end Go.Proofs.YtkmoaeckabjgnaaDoor
