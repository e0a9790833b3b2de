/-
  NARROWER THAN 'FOR EVERY INPUT', by the rows' own cells (each row's printed sentence says how): VersionTexts: laid · VersionNewest: laid · VersionOrder: laid · VersionNoughts: laid · VersionRight: laid.
  DERIVED. THE GIVEN ROWS OF THIS SEAT. 5 by the template 'for every input the law returns true; each argument reads behind the call as it read before'; 0 by the template 'total and deterministic' (their statements: YtmlmaklighgiiaaDoorTotals.lean).
  GIVEN WITH THE SEED: the statements are not yours to turn. If you find one false, say at which input.
  Laid BY PROGRAM, IN A SANDBOX (cutbox-rows.mjs): the forced cells as the released guide's own fill.sh prints them over the translation 978ec391880bcb27… (all of the seat's roots in one cut). By AI agents, Wed Nov 11 2026. No macro, syntax, notation, axiom, sorry.
-/
import Derived.Test.YtmlmaklighgiiaaDoorChecked
import GoSem.Claim
import GoSem.ClaimJoined
import GoSem.ClaimMapViews
import Derived.JoinedTies
import Derived.KernelRfl
namespace Go.Proofs.YtmlmaklighgiiaaDoor
/- THE CELL 'sum', in the pinned program and in every row, IS THE sha256 OF THE DUMP (.gsa) THAT YtmlmaklighgiiaaDoorProg.lean LOADS. Nothing in Lean hashes anything: it is a label: what it is worth is what the hold of that sum in a sandbox is worth. -/
noncomputable def Tryd.pinned : Pinned := { name := "ytmlmaklighgiiaadoor", sum := "978ec391880bcb27b29fceb8d5f941d7970b844dd532a7c9389ec6011f508442", checked := Tryd.checked }
namespace Rows
def none {H : Type} : Left H := { results := [], args := [] }

/- WHAT THE LISTED PACKAGE-LEVEL VARIABLES READ AS WHEN THE CALL BEGINS. Each datum BY PROGRAM (the guide's laid-datum.mjs) off the statement by which the dump's own 'gosem.cut.vars' lays the variable. In a bare row this is a premise. The card (YtmlmaklighgiiaaDoorCards.lean) ties it to the program's text. -/
def laid_haversack_api_ErrVersion {H : Type} : DataW H := .iface "*errors.errorString" (.ptr (.agg [.lit (.string [104, 97, 118, 101, 114, 115, 97, 99, 107, 58, 32, 118, 101, 114, 115, 105, 111, 110])]))
def laid_haversack_api_ErrSyntax {H : Type} : DataW H := .iface "*errors.errorString" (.ptr (.agg [.lit (.string [104, 97, 118, 101, 114, 115, 97, 99, 107, 58, 32, 115, 121, 110, 116, 97, 120])]))
def laid_haversack_api_ErrDepth {H : Type} : DataW H := .iface "*errors.errorString" (.ptr (.agg [.lit (.string [104, 97, 118, 101, 114, 115, 97, 99, 107, 58, 32, 100, 101, 112, 116, 104])]))
def laid_haversack_api_ErrSize {H : Type} : DataW H := .iface "*errors.errorString" (.ptr (.agg [.lit (.string [104, 97, 118, 101, 114, 115, 97, 99, 107, 58, 32, 115, 105, 122, 101])]))
def laid_haversack_api_ErrNumber {H : Type} : DataW H := .iface "*errors.errorString" (.ptr (.agg [.lit (.string [104, 97, 118, 101, 114, 115, 97, 99, 107, 58, 32, 110, 117, 109, 98, 101, 114])]))
def laid_haversack_api_ErrKey {H : Type} : DataW H := .iface "*errors.errorString" (.ptr (.agg [.lit (.string [104, 97, 118, 101, 114, 115, 97, 99, 107, 58, 32, 107, 101, 121])]))
def laid_haversack_api_ErrType {H : Type} : DataW H := .iface "*errors.errorString" (.ptr (.agg [.lit (.string [104, 97, 118, 101, 114, 115, 97, 99, 107, 58, 32, 116, 121, 112, 101])]))
def laid_haversack_api_ErrName {H : Type} : DataW H := .iface "*errors.errorString" (.ptr (.agg [.lit (.string [104, 97, 118, 101, 114, 115, 97, 99, 107, 58, 32, 110, 97, 109, 101])]))
def laid_haversack_api_ErrSpec {H : Type} : DataW H := .iface "*errors.errorString" (.ptr (.agg [.lit (.string [104, 97, 118, 101, 114, 115, 97, 99, 107, 58, 32, 115, 112, 101, 99])]))
def laid_haversack_api_ErrRange {H : Type} : DataW H := .iface "*errors.errorString" (.ptr (.agg [.lit (.string [104, 97, 118, 101, 114, 115, 97, 99, 107, 58, 32, 114, 97, 110, 103, 101])]))
def laid_haversack_api_ErrNone {H : Type} : DataW H := .iface "*errors.errorString" (.ptr (.agg [.lit (.string [104, 97, 118, 101, 114, 115, 97, 99, 107, 58, 32, 110, 111, 110, 101])]))
def laid_haversack_api_ErrLimit {H : Type} : DataW H := .iface "*errors.errorString" (.ptr (.agg [.lit (.string [104, 97, 118, 101, 114, 115, 97, 99, 107, 58, 32, 108, 105, 109, 105, 116])]))
def laid_haversack_api_ErrTwice {H : Type} : DataW H := .iface "*errors.errorString" (.ptr (.agg [.lit (.string [104, 97, 118, 101, 114, 115, 97, 99, 107, 58, 32, 116, 119, 105, 99, 101])]))

/-- 'haversacklaw07.VersionTexts': WHATEVER THE INPUT: true; the input reads as it did. -/
def versionTextsSpec : ChangeSpec := { name := "versionTexts", fn := fun _ => fun
  | [d1, d2] => { results := [.lit (.bool true)], args := [d1, d2] }
  | _ => none }
def versionTextsRow : OpenClaim := { program := "ytmlmaklighgiiaadoor", sum := "978ec391880bcb27b29fceb8d5f941d7970b844dd532a7c9389ec6011f508442", func := "haversack/haversacklaw07.VersionTexts", spec := "versionTexts", inPlace := ["internal/bytealg.IndexByteString", "internal/bytealg.IndexString"], unfollowed := true, recurses := true, named := ["haversack/api.ErrVersion", "internal/bytealg.MaxLen"], apart := false, laid := [("haversack/api.ErrVersion", laid_haversack_api_ErrVersion)] }
def VersionTextsSaid : Prop := versionTextsRow.holds Tryd.pinned (OpenSpec.ofChange versionTextsSpec)

/-- ITS FALSE NEIGHBOUR: 'it returns false'. Refute it at one input. -/
def versionTextsWrong : ChangeSpec := { name := "versionTexts", fn := fun _ => fun
  | [d1, d2] => { results := [.lit (.bool false)], args := [d1, d2] }
  | _ => none }
def VersionTextsWrongFalsely : Prop := versionTextsRow.holds Tryd.pinned (OpenSpec.ofChange versionTextsWrong)

/-- 'haversacklaw07.VersionNewest': WHATEVER THE INPUT: true; the input reads as it did. -/
def versionNewestSpec : ChangeSpec := { name := "versionNewest", fn := fun _ => fun
  | [d] => { results := [.lit (.bool true)], args := [d] }
  | _ => none }
def versionNewestRow : OpenClaim := { program := "ytmlmaklighgiiaadoor", sum := "978ec391880bcb27b29fceb8d5f941d7970b844dd532a7c9389ec6011f508442", func := "haversack/haversacklaw07.VersionNewest", spec := "versionNewest", inPlace := ["internal/bytealg.IndexByteString", "internal/bytealg.IndexString"], unfollowed := true, recurses := true, named := ["haversack/api.ErrVersion", "internal/bytealg.MaxLen"], apart := false, laid := [("haversack/api.ErrVersion", laid_haversack_api_ErrVersion)] }
def VersionNewestSaid : Prop := versionNewestRow.holds Tryd.pinned (OpenSpec.ofChange versionNewestSpec)

/-- ITS FALSE NEIGHBOUR: 'it returns false'. Refute it at one input. -/
def versionNewestWrong : ChangeSpec := { name := "versionNewest", fn := fun _ => fun
  | [d] => { results := [.lit (.bool false)], args := [d] }
  | _ => none }
def VersionNewestWrongFalsely : Prop := versionNewestRow.holds Tryd.pinned (OpenSpec.ofChange versionNewestWrong)

/-- 'haversacklaw07.VersionOrder': WHATEVER THE INPUT: true; the input reads as it did. -/
def versionOrderSpec : ChangeSpec := { name := "versionOrder", fn := fun _ => fun
  | [d1, d2, d3] => { results := [.lit (.bool true)], args := [d1, d2, d3] }
  | _ => none }
def versionOrderRow : OpenClaim := { program := "ytmlmaklighgiiaadoor", sum := "978ec391880bcb27b29fceb8d5f941d7970b844dd532a7c9389ec6011f508442", func := "haversack/haversacklaw07.VersionOrder", spec := "versionOrder", inPlace := ["internal/bytealg.IndexByteString", "internal/bytealg.IndexString"], unfollowed := true, recurses := true, named := ["haversack/api.ErrVersion", "internal/bytealg.MaxLen"], apart := false, laid := [("haversack/api.ErrVersion", laid_haversack_api_ErrVersion)] }
def VersionOrderSaid : Prop := versionOrderRow.holds Tryd.pinned (OpenSpec.ofChange versionOrderSpec)

/-- ITS FALSE NEIGHBOUR: 'it returns false'. Refute it at one input. -/
def versionOrderWrong : ChangeSpec := { name := "versionOrder", fn := fun _ => fun
  | [d1, d2, d3] => { results := [.lit (.bool false)], args := [d1, d2, d3] }
  | _ => none }
def VersionOrderWrongFalsely : Prop := versionOrderRow.holds Tryd.pinned (OpenSpec.ofChange versionOrderWrong)

/-- 'haversacklaw07.VersionNoughts': WHATEVER THE INPUT: true; the input reads as it did. -/
def versionNoughtsSpec : ChangeSpec := { name := "versionNoughts", fn := fun _ => fun
  | [d1, d2] => { results := [.lit (.bool true)], args := [d1, d2] }
  | _ => none }
def versionNoughtsRow : OpenClaim := { program := "ytmlmaklighgiiaadoor", sum := "978ec391880bcb27b29fceb8d5f941d7970b844dd532a7c9389ec6011f508442", func := "haversack/haversacklaw07.VersionNoughts", spec := "versionNoughts", inPlace := ["internal/bytealg.IndexByteString", "internal/bytealg.IndexString"], unfollowed := true, recurses := true, named := ["haversack/api.ErrVersion", "internal/bytealg.MaxLen"], apart := false, laid := [("haversack/api.ErrVersion", laid_haversack_api_ErrVersion)] }
def VersionNoughtsSaid : Prop := versionNoughtsRow.holds Tryd.pinned (OpenSpec.ofChange versionNoughtsSpec)

/-- ITS FALSE NEIGHBOUR: 'it returns false'. Refute it at one input. -/
def versionNoughtsWrong : ChangeSpec := { name := "versionNoughts", fn := fun _ => fun
  | [d1, d2] => { results := [.lit (.bool false)], args := [d1, d2] }
  | _ => none }
def VersionNoughtsWrongFalsely : Prop := versionNoughtsRow.holds Tryd.pinned (OpenSpec.ofChange versionNoughtsWrong)

/-- 'haversacklaw07.VersionRight': WHATEVER THE INPUT: true; the input reads as it did. -/
def versionRightSpec : ChangeSpec := { name := "versionRight", fn := fun _ => fun
  | [d] => { results := [.lit (.bool true)], args := [d] }
  | _ => none }
def versionRightRow : OpenClaim := { program := "ytmlmaklighgiiaadoor", sum := "978ec391880bcb27b29fceb8d5f941d7970b844dd532a7c9389ec6011f508442", func := "haversack/haversacklaw07.VersionRight", spec := "versionRight", inPlace := ["internal/bytealg.IndexByteString", "internal/bytealg.IndexString", "internal/reflectlite.TypeOf"], unfollowed := true, recurses := true, named := ["haversack/api.ErrVersion", "internal/bytealg.MaxLen", "haversack/api.ErrRange", "haversack/api.ErrSyntax", "haversack/api.ErrDepth", "haversack/api.ErrSize", "haversack/api.ErrNumber", "haversack/api.ErrKey", "haversack/api.ErrType", "haversack/api.ErrName", "haversack/api.ErrSpec", "haversack/api.ErrNone", "haversack/api.ErrLimit", "haversack/api.ErrTwice"], apart := false, laid := [("haversack/api.ErrSyntax", laid_haversack_api_ErrSyntax), ("haversack/api.ErrDepth", laid_haversack_api_ErrDepth), ("haversack/api.ErrSize", laid_haversack_api_ErrSize), ("haversack/api.ErrNumber", laid_haversack_api_ErrNumber), ("haversack/api.ErrKey", laid_haversack_api_ErrKey), ("haversack/api.ErrType", laid_haversack_api_ErrType), ("haversack/api.ErrName", laid_haversack_api_ErrName), ("haversack/api.ErrVersion", laid_haversack_api_ErrVersion), ("haversack/api.ErrSpec", laid_haversack_api_ErrSpec), ("haversack/api.ErrRange", laid_haversack_api_ErrRange), ("haversack/api.ErrNone", laid_haversack_api_ErrNone), ("haversack/api.ErrLimit", laid_haversack_api_ErrLimit), ("haversack/api.ErrTwice", laid_haversack_api_ErrTwice)] }
def VersionRightSaid : Prop := versionRightRow.holds Tryd.pinned (OpenSpec.ofChange versionRightSpec)

/-- ITS FALSE NEIGHBOUR: 'it returns false'. Refute it at one input. -/
def versionRightWrong : ChangeSpec := { name := "versionRight", fn := fun _ => fun
  | [d] => { results := [.lit (.bool false)], args := [d] }
  | _ => none }
def VersionRightWrongFalsely : Prop := versionRightRow.holds Tryd.pinned (OpenSpec.ofChange versionRightWrong)

/- THE SECOND FORM. 'bulk': how many values and letters a reading holds, each counted each time it is reached (what is shared counts as often as it is met; a slice's spare places count too). A statement '..UptoSaid' is the law's where the arguments, and the package variables that the reading takes, are together of bulk at most 1048576: NARROWER than '..Said'. Prove '..Said' where nothing that the law and all that it calls make is longer than what came in: it says more and counts as full. Else prove '..UptoSaid'. A law counts once. -/
mutual
def uptoBulk {H : Type} : DataW H → Nat
  | .lit (.string bytes) => bytes.length + 1
  | .lit _ => 1
  | .nil => 1
  | .ptr d => uptoBulk d + 1
  | .slice elems spare => uptoBulkAll elems + uptoBulkAll spare + 1
  | .agg parts => uptoBulkAll parts + 1
  | .iface _ d => uptoBulk d + 1
  | .map entries => uptoBulkEntries entries + 1
  | .held _ => 1
def uptoBulkAll {H : Type} : List (DataW H) → Nat
  | [] => 0
  | d :: r => uptoBulk d + uptoBulkAll r
def uptoBulkEntries {H : Type} : List (Lit × DataW H) → Nat
  | [] => 0
  | x :: r => uptoBulkEntry x + uptoBulkEntries r
def uptoBulkEntry {H : Type} : Lit × DataW H → Nat
  | (.string bytes, d) => bytes.length + uptoBulk d + 1
  | (_, d) => uptoBulk d + 1
 end
def uptoSmall : (H : Type) → List (DataW H) → Bool := fun _ ds => decide (uptoBulkAll ds ≤ 1048576)
def OpenSpec.upto (s : _root_.Go.ChangeSpec) : _root_.Go.OpenSpec := { _root_.Go.OpenSpec.ofChange s with cond := some uptoSmall }

/-- 'haversacklaw07.VersionTexts', WHERE WHAT IT READS IS OF BULK AT MOST 1048576: true; the input reads as it did. -/
def versionTextsUptoRow : OpenClaim := { program := "ytmlmaklighgiiaadoor", sum := "978ec391880bcb27b29fceb8d5f941d7970b844dd532a7c9389ec6011f508442", func := "haversack/haversacklaw07.VersionTexts", spec := "versionTexts", inPlace := ["internal/bytealg.IndexByteString", "internal/bytealg.IndexString"], unfollowed := true, recurses := true, named := ["haversack/api.ErrVersion", "internal/bytealg.MaxLen"], apart := false, laid := [("haversack/api.ErrVersion", laid_haversack_api_ErrVersion)], narrowed := true }
def VersionTextsUptoSaid : Prop := versionTextsUptoRow.holds Tryd.pinned (OpenSpec.upto versionTextsSpec)

/-- 'haversacklaw07.VersionNewest', WHERE WHAT IT READS IS OF BULK AT MOST 1048576: true; the input reads as it did. -/
def versionNewestUptoRow : OpenClaim := { program := "ytmlmaklighgiiaadoor", sum := "978ec391880bcb27b29fceb8d5f941d7970b844dd532a7c9389ec6011f508442", func := "haversack/haversacklaw07.VersionNewest", spec := "versionNewest", inPlace := ["internal/bytealg.IndexByteString", "internal/bytealg.IndexString"], unfollowed := true, recurses := true, named := ["haversack/api.ErrVersion", "internal/bytealg.MaxLen"], apart := false, laid := [("haversack/api.ErrVersion", laid_haversack_api_ErrVersion)], narrowed := true }
def VersionNewestUptoSaid : Prop := versionNewestUptoRow.holds Tryd.pinned (OpenSpec.upto versionNewestSpec)

/-- 'haversacklaw07.VersionOrder', WHERE WHAT IT READS IS OF BULK AT MOST 1048576: true; the input reads as it did. -/
def versionOrderUptoRow : OpenClaim := { program := "ytmlmaklighgiiaadoor", sum := "978ec391880bcb27b29fceb8d5f941d7970b844dd532a7c9389ec6011f508442", func := "haversack/haversacklaw07.VersionOrder", spec := "versionOrder", inPlace := ["internal/bytealg.IndexByteString", "internal/bytealg.IndexString"], unfollowed := true, recurses := true, named := ["haversack/api.ErrVersion", "internal/bytealg.MaxLen"], apart := false, laid := [("haversack/api.ErrVersion", laid_haversack_api_ErrVersion)], narrowed := true }
def VersionOrderUptoSaid : Prop := versionOrderUptoRow.holds Tryd.pinned (OpenSpec.upto versionOrderSpec)

/-- 'haversacklaw07.VersionNoughts', WHERE WHAT IT READS IS OF BULK AT MOST 1048576: true; the input reads as it did. -/
def versionNoughtsUptoRow : OpenClaim := { program := "ytmlmaklighgiiaadoor", sum := "978ec391880bcb27b29fceb8d5f941d7970b844dd532a7c9389ec6011f508442", func := "haversack/haversacklaw07.VersionNoughts", spec := "versionNoughts", inPlace := ["internal/bytealg.IndexByteString", "internal/bytealg.IndexString"], unfollowed := true, recurses := true, named := ["haversack/api.ErrVersion", "internal/bytealg.MaxLen"], apart := false, laid := [("haversack/api.ErrVersion", laid_haversack_api_ErrVersion)], narrowed := true }
def VersionNoughtsUptoSaid : Prop := versionNoughtsUptoRow.holds Tryd.pinned (OpenSpec.upto versionNoughtsSpec)

/-- 'haversacklaw07.VersionRight', WHERE WHAT IT READS IS OF BULK AT MOST 1048576: true; the input reads as it did. -/
def versionRightUptoRow : OpenClaim := { program := "ytmlmaklighgiiaadoor", sum := "978ec391880bcb27b29fceb8d5f941d7970b844dd532a7c9389ec6011f508442", func := "haversack/haversacklaw07.VersionRight", spec := "versionRight", inPlace := ["internal/bytealg.IndexByteString", "internal/bytealg.IndexString", "internal/reflectlite.TypeOf"], unfollowed := true, recurses := true, named := ["haversack/api.ErrVersion", "internal/bytealg.MaxLen", "haversack/api.ErrRange", "haversack/api.ErrSyntax", "haversack/api.ErrDepth", "haversack/api.ErrSize", "haversack/api.ErrNumber", "haversack/api.ErrKey", "haversack/api.ErrType", "haversack/api.ErrName", "haversack/api.ErrSpec", "haversack/api.ErrNone", "haversack/api.ErrLimit", "haversack/api.ErrTwice"], apart := false, laid := [("haversack/api.ErrSyntax", laid_haversack_api_ErrSyntax), ("haversack/api.ErrDepth", laid_haversack_api_ErrDepth), ("haversack/api.ErrSize", laid_haversack_api_ErrSize), ("haversack/api.ErrNumber", laid_haversack_api_ErrNumber), ("haversack/api.ErrKey", laid_haversack_api_ErrKey), ("haversack/api.ErrType", laid_haversack_api_ErrType), ("haversack/api.ErrName", laid_haversack_api_ErrName), ("haversack/api.ErrVersion", laid_haversack_api_ErrVersion), ("haversack/api.ErrSpec", laid_haversack_api_ErrSpec), ("haversack/api.ErrRange", laid_haversack_api_ErrRange), ("haversack/api.ErrNone", laid_haversack_api_ErrNone), ("haversack/api.ErrLimit", laid_haversack_api_ErrLimit), ("haversack/api.ErrTwice", laid_haversack_api_ErrTwice)], narrowed := true }
def VersionRightUptoSaid : Prop := versionRightUptoRow.holds Tryd.pinned (OpenSpec.upto versionRightSpec)

end Rows
end Go.Proofs.YtmlmaklighgiiaaDoor
