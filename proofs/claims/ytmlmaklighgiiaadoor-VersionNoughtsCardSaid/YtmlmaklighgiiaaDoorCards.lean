/-
  DERIVED. GIVEN WITH THE SEED: THE CARDS: each row of YtmlmaklighgiiaaDoorRows.lean that lists a variable, with what it lists TIED to the program's text (the seventh form; the later family's looks); each row that meets fmt, with fmt's text TOLD by the authors' own Lean function (tested against real Go, not proved from fmt's source: count such statements apart). THE CARD IS WHAT COUNTS. Prove the row's statement (the work); the ties are given (YtmlmaklighgiiaaDoorTie.lean); close each card by the builder's one call (the guide's Derived/Test/ToyasCard.lean, 'card_holds'). Laid BY PROGRAM, IN A SANDBOX (cutbox-door.mjs). By AI agents, Wed Nov 11 2026. No macro, syntax, notation, axiom, sorry.
-/
import Derived.Test.YtmlmaklighgiiaaDoorRows
import GoSem.ClaimSeven
namespace Go.Proofs.YtmlmaklighgiiaaDoor
namespace Rows

/-- THE TIED CARD OF 'haversacklaw07.VersionTexts'. -/
def versionTextsCard : Claim7 := { stood := { row := versionTextsRow, standIns := [], harness := (true, "de5ed148c3d425bf96a8dd1d3570071483f5b069eb480de7cad5abf7e6464a3b"), looks := true }, kinds := [], alts := [], laidByText := true, laidKinds := [.sentinel], laidTests := true, laidLooks := .later }
def VersionTextsCardSaid : Prop := Claim7.holds Tryd.pinned (.plain (OpenSpec.ofChange versionTextsSpec)) versionTextsCard

/-- THE TIED CARD OF 'haversacklaw07.VersionNewest'. -/
def versionNewestCard : Claim7 := { stood := { row := versionNewestRow, standIns := [], harness := (true, "de5ed148c3d425bf96a8dd1d3570071483f5b069eb480de7cad5abf7e6464a3b"), looks := true }, kinds := [], alts := [], laidByText := true, laidKinds := [.sentinel], laidTests := true, laidLooks := .later }
def VersionNewestCardSaid : Prop := Claim7.holds Tryd.pinned (.plain (OpenSpec.ofChange versionNewestSpec)) versionNewestCard

/-- THE TIED CARD OF 'haversacklaw07.VersionOrder'. -/
def versionOrderCard : Claim7 := { stood := { row := versionOrderRow, standIns := [], harness := (true, "de5ed148c3d425bf96a8dd1d3570071483f5b069eb480de7cad5abf7e6464a3b"), looks := true }, kinds := [], alts := [], laidByText := true, laidKinds := [.sentinel], laidTests := true, laidLooks := .later }
def VersionOrderCardSaid : Prop := Claim7.holds Tryd.pinned (.plain (OpenSpec.ofChange versionOrderSpec)) versionOrderCard

/-- THE TIED CARD OF 'haversacklaw07.VersionNoughts'. -/
def versionNoughtsCard : Claim7 := { stood := { row := versionNoughtsRow, standIns := [], harness := (true, "de5ed148c3d425bf96a8dd1d3570071483f5b069eb480de7cad5abf7e6464a3b"), looks := true }, kinds := [], alts := [], laidByText := true, laidKinds := [.sentinel], laidTests := true, laidLooks := .later }
def VersionNoughtsCardSaid : Prop := Claim7.holds Tryd.pinned (.plain (OpenSpec.ofChange versionNoughtsSpec)) versionNoughtsCard

/-- THE TIED CARD OF 'haversacklaw07.VersionRight'. -/
def versionRightCard : Claim7 := { stood := { row := versionRightRow, standIns := [], harness := (true, "de5ed148c3d425bf96a8dd1d3570071483f5b069eb480de7cad5abf7e6464a3b"), looks := true }, kinds := [], alts := [], laidByText := true, laidKinds := [.sentinel, .sentinel, .sentinel, .sentinel, .sentinel, .sentinel, .sentinel, .sentinel, .sentinel, .sentinel, .sentinel, .sentinel, .sentinel], laidTests := true, laidLooks := .later }
def VersionRightCardSaid : Prop := Claim7.holds Tryd.pinned (.plain (OpenSpec.ofChange versionRightSpec)) versionRightCard

/-- THE SECOND FORM's CARD OF 'haversacklaw07.VersionTexts'. -/
def versionTextsUptoCard : Claim7 := { stood := { row := versionTextsUptoRow, standIns := [], harness := (true, "de5ed148c3d425bf96a8dd1d3570071483f5b069eb480de7cad5abf7e6464a3b"), looks := true }, kinds := [], alts := [], laidByText := true, laidKinds := [.sentinel], laidTests := true, laidLooks := .later }
def VersionTextsUptoCardSaid : Prop := Claim7.holds Tryd.pinned (.plain (OpenSpec.upto versionTextsSpec)) versionTextsUptoCard

/-- THE SECOND FORM's CARD OF 'haversacklaw07.VersionNewest'. -/
def versionNewestUptoCard : Claim7 := { stood := { row := versionNewestUptoRow, standIns := [], harness := (true, "de5ed148c3d425bf96a8dd1d3570071483f5b069eb480de7cad5abf7e6464a3b"), looks := true }, kinds := [], alts := [], laidByText := true, laidKinds := [.sentinel], laidTests := true, laidLooks := .later }
def VersionNewestUptoCardSaid : Prop := Claim7.holds Tryd.pinned (.plain (OpenSpec.upto versionNewestSpec)) versionNewestUptoCard

/-- THE SECOND FORM's CARD OF 'haversacklaw07.VersionOrder'. -/
def versionOrderUptoCard : Claim7 := { stood := { row := versionOrderUptoRow, standIns := [], harness := (true, "de5ed148c3d425bf96a8dd1d3570071483f5b069eb480de7cad5abf7e6464a3b"), looks := true }, kinds := [], alts := [], laidByText := true, laidKinds := [.sentinel], laidTests := true, laidLooks := .later }
def VersionOrderUptoCardSaid : Prop := Claim7.holds Tryd.pinned (.plain (OpenSpec.upto versionOrderSpec)) versionOrderUptoCard

/-- THE SECOND FORM's CARD OF 'haversacklaw07.VersionNoughts'. -/
def versionNoughtsUptoCard : Claim7 := { stood := { row := versionNoughtsUptoRow, standIns := [], harness := (true, "de5ed148c3d425bf96a8dd1d3570071483f5b069eb480de7cad5abf7e6464a3b"), looks := true }, kinds := [], alts := [], laidByText := true, laidKinds := [.sentinel], laidTests := true, laidLooks := .later }
def VersionNoughtsUptoCardSaid : Prop := Claim7.holds Tryd.pinned (.plain (OpenSpec.upto versionNoughtsSpec)) versionNoughtsUptoCard

/-- THE SECOND FORM's CARD OF 'haversacklaw07.VersionRight'. -/
def versionRightUptoCard : Claim7 := { stood := { row := versionRightUptoRow, standIns := [], harness := (true, "de5ed148c3d425bf96a8dd1d3570071483f5b069eb480de7cad5abf7e6464a3b"), looks := true }, kinds := [], alts := [], laidByText := true, laidKinds := [.sentinel, .sentinel, .sentinel, .sentinel, .sentinel, .sentinel, .sentinel, .sentinel, .sentinel, .sentinel, .sentinel, .sentinel, .sentinel], laidTests := true, laidLooks := .later }
def VersionRightUptoCardSaid : Prop := Claim7.holds Tryd.pinned (.plain (OpenSpec.upto versionRightSpec)) versionRightUptoCard
end Rows
end Go.Proofs.YtmlmaklighgiiaaDoor
