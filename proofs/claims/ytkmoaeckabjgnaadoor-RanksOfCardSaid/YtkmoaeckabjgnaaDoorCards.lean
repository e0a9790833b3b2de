/-
  DERIVED. GIVEN WITH THE SEED: THE CARDS: each row of YtkmoaeckabjgnaaDoorRows.lean that lists a variable, with what it lists TIED to the program's text (the seventh form; the later family's looks); each row that meets fmt, with fmt's text TOLD by the authors' own Lean function (tested against real Go, not proved from fmt's source: count such statements apart). THE CARD IS WHAT COUNTS. Prove the row's statement (the work); the ties are given (YtkmoaeckabjgnaaDoorTie.lean); close each card by the builder's one call (the guide's Derived/Test/ToyasCard.lean, 'card_holds'). Laid BY PROGRAM, IN A SANDBOX (cutbox-door.mjs). By AI agents, Wed Nov 11 2026. No macro, syntax, notation, axiom, sorry.
-/
import Derived.Test.YtkmoaeckabjgnaaDoorRows
import GoSem.ClaimSeven
namespace Go.Proofs.YtkmoaeckabjgnaaDoor
namespace Rows

/-- THE TIED CARD OF 'haversacklaw12.RanksOrder'. -/
def ranksOrderCard : Claim7 := { stood := { row := ranksOrderRow, standIns := [], harness := (true, "2b1f2df82417948c6d78472e7cd1c50a77916516bbe3af11a3f668403bf8fa8e"), looks := true }, kinds := [], alts := [], laidByText := true, laidKinds := [.sentinel, .sentinel, .sentinel], laidTests := true, laidLooks := .later }
def RanksOrderCardSaid : Prop := Claim7.holds Tryd.pinned (.plain (OpenSpec.ofChange ranksOrderSpec)) ranksOrderCard

/-- THE TIED CARD OF 'haversacklaw12.RanksOff'. -/
def ranksOffCard : Claim7 := { stood := { row := ranksOffRow, standIns := [], harness := (true, "2b1f2df82417948c6d78472e7cd1c50a77916516bbe3af11a3f668403bf8fa8e"), looks := true }, kinds := [], alts := [], laidByText := true, laidKinds := [.sentinel, .sentinel, .sentinel], laidTests := true, laidLooks := .later }
def RanksOffCardSaid : Prop := Claim7.holds Tryd.pinned (.plain (OpenSpec.ofChange ranksOffSpec)) ranksOffCard

/-- THE TIED CARD OF 'haversacklaw12.RanksBest'. -/
def ranksBestCard : Claim7 := { stood := { row := ranksBestRow, standIns := [], harness := (true, "2b1f2df82417948c6d78472e7cd1c50a77916516bbe3af11a3f668403bf8fa8e"), looks := true }, kinds := [], alts := [], laidByText := true, laidKinds := [.sentinel, .sentinel, .sentinel], laidTests := true, laidLooks := .later }
def RanksBestCardSaid : Prop := Claim7.holds Tryd.pinned (.plain (OpenSpec.ofChange ranksBestSpec)) ranksBestCard

/-- THE TIED CARD OF 'haversacklaw12.RanksOf'. -/
def ranksOfCard : Claim7 := { stood := { row := ranksOfRow, standIns := [], harness := (true, "2b1f2df82417948c6d78472e7cd1c50a77916516bbe3af11a3f668403bf8fa8e"), looks := true }, kinds := [], alts := [], laidByText := true, laidKinds := [.sentinel, .sentinel, .sentinel, .sentinel, .sentinel, .sentinel, .sentinel, .sentinel, .sentinel, .sentinel, .sentinel, .sentinel, .sentinel], laidTests := true, laidLooks := .later }
def RanksOfCardSaid : Prop := Claim7.holds Tryd.pinned (.plain (OpenSpec.ofChange ranksOfSpec)) ranksOfCard

/-- THE TIED CARD OF 'haversacklaw20.AimsNone'. -/
def aimsNoneCard : Claim7 := { stood := { row := aimsNoneRow, standIns := [], harness := (true, "2b1f2df82417948c6d78472e7cd1c50a77916516bbe3af11a3f668403bf8fa8e"), looks := true }, kinds := [], alts := [], laidByText := true, laidKinds := [.sentinel, .sentinel, .sentinel], laidTests := true, laidLooks := .later }
def AimsNoneCardSaid : Prop := Claim7.holds Tryd.pinned (.plain (OpenSpec.ofChange aimsNoneSpec)) aimsNoneCard

/-- THE TIED CARD OF 'haversacklaw12.RanksSums'. -/
def ranksSumsCard : Claim7 := { stood := { row := ranksSumsRow, standIns := [], harness := (true, "2b1f2df82417948c6d78472e7cd1c50a77916516bbe3af11a3f668403bf8fa8e"), looks := true }, kinds := [], alts := [], laidByText := true, laidKinds := [.sentinel, .sentinel, .sentinel, .sentinel, .sentinel, .sentinel, .sentinel, .sentinel, .sentinel, .sentinel, .sentinel, .sentinel, .sentinel], laidTests := true, laidLooks := .later }
def RanksSumsCardSaid : Prop := Claim7.holds Tryd.pinned (.plain (OpenSpec.ofChange ranksSumsSpec)) ranksSumsCard

/-- THE TIED CARD OF 'haversacklaw20.AimsOne'. -/
def aimsOneCard : Claim7 := { stood := { row := aimsOneRow, standIns := [], harness := (true, "2b1f2df82417948c6d78472e7cd1c50a77916516bbe3af11a3f668403bf8fa8e"), looks := true }, kinds := [], alts := [], laidByText := true, laidKinds := [.sentinel, .sentinel, .sentinel], laidTests := true, laidLooks := .later }
def AimsOneCardSaid : Prop := Claim7.holds Tryd.pinned (.plain (OpenSpec.ofChange aimsOneSpec)) aimsOneCard

/-- THE TIED CARD OF 'haversacklaw20.AimsOrder'. -/
def aimsOrderCard : Claim7 := { stood := { row := aimsOrderRow, standIns := [], harness := (true, "2b1f2df82417948c6d78472e7cd1c50a77916516bbe3af11a3f668403bf8fa8e"), looks := true }, kinds := [], alts := [], laidByText := true, laidKinds := [.sentinel, .sentinel, .sentinel], laidTests := true, laidLooks := .later }
def AimsOrderCardSaid : Prop := Claim7.holds Tryd.pinned (.plain (OpenSpec.ofChange aimsOrderSpec)) aimsOrderCard

/-- THE TIED CARD OF 'haversacklaw20.AimsTuples'. -/
def aimsTuplesCard : Claim7 := { stood := { row := aimsTuplesRow, standIns := [], harness := (true, "2b1f2df82417948c6d78472e7cd1c50a77916516bbe3af11a3f668403bf8fa8e"), looks := true }, kinds := [], alts := [], laidByText := true, laidKinds := [.sentinel, .sentinel, .sentinel, .sentinel, .sentinel, .sentinel, .sentinel, .sentinel, .sentinel, .sentinel, .sentinel, .sentinel, .sentinel], laidTests := true, laidLooks := .later }
def AimsTuplesCardSaid : Prop := Claim7.holds Tryd.pinned (.plain (OpenSpec.ofChange aimsTuplesSpec)) aimsTuplesCard

/-- THE SECOND FORM's CARD OF 'haversacklaw12.RanksOrder'. -/
def ranksOrderUptoCard : Claim7 := { stood := { row := ranksOrderUptoRow, standIns := [], harness := (true, "2b1f2df82417948c6d78472e7cd1c50a77916516bbe3af11a3f668403bf8fa8e"), looks := true }, kinds := [], alts := [], laidByText := true, laidKinds := [.sentinel, .sentinel, .sentinel], laidTests := true, laidLooks := .later }
def RanksOrderUptoCardSaid : Prop := Claim7.holds Tryd.pinned (.plain (OpenSpec.upto ranksOrderSpec)) ranksOrderUptoCard

/-- THE SECOND FORM's CARD OF 'haversacklaw12.RanksOff'. -/
def ranksOffUptoCard : Claim7 := { stood := { row := ranksOffUptoRow, standIns := [], harness := (true, "2b1f2df82417948c6d78472e7cd1c50a77916516bbe3af11a3f668403bf8fa8e"), looks := true }, kinds := [], alts := [], laidByText := true, laidKinds := [.sentinel, .sentinel, .sentinel], laidTests := true, laidLooks := .later }
def RanksOffUptoCardSaid : Prop := Claim7.holds Tryd.pinned (.plain (OpenSpec.upto ranksOffSpec)) ranksOffUptoCard

/-- THE SECOND FORM's CARD OF 'haversacklaw12.RanksBest'. -/
def ranksBestUptoCard : Claim7 := { stood := { row := ranksBestUptoRow, standIns := [], harness := (true, "2b1f2df82417948c6d78472e7cd1c50a77916516bbe3af11a3f668403bf8fa8e"), looks := true }, kinds := [], alts := [], laidByText := true, laidKinds := [.sentinel, .sentinel, .sentinel], laidTests := true, laidLooks := .later }
def RanksBestUptoCardSaid : Prop := Claim7.holds Tryd.pinned (.plain (OpenSpec.upto ranksBestSpec)) ranksBestUptoCard

/-- THE SECOND FORM's CARD OF 'haversacklaw12.RanksOf'. -/
def ranksOfUptoCard : Claim7 := { stood := { row := ranksOfUptoRow, standIns := [], harness := (true, "2b1f2df82417948c6d78472e7cd1c50a77916516bbe3af11a3f668403bf8fa8e"), looks := true }, kinds := [], alts := [], laidByText := true, laidKinds := [.sentinel, .sentinel, .sentinel, .sentinel, .sentinel, .sentinel, .sentinel, .sentinel, .sentinel, .sentinel, .sentinel, .sentinel, .sentinel], laidTests := true, laidLooks := .later }
def RanksOfUptoCardSaid : Prop := Claim7.holds Tryd.pinned (.plain (OpenSpec.upto ranksOfSpec)) ranksOfUptoCard

/-- THE SECOND FORM's CARD OF 'haversacklaw20.AimsNone'. -/
def aimsNoneUptoCard : Claim7 := { stood := { row := aimsNoneUptoRow, standIns := [], harness := (true, "2b1f2df82417948c6d78472e7cd1c50a77916516bbe3af11a3f668403bf8fa8e"), looks := true }, kinds := [], alts := [], laidByText := true, laidKinds := [.sentinel, .sentinel, .sentinel], laidTests := true, laidLooks := .later }
def AimsNoneUptoCardSaid : Prop := Claim7.holds Tryd.pinned (.plain (OpenSpec.upto aimsNoneSpec)) aimsNoneUptoCard

/-- THE SECOND FORM's CARD OF 'haversacklaw12.RanksSums'. -/
def ranksSumsUptoCard : Claim7 := { stood := { row := ranksSumsUptoRow, standIns := [], harness := (true, "2b1f2df82417948c6d78472e7cd1c50a77916516bbe3af11a3f668403bf8fa8e"), looks := true }, kinds := [], alts := [], laidByText := true, laidKinds := [.sentinel, .sentinel, .sentinel, .sentinel, .sentinel, .sentinel, .sentinel, .sentinel, .sentinel, .sentinel, .sentinel, .sentinel, .sentinel], laidTests := true, laidLooks := .later }
def RanksSumsUptoCardSaid : Prop := Claim7.holds Tryd.pinned (.plain (OpenSpec.upto ranksSumsSpec)) ranksSumsUptoCard

/-- THE SECOND FORM's CARD OF 'haversacklaw20.AimsOne'. -/
def aimsOneUptoCard : Claim7 := { stood := { row := aimsOneUptoRow, standIns := [], harness := (true, "2b1f2df82417948c6d78472e7cd1c50a77916516bbe3af11a3f668403bf8fa8e"), looks := true }, kinds := [], alts := [], laidByText := true, laidKinds := [.sentinel, .sentinel, .sentinel], laidTests := true, laidLooks := .later }
def AimsOneUptoCardSaid : Prop := Claim7.holds Tryd.pinned (.plain (OpenSpec.upto aimsOneSpec)) aimsOneUptoCard

/-- THE SECOND FORM's CARD OF 'haversacklaw20.AimsOrder'. -/
def aimsOrderUptoCard : Claim7 := { stood := { row := aimsOrderUptoRow, standIns := [], harness := (true, "2b1f2df82417948c6d78472e7cd1c50a77916516bbe3af11a3f668403bf8fa8e"), looks := true }, kinds := [], alts := [], laidByText := true, laidKinds := [.sentinel, .sentinel, .sentinel], laidTests := true, laidLooks := .later }
def AimsOrderUptoCardSaid : Prop := Claim7.holds Tryd.pinned (.plain (OpenSpec.upto aimsOrderSpec)) aimsOrderUptoCard

/-- THE SECOND FORM's CARD OF 'haversacklaw20.AimsTuples'. -/
def aimsTuplesUptoCard : Claim7 := { stood := { row := aimsTuplesUptoRow, standIns := [], harness := (true, "2b1f2df82417948c6d78472e7cd1c50a77916516bbe3af11a3f668403bf8fa8e"), looks := true }, kinds := [], alts := [], laidByText := true, laidKinds := [.sentinel, .sentinel, .sentinel, .sentinel, .sentinel, .sentinel, .sentinel, .sentinel, .sentinel, .sentinel, .sentinel, .sentinel, .sentinel], laidTests := true, laidLooks := .later }
def AimsTuplesUptoCardSaid : Prop := Claim7.holds Tryd.pinned (.plain (OpenSpec.upto aimsTuplesSpec)) aimsTuplesUptoCard
end Rows
end Go.Proofs.YtkmoaeckabjgnaaDoor
