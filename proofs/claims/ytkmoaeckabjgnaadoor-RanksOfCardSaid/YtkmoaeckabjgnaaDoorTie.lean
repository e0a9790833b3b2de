/-
  DERIVED. GIVEN WITH THE SEED: THE PROGRAM's TIES (one call each: nine closed facts by the kernel) AND EACH ROW's TIE, after the 31st guide's Derived/Test/Toyas{Tie, Card}.lean. No idea stands in it: it is a product of the set-up. Laid BY PROGRAM, IN A SANDBOX (cutbox-door.mjs). By AI agents, Wed Nov 11 2026. No macro, syntax, notation, axiom, sorry.
-/
import Derived.Test.YtkmoaeckabjgnaaDoorRows
import Derived.LaidByTextLater
import Derived.SevenTiedAt
import Derived.LaidSub
import Derived.LaidOnce
namespace Go.Proofs.YtkmoaeckabjgnaaDoor
open Go
set_option maxRecDepth 100000
theorem seatTie1 : Tryd.prog.laidByTextLater [("haversack/api.ErrSyntax", Rows.laid_haversack_api_ErrSyntax), ("haversack/api.ErrDepth", Rows.laid_haversack_api_ErrDepth), ("haversack/api.ErrSize", Rows.laid_haversack_api_ErrSize), ("haversack/api.ErrNumber", Rows.laid_haversack_api_ErrNumber), ("haversack/api.ErrKey", Rows.laid_haversack_api_ErrKey), ("haversack/api.ErrType", Rows.laid_haversack_api_ErrType), ("haversack/api.ErrName", Rows.laid_haversack_api_ErrName), ("haversack/api.ErrVersion", Rows.laid_haversack_api_ErrVersion), ("haversack/api.ErrSpec", Rows.laid_haversack_api_ErrSpec), ("haversack/api.ErrRange", Rows.laid_haversack_api_ErrRange), ("haversack/api.ErrNone", Rows.laid_haversack_api_ErrNone), ("haversack/api.ErrLimit", Rows.laid_haversack_api_ErrLimit), ("haversack/api.ErrTwice", Rows.laid_haversack_api_ErrTwice)] [.sentinel, .sentinel, .sentinel, .sentinel, .sentinel, .sentinel, .sentinel, .sentinel, .sentinel, .sentinel, .sentinel, .sentinel, .sentinel] true :=
  Program.laidByTextLater_by_one 256 8 2 (by kernel_rfl) (by kernel_rfl) (by kernel_rfl) (by kernel_rfl) (by kernel_rfl) (by kernel_rfl) (fun _ _ => by kernel_rfl)
theorem noOwnUnsafe : Tryd.pinned.checked.prog.headLifts.contains "ownunsafe" = false := by kernel_rfl
theorem tie : Tryd.prog.laidByTextLater [("haversack/api.ErrSize", Rows.laid_haversack_api_ErrSize), ("haversack/api.ErrVersion", Rows.laid_haversack_api_ErrVersion), ("haversack/api.ErrRange", Rows.laid_haversack_api_ErrRange)] [.sentinel, .sentinel, .sentinel] true :=
  Program.laidByTextLater.sub seatTie1 ["haversack/api.ErrSize", "haversack/api.ErrVersion", "haversack/api.ErrRange"] (by kernel_rfl) (by kernel_rfl)
theorem ranksOrder_row_tie : Rows.ranksOrderRow.laidByTextAt .later Tryd.pinned [.sentinel, .sentinel, .sentinel] true :=
  OpenClaim.laidByTextAt_later rfl rfl tie noOwnUnsafe
theorem ranksOff_row_tie : Rows.ranksOffRow.laidByTextAt .later Tryd.pinned [.sentinel, .sentinel, .sentinel] true :=
  OpenClaim.laidByTextAt_later rfl rfl tie noOwnUnsafe
theorem ranksBest_row_tie : Rows.ranksBestRow.laidByTextAt .later Tryd.pinned [.sentinel, .sentinel, .sentinel] true :=
  OpenClaim.laidByTextAt_later rfl rfl tie noOwnUnsafe
theorem aimsNone_row_tie : Rows.aimsNoneRow.laidByTextAt .later Tryd.pinned [.sentinel, .sentinel, .sentinel] true :=
  OpenClaim.laidByTextAt_later rfl rfl tie noOwnUnsafe
theorem aimsOne_row_tie : Rows.aimsOneRow.laidByTextAt .later Tryd.pinned [.sentinel, .sentinel, .sentinel] true :=
  OpenClaim.laidByTextAt_later rfl rfl tie noOwnUnsafe
theorem aimsOrder_row_tie : Rows.aimsOrderRow.laidByTextAt .later Tryd.pinned [.sentinel, .sentinel, .sentinel] true :=
  OpenClaim.laidByTextAt_later rfl rfl tie noOwnUnsafe
theorem tie2 : Tryd.prog.laidByTextLater [("haversack/api.ErrSyntax", Rows.laid_haversack_api_ErrSyntax), ("haversack/api.ErrDepth", Rows.laid_haversack_api_ErrDepth), ("haversack/api.ErrSize", Rows.laid_haversack_api_ErrSize), ("haversack/api.ErrNumber", Rows.laid_haversack_api_ErrNumber), ("haversack/api.ErrKey", Rows.laid_haversack_api_ErrKey), ("haversack/api.ErrType", Rows.laid_haversack_api_ErrType), ("haversack/api.ErrName", Rows.laid_haversack_api_ErrName), ("haversack/api.ErrVersion", Rows.laid_haversack_api_ErrVersion), ("haversack/api.ErrSpec", Rows.laid_haversack_api_ErrSpec), ("haversack/api.ErrRange", Rows.laid_haversack_api_ErrRange), ("haversack/api.ErrNone", Rows.laid_haversack_api_ErrNone), ("haversack/api.ErrLimit", Rows.laid_haversack_api_ErrLimit), ("haversack/api.ErrTwice", Rows.laid_haversack_api_ErrTwice)] [.sentinel, .sentinel, .sentinel, .sentinel, .sentinel, .sentinel, .sentinel, .sentinel, .sentinel, .sentinel, .sentinel, .sentinel, .sentinel] true :=
  Program.laidByTextLater.sub seatTie1 ["haversack/api.ErrSyntax", "haversack/api.ErrDepth", "haversack/api.ErrSize", "haversack/api.ErrNumber", "haversack/api.ErrKey", "haversack/api.ErrType", "haversack/api.ErrName", "haversack/api.ErrVersion", "haversack/api.ErrSpec", "haversack/api.ErrRange", "haversack/api.ErrNone", "haversack/api.ErrLimit", "haversack/api.ErrTwice"] (by kernel_rfl) (by kernel_rfl)
theorem ranksOf_row_tie : Rows.ranksOfRow.laidByTextAt .later Tryd.pinned [.sentinel, .sentinel, .sentinel, .sentinel, .sentinel, .sentinel, .sentinel, .sentinel, .sentinel, .sentinel, .sentinel, .sentinel, .sentinel] true :=
  OpenClaim.laidByTextAt_later rfl rfl tie2 noOwnUnsafe
theorem ranksSums_row_tie : Rows.ranksSumsRow.laidByTextAt .later Tryd.pinned [.sentinel, .sentinel, .sentinel, .sentinel, .sentinel, .sentinel, .sentinel, .sentinel, .sentinel, .sentinel, .sentinel, .sentinel, .sentinel] true :=
  OpenClaim.laidByTextAt_later rfl rfl tie2 noOwnUnsafe
theorem aimsTuples_row_tie : Rows.aimsTuplesRow.laidByTextAt .later Tryd.pinned [.sentinel, .sentinel, .sentinel, .sentinel, .sentinel, .sentinel, .sentinel, .sentinel, .sentinel, .sentinel, .sentinel, .sentinel, .sentinel] true :=
  OpenClaim.laidByTextAt_later rfl rfl tie2 noOwnUnsafe
theorem ranksOrderUpto_row_tie : Rows.ranksOrderUptoRow.laidByTextAt .later Tryd.pinned [.sentinel, .sentinel, .sentinel] true :=
  OpenClaim.laidByTextAt_later rfl rfl tie noOwnUnsafe
theorem ranksOffUpto_row_tie : Rows.ranksOffUptoRow.laidByTextAt .later Tryd.pinned [.sentinel, .sentinel, .sentinel] true :=
  OpenClaim.laidByTextAt_later rfl rfl tie noOwnUnsafe
theorem ranksBestUpto_row_tie : Rows.ranksBestUptoRow.laidByTextAt .later Tryd.pinned [.sentinel, .sentinel, .sentinel] true :=
  OpenClaim.laidByTextAt_later rfl rfl tie noOwnUnsafe
theorem ranksOfUpto_row_tie : Rows.ranksOfUptoRow.laidByTextAt .later Tryd.pinned [.sentinel, .sentinel, .sentinel, .sentinel, .sentinel, .sentinel, .sentinel, .sentinel, .sentinel, .sentinel, .sentinel, .sentinel, .sentinel] true :=
  OpenClaim.laidByTextAt_later rfl rfl tie2 noOwnUnsafe
theorem aimsNoneUpto_row_tie : Rows.aimsNoneUptoRow.laidByTextAt .later Tryd.pinned [.sentinel, .sentinel, .sentinel] true :=
  OpenClaim.laidByTextAt_later rfl rfl tie noOwnUnsafe
theorem ranksSumsUpto_row_tie : Rows.ranksSumsUptoRow.laidByTextAt .later Tryd.pinned [.sentinel, .sentinel, .sentinel, .sentinel, .sentinel, .sentinel, .sentinel, .sentinel, .sentinel, .sentinel, .sentinel, .sentinel, .sentinel] true :=
  OpenClaim.laidByTextAt_later rfl rfl tie2 noOwnUnsafe
theorem aimsOneUpto_row_tie : Rows.aimsOneUptoRow.laidByTextAt .later Tryd.pinned [.sentinel, .sentinel, .sentinel] true :=
  OpenClaim.laidByTextAt_later rfl rfl tie noOwnUnsafe
theorem aimsOrderUpto_row_tie : Rows.aimsOrderUptoRow.laidByTextAt .later Tryd.pinned [.sentinel, .sentinel, .sentinel] true :=
  OpenClaim.laidByTextAt_later rfl rfl tie noOwnUnsafe
theorem aimsTuplesUpto_row_tie : Rows.aimsTuplesUptoRow.laidByTextAt .later Tryd.pinned [.sentinel, .sentinel, .sentinel, .sentinel, .sentinel, .sentinel, .sentinel, .sentinel, .sentinel, .sentinel, .sentinel, .sentinel, .sentinel] true :=
  OpenClaim.laidByTextAt_later rfl rfl tie2 noOwnUnsafe
end Go.Proofs.YtkmoaeckabjgnaaDoor
