/-
  DERIVED. GIVEN WITH THE SEED: THE PROGRAM's TIES (one call each: nine closed facts by the kernel) AND EACH ROW's TIE, after the 31st guide's Derived/Test/Toyas{Tie, Card}.lean. No idea stands in it: it is a product of the set-up. Laid BY PROGRAM, IN A SANDBOX (cutbox-door.mjs). By AI agents, Wed Nov 11 2026. No macro, syntax, notation, axiom, sorry.
-/
import Derived.Test.YtnlolefgifeohaaDoorRows
import Derived.LaidByTextLater
import Derived.SevenTiedAt
import Derived.LaidSub
import Derived.LaidOnce
namespace Go.Proofs.YtnlolefgifeohaaDoor
open Go
set_option maxRecDepth 100000
theorem seatTie1 : Tryd.prog.laidByTextLater [("quitrent/api.ErrArg", Rows.laid_quitrent_api_ErrArg), ("quitrent/api.ErrNil", Rows.laid_quitrent_api_ErrNil), ("quitrent/api.ErrForm", Rows.laid_quitrent_api_ErrForm), ("quitrent/api.ErrOver", Rows.laid_quitrent_api_ErrOver), ("quitrent/api.ErrNone", Rows.laid_quitrent_api_ErrNone), ("quitrent/api.ErrDup", Rows.laid_quitrent_api_ErrDup), ("quitrent/api.ErrFull", Rows.laid_quitrent_api_ErrFull), ("quitrent/api.ErrQuota", Rows.laid_quitrent_api_ErrQuota), ("quitrent/api.ErrCeil", Rows.laid_quitrent_api_ErrCeil), ("quitrent/api.ErrRoom", Rows.laid_quitrent_api_ErrRoom), ("quitrent/api.ErrBudget", Rows.laid_quitrent_api_ErrBudget), ("quitrent/api.ErrFunds", Rows.laid_quitrent_api_ErrFunds), ("quitrent/api.ErrState", Rows.laid_quitrent_api_ErrState), ("quitrent/api.ErrDown", Rows.laid_quitrent_api_ErrDown)] [.sentinel, .sentinel, .sentinel, .sentinel, .sentinel, .sentinel, .sentinel, .sentinel, .sentinel, .sentinel, .sentinel, .sentinel, .sentinel, .sentinel] true :=
  Program.laidByTextLater_by_one 275 8 2 (by kernel_rfl) (by kernel_rfl) (by kernel_rfl) (by kernel_rfl) (by kernel_rfl) (by kernel_rfl) (fun _ _ => by kernel_rfl)
theorem noOwnUnsafe : Tryd.pinned.checked.prog.headLifts.contains "ownunsafe" = false := by kernel_rfl
theorem tie : Tryd.prog.laidByTextLater [("quitrent/api.ErrArg", Rows.laid_quitrent_api_ErrArg), ("quitrent/api.ErrNil", Rows.laid_quitrent_api_ErrNil), ("quitrent/api.ErrForm", Rows.laid_quitrent_api_ErrForm), ("quitrent/api.ErrOver", Rows.laid_quitrent_api_ErrOver), ("quitrent/api.ErrNone", Rows.laid_quitrent_api_ErrNone), ("quitrent/api.ErrDup", Rows.laid_quitrent_api_ErrDup), ("quitrent/api.ErrFull", Rows.laid_quitrent_api_ErrFull), ("quitrent/api.ErrQuota", Rows.laid_quitrent_api_ErrQuota), ("quitrent/api.ErrCeil", Rows.laid_quitrent_api_ErrCeil), ("quitrent/api.ErrRoom", Rows.laid_quitrent_api_ErrRoom), ("quitrent/api.ErrBudget", Rows.laid_quitrent_api_ErrBudget), ("quitrent/api.ErrFunds", Rows.laid_quitrent_api_ErrFunds), ("quitrent/api.ErrState", Rows.laid_quitrent_api_ErrState), ("quitrent/api.ErrDown", Rows.laid_quitrent_api_ErrDown)] [.sentinel, .sentinel, .sentinel, .sentinel, .sentinel, .sentinel, .sentinel, .sentinel, .sentinel, .sentinel, .sentinel, .sentinel, .sentinel, .sentinel] true :=
  Program.laidByTextLater.sub seatTie1 ["quitrent/api.ErrArg", "quitrent/api.ErrNil", "quitrent/api.ErrForm", "quitrent/api.ErrOver", "quitrent/api.ErrNone", "quitrent/api.ErrDup", "quitrent/api.ErrFull", "quitrent/api.ErrQuota", "quitrent/api.ErrCeil", "quitrent/api.ErrRoom", "quitrent/api.ErrBudget", "quitrent/api.ErrFunds", "quitrent/api.ErrState", "quitrent/api.ErrDown"] (by kernel_rfl) (by kernel_rfl)
theorem purseTotal_row_tie : Rows.purseTotalRow.laidByTextAt .later Tryd.pinned [.sentinel, .sentinel, .sentinel, .sentinel, .sentinel, .sentinel, .sentinel, .sentinel, .sentinel, .sentinel, .sentinel, .sentinel, .sentinel, .sentinel] true :=
  OpenClaim.laidByTextAt_later rfl rfl tie noOwnUnsafe
theorem purseBack_row_tie : Rows.purseBackRow.laidByTextAt .later Tryd.pinned [.sentinel, .sentinel, .sentinel, .sentinel, .sentinel, .sentinel, .sentinel, .sentinel, .sentinel, .sentinel, .sentinel, .sentinel, .sentinel, .sentinel] true :=
  OpenClaim.laidByTextAt_later rfl rfl tie noOwnUnsafe
theorem parkExact_row_tie : Rows.parkExactRow.laidByTextAt .later Tryd.pinned [.sentinel, .sentinel, .sentinel, .sentinel, .sentinel, .sentinel, .sentinel, .sentinel, .sentinel, .sentinel, .sentinel, .sentinel, .sentinel, .sentinel] true :=
  OpenClaim.laidByTextAt_later rfl rfl tie noOwnUnsafe
theorem parkLive_row_tie : Rows.parkLiveRow.laidByTextAt .later Tryd.pinned [.sentinel, .sentinel, .sentinel, .sentinel, .sentinel, .sentinel, .sentinel, .sentinel, .sentinel, .sentinel, .sentinel, .sentinel, .sentinel, .sentinel] true :=
  OpenClaim.laidByTextAt_later rfl rfl tie noOwnUnsafe
theorem parkEnd_row_tie : Rows.parkEndRow.laidByTextAt .later Tryd.pinned [.sentinel, .sentinel, .sentinel, .sentinel, .sentinel, .sentinel, .sentinel, .sentinel, .sentinel, .sentinel, .sentinel, .sentinel, .sentinel, .sentinel] true :=
  OpenClaim.laidByTextAt_later rfl rfl tie noOwnUnsafe
theorem grantRound_row_tie : Rows.grantRoundRow.laidByTextAt .later Tryd.pinned [.sentinel, .sentinel, .sentinel, .sentinel, .sentinel, .sentinel, .sentinel, .sentinel, .sentinel, .sentinel, .sentinel, .sentinel, .sentinel, .sentinel] true :=
  OpenClaim.laidByTextAt_later rfl rfl tie noOwnUnsafe
theorem grantTotal_row_tie : Rows.grantTotalRow.laidByTextAt .later Tryd.pinned [.sentinel, .sentinel, .sentinel, .sentinel, .sentinel, .sentinel, .sentinel, .sentinel, .sentinel, .sentinel, .sentinel, .sentinel, .sentinel, .sentinel] true :=
  OpenClaim.laidByTextAt_later rfl rfl tie noOwnUnsafe
theorem purseTotalUpto_row_tie : Rows.purseTotalUptoRow.laidByTextAt .later Tryd.pinned [.sentinel, .sentinel, .sentinel, .sentinel, .sentinel, .sentinel, .sentinel, .sentinel, .sentinel, .sentinel, .sentinel, .sentinel, .sentinel, .sentinel] true :=
  OpenClaim.laidByTextAt_later rfl rfl tie noOwnUnsafe
theorem purseBackUpto_row_tie : Rows.purseBackUptoRow.laidByTextAt .later Tryd.pinned [.sentinel, .sentinel, .sentinel, .sentinel, .sentinel, .sentinel, .sentinel, .sentinel, .sentinel, .sentinel, .sentinel, .sentinel, .sentinel, .sentinel] true :=
  OpenClaim.laidByTextAt_later rfl rfl tie noOwnUnsafe
theorem parkExactUpto_row_tie : Rows.parkExactUptoRow.laidByTextAt .later Tryd.pinned [.sentinel, .sentinel, .sentinel, .sentinel, .sentinel, .sentinel, .sentinel, .sentinel, .sentinel, .sentinel, .sentinel, .sentinel, .sentinel, .sentinel] true :=
  OpenClaim.laidByTextAt_later rfl rfl tie noOwnUnsafe
theorem parkLiveUpto_row_tie : Rows.parkLiveUptoRow.laidByTextAt .later Tryd.pinned [.sentinel, .sentinel, .sentinel, .sentinel, .sentinel, .sentinel, .sentinel, .sentinel, .sentinel, .sentinel, .sentinel, .sentinel, .sentinel, .sentinel] true :=
  OpenClaim.laidByTextAt_later rfl rfl tie noOwnUnsafe
theorem parkEndUpto_row_tie : Rows.parkEndUptoRow.laidByTextAt .later Tryd.pinned [.sentinel, .sentinel, .sentinel, .sentinel, .sentinel, .sentinel, .sentinel, .sentinel, .sentinel, .sentinel, .sentinel, .sentinel, .sentinel, .sentinel] true :=
  OpenClaim.laidByTextAt_later rfl rfl tie noOwnUnsafe
theorem grantRoundUpto_row_tie : Rows.grantRoundUptoRow.laidByTextAt .later Tryd.pinned [.sentinel, .sentinel, .sentinel, .sentinel, .sentinel, .sentinel, .sentinel, .sentinel, .sentinel, .sentinel, .sentinel, .sentinel, .sentinel, .sentinel] true :=
  OpenClaim.laidByTextAt_later rfl rfl tie noOwnUnsafe
theorem grantTotalUpto_row_tie : Rows.grantTotalUptoRow.laidByTextAt .later Tryd.pinned [.sentinel, .sentinel, .sentinel, .sentinel, .sentinel, .sentinel, .sentinel, .sentinel, .sentinel, .sentinel, .sentinel, .sentinel, .sentinel, .sentinel] true :=
  OpenClaim.laidByTextAt_later rfl rfl tie noOwnUnsafe
end Go.Proofs.YtnlolefgifeohaaDoor
