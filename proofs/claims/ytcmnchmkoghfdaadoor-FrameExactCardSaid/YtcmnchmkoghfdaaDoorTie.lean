/-
  DERIVED. GIVEN WITH THE SEED: THE PROGRAM's TIES (one call each: nine closed facts by the kernel) AND EACH ROW's TIE, after the 31st guide's Derived/Test/Toyas{Tie, Card}.lean. No idea stands in it: it is a product of the set-up. Laid BY PROGRAM, IN A SANDBOX (cutbox-door.mjs). By AI agents, Wed Nov 11 2026. No macro, syntax, notation, axiom, sorry.
-/
import Derived.Test.YtcmnchmkoghfdaaDoorRows
import Derived.LaidByTextLater
import Derived.SevenTiedAt
import Derived.LaidSub
import Derived.LaidOnce
namespace Go.Proofs.YtcmnchmkoghfdaaDoor
open Go
set_option maxRecDepth 100000
theorem seatTie1 : Tryd.prog.laidByTextLater [("unicode/utf8.acceptRanges", Rows.laid_unicode_utf8_acceptRanges), ("errors.errorType", Rows.laid_errors_errorType), ("quitrent/api.ErrArg", Rows.laid_quitrent_api_ErrArg), ("quitrent/api.ErrNil", Rows.laid_quitrent_api_ErrNil), ("quitrent/api.ErrForm", Rows.laid_quitrent_api_ErrForm), ("quitrent/api.ErrOver", Rows.laid_quitrent_api_ErrOver), ("quitrent/api.ErrNone", Rows.laid_quitrent_api_ErrNone), ("quitrent/api.ErrDup", Rows.laid_quitrent_api_ErrDup), ("quitrent/api.ErrFull", Rows.laid_quitrent_api_ErrFull), ("quitrent/api.ErrQuota", Rows.laid_quitrent_api_ErrQuota), ("quitrent/api.ErrCeil", Rows.laid_quitrent_api_ErrCeil), ("quitrent/api.ErrRoom", Rows.laid_quitrent_api_ErrRoom), ("quitrent/api.ErrBudget", Rows.laid_quitrent_api_ErrBudget), ("quitrent/api.ErrFunds", Rows.laid_quitrent_api_ErrFunds), ("quitrent/api.ErrState", Rows.laid_quitrent_api_ErrState), ("quitrent/api.ErrDown", Rows.laid_quitrent_api_ErrDown)] [.data, .handle, .sentinel, .sentinel, .sentinel, .sentinel, .sentinel, .sentinel, .sentinel, .sentinel, .sentinel, .sentinel, .sentinel, .sentinel, .sentinel, .sentinel] true :=
  Program.laidByTextLater_by_one 292 8 33 (by kernel_rfl) (by kernel_rfl) (by kernel_rfl) (by kernel_rfl) (by kernel_rfl) (by kernel_rfl) (fun _ _ => by kernel_rfl)
theorem pin_laid_unicode_utf8_first : Tryd.pinned.checked.prog.pinnedFits "unicode/utf8.first" = true := by kernel_rfl
theorem noOwnUnsafe : Tryd.pinned.checked.prog.headLifts.contains "ownunsafe" = false := by kernel_rfl
theorem tie : Tryd.prog.laidByTextLater [("quitrent/api.ErrArg", Rows.laid_quitrent_api_ErrArg), ("quitrent/api.ErrNil", Rows.laid_quitrent_api_ErrNil), ("quitrent/api.ErrForm", Rows.laid_quitrent_api_ErrForm), ("quitrent/api.ErrOver", Rows.laid_quitrent_api_ErrOver), ("quitrent/api.ErrNone", Rows.laid_quitrent_api_ErrNone), ("quitrent/api.ErrDup", Rows.laid_quitrent_api_ErrDup), ("quitrent/api.ErrFull", Rows.laid_quitrent_api_ErrFull), ("quitrent/api.ErrQuota", Rows.laid_quitrent_api_ErrQuota), ("quitrent/api.ErrCeil", Rows.laid_quitrent_api_ErrCeil), ("quitrent/api.ErrRoom", Rows.laid_quitrent_api_ErrRoom), ("quitrent/api.ErrBudget", Rows.laid_quitrent_api_ErrBudget), ("quitrent/api.ErrFunds", Rows.laid_quitrent_api_ErrFunds), ("quitrent/api.ErrState", Rows.laid_quitrent_api_ErrState), ("quitrent/api.ErrDown", Rows.laid_quitrent_api_ErrDown)] [.sentinel, .sentinel, .sentinel, .sentinel, .sentinel, .sentinel, .sentinel, .sentinel, .sentinel, .sentinel, .sentinel, .sentinel, .sentinel, .sentinel] true :=
  Program.laidByTextLater.sub seatTie1 ["quitrent/api.ErrArg", "quitrent/api.ErrNil", "quitrent/api.ErrForm", "quitrent/api.ErrOver", "quitrent/api.ErrNone", "quitrent/api.ErrDup", "quitrent/api.ErrFull", "quitrent/api.ErrQuota", "quitrent/api.ErrCeil", "quitrent/api.ErrRoom", "quitrent/api.ErrBudget", "quitrent/api.ErrFunds", "quitrent/api.ErrState", "quitrent/api.ErrDown"] (by kernel_rfl) (by kernel_rfl)
theorem blockExact_row_tie : Rows.blockExactRow.laidByTextAt .later Tryd.pinned [.sentinel, .sentinel, .sentinel, .sentinel, .sentinel, .sentinel, .sentinel, .sentinel, .sentinel, .sentinel, .sentinel, .sentinel, .sentinel, .sentinel] true :=
  OpenClaim.laidByTextAt_later rfl rfl tie noOwnUnsafe
theorem blockTears_row_tie : Rows.blockTearsRow.laidByTextAt .later Tryd.pinned [.sentinel, .sentinel, .sentinel, .sentinel, .sentinel, .sentinel, .sentinel, .sentinel, .sentinel, .sentinel, .sentinel, .sentinel, .sentinel, .sentinel] true :=
  OpenClaim.laidByTextAt_later rfl rfl tie noOwnUnsafe
theorem blockSizes_row_tie : Rows.blockSizesRow.laidByTextAt .later Tryd.pinned [.sentinel, .sentinel, .sentinel, .sentinel, .sentinel, .sentinel, .sentinel, .sentinel, .sentinel, .sentinel, .sentinel, .sentinel, .sentinel, .sentinel] true :=
  OpenClaim.laidByTextAt_later rfl rfl tie noOwnUnsafe
theorem blockAgain_row_tie : Rows.blockAgainRow.laidByTextAt .later Tryd.pinned [.sentinel, .sentinel, .sentinel, .sentinel, .sentinel, .sentinel, .sentinel, .sentinel, .sentinel, .sentinel, .sentinel, .sentinel, .sentinel, .sentinel] true :=
  OpenClaim.laidByTextAt_later rfl rfl tie noOwnUnsafe
theorem fits2 : Tryd.pinned.checked.prog.listedFits [("unicode/utf8.acceptRanges", Rows.laid_unicode_utf8_acceptRanges), ("quitrent/api.ErrArg", Rows.laid_quitrent_api_ErrArg), ("quitrent/api.ErrForm", Rows.laid_quitrent_api_ErrForm), ("unicode/utf8.first", Rows.laid_unicode_utf8_first)] = true := by
  unfold Program.listedFits
  rw [noOwnUnsafe]
  kernel_rfl
theorem tie2 : Tryd.prog.laidByTextLater [("unicode/utf8.acceptRanges", Rows.laid_unicode_utf8_acceptRanges), ("quitrent/api.ErrArg", Rows.laid_quitrent_api_ErrArg), ("quitrent/api.ErrForm", Rows.laid_quitrent_api_ErrForm)] [.data, .sentinel, .sentinel] true :=
  Program.laidByTextLater.sub seatTie1 ["unicode/utf8.acceptRanges", "quitrent/api.ErrArg", "quitrent/api.ErrForm"] (by kernel_rfl) (by kernel_rfl)
theorem frameBack_row_tie : Rows.frameBackRow.laidByTextAt .later Tryd.pinned [.data, .sentinel, .sentinel, .pinned] true :=
  OpenClaim.laidByTextAt_pinned rfl rfl tie2 rfl rfl rfl rfl (fun y hy _e => by
    simp only [Rows.frameBackRow, List.zip_cons_cons, List.zip_nil_right, List.mem_cons, List.mem_nil_iff, or_false] at hy
    rcases hy with rfl | rfl | rfl | rfl
    · cases _e
    · cases _e
    · cases _e
    · exact ⟨pin_laid_unicode_utf8_first, by kernel_rfl⟩) fits2
theorem frameSizes_row_tie : Rows.frameSizesRow.laidByTextAt .later Tryd.pinned [.data, .sentinel, .sentinel, .pinned] true :=
  OpenClaim.laidByTextAt_pinned rfl rfl tie2 rfl rfl rfl rfl (fun y hy _e => by
    simp only [Rows.frameSizesRow, List.zip_cons_cons, List.zip_nil_right, List.mem_cons, List.mem_nil_iff, or_false] at hy
    rcases hy with rfl | rfl | rfl | rfl
    · cases _e
    · cases _e
    · cases _e
    · exact ⟨pin_laid_unicode_utf8_first, by kernel_rfl⟩) fits2
theorem fits3 : Tryd.pinned.checked.prog.listedFits [("unicode/utf8.acceptRanges", Rows.laid_unicode_utf8_acceptRanges), ("errors.errorType", Rows.laid_errors_errorType), ("quitrent/api.ErrArg", Rows.laid_quitrent_api_ErrArg), ("quitrent/api.ErrForm", Rows.laid_quitrent_api_ErrForm), ("unicode/utf8.first", Rows.laid_unicode_utf8_first)] = true := by
  unfold Program.listedFits
  rw [noOwnUnsafe]
  kernel_rfl
theorem tie3 : Tryd.prog.laidByTextLater [("unicode/utf8.acceptRanges", Rows.laid_unicode_utf8_acceptRanges), ("errors.errorType", Rows.laid_errors_errorType), ("quitrent/api.ErrArg", Rows.laid_quitrent_api_ErrArg), ("quitrent/api.ErrForm", Rows.laid_quitrent_api_ErrForm)] [.data, .handle, .sentinel, .sentinel] true :=
  Program.laidByTextLater.sub seatTie1 ["unicode/utf8.acceptRanges", "errors.errorType", "quitrent/api.ErrArg", "quitrent/api.ErrForm"] (by kernel_rfl) (by kernel_rfl)
theorem frameExact_row_tie : Rows.frameExactRow.laidByTextAt .later Tryd.pinned [.data, .handle, .sentinel, .sentinel, .pinned] true :=
  OpenClaim.laidByTextAt_pinned rfl rfl tie3 rfl rfl rfl rfl (fun y hy _e => by
    simp only [Rows.frameExactRow, List.zip_cons_cons, List.zip_nil_right, List.mem_cons, List.mem_nil_iff, or_false] at hy
    rcases hy with rfl | rfl | rfl | rfl | rfl
    · cases _e
    · cases _e
    · cases _e
    · cases _e
    · exact ⟨pin_laid_unicode_utf8_first, by kernel_rfl⟩) fits3
theorem frameTorn_row_tie : Rows.frameTornRow.laidByTextAt .later Tryd.pinned [.data, .handle, .sentinel, .sentinel, .pinned] true :=
  OpenClaim.laidByTextAt_pinned rfl rfl tie3 rfl rfl rfl rfl (fun y hy _e => by
    simp only [Rows.frameTornRow, List.zip_cons_cons, List.zip_nil_right, List.mem_cons, List.mem_nil_iff, or_false] at hy
    rcases hy with rfl | rfl | rfl | rfl | rfl
    · cases _e
    · cases _e
    · cases _e
    · cases _e
    · exact ⟨pin_laid_unicode_utf8_first, by kernel_rfl⟩) fits3
theorem blockExactUpto_row_tie : Rows.blockExactUptoRow.laidByTextAt .later Tryd.pinned [.sentinel, .sentinel, .sentinel, .sentinel, .sentinel, .sentinel, .sentinel, .sentinel, .sentinel, .sentinel, .sentinel, .sentinel, .sentinel, .sentinel] true :=
  OpenClaim.laidByTextAt_later rfl rfl tie noOwnUnsafe
theorem blockTearsUpto_row_tie : Rows.blockTearsUptoRow.laidByTextAt .later Tryd.pinned [.sentinel, .sentinel, .sentinel, .sentinel, .sentinel, .sentinel, .sentinel, .sentinel, .sentinel, .sentinel, .sentinel, .sentinel, .sentinel, .sentinel] true :=
  OpenClaim.laidByTextAt_later rfl rfl tie noOwnUnsafe
theorem blockSizesUpto_row_tie : Rows.blockSizesUptoRow.laidByTextAt .later Tryd.pinned [.sentinel, .sentinel, .sentinel, .sentinel, .sentinel, .sentinel, .sentinel, .sentinel, .sentinel, .sentinel, .sentinel, .sentinel, .sentinel, .sentinel] true :=
  OpenClaim.laidByTextAt_later rfl rfl tie noOwnUnsafe
theorem blockAgainUpto_row_tie : Rows.blockAgainUptoRow.laidByTextAt .later Tryd.pinned [.sentinel, .sentinel, .sentinel, .sentinel, .sentinel, .sentinel, .sentinel, .sentinel, .sentinel, .sentinel, .sentinel, .sentinel, .sentinel, .sentinel] true :=
  OpenClaim.laidByTextAt_later rfl rfl tie noOwnUnsafe
theorem frameBackUpto_row_tie : Rows.frameBackUptoRow.laidByTextAt .later Tryd.pinned [.data, .sentinel, .sentinel, .pinned] true :=
  OpenClaim.laidByTextAt_pinned rfl rfl tie2 rfl rfl rfl rfl (fun y hy _e => by
    simp only [Rows.frameBackUptoRow, List.zip_cons_cons, List.zip_nil_right, List.mem_cons, List.mem_nil_iff, or_false] at hy
    rcases hy with rfl | rfl | rfl | rfl
    · cases _e
    · cases _e
    · cases _e
    · exact ⟨pin_laid_unicode_utf8_first, by kernel_rfl⟩) fits2
theorem frameSizesUpto_row_tie : Rows.frameSizesUptoRow.laidByTextAt .later Tryd.pinned [.data, .sentinel, .sentinel, .pinned] true :=
  OpenClaim.laidByTextAt_pinned rfl rfl tie2 rfl rfl rfl rfl (fun y hy _e => by
    simp only [Rows.frameSizesUptoRow, List.zip_cons_cons, List.zip_nil_right, List.mem_cons, List.mem_nil_iff, or_false] at hy
    rcases hy with rfl | rfl | rfl | rfl
    · cases _e
    · cases _e
    · cases _e
    · exact ⟨pin_laid_unicode_utf8_first, by kernel_rfl⟩) fits2
theorem frameExactUpto_row_tie : Rows.frameExactUptoRow.laidByTextAt .later Tryd.pinned [.data, .handle, .sentinel, .sentinel, .pinned] true :=
  OpenClaim.laidByTextAt_pinned rfl rfl tie3 rfl rfl rfl rfl (fun y hy _e => by
    simp only [Rows.frameExactUptoRow, List.zip_cons_cons, List.zip_nil_right, List.mem_cons, List.mem_nil_iff, or_false] at hy
    rcases hy with rfl | rfl | rfl | rfl | rfl
    · cases _e
    · cases _e
    · cases _e
    · cases _e
    · exact ⟨pin_laid_unicode_utf8_first, by kernel_rfl⟩) fits3
theorem frameTornUpto_row_tie : Rows.frameTornUptoRow.laidByTextAt .later Tryd.pinned [.data, .handle, .sentinel, .sentinel, .pinned] true :=
  OpenClaim.laidByTextAt_pinned rfl rfl tie3 rfl rfl rfl rfl (fun y hy _e => by
    simp only [Rows.frameTornUptoRow, List.zip_cons_cons, List.zip_nil_right, List.mem_cons, List.mem_nil_iff, or_false] at hy
    rcases hy with rfl | rfl | rfl | rfl | rfl
    · cases _e
    · cases _e
    · cases _e
    · cases _e
    · exact ⟨pin_laid_unicode_utf8_first, by kernel_rfl⟩) fits3
end Go.Proofs.YtcmnchmkoghfdaaDoor
