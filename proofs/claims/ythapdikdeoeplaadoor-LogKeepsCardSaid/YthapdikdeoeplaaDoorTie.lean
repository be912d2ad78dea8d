/-
  DERIVED. GIVEN WITH THE SEED: THE PROGRAM's TIES (one call each: nine closed facts by the kernel) AND EACH ROW's TIE, after the 31st guide's Derived/Test/Toyas{Tie, Card}.lean. No idea stands in it: it is a product of the set-up. Laid BY PROGRAM, IN A SANDBOX (cutbox-door.mjs). By AI agents, Wed Nov 11 2026. No macro, syntax, notation, axiom, sorry.
-/
import Derived.Test.YthapdikdeoeplaaDoorRows
import Derived.LaidByTextLater
import Derived.SevenTiedAt
import Derived.LaidSub
import Derived.LaidOnce
namespace Go.Proofs.YthapdikdeoeplaaDoor
open Go
set_option maxRecDepth 100000
theorem seatTie1 : Tryd.prog.laidByTextLater [("unicode/utf8.acceptRanges", Rows.laid_unicode_utf8_acceptRanges), ("quitrent/api.ErrArg", Rows.laid_quitrent_api_ErrArg), ("quitrent/api.ErrNil", Rows.laid_quitrent_api_ErrNil), ("quitrent/api.ErrForm", Rows.laid_quitrent_api_ErrForm), ("quitrent/api.ErrOver", Rows.laid_quitrent_api_ErrOver), ("quitrent/api.ErrNone", Rows.laid_quitrent_api_ErrNone), ("quitrent/api.ErrDup", Rows.laid_quitrent_api_ErrDup), ("quitrent/api.ErrFull", Rows.laid_quitrent_api_ErrFull), ("quitrent/api.ErrQuota", Rows.laid_quitrent_api_ErrQuota), ("quitrent/api.ErrCeil", Rows.laid_quitrent_api_ErrCeil), ("quitrent/api.ErrRoom", Rows.laid_quitrent_api_ErrRoom), ("quitrent/api.ErrBudget", Rows.laid_quitrent_api_ErrBudget), ("quitrent/api.ErrFunds", Rows.laid_quitrent_api_ErrFunds), ("quitrent/api.ErrState", Rows.laid_quitrent_api_ErrState), ("quitrent/api.ErrDown", Rows.laid_quitrent_api_ErrDown)] [.data, .sentinel, .sentinel, .sentinel, .sentinel, .sentinel, .sentinel, .sentinel, .sentinel, .sentinel, .sentinel, .sentinel, .sentinel, .sentinel, .sentinel] true :=
  Program.laidByTextLater_by_one 285 8 33 (by kernel_rfl) (by kernel_rfl) (by kernel_rfl) (by kernel_rfl) (by kernel_rfl) (by kernel_rfl) (fun _ _ => by kernel_rfl)
theorem pin_laid_unicode_utf8_first : Tryd.pinned.checked.prog.pinnedFits "unicode/utf8.first" = true := by kernel_rfl
theorem noOwnUnsafe : Tryd.pinned.checked.prog.headLifts.contains "ownunsafe" = false := by kernel_rfl
theorem fits1 : Tryd.pinned.checked.prog.listedFits [("unicode/utf8.acceptRanges", Rows.laid_unicode_utf8_acceptRanges), ("quitrent/api.ErrArg", Rows.laid_quitrent_api_ErrArg), ("quitrent/api.ErrNil", Rows.laid_quitrent_api_ErrNil), ("quitrent/api.ErrForm", Rows.laid_quitrent_api_ErrForm), ("quitrent/api.ErrOver", Rows.laid_quitrent_api_ErrOver), ("quitrent/api.ErrNone", Rows.laid_quitrent_api_ErrNone), ("quitrent/api.ErrDup", Rows.laid_quitrent_api_ErrDup), ("quitrent/api.ErrFull", Rows.laid_quitrent_api_ErrFull), ("quitrent/api.ErrQuota", Rows.laid_quitrent_api_ErrQuota), ("quitrent/api.ErrCeil", Rows.laid_quitrent_api_ErrCeil), ("quitrent/api.ErrRoom", Rows.laid_quitrent_api_ErrRoom), ("quitrent/api.ErrBudget", Rows.laid_quitrent_api_ErrBudget), ("quitrent/api.ErrFunds", Rows.laid_quitrent_api_ErrFunds), ("quitrent/api.ErrState", Rows.laid_quitrent_api_ErrState), ("quitrent/api.ErrDown", Rows.laid_quitrent_api_ErrDown), ("unicode/utf8.first", Rows.laid_unicode_utf8_first)] = true := by
  unfold Program.listedFits
  rw [noOwnUnsafe]
  kernel_rfl
theorem tie : Tryd.prog.laidByTextLater [("unicode/utf8.acceptRanges", Rows.laid_unicode_utf8_acceptRanges), ("quitrent/api.ErrArg", Rows.laid_quitrent_api_ErrArg), ("quitrent/api.ErrNil", Rows.laid_quitrent_api_ErrNil), ("quitrent/api.ErrForm", Rows.laid_quitrent_api_ErrForm), ("quitrent/api.ErrOver", Rows.laid_quitrent_api_ErrOver), ("quitrent/api.ErrNone", Rows.laid_quitrent_api_ErrNone), ("quitrent/api.ErrDup", Rows.laid_quitrent_api_ErrDup), ("quitrent/api.ErrFull", Rows.laid_quitrent_api_ErrFull), ("quitrent/api.ErrQuota", Rows.laid_quitrent_api_ErrQuota), ("quitrent/api.ErrCeil", Rows.laid_quitrent_api_ErrCeil), ("quitrent/api.ErrRoom", Rows.laid_quitrent_api_ErrRoom), ("quitrent/api.ErrBudget", Rows.laid_quitrent_api_ErrBudget), ("quitrent/api.ErrFunds", Rows.laid_quitrent_api_ErrFunds), ("quitrent/api.ErrState", Rows.laid_quitrent_api_ErrState), ("quitrent/api.ErrDown", Rows.laid_quitrent_api_ErrDown)] [.data, .sentinel, .sentinel, .sentinel, .sentinel, .sentinel, .sentinel, .sentinel, .sentinel, .sentinel, .sentinel, .sentinel, .sentinel, .sentinel, .sentinel] true :=
  Program.laidByTextLater.sub seatTie1 ["unicode/utf8.acceptRanges", "quitrent/api.ErrArg", "quitrent/api.ErrNil", "quitrent/api.ErrForm", "quitrent/api.ErrOver", "quitrent/api.ErrNone", "quitrent/api.ErrDup", "quitrent/api.ErrFull", "quitrent/api.ErrQuota", "quitrent/api.ErrCeil", "quitrent/api.ErrRoom", "quitrent/api.ErrBudget", "quitrent/api.ErrFunds", "quitrent/api.ErrState", "quitrent/api.ErrDown"] (by kernel_rfl) (by kernel_rfl)
theorem logKeeps_row_tie : Rows.logKeepsRow.laidByTextAt .later Tryd.pinned [.data, .sentinel, .sentinel, .sentinel, .sentinel, .sentinel, .sentinel, .sentinel, .sentinel, .sentinel, .sentinel, .sentinel, .sentinel, .sentinel, .sentinel, .pinned] true :=
  OpenClaim.laidByTextAt_pinned rfl rfl tie rfl rfl rfl rfl (fun y hy _e => by
    simp only [Rows.logKeepsRow, List.zip_cons_cons, List.zip_nil_right, List.mem_cons, List.mem_nil_iff, or_false] at hy
    rcases hy with rfl | rfl | rfl | rfl | rfl | rfl | rfl | rfl | rfl | rfl | rfl | rfl | rfl | rfl | rfl | rfl
    · cases _e
    · cases _e
    · cases _e
    · cases _e
    · cases _e
    · cases _e
    · cases _e
    · cases _e
    · cases _e
    · cases _e
    · cases _e
    · cases _e
    · cases _e
    · cases _e
    · cases _e
    · exact ⟨pin_laid_unicode_utf8_first, by kernel_rfl⟩) fits1
theorem logResets_row_tie : Rows.logResetsRow.laidByTextAt .later Tryd.pinned [.data, .sentinel, .sentinel, .sentinel, .sentinel, .sentinel, .sentinel, .sentinel, .sentinel, .sentinel, .sentinel, .sentinel, .sentinel, .sentinel, .sentinel, .pinned] true :=
  OpenClaim.laidByTextAt_pinned rfl rfl tie rfl rfl rfl rfl (fun y hy _e => by
    simp only [Rows.logResetsRow, List.zip_cons_cons, List.zip_nil_right, List.mem_cons, List.mem_nil_iff, or_false] at hy
    rcases hy with rfl | rfl | rfl | rfl | rfl | rfl | rfl | rfl | rfl | rfl | rfl | rfl | rfl | rfl | rfl | rfl
    · cases _e
    · cases _e
    · cases _e
    · cases _e
    · cases _e
    · cases _e
    · cases _e
    · cases _e
    · cases _e
    · cases _e
    · cases _e
    · cases _e
    · cases _e
    · cases _e
    · cases _e
    · exact ⟨pin_laid_unicode_utf8_first, by kernel_rfl⟩) fits1
theorem logFull_row_tie : Rows.logFullRow.laidByTextAt .later Tryd.pinned [.data, .sentinel, .sentinel, .sentinel, .sentinel, .sentinel, .sentinel, .sentinel, .sentinel, .sentinel, .sentinel, .sentinel, .sentinel, .sentinel, .sentinel, .pinned] true :=
  OpenClaim.laidByTextAt_pinned rfl rfl tie rfl rfl rfl rfl (fun y hy _e => by
    simp only [Rows.logFullRow, List.zip_cons_cons, List.zip_nil_right, List.mem_cons, List.mem_nil_iff, or_false] at hy
    rcases hy with rfl | rfl | rfl | rfl | rfl | rfl | rfl | rfl | rfl | rfl | rfl | rfl | rfl | rfl | rfl | rfl
    · cases _e
    · cases _e
    · cases _e
    · cases _e
    · cases _e
    · cases _e
    · cases _e
    · cases _e
    · cases _e
    · cases _e
    · cases _e
    · cases _e
    · cases _e
    · cases _e
    · cases _e
    · exact ⟨pin_laid_unicode_utf8_first, by kernel_rfl⟩) fits1
theorem fits2 : Tryd.pinned.checked.prog.listedFits [("unicode/utf8.acceptRanges", Rows.laid_unicode_utf8_acceptRanges), ("quitrent/api.ErrArg", Rows.laid_quitrent_api_ErrArg), ("quitrent/api.ErrNil", Rows.laid_quitrent_api_ErrNil), ("quitrent/api.ErrForm", Rows.laid_quitrent_api_ErrForm), ("quitrent/api.ErrFull", Rows.laid_quitrent_api_ErrFull), ("quitrent/api.ErrDown", Rows.laid_quitrent_api_ErrDown), ("unicode/utf8.first", Rows.laid_unicode_utf8_first)] = true := by
  unfold Program.listedFits
  rw [noOwnUnsafe]
  kernel_rfl
theorem tie2 : Tryd.prog.laidByTextLater [("unicode/utf8.acceptRanges", Rows.laid_unicode_utf8_acceptRanges), ("quitrent/api.ErrArg", Rows.laid_quitrent_api_ErrArg), ("quitrent/api.ErrNil", Rows.laid_quitrent_api_ErrNil), ("quitrent/api.ErrForm", Rows.laid_quitrent_api_ErrForm), ("quitrent/api.ErrFull", Rows.laid_quitrent_api_ErrFull), ("quitrent/api.ErrDown", Rows.laid_quitrent_api_ErrDown)] [.data, .sentinel, .sentinel, .sentinel, .sentinel, .sentinel] true :=
  Program.laidByTextLater.sub seatTie1 ["unicode/utf8.acceptRanges", "quitrent/api.ErrArg", "quitrent/api.ErrNil", "quitrent/api.ErrForm", "quitrent/api.ErrFull", "quitrent/api.ErrDown"] (by kernel_rfl) (by kernel_rfl)
theorem shotTurns_row_tie : Rows.shotTurnsRow.laidByTextAt .later Tryd.pinned [.data, .sentinel, .sentinel, .sentinel, .sentinel, .sentinel, .pinned] true :=
  OpenClaim.laidByTextAt_pinned rfl rfl tie2 rfl rfl rfl rfl (fun y hy _e => by
    simp only [Rows.shotTurnsRow, List.zip_cons_cons, List.zip_nil_right, List.mem_cons, List.mem_nil_iff, or_false] at hy
    rcases hy with rfl | rfl | rfl | rfl | rfl | rfl | rfl
    · cases _e
    · cases _e
    · cases _e
    · cases _e
    · cases _e
    · cases _e
    · exact ⟨pin_laid_unicode_utf8_first, by kernel_rfl⟩) fits2
theorem logKeepsUpto_row_tie : Rows.logKeepsUptoRow.laidByTextAt .later Tryd.pinned [.data, .sentinel, .sentinel, .sentinel, .sentinel, .sentinel, .sentinel, .sentinel, .sentinel, .sentinel, .sentinel, .sentinel, .sentinel, .sentinel, .sentinel, .pinned] true :=
  OpenClaim.laidByTextAt_pinned rfl rfl tie rfl rfl rfl rfl (fun y hy _e => by
    simp only [Rows.logKeepsUptoRow, List.zip_cons_cons, List.zip_nil_right, List.mem_cons, List.mem_nil_iff, or_false] at hy
    rcases hy with rfl | rfl | rfl | rfl | rfl | rfl | rfl | rfl | rfl | rfl | rfl | rfl | rfl | rfl | rfl | rfl
    · cases _e
    · cases _e
    · cases _e
    · cases _e
    · cases _e
    · cases _e
    · cases _e
    · cases _e
    · cases _e
    · cases _e
    · cases _e
    · cases _e
    · cases _e
    · cases _e
    · cases _e
    · exact ⟨pin_laid_unicode_utf8_first, by kernel_rfl⟩) fits1
theorem logResetsUpto_row_tie : Rows.logResetsUptoRow.laidByTextAt .later Tryd.pinned [.data, .sentinel, .sentinel, .sentinel, .sentinel, .sentinel, .sentinel, .sentinel, .sentinel, .sentinel, .sentinel, .sentinel, .sentinel, .sentinel, .sentinel, .pinned] true :=
  OpenClaim.laidByTextAt_pinned rfl rfl tie rfl rfl rfl rfl (fun y hy _e => by
    simp only [Rows.logResetsUptoRow, List.zip_cons_cons, List.zip_nil_right, List.mem_cons, List.mem_nil_iff, or_false] at hy
    rcases hy with rfl | rfl | rfl | rfl | rfl | rfl | rfl | rfl | rfl | rfl | rfl | rfl | rfl | rfl | rfl | rfl
    · cases _e
    · cases _e
    · cases _e
    · cases _e
    · cases _e
    · cases _e
    · cases _e
    · cases _e
    · cases _e
    · cases _e
    · cases _e
    · cases _e
    · cases _e
    · cases _e
    · cases _e
    · exact ⟨pin_laid_unicode_utf8_first, by kernel_rfl⟩) fits1
theorem logFullUpto_row_tie : Rows.logFullUptoRow.laidByTextAt .later Tryd.pinned [.data, .sentinel, .sentinel, .sentinel, .sentinel, .sentinel, .sentinel, .sentinel, .sentinel, .sentinel, .sentinel, .sentinel, .sentinel, .sentinel, .sentinel, .pinned] true :=
  OpenClaim.laidByTextAt_pinned rfl rfl tie rfl rfl rfl rfl (fun y hy _e => by
    simp only [Rows.logFullUptoRow, List.zip_cons_cons, List.zip_nil_right, List.mem_cons, List.mem_nil_iff, or_false] at hy
    rcases hy with rfl | rfl | rfl | rfl | rfl | rfl | rfl | rfl | rfl | rfl | rfl | rfl | rfl | rfl | rfl | rfl
    · cases _e
    · cases _e
    · cases _e
    · cases _e
    · cases _e
    · cases _e
    · cases _e
    · cases _e
    · cases _e
    · cases _e
    · cases _e
    · cases _e
    · cases _e
    · cases _e
    · cases _e
    · exact ⟨pin_laid_unicode_utf8_first, by kernel_rfl⟩) fits1
theorem shotTurnsUpto_row_tie : Rows.shotTurnsUptoRow.laidByTextAt .later Tryd.pinned [.data, .sentinel, .sentinel, .sentinel, .sentinel, .sentinel, .pinned] true :=
  OpenClaim.laidByTextAt_pinned rfl rfl tie2 rfl rfl rfl rfl (fun y hy _e => by
    simp only [Rows.shotTurnsUptoRow, List.zip_cons_cons, List.zip_nil_right, List.mem_cons, List.mem_nil_iff, or_false] at hy
    rcases hy with rfl | rfl | rfl | rfl | rfl | rfl | rfl
    · cases _e
    · cases _e
    · cases _e
    · cases _e
    · cases _e
    · cases _e
    · exact ⟨pin_laid_unicode_utf8_first, by kernel_rfl⟩) fits2
end Go.Proofs.YthapdikdeoeplaaDoor
