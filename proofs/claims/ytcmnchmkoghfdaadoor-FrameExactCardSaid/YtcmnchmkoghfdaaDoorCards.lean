/-
  DERIVED. GIVEN WITH THE SEED: THE CARDS: each row of YtcmnchmkoghfdaaDoorRows.lean that lists a variable, with what it lists TIED to the program's text (the seventh form; the later family's looks); each row that meets fmt, with fmt's text TOLD by the authors' own Lean function (tested against real Go, not proved from fmt's source: count such statements apart). THE CARD IS WHAT COUNTS. Prove the row's statement (the work); the ties are given (YtcmnchmkoghfdaaDoorTie.lean); close each card by the builder's one call (the guide's Derived/Test/ToyasCard.lean, 'card_holds'). Laid BY PROGRAM, IN A SANDBOX (cutbox-door.mjs). By AI agents, Wed Nov 11 2026. No macro, syntax, notation, axiom, sorry.
-/
import Derived.Test.YtcmnchmkoghfdaaDoorRows
import GoSem.ClaimSeven
namespace Go.Proofs.YtcmnchmkoghfdaaDoor
namespace Rows

/-- THE TIED CARD OF 'quitrentlaw04.BlockExact'. -/
def blockExactCard : Claim7 := { stood := { row := blockExactRow, standIns := [], harness := (true, "8245ee041aea3992da82c2ca5ca4641a2fefe1a770cc643a51668437c13570bb"), looks := true }, kinds := [], alts := [], laidByText := true, laidKinds := [.sentinel, .sentinel, .sentinel, .sentinel, .sentinel, .sentinel, .sentinel, .sentinel, .sentinel, .sentinel, .sentinel, .sentinel, .sentinel, .sentinel], laidTests := true, laidLooks := .later }
def BlockExactCardSaid : Prop := Claim7.holds Tryd.pinned (.plain (OpenSpec.ofChange blockExactSpec)) blockExactCard

/-- THE TIED CARD OF 'quitrentlaw04.BlockTears'. -/
def blockTearsCard : Claim7 := { stood := { row := blockTearsRow, standIns := [], harness := (true, "8245ee041aea3992da82c2ca5ca4641a2fefe1a770cc643a51668437c13570bb"), looks := true }, kinds := [], alts := [], laidByText := true, laidKinds := [.sentinel, .sentinel, .sentinel, .sentinel, .sentinel, .sentinel, .sentinel, .sentinel, .sentinel, .sentinel, .sentinel, .sentinel, .sentinel, .sentinel], laidTests := true, laidLooks := .later }
def BlockTearsCardSaid : Prop := Claim7.holds Tryd.pinned (.plain (OpenSpec.ofChange blockTearsSpec)) blockTearsCard

/-- THE TIED CARD OF 'quitrentlaw04.BlockSizes'. -/
def blockSizesCard : Claim7 := { stood := { row := blockSizesRow, standIns := [], harness := (true, "8245ee041aea3992da82c2ca5ca4641a2fefe1a770cc643a51668437c13570bb"), looks := true }, kinds := [], alts := [], laidByText := true, laidKinds := [.sentinel, .sentinel, .sentinel, .sentinel, .sentinel, .sentinel, .sentinel, .sentinel, .sentinel, .sentinel, .sentinel, .sentinel, .sentinel, .sentinel], laidTests := true, laidLooks := .later }
def BlockSizesCardSaid : Prop := Claim7.holds Tryd.pinned (.plain (OpenSpec.ofChange blockSizesSpec)) blockSizesCard

/-- THE TIED CARD OF 'quitrentlaw04.BlockAgain'. -/
def blockAgainCard : Claim7 := { stood := { row := blockAgainRow, standIns := [], harness := (true, "8245ee041aea3992da82c2ca5ca4641a2fefe1a770cc643a51668437c13570bb"), looks := true }, kinds := [], alts := [], laidByText := true, laidKinds := [.sentinel, .sentinel, .sentinel, .sentinel, .sentinel, .sentinel, .sentinel, .sentinel, .sentinel, .sentinel, .sentinel, .sentinel, .sentinel, .sentinel], laidTests := true, laidLooks := .later }
def BlockAgainCardSaid : Prop := Claim7.holds Tryd.pinned (.plain (OpenSpec.ofChange blockAgainSpec)) blockAgainCard

/-- THE TIED CARD OF 'quitrentlaw05.FrameBack'. -/
def frameBackCard : Claim7 := { stood := { row := frameBackRow, standIns := [], harness := (true, "8245ee041aea3992da82c2ca5ca4641a2fefe1a770cc643a51668437c13570bb"), looks := true }, kinds := [], alts := [], laidByText := true, laidKinds := [.data, .sentinel, .sentinel, .pinned], laidTests := true, laidLooks := .later }
def FrameBackCardSaid : Prop := Claim7.holds Tryd.pinned (.plain (OpenSpec.ofChange frameBackSpec)) frameBackCard

/-- THE TIED CARD OF 'quitrentlaw05.FrameSizes'. -/
def frameSizesCard : Claim7 := { stood := { row := frameSizesRow, standIns := [], harness := (true, "8245ee041aea3992da82c2ca5ca4641a2fefe1a770cc643a51668437c13570bb"), looks := true }, kinds := [], alts := [], laidByText := true, laidKinds := [.data, .sentinel, .sentinel, .pinned], laidTests := true, laidLooks := .later }
def FrameSizesCardSaid : Prop := Claim7.holds Tryd.pinned (.plain (OpenSpec.ofChange frameSizesSpec)) frameSizesCard

/-- THE TIED CARD OF 'quitrentlaw05.FrameExact'. -/
def frameExactCard : Claim7 := { stood := { row := frameExactRow, standIns := [], harness := (true, "8245ee041aea3992da82c2ca5ca4641a2fefe1a770cc643a51668437c13570bb"), looks := true }, kinds := [], alts := [], laidByText := true, laidKinds := [.data, .handle, .sentinel, .sentinel, .pinned], laidTests := true, laidLooks := .later }
def FrameExactCardSaid : Prop := Claim7.holds Tryd.pinned (.plain (OpenSpec.ofChange frameExactSpec)) frameExactCard

/-- THE TIED CARD OF 'quitrentlaw05.FrameTorn'. -/
def frameTornCard : Claim7 := { stood := { row := frameTornRow, standIns := [], harness := (true, "8245ee041aea3992da82c2ca5ca4641a2fefe1a770cc643a51668437c13570bb"), looks := true }, kinds := [], alts := [], laidByText := true, laidKinds := [.data, .handle, .sentinel, .sentinel, .pinned], laidTests := true, laidLooks := .later }
def FrameTornCardSaid : Prop := Claim7.holds Tryd.pinned (.plain (OpenSpec.ofChange frameTornSpec)) frameTornCard

/-- THE SECOND FORM's CARD OF 'quitrentlaw04.BlockExact'. -/
def blockExactUptoCard : Claim7 := { stood := { row := blockExactUptoRow, standIns := [], harness := (true, "8245ee041aea3992da82c2ca5ca4641a2fefe1a770cc643a51668437c13570bb"), looks := true }, kinds := [], alts := [], laidByText := true, laidKinds := [.sentinel, .sentinel, .sentinel, .sentinel, .sentinel, .sentinel, .sentinel, .sentinel, .sentinel, .sentinel, .sentinel, .sentinel, .sentinel, .sentinel], laidTests := true, laidLooks := .later }
def BlockExactUptoCardSaid : Prop := Claim7.holds Tryd.pinned (.plain (OpenSpec.upto blockExactSpec)) blockExactUptoCard

/-- THE SECOND FORM's CARD OF 'quitrentlaw04.BlockTears'. -/
def blockTearsUptoCard : Claim7 := { stood := { row := blockTearsUptoRow, standIns := [], harness := (true, "8245ee041aea3992da82c2ca5ca4641a2fefe1a770cc643a51668437c13570bb"), looks := true }, kinds := [], alts := [], laidByText := true, laidKinds := [.sentinel, .sentinel, .sentinel, .sentinel, .sentinel, .sentinel, .sentinel, .sentinel, .sentinel, .sentinel, .sentinel, .sentinel, .sentinel, .sentinel], laidTests := true, laidLooks := .later }
def BlockTearsUptoCardSaid : Prop := Claim7.holds Tryd.pinned (.plain (OpenSpec.upto blockTearsSpec)) blockTearsUptoCard

/-- THE SECOND FORM's CARD OF 'quitrentlaw04.BlockSizes'. -/
def blockSizesUptoCard : Claim7 := { stood := { row := blockSizesUptoRow, standIns := [], harness := (true, "8245ee041aea3992da82c2ca5ca4641a2fefe1a770cc643a51668437c13570bb"), looks := true }, kinds := [], alts := [], laidByText := true, laidKinds := [.sentinel, .sentinel, .sentinel, .sentinel, .sentinel, .sentinel, .sentinel, .sentinel, .sentinel, .sentinel, .sentinel, .sentinel, .sentinel, .sentinel], laidTests := true, laidLooks := .later }
def BlockSizesUptoCardSaid : Prop := Claim7.holds Tryd.pinned (.plain (OpenSpec.upto blockSizesSpec)) blockSizesUptoCard

/-- THE SECOND FORM's CARD OF 'quitrentlaw04.BlockAgain'. -/
def blockAgainUptoCard : Claim7 := { stood := { row := blockAgainUptoRow, standIns := [], harness := (true, "8245ee041aea3992da82c2ca5ca4641a2fefe1a770cc643a51668437c13570bb"), looks := true }, kinds := [], alts := [], laidByText := true, laidKinds := [.sentinel, .sentinel, .sentinel, .sentinel, .sentinel, .sentinel, .sentinel, .sentinel, .sentinel, .sentinel, .sentinel, .sentinel, .sentinel, .sentinel], laidTests := true, laidLooks := .later }
def BlockAgainUptoCardSaid : Prop := Claim7.holds Tryd.pinned (.plain (OpenSpec.upto blockAgainSpec)) blockAgainUptoCard

/-- THE SECOND FORM's CARD OF 'quitrentlaw05.FrameBack'. -/
def frameBackUptoCard : Claim7 := { stood := { row := frameBackUptoRow, standIns := [], harness := (true, "8245ee041aea3992da82c2ca5ca4641a2fefe1a770cc643a51668437c13570bb"), looks := true }, kinds := [], alts := [], laidByText := true, laidKinds := [.data, .sentinel, .sentinel, .pinned], laidTests := true, laidLooks := .later }
def FrameBackUptoCardSaid : Prop := Claim7.holds Tryd.pinned (.plain (OpenSpec.upto frameBackSpec)) frameBackUptoCard

/-- THE SECOND FORM's CARD OF 'quitrentlaw05.FrameSizes'. -/
def frameSizesUptoCard : Claim7 := { stood := { row := frameSizesUptoRow, standIns := [], harness := (true, "8245ee041aea3992da82c2ca5ca4641a2fefe1a770cc643a51668437c13570bb"), looks := true }, kinds := [], alts := [], laidByText := true, laidKinds := [.data, .sentinel, .sentinel, .pinned], laidTests := true, laidLooks := .later }
def FrameSizesUptoCardSaid : Prop := Claim7.holds Tryd.pinned (.plain (OpenSpec.upto frameSizesSpec)) frameSizesUptoCard

/-- THE SECOND FORM's CARD OF 'quitrentlaw05.FrameExact'. -/
def frameExactUptoCard : Claim7 := { stood := { row := frameExactUptoRow, standIns := [], harness := (true, "8245ee041aea3992da82c2ca5ca4641a2fefe1a770cc643a51668437c13570bb"), looks := true }, kinds := [], alts := [], laidByText := true, laidKinds := [.data, .handle, .sentinel, .sentinel, .pinned], laidTests := true, laidLooks := .later }
def FrameExactUptoCardSaid : Prop := Claim7.holds Tryd.pinned (.plain (OpenSpec.upto frameExactSpec)) frameExactUptoCard

/-- THE SECOND FORM's CARD OF 'quitrentlaw05.FrameTorn'. -/
def frameTornUptoCard : Claim7 := { stood := { row := frameTornUptoRow, standIns := [], harness := (true, "8245ee041aea3992da82c2ca5ca4641a2fefe1a770cc643a51668437c13570bb"), looks := true }, kinds := [], alts := [], laidByText := true, laidKinds := [.data, .handle, .sentinel, .sentinel, .pinned], laidTests := true, laidLooks := .later }
def FrameTornUptoCardSaid : Prop := Claim7.holds Tryd.pinned (.plain (OpenSpec.upto frameTornSpec)) frameTornUptoCard
end Rows
end Go.Proofs.YtcmnchmkoghfdaaDoor
