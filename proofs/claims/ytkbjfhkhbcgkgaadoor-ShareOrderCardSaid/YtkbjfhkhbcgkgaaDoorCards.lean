/-
  DERIVED. GIVEN WITH THE SEED: THE CARDS: each row of YtkbjfhkhbcgkgaaDoorRows.lean that lists a variable, with what it lists TIED to the program's text (the seventh form; the later family's looks); each row that meets fmt, with fmt's text TOLD by the authors' own Lean function (tested against real Go, not proved from fmt's source: count such statements apart). THE CARD IS WHAT COUNTS. Prove the row's statement (the work); the ties are given (YtkbjfhkhbcgkgaaDoorTie.lean); close each card by the builder's one call (the guide's Derived/Test/ToyasCard.lean, 'card_holds'). Laid BY PROGRAM, IN A SANDBOX (cutbox-door.mjs). By AI agents, Wed Nov 11 2026. No macro, syntax, notation, axiom, sorry.
-/
import Derived.Test.YtkbjfhkhbcgkgaaDoorRows
import GoSem.ClaimSeven
namespace Go.Proofs.YtkbjfhkhbcgkgaaDoor
namespace Rows

/-- THE TIED CARD OF 'quitrentlaw01.VecSum'. -/
def vecSumCard : Claim7 := { stood := { row := vecSumRow, standIns := [], harness := (true, "4243926174a71614565de714f267c9577b20ca92153db84b600bf694cec8a25b"), looks := true }, kinds := [], alts := [], laidByText := true, laidKinds := [.handle, .sentinel, .sentinel, .sentinel, .sentinel, .sentinel, .sentinel, .sentinel, .sentinel, .sentinel, .sentinel, .sentinel, .sentinel, .sentinel, .sentinel], laidTests := true, laidLooks := .later }
def VecSumCardSaid : Prop := Claim7.holds Tryd.pinned (.plain (OpenSpec.ofChange vecSumSpec)) vecSumCard

/-- THE TIED CARD OF 'quitrentlaw01.VecOrder'. -/
def vecOrderCard : Claim7 := { stood := { row := vecOrderRow, standIns := [], harness := (true, "4243926174a71614565de714f267c9577b20ca92153db84b600bf694cec8a25b"), looks := true }, kinds := [], alts := [], laidByText := true, laidKinds := [.handle, .sentinel, .sentinel, .sentinel, .sentinel, .sentinel, .sentinel, .sentinel, .sentinel, .sentinel, .sentinel, .sentinel, .sentinel, .sentinel, .sentinel], laidTests := true, laidLooks := .later }
def VecOrderCardSaid : Prop := Claim7.holds Tryd.pinned (.plain (OpenSpec.ofChange vecOrderSpec)) vecOrderCard

/-- THE TIED CARD OF 'quitrentlaw01.VecExact'. -/
def vecExactCard : Claim7 := { stood := { row := vecExactRow, standIns := [], harness := (true, "4243926174a71614565de714f267c9577b20ca92153db84b600bf694cec8a25b"), looks := true }, kinds := [], alts := [], laidByText := true, laidKinds := [.handle, .sentinel, .sentinel, .sentinel, .sentinel, .sentinel, .sentinel, .sentinel, .sentinel, .sentinel, .sentinel, .sentinel, .sentinel, .sentinel, .sentinel], laidTests := true, laidLooks := .later }
def VecExactCardSaid : Prop := Claim7.holds Tryd.pinned (.plain (OpenSpec.ofChange vecExactSpec)) vecExactCard

/-- THE TIED CARD OF 'quitrentlaw01.VecScale'. -/
def vecScaleCard : Claim7 := { stood := { row := vecScaleRow, standIns := [], harness := (true, "4243926174a71614565de714f267c9577b20ca92153db84b600bf694cec8a25b"), looks := true }, kinds := [], alts := [], laidByText := true, laidKinds := [.handle, .sentinel, .sentinel, .sentinel, .sentinel, .sentinel, .sentinel, .sentinel, .sentinel, .sentinel, .sentinel, .sentinel, .sentinel, .sentinel, .sentinel], laidTests := true, laidLooks := .later }
def VecScaleCardSaid : Prop := Claim7.holds Tryd.pinned (.plain (OpenSpec.ofChange vecScaleSpec)) vecScaleCard

/-- THE TIED CARD OF 'quitrentlaw33.ShareExact'. -/
def shareExactCard : Claim7 := { stood := { row := shareExactRow, standIns := [], harness := (true, "4243926174a71614565de714f267c9577b20ca92153db84b600bf694cec8a25b"), looks := true }, kinds := [], alts := [], laidByText := true, laidKinds := [.sentinel], laidTests := true, laidLooks := .later }
def ShareExactCardSaid : Prop := Claim7.holds Tryd.pinned (.plain (OpenSpec.ofChange shareExactSpec)) shareExactCard

/-- THE TIED CARD OF 'quitrentlaw33.ShareChain'. -/
def shareChainCard : Claim7 := { stood := { row := shareChainRow, standIns := [], harness := (true, "4243926174a71614565de714f267c9577b20ca92153db84b600bf694cec8a25b"), looks := true }, kinds := [], alts := [], laidByText := true, laidKinds := [.sentinel], laidTests := true, laidLooks := .later }
def ShareChainCardSaid : Prop := Claim7.holds Tryd.pinned (.plain (OpenSpec.ofChange shareChainSpec)) shareChainCard

/-- THE TIED CARD OF 'quitrentlaw33.ShareMore'. -/
def shareMoreCard : Claim7 := { stood := { row := shareMoreRow, standIns := [], harness := (true, "4243926174a71614565de714f267c9577b20ca92153db84b600bf694cec8a25b"), looks := true }, kinds := [], alts := [], laidByText := true, laidKinds := [.sentinel, .sentinel], laidTests := true, laidLooks := .later }
def ShareMoreCardSaid : Prop := Claim7.holds Tryd.pinned (.plain (OpenSpec.ofChange shareMoreSpec)) shareMoreCard

/-- THE TIED CARD OF 'quitrentlaw33.ShareOrder'. -/
def shareOrderCard : Claim7 := { stood := { row := shareOrderRow, standIns := [], harness := (true, "4243926174a71614565de714f267c9577b20ca92153db84b600bf694cec8a25b"), looks := true }, kinds := [], alts := [], laidByText := true, laidKinds := [.sentinel], laidTests := true, laidLooks := .later }
def ShareOrderCardSaid : Prop := Claim7.holds Tryd.pinned (.plain (OpenSpec.ofChange shareOrderSpec)) shareOrderCard

/-- THE SECOND FORM's CARD OF 'quitrentlaw01.VecSum'. -/
def vecSumUptoCard : Claim7 := { stood := { row := vecSumUptoRow, standIns := [], harness := (true, "4243926174a71614565de714f267c9577b20ca92153db84b600bf694cec8a25b"), looks := true }, kinds := [], alts := [], laidByText := true, laidKinds := [.handle, .sentinel, .sentinel, .sentinel, .sentinel, .sentinel, .sentinel, .sentinel, .sentinel, .sentinel, .sentinel, .sentinel, .sentinel, .sentinel, .sentinel], laidTests := true, laidLooks := .later }
def VecSumUptoCardSaid : Prop := Claim7.holds Tryd.pinned (.plain (OpenSpec.upto vecSumSpec)) vecSumUptoCard

/-- THE SECOND FORM's CARD OF 'quitrentlaw01.VecOrder'. -/
def vecOrderUptoCard : Claim7 := { stood := { row := vecOrderUptoRow, standIns := [], harness := (true, "4243926174a71614565de714f267c9577b20ca92153db84b600bf694cec8a25b"), looks := true }, kinds := [], alts := [], laidByText := true, laidKinds := [.handle, .sentinel, .sentinel, .sentinel, .sentinel, .sentinel, .sentinel, .sentinel, .sentinel, .sentinel, .sentinel, .sentinel, .sentinel, .sentinel, .sentinel], laidTests := true, laidLooks := .later }
def VecOrderUptoCardSaid : Prop := Claim7.holds Tryd.pinned (.plain (OpenSpec.upto vecOrderSpec)) vecOrderUptoCard

/-- THE SECOND FORM's CARD OF 'quitrentlaw01.VecExact'. -/
def vecExactUptoCard : Claim7 := { stood := { row := vecExactUptoRow, standIns := [], harness := (true, "4243926174a71614565de714f267c9577b20ca92153db84b600bf694cec8a25b"), looks := true }, kinds := [], alts := [], laidByText := true, laidKinds := [.handle, .sentinel, .sentinel, .sentinel, .sentinel, .sentinel, .sentinel, .sentinel, .sentinel, .sentinel, .sentinel, .sentinel, .sentinel, .sentinel, .sentinel], laidTests := true, laidLooks := .later }
def VecExactUptoCardSaid : Prop := Claim7.holds Tryd.pinned (.plain (OpenSpec.upto vecExactSpec)) vecExactUptoCard

/-- THE SECOND FORM's CARD OF 'quitrentlaw01.VecScale'. -/
def vecScaleUptoCard : Claim7 := { stood := { row := vecScaleUptoRow, standIns := [], harness := (true, "4243926174a71614565de714f267c9577b20ca92153db84b600bf694cec8a25b"), looks := true }, kinds := [], alts := [], laidByText := true, laidKinds := [.handle, .sentinel, .sentinel, .sentinel, .sentinel, .sentinel, .sentinel, .sentinel, .sentinel, .sentinel, .sentinel, .sentinel, .sentinel, .sentinel, .sentinel], laidTests := true, laidLooks := .later }
def VecScaleUptoCardSaid : Prop := Claim7.holds Tryd.pinned (.plain (OpenSpec.upto vecScaleSpec)) vecScaleUptoCard

/-- THE SECOND FORM's CARD OF 'quitrentlaw33.ShareExact'. -/
def shareExactUptoCard : Claim7 := { stood := { row := shareExactUptoRow, standIns := [], harness := (true, "4243926174a71614565de714f267c9577b20ca92153db84b600bf694cec8a25b"), looks := true }, kinds := [], alts := [], laidByText := true, laidKinds := [.sentinel], laidTests := true, laidLooks := .later }
def ShareExactUptoCardSaid : Prop := Claim7.holds Tryd.pinned (.plain (OpenSpec.upto shareExactSpec)) shareExactUptoCard

/-- THE SECOND FORM's CARD OF 'quitrentlaw33.ShareChain'. -/
def shareChainUptoCard : Claim7 := { stood := { row := shareChainUptoRow, standIns := [], harness := (true, "4243926174a71614565de714f267c9577b20ca92153db84b600bf694cec8a25b"), looks := true }, kinds := [], alts := [], laidByText := true, laidKinds := [.sentinel], laidTests := true, laidLooks := .later }
def ShareChainUptoCardSaid : Prop := Claim7.holds Tryd.pinned (.plain (OpenSpec.upto shareChainSpec)) shareChainUptoCard

/-- THE SECOND FORM's CARD OF 'quitrentlaw33.ShareMore'. -/
def shareMoreUptoCard : Claim7 := { stood := { row := shareMoreUptoRow, standIns := [], harness := (true, "4243926174a71614565de714f267c9577b20ca92153db84b600bf694cec8a25b"), looks := true }, kinds := [], alts := [], laidByText := true, laidKinds := [.sentinel, .sentinel], laidTests := true, laidLooks := .later }
def ShareMoreUptoCardSaid : Prop := Claim7.holds Tryd.pinned (.plain (OpenSpec.upto shareMoreSpec)) shareMoreUptoCard

/-- THE SECOND FORM's CARD OF 'quitrentlaw33.ShareOrder'. -/
def shareOrderUptoCard : Claim7 := { stood := { row := shareOrderUptoRow, standIns := [], harness := (true, "4243926174a71614565de714f267c9577b20ca92153db84b600bf694cec8a25b"), looks := true }, kinds := [], alts := [], laidByText := true, laidKinds := [.sentinel], laidTests := true, laidLooks := .later }
def ShareOrderUptoCardSaid : Prop := Claim7.holds Tryd.pinned (.plain (OpenSpec.upto shareOrderSpec)) shareOrderUptoCard
end Rows
end Go.Proofs.YtkbjfhkhbcgkgaaDoor
