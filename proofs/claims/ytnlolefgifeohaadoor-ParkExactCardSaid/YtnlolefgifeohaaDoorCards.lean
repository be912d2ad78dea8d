/-
  DERIVED. GIVEN WITH THE SEED: THE CARDS: each row of YtnlolefgifeohaaDoorRows.lean that lists a variable, with what it lists TIED to the program's text (the seventh form; the later family's looks); each row that meets fmt, with fmt's text TOLD by the authors' own Lean function (tested against real Go, not proved from fmt's source: count such statements apart). THE CARD IS WHAT COUNTS. Prove the row's statement (the work); the ties are given (YtnlolefgifeohaaDoorTie.lean); close each card by the builder's one call (the guide's Derived/Test/ToyasCard.lean, 'card_holds'). Laid BY PROGRAM, IN A SANDBOX (cutbox-door.mjs). By AI agents, Wed Nov 11 2026. No macro, syntax, notation, axiom, sorry.
-/
import Derived.Test.YtnlolefgifeohaaDoorRows
import GoSem.ClaimSeven
namespace Go.Proofs.YtnlolefgifeohaaDoor
namespace Rows

/-- THE TIED CARD OF 'quitrentlaw10.PurseTotal'. -/
def purseTotalCard : Claim7 := { stood := { row := purseTotalRow, standIns := [], harness := (true, "43d2ac6de15eeb232465d53aabfd914a6cacaec3890f186c3ce38743d507b34f"), looks := true }, kinds := [], alts := [], laidByText := true, laidKinds := [.sentinel, .sentinel, .sentinel, .sentinel, .sentinel, .sentinel, .sentinel, .sentinel, .sentinel, .sentinel, .sentinel, .sentinel, .sentinel, .sentinel], laidTests := true, laidLooks := .later }
def PurseTotalCardSaid : Prop := Claim7.holds Tryd.pinned (.plain (OpenSpec.ofChange purseTotalSpec)) purseTotalCard

/-- THE TIED CARD OF 'quitrentlaw10.PurseBack'. -/
def purseBackCard : Claim7 := { stood := { row := purseBackRow, standIns := [], harness := (true, "43d2ac6de15eeb232465d53aabfd914a6cacaec3890f186c3ce38743d507b34f"), looks := true }, kinds := [], alts := [], laidByText := true, laidKinds := [.sentinel, .sentinel, .sentinel, .sentinel, .sentinel, .sentinel, .sentinel, .sentinel, .sentinel, .sentinel, .sentinel, .sentinel, .sentinel, .sentinel], laidTests := true, laidLooks := .later }
def PurseBackCardSaid : Prop := Claim7.holds Tryd.pinned (.plain (OpenSpec.ofChange purseBackSpec)) purseBackCard

/-- THE TIED CARD OF 'quitrentlaw15.ParkExact'. -/
def parkExactCard : Claim7 := { stood := { row := parkExactRow, standIns := [], harness := (true, "43d2ac6de15eeb232465d53aabfd914a6cacaec3890f186c3ce38743d507b34f"), looks := true }, kinds := [], alts := [], laidByText := true, laidKinds := [.sentinel, .sentinel, .sentinel, .sentinel, .sentinel, .sentinel, .sentinel, .sentinel, .sentinel, .sentinel, .sentinel, .sentinel, .sentinel, .sentinel], laidTests := true, laidLooks := .later }
def ParkExactCardSaid : Prop := Claim7.holds Tryd.pinned (.plain (OpenSpec.ofChange parkExactSpec)) parkExactCard

/-- THE TIED CARD OF 'quitrentlaw15.ParkLive'. -/
def parkLiveCard : Claim7 := { stood := { row := parkLiveRow, standIns := [], harness := (true, "43d2ac6de15eeb232465d53aabfd914a6cacaec3890f186c3ce38743d507b34f"), looks := true }, kinds := [], alts := [], laidByText := true, laidKinds := [.sentinel, .sentinel, .sentinel, .sentinel, .sentinel, .sentinel, .sentinel, .sentinel, .sentinel, .sentinel, .sentinel, .sentinel, .sentinel, .sentinel], laidTests := true, laidLooks := .later }
def ParkLiveCardSaid : Prop := Claim7.holds Tryd.pinned (.plain (OpenSpec.ofChange parkLiveSpec)) parkLiveCard

/-- THE TIED CARD OF 'quitrentlaw15.ParkEnd'. -/
def parkEndCard : Claim7 := { stood := { row := parkEndRow, standIns := [], harness := (true, "43d2ac6de15eeb232465d53aabfd914a6cacaec3890f186c3ce38743d507b34f"), looks := true }, kinds := [], alts := [], laidByText := true, laidKinds := [.sentinel, .sentinel, .sentinel, .sentinel, .sentinel, .sentinel, .sentinel, .sentinel, .sentinel, .sentinel, .sentinel, .sentinel, .sentinel, .sentinel], laidTests := true, laidLooks := .later }
def ParkEndCardSaid : Prop := Claim7.holds Tryd.pinned (.plain (OpenSpec.ofChange parkEndSpec)) parkEndCard

/-- THE TIED CARD OF 'quitrentlaw11.GrantRound'. -/
def grantRoundCard : Claim7 := { stood := { row := grantRoundRow, standIns := [], harness := (true, "43d2ac6de15eeb232465d53aabfd914a6cacaec3890f186c3ce38743d507b34f"), looks := true }, kinds := [], alts := [], laidByText := true, laidKinds := [.sentinel, .sentinel, .sentinel, .sentinel, .sentinel, .sentinel, .sentinel, .sentinel, .sentinel, .sentinel, .sentinel, .sentinel, .sentinel, .sentinel], laidTests := true, laidLooks := .later }
def GrantRoundCardSaid : Prop := Claim7.holds Tryd.pinned (.plain (OpenSpec.ofChange grantRoundSpec)) grantRoundCard

/-- THE TIED CARD OF 'quitrentlaw11.GrantTotal'. -/
def grantTotalCard : Claim7 := { stood := { row := grantTotalRow, standIns := [], harness := (true, "43d2ac6de15eeb232465d53aabfd914a6cacaec3890f186c3ce38743d507b34f"), looks := true }, kinds := [], alts := [], laidByText := true, laidKinds := [.sentinel, .sentinel, .sentinel, .sentinel, .sentinel, .sentinel, .sentinel, .sentinel, .sentinel, .sentinel, .sentinel, .sentinel, .sentinel, .sentinel], laidTests := true, laidLooks := .later }
def GrantTotalCardSaid : Prop := Claim7.holds Tryd.pinned (.plain (OpenSpec.ofChange grantTotalSpec)) grantTotalCard

/-- THE SECOND FORM's CARD OF 'quitrentlaw10.PurseTotal'. -/
def purseTotalUptoCard : Claim7 := { stood := { row := purseTotalUptoRow, standIns := [], harness := (true, "43d2ac6de15eeb232465d53aabfd914a6cacaec3890f186c3ce38743d507b34f"), looks := true }, kinds := [], alts := [], laidByText := true, laidKinds := [.sentinel, .sentinel, .sentinel, .sentinel, .sentinel, .sentinel, .sentinel, .sentinel, .sentinel, .sentinel, .sentinel, .sentinel, .sentinel, .sentinel], laidTests := true, laidLooks := .later }
def PurseTotalUptoCardSaid : Prop := Claim7.holds Tryd.pinned (.plain (OpenSpec.upto purseTotalSpec)) purseTotalUptoCard

/-- THE SECOND FORM's CARD OF 'quitrentlaw10.PurseBack'. -/
def purseBackUptoCard : Claim7 := { stood := { row := purseBackUptoRow, standIns := [], harness := (true, "43d2ac6de15eeb232465d53aabfd914a6cacaec3890f186c3ce38743d507b34f"), looks := true }, kinds := [], alts := [], laidByText := true, laidKinds := [.sentinel, .sentinel, .sentinel, .sentinel, .sentinel, .sentinel, .sentinel, .sentinel, .sentinel, .sentinel, .sentinel, .sentinel, .sentinel, .sentinel], laidTests := true, laidLooks := .later }
def PurseBackUptoCardSaid : Prop := Claim7.holds Tryd.pinned (.plain (OpenSpec.upto purseBackSpec)) purseBackUptoCard

/-- THE SECOND FORM's CARD OF 'quitrentlaw15.ParkExact'. -/
def parkExactUptoCard : Claim7 := { stood := { row := parkExactUptoRow, standIns := [], harness := (true, "43d2ac6de15eeb232465d53aabfd914a6cacaec3890f186c3ce38743d507b34f"), looks := true }, kinds := [], alts := [], laidByText := true, laidKinds := [.sentinel, .sentinel, .sentinel, .sentinel, .sentinel, .sentinel, .sentinel, .sentinel, .sentinel, .sentinel, .sentinel, .sentinel, .sentinel, .sentinel], laidTests := true, laidLooks := .later }
def ParkExactUptoCardSaid : Prop := Claim7.holds Tryd.pinned (.plain (OpenSpec.upto parkExactSpec)) parkExactUptoCard

/-- THE SECOND FORM's CARD OF 'quitrentlaw15.ParkLive'. -/
def parkLiveUptoCard : Claim7 := { stood := { row := parkLiveUptoRow, standIns := [], harness := (true, "43d2ac6de15eeb232465d53aabfd914a6cacaec3890f186c3ce38743d507b34f"), looks := true }, kinds := [], alts := [], laidByText := true, laidKinds := [.sentinel, .sentinel, .sentinel, .sentinel, .sentinel, .sentinel, .sentinel, .sentinel, .sentinel, .sentinel, .sentinel, .sentinel, .sentinel, .sentinel], laidTests := true, laidLooks := .later }
def ParkLiveUptoCardSaid : Prop := Claim7.holds Tryd.pinned (.plain (OpenSpec.upto parkLiveSpec)) parkLiveUptoCard

/-- THE SECOND FORM's CARD OF 'quitrentlaw15.ParkEnd'. -/
def parkEndUptoCard : Claim7 := { stood := { row := parkEndUptoRow, standIns := [], harness := (true, "43d2ac6de15eeb232465d53aabfd914a6cacaec3890f186c3ce38743d507b34f"), looks := true }, kinds := [], alts := [], laidByText := true, laidKinds := [.sentinel, .sentinel, .sentinel, .sentinel, .sentinel, .sentinel, .sentinel, .sentinel, .sentinel, .sentinel, .sentinel, .sentinel, .sentinel, .sentinel], laidTests := true, laidLooks := .later }
def ParkEndUptoCardSaid : Prop := Claim7.holds Tryd.pinned (.plain (OpenSpec.upto parkEndSpec)) parkEndUptoCard

/-- THE SECOND FORM's CARD OF 'quitrentlaw11.GrantRound'. -/
def grantRoundUptoCard : Claim7 := { stood := { row := grantRoundUptoRow, standIns := [], harness := (true, "43d2ac6de15eeb232465d53aabfd914a6cacaec3890f186c3ce38743d507b34f"), looks := true }, kinds := [], alts := [], laidByText := true, laidKinds := [.sentinel, .sentinel, .sentinel, .sentinel, .sentinel, .sentinel, .sentinel, .sentinel, .sentinel, .sentinel, .sentinel, .sentinel, .sentinel, .sentinel], laidTests := true, laidLooks := .later }
def GrantRoundUptoCardSaid : Prop := Claim7.holds Tryd.pinned (.plain (OpenSpec.upto grantRoundSpec)) grantRoundUptoCard

/-- THE SECOND FORM's CARD OF 'quitrentlaw11.GrantTotal'. -/
def grantTotalUptoCard : Claim7 := { stood := { row := grantTotalUptoRow, standIns := [], harness := (true, "43d2ac6de15eeb232465d53aabfd914a6cacaec3890f186c3ce38743d507b34f"), looks := true }, kinds := [], alts := [], laidByText := true, laidKinds := [.sentinel, .sentinel, .sentinel, .sentinel, .sentinel, .sentinel, .sentinel, .sentinel, .sentinel, .sentinel, .sentinel, .sentinel, .sentinel, .sentinel], laidTests := true, laidLooks := .later }
def GrantTotalUptoCardSaid : Prop := Claim7.holds Tryd.pinned (.plain (OpenSpec.upto grantTotalSpec)) grantTotalUptoCard
end Rows
end Go.Proofs.YtnlolefgifeohaaDoor
