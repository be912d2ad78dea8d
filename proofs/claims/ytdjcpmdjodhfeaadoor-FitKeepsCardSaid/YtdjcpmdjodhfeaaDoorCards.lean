/-
  DERIVED. GIVEN WITH THE SEED: THE CARDS: each row of YtdjcpmdjodhfeaaDoorRows.lean that lists a variable, with what it lists TIED to the program's text (the seventh form; the later family's looks); each row that meets fmt, with fmt's text TOLD by the authors' own Lean function (tested against real Go, not proved from fmt's source: count such statements apart). THE CARD IS WHAT COUNTS. Prove the row's statement (the work); the ties are given (YtdjcpmdjodhfeaaDoorTie.lean); close each card by the builder's one call (the guide's Derived/Test/ToyasCard.lean, 'card_holds'). Laid BY PROGRAM, IN A SANDBOX (cutbox-door.mjs). By AI agents, Wed Nov 11 2026. No macro, syntax, notation, axiom, sorry.
-/
import Derived.Test.YtdjcpmdjodhfeaaDoorRows
import GoSem.ClaimSeven
namespace Go.Proofs.YtdjcpmdjodhfeaaDoor
namespace Rows

/-- THE TIED CARD OF 'quitrentlaw16.FitOne'. -/
def fitOneCard : Claim7 := { stood := { row := fitOneRow, standIns := [], harness := (true, "d584968f1c7211ba9c8068e179c3d7bf7a8ba8b6026cfb0ba9c8472e86d2188c"), looks := true }, kinds := [], alts := [], laidByText := true, laidKinds := [.sentinel, .sentinel], laidTests := true, laidLooks := .later }
def FitOneCardSaid : Prop := Claim7.holds Tryd.pinned (.plain (OpenSpec.ofChange fitOneSpec)) fitOneCard

/-- THE TIED CARD OF 'quitrentlaw16.FitExact'. -/
def fitExactCard : Claim7 := { stood := { row := fitExactRow, standIns := [], harness := (true, "d584968f1c7211ba9c8068e179c3d7bf7a8ba8b6026cfb0ba9c8472e86d2188c"), looks := true }, kinds := [], alts := [], laidByText := true, laidKinds := [.sentinel, .sentinel], laidTests := true, laidLooks := .later }
def FitExactCardSaid : Prop := Claim7.holds Tryd.pinned (.plain (OpenSpec.ofChange fitExactSpec)) fitExactCard

/-- THE TIED CARD OF 'quitrentlaw16.FitKeeps'. -/
def fitKeepsCard : Claim7 := { stood := { row := fitKeepsRow, standIns := [], harness := (true, "d584968f1c7211ba9c8068e179c3d7bf7a8ba8b6026cfb0ba9c8472e86d2188c"), looks := true }, kinds := [], alts := [], laidByText := true, laidKinds := [.sentinel, .sentinel], laidTests := true, laidLooks := .later }
def FitKeepsCardSaid : Prop := Claim7.holds Tryd.pinned (.plain (OpenSpec.ofChange fitKeepsSpec)) fitKeepsCard

/-- THE TIED CARD OF 'quitrentlaw12.CeilExact'. -/
def ceilExactCard : Claim7 := { stood := { row := ceilExactRow, standIns := [], harness := (true, "d584968f1c7211ba9c8068e179c3d7bf7a8ba8b6026cfb0ba9c8472e86d2188c"), looks := true }, kinds := [], alts := [], laidByText := true, laidKinds := [.handle, .sentinel, .sentinel, .sentinel, .sentinel, .sentinel, .sentinel, .sentinel, .sentinel, .sentinel, .sentinel, .sentinel, .sentinel, .sentinel, .sentinel], laidTests := true, laidLooks := .later }
def CeilExactCardSaid : Prop := Claim7.holds Tryd.pinned (.plain (OpenSpec.ofChange ceilExactSpec)) ceilExactCard

/-- THE TIED CARD OF 'quitrentlaw12.CeilKeeps'. -/
def ceilKeepsCard : Claim7 := { stood := { row := ceilKeepsRow, standIns := [], harness := (true, "d584968f1c7211ba9c8068e179c3d7bf7a8ba8b6026cfb0ba9c8472e86d2188c"), looks := true }, kinds := [], alts := [], laidByText := true, laidKinds := [.handle, .sentinel, .sentinel, .sentinel, .sentinel, .sentinel, .sentinel, .sentinel, .sentinel, .sentinel, .sentinel, .sentinel, .sentinel, .sentinel, .sentinel], laidTests := true, laidLooks := .later }
def CeilKeepsCardSaid : Prop := Claim7.holds Tryd.pinned (.plain (OpenSpec.ofChange ceilKeepsSpec)) ceilKeepsCard

/-- THE TIED CARD OF 'quitrentlaw12.CeilTwice'. -/
def ceilTwiceCard : Claim7 := { stood := { row := ceilTwiceRow, standIns := [], harness := (true, "d584968f1c7211ba9c8068e179c3d7bf7a8ba8b6026cfb0ba9c8472e86d2188c"), looks := true }, kinds := [], alts := [], laidByText := true, laidKinds := [.handle, .sentinel, .sentinel, .sentinel, .sentinel, .sentinel, .sentinel, .sentinel, .sentinel, .sentinel, .sentinel, .sentinel, .sentinel, .sentinel, .sentinel], laidTests := true, laidLooks := .later }
def CeilTwiceCardSaid : Prop := Claim7.holds Tryd.pinned (.plain (OpenSpec.ofChange ceilTwiceSpec)) ceilTwiceCard

/-- THE SECOND FORM's CARD OF 'quitrentlaw16.FitOne'. -/
def fitOneUptoCard : Claim7 := { stood := { row := fitOneUptoRow, standIns := [], harness := (true, "d584968f1c7211ba9c8068e179c3d7bf7a8ba8b6026cfb0ba9c8472e86d2188c"), looks := true }, kinds := [], alts := [], laidByText := true, laidKinds := [.sentinel, .sentinel], laidTests := true, laidLooks := .later }
def FitOneUptoCardSaid : Prop := Claim7.holds Tryd.pinned (.plain (OpenSpec.upto fitOneSpec)) fitOneUptoCard

/-- THE SECOND FORM's CARD OF 'quitrentlaw16.FitExact'. -/
def fitExactUptoCard : Claim7 := { stood := { row := fitExactUptoRow, standIns := [], harness := (true, "d584968f1c7211ba9c8068e179c3d7bf7a8ba8b6026cfb0ba9c8472e86d2188c"), looks := true }, kinds := [], alts := [], laidByText := true, laidKinds := [.sentinel, .sentinel], laidTests := true, laidLooks := .later }
def FitExactUptoCardSaid : Prop := Claim7.holds Tryd.pinned (.plain (OpenSpec.upto fitExactSpec)) fitExactUptoCard

/-- THE SECOND FORM's CARD OF 'quitrentlaw16.FitKeeps'. -/
def fitKeepsUptoCard : Claim7 := { stood := { row := fitKeepsUptoRow, standIns := [], harness := (true, "d584968f1c7211ba9c8068e179c3d7bf7a8ba8b6026cfb0ba9c8472e86d2188c"), looks := true }, kinds := [], alts := [], laidByText := true, laidKinds := [.sentinel, .sentinel], laidTests := true, laidLooks := .later }
def FitKeepsUptoCardSaid : Prop := Claim7.holds Tryd.pinned (.plain (OpenSpec.upto fitKeepsSpec)) fitKeepsUptoCard

/-- THE SECOND FORM's CARD OF 'quitrentlaw12.CeilExact'. -/
def ceilExactUptoCard : Claim7 := { stood := { row := ceilExactUptoRow, standIns := [], harness := (true, "d584968f1c7211ba9c8068e179c3d7bf7a8ba8b6026cfb0ba9c8472e86d2188c"), looks := true }, kinds := [], alts := [], laidByText := true, laidKinds := [.handle, .sentinel, .sentinel, .sentinel, .sentinel, .sentinel, .sentinel, .sentinel, .sentinel, .sentinel, .sentinel, .sentinel, .sentinel, .sentinel, .sentinel], laidTests := true, laidLooks := .later }
def CeilExactUptoCardSaid : Prop := Claim7.holds Tryd.pinned (.plain (OpenSpec.upto ceilExactSpec)) ceilExactUptoCard

/-- THE SECOND FORM's CARD OF 'quitrentlaw12.CeilKeeps'. -/
def ceilKeepsUptoCard : Claim7 := { stood := { row := ceilKeepsUptoRow, standIns := [], harness := (true, "d584968f1c7211ba9c8068e179c3d7bf7a8ba8b6026cfb0ba9c8472e86d2188c"), looks := true }, kinds := [], alts := [], laidByText := true, laidKinds := [.handle, .sentinel, .sentinel, .sentinel, .sentinel, .sentinel, .sentinel, .sentinel, .sentinel, .sentinel, .sentinel, .sentinel, .sentinel, .sentinel, .sentinel], laidTests := true, laidLooks := .later }
def CeilKeepsUptoCardSaid : Prop := Claim7.holds Tryd.pinned (.plain (OpenSpec.upto ceilKeepsSpec)) ceilKeepsUptoCard

/-- THE SECOND FORM's CARD OF 'quitrentlaw12.CeilTwice'. -/
def ceilTwiceUptoCard : Claim7 := { stood := { row := ceilTwiceUptoRow, standIns := [], harness := (true, "d584968f1c7211ba9c8068e179c3d7bf7a8ba8b6026cfb0ba9c8472e86d2188c"), looks := true }, kinds := [], alts := [], laidByText := true, laidKinds := [.handle, .sentinel, .sentinel, .sentinel, .sentinel, .sentinel, .sentinel, .sentinel, .sentinel, .sentinel, .sentinel, .sentinel, .sentinel, .sentinel, .sentinel], laidTests := true, laidLooks := .later }
def CeilTwiceUptoCardSaid : Prop := Claim7.holds Tryd.pinned (.plain (OpenSpec.upto ceilTwiceSpec)) ceilTwiceUptoCard
end Rows
end Go.Proofs.YtdjcpmdjodhfeaaDoor
