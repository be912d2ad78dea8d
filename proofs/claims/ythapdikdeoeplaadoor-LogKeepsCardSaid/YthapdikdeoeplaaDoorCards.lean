/-
  DERIVED. GIVEN WITH THE SEED: THE CARDS: each row of YthapdikdeoeplaaDoorRows.lean that lists a variable, with what it lists TIED to the program's text (the seventh form; the later family's looks); each row that meets fmt, with fmt's text TOLD by the authors' own Lean function (tested against real Go, not proved from fmt's source: count such statements apart). THE CARD IS WHAT COUNTS. Prove the row's statement (the work); the ties are given (YthapdikdeoeplaaDoorTie.lean); close each card by the builder's one call (the guide's Derived/Test/ToyasCard.lean, 'card_holds'). Laid BY PROGRAM, IN A SANDBOX (cutbox-door.mjs). By AI agents, Wed Nov 11 2026. No macro, syntax, notation, axiom, sorry.
-/
import Derived.Test.YthapdikdeoeplaaDoorRows
import GoSem.ClaimSeven
namespace Go.Proofs.YthapdikdeoeplaaDoor
namespace Rows

/-- THE TIED CARD OF 'quitrentlaw06.LogKeeps'. -/
def logKeepsCard : Claim7 := { stood := { row := logKeepsRow, standIns := [], harness := (true, "54a5766a162e0aa57a1899ff94bcf72d5526d3051595a65f24c12561b34d3dba"), looks := true }, kinds := [], alts := [], laidByText := true, laidKinds := [.data, .sentinel, .sentinel, .sentinel, .sentinel, .sentinel, .sentinel, .sentinel, .sentinel, .sentinel, .sentinel, .sentinel, .sentinel, .sentinel, .sentinel, .pinned], laidTests := true, laidLooks := .later }
def LogKeepsCardSaid : Prop := Claim7.holds Tryd.pinned (.plain (OpenSpec.ofChange logKeepsSpec)) logKeepsCard

/-- THE TIED CARD OF 'quitrentlaw06.LogResets'. -/
def logResetsCard : Claim7 := { stood := { row := logResetsRow, standIns := [], harness := (true, "54a5766a162e0aa57a1899ff94bcf72d5526d3051595a65f24c12561b34d3dba"), looks := true }, kinds := [], alts := [], laidByText := true, laidKinds := [.data, .sentinel, .sentinel, .sentinel, .sentinel, .sentinel, .sentinel, .sentinel, .sentinel, .sentinel, .sentinel, .sentinel, .sentinel, .sentinel, .sentinel, .pinned], laidTests := true, laidLooks := .later }
def LogResetsCardSaid : Prop := Claim7.holds Tryd.pinned (.plain (OpenSpec.ofChange logResetsSpec)) logResetsCard

/-- THE TIED CARD OF 'quitrentlaw06.LogFull'. -/
def logFullCard : Claim7 := { stood := { row := logFullRow, standIns := [], harness := (true, "54a5766a162e0aa57a1899ff94bcf72d5526d3051595a65f24c12561b34d3dba"), looks := true }, kinds := [], alts := [], laidByText := true, laidKinds := [.data, .sentinel, .sentinel, .sentinel, .sentinel, .sentinel, .sentinel, .sentinel, .sentinel, .sentinel, .sentinel, .sentinel, .sentinel, .sentinel, .sentinel, .pinned], laidTests := true, laidLooks := .later }
def LogFullCardSaid : Prop := Claim7.holds Tryd.pinned (.plain (OpenSpec.ofChange logFullSpec)) logFullCard

/-- THE TIED CARD OF 'quitrentlaw07.ShotTurns'. -/
def shotTurnsCard : Claim7 := { stood := { row := shotTurnsRow, standIns := [], harness := (true, "54a5766a162e0aa57a1899ff94bcf72d5526d3051595a65f24c12561b34d3dba"), looks := true }, kinds := [], alts := [], laidByText := true, laidKinds := [.data, .sentinel, .sentinel, .sentinel, .sentinel, .sentinel, .pinned], laidTests := true, laidLooks := .later }
def ShotTurnsCardSaid : Prop := Claim7.holds Tryd.pinned (.plain (OpenSpec.ofChange shotTurnsSpec)) shotTurnsCard

/-- THE SECOND FORM's CARD OF 'quitrentlaw06.LogKeeps'. -/
def logKeepsUptoCard : Claim7 := { stood := { row := logKeepsUptoRow, standIns := [], harness := (true, "54a5766a162e0aa57a1899ff94bcf72d5526d3051595a65f24c12561b34d3dba"), looks := true }, kinds := [], alts := [], laidByText := true, laidKinds := [.data, .sentinel, .sentinel, .sentinel, .sentinel, .sentinel, .sentinel, .sentinel, .sentinel, .sentinel, .sentinel, .sentinel, .sentinel, .sentinel, .sentinel, .pinned], laidTests := true, laidLooks := .later }
def LogKeepsUptoCardSaid : Prop := Claim7.holds Tryd.pinned (.plain (OpenSpec.upto logKeepsSpec)) logKeepsUptoCard

/-- THE SECOND FORM's CARD OF 'quitrentlaw06.LogResets'. -/
def logResetsUptoCard : Claim7 := { stood := { row := logResetsUptoRow, standIns := [], harness := (true, "54a5766a162e0aa57a1899ff94bcf72d5526d3051595a65f24c12561b34d3dba"), looks := true }, kinds := [], alts := [], laidByText := true, laidKinds := [.data, .sentinel, .sentinel, .sentinel, .sentinel, .sentinel, .sentinel, .sentinel, .sentinel, .sentinel, .sentinel, .sentinel, .sentinel, .sentinel, .sentinel, .pinned], laidTests := true, laidLooks := .later }
def LogResetsUptoCardSaid : Prop := Claim7.holds Tryd.pinned (.plain (OpenSpec.upto logResetsSpec)) logResetsUptoCard

/-- THE SECOND FORM's CARD OF 'quitrentlaw06.LogFull'. -/
def logFullUptoCard : Claim7 := { stood := { row := logFullUptoRow, standIns := [], harness := (true, "54a5766a162e0aa57a1899ff94bcf72d5526d3051595a65f24c12561b34d3dba"), looks := true }, kinds := [], alts := [], laidByText := true, laidKinds := [.data, .sentinel, .sentinel, .sentinel, .sentinel, .sentinel, .sentinel, .sentinel, .sentinel, .sentinel, .sentinel, .sentinel, .sentinel, .sentinel, .sentinel, .pinned], laidTests := true, laidLooks := .later }
def LogFullUptoCardSaid : Prop := Claim7.holds Tryd.pinned (.plain (OpenSpec.upto logFullSpec)) logFullUptoCard

/-- THE SECOND FORM's CARD OF 'quitrentlaw07.ShotTurns'. -/
def shotTurnsUptoCard : Claim7 := { stood := { row := shotTurnsUptoRow, standIns := [], harness := (true, "54a5766a162e0aa57a1899ff94bcf72d5526d3051595a65f24c12561b34d3dba"), looks := true }, kinds := [], alts := [], laidByText := true, laidKinds := [.data, .sentinel, .sentinel, .sentinel, .sentinel, .sentinel, .pinned], laidTests := true, laidLooks := .later }
def ShotTurnsUptoCardSaid : Prop := Claim7.holds Tryd.pinned (.plain (OpenSpec.upto shotTurnsSpec)) shotTurnsUptoCard
end Rows
end Go.Proofs.YthapdikdeoeplaaDoor
