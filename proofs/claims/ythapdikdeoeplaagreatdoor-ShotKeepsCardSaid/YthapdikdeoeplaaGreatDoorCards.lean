/-
  DERIVED. GIVEN WITH THE SEED: THE CARDS: each row of YthapdikdeoeplaaGreatDoorRows.lean that lists a variable, with what it lists TIED to the program's text (the seventh form; the later family's looks); each row that meets fmt, with fmt's text TOLD by the authors' own Lean function (tested against real Go, not proved from fmt's source: count such statements apart). THE CARD IS WHAT COUNTS. Prove the row's statement (the work); the ties are given (YthapdikdeoeplaaGreatDoorTie.lean); close each card by the builder's one call (the guide's Derived/Test/ToyasCard.lean, 'card_holds'). Laid BY PROGRAM, IN A SANDBOX (cutbox-door.mjs). By AI agents, Wed Nov 11 2026. No macro, syntax, notation, axiom, sorry.
-/
import Derived.Test.YthapdikdeoeplaaGreatDoorRows
import GoSem.ClaimSeven
namespace Go.Proofs.YthapdikdeoeplaaGreatDoor
namespace Rows

/-- THE TIED CARD OF 'quitrentlaw06.LogExact'. -/
def logExactCard : Claim7 := { stood := { row := logExactRow, standIns := [], harness := (true, "f94d6c2a6c6956721be26c6dab9e3926a830174f77e474e33ab4ec60cad8ea60"), looks := true }, kinds := [], alts := [], laidByText := true, laidKinds := [.data, .sentinel, .sentinel, .sentinel, .sentinel, .sentinel, .sentinel, .sentinel, .sentinel, .sentinel, .sentinel, .sentinel, .sentinel, .sentinel, .sentinel, .pinned], laidTests := true, laidLooks := .later }
def LogExactCardSaid : Prop := Claim7.holds Tryz.pinned (.plain (OpenSpec.ofChange logExactSpec)) logExactCard

/-- THE TIED CARD OF 'quitrentlaw07.ShotKeeps'. -/
def shotKeepsCard : Claim7 := { stood := { row := shotKeepsRow, standIns := [], harness := (true, "f94d6c2a6c6956721be26c6dab9e3926a830174f77e474e33ab4ec60cad8ea60"), looks := true }, kinds := [], alts := [], laidByText := true, laidKinds := [.data, .sentinel, .sentinel, .sentinel, .sentinel, .sentinel, .sentinel, .sentinel, .sentinel, .sentinel, .sentinel, .sentinel, .sentinel, .sentinel, .sentinel, .pinned], laidTests := true, laidLooks := .later }
def ShotKeepsCardSaid : Prop := Claim7.holds Tryz.pinned (.plain (OpenSpec.ofChange shotKeepsSpec)) shotKeepsCard

/-- THE TIED CARD OF 'quitrentlaw07.ShotExact'. -/
def shotExactCard : Claim7 := { stood := { row := shotExactRow, standIns := [], harness := (true, "f94d6c2a6c6956721be26c6dab9e3926a830174f77e474e33ab4ec60cad8ea60"), looks := true }, kinds := [], alts := [], laidByText := true, laidKinds := [.data, .sentinel, .sentinel, .sentinel, .sentinel, .sentinel, .sentinel, .sentinel, .sentinel, .sentinel, .sentinel, .sentinel, .sentinel, .sentinel, .sentinel, .pinned], laidTests := true, laidLooks := .later }
def ShotExactCardSaid : Prop := Claim7.holds Tryz.pinned (.plain (OpenSpec.ofChange shotExactSpec)) shotExactCard

/-- THE SECOND FORM's CARD OF 'quitrentlaw06.LogExact'. -/
def logExactUptoCard : Claim7 := { stood := { row := logExactUptoRow, standIns := [], harness := (true, "f94d6c2a6c6956721be26c6dab9e3926a830174f77e474e33ab4ec60cad8ea60"), looks := true }, kinds := [], alts := [], laidByText := true, laidKinds := [.data, .sentinel, .sentinel, .sentinel, .sentinel, .sentinel, .sentinel, .sentinel, .sentinel, .sentinel, .sentinel, .sentinel, .sentinel, .sentinel, .sentinel, .pinned], laidTests := true, laidLooks := .later }
def LogExactUptoCardSaid : Prop := Claim7.holds Tryz.pinned (.plain (OpenSpec.upto logExactSpec)) logExactUptoCard

/-- THE SECOND FORM's CARD OF 'quitrentlaw07.ShotKeeps'. -/
def shotKeepsUptoCard : Claim7 := { stood := { row := shotKeepsUptoRow, standIns := [], harness := (true, "f94d6c2a6c6956721be26c6dab9e3926a830174f77e474e33ab4ec60cad8ea60"), looks := true }, kinds := [], alts := [], laidByText := true, laidKinds := [.data, .sentinel, .sentinel, .sentinel, .sentinel, .sentinel, .sentinel, .sentinel, .sentinel, .sentinel, .sentinel, .sentinel, .sentinel, .sentinel, .sentinel, .pinned], laidTests := true, laidLooks := .later }
def ShotKeepsUptoCardSaid : Prop := Claim7.holds Tryz.pinned (.plain (OpenSpec.upto shotKeepsSpec)) shotKeepsUptoCard

/-- THE SECOND FORM's CARD OF 'quitrentlaw07.ShotExact'. -/
def shotExactUptoCard : Claim7 := { stood := { row := shotExactUptoRow, standIns := [], harness := (true, "f94d6c2a6c6956721be26c6dab9e3926a830174f77e474e33ab4ec60cad8ea60"), looks := true }, kinds := [], alts := [], laidByText := true, laidKinds := [.data, .sentinel, .sentinel, .sentinel, .sentinel, .sentinel, .sentinel, .sentinel, .sentinel, .sentinel, .sentinel, .sentinel, .sentinel, .sentinel, .sentinel, .pinned], laidTests := true, laidLooks := .later }
def ShotExactUptoCardSaid : Prop := Claim7.holds Tryz.pinned (.plain (OpenSpec.upto shotExactSpec)) shotExactUptoCard
end Rows
end Go.Proofs.YthapdikdeoeplaaGreatDoor
