/-
  DERIVED. GIVEN WITH THE SEED: THE CARDS: each row of YtamkjgiemconbaaDoorRows.lean that lists a variable, with what it lists TIED to the program's text (the seventh form; the later family's looks); each row that meets fmt, with fmt's text TOLD by the authors' own Lean function (tested against real Go, not proved from fmt's source: count such statements apart). THE CARD IS WHAT COUNTS. Prove the row's statement (the work); the ties are given (YtamkjgiemconbaaDoorTie.lean); close each card by the builder's one call (the guide's Derived/Test/ToyasCard.lean, 'card_holds'). Laid BY PROGRAM, IN A SANDBOX (cutbox-door.mjs). By AI agents, Wed Nov 11 2026. No macro, syntax, notation, axiom, sorry.
-/
import Derived.Test.YtamkjgiemconbaaDoorRows
import GoSem.ClaimSeven
namespace Go.Proofs.YtamkjgiemconbaaDoor
namespace Rows

/-- THE TIED CARD OF 'quitrentlaw20.VictimFair'. -/
def victimFairCard : Claim7 := { stood := { row := victimFairRow, standIns := [], harness := (true, "cd7b794da6aeae24520ab2b5e99cbc979afbb0119151e373cc5e5111bb0c628a"), looks := true }, kinds := [], alts := [], laidByText := true, laidKinds := [.sentinel, .sentinel, .sentinel, .sentinel, .sentinel, .sentinel, .sentinel, .sentinel, .sentinel, .sentinel, .sentinel, .sentinel, .sentinel, .sentinel], laidTests := true, laidLooks := .later }
def VictimFairCardSaid : Prop := Claim7.holds Tryd.pinned (.plain (OpenSpec.ofChange victimFairSpec)) victimFairCard

/-- THE TIED CARD OF 'quitrentlaw20.VictimNone'. -/
def victimNoneCard : Claim7 := { stood := { row := victimNoneRow, standIns := [], harness := (true, "cd7b794da6aeae24520ab2b5e99cbc979afbb0119151e373cc5e5111bb0c628a"), looks := true }, kinds := [], alts := [], laidByText := true, laidKinds := [.sentinel, .sentinel, .sentinel, .sentinel, .sentinel, .sentinel, .sentinel, .sentinel, .sentinel, .sentinel, .sentinel, .sentinel, .sentinel, .sentinel], laidTests := true, laidLooks := .later }
def VictimNoneCardSaid : Prop := Claim7.holds Tryd.pinned (.plain (OpenSpec.ofChange victimNoneSpec)) victimNoneCard

/-- THE TIED CARD OF 'quitrentlaw19.SpareForced'. -/
def spareForcedCard : Claim7 := { stood := { row := spareForcedRow, standIns := [], harness := (true, "cd7b794da6aeae24520ab2b5e99cbc979afbb0119151e373cc5e5111bb0c628a"), looks := true }, kinds := [], alts := [], laidByText := true, laidKinds := [.sentinel], laidTests := true, laidLooks := .later }
def SpareForcedCardSaid : Prop := Claim7.holds Tryd.pinned (.plain (OpenSpec.ofChange spareForcedSpec)) spareForcedCard

/-- THE TIED CARD OF 'quitrentlaw19.SpareExact'. -/
def spareExactCard : Claim7 := { stood := { row := spareExactRow, standIns := [], harness := (true, "cd7b794da6aeae24520ab2b5e99cbc979afbb0119151e373cc5e5111bb0c628a"), looks := true }, kinds := [], alts := [], laidByText := true, laidKinds := [.sentinel], laidTests := true, laidLooks := .later }
def SpareExactCardSaid : Prop := Claim7.holds Tryd.pinned (.plain (OpenSpec.ofChange spareExactSpec)) spareExactCard

/-- THE TIED CARD OF 'quitrentlaw08.KinExact'. -/
def kinExactCard : Claim7 := { stood := { row := kinExactRow, standIns := [], harness := (true, "cd7b794da6aeae24520ab2b5e99cbc979afbb0119151e373cc5e5111bb0c628a"), looks := true }, kinds := [], alts := [], laidByText := true, laidKinds := [.sentinel, .sentinel, .sentinel, .sentinel, .sentinel, .sentinel, .sentinel, .sentinel, .sentinel, .sentinel, .sentinel, .sentinel, .sentinel, .sentinel], laidTests := true, laidLooks := .later }
def KinExactCardSaid : Prop := Claim7.holds Tryd.pinned (.plain (OpenSpec.ofChange kinExactSpec)) kinExactCard

/-- THE TIED CARD OF 'quitrentlaw08.KinOrder'. -/
def kinOrderCard : Claim7 := { stood := { row := kinOrderRow, standIns := [], harness := (true, "cd7b794da6aeae24520ab2b5e99cbc979afbb0119151e373cc5e5111bb0c628a"), looks := true }, kinds := [], alts := [], laidByText := true, laidKinds := [.sentinel, .sentinel, .sentinel, .sentinel, .sentinel, .sentinel, .sentinel, .sentinel, .sentinel, .sentinel, .sentinel, .sentinel, .sentinel, .sentinel], laidTests := true, laidLooks := .later }
def KinOrderCardSaid : Prop := Claim7.holds Tryd.pinned (.plain (OpenSpec.ofChange kinOrderSpec)) kinOrderCard

/-- THE TIED CARD OF 'quitrentlaw08.KinDown'. -/
def kinDownCard : Claim7 := { stood := { row := kinDownRow, standIns := [], harness := (true, "cd7b794da6aeae24520ab2b5e99cbc979afbb0119151e373cc5e5111bb0c628a"), looks := true }, kinds := [], alts := [], laidByText := true, laidKinds := [.sentinel, .sentinel, .sentinel, .sentinel, .sentinel, .sentinel, .sentinel, .sentinel, .sentinel, .sentinel, .sentinel, .sentinel, .sentinel, .sentinel], laidTests := true, laidLooks := .later }
def KinDownCardSaid : Prop := Claim7.holds Tryd.pinned (.plain (OpenSpec.ofChange kinDownSpec)) kinDownCard

/-- THE SECOND FORM's CARD OF 'quitrentlaw20.VictimFair'. -/
def victimFairUptoCard : Claim7 := { stood := { row := victimFairUptoRow, standIns := [], harness := (true, "cd7b794da6aeae24520ab2b5e99cbc979afbb0119151e373cc5e5111bb0c628a"), looks := true }, kinds := [], alts := [], laidByText := true, laidKinds := [.sentinel, .sentinel, .sentinel, .sentinel, .sentinel, .sentinel, .sentinel, .sentinel, .sentinel, .sentinel, .sentinel, .sentinel, .sentinel, .sentinel], laidTests := true, laidLooks := .later }
def VictimFairUptoCardSaid : Prop := Claim7.holds Tryd.pinned (.plain (OpenSpec.upto victimFairSpec)) victimFairUptoCard

/-- THE SECOND FORM's CARD OF 'quitrentlaw20.VictimNone'. -/
def victimNoneUptoCard : Claim7 := { stood := { row := victimNoneUptoRow, standIns := [], harness := (true, "cd7b794da6aeae24520ab2b5e99cbc979afbb0119151e373cc5e5111bb0c628a"), looks := true }, kinds := [], alts := [], laidByText := true, laidKinds := [.sentinel, .sentinel, .sentinel, .sentinel, .sentinel, .sentinel, .sentinel, .sentinel, .sentinel, .sentinel, .sentinel, .sentinel, .sentinel, .sentinel], laidTests := true, laidLooks := .later }
def VictimNoneUptoCardSaid : Prop := Claim7.holds Tryd.pinned (.plain (OpenSpec.upto victimNoneSpec)) victimNoneUptoCard

/-- THE SECOND FORM's CARD OF 'quitrentlaw19.SpareForced'. -/
def spareForcedUptoCard : Claim7 := { stood := { row := spareForcedUptoRow, standIns := [], harness := (true, "cd7b794da6aeae24520ab2b5e99cbc979afbb0119151e373cc5e5111bb0c628a"), looks := true }, kinds := [], alts := [], laidByText := true, laidKinds := [.sentinel], laidTests := true, laidLooks := .later }
def SpareForcedUptoCardSaid : Prop := Claim7.holds Tryd.pinned (.plain (OpenSpec.upto spareForcedSpec)) spareForcedUptoCard

/-- THE SECOND FORM's CARD OF 'quitrentlaw19.SpareExact'. -/
def spareExactUptoCard : Claim7 := { stood := { row := spareExactUptoRow, standIns := [], harness := (true, "cd7b794da6aeae24520ab2b5e99cbc979afbb0119151e373cc5e5111bb0c628a"), looks := true }, kinds := [], alts := [], laidByText := true, laidKinds := [.sentinel], laidTests := true, laidLooks := .later }
def SpareExactUptoCardSaid : Prop := Claim7.holds Tryd.pinned (.plain (OpenSpec.upto spareExactSpec)) spareExactUptoCard

/-- THE SECOND FORM's CARD OF 'quitrentlaw08.KinExact'. -/
def kinExactUptoCard : Claim7 := { stood := { row := kinExactUptoRow, standIns := [], harness := (true, "cd7b794da6aeae24520ab2b5e99cbc979afbb0119151e373cc5e5111bb0c628a"), looks := true }, kinds := [], alts := [], laidByText := true, laidKinds := [.sentinel, .sentinel, .sentinel, .sentinel, .sentinel, .sentinel, .sentinel, .sentinel, .sentinel, .sentinel, .sentinel, .sentinel, .sentinel, .sentinel], laidTests := true, laidLooks := .later }
def KinExactUptoCardSaid : Prop := Claim7.holds Tryd.pinned (.plain (OpenSpec.upto kinExactSpec)) kinExactUptoCard

/-- THE SECOND FORM's CARD OF 'quitrentlaw08.KinOrder'. -/
def kinOrderUptoCard : Claim7 := { stood := { row := kinOrderUptoRow, standIns := [], harness := (true, "cd7b794da6aeae24520ab2b5e99cbc979afbb0119151e373cc5e5111bb0c628a"), looks := true }, kinds := [], alts := [], laidByText := true, laidKinds := [.sentinel, .sentinel, .sentinel, .sentinel, .sentinel, .sentinel, .sentinel, .sentinel, .sentinel, .sentinel, .sentinel, .sentinel, .sentinel, .sentinel], laidTests := true, laidLooks := .later }
def KinOrderUptoCardSaid : Prop := Claim7.holds Tryd.pinned (.plain (OpenSpec.upto kinOrderSpec)) kinOrderUptoCard

/-- THE SECOND FORM's CARD OF 'quitrentlaw08.KinDown'. -/
def kinDownUptoCard : Claim7 := { stood := { row := kinDownUptoRow, standIns := [], harness := (true, "cd7b794da6aeae24520ab2b5e99cbc979afbb0119151e373cc5e5111bb0c628a"), looks := true }, kinds := [], alts := [], laidByText := true, laidKinds := [.sentinel, .sentinel, .sentinel, .sentinel, .sentinel, .sentinel, .sentinel, .sentinel, .sentinel, .sentinel, .sentinel, .sentinel, .sentinel, .sentinel], laidTests := true, laidLooks := .later }
def KinDownUptoCardSaid : Prop := Claim7.holds Tryd.pinned (.plain (OpenSpec.upto kinDownSpec)) kinDownUptoCard
end Rows
end Go.Proofs.YtamkjgiemconbaaDoor
