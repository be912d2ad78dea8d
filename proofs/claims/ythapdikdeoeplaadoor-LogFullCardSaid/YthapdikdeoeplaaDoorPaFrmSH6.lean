import Derived.Test.YthapdikdeoeplaaDoorAHd
import Derived.Test.YthapdikdeoeplaaDoorChecked
import Derived.KernelRfl
import Derived.Laws.Bits64
import Derived.Test.YthapdikdeoeplaaDoorAHc
import Derived.Test.YthapdikdeoeplaaDoorRows
import Derived.Test.YthapdikdeoeplaaDoorTie
import Derived.Test.YthapdikdeoeplaaDoorCards
import Derived.WalkKit
import Derived.ProofKit
import Derived.OpenShut
import Derived.LaidMore
import Derived.Stop.Joined
import Derived.SevenTiedAt
import Derived.LaidSub
import Derived.LaidEql
import Derived.Stop.Asserts
import Derived.RowKitTokens
import Derived.Shelf.Strings.OnBuilder
import Derived.Shelf.Strings.Repeat
section
open Go AH
namespace Go.Proofs.YthapdikdeoeplaaDoor.H6
noncomputable def S0 : AH.Sys := ⟨Tryd.prog, [1, 0, 4, 5, 6, 7, 2, 8, 9, 10, 11, 12, 13, 3], 145, []⟩
theorem mixed : Tryd.prog.follows .mixedOrders = true := by kernel_rfl
theorem errs0 : S0.errs ≠ [] := by simp [S0]

end Go.Proofs.YthapdikdeoeplaaDoor.H6
end

section
open Go AH
namespace Go.Proofs.YthapdikdeoeplaaDoor.H6
theorem own : ownKnob Tryd.prog.godebug = none := by kernel_rfl
theorem laidOut : laidOutB Tryd.prog = true := by kernel_rfl

theorem errRows : ErrRows Tryd.prog 145 29 167 9 :=
  ⟨⟨_, Tryd.underlying29⟩, fun u h => typeName_ptr_named (nm := "errors.errorString") (by rw [show "*" ++ "errors.errorString" = "*errors.errorString" by decide]; kernel_rfl) (by kernel_rfl) (by decide) u (by rw [show "*" ++ "errors.errorString" = "*errors.errorString" by decide]; exact h), Tryd.underlying145, ⟨_, Tryd.underlying167, rfl, rfl⟩, Tryd.underlying9, by kernel_rfl, by kernel_rfl⟩
end Go.Proofs.YthapdikdeoeplaaDoor.H6
end

section
open Go AH
namespace Go.Proofs.YthapdikdeoeplaaDoor.H6
/-- A world in which a table of the library's, that the program's own text does not lay, holds its cells. -/
def laidIn (w : World) (g : Nat) (c : Array Value) : World :=
  { w with heap := match w.heap[g]? with
    | some (.cells _ et fr) => w.heap.setIfInBounds g (.cells c et fr)
    | _ => w.heap }
noncomputable def wit (os : Os) : World := laidIn (World.doorLaid Tryd.prog 400 os) 15 (Go.Pinned.utf8FirstZ.map fun n : Nat => Value.int .u8 (n : Int)).toArray
end Go.Proofs.YthapdikdeoeplaaDoor.H6
end

section
open Go AH
namespace Go.Proofs.YthapdikdeoeplaaDoor.H6
-- quitrent/block.New
def F8 : AFun := ⟨9, 1, [.tmp 2], (.seq (.reg [ ⟨(some 2), none, .mov (.c .nilp)⟩]) (.seq (.reg [ ⟨(some 3), none, .mov (.t 0)⟩, ⟨(some 4), none, .minmax true [(.t 3), (.c (.int .i64 0))]⟩, ⟨(some 5), none, .minmax false [(.t 4), (.c (.int .i64 4096))]⟩, ⟨(some 6), none, .ibin .mul (.t 5) (.c (.int .i64 64))⟩, ⟨(some 7), none, .call (.c (.fn 33 [] [])) [(.c (.str ⟨#[0]⟩)), (.t 6)]⟩, ⟨(some 8), none, .call (.c (.fn 32 [] [])) [(.t 7)]⟩, ⟨(some 2), none, .mov (.t 8)⟩]) .ret))⟩

-- quitrent/block.Of
def F32 : AFun := ⟨31, 1, [.tmp 2], (.seq (.reg [ ⟨(some 2), none, .mov (.c .nilp)⟩]) (.seq (.reg [ ⟨(some 4), none, .build [.nils, (.bool false), (.int .i64 0), (.int .i64 0), (.int .i64 0)] [(2, 1, (.c (.int .i64 (-1))))]⟩, ⟨(some 5), none, .box 5 (.t 4)⟩, ⟨(some 3), none, .mov (.t 5)⟩]) (.seq (.block 0 (.loop (.seq (.seq (.reg [ ⟨(some 6), none, .mov (.t 0)⟩, ⟨(some 7), none, .len .str (.t 6)⟩, ⟨(some 8), none, .ibin .geq (.t 7) (.c (.int .i64 64))⟩, ⟨(some 9), none, .mov (.t 8)⟩, ⟨(some 10), (some (9, true)), .mov (.t 3)⟩, ⟨(some 11), (some (9, true)), .nilchk (.t 10)⟩, ⟨(some 12), (some (9, true)), .faddr 0 (.t 11)⟩, ⟨(some 13), (some (9, true)), .load false 1 (.t 12)⟩, ⟨(some 14), (some (9, true)), .len .sl (.t 13)⟩, ⟨(some 15), (some (9, true)), .ibin .lss (.t 14) (.c (.int .i64 4096))⟩, ⟨(some 16), none, .pick (.t 9) (.t 15) (.c (.bool false))⟩]) (.cond (.t 16) .skip (.exit 0))) (.block 1 (.seq (.draw [ ⟨(some 17), none, .mov (.t 3)⟩, ⟨(some 18), none, .mov (.t 3)⟩, ⟨(some 19), none, .nilchk (.t 18)⟩, ⟨(some 20), none, .faddr 0 (.t 19)⟩, ⟨(some 21), none, .load false 1 (.t 20)⟩, ⟨(some 22), none, .mov (.t 0)⟩, ⟨(some 23), none, .sliceStr (.t 22) none (some (.c (.int .i64 64)))⟩, ⟨(some 24), none, .bslice 1 1 [(.str ⟨#[]⟩)] [(0, 1, (.t 23))]⟩, ⟨(some 25), none, .append 1 16 [(.str ⟨#[]⟩)] (.t 21) (.t 24)⟩, ⟨(some 26), none, .nilchk (.t 17)⟩, ⟨(some 27), none, .faddr 0 (.t 26)⟩, ⟨none, none, .store 1 (.t 27) (.t 25)⟩] [[], [], [1], [2, 1], [3, 2, 1], [], [5], [6, 5], [4, 7, 3, 2, 1, 6, 5], [0, 1, 2, 3, 4, 5, 6, 7, 8], [9, 0, 1, 2, 3, 4, 5, 6, 7, 8], [10, 8, 0, 1, 2, 3, 4, 5, 6, 7, 9]]) (.reg [ ⟨(some 28), none, .mov (.t 0)⟩, ⟨(some 29), none, .sliceStr (.t 28) (some (.c (.int .i64 64))) none⟩, ⟨(some 0), none, .mov (.t 29)⟩])))))) (.seq (.reg [ ⟨(some 30), none, .mov (.t 3)⟩, ⟨(some 2), none, .mov (.t 30)⟩]) .ret))))⟩

-- (*quitrent/block.Disk).Len
def F34 : AFun := ⟨10, 1, [.tmp 2], (.seq (.reg [ ⟨(some 2), none, .mov (.c (.int .i64 0))⟩]) (.seq (.seq (.reg [ ⟨(some 3), none, .mov (.t 0)⟩, ⟨(some 4), none, .eq false .ptr true (.t 3) (.c .nilp)⟩]) (.cond (.t 4) (.seq (.reg [ ⟨(some 2), none, .mov (.c (.int .i64 0))⟩]) .ret) .skip)) (.seq (.reg [ ⟨(some 5), none, .mov (.t 0)⟩, ⟨(some 6), none, .nilchk (.t 5)⟩, ⟨(some 7), none, .faddr 0 (.t 6)⟩, ⟨(some 8), none, .load false 1 (.t 7)⟩, ⟨(some 9), none, .len .sl (.t 8)⟩, ⟨(some 2), none, .mov (.t 9)⟩]) .ret)))⟩

-- (*quitrent/block.Disk).check
def F43 : AFun := ⟨28, 2, [.tmp 4], (.seq (.reg [ ⟨(some 4), none, .mov (.c .nili)⟩]) (.seq (.block 0 (.seq (.reg [ ⟨(some 6), none, .mov (.t 0)⟩, ⟨(some 7), none, .eq false .ptr true (.t 6) (.c .nilp)⟩, ⟨(some 5), none, .mov (.t 7)⟩]) (.cond (.t 5) (.seq (.reg [ ⟨(some 8), none, .loadg 0⟩, ⟨(some 4), none, .mov (.t 8)⟩]) .ret) (.seq (.reg [ ⟨(some 10), none, .mov (.t 1)⟩, ⟨(some 11), none, .ibin .lss (.t 10) (.c (.int .i64 0))⟩, ⟨(some 12), none, .mov (.t 11)⟩, ⟨(some 13), (some (12, false)), .mov (.t 1)⟩, ⟨(some 14), (some (12, false)), .mov (.t 0)⟩, ⟨(some 15), (some (12, false)), .nilchk (.t 14)⟩, ⟨(some 16), (some (12, false)), .faddr 0 (.t 15)⟩, ⟨(some 17), (some (12, false)), .load false 1 (.t 16)⟩, ⟨(some 18), (some (12, false)), .len .sl (.t 17)⟩, ⟨(some 19), (some (12, false)), .ibin .geq (.t 13) (.t 18)⟩, ⟨(some 20), none, .pick (.t 12) (.c (.bool true)) (.t 19)⟩, ⟨(some 9), none, .mov (.t 20)⟩]) (.cond (.t 9) (.seq (.reg [ ⟨(some 21), none, .loadg 1⟩, ⟨(some 4), none, .mov (.t 21)⟩]) .ret) (.seq (.reg [ ⟨(some 23), none, .mov (.t 0)⟩, ⟨(some 24), none, .nilchk (.t 23)⟩, ⟨(some 25), none, .faddr 1 (.t 24)⟩, ⟨(some 26), none, .load false 1 (.t 25)⟩, ⟨(some 22), none, .mov (.t 26)⟩]) (.cond (.t 22) (.seq (.reg [ ⟨(some 27), none, .loadg 3⟩, ⟨(some 4), none, .mov (.t 27)⟩]) .ret) .skip))))))) (.seq (.reg [ ⟨(some 4), none, .mov (.c .nili)⟩]) .ret)))⟩

-- (*quitrent/block.Disk).Read
def F55 : AFun := ⟨20, 2, [.tmp 4, .tmp 5], (.seq (.reg [ ⟨(some 4), none, .mov (.c (.str ⟨#[]⟩))⟩, ⟨(some 5), none, .mov (.c .nili)⟩]) (.seq (.seq (.reg [ ⟨(some 7), none, .mov (.t 0)⟩, ⟨(some 8), none, .mov (.t 1)⟩, ⟨(some 9), none, .call (.c (.fn 43 [] [])) [(.t 7), (.t 8)]⟩, ⟨(some 6), none, .mov (.t 9)⟩]) (.seq (.reg [ ⟨(some 10), none, .mov (.t 6)⟩, ⟨(some 11), none, .eq true .iface true (.t 10) (.c .nili)⟩]) (.cond (.t 11) (.seq (.reg [ ⟨(some 12), none, .mov (.t 6)⟩, ⟨(some 4), none, .mov (.c (.str ⟨#[]⟩))⟩, ⟨(some 5), none, .mov (.t 12)⟩]) .ret) .skip))) (.seq (.reg [ ⟨(some 13), none, .mov (.t 0)⟩, ⟨(some 14), none, .nilchk (.t 13)⟩, ⟨(some 15), none, .faddr 0 (.t 14)⟩, ⟨(some 16), none, .load false 1 (.t 15)⟩, ⟨(some 17), none, .mov (.t 1)⟩, ⟨(some 18), none, .iaddrSl 1 (.t 16) (.t 17)⟩, ⟨(some 19), none, .load false 1 (.t 18)⟩, ⟨(some 4), none, .mov (.t 19)⟩, ⟨(some 5), none, .mov (.c .nili)⟩]) .ret)))⟩

-- (*quitrent/block.Disk).Write
def F15 : AFun := ⟨79, 3, [.tmp 6], (.seq (.reg [ ⟨(some 6), none, .mov (.c .nili)⟩]) (.seq (.seq (.reg [ ⟨(some 8), none, .mov (.t 0)⟩, ⟨(some 9), none, .eq true .ptr true (.t 8) (.c .nilp)⟩, ⟨(some 10), none, .mov (.t 9)⟩, ⟨(some 11), (some (10, true)), .mov (.t 2)⟩, ⟨(some 12), (some (10, true)), .len .str (.t 11)⟩, ⟨(some 13), (some (10, true)), .ibin .neq (.t 12) (.c (.int .i64 64))⟩, ⟨(some 14), none, .pick (.t 10) (.t 13) (.c (.bool false))⟩]) (.cond (.t 14) (.seq (.reg [ ⟨(some 15), none, .loadg 1⟩, ⟨(some 6), none, .mov (.t 15)⟩]) .ret) .skip)) (.seq (.seq (.reg [ ⟨(some 16), none, .mov (.t 0)⟩, ⟨(some 17), none, .mov (.t 1)⟩, ⟨(some 18), none, .call (.c (.fn 43 [] [])) [(.t 16), (.t 17)]⟩, ⟨(some 7), none, .mov (.t 18)⟩]) (.seq (.reg [ ⟨(some 19), none, .mov (.t 7)⟩, ⟨(some 20), none, .eq true .iface true (.t 19) (.c .nili)⟩]) (.cond (.t 20) (.seq (.reg [ ⟨(some 21), none, .mov (.t 7)⟩, ⟨(some 6), none, .mov (.t 21)⟩]) .ret) .skip))) (.seq (.seq (.reg [ ⟨(some 22), none, .mov (.t 0)⟩, ⟨(some 23), none, .nilchk (.t 22)⟩, ⟨(some 24), none, .faddr 2 (.t 23)⟩, ⟨(some 25), none, .load false 1 (.t 24)⟩, ⟨(some 26), none, .ibin .eql (.t 25) (.c (.int .i64 0))⟩]) (.cond (.t 26) (.seq (.draw [ ⟨(some 27), none, .mov (.t 0)⟩, ⟨(some 28), none, .nilchk (.t 27)⟩, ⟨(some 29), none, .faddr 0 (.t 28)⟩, ⟨(some 30), none, .load false 1 (.t 29)⟩, ⟨(some 31), none, .mov (.t 1)⟩, ⟨(some 32), none, .mov (.t 2)⟩, ⟨(some 33), none, .mov (.t 0)⟩, ⟨(some 34), none, .nilchk (.t 33)⟩, ⟨(some 35), none, .faddr 3 (.t 34)⟩, ⟨(some 36), none, .load false 1 (.t 35)⟩, ⟨(some 37), none, .sliceStr (.t 32) none (some (.t 36))⟩, ⟨(some 38), none, .mov (.t 0)⟩, ⟨(some 39), none, .nilchk (.t 38)⟩, ⟨(some 40), none, .faddr 0 (.t 39)⟩, ⟨(some 41), none, .load false 1 (.t 40)⟩, ⟨(some 42), none, .mov (.t 1)⟩, ⟨(some 43), none, .iaddrSl 1 (.t 41) (.t 42)⟩, ⟨(some 44), none, .load false 1 (.t 43)⟩, ⟨(some 45), none, .mov (.t 0)⟩, ⟨(some 46), none, .nilchk (.t 45)⟩, ⟨(some 47), none, .faddr 3 (.t 46)⟩, ⟨(some 48), none, .load false 1 (.t 47)⟩, ⟨(some 49), none, .sliceStr (.t 44) (some (.t 48)) none⟩, ⟨(some 50), none, .ibin .add (.t 37) (.t 49)⟩, ⟨(some 51), none, .iaddrSl 1 (.t 30) (.t 31)⟩, ⟨none, none, .store 1 (.t 51) (.t 50)⟩] [[], [0], [1, 0], [2, 1, 0], [], [], [], [6], [7, 6], [8, 7, 6], [5, 9, 8, 7, 6], [], [11], [12, 11], [13, 12, 11], [], [14, 15, 13, 12, 11], [16, 14, 15, 13, 12, 11], [], [18], [19, 18], [20, 19, 18], [17, 21, 16, 14, 15, 13, 12, 11, 20, 19, 18], [10, 22, 5, 9, 8, 7, 6, 17, 21, 16, 14, 15, 13, 12, 11, 20, 19, 18], [3, 4, 0, 1, 2, 5, 6, 7, 8, 9, 10, 11, 12, 13, 14, 15, 16, 17, 18, 19, 20, 21, 22, 23], [24, 23, 0, 1, 2, 3, 4, 5, 6, 7, 8, 9, 10, 11, 12, 13, 14, 15, 16, 17, 18, 19, 20, 21, 22]]) (.seq (.reg [ ⟨(some 52), none, .mov (.t 0)⟩, ⟨(some 53), none, .nilchk (.t 52)⟩, ⟨(some 54), none, .faddr 1 (.t 53)⟩, ⟨none, none, .store 1 (.t 54) (.c (.bool true))⟩]) (.seq (.reg [ ⟨(some 55), none, .loadg 3⟩, ⟨(some 6), none, .mov (.t 55)⟩]) .ret))) .skip)) (.seq (.reg [ ⟨(some 56), none, .mov (.t 0)⟩, ⟨(some 57), none, .nilchk (.t 56)⟩, ⟨(some 58), none, .faddr 0 (.t 57)⟩, ⟨(some 59), none, .load false 1 (.t 58)⟩, ⟨(some 60), none, .mov (.t 1)⟩, ⟨(some 61), none, .mov (.t 2)⟩, ⟨(some 62), none, .iaddrSl 1 (.t 59) (.t 60)⟩, ⟨none, none, .store 1 (.t 62) (.t 61)⟩]) (.seq (.reg [ ⟨(some 63), none, .mov (.t 0)⟩, ⟨(some 64), none, .mov (.t 0)⟩, ⟨(some 65), none, .nilchk (.t 64)⟩, ⟨(some 66), none, .faddr 2 (.t 65)⟩, ⟨(some 67), none, .load false 1 (.t 66)⟩, ⟨(some 68), none, .ibin .sub (.t 67) (.c (.int .i64 1))⟩, ⟨(some 69), none, .minmax true [(.t 68), (.c (.int .i64 (-1)))]⟩, ⟨(some 70), none, .nilchk (.t 63)⟩, ⟨(some 71), none, .faddr 2 (.t 70)⟩, ⟨none, none, .store 1 (.t 71) (.t 69)⟩]) (.seq (.reg [ ⟨(some 72), none, .mov (.t 0)⟩, ⟨(some 73), none, .nilchk (.t 72)⟩, ⟨(some 74), none, .faddr 4 (.t 73)⟩, ⟨(some 75), none, .load false 1 (.t 74)⟩, ⟨(some 76), none, .ibin .add (.t 75) (.c (.int .i64 1))⟩, ⟨(some 77), none, .nilchk (.t 72)⟩, ⟨(some 78), none, .faddr 4 (.t 77)⟩, ⟨none, none, .store 1 (.t 78) (.t 76)⟩]) (.seq (.reg [ ⟨(some 6), none, .mov (.c .nili)⟩]) .ret))))))))⟩

-- (*quitrent/block.Disk).Fuse
def F10 : AFun := ⟨26, 3, [], (.seq (.reg [ ⟨(some 6), none, .mov (.t 0)⟩, ⟨(some 7), none, .eq true .ptr true (.t 6) (.c .nilp)⟩, ⟨(some 8), none, .mov (.t 7)⟩, ⟨(some 9), (some (8, true)), .mov (.t 0)⟩, ⟨(some 10), (some (8, true)), .nilchk (.t 9)⟩, ⟨(some 11), (some (8, true)), .faddr 1 (.t 10)⟩, ⟨(some 12), (some (8, true)), .load false 1 (.t 11)⟩, ⟨(some 13), (some (8, true)), .un .not (.t 12)⟩, ⟨(some 14), none, .pick (.t 8) (.t 13) (.c (.bool false))⟩]) (.cond (.t 14) (.reg [ ⟨(some 15), none, .mov (.t 0)⟩, ⟨(some 16), none, .mov (.t 0)⟩, ⟨(some 17), none, .mov (.t 1)⟩, ⟨(some 18), none, .minmax true [(.t 17), (.c (.int .i64 (-1)))]⟩, ⟨(some 19), none, .mov (.t 2)⟩, ⟨(some 20), none, .minmax true [(.t 19), (.c (.int .i64 0))]⟩, ⟨(some 21), none, .minmax false [(.t 20), (.c (.int .i64 64))]⟩, ⟨(some 22), none, .nilchk (.t 15)⟩, ⟨(some 23), none, .faddr 2 (.t 22)⟩, ⟨none, none, .store 1 (.t 23) (.t 18)⟩, ⟨(some 24), none, .nilchk (.t 16)⟩, ⟨(some 25), none, .faddr 3 (.t 24)⟩, ⟨none, none, .store 1 (.t 25) (.t 21)⟩]) .skip))⟩

-- (*quitrent/block.Disk).Come
def F17 : AFun := ⟨16, 1, [], (.seq (.reg [ ⟨(some 2), none, .mov (.t 0)⟩, ⟨(some 3), none, .eq true .ptr true (.t 2) (.c .nilp)⟩, ⟨(some 4), none, .mov (.t 3)⟩, ⟨(some 5), (some (4, true)), .mov (.t 0)⟩, ⟨(some 6), (some (4, true)), .nilchk (.t 5)⟩, ⟨(some 7), (some (4, true)), .faddr 1 (.t 6)⟩, ⟨(some 8), (some (4, true)), .load false 1 (.t 7)⟩, ⟨(some 9), none, .pick (.t 4) (.t 8) (.c (.bool false))⟩]) (.cond (.t 9) (.reg [ ⟨(some 10), none, .mov (.t 0)⟩, ⟨(some 11), none, .mov (.t 0)⟩, ⟨(some 12), none, .nilchk (.t 10)⟩, ⟨(some 13), none, .faddr 1 (.t 12)⟩, ⟨none, none, .store 1 (.t 13) (.c (.bool false))⟩, ⟨(some 14), none, .nilchk (.t 11)⟩, ⟨(some 15), none, .faddr 2 (.t 14)⟩, ⟨none, none, .store 1 (.t 15) (.c (.int .i64 (-1)))⟩]) .skip))⟩

-- (*quitrent/block.Disk).IsOn
def F14 : AFun := ⟨12, 1, [.tmp 2], (.seq (.reg [ ⟨(some 2), none, .mov (.c (.bool false))⟩]) (.seq (.reg [ ⟨(some 3), none, .mov (.t 0)⟩, ⟨(some 4), none, .eq true .ptr true (.t 3) (.c .nilp)⟩, ⟨(some 5), none, .mov (.t 4)⟩, ⟨(some 6), (some (5, true)), .mov (.t 0)⟩, ⟨(some 7), (some (5, true)), .nilchk (.t 6)⟩, ⟨(some 8), (some (5, true)), .faddr 1 (.t 7)⟩, ⟨(some 9), (some (5, true)), .load false 1 (.t 8)⟩, ⟨(some 10), (some (5, true)), .un .not (.t 9)⟩, ⟨(some 11), none, .pick (.t 5) (.t 10) (.c (.bool false))⟩, ⟨(some 2), none, .mov (.t 11)⟩]) .ret))⟩

-- (*quitrent/block.Disk).Writes
def F20 : AFun := ⟨9, 1, [.tmp 2], (.seq (.reg [ ⟨(some 2), none, .mov (.c (.int .i64 0))⟩]) (.seq (.seq (.reg [ ⟨(some 3), none, .mov (.t 0)⟩, ⟨(some 4), none, .eq false .ptr true (.t 3) (.c .nilp)⟩]) (.cond (.t 4) (.seq (.reg [ ⟨(some 2), none, .mov (.c (.int .i64 0))⟩]) .ret) .skip)) (.seq (.reg [ ⟨(some 5), none, .mov (.t 0)⟩, ⟨(some 6), none, .nilchk (.t 5)⟩, ⟨(some 7), none, .faddr 4 (.t 6)⟩, ⟨(some 8), none, .load false 1 (.t 7)⟩, ⟨(some 2), none, .mov (.t 8)⟩]) .ret)))⟩

-- (*quitrent/block.Disk).Image
def F22 : AFun := ⟨10, 1, [.tmp 2], (.seq (.reg [ ⟨(some 2), none, .mov (.c (.str ⟨#[]⟩))⟩]) (.seq (.seq (.reg [ ⟨(some 3), none, .mov (.t 0)⟩, ⟨(some 4), none, .eq false .ptr true (.t 3) (.c .nilp)⟩]) (.cond (.t 4) (.seq (.reg [ ⟨(some 2), none, .mov (.c (.str ⟨#[]⟩))⟩]) .ret) .skip)) (.seq (.reg [ ⟨(some 5), none, .mov (.t 0)⟩, ⟨(some 6), none, .nilchk (.t 5)⟩, ⟨(some 7), none, .faddr 0 (.t 6)⟩, ⟨(some 8), none, .load false 1 (.t 7)⟩, ⟨(some 9), none, .call (.c (.fn 45 [] [])) [(.t 8), (.c (.str ⟨#[]⟩))]⟩, ⟨(some 2), none, .mov (.t 9)⟩]) .ret)))⟩

theorem c8 : cFun Tryd.prog [1, 0, 4, 5, 6, 7, 2, 8, 9, 10, 11, 12, 13, 3] Tryd.f8 = some F8 := by kernel_rfl
theorem c32 : cFun Tryd.prog [1, 0, 4, 5, 6, 7, 2, 8, 9, 10, 11, 12, 13, 3] Tryd.f32 = some F32 := by kernel_rfl
theorem c34 : cFun Tryd.prog [1, 0, 4, 5, 6, 7, 2, 8, 9, 10, 11, 12, 13, 3] Tryd.f34 = some F34 := by kernel_rfl
theorem c43 : cFun Tryd.prog [1, 0, 4, 5, 6, 7, 2, 8, 9, 10, 11, 12, 13, 3] Tryd.f43 = some F43 := by kernel_rfl
theorem c55 : cFun Tryd.prog [1, 0, 4, 5, 6, 7, 2, 8, 9, 10, 11, 12, 13, 3] Tryd.f55 = some F55 := by kernel_rfl
theorem c15 : cFun Tryd.prog [1, 0, 4, 5, 6, 7, 2, 8, 9, 10, 11, 12, 13, 3] Tryd.f15 = some F15 := by kernel_rfl
theorem c10 : cFun Tryd.prog [1, 0, 4, 5, 6, 7, 2, 8, 9, 10, 11, 12, 13, 3] Tryd.f10 = some F10 := by kernel_rfl
theorem c17 : cFun Tryd.prog [1, 0, 4, 5, 6, 7, 2, 8, 9, 10, 11, 12, 13, 3] Tryd.f17 = some F17 := by kernel_rfl
theorem c14 : cFun Tryd.prog [1, 0, 4, 5, 6, 7, 2, 8, 9, 10, 11, 12, 13, 3] Tryd.f14 = some F14 := by kernel_rfl
theorem c20 : cFun Tryd.prog [1, 0, 4, 5, 6, 7, 2, 8, 9, 10, 11, 12, 13, 3] Tryd.f20 = some F20 := by kernel_rfl
theorem c22 : cFun Tryd.prog [1, 0, 4, 5, 6, 7, 2, 8, 9, 10, 11, 12, 13, 3] Tryd.f22 = some F22 := by kernel_rfl
end Go.Proofs.YthapdikdeoeplaaDoor.H6
end

section
open Go AH
set_option linter.unusedSimpArgs false
namespace Go.Proofs.YthapdikdeoeplaaDoor.H6
def strC (s : ByteArray) : List AV := [.str s]
def decStr : List AV → Option ByteArray
  | [.str s] => some s
  | _ => none
theorem decStr_ok (l : List AV) (s : ByteArray) (h : decStr l = some s) : l = strC s := by
  unfold decStr at h
  split at h
  · simp only [Option.some.injEq] at h; subst h; rfl
  · cases h
def cStr : Cod ByteArray := ⟨strC, decStr, decStr_ok, fun _ => rfl, fun _ => rfl⟩
instance : FlatE strC := ⟨cStr.flat⟩
theorem strC_eq (s : ByteArray) : strC s = [.str s] := rfl
end Go.Proofs.YthapdikdeoeplaaDoor.H6
end

section
set_option linter.unusedSimpArgs false
set_option maxRecDepth 100000
open Go
namespace Go.Proofs.YthapdikdeoeplaaDoor.H6
open Go.RowKit Go.Extern.Stop Go.Stop Go.Extern

theorem isTypeOf (v : Value) (w : World) : (Extern.ReflectliteType.typeOf #[.iface 145 v]).run Tryd.prog w = .ok (.iface 109 (.agg #[.pointer (some ⟨17, 145, none⟩)])) w := by kernel_rfl
theorem isComparable (w : World) : ((Extern.ReflectliteType.method fun t => do Extern.Rtype.noPackHeld "Comparable" t; (fun a => Value.bool a.comparable) <$> typeInfo t) #[.agg #[.pointer (some ⟨17, 145, none⟩)]]).run Tryd.prog w = .ok (.bool true) w := by kernel_rfl
theorem isMethodComparable (v : Value) (w : World) : (Go.method 277 109 v "Comparable").run Tryd.prog w = .ok (116, v) w := by kernel_rfl
theorem isComp : (Tryd.prog.info? 145).map (·.comparable) = some true := by kernel_rfl
theorem isSize : (Tryd.prog.info? 167).map (·.size) = some 1 := by kernel_rfl
theorem noIsE (v : Value) (xT : TypeId) (w : World) : (Instr.typeAssert (.iface 145 v) xT 111 true).run Tryd.prog w = .ok (.tuple #[.nilIface, .bool false]) w := run_typeAssert_lacksB Tryd.underlying111 (by kernel_rfl) (by kernel_rfl) v xT w
theorem noUnwrapE (v : Value) (xT : TypeId) (w : World) : (Instr.typeAssert (.iface 145 v) xT 114 true).run Tryd.prog w = .ok (.tuple #[.nilIface, .bool false]) w := run_typeAssert_lacksB Tryd.underlying114 (by kernel_rfl) (by kernel_rfl) v xT w
theorem noUnwrapsE (v : Value) (xT : TypeId) (w : World) : (Instr.typeAssert (.iface 145 v) xT 115 true).run Tryd.prog w = .ok (.tuple #[.nilIface, .bool false]) w := run_typeAssert_lacksB Tryd.underlying115 (by kernel_rfl) (by kernel_rfl) v xT w
theorem noIsW (v : Value) (xT : TypeId) (w : World) : (Instr.typeAssert (.iface 121 v) xT 111 true).run Tryd.prog w = .ok (.tuple #[.nilIface, .bool false]) w := run_typeAssert_lacksB Tryd.underlying111 (by kernel_rfl) (by kernel_rfl) v xT w
theorem hasUnwrapW (v : Value) (xT : TypeId) (w : World) : (Instr.typeAssert (.iface 121 v) xT 114 true).run Tryd.prog w = .ok (.tuple #[.iface 121 v, .bool true]) w := run_typeAssert_hasB Tryd.underlying114 (by kernel_rfl) v xT w
theorem methodUnwrap (v : Value) (w : World) : (Go.method 277 121 v "Unwrap").run Tryd.prog w = .ok (126, v) w := by kernel_rfl

set_option maxRecDepth 100000 in
/-- errors.Is(x, x), x a sentinel. -/
theorem is_same (a : Addr) (w : World) :
    Calls Tryd.prog 42 #[.iface 145 (.pointer (some a)), .iface 145 (.pointer (some a))] w fun e w' => e = .returned (.bool true) ∧ w' = w := by
  obtain ⟨i, hi, hcmp⟩ := Option.map_eq_some_iff.1 isComp
  obtain ⟨j, hj, hjs⟩ := Option.map_eq_some_iff.1 isSize
  have h8 := @run_callFunc_extern Tryd.prog 60 _ Extern.ReflectliteType.typeOf Tryd.func60 (by kernel_rfl) (by kernel_rfl) (by kernel_rfl) (by kernel_rfl)
  have h32 := @run_callFunc_extern Tryd.prog 116 _ (Extern.ReflectliteType.method fun t => do Extern.Rtype.noPackHeld "Comparable" t; pure (.bool (← typeInfo t).comparable)) Tryd.func116 (by kernel_rfl) (by kernel_rfl) (by kernel_rfl) (by kernel_rfl)
  have tT := isTypeOf
  have cT := isComparable
  have mR := isMethodComparable
  have heq := run_eql_iface_ptr_same (P := Tryd.prog) w a Tryd.underlying29 Tryd.underlying145 hi hcmp hj
  go_enter Tryd.func42, Tryd.ntmps42
  go_wp2
  refine wp_loop_rounds 1 ?_
  rw [rounds_succ]
  go_wp2
  go_ret
  exact ⟨rfl, rfl⟩

set_option maxRecDepth 100000 in
/-- errors.Is(nil, x). -/
theorem is_nil (b : Addr) (w : World) :
    Calls Tryd.prog 42 #[.nilIface, .iface 145 (.pointer (some b))] w fun e w' => e = .returned (.bool false) ∧ w' = w := by
  have hn := run_eql_iface_nil_left (P := Tryd.prog) w 145 (.pointer (some b)) Tryd.underlying29
  go_enter Tryd.func42, Tryd.ntmps42
  go_wp2
  go_ret
  exact ⟨rfl, rfl⟩

set_option maxRecDepth 100000 in
/-- errors.Is(x, y), two sentinels. -/
theorem is_other (a b : Addr) (ca cb : Array Value) (ta tb : TypeId) (w : World) (hne : a ≠ b) (ha : w.heap[a.block]? = some (.cells ca ta (0, 0))) (hb : w.heap[b.block]? = some (.cells cb tb (0, 0))) :
    Calls Tryd.prog 42 #[.iface 145 (.pointer (some a)), .iface 145 (.pointer (some b))] w fun e w' => e = .returned (.bool false) ∧ w' = w := by
  obtain ⟨i, hi, hcmp⟩ := Option.map_eq_some_iff.1 isComp
  obtain ⟨j, hj, hjs⟩ := Option.map_eq_some_iff.1 isSize
  have h8 := @run_callFunc_extern Tryd.prog 60 _ Extern.ReflectliteType.typeOf Tryd.func60 (by kernel_rfl) (by kernel_rfl) (by kernel_rfl) (by kernel_rfl)
  have h32 := @run_callFunc_extern Tryd.prog 116 _ (Extern.ReflectliteType.method fun t => do Extern.Rtype.noPackHeld "Comparable" t; pure (.bool (← typeInfo t).comparable)) Tryd.func116 (by kernel_rfl) (by kernel_rfl) (by kernel_rfl) (by kernel_rfl)
  have tT := isTypeOf
  have cT := isComparable
  have mR := isMethodComparable
  have nE := noIsE
  have uE := noUnwrapE
  have vE := noUnwrapsE
  have heq := run_eql_iface_ptr_other (P := Tryd.prog) w Tryd.underlying29 Tryd.underlying145 hi hcmp hj (by rw [hjs]; decide) hne ha hb
  go_enter Tryd.func42, Tryd.ntmps42
  go_wp2
  refine wp_loop_rounds 1 ?_
  rw [rounds_succ]
  go_wp2
  go_ret
  exact ⟨rfl, rfl⟩

set_option maxRecDepth 100000 in
/-- errors.Is(e, x), e a Fault that wraps x itself. -/
theorem is_wrap_same (pb po : Nat) (b : Addr) (w : World) (h1 : w.cell? ⟨pb, po + 2, none⟩ = some (.iface 145 (.pointer (some b)))) :
    Calls Tryd.prog 42 #[.iface 121 (.pointer (some ⟨pb, po, none⟩)), .iface 145 (.pointer (some b))] w fun e w' => e = .returned (.bool true) ∧ w' = w := by
  obtain ⟨i, hi, hcmp⟩ := Option.map_eq_some_iff.1 isComp
  obtain ⟨j, hj, hjs⟩ := Option.map_eq_some_iff.1 isSize
  have h8 := @run_callFunc_extern Tryd.prog 60 _ Extern.ReflectliteType.typeOf Tryd.func60 (by kernel_rfl) (by kernel_rfl) (by kernel_rfl) (by kernel_rfl)
  have h32 := @run_callFunc_extern Tryd.prog 116 _ (Extern.ReflectliteType.method fun t => do Extern.Rtype.noPackHeld "Comparable" t; pure (.bool (← typeInfo t).comparable)) Tryd.func116 (by kernel_rfl) (by kernel_rfl) (by kernel_rfl) (by kernel_rfl)
  have tT := isTypeOf
  have cT := isComparable
  have mR := isMethodComparable
  have nW := noIsW
  have uW := hasUnwrapW
  have mU := methodUnwrap
  have heq := run_eql_iface_ptr_same (P := Tryd.prog) w b Tryd.underlying29 Tryd.underlying145 hi hcmp hj
  have hty := run_eql_iface_types (P := Tryd.prog) 121 145 (.pointer (some ⟨pb, po, none⟩)) (.pointer (some b)) Tryd.underlying29 (by decide) w
  go_enter Tryd.func42, Tryd.ntmps42
  go_wp2
  refine wp_loop_rounds 2 ?_
  rw [rounds_succ]
  go_wp2
  rw [rounds_succ]
  go_wp2
  go_ret
  exact ⟨rfl, rfl⟩

set_option maxRecDepth 100000 in
/-- errors.Is(e, x), e a Fault that wraps another sentinel. -/
theorem is_wrap_other (pb po : Nat) (b a : Addr) (ca cb : Array Value) (ta tb : TypeId) (w : World) (h1 : w.cell? ⟨pb, po + 2, none⟩ = some (.iface 145 (.pointer (some a)))) (hne : a ≠ b) (ha : w.heap[a.block]? = some (.cells ca ta (0, 0))) (hb : w.heap[b.block]? = some (.cells cb tb (0, 0))) :
    Calls Tryd.prog 42 #[.iface 121 (.pointer (some ⟨pb, po, none⟩)), .iface 145 (.pointer (some b))] w fun e w' => e = .returned (.bool false) ∧ w' = w := by
  obtain ⟨i, hi, hcmp⟩ := Option.map_eq_some_iff.1 isComp
  obtain ⟨j, hj, hjs⟩ := Option.map_eq_some_iff.1 isSize
  have h8 := @run_callFunc_extern Tryd.prog 60 _ Extern.ReflectliteType.typeOf Tryd.func60 (by kernel_rfl) (by kernel_rfl) (by kernel_rfl) (by kernel_rfl)
  have h32 := @run_callFunc_extern Tryd.prog 116 _ (Extern.ReflectliteType.method fun t => do Extern.Rtype.noPackHeld "Comparable" t; pure (.bool (← typeInfo t).comparable)) Tryd.func116 (by kernel_rfl) (by kernel_rfl) (by kernel_rfl) (by kernel_rfl)
  have tT := isTypeOf
  have cT := isComparable
  have mR := isMethodComparable
  have nE := noIsE
  have uE := noUnwrapE
  have vE := noUnwrapsE
  have nW := noIsW
  have uW := hasUnwrapW
  have mU := methodUnwrap
  have heq := run_eql_iface_ptr_other (P := Tryd.prog) w Tryd.underlying29 Tryd.underlying145 hi hcmp hj (by rw [hjs]; decide) hne ha hb
  have hty := run_eql_iface_types (P := Tryd.prog) 121 145 (.pointer (some ⟨pb, po, none⟩)) (.pointer (some b)) Tryd.underlying29 (by decide) w
  go_enter Tryd.func42, Tryd.ntmps42
  go_wp2
  refine wp_loop_rounds 2 ?_
  rw [rounds_succ]
  go_wp2
  rw [rounds_succ]
  go_wp2
  go_ret
  exact ⟨rfl, rfl⟩

end Go.Proofs.YthapdikdeoeplaaDoor.H6
end

section
open Go AH
set_option linter.unusedSimpArgs false
set_option maxRecDepth 100000
namespace Go.Proofs.YthapdikdeoeplaaDoor.H6

/-- The sentinels, in the order of their kinds. -/
def gls : List Nat := [1, 0, 4, 5, 6, 7, 2, 8, 9, 10, 11, 12, 13, 3]
abbrev errsL : List Nat := [1, 0, 4, 5, 6, 7, 2, 8, 9, 10, 11, 12, 13, 3]

def isT : RT := fun args M => match args with
  | [.nili, .err j] => bif errsL.contains j then some (.bool false, []) else none
  | [.err i, .err j] => bif errsL.contains j && errsL.contains i then some (.bool (i == j), []) else none
  | [.ifc t (.ptr id ix 0), .err j] => bif t == 121 then (match M id with
    | some (.row _ k es) => (match es[ix]? with
      | some [_, _, .err i] => bif errsL.contains j && errsL.contains i && k == 3 then some (.bool (i == j), [id]) else none
      | _ => none)
    | _ => none) else none
  | _ => none

theorem mem_errs {j : Nat} (h : errsL.contains j = true) : j ∈ S0.errs := by
  have : S0.errs = errsL := rfl
  rw [this]
  simpa using h

theorem vr_err {T : TypeId} {eb : Nat → Addr} {φ : Emb} {i : Nat} {u : Value} (h : VR T eb φ (.err i) u) : u = .iface T (.pointer (some (eb i))) := by cases h; rfl
theorem vr_nili {T : TypeId} {eb : Nat → Addr} {φ : Emb} {u : Value} (h : VR T eb φ .nili u) : u = .nilIface := by cases h; rfl
theorem vr_ifc_ptr {T : TypeId} {eb : Nat → Addr} {φ : Emb} {t id ix sub : Nat} {u : Value} (h : VR T eb φ (.ifc t (.ptr id ix sub)) u) : φ.dom id ∧ u = .iface t (.pointer (some ⟨φ.blk id, φ.base id + ix * φ.k id + sub, none⟩)) := by
  cases h
  rename_i h
  cases h
  exact ⟨by assumption, rfl⟩

theorem two_args {T : TypeId} {eb : Nat → Addr} {φ : Emb} {a b : AV} {us : Array Value} (h : VRs T eb φ [a, b] us.toList) : ∃ u v, us = #[u, v] ∧ VR T eb φ a u ∧ VR T eb φ b v := by
  obtain ⟨l⟩ := us
  cases h with
  | cons _ u _ us h1 h2 =>
    cases h2 with
    | cons _ v _ us h3 h4 =>
      cases h4
      exact ⟨u, v, rfl, h1, h3⟩

set_option maxRecDepth 100000 in
theorem isT_ok : ReadF S0 42 isT := by
  have fin : ∀ {eb : Nat → Addr} {φ : Emb} {own : Nat → Prop} {w0 w : World} {us : Array Value} {M : Nat → Option Blk} {b : Bool}, MR S0.errT eb φ M own w → Keeps own w0 w → Calls Tryd.prog 42 us w (fun e w' => e = .returned (.bool b) ∧ w' = w) →
      CallRes S0.P 42 us w fun r w' => VR S0.errT eb φ (.bool b) r ∧ MR S0.errT eb φ M own w' ∧ Keeps own w0 w' := by
    intro eb φ own w0 w us M b hM hk h
    refine CallRes.of_calls Tryd.func42 (by kernel_rfl) (by kernel_rfl) (h.mono ?_)
    rintro e w' ⟨rfl, rfl⟩
    exact ⟨_, rfl, .bool _, hM, hk⟩
  have lt : ∀ {own : Nat → Prop} {w0 w : World}, Keeps own w0 w → ∀ {b : Nat} {o : Obj}, w0.heap[b]? = some o → ¬ own b → w.heap[b]? = some o := by
    intro own w0 w hk b o h hn
    rw [hk.kept b (Array.getElem?_eq_some_iff.1 h).1 hn]
    exact h
  intro args M v foot h
  unfold isT at h
  split at h
  · rename_i j
    cases hc : errsL.contains j with
    | false => rw [hc] at h; cases h
    | true =>
      rw [hc] at h
      simp only [cond_true, Option.some.injEq, Prod.mk.injEq] at h
      obtain ⟨rfl, rfl⟩ := h
      refine ⟨fun M' _ => by simp only [isT, hc, cond_true], fun eb φ own w0 w us hA hus hM hk => ?_⟩
      obtain ⟨u, v, rfl, h1, h2⟩ := two_args hus
      rw [vr_nili h1, vr_err h2]
      exact fin hM hk (is_nil (eb j) w)
  · rename_i i j
    cases hc : (errsL.contains j && errsL.contains i) with
    | false => rw [hc] at h; cases h
    | true =>
      rw [hc] at h
      simp only [cond_true, Option.some.injEq, Prod.mk.injEq] at h
      obtain ⟨rfl, rfl⟩ := h
      refine ⟨fun M' _ => by simp only [isT, hc, cond_true], fun eb φ own w0 w us hA hus hM hk => ?_⟩
      obtain ⟨u, v, rfl, h1, h2⟩ := two_args hus
      simp only [Bool.and_eq_true] at hc
      obtain ⟨hj, hi⟩ := hc
      rw [vr_err h1, vr_err h2]
      cases hij : (i == j) with
      | true =>
        have : i = j := by simpa using hij
        subst this
        exact fin hM hk (is_same (eb i) w)
      | false =>
        have hne : eb i ≠ eb j := fun e => by
          have := hA.inj i (mem_errs hi) j (mem_errs hj) e
          simp [this] at hij
        obtain ⟨c1, t1, x1⟩ := hA.txt i (mem_errs hi)
        obtain ⟨c2, t2, x2⟩ := hA.txt j (mem_errs hj)
        exact fin hM hk (is_other (eb i) (eb j) _ _ _ _ w hne (lt hk x1 (hA.eout i (mem_errs hi))) (lt hk x2 (hA.eout j (mem_errs hj))))
  · rename_i t id ix j
    cases ht : (t == 121) with
    | false => rw [ht] at h; cases h
    | true =>
      rw [ht] at h
      simp only [cond_true] at h
      have : t = 121 := by simpa using ht
      subst this
      split at h
      · rename_i ro k es hid
        split at h
        · rename_i a b i hix
          cases hc : (errsL.contains j && errsL.contains i && k == 3) with
          | false => rw [hc] at h; cases h
          | true =>
            rw [hc] at h
            simp only [cond_true, Option.some.injEq, Prod.mk.injEq] at h
            obtain ⟨rfl, rfl⟩ := h
            refine ⟨fun M' hM' => ?_, fun eb φ own w0 w us hA hus hM hk => ?_⟩
            · have e1 : M' id = some (.row ro k es) := by rw [hM' id (by simp)]; exact hid
              simp only [isT, e1, hix, hc, beq_self_eq_true, cond_true]
            · obtain ⟨u, v, rfl, h1, h2⟩ := two_args hus
              simp only [Bool.and_eq_true, beq_iff_eq] at hc
              obtain ⟨⟨hj, hi⟩, rfl⟩ := hc
              obtain ⟨hd, e1⟩ := vr_ifc_ptr h1
              rw [e1, vr_err h2]
              obtain ⟨o, ho, arr, et, fr, q1, q2, q3, q4, q5, q6⟩ := hM.blk id _ hid (.inl fun q => by subst q; simp at hix)
              obtain ⟨g1, g2⟩ := q6 ix _ hix
              obtain ⟨u2, k1, k2, _⟩ := g2 2 (.err i) rfl
              have e2 := vr_err k2
              subst e2
              have hcell : w.cell? ⟨φ.blk id, φ.base id + ix * φ.k id + 0 + 2, none⟩ = some (.iface 145 (.pointer (some (eb i)))) := by
                rw [q2]
                simp only [World.cell?, ho, q1]
                exact k1
              cases hij : (i == j) with
              | true =>
                have : i = j := by simpa using hij
                subst this
                exact fin hM hk (is_wrap_same _ _ (eb i) w hcell)
              | false =>
                have hne : eb i ≠ eb j := fun e => by
                  have := hA.inj i (mem_errs hi) j (mem_errs hj) e
                  simp [this] at hij
                obtain ⟨c1, t1, x1⟩ := hA.txt i (mem_errs hi)
                obtain ⟨c2, t2, x2⟩ := hA.txt j (mem_errs hj)
                exact fin hM hk (is_wrap_other _ _ (eb j) (eb i) _ _ _ _ w hcell hne (lt hk x1 (hA.eout i (mem_errs hi))) (lt hk x2 (hA.eout j (mem_errs hj))))
        · cases h
      · cases h
  · cases h

end Go.Proofs.YthapdikdeoeplaaDoor.H6
end

section
open Go AH
namespace Go.Proofs.YthapdikdeoeplaaDoor.H6
-- quitrent/quitrentlaw06.kind
def F12 : AFun := ⟨33, 1, [.tmp 2], (.seq (.reg [ ⟨(some 2), none, .mov (.c (.int .i64 0))⟩]) (.seq (.seq (.reg [ ⟨(some 5), none, .mov (.t 0)⟩, ⟨(some 6), none, .eq false .iface true (.t 5) (.c .nili)⟩]) (.cond (.t 6) (.seq (.reg [ ⟨(some 2), none, .mov (.c (.int .i64 0))⟩]) .ret) .skip)) (.seq (.reg [ ⟨(some 7), none, .loadg 1⟩, ⟨(some 8), none, .loadg 0⟩, ⟨(some 9), none, .loadg 4⟩, ⟨(some 10), none, .loadg 5⟩, ⟨(some 11), none, .loadg 6⟩, ⟨(some 12), none, .loadg 7⟩, ⟨(some 13), none, .loadg 2⟩, ⟨(some 14), none, .loadg 8⟩, ⟨(some 15), none, .loadg 9⟩, ⟨(some 16), none, .loadg 10⟩, ⟨(some 17), none, .loadg 11⟩, ⟨(some 18), none, .loadg 12⟩, ⟨(some 19), none, .loadg 13⟩, ⟨(some 20), none, .loadg 3⟩, ⟨(some 21), none, .build (List.replicate 14 .nili) [(0, 1, (.t 7)), (1, 1, (.t 8)), (2, 1, (.t 9)), (3, 1, (.t 10)), (4, 1, (.t 11)), (5, 1, (.t 12)), (6, 1, (.t 13)), (7, 1, (.t 14)), (8, 1, (.t 15)), (9, 1, (.t 16)), (10, 1, (.t 17)), (11, 1, (.t 18)), (12, 1, (.t 19)), (13, 1, (.t 20))]⟩, ⟨(some 3), none, .box 14 (.c (.agg (List.replicate 14 .nili)))⟩, ⟨none, none, .store 14 (.t 3) (.t 21)⟩]) (.seq (.seq (.reg [ ⟨(some 4), none, .mov (.c (.int .i64 0))⟩]) (.block 0 (.loop (.seq (.seq (.reg [ ⟨(some 22), none, .mov (.t 4)⟩, ⟨(some 23), none, .ibin .lss (.t 22) (.c (.int .i64 14))⟩]) (.cond (.t 23) .skip (.exit 0))) (.seq (.block 1 (.seq (.reg [ ⟨(some 26), none, .mov (.t 0)⟩, ⟨(some 27), none, .mov (.t 4)⟩, ⟨(some 28), none, .iaddrArr 14 1 (.t 3) (.t 27)⟩, ⟨(some 29), none, .load false 1 (.t 28)⟩, ⟨(some 30), none, .call (.c (.fn 42 [] [])) [(.t 26), (.t 29)]⟩]) (.cond (.t 30) (.seq (.reg [ ⟨(some 31), none, .mov (.t 4)⟩, ⟨(some 32), none, .ibin .add (.t 31) (.c (.int .i64 1))⟩, ⟨(some 2), none, .mov (.t 32)⟩]) .ret) .skip))) (.reg [ ⟨(some 24), none, .mov (.t 4)⟩, ⟨(some 25), none, .ibin .add (.t 24) (.c (.int .i64 1))⟩, ⟨(some 4), none, .mov (.t 25)⟩])))))) (.seq (.reg [ ⟨(some 2), none, .mov (.c (.int .i64 (-1)))⟩]) .ret)))))⟩

theorem c12 : cFun Tryd.prog [1, 0, 4, 5, 6, 7, 2, 8, 9, 10, 11, 12, 13, 3] Tryd.f12 = some F12 := by kernel_rfl
end Go.Proofs.YthapdikdeoeplaaDoor.H6
end

section
open Go AH
set_option linter.unusedSimpArgs false
set_option maxRecDepth 100000
namespace Go.Proofs.YthapdikdeoeplaaDoor.H6

/-- An error's kind: 0 none, else the place of its sentinel, from 1 on. -/
def kindG (g : Nat) : Nat := gls.idxOf g + 1

theorem okKind : CtxOK S0 (ctxU S0 [(42, isT)] []) := ctxU_ok ⟨isT_ok, trivial⟩ trivial mixed

set_option maxRecDepth 100000 in
theorem kind_walk (e : AV) (m : Mem) (g : Nat) (hg : g ∈ gls) (foot : List Nat) (his : ∀ j r, gls.contains j = true → isT [e, .err j] (mget (m ++ r)) = some (.bool (g == j), foot)) (hne : AH.eqAV .iface true e .nili = some (True, false)) :
    CallA1 S0 12 [e] m fun r _ => r = .int .i64 (kindG g) := by
  refine fun_sound okKind Tryd.func12 c12 ?_
  unfold wpF F12
  simp only [AH.SD, AH.wpOp, AOp.call?, AOp.next?, bstep, AOp.map, Opd.ev, tget, argTm, evs, AV.cells, St.eff, St.put, applyWr, mset, terase, pureE, unAV, intOp, binAV, fill, mget, AH.rowAt, AH.part, retQ, rvs, retV, AH.splice, AH.sliceElems, AH.bytesOf, AH.strOp, AH.bound, AH.addLog, AH.missQ, AH.minmaxAV, AH.wpOpD, AH.readOf, AH.effOf, AH.mapAt, AH.iterAt, Nat.reduceBEq, Nat.reduceAdd, Nat.reduceLT, ↓reduceIte, Nat.reduceEqDiff, Nat.reduceLeDiff, Nat.reduceSub, Nat.reduceMul, Int.reduceSub, Int.reduceToNat, Int.reduceBEq, Int.reduceBNe, Int.reduceLT, Int.reduceGT, Int.reduceLE, Int.reduceGE, Int.reduceNeg, Int.reduceAdd, hne, mset_end, mget_end, mset_last]
  have hrow : [AV.err 1, AV.err 0, AV.err 4, AV.err 5, AV.err 6, AV.err 7, AV.err 2, AV.err 8, AV.err 9, AV.err 10, AV.err 11, AV.err 12, AV.err 13, AV.err 3] = gls.map AV.err := rfl
  rw [hrow]
  refine loop_rule (α := Nat) (fun i => 14 - i) (fun i => ⟨[(4, .int .i64 i), (3, .ptr m.length 0 0), (0, e)], m ++ [some (.row false 14 [gls.map AV.err])]⟩) (fun i => i ≤ gls.idxOf g) 0 (Nat.zero_le _) (gc_keepE rfl rfl ⟨rfl, rfl, rfl, trivial⟩) ?_
  intro X i hi ih
  have hlen : gls.length = 14 := rfl
  have hlt : gls.idxOf g < 14 := by rw [← hlen]; exact List.idxOf_lt_length_of_mem hg
  have hil : i < gls.length := by omega
  have hd : decide ((i : Int) < 14) = true := by simp; omega
  have hget : (gls.map AV.err).getD i .undef = .err gls[i] := getD_map_lt _ _ _ _ hil
  have hm : gls.contains gls[i] = true := by simp
  have hw : IntKind.i64.wrap ((i : Int) + 1) = ((i + 1 : Nat) : Int) := by rw [IntKind.wrap_i64]; omega
  have hc := his gls[i] [some (.row false 14 [gls.map AV.err])] hm
  simp only [AH.SD, AH.wpOp, AOp.call?, AOp.next?, bstep, AOp.map, Opd.ev, tget, argTm, evs, AV.cells, St.eff, St.put, applyWr, mset, terase, pureE, unAV, intOp, binAV, fill, mget, AH.rowAt, AH.part, retQ, rvs, retV, AH.splice, AH.sliceElems, AH.bytesOf, AH.strOp, AH.bound, AH.addLog, AH.missQ, AH.minmaxAV, AH.wpOpD, AH.readOf, AH.effOf, AH.mapAt, AH.iterAt, Nat.reduceBEq, Nat.reduceAdd, Nat.reduceLT, ↓reduceIte, Nat.reduceEqDiff, Nat.reduceLeDiff, Nat.reduceSub, Nat.reduceMul, Int.reduceSub, Int.reduceToNat, Int.reduceBEq, Int.reduceBNe, Int.reduceLT, Int.reduceGT, Int.reduceLE, Int.reduceGE, Int.reduceNeg, Int.reduceAdd, hd, mget_end, hget, hc]
  refine ⟨⟨by omega, by omega⟩, by omega, ?_⟩
  refine ⟨fun hq => ?_, fun hq => ?_⟩
  · have hq' : g = gls[i] := by simpa using hq
    have hix : gls.idxOf g = i := by
      have all : ∀ i (h : i < gls.length), gls.idxOf gls[i] = i := by decide
      rw [hq']
      exact all i hil
    simp only [AH.SD, AH.wpOp, AOp.call?, AOp.next?, bstep, AOp.map, Opd.ev, tget, argTm, evs, AV.cells, St.eff, St.put, applyWr, mset, terase, pureE, unAV, intOp, binAV, fill, mget, AH.rowAt, AH.part, retQ, rvs, retV, AH.splice, AH.sliceElems, AH.bytesOf, AH.strOp, AH.bound, AH.addLog, AH.missQ, AH.minmaxAV, AH.wpOpD, AH.readOf, AH.effOf, AH.mapAt, AH.iterAt, Nat.reduceBEq, Nat.reduceAdd, Nat.reduceLT, ↓reduceIte, Nat.reduceEqDiff, Nat.reduceLeDiff, Nat.reduceSub, Nat.reduceMul, Int.reduceSub, Int.reduceToNat, Int.reduceBEq, Int.reduceBNe, Int.reduceLT, Int.reduceGT, Int.reduceLE, Int.reduceGE, Int.reduceNeg, Int.reduceAdd, hw, kindG, hix]
  · have hne' : gls.idxOf g ≠ i := fun h => by
      have h1 : gls[gls.idxOf g]? = some g := by
        rw [List.getElem?_eq_getElem (by omega)]
        congr 1
        exact List.getElem_idxOf _
      rw [h, List.getElem?_eq_getElem hil] at h1
      have h2 := Option.some.inj h1
      rw [h2] at hq
      simp at hq
    simp only [AH.SD, AH.wpOp, AOp.call?, AOp.next?, bstep, AOp.map, Opd.ev, tget, argTm, evs, AV.cells, St.eff, St.put, applyWr, mset, terase, pureE, unAV, intOp, binAV, fill, mget, AH.rowAt, AH.part, retQ, rvs, retV, AH.splice, AH.sliceElems, AH.bytesOf, AH.strOp, AH.bound, AH.addLog, AH.missQ, AH.minmaxAV, AH.wpOpD, AH.readOf, AH.effOf, AH.mapAt, AH.iterAt, Nat.reduceBEq, Nat.reduceAdd, Nat.reduceLT, ↓reduceIte, Nat.reduceEqDiff, Nat.reduceLeDiff, Nat.reduceSub, Nat.reduceMul, Int.reduceSub, Int.reduceToNat, Int.reduceBEq, Int.reduceBNe, Int.reduceLT, Int.reduceGT, Int.reduceLE, Int.reduceGE, Int.reduceNeg, Int.reduceAdd, hw]
    exact gc_keepE (ih (i + 1) (by omega) (by omega)) rfl ⟨rfl, rfl, rfl, trivial⟩

set_option maxRecDepth 100000 in
theorem kind_nil : Pure S0 12 [.nili] (.int .i64 0) := by
  refine fun_sound okKind Tryd.func12 c12 ?_
  unfold wpF F12
  simp only [AH.SD, AH.wpOp, AOp.call?, AOp.next?, bstep, AOp.map, Opd.ev, tget, argTm, evs, AV.cells, St.eff, St.put, applyWr, mset, terase, pureE, unAV, intOp, binAV, fill, mget, AH.rowAt, AH.part, retQ, rvs, retV, AH.splice, AH.sliceElems, AH.bytesOf, AH.strOp, AH.bound, AH.addLog, AH.missQ, AH.minmaxAV, AH.wpOpD, AH.readOf, AH.effOf, AH.mapAt, AH.iterAt, Nat.reduceBEq, Nat.reduceAdd, Nat.reduceLT, ↓reduceIte, Nat.reduceEqDiff, Nat.reduceLeDiff, Nat.reduceSub, Nat.reduceMul, Int.reduceSub, Int.reduceToNat, Int.reduceBEq, Int.reduceBNe, Int.reduceLT, Int.reduceGT, Int.reduceLE, Int.reduceGE, Int.reduceNeg, Int.reduceAdd]

def kindQ (id : Nat) : Option (Nat × List (List AV)) → Option (AV × List Nat)
  | some (3, [[.str _, .int .i64 _, .err g]]) => bif gls.contains g then some (.int .i64 (kindG g), [id]) else none
  | _ => none
def kindT : RT := fun args M => match args with
  | [.nili] => some (.int .i64 0, [])
  | [.err g] => bif gls.contains g then some (.int .i64 (kindG g), []) else none
  | [.ifc t (.ptr id 0 0)] => bif t == 121 then kindQ id (rowE M id) else none
  | _ => none

theorem gls_errs {g : Nat} (h : gls.contains g = true) : errsL.contains g = true := by
  have : ∀ g ∈ gls, errsL.contains g = true := by decide
  exact this g (by simpa using h)

set_option maxRecDepth 100000 in
theorem kindT_ok : ReadF S0 12 kindT := by
  intro args M v foot h
  unfold kindT at h
  split at h
  · simp only [Option.some.injEq, Prod.mk.injEq] at h
    obtain ⟨rfl, rfl⟩ := h
    exact ⟨fun M' _ => rfl, fun eb φ own w0 w us hA hus hM hk => kind_nil.run rfl rfl hA hus hM hk⟩
  · rename_i g
    cases hc : gls.contains g with
    | false => rw [hc] at h; cases h
    | true =>
      rw [hc] at h
      simp only [cond_true, Option.some.injEq, Prod.mk.injEq] at h
      obtain ⟨rfl, rfl⟩ := h
      have hP : Pure S0 12 [.err g] (.int .i64 (kindG g)) := kind_walk (.err g) [] g (by simpa using hc) [] (fun j r hj => by
        simp only [isT, gls_errs hj, gls_errs hc, Bool.and_self, cond_true]) rfl
      exact ⟨fun M' _ => by simp only [kindT, hc, cond_true], fun eb φ own w0 w us hA hus hM hk => hP.run rfl rfl hA hus hM hk⟩
  · rename_i t id
    cases ht : (t == 121) with
    | false => rw [ht] at h; cases h
    | true =>
      rw [ht] at h
      simp only [cond_true] at h
      have : t = 121 := by simpa using ht
      subst this
      unfold kindQ at h
      split at h
      · rename_i a b g hid
        cases hc : gls.contains g with
        | false => rw [hc] at h; cases h
        | true =>
          rw [hc] at h
          simp only [cond_true, Option.some.injEq, Prod.mk.injEq] at h
          obtain ⟨rfl, rfl⟩ := h
          obtain ⟨ro, hid'⟩ := rowE_some hid
          refine ⟨fun M' hM' => ?_, fun eb φ own w0 w us hA hus hM hk => ?_⟩
          · have e1 : rowE M' id = some (3, [[.str a, .int .i64 b, .err g]]) := by rw [rowE, hM' id (by simp), hid']
            simp only [kindT, e1, kindQ, hc, beq_self_eq_true, cond_true]
          · refine reads_run (sel := [(id, true)]) ?_ rfl ?_ rfl ?_ hA hus hM hk
            · simp only [roOK, hid']; rfl
            · simp [AV.insB, AV.inB, AH.isIn]
            · have p0 : posOf [(id, true)] id = 0 := by simp [posOf]
              simp only [AV.rens, AV.ren, p0, roMem, hid', Option.map_some, Blk.ren, Blk.asRo, List.map_cons, List.map_nil]
              refine kind_walk _ _ g (by simpa using hc) [0] (fun j r hj => ?_) rfl
              simp only [isT, beq_self_eq_true, cond_true, List.cons_append, List.nil_append, mget, List.getElem?_cons_zero, gls_errs hj, gls_errs hc, Bool.and_self]
      · cases h
  · cases h

theorem kindT_fault {M : Nat → Option Blk} {b : Nat} : kindT [.ifc 121 (.ptr b 0 0)] M = kindQ b (rowE M b) := rfl
theorem kindQ_some {b g : Nat} {s : ByteArray} {a : Int} : kindQ b (some (3, [[.str s, .int .i64 a, .err g]])) = bif gls.contains g then some (.int .i64 (kindG g), [b]) else none := rfl

/-- Errors by their kinds. -/
def errA : Nat → AV
  | 0 => .nili
  | k + 1 => .err (gls.getD k 0)
theorem errA_flat : ∀ k, (errA k).lt 0 = true
  | 0 => rfl
  | _ + 1 => rfl
theorem errA_nil (k : Nat) : AH.eqAV .iface true (errA k) .nili = some (True, k == 0) := by
  cases k <;> rfl
theorem kindT_nil (M : Nat → Option Blk) : kindT [.nili] M = some (.int .i64 0, []) := rfl
theorem kindT_err {k : Nat} (M : Nat → Option Blk) (h : k ≤ 14) : kindT [errA k] M = some (.int .i64 (k : Int), []) := by
  have : ∀ k ≤ 14, kindT [errA k] (fun _ => none) = some (.int .i64 (k : Int), []) := by
    intro k hk
    match k, hk with
    | 0, _ => rfl
    | 1, _ => rfl
    | 2, _ => rfl
    | 3, _ => rfl
    | 4, _ => rfl
    | 5, _ => rfl
    | 6, _ => rfl
    | 7, _ => rfl
    | 8, _ => rfl
    | 9, _ => rfl
    | 10, _ => rfl
    | 11, _ => rfl
    | 12, _ => rfl
    | 13, _ => rfl
    | 14, _ => rfl
  rw [← this k h]
  cases k <;> rfl

end Go.Proofs.YthapdikdeoeplaaDoor.H6
end

section
open Go AH
set_option linter.unusedSimpArgs false
set_option maxRecDepth 100000
namespace Go.Proofs.YthapdikdeoeplaaDoor.H6

/-- A disk: its blocks, whether the power is away, the fuse, how many bytes a torn one gets, the writes. -/
structure Dk where
  L : List ByteArray
  away : Bool
  fuse : Int
  torn : Int
  writes : Int

def dkM (d : Dk) : Mem := [some (.row false 5 [[.slc 1 0 d.L.length none, .bool d.away, .int .i64 d.fuse, .int .i64 d.torn, .int .i64 d.writes]]), some (.row false 1 (d.L.map strC))]

def dkL (p b n : Nat) (away : Bool) (fuse torn writes : Int) : Option (List ByteArray) → Option (Dk × List (Nat × Bool))
  | some L => if L.length = n ∧ p ≠ b then some (⟨L, away, fuse, torn, writes⟩, [(p, false), (b, false)]) else none
  | none => none
def dkB (p b n : Nat) (away : Bool) (fuse torn writes : Int) : Option Blk → Option (Dk × List (Nat × Bool))
  | some (.row false 1 es) => dkL p b n away fuse torn writes (cStr.decL es)
  | _ => none
def dkR (M : Nat → Option Blk) (p : Nat) : Option Blk → Option (Dk × List (Nat × Bool))
  | some (.row false 5 [[.slc b 0 n none, .bool away, .int .i64 fuse, .int .i64 torn, .int .i64 writes]]) => dkB p b n away fuse torn writes (M b)
  | _ => none
def dkD (M : Nat → Option Blk) : AV → Option (Dk × List (Nat × Bool))
  | .ptr p 0 0 => dkR M p (M p)
  | _ => none
theorem decStr_map (L : List ByteArray) : cStr.decL (L.map strC) = some L := cStr.decL_map L
theorem dkD_inv {M : Nat → Option Blk} {v : AV} {d : Dk} {sel : List (Nat × Bool)} (h : dkD M v = some (d, sel)) :
    ∃ p b, v = .ptr p 0 0 ∧ sel = [(p, false), (b, false)] ∧ p ≠ b ∧ M p = some (.row false 5 [[.slc b 0 d.L.length none, .bool d.away, .int .i64 d.fuse, .int .i64 d.torn, .int .i64 d.writes]]) ∧ M b = some (.row false 1 (d.L.map strC)) := by
  unfold dkD at h
  split at h
  · rename_i p
    unfold dkR at h
    split at h
    · rename_i b n away fuse torn writes hp
      unfold dkB at h
      split at h
      · rename_i es hb
        unfold dkL at h
        split at h
        · rename_i L hL
          split at h
          · rename_i hc
            simp only [Option.some.injEq, Prod.mk.injEq] at h
            obtain ⟨rfl, rfl⟩ := h
            obtain ⟨rfl, hne⟩ := hc
            have := cStr.decL_ok hL
            subst this
            exact ⟨p, b, rfl, rfl, hne, hp, hb⟩
          · cases h
        · cases h
      · cases h
    · cases h
  · cases h
theorem dkD_of {M : Nat → Option Blk} {p b : Nat} (d : Dk) (hne : p ≠ b) (hp : M p = some (.row false 5 [[.slc b 0 d.L.length none, .bool d.away, .int .i64 d.fuse, .int .i64 d.torn, .int .i64 d.writes]])) (hb : M b = some (.row false 1 (d.L.map strC))) :
    dkD M (.ptr p 0 0) = some (d, [(p, false), (b, false)]) := by
  simp only [dkD, hp, dkR, hb, dkB, decStr_map, dkL, hne, ne_eq, not_false_eq_true, and_self, if_true]
def dkO : AH.Obj Dk where
  dec := dkD
  mem := dkM
  self := fun _ => .ptr 0 0 0
  ok := by
    intro M v d sel h
    obtain ⟨p, b, rfl, rfl, hne, hp, hb⟩ := dkD_inv h
    have h1 : (p == b) = false := by simpa using hne
    have h2 : (b == p) = false := by simpa using Ne.symm hne
    refine ⟨⟨?_, ?_⟩, ?_, ?_, ?_⟩
    · simp [selF, hp, hb, AV.insB, AV.inB, AH.isIn]
      exact fun x _ => flatE_in _ x
    · simp [AH.distinct, AH.isIn, h2]
    · simp only [subF, hp, hb, Option.map_some, Blk.ren, Blk.asRo, List.map_cons, List.map_nil, AV.rens, AV.ren, AH.posOf, beq_self_eq_true, h1, cond_true, cond_false, flat_rens, dkM, Nat.zero_add]
    · simp [AV.inB, AH.isIn]
    · simp [AV.ren, AH.posOf]
  loc := by
    intro M v d sel h M' hM'
    obtain ⟨p, b, rfl, rfl, hne, hp, hb⟩ := dkD_inv h
    exact dkD_of d hne ((hM' p (by simp)).trans hp) ((hM' b (by simp)).trans hb)
theorem dkO_dec {M : Nat → Option Blk} {p : Nat} : dkO.dec M (.ptr p 0 0) = dkR M p (M p) := rfl
theorem dkR_eq {M : Nat → Option Blk} {p b n : Nat} {away : Bool} {fuse torn writes : Int} : dkR M p (some (.row false 5 [[.slc b 0 n none, .bool away, .int .i64 fuse, .int .i64 torn, .int .i64 writes]])) = dkB p b n away fuse torn writes (M b) := rfl
theorem dkB_eq {p b : Nat} {away : Bool} {fuse torn writes : Int} {L : List ByteArray} (hne : p ≠ b) : dkB p b L.length away fuse torn writes (some (.row false 1 (L.map strC))) = some (⟨L, away, fuse, torn, writes⟩, [(p, false), (b, false)]) := by
  simp only [dkB, decStr_map, dkL, hne, ne_eq, not_false_eq_true, and_self, if_true]
theorem Dk.eta (d : Dk) : (⟨d.L, d.away, d.fuse, d.torn, d.writes⟩ : Dk) = d := rfl

def chk (d : Dk) (at_ : Int) : Nat := bif decide (at_ < 0) || decide (at_ ≥ (d.L.length : Int)) then 1 else bif d.away then 14 else 0
theorem errA1 : errA 1 = .err 1 := rfl
theorem errA2 : errA 2 = .err 0 := rfl
theorem errA14 : errA 14 = .err 3 := rfl
theorem errA0 : errA 0 = .nili := rfl

theorem okZ0 : CtxOK S0 (ctxU S0 [] []) := ctxU_ok trivial trivial mixed
set_option maxRecDepth 100000 in
theorem check_ok (d : Dk) (at_ : Int) : CallA1 S0 43 [.ptr 0 0 0, .int .i64 at_] (dkM d) fun r m => r = errA (chk d at_) ∧ m = dkM d := by
  refine fun_sound okZ0 Tryd.func43 c43 ?_
  unfold wpF F43
  cases h1 : decide (at_ < 0)
  · cases h2 : decide (at_ ≥ (d.L.length : Int))
    · cases h3 : d.away
      all_goals
        simp only [AH.SD, AH.wpOp, AOp.call?, AOp.next?, bstep, AOp.map, Opd.ev, tget, argTm, evs, AV.cells, St.eff, St.put, applyWr, mset, terase, pureE, unAV, intOp, binAV, fill, mget, AH.rowAt, AH.part, retQ, rvs, retV, AH.splice, AH.sliceElems, AH.bytesOf, AH.strOp, AH.bound, AH.addLog, AH.missQ, AH.minmaxAV, AH.wpOpD, AH.readOf, AH.effOf, AH.mapAt, AH.iterAt, Nat.reduceBEq, Nat.reduceAdd, Nat.reduceLT, ↓reduceIte, Nat.reduceEqDiff, Nat.reduceLeDiff, Nat.reduceSub, Nat.reduceMul, Int.reduceSub, Int.reduceToNat, Int.reduceBEq, Int.reduceBNe, Int.reduceLT, Int.reduceGT, Int.reduceLE, Int.reduceGE, Int.reduceNeg, Int.reduceAdd, dkM, h1, h2, h3, chk, Bool.or_self, errA0, errA14]
    · simp only [AH.SD, AH.wpOp, AOp.call?, AOp.next?, bstep, AOp.map, Opd.ev, tget, argTm, evs, AV.cells, St.eff, St.put, applyWr, mset, terase, pureE, unAV, intOp, binAV, fill, mget, AH.rowAt, AH.part, retQ, rvs, retV, AH.splice, AH.sliceElems, AH.bytesOf, AH.strOp, AH.bound, AH.addLog, AH.missQ, AH.minmaxAV, AH.wpOpD, AH.readOf, AH.effOf, AH.mapAt, AH.iterAt, Nat.reduceBEq, Nat.reduceAdd, Nat.reduceLT, ↓reduceIte, Nat.reduceEqDiff, Nat.reduceLeDiff, Nat.reduceSub, Nat.reduceMul, Int.reduceSub, Int.reduceToNat, Int.reduceBEq, Int.reduceBNe, Int.reduceLT, Int.reduceGT, Int.reduceLE, Int.reduceGE, Int.reduceNeg, Int.reduceAdd, dkM, h1, h2, chk, Bool.or_true, errA1]
  · simp only [AH.SD, AH.wpOp, AOp.call?, AOp.next?, bstep, AOp.map, Opd.ev, tget, argTm, evs, AV.cells, St.eff, St.put, applyWr, mset, terase, pureE, unAV, intOp, binAV, fill, mget, AH.rowAt, AH.part, retQ, rvs, retV, AH.splice, AH.sliceElems, AH.bytesOf, AH.strOp, AH.bound, AH.addLog, AH.missQ, AH.minmaxAV, AH.wpOpD, AH.readOf, AH.effOf, AH.mapAt, AH.iterAt, Nat.reduceBEq, Nat.reduceAdd, Nat.reduceLT, ↓reduceIte, Nat.reduceEqDiff, Nat.reduceLeDiff, Nat.reduceSub, Nat.reduceMul, Int.reduceSub, Int.reduceToNat, Int.reduceBEq, Int.reduceBNe, Int.reduceLT, Int.reduceGT, Int.reduceLE, Int.reduceGE, Int.reduceNeg, Int.reduceAdd, dkM, h1, chk, Bool.true_or, errA1]
set_option maxRecDepth 100000 in
theorem check_nil (at_ : Int) : Pure S0 43 [.nilp, .int .i64 at_] (errA 2) := by
  refine fun_sound okZ0 Tryd.func43 c43 ?_
  unfold wpF F43
  simp only [AH.SD, AH.wpOp, AOp.call?, AOp.next?, bstep, AOp.map, Opd.ev, tget, argTm, evs, AV.cells, St.eff, St.put, applyWr, mset, terase, pureE, unAV, intOp, binAV, fill, mget, AH.rowAt, AH.part, retQ, rvs, retV, AH.splice, AH.sliceElems, AH.bytesOf, AH.strOp, AH.bound, AH.addLog, AH.missQ, AH.minmaxAV, AH.wpOpD, AH.readOf, AH.effOf, AH.mapAt, AH.iterAt, Nat.reduceBEq, Nat.reduceAdd, Nat.reduceLT, ↓reduceIte, Nat.reduceEqDiff, Nat.reduceLeDiff, Nat.reduceSub, Nat.reduceMul, Int.reduceSub, Int.reduceToNat, Int.reduceBEq, Int.reduceBNe, Int.reduceLT, Int.reduceGT, Int.reduceLE, Int.reduceGE, Int.reduceNeg, Int.reduceAdd, errA2]
def checkT : RT := rtElse (cC aNil (cC (aI .i64) c0)) (fun _ => errA 2) (rtO dkO (cC (aI .i64) c0) fun d x => some (errA (chk d x.1)))
theorem checkT_ok : ReadF S0 43 checkT := rtElse_ok (fun x => check_nil x.2.1) (fun _ => rfl) (rtO_ok fun d x v h => by
  simp only [Option.some.injEq] at h; subst h
  exact ⟨errA_flat _, check_ok d x.1⟩)
theorem checkT_p {p : Nat} {at_ : Int} {M : Nat → Option Blk} : checkT [.ptr p 0 0, .int .i64 at_] M = rtO2 (fun d (x : Int × Unit) => some (errA (chk d x.1))) (dkR M p (M p)) (some (at_, ())) := by
  simp only [checkT, rtElse_eq, rtO_eq, cC_dec, aNil_ptr, aI_dec, c0_dec, pairO_none, pairO_some, Option.map_none, elseO_none, dkO_dec]
theorem checkT_n {at_ : Int} {M : Nat → Option Blk} : checkT [.nilp, .int .i64 at_] M = some (errA 2, []) := by
  simp only [checkT, rtElse_eq, cC_dec, aNil_dec, aI_dec, c0_dec, pairO_some, Option.map_some, elseO_some]

set_option maxRecDepth 100000 in
theorem len_ok (d : Dk) : CallA1 S0 34 [.ptr 0 0 0] (dkM d) fun r m => r = .int .i64 d.L.length ∧ m = dkM d := by
  refine fun_sound okZ0 Tryd.func34 c34 ?_
  unfold wpF F34
  simp only [AH.SD, AH.wpOp, AOp.call?, AOp.next?, bstep, AOp.map, Opd.ev, tget, argTm, evs, AV.cells, St.eff, St.put, applyWr, mset, terase, pureE, unAV, intOp, binAV, fill, mget, AH.rowAt, AH.part, retQ, rvs, retV, AH.splice, AH.sliceElems, AH.bytesOf, AH.strOp, AH.bound, AH.addLog, AH.missQ, AH.minmaxAV, AH.wpOpD, AH.readOf, AH.effOf, AH.mapAt, AH.iterAt, Nat.reduceBEq, Nat.reduceAdd, Nat.reduceLT, ↓reduceIte, Nat.reduceEqDiff, Nat.reduceLeDiff, Nat.reduceSub, Nat.reduceMul, Int.reduceSub, Int.reduceToNat, Int.reduceBEq, Int.reduceBNe, Int.reduceLT, Int.reduceGT, Int.reduceLE, Int.reduceGE, Int.reduceNeg, Int.reduceAdd, dkM]
set_option maxRecDepth 100000 in
theorem len_nil : Pure S0 34 [.nilp] (.int .i64 0) := by
  refine fun_sound okZ0 Tryd.func34 c34 ?_
  unfold wpF F34
  simp only [AH.SD, AH.wpOp, AOp.call?, AOp.next?, bstep, AOp.map, Opd.ev, tget, argTm, evs, AV.cells, St.eff, St.put, applyWr, mset, terase, pureE, unAV, intOp, binAV, fill, mget, AH.rowAt, AH.part, retQ, rvs, retV, AH.splice, AH.sliceElems, AH.bytesOf, AH.strOp, AH.bound, AH.addLog, AH.missQ, AH.minmaxAV, AH.wpOpD, AH.readOf, AH.effOf, AH.mapAt, AH.iterAt, Nat.reduceBEq, Nat.reduceAdd, Nat.reduceLT, ↓reduceIte, Nat.reduceEqDiff, Nat.reduceLeDiff, Nat.reduceSub, Nat.reduceMul, Int.reduceSub, Int.reduceToNat, Int.reduceBEq, Int.reduceBNe, Int.reduceLT, Int.reduceGT, Int.reduceLE, Int.reduceGE, Int.reduceNeg, Int.reduceAdd]
def lenT : RT := rtElse (cC aNil c0) (fun _ => .int .i64 0) (rtO dkO c0 fun d _ => some (.int .i64 d.L.length))
theorem lenT_ok : ReadF S0 34 lenT := rtElse_ok (fun _ => len_nil) (fun _ => rfl) (rtO_ok fun d x v h => by
  simp only [Option.some.injEq] at h; subst h
  exact ⟨rfl, len_ok d⟩)
theorem lenT_p {p : Nat} {M : Nat → Option Blk} : lenT [.ptr p 0 0] M = rtO2 (fun (d : Dk) (_ : Unit) => some (.int .i64 d.L.length)) (dkR M p (M p)) (some ()) := by
  simp only [lenT, rtElse_eq, rtO_eq, cC_dec, aNil_ptr, c0_dec, pairO_none, Option.map_none, elseO_none, dkO_dec]
theorem lenT_n {M : Nat → Option Blk} : lenT [.nilp] M = some (.int .i64 0, []) := by
  simp only [lenT, rtElse_eq, cC_dec, aNil_dec, c0_dec, pairO_some, Option.map_some, elseO_some]
set_option maxRecDepth 100000 in
theorem isOn_ok (d : Dk) : CallA1 S0 14 [.ptr 0 0 0] (dkM d) fun r m => r = .bool !d.away ∧ m = dkM d := by
  refine fun_sound okZ0 Tryd.func14 c14 ?_
  unfold wpF F14
  simp only [AH.SD, AH.wpOp, AOp.call?, AOp.next?, bstep, AOp.map, Opd.ev, tget, argTm, evs, AV.cells, St.eff, St.put, applyWr, mset, terase, pureE, unAV, intOp, binAV, fill, mget, AH.rowAt, AH.part, retQ, rvs, retV, AH.splice, AH.sliceElems, AH.bytesOf, AH.strOp, AH.bound, AH.addLog, AH.missQ, AH.minmaxAV, AH.wpOpD, AH.readOf, AH.effOf, AH.mapAt, AH.iterAt, Nat.reduceBEq, Nat.reduceAdd, Nat.reduceLT, ↓reduceIte, Nat.reduceEqDiff, Nat.reduceLeDiff, Nat.reduceSub, Nat.reduceMul, Int.reduceSub, Int.reduceToNat, Int.reduceBEq, Int.reduceBNe, Int.reduceLT, Int.reduceGT, Int.reduceLE, Int.reduceGE, Int.reduceNeg, Int.reduceAdd, dkM]
set_option maxRecDepth 100000 in
theorem isOn_nil : Pure S0 14 [.nilp] (.bool false) := by
  refine fun_sound okZ0 Tryd.func14 c14 ?_
  unfold wpF F14
  simp only [AH.SD, AH.wpOp, AOp.call?, AOp.next?, bstep, AOp.map, Opd.ev, tget, argTm, evs, AV.cells, St.eff, St.put, applyWr, mset, terase, pureE, unAV, intOp, binAV, fill, mget, AH.rowAt, AH.part, retQ, rvs, retV, AH.splice, AH.sliceElems, AH.bytesOf, AH.strOp, AH.bound, AH.addLog, AH.missQ, AH.minmaxAV, AH.wpOpD, AH.readOf, AH.effOf, AH.mapAt, AH.iterAt, Nat.reduceBEq, Nat.reduceAdd, Nat.reduceLT, ↓reduceIte, Nat.reduceEqDiff, Nat.reduceLeDiff, Nat.reduceSub, Nat.reduceMul, Int.reduceSub, Int.reduceToNat, Int.reduceBEq, Int.reduceBNe, Int.reduceLT, Int.reduceGT, Int.reduceLE, Int.reduceGE, Int.reduceNeg, Int.reduceAdd]
def isOnT : RT := rtElse (cC aNil c0) (fun _ => .bool false) (rtO dkO c0 fun d _ => some (.bool !d.away))
theorem isOnT_ok : ReadF S0 14 isOnT := rtElse_ok (fun _ => isOn_nil) (fun _ => rfl) (rtO_ok fun d x v h => by
  simp only [Option.some.injEq] at h; subst h
  exact ⟨rfl, isOn_ok d⟩)
theorem isOnT_p {p : Nat} {M : Nat → Option Blk} : isOnT [.ptr p 0 0] M = rtO2 (fun (d : Dk) (_ : Unit) => some (.bool !d.away)) (dkR M p (M p)) (some ()) := by
  simp only [isOnT, rtElse_eq, rtO_eq, cC_dec, aNil_ptr, c0_dec, pairO_none, Option.map_none, elseO_none, dkO_dec]
theorem isOnT_n {M : Nat → Option Blk} : isOnT [.nilp] M = some (.bool false, []) := by
  simp only [isOnT, rtElse_eq, cC_dec, aNil_dec, c0_dec, pairO_some, Option.map_some, elseO_some]
set_option maxRecDepth 100000 in
theorem writes_ok (d : Dk) : CallA1 S0 20 [.ptr 0 0 0] (dkM d) fun r m => r = .int .i64 d.writes ∧ m = dkM d := by
  refine fun_sound okZ0 Tryd.func20 c20 ?_
  unfold wpF F20
  simp only [AH.SD, AH.wpOp, AOp.call?, AOp.next?, bstep, AOp.map, Opd.ev, tget, argTm, evs, AV.cells, St.eff, St.put, applyWr, mset, terase, pureE, unAV, intOp, binAV, fill, mget, AH.rowAt, AH.part, retQ, rvs, retV, AH.splice, AH.sliceElems, AH.bytesOf, AH.strOp, AH.bound, AH.addLog, AH.missQ, AH.minmaxAV, AH.wpOpD, AH.readOf, AH.effOf, AH.mapAt, AH.iterAt, Nat.reduceBEq, Nat.reduceAdd, Nat.reduceLT, ↓reduceIte, Nat.reduceEqDiff, Nat.reduceLeDiff, Nat.reduceSub, Nat.reduceMul, Int.reduceSub, Int.reduceToNat, Int.reduceBEq, Int.reduceBNe, Int.reduceLT, Int.reduceGT, Int.reduceLE, Int.reduceGE, Int.reduceNeg, Int.reduceAdd, dkM]
set_option maxRecDepth 100000 in
theorem writes_nil : Pure S0 20 [.nilp] (.int .i64 0) := by
  refine fun_sound okZ0 Tryd.func20 c20 ?_
  unfold wpF F20
  simp only [AH.SD, AH.wpOp, AOp.call?, AOp.next?, bstep, AOp.map, Opd.ev, tget, argTm, evs, AV.cells, St.eff, St.put, applyWr, mset, terase, pureE, unAV, intOp, binAV, fill, mget, AH.rowAt, AH.part, retQ, rvs, retV, AH.splice, AH.sliceElems, AH.bytesOf, AH.strOp, AH.bound, AH.addLog, AH.missQ, AH.minmaxAV, AH.wpOpD, AH.readOf, AH.effOf, AH.mapAt, AH.iterAt, Nat.reduceBEq, Nat.reduceAdd, Nat.reduceLT, ↓reduceIte, Nat.reduceEqDiff, Nat.reduceLeDiff, Nat.reduceSub, Nat.reduceMul, Int.reduceSub, Int.reduceToNat, Int.reduceBEq, Int.reduceBNe, Int.reduceLT, Int.reduceGT, Int.reduceLE, Int.reduceGE, Int.reduceNeg, Int.reduceAdd]
def writesT : RT := rtElse (cC aNil c0) (fun _ => .int .i64 0) (rtO dkO c0 fun d _ => some (.int .i64 d.writes))
theorem writesT_ok : ReadF S0 20 writesT := rtElse_ok (fun _ => writes_nil) (fun _ => rfl) (rtO_ok fun d x v h => by
  simp only [Option.some.injEq] at h; subst h
  exact ⟨rfl, writes_ok d⟩)
theorem writesT_p {p : Nat} {M : Nat → Option Blk} : writesT [.ptr p 0 0] M = rtO2 (fun (d : Dk) (_ : Unit) => some (.int .i64 d.writes)) (dkR M p (M p)) (some ()) := by
  simp only [writesT, rtElse_eq, rtO_eq, cC_dec, aNil_ptr, c0_dec, pairO_none, Option.map_none, elseO_none, dkO_dec]
theorem writesT_n {M : Nat → Option Blk} : writesT [.nilp] M = some (.int .i64 0, []) := by
  simp only [writesT, rtElse_eq, cC_dec, aNil_dec, c0_dec, pairO_some, Option.map_some, elseO_some]

def rdS (d : Dk) (at_ : Int) : ByteArray := bif chk d at_ == 0 then d.L.getD at_.toNat ⟨#[]⟩ else ⟨#[]⟩
def drdA (d : Dk) (at_ : Int) : AV := .tup [.str (rdS d at_), errA (chk d at_)]
theorem okChk : CtxOK S0 (ctxU S0 [(43, checkT)] []) := ctxU_ok ⟨checkT_ok, trivial⟩ trivial mixed
theorem chk_in {d : Dk} {at_ : Int} (h : chk d at_ = 0) : ∃ i : Nat, at_ = i ∧ i < d.L.length ∧ d.away = false := by
  unfold chk at h
  cases h1 : decide (at_ < 0) || decide (at_ ≥ (d.L.length : Int)) with
  | true => rw [h1] at h; cases h
  | false =>
    rw [h1, cond_false] at h
    simp only [Bool.or_eq_false_iff, decide_eq_false_iff_not] at h1
    obtain ⟨i, rfl⟩ := Int.eq_ofNat_of_zero_le (by omega : 0 ≤ at_)
    refine ⟨i, rfl, by omega, ?_⟩
    cases ha : d.away with
    | true => rw [ha] at h; cases h
    | false => rfl
theorem chk_cases (d : Dk) (at_ : Int) : chk d at_ = 0 ∨ ∃ k, chk d at_ = k + 1 ∧ k + 1 ≤ 14 := by
  unfold chk
  cases decide (at_ < 0) || decide (at_ ≥ (d.L.length : Int))
  · cases d.away
    · exact .inl rfl
    · exact .inr ⟨13, rfl, by omega⟩
  · exact .inr ⟨0, rfl, by omega⟩
set_option maxRecDepth 100000 in
theorem dread_ok (d : Dk) (at_ : Int) : CallA1 S0 55 [.ptr 0 0 0, .int .i64 at_] (dkM d) fun r m => r = drdA d at_ ∧ m = dkM d := by
  refine fun_sound okChk Tryd.func55 c55 ?_
  unfold wpF F55
  simp only [AH.SD, AH.wpOp, AOp.call?, AOp.next?, bstep, AOp.map, Opd.ev, tget, argTm, evs, AV.cells, St.eff, St.put, applyWr, mset, terase, pureE, unAV, intOp, binAV, fill, mget, AH.rowAt, AH.part, retQ, rvs, retV, AH.splice, AH.sliceElems, AH.bytesOf, AH.strOp, AH.bound, AH.addLog, AH.missQ, AH.minmaxAV, AH.wpOpD, AH.readOf, AH.effOf, AH.mapAt, AH.iterAt, Nat.reduceBEq, Nat.reduceAdd, Nat.reduceLT, ↓reduceIte, Nat.reduceEqDiff, Nat.reduceLeDiff, Nat.reduceSub, Nat.reduceMul, Int.reduceSub, Int.reduceToNat, Int.reduceBEq, Int.reduceBNe, Int.reduceLT, Int.reduceGT, Int.reduceLE, Int.reduceGE, Int.reduceNeg, Int.reduceAdd, AH.PD, heads, distN, AH.inN, posN, packM, packB, packTm, liveB, AV.inB, AV.insB, AV.ren, AV.rens, Blk.ren, Blk.inB, vstep, tput, vw, shift, newOnes, rowsM, blkIn, rwB, @flat_lts, AV.lt, AV.lts, Nat.sub_self, AH.rtO_eq, AH.rtO2_eq, AH.rtO2_none, AH.etO_eq, AH.etO2_eq, AH.etO2_none, AH.useO_some, AH.rtElse_eq, AH.elseO_some, AH.elseO_none, AH.etN_eq, Option.bind_some, Option.bind_none, AH.pairO_some, AH.pairO_none, AH.cC_dec, AH.cC_nil, AH.c0_dec, AH.c0_dec1, AH.aI_dec, AH.aS_dec, AH.aB_dec, AH.aNil_dec, AH.aNil_ptr, Option.map_none, effS, wrS, newS, backNo, AH.isIn, AH.posOf, AH.rwB, List.all_cons, List.all_nil, List.getElem?_cons_zero, List.getElem?_cons_succ, List.getElem?_nil, AH.appE_some, List.contains_cons, List.contains_nil, Nat.add_zero, dkM, checkT_p, dkR_eq, dkB_eq, Dk.eta, ne_eq, Nat.reduceEqDiff, Nat.zero_ne_one, not_false_eq_true]
  rcases chk_cases d at_ with h | ⟨k, h, _⟩
  · obtain ⟨i, rfl, hi, ha⟩ := chk_in h
    have hg : d.L.getD i ⟨#[]⟩ = d.L[i] := by rw [List.getD_eq_getElem?_getD, List.getElem?_eq_getElem hi]; rfl
    simp only [AH.SD, AH.wpOp, AOp.call?, AOp.next?, bstep, AOp.map, Opd.ev, tget, argTm, evs, AV.cells, St.eff, St.put, applyWr, mset, terase, pureE, unAV, intOp, binAV, fill, mget, AH.rowAt, AH.part, retQ, rvs, retV, AH.splice, AH.sliceElems, AH.bytesOf, AH.strOp, AH.bound, AH.addLog, AH.missQ, AH.minmaxAV, AH.wpOpD, AH.readOf, AH.effOf, AH.mapAt, AH.iterAt, Nat.reduceBEq, Nat.reduceAdd, Nat.reduceLT, ↓reduceIte, Nat.reduceEqDiff, Nat.reduceLeDiff, Nat.reduceSub, Nat.reduceMul, Int.reduceSub, Int.reduceToNat, Int.reduceBEq, Int.reduceBNe, Int.reduceLT, Int.reduceGT, Int.reduceLE, Int.reduceGE, Int.reduceNeg, Int.reduceAdd, h, errA_nil, getD_enc, hi, strC_eq, drdA, rdS, hg, errA0, Int.toNat_natCast]
    repeat (refine ⟨by first | rfl | decide | omega | (simp only [List.length_map, and_true]; omega) | (simp only [List.length_map, List.length_set, and_true]; omega), ?_⟩)
    trivial
  · simp only [AH.SD, AH.wpOp, AOp.call?, AOp.next?, bstep, AOp.map, Opd.ev, tget, argTm, evs, AV.cells, St.eff, St.put, applyWr, mset, terase, pureE, unAV, intOp, binAV, fill, mget, AH.rowAt, AH.part, retQ, rvs, retV, AH.splice, AH.sliceElems, AH.bytesOf, AH.strOp, AH.bound, AH.addLog, AH.missQ, AH.minmaxAV, AH.wpOpD, AH.readOf, AH.effOf, AH.mapAt, AH.iterAt, Nat.reduceBEq, Nat.reduceAdd, Nat.reduceLT, ↓reduceIte, Nat.reduceEqDiff, Nat.reduceLeDiff, Nat.reduceSub, Nat.reduceMul, Int.reduceSub, Int.reduceToNat, Int.reduceBEq, Int.reduceBNe, Int.reduceLT, Int.reduceGT, Int.reduceLE, Int.reduceGE, Int.reduceNeg, Int.reduceAdd, h, errA_nil, drdA, rdS, Nat.add_one_ne_zero]
end Go.Proofs.YthapdikdeoeplaaDoor.H6
end

section
open Go AH
set_option linter.unusedSimpArgs false
set_option maxRecDepth 100000
namespace Go.Proofs.YthapdikdeoeplaaDoor.H6
def drdT : RT := rtElse (cC aNil (cC (aI .i64) c0)) (fun _ => .tup [.str ⟨#[]⟩, errA 2]) (rtO dkO (cC (aI .i64) c0) fun d x => some (drdA d x.1))
set_option maxRecDepth 100000 in
theorem read_nil (at_ : Int) : Pure S0 55 [.nilp, .int .i64 at_] (.tup [.str ⟨#[]⟩, errA 2]) := by
  refine fun_sound okChk Tryd.func55 c55 ?_
  unfold wpF F55
  simp only [AH.SD, AH.wpOp, AOp.call?, AOp.next?, bstep, AOp.map, Opd.ev, tget, argTm, evs, AV.cells, St.eff, St.put, applyWr, mset, terase, pureE, unAV, intOp, binAV, fill, mget, AH.rowAt, AH.part, retQ, rvs, retV, AH.splice, AH.sliceElems, AH.bytesOf, AH.strOp, AH.bound, AH.addLog, AH.missQ, AH.minmaxAV, AH.wpOpD, AH.readOf, AH.effOf, AH.mapAt, AH.iterAt, Nat.reduceBEq, Nat.reduceAdd, Nat.reduceLT, ↓reduceIte, Nat.reduceEqDiff, Nat.reduceLeDiff, Nat.reduceSub, Nat.reduceMul, Int.reduceSub, Int.reduceToNat, Int.reduceBEq, Int.reduceBNe, Int.reduceLT, Int.reduceGT, Int.reduceLE, Int.reduceGE, Int.reduceNeg, Int.reduceAdd, checkT_n, errA_nil]
theorem drdA_flat (d : Dk) (at_ : Int) : (drdA d at_).lt 0 = true := by
  simp only [drdA, AV.lt, AV.lts, errA_flat, Bool.and_self]
theorem drdT_ok : ReadF S0 55 drdT := rtElse_ok (fun x => read_nil x.2.1) (fun _ => rfl) (rtO_ok fun d x v h => by
  simp only [Option.some.injEq] at h; subst h
  exact ⟨drdA_flat _ _, dread_ok d x.1⟩)
theorem drdT_p {p : Nat} {at_ : Int} {M : Nat → Option Blk} : drdT [.ptr p 0 0, .int .i64 at_] M = rtO2 (fun d (x : Int × Unit) => some (drdA d x.1)) (dkR M p (M p)) (some (at_, ())) := by
  simp only [drdT, rtElse_eq, rtO_eq, cC_dec, aNil_ptr, aI_dec, c0_dec, pairO_none, pairO_some, Option.map_none, elseO_none, dkO_dec]
theorem drdT_n {at_ : Int} {M : Nat → Option Blk} : drdT [.nilp, .int .i64 at_] M = some (.tup [.str ⟨#[]⟩, errA 2], []) := by
  simp only [drdT, rtElse_eq, cC_dec, aNil_dec, aI_dec, c0_dec, pairO_some, Option.map_some, elseO_some]

def maxI (x y : Int) : Int := if y > x then y else x
def minI (x y : Int) : Int := if y < x then y else x
/-- Of a write: its error's kind, and the disk behind it. -/
def wrD (d : Dk) (at_ : Int) (s : ByteArray) : Nat × Dk :=
  if s.size ≠ 64 then (1, d) else
  if chk d at_ ≠ 0 then (chk d at_, d) else
  if d.fuse = 0 then (14, { d with L := d.L.set at_.toNat (s.extract 0 d.torn.toNat ++ (d.L.getD at_.toNat ⟨#[]⟩).extract d.torn.toNat 64), away := true }) else
  (0, { d with L := d.L.set at_.toNat s, fuse := maxI (IntKind.i64.wrap (d.fuse - 1)) (-1), writes := IntKind.i64.wrap (d.writes + 1) })
def Dk.ok (d : Dk) : Prop := (∀ b ∈ d.L, b.size = 64) ∧ 0 ≤ d.torn ∧ d.torn ≤ 64 ∧ d.L.length ≤ 4096
theorem set_strC (L : List ByteArray) (i : Nat) (s : ByteArray) : (L.map strC).set i [.str s] = (L.set i s).map strC := by rw [List.map_set]; rfl
set_option maxRecDepth 100000 in
theorem write_ok (d : Dk) (hd : d.ok) (at_ : Int) (s : ByteArray) : CallA1 S0 15 [.ptr 0 0 0, .int .i64 at_, .str s] (dkM d) fun r m => r = errA (wrD d at_ s).1 ∧ m = dkM (wrD d at_ s).2 := by
  refine fun_sound okChk Tryd.func15 c15 ?_
  unfold wpF F15
  by_cases hs : s.size = 64
  · have hs1 : ((s.size : Int) != 64) = false := by rw [hs]; rfl
    have hs2 : ¬ (s.size ≠ 64) := fun h => h hs
    simp only [AH.SD, AH.wpOp, AOp.call?, AOp.next?, bstep, AOp.map, Opd.ev, tget, argTm, evs, AV.cells, St.eff, St.put, applyWr, mset, terase, pureE, unAV, intOp, binAV, fill, mget, AH.rowAt, AH.part, retQ, rvs, retV, AH.splice, AH.sliceElems, AH.bytesOf, AH.strOp, AH.bound, AH.addLog, AH.missQ, AH.minmaxAV, AH.wpOpD, AH.readOf, AH.effOf, AH.mapAt, AH.iterAt, Nat.reduceBEq, Nat.reduceAdd, Nat.reduceLT, ↓reduceIte, Nat.reduceEqDiff, Nat.reduceLeDiff, Nat.reduceSub, Nat.reduceMul, Int.reduceSub, Int.reduceToNat, Int.reduceBEq, Int.reduceBNe, Int.reduceLT, Int.reduceGT, Int.reduceLE, Int.reduceGE, Int.reduceNeg, Int.reduceAdd, AH.PD, heads, distN, AH.inN, posN, packM, packB, packTm, liveB, AV.inB, AV.insB, AV.ren, AV.rens, Blk.ren, Blk.inB, vstep, tput, vw, shift, newOnes, rowsM, blkIn, rwB, @flat_lts, AV.lt, AV.lts, Nat.sub_self, AH.rtO_eq, AH.rtO2_eq, AH.rtO2_none, AH.etO_eq, AH.etO2_eq, AH.etO2_none, AH.useO_some, AH.rtElse_eq, AH.elseO_some, AH.elseO_none, AH.etN_eq, Option.bind_some, Option.bind_none, AH.pairO_some, AH.pairO_none, AH.cC_dec, AH.cC_nil, AH.c0_dec, AH.c0_dec1, AH.aI_dec, AH.aS_dec, AH.aB_dec, AH.aNil_dec, AH.aNil_ptr, Option.map_none, effS, wrS, newS, backNo, AH.isIn, AH.posOf, AH.rwB, List.all_cons, List.all_nil, List.getElem?_cons_zero, List.getElem?_cons_succ, List.getElem?_nil, AH.appE_some, List.contains_cons, List.contains_nil, Nat.add_zero, dkM, hs1, checkT_p, dkR_eq, dkB_eq, Dk.eta, ne_eq, Nat.reduceEqDiff, Nat.zero_ne_one, not_false_eq_true]
    rcases chk_cases d at_ with h | ⟨k, h, _⟩
    · obtain ⟨i, rfl, hi, ha⟩ := chk_in h
      have hg : d.L.getD i ⟨#[]⟩ = d.L[i] := by rw [List.getD_eq_getElem?_getD, List.getElem?_eq_getElem hi]; rfl
      have hz : d.L[i].size = 64 := hd.1 _ (List.getElem_mem hi)
      obtain ⟨q, hq⟩ := Int.eq_ofNat_of_zero_le hd.2.1
      have hq2 := hd.2.2.1
      have hh : ¬ (chk d (i : Int) ≠ 0) := fun z => z h
      by_cases hf : d.fuse = 0
      · have hf1 : ((0 : Int) == 0) = true := rfl
        have e : wrD d (i : Int) s = (14, { d with L := d.L.set i (s.extract 0 q ++ d.L[i].extract q 64), away := true }) := by
          simp only [wrD, hs2, hh, hf, hq, hg, Int.toNat_natCast, if_true, if_false]
        simp only [AH.SD, AH.wpOp, AOp.call?, AOp.next?, bstep, AOp.map, Opd.ev, tget, argTm, evs, AV.cells, St.eff, St.put, applyWr, mset, terase, pureE, unAV, intOp, binAV, fill, mget, AH.rowAt, AH.part, retQ, rvs, retV, AH.splice, AH.sliceElems, AH.bytesOf, AH.strOp, AH.bound, AH.addLog, AH.missQ, AH.minmaxAV, AH.wpOpD, AH.readOf, AH.effOf, AH.mapAt, AH.iterAt, Nat.reduceBEq, Nat.reduceAdd, Nat.reduceLT, ↓reduceIte, Nat.reduceEqDiff, Nat.reduceLeDiff, Nat.reduceSub, Nat.reduceMul, Int.reduceSub, Int.reduceToNat, Int.reduceBEq, Int.reduceBNe, Int.reduceLT, Int.reduceGT, Int.reduceLE, Int.reduceGE, Int.reduceNeg, Int.reduceAdd, h, errA_nil, hf, hf1, getD_enc, hi, strC_eq, hq, Int.toNat_natCast, hs, hz, e, errA14]
        repeat (refine ⟨by first | rfl | decide | omega | (simp only [List.length_map, and_true]; omega) | (simp only [List.length_map, List.length_set, and_true]; omega), ?_⟩)
        have e1 : ((s.extract 0 q).size + (d.L[i].extract q 64).size : Nat) = 64 := by
          rw [ByteArray.size_extract, ByteArray.size_extract, hz, hs]; omega
        simp only [AH.SD, AH.wpOp, AOp.call?, AOp.next?, bstep, AOp.map, Opd.ev, tget, argTm, evs, AV.cells, St.eff, St.put, applyWr, mset, terase, pureE, unAV, intOp, binAV, fill, mget, AH.rowAt, AH.part, retQ, rvs, retV, AH.splice, AH.sliceElems, AH.bytesOf, AH.strOp, AH.bound, AH.addLog, AH.missQ, AH.minmaxAV, AH.wpOpD, AH.readOf, AH.effOf, AH.mapAt, AH.iterAt, Nat.reduceBEq, Nat.reduceAdd, Nat.reduceLT, ↓reduceIte, Nat.reduceEqDiff, Nat.reduceLeDiff, Nat.reduceSub, Nat.reduceMul, Int.reduceSub, Int.reduceToNat, Int.reduceBEq, Int.reduceBNe, Int.reduceLT, Int.reduceGT, Int.reduceLE, Int.reduceGE, Int.reduceNeg, Int.reduceAdd, e1, set_strC, List.length_set, hq]
        repeat (refine ⟨by first | rfl | decide | omega | (simp only [List.length_map, and_true]; omega) | (simp only [List.length_map, List.length_set, and_true]; omega), ?_⟩)
        trivial
      · have hf1 : (d.fuse == 0) = false := by simpa using hf
        have e : wrD d (i : Int) s = (0, { d with L := d.L.set i s, fuse := if -1 > IntKind.i64.wrap (d.fuse - 1) then -1 else IntKind.i64.wrap (d.fuse - 1), writes := IntKind.i64.wrap (d.writes + 1) }) := by
          simp only [wrD, hs2, hh, hf, Int.toNat_natCast, if_true, if_false, maxI]
        simp only [AH.SD, AH.wpOp, AOp.call?, AOp.next?, bstep, AOp.map, Opd.ev, tget, argTm, evs, AV.cells, St.eff, St.put, applyWr, mset, terase, pureE, unAV, intOp, binAV, fill, mget, AH.rowAt, AH.part, retQ, rvs, retV, AH.splice, AH.sliceElems, AH.bytesOf, AH.strOp, AH.bound, AH.addLog, AH.missQ, AH.minmaxAV, AH.wpOpD, AH.readOf, AH.effOf, AH.mapAt, AH.iterAt, Nat.reduceBEq, Nat.reduceAdd, Nat.reduceLT, ↓reduceIte, Nat.reduceEqDiff, Nat.reduceLeDiff, Nat.reduceSub, Nat.reduceMul, Int.reduceSub, Int.reduceToNat, Int.reduceBEq, Int.reduceBNe, Int.reduceLT, Int.reduceGT, Int.reduceLE, Int.reduceGE, Int.reduceNeg, Int.reduceAdd, h, errA_nil, hf1, getD_enc, hi, Int.toNat_natCast, strC_eq, e, set_strC, errA0, List.length_set]
        repeat (refine ⟨by first | rfl | decide | omega | (simp only [List.length_map, and_true]; omega) | (simp only [List.length_map, List.length_set, and_true]; omega), ?_⟩)
        try trivial
    · have hh : chk d at_ ≠ 0 := by omega
      have e : wrD d at_ s = (chk d at_, d) := by simp only [wrD, hs2, hh, ne_eq, not_false_eq_true, if_true, if_false]
      simp only [AH.SD, AH.wpOp, AOp.call?, AOp.next?, bstep, AOp.map, Opd.ev, tget, argTm, evs, AV.cells, St.eff, St.put, applyWr, mset, terase, pureE, unAV, intOp, binAV, fill, mget, AH.rowAt, AH.part, retQ, rvs, retV, AH.splice, AH.sliceElems, AH.bytesOf, AH.strOp, AH.bound, AH.addLog, AH.missQ, AH.minmaxAV, AH.wpOpD, AH.readOf, AH.effOf, AH.mapAt, AH.iterAt, Nat.reduceBEq, Nat.reduceAdd, Nat.reduceLT, ↓reduceIte, Nat.reduceEqDiff, Nat.reduceLeDiff, Nat.reduceSub, Nat.reduceMul, Int.reduceSub, Int.reduceToNat, Int.reduceBEq, Int.reduceBNe, Int.reduceLT, Int.reduceGT, Int.reduceLE, Int.reduceGE, Int.reduceNeg, Int.reduceAdd, h, errA_nil, e]
  · have hs1 : ((s.size : Int) != 64) = true := by
      have : (s.size : Int) ≠ 64 := by omega
      simpa using this
    have e : wrD d at_ s = (1, d) := by simp only [wrD, hs, ne_eq, not_false_eq_true, if_true]
    simp only [AH.SD, AH.wpOp, AOp.call?, AOp.next?, bstep, AOp.map, Opd.ev, tget, argTm, evs, AV.cells, St.eff, St.put, applyWr, mset, terase, pureE, unAV, intOp, binAV, fill, mget, AH.rowAt, AH.part, retQ, rvs, retV, AH.splice, AH.sliceElems, AH.bytesOf, AH.strOp, AH.bound, AH.addLog, AH.missQ, AH.minmaxAV, AH.wpOpD, AH.readOf, AH.effOf, AH.mapAt, AH.iterAt, Nat.reduceBEq, Nat.reduceAdd, Nat.reduceLT, ↓reduceIte, Nat.reduceEqDiff, Nat.reduceLeDiff, Nat.reduceSub, Nat.reduceMul, Int.reduceSub, Int.reduceToNat, Int.reduceBEq, Int.reduceBNe, Int.reduceLT, Int.reduceGT, Int.reduceLE, Int.reduceGE, Int.reduceNeg, Int.reduceAdd, dkM, hs1, e, errA1]
theorem getD_mem {α : Type} {l : List α} {i : Nat} {x : α} (h : i < l.length) : l.getD i x ∈ l := by
  rw [List.getD_eq_getElem?_getD, List.getElem?_eq_getElem h]; exact List.getElem_mem h
theorem wr_ok {d : Dk} (hd : d.ok) (at_ : Int) (s : ByteArray) : (wrD d at_ s).2.ok := by
  unfold wrD
  split
  · exact hd
  · rename_i hs
    split
    · exact hd
    · rename_i hc
      obtain ⟨i, rfl, hi, _⟩ := chk_in (Decidable.not_not.1 hc)
      have hs' : s.size = 64 := Decidable.not_not.1 hs
      split
      · refine ⟨fun b hb => ?_, hd.2.1, hd.2.2.1, by simpa using hd.2.2.2⟩
        rcases List.mem_or_eq_of_mem_set hb with h | rfl
        · exact hd.1 b h
        · have hz : (d.L.getD ((i : Int)).toNat ⟨#[]⟩).size = 64 := hd.1 _ (getD_mem (by simpa using hi))
          have h1 := hd.2.1
          have h2 := hd.2.2.1
          rw [ByteArray.size_append, ByteArray.size_extract, ByteArray.size_extract, hz, hs']; omega
      · refine ⟨fun b hb => ?_, hd.2.1, hd.2.2.1, by simpa using hd.2.2.2⟩
        rcases List.mem_or_eq_of_mem_set hb with h | rfl
        · exact hd.1 b h
        · exact hs'
theorem wr_len (d : Dk) (at_ : Int) (s : ByteArray) : (wrD d at_ s).2.L.length = d.L.length := by
  unfold wrD
  split
  · rfl
  · split
    · rfl
    · split <;> simp
instance (d : Dk) : Decidable d.ok := by unfold Dk.ok; infer_instance
theorem wrD_kind (d : Dk) (at_ : Int) (s : ByteArray) : (wrD d at_ s).1 ≤ 14 := by
  unfold wrD
  split
  · simp
  · split
    · rcases chk_cases d at_ with h | ⟨k, h, hk⟩ <;> simp only <;> omega
    · split <;> simp
def writeT : ET := etO dkO (cC (aI .i64) (cC aS c0)) fun d x => if d.ok then some (errA (wrD d x.1 x.2.1).1, dkM (wrD d x.1 x.2.1).2) else none
theorem writeT_ok : EffF S0 15 writeT := etO_ok fun d x v m' h => by
  split at h
  · rename_i hd
    simp only [Option.some.injEq, Prod.mk.injEq] at h
    obtain ⟨rfl, rfl⟩ := h
    exact ⟨⟨Nat.le_refl 2, rfl⟩, write_ok d hd x.1 x.2.1⟩
  · cases h
theorem writeT_p {p n : Nat} {at_ : Int} {s : ByteArray} {M : Nat → Option Blk} : writeT [.ptr p 0 0, .int .i64 at_, .str s] M n = etO2 n (fun d (x : Int × ByteArray × Unit) => if d.ok then some (errA (wrD d x.1 x.2.1).1, dkM (wrD d x.1 x.2.1).2) else none) (dkR M p (M p)) (some (at_, s, ())) := by
  simp only [writeT, etO_eq, cC_dec, aI_dec, aS_dec, c0_dec, pairO_some, dkO_dec]
set_option maxRecDepth 100000 in
theorem write_nil (at_ : Int) (s : ByteArray) : Pure S0 15 [.nilp, .int .i64 at_, .str s] (errA 2) := by
  refine fun_sound okChk Tryd.func15 c15 ?_
  unfold wpF F15
  simp only [AH.SD, AH.wpOp, AOp.call?, AOp.next?, bstep, AOp.map, Opd.ev, tget, argTm, evs, AV.cells, St.eff, St.put, applyWr, mset, terase, pureE, unAV, intOp, binAV, fill, mget, AH.rowAt, AH.part, retQ, rvs, retV, AH.splice, AH.sliceElems, AH.bytesOf, AH.strOp, AH.bound, AH.addLog, AH.missQ, AH.minmaxAV, AH.wpOpD, AH.readOf, AH.effOf, AH.mapAt, AH.iterAt, Nat.reduceBEq, Nat.reduceAdd, Nat.reduceLT, ↓reduceIte, Nat.reduceEqDiff, Nat.reduceLeDiff, Nat.reduceSub, Nat.reduceMul, Int.reduceSub, Int.reduceToNat, Int.reduceBEq, Int.reduceBNe, Int.reduceLT, Int.reduceGT, Int.reduceLE, Int.reduceGE, Int.reduceNeg, Int.reduceAdd, checkT_n, errA_nil]
def writeNT : RT := rtP (cC aNil (cC (aI .i64) (cC aS c0))) fun _ => errA 2
theorem writeNT_ok : ReadF S0 15 writeNT := rtP_ok (fun x => write_nil x.2.1 x.2.2.1) fun _ => rfl
theorem writeNT_n {at_ : Int} {s : ByteArray} {M : Nat → Option Blk} : writeNT [.nilp, .int .i64 at_, .str s] M = some (errA 2, []) := by
  simp only [writeNT, rtP, cC_dec, aNil_dec, aI_dec, aS_dec, c0_dec, pairO_some, Option.map_some]
theorem writeNT_p {p : Nat} {at_ : Int} {s : ByteArray} {M : Nat → Option Blk} : writeNT [.ptr p 0 0, .int .i64 at_, .str s] M = none := by
  simp only [writeNT, rtP, cC_dec, aNil_ptr, pairO_none, Option.map_none]

def fuD (d : Dk) (n torn : Int) : Dk := bif d.away then d else { d with fuse := maxI n (-1), torn := minI (maxI torn 0) 64 }
theorem minI_in (x : Int) : 0 ≤ minI (maxI x 0) 64 ∧ minI (maxI x 0) 64 ≤ 64 := by
  unfold minI maxI
  split <;> split <;> omega
theorem fu_ok {d : Dk} (hd : d.ok) (n torn : Int) : (fuD d n torn).ok := by
  unfold fuD
  cases d.away
  · exact ⟨hd.1, (minI_in torn).1, (minI_in torn).2, hd.2.2.2⟩
  · exact hd
theorem fu_len (d : Dk) (n torn : Int) : (fuD d n torn).L = d.L := by unfold fuD; cases d.away <;> rfl
set_option maxRecDepth 100000 in
theorem fuse_ok (d : Dk) (n torn : Int) : CallA1 S0 10 [.ptr 0 0 0, .int .i64 n, .int .i64 torn] (dkM d) fun r m => r = .tup [] ∧ m = dkM (fuD d n torn) := by
  refine fun_sound okZ0 Tryd.func10 c10 ?_
  unfold wpF F10
  cases h : d.away
  · have e : fuD d n torn = { d with away := false, fuse := if -1 > n then -1 else n, torn := if 64 < (if 0 > torn then 0 else torn) then 64 else if 0 > torn then 0 else torn } := by
      rw [fuD, h]; rfl
    simp only [AH.SD, AH.wpOp, AOp.call?, AOp.next?, bstep, AOp.map, Opd.ev, tget, argTm, evs, AV.cells, St.eff, St.put, applyWr, mset, terase, pureE, unAV, intOp, binAV, fill, mget, AH.rowAt, AH.part, retQ, rvs, retV, AH.splice, AH.sliceElems, AH.bytesOf, AH.strOp, AH.bound, AH.addLog, AH.missQ, AH.minmaxAV, AH.wpOpD, AH.readOf, AH.effOf, AH.mapAt, AH.iterAt, Nat.reduceBEq, Nat.reduceAdd, Nat.reduceLT, ↓reduceIte, Nat.reduceEqDiff, Nat.reduceLeDiff, Nat.reduceSub, Nat.reduceMul, Int.reduceSub, Int.reduceToNat, Int.reduceBEq, Int.reduceBNe, Int.reduceLT, Int.reduceGT, Int.reduceLE, Int.reduceGE, Int.reduceNeg, Int.reduceAdd, dkM, h, e]
    try trivial
  · have e : fuD d n torn = d := by simp only [fuD, h, cond_true]
    simp only [AH.SD, AH.wpOp, AOp.call?, AOp.next?, bstep, AOp.map, Opd.ev, tget, argTm, evs, AV.cells, St.eff, St.put, applyWr, mset, terase, pureE, unAV, intOp, binAV, fill, mget, AH.rowAt, AH.part, retQ, rvs, retV, AH.splice, AH.sliceElems, AH.bytesOf, AH.strOp, AH.bound, AH.addLog, AH.missQ, AH.minmaxAV, AH.wpOpD, AH.readOf, AH.effOf, AH.mapAt, AH.iterAt, Nat.reduceBEq, Nat.reduceAdd, Nat.reduceLT, ↓reduceIte, Nat.reduceEqDiff, Nat.reduceLeDiff, Nat.reduceSub, Nat.reduceMul, Int.reduceSub, Int.reduceToNat, Int.reduceBEq, Int.reduceBNe, Int.reduceLT, Int.reduceGT, Int.reduceLE, Int.reduceGE, Int.reduceNeg, Int.reduceAdd, dkM, h, e]
set_option maxRecDepth 100000 in
theorem fuse_nil (n torn : Int) : Pure S0 10 [.nilp, .int .i64 n, .int .i64 torn] (.tup []) := by
  refine fun_sound okZ0 Tryd.func10 c10 ?_
  unfold wpF F10
  simp only [AH.SD, AH.wpOp, AOp.call?, AOp.next?, bstep, AOp.map, Opd.ev, tget, argTm, evs, AV.cells, St.eff, St.put, applyWr, mset, terase, pureE, unAV, intOp, binAV, fill, mget, AH.rowAt, AH.part, retQ, rvs, retV, AH.splice, AH.sliceElems, AH.bytesOf, AH.strOp, AH.bound, AH.addLog, AH.missQ, AH.minmaxAV, AH.wpOpD, AH.readOf, AH.effOf, AH.mapAt, AH.iterAt, Nat.reduceBEq, Nat.reduceAdd, Nat.reduceLT, ↓reduceIte, Nat.reduceEqDiff, Nat.reduceLeDiff, Nat.reduceSub, Nat.reduceMul, Int.reduceSub, Int.reduceToNat, Int.reduceBEq, Int.reduceBNe, Int.reduceLT, Int.reduceGT, Int.reduceLE, Int.reduceGE, Int.reduceNeg, Int.reduceAdd]
def fuseT : ET := etO dkO (cC (aI .i64) (cC (aI .i64) c0)) fun d x => some (.tup [], dkM (fuD d x.1 x.2.1))
theorem fuseT_ok : EffF S0 10 fuseT := etO_ok fun d x v m' h => by
  simp only [Option.some.injEq, Prod.mk.injEq] at h
  obtain ⟨rfl, rfl⟩ := h
  exact ⟨⟨Nat.le_refl 2, rfl⟩, fuse_ok d x.1 x.2.1⟩
theorem fuseT_p {p n : Nat} {k torn : Int} {M : Nat → Option Blk} : fuseT [.ptr p 0 0, .int .i64 k, .int .i64 torn] M n = etO2 n (fun d (x : Int × Int × Unit) => some (.tup [], dkM (fuD d x.1 x.2.1))) (dkR M p (M p)) (some (k, torn, ())) := by
  simp only [fuseT, etO_eq, cC_dec, aI_dec, c0_dec, pairO_some, dkO_dec]
def fuseNT : RT := rtP (cC aNil (cC (aI .i64) (cC (aI .i64) c0))) fun _ => .tup []
theorem fuseNT_ok : ReadF S0 10 fuseNT := rtP_ok (fun x => fuse_nil x.2.1 x.2.2.1) fun _ => rfl
theorem fuseNT_n {k torn : Int} {M : Nat → Option Blk} : fuseNT [.nilp, .int .i64 k, .int .i64 torn] M = some (.tup [], []) := by
  simp only [fuseNT, rtP, cC_dec, aNil_dec, aI_dec, c0_dec, pairO_some, Option.map_some]
theorem fuseNT_p {p : Nat} {k torn : Int} {M : Nat → Option Blk} : fuseNT [.ptr p 0 0, .int .i64 k, .int .i64 torn] M = none := by
  simp only [fuseNT, rtP, cC_dec, aNil_ptr, pairO_none, Option.map_none]

def coD (d : Dk) : Dk := bif d.away then { d with away := false, fuse := -1 } else d
theorem co_ok {d : Dk} (hd : d.ok) : (coD d).ok := by
  unfold coD
  cases d.away <;> exact hd
theorem co_len (d : Dk) : (coD d).L = d.L := by unfold coD; cases d.away <;> rfl
set_option maxRecDepth 100000 in
theorem come_ok (d : Dk) : CallA1 S0 17 [.ptr 0 0 0] (dkM d) fun r m => r = .tup [] ∧ m = dkM (coD d) := by
  refine fun_sound okZ0 Tryd.func17 c17 ?_
  unfold wpF F17
  cases h : d.away
  all_goals
    simp only [AH.SD, AH.wpOp, AOp.call?, AOp.next?, bstep, AOp.map, Opd.ev, tget, argTm, evs, AV.cells, St.eff, St.put, applyWr, mset, terase, pureE, unAV, intOp, binAV, fill, mget, AH.rowAt, AH.part, retQ, rvs, retV, AH.splice, AH.sliceElems, AH.bytesOf, AH.strOp, AH.bound, AH.addLog, AH.missQ, AH.minmaxAV, AH.wpOpD, AH.readOf, AH.effOf, AH.mapAt, AH.iterAt, Nat.reduceBEq, Nat.reduceAdd, Nat.reduceLT, ↓reduceIte, Nat.reduceEqDiff, Nat.reduceLeDiff, Nat.reduceSub, Nat.reduceMul, Int.reduceSub, Int.reduceToNat, Int.reduceBEq, Int.reduceBNe, Int.reduceLT, Int.reduceGT, Int.reduceLE, Int.reduceGE, Int.reduceNeg, Int.reduceAdd, dkM, h, coD]
set_option maxRecDepth 100000 in
theorem come_nil : Pure S0 17 [.nilp] (.tup []) := by
  refine fun_sound okZ0 Tryd.func17 c17 ?_
  unfold wpF F17
  simp only [AH.SD, AH.wpOp, AOp.call?, AOp.next?, bstep, AOp.map, Opd.ev, tget, argTm, evs, AV.cells, St.eff, St.put, applyWr, mset, terase, pureE, unAV, intOp, binAV, fill, mget, AH.rowAt, AH.part, retQ, rvs, retV, AH.splice, AH.sliceElems, AH.bytesOf, AH.strOp, AH.bound, AH.addLog, AH.missQ, AH.minmaxAV, AH.wpOpD, AH.readOf, AH.effOf, AH.mapAt, AH.iterAt, Nat.reduceBEq, Nat.reduceAdd, Nat.reduceLT, ↓reduceIte, Nat.reduceEqDiff, Nat.reduceLeDiff, Nat.reduceSub, Nat.reduceMul, Int.reduceSub, Int.reduceToNat, Int.reduceBEq, Int.reduceBNe, Int.reduceLT, Int.reduceGT, Int.reduceLE, Int.reduceGE, Int.reduceNeg, Int.reduceAdd]
def comeT : ET := etO dkO c0 fun d _ => some (.tup [], dkM (coD d))
theorem comeT_ok : EffF S0 17 comeT := etO_ok fun d x v m' h => by
  simp only [Option.some.injEq, Prod.mk.injEq] at h
  obtain ⟨rfl, rfl⟩ := h
  exact ⟨⟨Nat.le_refl 2, rfl⟩, come_ok d⟩
theorem comeT_p {p n : Nat} {M : Nat → Option Blk} : comeT [.ptr p 0 0] M n = etO2 n (fun (d : Dk) (_ : Unit) => some (.tup [], dkM (coD d))) (dkR M p (M p)) (some ()) := by
  simp only [comeT, etO_eq, c0_dec, dkO_dec]
def comeNT : RT := rtP (cC aNil c0) fun _ => .tup []
theorem comeNT_ok : ReadF S0 17 comeNT := rtP_ok (fun _ => come_nil) fun _ => rfl
theorem comeNT_n {M : Nat → Option Blk} : comeNT [.nilp] M = some (.tup [], []) := by
  simp only [comeNT, rtP, cC_dec, aNil_dec, c0_dec, pairO_some, Option.map_some]
theorem comeNT_p {p : Nat} {M : Nat → Option Blk} : comeNT [.ptr p 0 0] M = none := by
  simp only [comeNT, rtP, cC_dec, aNil_ptr, pairO_none, Option.map_none]
end Go.Proofs.YthapdikdeoeplaaDoor.H6
end

section
/- The kit's contracts of strings.Repeat and strings.Join at this program, laid by the kit's own tool. -/
namespace Go.Proofs
open Go.Shelf
def Tryd.lays156_ren : Go.Shelf.Ren := ⟨fun | 156 => 45 | 165 => 51 | 166 => 52 | 169 => 54 | 240 => 66 | 241 => 67 | 276 => 73 | 277 => 74 | n => n, fun | 31 => 32 | 9 => 9 | 3 => 3 | 4 => 4 | 0 => 0 | 20 => 20 | 72 => 78 | 76 => 80 | 70 => 76 | 37 => 45 | 75 => 29 | 127 => 100 | 164 => 118 | 5 => 5 | 80 => 46 | n => n, fun | n => n⟩
theorem Tryd.lays156 : Go.Proofs.Lays.n156 Tryd.prog Tryd.lays156_ren := {
  mixed := by kernel_rfl
  f156 := Tryd.func45.trans (congrArg some (by kernel_rfl))
  f165 := Tryd.func51.trans (congrArg some (by kernel_rfl))
  f166 := Tryd.func52.trans (congrArg some (by kernel_rfl))
  f169 := Tryd.func54.trans (congrArg some (by kernel_rfl))
  f240 := Tryd.func66.trans (congrArg some (by kernel_rfl))
  f241 := Tryd.func67.trans (congrArg some (by kernel_rfl))
  f276 := Tryd.func73.trans (congrArg some (by kernel_rfl))
  f277 := Tryd.func74.trans (congrArg some (by kernel_rfl))
  t0 := Tryd.underlying0
  a0 := Tryd.isAgg0
  z0 := Tryd.sizeOf0
  v0 := Tryd.zeroValue0
  t3 := Tryd.underlying3
  a3 := Tryd.isAgg3
  z3 := Tryd.sizeOf3
  v3 := Tryd.zeroValue3
  t4 := Tryd.underlying4
  a4 := Tryd.isAgg4
  z4 := Tryd.sizeOf4
  v4 := Tryd.zeroValue4
  t9 := Tryd.underlying9
  a9 := Tryd.isAgg9
  z9 := Tryd.sizeOf9
  v9 := Tryd.zeroValue9
  t20 := Tryd.underlying20
  a20 := Tryd.isAgg20
  z20 := Tryd.sizeOf20
  v20 := Tryd.zeroValue20
  t31 := Tryd.underlying32
  a31 := Tryd.isAgg32
  z31 := Tryd.sizeOf32
  v31 := Tryd.zeroValue32
  t37 := Tryd.underlying45
  a37 := Tryd.isAgg45
  z37 := Tryd.sizeOf45
  v37 := Tryd.zeroValue45
  t70 := Tryd.underlying76
  a70 := Tryd.isAgg76
  z70 := Tryd.sizeOf76
  v70 := Tryd.zeroValue76
  t72 := Tryd.underlying78
  a72 := Tryd.isAgg78
  z72 := Tryd.sizeOf78
  v72 := Tryd.zeroValue78
  t75 := Tryd.underlying29
  a75 := Tryd.isAgg29
  z75 := Tryd.sizeOf29
  v75 := Tryd.zeroValue29
  t76 := Tryd.underlying80
  a76 := Tryd.isAgg80
  z76 := Tryd.sizeOf80
  v76 := Tryd.zeroValue80
  t127 := Tryd.underlying100
  a127 := Tryd.isAgg100
  z127 := Tryd.sizeOf100
  v127 := Tryd.zeroValue100
  t164 := Tryd.underlying118
  a164 := Tryd.isAgg118
  z164 := Tryd.sizeOf118
  v164 := Tryd.zeroValue118 }
theorem Tryd.Builder_Extra_156 : Builder.Extra Tryd.prog Tryd.lays156_ren := {
  sizeBuilder := by kernel_rfl
  liesBuilder := by kernel_rfl
  t5 := Tryd.underlying5
  a5 := Tryd.isAgg5
  z5 := Tryd.sizeOf5
  v5 := Tryd.zeroValue5
  infoByte := by kernel_rfl
  cellsByte := by kernel_rfl
  sizeByte := by kernel_rfl
  neB5 := by decide }
open Go.RowKit in
/-- No element: the empty string; the world is as it was. (Whatever the slice's address and capacity: a nil slice too.) (LAID: no walk: one application.) -/
theorem Tryd.strings_Join_none (a : Option Addr) (c : Nat) (sep : ByteArray) (w : World) :
    Calls Tryd.prog 45 #[.slice a 0 c, .string sep] w fun e w' => e = .returned (.string ⟨#[]⟩) ∧ w' = w := Any.strings_Join_none Tryd.lays156 Tryd.Builder_Extra_156 a c sep w
open Go.RowKit in
/-- strings.Join: "Join concatenates the elements of its first argument to create a single string. The separator string sep is placed between elements in the resulting string.": HOWEVER MANY ELEMENTS. Below the heap's end the world is as it was. (LAID: no walk: one application.) -/
theorem Tryd.strings_Join (bk o c : Nat) (xs : List ByteArray) (sep : ByteArray) (w : World) (hcells : ∀ (j : Nat) x, xs[j]? = some x → w.cell? ⟨bk, o + j, none⟩ = some (.string x)) (hbk : bk < w.heap.size) (hN : xs.length ≤ 140737488355328) (hcap : xs.length ≤ c) (hlen : (Lib.join (xs.map (·.data.toList)) sep.data.toList).length ≤ 140737488355328) :
    Calls Tryd.prog 45 #[.slice (some ⟨bk, o, none⟩) xs.length c, .string sep] w fun e w' => e = .returned (.string ⟨(Lib.join (xs.map (·.data.toList)) sep.data.toList).toArray⟩) ∧ Below w.heap.size w w' := Any.strings_Join Tryd.lays156 Tryd.Builder_Extra_156 bk o c xs sep w hcells hbk hN hcap hlen
def Tryd.lays105_ren : Go.Shelf.Ren := ⟨fun | 105 => 33 | 212 => 49 | 99 => 50 | 165 => 51 | 166 => 52 | 170 => 53 | 169 => 54 | 263 => 63 | 264 => 64 | 206 => 65 | 240 => 66 | 241 => 67 | 276 => 73 | 277 => 74 | n => n, fun | 9 => 9 | 3 => 3 | 4 => 4 | 20 => 20 | 0 => 0 | 46 => 34 | 109 => 73 | 5 => 5 | 72 => 78 | 76 => 80 | 51 => 88 | 146 => 96 | 53 => 87 | 148 => 98 | 70 => 76 | 37 => 45 | 75 => 29 | 127 => 100 | 164 => 118 | 80 => 46 | n => n, fun | n => n⟩
theorem Tryd.lays105 : Go.Proofs.Lays.n105 Tryd.prog Tryd.lays105_ren := {
  mixed := by kernel_rfl
  f99 := Tryd.func50.trans (congrArg some (by kernel_rfl))
  f105 := Tryd.func33.trans (congrArg some (by kernel_rfl))
  f165 := Tryd.func51.trans (congrArg some (by kernel_rfl))
  f166 := Tryd.func52.trans (congrArg some (by kernel_rfl))
  f169 := Tryd.func54.trans (congrArg some (by kernel_rfl))
  f170 := Tryd.func53.trans (congrArg some (by kernel_rfl))
  f206 := Tryd.func65.trans (congrArg some (by kernel_rfl))
  f212 := Tryd.func49.trans (congrArg some (by kernel_rfl))
  f240 := Tryd.func66.trans (congrArg some (by kernel_rfl))
  f241 := Tryd.func67.trans (congrArg some (by kernel_rfl))
  f263 := Tryd.func63.trans (congrArg some (by kernel_rfl))
  f264 := Tryd.func64.trans (congrArg some (by kernel_rfl))
  f276 := Tryd.func73.trans (congrArg some (by kernel_rfl))
  f277 := Tryd.func74.trans (congrArg some (by kernel_rfl))
  t0 := Tryd.underlying0
  a0 := Tryd.isAgg0
  z0 := Tryd.sizeOf0
  v0 := Tryd.zeroValue0
  t3 := Tryd.underlying3
  a3 := Tryd.isAgg3
  z3 := Tryd.sizeOf3
  v3 := Tryd.zeroValue3
  t4 := Tryd.underlying4
  a4 := Tryd.isAgg4
  z4 := Tryd.sizeOf4
  v4 := Tryd.zeroValue4
  t5 := Tryd.underlying5
  a5 := Tryd.isAgg5
  z5 := Tryd.sizeOf5
  v5 := Tryd.zeroValue5
  t9 := Tryd.underlying9
  a9 := Tryd.isAgg9
  z9 := Tryd.sizeOf9
  v9 := Tryd.zeroValue9
  t20 := Tryd.underlying20
  a20 := Tryd.isAgg20
  z20 := Tryd.sizeOf20
  v20 := Tryd.zeroValue20
  t37 := Tryd.underlying45
  a37 := Tryd.isAgg45
  z37 := Tryd.sizeOf45
  v37 := Tryd.zeroValue45
  t46 := Tryd.underlying34
  a46 := Tryd.isAgg34
  z46 := Tryd.sizeOf34
  v46 := Tryd.zeroValue34
  t51 := Tryd.underlying88
  a51 := Tryd.isAgg88
  z51 := Tryd.sizeOf88
  v51 := Tryd.zeroValue88
  t53 := Tryd.underlying87
  a53 := Tryd.isAgg87
  z53 := Tryd.sizeOf87
  v53 := Tryd.zeroValue87
  t70 := Tryd.underlying76
  a70 := Tryd.isAgg76
  z70 := Tryd.sizeOf76
  v70 := Tryd.zeroValue76
  t72 := Tryd.underlying78
  a72 := Tryd.isAgg78
  z72 := Tryd.sizeOf78
  v72 := Tryd.zeroValue78
  t75 := Tryd.underlying29
  a75 := Tryd.isAgg29
  z75 := Tryd.sizeOf29
  v75 := Tryd.zeroValue29
  t76 := Tryd.underlying80
  a76 := Tryd.isAgg80
  z76 := Tryd.sizeOf80
  v76 := Tryd.zeroValue80
  t109 := Tryd.underlying73
  a109 := Tryd.isAgg73
  z109 := Tryd.sizeOf73
  v109 := Tryd.zeroValue73
  t127 := Tryd.underlying100
  a127 := Tryd.isAgg100
  z127 := Tryd.sizeOf100
  v127 := Tryd.zeroValue100
  t146 := Tryd.underlying96
  a146 := Tryd.isAgg96
  z146 := Tryd.sizeOf96
  v146 := Tryd.zeroValue96
  t148 := Tryd.underlying98
  a148 := Tryd.isAgg98
  z148 := Tryd.sizeOf98
  v148 := Tryd.zeroValue98
  t164 := Tryd.underlying118
  a164 := Tryd.isAgg118
  z164 := Tryd.sizeOf118
  v164 := Tryd.zeroValue118 }
theorem Tryd.Builder_Extra_105 : Builder.Extra Tryd.prog Tryd.lays105_ren := {
  sizeBuilder := by kernel_rfl
  liesBuilder := by kernel_rfl
  t5 := Tryd.underlying5
  a5 := Tryd.isAgg5
  z5 := Tryd.sizeOf5
  v5 := Tryd.zeroValue5
  infoByte := by kernel_rfl
  cellsByte := by kernel_rfl
  sizeByte := by kernel_rfl
  neB5 := by decide }
open Go.RowKit Go.Lib in
/-- THE MAIN CASE: at least two copies of a string that is not empty. (LAID: no walk: one application.) -/
theorem Tryd.strings_Repeat_main (s : ByteArray) (c : Nat) (w : World) (hc2 : 2 ≤ c) (hc : c ≤ 9223372036854775807) (hlen : s.size * c ≤ 140737488355328) (h0 : 0 < s.size) :
    Calls Tryd.prog 33 #[.string s, .int .i64 c] w fun e w' => e = .returned (.string ⟨(Lib.repeatL s.data.toList c).toArray⟩) ∧ Below w.heap.size w w' := Any.strings_Repeat_main Tryd.lays105 Tryd.Builder_Extra_105 s c w hc2 hc hlen h0
open Go.RowKit Go.Lib in
theorem Tryd.strings_Repeat_zero (s : ByteArray) (w : World) :
    Calls Tryd.prog 33 #[.string s, .int .i64 0] w fun e w' => e = .returned (.string ⟨#[]⟩) ∧ w' = w := Any.strings_Repeat_zero Tryd.lays105 s w
open Go.RowKit Go.Lib in
theorem Tryd.strings_Repeat_one (s : ByteArray) (w : World) :
    Calls Tryd.prog 33 #[.string s, .int .i64 1] w fun e w' => e = .returned (.string s) ∧ w' = w := Any.strings_Repeat_one Tryd.lays105 s w
open Go.RowKit Go.Lib in
/-- Copies of the empty string. (LAID: no walk: one application.) -/
theorem Tryd.strings_Repeat_empty (s : ByteArray) (c : Nat) (w : World) (hc2 : 2 ≤ c) (hc : c ≤ 9223372036854775807) (h0 : s.size = 0) :
    Calls Tryd.prog 33 #[.string s, .int .i64 c] w fun e w' => e = .returned (.string ⟨#[]⟩) ∧ w' = w := Any.strings_Repeat_empty Tryd.lays105 s c w hc2 hc h0
open Go.RowKit Go.Lib in
/-- count < 0: "It panics if count is negative". (LAID: no walk: one application.) -/
theorem Tryd.strings_Repeat_negative (s : ByteArray) (c : Int) (w : World) (hc : c < 0) :
    Calls Tryd.prog 33 #[.string s, .int .i64 c] w fun e w' => e = .panicked [{ v := repeatPanic Tryd.lays105_ren "strings: negative Repeat count", recovered := false }] ∧ w' = w := Any.strings_Repeat_negative Tryd.lays105 s c w hc
open Go.RowKit Go.Lib in
/-- len(s) * count is no int: ".. or if the result of (len(s) * count) overflows". (LAID: no walk: one application.) -/
theorem Tryd.strings_Repeat_overflow (s : ByteArray) (c : Nat) (w : World) (hc : c ≤ 9223372036854775807) (hs : s.size ≤ 9223372036854775807) (hbig : 9223372036854775807 < s.size * c) :
    Calls Tryd.prog 33 #[.string s, .int .i64 c] w fun e w' => e = .panicked [{ v := repeatPanic Tryd.lays105_ren "strings: Repeat output length overflow", recovered := false }] ∧ w' = w := Any.strings_Repeat_overflow Tryd.lays105 s c w hc hs hbig
open Go.RowKit Go.Lib in
/-- **strings.Repeat: count ≥ 0, the result within one allocation: count copies of s.** (LAID: no walk: one application.) -/
theorem Tryd.strings_Repeat (s : ByteArray) (c : Nat) (w : World) (hc : c ≤ 9223372036854775807) (hlen : s.size * c ≤ 140737488355328) :
    Calls Tryd.prog 33 #[.string s, .int .i64 c] w fun e w' => e = .returned (.string ⟨(Lib.repeatL s.data.toList c).toArray⟩) ∧ Below w.heap.size w w' := Any.strings_Repeat Tryd.lays105 Tryd.Builder_Extra_105 s c w hc hlen

end Go.Proofs
end

section
open Go AH Go.RowKit
set_option linter.unusedSimpArgs false
set_option maxRecDepth 100000
namespace Go.Proofs.YthapdikdeoeplaaDoor.H6
/- strings.Repeat and strings.Join in the words of AH. -/

theorem callRes_of {S : AH.Sys} {g : FuncId} {fn : Func} {us : Array Value} {w : World} {R : Value → World → Prop} (hf : S.P.funcs[g]? = some fn) (hb : fn.body.isSome = true) (hn : (fn.name == "runtime.NumGoroutine") = false)
    (h : Calls S.P g us w fun e w' => ∃ v, e = .returned v ∧ R v w') : CallRes S.P g us w R := by
  unfold CallRes
  have : (callFunc g us).run S.P w = .ok (.enter g us) w := by
    have hb' : fn.body ≠ none := by intro q; rw [q] at hb; cases hb
    have hn' : ¬ fn.name = "runtime.NumGoroutine" := by simpa using hn
    simp [callFunc, hf, hn', hb']
  rw [this]
  exact h
theorem keeps_below {own : Nat → Prop} {w0 w w' : World} (hk : Keeps own w0 w) (h : Below w.heap.size w w') : Keeps own w0 w' :=
  ⟨h.os.trans hk.os, h.output.trans hk.output, Nat.le_trans hk.size h.size, fun b hb ho => (h.block b (Nat.lt_of_lt_of_le hb hk.size)).trans (hk.kept b hb ho), hk.new⟩
theorem mr_below {S : AH.Sys} {eb : Nat → Addr} {φ : Emb} {M : Nat → Option Blk} {own : Nat → Prop} {w w' : World} (hM : MR S.errT eb φ M own w) (h : Below w.heap.size w w') : MR S.errT eb φ M own w' :=
  ⟨hM.dom, hM.kk, fun id b hi hs => by
    obtain ⟨o, ho, hb⟩ := hM.blk id b hi hs
    exact ⟨o, by rw [h.block _ (Array.getElem?_eq_some_iff.1 ho).1]; exact ho, hb⟩, hM.own, hM.inj⟩

def repS (s : ByteArray) (c : Nat) : ByteArray := ⟨(Lib.repeatL s.data.toList c).toArray⟩
def okRep (s : ByteArray) (c : Int) : Prop := 0 ≤ c ∧ s.size ≤ 1024 ∧ c ≤ 1048576
instance (s : ByteArray) (c : Int) : Decidable (okRep s c) := by unfold okRep; infer_instance
theorem rep_ok (s : ByteArray) (c : Nat) (h : okRep s c) : Pure S0 33 [.str s, .int .i64 c] (.str (repS s c)) := by
  intro eb φ own w0 w us hA hus hM hk hb
  obtain ⟨u, h1⟩ : ∃ u, us.toList = u := ⟨_, rfl⟩
  rw [h1] at hus
  cases hus with
  | cons _ u1 _ us1 v1 hus =>
    cases hus with
    | cons _ u2 _ us2 v2 hus =>
      cases hus
      cases v1
      cases v2
      obtain rfl : us = #[.string s, .int .i64 c] := by cases us; simp_all
      refine callRes_of Tryd.func33 rfl (by decide) ?_
      have hl : s.size * c ≤ 140737488355328 := by
        have := h.2.1
        have h3 := h.2.2
        have : s.size * c ≤ 1024 * 1048576 := Nat.mul_le_mul this (by omega)
        omega
      refine (Tryd.strings_Repeat s c w (by have := h.2.2; omega) hl).mono ?_
      rintro e w' ⟨rfl, hw⟩
      exact ⟨_, rfl, φ, _, [], rfl, .refl φ, .str _, mr_below hM hw, keeps_below hk hw, hb⟩
def repT : RT := fun args _ => match args with
  | [.str s, .int .i64 c] => if okRep s c then some (.str (repS s c.toNat), []) else none
  | _ => none
theorem repT_ok : ReadF S0 33 repT := ReadF.pure fun args M v foot h => by
  unfold repT at h
  split at h
  · rename_i s c
    split at h
    · rename_i hc
      simp only [Option.some.injEq, Prod.mk.injEq] at h
      obtain ⟨rfl, rfl⟩ := h
      obtain ⟨n, rfl⟩ := Int.eq_ofNat_of_zero_le hc.1
      exact ⟨rfl, fun M' => by simp only [repT, hc, if_true], rfl, rfl, rep_ok s n hc⟩
    · cases h
  · cases h
theorem repT_eq {s : ByteArray} {c : Nat} {M : Nat → Option Blk} (h : okRep s c) : repT [.str s, .int .i64 c] M = some (.str (repS s c), []) := by
  simp only [repT, h, if_true, Int.toNat_natCast]

def catS (L : List ByteArray) : ByteArray := ⟨(L.map (·.data.toList)).flatten.toArray⟩
theorem join_flat : ∀ l : List (List UInt8), Lib.join l [] = l.flatten
  | [] => rfl
  | x :: r => by
    rw [Lib.join_cons, List.flatten_cons, Lib.joinTail]
    congr 2
    exact (List.map_congr_left fun a _ => List.nil_append a).trans (List.map_id r)
def okJ (L : List ByteArray) : Prop := (∀ s ∈ L, s.size ≤ 1048576) ∧ L.length ≤ 1048576
instance (L : List ByteArray) : Decidable (okJ L) := by unfold okJ; infer_instance
theorem flat_len {m : Nat} : ∀ (l : List (List UInt8)), (∀ x ∈ l, x.length ≤ m) → l.flatten.length ≤ l.length * m
  | [], _ => by simp
  | x :: r, h => by
    have h1 := h x (List.mem_cons_self ..)
    have h2 := flat_len r fun y hy => h y (List.mem_cons_of_mem _ hy)
    rw [List.flatten_cons, List.length_append, List.length_cons, Nat.succ_mul]
    omega
theorem join_ok (L : List ByteArray) (h : okJ L) : CallA1 S0 45 [.slc 0 0 L.length none, .str ⟨#[]⟩] [some (.row true 1 (L.map strC))] fun r _ => r = .str (catS L) := by
  intro eb φ own w0 w us hA hus hM hk hb
  obtain ⟨u, h1⟩ : ∃ u, us.toList = u := ⟨_, rfl⟩
  rw [h1] at hus
  have key : ∀ (us : Array Value), (Calls S0.P 45 us w fun e w' => e = .returned (.string (catS L)) ∧ Below w.heap.size w w') → CallRes S0.P 45 us w fun r w' => ∃ φ' v m', v = .str (catS L) ∧ φ.Ext φ' ∧ VR S0.errT eb φ' v r ∧ MR S0.errT eb φ' (mget m') own w' ∧ Keeps own w0 w' ∧ ∀ id, φ'.dom id → id < m'.length := fun us h => by
    refine callRes_of Tryd.func45 rfl (by decide) (h.mono ?_)
    rintro e w' ⟨rfl, hw⟩
    exact ⟨_, rfl, φ, _, _, rfl, .refl φ, .str _, mr_below hM hw, keeps_below hk hw, hb⟩
  cases hus with
  | cons _ u1 _ us1 v1 hus =>
    cases hus with
    | cons _ u2 _ us2 v2 hus =>
      cases hus
      cases v2
      generalize hq : AV.slc 0 0 L.length none = q at v1
      cases v1 <;> simp only [AV.slc.injEq, reduceCtorEq] at hq
      · rename_i i j n cap c hd hc he hs
        obtain ⟨rfl, rfl, rfl, rfl⟩ := hq
        obtain rfl : us = #[.slice (some ⟨φ.blk 0, φ.base 0 + 0 * φ.k 0, none⟩) L.length c, .string ⟨#[]⟩] := by cases us; simp_all
        refine key _ ?_
        have hl : (Lib.join (L.map (·.data.toList)) (⟨#[]⟩ : ByteArray).data.toList).length ≤ 140737488355328 := by
          rw [show (⟨#[]⟩ : ByteArray).data.toList = [] from rfl, join_flat]
          have := flat_len (m := 1048576) (L.map (·.data.toList)) fun x hx => by
            obtain ⟨s, hs, rfl⟩ := List.mem_map.1 hx
            have := h.1 s hs
            rw [Array.length_toList]; exact this
          rw [List.length_map] at this
          have h2 := h.2
          have : L.length * 1048576 ≤ 1048576 * 1048576 := Nat.mul_le_mul_right _ h2
          omega
        by_cases hL : L = []
        · subst hL
          refine (Tryd.strings_Join_none _ c ⟨#[]⟩ w).mono ?_
          rintro e w' ⟨rfl, rfl⟩
          exact ⟨rfl, Below.refl _ _⟩
        · have hbk : φ.blk 0 < w.heap.size := by
            obtain ⟨o, ho, _⟩ := hM.blk 0 _ rfl (.inl (by simpa using hL))
            exact (Array.getElem?_eq_some_iff.1 ho).1
          have hcells : ∀ (j : Nat) x, L[j]? = some x → w.cell? ⟨φ.blk 0, φ.base 0 + 0 * φ.k 0 + j, none⟩ = some (.string x) := fun j x hj => by
            obtain ⟨g1, vs, g2, g3, _, g5⟩ := hM.elem (id := 0) rfl (ix := j) (el := strC x) (by rw [List.getElem?_map, hj]; rfl)
            cases g3 with
            | cons _ v _ vs v3 g3 =>
              cases v3
              have := g5 0 _ rfl
              rw [g1] at this ⊢
              simpa using this
          refine (Tryd.strings_Join (φ.blk 0) (φ.base 0 + 0 * φ.k 0) c L ⟨#[]⟩ w hcells hbk (by have := h.2; omega) hc hl).mono ?_
          rintro e w' ⟨rfl, hw⟩
          refine ⟨?_, hw⟩
          rw [show (⟨#[]⟩ : ByteArray).data.toList = [] from rfl, join_flat]; rfl
      · rename_i i j cap ad hd he
        obtain ⟨rfl, rfl, hz, rfl⟩ := hq
        have hL : L = [] := List.eq_nil_of_length_eq_zero hz
        subst hL
        obtain rfl : us = #[.slice ad 0 0, .string ⟨#[]⟩] := by cases us; simp_all
        refine key _ ((Tryd.strings_Join_none ad 0 ⟨#[]⟩ w).mono ?_)
        rintro e w' ⟨rfl, rfl⟩
        exact ⟨rfl, Below.refl _ _⟩
def joinV : VF := fun args rows => match args, rows with
  | [.slc 0 0 n none, .str s], [(1, es)] => match cStr.decL es with
    | some L => if n = L.length ∧ okJ L ∧ s.size = 0 then some (.str (catS L)) else none
    | none => none
  | _, _ => none
def joinT : RT := rtV [1] joinV
theorem joinT_ok : ReadF S0 45 joinT := rtV_ok errs0 fun args rows v h => by
  unfold joinV at h
  split at h
  · rename_i n s es
    split at h
    · rename_i L hL
      split at h
      · rename_i hc
        simp only [Option.some.injEq] at h
        subst h
        obtain ⟨rfl, h2, h3⟩ := hc
        have := cStr.decL_ok hL
        subst this
        have hs : s = ⟨#[]⟩ := by
          cases s with | mk d => simp only [ByteArray.size] at h3; rw [Array.eq_empty_of_size_eq_zero h3]
        subst hs
        exact ⟨rfl, join_ok L h2⟩
      · cases h
    · cases h
  · cases h
theorem joinT_eq {L : List ByteArray} {id : Nat} {cap : Option Nat} {M : Nat → Option Blk} (hM : rowE M id = some (1, L.map strC)) (h : okJ L) : joinT [.slc id 0 L.length cap, .str ⟨#[]⟩] M = some (.str (catS L), [id]) := by
  obtain ⟨ro, hM⟩ := rowE_some hM
  have hb1 : decide (0 + L.length ≤ (L.map strC).length) = true := by simp
  have ht : ((L.map strC).drop 0).take L.length = L.map strC := by rw [List.drop_zero]; exact take_map_len _ _
  have hfl : (L.map strC).all (AV.lts 0) = true := cStr.all_flat L
  simp only [joinT, rtV, vw, hM, hb1, ht, hfl, beq_self_eq_true, Bool.and_self, cond_true, AV.lt, Option.map_some, useV, joinV, show cStr.decL (L.map strC) = some L from cStr.decL_map L, h, show (⟨#[]⟩ : ByteArray).size = 0 from rfl, and_self, if_true]
end Go.Proofs.YthapdikdeoeplaaDoor.H6
end

section
open Go AH
set_option linter.unusedSimpArgs false
set_option maxRecDepth 100000
namespace Go.Proofs.YthapdikdeoeplaaDoor.H6

/-- The first k blocks of an image. -/
def blks (s : ByteArray) (k : Nat) : List ByteArray := (List.range k).map fun i => s.extract (64 * i) (64 * i + 64)
def nb (s : ByteArray) : Nat := min (s.size / 64) 4096
def ofD (s : ByteArray) : Dk := ⟨blks s (nb s), false, -1, 0, 0⟩
theorem blks_len (s : ByteArray) (k : Nat) : (blks s k).length = k := by simp [blks]
theorem blks_succ (s : ByteArray) (k : Nat) : blks s (k + 1) = blks s k ++ [s.extract (64 * k) (64 * k + 64)] := by simp [blks, List.range_succ]
theorem ofD_ok (s : ByteArray) : (ofD s).ok := by
  refine ⟨fun b hb => ?_, Int.le_refl 0, by show (0 : Int) ≤ 64; decide, ?_⟩
  · obtain ⟨i, hi, rfl⟩ := List.mem_map.1 hb
    have := List.mem_range.1 hi
    rw [ByteArray.size_extract]
    unfold nb at this
    omega
  · show (blks s (nb s)).length ≤ 4096
    rw [blks_len]; unfold nb; omega

def ofSt (s : ByteArray) (i : Nat) : St := ⟨[(3, .ptr 0 0 0), (0, .str (s.extract (64 * i) s.size))], dkM ⟨blks s i, false, -1, 0, 0⟩⟩
set_option maxRecDepth 100000 in
theorem of_ok (s : ByteArray) : CallA1 S0 32 [.str s] [] fun r m => r = .ptr 0 0 0 ∧ m = dkM (ofD s) := by
  refine CallA1.fin ?_
  refine fun_sound okZ0 Tryd.func32 c32 ?_
  unfold wpF F32
  have e0 : s.extract (64 * 0) s.size = s := ByteArray.extract_zero_size
  simp only [AH.SD, AH.wpOp, AOp.call?, AOp.next?, bstep, AOp.map, Opd.ev, tget, argTm, evs, AV.cells, St.eff, St.put, applyWr, mset, terase, pureE, unAV, intOp, binAV, fill, mget, AH.rowAt, AH.part, retQ, rvs, retV, AH.splice, AH.sliceElems, AH.bytesOf, AH.strOp, AH.bound, AH.addLog, AH.missQ, AH.minmaxAV, AH.wpOpD, AH.readOf, AH.effOf, AH.mapAt, AH.iterAt, Nat.reduceBEq, Nat.reduceAdd, Nat.reduceLT, ↓reduceIte, Nat.reduceEqDiff, Nat.reduceLeDiff, Nat.reduceSub, Nat.reduceMul, Int.reduceSub, Int.reduceToNat, Int.reduceBEq, Int.reduceBNe, Int.reduceLT, Int.reduceGT, Int.reduceLE, Int.reduceGE, Int.reduceNeg, Int.reduceAdd]
  refine loop_do [0] [3, 0] [.cell 0 0 0 1] (α := Nat) (fun i => 4096 - i) (ofSt s) (fun i => i ≤ nb s) 0 (Nat.zero_le _) (by simp only [AH.SD, AH.wpOp, AOp.call?, AOp.next?, bstep, AOp.map, Opd.ev, tget, argTm, evs, AV.cells, St.eff, St.put, applyWr, mset, terase, pureE, unAV, intOp, binAV, fill, mget, AH.rowAt, AH.part, retQ, rvs, retV, AH.splice, AH.sliceElems, AH.bytesOf, AH.strOp, AH.bound, AH.addLog, AH.missQ, AH.minmaxAV, AH.wpOpD, AH.readOf, AH.effOf, AH.mapAt, AH.iterAt, Nat.reduceBEq, Nat.reduceAdd, Nat.reduceLT, ↓reduceIte, Nat.reduceEqDiff, Nat.reduceLeDiff, Nat.reduceSub, Nat.reduceMul, Int.reduceSub, Int.reduceToNat, Int.reduceBEq, Int.reduceBNe, Int.reduceLT, Int.reduceGT, Int.reduceLE, Int.reduceGE, Int.reduceNeg, Int.reduceAdd, AH.PD, heads, distN, AH.inN, posN, packM, packB, packTm, liveB, AV.inB, AV.insB, AV.ren, AV.rens, Blk.ren, Blk.inB, vstep, tput, ofSt, dkM, e0, blks, List.range_zero]) ?_
  intro X i hi ih
  have hn : nb s ≤ s.size / 64 ∧ nb s ≤ 4096 := by unfold nb; omega
  have hsz : (s.extract (64 * i) s.size).size = s.size - 64 * i := by rw [ByteArray.size_extract, Nat.min_self]
  simp only [AH.SD, AH.wpOp, AOp.call?, AOp.next?, bstep, AOp.map, Opd.ev, tget, argTm, evs, AV.cells, St.eff, St.put, applyWr, mset, terase, pureE, unAV, intOp, binAV, fill, mget, AH.rowAt, AH.part, retQ, rvs, retV, AH.splice, AH.sliceElems, AH.bytesOf, AH.strOp, AH.bound, AH.addLog, AH.missQ, AH.minmaxAV, AH.wpOpD, AH.readOf, AH.effOf, AH.mapAt, AH.iterAt, Nat.reduceBEq, Nat.reduceAdd, Nat.reduceLT, ↓reduceIte, Nat.reduceEqDiff, Nat.reduceLeDiff, Nat.reduceSub, Nat.reduceMul, Int.reduceSub, Int.reduceToNat, Int.reduceBEq, Int.reduceBNe, Int.reduceLT, Int.reduceGT, Int.reduceLE, Int.reduceGE, Int.reduceNeg, Int.reduceAdd, ofSt, dkM, hsz, blks_len]
  by_cases h64 : 64 ≤ s.size - 64 * i
  · have h1 : decide (((s.size - 64 * i : Nat) : Int) ≥ 64) = true := by simp; omega
    simp only [AH.SD, AH.wpOp, AOp.call?, AOp.next?, bstep, AOp.map, Opd.ev, tget, argTm, evs, AV.cells, St.eff, St.put, applyWr, mset, terase, pureE, unAV, intOp, binAV, fill, mget, AH.rowAt, AH.part, retQ, rvs, retV, AH.splice, AH.sliceElems, AH.bytesOf, AH.strOp, AH.bound, AH.addLog, AH.missQ, AH.minmaxAV, AH.wpOpD, AH.readOf, AH.effOf, AH.mapAt, AH.iterAt, Nat.reduceBEq, Nat.reduceAdd, Nat.reduceLT, ↓reduceIte, Nat.reduceEqDiff, Nat.reduceLeDiff, Nat.reduceSub, Nat.reduceMul, Int.reduceSub, Int.reduceToNat, Int.reduceBEq, Int.reduceBNe, Int.reduceLT, Int.reduceGT, Int.reduceLE, Int.reduceGE, Int.reduceNeg, Int.reduceAdd, h1]
    refine ⟨fun hlt => ?_, fun hlt => ?_⟩
    · have hi2 : i < nb s := by
        have : i < 4096 := by simp only [decide_eq_true_eq] at hlt; omega
        unfold nb; omega
      have done := ih (i + 1) hi2 (by omega)
      simp only [ofSt, dkM, blks_succ, blks_len, List.map_append, List.map_cons, List.map_nil, List.length_append, List.length_cons, List.length_nil, Nat.zero_add, strC_eq] at done
      have e1 : (s.extract (64 * i) s.size).extract 0 64 = s.extract (64 * i) (64 * i + 64) := by
        rw [ByteArray.extract_extract, Nat.add_zero, show min (64 * i + 64) s.size = 64 * i + 64 by omega]
      have e2 : (s.extract (64 * i) s.size).extract 64 (s.size - 64 * i) = s.extract (64 * (i + 1)) s.size := by
        rw [ByteArray.extract_extract, show min (64 * i + (s.size - 64 * i)) s.size = s.size by omega, Nat.mul_succ]
      have e3 : ((blks s i).map strC).take i = (blks s i).map strC := List.take_of_length_le (by rw [List.length_map, blks_len]; exact Nat.le_refl _)
      simp only [AH.SD, AH.wpOp, AOp.call?, AOp.next?, bstep, AOp.map, Opd.ev, tget, argTm, evs, AV.cells, St.eff, St.put, applyWr, mset, terase, pureE, unAV, intOp, binAV, fill, mget, AH.rowAt, AH.part, retQ, rvs, retV, AH.splice, AH.sliceElems, AH.bytesOf, AH.strOp, AH.bound, AH.addLog, AH.missQ, AH.minmaxAV, AH.wpOpD, AH.readOf, AH.effOf, AH.mapAt, AH.iterAt, Nat.reduceBEq, Nat.reduceAdd, Nat.reduceLT, ↓reduceIte, Nat.reduceEqDiff, Nat.reduceLeDiff, Nat.reduceSub, Nat.reduceMul, Int.reduceSub, Int.reduceToNat, Int.reduceBEq, Int.reduceBNe, Int.reduceLT, Int.reduceGT, Int.reduceLE, Int.reduceGE, Int.reduceNeg, Int.reduceAdd, hsz, e1, e3, List.length_map, blks_len]
      repeat (refine ⟨by first | rfl | decide | omega | (simp only [List.length_map, and_true]; omega) | (simp only [List.length_map, List.length_set, and_true]; omega), ?_⟩)
      simp only [AH.SD, AH.wpOp, AOp.call?, AOp.next?, bstep, AOp.map, Opd.ev, tget, argTm, evs, AV.cells, St.eff, St.put, applyWr, mset, terase, pureE, unAV, intOp, binAV, fill, mget, AH.rowAt, AH.part, retQ, rvs, retV, AH.splice, AH.sliceElems, AH.bytesOf, AH.strOp, AH.bound, AH.addLog, AH.missQ, AH.minmaxAV, AH.wpOpD, AH.readOf, AH.effOf, AH.mapAt, AH.iterAt, Nat.reduceBEq, Nat.reduceAdd, Nat.reduceLT, ↓reduceIte, Nat.reduceEqDiff, Nat.reduceLeDiff, Nat.reduceSub, Nat.reduceMul, Int.reduceSub, Int.reduceToNat, Int.reduceBEq, Int.reduceBNe, Int.reduceLT, Int.reduceGT, Int.reduceLE, Int.reduceGE, Int.reduceNeg, Int.reduceAdd, e2]
      refine gc_auto [0, 3] [3, 0] [] ?_
      simp only [AH.SD, AH.wpOp, AOp.call?, AOp.next?, bstep, AOp.map, Opd.ev, tget, argTm, evs, AV.cells, St.eff, St.put, applyWr, mset, terase, pureE, unAV, intOp, binAV, fill, mget, AH.rowAt, AH.part, retQ, rvs, retV, AH.splice, AH.sliceElems, AH.bytesOf, AH.strOp, AH.bound, AH.addLog, AH.missQ, AH.minmaxAV, AH.wpOpD, AH.readOf, AH.effOf, AH.mapAt, AH.iterAt, Nat.reduceBEq, Nat.reduceAdd, Nat.reduceLT, ↓reduceIte, Nat.reduceEqDiff, Nat.reduceLeDiff, Nat.reduceSub, Nat.reduceMul, Int.reduceSub, Int.reduceToNat, Int.reduceBEq, Int.reduceBNe, Int.reduceLT, Int.reduceGT, Int.reduceLE, Int.reduceGE, Int.reduceNeg, Int.reduceAdd, AH.PD, heads, distN, AH.inN, posN, packM, packB, packTm, liveB, AV.inB, AV.insB, AV.ren, AV.rens, Blk.ren, Blk.inB, vstep, tput, blks_len]
      exact done
    · have : i = nb s := by
        have : ¬ i < 4096 := by simp only [decide_eq_false_iff_not] at hlt; omega
        unfold nb at hi ⊢; omega
      subst this
      simp only [AH.SD, AH.wpOp, AOp.call?, AOp.next?, bstep, AOp.map, Opd.ev, tget, argTm, evs, AV.cells, St.eff, St.put, applyWr, mset, terase, pureE, unAV, intOp, binAV, fill, mget, AH.rowAt, AH.part, retQ, rvs, retV, AH.splice, AH.sliceElems, AH.bytesOf, AH.strOp, AH.bound, AH.addLog, AH.missQ, AH.minmaxAV, AH.wpOpD, AH.readOf, AH.effOf, AH.mapAt, AH.iterAt, Nat.reduceBEq, Nat.reduceAdd, Nat.reduceLT, ↓reduceIte, Nat.reduceEqDiff, Nat.reduceLeDiff, Nat.reduceSub, Nat.reduceMul, Int.reduceSub, Int.reduceToNat, Int.reduceBEq, Int.reduceBNe, Int.reduceLT, Int.reduceGT, Int.reduceLE, Int.reduceGE, Int.reduceNeg, Int.reduceAdd]
      refine ⟨[0, 1], [], ?_⟩
      simp only [AH.SD, AH.wpOp, AOp.call?, AOp.next?, bstep, AOp.map, Opd.ev, tget, argTm, evs, AV.cells, St.eff, St.put, applyWr, mset, terase, pureE, unAV, intOp, binAV, fill, mget, AH.rowAt, AH.part, retQ, rvs, retV, AH.splice, AH.sliceElems, AH.bytesOf, AH.strOp, AH.bound, AH.addLog, AH.missQ, AH.minmaxAV, AH.wpOpD, AH.readOf, AH.effOf, AH.mapAt, AH.iterAt, Nat.reduceBEq, Nat.reduceAdd, Nat.reduceLT, ↓reduceIte, Nat.reduceEqDiff, Nat.reduceLeDiff, Nat.reduceSub, Nat.reduceMul, Int.reduceSub, Int.reduceToNat, Int.reduceBEq, Int.reduceBNe, Int.reduceLT, Int.reduceGT, Int.reduceLE, Int.reduceGE, Int.reduceNeg, Int.reduceAdd, AH.PD, heads, distN, AH.inN, posN, packM, packB, packTm, liveB, AV.inB, AV.insB, AV.ren, AV.rens, Blk.ren, Blk.inB, vstep, tput, ofD, blks_len]
      try trivial
  · have h1 : decide (((s.size - 64 * i : Nat) : Int) ≥ 64) = false := by simp; omega
    have : i = nb s := by unfold nb at hi ⊢; omega
    subst this
    simp only [AH.SD, AH.wpOp, AOp.call?, AOp.next?, bstep, AOp.map, Opd.ev, tget, argTm, evs, AV.cells, St.eff, St.put, applyWr, mset, terase, pureE, unAV, intOp, binAV, fill, mget, AH.rowAt, AH.part, retQ, rvs, retV, AH.splice, AH.sliceElems, AH.bytesOf, AH.strOp, AH.bound, AH.addLog, AH.missQ, AH.minmaxAV, AH.wpOpD, AH.readOf, AH.effOf, AH.mapAt, AH.iterAt, Nat.reduceBEq, Nat.reduceAdd, Nat.reduceLT, ↓reduceIte, Nat.reduceEqDiff, Nat.reduceLeDiff, Nat.reduceSub, Nat.reduceMul, Int.reduceSub, Int.reduceToNat, Int.reduceBEq, Int.reduceBNe, Int.reduceLT, Int.reduceGT, Int.reduceLE, Int.reduceGE, Int.reduceNeg, Int.reduceAdd, h1]
    refine ⟨[0, 1], [], ?_⟩
    simp only [AH.SD, AH.wpOp, AOp.call?, AOp.next?, bstep, AOp.map, Opd.ev, tget, argTm, evs, AV.cells, St.eff, St.put, applyWr, mset, terase, pureE, unAV, intOp, binAV, fill, mget, AH.rowAt, AH.part, retQ, rvs, retV, AH.splice, AH.sliceElems, AH.bytesOf, AH.strOp, AH.bound, AH.addLog, AH.missQ, AH.minmaxAV, AH.wpOpD, AH.readOf, AH.effOf, AH.mapAt, AH.iterAt, Nat.reduceBEq, Nat.reduceAdd, Nat.reduceLT, ↓reduceIte, Nat.reduceEqDiff, Nat.reduceLeDiff, Nat.reduceSub, Nat.reduceMul, Int.reduceSub, Int.reduceToNat, Int.reduceBEq, Int.reduceBNe, Int.reduceLT, Int.reduceGT, Int.reduceLE, Int.reduceGE, Int.reduceNeg, Int.reduceAdd, AH.PD, heads, distN, AH.inN, posN, packM, packB, packTm, liveB, AV.inB, AV.insB, AV.ren, AV.rens, Blk.ren, Blk.inB, vstep, tput, ofD, blks_len]
    try trivial
def ofT : ET := etN (cC aS c0) fun x => some (.ptr 0 0 0, dkM (ofD x.1))
theorem ofT_ok : EffF S0 32 ofT := etN_ok fun x v m' h => by
  simp only [Option.some.injEq, Prod.mk.injEq] at h
  obtain ⟨rfl, rfl⟩ := h
  exact ⟨rfl, of_ok x.1⟩
theorem ofT_eq {s : ByteArray} {M : Nat → Option Blk} {n : Nat} : ofT [.str s] M n = some (effS [] n (.ptr 0 0 0) (dkM (ofD s)), 2) := by
  simp only [ofT, etN_eq, cC_dec, aS_dec, c0_dec, pairO_some, Option.bind_some, useO_some]; rfl

/-- A block's count, out of any number. -/
def newN (n : Int) : Int := minI (maxI n 0) 4096
def zeros (n : Int) : ByteArray := repS ⟨#[0]⟩ (newN n * 64).toNat
def newD (n : Int) : Dk := ofD (zeros n)
theorem newN_in (n : Int) : 0 ≤ newN n ∧ newN n ≤ 4096 := by
  unfold newN minI maxI
  split <;> split <;> omega
theorem okNew : CtxOK S0 (ctxE S0 [(33, repT)] [] [(32, ofT)]) := ctxE_ok ⟨repT_ok, trivial⟩ trivial ⟨ofT_ok, trivial⟩ mixed
set_option maxRecDepth 100000 in
theorem new_ok (n : Int) : CallA1 S0 8 [.int .i64 n] [] fun r m => r = .ptr 0 0 0 ∧ m = dkM (newD n) := by
  refine fun_sound okNew Tryd.func8 c8 ?_
  unfold wpF F8
  obtain ⟨k, hk⟩ := Int.eq_ofNat_of_zero_le (newN_in n).1
  have hk2 := (newN_in n).2
  have e1 : (if 4096 < (if 0 > n then 0 else n) then 4096 else if 0 > n then 0 else n) = (k : Int) := hk
  have e2 : IntKind.i64.wrap ((k : Int) * 64) = ((k * 64 : Nat) : Int) := by rw [IntKind.wrap_i64]; omega
  have e3 : okRep ⟨#[0]⟩ ((k * 64 : Nat) : Int) := ⟨by omega, by decide, by omega⟩
  have e4 : zeros n = repS ⟨#[0]⟩ (k * 64) := by
    unfold zeros
    rw [hk]; congr 1
  simp only [AH.SD, AH.wpOp, AOp.call?, AOp.next?, bstep, AOp.map, Opd.ev, tget, argTm, evs, AV.cells, St.eff, St.put, applyWr, mset, terase, pureE, unAV, intOp, binAV, fill, mget, AH.rowAt, AH.part, retQ, rvs, retV, AH.splice, AH.sliceElems, AH.bytesOf, AH.strOp, AH.bound, AH.addLog, AH.missQ, AH.minmaxAV, AH.wpOpD, AH.readOf, AH.effOf, AH.mapAt, AH.iterAt, Nat.reduceBEq, Nat.reduceAdd, Nat.reduceLT, ↓reduceIte, Nat.reduceEqDiff, Nat.reduceLeDiff, Nat.reduceSub, Nat.reduceMul, Int.reduceSub, Int.reduceToNat, Int.reduceBEq, Int.reduceBNe, Int.reduceLT, Int.reduceGT, Int.reduceLE, Int.reduceGE, Int.reduceNeg, Int.reduceAdd, AH.PD, heads, distN, AH.inN, posN, packM, packB, packTm, liveB, AV.inB, AV.insB, AV.ren, AV.rens, Blk.ren, Blk.inB, vstep, tput, vw, shift, newOnes, rowsM, blkIn, rwB, @flat_lts, AV.lt, AV.lts, Nat.sub_self, AH.rtO_eq, AH.rtO2_eq, AH.rtO2_none, AH.etO_eq, AH.etO2_eq, AH.etO2_none, AH.useO_some, AH.rtElse_eq, AH.elseO_some, AH.elseO_none, AH.etN_eq, Option.bind_some, Option.bind_none, AH.pairO_some, AH.pairO_none, AH.cC_dec, AH.cC_nil, AH.c0_dec, AH.c0_dec1, AH.aI_dec, AH.aS_dec, AH.aB_dec, AH.aNil_dec, AH.aNil_ptr, Option.map_none, effS, wrS, newS, backNo, AH.isIn, AH.posOf, AH.rwB, List.all_cons, List.all_nil, List.getElem?_cons_zero, List.getElem?_cons_succ, List.getElem?_nil, AH.appE_some, List.contains_cons, List.contains_nil, Nat.add_zero, e1, e2, repT_eq e3, ofT_eq, newD, e4, dkM, Option.map_some]
  try trivial
theorem newT_ok : EffF S0 8 (etN (cC (aI .i64) c0) fun x => some (.ptr 0 0 0, dkM (newD x.1))) := etN_ok fun x v m' h => by
  simp only [Option.some.injEq, Prod.mk.injEq] at h
  obtain ⟨rfl, rfl⟩ := h
  exact ⟨rfl, new_ok x.1⟩
def newT : ET := etN (cC (aI .i64) c0) fun x => some (.ptr 0 0 0, dkM (newD x.1))
theorem newT_eq {k : Int} {M : Nat → Option Blk} {n : Nat} : newT [.int .i64 k] M n = some (effS [] n (.ptr 0 0 0) (dkM (newD k)), 2) := by
  simp only [newT, etN_eq, cC_dec, aI_dec, c0_dec, pairO_some, Option.bind_some, useO_some]; rfl

theorem okImg : CtxOK S0 (ctxU S0 [(45, joinT)] []) := ctxU_ok ⟨joinT_ok, trivial⟩ trivial mixed
theorem dk_okJ {d : Dk} (h : d.ok) : okJ d.L := ⟨fun s hs => by rw [h.1 s hs]; decide, by have := h.2.2.2; omega⟩
set_option maxRecDepth 100000 in
theorem image_ok (d : Dk) (hd : d.ok) : CallA1 S0 22 [.ptr 0 0 0] (dkM d) fun r m => r = .str (catS d.L) ∧ m = dkM d := by
  refine fun_sound okImg Tryd.func22 c22 ?_
  unfold wpF F22
  have hj := dk_okJ hd
  simp only [AH.SD, AH.wpOp, AOp.call?, AOp.next?, bstep, AOp.map, Opd.ev, tget, argTm, evs, AV.cells, St.eff, St.put, applyWr, mset, terase, pureE, unAV, intOp, binAV, fill, mget, AH.rowAt, AH.part, retQ, rvs, retV, AH.splice, AH.sliceElems, AH.bytesOf, AH.strOp, AH.bound, AH.addLog, AH.missQ, AH.minmaxAV, AH.wpOpD, AH.readOf, AH.effOf, AH.mapAt, AH.iterAt, Nat.reduceBEq, Nat.reduceAdd, Nat.reduceLT, ↓reduceIte, Nat.reduceEqDiff, Nat.reduceLeDiff, Nat.reduceSub, Nat.reduceMul, Int.reduceSub, Int.reduceToNat, Int.reduceBEq, Int.reduceBNe, Int.reduceLT, Int.reduceGT, Int.reduceLE, Int.reduceGE, Int.reduceNeg, Int.reduceAdd, dkM, joinT_eq, hj]
set_option maxRecDepth 100000 in
theorem image_nil : Pure S0 22 [.nilp] (.str ⟨#[]⟩) := by
  refine fun_sound okImg Tryd.func22 c22 ?_
  unfold wpF F22
  simp only [AH.SD, AH.wpOp, AOp.call?, AOp.next?, bstep, AOp.map, Opd.ev, tget, argTm, evs, AV.cells, St.eff, St.put, applyWr, mset, terase, pureE, unAV, intOp, binAV, fill, mget, AH.rowAt, AH.part, retQ, rvs, retV, AH.splice, AH.sliceElems, AH.bytesOf, AH.strOp, AH.bound, AH.addLog, AH.missQ, AH.minmaxAV, AH.wpOpD, AH.readOf, AH.effOf, AH.mapAt, AH.iterAt, Nat.reduceBEq, Nat.reduceAdd, Nat.reduceLT, ↓reduceIte, Nat.reduceEqDiff, Nat.reduceLeDiff, Nat.reduceSub, Nat.reduceMul, Int.reduceSub, Int.reduceToNat, Int.reduceBEq, Int.reduceBNe, Int.reduceLT, Int.reduceGT, Int.reduceLE, Int.reduceGE, Int.reduceNeg, Int.reduceAdd]
def imgT : RT := rtElse (cC aNil c0) (fun _ => .str ⟨#[]⟩) (rtO dkO c0 fun d _ => if d.ok then some (.str (catS d.L)) else none)
theorem imgT_ok : ReadF S0 22 imgT := rtElse_ok (fun _ => image_nil) (fun _ => rfl) (rtO_ok fun d x v h => by
  split at h
  · rename_i hd
    simp only [Option.some.injEq] at h; subst h
    exact ⟨rfl, image_ok d hd⟩
  · cases h)
theorem imgT_p {p : Nat} {M : Nat → Option Blk} : imgT [.ptr p 0 0] M = rtO2 (fun (d : Dk) (_ : Unit) => if d.ok then some (.str (catS d.L)) else none) (dkR M p (M p)) (some ()) := by
  simp only [imgT, rtElse_eq, rtO_eq, cC_dec, aNil_ptr, c0_dec, pairO_none, Option.map_none, elseO_none, dkO_dec]
theorem imgT_n {M : Nat → Option Blk} : imgT [.nilp] M = some (.str ⟨#[]⟩, []) := by
  simp only [imgT, rtElse_eq, cC_dec, aNil_dec, c0_dec, pairO_some, Option.map_some, elseO_some]
end Go.Proofs.YthapdikdeoeplaaDoor.H6
end

section
open Go AH
set_option linter.unusedSimpArgs false
set_option maxRecDepth 100000
namespace Go.Proofs.YthapdikdeoeplaaDoor.H6
/- A log: its disk, its part, the base, the first block behind the records, the records, whether the power is known to be away. -/
structure Lg where
  d : Dk
  f : Int
  t : Int
  b : Int
  a : Int
  R : List ByteArray
  down : Bool

def lgC (q r : Nat) (l : Lg) : List AV := [.ptr q 0 0, .int .i64 l.f, .int .i64 l.t, .int .i64 l.b, .int .i64 l.a, .slc r 0 l.R.length none, .bool l.down]
def dkC (b : Nat) (d : Dk) : List AV := [.slc b 0 d.L.length none, .bool d.away, .int .i64 d.fuse, .int .i64 d.torn, .int .i64 d.writes]
def lgM (l : Lg) : Mem := [some (.row false 7 [[.ptr 1 0 0, .int .i64 l.f, .int .i64 l.t, .int .i64 l.b, .int .i64 l.a, .slc 3 0 l.R.length none, .bool l.down]]),
  some (.row false 5 [[.slc 2 0 l.d.L.length none, .bool l.d.away, .int .i64 l.d.fuse, .int .i64 l.d.torn, .int .i64 l.d.writes]]), some (.row false 1 (l.d.L.map strC)), some (.row false 1 (l.R.map strC))]
/-- Are these four numbers unlike? -/
def ne4 (p q b r : Nat) : Bool := !(p == q) && (!(p == b) && (!(p == r) && (!(q == b) && (!(q == r) && !(b == r)))))
def lgS (p n r : Nat) (f t b a : Int) (down : Bool) (R : List ByteArray) : Option (Dk × List (Nat × Bool)) → Option (Lg × List (Nat × Bool))
  | some (d, [(q, false), (k, false)]) => if R.length = n ∧ ne4 p q k r = true then some (⟨d, f, t, b, a, R, down⟩, [(p, false), (q, false), (k, false), (r, false)]) else none
  | _ => none
def lgT (p n r : Nat) (f t b a : Int) (down : Bool) (x : Option (Dk × List (Nat × Bool))) : Option (List ByteArray) → Option (Lg × List (Nat × Bool))
  | some R => lgS p n r f t b a down R x
  | none => none
def lgU (p n r : Nat) (f t b a : Int) (down : Bool) (x : Option (Dk × List (Nat × Bool))) : Option Blk → Option (Lg × List (Nat × Bool))
  | some (.row false 1 es) => lgT p n r f t b a down x (cStr.decL es)
  | _ => none
def lgR (M : Nat → Option Blk) (p : Nat) : Option Blk → Option (Lg × List (Nat × Bool))
  | some (.row false 7 [[.ptr q 0 0, .int .i64 f, .int .i64 t, .int .i64 b, .int .i64 a, .slc r 0 n none, .bool down]]) => lgU p n r f t b a down (dkR M q (M q)) (M r)
  | _ => none
def lgD (M : Nat → Option Blk) : AV → Option (Lg × List (Nat × Bool))
  | .ptr p 0 0 => lgR M p (M p)
  | _ => none
theorem ne4_iff {p q b r : Nat} : ne4 p q b r = true ↔ p ≠ q ∧ p ≠ b ∧ p ≠ r ∧ q ≠ b ∧ q ≠ r ∧ b ≠ r := by
  simp [ne4]
theorem lgD_inv {M : Nat → Option Blk} {v : AV} {l : Lg} {sel : List (Nat × Bool)} (h : lgD M v = some (l, sel)) :
    ∃ p q b r, v = .ptr p 0 0 ∧ sel = [(p, false), (q, false), (b, false), (r, false)] ∧ ne4 p q b r = true ∧
      M p = some (.row false 7 [lgC q r l]) ∧ M q = some (.row false 5 [dkC b l.d]) ∧ M b = some (.row false 1 (l.d.L.map strC)) ∧ M r = some (.row false 1 (l.R.map strC)) := by
  unfold lgD at h
  split at h
  · rename_i p
    unfold lgR at h
    split at h
    · rename_i q f t b a r n down hp
      unfold lgU at h
      split at h
      · rename_i es hr
        unfold lgT at h
        split at h
        · rename_i R hR
          unfold lgS at h
          split at h
          · rename_i d q' k hd
            split at h
            · rename_i hc
              simp only [Option.some.injEq, Prod.mk.injEq] at h
              obtain ⟨rfl, rfl⟩ := h
              obtain ⟨rfl, hne⟩ := hc
              obtain ⟨p2, b2, e1, e2, e3, e4, e5⟩ := dkD_inv (M := M) (v := .ptr q 0 0) (d := d) (sel := [(q', false), (k, false)]) hd
              simp only [List.cons.injEq, Prod.mk.injEq, and_true] at e2
              obtain ⟨rfl, rfl⟩ := e2
              cases e1
              have := cStr.decL_ok hR
              subst this
              exact ⟨p, _, _, r, rfl, rfl, hne, hp, e4, e5, hr⟩
            · cases h
          · cases h
        · cases h
      · cases h
    · cases h
  · cases h
theorem lgD_of {M : Nat → Option Blk} {p q b r : Nat} (l : Lg) (hne : ne4 p q b r = true) (hp : M p = some (.row false 7 [lgC q r l])) (hq : M q = some (.row false 5 [dkC b l.d])) (hb : M b = some (.row false 1 (l.d.L.map strC))) (hr : M r = some (.row false 1 (l.R.map strC))) :
    lgD M (.ptr p 0 0) = some (l, [(p, false), (q, false), (b, false), (r, false)]) := by
  have h := ne4_iff.1 hne
  have hd : dkR M q (M q) = some (l.d, [(q, false), (b, false)]) := dkD_of l.d h.2.2.2.1 hq hb
  simp only [lgD, hp, lgC, lgR, hd, hr, lgU, decStr_map, lgT, lgS, hne, and_self, if_true]
def lgO : AH.Obj Lg where
  dec := lgD
  mem := lgM
  self := fun _ => .ptr 0 0 0
  ok := by
    intro M v l sel h
    obtain ⟨p, q, b, r, rfl, rfl, hne, hp, hq, hb, hr⟩ := lgD_inv h
    obtain ⟨n1, n2, n3, n4, n5, n6⟩ := ne4_iff.1 hne
    have h1 : (p == q) = false := by simpa using n1
    have h2 : (p == b) = false := by simpa using n2
    have h3 : (p == r) = false := by simpa using n3
    have h4 : (q == b) = false := by simpa using n4
    have h5 : (q == r) = false := by simpa using n5
    have h6 : (b == r) = false := by simpa using n6
    have g1 : (q == p) = false := by simpa using n1.symm
    have g2 : (b == p) = false := by simpa using n2.symm
    have g3 : (r == p) = false := by simpa using n3.symm
    have g4 : (b == q) = false := by simpa using n4.symm
    have g5 : (r == q) = false := by simpa using n5.symm
    have g6 : (r == b) = false := by simpa using n6.symm
    refine ⟨⟨?_, ?_⟩, ?_, ?_, ?_⟩
    · simp [selF, hp, hq, hb, hr, lgC, dkC, AV.insB, AV.inB, AH.isIn]
      exact ⟨fun x _ => flatE_in _ x, fun x _ => flatE_in _ x⟩
    · simp [AH.distinct, AH.isIn, h1, h2, h3, h4, h5, h6, g1, g2, g3, g4, g5, g6]
    · simp only [subF, hp, hq, hb, hr, lgC, dkC, Option.map_some, Blk.ren, Blk.asRo, List.map_cons, List.map_nil, AV.rens, AV.ren, AH.posOf, beq_self_eq_true, h1, h2, h3, h4, h5, h6, g1, g2, g3, g4, g5, g6, cond_true, cond_false, flat_rens, lgM, Nat.zero_add, Nat.reduceAdd]
    · simp [AV.inB, AH.isIn]
    · simp [AV.ren, AH.posOf]
  loc := by
    intro M v l sel h M' hM'
    obtain ⟨p, q, b, r, rfl, rfl, hne, hp, hq, hb, hr⟩ := lgD_inv h
    exact lgD_of l hne ((hM' p (by simp)).trans hp) ((hM' q (by simp)).trans hq) ((hM' b (by simp)).trans hb) ((hM' r (by simp)).trans hr)
theorem lgO_dec {M : Nat → Option Blk} {p : Nat} : lgO.dec M (.ptr p 0 0) = lgR M p (M p) := rfl
theorem lgR_eq {M : Nat → Option Blk} {p q r n : Nat} {f t b a : Int} {down : Bool} : lgR M p (some (.row false 7 [[.ptr q 0 0, .int .i64 f, .int .i64 t, .int .i64 b, .int .i64 a, .slc r 0 n none, .bool down]])) = lgU p n r f t b a down (dkR M q (M q)) (M r) := rfl
theorem lgU_eq {p r q k : Nat} {f t b a : Int} {down : Bool} {d : Dk} {R : List ByteArray} : lgU p R.length r f t b a down (some (d, [(q, false), (k, false)])) (some (.row false 1 (R.map strC))) = if ne4 p q k r = true then some (⟨d, f, t, b, a, R, down⟩, [(p, false), (q, false), (k, false), (r, false)]) else none := by
  simp only [lgU, decStr_map, lgT, lgS, true_and]
theorem lgU_nil {p r q k : Nat} {f t b a : Int} {down : Bool} {d : Dk} : lgU p 0 r f t b a down (some (d, [(q, false), (k, false)])) (some (.row false 1 [])) = if ne4 p q k r = true then some (⟨d, f, t, b, a, [], down⟩, [(p, false), (q, false), (k, false), (r, false)]) else none := lgU_eq (R := [])
theorem Lg.eta (l : Lg) : (⟨l.d, l.f, l.t, l.b, l.a, l.R, l.down⟩ : Lg) = l := rfl
end Go.Proofs.YthapdikdeoeplaaDoor.H6
end

section
open Go AH
namespace Go.Proofs.YthapdikdeoeplaaDoor.H6
-- quitrent/frame.number
def F57 : AFun := ⟨24, 2, [.tmp 4], (.seq (.reg [ ⟨(some 4), none, .mov (.c (.str ⟨#[]⟩))⟩]) (.seq (.reg [ ⟨(some 7), none, .mov (.t 1)⟩, ⟨(some 8), none, .mkslice 1 1 [(.int .u8 0)] (.t 7) (.t 7)⟩, ⟨(some 5), none, .mov (.t 8)⟩]) (.seq (.seq (.reg [ ⟨(some 9), none, .mov (.t 5)⟩, ⟨(some 10), none, .len .sl (.t 9)⟩, ⟨(some 11), none, .mov (.c (.int .i64 0))⟩]) (.block 0 (.loop (.seq (.reg [ ⟨(some 12), none, .ibin .lss (.t 11) (.t 10)⟩]) (.seq (.cond (.t 12) .skip (.exit 0)) (.seq (.block 1 (.seq (.reg [ ⟨(some 13), none, .mov (.t 11)⟩, ⟨(some 6), none, .mov (.t 13)⟩]) (.seq (.reg [ ⟨(some 14), none, .mov (.t 5)⟩, ⟨(some 15), none, .mov (.t 6)⟩, ⟨(some 16), none, .mov (.t 0)⟩, ⟨(some 17), none, .i2i .u8 (.t 16)⟩, ⟨(some 18), none, .iaddrSl 1 (.t 14) (.t 15)⟩, ⟨none, none, .store 1 (.t 18) (.t 17)⟩]) (.reg [ ⟨(some 19), none, .mov (.t 0)⟩, ⟨(some 20), none, .ibin .shr (.t 19) (.c (.int .u64 8))⟩, ⟨(some 0), none, .mov (.t 20)⟩])))) (.reg [ ⟨(some 21), none, .ibin .add (.t 11) (.c (.int .i64 1))⟩, ⟨(some 11), none, .mov (.t 21)⟩]))))))) (.seq (.reg [ ⟨(some 22), none, .mov (.t 5)⟩, ⟨(some 23), none, .b2s (.t 22)⟩, ⟨(some 4), none, .mov (.t 23)⟩]) .ret))))⟩

-- quitrent/frame.value
def F75 : AFun := ⟨23, 1, [.tmp 2], (.seq (.reg [ ⟨(some 2), none, .mov (.c (.int .i64 0))⟩]) (.seq (.reg [ ⟨(some 3), none, .mov (.c (.int .i64 0))⟩]) (.seq (.seq (.reg [ ⟨(some 6), none, .mov (.t 0)⟩, ⟨(some 7), none, .s2b (.t 6)⟩, ⟨(some 8), none, .len .sl (.t 7)⟩, ⟨(some 9), none, .mov (.c (.int .i64 0))⟩]) (.block 0 (.loop (.seq (.reg [ ⟨(some 10), none, .ibin .lss (.t 9) (.t 8)⟩]) (.seq (.cond (.t 10) .skip (.exit 0)) (.seq (.block 1 (.seq (.reg [ ⟨(some 11), none, .mov (.t 9)⟩, ⟨(some 12), none, .iaddrSl 1 (.t 7) (.t 9)⟩, ⟨(some 13), none, .load false 1 (.t 12)⟩, ⟨(some 4), none, .mov (.t 11)⟩, ⟨(some 5), none, .mov (.t 13)⟩]) (.reg [ ⟨(some 14), none, .mov (.t 3)⟩, ⟨(some 15), none, .mov (.t 5)⟩, ⟨(some 16), none, .i2i .i64 (.t 15)⟩, ⟨(some 17), none, .mov (.t 4)⟩, ⟨(some 18), none, .ibin .mul (.c (.int .i64 8)) (.t 17)⟩, ⟨(some 19), none, .ibin .shl (.t 16) (.t 18)⟩, ⟨(some 20), none, .ibin .or (.t 14) (.t 19)⟩, ⟨(some 3), none, .mov (.t 20)⟩]))) (.reg [ ⟨(some 21), none, .ibin .add (.t 9) (.c (.int .i64 1))⟩, ⟨(some 9), none, .mov (.t 21)⟩]))))))) (.seq (.reg [ ⟨(some 22), none, .mov (.t 3)⟩, ⟨(some 2), none, .mov (.t 22)⟩]) .ret))))⟩

-- quitrent/frame.end
def F59 : AFun := ⟨18, 3, [.tmp 6], (.seq (.reg [ ⟨(some 6), none, .mov (.c (.str ⟨#[]⟩))⟩]) (.seq (.reg [ ⟨(some 7), none, .mov (.t 0)⟩, ⟨(some 8), none, .i2i .u64 (.t 7)⟩, ⟨(some 9), none, .call (.c (.fn 57 [] [])) [(.t 8), (.c (.int .i64 4))]⟩, ⟨(some 10), none, .mov (.t 1)⟩, ⟨(some 11), none, .i2i .u64 (.t 10)⟩, ⟨(some 12), none, .call (.c (.fn 57 [] [])) [(.t 11), (.c (.int .i64 2))]⟩, ⟨(some 13), none, .ibin .add (.t 9) (.t 12)⟩, ⟨(some 14), none, .mov (.t 2)⟩, ⟨(some 15), none, .i2i .u64 (.t 14)⟩, ⟨(some 16), none, .call (.c (.fn 57 [] [])) [(.t 15), (.c (.int .i64 2))]⟩, ⟨(some 17), none, .ibin .add (.t 13) (.t 16)⟩, ⟨(some 6), none, .mov (.t 17)⟩]) .ret))⟩

-- quitrent/frame.Size
def F39 : AFun := ⟨9, 1, [.tmp 2], (.seq (.reg [ ⟨(some 2), none, .mov (.c (.int .i64 0))⟩]) (.seq (.reg [ ⟨(some 3), none, .mov (.t 0)⟩, ⟨(some 4), none, .len .str (.t 3)⟩, ⟨(some 5), none, .ibin .add (.t 4) (.c (.int .i64 8))⟩, ⟨(some 6), none, .ibin .add (.t 5) (.c (.int .i64 56))⟩, ⟨(some 7), none, .ibin .sub (.t 6) (.c (.int .i64 1))⟩, ⟨(some 8), none, .ibin .quo (.t 7) (.c (.int .i64 56))⟩, ⟨(some 2), none, .mov (.t 8)⟩]) .ret))⟩

-- quitrent/sum.Of
def F58 : AFun := ⟨5, 1, [.tmp 2], (.seq (.reg [ ⟨(some 2), none, .mov (.c (.int .u32 0))⟩]) (.seq (.reg [ ⟨(some 3), none, .mov (.t 0)⟩, ⟨(some 4), none, .call (.c (.fn 72 [] [])) [(.c (.int .u32 1)), (.t 3)]⟩, ⟨(some 2), none, .mov (.t 4)⟩]) .ret))⟩

-- quitrent/sum.More
def F72 : AFun := ⟨22, 2, [.tmp 4], (.seq (.reg [ ⟨(some 4), none, .mov (.c (.int .u32 0))⟩]) (.seq (.seq (.reg [ ⟨(some 7), none, .mov (.t 1)⟩, ⟨(some 8), none, .s2b (.t 7)⟩, ⟨(some 9), none, .len .sl (.t 8)⟩, ⟨(some 10), none, .mov (.c (.int .i64 0))⟩]) (.block 0 (.loop (.seq (.reg [ ⟨(some 11), none, .ibin .lss (.t 10) (.t 9)⟩]) (.seq (.cond (.t 11) .skip (.exit 0)) (.seq (.block 1 (.seq (.reg [ ⟨(some 12), none, .iaddrSl 1 (.t 8) (.t 10)⟩, ⟨(some 13), none, .load false 1 (.t 12)⟩, ⟨(some 6), none, .mov (.t 13)⟩]) (.reg [ ⟨(some 14), none, .mov (.t 0)⟩, ⟨(some 15), none, .ibin .mul (.t 14) (.c (.int .u32 257))⟩, ⟨(some 16), none, .mov (.t 6)⟩, ⟨(some 17), none, .i2i .u32 (.t 16)⟩, ⟨(some 18), none, .ibin .add (.t 15) (.t 17)⟩, ⟨(some 19), none, .ibin .add (.t 18) (.c (.int .u32 1))⟩, ⟨(some 0), none, .mov (.t 19)⟩]))) (.reg [ ⟨(some 20), none, .ibin .add (.t 10) (.c (.int .i64 1))⟩, ⟨(some 10), none, .mov (.t 20)⟩]))))))) (.seq (.reg [ ⟨(some 21), none, .mov (.t 0)⟩, ⟨(some 4), none, .mov (.t 21)⟩]) .ret)))⟩

-- quitrent/frame.Blocks
def F40 : AFun := ⟨64, 2, [.tmp 4, .tmp 5], (.seq (.reg [ ⟨(some 4), none, .mov (.c .nils)⟩, ⟨(some 5), none, .mov (.c .nili)⟩]) (.seq (.seq (.reg [ ⟨(some 10), none, .mov (.t 0)⟩, ⟨(some 11), none, .ibin .lss (.t 10) (.c (.int .i64 1))⟩, ⟨(some 12), none, .mov (.t 11)⟩, ⟨(some 13), (some (12, false)), .mov (.t 0)⟩, ⟨(some 14), (some (12, false)), .ibin .gtr (.t 13) (.c (.int .i64 2147483647))⟩, ⟨(some 15), none, .pick (.t 12) (.c (.bool true)) (.t 14)⟩, ⟨(some 16), none, .mov (.t 15)⟩, ⟨(some 17), (some (16, false)), .mov (.t 1)⟩, ⟨(some 18), (some (16, false)), .len .str (.t 17)⟩, ⟨(some 19), (some (16, false)), .ibin .gtr (.t 18) (.c (.int .i64 6000))⟩, ⟨(some 20), none, .pick (.t 16) (.c (.bool true)) (.t 19)⟩]) (.cond (.t 20) (.seq (.draw [ ⟨(some 21), none, .loadg 1⟩, ⟨(some 4), none, .mov (.c .nils)⟩, ⟨(some 5), none, .mov (.t 21)⟩] [[], [], [0, 1]]) .ret) .skip)) (.seq (.reg [ ⟨(some 22), none, .mov (.t 1)⟩, ⟨(some 23), none, .call (.c (.fn 39 [] [])) [(.t 22)]⟩, ⟨(some 6), none, .mov (.t 23)⟩]) (.seq (.reg [ ⟨(some 24), none, .mov (.t 1)⟩, ⟨(some 25), none, .len .str (.t 24)⟩, ⟨(some 26), none, .i2i .u64 (.t 25)⟩, ⟨(some 27), none, .call (.c (.fn 57 [] [])) [(.t 26), (.c (.int .i64 4))]⟩, ⟨(some 28), none, .mov (.t 1)⟩, ⟨(some 29), none, .call (.c (.fn 58 [] [])) [(.t 28)]⟩, ⟨(some 30), none, .i2i .u64 (.t 29)⟩, ⟨(some 31), none, .call (.c (.fn 57 [] [])) [(.t 30), (.c (.int .i64 4))]⟩, ⟨(some 32), none, .ibin .add (.t 27) (.t 31)⟩, ⟨(some 33), none, .mov (.t 1)⟩, ⟨(some 34), none, .ibin .add (.t 32) (.t 33)⟩, ⟨(some 7), none, .mov (.t 34)⟩]) (.seq (.reg [ ⟨(some 35), none, .mov (.t 7)⟩, ⟨(some 36), none, .mov (.t 6)⟩, ⟨(some 37), none, .ibin .mul (.t 36) (.c (.int .i64 56))⟩, ⟨(some 38), none, .mov (.t 7)⟩, ⟨(some 39), none, .len .str (.t 38)⟩, ⟨(some 40), none, .ibin .sub (.t 37) (.t 39)⟩, ⟨(some 41), none, .call (.c (.fn 33 [] [])) [(.c (.str ⟨#[0]⟩)), (.t 40)]⟩, ⟨(some 42), none, .ibin .add (.t 35) (.t 41)⟩, ⟨(some 7), none, .mov (.t 42)⟩]) (.seq (.reg [ ⟨(some 8), none, .mov (.c .nils)⟩]) (.seq (.seq (.reg [ ⟨(some 43), none, .mov (.t 6)⟩, ⟨(some 44), none, .mov (.c (.int .i64 0))⟩]) (.block 0 (.loop (.seq (.reg [ ⟨(some 45), none, .ibin .lss (.t 44) (.t 43)⟩]) (.seq (.cond (.t 45) .skip (.exit 0)) (.seq (.block 1 (.seq (.reg [ ⟨(some 46), none, .mov (.t 44)⟩, ⟨(some 9), none, .mov (.t 46)⟩]) (.draw [ ⟨(some 47), none, .mov (.t 8)⟩, ⟨(some 48), none, .mov (.t 7)⟩, ⟨(some 49), none, .mov (.t 9)⟩, ⟨(some 50), none, .ibin .mul (.t 49) (.c (.int .i64 56))⟩, ⟨(some 51), none, .mov (.t 9)⟩, ⟨(some 52), none, .ibin .add (.t 51) (.c (.int .i64 1))⟩, ⟨(some 53), none, .ibin .mul (.t 52) (.c (.int .i64 56))⟩, ⟨(some 54), none, .sliceStr (.t 48) (some (.t 50)) (some (.t 53))⟩, ⟨(some 55), none, .mov (.t 0)⟩, ⟨(some 56), none, .mov (.t 9)⟩, ⟨(some 57), none, .mov (.t 6)⟩, ⟨(some 58), none, .call (.c (.fn 59 [] [])) [(.t 55), (.t 56), (.t 57)]⟩, ⟨(some 59), none, .ibin .add (.t 54) (.t 58)⟩, ⟨(some 60), none, .bslice 1 1 [(.str ⟨#[]⟩)] [(0, 1, (.t 59))]⟩, ⟨(some 61), none, .append 1 16 [(.str ⟨#[]⟩)] (.t 47) (.t 60)⟩, ⟨(some 8), none, .mov (.t 61)⟩] [[], [], [], [2], [], [4], [5, 4], [1, 3, 6, 2, 5, 4], [], [], [], [8, 9, 10], [7, 11, 1, 3, 6, 2, 5, 4, 8, 9, 10], [12, 7, 11, 1, 3, 6, 2, 5, 4, 8, 9, 10], [0, 13, 11, 12, 7, 1, 3, 6, 2, 5, 4, 8, 9, 10], [14, 0, 1, 2, 3, 4, 5, 6, 7, 8, 9, 10, 11, 12, 13]]))) (.reg [ ⟨(some 62), none, .ibin .add (.t 44) (.c (.int .i64 1))⟩, ⟨(some 44), none, .mov (.t 62)⟩]))))))) (.seq (.reg [ ⟨(some 63), none, .mov (.t 8)⟩, ⟨(some 4), none, .mov (.t 63)⟩, ⟨(some 5), none, .mov (.c .nili)⟩]) .ret))))))))⟩

-- quitrent/frame.wrong
def F69 : AFun := ⟨8, 1, [.tmp 2], (.seq (.reg [ ⟨(some 2), none, .mov (.c .nili)⟩]) (.seq (.reg [ ⟨(some 3), none, .mov (.t 0)⟩, ⟨(some 4), none, .loadg 4⟩, ⟨(some 5), none, .build [(.str ⟨#[]⟩), (.int .i64 0), .nili] [(0, 1, (.c (.str ⟨#[102, 114, 97, 109, 101]⟩))), (1, 1, (.t 3)), (2, 1, (.t 4))]⟩, ⟨(some 6), none, .box 3 (.t 5)⟩, ⟨(some 7), none, .mkifc 121 (.t 6)⟩, ⟨(some 2), none, .mov (.t 7)⟩]) .ret))⟩

-- quitrent/frame.first
def F68 : AFun := ⟨51, 1, [.tmp 2, .tmp 3, .tmp 4], (.seq (.reg [ ⟨(some 2), none, .mov (.c (.int .i64 0))⟩, ⟨(some 3), none, .mov (.c (.int .i64 0))⟩, ⟨(some 4), none, .mov (.c (.bool false))⟩]) (.seq (.seq (.reg [ ⟨(some 8), none, .mov (.t 0)⟩, ⟨(some 9), none, .len .sl (.t 8)⟩, ⟨(some 10), none, .ibin .eql (.t 9) (.c (.int .i64 0))⟩, ⟨(some 11), none, .mov (.t 10)⟩, ⟨(some 12), (some (11, false)), .mov (.t 0)⟩, ⟨(some 13), (some (11, false)), .iaddrSl 1 (.t 12) (.c (.int .i64 0))⟩, ⟨(some 14), (some (11, false)), .load false 1 (.t 13)⟩, ⟨(some 15), (some (11, false)), .len .str (.t 14)⟩, ⟨(some 16), (some (11, false)), .ibin .neq (.t 15) (.c (.int .i64 64))⟩, ⟨(some 17), none, .pick (.t 11) (.c (.bool true)) (.t 16)⟩]) (.cond (.t 17) (.seq (.reg [ ⟨(some 2), none, .mov (.c (.int .i64 0))⟩, ⟨(some 3), none, .mov (.c (.int .i64 0))⟩, ⟨(some 4), none, .mov (.c (.bool false))⟩]) .ret) .skip)) (.seq (.reg [ ⟨(some 18), none, .mov (.t 0)⟩, ⟨(some 19), none, .iaddrSl 1 (.t 18) (.c (.int .i64 0))⟩, ⟨(some 20), none, .load false 1 (.t 19)⟩, ⟨(some 21), none, .sliceStr (.t 20) (some (.c (.int .i64 56))) none⟩, ⟨(some 5), none, .mov (.t 21)⟩]) (.seq (.draw [ ⟨(some 22), none, .mov (.t 5)⟩, ⟨(some 23), none, .sliceStr (.t 22) none (some (.c (.int .i64 4)))⟩, ⟨(some 24), none, .call (.c (.fn 75 [] [])) [(.t 23)]⟩, ⟨(some 25), none, .mov (.t 5)⟩, ⟨(some 26), none, .sliceStr (.t 25) (some (.c (.int .i64 6))) none⟩, ⟨(some 27), none, .call (.c (.fn 75 [] [])) [(.t 26)]⟩, ⟨(some 6), none, .mov (.t 24)⟩, ⟨(some 7), none, .mov (.t 27)⟩] [[], [0], [1, 0], [], [3], [4, 2, 3, 1, 0], [2, 5, 0, 1, 4, 3], [5, 6, 0, 1, 2, 3, 4]]) (.seq (.reg [ ⟨(some 28), none, .mov (.t 6)⟩, ⟨(some 29), none, .mov (.t 7)⟩, ⟨(some 30), none, .mov (.t 6)⟩, ⟨(some 31), none, .ibin .geq (.t 30) (.c (.int .i64 1))⟩, ⟨(some 32), none, .mov (.t 31)⟩, ⟨(some 33), (some (32, true)), .mov (.t 6)⟩, ⟨(some 34), (some (32, true)), .ibin .leq (.t 33) (.c (.int .i64 2147483647))⟩, ⟨(some 35), none, .pick (.t 32) (.t 34) (.c (.bool false))⟩, ⟨(some 36), none, .mov (.t 35)⟩, ⟨(some 37), (some (36, true)), .mov (.t 7)⟩, ⟨(some 38), (some (36, true)), .ibin .geq (.t 37) (.c (.int .i64 1))⟩, ⟨(some 39), none, .pick (.t 36) (.t 38) (.c (.bool false))⟩, ⟨(some 40), none, .mov (.t 39)⟩, ⟨(some 41), (some (40, true)), .mov (.t 7)⟩, ⟨(some 42), (some (40, true)), .ibin .leq (.t 41) (.c (.int .i64 108))⟩, ⟨(some 43), none, .pick (.t 40) (.t 42) (.c (.bool false))⟩, ⟨(some 44), none, .mov (.t 43)⟩, ⟨(some 45), (some (44, true)), .mov (.t 5)⟩, ⟨(some 46), (some (44, true)), .mov (.t 6)⟩, ⟨(some 47), (some (44, true)), .mov (.t 7)⟩, ⟨(some 48), (some (44, true)), .call (.c (.fn 59 [] [])) [(.t 46), (.c (.int .i64 0)), (.t 47)]⟩, ⟨(some 49), (some (44, true)), .ibin .eql (.t 45) (.t 48)⟩, ⟨(some 50), none, .pick (.t 44) (.t 49) (.c (.bool false))⟩, ⟨(some 2), none, .mov (.t 28)⟩, ⟨(some 3), none, .mov (.t 29)⟩, ⟨(some 4), none, .mov (.t 50)⟩]) .ret)))))⟩

-- quitrent/frame.data
def F71 : AFun := ⟨50, 1, [.tmp 2, .tmp 3], (.seq (.reg [ ⟨(some 2), none, .mov (.c (.str ⟨#[]⟩))⟩, ⟨(some 3), none, .mov (.c (.bool false))⟩]) (.seq (.reg [ ⟨(some 8), none, .mov (.t 0)⟩, ⟨(some 9), none, .sliceStr (.t 8) none (some (.c (.int .i64 4)))⟩, ⟨(some 10), none, .call (.c (.fn 75 [] [])) [(.t 9)]⟩, ⟨(some 4), none, .mov (.t 10)⟩]) (.seq (.seq (.reg [ ⟨(some 11), none, .mov (.t 4)⟩, ⟨(some 12), none, .ibin .gtr (.t 11) (.c (.int .i64 6000))⟩, ⟨(some 13), none, .mov (.t 12)⟩, ⟨(some 14), (some (13, false)), .mov (.t 4)⟩, ⟨(some 15), (some (13, false)), .mov (.t 0)⟩, ⟨(some 16), (some (13, false)), .len .str (.t 15)⟩, ⟨(some 17), (some (13, false)), .ibin .sub (.t 16) (.c (.int .i64 8))⟩, ⟨(some 18), (some (13, false)), .ibin .gtr (.t 14) (.t 17)⟩, ⟨(some 19), none, .pick (.t 13) (.c (.bool true)) (.t 18)⟩]) (.cond (.t 19) (.seq (.reg [ ⟨(some 2), none, .mov (.c (.str ⟨#[]⟩))⟩, ⟨(some 3), none, .mov (.c (.bool false))⟩]) .ret) .skip)) (.seq (.reg [ ⟨(some 20), none, .mov (.t 0)⟩, ⟨(some 21), none, .mov (.t 4)⟩, ⟨(some 22), none, .ibin .add (.c (.int .i64 8)) (.t 21)⟩, ⟨(some 23), none, .sliceStr (.t 20) (some (.c (.int .i64 8))) (some (.t 22))⟩, ⟨(some 5), none, .mov (.t 23)⟩]) (.seq (.reg [ ⟨(some 24), none, .mov (.t 0)⟩, ⟨(some 25), none, .mov (.t 4)⟩, ⟨(some 26), none, .ibin .add (.c (.int .i64 8)) (.t 25)⟩, ⟨(some 27), none, .sliceStr (.t 24) (some (.t 26)) none⟩, ⟨(some 6), none, .mov (.t 27)⟩]) (.seq (.reg [ ⟨(some 28), none, .mov (.t 5)⟩, ⟨(some 29), none, .call (.c (.fn 39 [] [])) [(.t 28)]⟩, ⟨(some 30), none, .ibin .mul (.t 29) (.c (.int .i64 56))⟩, ⟨(some 31), none, .mov (.t 0)⟩, ⟨(some 32), none, .len .str (.t 31)⟩, ⟨(some 33), none, .ibin .eql (.t 30) (.t 32)⟩, ⟨(some 34), none, .mov (.t 33)⟩, ⟨(some 35), (some (34, true)), .mov (.t 6)⟩, ⟨(some 36), (some (34, true)), .call (.c (.fn 76 [] [])) [(.t 35), (.c (.str ⟨#[0]⟩))]⟩, ⟨(some 37), (some (34, true)), .ibin .eql (.t 36) (.c (.str ⟨#[]⟩))⟩, ⟨(some 38), none, .pick (.t 34) (.t 37) (.c (.bool false))⟩, ⟨(some 7), none, .mov (.t 38)⟩]) (.seq (.reg [ ⟨(some 39), none, .mov (.t 5)⟩, ⟨(some 40), none, .mov (.t 7)⟩, ⟨(some 41), none, .mov (.t 40)⟩, ⟨(some 42), (some (41, true)), .mov (.t 0)⟩, ⟨(some 43), (some (41, true)), .sliceStr (.t 42) (some (.c (.int .i64 4))) (some (.c (.int .i64 8)))⟩, ⟨(some 44), (some (41, true)), .call (.c (.fn 75 [] [])) [(.t 43)]⟩, ⟨(some 45), (some (41, true)), .mov (.t 5)⟩, ⟨(some 46), (some (41, true)), .call (.c (.fn 58 [] [])) [(.t 45)]⟩, ⟨(some 47), (some (41, true)), .i2i .i64 (.t 46)⟩, ⟨(some 48), (some (41, true)), .ibin .eql (.t 44) (.t 47)⟩, ⟨(some 49), none, .pick (.t 41) (.t 48) (.c (.bool false))⟩, ⟨(some 2), none, .mov (.t 39)⟩, ⟨(some 3), none, .mov (.t 49)⟩]) .ret)))))))⟩

-- quitrent/frame.Read
def F56 : AFun := ⟨43, 1, [.tmp 2, .tmp 3, .tmp 4, .tmp 5], (.seq (.reg [ ⟨(some 2), none, .mov (.c (.str ⟨#[]⟩))⟩, ⟨(some 3), none, .mov (.c (.int .i64 0))⟩, ⟨(some 4), none, .mov (.c (.int .i64 0))⟩, ⟨(some 5), none, .mov (.c .nili)⟩]) (.seq (.reg [ ⟨(some 13), none, .mov (.t 0)⟩, ⟨(some 14), none, .call (.c (.fn 68 [] [])) [(.t 13)]⟩, ⟨(some 12), none, .mov (.t 14)⟩, ⟨(some 15), none, .extract (.t 12) 0⟩, ⟨(some 16), none, .extract (.t 12) 1⟩, ⟨(some 17), none, .extract (.t 12) 2⟩, ⟨(some 6), none, .mov (.t 15)⟩, ⟨(some 7), none, .mov (.t 16)⟩, ⟨(some 8), none, .mov (.t 17)⟩]) (.seq (.seq (.reg [ ⟨(some 18), none, .mov (.t 8)⟩, ⟨(some 19), none, .un .not (.t 18)⟩]) (.cond (.t 19) (.seq (.reg [ ⟨(some 20), none, .call (.c (.fn 69 [] [])) [(.c (.int .i64 0))]⟩, ⟨(some 2), none, .mov (.c (.str ⟨#[]⟩))⟩, ⟨(some 3), none, .mov (.c (.int .i64 0))⟩, ⟨(some 4), none, .mov (.c (.int .i64 0))⟩, ⟨(some 5), none, .mov (.t 20)⟩]) .ret) .skip)) (.seq (.reg [ ⟨(some 22), none, .mov (.t 0)⟩, ⟨(some 23), none, .mov (.t 6)⟩, ⟨(some 24), none, .mov (.t 7)⟩, ⟨(some 25), none, .call (.c (.fn 70 [] [])) [(.t 22), (.t 23), (.t 24)]⟩, ⟨(some 21), none, .mov (.t 25)⟩, ⟨(some 26), none, .extract (.t 21) 0⟩, ⟨(some 27), none, .extract (.t 21) 1⟩, ⟨(some 9), none, .mov (.t 26)⟩, ⟨(some 10), none, .mov (.t 27)⟩]) (.seq (.seq (.reg [ ⟨(some 28), none, .mov (.t 10)⟩, ⟨(some 29), none, .ibin .geq (.t 28) (.c (.int .i64 0))⟩]) (.cond (.t 29) (.seq (.reg [ ⟨(some 30), none, .mov (.t 10)⟩, ⟨(some 31), none, .call (.c (.fn 69 [] [])) [(.t 30)]⟩, ⟨(some 2), none, .mov (.c (.str ⟨#[]⟩))⟩, ⟨(some 3), none, .mov (.c (.int .i64 0))⟩, ⟨(some 4), none, .mov (.c (.int .i64 0))⟩, ⟨(some 5), none, .mov (.t 31)⟩]) .ret) .skip)) (.seq (.reg [ ⟨(some 33), none, .mov (.t 9)⟩, ⟨(some 34), none, .call (.c (.fn 71 [] [])) [(.t 33)]⟩, ⟨(some 32), none, .mov (.t 34)⟩, ⟨(some 35), none, .extract (.t 32) 0⟩, ⟨(some 36), none, .extract (.t 32) 1⟩, ⟨(some 11), none, .mov (.t 35)⟩, ⟨(some 8), none, .mov (.t 36)⟩]) (.seq (.seq (.reg [ ⟨(some 37), none, .mov (.t 8)⟩, ⟨(some 38), none, .un .not (.t 37)⟩]) (.cond (.t 38) (.seq (.reg [ ⟨(some 39), none, .call (.c (.fn 69 [] [])) [(.c (.int .i64 0))]⟩, ⟨(some 2), none, .mov (.c (.str ⟨#[]⟩))⟩, ⟨(some 3), none, .mov (.c (.int .i64 0))⟩, ⟨(some 4), none, .mov (.c (.int .i64 0))⟩, ⟨(some 5), none, .mov (.t 39)⟩]) .ret) .skip)) (.seq (.reg [ ⟨(some 40), none, .mov (.t 11)⟩, ⟨(some 41), none, .mov (.t 6)⟩, ⟨(some 42), none, .mov (.t 7)⟩, ⟨(some 2), none, .mov (.t 40)⟩, ⟨(some 3), none, .mov (.t 41)⟩, ⟨(some 4), none, .mov (.t 42)⟩, ⟨(some 5), none, .mov (.c .nili)⟩]) .ret))))))))⟩

-- strings.Trim
def F76 : AFun := ⟨43, 2, [.tmp 4], (.seq (.reg [ ⟨(some 4), none, .mov (.c (.str ⟨#[]⟩))⟩]) (.seq (.seq (.reg [ ⟨(some 7), none, .mov (.t 0)⟩, ⟨(some 8), none, .ibin .eql (.t 7) (.c (.str ⟨#[]⟩))⟩, ⟨(some 9), none, .mov (.t 8)⟩, ⟨(some 10), (some (9, false)), .mov (.t 1)⟩, ⟨(some 11), (some (9, false)), .ibin .eql (.t 10) (.c (.str ⟨#[]⟩))⟩, ⟨(some 12), none, .pick (.t 9) (.c (.bool true)) (.t 11)⟩]) (.cond (.t 12) (.seq (.reg [ ⟨(some 13), none, .mov (.t 0)⟩, ⟨(some 4), none, .mov (.t 13)⟩]) .ret) .skip)) (.seq (.seq (.reg [ ⟨(some 14), none, .mov (.t 1)⟩, ⟨(some 15), none, .len .str (.t 14)⟩, ⟨(some 16), none, .ibin .eql (.t 15) (.c (.int .i64 1))⟩, ⟨(some 17), none, .mov (.t 16)⟩, ⟨(some 18), (some (17, true)), .mov (.t 1)⟩, ⟨(some 19), (some (17, true)), .idxStr (.t 18) (.c (.int .i64 0))⟩, ⟨(some 20), (some (17, true)), .ibin .lss (.t 19) (.c (.int .u8 128))⟩, ⟨(some 21), none, .pick (.t 17) (.t 20) (.c (.bool false))⟩]) (.cond (.t 21) (.seq (.draw [ ⟨(some 22), none, .mov (.t 0)⟩, ⟨(some 23), none, .mov (.t 1)⟩, ⟨(some 24), none, .idxStr (.t 23) (.c (.int .i64 0))⟩, ⟨(some 25), none, .call (.c (.fn 78 [] [])) [(.t 22), (.t 24)]⟩, ⟨(some 26), none, .mov (.t 1)⟩, ⟨(some 27), none, .idxStr (.t 26) (.c (.int .i64 0))⟩, ⟨(some 28), none, .call (.c (.fn 77 [] [])) [(.t 25), (.t 27)]⟩, ⟨(some 4), none, .mov (.t 28)⟩] [[], [], [1], [0, 2, 1], [], [4], [3, 5, 0, 2, 1, 4], [6, 0, 1, 2, 3, 4, 5]]) .ret) .skip)) (.seq (.seq (.reg [ ⟨(some 30), none, .mov (.t 1)⟩, ⟨(some 31), none, .call (.c (.fn 79 [] [])) [(.t 30)]⟩, ⟨(some 29), none, .mov (.t 31)⟩, ⟨(some 32), none, .extract (.t 29) 0⟩, ⟨(some 33), none, .extract (.t 29) 1⟩, ⟨(some 5), none, .box 256 (.c (.agg (List.replicate 256 (.bool false))))⟩, ⟨none, none, .store 256 (.t 5) (.t 32)⟩, ⟨(some 6), none, .mov (.t 33)⟩]) (.seq (.reg [ ⟨(some 34), none, .mov (.t 6)⟩]) (.cond (.t 34) (.seq (.reg [ ⟨(some 35), none, .mov (.t 0)⟩, ⟨(some 36), none, .call (.c (.fn 81 [] [])) [(.t 35), (.t 5)]⟩, ⟨(some 37), none, .call (.c (.fn 80 [] [])) [(.t 36), (.t 5)]⟩, ⟨(some 4), none, .mov (.t 37)⟩]) .ret) .skip))) (.seq (.reg [ ⟨(some 38), none, .mov (.t 0)⟩, ⟨(some 39), none, .mov (.t 1)⟩, ⟨(some 40), none, .call (.c (.fn 83 [] [])) [(.t 38), (.t 39)]⟩, ⟨(some 41), none, .mov (.t 1)⟩, ⟨(some 42), none, .call (.c (.fn 82 [] [])) [(.t 40), (.t 41)]⟩, ⟨(some 4), none, .mov (.t 42)⟩]) .ret)))))⟩

-- strings.trimLeftByte
def F77 : AFun := ⟨17, 2, [.tmp 4], (.seq (.reg [ ⟨(some 4), none, .mov (.c (.str ⟨#[]⟩))⟩]) (.seq (.block 0 (.loop (.seq (.seq (.reg [ ⟨(some 5), none, .mov (.t 0)⟩, ⟨(some 6), none, .len .str (.t 5)⟩, ⟨(some 7), none, .ibin .gtr (.t 6) (.c (.int .i64 0))⟩, ⟨(some 8), none, .mov (.t 7)⟩, ⟨(some 9), (some (8, true)), .mov (.t 0)⟩, ⟨(some 10), (some (8, true)), .idxStr (.t 9) (.c (.int .i64 0))⟩, ⟨(some 11), (some (8, true)), .mov (.t 1)⟩, ⟨(some 12), (some (8, true)), .ibin .eql (.t 10) (.t 11)⟩, ⟨(some 13), none, .pick (.t 8) (.t 12) (.c (.bool false))⟩]) (.cond (.t 13) .skip (.exit 0))) (.block 1 (.reg [ ⟨(some 14), none, .mov (.t 0)⟩, ⟨(some 15), none, .sliceStr (.t 14) (some (.c (.int .i64 1))) none⟩, ⟨(some 0), none, .mov (.t 15)⟩]))))) (.seq (.reg [ ⟨(some 16), none, .mov (.t 0)⟩, ⟨(some 4), none, .mov (.t 16)⟩]) .ret)))⟩

-- strings.trimRightByte
def F78 : AFun := ⟨23, 2, [.tmp 4], (.seq (.reg [ ⟨(some 4), none, .mov (.c (.str ⟨#[]⟩))⟩]) (.seq (.block 0 (.loop (.seq (.seq (.reg [ ⟨(some 5), none, .mov (.t 0)⟩, ⟨(some 6), none, .len .str (.t 5)⟩, ⟨(some 7), none, .ibin .gtr (.t 6) (.c (.int .i64 0))⟩, ⟨(some 8), none, .mov (.t 7)⟩, ⟨(some 9), (some (8, true)), .mov (.t 0)⟩, ⟨(some 10), (some (8, true)), .mov (.t 0)⟩, ⟨(some 11), (some (8, true)), .len .str (.t 10)⟩, ⟨(some 12), (some (8, true)), .ibin .sub (.t 11) (.c (.int .i64 1))⟩, ⟨(some 13), (some (8, true)), .idxStr (.t 9) (.t 12)⟩, ⟨(some 14), (some (8, true)), .mov (.t 1)⟩, ⟨(some 15), (some (8, true)), .ibin .eql (.t 13) (.t 14)⟩, ⟨(some 16), none, .pick (.t 8) (.t 15) (.c (.bool false))⟩]) (.cond (.t 16) .skip (.exit 0))) (.block 1 (.reg [ ⟨(some 17), none, .mov (.t 0)⟩, ⟨(some 18), none, .mov (.t 0)⟩, ⟨(some 19), none, .len .str (.t 18)⟩, ⟨(some 20), none, .ibin .sub (.t 19) (.c (.int .i64 1))⟩, ⟨(some 21), none, .sliceStr (.t 17) none (some (.t 20))⟩, ⟨(some 0), none, .mov (.t 21)⟩]))))) (.seq (.reg [ ⟨(some 22), none, .mov (.t 0)⟩, ⟨(some 4), none, .mov (.t 22)⟩]) .ret)))⟩

theorem c57 : cFun Tryd.prog [1, 0, 4, 5, 6, 7, 2, 8, 9, 10, 11, 12, 13, 3] Tryd.f57 = some F57 := by kernel_rfl
theorem c75 : cFun Tryd.prog [1, 0, 4, 5, 6, 7, 2, 8, 9, 10, 11, 12, 13, 3] Tryd.f75 = some F75 := by kernel_rfl
theorem c59 : cFun Tryd.prog [1, 0, 4, 5, 6, 7, 2, 8, 9, 10, 11, 12, 13, 3] Tryd.f59 = some F59 := by kernel_rfl
theorem c39 : cFun Tryd.prog [1, 0, 4, 5, 6, 7, 2, 8, 9, 10, 11, 12, 13, 3] Tryd.f39 = some F39 := by kernel_rfl
theorem c58 : cFun Tryd.prog [1, 0, 4, 5, 6, 7, 2, 8, 9, 10, 11, 12, 13, 3] Tryd.f58 = some F58 := by kernel_rfl
theorem c72 : cFun Tryd.prog [1, 0, 4, 5, 6, 7, 2, 8, 9, 10, 11, 12, 13, 3] Tryd.f72 = some F72 := by kernel_rfl
theorem c40 : cFun Tryd.prog [1, 0, 4, 5, 6, 7, 2, 8, 9, 10, 11, 12, 13, 3] Tryd.f40 = some F40 := by kernel_rfl
theorem c69 : cFun Tryd.prog [1, 0, 4, 5, 6, 7, 2, 8, 9, 10, 11, 12, 13, 3] Tryd.f69 = some F69 := by kernel_rfl
theorem c68 : cFun Tryd.prog [1, 0, 4, 5, 6, 7, 2, 8, 9, 10, 11, 12, 13, 3] Tryd.f68 = some F68 := by kernel_rfl
theorem c71 : cFun Tryd.prog [1, 0, 4, 5, 6, 7, 2, 8, 9, 10, 11, 12, 13, 3] Tryd.f71 = some F71 := by kernel_rfl
theorem c56 : cFun Tryd.prog [1, 0, 4, 5, 6, 7, 2, 8, 9, 10, 11, 12, 13, 3] Tryd.f56 = some F56 := by kernel_rfl
theorem c76 : cFun Tryd.prog [1, 0, 4, 5, 6, 7, 2, 8, 9, 10, 11, 12, 13, 3] Tryd.f76 = some F76 := by kernel_rfl
theorem c77 : cFun Tryd.prog [1, 0, 4, 5, 6, 7, 2, 8, 9, 10, 11, 12, 13, 3] Tryd.f77 = some F77 := by kernel_rfl
theorem c78 : cFun Tryd.prog [1, 0, 4, 5, 6, 7, 2, 8, 9, 10, 11, 12, 13, 3] Tryd.f78 = some F78 := by kernel_rfl
end Go.Proofs.YthapdikdeoeplaaDoor.H6
end

section
open Go AH
set_option linter.unusedSimpArgs false
set_option maxRecDepth 100000
namespace Go.Proofs.YthapdikdeoeplaaDoor.H6
def intC (n : Int) : List AV := [.int .i64 n]
def decIC : List AV → Option Int
  | [.int .i64 n] => some n
  | _ => none
theorem decIC_ok (l : List AV) (n : Int) (h : decIC l = some n) : l = intC n := by
  unfold decIC at h
  split at h
  · simp only [Option.some.injEq] at h; subst h; rfl
  · cases h
def cInt : Cod Int := ⟨intC, decIC, decIC_ok, fun _ => rfl, fun _ => rfl⟩
instance : FlatE intC := ⟨cInt.flat⟩
theorem intC_eq (n : Int) : intC n = [.int .i64 n] := rfl
theorem setC (l : List Int) (j : Nat) (x : Int) : (l.map intC).set j [.int .i64 x] = (l.set j x).map intC := by rw [List.map_set]; rfl
end Go.Proofs.YthapdikdeoeplaaDoor.H6
end

section
open Go AH
set_option linter.unusedSimpArgs false
set_option maxRecDepth 100000
namespace Go.Proofs.YthapdikdeoeplaaDoor.H6
theorem okF0 : CtxOK S0 (ctxU S0 [] []) := ctxU_ok trivial trivial mixed
/-- A number's byte. -/
def byt (n : Int) (i : Nat) : UInt8 := UInt8.ofNat (n / 256 ^ i % 256).toNat
def num4 (n : Int) : ByteArray := ⟨#[byt n 0, byt n 1, byt n 2, byt n 3]⟩
def num2 (n : Int) : ByteArray := ⟨#[byt n 0, byt n 1]⟩
theorem fd (n : Int) : n.fdiv (2 ^ min 8 IntKind.u64.bits) = n / 256 := by
  rw [show (2 : Int) ^ min 8 IntKind.u64.bits = 256 from rfl, Int.fdiv_eq_ediv_of_nonneg _ (by decide)]
theorem w8 (n : Int) : IntKind.u8.wrap n = n % 256 := by rw [IntKind.wrap_u8]
theorem byt0 (n : Int) : UInt8.ofNat (n % 256).toNat = byt n 0 := by rw [byt, Int.pow_zero, Int.ediv_one]
theorem byt1 (n : Int) : UInt8.ofNat (n / 256 % 256).toNat = byt n 1 := rfl
theorem byt2 (n : Int) : UInt8.ofNat (n / 256 / 256 % 256).toNat = byt n 2 := by rw [byt, Int.ediv_ediv_of_nonneg (by decide)]; rfl
theorem byt3 (n : Int) : UInt8.ofNat (n / 256 / 256 / 256 % 256).toNat = byt n 3 := by rw [byt, Int.ediv_ediv_of_nonneg (by decide), Int.ediv_ediv_of_nonneg (by decide)]; rfl
theorem number4 (n : Int) : Pure S0 57 [.int .u64 n, .int .i64 4] (.str (num4 n)) := by
  refine fun_sound okF0 Tryd.func57 c57 ?_
  unfold wpF F57
  simp only [AH.SD, AH.wpOp, AOp.call?, AOp.next?, bstep, AOp.map, Opd.ev, tget, argTm, evs, AV.cells, St.eff, St.put, applyWr, mset, terase, pureE, unAV, intOp, binAV, fill, mget, AH.rowAt, AH.part, retQ, rvs, retV, AH.splice, AH.sliceElems, AH.bytesOf, AH.strOp, AH.bound, AH.addLog, AH.missQ, AH.minmaxAV, AH.wpOpD, AH.readOf, AH.effOf, AH.mapAt, AH.iterAt, Nat.reduceBEq, Nat.reduceAdd, Nat.reduceLT, ↓reduceIte, Nat.reduceEqDiff, Nat.reduceLeDiff, Nat.reduceSub, Nat.reduceMul, Int.reduceSub, Int.reduceToNat, Int.reduceBEq, Int.reduceBNe, Int.reduceLT, Int.reduceGT, Int.reduceLE, Int.reduceGE, Int.reduceNeg, Int.reduceAdd]
  repeat (refine ⟨by first | rfl | decide | omega | (simp only [List.length_map, and_true]; omega) | (simp only [List.length_map, List.length_set, and_true]; omega), ?_⟩)
  refine loop_unroll ctxU_monoB ?_
  simp only [AH.SD, AH.wpOp, AOp.call?, AOp.next?, bstep, AOp.map, Opd.ev, tget, argTm, evs, AV.cells, St.eff, St.put, applyWr, mset, terase, pureE, unAV, intOp, binAV, fill, mget, AH.rowAt, AH.part, retQ, rvs, retV, AH.splice, AH.sliceElems, AH.bytesOf, AH.strOp, AH.bound, AH.addLog, AH.missQ, AH.minmaxAV, AH.wpOpD, AH.readOf, AH.effOf, AH.mapAt, AH.iterAt, Nat.reduceBEq, Nat.reduceAdd, Nat.reduceLT, ↓reduceIte, Nat.reduceEqDiff, Nat.reduceLeDiff, Nat.reduceSub, Nat.reduceMul, Int.reduceSub, Int.reduceToNat, Int.reduceBEq, Int.reduceBNe, Int.reduceLT, Int.reduceGT, Int.reduceLE, Int.reduceGE, Int.reduceNeg, Int.reduceAdd, fd, w8]
  repeat (refine ⟨by first | rfl | decide | omega | (simp only [List.length_map, and_true]; omega) | (simp only [List.length_map, List.length_set, and_true]; omega), ?_⟩)
  refine loop_unroll ctxU_monoB ?_
  simp only [AH.SD, AH.wpOp, AOp.call?, AOp.next?, bstep, AOp.map, Opd.ev, tget, argTm, evs, AV.cells, St.eff, St.put, applyWr, mset, terase, pureE, unAV, intOp, binAV, fill, mget, AH.rowAt, AH.part, retQ, rvs, retV, AH.splice, AH.sliceElems, AH.bytesOf, AH.strOp, AH.bound, AH.addLog, AH.missQ, AH.minmaxAV, AH.wpOpD, AH.readOf, AH.effOf, AH.mapAt, AH.iterAt, Nat.reduceBEq, Nat.reduceAdd, Nat.reduceLT, ↓reduceIte, Nat.reduceEqDiff, Nat.reduceLeDiff, Nat.reduceSub, Nat.reduceMul, Int.reduceSub, Int.reduceToNat, Int.reduceBEq, Int.reduceBNe, Int.reduceLT, Int.reduceGT, Int.reduceLE, Int.reduceGE, Int.reduceNeg, Int.reduceAdd, fd, w8]
  repeat (refine ⟨by first | rfl | decide | omega | (simp only [List.length_map, and_true]; omega) | (simp only [List.length_map, List.length_set, and_true]; omega), ?_⟩)
  refine loop_unroll ctxU_monoB ?_
  simp only [AH.SD, AH.wpOp, AOp.call?, AOp.next?, bstep, AOp.map, Opd.ev, tget, argTm, evs, AV.cells, St.eff, St.put, applyWr, mset, terase, pureE, unAV, intOp, binAV, fill, mget, AH.rowAt, AH.part, retQ, rvs, retV, AH.splice, AH.sliceElems, AH.bytesOf, AH.strOp, AH.bound, AH.addLog, AH.missQ, AH.minmaxAV, AH.wpOpD, AH.readOf, AH.effOf, AH.mapAt, AH.iterAt, Nat.reduceBEq, Nat.reduceAdd, Nat.reduceLT, ↓reduceIte, Nat.reduceEqDiff, Nat.reduceLeDiff, Nat.reduceSub, Nat.reduceMul, Int.reduceSub, Int.reduceToNat, Int.reduceBEq, Int.reduceBNe, Int.reduceLT, Int.reduceGT, Int.reduceLE, Int.reduceGE, Int.reduceNeg, Int.reduceAdd, fd, w8]
  repeat (refine ⟨by first | rfl | decide | omega | (simp only [List.length_map, and_true]; omega) | (simp only [List.length_map, List.length_set, and_true]; omega), ?_⟩)
  refine loop_unroll ctxU_monoB ?_
  simp only [AH.SD, AH.wpOp, AOp.call?, AOp.next?, bstep, AOp.map, Opd.ev, tget, argTm, evs, AV.cells, St.eff, St.put, applyWr, mset, terase, pureE, unAV, intOp, binAV, fill, mget, AH.rowAt, AH.part, retQ, rvs, retV, AH.splice, AH.sliceElems, AH.bytesOf, AH.strOp, AH.bound, AH.addLog, AH.missQ, AH.minmaxAV, AH.wpOpD, AH.readOf, AH.effOf, AH.mapAt, AH.iterAt, Nat.reduceBEq, Nat.reduceAdd, Nat.reduceLT, ↓reduceIte, Nat.reduceEqDiff, Nat.reduceLeDiff, Nat.reduceSub, Nat.reduceMul, Int.reduceSub, Int.reduceToNat, Int.reduceBEq, Int.reduceBNe, Int.reduceLT, Int.reduceGT, Int.reduceLE, Int.reduceGE, Int.reduceNeg, Int.reduceAdd, fd, w8]
  repeat (refine ⟨by first | rfl | decide | omega | (simp only [List.length_map, and_true]; omega) | (simp only [List.length_map, List.length_set, and_true]; omega), ?_⟩)
  refine loop_unroll ctxU_monoB ?_
  simp only [AH.SD, AH.wpOp, AOp.call?, AOp.next?, bstep, AOp.map, Opd.ev, tget, argTm, evs, AV.cells, St.eff, St.put, applyWr, mset, terase, pureE, unAV, intOp, binAV, fill, mget, AH.rowAt, AH.part, retQ, rvs, retV, AH.splice, AH.sliceElems, AH.bytesOf, AH.strOp, AH.bound, AH.addLog, AH.missQ, AH.minmaxAV, AH.wpOpD, AH.readOf, AH.effOf, AH.mapAt, AH.iterAt, Nat.reduceBEq, Nat.reduceAdd, Nat.reduceLT, ↓reduceIte, Nat.reduceEqDiff, Nat.reduceLeDiff, Nat.reduceSub, Nat.reduceMul, Int.reduceSub, Int.reduceToNat, Int.reduceBEq, Int.reduceBNe, Int.reduceLT, Int.reduceGT, Int.reduceLE, Int.reduceGE, Int.reduceNeg, Int.reduceAdd, fd, w8]
  repeat (refine ⟨by first | rfl | decide | omega | (simp only [List.length_map, and_true]; omega) | (simp only [List.length_map, List.length_set, and_true]; omega), ?_⟩)
  rw [byt0, byt1, byt2, byt3]; rfl
theorem number2 (n : Int) : Pure S0 57 [.int .u64 n, .int .i64 2] (.str (num2 n)) := by
  refine fun_sound okF0 Tryd.func57 c57 ?_
  unfold wpF F57
  simp only [AH.SD, AH.wpOp, AOp.call?, AOp.next?, bstep, AOp.map, Opd.ev, tget, argTm, evs, AV.cells, St.eff, St.put, applyWr, mset, terase, pureE, unAV, intOp, binAV, fill, mget, AH.rowAt, AH.part, retQ, rvs, retV, AH.splice, AH.sliceElems, AH.bytesOf, AH.strOp, AH.bound, AH.addLog, AH.missQ, AH.minmaxAV, AH.wpOpD, AH.readOf, AH.effOf, AH.mapAt, AH.iterAt, Nat.reduceBEq, Nat.reduceAdd, Nat.reduceLT, ↓reduceIte, Nat.reduceEqDiff, Nat.reduceLeDiff, Nat.reduceSub, Nat.reduceMul, Int.reduceSub, Int.reduceToNat, Int.reduceBEq, Int.reduceBNe, Int.reduceLT, Int.reduceGT, Int.reduceLE, Int.reduceGE, Int.reduceNeg, Int.reduceAdd]
  repeat (refine ⟨by first | rfl | decide | omega | (simp only [List.length_map, and_true]; omega) | (simp only [List.length_map, List.length_set, and_true]; omega), ?_⟩)
  refine loop_unroll ctxU_monoB ?_
  simp only [AH.SD, AH.wpOp, AOp.call?, AOp.next?, bstep, AOp.map, Opd.ev, tget, argTm, evs, AV.cells, St.eff, St.put, applyWr, mset, terase, pureE, unAV, intOp, binAV, fill, mget, AH.rowAt, AH.part, retQ, rvs, retV, AH.splice, AH.sliceElems, AH.bytesOf, AH.strOp, AH.bound, AH.addLog, AH.missQ, AH.minmaxAV, AH.wpOpD, AH.readOf, AH.effOf, AH.mapAt, AH.iterAt, Nat.reduceBEq, Nat.reduceAdd, Nat.reduceLT, ↓reduceIte, Nat.reduceEqDiff, Nat.reduceLeDiff, Nat.reduceSub, Nat.reduceMul, Int.reduceSub, Int.reduceToNat, Int.reduceBEq, Int.reduceBNe, Int.reduceLT, Int.reduceGT, Int.reduceLE, Int.reduceGE, Int.reduceNeg, Int.reduceAdd, fd, w8]
  repeat (refine ⟨by first | rfl | decide | omega | (simp only [List.length_map, and_true]; omega) | (simp only [List.length_map, List.length_set, and_true]; omega), ?_⟩)
  refine loop_unroll ctxU_monoB ?_
  simp only [AH.SD, AH.wpOp, AOp.call?, AOp.next?, bstep, AOp.map, Opd.ev, tget, argTm, evs, AV.cells, St.eff, St.put, applyWr, mset, terase, pureE, unAV, intOp, binAV, fill, mget, AH.rowAt, AH.part, retQ, rvs, retV, AH.splice, AH.sliceElems, AH.bytesOf, AH.strOp, AH.bound, AH.addLog, AH.missQ, AH.minmaxAV, AH.wpOpD, AH.readOf, AH.effOf, AH.mapAt, AH.iterAt, Nat.reduceBEq, Nat.reduceAdd, Nat.reduceLT, ↓reduceIte, Nat.reduceEqDiff, Nat.reduceLeDiff, Nat.reduceSub, Nat.reduceMul, Int.reduceSub, Int.reduceToNat, Int.reduceBEq, Int.reduceBNe, Int.reduceLT, Int.reduceGT, Int.reduceLE, Int.reduceGE, Int.reduceNeg, Int.reduceAdd, fd, w8]
  repeat (refine ⟨by first | rfl | decide | omega | (simp only [List.length_map, and_true]; omega) | (simp only [List.length_map, List.length_set, and_true]; omega), ?_⟩)
  refine loop_unroll ctxU_monoB ?_
  simp only [AH.SD, AH.wpOp, AOp.call?, AOp.next?, bstep, AOp.map, Opd.ev, tget, argTm, evs, AV.cells, St.eff, St.put, applyWr, mset, terase, pureE, unAV, intOp, binAV, fill, mget, AH.rowAt, AH.part, retQ, rvs, retV, AH.splice, AH.sliceElems, AH.bytesOf, AH.strOp, AH.bound, AH.addLog, AH.missQ, AH.minmaxAV, AH.wpOpD, AH.readOf, AH.effOf, AH.mapAt, AH.iterAt, Nat.reduceBEq, Nat.reduceAdd, Nat.reduceLT, ↓reduceIte, Nat.reduceEqDiff, Nat.reduceLeDiff, Nat.reduceSub, Nat.reduceMul, Int.reduceSub, Int.reduceToNat, Int.reduceBEq, Int.reduceBNe, Int.reduceLT, Int.reduceGT, Int.reduceLE, Int.reduceGE, Int.reduceNeg, Int.reduceAdd, fd, w8]
  repeat (refine ⟨by first | rfl | decide | omega | (simp only [List.length_map, and_true]; omega) | (simp only [List.length_map, List.length_set, and_true]; omega), ?_⟩)
  rw [byt0, byt1]; rfl
theorem sz2 (a b : UInt8) : (⟨#[a, b]⟩ : ByteArray).size = 2 := rfl
theorem sz4 (a b c d : UInt8) : (⟨#[a, b, c, d]⟩ : ByteArray).size = 4 := rfl
theorem bv_nat (n : Nat) (h : n < 9223372036854775808) : (BitVec.ofInt 64 (n : Int)).toNat = n := by
  rw [BitVec.toNat_ofInt]; omega
theorem orS (x y s : Nat) (hx : x < 2 ^ s) (hs : s ≤ 24) (hy : y < 256) : IntKind.i64.wrap ((BitVec.ofInt 64 (x : Int) ||| BitVec.ofInt 64 (IntKind.i64.wrap (IntKind.i64.wrap (y : Int) * 2 ^ s))).toNat : Int) = ((x + y * 2 ^ s : Nat) : Int) := by
  have h2 : 2 ^ s ≤ 2 ^ 24 := Nat.pow_le_pow_right (by decide) hs
  have h3 : y * 2 ^ s ≤ 255 * 2 ^ 24 := Nat.mul_le_mul (by omega) h2
  have e1 : IntKind.i64.wrap (y : Int) = (y : Int) := by rw [IntKind.wrap_i64]; omega
  have e2 : (y : Int) * 2 ^ s = ((y * 2 ^ s : Nat) : Int) := by rw [Int.natCast_mul, Int.natCast_pow]; rfl
  have e3 : IntKind.i64.wrap ((y * 2 ^ s : Nat) : Int) = ((y * 2 ^ s : Nat) : Int) := by rw [IntKind.wrap_i64]; omega
  rw [e1, e2, e3, BitVec.toNat_or, bv_nat _ (by omega), bv_nat _ (by omega)]
  have e4 : x ||| y * 2 ^ s = x + y * 2 ^ s := by
    rw [Nat.or_comm, ← Nat.shiftLeft_eq, ← Nat.shiftLeft_add_eq_or_of_lt hx, Nat.add_comm]
  rw [e4, IntKind.wrap_i64]
  omega
def val2 (a b : UInt8) : Int := (a.toNat + 256 * b.toNat : Nat)
def val4 (a b c d : UInt8) : Int := (a.toNat + 256 * (b.toNat + 256 * (c.toNat + 256 * d.toNat)) : Nat)
theorem m0 : min (IntKind.i64.wrap (8 * 0)).toNat IntKind.i64.bits = 0 := by decide
theorem m1 : min (IntKind.i64.wrap (8 * 1)).toNat IntKind.i64.bits = 8 := by decide
theorem m2 : min (IntKind.i64.wrap (8 * 2)).toNat IntKind.i64.bits = 16 := by decide
theorem m3 : min (IntKind.i64.wrap (8 * 3)).toNat IntKind.i64.bits = 24 := by decide
theorem b64 : IntKind.i64.bits = 64 := rfl
theorem value2 (a b : UInt8) : Pure S0 75 [.str ⟨#[a, b]⟩] (.int .i64 (val2 a b)) := by
  refine fun_sound okF0 Tryd.func75 c75 ?_
  unfold wpF F75
  simp only [AH.SD, AH.wpOp, AOp.call?, AOp.next?, bstep, AOp.map, Opd.ev, tget, argTm, evs, AV.cells, St.eff, St.put, applyWr, mset, terase, pureE, unAV, intOp, binAV, fill, mget, AH.rowAt, AH.part, retQ, rvs, retV, AH.splice, AH.sliceElems, AH.bytesOf, AH.strOp, AH.bound, AH.addLog, AH.missQ, AH.minmaxAV, AH.wpOpD, AH.readOf, AH.effOf, AH.mapAt, AH.iterAt, Nat.reduceBEq, Nat.reduceAdd, Nat.reduceLT, ↓reduceIte, Nat.reduceEqDiff, Nat.reduceLeDiff, Nat.reduceSub, Nat.reduceMul, Int.reduceSub, Int.reduceToNat, Int.reduceBEq, Int.reduceBNe, Int.reduceLT, Int.reduceGT, Int.reduceLE, Int.reduceGE, Int.reduceNeg, Int.reduceAdd, sz2]
  refine loop_unroll ctxU_monoB ?_
  simp only [AH.SD, AH.wpOp, AOp.call?, AOp.next?, bstep, AOp.map, Opd.ev, tget, argTm, evs, AV.cells, St.eff, St.put, applyWr, mset, terase, pureE, unAV, intOp, binAV, fill, mget, AH.rowAt, AH.part, retQ, rvs, retV, AH.splice, AH.sliceElems, AH.bytesOf, AH.strOp, AH.bound, AH.addLog, AH.missQ, AH.minmaxAV, AH.wpOpD, AH.readOf, AH.effOf, AH.mapAt, AH.iterAt, Nat.reduceBEq, Nat.reduceAdd, Nat.reduceLT, ↓reduceIte, Nat.reduceEqDiff, Nat.reduceLeDiff, Nat.reduceSub, Nat.reduceMul, Int.reduceSub, Int.reduceToNat, Int.reduceBEq, Int.reduceBNe, Int.reduceLT, Int.reduceGT, Int.reduceLE, Int.reduceGE, Int.reduceNeg, Int.reduceAdd, sz2]
  repeat (refine ⟨by first | rfl | decide | omega | (simp only [List.length_map, and_true]; omega) | (simp only [List.length_map, List.length_set, and_true]; omega), ?_⟩)
  refine loop_unroll ctxU_monoB ?_
  simp only [AH.SD, AH.wpOp, AOp.call?, AOp.next?, bstep, AOp.map, Opd.ev, tget, argTm, evs, AV.cells, St.eff, St.put, applyWr, mset, terase, pureE, unAV, intOp, binAV, fill, mget, AH.rowAt, AH.part, retQ, rvs, retV, AH.splice, AH.sliceElems, AH.bytesOf, AH.strOp, AH.bound, AH.addLog, AH.missQ, AH.minmaxAV, AH.wpOpD, AH.readOf, AH.effOf, AH.mapAt, AH.iterAt, Nat.reduceBEq, Nat.reduceAdd, Nat.reduceLT, ↓reduceIte, Nat.reduceEqDiff, Nat.reduceLeDiff, Nat.reduceSub, Nat.reduceMul, Int.reduceSub, Int.reduceToNat, Int.reduceBEq, Int.reduceBNe, Int.reduceLT, Int.reduceGT, Int.reduceLE, Int.reduceGE, Int.reduceNeg, Int.reduceAdd, sz2]
  repeat (refine ⟨by first | rfl | decide | omega | (simp only [List.length_map, and_true]; omega) | (simp only [List.length_map, List.length_set, and_true]; omega), ?_⟩)
  refine loop_unroll ctxU_monoB ?_
  simp only [AH.SD, AH.wpOp, AOp.call?, AOp.next?, bstep, AOp.map, Opd.ev, tget, argTm, evs, AV.cells, St.eff, St.put, applyWr, mset, terase, pureE, unAV, intOp, binAV, fill, mget, AH.rowAt, AH.part, retQ, rvs, retV, AH.splice, AH.sliceElems, AH.bytesOf, AH.strOp, AH.bound, AH.addLog, AH.missQ, AH.minmaxAV, AH.wpOpD, AH.readOf, AH.effOf, AH.mapAt, AH.iterAt, Nat.reduceBEq, Nat.reduceAdd, Nat.reduceLT, ↓reduceIte, Nat.reduceEqDiff, Nat.reduceLeDiff, Nat.reduceSub, Nat.reduceMul, Int.reduceSub, Int.reduceToNat, Int.reduceBEq, Int.reduceBNe, Int.reduceLT, Int.reduceGT, Int.reduceLE, Int.reduceGE, Int.reduceNeg, Int.reduceAdd, sz2]
  repeat (refine ⟨by first | rfl | decide | omega | (simp only [List.length_map, and_true]; omega) | (simp only [List.length_map, List.length_set, and_true]; omega), ?_⟩)
  have ha := a.toNat_lt
  have hb := b.toNat_lt
  have s1 := orS 0 a.toNat 0 (by decide) (by decide) ha
  have s2 := orS (0 + a.toNat * 2 ^ 0) b.toNat 8 (by omega) (by decide) hb
  simp only [m0, m1]
  rw [show (0 : Int) = ((0 : Nat) : Int) from rfl, b64, s1, s2]
  simp only [val2]
  congr 2; omega
theorem value4 (a b c d : UInt8) : Pure S0 75 [.str ⟨#[a, b, c, d]⟩] (.int .i64 (val4 a b c d)) := by
  refine fun_sound okF0 Tryd.func75 c75 ?_
  unfold wpF F75
  simp only [AH.SD, AH.wpOp, AOp.call?, AOp.next?, bstep, AOp.map, Opd.ev, tget, argTm, evs, AV.cells, St.eff, St.put, applyWr, mset, terase, pureE, unAV, intOp, binAV, fill, mget, AH.rowAt, AH.part, retQ, rvs, retV, AH.splice, AH.sliceElems, AH.bytesOf, AH.strOp, AH.bound, AH.addLog, AH.missQ, AH.minmaxAV, AH.wpOpD, AH.readOf, AH.effOf, AH.mapAt, AH.iterAt, Nat.reduceBEq, Nat.reduceAdd, Nat.reduceLT, ↓reduceIte, Nat.reduceEqDiff, Nat.reduceLeDiff, Nat.reduceSub, Nat.reduceMul, Int.reduceSub, Int.reduceToNat, Int.reduceBEq, Int.reduceBNe, Int.reduceLT, Int.reduceGT, Int.reduceLE, Int.reduceGE, Int.reduceNeg, Int.reduceAdd, sz4]
  refine loop_unroll ctxU_monoB ?_
  simp only [AH.SD, AH.wpOp, AOp.call?, AOp.next?, bstep, AOp.map, Opd.ev, tget, argTm, evs, AV.cells, St.eff, St.put, applyWr, mset, terase, pureE, unAV, intOp, binAV, fill, mget, AH.rowAt, AH.part, retQ, rvs, retV, AH.splice, AH.sliceElems, AH.bytesOf, AH.strOp, AH.bound, AH.addLog, AH.missQ, AH.minmaxAV, AH.wpOpD, AH.readOf, AH.effOf, AH.mapAt, AH.iterAt, Nat.reduceBEq, Nat.reduceAdd, Nat.reduceLT, ↓reduceIte, Nat.reduceEqDiff, Nat.reduceLeDiff, Nat.reduceSub, Nat.reduceMul, Int.reduceSub, Int.reduceToNat, Int.reduceBEq, Int.reduceBNe, Int.reduceLT, Int.reduceGT, Int.reduceLE, Int.reduceGE, Int.reduceNeg, Int.reduceAdd, sz4]
  repeat (refine ⟨by first | rfl | decide | omega | (simp only [List.length_map, and_true]; omega) | (simp only [List.length_map, List.length_set, and_true]; omega), ?_⟩)
  refine loop_unroll ctxU_monoB ?_
  simp only [AH.SD, AH.wpOp, AOp.call?, AOp.next?, bstep, AOp.map, Opd.ev, tget, argTm, evs, AV.cells, St.eff, St.put, applyWr, mset, terase, pureE, unAV, intOp, binAV, fill, mget, AH.rowAt, AH.part, retQ, rvs, retV, AH.splice, AH.sliceElems, AH.bytesOf, AH.strOp, AH.bound, AH.addLog, AH.missQ, AH.minmaxAV, AH.wpOpD, AH.readOf, AH.effOf, AH.mapAt, AH.iterAt, Nat.reduceBEq, Nat.reduceAdd, Nat.reduceLT, ↓reduceIte, Nat.reduceEqDiff, Nat.reduceLeDiff, Nat.reduceSub, Nat.reduceMul, Int.reduceSub, Int.reduceToNat, Int.reduceBEq, Int.reduceBNe, Int.reduceLT, Int.reduceGT, Int.reduceLE, Int.reduceGE, Int.reduceNeg, Int.reduceAdd, sz4]
  repeat (refine ⟨by first | rfl | decide | omega | (simp only [List.length_map, and_true]; omega) | (simp only [List.length_map, List.length_set, and_true]; omega), ?_⟩)
  refine loop_unroll ctxU_monoB ?_
  simp only [AH.SD, AH.wpOp, AOp.call?, AOp.next?, bstep, AOp.map, Opd.ev, tget, argTm, evs, AV.cells, St.eff, St.put, applyWr, mset, terase, pureE, unAV, intOp, binAV, fill, mget, AH.rowAt, AH.part, retQ, rvs, retV, AH.splice, AH.sliceElems, AH.bytesOf, AH.strOp, AH.bound, AH.addLog, AH.missQ, AH.minmaxAV, AH.wpOpD, AH.readOf, AH.effOf, AH.mapAt, AH.iterAt, Nat.reduceBEq, Nat.reduceAdd, Nat.reduceLT, ↓reduceIte, Nat.reduceEqDiff, Nat.reduceLeDiff, Nat.reduceSub, Nat.reduceMul, Int.reduceSub, Int.reduceToNat, Int.reduceBEq, Int.reduceBNe, Int.reduceLT, Int.reduceGT, Int.reduceLE, Int.reduceGE, Int.reduceNeg, Int.reduceAdd, sz4]
  repeat (refine ⟨by first | rfl | decide | omega | (simp only [List.length_map, and_true]; omega) | (simp only [List.length_map, List.length_set, and_true]; omega), ?_⟩)
  refine loop_unroll ctxU_monoB ?_
  simp only [AH.SD, AH.wpOp, AOp.call?, AOp.next?, bstep, AOp.map, Opd.ev, tget, argTm, evs, AV.cells, St.eff, St.put, applyWr, mset, terase, pureE, unAV, intOp, binAV, fill, mget, AH.rowAt, AH.part, retQ, rvs, retV, AH.splice, AH.sliceElems, AH.bytesOf, AH.strOp, AH.bound, AH.addLog, AH.missQ, AH.minmaxAV, AH.wpOpD, AH.readOf, AH.effOf, AH.mapAt, AH.iterAt, Nat.reduceBEq, Nat.reduceAdd, Nat.reduceLT, ↓reduceIte, Nat.reduceEqDiff, Nat.reduceLeDiff, Nat.reduceSub, Nat.reduceMul, Int.reduceSub, Int.reduceToNat, Int.reduceBEq, Int.reduceBNe, Int.reduceLT, Int.reduceGT, Int.reduceLE, Int.reduceGE, Int.reduceNeg, Int.reduceAdd, sz4]
  repeat (refine ⟨by first | rfl | decide | omega | (simp only [List.length_map, and_true]; omega) | (simp only [List.length_map, List.length_set, and_true]; omega), ?_⟩)
  refine loop_unroll ctxU_monoB ?_
  simp only [AH.SD, AH.wpOp, AOp.call?, AOp.next?, bstep, AOp.map, Opd.ev, tget, argTm, evs, AV.cells, St.eff, St.put, applyWr, mset, terase, pureE, unAV, intOp, binAV, fill, mget, AH.rowAt, AH.part, retQ, rvs, retV, AH.splice, AH.sliceElems, AH.bytesOf, AH.strOp, AH.bound, AH.addLog, AH.missQ, AH.minmaxAV, AH.wpOpD, AH.readOf, AH.effOf, AH.mapAt, AH.iterAt, Nat.reduceBEq, Nat.reduceAdd, Nat.reduceLT, ↓reduceIte, Nat.reduceEqDiff, Nat.reduceLeDiff, Nat.reduceSub, Nat.reduceMul, Int.reduceSub, Int.reduceToNat, Int.reduceBEq, Int.reduceBNe, Int.reduceLT, Int.reduceGT, Int.reduceLE, Int.reduceGE, Int.reduceNeg, Int.reduceAdd, sz4]
  repeat (refine ⟨by first | rfl | decide | omega | (simp only [List.length_map, and_true]; omega) | (simp only [List.length_map, List.length_set, and_true]; omega), ?_⟩)
  have ha := a.toNat_lt
  have hb := b.toNat_lt
  have hc := c.toNat_lt
  have hd := d.toNat_lt
  have s1 := orS 0 a.toNat 0 (by decide) (by decide) ha
  have s2 := orS (0 + a.toNat * 2 ^ 0) b.toNat 8 (by omega) (by decide) hb
  have s3 := orS (0 + a.toNat * 2 ^ 0 + b.toNat * 2 ^ 8) c.toNat 16 (by omega) (by decide) hc
  have s4 := orS (0 + a.toNat * 2 ^ 0 + b.toNat * 2 ^ 8 + c.toNat * 2 ^ 16) d.toNat 24 (by omega) (by decide) hd
  simp only [m0, m1, m2, m3]
  rw [show (0 : Int) = ((0 : Nat) : Int) from rfl, b64, s1, s2, s3, s4]
  simp only [val4]
  congr 2; omega
end Go.Proofs.YthapdikdeoeplaaDoor.H6
end

section
open Go AH
set_option linter.unusedSimpArgs false
set_option maxRecDepth 100000
namespace Go.Proofs.YthapdikdeoeplaaDoor.H6
def bytC (b : UInt8) : List AV := [.int .u8 (b.toNat : Int)]
def decByt : List AV → Option UInt8
  | [.int .u8 n] => if n = ((UInt8.ofNat n.toNat).toNat : Int) then some (UInt8.ofNat n.toNat) else none
  | _ => none
theorem decByt_ok (l : List AV) (b : UInt8) (h : decByt l = some b) : l = bytC b := by
  unfold decByt at h
  split at h
  · split at h
    · rename_i n hn
      simp only [Option.some.injEq] at h
      subst h
      rw [bytC, ← hn]
    · cases h
  · cases h
theorem decByt_de (b : UInt8) : decByt (bytC b) = some b := by
  simp [decByt, bytC]
def cByt : Cod UInt8 := ⟨bytC, decByt, decByt_ok, decByt_de, fun _ => rfl⟩
instance : FlatE bytC := ⟨cByt.flat⟩
theorem bytC_eq (b : UInt8) : bytC b = [.int .u8 (b.toNat : Int)] := rfl
def moreB (n : Int) (b : UInt8) : Int := IntKind.u32.wrap (IntKind.u32.wrap (IntKind.u32.wrap (n * 257) + IntKind.u32.wrap (b.toNat : Int)) + 1)
def moreL (n : Int) (l : List UInt8) : Int := l.foldl moreB n
def moSt (s : ByteArray) (n : Int) (i : Nat) : St := ⟨[(10, .int .i64 i), (9, .int .i64 s.size), (8, .slc 0 0 s.size none), (0, .int .u32 (moreL n (s.data.toList.take i)))], [some (.row false 1 (s.data.toList.map bytC))]⟩
theorem more_ok (n : Int) (s : ByteArray) (hs : s.size ≤ 1048576) : Pure S0 72 [.int .u32 n, .str s] (.int .u32 (moreL n s.data.toList)) := by
  refine fun_sound okF0 Tryd.func72 c72 ?_
  unfold wpF F72
  simp only [AH.SD, AH.wpOp, AOp.call?, AOp.next?, bstep, AOp.map, Opd.ev, tget, argTm, evs, AV.cells, St.eff, St.put, applyWr, mset, terase, pureE, unAV, intOp, binAV, fill, mget, AH.rowAt, AH.part, retQ, rvs, retV, AH.splice, AH.sliceElems, AH.bytesOf, AH.strOp, AH.bound, AH.addLog, AH.missQ, AH.minmaxAV, AH.wpOpD, AH.readOf, AH.effOf, AH.mapAt, AH.iterAt, Nat.reduceBEq, Nat.reduceAdd, Nat.reduceLT, ↓reduceIte, Nat.reduceEqDiff, Nat.reduceLeDiff, Nat.reduceSub, Nat.reduceMul, Int.reduceSub, Int.reduceToNat, Int.reduceBEq, Int.reduceBNe, Int.reduceLT, Int.reduceGT, Int.reduceLE, Int.reduceGE, Int.reduceNeg, Int.reduceAdd]
  have e0 : (s.data.toList.map fun b => [AV.int .u8 (b.toNat : Int)]) = s.data.toList.map bytC := rfl
  have hsz : s.data.toList.length = s.size := by rw [Array.length_toList]; rfl
  refine loop_do [0] [10, 9, 8, 0] [] (α := Nat) (fun i => s.size - i) (moSt s n) (fun i => i ≤ s.size) 0 (Nat.zero_le _) (by simp only [AH.SD, AH.wpOp, AOp.call?, AOp.next?, bstep, AOp.map, Opd.ev, tget, argTm, evs, AV.cells, St.eff, St.put, applyWr, mset, terase, pureE, unAV, intOp, binAV, fill, mget, AH.rowAt, AH.part, retQ, rvs, retV, AH.splice, AH.sliceElems, AH.bytesOf, AH.strOp, AH.bound, AH.addLog, AH.missQ, AH.minmaxAV, AH.wpOpD, AH.readOf, AH.effOf, AH.mapAt, AH.iterAt, Nat.reduceBEq, Nat.reduceAdd, Nat.reduceLT, ↓reduceIte, Nat.reduceEqDiff, Nat.reduceLeDiff, Nat.reduceSub, Nat.reduceMul, Int.reduceSub, Int.reduceToNat, Int.reduceBEq, Int.reduceBNe, Int.reduceLT, Int.reduceGT, Int.reduceLE, Int.reduceGE, Int.reduceNeg, Int.reduceAdd, AH.PD, heads, distN, AH.inN, posN, packM, packB, packTm, liveB, AV.inB, AV.insB, AV.ren, AV.rens, Blk.ren, Blk.inB, vstep, tput, moSt, e0, moreL, List.foldl_nil]) ?_
  intro X i hi ih
  simp only [AH.SD, AH.wpOp, AOp.call?, AOp.next?, bstep, AOp.map, Opd.ev, tget, argTm, evs, AV.cells, St.eff, St.put, applyWr, mset, terase, pureE, unAV, intOp, binAV, fill, mget, AH.rowAt, AH.part, retQ, rvs, retV, AH.splice, AH.sliceElems, AH.bytesOf, AH.strOp, AH.bound, AH.addLog, AH.missQ, AH.minmaxAV, AH.wpOpD, AH.readOf, AH.effOf, AH.mapAt, AH.iterAt, Nat.reduceBEq, Nat.reduceAdd, Nat.reduceLT, ↓reduceIte, Nat.reduceEqDiff, Nat.reduceLeDiff, Nat.reduceSub, Nat.reduceMul, Int.reduceSub, Int.reduceToNat, Int.reduceBEq, Int.reduceBNe, Int.reduceLT, Int.reduceGT, Int.reduceLE, Int.reduceGE, Int.reduceNeg, Int.reduceAdd, moSt]
  refine ⟨fun hlt => ?_, fun hlt => ?_⟩
  · have hi1 := lt_of_dec hlt
    have hi2 : i < s.data.toList.length := by omega
    have wi := wrapS (i := i) (by omega)
    have done := ih (i + 1) hi1 (by omega)
    simp only [moSt, List.take_succ_eq_append_getElem hi2, moreL, List.foldl_append, List.foldl_cons, List.foldl_nil] at done
    simp only [AH.SD, AH.wpOp, AOp.call?, AOp.next?, bstep, AOp.map, Opd.ev, tget, argTm, evs, AV.cells, St.eff, St.put, applyWr, mset, terase, pureE, unAV, intOp, binAV, fill, mget, AH.rowAt, AH.part, retQ, rvs, retV, AH.splice, AH.sliceElems, AH.bytesOf, AH.strOp, AH.bound, AH.addLog, AH.missQ, AH.minmaxAV, AH.wpOpD, AH.readOf, AH.effOf, AH.mapAt, AH.iterAt, Nat.reduceBEq, Nat.reduceAdd, Nat.reduceLT, ↓reduceIte, Nat.reduceEqDiff, Nat.reduceLeDiff, Nat.reduceSub, Nat.reduceMul, Int.reduceSub, Int.reduceToNat, Int.reduceBEq, Int.reduceBNe, Int.reduceLT, Int.reduceGT, Int.reduceLE, Int.reduceGE, Int.reduceNeg, Int.reduceAdd, getD_enc, hi2, bytC_eq, wi, List.length_map]
    repeat (refine ⟨by first | rfl | decide | omega | (simp only [List.length_map, and_true]; omega) | (simp only [List.length_map, List.length_set, and_true]; omega), ?_⟩)
    refine gc_auto [0] [10, 9, 8, 0] [] ?_
    simp only [AH.SD, AH.wpOp, AOp.call?, AOp.next?, bstep, AOp.map, Opd.ev, tget, argTm, evs, AV.cells, St.eff, St.put, applyWr, mset, terase, pureE, unAV, intOp, binAV, fill, mget, AH.rowAt, AH.part, retQ, rvs, retV, AH.splice, AH.sliceElems, AH.bytesOf, AH.strOp, AH.bound, AH.addLog, AH.missQ, AH.minmaxAV, AH.wpOpD, AH.readOf, AH.effOf, AH.mapAt, AH.iterAt, Nat.reduceBEq, Nat.reduceAdd, Nat.reduceLT, ↓reduceIte, Nat.reduceEqDiff, Nat.reduceLeDiff, Nat.reduceSub, Nat.reduceMul, Int.reduceSub, Int.reduceToNat, Int.reduceBEq, Int.reduceBNe, Int.reduceLT, Int.reduceGT, Int.reduceLE, Int.reduceGE, Int.reduceNeg, Int.reduceAdd, AH.PD, heads, distN, AH.inN, posN, packM, packB, packTm, liveB, AV.inB, AV.insB, AV.ren, AV.rens, Blk.ren, Blk.inB, vstep, tput]
    exact done
  · have hi1 := ge_of_dec hlt
    obtain rfl : i = s.size := by omega
    rw [show s.data.toList.take s.size = s.data.toList by rw [← hsz, List.take_length]]
    simp only [AH.SD, AH.wpOp, AOp.call?, AOp.next?, bstep, AOp.map, Opd.ev, tget, argTm, evs, AV.cells, St.eff, St.put, applyWr, mset, terase, pureE, unAV, intOp, binAV, fill, mget, AH.rowAt, AH.part, retQ, rvs, retV, AH.splice, AH.sliceElems, AH.bytesOf, AH.strOp, AH.bound, AH.addLog, AH.missQ, AH.minmaxAV, AH.wpOpD, AH.readOf, AH.effOf, AH.mapAt, AH.iterAt, Nat.reduceBEq, Nat.reduceAdd, Nat.reduceLT, ↓reduceIte, Nat.reduceEqDiff, Nat.reduceLeDiff, Nat.reduceSub, Nat.reduceMul, Int.reduceSub, Int.reduceToNat, Int.reduceBEq, Int.reduceBNe, Int.reduceLT, Int.reduceGT, Int.reduceLE, Int.reduceGE, Int.reduceNeg, Int.reduceAdd]
/-- A text's number. -/
def sumZ (s : ByteArray) : Int := moreL 1 s.data.toList
def okSz (s : ByteArray) : Prop := s.size ≤ 1048576
instance (s : ByteArray) : Decidable (okSz s) := by unfold okSz; infer_instance
def moreT : RT := rtC (cC (aI .u32) (cC aS c0)) (fun x => okSz x.2.1) fun x => .int .u32 (moreL x.1 x.2.1.data.toList)
theorem moreT_ok : ReadF S0 72 moreT := rtC_ok (fun x h => more_ok x.1 x.2.1 h) fun _ => rfl
theorem moreT_p {n : Int} {s : ByteArray} {M : Nat → Option Blk} : moreT [.int .u32 n, .str s] M = rtC1 (fun (x : Int × ByteArray × Unit) => okSz x.2.1) (fun x => .int .u32 (moreL x.1 x.2.1.data.toList)) (some (n, s, ())) := by
  simp only [moreT, rtC_p, cC_dec, aI_dec, aS_dec, c0_dec, pairO_some]
theorem okSum : CtxOK S0 (ctxU S0 [(72, moreT)] []) := ctxU_ok ⟨moreT_ok, trivial⟩ trivial mixed
theorem sum_ok (s : ByteArray) (hs : okSz s) : Pure S0 58 [.str s] (.int .u32 (sumZ s)) := by
  refine fun_sound okSum Tryd.func58 c58 ?_
  unfold wpF F58
  simp only [AH.SD, AH.wpOp, AOp.call?, AOp.next?, bstep, AOp.map, Opd.ev, tget, argTm, evs, AV.cells, St.eff, St.put, applyWr, mset, terase, pureE, unAV, intOp, binAV, fill, mget, AH.rowAt, AH.part, retQ, rvs, retV, AH.splice, AH.sliceElems, AH.bytesOf, AH.strOp, AH.bound, AH.addLog, AH.missQ, AH.minmaxAV, AH.wpOpD, AH.readOf, AH.effOf, AH.mapAt, AH.iterAt, Nat.reduceBEq, Nat.reduceAdd, Nat.reduceLT, ↓reduceIte, Nat.reduceEqDiff, Nat.reduceLeDiff, Nat.reduceSub, Nat.reduceMul, Int.reduceSub, Int.reduceToNat, Int.reduceBEq, Int.reduceBNe, Int.reduceLT, Int.reduceGT, Int.reduceLE, Int.reduceGE, Int.reduceNeg, Int.reduceAdd, moreT_p, rtC1, hs, if_true, sumZ]
def sumT : RT := rtC (cC aS c0) (fun x => okSz x.1) fun x => .int .u32 (sumZ x.1)
theorem sumT_ok : ReadF S0 58 sumT := rtC_ok (fun x h => sum_ok x.1 h) fun _ => rfl
theorem sumT_p {s : ByteArray} {M : Nat → Option Blk} : sumT [.str s] M = rtC1 (fun (x : ByteArray × Unit) => okSz x.1) (fun x => .int .u32 (sumZ x.1)) (some (s, ())) := by
  simp only [sumT, rtC_p, cC_dec, aS_dec, c0_dec, pairO_some]

def num4T : Int → AV := fun n => .str (num4 n)
def numP (x : Int × Int × Unit) : Prop := x.2.1 = 4 ∨ x.2.1 = 2
instance : DecidablePred numP := fun x => by unfold numP; infer_instance
def numF (x : Int × Int × Unit) : AV := .str (if x.2.1 = 4 then num4 x.1 else num2 x.1)
def numT : RT := rtC (cC (aI .u64) (cC (aI .i64) c0)) numP numF
theorem numT_ok : ReadF S0 57 numT := rtC_ok (fun x h => by
  obtain ⟨n, k, u⟩ := x
  rcases h with h | h
  · simp only at h; subst h; exact number4 n
  · simp only at h; subst h; exact number2 n) fun _ => rfl
theorem numT_4 {n : Int} {M : Nat → Option Blk} : numT [.int .u64 n, .int .i64 4] M = some (.str (num4 n), []) := by
  simp only [numT, rtC_p, cC_dec, aI_dec, c0_dec, pairO_some]
  exact rtC1_eq (.inl rfl)
theorem numT_2 {n : Int} {M : Nat → Option Blk} : numT [.int .u64 n, .int .i64 2] M = some (.str (num2 n), []) := by
  simp only [numT, rtC_p, cC_dec, aI_dec, c0_dec, pairO_some]
  exact rtC1_eq (.inr rfl)
theorem num4_sz (n : Int) : (num4 n).size = 4 := rfl
theorem num2_sz (n : Int) : (num2 n).size = 2 := rfl
/-- A block's end. -/
def endS (seq at_ n : Int) : ByteArray := num4 (IntKind.u64.wrap seq) ++ num2 (IntKind.u64.wrap at_) ++ num2 (IntKind.u64.wrap n)
theorem okEnd : CtxOK S0 (ctxU S0 [(57, numT)] []) := ctxU_ok ⟨numT_ok, trivial⟩ trivial mixed
theorem end_ok (seq at_ n : Int) : Pure S0 59 [.int .i64 seq, .int .i64 at_, .int .i64 n] (.str (endS seq at_ n)) := by
  refine fun_sound okEnd Tryd.func59 c59 ?_
  unfold wpF F59
  simp only [AH.SD, AH.wpOp, AOp.call?, AOp.next?, bstep, AOp.map, Opd.ev, tget, argTm, evs, AV.cells, St.eff, St.put, applyWr, mset, terase, pureE, unAV, intOp, binAV, fill, mget, AH.rowAt, AH.part, retQ, rvs, retV, AH.splice, AH.sliceElems, AH.bytesOf, AH.strOp, AH.bound, AH.addLog, AH.missQ, AH.minmaxAV, AH.wpOpD, AH.readOf, AH.effOf, AH.mapAt, AH.iterAt, Nat.reduceBEq, Nat.reduceAdd, Nat.reduceLT, ↓reduceIte, Nat.reduceEqDiff, Nat.reduceLeDiff, Nat.reduceSub, Nat.reduceMul, Int.reduceSub, Int.reduceToNat, Int.reduceBEq, Int.reduceBNe, Int.reduceLT, Int.reduceGT, Int.reduceLE, Int.reduceGE, Int.reduceNeg, Int.reduceAdd, numT_4, numT_2, endS, num4_sz, num2_sz, ByteArray.size_append]
  decide
def endT : RT := rtP (cC (aI .i64) (cC (aI .i64) (cC (aI .i64) c0))) fun x => .str (endS x.1 x.2.1 x.2.2.1)
theorem endT_ok : ReadF S0 59 endT := rtP_ok (fun x => end_ok x.1 x.2.1 x.2.2.1) fun _ => rfl
theorem endT_p {a b c : Int} {M : Nat → Option Blk} : endT [.int .i64 a, .int .i64 b, .int .i64 c] M = some (.str (endS a b c), []) := by
  simp only [endT, rtP, cC_dec, aI_dec, c0_dec, pairO_some, Option.map_some]
def sizeN (n : Nat) : Nat := (n + 63) / 56
theorem size_ok (s : ByteArray) (hs : okSz s) : Pure S0 39 [.str s] (.int .i64 (sizeN s.size)) := by
  have h1 : s.size ≤ 1048576 := hs
  refine fun_sound okF0 Tryd.func39 c39 ?_
  unfold wpF F39
  have w1 : IntKind.i64.wrap ((s.size : Int) + 8) = ((s.size + 8 : Nat) : Int) := by rw [IntKind.wrap_i64]; omega
  have w2 : IntKind.i64.wrap (((s.size + 8 : Nat) : Int) + 56) = ((s.size + 64 : Nat) : Int) := by rw [IntKind.wrap_i64]; omega
  have w3 : IntKind.i64.wrap (((s.size + 64 : Nat) : Int) - 1) = ((s.size + 63 : Nat) : Int) := by rw [IntKind.wrap_i64]; omega
  have w4 : ((s.size + 63 : Nat) : Int).tdiv 56 = ((sizeN s.size : Nat) : Int) := by
    rw [Int.tdiv_eq_ediv_of_nonneg (by omega)]; unfold sizeN; omega
  have h5 : sizeN s.size ≤ 1048576 := by unfold sizeN; omega
  have w5 : IntKind.i64.wrap ((sizeN s.size : Nat) : Int) = ((sizeN s.size : Nat) : Int) := by rw [IntKind.wrap_i64]; omega
  simp only [AH.SD, AH.wpOp, AOp.call?, AOp.next?, bstep, AOp.map, Opd.ev, tget, argTm, evs, AV.cells, St.eff, St.put, applyWr, mset, terase, pureE, unAV, intOp, binAV, fill, mget, AH.rowAt, AH.part, retQ, rvs, retV, AH.splice, AH.sliceElems, AH.bytesOf, AH.strOp, AH.bound, AH.addLog, AH.missQ, AH.minmaxAV, AH.wpOpD, AH.readOf, AH.effOf, AH.mapAt, AH.iterAt, Nat.reduceBEq, Nat.reduceAdd, Nat.reduceLT, ↓reduceIte, Nat.reduceEqDiff, Nat.reduceLeDiff, Nat.reduceSub, Nat.reduceMul, Int.reduceSub, Int.reduceToNat, Int.reduceBEq, Int.reduceBNe, Int.reduceLT, Int.reduceGT, Int.reduceLE, Int.reduceGE, Int.reduceNeg, Int.reduceAdd, w1, w2, w3, w4, w5]
  decide
def sizeT : RT := rtC (cC aS c0) (fun x => okSz x.1) fun x => .int .i64 (sizeN x.1.size)
theorem sizeT_ok : ReadF S0 39 sizeT := rtC_ok (fun x h => size_ok x.1 h) fun _ => rfl
theorem sizeT_p {s : ByteArray} {M : Nat → Option Blk} : sizeT [.str s] M = rtC1 (fun (x : ByteArray × Unit) => okSz x.1) (fun x => .int .i64 (sizeN x.1.size)) (some (s, ())) := by
  simp only [sizeT, rtC_p, cC_dec, aS_dec, c0_dec, pairO_some]
end Go.Proofs.YthapdikdeoeplaaDoor.H6
end
