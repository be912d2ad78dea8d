import Derived.Test.YthapdikdeoeplaaGreatDoorAHd
import Derived.Test.YthapdikdeoeplaaGreatDoorChecked
import Derived.KernelRfl
import Derived.Laws.Bits64
import Derived.Test.YthapdikdeoeplaaGreatDoorAHc
import Derived.Test.YthapdikdeoeplaaGreatDoorRows
import Derived.Test.YthapdikdeoeplaaGreatDoorTie
import Derived.Test.YthapdikdeoeplaaGreatDoorCards
import Derived.WalkKit
import Derived.ProofKit
import Derived.OpenShut
import Derived.LaidMore
import Derived.Stop.Joined
import Derived.SevenTiedAt
import Derived.LaidSub
import Derived.Shelf.Strings.OnBuilder
import Derived.Shelf.Strings.Repeat
import Derived.Shelf.Strings.BuilderF
import Derived.LaidEql
import Derived.Stop.Asserts
import Derived.RowKitTokens
section
set_option linter.unusedVariables false
set_option linter.unnecessarySimpa false
open Go AH
namespace Go.Proofs.YthapdikdeoeplaaGreatDoor.Z7
noncomputable def S0 : AH.Sys:=⟨Tryz.prog,[1,0,2,3,4,5,6,7,8,9,10,11,12,13],158,[]⟩
theorem mixed : Tryz.prog.follows .mixedOrders = true:=by kernel_rfl
theorem errs0 : S0.errs ≠ []:=by simp [S0]
end Go.Proofs.YthapdikdeoeplaaGreatDoor.Z7
end
section
set_option linter.unusedVariables false
set_option linter.unnecessarySimpa false
open Go AH
namespace Go.Proofs.YthapdikdeoeplaaGreatDoor.Z7
theorem own : ownKnob Tryz.prog.godebug = none:=by kernel_rfl
theorem laidOut : laidOutB Tryz.prog = true:=by kernel_rfl
theorem errRows : ErrRows Tryz.prog 158 30 180 9 :=
  ⟨⟨_, Tryz.underlying30⟩, fun u h => typeName_ptr_named (nm := "errors.errorString") (by rw [show "*" ++ "errors.errorString" = "*errors.errorString" by decide]; kernel_rfl) (by kernel_rfl) (by decide) u (by rw [show "*" ++ "errors.errorString" = "*errors.errorString" by decide]; exact h), Tryz.underlying158, ⟨_, Tryz.underlying180, rfl, rfl⟩, Tryz.underlying9, by kernel_rfl, by kernel_rfl⟩
end Go.Proofs.YthapdikdeoeplaaGreatDoor.Z7
end
section
set_option linter.unusedVariables false
set_option linter.unnecessarySimpa false
open Go AH
namespace Go.Proofs.YthapdikdeoeplaaGreatDoor.Z7
def laidIn (w : World) (g : Nat) (c : Array Value) : World :=
  { w with heap:=match w.heap[g]? with
    | some (.cells _ et fr) =>w.heap.setIfInBounds g (.cells c et fr)
    | _ =>w.heap }
noncomputable def wit (os : Os) : World:=laidIn (World.doorLaid Tryz.prog 400 os) 15 (Go.Pinned.utf8FirstZ.map fun n : Nat =>Value.int .u8 (n : Int)).toArray
end Go.Proofs.YthapdikdeoeplaaGreatDoor.Z7
end
section
set_option linter.unusedVariables false
set_option linter.unnecessarySimpa false
open Go AH
namespace Go.Proofs.YthapdikdeoeplaaGreatDoor.Z7
-- quitrent/frame.number
def F67 : AFun:=⟨24,2,[.tmp 4],(.seq (.reg [⟨some 4,none,.mov (.c (.str ⟨#[]⟩))⟩]) (.seq (.reg [⟨some 7,none,.mov (.t 1)⟩,⟨some 8,none,.mkslice 1 1 [(.int .u8 0)] (.t 7) (.t 7)⟩,⟨some 5,none,.mov (.t 8)⟩]) (.seq (.seq (.reg [⟨some 9,none,.mov (.t 5)⟩,⟨some 10,none,.len .sl (.t 9)⟩,⟨some 11,none,.mov (.c (.int .i64 0))⟩]) (.block 0 (.loop (.seq (.reg [⟨some 12,none,.ibin .lss (.t 11) (.t 10)⟩]) (.seq (.cond (.t 12) .skip (.exit 0)) (.seq (.block 1 (.seq (.reg [⟨some 13,none,.mov (.t 11)⟩,⟨some 6,none,.mov (.t 13)⟩]) (.seq (.reg [⟨some 14,none,.mov (.t 5)⟩,⟨some 15,none,.mov (.t 6)⟩,⟨some 16,none,.mov (.t 0)⟩,⟨some 17,none,.i2i .u8 (.t 16)⟩,⟨some 18,none,.iaddrSl 1 (.t 14) (.t 15)⟩,⟨none,none,.store 1 (.t 18) (.t 17)⟩]) (.reg [⟨some 19,none,.mov (.t 0)⟩,⟨some 20,none,.ibin .shr (.t 19) (.c (.int .u64 8))⟩,⟨some 0,none,.mov (.t 20)⟩])))) (.reg [⟨some 21,none,.ibin .add (.t 11) (.c (.int .i64 1))⟩,⟨some 11,none,.mov (.t 21)⟩]))))))) (.seq (.reg [⟨some 22,none,.mov (.t 5)⟩,⟨some 23,none,.b2s (.t 22)⟩,⟨some 4,none,.mov (.t 23)⟩]) .ret))))⟩
-- quitrent/frame.value
def F86 : AFun:=⟨23,1,[.tmp 2],(.seq (.reg [⟨some 2,none,.mov (.c (.int .i64 0))⟩]) (.seq (.reg [⟨some 3,none,.mov (.c (.int .i64 0))⟩]) (.seq (.seq (.reg [⟨some 6,none,.mov (.t 0)⟩,⟨some 7,none,.s2b (.t 6)⟩,⟨some 8,none,.len .sl (.t 7)⟩,⟨some 9,none,.mov (.c (.int .i64 0))⟩]) (.block 0 (.loop (.seq (.reg [⟨some 10,none,.ibin .lss (.t 9) (.t 8)⟩]) (.seq (.cond (.t 10) .skip (.exit 0)) (.seq (.block 1 (.seq (.reg [⟨some 11,none,.mov (.t 9)⟩,⟨some 12,none,.iaddrSl 1 (.t 7) (.t 9)⟩,⟨some 13,none,.load false 1 (.t 12)⟩,⟨some 4,none,.mov (.t 11)⟩,⟨some 5,none,.mov (.t 13)⟩]) (.reg [⟨some 14,none,.mov (.t 3)⟩,⟨some 15,none,.mov (.t 5)⟩,⟨some 16,none,.i2i .i64 (.t 15)⟩,⟨some 17,none,.mov (.t 4)⟩,⟨some 18,none,.ibin .mul (.c (.int .i64 8)) (.t 17)⟩,⟨some 19,none,.ibin .shl (.t 16) (.t 18)⟩,⟨some 20,none,.ibin .or (.t 14) (.t 19)⟩,⟨some 3,none,.mov (.t 20)⟩]))) (.reg [⟨some 21,none,.ibin .add (.t 9) (.c (.int .i64 1))⟩,⟨some 9,none,.mov (.t 21)⟩]))))))) (.seq (.reg [⟨some 22,none,.mov (.t 3)⟩,⟨some 2,none,.mov (.t 22)⟩]) .ret))))⟩
-- quitrent/frame.end
def F69 : AFun:=⟨18,3,[.tmp 6],(.seq (.reg [⟨some 6,none,.mov (.c (.str ⟨#[]⟩))⟩]) (.seq (.reg [⟨some 7,none,.mov (.t 0)⟩,⟨some 8,none,.i2i .u64 (.t 7)⟩,⟨some 9,none,.call (.c (.fn 67 [] [])) [(.t 8),(.c (.int .i64 4))]⟩,⟨some 10,none,.mov (.t 1)⟩,⟨some 11,none,.i2i .u64 (.t 10)⟩,⟨some 12,none,.call (.c (.fn 67 [] [])) [(.t 11),(.c (.int .i64 2))]⟩,⟨some 13,none,.ibin .add (.t 9) (.t 12)⟩,⟨some 14,none,.mov (.t 2)⟩,⟨some 15,none,.i2i .u64 (.t 14)⟩,⟨some 16,none,.call (.c (.fn 67 [] [])) [(.t 15),(.c (.int .i64 2))]⟩,⟨some 17,none,.ibin .add (.t 13) (.t 16)⟩,⟨some 6,none,.mov (.t 17)⟩]) .ret))⟩
-- quitrent/frame.Size
def F50 : AFun:=⟨9,1,[.tmp 2],(.seq (.reg [⟨some 2,none,.mov (.c (.int .i64 0))⟩]) (.seq (.reg [⟨some 3,none,.mov (.t 0)⟩,⟨some 4,none,.len .str (.t 3)⟩,⟨some 5,none,.ibin .add (.t 4) (.c (.int .i64 8))⟩,⟨some 6,none,.ibin .add (.t 5) (.c (.int .i64 56))⟩,⟨some 7,none,.ibin .sub (.t 6) (.c (.int .i64 1))⟩,⟨some 8,none,.ibin .quo (.t 7) (.c (.int .i64 56))⟩,⟨some 2,none,.mov (.t 8)⟩]) .ret))⟩
-- quitrent/sum.Of
def F68 : AFun:=⟨5,1,[.tmp 2],(.seq (.reg [⟨some 2,none,.mov (.c (.int .u32 0))⟩]) (.seq (.reg [⟨some 3,none,.mov (.t 0)⟩,⟨some 4,none,.call (.c (.fn 82 [] [])) [(.c (.int .u32 1)),(.t 3)]⟩,⟨some 2,none,.mov (.t 4)⟩]) .ret))⟩
-- quitrent/sum.More
def F82 : AFun:=⟨22,2,[.tmp 4],(.seq (.reg [⟨some 4,none,.mov (.c (.int .u32 0))⟩]) (.seq (.seq (.reg [⟨some 7,none,.mov (.t 1)⟩,⟨some 8,none,.s2b (.t 7)⟩,⟨some 9,none,.len .sl (.t 8)⟩,⟨some 10,none,.mov (.c (.int .i64 0))⟩]) (.block 0 (.loop (.seq (.reg [⟨some 11,none,.ibin .lss (.t 10) (.t 9)⟩]) (.seq (.cond (.t 11) .skip (.exit 0)) (.seq (.block 1 (.seq (.reg [⟨some 12,none,.iaddrSl 1 (.t 8) (.t 10)⟩,⟨some 13,none,.load false 1 (.t 12)⟩,⟨some 6,none,.mov (.t 13)⟩]) (.reg [⟨some 14,none,.mov (.t 0)⟩,⟨some 15,none,.ibin .mul (.t 14) (.c (.int .u32 257))⟩,⟨some 16,none,.mov (.t 6)⟩,⟨some 17,none,.i2i .u32 (.t 16)⟩,⟨some 18,none,.ibin .add (.t 15) (.t 17)⟩,⟨some 19,none,.ibin .add (.t 18) (.c (.int .u32 1))⟩,⟨some 0,none,.mov (.t 19)⟩]))) (.reg [⟨some 20,none,.ibin .add (.t 10) (.c (.int .i64 1))⟩,⟨some 10,none,.mov (.t 20)⟩]))))))) (.seq (.reg [⟨some 21,none,.mov (.t 0)⟩,⟨some 4,none,.mov (.t 21)⟩]) .ret)))⟩
-- quitrent/frame.Blocks
def F51 : AFun:=⟨64,2,[.tmp 4,.tmp 5],(.seq (.reg [⟨some 4,none,.mov (.c .nils)⟩,⟨some 5,none,.mov (.c .nili)⟩]) (.seq (.seq (.reg [⟨some 10,none,.mov (.t 0)⟩,⟨some 11,none,.ibin .lss (.t 10) (.c (.int .i64 1))⟩,⟨some 12,none,.mov (.t 11)⟩,⟨some 13,(some (12,false)),.mov (.t 0)⟩,⟨some 14,(some (12,false)),.ibin .gtr (.t 13) (.c (.int .i64 2147483647))⟩,⟨some 15,none,.pick (.t 12) (.c (.bool true)) (.t 14)⟩,⟨some 16,none,.mov (.t 15)⟩,⟨some 17,(some (16,false)),.mov (.t 1)⟩,⟨some 18,(some (16,false)),.len .str (.t 17)⟩,⟨some 19,(some (16,false)),.ibin .gtr (.t 18) (.c (.int .i64 6000))⟩,⟨some 20,none,.pick (.t 16) (.c (.bool true)) (.t 19)⟩]) (.cond (.t 20) (.seq (.draw [⟨some 21,none,.loadg 1⟩,⟨some 4,none,.mov (.c .nils)⟩,⟨some 5,none,.mov (.t 21)⟩] [[],[],[0,1]]) .ret) .skip)) (.seq (.reg [⟨some 22,none,.mov (.t 1)⟩,⟨some 23,none,.call (.c (.fn 50 [] [])) [(.t 22)]⟩,⟨some 6,none,.mov (.t 23)⟩]) (.seq (.reg [⟨some 24,none,.mov (.t 1)⟩,⟨some 25,none,.len .str (.t 24)⟩,⟨some 26,none,.i2i .u64 (.t 25)⟩,⟨some 27,none,.call (.c (.fn 67 [] [])) [(.t 26),(.c (.int .i64 4))]⟩,⟨some 28,none,.mov (.t 1)⟩,⟨some 29,none,.call (.c (.fn 68 [] [])) [(.t 28)]⟩,⟨some 30,none,.i2i .u64 (.t 29)⟩,⟨some 31,none,.call (.c (.fn 67 [] [])) [(.t 30),(.c (.int .i64 4))]⟩,⟨some 32,none,.ibin .add (.t 27) (.t 31)⟩,⟨some 33,none,.mov (.t 1)⟩,⟨some 34,none,.ibin .add (.t 32) (.t 33)⟩,⟨some 7,none,.mov (.t 34)⟩]) (.seq (.reg [⟨some 35,none,.mov (.t 7)⟩,⟨some 36,none,.mov (.t 6)⟩,⟨some 37,none,.ibin .mul (.t 36) (.c (.int .i64 56))⟩,⟨some 38,none,.mov (.t 7)⟩,⟨some 39,none,.len .str (.t 38)⟩,⟨some 40,none,.ibin .sub (.t 37) (.t 39)⟩,⟨some 41,none,.call (.c (.fn 55 [] [])) [(.c (.str ⟨#[0]⟩)),(.t 40)]⟩,⟨some 42,none,.ibin .add (.t 35) (.t 41)⟩,⟨some 7,none,.mov (.t 42)⟩]) (.seq (.reg [⟨some 8,none,.mov (.c .nils)⟩]) (.seq (.seq (.reg [⟨some 43,none,.mov (.t 6)⟩,⟨some 44,none,.mov (.c (.int .i64 0))⟩]) (.block 0 (.loop (.seq (.reg [⟨some 45,none,.ibin .lss (.t 44) (.t 43)⟩]) (.seq (.cond (.t 45) .skip (.exit 0)) (.seq (.block 1 (.seq (.reg [⟨some 46,none,.mov (.t 44)⟩,⟨some 9,none,.mov (.t 46)⟩]) (.draw [⟨some 47,none,.mov (.t 8)⟩,⟨some 48,none,.mov (.t 7)⟩,⟨some 49,none,.mov (.t 9)⟩,⟨some 50,none,.ibin .mul (.t 49) (.c (.int .i64 56))⟩,⟨some 51,none,.mov (.t 9)⟩,⟨some 52,none,.ibin .add (.t 51) (.c (.int .i64 1))⟩,⟨some 53,none,.ibin .mul (.t 52) (.c (.int .i64 56))⟩,⟨some 54,none,.sliceStr (.t 48) (some (.t 50)) (some (.t 53))⟩,⟨some 55,none,.mov (.t 0)⟩,⟨some 56,none,.mov (.t 9)⟩,⟨some 57,none,.mov (.t 6)⟩,⟨some 58,none,.call (.c (.fn 69 [] [])) [(.t 55),(.t 56),(.t 57)]⟩,⟨some 59,none,.ibin .add (.t 54) (.t 58)⟩,⟨some 60,none,.bslice 1 1 [(.str ⟨#[]⟩)] [(0,1,(.t 59))]⟩,⟨some 61,none,.append 1 16 [(.str ⟨#[]⟩)] (.t 47) (.t 60)⟩,⟨some 8,none,.mov (.t 61)⟩] [[],[],[],[2],[],[4],[5,4],[1,3,6,2,5,4],[],[],[],[8,9,10],[7,11,1,3,6,2,5,4,8,9,10],[12,7,11,1,3,6,2,5,4,8,9,10],[0,13,11,12,7,1,3,6,2,5,4,8,9,10],[14,0,1,2,3,4,5,6,7,8,9,10,11,12,13]]))) (.reg [⟨some 62,none,.ibin .add (.t 44) (.c (.int .i64 1))⟩,⟨some 44,none,.mov (.t 62)⟩]))))))) (.seq (.reg [⟨some 63,none,.mov (.t 8)⟩,⟨some 4,none,.mov (.t 63)⟩,⟨some 5,none,.mov (.c .nili)⟩]) .ret))))))))⟩
-- quitrent/frame.wrong
def F77 : AFun:=⟨8,1,[.tmp 2],(.seq (.reg [⟨some 2,none,.mov (.c .nili)⟩]) (.seq (.reg [⟨some 3,none,.mov (.t 0)⟩,⟨some 4,none,.loadg 2⟩,⟨some 5,none,.build [(.str ⟨#[]⟩),(.int .i64 0),.nili] [(0,1,(.c (.str ⟨#[102,114,97,109,101]⟩))),(1,1,(.t 3)),(2,1,(.t 4))]⟩,⟨some 6,none,.box 3 (.t 5)⟩,⟨some 7,none,.mkifc 131 (.t 6)⟩,⟨some 2,none,.mov (.t 7)⟩]) .ret))⟩
-- quitrent/frame.first
def F76 : AFun:=⟨51,1,[.tmp 2,.tmp 3,.tmp 4],(.seq (.reg [⟨some 2,none,.mov (.c (.int .i64 0))⟩,⟨some 3,none,.mov (.c (.int .i64 0))⟩,⟨some 4,none,.mov (.c (.bool false))⟩]) (.seq (.seq (.reg [⟨some 8,none,.mov (.t 0)⟩,⟨some 9,none,.len .sl (.t 8)⟩,⟨some 10,none,.ibin .eql (.t 9) (.c (.int .i64 0))⟩,⟨some 11,none,.mov (.t 10)⟩,⟨some 12,(some (11,false)),.mov (.t 0)⟩,⟨some 13,(some (11,false)),.iaddrSl 1 (.t 12) (.c (.int .i64 0))⟩,⟨some 14,(some (11,false)),.load false 1 (.t 13)⟩,⟨some 15,(some (11,false)),.len .str (.t 14)⟩,⟨some 16,(some (11,false)),.ibin .neq (.t 15) (.c (.int .i64 64))⟩,⟨some 17,none,.pick (.t 11) (.c (.bool true)) (.t 16)⟩]) (.cond (.t 17) (.seq (.reg [⟨some 2,none,.mov (.c (.int .i64 0))⟩,⟨some 3,none,.mov (.c (.int .i64 0))⟩,⟨some 4,none,.mov (.c (.bool false))⟩]) .ret) .skip)) (.seq (.reg [⟨some 18,none,.mov (.t 0)⟩,⟨some 19,none,.iaddrSl 1 (.t 18) (.c (.int .i64 0))⟩,⟨some 20,none,.load false 1 (.t 19)⟩,⟨some 21,none,.sliceStr (.t 20) (some (.c (.int .i64 56))) none⟩,⟨some 5,none,.mov (.t 21)⟩]) (.seq (.draw [⟨some 22,none,.mov (.t 5)⟩,⟨some 23,none,.sliceStr (.t 22) none (some (.c (.int .i64 4)))⟩,⟨some 24,none,.call (.c (.fn 86 [] [])) [(.t 23)]⟩,⟨some 25,none,.mov (.t 5)⟩,⟨some 26,none,.sliceStr (.t 25) (some (.c (.int .i64 6))) none⟩,⟨some 27,none,.call (.c (.fn 86 [] [])) [(.t 26)]⟩,⟨some 6,none,.mov (.t 24)⟩,⟨some 7,none,.mov (.t 27)⟩] [[],[0],[1,0],[],[3],[4,2,3,1,0],[2,5,0,1,4,3],[5,6,0,1,2,3,4]]) (.seq (.reg [⟨some 28,none,.mov (.t 6)⟩,⟨some 29,none,.mov (.t 7)⟩,⟨some 30,none,.mov (.t 6)⟩,⟨some 31,none,.ibin .geq (.t 30) (.c (.int .i64 1))⟩,⟨some 32,none,.mov (.t 31)⟩,⟨some 33,(some (32,true)),.mov (.t 6)⟩,⟨some 34,(some (32,true)),.ibin .leq (.t 33) (.c (.int .i64 2147483647))⟩,⟨some 35,none,.pick (.t 32) (.t 34) (.c (.bool false))⟩,⟨some 36,none,.mov (.t 35)⟩,⟨some 37,(some (36,true)),.mov (.t 7)⟩,⟨some 38,(some (36,true)),.ibin .geq (.t 37) (.c (.int .i64 1))⟩,⟨some 39,none,.pick (.t 36) (.t 38) (.c (.bool false))⟩,⟨some 40,none,.mov (.t 39)⟩,⟨some 41,(some (40,true)),.mov (.t 7)⟩,⟨some 42,(some (40,true)),.ibin .leq (.t 41) (.c (.int .i64 108))⟩,⟨some 43,none,.pick (.t 40) (.t 42) (.c (.bool false))⟩,⟨some 44,none,.mov (.t 43)⟩,⟨some 45,(some (44,true)),.mov (.t 5)⟩,⟨some 46,(some (44,true)),.mov (.t 6)⟩,⟨some 47,(some (44,true)),.mov (.t 7)⟩,⟨some 48,(some (44,true)),.call (.c (.fn 69 [] [])) [(.t 46),(.c (.int .i64 0)),(.t 47)]⟩,⟨some 49,(some (44,true)),.ibin .eql (.t 45) (.t 48)⟩,⟨some 50,none,.pick (.t 44) (.t 49) (.c (.bool false))⟩,⟨some 2,none,.mov (.t 28)⟩,⟨some 3,none,.mov (.t 29)⟩,⟨some 4,none,.mov (.t 50)⟩]) .ret)))))⟩
-- quitrent/frame.data
def F79 : AFun:=⟨50,1,[.tmp 2,.tmp 3],(.seq (.reg [⟨some 2,none,.mov (.c (.str ⟨#[]⟩))⟩,⟨some 3,none,.mov (.c (.bool false))⟩]) (.seq (.reg [⟨some 8,none,.mov (.t 0)⟩,⟨some 9,none,.sliceStr (.t 8) none (some (.c (.int .i64 4)))⟩,⟨some 10,none,.call (.c (.fn 86 [] [])) [(.t 9)]⟩,⟨some 4,none,.mov (.t 10)⟩]) (.seq (.seq (.reg [⟨some 11,none,.mov (.t 4)⟩,⟨some 12,none,.ibin .gtr (.t 11) (.c (.int .i64 6000))⟩,⟨some 13,none,.mov (.t 12)⟩,⟨some 14,(some (13,false)),.mov (.t 4)⟩,⟨some 15,(some (13,false)),.mov (.t 0)⟩,⟨some 16,(some (13,false)),.len .str (.t 15)⟩,⟨some 17,(some (13,false)),.ibin .sub (.t 16) (.c (.int .i64 8))⟩,⟨some 18,(some (13,false)),.ibin .gtr (.t 14) (.t 17)⟩,⟨some 19,none,.pick (.t 13) (.c (.bool true)) (.t 18)⟩]) (.cond (.t 19) (.seq (.reg [⟨some 2,none,.mov (.c (.str ⟨#[]⟩))⟩,⟨some 3,none,.mov (.c (.bool false))⟩]) .ret) .skip)) (.seq (.reg [⟨some 20,none,.mov (.t 0)⟩,⟨some 21,none,.mov (.t 4)⟩,⟨some 22,none,.ibin .add (.c (.int .i64 8)) (.t 21)⟩,⟨some 23,none,.sliceStr (.t 20) (some (.c (.int .i64 8))) (some (.t 22))⟩,⟨some 5,none,.mov (.t 23)⟩]) (.seq (.reg [⟨some 24,none,.mov (.t 0)⟩,⟨some 25,none,.mov (.t 4)⟩,⟨some 26,none,.ibin .add (.c (.int .i64 8)) (.t 25)⟩,⟨some 27,none,.sliceStr (.t 24) (some (.t 26)) none⟩,⟨some 6,none,.mov (.t 27)⟩]) (.seq (.reg [⟨some 28,none,.mov (.t 5)⟩,⟨some 29,none,.call (.c (.fn 50 [] [])) [(.t 28)]⟩,⟨some 30,none,.ibin .mul (.t 29) (.c (.int .i64 56))⟩,⟨some 31,none,.mov (.t 0)⟩,⟨some 32,none,.len .str (.t 31)⟩,⟨some 33,none,.ibin .eql (.t 30) (.t 32)⟩,⟨some 34,none,.mov (.t 33)⟩,⟨some 35,(some (34,true)),.mov (.t 6)⟩,⟨some 36,(some (34,true)),.call (.c (.fn 87 [] [])) [(.t 35),(.c (.str ⟨#[0]⟩))]⟩,⟨some 37,(some (34,true)),.ibin .eql (.t 36) (.c (.str ⟨#[]⟩))⟩,⟨some 38,none,.pick (.t 34) (.t 37) (.c (.bool false))⟩,⟨some 7,none,.mov (.t 38)⟩]) (.seq (.reg [⟨some 39,none,.mov (.t 5)⟩,⟨some 40,none,.mov (.t 7)⟩,⟨some 41,none,.mov (.t 40)⟩,⟨some 42,(some (41,true)),.mov (.t 0)⟩,⟨some 43,(some (41,true)),.sliceStr (.t 42) (some (.c (.int .i64 4))) (some (.c (.int .i64 8)))⟩,⟨some 44,(some (41,true)),.call (.c (.fn 86 [] [])) [(.t 43)]⟩,⟨some 45,(some (41,true)),.mov (.t 5)⟩,⟨some 46,(some (41,true)),.call (.c (.fn 68 [] [])) [(.t 45)]⟩,⟨some 47,(some (41,true)),.i2i .i64 (.t 46)⟩,⟨some 48,(some (41,true)),.ibin .eql (.t 44) (.t 47)⟩,⟨some 49,none,.pick (.t 41) (.t 48) (.c (.bool false))⟩,⟨some 2,none,.mov (.t 39)⟩,⟨some 3,none,.mov (.t 49)⟩]) .ret)))))))⟩
-- quitrent/frame.Read
def F60 : AFun:=⟨43,1,[.tmp 2,.tmp 3,.tmp 4,.tmp 5],(.seq (.reg [⟨some 2,none,.mov (.c (.str ⟨#[]⟩))⟩,⟨some 3,none,.mov (.c (.int .i64 0))⟩,⟨some 4,none,.mov (.c (.int .i64 0))⟩,⟨some 5,none,.mov (.c .nili)⟩]) (.seq (.reg [⟨some 13,none,.mov (.t 0)⟩,⟨some 14,none,.call (.c (.fn 76 [] [])) [(.t 13)]⟩,⟨some 12,none,.mov (.t 14)⟩,⟨some 15,none,.extract (.t 12) 0⟩,⟨some 16,none,.extract (.t 12) 1⟩,⟨some 17,none,.extract (.t 12) 2⟩,⟨some 6,none,.mov (.t 15)⟩,⟨some 7,none,.mov (.t 16)⟩,⟨some 8,none,.mov (.t 17)⟩]) (.seq (.seq (.reg [⟨some 18,none,.mov (.t 8)⟩,⟨some 19,none,.un .not (.t 18)⟩]) (.cond (.t 19) (.seq (.reg [⟨some 20,none,.call (.c (.fn 77 [] [])) [(.c (.int .i64 0))]⟩,⟨some 2,none,.mov (.c (.str ⟨#[]⟩))⟩,⟨some 3,none,.mov (.c (.int .i64 0))⟩,⟨some 4,none,.mov (.c (.int .i64 0))⟩,⟨some 5,none,.mov (.t 20)⟩]) .ret) .skip)) (.seq (.reg [⟨some 22,none,.mov (.t 0)⟩,⟨some 23,none,.mov (.t 6)⟩,⟨some 24,none,.mov (.t 7)⟩,⟨some 25,none,.call (.c (.fn 78 [] [])) [(.t 22),(.t 23),(.t 24)]⟩,⟨some 21,none,.mov (.t 25)⟩,⟨some 26,none,.extract (.t 21) 0⟩,⟨some 27,none,.extract (.t 21) 1⟩,⟨some 9,none,.mov (.t 26)⟩,⟨some 10,none,.mov (.t 27)⟩]) (.seq (.seq (.reg [⟨some 28,none,.mov (.t 10)⟩,⟨some 29,none,.ibin .geq (.t 28) (.c (.int .i64 0))⟩]) (.cond (.t 29) (.seq (.reg [⟨some 30,none,.mov (.t 10)⟩,⟨some 31,none,.call (.c (.fn 77 [] [])) [(.t 30)]⟩,⟨some 2,none,.mov (.c (.str ⟨#[]⟩))⟩,⟨some 3,none,.mov (.c (.int .i64 0))⟩,⟨some 4,none,.mov (.c (.int .i64 0))⟩,⟨some 5,none,.mov (.t 31)⟩]) .ret) .skip)) (.seq (.reg [⟨some 33,none,.mov (.t 9)⟩,⟨some 34,none,.call (.c (.fn 79 [] [])) [(.t 33)]⟩,⟨some 32,none,.mov (.t 34)⟩,⟨some 35,none,.extract (.t 32) 0⟩,⟨some 36,none,.extract (.t 32) 1⟩,⟨some 11,none,.mov (.t 35)⟩,⟨some 8,none,.mov (.t 36)⟩]) (.seq (.seq (.reg [⟨some 37,none,.mov (.t 8)⟩,⟨some 38,none,.un .not (.t 37)⟩]) (.cond (.t 38) (.seq (.reg [⟨some 39,none,.call (.c (.fn 77 [] [])) [(.c (.int .i64 0))]⟩,⟨some 2,none,.mov (.c (.str ⟨#[]⟩))⟩,⟨some 3,none,.mov (.c (.int .i64 0))⟩,⟨some 4,none,.mov (.c (.int .i64 0))⟩,⟨some 5,none,.mov (.t 39)⟩]) .ret) .skip)) (.seq (.reg [⟨some 40,none,.mov (.t 11)⟩,⟨some 41,none,.mov (.t 6)⟩,⟨some 42,none,.mov (.t 7)⟩,⟨some 2,none,.mov (.t 40)⟩,⟨some 3,none,.mov (.t 41)⟩,⟨some 4,none,.mov (.t 42)⟩,⟨some 5,none,.mov (.c .nili)⟩]) .ret))))))))⟩
-- strings.Trim
def F87 : AFun:=⟨43,2,[.tmp 4],(.seq (.reg [⟨some 4,none,.mov (.c (.str ⟨#[]⟩))⟩]) (.seq (.seq (.reg [⟨some 7,none,.mov (.t 0)⟩,⟨some 8,none,.ibin .eql (.t 7) (.c (.str ⟨#[]⟩))⟩,⟨some 9,none,.mov (.t 8)⟩,⟨some 10,(some (9,false)),.mov (.t 1)⟩,⟨some 11,(some (9,false)),.ibin .eql (.t 10) (.c (.str ⟨#[]⟩))⟩,⟨some 12,none,.pick (.t 9) (.c (.bool true)) (.t 11)⟩]) (.cond (.t 12) (.seq (.reg [⟨some 13,none,.mov (.t 0)⟩,⟨some 4,none,.mov (.t 13)⟩]) .ret) .skip)) (.seq (.seq (.reg [⟨some 14,none,.mov (.t 1)⟩,⟨some 15,none,.len .str (.t 14)⟩,⟨some 16,none,.ibin .eql (.t 15) (.c (.int .i64 1))⟩,⟨some 17,none,.mov (.t 16)⟩,⟨some 18,(some (17,true)),.mov (.t 1)⟩,⟨some 19,(some (17,true)),.idxStr (.t 18) (.c (.int .i64 0))⟩,⟨some 20,(some (17,true)),.ibin .lss (.t 19) (.c (.int .u8 128))⟩,⟨some 21,none,.pick (.t 17) (.t 20) (.c (.bool false))⟩]) (.cond (.t 21) (.seq (.draw [⟨some 22,none,.mov (.t 0)⟩,⟨some 23,none,.mov (.t 1)⟩,⟨some 24,none,.idxStr (.t 23) (.c (.int .i64 0))⟩,⟨some 25,none,.call (.c (.fn 91 [] [])) [(.t 22),(.t 24)]⟩,⟨some 26,none,.mov (.t 1)⟩,⟨some 27,none,.idxStr (.t 26) (.c (.int .i64 0))⟩,⟨some 28,none,.call (.c (.fn 90 [] [])) [(.t 25),(.t 27)]⟩,⟨some 4,none,.mov (.t 28)⟩] [[],[],[1],[0,2,1],[],[4],[3,5,0,2,1,4],[6,0,1,2,3,4,5]]) .ret) .skip)) (.seq (.seq (.reg [⟨some 30,none,.mov (.t 1)⟩,⟨some 31,none,.call (.c (.fn 92 [] [])) [(.t 30)]⟩,⟨some 29,none,.mov (.t 31)⟩,⟨some 32,none,.extract (.t 29) 0⟩,⟨some 33,none,.extract (.t 29) 1⟩,⟨some 5,none,.box 256 (.c (.agg (List.replicate 256 (.bool false))))⟩,⟨none,none,.store 256 (.t 5) (.t 32)⟩,⟨some 6,none,.mov (.t 33)⟩]) (.seq (.reg [⟨some 34,none,.mov (.t 6)⟩]) (.cond (.t 34) (.seq (.reg [⟨some 35,none,.mov (.t 0)⟩,⟨some 36,none,.call (.c (.fn 94 [] [])) [(.t 35),(.t 5)]⟩,⟨some 37,none,.call (.c (.fn 93 [] [])) [(.t 36),(.t 5)]⟩,⟨some 4,none,.mov (.t 37)⟩]) .ret) .skip))) (.seq (.reg [⟨some 38,none,.mov (.t 0)⟩,⟨some 39,none,.mov (.t 1)⟩,⟨some 40,none,.call (.c (.fn 96 [] [])) [(.t 38),(.t 39)]⟩,⟨some 41,none,.mov (.t 1)⟩,⟨some 42,none,.call (.c (.fn 95 [] [])) [(.t 40),(.t 41)]⟩,⟨some 4,none,.mov (.t 42)⟩]) .ret)))))⟩
-- strings.trimLeftByte
def F90 : AFun:=⟨17,2,[.tmp 4],(.seq (.reg [⟨some 4,none,.mov (.c (.str ⟨#[]⟩))⟩]) (.seq (.block 0 (.loop (.seq (.seq (.reg [⟨some 5,none,.mov (.t 0)⟩,⟨some 6,none,.len .str (.t 5)⟩,⟨some 7,none,.ibin .gtr (.t 6) (.c (.int .i64 0))⟩,⟨some 8,none,.mov (.t 7)⟩,⟨some 9,(some (8,true)),.mov (.t 0)⟩,⟨some 10,(some (8,true)),.idxStr (.t 9) (.c (.int .i64 0))⟩,⟨some 11,(some (8,true)),.mov (.t 1)⟩,⟨some 12,(some (8,true)),.ibin .eql (.t 10) (.t 11)⟩,⟨some 13,none,.pick (.t 8) (.t 12) (.c (.bool false))⟩]) (.cond (.t 13) .skip (.exit 0))) (.block 1 (.reg [⟨some 14,none,.mov (.t 0)⟩,⟨some 15,none,.sliceStr (.t 14) (some (.c (.int .i64 1))) none⟩,⟨some 0,none,.mov (.t 15)⟩]))))) (.seq (.reg [⟨some 16,none,.mov (.t 0)⟩,⟨some 4,none,.mov (.t 16)⟩]) .ret)))⟩
-- strings.trimRightByte
def F91 : AFun:=⟨23,2,[.tmp 4],(.seq (.reg [⟨some 4,none,.mov (.c (.str ⟨#[]⟩))⟩]) (.seq (.block 0 (.loop (.seq (.seq (.reg [⟨some 5,none,.mov (.t 0)⟩,⟨some 6,none,.len .str (.t 5)⟩,⟨some 7,none,.ibin .gtr (.t 6) (.c (.int .i64 0))⟩,⟨some 8,none,.mov (.t 7)⟩,⟨some 9,(some (8,true)),.mov (.t 0)⟩,⟨some 10,(some (8,true)),.mov (.t 0)⟩,⟨some 11,(some (8,true)),.len .str (.t 10)⟩,⟨some 12,(some (8,true)),.ibin .sub (.t 11) (.c (.int .i64 1))⟩,⟨some 13,(some (8,true)),.idxStr (.t 9) (.t 12)⟩,⟨some 14,(some (8,true)),.mov (.t 1)⟩,⟨some 15,(some (8,true)),.ibin .eql (.t 13) (.t 14)⟩,⟨some 16,none,.pick (.t 8) (.t 15) (.c (.bool false))⟩]) (.cond (.t 16) .skip (.exit 0))) (.block 1 (.reg [⟨some 17,none,.mov (.t 0)⟩,⟨some 18,none,.mov (.t 0)⟩,⟨some 19,none,.len .str (.t 18)⟩,⟨some 20,none,.ibin .sub (.t 19) (.c (.int .i64 1))⟩,⟨some 21,none,.sliceStr (.t 17) none (some (.t 20))⟩,⟨some 0,none,.mov (.t 21)⟩]))))) (.seq (.reg [⟨some 22,none,.mov (.t 0)⟩,⟨some 4,none,.mov (.t 22)⟩]) .ret)))⟩
theorem c67 : cFun Tryz.prog [1,0,2,3,4,5,6,7,8,9,10,11,12,13] Tryz.f67 = some F67:=by kernel_rfl
theorem c86 : cFun Tryz.prog [1,0,2,3,4,5,6,7,8,9,10,11,12,13] Tryz.f86 = some F86:=by kernel_rfl
theorem c69 : cFun Tryz.prog [1,0,2,3,4,5,6,7,8,9,10,11,12,13] Tryz.f69 = some F69:=by kernel_rfl
theorem c50 : cFun Tryz.prog [1,0,2,3,4,5,6,7,8,9,10,11,12,13] Tryz.f50 = some F50:=by kernel_rfl
theorem c68 : cFun Tryz.prog [1,0,2,3,4,5,6,7,8,9,10,11,12,13] Tryz.f68 = some F68:=by kernel_rfl
theorem c82 : cFun Tryz.prog [1,0,2,3,4,5,6,7,8,9,10,11,12,13] Tryz.f82 = some F82:=by kernel_rfl
theorem c51 : cFun Tryz.prog [1,0,2,3,4,5,6,7,8,9,10,11,12,13] Tryz.f51 = some F51:=by kernel_rfl
theorem c77 : cFun Tryz.prog [1,0,2,3,4,5,6,7,8,9,10,11,12,13] Tryz.f77 = some F77:=by kernel_rfl
theorem c76 : cFun Tryz.prog [1,0,2,3,4,5,6,7,8,9,10,11,12,13] Tryz.f76 = some F76:=by kernel_rfl
theorem c79 : cFun Tryz.prog [1,0,2,3,4,5,6,7,8,9,10,11,12,13] Tryz.f79 = some F79:=by kernel_rfl
theorem c60 : cFun Tryz.prog [1,0,2,3,4,5,6,7,8,9,10,11,12,13] Tryz.f60 = some F60:=by kernel_rfl
theorem c87 : cFun Tryz.prog [1,0,2,3,4,5,6,7,8,9,10,11,12,13] Tryz.f87 = some F87:=by kernel_rfl
theorem c90 : cFun Tryz.prog [1,0,2,3,4,5,6,7,8,9,10,11,12,13] Tryz.f90 = some F90:=by kernel_rfl
theorem c91 : cFun Tryz.prog [1,0,2,3,4,5,6,7,8,9,10,11,12,13] Tryz.f91 = some F91:=by kernel_rfl
end Go.Proofs.YthapdikdeoeplaaGreatDoor.Z7
end
section
set_option linter.unusedVariables false
set_option linter.unnecessarySimpa false
open Go AH
set_option linter.unusedSimpArgs false
set_option maxRecDepth 100000
namespace Go.Proofs.YthapdikdeoeplaaGreatDoor.Z7
end Go.Proofs.YthapdikdeoeplaaGreatDoor.Z7
end
section
set_option linter.unusedVariables false
set_option linter.unnecessarySimpa false
open Go AH
set_option linter.unusedSimpArgs false
set_option maxRecDepth 100000
namespace Go.Proofs.YthapdikdeoeplaaGreatDoor.Z7
theorem okF0 : CtxOK S0 (ctxU S0 [] []):=ctxU_ok trivial trivial mixed
def byt (n : Int) (i : Nat) : UInt8:=UInt8.ofNat (n / 256 ^ i % 256).toNat
def num4 (n : Int) : ByteArray:=⟨#[byt n 0,byt n 1,byt n 2,byt n 3]⟩
def num2 (n : Int) : ByteArray:=⟨#[byt n 0,byt n 1]⟩
theorem fd (n : Int) : n.fdiv (2 ^ min 8 IntKind.u64.bits) = n / 256:=by
  rw [show (2 : Int) ^ min 8 IntKind.u64.bits = 256 from rfl,Int.fdiv_eq_ediv_of_nonneg _ (by decide)]
theorem w8 (n : Int) : IntKind.u8.wrap n = n % 256:=by rw [IntKind.wrap_u8]
theorem byt0 (n : Int) : UInt8.ofNat (n % 256).toNat = byt n 0:=by rw [byt,Int.pow_zero,Int.ediv_one]
theorem byt1 (n : Int) : UInt8.ofNat (n / 256 % 256).toNat = byt n 1:=rfl
theorem byt2 (n : Int) : UInt8.ofNat (n / 256 / 256 % 256).toNat = byt n 2:=by rw [byt,Int.ediv_ediv_of_nonneg (by decide)]; rfl
theorem byt3 (n : Int) : UInt8.ofNat (n / 256 / 256 / 256 % 256).toNat = byt n 3:=by rw [byt,Int.ediv_ediv_of_nonneg (by decide),Int.ediv_ediv_of_nonneg (by decide)]; rfl
theorem number4 (n : Int) : Pure S0 67 [.int .u64 n,.int .i64 4] (.str (num4 n)):=by
  refine fun_sound okF0 Tryz.func67 c67 ?_
  unfold wpF F67
  simp only [AH.SD,AH.SE,AOp.call?,AOp.next?,bstep,AV.cells,unAV,binAV,retQ,retV,AH.sliceElems,AH.bytesOf,AH.strOp,AH.bound,AH.missQ,AH.minmaxAV,AH.readOf,AH.effOf,Nat.reduceBEq,Nat.reduceAdd,Nat.reduceLT,↓reduceIte,Nat.reduceEqDiff,Nat.reduceLeDiff,Nat.reduceSub,Nat.reduceMul,Int.reduceSub,Int.reduceToNat,Int.reduceBEq,Int.reduceBNe,Int.reduceLT,Int.reduceGT,Int.reduceLE,Int.reduceGE,Int.reduceNeg,Int.reduceAdd]
  repeat (refine ⟨by first | rfl | decide | omega | (simp only [List.length_map,and_true]; omega) | (simp only [List.length_map,List.length_set,and_true]; omega),?_⟩)
  refine loop_unroll ctxU_monoB ?_
  simp only [AH.SD,AH.SE,AOp.call?,AOp.next?,bstep,AV.cells,unAV,binAV,retQ,retV,AH.sliceElems,AH.bytesOf,AH.strOp,AH.bound,AH.missQ,AH.minmaxAV,AH.readOf,AH.effOf,Nat.reduceBEq,Nat.reduceAdd,Nat.reduceLT,↓reduceIte,Nat.reduceEqDiff,Nat.reduceLeDiff,Nat.reduceSub,Nat.reduceMul,Int.reduceSub,Int.reduceToNat,Int.reduceBEq,Int.reduceBNe,Int.reduceLT,Int.reduceGT,Int.reduceLE,Int.reduceGE,Int.reduceNeg,Int.reduceAdd,fd,w8]
  repeat (refine ⟨by first | rfl | decide | omega | (simp only [List.length_map,and_true]; omega) | (simp only [List.length_map,List.length_set,and_true]; omega),?_⟩)
  refine loop_unroll ctxU_monoB ?_
  simp only [AH.SD,AH.SE,AOp.call?,AOp.next?,bstep,AV.cells,unAV,binAV,retQ,retV,AH.sliceElems,AH.bytesOf,AH.strOp,AH.bound,AH.missQ,AH.minmaxAV,AH.readOf,AH.effOf,Nat.reduceBEq,Nat.reduceAdd,Nat.reduceLT,↓reduceIte,Nat.reduceEqDiff,Nat.reduceLeDiff,Nat.reduceSub,Nat.reduceMul,Int.reduceSub,Int.reduceToNat,Int.reduceBEq,Int.reduceBNe,Int.reduceLT,Int.reduceGT,Int.reduceLE,Int.reduceGE,Int.reduceNeg,Int.reduceAdd,fd,w8]
  repeat (refine ⟨by first | rfl | decide | omega | (simp only [List.length_map,and_true]; omega) | (simp only [List.length_map,List.length_set,and_true]; omega),?_⟩)
  refine loop_unroll ctxU_monoB ?_
  simp only [AH.SD,AH.SE,AOp.call?,AOp.next?,bstep,AV.cells,unAV,binAV,retQ,retV,AH.sliceElems,AH.bytesOf,AH.strOp,AH.bound,AH.missQ,AH.minmaxAV,AH.readOf,AH.effOf,Nat.reduceBEq,Nat.reduceAdd,Nat.reduceLT,↓reduceIte,Nat.reduceEqDiff,Nat.reduceLeDiff,Nat.reduceSub,Nat.reduceMul,Int.reduceSub,Int.reduceToNat,Int.reduceBEq,Int.reduceBNe,Int.reduceLT,Int.reduceGT,Int.reduceLE,Int.reduceGE,Int.reduceNeg,Int.reduceAdd,fd,w8]
  repeat (refine ⟨by first | rfl | decide | omega | (simp only [List.length_map,and_true]; omega) | (simp only [List.length_map,List.length_set,and_true]; omega),?_⟩)
  refine loop_unroll ctxU_monoB ?_
  simp only [AH.SD,AH.SE,AOp.call?,AOp.next?,bstep,AV.cells,unAV,binAV,retQ,retV,AH.sliceElems,AH.bytesOf,AH.strOp,AH.bound,AH.missQ,AH.minmaxAV,AH.readOf,AH.effOf,Nat.reduceBEq,Nat.reduceAdd,Nat.reduceLT,↓reduceIte,Nat.reduceEqDiff,Nat.reduceLeDiff,Nat.reduceSub,Nat.reduceMul,Int.reduceSub,Int.reduceToNat,Int.reduceBEq,Int.reduceBNe,Int.reduceLT,Int.reduceGT,Int.reduceLE,Int.reduceGE,Int.reduceNeg,Int.reduceAdd,fd,w8]
  repeat (refine ⟨by first | rfl | decide | omega | (simp only [List.length_map,and_true]; omega) | (simp only [List.length_map,List.length_set,and_true]; omega),?_⟩)
  refine loop_unroll ctxU_monoB ?_
  simp only [AH.SD,AH.SE,AOp.call?,AOp.next?,bstep,AV.cells,unAV,binAV,retQ,retV,AH.sliceElems,AH.bytesOf,AH.strOp,AH.bound,AH.missQ,AH.minmaxAV,AH.readOf,AH.effOf,Nat.reduceBEq,Nat.reduceAdd,Nat.reduceLT,↓reduceIte,Nat.reduceEqDiff,Nat.reduceLeDiff,Nat.reduceSub,Nat.reduceMul,Int.reduceSub,Int.reduceToNat,Int.reduceBEq,Int.reduceBNe,Int.reduceLT,Int.reduceGT,Int.reduceLE,Int.reduceGE,Int.reduceNeg,Int.reduceAdd,fd,w8]
  repeat (refine ⟨by first | rfl | decide | omega | (simp only [List.length_map,and_true]; omega) | (simp only [List.length_map,List.length_set,and_true]; omega),?_⟩)
  rw [byt0,byt1,byt2,byt3]; rfl
theorem number2 (n : Int) : Pure S0 67 [.int .u64 n,.int .i64 2] (.str (num2 n)):=by
  refine fun_sound okF0 Tryz.func67 c67 ?_
  unfold wpF F67
  simp only [AH.SD,AH.SE,AOp.call?,AOp.next?,bstep,AV.cells,unAV,binAV,retQ,retV,AH.sliceElems,AH.bytesOf,AH.strOp,AH.bound,AH.missQ,AH.minmaxAV,AH.readOf,AH.effOf,Nat.reduceBEq,Nat.reduceAdd,Nat.reduceLT,↓reduceIte,Nat.reduceEqDiff,Nat.reduceLeDiff,Nat.reduceSub,Nat.reduceMul,Int.reduceSub,Int.reduceToNat,Int.reduceBEq,Int.reduceBNe,Int.reduceLT,Int.reduceGT,Int.reduceLE,Int.reduceGE,Int.reduceNeg,Int.reduceAdd]
  repeat (refine ⟨by first | rfl | decide | omega | (simp only [List.length_map,and_true]; omega) | (simp only [List.length_map,List.length_set,and_true]; omega),?_⟩)
  refine loop_unroll ctxU_monoB ?_
  simp only [AH.SD,AH.SE,AOp.call?,AOp.next?,bstep,AV.cells,unAV,binAV,retQ,retV,AH.sliceElems,AH.bytesOf,AH.strOp,AH.bound,AH.missQ,AH.minmaxAV,AH.readOf,AH.effOf,Nat.reduceBEq,Nat.reduceAdd,Nat.reduceLT,↓reduceIte,Nat.reduceEqDiff,Nat.reduceLeDiff,Nat.reduceSub,Nat.reduceMul,Int.reduceSub,Int.reduceToNat,Int.reduceBEq,Int.reduceBNe,Int.reduceLT,Int.reduceGT,Int.reduceLE,Int.reduceGE,Int.reduceNeg,Int.reduceAdd,fd,w8]
  repeat (refine ⟨by first | rfl | decide | omega | (simp only [List.length_map,and_true]; omega) | (simp only [List.length_map,List.length_set,and_true]; omega),?_⟩)
  refine loop_unroll ctxU_monoB ?_
  simp only [AH.SD,AH.SE,AOp.call?,AOp.next?,bstep,AV.cells,unAV,binAV,retQ,retV,AH.sliceElems,AH.bytesOf,AH.strOp,AH.bound,AH.missQ,AH.minmaxAV,AH.readOf,AH.effOf,Nat.reduceBEq,Nat.reduceAdd,Nat.reduceLT,↓reduceIte,Nat.reduceEqDiff,Nat.reduceLeDiff,Nat.reduceSub,Nat.reduceMul,Int.reduceSub,Int.reduceToNat,Int.reduceBEq,Int.reduceBNe,Int.reduceLT,Int.reduceGT,Int.reduceLE,Int.reduceGE,Int.reduceNeg,Int.reduceAdd,fd,w8]
  repeat (refine ⟨by first | rfl | decide | omega | (simp only [List.length_map,and_true]; omega) | (simp only [List.length_map,List.length_set,and_true]; omega),?_⟩)
  refine loop_unroll ctxU_monoB ?_
  simp only [AH.SD,AH.SE,AOp.call?,AOp.next?,bstep,AV.cells,unAV,binAV,retQ,retV,AH.sliceElems,AH.bytesOf,AH.strOp,AH.bound,AH.missQ,AH.minmaxAV,AH.readOf,AH.effOf,Nat.reduceBEq,Nat.reduceAdd,Nat.reduceLT,↓reduceIte,Nat.reduceEqDiff,Nat.reduceLeDiff,Nat.reduceSub,Nat.reduceMul,Int.reduceSub,Int.reduceToNat,Int.reduceBEq,Int.reduceBNe,Int.reduceLT,Int.reduceGT,Int.reduceLE,Int.reduceGE,Int.reduceNeg,Int.reduceAdd,fd,w8]
  repeat (refine ⟨by first | rfl | decide | omega | (simp only [List.length_map,and_true]; omega) | (simp only [List.length_map,List.length_set,and_true]; omega),?_⟩)
  rw [byt0,byt1]; rfl
theorem sz2 (a b : UInt8) : (⟨#[a,b]⟩ : ByteArray).size = 2:=rfl
theorem sz4 (a b c d : UInt8) : (⟨#[a,b,c,d]⟩ : ByteArray).size = 4:=rfl
theorem bv_nat (n : Nat) (h : n < 9223372036854775808) : (BitVec.ofInt 64 (n : Int)).toNat = n:=by
  rw [BitVec.toNat_ofInt]; omega
theorem orS (x y s : Nat) (hx : x < 2 ^ s) (hs : s ≤ 24) (hy : y < 256) : IntKind.i64.wrap ((BitVec.ofInt 64 (x : Int) ||| BitVec.ofInt 64 (IntKind.i64.wrap (IntKind.i64.wrap (y : Int) * 2 ^ s))).toNat : Int) = ((x + y * 2 ^ s : Nat) : Int):=by
  have h2 : 2 ^ s ≤ 2 ^ 24:=Nat.pow_le_pow_right (by decide) hs
  have h3 : y * 2 ^ s ≤ 255 * 2 ^ 24:=Nat.mul_le_mul (by omega) h2
  have e1 : IntKind.i64.wrap (y : Int) = (y : Int):=by rw [IntKind.wrap_i64]; omega
  have e2 : (y : Int) * 2 ^ s = ((y * 2 ^ s : Nat) : Int):=by rw [Int.natCast_mul,Int.natCast_pow]; rfl
  have e3 : IntKind.i64.wrap ((y * 2 ^ s : Nat) : Int) = ((y * 2 ^ s : Nat) : Int):=by rw [IntKind.wrap_i64]; omega
  rw [e1,e2,e3,BitVec.toNat_or,bv_nat _ (by omega),bv_nat _ (by omega)]
  have e4 : x ||| y * 2 ^ s = x + y * 2 ^ s:=by
    rw [Nat.or_comm,← Nat.shiftLeft_eq,← Nat.shiftLeft_add_eq_or_of_lt hx,Nat.add_comm]
  rw [e4,IntKind.wrap_i64]
  omega
def val2 (a b : UInt8) : Int:=(a.toNat + 256 * b.toNat : Nat)
def val4 (a b c d : UInt8) : Int:=(a.toNat + 256 * (b.toNat + 256 * (c.toNat + 256 * d.toNat)) : Nat)
theorem m0 : min (IntKind.i64.wrap (8 * 0)).toNat IntKind.i64.bits = 0:=by decide
theorem m1 : min (IntKind.i64.wrap (8 * 1)).toNat IntKind.i64.bits = 8:=by decide
theorem m2 : min (IntKind.i64.wrap (8 * 2)).toNat IntKind.i64.bits = 16:=by decide
theorem m3 : min (IntKind.i64.wrap (8 * 3)).toNat IntKind.i64.bits = 24:=by decide
theorem b64 : IntKind.i64.bits = 64:=rfl
theorem value2 (a b : UInt8) : Pure S0 86 [.str ⟨#[a,b]⟩] (.int .i64 (val2 a b)):=by
  refine fun_sound okF0 Tryz.func86 c86 ?_
  unfold wpF F86
  simp only [AH.SD,AH.SE,AOp.call?,AOp.next?,bstep,AV.cells,unAV,binAV,retQ,retV,AH.sliceElems,AH.bytesOf,AH.strOp,AH.bound,AH.missQ,AH.minmaxAV,AH.readOf,AH.effOf,Nat.reduceBEq,Nat.reduceAdd,Nat.reduceLT,↓reduceIte,Nat.reduceEqDiff,Nat.reduceLeDiff,Nat.reduceSub,Nat.reduceMul,Int.reduceSub,Int.reduceToNat,Int.reduceBEq,Int.reduceBNe,Int.reduceLT,Int.reduceGT,Int.reduceLE,Int.reduceGE,Int.reduceNeg,Int.reduceAdd,sz2]
  refine loop_unroll ctxU_monoB ?_
  simp only [AH.SD,AH.SE,AOp.call?,AOp.next?,bstep,AV.cells,unAV,binAV,retQ,retV,AH.sliceElems,AH.bytesOf,AH.strOp,AH.bound,AH.missQ,AH.minmaxAV,AH.readOf,AH.effOf,Nat.reduceBEq,Nat.reduceAdd,Nat.reduceLT,↓reduceIte,Nat.reduceEqDiff,Nat.reduceLeDiff,Nat.reduceSub,Nat.reduceMul,Int.reduceSub,Int.reduceToNat,Int.reduceBEq,Int.reduceBNe,Int.reduceLT,Int.reduceGT,Int.reduceLE,Int.reduceGE,Int.reduceNeg,Int.reduceAdd,sz2]
  repeat (refine ⟨by first | rfl | decide | omega | (simp only [List.length_map,and_true]; omega) | (simp only [List.length_map,List.length_set,and_true]; omega),?_⟩)
  refine loop_unroll ctxU_monoB ?_
  simp only [AH.SD,AH.SE,AOp.call?,AOp.next?,bstep,AV.cells,unAV,binAV,retQ,retV,AH.sliceElems,AH.bytesOf,AH.strOp,AH.bound,AH.missQ,AH.minmaxAV,AH.readOf,AH.effOf,Nat.reduceBEq,Nat.reduceAdd,Nat.reduceLT,↓reduceIte,Nat.reduceEqDiff,Nat.reduceLeDiff,Nat.reduceSub,Nat.reduceMul,Int.reduceSub,Int.reduceToNat,Int.reduceBEq,Int.reduceBNe,Int.reduceLT,Int.reduceGT,Int.reduceLE,Int.reduceGE,Int.reduceNeg,Int.reduceAdd,sz2]
  repeat (refine ⟨by first | rfl | decide | omega | (simp only [List.length_map,and_true]; omega) | (simp only [List.length_map,List.length_set,and_true]; omega),?_⟩)
  refine loop_unroll ctxU_monoB ?_
  simp only [AH.SD,AH.SE,AOp.call?,AOp.next?,bstep,AV.cells,unAV,binAV,retQ,retV,AH.sliceElems,AH.bytesOf,AH.strOp,AH.bound,AH.missQ,AH.minmaxAV,AH.readOf,AH.effOf,Nat.reduceBEq,Nat.reduceAdd,Nat.reduceLT,↓reduceIte,Nat.reduceEqDiff,Nat.reduceLeDiff,Nat.reduceSub,Nat.reduceMul,Int.reduceSub,Int.reduceToNat,Int.reduceBEq,Int.reduceBNe,Int.reduceLT,Int.reduceGT,Int.reduceLE,Int.reduceGE,Int.reduceNeg,Int.reduceAdd,sz2]
  repeat (refine ⟨by first | rfl | decide | omega | (simp only [List.length_map,and_true]; omega) | (simp only [List.length_map,List.length_set,and_true]; omega),?_⟩)
  have ha:=a.toNat_lt
  have hb:=b.toNat_lt
  have s1:=orS 0 a.toNat 0 (by decide) (by decide) ha
  have s2:=orS (0 + a.toNat * 2 ^ 0) b.toNat 8 (by omega) (by decide) hb
  simp only [m0,m1]
  rw [show (0 : Int) = ((0 : Nat) : Int) from rfl,b64,s1,s2]
  simp only [val2]
  congr 2; omega
theorem value4 (a b c d : UInt8) : Pure S0 86 [.str ⟨#[a,b,c,d]⟩] (.int .i64 (val4 a b c d)):=by
  refine fun_sound okF0 Tryz.func86 c86 ?_
  unfold wpF F86
  simp only [AH.SD,AH.SE,AOp.call?,AOp.next?,bstep,AV.cells,unAV,binAV,retQ,retV,AH.sliceElems,AH.bytesOf,AH.strOp,AH.bound,AH.missQ,AH.minmaxAV,AH.readOf,AH.effOf,Nat.reduceBEq,Nat.reduceAdd,Nat.reduceLT,↓reduceIte,Nat.reduceEqDiff,Nat.reduceLeDiff,Nat.reduceSub,Nat.reduceMul,Int.reduceSub,Int.reduceToNat,Int.reduceBEq,Int.reduceBNe,Int.reduceLT,Int.reduceGT,Int.reduceLE,Int.reduceGE,Int.reduceNeg,Int.reduceAdd,sz4]
  refine loop_unroll ctxU_monoB ?_
  simp only [AH.SD,AH.SE,AOp.call?,AOp.next?,bstep,AV.cells,unAV,binAV,retQ,retV,AH.sliceElems,AH.bytesOf,AH.strOp,AH.bound,AH.missQ,AH.minmaxAV,AH.readOf,AH.effOf,Nat.reduceBEq,Nat.reduceAdd,Nat.reduceLT,↓reduceIte,Nat.reduceEqDiff,Nat.reduceLeDiff,Nat.reduceSub,Nat.reduceMul,Int.reduceSub,Int.reduceToNat,Int.reduceBEq,Int.reduceBNe,Int.reduceLT,Int.reduceGT,Int.reduceLE,Int.reduceGE,Int.reduceNeg,Int.reduceAdd,sz4]
  repeat (refine ⟨by first | rfl | decide | omega | (simp only [List.length_map,and_true]; omega) | (simp only [List.length_map,List.length_set,and_true]; omega),?_⟩)
  refine loop_unroll ctxU_monoB ?_
  simp only [AH.SD,AH.SE,AOp.call?,AOp.next?,bstep,AV.cells,unAV,binAV,retQ,retV,AH.sliceElems,AH.bytesOf,AH.strOp,AH.bound,AH.missQ,AH.minmaxAV,AH.readOf,AH.effOf,Nat.reduceBEq,Nat.reduceAdd,Nat.reduceLT,↓reduceIte,Nat.reduceEqDiff,Nat.reduceLeDiff,Nat.reduceSub,Nat.reduceMul,Int.reduceSub,Int.reduceToNat,Int.reduceBEq,Int.reduceBNe,Int.reduceLT,Int.reduceGT,Int.reduceLE,Int.reduceGE,Int.reduceNeg,Int.reduceAdd,sz4]
  repeat (refine ⟨by first | rfl | decide | omega | (simp only [List.length_map,and_true]; omega) | (simp only [List.length_map,List.length_set,and_true]; omega),?_⟩)
  refine loop_unroll ctxU_monoB ?_
  simp only [AH.SD,AH.SE,AOp.call?,AOp.next?,bstep,AV.cells,unAV,binAV,retQ,retV,AH.sliceElems,AH.bytesOf,AH.strOp,AH.bound,AH.missQ,AH.minmaxAV,AH.readOf,AH.effOf,Nat.reduceBEq,Nat.reduceAdd,Nat.reduceLT,↓reduceIte,Nat.reduceEqDiff,Nat.reduceLeDiff,Nat.reduceSub,Nat.reduceMul,Int.reduceSub,Int.reduceToNat,Int.reduceBEq,Int.reduceBNe,Int.reduceLT,Int.reduceGT,Int.reduceLE,Int.reduceGE,Int.reduceNeg,Int.reduceAdd,sz4]
  repeat (refine ⟨by first | rfl | decide | omega | (simp only [List.length_map,and_true]; omega) | (simp only [List.length_map,List.length_set,and_true]; omega),?_⟩)
  refine loop_unroll ctxU_monoB ?_
  simp only [AH.SD,AH.SE,AOp.call?,AOp.next?,bstep,AV.cells,unAV,binAV,retQ,retV,AH.sliceElems,AH.bytesOf,AH.strOp,AH.bound,AH.missQ,AH.minmaxAV,AH.readOf,AH.effOf,Nat.reduceBEq,Nat.reduceAdd,Nat.reduceLT,↓reduceIte,Nat.reduceEqDiff,Nat.reduceLeDiff,Nat.reduceSub,Nat.reduceMul,Int.reduceSub,Int.reduceToNat,Int.reduceBEq,Int.reduceBNe,Int.reduceLT,Int.reduceGT,Int.reduceLE,Int.reduceGE,Int.reduceNeg,Int.reduceAdd,sz4]
  repeat (refine ⟨by first | rfl | decide | omega | (simp only [List.length_map,and_true]; omega) | (simp only [List.length_map,List.length_set,and_true]; omega),?_⟩)
  refine loop_unroll ctxU_monoB ?_
  simp only [AH.SD,AH.SE,AOp.call?,AOp.next?,bstep,AV.cells,unAV,binAV,retQ,retV,AH.sliceElems,AH.bytesOf,AH.strOp,AH.bound,AH.missQ,AH.minmaxAV,AH.readOf,AH.effOf,Nat.reduceBEq,Nat.reduceAdd,Nat.reduceLT,↓reduceIte,Nat.reduceEqDiff,Nat.reduceLeDiff,Nat.reduceSub,Nat.reduceMul,Int.reduceSub,Int.reduceToNat,Int.reduceBEq,Int.reduceBNe,Int.reduceLT,Int.reduceGT,Int.reduceLE,Int.reduceGE,Int.reduceNeg,Int.reduceAdd,sz4]
  repeat (refine ⟨by first | rfl | decide | omega | (simp only [List.length_map,and_true]; omega) | (simp only [List.length_map,List.length_set,and_true]; omega),?_⟩)
  have ha:=a.toNat_lt
  have hb:=b.toNat_lt
  have hc:=c.toNat_lt
  have hd:=d.toNat_lt
  have s1:=orS 0 a.toNat 0 (by decide) (by decide) ha
  have s2:=orS (0 + a.toNat * 2 ^ 0) b.toNat 8 (by omega) (by decide) hb
  have s3:=orS (0 + a.toNat * 2 ^ 0 + b.toNat * 2 ^ 8) c.toNat 16 (by omega) (by decide) hc
  have s4:=orS (0 + a.toNat * 2 ^ 0 + b.toNat * 2 ^ 8 + c.toNat * 2 ^ 16) d.toNat 24 (by omega) (by decide) hd
  simp only [m0,m1,m2,m3]
  rw [show (0 : Int) = ((0 : Nat) : Int) from rfl,b64,s1,s2,s3,s4]
  simp only [val4]
  congr 2; omega
end Go.Proofs.YthapdikdeoeplaaGreatDoor.Z7
end
section
set_option linter.unusedVariables false
set_option linter.unnecessarySimpa false
open Go AH
set_option linter.unusedSimpArgs false
set_option maxRecDepth 100000
namespace Go.Proofs.YthapdikdeoeplaaGreatDoor.Z7
def bytC (b : UInt8) : List AV:=[.int .u8 (b.toNat : Int)]
def decByt : List AV → Option UInt8
  | [.int .u8 n] =>if n = ((UInt8.ofNat n.toNat).toNat : Int) then some (UInt8.ofNat n.toNat) else none
  | _ =>none
theorem decByt_ok (l : List AV) (b : UInt8) (h : decByt l = some b) : l = bytC b:=by
  unfold decByt at h
  split at h
  · split at h
    · rename_i n hn
      simp only [Option.some.injEq] at h
      subst h
      rw [bytC,← hn]
    · cases h
  · cases h
theorem decByt_de (b : UInt8) : decByt (bytC b) = some b:=by
  simp [decByt,bytC]
def cByt : Cod UInt8:=⟨bytC,decByt,decByt_ok,decByt_de,fun _ =>rfl⟩
instance : FlatE bytC:=⟨cByt.flat⟩
theorem bytC_eq (b : UInt8) : bytC b = [.int .u8 (b.toNat : Int)]:=rfl
def moreB (n : Int) (b : UInt8) : Int:=IntKind.u32.wrap (IntKind.u32.wrap (IntKind.u32.wrap (n * 257) + IntKind.u32.wrap (b.toNat : Int)) + 1)
def moreL (n : Int) (l : List UInt8) : Int:=l.foldl moreB n
def moSt (s : ByteArray) (n : Int) (i : Nat) : St:=⟨[(10,.int .i64 i),(9,.int .i64 s.size),(8,.slc 0 0 s.size none),(0,.int .u32 (moreL n (s.data.toList.take i)))],[some (.row false 1 (s.data.toList.map bytC))]⟩
theorem more_ok (n : Int) (s : ByteArray) (hs : s.size ≤ 1048576) : Pure S0 82 [.int .u32 n,.str s] (.int .u32 (moreL n s.data.toList)):=by
  refine fun_sound okF0 Tryz.func82 c82 ?_
  unfold wpF F82
  simp only [AH.SD,AH.SE,AOp.call?,AOp.next?,bstep,AV.cells,unAV,binAV,retQ,retV,AH.sliceElems,AH.bytesOf,AH.strOp,AH.bound,AH.missQ,AH.minmaxAV,AH.readOf,AH.effOf,Nat.reduceBEq,Nat.reduceAdd,Nat.reduceLT,↓reduceIte,Nat.reduceEqDiff,Nat.reduceLeDiff,Nat.reduceSub,Nat.reduceMul,Int.reduceSub,Int.reduceToNat,Int.reduceBEq,Int.reduceBNe,Int.reduceLT,Int.reduceGT,Int.reduceLE,Int.reduceGE,Int.reduceNeg,Int.reduceAdd]
  have e0 : (s.data.toList.map fun b => [AV.int .u8 (b.toNat : Int)]) = s.data.toList.map bytC:=rfl
  have hsz : s.data.toList.length = s.size:=by rw [Array.length_toList]; rfl
  refine loop_do [0] [10,9,8,0] [] (α:=Nat) (fun i =>s.size - i) (moSt s n) (fun i =>i ≤ s.size) 0 (Nat.zero_le _) (by simp only [AH.SD,AH.SE,AOp.call?,AOp.next?,bstep,AV.cells,unAV,binAV,retQ,retV,AH.sliceElems,AH.bytesOf,AH.strOp,AH.bound,AH.missQ,AH.minmaxAV,AH.readOf,AH.effOf,Nat.reduceBEq,Nat.reduceAdd,Nat.reduceLT,↓reduceIte,Nat.reduceEqDiff,Nat.reduceLeDiff,Nat.reduceSub,Nat.reduceMul,Int.reduceSub,Int.reduceToNat,Int.reduceBEq,Int.reduceBNe,Int.reduceLT,Int.reduceGT,Int.reduceLE,Int.reduceGE,Int.reduceNeg,Int.reduceAdd,AH.SP,AH.PD,AV.inB,vstep,moSt,e0,moreL,List.foldl_nil]) ?_
  intro X i hi ih
  simp only [AH.SD,AH.SE,AOp.call?,AOp.next?,bstep,AV.cells,unAV,binAV,retQ,retV,AH.sliceElems,AH.bytesOf,AH.strOp,AH.bound,AH.missQ,AH.minmaxAV,AH.readOf,AH.effOf,Nat.reduceBEq,Nat.reduceAdd,Nat.reduceLT,↓reduceIte,Nat.reduceEqDiff,Nat.reduceLeDiff,Nat.reduceSub,Nat.reduceMul,Int.reduceSub,Int.reduceToNat,Int.reduceBEq,Int.reduceBNe,Int.reduceLT,Int.reduceGT,Int.reduceLE,Int.reduceGE,Int.reduceNeg,Int.reduceAdd,moSt]
  refine ⟨fun hlt => ?_,fun hlt => ?_⟩
  · have hi1:=lt_of_dec hlt
    have hi2 : i < s.data.toList.length:=by omega
    have wi:=wrapS (i:=i) (by omega)
    have done:=ih (i + 1) hi1 (by omega)
    simp only [moSt,List.take_succ_eq_append_getElem hi2,moreL,List.foldl_append,List.foldl_cons,List.foldl_nil] at done
    simp only [AH.SD,AH.SE,AOp.call?,AOp.next?,bstep,AV.cells,unAV,binAV,retQ,retV,AH.sliceElems,AH.bytesOf,AH.strOp,AH.bound,AH.missQ,AH.minmaxAV,AH.readOf,AH.effOf,Nat.reduceBEq,Nat.reduceAdd,Nat.reduceLT,↓reduceIte,Nat.reduceEqDiff,Nat.reduceLeDiff,Nat.reduceSub,Nat.reduceMul,Int.reduceSub,Int.reduceToNat,Int.reduceBEq,Int.reduceBNe,Int.reduceLT,Int.reduceGT,Int.reduceLE,Int.reduceGE,Int.reduceNeg,Int.reduceAdd,getD_enc,hi2,bytC_eq,wi,List.length_map]
    repeat (refine ⟨by first | rfl | decide | omega | (simp only [List.length_map,and_true]; omega) | (simp only [List.length_map,List.length_set,and_true]; omega),?_⟩)
    refine gc_auto [0] [10,9,8,0] [] ?_
    simp only [AH.SD,AH.SE,AOp.call?,AOp.next?,bstep,AV.cells,unAV,binAV,retQ,retV,AH.sliceElems,AH.bytesOf,AH.strOp,AH.bound,AH.missQ,AH.minmaxAV,AH.readOf,AH.effOf,Nat.reduceBEq,Nat.reduceAdd,Nat.reduceLT,↓reduceIte,Nat.reduceEqDiff,Nat.reduceLeDiff,Nat.reduceSub,Nat.reduceMul,Int.reduceSub,Int.reduceToNat,Int.reduceBEq,Int.reduceBNe,Int.reduceLT,Int.reduceGT,Int.reduceLE,Int.reduceGE,Int.reduceNeg,Int.reduceAdd,AH.SP,AH.PD,AV.inB,vstep]
    exact done
  · have hi1:=ge_of_dec hlt
    obtain rfl : i = s.size:=by omega
    rw [show s.data.toList.take s.size = s.data.toList by rw [← hsz,List.take_length]]
    simp only [AH.SD,AH.SE,AOp.call?,AOp.next?,bstep,AV.cells,unAV,binAV,retQ,retV,AH.sliceElems,AH.bytesOf,AH.strOp,AH.bound,AH.missQ,AH.minmaxAV,AH.readOf,AH.effOf,Nat.reduceBEq,Nat.reduceAdd,Nat.reduceLT,↓reduceIte,Nat.reduceEqDiff,Nat.reduceLeDiff,Nat.reduceSub,Nat.reduceMul,Int.reduceSub,Int.reduceToNat,Int.reduceBEq,Int.reduceBNe,Int.reduceLT,Int.reduceGT,Int.reduceLE,Int.reduceGE,Int.reduceNeg,Int.reduceAdd]
def sumZ (s : ByteArray) : Int:=moreL 1 s.data.toList
def okSz (s : ByteArray) : Prop:=s.size ≤ 1048576
instance (s : ByteArray) : Decidable (okSz s):=by unfold okSz; infer_instance
def moreT : RT:=rtC (cC (aI .u32) (cC aS c0)) (fun x =>okSz x.2.1) fun x => .int .u32 (moreL x.1 x.2.1.data.toList)
theorem moreT_ok : ReadF S0 82 moreT:=rtC_ok (fun x h =>more_ok x.1 x.2.1 h) fun _ =>rfl
theorem moreT_p {n : Int} {s : ByteArray} {M : Nat → Option Blk} : moreT [.int .u32 n,.str s] M = rtC1 (fun (x : Int × ByteArray × Unit) =>okSz x.2.1) (fun x => .int .u32 (moreL x.1 x.2.1.data.toList)) (some (n,s,())):=by
  simp only [moreT,rtC_p,cC_dec,aI_dec,aS_dec,c0_dec,pairO_some]
theorem okSum : CtxOK S0 (ctxU S0 [(82,moreT)] []):=ctxU_ok ⟨moreT_ok,trivial⟩ trivial mixed
theorem sum_ok (s : ByteArray) (hs : okSz s) : Pure S0 68 [.str s] (.int .u32 (sumZ s)):=by
  refine fun_sound okSum Tryz.func68 c68 ?_
  unfold wpF F68
  simp only [AH.SD,AH.SE,AOp.call?,AOp.next?,bstep,AV.cells,unAV,binAV,retQ,retV,AH.sliceElems,AH.bytesOf,AH.strOp,AH.bound,AH.missQ,AH.minmaxAV,AH.readOf,AH.effOf,Nat.reduceBEq,Nat.reduceAdd,Nat.reduceLT,↓reduceIte,Nat.reduceEqDiff,Nat.reduceLeDiff,Nat.reduceSub,Nat.reduceMul,Int.reduceSub,Int.reduceToNat,Int.reduceBEq,Int.reduceBNe,Int.reduceLT,Int.reduceGT,Int.reduceLE,Int.reduceGE,Int.reduceNeg,Int.reduceAdd,moreT_p,rtC1,hs,if_true,sumZ]
def sumT : RT:=rtC (cC aS c0) (fun x =>okSz x.1) fun x => .int .u32 (sumZ x.1)
theorem sumT_ok : ReadF S0 68 sumT:=rtC_ok (fun x h =>sum_ok x.1 h) fun _ =>rfl
theorem sumT_p {s : ByteArray} {M : Nat → Option Blk} : sumT [.str s] M = rtC1 (fun (x : ByteArray × Unit) =>okSz x.1) (fun x => .int .u32 (sumZ x.1)) (some (s,())):=by
  simp only [sumT,rtC_p,cC_dec,aS_dec,c0_dec,pairO_some]
def numP (x : Int × Int × Unit) : Prop:=x.2.1 = 4 ∨ x.2.1 = 2
instance : DecidablePred numP:=fun x =>by unfold numP; infer_instance
def numF (x : Int × Int × Unit) : AV:=.str (if x.2.1 = 4 then num4 x.1 else num2 x.1)
def numT : RT:=rtC (cC (aI .u64) (cC (aI .i64) c0)) numP numF
theorem numT_ok : ReadF S0 67 numT:=rtC_ok (fun x h =>by
  obtain ⟨n,k,u⟩:=x
  rcases h with h | h
  · simp only at h; subst h; exact number4 n
  · simp only at h; subst h; exact number2 n) fun _ =>rfl
theorem numT_4 {n : Int} {M : Nat → Option Blk} : numT [.int .u64 n,.int .i64 4] M = some (.str (num4 n),[]):=by
  simp only [numT,rtC_p,cC_dec,aI_dec,c0_dec,pairO_some]
  exact rtC1_eq (.inl rfl)
theorem numT_2 {n : Int} {M : Nat → Option Blk} : numT [.int .u64 n,.int .i64 2] M = some (.str (num2 n),[]):=by
  simp only [numT,rtC_p,cC_dec,aI_dec,c0_dec,pairO_some]
  exact rtC1_eq (.inr rfl)
theorem num4_sz (n : Int) : (num4 n).size = 4:=rfl
theorem num2_sz (n : Int) : (num2 n).size = 2:=rfl
def endS (seq at_ n : Int) : ByteArray:=num4 (IntKind.u64.wrap seq) ++ num2 (IntKind.u64.wrap at_) ++ num2 (IntKind.u64.wrap n)
theorem okEnd : CtxOK S0 (ctxU S0 [(67,numT)] []):=ctxU_ok ⟨numT_ok,trivial⟩ trivial mixed
theorem end_ok (seq at_ n : Int) : Pure S0 69 [.int .i64 seq,.int .i64 at_,.int .i64 n] (.str (endS seq at_ n)):=by
  refine fun_sound okEnd Tryz.func69 c69 ?_
  unfold wpF F69
  simp only [AH.SD,AH.SE,AOp.call?,AOp.next?,bstep,AV.cells,unAV,binAV,retQ,retV,AH.sliceElems,AH.bytesOf,AH.strOp,AH.bound,AH.missQ,AH.minmaxAV,AH.readOf,AH.effOf,Nat.reduceBEq,Nat.reduceAdd,Nat.reduceLT,↓reduceIte,Nat.reduceEqDiff,Nat.reduceLeDiff,Nat.reduceSub,Nat.reduceMul,Int.reduceSub,Int.reduceToNat,Int.reduceBEq,Int.reduceBNe,Int.reduceLT,Int.reduceGT,Int.reduceLE,Int.reduceGE,Int.reduceNeg,Int.reduceAdd,numT_4,numT_2,endS,num4_sz,num2_sz,ByteArray.size_append]
  decide
def endT : RT:=rtP (cC (aI .i64) (cC (aI .i64) (cC (aI .i64) c0))) fun x => .str (endS x.1 x.2.1 x.2.2.1)
theorem endT_ok : ReadF S0 69 endT:=rtP_ok (fun x =>end_ok x.1 x.2.1 x.2.2.1) fun _ =>rfl
theorem endT_p {a b c : Int} {M : Nat → Option Blk} : endT [.int .i64 a,.int .i64 b,.int .i64 c] M = some (.str (endS a b c),[]):=by
  simp only [endT,rtP,cC_dec,aI_dec,c0_dec,pairO_some,Option.map_some]
def sizeN (n : Nat) : Nat:=(n + 63) / 56
theorem size_ok (s : ByteArray) (hs : okSz s) : Pure S0 50 [.str s] (.int .i64 (sizeN s.size)):=by
  have h1 : s.size ≤ 1048576:=hs
  refine fun_sound okF0 Tryz.func50 c50 ?_
  unfold wpF F50
  have w1 : IntKind.i64.wrap ((s.size : Int) + 8) = ((s.size + 8 : Nat) : Int):=by rw [IntKind.wrap_i64]; omega
  have w2 : IntKind.i64.wrap (((s.size + 8 : Nat) : Int) + 56) = ((s.size + 64 : Nat) : Int):=by rw [IntKind.wrap_i64]; omega
  have w3 : IntKind.i64.wrap (((s.size + 64 : Nat) : Int) - 1) = ((s.size + 63 : Nat) : Int):=by rw [IntKind.wrap_i64]; omega
  have w4 : ((s.size + 63 : Nat) : Int).tdiv 56 = ((sizeN s.size : Nat) : Int):=by
    rw [Int.tdiv_eq_ediv_of_nonneg (by omega)]; unfold sizeN; omega
  have h5 : sizeN s.size ≤ 1048576:=by unfold sizeN; omega
  have w5 : IntKind.i64.wrap ((sizeN s.size : Nat) : Int) = ((sizeN s.size : Nat) : Int):=by rw [IntKind.wrap_i64]; omega
  simp only [AH.SD,AH.SE,AOp.call?,AOp.next?,bstep,AV.cells,unAV,binAV,retQ,retV,AH.sliceElems,AH.bytesOf,AH.strOp,AH.bound,AH.missQ,AH.minmaxAV,AH.readOf,AH.effOf,Nat.reduceBEq,Nat.reduceAdd,Nat.reduceLT,↓reduceIte,Nat.reduceEqDiff,Nat.reduceLeDiff,Nat.reduceSub,Nat.reduceMul,Int.reduceSub,Int.reduceToNat,Int.reduceBEq,Int.reduceBNe,Int.reduceLT,Int.reduceGT,Int.reduceLE,Int.reduceGE,Int.reduceNeg,Int.reduceAdd,w1,w2,w3,w4,w5]
  decide
def sizeT : RT:=rtC (cC aS c0) (fun x =>okSz x.1) fun x => .int .i64 (sizeN x.1.size)
theorem sizeT_ok : ReadF S0 50 sizeT:=rtC_ok (fun x h =>size_ok x.1 h) fun _ =>rfl
theorem sizeT_p {s : ByteArray} {M : Nat → Option Blk} : sizeT [.str s] M = rtC1 (fun (x : ByteArray × Unit) =>okSz x.1) (fun x => .int .i64 (sizeN x.1.size)) (some (s,())):=by
  simp only [sizeT,rtC_p,cC_dec,aS_dec,c0_dec,pairO_some]
end Go.Proofs.YthapdikdeoeplaaGreatDoor.Z7
end
section
set_option linter.unusedVariables false
set_option linter.unnecessarySimpa false
namespace Go.Proofs
open Go.Shelf
def Tryz.lays156_ren : Go.Shelf.Ren:=⟨fun | 156 => 48 | 165 => 64 | 166 => 65 | 169 => 66 | 240 => 80 | 241 => 81 | 276 => 88 | 277 => 89 | n =>n,fun | 31 => 22 | 9 => 9 | 3 => 3 | 4 => 4 | 0 => 0 | 20 => 20 | 72 => 98 | 76 => 100 | 70 => 96 | 37 => 76 | 75 => 30 | 127 => 126 | 164 => 135 | 5 => 5 | 80 => 40 | n =>n,fun | n =>n⟩
theorem Tryz.lays156 : Go.Proofs.Lays.n156 Tryz.prog Tryz.lays156_ren:={
  mixed:=by kernel_rfl
  f156:=Tryz.func48.trans (congrArg some (by kernel_rfl))
  f165:=Tryz.func64.trans (congrArg some (by kernel_rfl))
  f166:=Tryz.func65.trans (congrArg some (by kernel_rfl))
  f169:=Tryz.func66.trans (congrArg some (by kernel_rfl))
  f240:=Tryz.func80.trans (congrArg some (by kernel_rfl))
  f241:=Tryz.func81.trans (congrArg some (by kernel_rfl))
  f276:=Tryz.func88.trans (congrArg some (by kernel_rfl))
  f277:=Tryz.func89.trans (congrArg some (by kernel_rfl))
  t0:=Tryz.underlying0
  a0:=Tryz.isAgg0
  z0:=Tryz.sizeOf0
  v0:=Tryz.zeroValue0
  t3:=Tryz.underlying3
  a3:=Tryz.isAgg3
  z3:=Tryz.sizeOf3
  v3:=Tryz.zeroValue3
  t4:=Tryz.underlying4
  a4:=Tryz.isAgg4
  z4:=Tryz.sizeOf4
  v4:=Tryz.zeroValue4
  t9:=Tryz.underlying9
  a9:=Tryz.isAgg9
  z9:=Tryz.sizeOf9
  v9:=Tryz.zeroValue9
  t20:=Tryz.underlying20
  a20:=Tryz.isAgg20
  z20:=Tryz.sizeOf20
  v20:=Tryz.zeroValue20
  t31:=Tryz.underlying22
  a31:=Tryz.isAgg22
  z31:=Tryz.sizeOf22
  v31:=Tryz.zeroValue22
  t37:=Tryz.underlying76
  a37:=Tryz.isAgg76
  z37:=Tryz.sizeOf76
  v37:=Tryz.zeroValue76
  t70:=Tryz.underlying96
  a70:=Tryz.isAgg96
  z70:=Tryz.sizeOf96
  v70:=Tryz.zeroValue96
  t72:=Tryz.underlying98
  a72:=Tryz.isAgg98
  z72:=Tryz.sizeOf98
  v72:=Tryz.zeroValue98
  t75:=Tryz.underlying30
  a75:=Tryz.isAgg30
  z75:=Tryz.sizeOf30
  v75:=Tryz.zeroValue30
  t76:=Tryz.underlying100
  a76:=Tryz.isAgg100
  z76:=Tryz.sizeOf100
  v76:=Tryz.zeroValue100
  t127:=Tryz.underlying126
  a127:=Tryz.isAgg126
  z127:=Tryz.sizeOf126
  v127:=Tryz.zeroValue126
  t164:=Tryz.underlying135
  a164:=Tryz.isAgg135
  z164:=Tryz.sizeOf135
  v164:=Tryz.zeroValue135 }
theorem Tryz.Builder_Extra_156 : Builder.Extra Tryz.prog Tryz.lays156_ren:={
  sizeBuilder:=by kernel_rfl
  liesBuilder:=by kernel_rfl
  t5:=Tryz.underlying5
  a5:=Tryz.isAgg5
  z5:=Tryz.sizeOf5
  v5:=Tryz.zeroValue5
  infoByte:=by kernel_rfl
  cellsByte:=by kernel_rfl
  sizeByte:=by kernel_rfl
  neB5:=by decide }
def Tryz.lays105_ren : Go.Shelf.Ren:=⟨fun | 105 => 55 | 212 => 72 | 99 => 73 | 165 => 64 | 166 => 65 | 170 => 74 | 169 => 66 | 263 => 83 | 264 => 84 | 206 => 85 | 240 => 80 | 241 => 81 | 276 => 88 | 277 => 89 | n =>n,fun | 9 => 9 | 3 => 3 | 4 => 4 | 20 => 20 | 0 => 0 | 46 => 54 | 109 => 106 | 5 => 5 | 72 => 98 | 76 => 100 | 51 => 81 | 146 => 127 | 53 => 103 | 148 => 129 | 70 => 96 | 37 => 76 | 75 => 30 | 127 => 126 | 164 => 135 | 80 => 40 | n =>n,fun | n =>n⟩
theorem Tryz.lays105 : Go.Proofs.Lays.n105 Tryz.prog Tryz.lays105_ren:={
  mixed:=by kernel_rfl
  f99:=Tryz.func73.trans (congrArg some (by kernel_rfl))
  f105:=Tryz.func55.trans (congrArg some (by kernel_rfl))
  f165:=Tryz.func64.trans (congrArg some (by kernel_rfl))
  f166:=Tryz.func65.trans (congrArg some (by kernel_rfl))
  f169:=Tryz.func66.trans (congrArg some (by kernel_rfl))
  f170:=Tryz.func74.trans (congrArg some (by kernel_rfl))
  f206:=Tryz.func85.trans (congrArg some (by kernel_rfl))
  f212:=Tryz.func72.trans (congrArg some (by kernel_rfl))
  f240:=Tryz.func80.trans (congrArg some (by kernel_rfl))
  f241:=Tryz.func81.trans (congrArg some (by kernel_rfl))
  f263:=Tryz.func83.trans (congrArg some (by kernel_rfl))
  f264:=Tryz.func84.trans (congrArg some (by kernel_rfl))
  f276:=Tryz.func88.trans (congrArg some (by kernel_rfl))
  f277:=Tryz.func89.trans (congrArg some (by kernel_rfl))
  t0:=Tryz.underlying0
  a0:=Tryz.isAgg0
  z0:=Tryz.sizeOf0
  v0:=Tryz.zeroValue0
  t3:=Tryz.underlying3
  a3:=Tryz.isAgg3
  z3:=Tryz.sizeOf3
  v3:=Tryz.zeroValue3
  t4:=Tryz.underlying4
  a4:=Tryz.isAgg4
  z4:=Tryz.sizeOf4
  v4:=Tryz.zeroValue4
  t5:=Tryz.underlying5
  a5:=Tryz.isAgg5
  z5:=Tryz.sizeOf5
  v5:=Tryz.zeroValue5
  t9:=Tryz.underlying9
  a9:=Tryz.isAgg9
  z9:=Tryz.sizeOf9
  v9:=Tryz.zeroValue9
  t20:=Tryz.underlying20
  a20:=Tryz.isAgg20
  z20:=Tryz.sizeOf20
  v20:=Tryz.zeroValue20
  t37:=Tryz.underlying76
  a37:=Tryz.isAgg76
  z37:=Tryz.sizeOf76
  v37:=Tryz.zeroValue76
  t46:=Tryz.underlying54
  a46:=Tryz.isAgg54
  z46:=Tryz.sizeOf54
  v46:=Tryz.zeroValue54
  t51:=Tryz.underlying81
  a51:=Tryz.isAgg81
  z51:=Tryz.sizeOf81
  v51:=Tryz.zeroValue81
  t53:=Tryz.underlying103
  a53:=Tryz.isAgg103
  z53:=Tryz.sizeOf103
  v53:=Tryz.zeroValue103
  t70:=Tryz.underlying96
  a70:=Tryz.isAgg96
  z70:=Tryz.sizeOf96
  v70:=Tryz.zeroValue96
  t72:=Tryz.underlying98
  a72:=Tryz.isAgg98
  z72:=Tryz.sizeOf98
  v72:=Tryz.zeroValue98
  t75:=Tryz.underlying30
  a75:=Tryz.isAgg30
  z75:=Tryz.sizeOf30
  v75:=Tryz.zeroValue30
  t76:=Tryz.underlying100
  a76:=Tryz.isAgg100
  z76:=Tryz.sizeOf100
  v76:=Tryz.zeroValue100
  t109:=Tryz.underlying106
  a109:=Tryz.isAgg106
  z109:=Tryz.sizeOf106
  v109:=Tryz.zeroValue106
  t127:=Tryz.underlying126
  a127:=Tryz.isAgg126
  z127:=Tryz.sizeOf126
  v127:=Tryz.zeroValue126
  t146:=Tryz.underlying127
  a146:=Tryz.isAgg127
  z146:=Tryz.sizeOf127
  v146:=Tryz.zeroValue127
  t148:=Tryz.underlying129
  a148:=Tryz.isAgg129
  z148:=Tryz.sizeOf129
  v148:=Tryz.zeroValue129
  t164:=Tryz.underlying135
  a164:=Tryz.isAgg135
  z164:=Tryz.sizeOf135
  v164:=Tryz.zeroValue135 }
theorem Tryz.Builder_Extra_105 : Builder.Extra Tryz.prog Tryz.lays105_ren:={
  sizeBuilder:=by kernel_rfl
  liesBuilder:=by kernel_rfl
  t5:=Tryz.underlying5
  a5:=Tryz.isAgg5
  z5:=Tryz.sizeOf5
  v5:=Tryz.zeroValue5
  infoByte:=by kernel_rfl
  cellsByte:=by kernel_rfl
  sizeByte:=by kernel_rfl
  neB5:=by decide }
open Go.RowKit Go.Lib in
theorem Tryz.strings_Repeat (s : ByteArray) (c : Nat) (w : World) (hc : c ≤ 9223372036854775807) (hlen : s.size * c ≤ 140737488355328) :
    Calls Tryz.prog 55 #[.string s,.int .i64 c] w fun e w' =>e = .returned (.string ⟨(Lib.repeatL s.data.toList c).toArray⟩) ∧ Below w.heap.size w w':=Any.strings_Repeat Tryz.lays105 Tryz.Builder_Extra_105 s c w hc hlen
end Go.Proofs
end
section
set_option linter.unusedVariables false
set_option linter.unnecessarySimpa false
open Go AH
set_option linter.unusedSimpArgs false
namespace Go.Proofs.YthapdikdeoeplaaGreatDoor.Z7
def strC (s : ByteArray) : List AV:=[.str s]
def decStr : List AV → Option ByteArray
  | [.str s] =>some s
  | _ =>none
theorem decStr_ok (l : List AV) (s : ByteArray) (h : decStr l = some s) : l = strC s:=by
  unfold decStr at h
  split at h
  · simp only [Option.some.injEq] at h; subst h; rfl
  · cases h
def cStr : Cod ByteArray:=⟨strC,decStr,decStr_ok,fun _ =>rfl,fun _ =>rfl⟩
instance : FlatE strC:=⟨cStr.flat⟩
theorem strC_eq (s : ByteArray) : strC s = [.str s]:=rfl
end Go.Proofs.YthapdikdeoeplaaGreatDoor.Z7
end
section
set_option linter.unusedVariables false
set_option linter.unnecessarySimpa false
open Go AH Go.RowKit
set_option linter.unusedSimpArgs false
set_option maxRecDepth 100000
namespace Go.Proofs.YthapdikdeoeplaaGreatDoor.Z7
theorem callRes_of {S : AH.Sys} {g : FuncId} {fn : Func} {us : Array Value} {w : World} {R : Value → World → Prop} (hf : S.P.funcs[g]? = some fn) (hb : fn.body.isSome = true) (hn : (fn.name == "runtime.NumGoroutine") = false)
    (h : Calls S.P g us w fun e w' => ∃ v,e = .returned v ∧ R v w') : CallRes S.P g us w R:=by
  unfold CallRes
  have : (callFunc g us).run S.P w = .ok (.enter g us) w:=by
    have hb' : fn.body ≠ none:=by intro q; rw [q] at hb; cases hb
    have hn' : ¬ fn.name = "runtime.NumGoroutine" := by simpa using hn
    simp [callFunc,hf,hn',hb']
  rw [this]
  exact h
theorem keeps_below {own : Nat → Prop} {w0 w w' : World} (hk : Keeps own w0 w) (h : Below w.heap.size w w') : Keeps own w0 w' :=
  ⟨h.os.trans hk.os,h.output.trans hk.output,Nat.le_trans hk.size h.size,fun b hb ho =>(h.block b (Nat.lt_of_lt_of_le hb hk.size)).trans (hk.kept b hb ho),hk.new⟩
theorem mr_below {S : AH.Sys} {eb : Nat → Addr} {φ : Emb} {M : Nat → Option Blk} {own : Nat → Prop} {w w' : World} (hM : MR S.errT eb φ M own w) (h : Below w.heap.size w w') : MR S.errT eb φ M own w' :=
  ⟨hM.dom,hM.kk,fun id b hi hs =>by
    obtain ⟨o,ho,hb⟩:=hM.blk id b hi hs
    exact ⟨o,by rw [h.block _ (Array.getElem?_eq_some_iff.1 ho).1]; exact ho,hb⟩,hM.own,hM.inj⟩
def repS (s : ByteArray) (c : Nat) : ByteArray:=⟨(Lib.repeatL s.data.toList c).toArray⟩
def okRep (s : ByteArray) (c : Int) : Prop:=0 ≤ c ∧ s.size ≤ 1024 ∧ c ≤ 1048576
instance (s : ByteArray) (c : Int) : Decidable (okRep s c):=by unfold okRep; infer_instance
theorem rep_ok (s : ByteArray) (c : Nat) (h : okRep s c) : Pure S0 55 [.str s,.int .i64 c] (.str (repS s c)):=by
  intro eb φ own w0 w us hA hus hM hk hb
  obtain ⟨u,h1⟩ : ∃ u,us.toList = u:=⟨_,rfl⟩
  rw [h1] at hus
  cases hus with
  | cons _ u1 _ us1 v1 hus =>
    cases hus with
    | cons _ u2 _ us2 v2 hus =>
      cases hus
      cases v1
      cases v2
      obtain rfl : us = #[.string s,.int .i64 c]:=by cases us; simp_all
      refine callRes_of Tryz.func55 rfl (by decide) ?_
      have hl : s.size * c ≤ 140737488355328:=by
        have:=h.2.1
        have h3:=h.2.2
        have : s.size * c ≤ 1024 * 1048576:=Nat.mul_le_mul this (by omega)
        omega
      refine (Tryz.strings_Repeat s c w (by have:=h.2.2; omega) hl).mono ?_
      rintro e w' ⟨rfl,hw⟩
      exact ⟨_,rfl,φ,_,[],rfl,.refl φ,.str _,mr_below hM hw,keeps_below hk hw,hb⟩
def repT : RT:=fun args _ =>match args with
  | [.str s,.int .i64 c] =>if okRep s c then some (.str (repS s c.toNat),[]) else none
  | _ =>none
theorem repT_ok : ReadF S0 55 repT:=ReadF.pure fun args M v foot h =>by
  unfold repT at h
  split at h
  · rename_i s c
    split at h
    · rename_i hc
      simp only [Option.some.injEq,Prod.mk.injEq] at h
      obtain ⟨rfl,rfl⟩:=h
      obtain ⟨n,rfl⟩:=Int.eq_ofNat_of_zero_le hc.1
      exact ⟨rfl,fun M' =>by simp only [repT,hc,if_true],rfl,rfl,rep_ok s n hc⟩
    · cases h
  · cases h
theorem repT_eq {s : ByteArray} {c : Nat} {M : Nat → Option Blk} (h : okRep s c) : repT [.str s,.int .i64 c] M = some (.str (repS s c),[]):=by
  simp only [repT,h,if_true,Int.toNat_natCast]
def catS (L : List ByteArray) : ByteArray:=⟨(L.map (·.data.toList)).flatten.toArray⟩
def okJ (L : List ByteArray) : Prop:=(∀ s ∈ L,s.size ≤ 1048576) ∧ L.length ≤ 1048576
instance (L : List ByteArray) : Decidable (okJ L):=by unfold okJ; infer_instance
theorem flat_len {m : Nat} : ∀ (l : List (List UInt8)),(∀ x ∈ l,x.length ≤ m) → l.flatten.length ≤ l.length * m
  | [],_ =>by simp
  | x :: r,h =>by
    have h1:=h x (List.mem_cons_self ..)
    have h2:=flat_len r fun y hy =>h y (List.mem_cons_of_mem _ hy)
    rw [List.flatten_cons,List.length_append,List.length_cons,Nat.succ_mul]
    omega
end Go.Proofs.YthapdikdeoeplaaGreatDoor.Z7
end
section
set_option linter.unusedVariables false
set_option linter.unnecessarySimpa false
open Go AH
set_option linter.unusedSimpArgs false
set_option maxRecDepth 100000
namespace Go.Proofs.YthapdikdeoeplaaGreatDoor.Z7
def headS (d : ByteArray) : ByteArray:=num4 (IntKind.u64.wrap (d.size : Int)) ++ num4 (IntKind.u64.wrap (sumZ d)) ++ d
def padN (d : ByteArray) : Nat:=sizeN d.size * 56 - (headS d).size
def fullS (d : ByteArray) : ByteArray:=headS d ++ repS ⟨#[0]⟩ (padN d)
def blkS (seq : Int) (d : ByteArray) (i : Nat) : ByteArray:=(fullS d).extract (i * 56) ((i + 1) * 56) ++ endS seq i (sizeN d.size)
def blkL (seq : Int) (d : ByteArray) (k : Nat) : List ByteArray:=(List.range k).map (blkS seq d)
theorem blkL_len (seq : Int) (d : ByteArray) (k : Nat) : (blkL seq d k).length = k:=by simp [blkL]
theorem blkL_succ (seq : Int) (d : ByteArray) (k : Nat) : blkL seq d (k + 1) = blkL seq d k ++ [blkS seq d k]:=by simp [blkL,List.range_succ]
theorem head_sz (d : ByteArray) : (headS d).size = 8 + d.size:=by
  simp only [headS,ByteArray.size_append,num4_sz]
theorem endS_sz (a b c : Int) : (endS a b c).size = 8:=rfl
theorem imax : IntKind.i64.max = 9223372036854775807:=rfl
theorem repS_sz (k : Nat) : (repS ⟨#[0]⟩ k).size = k:=by
  unfold repS
  show (Lib.repeatL [0] k).toArray.size = k
  rw [List.size_toArray,Lib.repeatL_length]; simp
theorem full_sz (d : ByteArray) : (fullS d).size = sizeN d.size * 56:=by
  have h1:=head_sz d
  have h2 : 8 + d.size ≤ sizeN d.size * 56:=by unfold sizeN; omega
  rw [fullS,ByteArray.size_append,repS_sz,padN]
  omega
theorem okBk : CtxOK S0 (ctxU S0 [(50,sizeT),(67,numT),(68,sumT),(55,repT),(69,endT)] []):=ctxU_ok ⟨sizeT_ok,numT_ok,sumT_ok,repT_ok,endT_ok,trivial⟩ trivial mixed
def bkSt (seq : Int) (d : ByteArray) (i : Nat) : St:=⟨[(44,.int .i64 i),(43,.int .i64 (sizeN d.size)),(8,.slc 0 0 (blkL seq d i).length none),(7,.str (fullS d)),(6,.int .i64 (sizeN d.size)),(0,.int .i64 seq)],[some (.row false 1 ((blkL seq d i).map strC))]⟩
theorem blocks_ok (seq : Int) (d : ByteArray) (h1 : 1 ≤ seq) (h2 : seq ≤ 2147483647) (h3 : d.size ≤ 6000) : CallA1 S0 51 [.int .i64 seq,.str d] [] fun r m =>r = .tup [.slc 0 0 (sizeN d.size) none,.nili] ∧ m = [some (.row false 1 ((blkL seq d (sizeN d.size)).map strC))]:=by
  refine CallA1.fin ?_
  refine fun_sound okBk Tryz.func51 c51 ?_
  unfold wpF F51
  have d1 : decide (seq < 1) = false:=by simp only [decide_eq_false_iff_not]; omega
  have d2 : decide (seq > 2147483647) = false:=by simp only [decide_eq_false_iff_not]; omega
  have d3 : decide ((d.size : Int) > 6000) = false:=by simp only [decide_eq_false_iff_not]; omega
  have hok : okSz d:=by unfold okSz; omega
  have hsn : sizeN d.size ≤ 200:=by unfold sizeN; omega
  have hhd:=head_sz d
  have hle : 8 + d.size ≤ sizeN d.size * 56:=by unfold sizeN; omega
  have w1 : IntKind.i64.wrap ((sizeN d.size : Int) * 56) = ((sizeN d.size * 56 : Nat) : Int):=by rw [IntKind.wrap_i64]; omega
  have w2 : IntKind.i64.wrap (((sizeN d.size * 56 : Nat) : Int) - ((headS d).size : Int)) = ((padN d : Nat) : Int):=by rw [IntKind.wrap_i64]; unfold padN; omega
  have hrp : okRep ⟨#[0]⟩ ((padN d : Nat) : Int):=⟨by omega,by decide,by unfold padN; omega⟩
  have e1 : num4 (IntKind.u64.wrap (d.size : Int)) ++ num4 (IntKind.u64.wrap (sumZ d)) ++ d = headS d:=rfl
  have e2 : headS d ++ repS ⟨#[0]⟩ (padN d) = fullS d:=rfl
  simp only [AH.SD,AH.SE,AOp.call?,AOp.next?,bstep,AV.cells,unAV,binAV,retQ,retV,AH.sliceElems,AH.bytesOf,AH.strOp,AH.bound,AH.missQ,AH.minmaxAV,AH.readOf,AH.effOf,simprocAttr,d1,d2,d3,sizeT_p,sumT_p,rtC1,hok,if_true,numT_4,e1,w1,w2,repT_eq hrp,e2]
  refine ⟨by rw [num4_sz,num4_sz,imax]; omega,by rw [ByteArray.size_append,num4_sz,num4_sz,imax]; omega,by rw [repS_sz,hhd,imax]; unfold padN; omega,?_⟩
  have hfs:=full_sz d
  refine loop_do [] [44,43,8,7,6,0] [.tm 8 1] (α:=Nat) (fun i =>sizeN d.size - i) (bkSt seq d) (fun i =>i ≤ sizeN d.size) 0 (Nat.zero_le _) (by simp only [AH.SD,AH.SE,AOp.call?,AOp.next?,bstep,AV.cells,unAV,binAV,retQ,retV,AH.sliceElems,AH.bytesOf,AH.strOp,AH.bound,AH.missQ,AH.minmaxAV,AH.readOf,AH.effOf,simprocAttr,AH.SP,AH.PD,AV.inB,vstep,bkSt,show blkL seq d 0 = [] from rfl]) ?_
  intro X i hi ih
  simp only [AH.SD,AH.SE,AOp.call?,AOp.next?,bstep,AV.cells,unAV,binAV,retQ,retV,AH.sliceElems,AH.bytesOf,AH.strOp,AH.bound,AH.missQ,AH.minmaxAV,AH.readOf,AH.effOf,simprocAttr,bkSt,blkL_len]
  refine ⟨fun hlt => ?_,fun hlt => ?_⟩
  · have hi1:=lt_of_dec hlt
    have wi:=wrapS (i:=i) (by omega)
    have wa : IntKind.i64.wrap ((i : Int) * 56) = ((i * 56 : Nat) : Int):=by rw [IntKind.wrap_i64]; omega
    have wb : IntKind.i64.wrap (((i + 1 : Nat) : Int) * 56) = (((i + 1) * 56 : Nat) : Int):=by rw [IntKind.wrap_i64]; omega
    have done:=ih (i + 1) hi1 (by omega)
    simp only [bkSt,blkL_succ,blkL_len,List.map_append,List.map_cons,List.map_nil,List.length_append,List.length_cons,List.length_nil,Nat.zero_add,strC_eq,blkS] at done
    have e3 : ((blkL seq d i).map strC).take i = (blkL seq d i).map strC:=List.take_of_length_le (by rw [List.length_map,blkL_len]; exact Nat.le_refl _)
    have hxs : ((fullS d).extract (i * 56) ((i + 1) * 56)).size = 56:=by rw [ByteArray.size_extract,hfs]; omega
    simp only [AH.SD,AH.SE,AOp.call?,AOp.next?,bstep,AV.cells,unAV,binAV,retQ,retV,AH.sliceElems,AH.bytesOf,AH.strOp,AH.bound,AH.missQ,AH.minmaxAV,AH.readOf,AH.effOf,simprocAttr,wi,wa,wb,endT_p,Int.toNat_natCast,hfs,e3,List.length_map,blkL_len,hxs,endS_sz,imax]
    repeat (refine ⟨by first | rfl | decide | omega | (simp only [List.length_map,List.length_set,and_true]; omega),?_⟩)
    refine gc_auto [2] [44,43,8,7,6,0] [] ?_
    simp only [AH.SD,AH.SE,AOp.call?,AOp.next?,bstep,AV.cells,unAV,binAV,retQ,retV,AH.sliceElems,AH.bytesOf,AH.strOp,AH.bound,AH.missQ,AH.minmaxAV,AH.readOf,AH.effOf,simprocAttr,AH.SP,AH.PD,AV.inB,vstep,List.length_append,List.length_map,blkL_len]
    exact done
  · have hi1:=ge_of_dec hlt
    obtain rfl : i = sizeN d.size:=by omega
    simp only [AH.SD,AH.SE,AOp.call?,AOp.next?,bstep,AV.cells,unAV,binAV,retQ,retV,AH.sliceElems,AH.bytesOf,AH.strOp,AH.bound,AH.missQ,AH.minmaxAV,AH.readOf,AH.effOf,simprocAttr]
    refine ⟨[0],[],?_⟩
    simp only [AH.SD,AH.SE,AOp.call?,AOp.next?,bstep,AV.cells,unAV,binAV,retQ,retV,AH.sliceElems,AH.bytesOf,AH.strOp,AH.bound,AH.missQ,AH.minmaxAV,AH.readOf,AH.effOf,simprocAttr,AH.SP,AH.PD,AV.inB,vstep,blkL_len]
def okBl (x : Int × ByteArray × Unit) : Prop:=1 ≤ x.1 ∧ x.1 ≤ 2147483647 ∧ x.2.1.size ≤ 6000
instance : DecidablePred okBl:=fun x =>by unfold okBl; infer_instance
def bksT : ET:=etN (cC (aI .i64) (cC aS c0)) fun x =>if okBl x then some (.tup [.slc 0 0 (sizeN x.2.1.size) none,.nili],[some (.row false 1 ((blkL x.1 x.2.1 (sizeN x.2.1.size)).map strC))]) else none
theorem bksT_ok : EffF S0 51 bksT:=etN_ok fun x v m' h =>by
  split at h
  · rename_i hx
    simp only [Option.some.injEq,Prod.mk.injEq] at h
    obtain ⟨rfl,rfl⟩:=h
    exact ⟨rfl,blocks_ok x.1 x.2.1 hx.1 hx.2.1 hx.2.2⟩
  · cases h
end Go.Proofs.YthapdikdeoeplaaGreatDoor.Z7
end
section
set_option linter.unusedVariables false
set_option linter.unnecessarySimpa false
open Go AH
set_option linter.unusedSimpArgs false
set_option maxRecDepth 100000
namespace Go.Proofs.YthapdikdeoeplaaGreatDoor.Z7
def trN (s : ByteArray) (b : UInt8) : Nat → Nat
  | 0 => 0
  | k + 1 =>bif s.data.toList.getD k 0 == b then trN s b k else k + 1
theorem ex_get (s : ByteArray) {k j : Nat} (hk : k ≤ s.size) (hj : j < k) : (s.extract 0 k).data.toList.getD j 0 = s.data.toList.getD j 0:=by
  rw [Lib.extract_data]
  simp only [List.drop_zero,Nat.sub_zero]
  rw [List.getD_eq_getElem?_getD,List.getElem?_take_of_lt hj,← List.getD_eq_getElem?_getD]
def trSt (s : ByteArray) (b : UInt8) (k : Nat) : St:=⟨[(1,.int .u8 (b.toNat : Int)),(0,.str (s.extract 0 k))],[]⟩
theorem trimR_ok (s : ByteArray) (b : UInt8) (hs : okSz s) : Pure S0 91 [.str s,.int .u8 (b.toNat : Int)] (.str (s.extract 0 (trN s b s.size))):=by
  have h1 : s.size ≤ 1048576:=hs
  refine fun_sound okF0 Tryz.func91 c91 ?_
  unfold wpF F91
  simp only [AH.SD,AH.SE,AOp.call?,AOp.next?,bstep,AV.cells,unAV,binAV,retQ,retV,AH.sliceElems,AH.bytesOf,AH.strOp,AH.bound,AH.missQ,AH.minmaxAV,AH.readOf,AH.effOf,Nat.reduceBEq,Nat.reduceAdd,Nat.reduceLT,↓reduceIte,Nat.reduceEqDiff,Nat.reduceLeDiff,Nat.reduceSub,Nat.reduceMul,Int.reduceSub,Int.reduceToNat,Int.reduceBEq,Int.reduceBNe,Int.reduceLT,Int.reduceGT,Int.reduceLE,Int.reduceGE,Int.reduceNeg,Int.reduceAdd]
  refine loop_do [] [1,0] [] (α:=Nat) (fun k =>k) (trSt s b) (fun k =>k ≤ s.size ∧ trN s b k = trN s b s.size) s.size ⟨Nat.le_refl _,rfl⟩ (by simp only [AH.SD,AH.SE,AOp.call?,AOp.next?,bstep,AV.cells,unAV,binAV,retQ,retV,AH.sliceElems,AH.bytesOf,AH.strOp,AH.bound,AH.missQ,AH.minmaxAV,AH.readOf,AH.effOf,Nat.reduceBEq,Nat.reduceAdd,Nat.reduceLT,↓reduceIte,Nat.reduceEqDiff,Nat.reduceLeDiff,Nat.reduceSub,Nat.reduceMul,Int.reduceSub,Int.reduceToNat,Int.reduceBEq,Int.reduceBNe,Int.reduceLT,Int.reduceGT,Int.reduceLE,Int.reduceGE,Int.reduceNeg,Int.reduceAdd,AH.SP,AH.PD,AV.inB,vstep,trSt,ByteArray.extract_zero_size]) ?_
  rintro X k ⟨hk,hp⟩ ih
  have hsz : (s.extract 0 k).size = k:=by rw [ByteArray.size_extract]; omega
  cases k with
  | zero =>
    have z : decide (((0 : Nat) : Int) > 0) = false:=by decide
    simp only [AH.SD,AH.SE,AOp.call?,AOp.next?,bstep,AV.cells,unAV,binAV,retQ,retV,AH.sliceElems,AH.bytesOf,AH.strOp,AH.bound,AH.missQ,AH.minmaxAV,AH.readOf,AH.effOf,Nat.reduceBEq,Nat.reduceAdd,Nat.reduceLT,↓reduceIte,Nat.reduceEqDiff,Nat.reduceLeDiff,Nat.reduceSub,Nat.reduceMul,Int.reduceSub,Int.reduceToNat,Int.reduceBEq,Int.reduceBNe,Int.reduceLT,Int.reduceGT,Int.reduceLE,Int.reduceGE,Int.reduceNeg,Int.reduceAdd,trSt,hsz,z]
    rw [← hp]; rfl
  | succ k =>
    have z : decide (((k + 1 : Nat) : Int) > 0) = true:=by simp only [decide_eq_true_eq]; omega
    have w : IntKind.i64.wrap (((k + 1 : Nat) : Int) - 1) = (k : Int):=by rw [IntKind.wrap_i64]; omega
    have hg:=ex_get s (k:=k + 1) (j:=k) hk (Nat.lt_succ_self _)
    have hcmp : ∀ x y : UInt8,((x.toNat : Int) == (y.toNat : Int)) = (x == y):=fun x y =>by
      rw [Bool.eq_iff_iff,beq_iff_eq,beq_iff_eq,← UInt8.toNat_inj]; omega
    cases hb : (s.data.toList.getD k 0 == b)
    · rw [trN,hb,cond_false] at hp
      simp only [AH.SD,AH.SE,AOp.call?,AOp.next?,bstep,AV.cells,unAV,binAV,retQ,retV,AH.sliceElems,AH.bytesOf,AH.strOp,AH.bound,AH.missQ,AH.minmaxAV,AH.readOf,AH.effOf,Nat.reduceBEq,Nat.reduceAdd,Nat.reduceLT,↓reduceIte,Nat.reduceEqDiff,Nat.reduceLeDiff,Nat.reduceSub,Nat.reduceMul,Int.reduceSub,Int.reduceToNat,Int.reduceBEq,Int.reduceBNe,Int.reduceLT,Int.reduceGT,Int.reduceLE,Int.reduceGE,Int.reduceNeg,Int.reduceAdd,trSt,hsz,z,w,Int.toNat_natCast,hg,hcmp,hb]
      rw [hp]
      exact ⟨by omega,rfl⟩
    · rw [trN,hb,cond_true] at hp
      simp only [AH.SD,AH.SE,AOp.call?,AOp.next?,bstep,AV.cells,unAV,binAV,retQ,retV,AH.sliceElems,AH.bytesOf,AH.strOp,AH.bound,AH.missQ,AH.minmaxAV,AH.readOf,AH.effOf,Nat.reduceBEq,Nat.reduceAdd,Nat.reduceLT,↓reduceIte,Nat.reduceEqDiff,Nat.reduceLeDiff,Nat.reduceSub,Nat.reduceMul,Int.reduceSub,Int.reduceToNat,Int.reduceBEq,Int.reduceBNe,Int.reduceLT,Int.reduceGT,Int.reduceLE,Int.reduceGE,Int.reduceNeg,Int.reduceAdd,trSt,hsz,z,w,Int.toNat_natCast,hg,hcmp,hb]
      have e : (s.extract 0 (k + 1)).extract 0 k = s.extract 0 k:=by
        rw [ByteArray.extract_extract]; congr 1; omega
      refine ⟨by omega,by omega,?_⟩
      rw [e]
      refine gc_auto [] [1,0] [] ?_
      simp only [AH.SD,AH.SE,AOp.call?,AOp.next?,bstep,AV.cells,unAV,binAV,retQ,retV,AH.sliceElems,AH.bytesOf,AH.strOp,AH.bound,AH.missQ,AH.minmaxAV,AH.readOf,AH.effOf,Nat.reduceBEq,Nat.reduceAdd,Nat.reduceLT,↓reduceIte,Nat.reduceEqDiff,Nat.reduceLeDiff,Nat.reduceSub,Nat.reduceMul,Int.reduceSub,Int.reduceToNat,Int.reduceBEq,Int.reduceBNe,Int.reduceLT,Int.reduceGT,Int.reduceLE,Int.reduceGE,Int.reduceNeg,Int.reduceAdd,AH.SP,AH.PD,AV.inB,vstep]
      exact ih k ⟨by omega,hp⟩ (Nat.lt_succ_self _)
def tlN (s : ByteArray) (b : UInt8) : Nat → Nat → Nat
  | i,0 =>i
  | i,f + 1 =>bif s.data.toList.getD i 0 == b then tlN s b (i + 1) f else i
def tlSt (s : ByteArray) (b : UInt8) (i : Nat) : St:=⟨[(1,.int .u8 (b.toNat : Int)),(0,.str (s.extract i s.size))],[]⟩
theorem dr_get (s : ByteArray) {i : Nat} (hi : i < s.size) : (s.extract i s.size).data.toList.getD 0 0 = s.data.toList.getD i 0:=by
  rw [Lib.extract_data,List.getD_eq_getElem?_getD,List.getElem?_take_of_lt (by omega),List.getElem?_drop,Nat.add_zero,← List.getD_eq_getElem?_getD]
theorem trimL_ok (s : ByteArray) (b : UInt8) (hs : okSz s) : Pure S0 90 [.str s,.int .u8 (b.toNat : Int)] (.str (s.extract (tlN s b 0 s.size) s.size)):=by
  have h1 : s.size ≤ 1048576:=hs
  refine fun_sound okF0 Tryz.func90 c90 ?_
  unfold wpF F90
  simp only [AH.SD,AH.SE,AOp.call?,AOp.next?,bstep,AV.cells,unAV,binAV,retQ,retV,AH.sliceElems,AH.bytesOf,AH.strOp,AH.bound,AH.missQ,AH.minmaxAV,AH.readOf,AH.effOf,Nat.reduceBEq,Nat.reduceAdd,Nat.reduceLT,↓reduceIte,Nat.reduceEqDiff,Nat.reduceLeDiff,Nat.reduceSub,Nat.reduceMul,Int.reduceSub,Int.reduceToNat,Int.reduceBEq,Int.reduceBNe,Int.reduceLT,Int.reduceGT,Int.reduceLE,Int.reduceGE,Int.reduceNeg,Int.reduceAdd]
  refine loop_do [] [1,0] [] (α:=Nat) (fun i =>s.size - i) (tlSt s b) (fun i =>i ≤ s.size ∧ tlN s b i (s.size - i) = tlN s b 0 s.size) 0 ⟨Nat.zero_le _,rfl⟩ (by simp only [AH.SD,AH.SE,AOp.call?,AOp.next?,bstep,AV.cells,unAV,binAV,retQ,retV,AH.sliceElems,AH.bytesOf,AH.strOp,AH.bound,AH.missQ,AH.minmaxAV,AH.readOf,AH.effOf,Nat.reduceBEq,Nat.reduceAdd,Nat.reduceLT,↓reduceIte,Nat.reduceEqDiff,Nat.reduceLeDiff,Nat.reduceSub,Nat.reduceMul,Int.reduceSub,Int.reduceToNat,Int.reduceBEq,Int.reduceBNe,Int.reduceLT,Int.reduceGT,Int.reduceLE,Int.reduceGE,Int.reduceNeg,Int.reduceAdd,AH.SP,AH.PD,AV.inB,vstep,tlSt,ByteArray.extract_zero_size]) ?_
  rintro X i ⟨hi,hp⟩ ih
  have hsz : (s.extract i s.size).size = s.size - i:=by rw [ByteArray.size_extract]; omega
  rcases Nat.lt_or_ge i s.size with hlt | hge
  · have z : decide (((s.size - i : Nat) : Int) > 0) = true:=by simp only [decide_eq_true_eq]; omega
    have hg:=dr_get s hlt
    have hcmp : ∀ x y : UInt8,((x.toNat : Int) == (y.toNat : Int)) = (x == y):=fun x y =>by
      rw [Bool.eq_iff_iff,beq_iff_eq,beq_iff_eq,← UInt8.toNat_inj]; omega
    have hf : s.size - i = (s.size - (i + 1)) + 1:=by omega
    cases hb : (s.data.toList.getD i 0 == b)
    · rw [hf,tlN,hb,cond_false] at hp
      simp only [AH.SD,AH.SE,AOp.call?,AOp.next?,bstep,AV.cells,unAV,binAV,retQ,retV,AH.sliceElems,AH.bytesOf,AH.strOp,AH.bound,AH.missQ,AH.minmaxAV,AH.readOf,AH.effOf,Nat.reduceBEq,Nat.reduceAdd,Nat.reduceLT,↓reduceIte,Nat.reduceEqDiff,Nat.reduceLeDiff,Nat.reduceSub,Nat.reduceMul,Int.reduceSub,Int.reduceToNat,Int.reduceBEq,Int.reduceBNe,Int.reduceLT,Int.reduceGT,Int.reduceLE,Int.reduceGE,Int.reduceNeg,Int.reduceAdd,tlSt,hsz,z,hg,hcmp,hb,Int.toNat_zero]
      rw [hp]
      exact ⟨by omega,rfl⟩
    · rw [hf,tlN,hb,cond_true] at hp
      simp only [AH.SD,AH.SE,AOp.call?,AOp.next?,bstep,AV.cells,unAV,binAV,retQ,retV,AH.sliceElems,AH.bytesOf,AH.strOp,AH.bound,AH.missQ,AH.minmaxAV,AH.readOf,AH.effOf,Nat.reduceBEq,Nat.reduceAdd,Nat.reduceLT,↓reduceIte,Nat.reduceEqDiff,Nat.reduceLeDiff,Nat.reduceSub,Nat.reduceMul,Int.reduceSub,Int.reduceToNat,Int.reduceBEq,Int.reduceBNe,Int.reduceLT,Int.reduceGT,Int.reduceLE,Int.reduceGE,Int.reduceNeg,Int.reduceAdd,tlSt,hsz,z,hg,hcmp,hb,Int.toNat_zero]
      have e : (s.extract i s.size).extract 1 (s.size - i) = s.extract (i + 1) s.size:=by
        rw [ByteArray.extract_extract]; congr 1; omega
      refine ⟨by omega,by omega,?_⟩
      rw [e]
      refine gc_auto [] [1,0] [] ?_
      simp only [AH.SD,AH.SE,AOp.call?,AOp.next?,bstep,AV.cells,unAV,binAV,retQ,retV,AH.sliceElems,AH.bytesOf,AH.strOp,AH.bound,AH.missQ,AH.minmaxAV,AH.readOf,AH.effOf,Nat.reduceBEq,Nat.reduceAdd,Nat.reduceLT,↓reduceIte,Nat.reduceEqDiff,Nat.reduceLeDiff,Nat.reduceSub,Nat.reduceMul,Int.reduceSub,Int.reduceToNat,Int.reduceBEq,Int.reduceBNe,Int.reduceLT,Int.reduceGT,Int.reduceLE,Int.reduceGE,Int.reduceNeg,Int.reduceAdd,AH.SP,AH.PD,AV.inB,vstep]
      exact ih (i + 1) ⟨hlt,hp⟩ (by omega)
  · have z : decide (((s.size - i : Nat) : Int) > 0) = false:=by simp only [decide_eq_false_iff_not]; omega
    obtain rfl : i = s.size:=by omega
    rw [Nat.sub_self,tlN] at hp
    simp only [AH.SD,AH.SE,AOp.call?,AOp.next?,bstep,AV.cells,unAV,binAV,retQ,retV,AH.sliceElems,AH.bytesOf,AH.strOp,AH.bound,AH.missQ,AH.minmaxAV,AH.readOf,AH.effOf,Nat.reduceBEq,Nat.reduceAdd,Nat.reduceLT,↓reduceIte,Nat.reduceEqDiff,Nat.reduceLeDiff,Nat.reduceSub,Nat.reduceMul,Int.reduceSub,Int.reduceToNat,Int.reduceBEq,Int.reduceBNe,Int.reduceLT,Int.reduceGT,Int.reduceLE,Int.reduceGE,Int.reduceNeg,Int.reduceAdd,tlSt,hsz,z]
    rw [← hp]
def aU8 : Arg UInt8 where
  enc b:=.int .u8 (b.toNat : Int)
  dec v:=match v with
    | .int .u8 n =>if n = ((UInt8.ofNat n.toNat).toNat : Int) then some (UInt8.ofNat n.toNat) else none
    | _ =>none
  ok v b h:=by
    split at h
    · split at h
      · rename_i n hn
        simp only [Option.some.injEq] at h
        subst h
        rw [← hn]
      · cases h
    · cases h
  de b:=by simp
  flat _:=rfl
theorem aU8_dec {b : UInt8} : aU8.dec (.int .u8 (b.toNat : Int)) = some b:=aU8.de b
def trRT : RT:=rtC (cC aS (cC aU8 c0)) (fun x =>okSz x.1) fun x => .str (x.1.extract 0 (trN x.1 x.2.1 x.1.size))
theorem trRT_ok : ReadF S0 91 trRT:=rtC_ok (fun x h =>trimR_ok x.1 x.2.1 h) fun _ =>rfl
def trLT : RT:=rtC (cC aS (cC aU8 c0)) (fun x =>okSz x.1) fun x => .str (x.1.extract (tlN x.1 x.2.1 0 x.1.size) x.1.size)
theorem trLT_ok : ReadF S0 90 trLT:=rtC_ok (fun x h =>trimL_ok x.1 x.2.1 h) fun _ =>rfl
theorem trRT_p {s : ByteArray} {b : UInt8} {M : Nat → Option Blk} (h : okSz s) : trRT [.str s,.int .u8 (b.toNat : Int)] M = some (.str (s.extract 0 (trN s b s.size)),[]):=by
  simp only [trRT,rtC_p,cC_dec,aS_dec,aU8_dec,c0_dec,pairO_some]
  exact rtC1_eq h
theorem trLT_p {s : ByteArray} {b : UInt8} {M : Nat → Option Blk} (h : okSz s) : trLT [.str s,.int .u8 (b.toNat : Int)] M = some (.str (s.extract (tlN s b 0 s.size) s.size),[]):=by
  simp only [trLT,rtC_p,cC_dec,aS_dec,aU8_dec,c0_dec,pairO_some]
  exact rtC1_eq h
def trim0 (s : ByteArray) : ByteArray:=bif s.toList == (⟨#[]⟩ : ByteArray).toList then s else (s.extract 0 (trN s 0 s.size)).extract (tlN (s.extract 0 (trN s 0 s.size)) 0 0 (s.extract 0 (trN s 0 s.size)).size) (s.extract 0 (trN s 0 s.size)).size
theorem okTrim : CtxOK S0 (ctxU S0 [(91,trRT),(90,trLT)] []):=ctxU_ok ⟨trRT_ok,trLT_ok,trivial⟩ trivial mixed
theorem trim_ok (s : ByteArray) (hs : okSz s) : Pure S0 87 [.str s,.str ⟨#[0]⟩] (.str (trim0 s)):=by
  refine fun_sound okTrim Tryz.func87 c87 ?_
  unfold wpF F87
  have h2 : okSz (s.extract 0 (trN s 0 s.size)):=by
    have h1 : s.size ≤ 1048576:=hs
    show (s.extract 0 (trN s 0 s.size)).size ≤ 1048576
    rw [ByteArray.size_extract]; omega
  have h0 : ((⟨#[0]⟩ : ByteArray).toList == (⟨#[]⟩ : ByteArray).toList) = false:=by decide +kernel
  have h3 : (⟨#[0]⟩ : ByteArray).size = 1:=rfl
  have hb0 : (⟨#[0]⟩ : ByteArray).data.toList.getD 0 0 = (0 : UInt8):=rfl
  have hd0 : decide (((0 : UInt8).toNat : Int) < 128) = true:=by decide
  have e1:=fun M =>trRT_p (s:=s) (b:=0) (M:=M) hs
  have e2:=fun M =>trLT_p (b:=0) (M:=M) h2
  cases he : (s.toList == (⟨#[]⟩ : ByteArray).toList)
  · simp only [AH.SD,AH.SE,AOp.call?,AOp.next?,bstep,AV.cells,unAV,binAV,retQ,retV,AH.sliceElems,AH.bytesOf,AH.strOp,AH.bound,AH.missQ,AH.minmaxAV,AH.readOf,AH.effOf,Nat.reduceBEq,Nat.reduceAdd,Nat.reduceLT,↓reduceIte,Nat.reduceEqDiff,Nat.reduceLeDiff,Nat.reduceSub,Nat.reduceMul,Int.reduceSub,Int.reduceToNat,Int.reduceBEq,Int.reduceBNe,Int.reduceLT,Int.reduceGT,Int.reduceLE,Int.reduceGE,Int.reduceNeg,Int.reduceAdd,he,h0,h3,trim0,hb0,hd0,e1,e2]
    repeat (refine ⟨by first | rfl | decide | omega | (simp only [List.length_map,List.length_set,and_true]; omega),?_⟩)
    trivial
  · simp only [AH.SD,AH.SE,AOp.call?,AOp.next?,bstep,AV.cells,unAV,binAV,retQ,retV,AH.sliceElems,AH.bytesOf,AH.strOp,AH.bound,AH.missQ,AH.minmaxAV,AH.readOf,AH.effOf,Nat.reduceBEq,Nat.reduceAdd,Nat.reduceLT,↓reduceIte,Nat.reduceEqDiff,Nat.reduceLeDiff,Nat.reduceSub,Nat.reduceMul,Int.reduceSub,Int.reduceToNat,Int.reduceBEq,Int.reduceBNe,Int.reduceLT,Int.reduceGT,Int.reduceLE,Int.reduceGE,Int.reduceNeg,Int.reduceAdd,he,trim0]
def trimT : RT:=rtC (cC aS (cC aS c0)) (fun x =>okSz x.1 ∧ x.2.1 = ⟨#[0]⟩) fun x => .str (trim0 x.1)
theorem trimT_ok : ReadF S0 87 trimT:=rtC_ok (fun x h =>by
  obtain ⟨s,c,u⟩:=x
  obtain ⟨h1,h2⟩:=h
  simp only at h1 h2
  subst h2
  exact trim_ok s h1) fun _ =>rfl
theorem trimT_p {s : ByteArray} {M : Nat → Option Blk} (h : okSz s) : trimT [.str s,.str ⟨#[0]⟩] M = some (.str (trim0 s),[]):=by
  simp only [trimT,rtC_p,cC_dec,aS_dec,c0_dec,pairO_some]
  exact rtC1_eq ⟨h,rfl⟩
def allZ (s : ByteArray) : Prop:=∀ b ∈ s.data.toList,b = 0
theorem trN_zero (s : ByteArray) : ∀ k,(∀ j,j < k → s.data.toList.getD j 0 = 0) → trN s 0 k = 0
  | 0,_ =>rfl
  | k + 1,h =>by
    rw [trN,h k (Nat.lt_succ_self _)]
    simp only [beq_self_eq_true,cond_true]
    exact trN_zero s k fun j hj =>h j (Nat.lt_succ_of_lt hj)
end Go.Proofs.YthapdikdeoeplaaGreatDoor.Z7
end
section
set_option linter.unusedVariables false
set_option linter.unnecessarySimpa false
open Go AH
set_option linter.unusedSimpArgs false
set_option maxRecDepth 100000
namespace Go.Proofs.YthapdikdeoeplaaGreatDoor.Z7
def valS (s : ByteArray) : Int:=match s.data.toList with
  | [a,b] =>val2 a b
  | [a,b,c,d] =>val4 a b c d
  | _ => 0
def okVal (s : ByteArray) : Prop:=s.size = 2 ∨ s.size = 4
instance (s : ByteArray) : Decidable (okVal s):=by unfold okVal; infer_instance
theorem value_ok (s : ByteArray) (h : okVal s) : Pure S0 86 [.str s] (.int .i64 (valS s)):=by
  obtain ⟨⟨l⟩⟩:=s
  rcases h with h | h
  · match l,h with
    | [a,b],_ =>exact value2 a b
  · match l,h with
    | [a,b,c,d],_ =>exact value4 a b c d
def valT : RT:=rtC (cC aS c0) (fun x =>okVal x.1) fun x => .int .i64 (valS x.1)
theorem valT_ok : ReadF S0 86 valT:=rtC_ok (fun x h =>value_ok x.1 h) fun _ =>rfl
theorem valT_p {s : ByteArray} {M : Nat → Option Blk} (h : okVal s) : valT [.str s] M = some (.int .i64 (valS s),[]):=by
  simp only [valT,rtC_p,cC_dec,aS_dec,c0_dec,pairO_some]
  exact rtC1_eq h
theorem valS_in {s : ByteArray} (h : okVal s) : 0 ≤ valS s ∧ valS s < 4294967296:=by
  obtain ⟨⟨l⟩⟩:=s
  rcases h with h | h
  · match l,h with
    | [a,b],_ =>
      have ha:=a.toNat_lt; have hb:=b.toNat_lt
      show 0 ≤ val2 a b ∧ val2 a b < 4294967296
      unfold val2; omega
  · match l,h with
    | [a,b,c,d],_ =>
      have ha:=a.toNat_lt; have hb:=b.toNat_lt; have hc:=c.toNat_lt; have hd:=d.toNat_lt
      show 0 ≤ val4 a b c d ∧ val4 a b c d < 4294967296
      unfold val4; omega
def datT (s : ByteArray) (k : Nat) : ByteArray:=s.extract 8 (8 + k)
def datQ (s : ByteArray) (k : Nat) : Bool :=
  bif (bif ((sizeN (datT s k).size * 56 : Nat) : Int) == (s.size : Int) then (trim0 (s.extract (8 + k) s.size)).toList == (⟨#[]⟩ : ByteArray).toList else false) then valS (s.extract 4 8) == IntKind.i64.wrap (sumZ (datT s k)) else false
def datZ (s : ByteArray) : ByteArray × Bool :=
  bif decide (valS (s.extract 0 4) > 6000) then (⟨#[]⟩,false) else bif decide (valS (s.extract 0 4) > (s.size : Int) - 8) then (⟨#[]⟩,false) else
    (datT s (valS (s.extract 0 4)).toNat,datQ s (valS (s.extract 0 4)).toNat)
theorem okDat : CtxOK S0 (ctxU S0 [(86,valT),(50,sizeT),(87,trimT),(68,sumT)] []):=ctxU_ok ⟨valT_ok,sizeT_ok,trimT_ok,sumT_ok,trivial⟩ trivial mixed
theorem data_ok (s : ByteArray) (h8 : 8 ≤ s.size) (hs : okSz s) : Pure S0 79 [.str s] (.tup [.str (datZ s).1,.bool (datZ s).2]):=by
  have h1 : s.size ≤ 1048576:=hs
  have hv0 : okVal (s.extract 0 4):=.inr (by rw [ByteArray.size_extract]; omega)
  have hv4 : okVal (s.extract 4 8):=.inr (by rw [ByteArray.size_extract]; omega)
  have hin:=valS_in hv0
  refine fun_sound okDat Tryz.func79 c79 ?_
  unfold wpF F79
  have w8 : IntKind.i64.wrap ((s.size : Int) - 8) = (s.size : Int) - 8:=by rw [IntKind.wrap_i64]; omega
  cases d1 : decide (valS (s.extract 0 4) > 6000)
  · cases d2 : decide (valS (s.extract 0 4) > (s.size : Int) - 8)
    · simp only [decide_eq_false_iff_not] at d1 d2
      obtain ⟨k,hk⟩:=Int.eq_ofNat_of_zero_le hin.1
      rw [hk] at d1 d2
      have d1' : decide ((k : Int) > 6000) = false:=by simp only [decide_eq_false_iff_not]; omega
      have d2' : decide ((k : Int) > (s.size : Int) - 8) = false:=by simp only [decide_eq_false_iff_not]; omega
      have wk : IntKind.i64.wrap (8 + (k : Int)) = ((8 + k : Nat) : Int):=by rw [IntKind.wrap_i64]; omega
      have ht : okSz (s.extract 8 (8 + k)):=by show (s.extract 8 (8 + k)).size ≤ 1048576; rw [ByteArray.size_extract]; omega
      have hr : okSz (s.extract (8 + k) s.size):=by show (s.extract (8 + k) s.size).size ≤ 1048576; rw [ByteArray.size_extract]; omega
      have hsn : sizeN (s.extract 8 (8 + k)).size ≤ 200:=by unfold sizeN; rw [ByteArray.size_extract]; omega
      have w56 : IntKind.i64.wrap (((sizeN (s.extract 8 (8 + k)).size : Nat) : Int) * 56) = ((sizeN (s.extract 8 (8 + k)).size * 56 : Nat) : Int):=by rw [IntKind.wrap_i64]; omega
      cases q1 : (((sizeN (s.extract 8 (8 + k)).size * 56 : Nat) : Int) == (s.size : Int))
      · simp only [AH.SD,AH.SE,AOp.call?,AOp.next?,bstep,AV.cells,unAV,binAV,retQ,retV,AH.sliceElems,AH.bytesOf,AH.strOp,AH.bound,AH.missQ,AH.minmaxAV,AH.readOf,AH.effOf,simprocAttr,valT_p hv0,hk,d1',d2',w8,wk,Int.toNat_natCast,sizeT_p,rtC1,ht,if_true,w56,q1,datZ,datQ,datT]
        repeat (refine ⟨by first | rfl | decide | omega | (simp only [List.length_map,List.length_set,and_true]; omega),?_⟩)
        trivial
      · cases q2 : ((trim0 (s.extract (8 + k) s.size)).toList == (⟨#[]⟩ : ByteArray).toList)
        · simp only [AH.SD,AH.SE,AOp.call?,AOp.next?,bstep,AV.cells,unAV,binAV,retQ,retV,AH.sliceElems,AH.bytesOf,AH.strOp,AH.bound,AH.missQ,AH.minmaxAV,AH.readOf,AH.effOf,simprocAttr,valT_p hv0,hk,d1',d2',w8,wk,Int.toNat_natCast,sizeT_p,rtC1,ht,if_true,w56,q1,trimT_p hr,q2,datZ,datQ,datT]
          repeat (refine ⟨by first | rfl | decide | omega | (simp only [List.length_map,List.length_set,and_true]; omega),?_⟩)
          trivial
        · simp only [AH.SD,AH.SE,AOp.call?,AOp.next?,bstep,AV.cells,unAV,binAV,retQ,retV,AH.sliceElems,AH.bytesOf,AH.strOp,AH.bound,AH.missQ,AH.minmaxAV,AH.readOf,AH.effOf,simprocAttr,valT_p hv0,valT_p hv4,hk,d1',d2',w8,wk,Int.toNat_natCast,sizeT_p,rtC1,ht,if_true,w56,q1,trimT_p hr,q2,sumT_p,datZ,datQ,datT]
          repeat (refine ⟨by first | rfl | decide | omega | (simp only [List.length_map,List.length_set,and_true]; omega),?_⟩)
          trivial
    · simp only [AH.SD,AH.SE,AOp.call?,AOp.next?,bstep,AV.cells,unAV,binAV,retQ,retV,AH.sliceElems,AH.bytesOf,AH.strOp,AH.bound,AH.missQ,AH.minmaxAV,AH.readOf,AH.effOf,simprocAttr,valT_p hv0,d1,d2,w8,datZ]
      repeat (refine ⟨by first | rfl | decide | omega | (simp only [List.length_map,List.length_set,and_true]; omega),?_⟩)
      trivial
  · simp only [AH.SD,AH.SE,AOp.call?,AOp.next?,bstep,AV.cells,unAV,binAV,retQ,retV,AH.sliceElems,AH.bytesOf,AH.strOp,AH.bound,AH.missQ,AH.minmaxAV,AH.readOf,AH.effOf,simprocAttr,valT_p hv0,d1,datZ]
    repeat (refine ⟨by first | rfl | decide | omega | (simp only [List.length_map,List.length_set,and_true]; omega),?_⟩)
    trivial
def datRT : RT:=rtC (cC aS c0) (fun x => 8 ≤ x.1.size ∧ okSz x.1) fun x => .tup [.str (datZ x.1).1,.bool (datZ x.1).2]
theorem datRT_ok : ReadF S0 79 datRT:=rtC_ok (fun x h =>data_ok x.1 h.1 h.2) fun _ =>rfl
theorem datRT_p {s : ByteArray} {M : Nat → Option Blk} (h8 : 8 ≤ s.size) (hs : okSz s) : datRT [.str s] M = some (.tup [.str (datZ s).1,.bool (datZ s).2],[]):=by
  simp only [datRT,rtC_p,cC_dec,aS_dec,c0_dec,pairO_some]
  exact rtC1_eq ⟨h8,hs⟩
end Go.Proofs.YthapdikdeoeplaaGreatDoor.Z7
end
section
set_option linter.unusedVariables false
set_option linter.unnecessarySimpa false
open Go AH
set_option linter.unusedSimpArgs false
set_option maxRecDepth 100000
namespace Go.Proofs.YthapdikdeoeplaaGreatDoor.Z7
def tailE (s : ByteArray) : ByteArray:=s.extract 56 64
def firB (seq n : Int) (e : ByteArray) : Bool :=
  bif (bif (bif (bif decide (seq ≥ 1) then decide (seq ≤ 2147483647) else false) then decide (n ≥ 1) else false) then decide (n ≤ 108) else false) then e.toList == (endS seq 0 n).toList else false
def firS (s : ByteArray) : Int × Int × Bool :=
  bif ((s.size : Int) != 64) then (0,0,false) else (valS ((tailE s).extract 0 4),valS ((tailE s).extract 6 8),firB (valS ((tailE s).extract 0 4)) (valS ((tailE s).extract 6 8)) (tailE s))
def firZ : List ByteArray → Int × Int × Bool
  | [] =>(0,0,false)
  | s :: _ =>firS s
def firA (x : Int × Int × Bool) : AV:=.tup [.int .i64 x.1,.int .i64 x.2.1,.bool x.2.2]
theorem okFir : CtxOK S0 (ctxU S0 [(86,valT),(69,endT)] []):=ctxU_ok ⟨valT_ok,endT_ok,trivial⟩ trivial mixed
set_option maxHeartbeats 4000000 in
theorem first_ok (l : List ByteArray) (hl : l.length ≤ 1048576) : CallA1 S0 76 [.slc 0 0 l.length none] [some (.row true 1 (l.map strC))] fun r _ =>r = firA (firZ l):=by
  refine fun_sound okFir Tryz.func76 c76 ?_
  unfold wpF F76
  cases l with
  | nil =>
    simp only [AH.SD,AH.SE,AOp.call?,AOp.next?,bstep,AV.cells,unAV,binAV,retQ,retV,AH.sliceElems,AH.bytesOf,AH.strOp,AH.bound,AH.missQ,AH.minmaxAV,AH.readOf,AH.effOf,Nat.reduceBEq,Nat.reduceAdd,Nat.reduceLT,↓reduceIte,Nat.reduceEqDiff,Nat.reduceLeDiff,Nat.reduceSub,Nat.reduceMul,Int.reduceSub,Int.reduceToNat,Int.reduceBEq,Int.reduceBNe,Int.reduceLT,Int.reduceGT,Int.reduceLE,Int.reduceGE,Int.reduceNeg,Int.reduceAdd,List.map_nil,firZ,firA]
    repeat (refine ⟨by first | rfl | decide | omega | (simp only [List.length_map,List.length_set,and_true]; omega),?_⟩)
  | cons s r =>
    have z : (((r.length + 1 : Nat) : Int) == 0) = false:=by simp; omega
    cases h64 : ((s.size : Int) != 64)
    · have hs0 : (s.size : Int) = 64:=by simpa using h64
      have hs : s.size = 64:=by omega
      have hz : (tailE s).size = 8:=by rw [tailE,ByteArray.size_extract]; omega
      have v1 : okVal ((tailE s).extract 0 4):=.inr (by rw [ByteArray.size_extract]; omega)
      have v2 : okVal ((tailE s).extract 6 8):=.inl (by rw [ByteArray.size_extract]; omega)
      have et : s.extract 56 64 = tailE s:=rfl
      have p1:=fun M =>valT_p (M:=M) v1
      have p2:=fun M =>valT_p (M:=M) v2
      generalize hseq : valS ((tailE s).extract 0 4) = seq at *
      generalize hn : valS ((tailE s).extract 6 8) = n at *
      cases c1 : decide (seq ≥ 1) <;> cases c2 : decide (seq ≤ 2147483647) <;> cases c3 : decide (n ≥ 1) <;> cases c4 : decide (n ≤ 108)
      all_goals
        simp only [AH.SD,AH.SE,AOp.call?,AOp.next?,bstep,AV.cells,unAV,binAV,retQ,retV,AH.sliceElems,AH.bytesOf,AH.strOp,AH.bound,AH.missQ,AH.minmaxAV,AH.readOf,AH.effOf,Nat.reduceBEq,Nat.reduceAdd,Nat.reduceLT,↓reduceIte,Nat.reduceEqDiff,Nat.reduceLeDiff,Nat.reduceSub,Nat.reduceMul,Int.reduceSub,Int.reduceToNat,Int.reduceBEq,Int.reduceBNe,Int.reduceLT,Int.reduceGT,Int.reduceLE,Int.reduceGE,Int.reduceNeg,Int.reduceAdd,List.map_cons,strC_eq,z,h64,hs,et,hz,p1,p2,c1,c2,c3,c4,endT_p,firZ,firS,firA,firB,hseq,hn]
        repeat (refine ⟨by first | rfl | decide | omega | (simp only [List.length_map,List.length_set,and_true]; omega),?_⟩)
        trivial
    · simp only [AH.SD,AH.SE,AOp.call?,AOp.next?,bstep,AV.cells,unAV,binAV,retQ,retV,AH.sliceElems,AH.bytesOf,AH.strOp,AH.bound,AH.missQ,AH.minmaxAV,AH.readOf,AH.effOf,Nat.reduceBEq,Nat.reduceAdd,Nat.reduceLT,↓reduceIte,Nat.reduceEqDiff,Nat.reduceLeDiff,Nat.reduceSub,Nat.reduceMul,Int.reduceSub,Int.reduceToNat,Int.reduceBEq,Int.reduceBNe,Int.reduceLT,Int.reduceGT,Int.reduceLE,Int.reduceGE,Int.reduceNeg,Int.reduceAdd,List.map_cons,strC_eq,z,h64,firZ,firS,firA]
      repeat (refine ⟨by first | rfl | decide | omega | (simp only [List.length_map,List.length_set,and_true]; omega),?_⟩)
      trivial
def firT : RT:=rt1 1 cStr c0 fun l _ =>firA (firZ l)
theorem firT_ok : ReadF S0 76 firT:=rt1_ok errs0 fun l _ h =>⟨rfl,first_ok l h⟩
theorem firT_p {i n : Nat} {p : Option Nat} {M : Nat → Option Blk} : firT [.slc i 0 n p] M = rt1Q 1 cStr (fun l (_ : Unit) =>firA (firZ l)) n i (M i) (some ()):=rfl
theorem firT_e {l : List ByteArray} {i : Nat} {ro : Bool} (h : l.length ≤ 1048576) : rt1Q 1 cStr (fun l (_ : Unit) =>firA (firZ l)) l.length i (some (.row ro 1 (l.map strC))) (some ()) = some (firA (firZ l),[i]):=rt1Q_eq (c:=cStr) h
end Go.Proofs.YthapdikdeoeplaaGreatDoor.Z7
end
section
set_option linter.unusedVariables false
set_option linter.unnecessarySimpa false
open Go AH
set_option linter.unusedSimpArgs false
set_option maxRecDepth 100000
namespace Go.Proofs.YthapdikdeoeplaaGreatDoor.Z7
def frmS : ByteArray:=⟨#[102,114,97,109,101]⟩
def wrM (i : Int) : Mem:=[some (.row false 3 [[.str frmS,.int .i64 i,.err 2]])]
def wrA : AV:=.ifc 131 (.ptr 0 0 0)
theorem wrong_ok (i : Int) : CallA1 S0 77 [.int .i64 i] [] fun r m =>r = wrA ∧ m = wrM i:=by
  refine fun_sound okF0 Tryz.func77 c77 ?_
  unfold wpF F77
  simp only [AH.SD,AH.SE,AOp.call?,AOp.next?,bstep,AV.cells,unAV,binAV,retQ,retV,AH.sliceElems,AH.bytesOf,AH.strOp,AH.bound,AH.missQ,AH.minmaxAV,AH.readOf,AH.effOf,Nat.reduceBEq,Nat.reduceAdd,Nat.reduceLT,↓reduceIte,Nat.reduceEqDiff,Nat.reduceLeDiff,Nat.reduceSub,Nat.reduceMul,Int.reduceSub,Int.reduceToNat,Int.reduceBEq,Int.reduceBNe,Int.reduceLT,Int.reduceGT,Int.reduceLE,Int.reduceGE,Int.reduceNeg,Int.reduceAdd,AH.SP,AH.PD,AV.inB,vstep,vw,shift,newOnes,rowsM,blkIn,rwB,@flat_lts,AV.lt,AV.lts,Nat.sub_self,AH.SO,wrM,wrA,frmS]
def wrT : ET:=etN (cC (aI .i64) c0) fun x =>some (wrA,wrM x.1)
theorem wrT_ok : EffF S0 77 wrT:=etN_ok fun x v m' h =>by
  simp only [Option.some.injEq,Prod.mk.injEq] at h
  obtain ⟨rfl,rfl⟩:=h
  exact ⟨rfl,wrong_ok x.1⟩
theorem wrT_eq {i : Int} {M : Nat → Option Blk} {n : Nat} : wrT [.int .i64 i] M n = some (effS [] n wrA (wrM i),1):=by
  simp only [wrT,etN_eq,cC_dec,aI_dec,c0_dec,pairO_some,Option.bind_some,useO_some]; rfl
end Go.Proofs.YthapdikdeoeplaaGreatDoor.Z7
end
section
set_option linter.unusedVariables false
set_option linter.unnecessarySimpa false
open Go AH
namespace Go.Proofs.YthapdikdeoeplaaGreatDoor.Z7
-- quitrent/frame.joined
def F78 : AFun:=⟨47,3,[.tmp 6,.tmp 7],(.seq (.reg [⟨some 6,none,.mov (.c (.str ⟨#[]⟩))⟩,⟨some 7,none,.mov (.c (.int .i64 0))⟩]) (.seq (.reg [⟨some 8,none,.box 2 (.c (.agg [.nilp,.nils]))⟩]) (.seq (.seq (.reg [⟨some 10,none,.mov (.t 2)⟩,⟨some 11,none,.mov (.c (.int .i64 0))⟩]) (.block 0 (.loop (.seq (.reg [⟨some 12,none,.ibin .lss (.t 11) (.t 10)⟩]) (.seq (.cond (.t 12) .skip (.exit 0)) (.seq (.block 1 (.seq (.reg [⟨some 13,none,.mov (.t 11)⟩,⟨some 9,none,.mov (.t 13)⟩]) (.seq (.seq (.draw [⟨some 14,none,.mov (.t 9)⟩,⟨some 15,none,.mov (.t 0)⟩,⟨some 16,none,.len .sl (.t 15)⟩,⟨some 17,none,.ibin .geq (.t 14) (.t 16)⟩,⟨some 18,none,.mov (.t 17)⟩,⟨some 19,(some (18,false)),.mov (.t 0)⟩,⟨some 20,(some (18,false)),.mov (.t 9)⟩,⟨some 21,(some (18,false)),.iaddrSl 1 (.t 19) (.t 20)⟩,⟨some 22,(some (18,false)),.load false 1 (.t 21)⟩,⟨some 23,(some (18,false)),.len .str (.t 22)⟩,⟨some 24,(some (18,false)),.ibin .neq (.t 23) (.c (.int .i64 64))⟩,⟨some 25,none,.pick (.t 18) (.c (.bool true)) (.t 24)⟩,⟨some 26,none,.mov (.t 25)⟩,⟨some 27,(some (26,false)),.mov (.t 0)⟩,⟨some 28,(some (26,false)),.mov (.t 9)⟩,⟨some 29,(some (26,false)),.iaddrSl 1 (.t 27) (.t 28)⟩,⟨some 30,(some (26,false)),.load false 1 (.t 29)⟩,⟨some 31,(some (26,false)),.sliceStr (.t 30) (some (.c (.int .i64 56))) none⟩,⟨some 32,(some (26,false)),.mov (.t 1)⟩,⟨some 33,(some (26,false)),.mov (.t 9)⟩,⟨some 34,(some (26,false)),.mov (.t 2)⟩,⟨some 35,(some (26,false)),.call (.c (.fn 69 [] [])) [(.t 32),(.t 33),(.t 34)]⟩,⟨some 36,(some (26,false)),.ibin .neq (.t 31) (.t 35)⟩,⟨some 37,none,.pick (.t 26) (.c (.bool true)) (.t 36)⟩] [[],[],[1],[0,2,1],[3,0,2,1],[4,3,0,2,1],[4,3,0,2,1],[5,6,4,3,0,2,1],[7,4,5,6,3,0,2,1],[8,4,7,5,6,3,0,2,1],[9,4,8,7,5,6,3,0,2,1],[4,10,3,0,2,1,9,8,7,5,6],[11,4,10,3,0,2,1,9,8,7,5,6],[12,11,4,10,3,0,2,1,9,8,7,5,6],[12,11,4,10,3,0,2,1,9,8,7,5,6],[13,14,12,11,4,10,3,0,2,1,9,8,7,5,6],[15,12,13,14,11,4,10,3,0,2,1,9,8,7,5,6],[16,12,15,13,14,11,4,10,3,0,2,1,9,8,7,5,6],[12,11,4,10,3,0,2,1,9,8,7,5,6],[12,11,4,10,3,0,2,1,9,8,7,5,6],[12,11,4,10,3,0,2,1,9,8,7,5,6],[18,19,20,12,11,4,10,3,0,2,1,9,8,7,5,6],[17,21,12,16,15,13,14,11,4,10,3,0,2,1,9,8,7,5,6,18,19,20],[12,22,11,4,10,3,0,2,1,9,8,7,5,6,17,21,16,15,13,14,18,19,20]]) (.cond (.t 37) (.seq (.reg [⟨some 38,none,.mov (.t 9)⟩,⟨some 6,none,.mov (.c (.str ⟨#[]⟩))⟩,⟨some 7,none,.mov (.t 38)⟩]) .ret) .skip)) (.reg [⟨some 39,none,.mov (.t 0)⟩,⟨some 40,none,.mov (.t 9)⟩,⟨some 41,none,.iaddrSl 1 (.t 39) (.t 40)⟩,⟨some 42,none,.load false 1 (.t 41)⟩,⟨some 43,none,.sliceStr (.t 42) none (some (.c (.int .i64 56)))⟩,⟨some 44,none,.call (.c (.fn 65 [] [])) [(.t 8),(.t 43)]⟩])))) (.reg [⟨some 45,none,.ibin .add (.t 11) (.c (.int .i64 1))⟩,⟨some 11,none,.mov (.t 45)⟩]))))))) (.seq (.reg [⟨some 46,none,.call (.c (.fn 66 [] [])) [(.t 8)]⟩,⟨some 6,none,.mov (.t 46)⟩,⟨some 7,none,.mov (.c (.int .i64 (-1)))⟩]) .ret))))⟩
end Go.Proofs.YthapdikdeoeplaaGreatDoor.Z7
end
section
set_option linter.unusedVariables false
set_option linter.unnecessarySimpa false
namespace Go.Proofs
open Go.Shelf
def Tryz.lays169_ren : Go.Shelf.Ren:=⟨fun | 169 => 66 | n =>n,fun | 70 => 96 | 9 => 9 | 0 => 0 | 72 => 98 | 37 => 76 | 127 => 126 | 3 => 3 | 5 => 5 | n =>n,fun | n =>n⟩
theorem Tryz.lays169 : Go.Proofs.Lays.n169 Tryz.prog Tryz.lays169_ren:={
  mixed:=by kernel_rfl
  f169:=Tryz.func66.trans (congrArg some (by kernel_rfl))
  t0:=Tryz.underlying0
  a0:=Tryz.isAgg0
  z0:=Tryz.sizeOf0
  v0:=Tryz.zeroValue0
  t3:=Tryz.underlying3
  a3:=Tryz.isAgg3
  z3:=Tryz.sizeOf3
  v3:=Tryz.zeroValue3
  t9:=Tryz.underlying9
  a9:=Tryz.isAgg9
  z9:=Tryz.sizeOf9
  v9:=Tryz.zeroValue9
  t37:=Tryz.underlying76
  a37:=Tryz.isAgg76
  z37:=Tryz.sizeOf76
  v37:=Tryz.zeroValue76
  t70:=Tryz.underlying96
  a70:=Tryz.isAgg96
  z70:=Tryz.sizeOf96
  v70:=Tryz.zeroValue96
  t72:=Tryz.underlying98
  a72:=Tryz.isAgg98
  z72:=Tryz.sizeOf98
  v72:=Tryz.zeroValue98
  t127:=Tryz.underlying126
  a127:=Tryz.isAgg126
  z127:=Tryz.sizeOf126
  v127:=Tryz.zeroValue126 }
theorem Tryz.Builder_Extra_169 : Builder.Extra Tryz.prog Tryz.lays169_ren:={
  sizeBuilder:=by kernel_rfl
  liesBuilder:=by kernel_rfl
  t5:=Tryz.underlying5
  a5:=Tryz.isAgg5
  z5:=Tryz.sizeOf5
  v5:=Tryz.zeroValue5
  infoByte:=by kernel_rfl
  cellsByte:=by kernel_rfl
  sizeByte:=by kernel_rfl
  neB5:=by decide }
open Go.RowKit in
theorem Tryz.Builder_String_any_f (B b : Nat) (l : List UInt8) (w : World) (h : Lib.IsBuilderF 98 5 B b (Lib.byteCells l) w) (hBw : B ≤ w.heap.size) :
    Calls Tryz.prog 66 #[.pointer (some ⟨b,0,none⟩)] w fun e w' =>e = .returned (.string ⟨l.toArray⟩) ∧ (Lib.IsBuilderF 98 5 B b (Lib.byteCells l) w' ∧ Below B w w'):=Any.Builder_String_any_f Tryz.lays169 Tryz.Builder_Extra_169 B b l w h hBw
end Go.Proofs
end
section
set_option linter.unusedVariables false
set_option linter.unnecessarySimpa false
open Go Go.RowKit Go.Shelf
namespace Go.Proofs.YthapdikdeoeplaaGreatDoor.Z7
theorem bldWrite (B b : Nat) (bs : List Value) (s : ByteArray) (w : World) (h : Lib.IsBuilderF (Tryz.lays156_ren.t 72) (Tryz.lays156_ren.t 5) B b bs w) (hlen : bs.length + s.size ≤ 140737488355328) (hBw : B ≤ w.heap.size) :
    Calls Tryz.prog 65 #[.pointer (some ⟨b,0,none⟩),.string s] w fun e w' =>e = .returned (.tuple #[.int .i64 s.size,.nilIface]) ∧ (Lib.BuilderAtF (Tryz.lays156_ren.t 72) (Tryz.lays156_ren.t 5) B b (.pointer (some ⟨b,0,none⟩)) (bs ++ Lib.strCells s) w' ∧ Below B w w') :=
  Any.Builder_WriteString_f ({ Tryz.lays156 with } : Lays.n166 Tryz.prog Tryz.lays156_ren) Tryz.Builder_Extra_156 B b bs s w h hlen hBw
end Go.Proofs.YthapdikdeoeplaaGreatDoor.Z7
end
section
set_option linter.unusedVariables false
set_option linter.unnecessarySimpa false
open Go Go.RowKit
set_option linter.unusedSimpArgs false
set_option maxRecDepth 100000
namespace Go.Proofs.YthapdikdeoeplaaGreatDoor.Z7
def badJ (l : List ByteArray) (seq : Int) (n i : Nat) : Bool:=match l[i]? with
  | some s =>((s.size : Int) != 64) || !((s.extract 56 s.size).toList == (endS seq i n).toList)
  | none =>true
def joinS (l : List ByteArray) (seq : Int) (n : Nat) : Nat → Nat → ByteArray → ByteArray × Int
  | 0,_,acc =>(acc,-1)
  | m + 1,i,acc =>bif badJ l seq n i then (⟨#[]⟩,(i : Int)) else joinS l seq n m (i + 1) (acc ++ ((l[i]?).getD ⟨#[]⟩).extract 0 56)
theorem cons_len {α : Type} {n : Nat} {l : List α} (h : l.length = n + 1) : ∃ x r,l = x :: r ∧ r.length = n:=by
  cases l with
  | nil =>cases h
  | cons x r =>exact ⟨x,r,rfl,by simpa using h⟩
theorem arr47 (a : Array Value) (h : a.size = 47) : ∃ x0 x1 x2 x3 x4 x5 x6 x7 x8 x9 x10 x11 x12 x13 x14 x15 x16 x17 x18 x19 x20 x21 x22 x23 x24 x25 x26 x27 x28 x29 x30 x31 x32 x33 x34 x35 x36 x37 x38 x39 x40 x41 x42 x43 x44 x45 x46 : Value,a = #[x0,x1,x2,x3,x4,x5,x6,x7,x8,x9,x10,x11,x12,x13,x14,x15,x16,x17,x18,x19,x20,x21,x22,x23,x24,x25,x26,x27,x28,x29,x30,x31,x32,x33,x34,x35,x36,x37,x38,x39,x40,x41,x42,x43,x44,x45,x46]:=by
  obtain ⟨l0⟩:=a
  have h0 : l0.length = 47:=h
  obtain ⟨x0,l1,rfl,h1⟩:=cons_len h0
  obtain ⟨x1,l2,rfl,h2⟩:=cons_len h1
  obtain ⟨x2,l3,rfl,h3⟩:=cons_len h2
  obtain ⟨x3,l4,rfl,h4⟩:=cons_len h3
  obtain ⟨x4,l5,rfl,h5⟩:=cons_len h4
  obtain ⟨x5,l6,rfl,h6⟩:=cons_len h5
  obtain ⟨x6,l7,rfl,h7⟩:=cons_len h6
  obtain ⟨x7,l8,rfl,h8⟩:=cons_len h7
  obtain ⟨x8,l9,rfl,h9⟩:=cons_len h8
  obtain ⟨x9,l10,rfl,h10⟩:=cons_len h9
  obtain ⟨x10,l11,rfl,h11⟩:=cons_len h10
  obtain ⟨x11,l12,rfl,h12⟩:=cons_len h11
  obtain ⟨x12,l13,rfl,h13⟩:=cons_len h12
  obtain ⟨x13,l14,rfl,h14⟩:=cons_len h13
  obtain ⟨x14,l15,rfl,h15⟩:=cons_len h14
  obtain ⟨x15,l16,rfl,h16⟩:=cons_len h15
  obtain ⟨x16,l17,rfl,h17⟩:=cons_len h16
  obtain ⟨x17,l18,rfl,h18⟩:=cons_len h17
  obtain ⟨x18,l19,rfl,h19⟩:=cons_len h18
  obtain ⟨x19,l20,rfl,h20⟩:=cons_len h19
  obtain ⟨x20,l21,rfl,h21⟩:=cons_len h20
  obtain ⟨x21,l22,rfl,h22⟩:=cons_len h21
  obtain ⟨x22,l23,rfl,h23⟩:=cons_len h22
  obtain ⟨x23,l24,rfl,h24⟩:=cons_len h23
  obtain ⟨x24,l25,rfl,h25⟩:=cons_len h24
  obtain ⟨x25,l26,rfl,h26⟩:=cons_len h25
  obtain ⟨x26,l27,rfl,h27⟩:=cons_len h26
  obtain ⟨x27,l28,rfl,h28⟩:=cons_len h27
  obtain ⟨x28,l29,rfl,h29⟩:=cons_len h28
  obtain ⟨x29,l30,rfl,h30⟩:=cons_len h29
  obtain ⟨x30,l31,rfl,h31⟩:=cons_len h30
  obtain ⟨x31,l32,rfl,h32⟩:=cons_len h31
  obtain ⟨x32,l33,rfl,h33⟩:=cons_len h32
  obtain ⟨x33,l34,rfl,h34⟩:=cons_len h33
  obtain ⟨x34,l35,rfl,h35⟩:=cons_len h34
  obtain ⟨x35,l36,rfl,h36⟩:=cons_len h35
  obtain ⟨x36,l37,rfl,h37⟩:=cons_len h36
  obtain ⟨x37,l38,rfl,h38⟩:=cons_len h37
  obtain ⟨x38,l39,rfl,h39⟩:=cons_len h38
  obtain ⟨x39,l40,rfl,h40⟩:=cons_len h39
  obtain ⟨x40,l41,rfl,h41⟩:=cons_len h40
  obtain ⟨x41,l42,rfl,h42⟩:=cons_len h41
  obtain ⟨x42,l43,rfl,h43⟩:=cons_len h42
  obtain ⟨x43,l44,rfl,h44⟩:=cons_len h43
  obtain ⟨x44,l45,rfl,h45⟩:=cons_len h44
  obtain ⟨x45,l46,rfl,h46⟩:=cons_len h45
  obtain ⟨x46,l47,rfl,h47⟩:=cons_len h46
  obtain rfl:=List.eq_nil_of_length_eq_zero h47
  exact ⟨x0,x1,x2,x3,x4,x5,x6,x7,x8,x9,x10,x11,x12,x13,x14,x15,x16,x17,x18,x19,x20,x21,x22,x23,x24,x25,x26,x27,x28,x29,x30,x31,x32,x33,x34,x35,x36,x37,x38,x39,x40,x41,x42,x43,x44,x45,x46,rfl⟩
theorem isBld_keep {T e : TypeId} {B b : Nat} {bs : List Value} {w w' : World} (h : Lib.IsBuilderF T e B b bs w) (hk : ∀ k,k < w.heap.size → w'.heap[k]? = w.heap[k]?) : Lib.IsBuilderF T e B b bs w':=by
  have key : ∀ p,Lib.BuilderAtF T e B b p bs w → Lib.BuilderAtF T e B b p bs w':=by
    rintro p ⟨hB,v,hb,⟨h1,h2⟩,hne⟩
    refine ⟨hB,v,(hk b (Array.getElem?_eq_some_iff.1 hb).1).trans hb,⟨h1,?_⟩,hne⟩
    rcases h2 with hn | ⟨g,cap,cur,fz,hv,hbg,hg,rest⟩
    · exact .inl hn
    · exact .inr ⟨g,cap,cur,fz,hv,hbg,(hk g (Array.getElem?_eq_some_iff.1 hg).1).trans hg,rest⟩
  exact h.elim (fun x => .inl (key _ x)) (fun x => .inr (key _ x))
open AH
theorem okJn : CtxOK S0 (ctxU S0 [(69,endT)] []):=ctxU_ok ⟨endT_ok,trivial⟩ trivial mixed
theorem mr_join {eb : Nat → Addr} {φ : Emb} {own : Nat → Prop} {w wr : World} {l : List ByteArray} {b : Nat} (hM : MR S0.errT eb φ (mget [some (.row true 1 (l.map strC))]) own w) (hd : ¬ φ.dom 1) (hk : ∀ k,k < w.heap.size → wr.heap[k]? = w.heap[k]?) (own' : Nat → Prop) :
    MR S0.errT eb (φ.add 1 b 0 2 2) (mget [some (.row true 1 (l.map strC)),none]) own' wr:=by
  have ext:=Emb.add_ext (φ:=φ) (b:=b) (base:=0) (k:=2) (size:=2) hd
  have only : ∀ id x,mget [some (.row true 1 (l.map strC)),none] id = some x → id = 0 ∧ x = .row true 1 (l.map strC):=by
    intro id x h
    match id,h with
    | 0,h =>exact ⟨rfl,by simpa [mget] using h.symm⟩
    | 1,h =>cases h
    | n + 2,h =>cases h
  have h0 : φ.dom 0:=hM.dom 0 _ rfl
  refine ⟨fun id x h => ?_,fun id ro k es h => ?_,fun id x h hs => ?_,fun id x h hr => ?_,fun id id' x x' h h' hne hr => ?_⟩
  · obtain ⟨rfl,rfl⟩:=only id x h; exact .inl h0
  · obtain ⟨rfl,he⟩:=only id _ h
    rw [ext.k 0 h0]
    cases he
    exact hM.kk 0 _ _ _ rfl
  · obtain ⟨rfl,rfl⟩:=only id x h
    have hs':=(Blk.solid_ext ext h0).1 hs
    obtain ⟨o,ho,hb⟩:=hM.blk 0 _ rfl hs'
    refine ⟨o,?_,hb.mono ext h0⟩
    rw [ext.blk 0 h0,hk _ (Array.getElem?_eq_some_iff.1 ho).1]
    exact ho
  · obtain ⟨rfl,rfl⟩:=only id x h; cases hr
  · obtain ⟨rfl,rfl⟩:=only id x h; cases hr
end Go.Proofs.YthapdikdeoeplaaGreatDoor.Z7
end
section
set_option linter.unusedVariables false
set_option linter.unnecessarySimpa false
open Go Go.RowKit
set_option linter.unusedSimpArgs false
set_option maxRecDepth 100000
namespace Go.Proofs.YthapdikdeoeplaaGreatDoor.Z7
abbrev KeepW (w wr : World) : Prop:=AH.Keeps (fun b =>w.heap.size ≤ b) w wr
theorem keep_below {w wr w' : World} (h : KeepW w wr) (g : Below w.heap.size wr w') : KeepW w w' :=
  ⟨g.os.trans h.os,g.output.trans h.output,Nat.le_trans h.size g.size,fun b hb hn =>(g.block b hb).trans (h.kept b hb hn),h.new⟩
theorem keep_keep {w wr w' : World} (h : KeepW w wr) (g : KeepW wr w') : KeepW w w' :=
  ⟨g.os.trans h.os,g.output.trans h.output,Nat.le_trans h.size g.size,fun b hb hn =>(g.kept b (Nat.lt_of_lt_of_le hb h.size) (by have:=h.size; omega)).trans (h.kept b hb hn),h.new⟩
def jnSt (l : List ByteArray) (c : Nat) (seq : Int) (n i : Nat) : AH.St:=⟨[(0,.slc 0 0 l.length (some c)),(1,.int .i64 seq),(2,.int .i64 n),(8,.ptr 1 0 0),(9,.int .i64 i),(10,.int .i64 n),(11,.int .i64 i),(3,.tup []),(4,.tup []),(5,.tup []),(46,.tup [])],[some (.row true 1 (l.map strC)),none]⟩
open AH in
theorem regA (l : List ByteArray) (c : Nat) (seq : Int) (n i : Nat) (hl : l.length ≤ 1048576) : wpA { call:=(ctxU S0 [(69,endT)] []).call,read:=(ctxU S0 [(69,endT)] []).read,eff:=(ctxU S0 [(69,endT)] []).eff,base:=2 } (F78.body.at [true,true,false,true,true,true,true,true,false,true,true,false,false])
    (fun e s =>e = .normal ∧ tget s.tm 37 = .bool (badJ l seq n i) ∧ tget s.tm 0 = .slc 0 0 l.length (some c) ∧ tget s.tm 1 = .int .i64 seq ∧ tget s.tm 2 = .int .i64 n ∧ tget s.tm 8 = .ptr 1 0 0 ∧ tget s.tm 9 = .int .i64 i ∧ tget s.tm 10 = .int .i64 n ∧ tget s.tm 11 = .int .i64 i ∧ tget s.tm 3 = .tup [] ∧ tget s.tm 4 = .tup [] ∧ tget s.tm 5 = .tup [] ∧ tget s.tm 46 = .tup []) (jnSt l c seq n i):=by
  unfold F78
  simp only [ACode.at]
  rcases Nat.lt_or_ge i l.length with hil | hil
  · have hd : decide ((i : Int) ≥ (l.length : Int)) = false:=by simp only [decide_eq_false_iff_not]; omega
    have hg : l[i]? = some l[i]:=List.getElem?_eq_getElem hil
    cases h64 : ((l[i].size : Int) != 64)
    · have hb : badJ l seq n i = !((l[i].extract 56 l[i].size).toList == (endS seq i n).toList):=by simp only [badJ,hg,h64,Bool.false_or]
      simp only [AH.SD,AH.SE,AOp.call?,AOp.next?,bstep,AV.cells,unAV,binAV,retQ,retV,AH.sliceElems,AH.bytesOf,AH.strOp,AH.bound,AH.missQ,AH.minmaxAV,AH.readOf,AH.effOf,Nat.reduceBEq,Nat.reduceAdd,Nat.reduceLT,↓reduceIte,Nat.reduceEqDiff,Nat.reduceLeDiff,Nat.reduceSub,Nat.reduceMul,Int.reduceSub,Int.reduceToNat,Int.reduceBEq,Int.reduceBNe,Int.reduceLT,Int.reduceGT,Int.reduceLE,Int.reduceGE,Int.reduceNeg,Int.reduceAdd,jnSt,hd,getD_enc,hil,strC_eq,h64,hb,endT_p,List.length_map]
      have hs64 : l[i].size = 64:=by
        have : (l[i].size : Int) = 64:=by simpa using h64
        omega
      repeat ((with_reducible refine And.intro ?_ ?_); focus (first | rfl | decide | omega | (simp only [List.length_map,List.length_set,and_true]; omega)))
      try simp only [AH.SD,AH.SE,AOp.call?,AOp.next?,bstep,AV.cells,unAV,binAV,retQ,retV,AH.sliceElems,AH.bytesOf,AH.strOp,AH.bound,AH.missQ,AH.minmaxAV,AH.readOf,AH.effOf,Nat.reduceBEq,Nat.reduceAdd,Nat.reduceLT,↓reduceIte,Nat.reduceEqDiff,Nat.reduceLeDiff,Nat.reduceSub,Nat.reduceMul,Int.reduceSub,Int.reduceToNat,Int.reduceBEq,Int.reduceBNe,Int.reduceLT,Int.reduceGT,Int.reduceLE,Int.reduceGE,Int.reduceNeg,Int.reduceAdd,jnSt,hd,getD_enc,hil,strC_eq,h64,hb,endT_p,List.length_map]
      repeat ((with_reducible refine And.intro ?_ ?_); focus (first | rfl | decide | omega | (simp only [List.length_map,List.length_set,and_true]; omega)))
      try trivial
    · have hb : badJ l seq n i = true:=by simp only [badJ,hg,h64,Bool.true_or]
      simp only [AH.SD,AH.SE,AOp.call?,AOp.next?,bstep,AV.cells,unAV,binAV,retQ,retV,AH.sliceElems,AH.bytesOf,AH.strOp,AH.bound,AH.missQ,AH.minmaxAV,AH.readOf,AH.effOf,Nat.reduceBEq,Nat.reduceAdd,Nat.reduceLT,↓reduceIte,Nat.reduceEqDiff,Nat.reduceLeDiff,Nat.reduceSub,Nat.reduceMul,Int.reduceSub,Int.reduceToNat,Int.reduceBEq,Int.reduceBNe,Int.reduceLT,Int.reduceGT,Int.reduceLE,Int.reduceGE,Int.reduceNeg,Int.reduceAdd,jnSt,hd,getD_enc,hil,strC_eq,h64,hb,List.length_map]
      repeat ((with_reducible refine And.intro ?_ ?_); focus (first | rfl | decide | omega | (simp only [List.length_map,List.length_set,and_true]; omega)))
      try simp only [AH.SD,AH.SE,AOp.call?,AOp.next?,bstep,AV.cells,unAV,binAV,retQ,retV,AH.sliceElems,AH.bytesOf,AH.strOp,AH.bound,AH.missQ,AH.minmaxAV,AH.readOf,AH.effOf,Nat.reduceBEq,Nat.reduceAdd,Nat.reduceLT,↓reduceIte,Nat.reduceEqDiff,Nat.reduceLeDiff,Nat.reduceSub,Nat.reduceMul,Int.reduceSub,Int.reduceToNat,Int.reduceBEq,Int.reduceBNe,Int.reduceLT,Int.reduceGT,Int.reduceLE,Int.reduceGE,Int.reduceNeg,Int.reduceAdd,jnSt,hd,getD_enc,hil,strC_eq,h64,hb,List.length_map]
      repeat ((with_reducible refine And.intro ?_ ?_); focus (first | rfl | decide | omega | (simp only [List.length_map,List.length_set,and_true]; omega)))
      try trivial
  · have hd : decide ((i : Int) ≥ (l.length : Int)) = true:=by simp only [decide_eq_true_eq]; omega
    have hb : badJ l seq n i = true:=by simp only [badJ,List.getElem?_eq_none hil]
    simp only [AH.SD,AH.SE,AOp.call?,AOp.next?,bstep,AV.cells,unAV,binAV,retQ,retV,AH.sliceElems,AH.bytesOf,AH.strOp,AH.bound,AH.missQ,AH.minmaxAV,AH.readOf,AH.effOf,Nat.reduceBEq,Nat.reduceAdd,Nat.reduceLT,↓reduceIte,Nat.reduceEqDiff,Nat.reduceLeDiff,Nat.reduceSub,Nat.reduceMul,Int.reduceSub,Int.reduceToNat,Int.reduceBEq,Int.reduceBNe,Int.reduceLT,Int.reduceGT,Int.reduceLE,Int.reduceGE,Int.reduceNeg,Int.reduceAdd,jnSt,hd,hb]
    repeat ((with_reducible refine And.intro ?_ ?_); focus (first | rfl | decide | omega | (simp only [List.length_map,List.length_set,and_true]; omega)))
    try trivial
theorem vr_int {S : AH.Sys} {eb : Nat → Addr} {φ : AH.Emb} {k : IntKind} {n : Int} {u : Value} (h : AH.VR S.errT eb φ (.int k n) u) : u = .int k n:=by cases h; rfl
theorem vr_bool {S : AH.Sys} {eb : Nat → Addr} {φ : AH.Emb} {b : Bool} {u : Value} (h : AH.VR S.errT eb φ (.bool b) u) : u = .bool b:=by cases h; rfl
theorem vr_tup0 {S : AH.Sys} {eb : Nat → Addr} {φ : AH.Emb} {u : Value} (h : AH.VR S.errT eb φ (.tup []) u) : u = undef:=by
  cases h
  rename_i us h
  obtain ⟨l⟩:=us
  cases h
  rfl
theorem regJ {eb : Nat → Addr} (l : List ByteArray) (hl : l.length ≤ 1048576) (cp : Nat) (seq : Int) (n i : Nat) {φ : AH.Emb} {w wr : World} {b : Nat} {a : Act} (hsz : a.tmps.size = 47) (hdf : a.defers = [])
    (hA : AH.Amb S0 eb (fun b =>w.heap.size ≤ b) w) (hM : AH.MR S0.errT eb φ (AH.mget [some (.row true 1 (l.map strC))]) (fun b =>w.heap.size ≤ b) w) (hd : ∀ id,φ.dom id → id < 1) (hk : KeepW w wr)
    (h0 : AH.VR S0.errT eb φ (.slc 0 0 l.length (some cp)) (a.tmps.getD 0 undef)) (h1 : a.tmps.getD 1 undef = .int .i64 seq) (h2 : a.tmps.getD 2 undef = .int .i64 n) (h8 : a.tmps.getD 8 undef = .pointer (some ⟨b,0,none⟩)) (h9 : a.tmps.getD 9 undef = .int .i64 i) (h10 : a.tmps.getD 10 undef = .int .i64 n) (h11 : a.tmps.getD 11 undef = .int .i64 i) (h3 : a.tmps.getD 3 undef = undef) (h4 : a.tmps.getD 4 undef = undef) (h5 : a.tmps.getD 5 undef = undef) (h46 : a.tmps.getD 46 undef = undef)
    {c : Code} (hc : AH.cCode Tryz.prog [1,0,2,3,4,5,6,7,8,9,10,11,12,13] 47 c = some (F78.body.at [true,true,false,true,true,true,true,true,false,true,true,false,false])) {Q : Exit → Act → World → Prop}
    (hQ : ∀ (a' : Act) (w' : World),a'.tmps.size = 47 → a'.defers = [] → KeepW wr w' → a'.tmps.getD 37 undef = .bool (badJ l seq n i) → (l ≠ [] → a'.tmps.getD 0 undef = a.tmps.getD 0 undef) → a'.tmps.getD 1 undef = .int .i64 seq → a'.tmps.getD 2 undef = .int .i64 n → a'.tmps.getD 8 undef = .pointer (some ⟨b,0,none⟩) → a'.tmps.getD 9 undef = .int .i64 i → a'.tmps.getD 10 undef = .int .i64 n → a'.tmps.getD 11 undef = .int .i64 i → a'.tmps.getD 3 undef = undef → a'.tmps.getD 4 undef = undef → a'.tmps.getD 5 undef = undef → a'.tmps.getD 46 undef = undef → Q .normal a' w') :
    c.wp Tryz.prog Q a wr:=by
  have hd1 : ¬ φ.dom 1:=fun q =>by have:=hd 1 q; omega
  have h0d : φ.dom 0:=hM.dom 0 _ rfl
  have ext:=AH.Emb.add_ext (φ:=φ) (b:=b) (base:=0) (k:=2) (size:=2) hd1
  have hkk : ∀ k,k < w.heap.size → wr.heap[k]? = w.heap[k]?:=fun k hk' =>hk.kept k hk' (by omega)
  have hC : AH.CtxOK S0 { call:=(AH.ctxU S0 [(69,endT)] []).call,read:=(AH.ctxU S0 [(69,endT)] []).read,eff:=(AH.ctxU S0 [(69,endT)] []).eff,base:=2 }:=⟨okJn.calls,okJn.reads,okJn.effs,okJn.mixed⟩
  refine wp_mono (AH.code_sound (S:=S0) (own:=fun x =>wr.heap.size ≤ x) (w0:=wr) (φ0:=φ.add 1 b 0 2 2) (nt:=47) (hA.fresh hk) hC (fun id q => ?_) c _ hc _ (jnSt l cp seq n i) a wr (regA l cp seq n i hl) ⟨φ.add 1 b 0 2 2,.refl _,hsz,hdf,fun t => ?_,mr_join hM hd1 hkk _,.refl fun x hx =>hx,fun id q => ?_⟩) ?_
  · rcases q with q | q
    · have:=hd id q; show id < 2; omega
    · show id < 2; omega
  · show AH.VR S0.errT eb _ (AH.tget (jnSt l cp seq n i).tm t) _
    simp only [jnSt,AH.tget]
    cases e0 : (0 == t)
    · cases e1 : (1 == t)
      · cases e2 : (2 == t)
        · cases e8 : (8 == t)
          · cases e9 : (9 == t)
            · cases e10 : (10 == t)
              · cases e11 : (11 == t)
                · cases e3 : (3 == t)
                  · cases e4 : (4 == t)
                    · cases e5 : (5 == t)
                      · cases e46 : (46 == t)
                        · exact .undef _
                        · obtain rfl : 46 = t:=by simpa using e46
                          rw [h46]; exact .tup _ _ .nil
                      · obtain rfl : 5 = t:=by simpa using e5
                        rw [h5]; exact .tup _ _ .nil
                    · obtain rfl : 4 = t:=by simpa using e4
                      rw [h4]; exact .tup _ _ .nil
                  · obtain rfl : 3 = t:=by simpa using e3
                    rw [h3]; exact .tup _ _ .nil
                · obtain rfl : 11 = t:=by simpa using e11
                  rw [h11]; exact .int _ _
              · obtain rfl : 10 = t:=by simpa using e10
                rw [h10]; exact .int _ _
            · obtain rfl : 9 = t:=by simpa using e9
              rw [h9]; exact .int _ _
          · obtain rfl : 8 = t:=by simpa using e8
            rw [h8]
            have:=AH.VR.ptr (T:=S0.errT) (eb:=eb) (φ:=φ.add 1 b 0 2 2) 1 0 0 (.inr rfl)
            simpa [AH.Emb.add] using this
        · obtain rfl : 2 = t:=by simpa using e2
          rw [h2]; exact .int _ _
      · obtain rfl : 1 = t:=by simpa using e1
        rw [h1]; exact .int _ _
    · obtain rfl : 0 = t:=by simpa using e0
      exact h0.mono ext
  · rcases q with q | q
    · have:=hd id q; show id < 2; omega
    · show id < 2; omega
  · rintro e a' w' ⟨st,⟨rfl,q37,q0,q1,q2,q8,q9,q10,q11,q3,q4,q5,q46⟩,φ',r⟩
    have tm : ∀ t v,AH.tget st.tm t = v → AH.VR S0.errT eb φ' v (a'.tmps.getD t undef):=fun t v h =>h ▸ r.tm t
    refine hQ a' w' r.size r.defers r.keeps (vr_bool (tm 37 _ q37)) (fun hne => ?_) (vr_int (tm 1 _ q1)) (vr_int (tm 2 _ q2)) ?_ (vr_int (tm 9 _ q9)) (vr_int (tm 10 _ q10)) (vr_int (tm 11 _ q11)) (vr_tup0 (tm 3 _ q3)) (vr_tup0 (tm 4 _ q4)) (vr_tup0 (tm 5 _ q5)) (vr_tup0 (tm 46 _ q46))
    · have hlen : l.length ≠ 0:=fun q =>hne (List.eq_nil_of_length_eq_zero q)
      obtain ⟨_,h⟩:=AH.slc_inv (tm 0 _ q0)
      obtain ⟨_,g⟩:=AH.slc_inv h0
      rcases h with ⟨c1,e1,_,f1,_⟩ | ⟨_,_,z,_⟩
      · rcases g with ⟨c2,e2,_,f2,_⟩ | ⟨_,_,z,_⟩
        · have b0 : φ'.blk 0 = φ.blk 0:=(r.ext.blk 0 (.inl h0d)).trans (ext.blk 0 h0d)
          have b1 : φ'.base 0 = φ.base 0:=(r.ext.base 0 (.inl h0d)).trans (ext.base 0 h0d)
          have b2 : φ'.k 0 = φ.k 0:=(r.ext.k 0 (.inl h0d)).trans (ext.k 0 h0d)
          rw [e1,e2,b0,b1,b2,f1 cp rfl,f2 cp rfl]
        · exact absurd z hlen
      · exact absurd z hlen
    · have h:=tm 8 _ q8
      generalize a'.tmps.getD 8 undef = u at h
      cases h
      have b0 : φ'.blk 1 = b:=(r.ext.blk 1 (.inr rfl)).trans (by simp [AH.Emb.add])
      have b1 : φ'.base 1 = 0:=(r.ext.base 1 (.inr rfl)).trans (by simp [AH.Emb.add])
      simp [b0,b1]
end Go.Proofs.YthapdikdeoeplaaGreatDoor.Z7
end
section
set_option linter.unusedVariables false
set_option linter.unnecessarySimpa false
open Go Go.RowKit
set_option linter.unusedSimpArgs false
set_option maxRecDepth 100000
namespace Go.Proofs.YthapdikdeoeplaaGreatDoor.Z7
theorem badJ_ok {l : List ByteArray} {seq : Int} {n i : Nat} (h : badJ l seq n i = false) : ∃ s,l[i]? = some s ∧ s.size = 64:=by
  unfold badJ at h
  split at h
  · rename_i s hs
    simp only [Bool.or_eq_false_iff] at h
    have : (s.size : Int) = 64:=by simpa using h.1
    exact ⟨s,hs,by omega⟩
  · cases h
def jnMu (n : Nat) : Value → Nat
  | .int _ k =>n - k.toNat
  | _ => 0
def jnRel (l : List ByteArray) (seq : Int) (n : Nat) (w : World) (tv : Value) (wr : World) : Prop :=
  ∃ (i : Nat) (acc : ByteArray),tv = .int .i64 i ∧ i ≤ n ∧ joinS l seq n (n - i) i acc = joinS l seq n n 0 ⟨#[]⟩ ∧ acc.size ≤ 56 * i ∧ KeepW w wr ∧ Lib.IsBuilderF (Tryz.lays156_ren.t 72) (Tryz.lays156_ren.t 5) w.heap.size w.heap.size (Lib.byteCells acc.data.toList) wr
theorem joinedK {eb : Nat → Addr} (l : List ByteArray) (hl : l.length ≤ 1048576) (cp : Nat) (ad : Option Addr) (seq : Int) (n : Nat) (hn : n ≤ 1000) {φ : AH.Emb} (w : World)
    (hA : AH.Amb S0 eb (fun b =>w.heap.size ≤ b) w) (hM : AH.MR S0.errT eb φ (AH.mget [some (.row true 1 (l.map strC))]) (fun b =>w.heap.size ≤ b) w) (hd : ∀ id,φ.dom id → id < 1)
    (h0 : AH.VR S0.errT eb φ (.slc 0 0 l.length (some cp)) (.slice ad l.length cp)) (hcell : ∀ (j : Nat) x,l[j]? = some x → ∃ bk off,ad = some ⟨bk,off,none⟩ ∧ w.cell? ⟨bk,off + j,none⟩ = some (.string x) ∧ bk < w.heap.size) :
    Calls Tryz.prog 78 #[.slice ad l.length cp,.int .i64 seq,.int .i64 n] w fun e w' =>e = .returned (.tuple #[.string (joinS l seq n n 0 ⟨#[]⟩).1,.int .i64 (joinS l seq n n 0 ⟨#[]⟩).2]) ∧ KeepW w w':=by
  go_enter Tryz.func78,Tryz.ntmps78
  go_wp2
  go_loopw [11] (jnRel l seq n w) (fun tv _ =>jnMu n tv)
  case atStart =>
    have hb0 : Below w.heap.size w (w.alloc (.cells #[.pointer none,.slice none 0 0] (Tryz.lays156_ren.t 72))):=(Below.refl _ w).alloc (Nat.le_refl _) _
    refine ⟨0,⟨#[]⟩,rfl,Nat.zero_le _,rfl,Nat.zero_le _,keep_below (.refl fun x hx =>hx) hb0,.inl ⟨Nat.le_refl _,.slice none 0 0,?_,World.ownsRowF_nil _ _ _ _,by simp [Value.ownBlock]⟩⟩
    show (w.heap.push _)[w.heap.size]? = _
    rw [Array.getElem?_push,if_pos rfl]
    rfl
  case round =>
    obtain ⟨i,acc,rfl,hi,hj,hsz,hkw,hbld⟩:=hrel
    by_cases hin : i < n
    · have hlt : decide ((i : Int) < (n : Int)) = true:=by simp only [decide_eq_true_eq]; omega
      go_wp2
      refine regJ l hl cp seq n i (φ:=φ) (w:=w) (b:=w.heap.size) ?_ ?_ hA hM hd hkw ?_ ?_ ?_ ?_ ?_ ?_ ?_ ?_ ?_ ?_ ?_ ?_ ?_
      · rfl
      · rfl
      · exact h0
      · rfl
      · rfl
      · rfl
      · rfl
      · rfl
      · rfl
      · rfl
      · rfl
      · rfl
      · rfl
      · kernel_rfl
      rintro ⟨a',df⟩ w' s1 s2 hk' g37 g0 g1 g2 g8 g9 g10 g11 g3 g4 g5 g46
      simp only at s1 s2 g37 g0 g1 g2 g8 g9 g10 g11 g3 g4 g5 g46
      subst s2
      obtain ⟨x0,x1,x2,x3,x4,x5,x6,x7,x8,x9,x10,x11,x12,x13,x14,x15,x16,x17,x18,x19,x20,x21,x22,x23,x24,x25,x26,x27,x28,x29,x30,x31,x32,x33,x34,x35,x36,x37,x38,x39,x40,x41,x42,x43,x44,x45,x46,rfl⟩:=arr47 a' s1
      obtain rfl : x37 = _:=g37
      obtain rfl : x1 = _:=g1
      obtain rfl : x2 = _:=g2
      obtain rfl : x8 = _:=g8
      obtain rfl : x9 = _:=g9
      obtain rfl : x10 = _:=g10
      obtain rfl : x11 = _:=g11
      obtain rfl : x3 = _:=g3
      obtain rfl : x4 = _:=g4
      obtain rfl : x5 = _:=g5
      obtain rfl : x46 = _:=g46
      have hkw':=keep_keep hkw hk'
      have hbld':=isBld_keep hbld fun k hk =>hk'.kept k hk (by omega)
      cases hb : badJ l seq n i
      · obtain ⟨s,hs,hs64⟩:=badJ_ok hb
        have hne : l ≠ []:=fun q =>by rw [q] at hs; cases hs
        obtain rfl : x0 = _:=g0 hne
        obtain ⟨bk,off,rfl,hc,hbk⟩:=hcell i s hs
        have hil : i < l.length:=(List.getElem?_eq_some_iff.1 hs).1
        have hc' : w'.cell? ⟨bk,off + i,none⟩ = some (.string s):=by
          have : w'.heap[bk]? = w.heap[bk]?:=hkw'.kept bk hbk (by omega)
          simp only [World.cell?,this] at hc ⊢
          exact hc
        go_wp2_with (go_at_call 65; refine (bldWrite w.heap.size w.heap.size _ _ w' hbld' ?_ hkw'.size).mono ?_)
        · have : (Lib.byteCells acc.data.toList).length = acc.size:=by simp [Lib.byteCells]
          omega
        · rintro e W2 rfl hB2 hbel2
          have hkw2:=keep_below hkw' hbel2
          have hbld2 : Lib.IsBuilderF (Tryz.lays156_ren.t 72) (Tryz.lays156_ren.t 5) w.heap.size w.heap.size (Lib.byteCells (acc ++ s.extract 0 56).data.toList) W2:=by
            have e : Lib.byteCells (acc ++ s.extract 0 56).data.toList = Lib.byteCells acc.data.toList ++ Lib.strCells (s.extract 0 56):=by
              simp [Lib.byteCells,Lib.strCells,ByteArray.data_append]
            rw [e]
            exact .inr hB2
          have hj2 : joinS l seq n (n - (i + 1)) (i + 1) (acc ++ s.extract 0 56) = joinS l seq n n 0 ⟨#[]⟩:=by
            rw [← hj,show n - i = (n - (i + 1)) + 1 by omega,joinS,hb,cond_false,hs]
            rfl
          have hw1 : IntKind.i64.wrap ((i : Int) + 1) = ((i + 1 : Nat) : Int):=by rw [IntKind.wrap_i64]; omega
          have hsz2 : (acc ++ s.extract 0 56).size ≤ 56 * (i + 1):=by
            rw [ByteArray.size_append,ByteArray.size_extract]; omega
          go_wp2
          refine ⟨⟨i + 1,_,by rw [Int.natCast_add]; rfl,by omega,hj2,hsz2,hkw2,hbld2⟩,?_⟩
          simp only [jnMu]
          omega
      · go_wp2
        go_ret2
        refine ⟨?_,hkw'⟩
        rw [← hj,show n - i = (n - i - 1) + 1 by omega,joinS,hb]
        rfl
    · obtain rfl : i = n:=by omega
      have hlt : decide ((i : Int) < (i : Int)) = false:=by simp
      rw [Nat.sub_self] at hj
      have hres : joinS l seq i i 0 ⟨#[]⟩ = (acc,-1):=hj.symm
      go_wp2_with (go_at_call 66; refine (Tryz.Builder_String_any_f w.heap.size w.heap.size acc.data.toList wr hbld hkw.size).mono ?_)
      rintro e W2 ⟨rfl,_,hbel2⟩
      have hkw2:=keep_below hkw hbel2
      go_wp2
      go_ret2
      refine ⟨?_,hkw2⟩
      rw [hres]
      rfl
end Go.Proofs.YthapdikdeoeplaaGreatDoor.Z7
end
section
set_option linter.unusedVariables false
set_option linter.unnecessarySimpa false
open Go AH
set_option linter.unusedSimpArgs false
set_option maxRecDepth 100000
namespace Go.Proofs.YthapdikdeoeplaaGreatDoor.Z7
theorem joined_ok (l : List ByteArray) (hl : l.length ≤ 1048576) (seq : Int) (n : Nat) (hn : n ≤ 1000) : CallA1 S0 78 [.slc 0 0 l.length none,.int .i64 seq,.int .i64 n] [some (.row true 1 (l.map strC))]
    fun r _ =>r = .tup [.str (joinS l seq n n 0 ⟨#[]⟩).1,.int .i64 (joinS l seq n n 0 ⟨#[]⟩).2]:=by
  intro eb φ own w0 w us hA hus hM hk hb
  obtain ⟨u,h1⟩ : ∃ u,us.toList = u:=⟨_,rfl⟩
  rw [h1] at hus
  cases hus with
  | cons _ u1 _ us1 v1 hus =>
  cases hus with
  | cons _ u2 _ us2 v2 hus =>
  cases hus with
  | cons _ u3 _ us3 v3 hus =>
  cases hus
  cases v2
  cases v3
  obtain rfl : us = #[u1,.int .i64 seq,.int .i64 n]:=by cases us; simp_all
  have hAf:=hA.fresh hk
  have hM' : MR S0.errT eb φ (mget [some (.row true 1 (l.map strC))]) (fun b =>w.heap.size ≤ b) w:=by
    refine ⟨hM.dom,hM.kk,hM.blk,fun id x h hr => ?_,fun id id' x x' h h' hne hr => ?_⟩
    · match id,h with
      | 0,h =>cases h; cases hr
      | n + 1,h =>cases h
    · match id,h with
      | 0,h =>cases h; cases hr
      | n + 1,h =>cases h
  have hd : ∀ id,φ.dom id → id < 1:=hb
  obtain ⟨hdm,hu⟩:=slc_inv v1
  have hkk : φ.k 0 = 1:=hM.kk 0 _ _ _ rfl
  obtain ⟨ad,cp,rfl,h0,hcell⟩ : ∃ ad cp,u1 = .slice ad l.length cp ∧ VR S0.errT eb φ (.slc 0 0 l.length (some cp)) (.slice ad l.length cp) ∧
      ∀ (j : Nat) x,l[j]? = some x → ∃ bk off,ad = some ⟨bk,off,none⟩ ∧ w.cell? ⟨bk,off + j,none⟩ = some (.string x) ∧ bk < w.heap.size:=by
    rcases hu with ⟨c,rfl,h2,_,h4⟩ | ⟨ad,rfl,hz,_⟩
    · refine ⟨_,c,rfl,.slc 0 0 l.length (some c) c hdm h2 (fun c0 q =>by cases q; rfl) h4,fun j x hj => ?_⟩
      have hsol : (Blk.row true 1 (l.map strC)).solid φ 0:=.inl fun q =>by
        have : l = []:=List.map_eq_nil_iff.1 q
        rw [this] at hj; cases hj
      obtain ⟨o,ho,arr,et,fr,rfl,_,hsz,hfit,_,hcells⟩:=hM.blk 0 _ rfl hsol
      refine ⟨φ.blk 0,φ.base 0 + 0 * φ.k 0,rfl,?_,(Array.getElem?_eq_some_iff.1 ho).1⟩
      have he : (l.map strC)[j]? = some [.str x]:=by rw [List.getElem?_map,hj]; rfl
      obtain ⟨_,hc⟩:=hcells j _ he
      obtain ⟨u,hu1,hu2,_⟩:=hc 0 (.str x) rfl
      cases hu2
      simp only [World.cell?,ho]
      rw [← hu1]
      simp
    · refine ⟨ad,0,by rw [hz],?_,fun j x hj => ?_⟩
      · rw [hz]; exact .slc0 0 0 (some 0) ad hdm (fun c0 q =>by cases q; rfl)
      · rw [List.eq_nil_of_length_eq_zero hz] at hj; cases hj
  refine callRes_of Tryz.func78 rfl (by decide) ((joinedK l hl cp ad seq n hn w hAf hM' hd h0 hcell).mono ?_)
  rintro e w' ⟨rfl,hkw⟩
  have hbel : ∀ k,k < w.heap.size → w'.heap[k]? = w.heap[k]?:=fun k hk' =>hkw.kept k hk' (by omega)
  refine ⟨_,rfl,φ,_,[some (.row true 1 (l.map strC))],rfl,.refl φ,.tup _ _ (.cons _ _ _ _ (.str _) (.cons _ _ _ _ (.int _ _) .nil)),?_,?_,hb⟩
  · refine ⟨hM.dom,hM.kk,fun id x h hs => ?_,hM.own,hM.inj⟩
    obtain ⟨o,ho,hbr⟩:=hM.blk id x h hs
    exact ⟨o,by rw [hbel _ (Array.getElem?_eq_some_iff.1 ho).1]; exact ho,hbr⟩
  · exact ⟨hkw.os.trans hk.os,hkw.output.trans hk.output,Nat.le_trans hk.size hkw.size,fun b hb' ho =>(hbel b (Nat.lt_of_lt_of_le hb' hk.size)).trans (hk.kept b hb' ho),hk.new⟩
end Go.Proofs.YthapdikdeoeplaaGreatDoor.Z7
end
section
set_option linter.unusedVariables false
set_option linter.unnecessarySimpa false
open Go AH
set_option linter.unusedSimpArgs false
set_option maxRecDepth 100000
namespace Go.Proofs.YthapdikdeoeplaaGreatDoor.Z7
theorem joinS_sz (l : List ByteArray) (seq : Int) (n : Nat) : ∀ (m i : Nat) (acc : ByteArray),(joinS l seq n m i acc).2 = -1 → (joinS l seq n m i acc).1.size = acc.size + 56 * m
  | 0,i,acc,_ =>by simp [joinS]
  | m + 1,i,acc,h =>by
    unfold joinS at h ⊢
    cases hb : badJ l seq n i
    · rw [hb] at h
      simp only [cond_false] at h ⊢
      rw [joinS_sz l seq n m (i + 1) _ h,ByteArray.size_append]
      obtain ⟨s,hs,h64⟩:=badJ_ok hb
      have : (((l[i]?).getD ⟨#[]⟩).extract 0 56).size = 56:=by
        rw [hs,Option.getD_some,ByteArray.size_extract]; omega
      omega
    · rw [hb] at h
      simp only [cond_true] at h
      omega
theorem joinS_at (l : List ByteArray) (seq : Int) (n : Nat) : ∀ (m i : Nat) (acc : ByteArray),(joinS l seq n m i acc).2 = -1 ∨ 0 ≤ (joinS l seq n m i acc).2
  | 0,i,acc => .inl rfl
  | m + 1,i,acc =>by
    unfold joinS
    cases badJ l seq n i
    · exact joinS_at l seq n m (i + 1) _
    · right; show (0 : Int) ≤ (i : Int); omega
def jnZ (l : List ByteArray) (seq : Int) (n : Nat) : ByteArray × Int:=joinS l seq n n 0 ⟨#[]⟩
def jnQ (n id : Nat) (seq k : Int) : Option Blk → Option (AV × List Nat)
  | some (.row _ 1 es) =>if n = es.length ∧ n ≤ 1048576 ∧ 0 ≤ k ∧ k ≤ 1000 then (cStr.decL es).map fun l =>(.tup [.str (jnZ l seq k.toNat).1,.int .i64 (jnZ l seq k.toNat).2],[id]) else none
  | _ =>none
def jnT : RT:=fun args M =>match args with
  | [.slc id 0 n _,.int .i64 seq,.int .i64 k] =>jnQ n id seq k (M id)
  | _ =>none
theorem jnT_p {id n : Nat} {cp : Option Nat} {seq k : Int} {M : Nat → Option Blk} : jnT [.slc id 0 n cp,.int .i64 seq,.int .i64 k] M = jnQ n id seq k (M id):=rfl
theorem jnQ_eq {l : List ByteArray} {id : Nat} {ro : Bool} {seq : Int} {k : Nat} (hl : l.length ≤ 1048576) (hk : k ≤ 1000) : jnQ l.length id seq (k : Int) (some (.row ro 1 (l.map strC))) = some (.tup [.str (jnZ l seq k).1,.int .i64 (jnZ l seq k).2],[id]):=by
  have hd : cStr.decL (l.map strC) = some l:=cStr.decL_map l
  have h2 : (0 : Int) ≤ (k : Int):=by omega
  have h3 : (k : Int) ≤ 1000:=by omega
  simp only [jnQ,hd,List.length_map,hl,h2,h3,and_self,if_true,Option.map_some,Int.toNat_natCast]
theorem jnF_ok (seq : Int) (n : Nat) (hn : n ≤ 1000) : ReadF S0 78 (rtPre 1 cStr (cSub1 (cC (aI .i64) (cC (aI .i64) c0)) (fun x =>x.1 = seq ∧ x.2.1 = n)) fun l _ => .tup [.str (jnZ l seq n).1,.int .i64 (jnZ l seq n).2]) :=
  rtPre_ok errs0 fun l b hl =>⟨rfl,by
    obtain ⟨⟨a,b,u⟩,h⟩:=b
    have h1 : a = seq:=h.1
    have h2 : b = (n : Int):=h.2
    show CallA1 S0 _ (.slc 0 0 l.length none :: [.int .i64 a,.int .i64 b]) _ _
    rw [h1,h2]
    exact joined_ok l hl seq n hn⟩
theorem jnT_ok : ReadF S0 78 jnT:=by
  intro args M v foot e
  unfold jnT at e
  split at e
  · rename_i id n cp seq k
    unfold jnQ at e
    split at e
    · rename_i ro es hrow
      split at e
      · rename_i hc
        obtain ⟨h1,h2,h3,h4⟩:=hc
        cases hl : cStr.decL es with
        | none =>rw [hl] at e; cases e
        | some l =>
          rw [hl] at e
          simp only [Option.map_some,Option.some.injEq,Prod.mk.injEq] at e
          obtain ⟨rfl,rfl⟩:=e
          obtain rfl:=cStr.decL_ok hl
          obtain ⟨K,rfl⟩:=Int.eq_ofNat_of_zero_le h3
          have hK : K ≤ 1000:=by omega
          simp only [List.length_map] at h1
          subst h1
          simp only [Int.toNat_natCast]
          have key:=jnF_ok seq K hK [.slc id 0 l.length cp,.int .i64 seq,.int .i64 K] M (.tup [.str (jnZ l seq K).1,.int .i64 (jnZ l seq K).2]) [id] (by
            rw [rtPre_p,hrow]
            have hd : (cSub1 (cC (aI .i64) (cC (aI .i64) c0)) (fun x =>x.1 = seq ∧ x.2.1 = (K : Int))).dec [.int .i64 seq,.int .i64 K] = some ⟨(seq,(K : Int),()),rfl,rfl⟩:=cSub1_dec ⟨rfl,rfl⟩ rfl
            rw [hd]
            exact rtPQ_eq1 (c:=cStr) h2)
          refine ⟨fun M' hM' => ?_,key.2⟩
          have h5 : M' id = M id:=hM' id (by simp)
          rw [jnT_p,h5,hrow]
          exact jnQ_eq h2 hK
      · cases e
    · cases e
  · cases e
end Go.Proofs.YthapdikdeoeplaaGreatDoor.Z7
end
section
set_option linter.unusedVariables false
set_option linter.unnecessarySimpa false
open Go AH
set_option linter.unusedSimpArgs false
set_option maxRecDepth 100000
namespace Go.Proofs.YthapdikdeoeplaaGreatDoor.Z7
theorem firB_in {seq n : Int} {e : ByteArray} (h : firB seq n e = true) : 1 ≤ seq ∧ seq ≤ 2147483647 ∧ 1 ≤ n ∧ n ≤ 108:=by
  unfold firB at h
  cases h1 : decide (seq ≥ 1) <;> cases h2 : decide (seq ≤ 2147483647) <;> cases h3 : decide (n ≥ 1) <;> cases h4 : decide (n ≤ 108) <;> rw [h1,h2,h3,h4] at h <;> first | (cases h; done) | skip
  simp only [decide_eq_true_eq] at h1 h2 h3 h4
  omega
theorem firZ_in {l : List ByteArray} (h : (firZ l).2.2 = true) : 1 ≤ (firZ l).1 ∧ (firZ l).1 ≤ 2147483647 ∧ 1 ≤ (firZ l).2.1 ∧ (firZ l).2.1 ≤ 108:=by
  cases l with
  | nil =>cases h
  | cons s r =>
    simp only [firZ,firS] at h ⊢
    cases h6 : ((s.size : Int) != 64)
    · rw [h6] at h
      simp only [cond_false] at h ⊢
      exact firB_in h
    · rw [h6] at h; cases h
theorem firT_f {l : List ByteArray} {i : Nat} {ro : Bool} (h : l.length ≤ 1048576) : rt1Q 1 cStr (fun l (_ : Unit) =>firA (firZ l)) l.length i (some (.row ro 1 (l.map strC))) (some ()) = some (.tup [.int .i64 (firZ l).1,.int .i64 (firZ l).2.1,.bool (firZ l).2.2],[i]):=firT_e h
structure Rd where
  t : ByteArray
  q : Int
  n : Int
  bad : Int
def rdZ (l : List ByteArray) : Rd :=
  bif (firZ l).2.2 then
    (bif decide ((jnZ l (firZ l).1 (firZ l).2.1.toNat).2 ≥ 0) then ⟨⟨#[]⟩,0,0,(jnZ l (firZ l).1 (firZ l).2.1.toNat).2⟩
     else bif (datZ (jnZ l (firZ l).1 (firZ l).2.1.toNat).1).2 then ⟨(datZ (jnZ l (firZ l).1 (firZ l).2.1.toNat).1).1,(firZ l).1,(firZ l).2.1,-1⟩ else ⟨⟨#[]⟩,0,0,0⟩)
  else ⟨⟨#[]⟩,0,0,0⟩
def rdA (x : Rd) : AV:=.tup [.str x.t,.int .i64 x.q,.int .i64 x.n,bif x.bad == -1 then .nili else .ifc 131 (.ptr 1 0 0)]
def rdM (l : List ByteArray) (x : Rd) : Mem:=some (.row true 1 (l.map strC)) :: bif x.bad == -1 then [] else wrM x.bad
noncomputable abbrev tRd : List (FuncId × RT):=[(76,firT),(78,jnT),(79,datRT)]
theorem okRd : CtxOK S0 (ctxE S0 tRd [] [(77,wrT)]):=ctxE_ok ⟨firT_ok,jnT_ok,datRT_ok,trivial⟩ trivial ⟨wrT_ok,trivial⟩ mixed
theorem read_ok (l : List ByteArray) (hl : l.length ≤ 1048576) : CallA1 S0 60 [.slc 0 0 l.length none] [some (.row true 1 (l.map strC))] fun r m =>r = rdA (rdZ l) ∧ m = rdM l (rdZ l):=by
  refine CallA1.fin ?_
  refine fun_sound okRd Tryz.func60 c60 ?_
  unfold wpF F60
  cases h1 : (firZ l).2.2
  · have hz : rdZ l = ⟨⟨#[]⟩,0,0,0⟩:=by rw [rdZ,h1]; rfl
    simp only [AH.SD,AH.SE,AOp.call?,AOp.next?,bstep,AV.cells,unAV,binAV,retQ,retV,AH.sliceElems,AH.bytesOf,AH.strOp,AH.bound,AH.missQ,AH.minmaxAV,AH.readOf,AH.effOf,simprocAttr,AH.SP,AH.PD,AV.inB,vstep,vw,shift,newOnes,rowsM,blkIn,rwB,@flat_lts,AV.lt,AV.lts,Nat.sub_self,AH.SO,firT_p,firT_f hl,h1,wrT_eq,wrA,wrM]
    refine ⟨[0,1],[],?_⟩
    simp only [AH.SD,AH.SE,AOp.call?,AOp.next?,bstep,AV.cells,unAV,binAV,retQ,retV,AH.sliceElems,AH.bytesOf,AH.strOp,AH.bound,AH.missQ,AH.minmaxAV,AH.readOf,AH.effOf,simprocAttr,AH.SP,AH.PD,AV.inB,vstep,hz,rdA,rdM,wrM,show ((0 : Int) == -1) = false from rfl]
  · obtain ⟨q1,q2,q3,q4⟩:=firZ_in h1
    obtain ⟨K,hK⟩:=Int.eq_ofNat_of_zero_le (by omega : 0 ≤ (firZ l).2.1)
    have hKn : (firZ l).2.1.toNat = K:=by omega
    have jq:=fun (i : Nat) (ro : Bool) =>jnQ_eq (l:=l) (id:=i) (ro:=ro) (seq:=(firZ l).1) hl (show K ≤ 1000 by omega)
    rcases joinS_at l (firZ l).1 K K 0 ⟨#[]⟩ with hj | hj
    · have hsz : (jnZ l (firZ l).1 K).1.size = 56 * K:=by have:=joinS_sz l (firZ l).1 K K 0 ⟨#[]⟩ hj; rw [jnZ,this]; show 0 + 56 * K = 56 * K; omega
      have hneg : decide ((jnZ l (firZ l).1 K).2 ≥ 0) = false:=by rw [jnZ,hj]; rfl
      have h8 : 8 ≤ (jnZ l (firZ l).1 K).1.size:=by omega
      have hok : okSz (jnZ l (firZ l).1 K).1:=by unfold okSz; omega
      cases hd : (datZ (jnZ l (firZ l).1 K).1).2
      · have hz : rdZ l = ⟨⟨#[]⟩,0,0,0⟩:=by rw [rdZ,h1,hKn,hneg,hd]; rfl
        simp only [AH.SD,AH.SE,AOp.call?,AOp.next?,bstep,AV.cells,unAV,binAV,retQ,retV,AH.sliceElems,AH.bytesOf,AH.strOp,AH.bound,AH.missQ,AH.minmaxAV,AH.readOf,AH.effOf,simprocAttr,AH.SP,AH.PD,AV.inB,vstep,vw,shift,newOnes,rowsM,blkIn,rwB,@flat_lts,AV.lt,AV.lts,Nat.sub_self,AH.SO,firT_p,firT_f hl,h1,hK,jnT_p,jq,hneg,datRT_p h8 hok,hd,wrT_eq,wrA,wrM]
        refine ⟨[0,1],[],?_⟩
        simp only [AH.SD,AH.SE,AOp.call?,AOp.next?,bstep,AV.cells,unAV,binAV,retQ,retV,AH.sliceElems,AH.bytesOf,AH.strOp,AH.bound,AH.missQ,AH.minmaxAV,AH.readOf,AH.effOf,simprocAttr,AH.SP,AH.PD,AV.inB,vstep,hz,rdA,rdM,wrM,show ((0 : Int) == -1) = false from rfl]
      · have hz : rdZ l = ⟨(datZ (jnZ l (firZ l).1 K).1).1,(firZ l).1,(firZ l).2.1,-1⟩:=by rw [rdZ,h1,hKn,hneg,hd]; rfl
        simp only [AH.SD,AH.SE,AOp.call?,AOp.next?,bstep,AV.cells,unAV,binAV,retQ,retV,AH.sliceElems,AH.bytesOf,AH.strOp,AH.bound,AH.missQ,AH.minmaxAV,AH.readOf,AH.effOf,simprocAttr,AH.SP,AH.PD,AV.inB,vstep,vw,shift,newOnes,rowsM,blkIn,rwB,@flat_lts,AV.lt,AV.lts,Nat.sub_self,AH.SO,firT_p,firT_f hl,h1,hK,jnT_p,jq,hneg,datRT_p h8 hok,hd]
        refine ⟨[0],[],?_⟩
        simp only [AH.SD,AH.SE,AOp.call?,AOp.next?,bstep,AV.cells,unAV,binAV,retQ,retV,AH.sliceElems,AH.bytesOf,AH.strOp,AH.bound,AH.missQ,AH.minmaxAV,AH.readOf,AH.effOf,simprocAttr,AH.SP,AH.PD,AV.inB,vstep,hz,rdA,rdM,hK,show ((-1 : Int) == -1) = true from rfl]
    · have hpos : decide ((jnZ l (firZ l).1 K).2 ≥ 0) = true:=decide_eq_true (show (joinS l (firZ l).1 K K 0 ⟨#[]⟩).2 ≥ 0 from hj)
      have hne : ((jnZ l (firZ l).1 K).2 == -1) = false:=by simp only [jnZ,beq_eq_false_iff_ne]; omega
      have hz : rdZ l = ⟨⟨#[]⟩,0,0,(jnZ l (firZ l).1 K).2⟩:=by rw [rdZ,h1,hKn,hpos]; rfl
      simp only [AH.SD,AH.SE,AOp.call?,AOp.next?,bstep,AV.cells,unAV,binAV,retQ,retV,AH.sliceElems,AH.bytesOf,AH.strOp,AH.bound,AH.missQ,AH.minmaxAV,AH.readOf,AH.effOf,simprocAttr,AH.SP,AH.PD,AV.inB,vstep,vw,shift,newOnes,rowsM,blkIn,rwB,@flat_lts,AV.lt,AV.lts,Nat.sub_self,AH.SO,firT_p,firT_f hl,h1,hK,jnT_p,jq,hpos,wrT_eq,wrA,wrM]
      refine ⟨[0,1],[],?_⟩
      simp only [AH.SD,AH.SE,AOp.call?,AOp.next?,bstep,AV.cells,unAV,binAV,retQ,retV,AH.sliceElems,AH.bytesOf,AH.strOp,AH.bound,AH.missQ,AH.minmaxAV,AH.readOf,AH.effOf,simprocAttr,AH.SP,AH.PD,AV.inB,vstep,hz,rdA,rdM,wrM,hne]
def rdT : ET:=etO (sxO cStr 1) c0 fun l _ =>if l.length ≤ 1048576 then some (rdA (rdZ l),rdM l (rdZ l)) else none
theorem rdT_ok : EffF S0 60 rdT:=etO_ok fun l _ v m' h =>by
  split at h
  · rename_i hl
    simp only [Option.some.injEq,Prod.mk.injEq] at h
    obtain ⟨rfl,rfl⟩:=h
    refine ⟨⟨?_,?_⟩,read_ok l hl⟩
    · unfold rdM; simp [sxO]
    · unfold rdM
      cases (rdZ l).bad == -1 <;> rfl
  · cases h
theorem rdT_p {i n k : Nat} {M : Nat → Option Blk} : rdT [.slc i 0 k none] M n = etO2 n (fun (l : List ByteArray) (_ : Unit) =>if l.length ≤ 1048576 then some (rdA (rdZ l),rdM l (rdZ l)) else none) (sxR cStr 1 k i (M i)) (some ()):=by
  simp only [rdT,etO_eq,c0_dec,sxO_dec]
end Go.Proofs.YthapdikdeoeplaaGreatDoor.Z7
end
section
set_option linter.unusedVariables false
set_option linter.unnecessarySimpa false
open Go AH
namespace Go.Proofs.YthapdikdeoeplaaGreatDoor.Z7
def strSH : List SH:=[.str]
theorem str_of (el : List AV) (h0 : shsOK strSH el) : ∃ s : ByteArray,el = strC s:=by
  obtain ⟨_,r1,rfl,h1,h2⟩:=shs_cons h0
  obtain rfl:=shs_nil h2
  obtain ⟨a,rfl,_⟩:=h1
  exact ⟨a,rfl⟩
end Go.Proofs.YthapdikdeoeplaaGreatDoor.Z7
end
section
set_option linter.unusedVariables false
set_option linter.unnecessarySimpa false
open Go AH
namespace Go.Proofs.YthapdikdeoeplaaGreatDoor.Z7
-- quitrent/block.New
def F24 : AFun:=⟨9,1,[.tmp 2],(.seq (.reg [⟨some 2,none,.mov (.c .nilp)⟩]) (.seq (.reg [⟨some 3,none,.mov (.t 0)⟩,⟨some 4,none,.minmax true [(.t 3),(.c (.int .i64 0))]⟩,⟨some 5,none,.minmax false [(.t 4),(.c (.int .i64 4096))]⟩,⟨some 6,none,.ibin .mul (.t 5) (.c (.int .i64 64))⟩,⟨some 7,none,.call (.c (.fn 55 [] [])) [(.c (.str ⟨#[0]⟩)),(.t 6)]⟩,⟨some 8,none,.call (.c (.fn 7 [] [])) [(.t 7)]⟩,⟨some 2,none,.mov (.t 8)⟩]) .ret))⟩
-- quitrent/block.Of
def F7 : AFun:=⟨31,1,[.tmp 2],(.seq (.reg [⟨some 2,none,.mov (.c .nilp)⟩]) (.seq (.reg [⟨some 4,none,.build [.nils,(.bool false),(.int .i64 0),(.int .i64 0),(.int .i64 0)] [(2,1,(.c (.int .i64 (-1))))]⟩,⟨some 5,none,.box 5 (.t 4)⟩,⟨some 3,none,.mov (.t 5)⟩]) (.seq (.block 0 (.loop (.seq (.seq (.reg [⟨some 6,none,.mov (.t 0)⟩,⟨some 7,none,.len .str (.t 6)⟩,⟨some 8,none,.ibin .geq (.t 7) (.c (.int .i64 64))⟩,⟨some 9,none,.mov (.t 8)⟩,⟨some 10,(some (9,true)),.mov (.t 3)⟩,⟨some 11,(some (9,true)),.nilchk (.t 10)⟩,⟨some 12,(some (9,true)),.faddr 0 (.t 11)⟩,⟨some 13,(some (9,true)),.load false 1 (.t 12)⟩,⟨some 14,(some (9,true)),.len .sl (.t 13)⟩,⟨some 15,(some (9,true)),.ibin .lss (.t 14) (.c (.int .i64 4096))⟩,⟨some 16,none,.pick (.t 9) (.t 15) (.c (.bool false))⟩]) (.cond (.t 16) .skip (.exit 0))) (.block 1 (.seq (.draw [⟨some 17,none,.mov (.t 3)⟩,⟨some 18,none,.mov (.t 3)⟩,⟨some 19,none,.nilchk (.t 18)⟩,⟨some 20,none,.faddr 0 (.t 19)⟩,⟨some 21,none,.load false 1 (.t 20)⟩,⟨some 22,none,.mov (.t 0)⟩,⟨some 23,none,.sliceStr (.t 22) none (some (.c (.int .i64 64)))⟩,⟨some 24,none,.bslice 1 1 [(.str ⟨#[]⟩)] [(0,1,(.t 23))]⟩,⟨some 25,none,.append 1 16 [(.str ⟨#[]⟩)] (.t 21) (.t 24)⟩,⟨some 26,none,.nilchk (.t 17)⟩,⟨some 27,none,.faddr 0 (.t 26)⟩,⟨none,none,.store 1 (.t 27) (.t 25)⟩] [[],[],[1],[2,1],[3,2,1],[],[5],[6,5],[4,7,3,2,1,6,5],[0,1,2,3,4,5,6,7,8],[9,0,1,2,3,4,5,6,7,8],[10,8,0,1,2,3,4,5,6,7,9]]) (.reg [⟨some 28,none,.mov (.t 0)⟩,⟨some 29,none,.sliceStr (.t 28) (some (.c (.int .i64 64))) none⟩,⟨some 0,none,.mov (.t 29)⟩])))))) (.seq (.reg [⟨some 30,none,.mov (.t 3)⟩,⟨some 2,none,.mov (.t 30)⟩]) .ret))))⟩
-- (*quitrent/block.Disk).Len
def F40 : AFun:=⟨10,1,[.tmp 2],(.seq (.reg [⟨some 2,none,.mov (.c (.int .i64 0))⟩]) (.seq (.seq (.reg [⟨some 3,none,.mov (.t 0)⟩,⟨some 4,none,.eq false .ptr true (.t 3) (.c .nilp)⟩]) (.cond (.t 4) (.seq (.reg [⟨some 2,none,.mov (.c (.int .i64 0))⟩]) .ret) .skip)) (.seq (.reg [⟨some 5,none,.mov (.t 0)⟩,⟨some 6,none,.nilchk (.t 5)⟩,⟨some 7,none,.faddr 0 (.t 6)⟩,⟨some 8,none,.load false 1 (.t 7)⟩,⟨some 9,none,.len .sl (.t 8)⟩,⟨some 2,none,.mov (.t 9)⟩]) .ret)))⟩
-- (*quitrent/block.Disk).check
def F70 : AFun:=⟨28,2,[.tmp 4],(.seq (.reg [⟨some 4,none,.mov (.c .nili)⟩]) (.seq (.block 0 (.seq (.reg [⟨some 6,none,.mov (.t 0)⟩,⟨some 7,none,.eq false .ptr true (.t 6) (.c .nilp)⟩,⟨some 5,none,.mov (.t 7)⟩]) (.cond (.t 5) (.seq (.reg [⟨some 8,none,.loadg 0⟩,⟨some 4,none,.mov (.t 8)⟩]) .ret) (.seq (.reg [⟨some 10,none,.mov (.t 1)⟩,⟨some 11,none,.ibin .lss (.t 10) (.c (.int .i64 0))⟩,⟨some 12,none,.mov (.t 11)⟩,⟨some 13,(some (12,false)),.mov (.t 1)⟩,⟨some 14,(some (12,false)),.mov (.t 0)⟩,⟨some 15,(some (12,false)),.nilchk (.t 14)⟩,⟨some 16,(some (12,false)),.faddr 0 (.t 15)⟩,⟨some 17,(some (12,false)),.load false 1 (.t 16)⟩,⟨some 18,(some (12,false)),.len .sl (.t 17)⟩,⟨some 19,(some (12,false)),.ibin .geq (.t 13) (.t 18)⟩,⟨some 20,none,.pick (.t 12) (.c (.bool true)) (.t 19)⟩,⟨some 9,none,.mov (.t 20)⟩]) (.cond (.t 9) (.seq (.reg [⟨some 21,none,.loadg 1⟩,⟨some 4,none,.mov (.t 21)⟩]) .ret) (.seq (.reg [⟨some 23,none,.mov (.t 0)⟩,⟨some 24,none,.nilchk (.t 23)⟩,⟨some 25,none,.faddr 1 (.t 24)⟩,⟨some 26,none,.load false 1 (.t 25)⟩,⟨some 22,none,.mov (.t 26)⟩]) (.cond (.t 22) (.seq (.reg [⟨some 27,none,.loadg 13⟩,⟨some 4,none,.mov (.t 27)⟩]) .ret) .skip))))))) (.seq (.reg [⟨some 4,none,.mov (.c .nili)⟩]) .ret)))⟩
-- (*quitrent/block.Disk).Read
def F59 : AFun:=⟨20,2,[.tmp 4,.tmp 5],(.seq (.reg [⟨some 4,none,.mov (.c (.str ⟨#[]⟩))⟩,⟨some 5,none,.mov (.c .nili)⟩]) (.seq (.seq (.reg [⟨some 7,none,.mov (.t 0)⟩,⟨some 8,none,.mov (.t 1)⟩,⟨some 9,none,.call (.c (.fn 70 [] [])) [(.t 7),(.t 8)]⟩,⟨some 6,none,.mov (.t 9)⟩]) (.seq (.reg [⟨some 10,none,.mov (.t 6)⟩,⟨some 11,none,.eq true .iface true (.t 10) (.c .nili)⟩]) (.cond (.t 11) (.seq (.reg [⟨some 12,none,.mov (.t 6)⟩,⟨some 4,none,.mov (.c (.str ⟨#[]⟩))⟩,⟨some 5,none,.mov (.t 12)⟩]) .ret) .skip))) (.seq (.reg [⟨some 13,none,.mov (.t 0)⟩,⟨some 14,none,.nilchk (.t 13)⟩,⟨some 15,none,.faddr 0 (.t 14)⟩,⟨some 16,none,.load false 1 (.t 15)⟩,⟨some 17,none,.mov (.t 1)⟩,⟨some 18,none,.iaddrSl 1 (.t 16) (.t 17)⟩,⟨some 19,none,.load false 1 (.t 18)⟩,⟨some 4,none,.mov (.t 19)⟩,⟨some 5,none,.mov (.c .nili)⟩]) .ret)))⟩
-- (*quitrent/block.Disk).Write
def F52 : AFun:=⟨79,3,[.tmp 6],(.seq (.reg [⟨some 6,none,.mov (.c .nili)⟩]) (.seq (.seq (.reg [⟨some 8,none,.mov (.t 0)⟩,⟨some 9,none,.eq true .ptr true (.t 8) (.c .nilp)⟩,⟨some 10,none,.mov (.t 9)⟩,⟨some 11,(some (10,true)),.mov (.t 2)⟩,⟨some 12,(some (10,true)),.len .str (.t 11)⟩,⟨some 13,(some (10,true)),.ibin .neq (.t 12) (.c (.int .i64 64))⟩,⟨some 14,none,.pick (.t 10) (.t 13) (.c (.bool false))⟩]) (.cond (.t 14) (.seq (.reg [⟨some 15,none,.loadg 1⟩,⟨some 6,none,.mov (.t 15)⟩]) .ret) .skip)) (.seq (.seq (.reg [⟨some 16,none,.mov (.t 0)⟩,⟨some 17,none,.mov (.t 1)⟩,⟨some 18,none,.call (.c (.fn 70 [] [])) [(.t 16),(.t 17)]⟩,⟨some 7,none,.mov (.t 18)⟩]) (.seq (.reg [⟨some 19,none,.mov (.t 7)⟩,⟨some 20,none,.eq true .iface true (.t 19) (.c .nili)⟩]) (.cond (.t 20) (.seq (.reg [⟨some 21,none,.mov (.t 7)⟩,⟨some 6,none,.mov (.t 21)⟩]) .ret) .skip))) (.seq (.seq (.reg [⟨some 22,none,.mov (.t 0)⟩,⟨some 23,none,.nilchk (.t 22)⟩,⟨some 24,none,.faddr 2 (.t 23)⟩,⟨some 25,none,.load false 1 (.t 24)⟩,⟨some 26,none,.ibin .eql (.t 25) (.c (.int .i64 0))⟩]) (.cond (.t 26) (.seq (.draw [⟨some 27,none,.mov (.t 0)⟩,⟨some 28,none,.nilchk (.t 27)⟩,⟨some 29,none,.faddr 0 (.t 28)⟩,⟨some 30,none,.load false 1 (.t 29)⟩,⟨some 31,none,.mov (.t 1)⟩,⟨some 32,none,.mov (.t 2)⟩,⟨some 33,none,.mov (.t 0)⟩,⟨some 34,none,.nilchk (.t 33)⟩,⟨some 35,none,.faddr 3 (.t 34)⟩,⟨some 36,none,.load false 1 (.t 35)⟩,⟨some 37,none,.sliceStr (.t 32) none (some (.t 36))⟩,⟨some 38,none,.mov (.t 0)⟩,⟨some 39,none,.nilchk (.t 38)⟩,⟨some 40,none,.faddr 0 (.t 39)⟩,⟨some 41,none,.load false 1 (.t 40)⟩,⟨some 42,none,.mov (.t 1)⟩,⟨some 43,none,.iaddrSl 1 (.t 41) (.t 42)⟩,⟨some 44,none,.load false 1 (.t 43)⟩,⟨some 45,none,.mov (.t 0)⟩,⟨some 46,none,.nilchk (.t 45)⟩,⟨some 47,none,.faddr 3 (.t 46)⟩,⟨some 48,none,.load false 1 (.t 47)⟩,⟨some 49,none,.sliceStr (.t 44) (some (.t 48)) none⟩,⟨some 50,none,.ibin .add (.t 37) (.t 49)⟩,⟨some 51,none,.iaddrSl 1 (.t 30) (.t 31)⟩,⟨none,none,.store 1 (.t 51) (.t 50)⟩] [[],[0],[1,0],[2,1,0],[],[],[],[6],[7,6],[8,7,6],[5,9,8,7,6],[],[11],[12,11],[13,12,11],[],[14,15,13,12,11],[16,14,15,13,12,11],[],[18],[19,18],[20,19,18],[17,21,16,14,15,13,12,11,20,19,18],[10,22,5,9,8,7,6,17,21,16,14,15,13,12,11,20,19,18],[3,4,0,1,2,5,6,7,8,9,10,11,12,13,14,15,16,17,18,19,20,21,22,23],[24,23,0,1,2,3,4,5,6,7,8,9,10,11,12,13,14,15,16,17,18,19,20,21,22]]) (.seq (.reg [⟨some 52,none,.mov (.t 0)⟩,⟨some 53,none,.nilchk (.t 52)⟩,⟨some 54,none,.faddr 1 (.t 53)⟩,⟨none,none,.store 1 (.t 54) (.c (.bool true))⟩]) (.seq (.reg [⟨some 55,none,.loadg 13⟩,⟨some 6,none,.mov (.t 55)⟩]) .ret))) .skip)) (.seq (.reg [⟨some 56,none,.mov (.t 0)⟩,⟨some 57,none,.nilchk (.t 56)⟩,⟨some 58,none,.faddr 0 (.t 57)⟩,⟨some 59,none,.load false 1 (.t 58)⟩,⟨some 60,none,.mov (.t 1)⟩,⟨some 61,none,.mov (.t 2)⟩,⟨some 62,none,.iaddrSl 1 (.t 59) (.t 60)⟩,⟨none,none,.store 1 (.t 62) (.t 61)⟩]) (.seq (.reg [⟨some 63,none,.mov (.t 0)⟩,⟨some 64,none,.mov (.t 0)⟩,⟨some 65,none,.nilchk (.t 64)⟩,⟨some 66,none,.faddr 2 (.t 65)⟩,⟨some 67,none,.load false 1 (.t 66)⟩,⟨some 68,none,.ibin .sub (.t 67) (.c (.int .i64 1))⟩,⟨some 69,none,.minmax true [(.t 68),(.c (.int .i64 (-1)))]⟩,⟨some 70,none,.nilchk (.t 63)⟩,⟨some 71,none,.faddr 2 (.t 70)⟩,⟨none,none,.store 1 (.t 71) (.t 69)⟩]) (.seq (.reg [⟨some 72,none,.mov (.t 0)⟩,⟨some 73,none,.nilchk (.t 72)⟩,⟨some 74,none,.faddr 4 (.t 73)⟩,⟨some 75,none,.load false 1 (.t 74)⟩,⟨some 76,none,.ibin .add (.t 75) (.c (.int .i64 1))⟩,⟨some 77,none,.nilchk (.t 72)⟩,⟨some 78,none,.faddr 4 (.t 77)⟩,⟨none,none,.store 1 (.t 78) (.t 76)⟩]) (.seq (.reg [⟨some 6,none,.mov (.c .nili)⟩]) .ret))))))))⟩
-- (*quitrent/block.Disk).Fuse
def F26 : AFun:=⟨26,3,[],(.seq (.reg [⟨some 6,none,.mov (.t 0)⟩,⟨some 7,none,.eq true .ptr true (.t 6) (.c .nilp)⟩,⟨some 8,none,.mov (.t 7)⟩,⟨some 9,(some (8,true)),.mov (.t 0)⟩,⟨some 10,(some (8,true)),.nilchk (.t 9)⟩,⟨some 11,(some (8,true)),.faddr 1 (.t 10)⟩,⟨some 12,(some (8,true)),.load false 1 (.t 11)⟩,⟨some 13,(some (8,true)),.un .not (.t 12)⟩,⟨some 14,none,.pick (.t 8) (.t 13) (.c (.bool false))⟩]) (.cond (.t 14) (.reg [⟨some 15,none,.mov (.t 0)⟩,⟨some 16,none,.mov (.t 0)⟩,⟨some 17,none,.mov (.t 1)⟩,⟨some 18,none,.minmax true [(.t 17),(.c (.int .i64 (-1)))]⟩,⟨some 19,none,.mov (.t 2)⟩,⟨some 20,none,.minmax true [(.t 19),(.c (.int .i64 0))]⟩,⟨some 21,none,.minmax false [(.t 20),(.c (.int .i64 64))]⟩,⟨some 22,none,.nilchk (.t 15)⟩,⟨some 23,none,.faddr 2 (.t 22)⟩,⟨none,none,.store 1 (.t 23) (.t 18)⟩,⟨some 24,none,.nilchk (.t 16)⟩,⟨some 25,none,.faddr 3 (.t 24)⟩,⟨none,none,.store 1 (.t 25) (.t 21)⟩]) .skip))⟩
-- (*quitrent/block.Disk).Come
def F31 : AFun:=⟨16,1,[],(.seq (.reg [⟨some 2,none,.mov (.t 0)⟩,⟨some 3,none,.eq true .ptr true (.t 2) (.c .nilp)⟩,⟨some 4,none,.mov (.t 3)⟩,⟨some 5,(some (4,true)),.mov (.t 0)⟩,⟨some 6,(some (4,true)),.nilchk (.t 5)⟩,⟨some 7,(some (4,true)),.faddr 1 (.t 6)⟩,⟨some 8,(some (4,true)),.load false 1 (.t 7)⟩,⟨some 9,none,.pick (.t 4) (.t 8) (.c (.bool false))⟩]) (.cond (.t 9) (.reg [⟨some 10,none,.mov (.t 0)⟩,⟨some 11,none,.mov (.t 0)⟩,⟨some 12,none,.nilchk (.t 10)⟩,⟨some 13,none,.faddr 1 (.t 12)⟩,⟨none,none,.store 1 (.t 13) (.c (.bool false))⟩,⟨some 14,none,.nilchk (.t 11)⟩,⟨some 15,none,.faddr 2 (.t 14)⟩,⟨none,none,.store 1 (.t 15) (.c (.int .i64 (-1)))⟩]) .skip))⟩
-- (*quitrent/block.Disk).IsOn
def F30 : AFun:=⟨12,1,[.tmp 2],(.seq (.reg [⟨some 2,none,.mov (.c (.bool false))⟩]) (.seq (.reg [⟨some 3,none,.mov (.t 0)⟩,⟨some 4,none,.eq true .ptr true (.t 3) (.c .nilp)⟩,⟨some 5,none,.mov (.t 4)⟩,⟨some 6,(some (5,true)),.mov (.t 0)⟩,⟨some 7,(some (5,true)),.nilchk (.t 6)⟩,⟨some 8,(some (5,true)),.faddr 1 (.t 7)⟩,⟨some 9,(some (5,true)),.load false 1 (.t 8)⟩,⟨some 10,(some (5,true)),.un .not (.t 9)⟩,⟨some 11,none,.pick (.t 5) (.t 10) (.c (.bool false))⟩,⟨some 2,none,.mov (.t 11)⟩]) .ret))⟩
-- (*quitrent/block.Disk).Image
theorem c24 : cFun Tryz.prog [1,0,2,3,4,5,6,7,8,9,10,11,12,13] Tryz.f24 = some F24:=by kernel_rfl
theorem c7 : cFun Tryz.prog [1,0,2,3,4,5,6,7,8,9,10,11,12,13] Tryz.f7 = some F7:=by kernel_rfl
theorem c40 : cFun Tryz.prog [1,0,2,3,4,5,6,7,8,9,10,11,12,13] Tryz.f40 = some F40:=by kernel_rfl
theorem c70 : cFun Tryz.prog [1,0,2,3,4,5,6,7,8,9,10,11,12,13] Tryz.f70 = some F70:=by kernel_rfl
theorem c59 : cFun Tryz.prog [1,0,2,3,4,5,6,7,8,9,10,11,12,13] Tryz.f59 = some F59:=by kernel_rfl
theorem c52 : cFun Tryz.prog [1,0,2,3,4,5,6,7,8,9,10,11,12,13] Tryz.f52 = some F52:=by kernel_rfl
theorem c26 : cFun Tryz.prog [1,0,2,3,4,5,6,7,8,9,10,11,12,13] Tryz.f26 = some F26:=by kernel_rfl
theorem c31 : cFun Tryz.prog [1,0,2,3,4,5,6,7,8,9,10,11,12,13] Tryz.f31 = some F31:=by kernel_rfl
theorem c30 : cFun Tryz.prog [1,0,2,3,4,5,6,7,8,9,10,11,12,13] Tryz.f30 = some F30:=by kernel_rfl
end Go.Proofs.YthapdikdeoeplaaGreatDoor.Z7
end
section
set_option linter.unusedVariables false
set_option linter.unnecessarySimpa false
set_option linter.unusedSimpArgs false
set_option maxRecDepth 100000
open Go
namespace Go.Proofs.YthapdikdeoeplaaGreatDoor.Z7
open Go.RowKit Go.Extern.Stop Go.Stop Go.Extern
theorem isTypeOf (v : Value) (w : World) : (Extern.ReflectliteType.typeOf #[.iface 158 v]).run Tryz.prog w = .ok (.iface 117 (.agg #[.pointer (some ⟨17,158,none⟩)])) w:=by kernel_rfl
theorem isComparable (w : World) : ((Extern.ReflectliteType.method fun t => do Extern.Rtype.noPackHeld "Comparable" t; (fun a => Value.bool a.comparable) <$> typeInfo t) #[.agg #[.pointer (some ⟨17, 158, none⟩)]]).run Tryz.prog w = .ok (.bool true) w := by kernel_rfl
theorem isMethodComparable (v : Value) (w : World) : (Go.method 290 117 v "Comparable").run Tryz.prog w = .ok (129, v) w := by kernel_rfl
theorem isComp : (Tryz.prog.info? 158).map (·.comparable) = some true:=by kernel_rfl
theorem isSize : (Tryz.prog.info? 180).map (·.size) = some 1:=by kernel_rfl
theorem noIsE (v : Value) (xT : TypeId) (w : World) : (Instr.typeAssert (.iface 158 v) xT 119 true).run Tryz.prog w = .ok (.tuple #[.nilIface,.bool false]) w:=run_typeAssert_lacksB Tryz.underlying119 (by kernel_rfl) (by kernel_rfl) v xT w
theorem noUnwrapE (v : Value) (xT : TypeId) (w : World) : (Instr.typeAssert (.iface 158 v) xT 122 true).run Tryz.prog w = .ok (.tuple #[.nilIface,.bool false]) w:=run_typeAssert_lacksB Tryz.underlying122 (by kernel_rfl) (by kernel_rfl) v xT w
theorem noUnwrapsE (v : Value) (xT : TypeId) (w : World) : (Instr.typeAssert (.iface 158 v) xT 123 true).run Tryz.prog w = .ok (.tuple #[.nilIface,.bool false]) w:=run_typeAssert_lacksB Tryz.underlying123 (by kernel_rfl) (by kernel_rfl) v xT w
theorem noIsW (v : Value) (xT : TypeId) (w : World) : (Instr.typeAssert (.iface 131 v) xT 119 true).run Tryz.prog w = .ok (.tuple #[.nilIface,.bool false]) w:=run_typeAssert_lacksB Tryz.underlying119 (by kernel_rfl) (by kernel_rfl) v xT w
theorem hasUnwrapW (v : Value) (xT : TypeId) (w : World) : (Instr.typeAssert (.iface 131 v) xT 122 true).run Tryz.prog w = .ok (.tuple #[.iface 131 v,.bool true]) w:=run_typeAssert_hasB Tryz.underlying122 (by kernel_rfl) v xT w
theorem methodUnwrap (v : Value) (w : World) : (Go.method 290 131 v "Unwrap").run Tryz.prog w = .ok (139, v) w := by kernel_rfl
set_option maxRecDepth 100000 in
theorem is_same (a : Addr) (w : World) :
    Calls Tryz.prog 45 #[.iface 158 (.pointer (some a)),.iface 158 (.pointer (some a))] w fun e w' =>e = .returned (.bool true) ∧ w' = w:=by
  obtain ⟨i,hi,hcmp⟩:=Option.map_eq_some_iff.1 isComp
  obtain ⟨j,hj,hjs⟩:=Option.map_eq_some_iff.1 isSize
  have h8:=@run_callFunc_extern Tryz.prog 61 _ Extern.ReflectliteType.typeOf Tryz.func61 (by kernel_rfl) (by kernel_rfl) (by kernel_rfl) (by kernel_rfl)
  have h32 := @run_callFunc_extern Tryz.prog 129 _ (Extern.ReflectliteType.method fun t => do Extern.Rtype.noPackHeld "Comparable" t; pure (.bool (← typeInfo t).comparable)) Tryz.func129 (by kernel_rfl) (by kernel_rfl) (by kernel_rfl) (by kernel_rfl)
  have tT:=isTypeOf
  have cT:=isComparable
  have mR:=isMethodComparable
  have heq:=run_eql_iface_ptr_same (P:=Tryz.prog) w a Tryz.underlying30 Tryz.underlying158 hi hcmp hj
  go_enter Tryz.func45,Tryz.ntmps45
  go_wp2
  refine wp_loop_rounds 1 ?_
  rw [rounds_succ]
  go_wp2
  go_ret
  exact ⟨rfl,rfl⟩
set_option maxRecDepth 100000 in
theorem is_nil (b : Addr) (w : World) :
    Calls Tryz.prog 45 #[.nilIface,.iface 158 (.pointer (some b))] w fun e w' =>e = .returned (.bool false) ∧ w' = w:=by
  have hn:=run_eql_iface_nil_left (P:=Tryz.prog) w 158 (.pointer (some b)) Tryz.underlying30
  go_enter Tryz.func45,Tryz.ntmps45
  go_wp2
  go_ret
  exact ⟨rfl,rfl⟩
set_option maxRecDepth 100000 in
theorem is_other (a b : Addr) (ca cb : Array Value) (ta tb : TypeId) (w : World) (hne : a ≠ b) (ha : w.heap[a.block]? = some (.cells ca ta (0,0))) (hb : w.heap[b.block]? = some (.cells cb tb (0,0))) :
    Calls Tryz.prog 45 #[.iface 158 (.pointer (some a)),.iface 158 (.pointer (some b))] w fun e w' =>e = .returned (.bool false) ∧ w' = w:=by
  obtain ⟨i,hi,hcmp⟩:=Option.map_eq_some_iff.1 isComp
  obtain ⟨j,hj,hjs⟩:=Option.map_eq_some_iff.1 isSize
  have h8:=@run_callFunc_extern Tryz.prog 61 _ Extern.ReflectliteType.typeOf Tryz.func61 (by kernel_rfl) (by kernel_rfl) (by kernel_rfl) (by kernel_rfl)
  have h32 := @run_callFunc_extern Tryz.prog 129 _ (Extern.ReflectliteType.method fun t => do Extern.Rtype.noPackHeld "Comparable" t; pure (.bool (← typeInfo t).comparable)) Tryz.func129 (by kernel_rfl) (by kernel_rfl) (by kernel_rfl) (by kernel_rfl)
  have tT:=isTypeOf
  have cT:=isComparable
  have mR:=isMethodComparable
  have nE:=noIsE
  have uE:=noUnwrapE
  have vE:=noUnwrapsE
  have heq:=run_eql_iface_ptr_other (P:=Tryz.prog) w Tryz.underlying30 Tryz.underlying158 hi hcmp hj (by rw [hjs]; decide) hne ha hb
  go_enter Tryz.func45,Tryz.ntmps45
  go_wp2
  refine wp_loop_rounds 1 ?_
  rw [rounds_succ]
  go_wp2
  go_ret
  exact ⟨rfl,rfl⟩
set_option maxRecDepth 100000 in
theorem is_wrap_same (pb po : Nat) (b : Addr) (w : World) (h1 : w.cell? ⟨pb,po + 2,none⟩ = some (.iface 158 (.pointer (some b)))) :
    Calls Tryz.prog 45 #[.iface 131 (.pointer (some ⟨pb,po,none⟩)),.iface 158 (.pointer (some b))] w fun e w' =>e = .returned (.bool true) ∧ w' = w:=by
  obtain ⟨i,hi,hcmp⟩:=Option.map_eq_some_iff.1 isComp
  obtain ⟨j,hj,hjs⟩:=Option.map_eq_some_iff.1 isSize
  have h8:=@run_callFunc_extern Tryz.prog 61 _ Extern.ReflectliteType.typeOf Tryz.func61 (by kernel_rfl) (by kernel_rfl) (by kernel_rfl) (by kernel_rfl)
  have h32 := @run_callFunc_extern Tryz.prog 129 _ (Extern.ReflectliteType.method fun t => do Extern.Rtype.noPackHeld "Comparable" t; pure (.bool (← typeInfo t).comparable)) Tryz.func129 (by kernel_rfl) (by kernel_rfl) (by kernel_rfl) (by kernel_rfl)
  have tT:=isTypeOf
  have cT:=isComparable
  have mR:=isMethodComparable
  have nW:=noIsW
  have uW:=hasUnwrapW
  have mU:=methodUnwrap
  have heq:=run_eql_iface_ptr_same (P:=Tryz.prog) w b Tryz.underlying30 Tryz.underlying158 hi hcmp hj
  have hty:=run_eql_iface_types (P:=Tryz.prog) 131 158 (.pointer (some ⟨pb,po,none⟩)) (.pointer (some b)) Tryz.underlying30 (by decide) w
  go_enter Tryz.func45,Tryz.ntmps45
  go_wp2
  refine wp_loop_rounds 2 ?_
  rw [rounds_succ]
  go_wp2
  rw [rounds_succ]
  go_wp2
  go_ret
  exact ⟨rfl,rfl⟩
set_option maxRecDepth 100000 in
theorem is_wrap_other (pb po : Nat) (b a : Addr) (ca cb : Array Value) (ta tb : TypeId) (w : World) (h1 : w.cell? ⟨pb,po + 2,none⟩ = some (.iface 158 (.pointer (some a)))) (hne : a ≠ b) (ha : w.heap[a.block]? = some (.cells ca ta (0,0))) (hb : w.heap[b.block]? = some (.cells cb tb (0,0))) :
    Calls Tryz.prog 45 #[.iface 131 (.pointer (some ⟨pb,po,none⟩)),.iface 158 (.pointer (some b))] w fun e w' =>e = .returned (.bool false) ∧ w' = w:=by
  obtain ⟨i,hi,hcmp⟩:=Option.map_eq_some_iff.1 isComp
  obtain ⟨j,hj,hjs⟩:=Option.map_eq_some_iff.1 isSize
  have h8:=@run_callFunc_extern Tryz.prog 61 _ Extern.ReflectliteType.typeOf Tryz.func61 (by kernel_rfl) (by kernel_rfl) (by kernel_rfl) (by kernel_rfl)
  have h32 := @run_callFunc_extern Tryz.prog 129 _ (Extern.ReflectliteType.method fun t => do Extern.Rtype.noPackHeld "Comparable" t; pure (.bool (← typeInfo t).comparable)) Tryz.func129 (by kernel_rfl) (by kernel_rfl) (by kernel_rfl) (by kernel_rfl)
  have tT:=isTypeOf
  have cT:=isComparable
  have mR:=isMethodComparable
  have nE:=noIsE
  have uE:=noUnwrapE
  have vE:=noUnwrapsE
  have nW:=noIsW
  have uW:=hasUnwrapW
  have mU:=methodUnwrap
  have heq:=run_eql_iface_ptr_other (P:=Tryz.prog) w Tryz.underlying30 Tryz.underlying158 hi hcmp hj (by rw [hjs]; decide) hne ha hb
  have hty:=run_eql_iface_types (P:=Tryz.prog) 131 158 (.pointer (some ⟨pb,po,none⟩)) (.pointer (some b)) Tryz.underlying30 (by decide) w
  go_enter Tryz.func45,Tryz.ntmps45
  go_wp2
  refine wp_loop_rounds 2 ?_
  rw [rounds_succ]
  go_wp2
  rw [rounds_succ]
  go_wp2
  go_ret
  exact ⟨rfl,rfl⟩
end Go.Proofs.YthapdikdeoeplaaGreatDoor.Z7
end
section
set_option linter.unusedVariables false
set_option linter.unnecessarySimpa false
open Go AH
set_option linter.unusedSimpArgs false
set_option maxRecDepth 100000
namespace Go.Proofs.YthapdikdeoeplaaGreatDoor.Z7
def gls : List Nat:=[1,0,2,3,4,5,6,7,8,9,10,11,12,13]
abbrev errsL : List Nat:=[1,0,2,3,4,5,6,7,8,9,10,11,12,13]
def isT : RT:=fun args M =>match args with
  | [.nili,.err j] =>bif errsL.contains j then some (.bool false,[]) else none
  | [.err i,.err j] =>bif errsL.contains j && errsL.contains i then some (.bool (i == j),[]) else none
  | [.ifc t (.ptr id ix 0),.err j] =>bif t == 131 then (match M id with
    | some (.row _ k es) =>(match es[ix]? with
      | some [_,_,.err i] =>bif errsL.contains j && errsL.contains i && k == 3 then some (.bool (i == j),[id]) else none
      | _ =>none)
    | _ =>none) else none
  | _ =>none
theorem mem_errs {j : Nat} (h : errsL.contains j = true) : j ∈ S0.errs:=by
  have : S0.errs = errsL:=rfl
  rw [this]
  simpa using h
theorem vr_err {T : TypeId} {eb : Nat → Addr} {φ : Emb} {i : Nat} {u : Value} (h : VR T eb φ (.err i) u) : u = .iface T (.pointer (some (eb i))):=by cases h; rfl
theorem vr_nili {T : TypeId} {eb : Nat → Addr} {φ : Emb} {u : Value} (h : VR T eb φ .nili u) : u = .nilIface:=by cases h; rfl
theorem vr_ifc_ptr {T : TypeId} {eb : Nat → Addr} {φ : Emb} {t id ix sub : Nat} {u : Value} (h : VR T eb φ (.ifc t (.ptr id ix sub)) u) : φ.dom id ∧ u = .iface t (.pointer (some ⟨φ.blk id,φ.base id + ix * φ.k id + sub,none⟩)):=by
  cases h
  rename_i h
  cases h
  exact ⟨by assumption,rfl⟩
theorem two_args {T : TypeId} {eb : Nat → Addr} {φ : Emb} {a b : AV} {us : Array Value} (h : VRs T eb φ [a,b] us.toList) : ∃ u v,us = #[u,v] ∧ VR T eb φ a u ∧ VR T eb φ b v:=by
  obtain ⟨l⟩:=us
  cases h with
  | cons _ u _ us h1 h2 =>
    cases h2 with
    | cons _ v _ us h3 h4 =>
      cases h4
      exact ⟨u,v,rfl,h1,h3⟩
set_option maxRecDepth 100000 in
theorem isT_ok : ReadF S0 45 isT:=by
  have fin : ∀ {eb : Nat → Addr} {φ : Emb} {own : Nat → Prop} {w0 w : World} {us : Array Value} {M : Nat → Option Blk} {b : Bool},MR S0.errT eb φ M own w → Keeps own w0 w → Calls Tryz.prog 45 us w (fun e w' =>e = .returned (.bool b) ∧ w' = w) →
      CallRes S0.P 45 us w fun r w' =>VR S0.errT eb φ (.bool b) r ∧ MR S0.errT eb φ M own w' ∧ Keeps own w0 w':=by
    intro eb φ own w0 w us M b hM hk h
    refine CallRes.of_calls Tryz.func45 (by kernel_rfl) (by kernel_rfl) (h.mono ?_)
    rintro e w' ⟨rfl,rfl⟩
    exact ⟨_,rfl,.bool _,hM,hk⟩
  have lt : ∀ {own : Nat → Prop} {w0 w : World},Keeps own w0 w → ∀ {b : Nat} {o : Obj},w0.heap[b]? = some o → ¬ own b → w.heap[b]? = some o:=by
    intro own w0 w hk b o h hn
    rw [hk.kept b (Array.getElem?_eq_some_iff.1 h).1 hn]
    exact h
  intro args M v foot h
  unfold isT at h
  split at h
  · rename_i j
    cases hc : errsL.contains j with
    | false =>rw [hc] at h; cases h
    | true =>
      rw [hc] at h
      simp only [cond_true,Option.some.injEq,Prod.mk.injEq] at h
      obtain ⟨rfl,rfl⟩:=h
      refine ⟨fun M' _ =>by simp only [isT,hc,cond_true],fun eb φ own w0 w us hA hus hM hk => ?_⟩
      obtain ⟨u,v,rfl,h1,h2⟩:=two_args hus
      rw [vr_nili h1,vr_err h2]
      exact fin hM hk (is_nil (eb j) w)
  · rename_i i j
    cases hc : (errsL.contains j && errsL.contains i) with
    | false =>rw [hc] at h; cases h
    | true =>
      rw [hc] at h
      simp only [cond_true,Option.some.injEq,Prod.mk.injEq] at h
      obtain ⟨rfl,rfl⟩:=h
      refine ⟨fun M' _ =>by simp only [isT,hc,cond_true],fun eb φ own w0 w us hA hus hM hk => ?_⟩
      obtain ⟨u,v,rfl,h1,h2⟩:=two_args hus
      simp only [Bool.and_eq_true] at hc
      obtain ⟨hj,hi⟩:=hc
      rw [vr_err h1,vr_err h2]
      cases hij : (i == j) with
      | true =>
        have : i = j:=by simpa using hij
        subst this
        exact fin hM hk (is_same (eb i) w)
      | false =>
        have hne : eb i ≠ eb j:=fun e =>by
          have:=hA.inj i (mem_errs hi) j (mem_errs hj) e
          simp [this] at hij
        obtain ⟨c1,t1,x1⟩:=hA.txt i (mem_errs hi)
        obtain ⟨c2,t2,x2⟩:=hA.txt j (mem_errs hj)
        exact fin hM hk (is_other (eb i) (eb j) _ _ _ _ w hne (lt hk x1 (hA.eout i (mem_errs hi))) (lt hk x2 (hA.eout j (mem_errs hj))))
  · rename_i t id ix j
    cases ht : (t == 131) with
    | false =>rw [ht] at h; cases h
    | true =>
      rw [ht] at h
      simp only [cond_true] at h
      have : t = 131:=by simpa using ht
      subst this
      split at h
      · rename_i ro k es hid
        split at h
        · rename_i a b i hix
          cases hc : (errsL.contains j && errsL.contains i && k == 3) with
          | false =>rw [hc] at h; cases h
          | true =>
            rw [hc] at h
            simp only [cond_true,Option.some.injEq,Prod.mk.injEq] at h
            obtain ⟨rfl,rfl⟩:=h
            refine ⟨fun M' hM' => ?_,fun eb φ own w0 w us hA hus hM hk => ?_⟩
            · have e1 : M' id = some (.row ro k es):=by rw [hM' id (by simp)]; exact hid
              simp only [isT,e1,hix,hc,beq_self_eq_true,cond_true]
            · obtain ⟨u,v,rfl,h1,h2⟩:=two_args hus
              simp only [Bool.and_eq_true,beq_iff_eq] at hc
              obtain ⟨⟨hj,hi⟩,rfl⟩:=hc
              obtain ⟨hd,e1⟩:=vr_ifc_ptr h1
              rw [e1,vr_err h2]
              obtain ⟨o,ho,arr,et,fr,q1,q2,q3,q4,q5,q6⟩:=hM.blk id _ hid (.inl fun q =>by subst q; simp at hix)
              obtain ⟨g1,g2⟩:=q6 ix _ hix
              obtain ⟨u2,k1,k2,_⟩:=g2 2 (.err i) rfl
              have e2:=vr_err k2
              subst e2
              have hcell : w.cell? ⟨φ.blk id,φ.base id + ix * φ.k id + 0 + 2,none⟩ = some (.iface 158 (.pointer (some (eb i)))):=by
                rw [q2]
                simp only [World.cell?,ho,q1]
                exact k1
              cases hij : (i == j) with
              | true =>
                have : i = j:=by simpa using hij
                subst this
                exact fin hM hk (is_wrap_same _ _ (eb i) w hcell)
              | false =>
                have hne : eb i ≠ eb j:=fun e =>by
                  have:=hA.inj i (mem_errs hi) j (mem_errs hj) e
                  simp [this] at hij
                obtain ⟨c1,t1,x1⟩:=hA.txt i (mem_errs hi)
                obtain ⟨c2,t2,x2⟩:=hA.txt j (mem_errs hj)
                exact fin hM hk (is_wrap_other _ _ (eb j) (eb i) _ _ _ _ w hcell hne (lt hk x1 (hA.eout i (mem_errs hi))) (lt hk x2 (hA.eout j (mem_errs hj))))
        · cases h
      · cases h
  · cases h
end Go.Proofs.YthapdikdeoeplaaGreatDoor.Z7
end
section
set_option linter.unusedVariables false
set_option linter.unnecessarySimpa false
open Go AH
namespace Go.Proofs.YthapdikdeoeplaaGreatDoor.Z7
-- quitrent/quitrentlaw07.kind
def F28 : AFun:=⟨33,1,[.tmp 2],(.seq (.reg [⟨some 2,none,.mov (.c (.int .i64 0))⟩]) (.seq (.seq (.reg [⟨some 5,none,.mov (.t 0)⟩,⟨some 6,none,.eq false .iface true (.t 5) (.c .nili)⟩]) (.cond (.t 6) (.seq (.reg [⟨some 2,none,.mov (.c (.int .i64 0))⟩]) .ret) .skip)) (.seq (.reg [⟨some 7,none,.loadg 1⟩,⟨some 8,none,.loadg 0⟩,⟨some 9,none,.loadg 2⟩,⟨some 10,none,.loadg 3⟩,⟨some 11,none,.loadg 4⟩,⟨some 12,none,.loadg 5⟩,⟨some 13,none,.loadg 6⟩,⟨some 14,none,.loadg 7⟩,⟨some 15,none,.loadg 8⟩,⟨some 16,none,.loadg 9⟩,⟨some 17,none,.loadg 10⟩,⟨some 18,none,.loadg 11⟩,⟨some 19,none,.loadg 12⟩,⟨some 20,none,.loadg 13⟩,⟨some 21,none,.build (List.replicate 14 .nili) [(0,1,(.t 7)),(1,1,(.t 8)),(2,1,(.t 9)),(3,1,(.t 10)),(4,1,(.t 11)),(5,1,(.t 12)),(6,1,(.t 13)),(7,1,(.t 14)),(8,1,(.t 15)),(9,1,(.t 16)),(10,1,(.t 17)),(11,1,(.t 18)),(12,1,(.t 19)),(13,1,(.t 20))]⟩,⟨some 3,none,.box 14 (.c (.agg (List.replicate 14 .nili)))⟩,⟨none,none,.store 14 (.t 3) (.t 21)⟩]) (.seq (.seq (.reg [⟨some 4,none,.mov (.c (.int .i64 0))⟩]) (.block 0 (.loop (.seq (.seq (.reg [⟨some 22,none,.mov (.t 4)⟩,⟨some 23,none,.ibin .lss (.t 22) (.c (.int .i64 14))⟩]) (.cond (.t 23) .skip (.exit 0))) (.seq (.block 1 (.seq (.reg [⟨some 26,none,.mov (.t 0)⟩,⟨some 27,none,.mov (.t 4)⟩,⟨some 28,none,.iaddrArr 14 1 (.t 3) (.t 27)⟩,⟨some 29,none,.load false 1 (.t 28)⟩,⟨some 30,none,.call (.c (.fn 45 [] [])) [(.t 26),(.t 29)]⟩]) (.cond (.t 30) (.seq (.reg [⟨some 31,none,.mov (.t 4)⟩,⟨some 32,none,.ibin .add (.t 31) (.c (.int .i64 1))⟩,⟨some 2,none,.mov (.t 32)⟩]) .ret) .skip))) (.reg [⟨some 24,none,.mov (.t 4)⟩,⟨some 25,none,.ibin .add (.t 24) (.c (.int .i64 1))⟩,⟨some 4,none,.mov (.t 25)⟩])))))) (.seq (.reg [⟨some 2,none,.mov (.c (.int .i64 (-1)))⟩]) .ret)))))⟩
theorem c28 : cFun Tryz.prog [1,0,2,3,4,5,6,7,8,9,10,11,12,13] Tryz.f28 = some F28:=by kernel_rfl
end Go.Proofs.YthapdikdeoeplaaGreatDoor.Z7
end
