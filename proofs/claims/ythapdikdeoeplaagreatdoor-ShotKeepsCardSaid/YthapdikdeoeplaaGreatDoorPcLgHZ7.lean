import Derived.Test.YthapdikdeoeplaaGreatDoorPaFKindZ7
import Derived.Test.YthapdikdeoeplaaGreatDoorPbSoOZ7
section
set_option linter.unusedVariables false
set_option linter.unnecessarySimpa false
open Go AH
namespace Go.Proofs.YthapdikdeoeplaaGreatDoor.Z7
-- quitrent/shot.area
def F75 : AFun:=⟨35,3,[.tmp 6,.tmp 7],(.seq (.reg [⟨some 6,none,.mov (.c .nils)⟩,⟨some 7,none,.mov (.c .nili)⟩]) (.seq (.reg [⟨some 8,none,.mov (.c .nils)⟩]) (.seq (.seq (.reg [⟨some 12,none,.mov (.t 1)⟩,⟨some 13,none,.mov (.c (.int .i64 0))⟩]) (.block 0 (.loop (.seq (.reg [⟨some 14,none,.ibin .lss (.t 13) (.t 12)⟩]) (.seq (.cond (.t 14) .skip (.exit 0)) (.seq (.block 1 (.seq (.reg [⟨some 15,none,.mov (.t 13)⟩,⟨some 9,none,.mov (.t 15)⟩]) (.seq (.reg [⟨some 17,none,.mov (.t 0)⟩,⟨some 18,none,.mov (.t 2)⟩,⟨some 19,none,.mov (.t 1)⟩,⟨some 20,none,.ibin .mul (.t 18) (.t 19)⟩,⟨some 21,none,.mov (.t 9)⟩,⟨some 22,none,.ibin .add (.t 20) (.t 21)⟩,⟨some 23,none,.call (.c (.fn 59 [] [])) [(.t 17),(.t 22)]⟩,⟨some 16,none,.mov (.t 23)⟩,⟨some 24,none,.extract (.t 16) 0⟩,⟨some 25,none,.extract (.t 16) 1⟩,⟨some 10,none,.mov (.t 24)⟩,⟨some 11,none,.mov (.t 25)⟩]) (.seq (.seq (.reg [⟨some 26,none,.mov (.t 11)⟩,⟨some 27,none,.eq true .iface true (.t 26) (.c .nili)⟩]) (.cond (.t 27) (.seq (.reg [⟨some 28,none,.mov (.t 11)⟩,⟨some 6,none,.mov (.c .nils)⟩,⟨some 7,none,.mov (.t 28)⟩]) .ret) .skip)) (.reg [⟨some 29,none,.mov (.t 8)⟩,⟨some 30,none,.mov (.t 10)⟩,⟨some 31,none,.bslice 1 1 [(.str ⟨#[]⟩)] [(0,1,(.t 30))]⟩,⟨some 32,none,.append 1 16 [(.str ⟨#[]⟩)] (.t 29) (.t 31)⟩,⟨some 8,none,.mov (.t 32)⟩]))))) (.reg [⟨some 33,none,.ibin .add (.t 13) (.c (.int .i64 1))⟩,⟨some 13,none,.mov (.t 33)⟩]))))))) (.seq (.reg [⟨some 34,none,.mov (.t 8)⟩,⟨some 6,none,.mov (.t 34)⟩,⟨some 7,none,.mov (.c .nili)⟩]) .ret))))⟩
-- (*quitrent/shot.Store).last
def F56 : AFun:=⟨71,1,[.tmp 2],(.seq (.reg [⟨some 2,none,.mov (.c .nili)⟩]) (.seq (.seq (.reg [⟨some 9,none,.mov (.c (.int .i64 0))⟩]) (.block 0 (.loop (.seq (.reg [⟨some 10,none,.ibin .lss (.t 9) (.c (.int .i64 2))⟩]) (.seq (.cond (.t 10) .skip (.exit 0)) (.seq (.block 1 (.seq (.reg [⟨some 11,none,.mov (.t 9)⟩,⟨some 3,none,.mov (.t 11)⟩]) (.seq (.draw [⟨some 13,none,.mov (.t 0)⟩,⟨some 14,none,.nilchk (.t 13)⟩,⟨some 15,none,.faddr 0 (.t 14)⟩,⟨some 16,none,.load false 1 (.t 15)⟩,⟨some 17,none,.mov (.t 0)⟩,⟨some 18,none,.nilchk (.t 17)⟩,⟨some 19,none,.faddr 1 (.t 18)⟩,⟨some 20,none,.load false 1 (.t 19)⟩,⟨some 21,none,.mov (.t 3)⟩,⟨some 22,none,.call (.c (.fn 75 [] [])) [(.t 16),(.t 20),(.t 21)]⟩,⟨some 12,none,.mov (.t 22)⟩,⟨some 23,none,.extract (.t 12) 0⟩,⟨some 24,none,.extract (.t 12) 1⟩,⟨some 4,none,.mov (.t 23)⟩,⟨some 5,none,.mov (.t 24)⟩] [[],[0],[1,0],[2,1,0],[],[4],[5,4],[6,5,4],[],[3,7,8,2,1,0,6,5,4],[9,3,7,8,2,1,0,6,5,4],[10,9,3,7,8,2,1,0,6,5,4],[10,9,3,7,8,2,1,0,6,5,4],[11,9,0,1,2,3,4,5,6,7,8,10],[12,13,0,1,2,3,4,5,6,7,8,9,10,11]]) (.seq (.seq (.reg [⟨some 25,none,.mov (.t 5)⟩,⟨some 26,none,.eq true .iface true (.t 25) (.c .nili)⟩]) (.cond (.t 26) (.seq (.reg [⟨some 27,none,.mov (.t 5)⟩,⟨some 2,none,.mov (.t 27)⟩]) .ret) .skip)) (.seq (.reg [⟨some 29,none,.mov (.t 4)⟩,⟨some 30,none,.call (.c (.fn 60 [] [])) [(.t 29)]⟩,⟨some 28,none,.mov (.t 30)⟩,⟨some 31,none,.extract (.t 28) 0⟩,⟨some 32,none,.extract (.t 28) 1⟩,⟨some 33,none,.extract (.t 28) 2⟩,⟨some 34,none,.extract (.t 28) 3⟩,⟨some 6,none,.mov (.t 31)⟩,⟨some 7,none,.mov (.t 32)⟩,⟨some 8,none,.mov (.t 33)⟩,⟨some 5,none,.mov (.t 34)⟩]) (.seq (.reg [⟨some 35,none,.mov (.t 5)⟩,⟨some 36,none,.eq false .iface true (.t 35) (.c .nili)⟩,⟨some 37,none,.mov (.t 36)⟩,⟨some 38,(some (37,true)),.mov (.t 0)⟩,⟨some 39,(some (37,true)),.nilchk (.t 38)⟩,⟨some 40,(some (37,true)),.faddr 4 (.t 39)⟩,⟨some 41,(some (37,true)),.load false 1 (.t 40)⟩,⟨some 42,(some (37,true)),.ibin .eql (.t 41) (.c (.int .i64 (-1)))⟩,⟨some 43,(some (37,true)),.mov (.t 42)⟩,⟨some 44,(some (43,false)),.mov (.t 7)⟩,⟨some 45,(some (43,false)),.mov (.t 0)⟩,⟨some 46,(some (43,false)),.nilchk (.t 45)⟩,⟨some 47,(some (43,false)),.faddr 3 (.t 46)⟩,⟨some 48,(some (43,false)),.load false 1 (.t 47)⟩,⟨some 49,(some (43,false)),.ibin .gtr (.t 44) (.t 48)⟩,⟨some 50,(some (37,true)),.pick (.t 43) (.c (.bool true)) (.t 49)⟩,⟨some 51,none,.pick (.t 37) (.t 50) (.c (.bool false))⟩]) (.cond (.t 51) (.reg [⟨some 52,none,.mov (.t 0)⟩,⟨some 53,none,.mov (.t 0)⟩,⟨some 54,none,.mov (.t 0)⟩,⟨some 55,none,.mov (.t 6)⟩,⟨some 56,none,.mov (.t 7)⟩,⟨some 57,none,.mov (.t 3)⟩,⟨some 58,none,.nilchk (.t 52)⟩,⟨some 59,none,.faddr 2 (.t 58)⟩,⟨none,none,.store 1 (.t 59) (.t 55)⟩,⟨some 60,none,.nilchk (.t 53)⟩,⟨some 61,none,.faddr 3 (.t 60)⟩,⟨none,none,.store 1 (.t 61) (.t 56)⟩,⟨some 62,none,.nilchk (.t 54)⟩,⟨some 63,none,.faddr 4 (.t 62)⟩,⟨none,none,.store 1 (.t 63) (.t 57)⟩]) .skip))))))) (.reg [⟨some 64,none,.ibin .add (.t 9) (.c (.int .i64 1))⟩,⟨some 9,none,.mov (.t 64)⟩]))))))) (.seq (.seq (.reg [⟨some 65,none,.mov (.t 0)⟩,⟨some 66,none,.nilchk (.t 65)⟩,⟨some 67,none,.faddr 3 (.t 66)⟩,⟨some 68,none,.load false 1 (.t 67)⟩,⟨some 69,none,.ibin .gtr (.t 68) (.c (.int .i64 1073741824))⟩]) (.cond (.t 69) (.seq (.reg [⟨some 70,none,.loadg 2⟩,⟨some 2,none,.mov (.t 70)⟩]) .ret) .skip)) (.seq (.reg [⟨some 2,none,.mov (.c .nili)⟩]) .ret))))⟩
-- quitrent/shot.Open
def F25 : AFun:=⟨59,2,[.tmp 4,.tmp 5],(.seq (.reg [⟨some 4,none,.mov (.c .nilp)⟩,⟨some 5,none,.mov (.c .nili)⟩]) (.seq (.block 0 (.seq (.reg [⟨some 11,none,.mov (.t 0)⟩,⟨some 12,none,.eq false .ptr true (.t 11) (.c .nilp)⟩,⟨some 10,none,.mov (.t 12)⟩]) (.cond (.t 10) (.seq (.draw [⟨some 13,none,.loadg 0⟩,⟨some 4,none,.mov (.c .nilp)⟩,⟨some 5,none,.mov (.t 13)⟩] [[],[],[0,1]]) .ret) (.seq (.reg [⟨some 15,none,.mov (.t 1)⟩,⟨some 16,none,.ibin .lss (.t 15) (.c (.int .i64 1))⟩,⟨some 17,none,.mov (.t 16)⟩,⟨some 18,(some (17,false)),.mov (.t 1)⟩,⟨some 19,(some (17,false)),.ibin .gtr (.t 18) (.c (.int .i64 108))⟩,⟨some 20,none,.pick (.t 17) (.c (.bool true)) (.t 19)⟩,⟨some 21,none,.mov (.t 20)⟩,⟨some 22,(some (21,false)),.mov (.t 0)⟩,⟨some 23,(some (21,false)),.call (.c (.fn 40 [] [])) [(.t 22)]⟩,⟨some 24,(some (21,false)),.mov (.t 1)⟩,⟨some 25,(some (21,false)),.ibin .mul (.c (.int .i64 2)) (.t 24)⟩,⟨some 26,(some (21,false)),.ibin .leq (.t 23) (.t 25)⟩,⟨some 27,none,.pick (.t 21) (.c (.bool true)) (.t 26)⟩,⟨some 14,none,.mov (.t 27)⟩]) (.cond (.t 14) (.seq (.draw [⟨some 28,none,.loadg 1⟩,⟨some 4,none,.mov (.c .nilp)⟩,⟨some 5,none,.mov (.t 28)⟩] [[],[],[0,1]]) .ret) .skip))))) (.seq (.reg [⟨some 29,none,.mov (.t 0)⟩,⟨some 30,none,.mov (.t 1)⟩,⟨some 31,none,.build [.nilp,(.int .i64 0),(.str ⟨#[]⟩),(.int .i64 0),(.int .i64 0),.nilp,(.bool false)] [(0,1,(.t 29)),(1,1,(.t 30)),(4,1,(.c (.int .i64 (-1))))]⟩,⟨some 32,none,.box 7 (.t 31)⟩,⟨some 6,none,.mov (.t 32)⟩]) (.seq (.seq (.reg [⟨some 33,none,.mov (.t 6)⟩,⟨some 34,none,.call (.c (.fn 56 [] [])) [(.t 33)]⟩,⟨some 7,none,.mov (.t 34)⟩]) (.seq (.reg [⟨some 35,none,.mov (.t 7)⟩,⟨some 36,none,.eq true .iface true (.t 35) (.c .nili)⟩]) (.cond (.t 36) (.seq (.reg [⟨some 37,none,.mov (.t 7)⟩,⟨some 4,none,.mov (.c .nilp)⟩,⟨some 5,none,.mov (.t 37)⟩]) .ret) .skip))) (.seq (.draw [⟨some 39,none,.mov (.t 0)⟩,⟨some 40,none,.mov (.t 1)⟩,⟨some 41,none,.ibin .mul (.c (.int .i64 2)) (.t 40)⟩,⟨some 42,none,.mov (.t 0)⟩,⟨some 43,none,.call (.c (.fn 40 [] [])) [(.t 42)]⟩,⟨some 44,none,.mov (.t 6)⟩,⟨some 45,none,.nilchk (.t 44)⟩,⟨some 46,none,.faddr 3 (.t 45)⟩,⟨some 47,none,.load false 1 (.t 46)⟩,⟨some 48,none,.call (.c (.fn 9 [] [])) [(.t 39),(.t 41),(.t 43),(.t 47)]⟩,⟨some 38,none,.mov (.t 48)⟩,⟨some 49,none,.extract (.t 38) 0⟩,⟨some 50,none,.extract (.t 38) 1⟩,⟨some 8,none,.mov (.t 49)⟩,⟨some 9,none,.mov (.t 50)⟩] [[],[],[1],[],[3],[],[5],[6,5],[7,6,5],[0,2,4,8,1,3,7,6,5],[9,0,2,4,8,1,3,7,6,5],[10,9,0,2,4,8,1,3,7,6,5],[10,9,0,2,4,8,1,3,7,6,5],[11,9,0,1,2,3,4,5,6,7,8,10],[12,13,0,1,2,3,4,5,6,7,8,9,10,11]]) (.seq (.seq (.reg [⟨some 51,none,.mov (.t 9)⟩,⟨some 52,none,.eq true .iface true (.t 51) (.c .nili)⟩]) (.cond (.t 52) (.seq (.reg [⟨some 53,none,.mov (.t 9)⟩,⟨some 4,none,.mov (.c .nilp)⟩,⟨some 5,none,.mov (.t 53)⟩]) .ret) .skip)) (.seq (.reg [⟨some 54,none,.mov (.t 6)⟩,⟨some 55,none,.mov (.t 8)⟩,⟨some 56,none,.nilchk (.t 54)⟩,⟨some 57,none,.faddr 5 (.t 56)⟩,⟨none,none,.store 1 (.t 57) (.t 55)⟩]) (.seq (.reg [⟨some 58,none,.mov (.t 6)⟩,⟨some 4,none,.mov (.t 58)⟩,⟨some 5,none,.mov (.c .nili)⟩]) .ret))))))))⟩
-- (*quitrent/shot.Store).State
def F32 : AFun:=⟨9,1,[.tmp 2],(.seq (.reg [⟨some 2,none,.mov (.c (.str ⟨#[]⟩))⟩]) (.seq (.seq (.reg [⟨some 3,none,.mov (.t 0)⟩,⟨some 4,none,.eq false .ptr true (.t 3) (.c .nilp)⟩]) (.cond (.t 4) (.seq (.reg [⟨some 2,none,.mov (.c (.str ⟨#[]⟩))⟩]) .ret) .skip)) (.seq (.reg [⟨some 5,none,.mov (.t 0)⟩,⟨some 6,none,.nilchk (.t 5)⟩,⟨some 7,none,.faddr 2 (.t 6)⟩,⟨some 8,none,.load false 1 (.t 7)⟩,⟨some 2,none,.mov (.t 8)⟩]) .ret)))⟩
-- (*quitrent/shot.Store).Records
def F34 : AFun:=⟨10,1,[.tmp 2],(.seq (.reg [⟨some 2,none,.mov (.c .nils)⟩]) (.seq (.seq (.reg [⟨some 3,none,.mov (.t 0)⟩,⟨some 4,none,.eq false .ptr true (.t 3) (.c .nilp)⟩]) (.cond (.t 4) (.seq (.reg [⟨some 2,none,.mov (.c .nils)⟩]) .ret) .skip)) (.seq (.reg [⟨some 5,none,.mov (.t 0)⟩,⟨some 6,none,.nilchk (.t 5)⟩,⟨some 7,none,.faddr 5 (.t 6)⟩,⟨some 8,none,.load false 1 (.t 7)⟩,⟨some 9,none,.call (.c (.fn 14 [] [])) [(.t 8)]⟩,⟨some 2,none,.mov (.t 9)⟩]) .ret)))⟩
-- (*quitrent/shot.Store).Seq
def F38 : AFun:=⟨11,1,[.tmp 2],(.seq (.reg [⟨some 2,none,.mov (.c (.int .i64 0))⟩]) (.seq (.seq (.reg [⟨some 3,none,.mov (.t 0)⟩,⟨some 4,none,.eq false .ptr true (.t 3) (.c .nilp)⟩]) (.cond (.t 4) (.seq (.reg [⟨some 2,none,.mov (.c (.int .i64 0))⟩]) .ret) .skip)) (.seq (.reg [⟨some 5,none,.mov (.t 0)⟩,⟨some 6,none,.nilchk (.t 5)⟩,⟨some 7,none,.faddr 5 (.t 6)⟩,⟨some 8,none,.load false 1 (.t 7)⟩,⟨some 9,none,.call (.c (.fn 15 [] [])) [(.t 8)]⟩,⟨some 10,none,.ibin .sub (.t 9) (.c (.int .i64 1))⟩,⟨some 2,none,.mov (.t 10)⟩]) .ret)))⟩
-- (*quitrent/shot.Store).lost
def F58 : AFun:=⟨18,2,[.tmp 4],(.seq (.reg [⟨some 4,none,.mov (.c .nili)⟩]) (.seq (.reg [⟨some 5,none,.mov (.t 0)⟩,⟨some 6,none,.mov (.t 0)⟩,⟨some 7,none,.nilchk (.t 6)⟩,⟨some 8,none,.faddr 6 (.t 7)⟩,⟨some 9,none,.load false 1 (.t 8)⟩,⟨some 10,none,.mov (.t 9)⟩,⟨some 11,(some (10,false)),.mov (.t 1)⟩,⟨some 12,(some (10,false)),.loadg 13⟩,⟨some 13,(some (10,false)),.call (.c (.fn 45 [] [])) [(.t 11),(.t 12)]⟩,⟨some 14,none,.pick (.t 10) (.c (.bool true)) (.t 13)⟩,⟨some 15,none,.nilchk (.t 5)⟩,⟨some 16,none,.faddr 6 (.t 15)⟩,⟨none,none,.store 1 (.t 16) (.t 14)⟩]) (.seq (.reg [⟨some 17,none,.mov (.t 1)⟩,⟨some 4,none,.mov (.t 17)⟩]) .ret)))⟩
-- (*quitrent/shot.Store).Add
def F29 : AFun:=⟨23,2,[.tmp 4],(.seq (.reg [⟨some 4,none,.mov (.c .nili)⟩]) (.seq (.block 0 (.seq (.reg [⟨some 6,none,.mov (.t 0)⟩,⟨some 7,none,.eq false .ptr true (.t 6) (.c .nilp)⟩,⟨some 5,none,.mov (.t 7)⟩]) (.cond (.t 5) (.seq (.reg [⟨some 8,none,.loadg 0⟩,⟨some 4,none,.mov (.t 8)⟩]) .ret) (.seq (.reg [⟨some 10,none,.mov (.t 0)⟩,⟨some 11,none,.nilchk (.t 10)⟩,⟨some 12,none,.faddr 6 (.t 11)⟩,⟨some 13,none,.load false 1 (.t 12)⟩,⟨some 9,none,.mov (.t 13)⟩]) (.cond (.t 9) (.seq (.reg [⟨some 14,none,.loadg 13⟩,⟨some 4,none,.mov (.t 14)⟩]) .ret) .skip))))) (.seq (.reg [⟨some 15,none,.mov (.t 0)⟩,⟨some 16,none,.mov (.t 0)⟩,⟨some 17,none,.nilchk (.t 16)⟩,⟨some 18,none,.faddr 5 (.t 17)⟩,⟨some 19,none,.load false 1 (.t 18)⟩,⟨some 20,none,.mov (.t 1)⟩,⟨some 21,none,.call (.c (.fn 20 [] [])) [(.t 19),(.t 20)]⟩,⟨some 22,none,.call (.c (.fn 58 [] [])) [(.t 15),(.t 21)]⟩,⟨some 4,none,.mov (.t 22)⟩]) .ret)))⟩
-- (*quitrent/shot.Store).lay
def F57 : AFun:=⟨88,3,[.tmp 6],(.seq (.reg [⟨some 6,none,.mov (.c .nili)⟩]) (.seq (.reg [⟨some 14,none,.call (.c (.fn 55 [] [])) [(.c (.str ⟨#[0]⟩)),(.c (.int .i64 64))]⟩,⟨some 7,none,.mov (.t 14)⟩]) (.seq (.seq (.reg [⟨some 15,none,.mov (.t 0)⟩,⟨some 16,none,.nilchk (.t 15)⟩,⟨some 17,none,.faddr 1 (.t 16)⟩,⟨some 18,none,.load false 1 (.t 17)⟩,⟨some 19,none,.mov (.c (.int .i64 0))⟩]) (.block 0 (.loop (.seq (.reg [⟨some 20,none,.ibin .lss (.t 19) (.t 18)⟩]) (.seq (.cond (.t 20) .skip (.exit 0)) (.seq (.block 1 (.seq (.reg [⟨some 21,none,.mov (.t 19)⟩,⟨some 8,none,.mov (.t 21)⟩]) (.seq (.draw [⟨some 23,none,.mov (.t 0)⟩,⟨some 24,none,.nilchk (.t 23)⟩,⟨some 25,none,.faddr 0 (.t 24)⟩,⟨some 26,none,.load false 1 (.t 25)⟩,⟨some 27,none,.mov (.t 1)⟩,⟨some 28,none,.mov (.t 0)⟩,⟨some 29,none,.nilchk (.t 28)⟩,⟨some 30,none,.faddr 1 (.t 29)⟩,⟨some 31,none,.load false 1 (.t 30)⟩,⟨some 32,none,.ibin .mul (.t 27) (.t 31)⟩,⟨some 33,none,.mov (.t 8)⟩,⟨some 34,none,.ibin .add (.t 32) (.t 33)⟩,⟨some 35,none,.call (.c (.fn 59 [] [])) [(.t 26),(.t 34)]⟩,⟨some 22,none,.mov (.t 35)⟩,⟨some 36,none,.extract (.t 22) 0⟩,⟨some 37,none,.extract (.t 22) 1⟩,⟨some 9,none,.mov (.t 36)⟩,⟨some 10,none,.mov (.t 37)⟩] [[],[0],[1,0],[2,1,0],[],[],[5],[6,5],[7,6,5],[4,8,7,6,5],[],[9,10,4,8,7,6,5],[3,11,2,1,0,9,10,4,8,7,6,5],[12,3,11,2,1,0,9,10,4,8,7,6,5],[13,12,3,11,2,1,0,9,10,4,8,7,6,5],[13,12,3,11,2,1,0,9,10,4,8,7,6,5],[14,12,0,1,2,3,4,5,6,7,8,9,10,11,13],[15,16,0,1,2,3,4,5,6,7,8,9,10,11,12,13,14]]) (.seq (.seq (.reg [⟨some 38,none,.mov (.t 10)⟩,⟨some 39,none,.eq false .iface true (.t 38) (.c .nili)⟩,⟨some 40,none,.mov (.t 39)⟩,⟨some 41,(some (40,true)),.mov (.t 9)⟩,⟨some 42,(some (40,true)),.mov (.t 7)⟩,⟨some 43,(some (40,true)),.ibin .neq (.t 41) (.t 42)⟩,⟨some 44,none,.pick (.t 40) (.t 43) (.c (.bool false))⟩]) (.cond (.t 44) (.draw [⟨some 45,none,.mov (.t 0)⟩,⟨some 46,none,.nilchk (.t 45)⟩,⟨some 47,none,.faddr 0 (.t 46)⟩,⟨some 48,none,.load false 1 (.t 47)⟩,⟨some 49,none,.mov (.t 1)⟩,⟨some 50,none,.mov (.t 0)⟩,⟨some 51,none,.nilchk (.t 50)⟩,⟨some 52,none,.faddr 1 (.t 51)⟩,⟨some 53,none,.load false 1 (.t 52)⟩,⟨some 54,none,.ibin .mul (.t 49) (.t 53)⟩,⟨some 55,none,.mov (.t 8)⟩,⟨some 56,none,.ibin .add (.t 54) (.t 55)⟩,⟨some 57,none,.mov (.t 7)⟩,⟨some 58,none,.call (.c (.fn 52 [] [])) [(.t 48),(.t 56),(.t 57)]⟩,⟨some 10,none,.mov (.t 58)⟩] [[],[0],[1,0],[2,1,0],[],[],[5],[6,5],[7,6,5],[4,8,7,6,5],[],[9,10,4,8,7,6,5],[],[3,11,12,2,1,0,9,10,4,8,7,6,5],[13,0,1,2,3,4,5,6,7,8,9,10,11,12]]) .skip)) (.seq (.reg [⟨some 59,none,.mov (.t 10)⟩,⟨some 60,none,.eq true .iface true (.t 59) (.c .nili)⟩]) (.cond (.t 60) (.seq (.reg [⟨some 61,none,.mov (.t 10)⟩,⟨some 6,none,.mov (.t 61)⟩]) .ret) .skip)))))) (.reg [⟨some 62,none,.ibin .add (.t 19) (.c (.int .i64 1))⟩,⟨some 19,none,.mov (.t 62)⟩]))))))) (.seq (.seq (.reg [⟨some 63,none,.mov (.t 2)⟩,⟨some 64,none,.len .sl (.t 63)⟩,⟨some 65,none,.mov (.c (.int .i64 0))⟩]) (.block 2 (.loop (.seq (.reg [⟨some 66,none,.ibin .lss (.t 65) (.t 64)⟩]) (.seq (.cond (.t 66) .skip (.exit 2)) (.seq (.block 3 (.seq (.reg [⟨some 67,none,.mov (.t 65)⟩,⟨some 68,none,.iaddrSl 1 (.t 63) (.t 65)⟩,⟨some 69,none,.load false 1 (.t 68)⟩,⟨some 11,none,.mov (.t 67)⟩,⟨some 12,none,.mov (.t 69)⟩]) (.seq (.draw [⟨some 70,none,.mov (.t 0)⟩,⟨some 71,none,.nilchk (.t 70)⟩,⟨some 72,none,.faddr 0 (.t 71)⟩,⟨some 73,none,.load false 1 (.t 72)⟩,⟨some 74,none,.mov (.t 1)⟩,⟨some 75,none,.mov (.t 0)⟩,⟨some 76,none,.nilchk (.t 75)⟩,⟨some 77,none,.faddr 1 (.t 76)⟩,⟨some 78,none,.load false 1 (.t 77)⟩,⟨some 79,none,.ibin .mul (.t 74) (.t 78)⟩,⟨some 80,none,.mov (.t 11)⟩,⟨some 81,none,.ibin .add (.t 79) (.t 80)⟩,⟨some 82,none,.mov (.t 12)⟩,⟨some 83,none,.call (.c (.fn 52 [] [])) [(.t 73),(.t 81),(.t 82)]⟩,⟨some 13,none,.mov (.t 83)⟩] [[],[0],[1,0],[2,1,0],[],[],[5],[6,5],[7,6,5],[4,8,7,6,5],[],[9,10,4,8,7,6,5],[],[3,11,12,2,1,0,9,10,4,8,7,6,5],[13,0,1,2,3,4,5,6,7,8,9,10,11,12]]) (.seq (.reg [⟨some 84,none,.mov (.t 13)⟩,⟨some 85,none,.eq true .iface true (.t 84) (.c .nili)⟩]) (.cond (.t 85) (.seq (.reg [⟨some 86,none,.mov (.t 13)⟩,⟨some 6,none,.mov (.t 86)⟩]) .ret) .skip))))) (.reg [⟨some 87,none,.ibin .add (.t 65) (.c (.int .i64 1))⟩,⟨some 65,none,.mov (.t 87)⟩]))))))) (.seq (.reg [⟨some 6,none,.mov (.c .nili)⟩]) .ret)))))⟩
-- (*quitrent/shot.Store).Keep
def F27 : AFun:=⟨84,2,[.tmp 4],(.seq (.reg [⟨some 4,none,.mov (.c .nili)⟩]) (.seq (.block 0 (.seq (.reg [⟨some 12,none,.mov (.t 0)⟩,⟨some 13,none,.eq false .ptr true (.t 12) (.c .nilp)⟩,⟨some 11,none,.mov (.t 13)⟩]) (.cond (.t 11) (.seq (.reg [⟨some 14,none,.loadg 0⟩,⟨some 4,none,.mov (.t 14)⟩]) .ret) (.seq (.draw [⟨some 16,none,.mov (.t 1)⟩,⟨some 17,none,.call (.c (.fn 50 [] [])) [(.t 16)]⟩,⟨some 18,none,.mov (.t 0)⟩,⟨some 19,none,.nilchk (.t 18)⟩,⟨some 20,none,.faddr 1 (.t 19)⟩,⟨some 21,none,.load false 1 (.t 20)⟩,⟨some 22,none,.ibin .gtr (.t 17) (.t 21)⟩,⟨some 23,none,.mov (.t 22)⟩,⟨some 24,(some (23,false)),.mov (.t 0)⟩,⟨some 25,(some (23,false)),.call (.c (.fn 38 [] [])) [(.t 24)]⟩,⟨some 26,(some (23,false)),.ibin .geq (.t 25) (.c (.int .i64 1073741824))⟩,⟨some 27,none,.pick (.t 23) (.c (.bool true)) (.t 26)⟩,⟨some 15,none,.mov (.t 27)⟩] [[],[0],[],[2],[3,2],[4,3,2],[1,5,0,4,3,2],[6,1,5,0,4,3,2],[7,6,1,5,0,4,3,2],[8,7,6,1,5,0,4,3,2],[9,7,8,6,1,5,0,4,3,2],[7,10,6,1,5,0,4,3,2,9,8],[11,9,7,10,6,1,5,0,4,3,2,8]]) (.cond (.t 15) (.seq (.reg [⟨some 28,none,.loadg 1⟩,⟨some 4,none,.mov (.t 28)⟩]) .ret) (.seq (.reg [⟨some 30,none,.mov (.t 0)⟩,⟨some 31,none,.nilchk (.t 30)⟩,⟨some 32,none,.faddr 6 (.t 31)⟩,⟨some 33,none,.load false 1 (.t 32)⟩,⟨some 29,none,.mov (.t 33)⟩]) (.cond (.t 29) (.seq (.reg [⟨some 34,none,.loadg 13⟩,⟨some 4,none,.mov (.t 34)⟩]) .ret) .skip))))))) (.seq (.reg [⟨some 35,none,.mov (.t 0)⟩,⟨some 36,none,.call (.c (.fn 38 [] [])) [(.t 35)]⟩,⟨some 37,none,.ibin .add (.t 36) (.c (.int .i64 1))⟩,⟨some 5,none,.mov (.t 37)⟩]) (.seq (.reg [⟨some 39,none,.mov (.t 5)⟩,⟨some 40,none,.mov (.t 1)⟩,⟨some 41,none,.call (.c (.fn 51 [] [])) [(.t 39),(.t 40)]⟩,⟨some 38,none,.mov (.t 41)⟩,⟨some 42,none,.extract (.t 38) 0⟩,⟨some 43,none,.extract (.t 38) 1⟩,⟨some 6,none,.mov (.t 42)⟩,⟨some 7,none,.mov (.t 43)⟩]) (.seq (.seq (.reg [⟨some 44,none,.mov (.t 7)⟩,⟨some 45,none,.eq true .iface true (.t 44) (.c .nili)⟩]) (.cond (.t 45) (.seq (.reg [⟨some 46,none,.mov (.t 7)⟩,⟨some 4,none,.mov (.t 46)⟩]) .ret) .skip)) (.seq (.reg [⟨some 8,none,.mov (.c (.int .i64 0))⟩]) (.seq (.seq (.reg [⟨some 47,none,.mov (.t 0)⟩,⟨some 48,none,.nilchk (.t 47)⟩,⟨some 49,none,.faddr 4 (.t 48)⟩,⟨some 50,none,.load false 1 (.t 49)⟩,⟨some 51,none,.ibin .eql (.t 50) (.c (.int .i64 0))⟩]) (.cond (.t 51) (.reg [⟨some 8,none,.mov (.c (.int .i64 1))⟩]) .skip)) (.seq (.seq (.reg [⟨some 52,none,.mov (.t 0)⟩,⟨some 53,none,.mov (.t 8)⟩,⟨some 54,none,.mov (.t 6)⟩,⟨some 55,none,.call (.c (.fn 57 [] [])) [(.t 52),(.t 53),(.t 54)]⟩,⟨some 9,none,.mov (.t 55)⟩]) (.seq (.reg [⟨some 56,none,.mov (.t 9)⟩,⟨some 57,none,.eq true .iface true (.t 56) (.c .nili)⟩]) (.cond (.t 57) (.seq (.reg [⟨some 58,none,.mov (.t 0)⟩,⟨some 59,none,.mov (.t 9)⟩,⟨some 60,none,.call (.c (.fn 58 [] [])) [(.t 58),(.t 59)]⟩,⟨some 4,none,.mov (.t 60)⟩]) .ret) .skip))) (.seq (.seq (.reg [⟨some 61,none,.mov (.t 0)⟩,⟨some 62,none,.nilchk (.t 61)⟩,⟨some 63,none,.faddr 5 (.t 62)⟩,⟨some 64,none,.load false 1 (.t 63)⟩,⟨some 65,none,.mov (.t 5)⟩,⟨some 66,none,.call (.c (.fn 19 [] [])) [(.t 64),(.t 65)]⟩,⟨some 10,none,.mov (.t 66)⟩]) (.seq (.reg [⟨some 67,none,.mov (.t 10)⟩,⟨some 68,none,.eq true .iface true (.t 67) (.c .nili)⟩]) (.cond (.t 68) (.seq (.reg [⟨some 69,none,.mov (.t 0)⟩,⟨some 70,none,.mov (.t 10)⟩,⟨some 71,none,.call (.c (.fn 58 [] [])) [(.t 69),(.t 70)]⟩,⟨some 4,none,.mov (.t 71)⟩]) .ret) .skip))) (.seq (.reg [⟨some 72,none,.mov (.t 0)⟩,⟨some 73,none,.mov (.t 0)⟩,⟨some 74,none,.mov (.t 0)⟩,⟨some 75,none,.mov (.t 1)⟩,⟨some 76,none,.mov (.t 5)⟩,⟨some 77,none,.mov (.t 8)⟩,⟨some 78,none,.nilchk (.t 72)⟩,⟨some 79,none,.faddr 2 (.t 78)⟩,⟨none,none,.store 1 (.t 79) (.t 75)⟩,⟨some 80,none,.nilchk (.t 73)⟩,⟨some 81,none,.faddr 3 (.t 80)⟩,⟨none,none,.store 1 (.t 81) (.t 76)⟩,⟨some 82,none,.nilchk (.t 74)⟩,⟨some 83,none,.faddr 4 (.t 82)⟩,⟨none,none,.store 1 (.t 83) (.t 77)⟩]) (.seq (.reg [⟨some 4,none,.mov (.c .nili)⟩]) .ret)))))))))))⟩
theorem c75 : cFun Tryz.prog [1,0,2,3,4,5,6,7,8,9,10,11,12,13] Tryz.f75 = some F75:=by kernel_rfl
theorem c56 : cFun Tryz.prog [1,0,2,3,4,5,6,7,8,9,10,11,12,13] Tryz.f56 = some F56:=by kernel_rfl
theorem c25 : cFun Tryz.prog [1,0,2,3,4,5,6,7,8,9,10,11,12,13] Tryz.f25 = some F25:=by kernel_rfl
theorem c32 : cFun Tryz.prog [1,0,2,3,4,5,6,7,8,9,10,11,12,13] Tryz.f32 = some F32:=by kernel_rfl
theorem c34 : cFun Tryz.prog [1,0,2,3,4,5,6,7,8,9,10,11,12,13] Tryz.f34 = some F34:=by kernel_rfl
theorem c38 : cFun Tryz.prog [1,0,2,3,4,5,6,7,8,9,10,11,12,13] Tryz.f38 = some F38:=by kernel_rfl
theorem c58 : cFun Tryz.prog [1,0,2,3,4,5,6,7,8,9,10,11,12,13] Tryz.f58 = some F58:=by kernel_rfl
theorem c29 : cFun Tryz.prog [1,0,2,3,4,5,6,7,8,9,10,11,12,13] Tryz.f29 = some F29:=by kernel_rfl
theorem c57 : cFun Tryz.prog [1,0,2,3,4,5,6,7,8,9,10,11,12,13] Tryz.f57 = some F57:=by kernel_rfl
theorem c27 : cFun Tryz.prog [1,0,2,3,4,5,6,7,8,9,10,11,12,13] Tryz.f27 = some F27:=by kernel_rfl
end Go.Proofs.YthapdikdeoeplaaGreatDoor.Z7
end
section
set_option linter.unusedVariables false
set_option linter.unnecessarySimpa false
open Go AH
set_option linter.unusedSimpArgs false
set_option maxRecDepth 100000
namespace Go.Proofs.YthapdikdeoeplaaGreatDoor.Z7
def So.ok (x : So) : Prop:=x.g.ok ∧ 1 ≤ x.z ∧ x.z ≤ 100 ∧ x.g.f = 2 * x.z ∧ x.g.t = (x.g.d.L.length : Int)
instance (x : So) : Decidable x.ok:=by unfold So.ok; infer_instance
def So.seq (x : So) : Int:=x.g.b + (x.g.R.length : Int)
theorem okSo0 : CtxOK S0 (ctxE S0 [] [] []):=ctxE_ok trivial trivial trivial mixed
theorem state_ok (x : So) : CallA1 S0 32 [.ptr 0 0 0] (soM x) fun r m =>r = .str x.s ∧ m = soM x:=by
  refine fun_sound okSo0 Tryz.func32 c32 ?_
  unfold wpF F32
  simp only [AH.SD,AH.SE,AOp.call?,AOp.next?,bstep,AV.cells,unAV,binAV,retQ,retV,AH.sliceElems,AH.bytesOf,AH.strOp,AH.bound,AH.missQ,AH.minmaxAV,AH.readOf,AH.effOf,simprocAttr,AH.SP,AH.PD,AV.inB,vstep,vw,shift,newOnes,rowsM,blkIn,rwB,@flat_lts,AV.lt,AV.lts,Nat.sub_self,AH.SO,soM]
theorem state_nil : Pure S0 32 [.nilp] (.str ⟨#[]⟩):=by
  refine fun_sound okSo0 Tryz.func32 c32 ?_
  unfold wpF F32
  simp only [AH.SD,AH.SE,AOp.call?,AOp.next?,bstep,AV.cells,unAV,binAV,retQ,retV,AH.sliceElems,AH.bytesOf,AH.strOp,AH.bound,AH.missQ,AH.minmaxAV,AH.readOf,AH.effOf,simprocAttr,AH.SP,AH.PD,AV.inB,vstep,vw,shift,newOnes,rowsM,blkIn,rwB,@flat_lts,AV.lt,AV.lts,Nat.sub_self,AH.SO]
def stateT : RT:=rtElse (cC aNil c0) (fun _ => .str ⟨#[]⟩) (rtO soO c0 fun x _ =>some (.str x.s))
theorem stateT_ok : ReadF S0 32 stateT:=rtElse_ok (fun _ =>state_nil) (fun _ =>rfl) (rtO_ok fun x y v h =>by
  simp only [Option.some.injEq] at h; subst h
  exact ⟨rfl,state_ok x⟩)
theorem stateT_p {p : Nat} {M : Nat → Option Blk} : stateT [.ptr p 0 0] M = rtO2 (fun (x : So) (_ : Unit) =>some (.str x.s)) (soR M p (M p)) (some ()):=by
  simp only [stateT,rtElse_eq,rtO_eq,cC_dec,aNil_ptr,c0_dec,pairO_none,Option.map_none,elseO_none,soO_dec]
theorem okSo1 : CtxOK S0 (ctxE S0 [(15,nextT)] [] [(14,recsT)]):=ctxE_ok ⟨nextT_ok,trivial⟩ trivial ⟨recsT_ok,trivial⟩ mixed
theorem seq_ok (x : So) (h : x.g.ok) : CallA1 S0 38 [.ptr 0 0 0] (soM x) fun r m =>r = .int .i64 x.seq ∧ m = soM x:=by
  obtain ⟨hd,⟨h1,h2⟩,h4,h5,h6,h7,h3⟩:=id h
  have h8:=hd.2.2.2
  have hnx : x.g.next = x.g.b + (x.g.R.length : Int) + 1:=rfl
  have w1 : IntKind.i64.wrap (x.g.b + (x.g.R.length : Int) + 1 - 1) = x.seq:=by rw [IntKind.wrap_i64]; unfold So.seq; omega
  refine fun_sound okSo1 Tryz.func38 c38 ?_
  unfold wpF F38
  simp only [AH.SD,AH.SE,AOp.call?,AOp.next?,bstep,AV.cells,unAV,binAV,retQ,retV,AH.sliceElems,AH.bytesOf,AH.strOp,AH.bound,AH.missQ,AH.minmaxAV,AH.readOf,AH.effOf,simprocAttr,AH.SP,AH.PD,AV.inB,vstep,vw,shift,newOnes,rowsM,blkIn,rwB,@flat_lts,AV.lt,AV.lts,Nat.sub_self,AH.SO,soM,lgR_eq,lgU_eq,Lg.eta,ne4,no4,soR_eq,soS_eq,So.eta,Bool.not_false,Bool.and_self,if_true,dkR_eq,dkB_eq,Dk.eta,ne_eq,Nat.reduceEqDiff,Nat.zero_ne_one,not_false_eq_true,nextT_p,h,hnx,w1]
theorem seq_nil : Pure S0 38 [.nilp] (.int .i64 0):=by
  refine fun_sound okSo1 Tryz.func38 c38 ?_
  unfold wpF F38
  simp only [AH.SD,AH.SE,AOp.call?,AOp.next?,bstep,AV.cells,unAV,binAV,retQ,retV,AH.sliceElems,AH.bytesOf,AH.strOp,AH.bound,AH.missQ,AH.minmaxAV,AH.readOf,AH.effOf,simprocAttr,AH.SP,AH.PD,AV.inB,vstep,vw,shift,newOnes,rowsM,blkIn,rwB,@flat_lts,AV.lt,AV.lts,Nat.sub_self,AH.SO]
def seqT : RT:=rtElse (cC aNil c0) (fun _ => .int .i64 0) (rtO soO c0 fun x _ =>if x.g.ok then some (.int .i64 x.seq) else none)
theorem seqT_ok : ReadF S0 38 seqT:=rtElse_ok (fun _ =>seq_nil) (fun _ =>rfl) (rtO_ok fun x y v h =>by
  split at h
  · rename_i hx
    simp only [Option.some.injEq] at h; subst h
    exact ⟨rfl,seq_ok x hx⟩
  · cases h)
theorem seqT_p {p : Nat} {M : Nat → Option Blk} : seqT [.ptr p 0 0] M = rtO2 (fun (x : So) (_ : Unit) =>if x.g.ok then some (.int .i64 x.seq) else none) (soR M p (M p)) (some ()):=by
  simp only [seqT,rtElse_eq,rtO_eq,cC_dec,aNil_ptr,c0_dec,pairO_none,Option.map_none,elseO_none,soO_dec]
theorem srecords_ok (x : So) (h : x.g.R.length ≤ 1048576) : CallA1 S0 34 [.ptr 0 0 0] (soM x) fun r m =>r = .slc 5 0 x.g.R.length none ∧ m = soM x ++ [some (.row false 1 (x.g.R.map strC))]:=by
  refine CallA1.fin ?_
  refine fun_sound okSo1 Tryz.func34 c34 ?_
  unfold wpF F34
  simp only [AH.SD,AH.SE,AOp.call?,AOp.next?,bstep,AV.cells,unAV,binAV,retQ,retV,AH.sliceElems,AH.bytesOf,AH.strOp,AH.bound,AH.missQ,AH.minmaxAV,AH.readOf,AH.effOf,simprocAttr,AH.SP,AH.PD,AV.inB,vstep,vw,shift,newOnes,rowsM,blkIn,rwB,@flat_lts,AV.lt,AV.lts,Nat.sub_self,AH.SO,soM,lgR_eq,lgU_eq,Lg.eta,ne4,no4,soR_eq,soS_eq,So.eta,Bool.not_false,Bool.and_self,if_true,dkR_eq,dkB_eq,Dk.eta,ne_eq,Nat.reduceEqDiff,Nat.zero_ne_one,not_false_eq_true,recsT_p,h,lgM,List.cons_append,List.nil_append]
  refine ⟨[0,1,2,3,4,5],[],?_⟩
  simp only [AH.SD,AH.SE,AOp.call?,AOp.next?,bstep,AV.cells,unAV,binAV,retQ,retV,AH.sliceElems,AH.bytesOf,AH.strOp,AH.bound,AH.missQ,AH.minmaxAV,AH.readOf,AH.effOf,simprocAttr,AH.SP,AH.PD,AV.inB,vstep]
  try simp
theorem srecords_nil : Pure S0 34 [.nilp] .nils:=by
  refine fun_sound okSo1 Tryz.func34 c34 ?_
  unfold wpF F34
  simp only [AH.SD,AH.SE,AOp.call?,AOp.next?,bstep,AV.cells,unAV,binAV,retQ,retV,AH.sliceElems,AH.bytesOf,AH.strOp,AH.bound,AH.missQ,AH.minmaxAV,AH.readOf,AH.effOf,simprocAttr,AH.SP,AH.PD,AV.inB,vstep,vw,shift,newOnes,rowsM,blkIn,rwB,@flat_lts,AV.lt,AV.lts,Nat.sub_self,AH.SO]
def srecT : ET:=etO soO c0 fun x _ =>if x.g.R.length ≤ 1048576 then some (.slc 5 0 x.g.R.length none,soM x ++ [some (.row false 1 (x.g.R.map strC))]) else none
theorem srecT_ok : EffF S0 34 srecT:=etO_ok fun x y v m' h =>by
  split at h
  · rename_i hl
    simp only [Option.some.injEq,Prod.mk.injEq] at h
    obtain ⟨rfl,rfl⟩:=h
    exact ⟨⟨by simp [soO,soM],rfl⟩,srecords_ok x hl⟩
  · cases h
theorem srecT_p {p n : Nat} {M : Nat → Option Blk} : srecT [.ptr p 0 0] M n = etO2 n (fun (x : So) (_ : Unit) =>if x.g.R.length ≤ 1048576 then some (.slc 5 0 x.g.R.length none,soM x ++ [some (.row false 1 (x.g.R.map strC))]) else none) (soR M p (M p)) (some ()):=by
  simp only [srecT,etO_eq,c0_dec,soO_dec]
def srecN : RT:=rtP (cC aNil c0) fun _ => .nils
theorem srecN_ok : ReadF S0 34 srecN:=rtP_ok (fun _ =>srecords_nil) fun _ =>rfl
theorem srecN_p {p : Nat} {M : Nat → Option Blk} : srecN [.ptr p 0 0] M = none:=by
  simp only [srecN,rtP,cC_dec,aNil_ptr,pairO_none,Option.map_none]
def decEk : AV → Option {k : Nat // k = 0 ∨ k = 1 ∨ k = 7 ∨ k = 14}
  | .nili =>some ⟨0,.inl rfl⟩
  | .err g =>if g = 1 then some ⟨1,.inr (.inl rfl)⟩ else if g = 6 then some ⟨7,.inr (.inr (.inl rfl))⟩ else if g = 13 then some ⟨14,.inr (.inr (.inr rfl))⟩ else none
  | _ =>none
theorem decEk_ok (v : AV) (a : {k : Nat // k = 0 ∨ k = 1 ∨ k = 7 ∨ k = 14}) (h : decEk v = some a) : v = errA a.1:=by
  unfold decEk at h
  split at h
  · simp only [Option.some.injEq] at h; subst h; rfl
  · split at h
    · rename_i e
      simp only [Option.some.injEq] at h; subst h; rw [e]; rfl
    · split at h
      · rename_i e
        simp only [Option.some.injEq] at h; subst h; rw [e]; rfl
      · split at h
        · rename_i e
          simp only [Option.some.injEq] at h; subst h; rw [e]; rfl
        · cases h
  · cases h
theorem decEk_de (a : {k : Nat // k = 0 ∨ k = 1 ∨ k = 7 ∨ k = 14}) : decEk (errA a.1) = some a:=by
  obtain ⟨k,h⟩:=a
  rcases h with rfl | rfl | rfl | rfl <;> rfl
def aEk : Arg {k : Nat // k = 0 ∨ k = 1 ∨ k = 7 ∨ k = 14}:=⟨fun a =>errA a.1,decEk,decEk_ok,decEk_de,fun a =>errA_flat a.1⟩
theorem aEk_dec {k : Nat} (h : k = 0 ∨ k = 1 ∨ k = 7 ∨ k = 14) : aEk.dec (errA k) = some ⟨k,h⟩:=decEk_de ⟨k,h⟩
def lostZ (x : So) (k : Nat) : So:={ x with down:=x.down || k == 14 }
theorem is_k (k : Nat) (h : k = 0 ∨ k = 1 ∨ k = 7 ∨ k = 14) (M : Nat → Option Blk) : isT [errA k,.err 13] M = some (.bool (k == 14),[]):=by
  rcases h with rfl | rfl | rfl | rfl <;> rfl
theorem okLost2 : CtxOK S0 (ctxE S0 [(45,isT)] [] []):=ctxE_ok ⟨isT_ok,trivial⟩ trivial trivial mixed
theorem slost_ok (x : So) (k : Nat) (h : k = 0 ∨ k = 1 ∨ k = 7 ∨ k = 14) : CallA1 S0 58 [.ptr 0 0 0,errA k] (soM x) fun r m =>r = errA k ∧ m = soM (lostZ x k):=by
  obtain ⟨g,z,s,b,a,down⟩:=x
  refine fun_sound okLost2 Tryz.func58 c58 ?_
  unfold wpF F58
  cases down
  · simp only [AH.SD,AH.SE,AOp.call?,AOp.next?,bstep,AV.cells,unAV,binAV,retQ,retV,AH.sliceElems,AH.bytesOf,AH.strOp,AH.bound,AH.missQ,AH.minmaxAV,AH.readOf,AH.effOf,simprocAttr,AH.SP,AH.PD,AV.inB,vstep,vw,shift,newOnes,rowsM,blkIn,rwB,@flat_lts,AV.lt,AV.lts,Nat.sub_self,AH.SO,soM,is_k k h,lostZ,Bool.false_or]
    try trivial
  · simp only [AH.SD,AH.SE,AOp.call?,AOp.next?,bstep,AV.cells,unAV,binAV,retQ,retV,AH.sliceElems,AH.bytesOf,AH.strOp,AH.bound,AH.missQ,AH.minmaxAV,AH.readOf,AH.effOf,simprocAttr,AH.SP,AH.PD,AV.inB,vstep,vw,shift,newOnes,rowsM,blkIn,rwB,@flat_lts,AV.lt,AV.lts,Nat.sub_self,AH.SO,soM,is_k k h,lostZ,Bool.true_or]
    try trivial
def slostT : ET:=etO soO (cC aEk c0) fun x y =>some (errA y.1.1,soM (lostZ x y.1.1))
theorem slostT_ok : EffF S0 58 slostT:=etO_ok fun x y v m' h =>by
  simp only [Option.some.injEq,Prod.mk.injEq] at h
  obtain ⟨rfl,rfl⟩:=h
  exact ⟨⟨Nat.le_refl 5,rfl⟩,slost_ok x y.1.1 y.1.2⟩
theorem slostT_p {p n k : Nat} {M : Nat → Option Blk} (h : k = 0 ∨ k = 1 ∨ k = 7 ∨ k = 14) : slostT [.ptr p 0 0,errA k] M n = etO2 n (fun (x : So) (y : {k : Nat // k = 0 ∨ k = 1 ∨ k = 7 ∨ k = 14} × Unit) =>some (errA y.1.1,soM (lostZ x y.1.1))) (soR M p (M p)) (some (⟨k,h⟩,())):=by
  simp only [slostT,etO_eq,cC_dec,aEk_dec h,c0_dec,pairO_some,soO_dec]
theorem slostT_d {p n : Nat} {M : Nat → Option Blk} : slostT [.ptr p 0 0,.err 13] M n = etO2 n (fun (x : So) (y : {k : Nat // k = 0 ∨ k = 1 ∨ k = 7 ∨ k = 14} × Unit) =>some (errA y.1.1,soM (lostZ x y.1.1))) (soR M p (M p)) (some (⟨14,.inr (.inr (.inr rfl))⟩,())):=slostT_p (k:=14) (.inr (.inr (.inr rfl)))
theorem addL_kinds {l : Lg} (h : l.ok) (s : ByteArray) : (addL l s).1 = 0 ∨ (addL l s).1 = 1 ∨ (addL l s).1 = 7 ∨ (addL l s).1 = 14:=by
  unfold addL
  split
  · exact .inr (.inl rfl)
  · split
    · exact .inr (.inr (.inl rfl))
    · split
      · exact .inr (.inr (.inr rfl))
      · rename_i h1 h2 h3
        split
        · exact .inl rfl
        · rename_i h4
          have:=lay_kind (blkL l.next s (sizeN s.size)) (d:=l.d) l.a.toNat (by
            rw [blkL_len]
            have e : l.room = l.t - l.a:=rfl
            have:=h.2.2.2.2.2.1
            have:=h.2.2.1
            have:=h.2.2.2.1
            omega) (blkL_sz (Nat.le_refl _))
          exact .inr (.inr (.inr (this.resolve_left h4)))
def sadZ (x : So) (s : ByteArray) : Nat × So:=if x.down = true then (14,x) else ((addL x.g s).1,{ x with g:=(addL x.g s).2,down:=(addL x.g s).1 == 14 })
def soM2 (y : Option Blk) (x : So) : Mem:=[some (.row false 7 [[.ptr 2 0 0,.int .i64 x.z,.str x.s,.int .i64 x.b,.int .i64 x.a,.ptr 1 0 0,.bool x.down]]),
  some (.row false 7 [[.ptr 2 0 0,.int .i64 x.g.f,.int .i64 x.g.t,.int .i64 x.g.b,.int .i64 x.g.a,.slc 5 0 x.g.R.length none,.bool x.g.down]]),
  some (.row false 5 [[.slc 3 0 x.g.d.L.length none,.bool x.g.d.away,.int .i64 x.g.d.fuse,.int .i64 x.g.d.torn,.int .i64 x.g.d.writes]]),some (.row false 1 (x.g.d.L.map strC)),y,some (.row false 1 (x.g.R.map strC))]
def sadM (x : So) (s : ByteArray) : Mem:=if x.down = false ∧ (addL x.g s).1 = 0 then soM2 none (sadZ x s).2 else soM (sadZ x s).2
theorem okSad : CtxOK S0 (ctxE S0 [(20,adN)] [] [(20,adT),(58,slostT)]):=ctxE_ok ⟨adN_ok,trivial⟩ trivial ⟨adT_ok,slostT_ok,trivial⟩ mixed
theorem sad_ok (x : So) (h : x.g.ok) (s : ByteArray) (hs : okSz s) : CallA1 S0 29 [.ptr 0 0 0,.str s] (soM x) fun r m =>r = errA (sadZ x s).1 ∧ m = sadM x s:=by
  obtain ⟨g,z,st,b,a,down⟩:=x
  simp only at h
  have hk:=addL_kinds h s
  refine CallA1.fin ?_
  refine fun_sound okSad Tryz.func29 c29 ?_
  unfold wpF F29
  cases down
  · have e : sadZ ⟨g,z,st,b,a,false⟩ s = ((addL g s).1,⟨(addL g s).2,z,st,b,a,(addL g s).1 == 14⟩):=by unfold sadZ; rw [if_neg (by simp)]
    by_cases h0 : (addL g s).1 = 0
    · simp only [AH.SD,AH.SE,AOp.call?,AOp.next?,bstep,AV.cells,unAV,binAV,retQ,retV,AH.sliceElems,AH.bytesOf,AH.strOp,AH.bound,AH.missQ,AH.minmaxAV,AH.readOf,AH.effOf,simprocAttr,AH.SP,AH.PD,AV.inB,vstep,vw,shift,newOnes,rowsM,blkIn,rwB,@flat_lts,AV.lt,AV.lts,Nat.sub_self,AH.SO,soM,lgR_eq,lgU_eq,Lg.eta,ne4,no4,soR_eq,soS_eq,So.eta,Bool.not_false,Bool.and_self,if_true,dkR_eq,dkB_eq,Dk.eta,ne_eq,Nat.reduceEqDiff,Nat.zero_ne_one,not_false_eq_true,adN_p,adT_p,h,hs,and_self,adM,h0,lgM2,errA_ren,slostT_p (Or.inl rfl : (0 : Nat) = 0 ∨ (0 : Nat) = 1 ∨ (0 : Nat) = 7 ∨ (0 : Nat) = 14),lostZ,Bool.false_or]
      refine ⟨[0,1,2,3,4,5],[],?_⟩
      simp only [AH.SD,AH.SE,AOp.call?,AOp.next?,bstep,AV.cells,unAV,binAV,retQ,retV,AH.sliceElems,AH.bytesOf,AH.strOp,AH.bound,AH.missQ,AH.minmaxAV,AH.readOf,AH.effOf,simprocAttr,AH.SP,AH.PD,AV.inB,vstep,e,sadM,soM2,h0,true_and,flat_inB (errA_flat _)]
      try simp
    · simp only [AH.SD,AH.SE,AOp.call?,AOp.next?,bstep,AV.cells,unAV,binAV,retQ,retV,AH.sliceElems,AH.bytesOf,AH.strOp,AH.bound,AH.missQ,AH.minmaxAV,AH.readOf,AH.effOf,simprocAttr,AH.SP,AH.PD,AV.inB,vstep,vw,shift,newOnes,rowsM,blkIn,rwB,@flat_lts,AV.lt,AV.lts,Nat.sub_self,AH.SO,soM,lgR_eq,lgU_eq,Lg.eta,ne4,no4,soR_eq,soS_eq,So.eta,Bool.not_false,Bool.and_self,if_true,dkR_eq,dkB_eq,Dk.eta,ne_eq,Nat.reduceEqDiff,Nat.zero_ne_one,not_false_eq_true,adN_p,adT_p,h,hs,and_self,adM,h0,if_false,lgM,errA_ren,slostT_p hk,lostZ,Bool.false_or]
      refine ⟨[0,1,2,3,4],[],?_⟩
      simp only [AH.SD,AH.SE,AOp.call?,AOp.next?,bstep,AV.cells,unAV,binAV,retQ,retV,AH.sliceElems,AH.bytesOf,AH.strOp,AH.bound,AH.missQ,AH.minmaxAV,AH.readOf,AH.effOf,simprocAttr,AH.SP,AH.PD,AV.inB,vstep,e,sadM,soM,h0,and_false,if_false,flat_inB (errA_flat _),errA_ren]
      try simp
  · have e : sadZ ⟨g,z,st,b,a,true⟩ s = (14,⟨g,z,st,b,a,true⟩):=by unfold sadZ; rw [if_pos rfl]
    simp only [AH.SD,AH.SE,AOp.call?,AOp.next?,bstep,AV.cells,unAV,binAV,retQ,retV,AH.sliceElems,AH.bytesOf,AH.strOp,AH.bound,AH.missQ,AH.minmaxAV,AH.readOf,AH.effOf,simprocAttr,AH.SP,AH.PD,AV.inB,vstep,vw,shift,newOnes,rowsM,blkIn,rwB,@flat_lts,AV.lt,AV.lts,Nat.sub_self,AH.SO,soM]
    refine ⟨[0,1,2,3,4],[],?_⟩
    simp only [AH.SD,AH.SE,AOp.call?,AOp.next?,bstep,AV.cells,unAV,binAV,retQ,retV,AH.sliceElems,AH.bytesOf,AH.strOp,AH.bound,AH.missQ,AH.minmaxAV,AH.readOf,AH.effOf,simprocAttr,AH.SP,AH.PD,AV.inB,vstep,e,sadM,soM,errA14,Bool.true_eq_false,false_and,if_false]
    try simp
theorem sadd_nil (s : ByteArray) : Pure S0 29 [.nilp,.str s] (errA 2):=by
  refine fun_sound okSad Tryz.func29 c29 ?_
  unfold wpF F29
  simp only [AH.SD,AH.SE,AOp.call?,AOp.next?,bstep,AV.cells,unAV,binAV,retQ,retV,AH.sliceElems,AH.bytesOf,AH.strOp,AH.bound,AH.missQ,AH.minmaxAV,AH.readOf,AH.effOf,simprocAttr,AH.SP,AH.PD,AV.inB,vstep,vw,shift,newOnes,rowsM,blkIn,rwB,@flat_lts,AV.lt,AV.lts,Nat.sub_self,AH.SO,errA2]
theorem sadM_len (x : So) (s : ByteArray) : 5 ≤ (sadM x s).length ∧ ((sadM x s).drop 5).all rwB = true:=by
  unfold sadM
  split
  · exact ⟨by simp [soM2],rfl⟩
  · exact ⟨by simp [soM],rfl⟩
def sadT : ET:=etO soO (cC aS c0) fun x y =>if x.g.ok ∧ okSz y.1 then some (errA (sadZ x y.1).1,sadM x y.1) else none
theorem sadT_ok : EffF S0 29 sadT:=etO_ok fun x y v m' h =>by
  split at h
  · rename_i hl
    simp only [Option.some.injEq,Prod.mk.injEq] at h
    obtain ⟨rfl,rfl⟩:=h
    exact ⟨sadM_len x y.1,sad_ok x hl.1 y.1 hl.2⟩
  · cases h
theorem sadT_p {p n : Nat} {s : ByteArray} {M : Nat → Option Blk} : sadT [.ptr p 0 0,.str s] M n = etO2 n (fun (x : So) (y : ByteArray × Unit) =>if x.g.ok ∧ okSz y.1 then some (errA (sadZ x y.1).1,sadM x y.1) else none) (soR M p (M p)) (some (s,())):=by
  simp only [sadT,etO_eq,cC_dec,aS_dec,c0_dec,pairO_some,soO_dec]
def sadN : RT:=rtP (cC aNil (cC aS c0)) fun _ =>errA 2
theorem sadN_ok : ReadF S0 29 sadN:=rtP_ok (fun x =>sadd_nil x.2.1) fun _ =>rfl
theorem sadN_p {p : Nat} {s : ByteArray} {M : Nat → Option Blk} : sadN [.ptr p 0 0,.str s] M = none:=by
  simp only [sadN,rtP,cC_dec,aNil_ptr,pairO_none,Option.map_none]
end Go.Proofs.YthapdikdeoeplaaGreatDoor.Z7
end
section
set_option linter.unusedVariables false
set_option linter.unnecessarySimpa false
open Go AH
set_option linter.unusedSimpArgs false
set_option maxRecDepth 100000
namespace Go.Proofs.YthapdikdeoeplaaGreatDoor.Z7
noncomputable abbrev tAr : List (FuncId × RT):=[(59,drdT)]
theorem okAr : CtxOK S0 (ctxU S0 tAr []):=ctxU_ok ⟨drdT_ok,trivial⟩ trivial mixed
def arSt (d : Dk) (z at_ : Int) (Z o : Nat) (i : Nat) : St:=⟨[(13,.int .i64 i),(12,.int .i64 z),(8,.slc 2 0 i none),(2,.int .i64 at_),(1,.int .i64 z),(0,.ptr 0 0 0)],dkM d ++ [some (.row false 1 (((d.L.drop o).take i).map strC))]⟩
theorem part_sn {L : List ByteArray} {o i : Nat} (h2 : o + i < L.length) : (L.drop o).take (i + 1) = (L.drop o).take i ++ [L[o + i]]:=by
  have h3 : i < (L.drop o).length:=by rw [List.length_drop]; omega
  rw [List.take_succ_eq_append_getElem h3,List.getElem_drop]
theorem area_on (d : Dk) (hd : d.ok) (ha : d.away = false) (at_ : Int) (Z o : Nat) (hw : IntKind.i64.wrap (at_ * (Z : Int)) = (o : Int)) (h2 : o + Z ≤ d.L.length) : CallA1 S0 75 [.ptr 0 0 0,.int .i64 Z,.int .i64 at_] (dkM d)
    fun r m =>r = .tup [.slc 2 0 Z none,.nili] ∧ m = dkM d ++ [some (.row false 1 (((d.L.drop o).take Z).map strC))]:=by
  have hL:=hd.2.2.2
  refine CallA1.fin ?_
  refine fun_sound okAr Tryz.func75 c75 ?_
  unfold wpF F75
  simp only [AH.SD,AH.SE,AOp.call?,AOp.next?,bstep,AV.cells,unAV,binAV,retQ,retV,AH.sliceElems,AH.bytesOf,AH.strOp,AH.bound,AH.missQ,AH.minmaxAV,AH.readOf,AH.effOf,simprocAttr,AH.SP,AH.PD,AV.inB,vstep,vw,shift,newOnes,rowsM,blkIn,rwB,@flat_lts,AV.lt,AV.lts,Nat.sub_self,AH.SO,dkM]
  refine loop_do [0,1] [13,12,8,2,1,0] [.tm 8 1] (α:=Nat) (fun i =>Z - i) (arSt d Z at_ Z o) (fun i =>i ≤ Z) 0 (Nat.zero_le _) (by simp only [AH.SD,AH.SE,AOp.call?,AOp.next?,bstep,AV.cells,unAV,binAV,retQ,retV,AH.sliceElems,AH.bytesOf,AH.strOp,AH.bound,AH.missQ,AH.minmaxAV,AH.readOf,AH.effOf,simprocAttr,AH.SP,AH.PD,AV.inB,vstep,arSt,dkM,List.take_zero,List.map_nil,List.cons_append,List.nil_append]) ?_
  intro X i hi ih
  simp only [AH.SD,AH.SE,AOp.call?,AOp.next?,bstep,AV.cells,unAV,binAV,retQ,retV,AH.sliceElems,AH.bytesOf,AH.strOp,AH.bound,AH.missQ,AH.minmaxAV,AH.readOf,AH.effOf,simprocAttr,AH.SP,AH.PD,AV.inB,vstep,vw,shift,newOnes,rowsM,blkIn,rwB,@flat_lts,AV.lt,AV.lts,Nat.sub_self,AH.SO,arSt,dkM,List.cons_append,List.nil_append]
  refine ⟨fun hlt => ?_,fun hlt => ?_⟩
  · have hiT:=lt_of_dec hlt
    have wi:=wrapS (i:=i) (by omega)
    have hiL : o + i < d.L.length:=by omega
    have wo : IntKind.i64.wrap ((o : Int) + (i : Int)) = ((o + i : Nat) : Int):=by rw [IntKind.wrap_i64]; omega
    have hck:=chk_at hiL
    rw [ha] at hck
    simp only [Bool.false_eq_true,if_false] at hck
    have hg : d.L.getD (o + i) ⟨#[]⟩ = d.L[o + i]:=by rw [List.getD_eq_getElem?_getD,List.getElem?_eq_getElem hiL]; rfl
    have hrd : rdS d ((o + i : Nat) : Int) = d.L[o + i]:=by rw [rdS,hck,Int.toNat_natCast,hg]; rfl
    have done:=ih (i + 1) hiT (by omega)
    have hln : ((d.L.drop o).take i).length = i:=by rw [List.length_take,List.length_drop]; omega
    have htk : (((d.L.drop o).take i).map strC).take i = ((d.L.drop o).take i).map strC:=List.take_of_length_le (by rw [List.length_map]; omega)
    have hps:=part_sn hiL
    simp only [arSt,dkM,hps,List.map_append,List.map_cons,List.map_nil,List.length_append,List.length_cons,List.length_nil,Nat.zero_add,List.map_append,strC_eq,List.cons_append,List.nil_append] at done
    simp only [AH.SD,AH.SE,AOp.call?,AOp.next?,bstep,AV.cells,unAV,binAV,retQ,retV,AH.sliceElems,AH.bytesOf,AH.strOp,AH.bound,AH.missQ,AH.minmaxAV,AH.readOf,AH.effOf,simprocAttr,AH.SP,AH.PD,AV.inB,vstep,vw,shift,newOnes,rowsM,blkIn,rwB,@flat_lts,AV.lt,AV.lts,Nat.sub_self,AH.SO,lgR_eq,lgU_eq,Lg.eta,ne4,no4,soR_eq,soS_eq,So.eta,Bool.not_false,Bool.and_self,if_true,dkR_eq,dkB_eq,Dk.eta,ne_eq,Nat.reduceEqDiff,Nat.zero_ne_one,not_false_eq_true,hw,wo,drdT_p,drdA,hck,hrd,errA_nil,errA0,wi,List.length_map,hln,htk,List.drop_zero]
    repeat ((with_reducible refine And.intro ?_ ?_); focus (first | rfl | decide | omega | (simp only [List.length_map,List.length_set,and_true]; omega)))
    try simp only [AH.SD,AH.SE,AOp.call?,AOp.next?,bstep,AV.cells,unAV,binAV,retQ,retV,AH.sliceElems,AH.bytesOf,AH.strOp,AH.bound,AH.missQ,AH.minmaxAV,AH.readOf,AH.effOf,simprocAttr,AH.SP,AH.PD,AV.inB,vstep,vw,shift,newOnes,rowsM,blkIn,rwB,@flat_lts,AV.lt,AV.lts,Nat.sub_self,AH.SO,lgR_eq,lgU_eq,Lg.eta,ne4,no4,soR_eq,soS_eq,So.eta,Bool.not_false,Bool.and_self,if_true,dkR_eq,dkB_eq,Dk.eta,ne_eq,Nat.reduceEqDiff,Nat.zero_ne_one,not_false_eq_true,hw,wo,drdT_p,drdA,hck,hrd,errA_nil,errA0,wi,List.length_map,hln,htk,List.drop_zero]
    repeat ((with_reducible refine And.intro ?_ ?_); focus (first | rfl | decide | omega | (simp only [List.length_map,List.length_set,and_true]; omega)))
    refine gc_auto [0,1,4] [13,12,8,2,1,0] [] ?_
    simp only [AH.SD,AH.SE,AOp.call?,AOp.next?,bstep,AV.cells,unAV,binAV,retQ,retV,AH.sliceElems,AH.bytesOf,AH.strOp,AH.bound,AH.missQ,AH.minmaxAV,AH.readOf,AH.effOf,simprocAttr,AH.SP,AH.PD,AV.inB,vstep,List.length_append,List.length_map,hln,List.length_cons,List.length_nil,Nat.zero_add]
    exact done
  · have : i = Z:=by
      have:=ge_of_dec hlt
      omega
    subst this
    simp only [AH.SD,AH.SE,AOp.call?,AOp.next?,bstep,AV.cells,unAV,binAV,retQ,retV,AH.sliceElems,AH.bytesOf,AH.strOp,AH.bound,AH.missQ,AH.minmaxAV,AH.readOf,AH.effOf,simprocAttr,AH.SP,AH.PD,AV.inB,vstep,vw,shift,newOnes,rowsM,blkIn,rwB,@flat_lts,AV.lt,AV.lts,Nat.sub_self,AH.SO]
    refine ⟨[0,1,2],[],?_⟩
    simp only [AH.SD,AH.SE,AOp.call?,AOp.next?,bstep,AV.cells,unAV,binAV,retQ,retV,AH.sliceElems,AH.bytesOf,AH.strOp,AH.bound,AH.missQ,AH.minmaxAV,AH.readOf,AH.effOf,simprocAttr,AH.SP,AH.PD,AV.inB,vstep,dkM]
    try simp
theorem area_off (d : Dk) (hd : d.ok) (ha : d.away = true) (at_ : Int) (Z o : Nat) (hw : IntKind.i64.wrap (at_ * (Z : Int)) = (o : Int)) (h1 : 0 < Z) (h2 : o + Z ≤ d.L.length) : CallA1 S0 75 [.ptr 0 0 0,.int .i64 Z,.int .i64 at_] (dkM d)
    fun r m =>r = .tup [.nils,errA 14] ∧ m = dkM d:=by
  have hL:=hd.2.2.2
  have hlt : decide ((0 : Int) < (Z : Int)) = true:=decide_eq_true (by omega)
  have wo : IntKind.i64.wrap ((o : Int) + 0) = (o : Int):=by rw [IntKind.wrap_i64]; omega
  have wo2 : IntKind.i64.wrap (o : Int) = (o : Int):=by rw [IntKind.wrap_i64]; omega
  have hck:=chk_at (d:=d) (i:=o) (by omega)
  rw [ha] at hck
  simp only [if_true] at hck
  refine CallA1.fin ?_
  refine fun_sound okAr Tryz.func75 c75 ?_
  unfold wpF F75
  simp only [AH.SD,AH.SE,AOp.call?,AOp.next?,bstep,AV.cells,unAV,binAV,retQ,retV,AH.sliceElems,AH.bytesOf,AH.strOp,AH.bound,AH.missQ,AH.minmaxAV,AH.readOf,AH.effOf,simprocAttr,AH.SP,AH.PD,AV.inB,vstep,vw,shift,newOnes,rowsM,blkIn,rwB,@flat_lts,AV.lt,AV.lts,Nat.sub_self,AH.SO,dkM]
  refine loop_unroll ctxU_monoB ?_
  simp only [AH.SD,AH.SE,AOp.call?,AOp.next?,bstep,AV.cells,unAV,binAV,retQ,retV,AH.sliceElems,AH.bytesOf,AH.strOp,AH.bound,AH.missQ,AH.minmaxAV,AH.readOf,AH.effOf,simprocAttr,AH.SP,AH.PD,AV.inB,vstep,vw,shift,newOnes,rowsM,blkIn,rwB,@flat_lts,AV.lt,AV.lts,Nat.sub_self,AH.SO,lgR_eq,lgU_eq,Lg.eta,ne4,no4,soR_eq,soS_eq,So.eta,Bool.not_false,Bool.and_self,if_true,dkR_eq,dkB_eq,Dk.eta,ne_eq,Nat.reduceEqDiff,Nat.zero_ne_one,not_false_eq_true,hlt,hw,wo,wo2,Int.add_zero,drdT_p,drdA,hck,errA_nil,errA14]
  refine ⟨[0,1],[],?_⟩
  simp only [AH.SD,AH.SE,AOp.call?,AOp.next?,bstep,AV.cells,unAV,binAV,retQ,retV,AH.sliceElems,AH.bytesOf,AH.strOp,AH.bound,AH.missQ,AH.minmaxAV,AH.readOf,AH.effOf,simprocAttr,AH.SP,AH.PD,AV.inB,vstep,dkM]
  try simp
def okArea (d : Dk) (x : Int × Int × Unit) : Prop:=d.ok ∧ 1 ≤ x.1 ∧ (x.2.1 = 0 ∨ x.2.1 = 1) ∧ x.2.1 * x.1 + x.1 ≤ (d.L.length : Int)
instance (d : Dk) (x : Int × Int × Unit) : Decidable (okArea d x):=by unfold okArea; infer_instance
def areaT : ET:=etO dkO (cC (aI .i64) (cC (aI .i64) c0)) fun d x =>if okArea d x then some (if d.away = true then (.tup [.nils,errA 14],dkM d) else (.tup [.slc 2 0 x.1.toNat none,.nili],dkM d ++ [some (.row false 1 (((d.L.drop (x.2.1 * x.1).toNat).take x.1.toNat).map strC))])) else none
theorem areaT_ok : EffF S0 75 areaT:=etO_ok fun d x v m' h =>by
  split at h
  · rename_i hx
    obtain ⟨z,at_,u⟩:=x
    obtain ⟨hd,h1,h2,h3⟩:=hx
    simp only at h1 h2 h3 h
    obtain ⟨Z,rfl⟩:=Int.eq_ofNat_of_zero_le (show 0 ≤ z by omega)
    have hL:=hd.2.2.2
    obtain ⟨o,ho,ho2⟩ : ∃ o : Nat,at_ * (Z : Int) = (o : Int) ∧ o + Z ≤ d.L.length:=by
      rcases h2 with rfl | rfl
      · exact ⟨0,by simp,by omega⟩
      · exact ⟨Z,by simp,by omega⟩
    have hw : IntKind.i64.wrap (at_ * (Z : Int)) = (o : Int):=by rw [ho,IntKind.wrap_i64]; omega
    rw [ho] at h
    simp only [Int.toNat_natCast] at h
    split at h
    · rename_i ha
      simp only [Option.some.injEq,Prod.mk.injEq] at h
      obtain ⟨rfl,rfl⟩:=h
      exact ⟨⟨Nat.le_refl 2,rfl⟩,area_off d hd ha at_ Z o hw (by omega) ho2⟩
    · rename_i ha
      simp only [Option.some.injEq,Prod.mk.injEq] at h
      obtain ⟨rfl,rfl⟩:=h
      exact ⟨⟨by simp [dkO,dkM],rfl⟩,area_on d hd (by simpa using ha) at_ Z o hw ho2⟩
  · cases h
theorem areaT_p {p n : Nat} {z at_ : Int} {M : Nat → Option Blk} : areaT [.ptr p 0 0,.int .i64 z,.int .i64 at_] M n = etO2 n (fun d (x : Int × Int × Unit) =>if okArea d x then some (if d.away = true then (.tup [.nils,errA 14],dkM d) else (.tup [.slc 2 0 x.1.toNat none,.nili],dkM d ++ [some (.row false 1 (((d.L.drop (x.2.1 * x.1).toNat).take x.1.toNat).map strC))])) else none) (dkR M p (M p)) (some (z,at_,())):=by
  simp only [areaT,etO_eq,cC_dec,aI_dec,c0_dec,pairO_some,dkO_dec]
end Go.Proofs.YthapdikdeoeplaaGreatDoor.Z7
end
section
set_option linter.unusedVariables false
set_option linter.unnecessarySimpa false
open Go AH
set_option linter.unusedSimpArgs false
set_option maxRecDepth 100000
namespace Go.Proofs.YthapdikdeoeplaaGreatDoor.Z7
structure Ls where
  s : ByteArray
  b : Int
  a : Int
def stepL (u : Ls) (x : Rd) (at_ : Int) : Ls:=if x.bad = -1 ∧ (u.a = -1 ∨ x.q > u.b) then ⟨x.t,x.q,at_⟩ else u
def lastZ (L : List ByteArray) (Z : Nat) : Ls:=stepL (stepL ⟨⟨#[]⟩,0,-1⟩ (rdZ (L.take Z)) 0) (rdZ ((L.drop Z).take Z)) 1
theorem lastZ_b (L : List ByteArray) (Z : Nat) : 0 ≤ (lastZ L Z).b ∧ (lastZ L Z).b ≤ 2147483647:=by
  have h0 : 0 ≤ (stepL ⟨⟨#[]⟩,0,-1⟩ (rdZ (L.take Z)) 0).b ∧ (stepL ⟨⟨#[]⟩,0,-1⟩ (rdZ (L.take Z)) 0).b ≤ 2147483647:=by
    unfold stepL
    split
    · rename_i h
      have:=rdZ_good h.1
      exact ⟨by simp only; omega,this.2.2.2.2⟩
    · exact ⟨Int.le_refl 0,by decide⟩
  unfold lastZ
  generalize stepL ⟨⟨#[]⟩,0,-1⟩ (rdZ (L.take Z)) 0 = u at *
  unfold stepL
  split
  · rename_i h
    have:=rdZ_good h.1
    exact ⟨by simp only; omega,this.2.2.2.2⟩
  · exact h0
def slM (d : Dk) (z : Int) (u : Ls) (lg : AV) : Mem:=[some (.row false 5 [[.slc 1 0 d.L.length none,.bool d.away,.int .i64 d.fuse,.int .i64 d.torn,.int .i64 d.writes]]),some (.row false 1 (d.L.map strC)),
  some (.row false 7 [[.ptr 0 0 0,.int .i64 z,.str u.s,.int .i64 u.b,.int .i64 u.a,lg,.bool false]])]
noncomputable abbrev eLs : List (FuncId × ET):=[(75,areaT),(60,rdT)]
theorem okLs : CtxOK S0 (ctxE S0 [] [] eLs):=ctxE_ok trivial trivial ⟨areaT_ok,rdT_ok,trivial⟩ mixed
theorem sxR_s {id n : Nat} {ro : Bool} {L : List ByteArray} (h : n = L.length) : sxR cStr 1 n id (some (.row ro 1 (L.map strC))) = some (L,[(id,true)]):=by rw [h]; exact sxR_eq (c:=cStr)
theorem rdA_g' {x : Rd} (h : x.bad = -1) : rdA x = .tup [.str x.t,.int .i64 x.q,.int .i64 x.n,.nili]:=by rw [rdA,h]; rfl
theorem rdM_g' {l : List ByteArray} {x : Rd} (h : x.bad = -1) : rdM l x = [some (.row true 1 (l.map strC))]:=by rw [rdM,h]; rfl
theorem rdA_b' {x : Rd} (h : x.bad ≠ -1) : rdA x = .tup [.str x.t,.int .i64 x.q,.int .i64 x.n,.ifc 131 (.ptr 1 0 0)]:=by
  have : (x.bad == -1) = false:=by simpa using h
  rw [rdA,this]; rfl
theorem rdM_b' {l : List ByteArray} {x : Rd} (h : x.bad ≠ -1) : rdM l x = some (.row true 1 (l.map strC)) :: wrM x.bad:=by
  have : (x.bad == -1) = false:=by simpa using h
  rw [rdM,this]; rfl
theorem errA3 : errA 3 = .err 2:=rfl
def lsE (u : Ls) : Nat:=if u.b > 1073741824 then 3 else 0
set_option maxHeartbeats 16000000 in
theorem last_on (d : Dk) (hd : d.ok) (ha : d.away = false) (Z : Nat) (h1 : 1 ≤ Z) (h2 : 2 * Z ≤ d.L.length) : CallA1 S0 56 [.ptr 2 0 0] (slM d Z ⟨⟨#[]⟩,0,-1⟩ .nilp)
    fun r m =>r = errA (lsE (lastZ d.L Z)) ∧ m = slM d Z (lastZ d.L Z) .nilp:=by
  obtain ⟨L,aw,fu,tr,wr⟩:=d
  simp only at ha h2
  subst ha
  have hL:=hd.2.2.2
  simp only at hL
  have ok0 : okArea ⟨L,false,fu,tr,wr⟩ ((Z : Int),0,()):=⟨hd,by show (1 : Int) ≤ (Z : Int); omega,.inl rfl,by show (0 : Int) * (Z : Int) + (Z : Int) ≤ (L.length : Int); omega⟩
  have ok1 : okArea ⟨L,false,fu,tr,wr⟩ ((Z : Int),1,()):=⟨hd,by show (1 : Int) ≤ (Z : Int); omega,.inr rfl,by show (1 : Int) * (Z : Int) + (Z : Int) ≤ (L.length : Int); omega⟩
  have t0 : (((0 : Int) * (Z : Int)).toNat) = 0:=by simp
  have t1 : (((1 : Int) * (Z : Int)).toNat) = Z:=by simp
  have l0 : (L.take Z).length = Z:=by rw [List.length_take]; omega
  have l1 : ((L.drop Z).take Z).length = Z:=by rw [List.length_take,List.length_drop]; omega
  have m0 : (L.take Z).length ≤ 1048576:=by omega
  have m1 : ((L.drop Z).take Z).length ≤ 1048576:=by omega
  have s0 : ∀ id ro,sxR cStr 1 Z id (some (.row ro 1 ((L.take Z).map strC))) = some (L.take Z,[(id,true)]):=fun id ro =>sxR_s l0.symm
  have s1 : ∀ id ro,sxR cStr 1 Z id (some (.row ro 1 (((L.drop Z).take Z).map strC))) = some ((L.drop Z).take Z,[(id,true)]):=fun id ro =>sxR_s l1.symm
  have hz : lastZ L Z = stepL (stepL ⟨⟨#[]⟩,0,-1⟩ (rdZ (L.take Z)) 0) (rdZ ((L.drop Z).take Z)) 1:=rfl
  generalize hP : L.take Z = P at *
  generalize hQ : (L.drop Z).take Z = Q at *
  refine CallA1.fin ?_
  refine fun_sound okLs Tryz.func56 c56 ?_
  unfold wpF F56
  simp only [AH.SD,AH.SE,AOp.call?,AOp.next?,bstep,AV.cells,unAV,binAV,retQ,retV,AH.sliceElems,AH.bytesOf,AH.strOp,AH.bound,AH.missQ,AH.minmaxAV,AH.readOf,AH.effOf,simprocAttr,AH.SP,AH.PD,AV.inB,vstep,vw,shift,newOnes,rowsM,blkIn,rwB,@flat_lts,AV.lt,AV.lts,Nat.sub_self,AH.SO,slM]
  refine loop_unroll ctxE_monoB ?_
  iterate 2 ((try simp only [AH.SD,AH.SE,AOp.call?,AOp.next?,bstep,AV.cells,unAV,binAV,retQ,retV,AH.sliceElems,AH.bytesOf,AH.strOp,AH.bound,AH.missQ,AH.minmaxAV,AH.readOf,AH.effOf,simprocAttr,AH.SP,AH.PD,AV.inB,vstep,vw,shift,newOnes,rowsM,blkIn,rwB,@flat_lts,AV.lt,AV.lts,Nat.sub_self,AH.SO,lgR_eq,lgU_eq,Lg.eta,ne4,no4,soR_eq,soS_eq,So.eta,Bool.not_false,Bool.and_self,if_true,dkR_eq,dkB_eq,Dk.eta,ne_eq,Nat.reduceEqDiff,Nat.zero_ne_one,not_false_eq_true,areaT_p,ok0,ok1,Bool.false_eq_true,if_false,dkM,List.cons_append,List.nil_append,Int.toNat_natCast,t0,t1,List.drop_zero,hP,hQ,errA_nil,errA0,rdT_p,s0,s1,m0,m1]); repeat ((with_reducible refine And.intro ?_ ?_); focus (first | rfl | decide | omega | (simp only [List.length_map,List.length_set,and_true]; omega))))
  by_cases g0 : (rdZ P).bad = -1
  · have e0 : stepL ⟨⟨#[]⟩,0,-1⟩ (rdZ P) 0 = ⟨(rdZ P).t,(rdZ P).q,0⟩:=by unfold stepL; rw [if_pos ⟨g0,.inl rfl⟩]
    rw [e0] at hz
    simp only [AH.SD,AH.SE,AOp.call?,AOp.next?,bstep,AV.cells,unAV,binAV,retQ,retV,AH.sliceElems,AH.bytesOf,AH.strOp,AH.bound,AH.missQ,AH.minmaxAV,AH.readOf,AH.effOf,simprocAttr,AH.SP,AH.PD,AV.inB,vstep,vw,shift,newOnes,rowsM,blkIn,rwB,@flat_lts,AV.lt,AV.lts,Nat.sub_self,AH.SO,lgR_eq,lgU_eq,Lg.eta,ne4,no4,soR_eq,soS_eq,So.eta,Bool.not_false,Bool.and_self,if_true,dkR_eq,dkB_eq,Dk.eta,ne_eq,Nat.reduceEqDiff,Nat.zero_ne_one,not_false_eq_true,areaT_p,ok0,ok1,Bool.false_eq_true,if_false,dkM,List.cons_append,List.nil_append,Int.toNat_natCast,t0,t1,List.drop_zero,hP,hQ,errA_nil,errA0,rdT_p,s0,s1,m0,m1,rdA_g' g0,rdM_g' g0]
    by_cases g1 : (rdZ Q).bad = -1
    · cases hq : decide ((rdZ Q).q > (rdZ P).q)
      · have hq' : ¬ (rdZ Q).q > (rdZ P).q:=by simpa using hq
        have ez : lastZ L Z = ⟨(rdZ P).t,(rdZ P).q,0⟩:=by rw [hz]; unfold stepL; rw [if_neg (fun q =>q.2.elim (fun z =>by simp at z) hq')]
        refine loop_unroll ctxE_monoB ?_
        iterate 2 ((try simp only [AH.SD,AH.SE,AOp.call?,AOp.next?,bstep,AV.cells,unAV,binAV,retQ,retV,AH.sliceElems,AH.bytesOf,AH.strOp,AH.bound,AH.missQ,AH.minmaxAV,AH.readOf,AH.effOf,simprocAttr,AH.SP,AH.PD,AV.inB,vstep,vw,shift,newOnes,rowsM,blkIn,rwB,@flat_lts,AV.lt,AV.lts,Nat.sub_self,AH.SO,lgR_eq,lgU_eq,Lg.eta,ne4,no4,soR_eq,soS_eq,So.eta,Bool.not_false,Bool.and_self,if_true,dkR_eq,dkB_eq,Dk.eta,ne_eq,Nat.reduceEqDiff,Nat.zero_ne_one,not_false_eq_true,areaT_p,ok0,ok1,Bool.false_eq_true,if_false,dkM,List.cons_append,List.nil_append,Int.toNat_natCast,t0,t1,List.drop_zero,hP,hQ,errA_nil,errA0,rdT_p,s0,s1,m0,m1,rdA_g' g1,rdM_g' g1,hq]); repeat ((with_reducible refine And.intro ?_ ?_); focus (first | rfl | decide | omega | (simp only [List.length_map,List.length_set,and_true]; omega))))
        refine loop_unroll ctxE_monoB ?_
        cases hb : decide ((rdZ P).q > 1073741824)
        · have hb' : ¬ ((rdZ P).q > 1073741824):=by simpa using hb
          simp only [AH.SD,AH.SE,AOp.call?,AOp.next?,bstep,AV.cells,unAV,binAV,retQ,retV,AH.sliceElems,AH.bytesOf,AH.strOp,AH.bound,AH.missQ,AH.minmaxAV,AH.readOf,AH.effOf,simprocAttr,AH.SP,AH.PD,AV.inB,vstep,vw,shift,newOnes,rowsM,blkIn,rwB,@flat_lts,AV.lt,AV.lts,Nat.sub_self,AH.SO,hb]
          refine ⟨[0,1,2],[],?_⟩
          simp only [AH.SD,AH.SE,AOp.call?,AOp.next?,bstep,AV.cells,unAV,binAV,retQ,retV,AH.sliceElems,AH.bytesOf,AH.strOp,AH.bound,AH.missQ,AH.minmaxAV,AH.readOf,AH.effOf,simprocAttr,AH.SP,AH.PD,AV.inB,vstep,ez,slM,lsE,hb',if_false,errA0]
          try simp
        · have hb' : ((rdZ P).q > 1073741824):=by simpa using hb
          simp only [AH.SD,AH.SE,AOp.call?,AOp.next?,bstep,AV.cells,unAV,binAV,retQ,retV,AH.sliceElems,AH.bytesOf,AH.strOp,AH.bound,AH.missQ,AH.minmaxAV,AH.readOf,AH.effOf,simprocAttr,AH.SP,AH.PD,AV.inB,vstep,vw,shift,newOnes,rowsM,blkIn,rwB,@flat_lts,AV.lt,AV.lts,Nat.sub_self,AH.SO,hb]
          refine ⟨[0,1,2],[],?_⟩
          simp only [AH.SD,AH.SE,AOp.call?,AOp.next?,bstep,AV.cells,unAV,binAV,retQ,retV,AH.sliceElems,AH.bytesOf,AH.strOp,AH.bound,AH.missQ,AH.minmaxAV,AH.readOf,AH.effOf,simprocAttr,AH.SP,AH.PD,AV.inB,vstep,ez,slM,lsE,hb',if_true,errA3]
          try simp
      · have hq' : (rdZ Q).q > (rdZ P).q:=by simpa using hq
        have ez : lastZ L Z = ⟨(rdZ Q).t,(rdZ Q).q,1⟩:=by rw [hz]; unfold stepL; rw [if_pos ⟨g1,.inr hq'⟩]
        refine loop_unroll ctxE_monoB ?_
        iterate 2 ((try simp only [AH.SD,AH.SE,AOp.call?,AOp.next?,bstep,AV.cells,unAV,binAV,retQ,retV,AH.sliceElems,AH.bytesOf,AH.strOp,AH.bound,AH.missQ,AH.minmaxAV,AH.readOf,AH.effOf,simprocAttr,AH.SP,AH.PD,AV.inB,vstep,vw,shift,newOnes,rowsM,blkIn,rwB,@flat_lts,AV.lt,AV.lts,Nat.sub_self,AH.SO,lgR_eq,lgU_eq,Lg.eta,ne4,no4,soR_eq,soS_eq,So.eta,Bool.not_false,Bool.and_self,if_true,dkR_eq,dkB_eq,Dk.eta,ne_eq,Nat.reduceEqDiff,Nat.zero_ne_one,not_false_eq_true,areaT_p,ok0,ok1,Bool.false_eq_true,if_false,dkM,List.cons_append,List.nil_append,Int.toNat_natCast,t0,t1,List.drop_zero,hP,hQ,errA_nil,errA0,rdT_p,s0,s1,m0,m1,rdA_g' g1,rdM_g' g1,hq]); repeat ((with_reducible refine And.intro ?_ ?_); focus (first | rfl | decide | omega | (simp only [List.length_map,List.length_set,and_true]; omega))))
        refine loop_unroll ctxE_monoB ?_
        cases hb : decide ((rdZ Q).q > 1073741824)
        · have hb' : ¬ ((rdZ Q).q > 1073741824):=by simpa using hb
          simp only [AH.SD,AH.SE,AOp.call?,AOp.next?,bstep,AV.cells,unAV,binAV,retQ,retV,AH.sliceElems,AH.bytesOf,AH.strOp,AH.bound,AH.missQ,AH.minmaxAV,AH.readOf,AH.effOf,simprocAttr,AH.SP,AH.PD,AV.inB,vstep,vw,shift,newOnes,rowsM,blkIn,rwB,@flat_lts,AV.lt,AV.lts,Nat.sub_self,AH.SO,hb]
          refine ⟨[0,1,2],[],?_⟩
          simp only [AH.SD,AH.SE,AOp.call?,AOp.next?,bstep,AV.cells,unAV,binAV,retQ,retV,AH.sliceElems,AH.bytesOf,AH.strOp,AH.bound,AH.missQ,AH.minmaxAV,AH.readOf,AH.effOf,simprocAttr,AH.SP,AH.PD,AV.inB,vstep,ez,slM,lsE,hb',if_false,errA0]
          try simp
        · have hb' : ((rdZ Q).q > 1073741824):=by simpa using hb
          simp only [AH.SD,AH.SE,AOp.call?,AOp.next?,bstep,AV.cells,unAV,binAV,retQ,retV,AH.sliceElems,AH.bytesOf,AH.strOp,AH.bound,AH.missQ,AH.minmaxAV,AH.readOf,AH.effOf,simprocAttr,AH.SP,AH.PD,AV.inB,vstep,vw,shift,newOnes,rowsM,blkIn,rwB,@flat_lts,AV.lt,AV.lts,Nat.sub_self,AH.SO,hb]
          refine ⟨[0,1,2],[],?_⟩
          simp only [AH.SD,AH.SE,AOp.call?,AOp.next?,bstep,AV.cells,unAV,binAV,retQ,retV,AH.sliceElems,AH.bytesOf,AH.strOp,AH.bound,AH.missQ,AH.minmaxAV,AH.readOf,AH.effOf,simprocAttr,AH.SP,AH.PD,AV.inB,vstep,ez,slM,lsE,hb',if_true,errA3]
          try simp
    · skip
      have ez : lastZ L Z = ⟨(rdZ P).t,(rdZ P).q,0⟩:=by rw [hz]; unfold stepL; rw [if_neg (fun q =>g1 q.1)]
      refine loop_unroll ctxE_monoB ?_
      iterate 2 ((try simp only [AH.SD,AH.SE,AOp.call?,AOp.next?,bstep,AV.cells,unAV,binAV,retQ,retV,AH.sliceElems,AH.bytesOf,AH.strOp,AH.bound,AH.missQ,AH.minmaxAV,AH.readOf,AH.effOf,simprocAttr,AH.SP,AH.PD,AV.inB,vstep,vw,shift,newOnes,rowsM,blkIn,rwB,@flat_lts,AV.lt,AV.lts,Nat.sub_self,AH.SO,lgR_eq,lgU_eq,Lg.eta,ne4,no4,soR_eq,soS_eq,So.eta,Bool.not_false,Bool.and_self,if_true,dkR_eq,dkB_eq,Dk.eta,ne_eq,Nat.reduceEqDiff,Nat.zero_ne_one,not_false_eq_true,areaT_p,ok0,ok1,Bool.false_eq_true,if_false,dkM,List.cons_append,List.nil_append,Int.toNat_natCast,t0,t1,List.drop_zero,hP,hQ,errA_nil,errA0,rdT_p,s0,s1,m0,m1,rdA_b' g1,rdM_b' g1,wrM]); repeat ((with_reducible refine And.intro ?_ ?_); focus (first | rfl | decide | omega | (simp only [List.length_map,List.length_set,and_true]; omega))))
      refine loop_unroll ctxE_monoB ?_
      cases hb : decide ((rdZ P).q > 1073741824)
      · have hb' : ¬ ((rdZ P).q > 1073741824):=by simpa using hb
        simp only [AH.SD,AH.SE,AOp.call?,AOp.next?,bstep,AV.cells,unAV,binAV,retQ,retV,AH.sliceElems,AH.bytesOf,AH.strOp,AH.bound,AH.missQ,AH.minmaxAV,AH.readOf,AH.effOf,simprocAttr,AH.SP,AH.PD,AV.inB,vstep,vw,shift,newOnes,rowsM,blkIn,rwB,@flat_lts,AV.lt,AV.lts,Nat.sub_self,AH.SO,hb]
        refine ⟨[0,1,2],[],?_⟩
        simp only [AH.SD,AH.SE,AOp.call?,AOp.next?,bstep,AV.cells,unAV,binAV,retQ,retV,AH.sliceElems,AH.bytesOf,AH.strOp,AH.bound,AH.missQ,AH.minmaxAV,AH.readOf,AH.effOf,simprocAttr,AH.SP,AH.PD,AV.inB,vstep,ez,slM,lsE,hb',if_false,errA0]
        try simp
      · have hb' : ((rdZ P).q > 1073741824):=by simpa using hb
        simp only [AH.SD,AH.SE,AOp.call?,AOp.next?,bstep,AV.cells,unAV,binAV,retQ,retV,AH.sliceElems,AH.bytesOf,AH.strOp,AH.bound,AH.missQ,AH.minmaxAV,AH.readOf,AH.effOf,simprocAttr,AH.SP,AH.PD,AV.inB,vstep,vw,shift,newOnes,rowsM,blkIn,rwB,@flat_lts,AV.lt,AV.lts,Nat.sub_self,AH.SO,hb]
        refine ⟨[0,1,2],[],?_⟩
        simp only [AH.SD,AH.SE,AOp.call?,AOp.next?,bstep,AV.cells,unAV,binAV,retQ,retV,AH.sliceElems,AH.bytesOf,AH.strOp,AH.bound,AH.missQ,AH.minmaxAV,AH.readOf,AH.effOf,simprocAttr,AH.SP,AH.PD,AV.inB,vstep,ez,slM,lsE,hb',if_true,errA3]
        try simp
  · have e0 : stepL ⟨⟨#[]⟩,0,-1⟩ (rdZ P) 0 = ⟨⟨#[]⟩,0,-1⟩:=by unfold stepL; rw [if_neg fun q =>g0 q.1]
    rw [e0] at hz
    simp only [AH.SD,AH.SE,AOp.call?,AOp.next?,bstep,AV.cells,unAV,binAV,retQ,retV,AH.sliceElems,AH.bytesOf,AH.strOp,AH.bound,AH.missQ,AH.minmaxAV,AH.readOf,AH.effOf,simprocAttr,AH.SP,AH.PD,AV.inB,vstep,vw,shift,newOnes,rowsM,blkIn,rwB,@flat_lts,AV.lt,AV.lts,Nat.sub_self,AH.SO,lgR_eq,lgU_eq,Lg.eta,ne4,no4,soR_eq,soS_eq,So.eta,Bool.not_false,Bool.and_self,if_true,dkR_eq,dkB_eq,Dk.eta,ne_eq,Nat.reduceEqDiff,Nat.zero_ne_one,not_false_eq_true,areaT_p,ok0,ok1,Bool.false_eq_true,if_false,dkM,List.cons_append,List.nil_append,Int.toNat_natCast,t0,t1,List.drop_zero,hP,hQ,errA_nil,errA0,rdT_p,s0,s1,m0,m1,rdA_b' g0,rdM_b' g0,wrM]
    by_cases g1 : (rdZ Q).bad = -1
    · skip
      have ez : lastZ L Z = ⟨(rdZ Q).t,(rdZ Q).q,1⟩:=by rw [hz]; unfold stepL; rw [if_pos ⟨g1,.inl rfl⟩]
      refine loop_unroll ctxE_monoB ?_
      iterate 2 ((try simp only [AH.SD,AH.SE,AOp.call?,AOp.next?,bstep,AV.cells,unAV,binAV,retQ,retV,AH.sliceElems,AH.bytesOf,AH.strOp,AH.bound,AH.missQ,AH.minmaxAV,AH.readOf,AH.effOf,simprocAttr,AH.SP,AH.PD,AV.inB,vstep,vw,shift,newOnes,rowsM,blkIn,rwB,@flat_lts,AV.lt,AV.lts,Nat.sub_self,AH.SO,lgR_eq,lgU_eq,Lg.eta,ne4,no4,soR_eq,soS_eq,So.eta,Bool.not_false,Bool.and_self,if_true,dkR_eq,dkB_eq,Dk.eta,ne_eq,Nat.reduceEqDiff,Nat.zero_ne_one,not_false_eq_true,areaT_p,ok0,ok1,Bool.false_eq_true,if_false,dkM,List.cons_append,List.nil_append,Int.toNat_natCast,t0,t1,List.drop_zero,hP,hQ,errA_nil,errA0,rdT_p,s0,s1,m0,m1,rdA_g' g1,rdM_g' g1]); repeat ((with_reducible refine And.intro ?_ ?_); focus (first | rfl | decide | omega | (simp only [List.length_map,List.length_set,and_true]; omega))))
      refine loop_unroll ctxE_monoB ?_
      cases hb : decide ((rdZ Q).q > 1073741824)
      · have hb' : ¬ ((rdZ Q).q > 1073741824):=by simpa using hb
        simp only [AH.SD,AH.SE,AOp.call?,AOp.next?,bstep,AV.cells,unAV,binAV,retQ,retV,AH.sliceElems,AH.bytesOf,AH.strOp,AH.bound,AH.missQ,AH.minmaxAV,AH.readOf,AH.effOf,simprocAttr,AH.SP,AH.PD,AV.inB,vstep,vw,shift,newOnes,rowsM,blkIn,rwB,@flat_lts,AV.lt,AV.lts,Nat.sub_self,AH.SO,hb]
        refine ⟨[0,1,2],[],?_⟩
        simp only [AH.SD,AH.SE,AOp.call?,AOp.next?,bstep,AV.cells,unAV,binAV,retQ,retV,AH.sliceElems,AH.bytesOf,AH.strOp,AH.bound,AH.missQ,AH.minmaxAV,AH.readOf,AH.effOf,simprocAttr,AH.SP,AH.PD,AV.inB,vstep,ez,slM,lsE,hb',if_false,errA0]
        try simp
      · have hb' : ((rdZ Q).q > 1073741824):=by simpa using hb
        simp only [AH.SD,AH.SE,AOp.call?,AOp.next?,bstep,AV.cells,unAV,binAV,retQ,retV,AH.sliceElems,AH.bytesOf,AH.strOp,AH.bound,AH.missQ,AH.minmaxAV,AH.readOf,AH.effOf,simprocAttr,AH.SP,AH.PD,AV.inB,vstep,vw,shift,newOnes,rowsM,blkIn,rwB,@flat_lts,AV.lt,AV.lts,Nat.sub_self,AH.SO,hb]
        refine ⟨[0,1,2],[],?_⟩
        simp only [AH.SD,AH.SE,AOp.call?,AOp.next?,bstep,AV.cells,unAV,binAV,retQ,retV,AH.sliceElems,AH.bytesOf,AH.strOp,AH.bound,AH.missQ,AH.minmaxAV,AH.readOf,AH.effOf,simprocAttr,AH.SP,AH.PD,AV.inB,vstep,ez,slM,lsE,hb',if_true,errA3]
        try simp
    · skip
      have ez : lastZ L Z = ⟨⟨#[]⟩,0,-1⟩:=by rw [hz]; unfold stepL; rw [if_neg (fun q =>g1 q.1)]
      refine loop_unroll ctxE_monoB ?_
      iterate 2 ((try simp only [AH.SD,AH.SE,AOp.call?,AOp.next?,bstep,AV.cells,unAV,binAV,retQ,retV,AH.sliceElems,AH.bytesOf,AH.strOp,AH.bound,AH.missQ,AH.minmaxAV,AH.readOf,AH.effOf,simprocAttr,AH.SP,AH.PD,AV.inB,vstep,vw,shift,newOnes,rowsM,blkIn,rwB,@flat_lts,AV.lt,AV.lts,Nat.sub_self,AH.SO,lgR_eq,lgU_eq,Lg.eta,ne4,no4,soR_eq,soS_eq,So.eta,Bool.not_false,Bool.and_self,if_true,dkR_eq,dkB_eq,Dk.eta,ne_eq,Nat.reduceEqDiff,Nat.zero_ne_one,not_false_eq_true,areaT_p,ok0,ok1,Bool.false_eq_true,if_false,dkM,List.cons_append,List.nil_append,Int.toNat_natCast,t0,t1,List.drop_zero,hP,hQ,errA_nil,errA0,rdT_p,s0,s1,m0,m1,rdA_b' g1,rdM_b' g1,wrM]); repeat ((with_reducible refine And.intro ?_ ?_); focus (first | rfl | decide | omega | (simp only [List.length_map,List.length_set,and_true]; omega))))
      refine loop_unroll ctxE_monoB ?_
      cases hb : decide ((0 : Int) > 1073741824)
      · have hb' : ¬ ((0 : Int) > 1073741824):=by simpa using hb
        simp only [AH.SD,AH.SE,AOp.call?,AOp.next?,bstep,AV.cells,unAV,binAV,retQ,retV,AH.sliceElems,AH.bytesOf,AH.strOp,AH.bound,AH.missQ,AH.minmaxAV,AH.readOf,AH.effOf,simprocAttr,AH.SP,AH.PD,AV.inB,vstep,vw,shift,newOnes,rowsM,blkIn,rwB,@flat_lts,AV.lt,AV.lts,Nat.sub_self,AH.SO,hb]
        refine ⟨[0,1,2],[],?_⟩
        simp only [AH.SD,AH.SE,AOp.call?,AOp.next?,bstep,AV.cells,unAV,binAV,retQ,retV,AH.sliceElems,AH.bytesOf,AH.strOp,AH.bound,AH.missQ,AH.minmaxAV,AH.readOf,AH.effOf,simprocAttr,AH.SP,AH.PD,AV.inB,vstep,ez,slM,lsE,hb',if_false,errA0]
        try simp
      · exact absurd hb (by decide)
theorem last_off (d : Dk) (hd : d.ok) (ha : d.away = true) (Z : Nat) (h1 : 1 ≤ Z) (h2 : 2 * Z ≤ d.L.length) : CallA1 S0 56 [.ptr 2 0 0] (slM d Z ⟨⟨#[]⟩,0,-1⟩ .nilp)
    fun r m =>r = errA 14 ∧ m = slM d Z ⟨⟨#[]⟩,0,-1⟩ .nilp:=by
  obtain ⟨L,aw,fu,tr,wr⟩:=d
  simp only at ha h2
  subst ha
  have ok0 : okArea ⟨L,true,fu,tr,wr⟩ ((Z : Int),0,()):=⟨hd,by show (1 : Int) ≤ (Z : Int); omega,.inl rfl,by show (0 : Int) * (Z : Int) + (Z : Int) ≤ (L.length : Int); omega⟩
  refine CallA1.fin ?_
  refine fun_sound okLs Tryz.func56 c56 ?_
  unfold wpF F56
  simp only [AH.SD,AH.SE,AOp.call?,AOp.next?,bstep,AV.cells,unAV,binAV,retQ,retV,AH.sliceElems,AH.bytesOf,AH.strOp,AH.bound,AH.missQ,AH.minmaxAV,AH.readOf,AH.effOf,simprocAttr,AH.SP,AH.PD,AV.inB,vstep,vw,shift,newOnes,rowsM,blkIn,rwB,@flat_lts,AV.lt,AV.lts,Nat.sub_self,AH.SO,slM]
  refine loop_unroll ctxE_monoB ?_
  iterate 2 ((try simp only [AH.SD,AH.SE,AOp.call?,AOp.next?,bstep,AV.cells,unAV,binAV,retQ,retV,AH.sliceElems,AH.bytesOf,AH.strOp,AH.bound,AH.missQ,AH.minmaxAV,AH.readOf,AH.effOf,simprocAttr,AH.SP,AH.PD,AV.inB,vstep,vw,shift,newOnes,rowsM,blkIn,rwB,@flat_lts,AV.lt,AV.lts,Nat.sub_self,AH.SO,lgR_eq,lgU_eq,Lg.eta,ne4,no4,soR_eq,soS_eq,So.eta,Bool.not_false,Bool.and_self,if_true,dkR_eq,dkB_eq,Dk.eta,ne_eq,Nat.reduceEqDiff,Nat.zero_ne_one,not_false_eq_true,areaT_p,ok0,dkM,errA_nil,errA14]); repeat ((with_reducible refine And.intro ?_ ?_); focus (first | rfl | decide | omega | (simp only [List.length_map,List.length_set,and_true]; omega))))
  refine ⟨[0,1,2],[],?_⟩
  simp only [AH.SD,AH.SE,AOp.call?,AOp.next?,bstep,AV.cells,unAV,binAV,retQ,retV,AH.sliceElems,AH.bytesOf,AH.strOp,AH.bound,AH.missQ,AH.minmaxAV,AH.readOf,AH.effOf,simprocAttr,AH.SP,AH.PD,AV.inB,vstep,slM]
  try simp
def sopZ (d : Dk) (z : Int) : Nat × So :=
  if z < 1 ∨ z > 108 ∨ (d.L.length : Int) ≤ 2 * z then (1,⟨⟨d,0,0,0,0,[],false⟩,z,⟨#[]⟩,0,0,false⟩) else
  if d.away = true then (14,⟨⟨d,0,0,0,0,[],false⟩,z,⟨#[]⟩,0,0,false⟩) else
  if (lastZ d.L z.toNat).b > 1073741824 then (3,⟨⟨d,0,0,0,0,[],false⟩,z,⟨#[]⟩,0,0,false⟩) else
  ((opnZ d (2 * z) d.L.length (lastZ d.L z.toNat).b).1,⟨(opnZ d (2 * z) d.L.length (lastZ d.L z.toNat).b).2,z,(lastZ d.L z.toNat).s,(lastZ d.L z.toNat).b,(lastZ d.L z.toNat).a,false⟩)
def sopA (x : Nat × So) : AV:=if x.1 = 0 then .tup [.ptr 2 0 0,.nili] else .tup [.nilp,errA x.1]
def sopM (x : Nat × So) : Mem:=if x.1 = 0 then [some (.row false 5 [[.slc 1 0 x.2.g.d.L.length none,.bool x.2.g.d.away,.int .i64 x.2.g.d.fuse,.int .i64 x.2.g.d.torn,.int .i64 x.2.g.d.writes]]),some (.row false 1 (x.2.g.d.L.map strC)),
  some (.row false 7 [[.ptr 0 0 0,.int .i64 x.2.z,.str x.2.s,.int .i64 x.2.b,.int .i64 x.2.a,.ptr 3 0 0,.bool x.2.down]]),
  some (.row false 7 [[.ptr 0 0 0,.int .i64 x.2.g.f,.int .i64 x.2.g.t,.int .i64 x.2.g.b,.int .i64 x.2.g.a,.slc 4 0 x.2.g.R.length none,.bool false]]),some (.row false 1 (x.2.g.R.map strC))] else dkM x.2.g.d
noncomputable abbrev tSo : List (FuncId × RT):=[(40,lenT),(9,opnN)]
theorem okSop : CtxOK S0 (ctxE S0 tSo [] [(9,opnT)]):=ctxE_ok ⟨lenT_ok,opnN_ok,trivial⟩ trivial ⟨opnT_ok,trivial⟩ mixed
set_option maxHeartbeats 8000000 in
theorem sopen_ok (d : Dk) (hd : d.ok) (z : Int) (hLs : d.L.length ≤ 4096) : CallA1 S0 25 [.ptr 0 0 0,.int .i64 z] (dkM d) fun r m =>r = sopA (sopZ d z) ∧ m = sopM (sopZ d z):=by
  refine CallA1.fin ?_
  refine fun_sound okSop Tryz.func25 c25 ?_
  unfold wpF F25
  have bad : (z < 1 ∨ z > 108 ∨ (d.L.length : Int) ≤ 2 * z) → sopA (sopZ d z) = .tup [.nilp,.err 1] ∧ sopM (sopZ d z) = dkM d:=fun h =>by
    have e : sopZ d z = (1,⟨⟨d,0,0,0,0,[],false⟩,z,⟨#[]⟩,0,0,false⟩):=by unfold sopZ; rw [if_pos h]
    rw [e]; exact ⟨rfl,rfl⟩
  cases c1 : decide (z < 1)
  rotate_left
  · obtain ⟨e1,e2⟩:=bad (.inl (by simpa using c1))
    simp only [AH.SD,AH.SE,AOp.call?,AOp.next?,bstep,AV.cells,unAV,binAV,retQ,retV,AH.sliceElems,AH.bytesOf,AH.strOp,AH.bound,AH.missQ,AH.minmaxAV,AH.readOf,AH.effOf,simprocAttr,AH.SP,AH.PD,AV.inB,vstep,vw,shift,newOnes,rowsM,blkIn,rwB,@flat_lts,AV.lt,AV.lts,Nat.sub_self,AH.SO,dkM,c1]
    repeat ((with_reducible refine And.intro ?_ ?_); focus (first | rfl | decide | omega | (simp only [List.length_map,List.length_set,and_true]; omega)))
    refine ⟨[0,1],[],?_⟩
    simp only [AH.SD,AH.SE,AOp.call?,AOp.next?,bstep,AV.cells,unAV,binAV,retQ,retV,AH.sliceElems,AH.bytesOf,AH.strOp,AH.bound,AH.missQ,AH.minmaxAV,AH.readOf,AH.effOf,simprocAttr,AH.SP,AH.PD,AV.inB,vstep,e1,e2,dkM]
    try simp
  cases c2 : decide (z > 108)
  rotate_left
  · obtain ⟨e1,e2⟩:=bad (.inr (.inl (by simpa using c2)))
    simp only [AH.SD,AH.SE,AOp.call?,AOp.next?,bstep,AV.cells,unAV,binAV,retQ,retV,AH.sliceElems,AH.bytesOf,AH.strOp,AH.bound,AH.missQ,AH.minmaxAV,AH.readOf,AH.effOf,simprocAttr,AH.SP,AH.PD,AV.inB,vstep,vw,shift,newOnes,rowsM,blkIn,rwB,@flat_lts,AV.lt,AV.lts,Nat.sub_self,AH.SO,dkM,c1,c2]
    repeat ((with_reducible refine And.intro ?_ ?_); focus (first | rfl | decide | omega | (simp only [List.length_map,List.length_set,and_true]; omega)))
    refine ⟨[0,1],[],?_⟩
    simp only [AH.SD,AH.SE,AOp.call?,AOp.next?,bstep,AV.cells,unAV,binAV,retQ,retV,AH.sliceElems,AH.bytesOf,AH.strOp,AH.bound,AH.missQ,AH.minmaxAV,AH.readOf,AH.effOf,simprocAttr,AH.SP,AH.PD,AV.inB,vstep,e1,e2,dkM]
    try simp
  have z1 : 1 ≤ z:=by simp only [decide_eq_false_iff_not] at c1; omega
  have z2 : z ≤ 108:=by simp only [decide_eq_false_iff_not] at c2; omega
  have wz : IntKind.i64.wrap (2 * z) = 2 * z:=by rw [IntKind.wrap_i64]; omega
  cases c3 : decide ((d.L.length : Int) ≤ 2 * z)
  rotate_left
  · obtain ⟨e1,e2⟩:=bad (.inr (.inr (by simpa using c3)))
    simp only [AH.SD,AH.SE,AOp.call?,AOp.next?,bstep,AV.cells,unAV,binAV,retQ,retV,AH.sliceElems,AH.bytesOf,AH.strOp,AH.bound,AH.missQ,AH.minmaxAV,AH.readOf,AH.effOf,simprocAttr,AH.SP,AH.PD,AV.inB,vstep,vw,shift,newOnes,rowsM,blkIn,rwB,@flat_lts,AV.lt,AV.lts,Nat.sub_self,AH.SO,dkM,c1,c2,lenT_p,lgR_eq,lgU_eq,Lg.eta,ne4,no4,soR_eq,soS_eq,So.eta,Bool.not_false,Bool.and_self,if_true,dkR_eq,dkB_eq,Dk.eta,ne_eq,Nat.reduceEqDiff,Nat.zero_ne_one,not_false_eq_true,wz,c3]
    repeat ((with_reducible refine And.intro ?_ ?_); focus (first | rfl | decide | omega | (simp only [List.length_map,List.length_set,and_true]; omega)))
    refine ⟨[0,1],[],?_⟩
    simp only [AH.SD,AH.SE,AOp.call?,AOp.next?,bstep,AV.cells,unAV,binAV,retQ,retV,AH.sliceElems,AH.bytesOf,AH.strOp,AH.bound,AH.missQ,AH.minmaxAV,AH.readOf,AH.effOf,simprocAttr,AH.SP,AH.PD,AV.inB,vstep,e1,e2,dkM]
    try simp
  clear bad
  have z3 : 2 * z < (d.L.length : Int):=by simp only [decide_eq_false_iff_not] at c3; omega
  have hno : ¬ (z < 1 ∨ z > 108 ∨ (d.L.length : Int) ≤ 2 * z):=by omega
  obtain ⟨Z,rfl⟩:=Int.eq_ofNat_of_zero_le (show 0 ≤ z by omega)
  have eM : slM d Z ⟨⟨#[]⟩,0,-1⟩ .nilp = [some (.row false 5 [[.slc 1 0 d.L.length none,.bool d.away,.int .i64 d.fuse,.int .i64 d.torn,.int .i64 d.writes]]),some (.row false 1 (d.L.map strC)),
    some (.row false 7 [[.ptr 0 0 0,.int .i64 Z,.str ⟨#[]⟩,.int .i64 0,.int .i64 (-1),.nilp,.bool false]])]:=rfl
  simp only [AH.SD,AH.SE,AOp.call?,AOp.next?,bstep,AV.cells,unAV,binAV,retQ,retV,AH.sliceElems,AH.bytesOf,AH.strOp,AH.bound,AH.missQ,AH.minmaxAV,AH.readOf,AH.effOf,simprocAttr,AH.SP,AH.PD,AV.inB,vstep,vw,shift,newOnes,rowsM,blkIn,rwB,@flat_lts,AV.lt,AV.lts,Nat.sub_self,AH.SO,dkM,c1,c2,lenT_p,lgR_eq,lgU_eq,Lg.eta,ne4,no4,soR_eq,soS_eq,So.eta,Bool.not_false,Bool.and_self,if_true,dkR_eq,dkB_eq,Dk.eta,ne_eq,Nat.reduceEqDiff,Nat.zero_ne_one,not_false_eq_true,wz,c3]
  rw [← eM]
  by_cases ha : d.away = true
  · have e : sopZ d Z = (14,⟨⟨d,0,0,0,0,[],false⟩,Z,⟨#[]⟩,0,0,false⟩):=by unfold sopZ; rw [if_neg hno,if_pos ha]
    refine (last_off d hd ha Z (by omega) (by omega)).mono ?_
    rintro r m ⟨rfl,rfl⟩
    simp only [AH.SD,AH.SE,AOp.call?,AOp.next?,bstep,AV.cells,unAV,binAV,retQ,retV,AH.sliceElems,AH.bytesOf,AH.strOp,AH.bound,AH.missQ,AH.minmaxAV,AH.readOf,AH.effOf,simprocAttr,AH.SP,AH.PD,AV.inB,vstep,vw,shift,newOnes,rowsM,blkIn,rwB,@flat_lts,AV.lt,AV.lts,Nat.sub_self,AH.SO,slM,errA_nil,errA14]
    refine ⟨[0,1],[],?_⟩
    simp only [AH.SD,AH.SE,AOp.call?,AOp.next?,bstep,AV.cells,unAV,binAV,retQ,retV,AH.sliceElems,AH.bytesOf,AH.strOp,AH.bound,AH.missQ,AH.minmaxAV,AH.readOf,AH.effOf,simprocAttr,AH.SP,AH.PD,AV.inB,vstep,e,sopA,sopM,errA14,dkM,show ¬ ((14 : Nat) = 0) by decide,if_false]
    try simp
  · have ha' : d.away = false:=by simpa using ha
    refine (last_on d hd ha' Z (by omega) (by omega)).mono ?_
    rintro r m ⟨rfl,rfl⟩
    obtain ⟨b1,b2⟩:=lastZ_b d.L Z
    by_cases hb : (lastZ d.L Z).b > 1073741824
    · have e : sopZ d Z = (3,⟨⟨d,0,0,0,0,[],false⟩,Z,⟨#[]⟩,0,0,false⟩):=by
        unfold sopZ; rw [if_neg hno,if_neg ha,if_pos (by simpa using hb)]
      simp only [AH.SD,AH.SE,AOp.call?,AOp.next?,bstep,AV.cells,unAV,binAV,retQ,retV,AH.sliceElems,AH.bytesOf,AH.strOp,AH.bound,AH.missQ,AH.minmaxAV,AH.readOf,AH.effOf,simprocAttr,AH.SP,AH.PD,AV.inB,vstep,vw,shift,newOnes,rowsM,blkIn,rwB,@flat_lts,AV.lt,AV.lts,Nat.sub_self,AH.SO,slM,lsE,hb,errA_nil,errA3]
      refine ⟨[0,1],[],?_⟩
      simp only [AH.SD,AH.SE,AOp.call?,AOp.next?,bstep,AV.cells,unAV,binAV,retQ,retV,AH.sliceElems,AH.bytesOf,AH.strOp,AH.bound,AH.missQ,AH.minmaxAV,AH.readOf,AH.effOf,simprocAttr,AH.SP,AH.PD,AV.inB,vstep,e,sopA,sopM,errA3,dkM,show ¬ ((3 : Nat) = 0) by decide,if_false]
      try simp
    · have e : sopZ d Z = ((opnZ d (2 * (Z : Int)) d.L.length (lastZ d.L Z).b).1,⟨(opnZ d (2 * (Z : Int)) d.L.length (lastZ d.L Z).b).2,Z,(lastZ d.L Z).s,(lastZ d.L Z).b,(lastZ d.L Z).a,false⟩):=by
        unfold sopZ; rw [if_neg hno,if_neg ha,if_neg (by simpa using hb)]; simp only [Int.toNat_natCast]
      generalize lastZ d.L Z = u at *
      obtain ⟨us,ub,ua⟩:=u
      simp only at hb b1 b2 e
      generalize hO : opnZ d (2 * (Z : Int)) d.L.length ub = O at *
      by_cases h0 : O.1 = 0
      · simp only [AH.SD,AH.SE,AOp.call?,AOp.next?,bstep,AV.cells,unAV,binAV,retQ,retV,AH.sliceElems,AH.bytesOf,AH.strOp,AH.bound,AH.missQ,AH.minmaxAV,AH.readOf,AH.effOf,simprocAttr,AH.SP,AH.PD,AV.inB,vstep,vw,shift,newOnes,rowsM,blkIn,rwB,@flat_lts,AV.lt,AV.lts,Nat.sub_self,AH.SO,slM,lsE,hb,if_false,errA_nil,errA0,lenT_p,lgR_eq,lgU_eq,Lg.eta,ne4,no4,soR_eq,soS_eq,So.eta,Bool.not_false,Bool.and_self,if_true,dkR_eq,dkB_eq,Dk.eta,ne_eq,Nat.reduceEqDiff,Nat.zero_ne_one,not_false_eq_true,wz,opnN_p,opnT_p,hd,hO,opnA,opnM,h0,opM,List.cons_append,List.nil_append]
        iterate 2 (try (repeat ((with_reducible refine And.intro ?_ ?_); focus (first | rfl | decide | omega | (simp only [List.length_map,List.length_set,and_true]; omega))); try simp only [AH.SD,AH.SE,AOp.call?,AOp.next?,bstep,AV.cells,unAV,binAV,retQ,retV,AH.sliceElems,AH.bytesOf,AH.strOp,AH.bound,AH.missQ,AH.minmaxAV,AH.readOf,AH.effOf,simprocAttr,AH.SP,AH.PD,AV.inB,vstep,vw,shift,newOnes,rowsM,blkIn,rwB,@flat_lts,AV.lt,AV.lts,Nat.sub_self,AH.SO,slM,lsE,hb,if_false,errA_nil,errA0,lenT_p,lgR_eq,lgU_eq,Lg.eta,ne4,no4,soR_eq,soS_eq,So.eta,Bool.not_false,Bool.and_self,if_true,dkR_eq,dkB_eq,Dk.eta,ne_eq,Nat.reduceEqDiff,Nat.zero_ne_one,not_false_eq_true,wz,opnN_p,opnT_p,hd,hO,opnA,opnM,h0,opM,List.cons_append,List.nil_append]))
        refine ⟨[0,1,2,3,4],[],?_⟩
        simp only [AH.SD,AH.SE,AOp.call?,AOp.next?,bstep,AV.cells,unAV,binAV,retQ,retV,AH.sliceElems,AH.bytesOf,AH.strOp,AH.bound,AH.missQ,AH.minmaxAV,AH.readOf,AH.effOf,simprocAttr,AH.SP,AH.PD,AV.inB,vstep,e,h0,sopA,sopM]
        try simp
      · have h0b : (O.1 == 0) = false:=by simpa using h0
        simp only [AH.SD,AH.SE,AOp.call?,AOp.next?,bstep,AV.cells,unAV,binAV,retQ,retV,AH.sliceElems,AH.bytesOf,AH.strOp,AH.bound,AH.missQ,AH.minmaxAV,AH.readOf,AH.effOf,simprocAttr,AH.SP,AH.PD,AV.inB,vstep,vw,shift,newOnes,rowsM,blkIn,rwB,@flat_lts,AV.lt,AV.lts,Nat.sub_self,AH.SO,slM,lsE,hb,if_false,errA_nil,errA0,lenT_p,lgR_eq,lgU_eq,Lg.eta,ne4,no4,soR_eq,soS_eq,So.eta,Bool.not_false,Bool.and_self,if_true,dkR_eq,dkB_eq,Dk.eta,ne_eq,Nat.reduceEqDiff,Nat.zero_ne_one,not_false_eq_true,wz,opnN_p,opnT_p,hd,hO,opnA,opnM,h0,h0b,dkM,errA_ren]
        iterate 2 (try (repeat ((with_reducible refine And.intro ?_ ?_); focus (first | rfl | decide | omega | (simp only [List.length_map,List.length_set,and_true]; omega))); try simp only [AH.SD,AH.SE,AOp.call?,AOp.next?,bstep,AV.cells,unAV,binAV,retQ,retV,AH.sliceElems,AH.bytesOf,AH.strOp,AH.bound,AH.missQ,AH.minmaxAV,AH.readOf,AH.effOf,simprocAttr,AH.SP,AH.PD,AV.inB,vstep,vw,shift,newOnes,rowsM,blkIn,rwB,@flat_lts,AV.lt,AV.lts,Nat.sub_self,AH.SO,slM,lsE,hb,if_false,errA_nil,errA0,lenT_p,lgR_eq,lgU_eq,Lg.eta,ne4,no4,soR_eq,soS_eq,So.eta,Bool.not_false,Bool.and_self,if_true,dkR_eq,dkB_eq,Dk.eta,ne_eq,Nat.reduceEqDiff,Nat.zero_ne_one,not_false_eq_true,wz,opnN_p,opnT_p,hd,hO,opnA,opnM,h0,h0b,dkM,errA_ren]))
        refine ⟨[0,1],[],?_⟩
        simp only [AH.SD,AH.SE,AOp.call?,AOp.next?,bstep,AV.cells,unAV,binAV,retQ,retV,AH.sliceElems,AH.bytesOf,AH.strOp,AH.bound,AH.missQ,AH.minmaxAV,AH.readOf,AH.effOf,simprocAttr,AH.SP,AH.PD,AV.inB,vstep,e,h0,sopA,sopM,dkM,if_false,flat_inB (errA_flat _),errA_ren]
        try simp
theorem sopM_len (x : Nat × So) : 2 ≤ (sopM x).length ∧ ((sopM x).drop 2).all rwB = true:=by
  unfold sopM
  split
  · exact ⟨by simp,rfl⟩
  · exact ⟨by simp [dkM],rfl⟩
def sopT : ET:=etO dkO (cC (aI .i64) c0) fun d x =>if d.ok then some (sopA (sopZ d x.1),sopM (sopZ d x.1)) else none
theorem sopT_ok : EffF S0 25 sopT:=etO_ok fun d x v m' h =>by
  split at h
  · rename_i hd
    simp only [Option.some.injEq,Prod.mk.injEq] at h
    obtain ⟨rfl,rfl⟩:=h
    exact ⟨sopM_len _,sopen_ok d hd x.1 hd.2.2.2⟩
  · cases h
theorem sopT_p {p n : Nat} {z : Int} {M : Nat → Option Blk} : sopT [.ptr p 0 0,.int .i64 z] M n = etO2 n (fun d (x : Int × Unit) =>if d.ok then some (sopA (sopZ d x.1),sopM (sopZ d x.1)) else none) (dkR M p (M p)) (some (z,())):=by
  simp only [sopT,etO_eq,cC_dec,aI_dec,c0_dec,pairO_some,dkO_dec]
theorem sopen_nil (z : Int) : Pure S0 25 [.nilp,.int .i64 z] (.tup [.nilp,errA 2]):=by
  refine fun_sound okSop Tryz.func25 c25 ?_
  unfold wpF F25
  simp only [AH.SD,AH.SE,AOp.call?,AOp.next?,bstep,AV.cells,unAV,binAV,retQ,retV,AH.sliceElems,AH.bytesOf,AH.strOp,AH.bound,AH.missQ,AH.minmaxAV,AH.readOf,AH.effOf,simprocAttr,errA2]
  repeat ((with_reducible refine And.intro ?_ ?_); focus (first | rfl | decide | omega | (simp only [List.length_map,List.length_set,and_true]; omega)))
  try trivial
def sopN : RT:=rtP (cC aNil (cC (aI .i64) c0)) fun _ => .tup [.nilp,errA 2]
theorem sopN_ok : ReadF S0 25 sopN:=rtP_ok (fun x =>sopen_nil x.2.1) fun _ =>rfl
theorem sopN_p {p : Nat} {z : Int} {M : Nat → Option Blk} : sopN [.ptr p 0 0,.int .i64 z] M = none:=by
  simp only [sopN,rtP,cC_dec,aNil_ptr,pairO_none,Option.map_none]
end Go.Proofs.YthapdikdeoeplaaGreatDoor.Z7
end
section
set_option linter.unusedVariables false
set_option linter.unnecessarySimpa false
open Go AH
set_option linter.unusedSimpArgs false
set_option maxRecDepth 100000
namespace Go.Proofs.YthapdikdeoeplaaGreatDoor.Z7
def areaZ (d : Dk) (Z o : Nat) (B : List ByteArray) : Nat × Dk:=if (wipeD d Z o).1 = 0 then layD (wipeD d Z o).2 o B else wipeD d Z o
noncomputable abbrev tLy : List (FuncId × RT):=[(55,repT),(59,drdT),(52,writeNT)]
noncomputable abbrev eLy : List (FuncId × ET):=[(52,writeT)]
theorem okLy : CtxOK S0 (ctxE S0 tLy [] eLy):=ctxE_ok ⟨repT_ok,drdT_ok,writeNT_ok,trivial⟩ trivial ⟨writeT_ok,trivial⟩ mixed
def kpM (x : So) (d : Dk) (B : List ByteArray) : Mem:=soM { x with g:={ x.g with d:=d } } ++ [some (.row false 1 (B.map strC))]
def ly1 (x : So) (at_ : Int) (Z : Nat) (B : List ByteArray) (y : Nat × Dk) : St:=⟨[(19,.int .i64 y.1),(18,.int .i64 Z),(7,.str zeB),(2,.slc 5 0 B.length none),(1,.int .i64 at_),(0,.ptr 0 0 0)],kpM x y.2 B⟩
def ly2 (x : So) (at_ : Int) (B : List ByteArray) (y : Nat × Dk) : St:=⟨[(65,.int .i64 y.1),(64,.int .i64 B.length),(63,.slc 5 0 B.length none),(1,.int .i64 at_),(0,.ptr 0 0 0)],kpM x y.2 B⟩
set_option maxHeartbeats 16000000 in
theorem lay_walk (x : So) (hx : x.g.d.ok) (at_ : Int) (Z o : Nat) (B : List ByteArray) (hz : x.z = Z) (hw : IntKind.i64.wrap (at_ * (Z : Int)) = (o : Int)) (hB : ∀ s ∈ B,s.size = 64) (hBl : B.length ≤ Z) (h2 : o + Z ≤ x.g.d.L.length) :
    CallA1 S0 57 [.ptr 0 0 0,.int .i64 at_,.slc 5 0 B.length none] (soM x ++ [some (.row false 1 (B.map strC))]) fun r m =>r = errA (areaZ x.g.d Z o B).1 ∧ m = kpM x (areaZ x.g.d Z o B).2 B:=by
  obtain ⟨⟨d,f,t,b0,a0,R,down0⟩,z,st,b,a,down⟩:=x
  simp only at hx hz h2
  subst hz
  have hL:=hx.2.2.2
  refine CallA1.fin ?_
  refine fun_sound okLy Tryz.func57 c57 ?_
  unfold wpF F57
  simp only [AH.SD,AH.SE,AOp.call?,AOp.next?,bstep,AV.cells,unAV,binAV,retQ,retV,AH.sliceElems,AH.bytesOf,AH.strOp,AH.bound,AH.missQ,AH.minmaxAV,AH.readOf,AH.effOf,simprocAttr,AH.SP,AH.PD,AV.inB,vstep,vw,shift,newOnes,rowsM,blkIn,rwB,@flat_lts,AV.lt,AV.lts,Nat.sub_self,AH.SO,soM,List.cons_append,List.nil_append,repT_64]
  refine loop_do [0,1,2,3,4,5] [19,18,7,2,1,0] [] (α:=Nat × Dk) (fun y =>Z - y.1) (ly1 ⟨⟨d,f,t,b0,a0,R,down0⟩,Z,st,b,a,down⟩ at_ Z B) (fun y =>y.1 ≤ Z ∧ y.2.ok ∧ y.2.L.length = d.L.length ∧ wipeD y.2 (Z - y.1) (o + y.1) = wipeD d Z o) (0,d) ⟨Nat.zero_le _,hx,rfl,rfl⟩ (by simp only [AH.SD,AH.SE,AOp.call?,AOp.next?,bstep,AV.cells,unAV,binAV,retQ,retV,AH.sliceElems,AH.bytesOf,AH.strOp,AH.bound,AH.missQ,AH.minmaxAV,AH.readOf,AH.effOf,simprocAttr,AH.SP,AH.PD,AV.inB,vstep,ly1,kpM,soM,List.cons_append,List.nil_append]) ?_
  rintro X ⟨i,d1⟩ ⟨hi,hd1,hl,hy⟩ ih
  simp only at hi hd1 hl hy
  simp only [AH.SD,AH.SE,AOp.call?,AOp.next?,bstep,AV.cells,unAV,binAV,retQ,retV,AH.sliceElems,AH.bytesOf,AH.strOp,AH.bound,AH.missQ,AH.minmaxAV,AH.readOf,AH.effOf,simprocAttr,AH.SP,AH.PD,AV.inB,vstep,vw,shift,newOnes,rowsM,blkIn,rwB,@flat_lts,AV.lt,AV.lts,Nat.sub_self,AH.SO,ly1,kpM,soM,List.cons_append,List.nil_append]
  refine ⟨fun hlt => ?_,fun hlt => ?_⟩
  · have hiZ:=lt_of_dec hlt
    have wi:=wrapS (i:=i) (by omega)
    have hiL : o + i < d1.L.length:=by omega
    have wo : IntKind.i64.wrap ((o : Int) + (i : Int)) = ((o + i : Nat) : Int):=by rw [IntKind.wrap_i64]; omega
    obtain ⟨k,hk⟩ : ∃ k,Z - i = k + 1:=⟨Z - i - 1,by omega⟩
    have hk2 : Z - (i + 1) = k:=by omega
    have hck:=chk_at hiL
    by_cases haw' : d1.away = true
    · have haw : d1.away = true:=haw'
      rw [haw] at hck
      simp only [if_true] at hck
      have e3 : wipeD d Z o = (14,d1):=by rw [← hy,hk,wipeD,haw]; rfl
      have e4 : areaZ d Z o B = (14,d1):=by unfold areaZ; rw [e3]; rfl
      iterate 2 ((try simp only [AH.SD,AH.SE,AOp.call?,AOp.next?,bstep,AV.cells,unAV,binAV,retQ,retV,AH.sliceElems,AH.bytesOf,AH.strOp,AH.bound,AH.missQ,AH.minmaxAV,AH.readOf,AH.effOf,simprocAttr,AH.SP,AH.PD,AV.inB,vstep,vw,shift,newOnes,rowsM,blkIn,rwB,@flat_lts,AV.lt,AV.lts,Nat.sub_self,AH.SO,lgR_eq,lgU_eq,Lg.eta,ne4,no4,soR_eq,soS_eq,So.eta,Bool.not_false,Bool.and_self,if_true,dkR_eq,dkB_eq,Dk.eta,ne_eq,Nat.reduceEqDiff,Nat.zero_ne_one,not_false_eq_true,hw,wo,drdT_p,drdA,hck,errA_nil,errA14]); repeat ((with_reducible refine And.intro ?_ ?_); focus (first | rfl | decide | omega | (simp only [List.length_map,List.length_set,and_true]; omega))))
      refine ⟨[0,1,2,3,4,5],[],?_⟩
      simp only [AH.SD,AH.SE,AOp.call?,AOp.next?,bstep,AV.cells,unAV,binAV,retQ,retV,AH.sliceElems,AH.bytesOf,AH.strOp,AH.bound,AH.missQ,AH.minmaxAV,AH.readOf,AH.effOf,simprocAttr,AH.SP,AH.PD,AV.inB,vstep,e4,kpM,soM,errA14,List.cons_append,List.nil_append]
      try simp
    · have haw : d1.away = false:=by simpa using haw'
      rw [haw] at hck
      simp only [Bool.false_eq_true,if_false] at hck
      have hg : d1.L.getD (o + i) ⟨#[]⟩ = d1.L[o + i]:=by rw [List.getD_eq_getElem?_getD,List.getElem?_eq_getElem hiL]; rfl
      have hrd : rdS d1 ((o + i : Nat) : Int) = d1.L[o + i]:=by rw [rdS,hck,Int.toNat_natCast,hg]; rfl
      by_cases hz : d1.L[o + i] = zeB
      · have e1 : wipeD d1 (Z - (i + 1)) (o + (i + 1)) = wipeD d Z o:=by
          rw [← hy,hk,hk2,wipeD,haw,hg]; simp [hz,Nat.add_assoc]
        have done:=ih (i + 1,d1) ⟨hiZ,hd1,hl,e1⟩ (by simp only; omega)
        simp only [ly1,kpM,soM,List.cons_append,List.nil_append] at done
        iterate 2 ((try simp only [AH.SD,AH.SE,AOp.call?,AOp.next?,bstep,AV.cells,unAV,binAV,retQ,retV,AH.sliceElems,AH.bytesOf,AH.strOp,AH.bound,AH.missQ,AH.minmaxAV,AH.readOf,AH.effOf,simprocAttr,AH.SP,AH.PD,AV.inB,vstep,vw,shift,newOnes,rowsM,blkIn,rwB,@flat_lts,AV.lt,AV.lts,Nat.sub_self,AH.SO,lgR_eq,lgU_eq,Lg.eta,ne4,no4,soR_eq,soS_eq,So.eta,Bool.not_false,Bool.and_self,if_true,dkR_eq,dkB_eq,Dk.eta,ne_eq,Nat.reduceEqDiff,Nat.zero_ne_one,not_false_eq_true,hw,wo,drdT_p,drdA,hck,hrd,hz,errA_nil,tl_self,Bool.not_true,wi]); repeat ((with_reducible refine And.intro ?_ ?_); focus (first | rfl | decide | omega | (simp only [List.length_map,List.length_set,and_true]; omega))))
        refine gc_auto [0,1,2,3,4,5] [19,18,7,2,1,0] [] ?_
        simp only [AH.SD,AH.SE,AOp.call?,AOp.next?,bstep,AV.cells,unAV,binAV,retQ,retV,AH.sliceElems,AH.bytesOf,AH.strOp,AH.bound,AH.missQ,AH.minmaxAV,AH.readOf,AH.effOf,simprocAttr,AH.SP,AH.PD,AV.inB,vstep]
        exact done
      · have e2:=tl_ne hz
        have hkd:=wrD_kinds (s:=zeB) hiL zeB_sz
        have hok:=wr_ok hd1 ((o + i : Nat) : Int) zeB
        have hln:=wr_len d1 ((o + i : Nat) : Int) zeB
        have e3 : wipeD d1 (Z - i) (o + i) = if (wrD d1 ((o + i : Nat) : Int) zeB).1 = 0 then wipeD (wrD d1 ((o + i : Nat) : Int) zeB).2 k (o + (i + 1)) else wrD d1 ((o + i : Nat) : Int) zeB:=by
          rw [hk,wipeD,haw,hg]; simp [hz,Nat.add_assoc]
        rcases hkd with hkd | hkd
        · rw [if_pos hkd,← hk2] at e3
          have done:=ih (i + 1,(wrD d1 ((o + i : Nat) : Int) zeB).2) ⟨hiZ,hok,by simp only; omega,by simp only; rw [← hy,e3]⟩ (by simp only; omega)
          simp only [ly1,kpM,soM,List.cons_append,List.nil_append] at done
          iterate 3 ((try simp only [AH.SD,AH.SE,AOp.call?,AOp.next?,bstep,AV.cells,unAV,binAV,retQ,retV,AH.sliceElems,AH.bytesOf,AH.strOp,AH.bound,AH.missQ,AH.minmaxAV,AH.readOf,AH.effOf,simprocAttr,AH.SP,AH.PD,AV.inB,vstep,vw,shift,newOnes,rowsM,blkIn,rwB,@flat_lts,AV.lt,AV.lts,Nat.sub_self,AH.SO,lgR_eq,lgU_eq,Lg.eta,ne4,no4,soR_eq,soS_eq,So.eta,Bool.not_false,Bool.and_self,if_true,dkR_eq,dkB_eq,Dk.eta,ne_eq,Nat.reduceEqDiff,Nat.zero_ne_one,not_false_eq_true,hw,wo,drdT_p,drdA,hck,hrd,e2,errA_nil,Bool.not_false,writeNT_p,writeT_p,hd1,if_true,dkM,hkd,errA0,wi,errA_ren]); repeat ((with_reducible refine And.intro ?_ ?_); focus (first | rfl | decide | omega | (simp only [List.length_map,List.length_set,and_true]; omega))))
          refine gc_auto [0,1,2,3,4,5] [19,18,7,2,1,0] [] ?_
          simp only [AH.SD,AH.SE,AOp.call?,AOp.next?,bstep,AV.cells,unAV,binAV,retQ,retV,AH.sliceElems,AH.bytesOf,AH.strOp,AH.bound,AH.missQ,AH.minmaxAV,AH.readOf,AH.effOf,simprocAttr,AH.SP,AH.PD,AV.inB,vstep]
          exact done
        · rw [hkd,if_neg (by decide)] at e3
          have e4 : areaZ d Z o B = wrD d1 ((o + i : Nat) : Int) zeB:=by unfold areaZ; rw [← hy,e3,if_neg (by rw [hkd]; decide)]
          iterate 3 ((try simp only [AH.SD,AH.SE,AOp.call?,AOp.next?,bstep,AV.cells,unAV,binAV,retQ,retV,AH.sliceElems,AH.bytesOf,AH.strOp,AH.bound,AH.missQ,AH.minmaxAV,AH.readOf,AH.effOf,simprocAttr,AH.SP,AH.PD,AV.inB,vstep,vw,shift,newOnes,rowsM,blkIn,rwB,@flat_lts,AV.lt,AV.lts,Nat.sub_self,AH.SO,lgR_eq,lgU_eq,Lg.eta,ne4,no4,soR_eq,soS_eq,So.eta,Bool.not_false,Bool.and_self,if_true,dkR_eq,dkB_eq,Dk.eta,ne_eq,Nat.reduceEqDiff,Nat.zero_ne_one,not_false_eq_true,hw,wo,drdT_p,drdA,hck,hrd,e2,errA_nil,Bool.not_false,writeNT_p,writeT_p,hd1,if_true,dkM,hkd,errA14,errA_ren]); repeat ((with_reducible refine And.intro ?_ ?_); focus (first | rfl | decide | omega | (simp only [List.length_map,List.length_set,and_true]; omega))))
          refine ⟨[0,1,2,3,4,5],[],?_⟩
          simp only [AH.SD,AH.SE,AOp.call?,AOp.next?,bstep,AV.cells,unAV,binAV,retQ,retV,AH.sliceElems,AH.bytesOf,AH.strOp,AH.bound,AH.missQ,AH.minmaxAV,AH.readOf,AH.effOf,simprocAttr,AH.SP,AH.PD,AV.inB,vstep,e4,hkd,kpM,soM,errA14,List.cons_append,List.nil_append]
          try simp
  · have hiz : i = Z:=by
      have:=ge_of_dec hlt
      omega
    subst hiz
    rw [Nat.sub_self,wipeD] at hy
    have ew : areaZ d i o B = layD d1 o B:=by unfold areaZ; rw [← hy,if_pos rfl]
    clear ih hi
    simp only [AH.SD,AH.SE,AOp.call?,AOp.next?,bstep,AV.cells,unAV,binAV,retQ,retV,AH.sliceElems,AH.bytesOf,AH.strOp,AH.bound,AH.missQ,AH.minmaxAV,AH.readOf,AH.effOf,simprocAttr,AH.SP,AH.PD,AV.inB,vstep,vw,shift,newOnes,rowsM,blkIn,rwB,@flat_lts,AV.lt,AV.lts,Nat.sub_self,AH.SO]
    refine loop_do [0,1,2,3,4,5] [65,64,63,1,0] [] (α:=Nat × Dk) (fun y =>B.length - y.1) (ly2 ⟨⟨d,f,t,b0,a0,R,down0⟩,i,st,b,a,down⟩ at_ B) (fun y =>y.1 ≤ B.length ∧ y.2.ok ∧ y.2.L.length = d.L.length ∧ layD y.2 (o + y.1) (B.drop y.1) = layD d1 o B) (0,d1) ⟨Nat.zero_le _,hd1,hl,rfl⟩ (by simp only [AH.SD,AH.SE,AOp.call?,AOp.next?,bstep,AV.cells,unAV,binAV,retQ,retV,AH.sliceElems,AH.bytesOf,AH.strOp,AH.bound,AH.missQ,AH.minmaxAV,AH.readOf,AH.effOf,simprocAttr,AH.SP,AH.PD,AV.inB,vstep,ly2,kpM,soM,List.cons_append,List.nil_append]) ?_
    clear hd1 hy hl
    rintro Y ⟨j,d2⟩ ⟨hj,hd2,hl,hy⟩ ih
    simp only at hj hd2 hl hy
    simp only [AH.SD,AH.SE,AOp.call?,AOp.next?,bstep,AV.cells,unAV,binAV,retQ,retV,AH.sliceElems,AH.bytesOf,AH.strOp,AH.bound,AH.missQ,AH.minmaxAV,AH.readOf,AH.effOf,simprocAttr,AH.SP,AH.PD,AV.inB,vstep,vw,shift,newOnes,rowsM,blkIn,rwB,@flat_lts,AV.lt,AV.lts,Nat.sub_self,AH.SO,ly2,kpM,soM,List.cons_append,List.nil_append]
    refine ⟨fun hlt => ?_,fun hlt => ?_⟩
    · have hjB:=lt_of_dec hlt
      have wi:=wrapS (i:=j) (by omega)
      have hjL : o + j < d2.L.length:=by omega
      have wo : IntKind.i64.wrap ((o : Int) + (j : Int)) = ((o + j : Nat) : Int):=by rw [IntKind.wrap_i64]; omega
      have hgj : (B.map strC).getD j [] = strC B[j]:=getD_enc hjB
      have hBj : B[j].size = 64:=hB _ (List.getElem_mem hjB)
      have hkd:=wrD_kinds (s:=B[j]) hjL hBj
      have hok:=wr_ok hd2 ((o + j : Nat) : Int) B[j]
      have hln:=wr_len d2 ((o + j : Nat) : Int) B[j]
      rw [List.drop_eq_getElem_cons hjB,layD] at hy
      rcases hkd with hkd | hkd
      · rw [if_pos hkd] at hy
        have done:=ih (j + 1,(wrD d2 ((o + j : Nat) : Int) B[j]).2) ⟨hjB,hok,by simp only; omega,hy⟩ (by simp only; omega)
        simp only [ly2,kpM,soM,List.cons_append,List.nil_append] at done
        iterate 3 ((try simp only [AH.SD,AH.SE,AOp.call?,AOp.next?,bstep,AV.cells,unAV,binAV,retQ,retV,AH.sliceElems,AH.bytesOf,AH.strOp,AH.bound,AH.missQ,AH.minmaxAV,AH.readOf,AH.effOf,simprocAttr,AH.SP,AH.PD,AV.inB,vstep,vw,shift,newOnes,rowsM,blkIn,rwB,@flat_lts,AV.lt,AV.lts,Nat.sub_self,AH.SO,lgR_eq,lgU_eq,Lg.eta,ne4,no4,soR_eq,soS_eq,So.eta,Bool.not_false,Bool.and_self,if_true,dkR_eq,dkB_eq,Dk.eta,ne_eq,Nat.reduceEqDiff,Nat.zero_ne_one,not_false_eq_true,hgj,strC_eq,hw,wo,writeNT_p,writeT_p,hd2,dkM,hkd,errA_nil,errA0,errA_ren,wi,List.length_map,Int.toNat_natCast]); repeat ((with_reducible refine And.intro ?_ ?_); focus (first | rfl | decide | omega | (simp only [List.length_map,List.length_set,and_true]; omega))))
        refine gc_auto [0,1,2,3,4,5] [65,64,63,1,0] [] ?_
        simp only [AH.SD,AH.SE,AOp.call?,AOp.next?,bstep,AV.cells,unAV,binAV,retQ,retV,AH.sliceElems,AH.bytesOf,AH.strOp,AH.bound,AH.missQ,AH.minmaxAV,AH.readOf,AH.effOf,simprocAttr,AH.SP,AH.PD,AV.inB,vstep]
        exact done
      · rw [hkd,if_neg (by decide)] at hy
        have e4 : areaZ d i o B = wrD d2 ((o + j : Nat) : Int) B[j]:=by rw [ew,← hy]
        iterate 3 ((try simp only [AH.SD,AH.SE,AOp.call?,AOp.next?,bstep,AV.cells,unAV,binAV,retQ,retV,AH.sliceElems,AH.bytesOf,AH.strOp,AH.bound,AH.missQ,AH.minmaxAV,AH.readOf,AH.effOf,simprocAttr,AH.SP,AH.PD,AV.inB,vstep,vw,shift,newOnes,rowsM,blkIn,rwB,@flat_lts,AV.lt,AV.lts,Nat.sub_self,AH.SO,lgR_eq,lgU_eq,Lg.eta,ne4,no4,soR_eq,soS_eq,So.eta,Bool.not_false,Bool.and_self,if_true,dkR_eq,dkB_eq,Dk.eta,ne_eq,Nat.reduceEqDiff,Nat.zero_ne_one,not_false_eq_true,hgj,strC_eq,hw,wo,writeNT_p,writeT_p,hd2,dkM,hkd,errA_nil,errA14,errA_ren,wi,List.length_map,Int.toNat_natCast]); repeat ((with_reducible refine And.intro ?_ ?_); focus (first | rfl | decide | omega | (simp only [List.length_map,List.length_set,and_true]; omega))))
        refine ⟨[0,1,2,3,4,5],[],?_⟩
        simp only [AH.SD,AH.SE,AOp.call?,AOp.next?,bstep,AV.cells,unAV,binAV,retQ,retV,AH.sliceElems,AH.bytesOf,AH.strOp,AH.bound,AH.missQ,AH.minmaxAV,AH.readOf,AH.effOf,simprocAttr,AH.SP,AH.PD,AV.inB,vstep,e4,hkd,kpM,soM,errA14,List.cons_append,List.nil_append]
        try simp
    · have hjz : j = B.length:=by
        have:=ge_of_dec hlt
        omega
      subst hjz
      rw [List.drop_eq_nil_of_le (Nat.le_refl _),layD] at hy
      have e4 : areaZ d i o B = (0,d2):=by rw [ew,← hy]
      simp only [AH.SD,AH.SE,AOp.call?,AOp.next?,bstep,AV.cells,unAV,binAV,retQ,retV,AH.sliceElems,AH.bytesOf,AH.strOp,AH.bound,AH.missQ,AH.minmaxAV,AH.readOf,AH.effOf,simprocAttr,AH.SP,AH.PD,AV.inB,vstep,vw,shift,newOnes,rowsM,blkIn,rwB,@flat_lts,AV.lt,AV.lts,Nat.sub_self,AH.SO]
      refine ⟨[0,1,2,3,4,5],[],?_⟩
      simp only [AH.SD,AH.SE,AOp.call?,AOp.next?,bstep,AV.cells,unAV,binAV,retQ,retV,AH.sliceElems,AH.bytesOf,AH.strOp,AH.bound,AH.missQ,AH.minmaxAV,AH.readOf,AH.effOf,simprocAttr,AH.SP,AH.PD,AV.inB,vstep,e4,kpM,soM,errA0,List.cons_append,List.nil_append]
      try simp
end Go.Proofs.YthapdikdeoeplaaGreatDoor.Z7
end
section
set_option linter.unusedVariables false
set_option linter.unnecessarySimpa false
open Go AH
set_option linter.unusedSimpArgs false
set_option maxRecDepth 100000
namespace Go.Proofs.YthapdikdeoeplaaGreatDoor.Z7
def keepY (x : So) (s : ByteArray) : Nat × Dk:=areaZ x.g.d x.z.toNat (if x.a = 0 then x.z.toNat else 0) (blkL (x.seq + 1) s (sizeN s.size))
def keepR (x : So) (s : ByteArray) : Nat × Lg:=rstL { x.g with d:=(keepY x s).2 } (x.seq + 1)
def keepZ (x : So) (s : ByteArray) : Nat × So :=
  if (sizeN s.size : Int) > x.z ∨ x.seq ≥ 1073741824 then (1,x) else
  if x.down = true then (14,x) else
  if (keepY x s).1 ≠ 0 then ((keepY x s).1,{ x with g:={ x.g with d:=(keepY x s).2 },down:=true }) else
  if (keepR x s).1 ≠ 0 then ((keepR x s).1,{ x with g:=(keepR x s).2,down:=true }) else
  (0,{ x with g:=(keepR x s).2,s:=s,b:=x.seq + 1,a:=if x.a = 0 then 1 else 0 })
def keepM (x : So) (s : ByteArray) : Mem:=if (keepZ x s).1 = 0 then soM2 (some (.row false 1 (x.g.R.map strC))) (keepZ x s).2 else soM (keepZ x s).2
theorem area_kind {d : Dk} {Z o : Nat} {B : List ByteArray} (h : o + Z ≤ d.L.length) (hd : d.ok) (hB : ∀ s ∈ B,s.size = 64) (hBl : B.length ≤ Z) : ((areaZ d Z o B).1 = 0 ∨ (areaZ d Z o B).1 = 14) ∧ (areaZ d Z o B).2.ok ∧ (areaZ d Z o B).2.L.length = d.L.length:=by
  obtain ⟨w1,w2⟩:=wipe_ok Z o hd
  unfold areaZ
  split
  · obtain ⟨l1,l2⟩:=lay_ok B o w1
    exact ⟨lay_kind B o (by omega) hB,l1,l2.trans w2⟩
  · exact ⟨wipe_kind Z o h,w1,w2⟩
theorem rst_kind {l : Lg} (h : l.ok) {b : Int} (hb : isBase b) : (rstL l b).1 = 0 ∨ (rstL l b).1 = 14:=by
  unfold rstL
  rw [if_neg (by simpa using hb)]
  split
  · exact .inr rfl
  · split
    · exact .inl rfl
    · exact wipe_kind (l.t - l.f).toNat l.f.toNat (by have:=h.2.2.2.2.2.1; have:=h.2.2.1; have:=h.2.2.2.1; have:=h.2.2.2.2.1; omega)
noncomputable abbrev tKp : List (FuncId × RT):=[(50,sizeT),(38,seqT),(19,rsN)]
noncomputable abbrev eKp : List (FuncId × ET):=[(51,bksT),(19,rsT),(58,slostT)]
theorem okKp : CtxOK S0 (ctxE S0 tKp [] eKp):=ctxE_ok ⟨sizeT_ok,seqT_ok,rsN_ok,trivial⟩ trivial ⟨bksT_ok,rsT_ok,slostT_ok,trivial⟩ mixed
set_option maxHeartbeats 16000000 in
theorem keep_ok (x : So) (hx : x.ok) (s : ByteArray) (hs : okSz s) : CallA1 S0 27 [.ptr 0 0 0,.str s] (soM x) fun r m =>r = errA (keepZ x s).1 ∧ m = keepM x s:=by
  obtain ⟨hg,z1,z2,hf,ht⟩:=hx
  have hd:=hg.1
  have hL:=hd.2.2.2
  obtain ⟨hb1,hb2⟩:=hg.2.1
  have hR:=hg.2.2.2.2.2.2
  have hat:=hg.2.2.2.2.1
  have hfa:=hg.2.2.2.1
  refine CallA1.fin ?_
  refine fun_sound okKp Tryz.func27 c27 ?_
  unfold wpF F27
  cases c1 : decide ((sizeN s.size : Int) > x.z)
  rotate_left
  · have e : keepZ x s = (1,x):=by unfold keepZ; rw [if_pos (.inl (by simpa using c1))]
    iterate 2 ((try simp only [AH.SD,AH.SE,AOp.call?,AOp.next?,bstep,AV.cells,unAV,binAV,retQ,retV,AH.sliceElems,AH.bytesOf,AH.strOp,AH.bound,AH.missQ,AH.minmaxAV,AH.readOf,AH.effOf,simprocAttr,AH.SP,AH.PD,AV.inB,vstep,vw,shift,newOnes,rowsM,blkIn,rwB,@flat_lts,AV.lt,AV.lts,Nat.sub_self,AH.SO,soM,sizeT_q hs,c1,lgR_eq,lgU_eq,Lg.eta,ne4,no4,soR_eq,soS_eq,So.eta,Bool.not_false,Bool.and_self,if_true,dkR_eq,dkB_eq,Dk.eta,ne_eq,Nat.reduceEqDiff,Nat.zero_ne_one,not_false_eq_true,seqT_p,hg]); repeat ((with_reducible refine And.intro ?_ ?_); focus (first | rfl | decide | omega | (simp only [List.length_map,List.length_set,and_true]; omega))))
    refine ⟨[0,1,2,3,4],[],?_⟩
    simp only [AH.SD,AH.SE,AOp.call?,AOp.next?,bstep,AV.cells,unAV,binAV,retQ,retV,AH.sliceElems,AH.bytesOf,AH.strOp,AH.bound,AH.missQ,AH.minmaxAV,AH.readOf,AH.effOf,simprocAttr,AH.SP,AH.PD,AV.inB,vstep,e,keepM,soM,errA1,show ¬ ((1 : Nat) = 0) by decide,if_false]
    try simp
  cases c2 : decide (x.seq ≥ 1073741824)
  rotate_left
  · have e : keepZ x s = (1,x):=by unfold keepZ; rw [if_pos (.inr (by simpa using c2))]
    iterate 2 ((try simp only [AH.SD,AH.SE,AOp.call?,AOp.next?,bstep,AV.cells,unAV,binAV,retQ,retV,AH.sliceElems,AH.bytesOf,AH.strOp,AH.bound,AH.missQ,AH.minmaxAV,AH.readOf,AH.effOf,simprocAttr,AH.SP,AH.PD,AV.inB,vstep,vw,shift,newOnes,rowsM,blkIn,rwB,@flat_lts,AV.lt,AV.lts,Nat.sub_self,AH.SO,soM,sizeT_q hs,c1,c2,lgR_eq,lgU_eq,Lg.eta,ne4,no4,soR_eq,soS_eq,So.eta,Bool.not_false,Bool.and_self,if_true,dkR_eq,dkB_eq,Dk.eta,ne_eq,Nat.reduceEqDiff,Nat.zero_ne_one,not_false_eq_true,seqT_p,hg]); repeat ((with_reducible refine And.intro ?_ ?_); focus (first | rfl | decide | omega | (simp only [List.length_map,List.length_set,and_true]; omega))))
    refine ⟨[0,1,2,3,4],[],?_⟩
    simp only [AH.SD,AH.SE,AOp.call?,AOp.next?,bstep,AV.cells,unAV,binAV,retQ,retV,AH.sliceElems,AH.bytesOf,AH.strOp,AH.bound,AH.missQ,AH.minmaxAV,AH.readOf,AH.effOf,simprocAttr,AH.SP,AH.PD,AV.inB,vstep,e,keepM,soM,errA1,show ¬ ((1 : Nat) = 0) by decide,if_false]
    try simp
  have h12 : ¬ ((sizeN s.size : Int) > x.z ∨ x.seq ≥ 1073741824):=by
    simp only [decide_eq_false_iff_not] at c1 c2
    exact fun q =>q.elim c1 c2
  have hn : (sizeN s.size : Int) ≤ x.z:=by simp only [decide_eq_false_iff_not] at c1; omega
  have hq : x.seq < 1073741824:=by simp only [decide_eq_false_iff_not] at c2; omega
  have hq0 : 0 ≤ x.seq:=by unfold So.seq; omega
  have hs6 : s.size ≤ 6000:=by unfold sizeN at hn; omega
  have hbl : okBl (x.seq + 1,s,()):=⟨by show 1 ≤ x.seq + 1; omega,by show x.seq + 1 ≤ 2147483647; omega,hs6⟩
  have hib : isBase (x.seq + 1):=⟨by omega,by omega⟩
  have wq : IntKind.i64.wrap (x.seq + 1) = x.seq + 1:=by rw [IntKind.wrap_i64]; omega
  obtain ⟨Z,hZ⟩:=Int.eq_ofNat_of_zero_le (show 0 ≤ x.z by omega)
  have hBl:=blkL_len (x.seq + 1) s (sizeN s.size)
  have hBz:=blkL_sz (q:=x.seq + 1) (s:=s) (n:=sizeN s.size) (Nat.le_refl _)
  obtain ⟨g,z,st,b,a,down⟩:=x
  simp only at hd hL hb1 hb2 hR hat hfa hf ht z1 z2 hn hZ hg
  subst hZ
  cases down
  rotate_left
  · have e : keepZ ⟨g,Z,st,b,a,true⟩ s = (14,⟨g,Z,st,b,a,true⟩):=by unfold keepZ; rw [if_neg h12,if_pos rfl]
    iterate 2 ((try simp only [AH.SD,AH.SE,AOp.call?,AOp.next?,bstep,AV.cells,unAV,binAV,retQ,retV,AH.sliceElems,AH.bytesOf,AH.strOp,AH.bound,AH.missQ,AH.minmaxAV,AH.readOf,AH.effOf,simprocAttr,AH.SP,AH.PD,AV.inB,vstep,vw,shift,newOnes,rowsM,blkIn,rwB,@flat_lts,AV.lt,AV.lts,Nat.sub_self,AH.SO,soM,sizeT_q hs,c1,c2,lgR_eq,lgU_eq,Lg.eta,ne4,no4,soR_eq,soS_eq,So.eta,Bool.not_false,Bool.and_self,if_true,dkR_eq,dkB_eq,Dk.eta,ne_eq,Nat.reduceEqDiff,Nat.zero_ne_one,not_false_eq_true,seqT_p,hg]); repeat ((with_reducible refine And.intro ?_ ?_); focus (first | rfl | decide | omega | (simp only [List.length_map,List.length_set,and_true]; omega))))
    refine ⟨[0,1,2,3,4],[],?_⟩
    simp only [AH.SD,AH.SE,AOp.call?,AOp.next?,bstep,AV.cells,unAV,binAV,retQ,retV,AH.sliceElems,AH.bytesOf,AH.strOp,AH.bound,AH.missQ,AH.minmaxAV,AH.readOf,AH.effOf,simprocAttr,AH.SP,AH.PD,AV.inB,vstep,e,keepM,soM,errA14,show ¬ ((14 : Nat) = 0) by decide,if_false]
    try simp
  have e0 : keepZ ⟨g,Z,st,b,a,false⟩ s = if (keepY ⟨g,Z,st,b,a,false⟩ s).1 ≠ 0 then ((keepY ⟨g,Z,st,b,a,false⟩ s).1,⟨{ g with d:=(keepY ⟨g,Z,st,b,a,false⟩ s).2 },Z,st,b,a,true⟩) else
      if (keepR ⟨g,Z,st,b,a,false⟩ s).1 ≠ 0 then ((keepR ⟨g,Z,st,b,a,false⟩ s).1,⟨(keepR ⟨g,Z,st,b,a,false⟩ s).2,Z,st,b,a,true⟩) else
      (0,⟨(keepR ⟨g,Z,st,b,a,false⟩ s).2,Z,s,So.seq ⟨g,Z,st,b,a,false⟩ + 1,if a = 0 then 1 else 0,false⟩):=by
    unfold keepZ; rw [if_neg h12,if_neg (by simp)]
  have eY : keepY ⟨g,Z,st,b,a,false⟩ s = areaZ g.d Z (if a = 0 then Z else 0) (blkL (So.seq ⟨g,Z,st,b,a,false⟩ + 1) s (sizeN s.size)):=by unfold keepY; simp only [Int.toNat_natCast]
  have eR : keepR ⟨g,Z,st,b,a,false⟩ s = rstL { g with d:=(keepY ⟨g,Z,st,b,a,false⟩ s).2 } (So.seq ⟨g,Z,st,b,a,false⟩ + 1):=rfl
  have hsz:=fun M =>sizeT_q (M:=M) hs
  have hbk : ∀ (M : Nat → Option Blk) (n : Nat),bksT [.int .i64 (So.seq ⟨g,Z,st,b,a,false⟩ + 1),.str s] M n = useO [] n (some (.tup [.slc 0 0 (sizeN s.size) none,.nili],[some (.row false 1 ((blkL (So.seq ⟨g,Z,st,b,a,false⟩ + 1) s (sizeN s.size)).map strC))])):=fun M n =>by rw [bksT_p,if_pos hbl]
  have hsq : ∀ (M : Nat → Option Blk),(if g.ok then some (AV.int .i64 (So.seq ⟨g,Z,st,b,a,false⟩)) else none) = some (AV.int .i64 (So.seq ⟨g,Z,st,b,a,false⟩)):=fun M =>if_pos hg
  generalize hqq : So.seq ⟨g,Z,st,b,a,false⟩ = q at *
  generalize hBB : blkL (q + 1) s (sizeN s.size) = B at *
  generalize sizeN s.size = N at *
  subst hBl
  clear h12 hBB hbl hsq
  obtain ⟨o,tw,h0w,htw,hoZ,hae⟩ : ∃ (o : Nat) (tw : Int),IntKind.i64.wrap (tw * (Z : Int)) = (o : Int) ∧ (if a = 0 then (1 : Int) else 0) = tw ∧ (if a = 0 then Z else 0) = o ∧ o + Z ≤ g.d.L.length:=by
    by_cases ha : a = 0
    · exact ⟨Z,1,by rw [IntKind.wrap_i64]; omega,by rw [if_pos ha],by rw [if_pos ha],by omega⟩
    · exact ⟨0,0,by rw [IntKind.wrap_i64]; omega,by rw [if_neg ha],by rw [if_neg ha],by omega⟩
  rw [hoZ] at eY
  rw [htw] at e0
  obtain ⟨ky,yok,yl⟩:=area_kind (d:=g.d) (Z:=Z) (o:=o) (B:=B) hae hd hBz (by omega)
  have step : ∀ (K : AV → Mem → Prop),K (errA (areaZ g.d Z o B).1) (kpM ⟨g,Z,st,b,a,false⟩ (areaZ g.d Z o B).2 B) → CallA1 S0 57 [.ptr 0 0 0,.int .i64 tw,.slc 5 0 B.length none] (soM ⟨g,Z,st,b,a,false⟩ ++ [some (.row false 1 (B.map strC))]) K:=fun K hK =>
    (lay_walk ⟨g,Z,st,b,a,false⟩ hd tw Z o B rfl h0w hBz (by omega) hae).mono fun r m ⟨h1,h2⟩ =>by rw [h1,h2]; exact hK
  cases ha : (a == 0)
  all_goals
    have htw' : tw = (bif a == 0 then 1 else 0):=by
      rw [← htw,ha]
      first
        | (have : a = 0:=by simpa using ha
           rw [if_pos this]; rfl)
        | (have : a ≠ 0:=by simpa using ha
           rw [if_neg this]; rfl)
    rw [ha] at htw'
    simp only [cond_true,cond_false] at htw'
    rw [htw'] at step
    iterate 2 ((try simp only [AH.SD,AH.SE,AOp.call?,AOp.next?,bstep,AV.cells,unAV,binAV,retQ,retV,AH.sliceElems,AH.bytesOf,AH.strOp,AH.bound,AH.missQ,AH.minmaxAV,AH.readOf,AH.effOf,simprocAttr,AH.SP,AH.PD,AV.inB,vstep,vw,shift,newOnes,rowsM,blkIn,rwB,@flat_lts,AV.lt,AV.lts,Nat.sub_self,AH.SO,soM,hsz,c1,c2,lgR_eq,lgU_eq,Lg.eta,ne4,no4,soR_eq,soS_eq,So.eta,Bool.not_false,Bool.and_self,if_true,dkR_eq,dkB_eq,Dk.eta,ne_eq,Nat.reduceEqDiff,Nat.zero_ne_one,not_false_eq_true,seqT_p,hg,hqq,wq,hbk,errA_nil,ha,List.cons_append,List.nil_append]); repeat ((with_reducible refine And.intro ?_ ?_); focus (first | rfl | decide | omega | (simp only [List.length_map,List.length_set,and_true]; omega))))
    refine step _ ?_
    clear step
    rcases ky with ky | ky
    rotate_left
    · have e : keepZ ⟨g,Z,st,b,a,false⟩ s = (14,⟨⟨(areaZ g.d Z o B).2,g.f,g.t,g.b,g.a,g.R,g.down⟩,Z,st,b,a,true⟩):=by
        rw [e0,eY,if_pos (by rw [ky]; decide),ky]
      generalize areaZ g.d Z o B = Y at *
      iterate 2 ((try simp only [AH.SD,AH.SE,AOp.call?,AOp.next?,bstep,AV.cells,unAV,binAV,retQ,retV,AH.sliceElems,AH.bytesOf,AH.strOp,AH.bound,AH.missQ,AH.minmaxAV,AH.readOf,AH.effOf,simprocAttr,AH.SP,AH.PD,AV.inB,vstep,vw,shift,newOnes,rowsM,blkIn,rwB,@flat_lts,AV.lt,AV.lts,Nat.sub_self,AH.SO,kpM,soM,lgR_eq,lgU_eq,Lg.eta,ne4,no4,soR_eq,soS_eq,So.eta,Bool.not_false,Bool.and_self,if_true,dkR_eq,dkB_eq,Dk.eta,ne_eq,Nat.reduceEqDiff,Nat.zero_ne_one,not_false_eq_true,ky,errA14,errA_nil,slostT_d,lostZ,Bool.false_or,List.cons_append,List.nil_append]); repeat ((with_reducible refine And.intro ?_ ?_); focus (first | rfl | decide | omega | (simp only [List.length_map,List.length_set,and_true]; omega))))
      refine ⟨[0,1,2,3,4],[],?_⟩
      simp only [AH.SD,AH.SE,AOp.call?,AOp.next?,bstep,AV.cells,unAV,binAV,retQ,retV,AH.sliceElems,AH.bytesOf,AH.strOp,AH.bound,AH.missQ,AH.minmaxAV,AH.readOf,AH.effOf,simprocAttr,AH.SP,AH.PD,AV.inB,vstep,e,keepM,soM,errA14,show ¬ ((14 : Nat) = 0) by decide,if_false,beq_self_eq_true,List.cons_append,List.nil_append]
      try simp
    · have hok2 : (⟨(areaZ g.d Z o B).2,g.f,g.t,g.b,g.a,g.R,g.down⟩ : Lg).ok:=⟨yok,hg.2.1,hg.2.2.1,hg.2.2.2.1,hg.2.2.2.2.1,by simp only [yl]; exact hg.2.2.2.2.2.1,hg.2.2.2.2.2.2⟩
      have hrk:=rst_kind hok2 hib
      have eR' : keepR ⟨g,Z,st,b,a,false⟩ s = rstL ⟨(areaZ g.d Z o B).2,g.f,g.t,g.b,g.a,g.R,g.down⟩ (q + 1):=by rw [eR,eY]
      have e1 : keepZ ⟨g,Z,st,b,a,false⟩ s = if (rstL ⟨(areaZ g.d Z o B).2,g.f,g.t,g.b,g.a,g.R,g.down⟩ (q + 1)).1 ≠ 0 then ((rstL ⟨(areaZ g.d Z o B).2,g.f,g.t,g.b,g.a,g.R,g.down⟩ (q + 1)).1,⟨(rstL ⟨(areaZ g.d Z o B).2,g.f,g.t,g.b,g.a,g.R,g.down⟩ (q + 1)).2,Z,st,b,a,true⟩) else
          (0,⟨(rstL ⟨(areaZ g.d Z o B).2,g.f,g.t,g.b,g.a,g.R,g.down⟩ (q + 1)).2,Z,s,q + 1,tw,false⟩):=by
        rw [e0,if_neg (by rw [eY,ky]; simp),eR']
      clear e0 eR eR' eY
      generalize areaZ g.d Z o B = Y at *
      generalize hRR : rstL ⟨Y.2,g.f,g.t,g.b,g.a,g.R,g.down⟩ (q + 1) = RR at *
      rcases hrk with hrk | hrk
      · rw [if_neg (by rw [hrk]; simp)] at e1
        iterate 2 ((try simp only [AH.SD,AH.SE,AOp.call?,AOp.next?,bstep,AV.cells,unAV,binAV,retQ,retV,AH.sliceElems,AH.bytesOf,AH.strOp,AH.bound,AH.missQ,AH.minmaxAV,AH.readOf,AH.effOf,simprocAttr,AH.SP,AH.PD,AV.inB,vstep,vw,shift,newOnes,rowsM,blkIn,rwB,@flat_lts,AV.lt,AV.lts,Nat.sub_self,AH.SO,kpM,soM,lgR_eq,lgU_eq,Lg.eta,ne4,no4,soR_eq,soS_eq,So.eta,Bool.not_false,Bool.and_self,if_true,dkR_eq,dkB_eq,Dk.eta,ne_eq,Nat.reduceEqDiff,Nat.zero_ne_one,not_false_eq_true,ky,errA0,errA_nil,rsN_p,rsT_p,hok2,hRR,rsM,hrk,lgM2,errA_ren,List.cons_append,List.nil_append]); repeat ((with_reducible refine And.intro ?_ ?_); focus (first | rfl | decide | omega | (simp only [List.length_map,List.length_set,and_true]; omega))))
        refine ⟨[0,1,2,3,4,6],[],?_⟩
        simp only [AH.SD,AH.SE,AOp.call?,AOp.next?,bstep,AV.cells,unAV,binAV,retQ,retV,AH.sliceElems,AH.bytesOf,AH.strOp,AH.bound,AH.missQ,AH.minmaxAV,AH.readOf,AH.effOf,simprocAttr,AH.SP,AH.PD,AV.inB,vstep,e1,htw',keepM,soM2,errA0,List.cons_append,List.nil_append]
        try simp
      · rw [if_pos (by rw [hrk]; simp)] at e1
        iterate 2 ((try simp only [AH.SD,AH.SE,AOp.call?,AOp.next?,bstep,AV.cells,unAV,binAV,retQ,retV,AH.sliceElems,AH.bytesOf,AH.strOp,AH.bound,AH.missQ,AH.minmaxAV,AH.readOf,AH.effOf,simprocAttr,AH.SP,AH.PD,AV.inB,vstep,vw,shift,newOnes,rowsM,blkIn,rwB,@flat_lts,AV.lt,AV.lts,Nat.sub_self,AH.SO,kpM,soM,lgR_eq,lgU_eq,Lg.eta,ne4,no4,soR_eq,soS_eq,So.eta,Bool.not_false,Bool.and_self,if_true,dkR_eq,dkB_eq,Dk.eta,ne_eq,Nat.reduceEqDiff,Nat.zero_ne_one,not_false_eq_true,ky,errA0,errA_nil,rsN_p,rsT_p,hok2,hRR,rsM,hrk,show ¬ ((14 : Nat) = 0) by decide,if_false,lgM,errA_ren,errA14,slostT_d,lostZ,Bool.false_or,List.cons_append,List.nil_append]); repeat ((with_reducible refine And.intro ?_ ?_); focus (first | rfl | decide | omega | (simp only [List.length_map,List.length_set,and_true]; omega))))
        refine ⟨[0,1,2,3,4],[],?_⟩
        simp only [AH.SD,AH.SE,AOp.call?,AOp.next?,bstep,AV.cells,unAV,binAV,retQ,retV,AH.sliceElems,AH.bytesOf,AH.strOp,AH.bound,AH.missQ,AH.minmaxAV,AH.readOf,AH.effOf,simprocAttr,AH.SP,AH.PD,AV.inB,vstep,e1,hrk,keepM,soM,errA14,show ¬ ((14 : Nat) = 0) by decide,if_false,beq_self_eq_true,List.cons_append,List.nil_append]
        try simp
theorem keepM_len (x : So) (s : ByteArray) : 5 ≤ (keepM x s).length ∧ ((keepM x s).drop 5).all rwB = true:=by
  unfold keepM
  split
  · exact ⟨by simp [soM2],rfl⟩
  · exact ⟨by simp [soM],rfl⟩
def keepT : ET:=etO soO (cC aS c0) fun x y =>if x.ok ∧ okSz y.1 then some (errA (keepZ x y.1).1,keepM x y.1) else none
theorem keepT_ok : EffF S0 27 keepT:=etO_ok fun x y v m' h =>by
  split at h
  · rename_i hl
    simp only [Option.some.injEq,Prod.mk.injEq] at h
    obtain ⟨rfl,rfl⟩:=h
    exact ⟨keepM_len x y.1,keep_ok x hl.1 y.1 hl.2⟩
  · cases h
theorem keepT_p {p n : Nat} {s : ByteArray} {M : Nat → Option Blk} : keepT [.ptr p 0 0,.str s] M n = etO2 n (fun (x : So) (y : ByteArray × Unit) =>if x.ok ∧ okSz y.1 then some (errA (keepZ x y.1).1,keepM x y.1) else none) (soR M p (M p)) (some (s,())):=by
  simp only [keepT,etO_eq,cC_dec,aS_dec,c0_dec,pairO_some,soO_dec]
end Go.Proofs.YthapdikdeoeplaaGreatDoor.Z7
end
section
set_option linter.unusedVariables false
set_option linter.unnecessarySimpa false
open Go AH
set_option linter.unusedSimpArgs false
set_option maxRecDepth 100000
namespace Go.Proofs.YthapdikdeoeplaaGreatDoor.Z7
def dOn (L : List ByteArray) (w : Int) : Dk:=⟨L,false,-1,0,w⟩
theorem dOn_ok {L : List ByteArray} {w : Int} (h : ∀ s ∈ L,s.size = 64) (hl : L.length ≤ 4096) : (dOn L w).ok:=⟨h,Int.le_refl 0,by show (0 : Int) ≤ 64; decide,hl⟩
theorem set_mid {α : Type} (P S : List α) (o s : α) : (P ++ o :: S).set P.length s = P ++ s :: S:=by
  rw [List.set_append_right _ _ (Nat.le_refl _),Nat.sub_self,List.set_cons_zero]
theorem wr_on {P S : List ByteArray} {o s : ByteArray} {w : Int} (hs : s.size = 64) : ∃ w',wrD (dOn (P ++ o :: S) w) ((P.length : Nat) : Int) s = (0,dOn (P ++ s :: S) w'):=by
  have hi : P.length < (dOn (P ++ o :: S) w).L.length:=by show P.length < (P ++ o :: S).length; simp
  rw [wrD_at hi hs]
  refine ⟨IntKind.i64.wrap (w + 1),?_⟩
  rw [if_neg (by simp [dOn]),if_neg (by simp [dOn])]
  simp only [dOn,set_mid,maxI,show IntKind.i64.wrap ((-1 : Int) - 1) = -2 by decide,show ((-1 : Int) > -2) = True by simp,if_true]
theorem lay_on : ∀ (B : List ByteArray) (P O S : List ByteArray) (w : Int),O.length = B.length → (∀ s ∈ B,s.size = 64) → ∃ w',layD (dOn (P ++ (O ++ S)) w) P.length B = (0,dOn (P ++ (B ++ S)) w')
  | [],P,O,S,w,h,_ =>by
    have : O = []:=List.eq_nil_of_length_eq_zero h
    subst this
    exact ⟨w,rfl⟩
  | s :: r,P,O,S,w,h,hs =>by
    cases O with
    | nil =>simp at h
    | cons o O =>
      obtain ⟨w1,h1⟩:=wr_on (P:=P) (S:=O ++ S) (o:=o) (s:=s) (w:=w) (hs s (List.mem_cons_self ..))
      obtain ⟨w2,h2⟩:=lay_on r (P ++ [s]) O S w1 (by simpa using h) fun x hx =>hs x (List.mem_cons_of_mem _ hx)
      refine ⟨w2,?_⟩
      rw [List.cons_append,layD,h1,if_pos rfl]
      simp only [List.append_assoc,List.singleton_append,List.length_append,List.length_cons,List.length_nil,Nat.zero_add] at h2
      exact h2
theorem getD_mid {α : Type} (P S : List α) (o d : α) : (P ++ o :: S).getD P.length d = o:=by
  rw [List.getD_eq_getElem?_getD,List.getElem?_append_right (Nat.le_refl _),Nat.sub_self]; rfl
theorem wipe_on : ∀ (k : Nat) (P O S : List ByteArray) (w : Int),O.length = k → ∃ w',wipeD (dOn (P ++ (O ++ S)) w) k P.length = (0,dOn (P ++ (List.replicate k zeB ++ S)) w')
  | 0,P,O,S,w,h =>by
    have : O = []:=List.eq_nil_of_length_eq_zero h
    subst this
    exact ⟨w,rfl⟩
  | k + 1,P,O,S,w,h =>by
    cases O with
    | nil =>simp at h
    | cons o O =>
      have hO : O.length = k:=by simpa using h
      rw [wipeD,if_neg (by simp [dOn])]
      have e : (dOn (P ++ (o :: O ++ S)) w).L.getD P.length ⟨#[]⟩ = o:=getD_mid P (O ++ S) o _
      rw [e]
      by_cases hz : o = zeB
      · obtain ⟨w2,h2⟩:=wipe_on k (P ++ [zeB]) O S w hO
        refine ⟨w2,?_⟩
        rw [if_pos hz,hz,List.replicate_succ]
        simp only [List.append_assoc,List.singleton_append,List.length_append,List.length_cons,List.length_nil,Nat.zero_add,List.cons_append] at h2 ⊢
        exact h2
      · obtain ⟨w1,h1⟩:=wr_on (P:=P) (S:=O ++ S) (o:=o) (s:=zeB) (w:=w) zeB_sz
        obtain ⟨w2,h2⟩:=wipe_on k (P ++ [zeB]) O S w1 hO
        refine ⟨w2,?_⟩
        have h1' : wrD (dOn (P ++ (o :: O ++ S)) w) ((P.length : Nat) : Int) zeB = (0,dOn (P ++ zeB :: (O ++ S)) w1):=h1
        rw [if_neg hz,h1',if_pos rfl,List.replicate_succ]
        simp only [List.append_assoc,List.singleton_append,List.length_append,List.length_cons,List.length_nil,Nat.zero_add,List.cons_append] at h2 ⊢
        exact h2
def lgL (A B C : List ByteArray) (n : Nat) : List ByteArray:=A ++ (B ++ (List.replicate (n - B.length) zeB ++ C))
theorem lgL_len {A B C : List ByteArray} {n : Nat} (h : B.length ≤ n) : (lgL A B C n).length = A.length + n + C.length:=by
  simp [lgL]; omega
theorem lgL_sz {A B C : List ByteArray} {n : Nat} (hA : ∀ s ∈ A,s.size = 64) (hB : ∀ s ∈ B,s.size = 64) (hC : ∀ s ∈ C,s.size = 64) : ∀ s ∈ lgL A B C n,s.size = 64:=by
  intro s hs
  simp only [lgL,List.mem_append,List.mem_replicate] at hs
  rcases hs with h | h | ⟨_,rfl⟩ | h
  · exact hA s h
  · exact hB s h
  · exact zeB_sz
  · exact hC s h
theorem add_on {A B C : List ByteArray} {n : Nat} {w b : Int} {W : List ByteArray} {s : ByteArray} (hs : s.size ≤ 6000) (hr : B.length + sizeN s.size ≤ n) (hn : b + (W.length : Int) + 1 < 1073741824) :
    ∃ w',addL ⟨dOn (lgL A B C n) w,A.length,((A.length + n : Nat) : Int),b,((A.length + B.length : Nat) : Int),W,false⟩ s =
      (0,⟨dOn (lgL A (B ++ blkL (b + (W.length : Int) + 1) s (sizeN s.size)) C n) w',A.length,((A.length + n : Nat) : Int),b,((A.length + (B.length + sizeN s.size) : Nat) : Int),W ++ [s],false⟩):=by
  have hbl:=blkL_len (b + (W.length : Int) + 1) s (sizeN s.size)
  obtain ⟨w',h⟩:=lay_on (blkL (b + (W.length : Int) + 1) s (sizeN s.size)) (A ++ B) (List.replicate (sizeN s.size) zeB) (List.replicate (n - B.length - sizeN s.size) zeB ++ C) w (by rw [List.length_replicate,hbl]) (blkL_sz (Nat.le_refl _))
  have e1 : lgL A B C n = (A ++ B) ++ (List.replicate (sizeN s.size) zeB ++ (List.replicate (n - B.length - sizeN s.size) zeB ++ C)):=by
    rw [lgL,← List.append_assoc (List.replicate _ _) (List.replicate _ _) C,List.replicate_append_replicate,List.append_assoc]
    congr 4; omega
  have e2 : lgL A (B ++ blkL (b + (W.length : Int) + 1) s (sizeN s.size)) C n = (A ++ B) ++ (blkL (b + (W.length : Int) + 1) s (sizeN s.size) ++ (List.replicate (n - B.length - sizeN s.size) zeB ++ C)):=by
    rw [lgL,List.length_append,hbl,Nat.sub_sub]
    simp only [List.append_assoc]
  refine ⟨w',?_⟩
  unfold addL
  rw [if_neg (by omega),if_neg (by
    rintro (q | q)
    · have : (Lg.room ⟨dOn (lgL A B C n) w,A.length,((A.length + n : Nat) : Int),b,((A.length + B.length : Nat) : Int),W,false⟩) = ((A.length + n : Nat) : Int) - ((A.length + B.length : Nat) : Int):=rfl
      omega
    · have : (Lg.next ⟨dOn (lgL A B C n) w,A.length,((A.length + n : Nat) : Int),b,((A.length + B.length : Nat) : Int),W,false⟩) = b + (W.length : Int) + 1:=rfl
      omega),if_neg (by simp)]
  have hnx : (Lg.next ⟨dOn (lgL A B C n) w,A.length,((A.length + n : Nat) : Int),b,((A.length + B.length : Nat) : Int),W,false⟩) = b + (W.length : Int) + 1:=rfl
  rw [List.length_append] at h
  simp only [hnx,Int.toNat_natCast]
  rw [e1,h,if_pos rfl,e2]
  simp only [Prod.mk.injEq,true_and]
  congr 1
  omega
theorem rst_on {A B C : List ByteArray} {n : Nat} {w b b' : Int} {W : List ByteArray} (hb : isBase b') (hB : B.length ≤ n) :
    ∃ w',rstL ⟨dOn (lgL A B C n) w,A.length,((A.length + n : Nat) : Int),b,((A.length + B.length : Nat) : Int),W,false⟩ b' =
      (0,⟨dOn (lgL A [] C n) w',A.length,((A.length + n : Nat) : Int),b',A.length,[],false⟩):=by
  obtain ⟨w',h⟩:=wipe_on n A (B ++ List.replicate (n - B.length) zeB) C w (by simp; omega)
  have e1 : lgL A B C n = A ++ (B ++ List.replicate (n - B.length) zeB ++ C):=by rw [lgL,List.append_assoc]
  have e2 : lgL A [] C n = A ++ (List.replicate n zeB ++ C):=by simp [lgL]
  refine ⟨w',?_⟩
  unfold rstL
  rw [if_neg (by simpa using hb),if_neg (by simp)]
  simp only [Int.toNat_natCast,show (((A.length + n : Nat) : Int) - (A.length : Int)).toNat = n by omega]
  rw [e1,h,if_pos rfl,e2]
end Go.Proofs.YthapdikdeoeplaaGreatDoor.Z7
end
section
set_option linter.unusedVariables false
set_option linter.unnecessarySimpa false
open Go AH
set_option linter.unusedSimpArgs false
set_option maxRecDepth 100000
namespace Go.Proofs.YthapdikdeoeplaaGreatDoor.Z7
def frs (q : Int) : List ByteArray → List ByteArray
  | [] => []
  | s :: r =>blkL q s (sizeN s.size) ++ frs (q + 1) r
theorem frs_snoc : ∀ (W : List ByteArray) (q : Int) (s : ByteArray),frs q (W ++ [s]) = frs q W ++ blkL (q + (W.length : Int)) s (sizeN s.size)
  | [],q,s =>by simp [frs]
  | a :: r,q,s =>by
    rw [List.cons_append,frs,frs,frs_snoc r (q + 1) s,List.append_assoc]
    rw [show q + 1 + (r.length : Int) = q + ((a :: r).length : Int) by rw [List.length_cons]; omega]
theorem frs_sz : ∀ (W : List ByteArray) (q : Int),∀ x ∈ frs q W,x.size = 64
  | [],_,_,h =>by cases h
  | a :: r,q,x,h =>by
    rcases List.mem_append.1 h with h | h
    · exact blkL_sz (Nat.le_refl _) x h
    · exact frs_sz r (q + 1) x h
theorem frs_le : ∀ (W : List ByteArray) (q : Int),W.length ≤ (frs q W).length
  | [],_ =>Nat.le_refl _
  | a :: r,q =>by
    have:=frs_le r (q + 1)
    have h1:=sizeN_pos a.size
    rw [frs,List.length_append,blkL_len,List.length_cons]; omega
theorem firS_ze : (firS zeB).2.2 = false:=by decide +kernel
theorem rdZ_no' {l : List ByteArray} (h : (firZ l).2.2 = false) : rdZ l = ⟨⟨#[]⟩,0,0,0⟩:=by rw [rdZ,h]; rfl
theorem rdZ_ze (r : List ByteArray) : (rdZ (zeB :: r)).bad ≠ -1:=by
  have h : (firZ (zeB :: r)).2.2 = false:=firS_ze
  rw [rdZ_no' h]; decide
theorem rdZ_zes (n : Nat) : (rdZ (List.replicate n zeB)).bad ≠ -1:=by
  cases n with
  | zero =>exact rdZ_nil
  | succ n =>rw [List.replicate_succ]; exact rdZ_ze _
theorem logR_stop {k : Nat} {Z : List ByteArray} {q : Int} (h : (rdZ Z).bad ≠ -1) : logR k Z q = ([],0):=by
  cases k with
  | zero =>rfl
  | succ k =>unfold logR; rw [if_neg (fun z =>h z.1)]
theorem logR_frs : ∀ (W : List ByteArray) (q : Int) (k : Nat) (Z : List ByteArray),1 ≤ q → q + (W.length : Int) ≤ 2147483647 → (∀ s ∈ W,s.size ≤ 6000) → W.length ≤ k → (rdZ Z).bad ≠ -1 → logR k (frs q W ++ Z) q = (W,(frs q W).length)
  | [],q,k,Z,_,_,_,_,hZ =>by rw [frs,List.nil_append,logR_stop hZ]; rfl
  | s :: r,q,k,Z,h1,h2,hs,hk,hZ =>by
    obtain ⟨k,rfl⟩ : ∃ k',k = k' + 1:=⟨k - 1,by rw [List.length_cons] at hk; omega⟩
    rw [List.length_cons] at h2 hk
    have hr:=read_back (seq:=q) (d:=s) h1 (by omega) (hs s (List.mem_cons_self ..)) (frs (q + 1) r ++ Z)
    have hd : (blkL q s (sizeN s.size) ++ (frs (q + 1) r ++ Z)).drop (sizeN s.size) = frs (q + 1) r ++ Z:=by
      have:=List.drop_left (l₁:=blkL q s (sizeN s.size)) (l₂:=frs (q + 1) r ++ Z)
      rwa [blkL_len] at this
    have ih:=logR_frs r (q + 1) k Z (by omega) (by omega) (fun x hx =>hs x (List.mem_cons_of_mem _ hx)) (by omega) hZ
    rw [frs,List.append_assoc]
    unfold logR
    rw [hr]
    simp only [and_self,if_true,Int.toNat_natCast,hd,ih,List.length_append,blkL_len]
theorem parts_cut {all : List ByteArray} {F T : Nat} (h : F ≤ T) : all = all.take F ++ ((all.drop F).take (T - F) ++ all.drop T):=by
  have e : all.drop T = (all.drop F).drop (T - F):=by rw [List.drop_drop]; congr 1; omega
  rw [e,List.take_append_drop,List.take_append_drop]
theorem opn_on {all : List ByteArray} {F T : Nat} {b w : Int} (hFT : F < T) (hT : T ≤ all.length) (hb : isBase b) :
    ∃ w',opnZ (dOn all w) F T b = (0,⟨dOn (lgL (all.take F) ((all.drop F).take (logR (T - F) ((all.drop F).take (T - F)) (b + 1)).2) (all.drop T) (T - F)) w',F,T,b,((F + (logR (T - F) ((all.drop F).take (T - F)) (b + 1)).2 : Nat) : Int),(logR (T - F) ((all.drop F).take (T - F)) (b + 1)).1,false⟩):=by
  have hu:=(logR_le (T - F) ((all.drop F).take (T - F)) (b + 1)).1
  rw [List.length_take,List.length_drop] at hu
  generalize hx : logR (T - F) ((all.drop F).take (T - F)) (b + 1) = x at *
  obtain ⟨W,u⟩:=x
  simp only at hu
  have hu' : u ≤ T - F:=by omega
  have e1 : all = (all.take F ++ (all.drop F).take u) ++ ((all.drop (F + u)).take (T - F - u) ++ all.drop T):=by
    have:=parts_cut (all:=all) (F:=F) (T:=F + u) (by omega)
    have h2:=parts_cut (all:=all.drop F) (F:=u) (T:=T - F) hu'
    rw [List.drop_drop,List.drop_drop,show F + (T - F) = T by omega] at h2
    conv =>lhs; rw [← List.take_append_drop F all,h2]
    simp only [List.append_assoc]
  obtain ⟨w',h⟩:=wipe_on (T - F - u) (all.take F ++ (all.drop F).take u) ((all.drop (F + u)).take (T - F - u)) (all.drop T) w (by rw [List.length_take,List.length_drop]; omega)
  rw [← e1] at h
  have hlen : (all.take F ++ (all.drop F).take u).length = F + u:=by rw [List.length_append,List.length_take,List.length_take,List.length_drop]; omega
  rw [hlen] at h
  refine ⟨w',?_⟩
  unfold opnZ
  rw [if_neg (by rintro (q | q | q | q) <;> first | omega | exact q hb | (have : (dOn all w).L.length = all.length:=rfl; omega)),if_neg (by simp [dOn])]
  have e2 : (dOn all w).L = all:=rfl
  simp only [Int.toNat_natCast,show ((T : Int) - (F : Int)).toNat = T - F by omega,e2,hx,show T - (F + u) = T - F - u by omega]
  rw [h]
  simp only [lgL,List.length_take,List.length_drop,show min u (all.length - F) = u by omega,List.append_assoc]
theorem opn_frs {A C : List ByteArray} {n : Nat} {b w : Int} {W : List ByteArray} (hn : 0 < n) (hB : (frs (b + 1) W).length ≤ n) (hb : isBase b) (hW : ∀ s ∈ W,s.size ≤ 6000) (hl : W.length ≤ 4096) :
    ∃ w',opnZ (dOn (lgL A (frs (b + 1) W) C n) w) A.length ((A.length + n : Nat) : Int) b = (0,⟨dOn (lgL A (frs (b + 1) W) C n) w',A.length,((A.length + n : Nat) : Int),b,((A.length + (frs (b + 1) W).length : Nat) : Int),W,false⟩):=by
  obtain ⟨w',h⟩:=opn_on (all:=lgL A (frs (b + 1) W) C n) (F:=A.length) (T:=A.length + n) (b:=b) (w:=w) (by omega) (by rw [lgL_len hB]; omega) hb
  have e1 : (lgL A (frs (b + 1) W) C n).take A.length = A:=by rw [lgL,List.take_left]
  have e2 : (lgL A (frs (b + 1) W) C n).drop A.length = frs (b + 1) W ++ (List.replicate (n - (frs (b + 1) W).length) zeB ++ C):=by rw [lgL,List.drop_left]
  have e3 : (frs (b + 1) W ++ (List.replicate (n - (frs (b + 1) W).length) zeB ++ C)).take n = frs (b + 1) W ++ List.replicate (n - (frs (b + 1) W).length) zeB:=by
    rw [← List.append_assoc]
    exact List.take_left' (by simp; omega)
  have e4 : (lgL A (frs (b + 1) W) C n).drop (A.length + n) = C:=by
    rw [← List.drop_drop,e2,← List.append_assoc]
    exact List.drop_left' (by simp; omega)
  have hr:=logR_frs W (b + 1) n (List.replicate (n - (frs (b + 1) W).length) zeB) (by have:=hb.1; omega) (by have:=hb.2; omega) hW (by have:=frs_le W (b + 1); omega) (rdZ_zes _)
  rw [show A.length + n - A.length = n by omega,e1,e2,e3,e4,hr,List.take_left] at h
  exact ⟨w',h⟩
theorem rep_ex {k i j : Nat} (h : j ≤ k) (hij : i ≤ j) : (repS ⟨#[0]⟩ k).extract i j = repS ⟨#[0]⟩ (j - i):=by
  rw [← repS_list,← repS_list]
  apply ByteArray.ext
  rw [ByteArray.data_extract]
  apply Array.ext'
  simp [List.extract_eq_take_drop]
  omega
theorem newD_rep {n : Nat} (h : n ≤ 4096) : newD n = dOn (List.replicate n zeB) 0:=by
  have hn : newN (n : Int) = n:=by
    unfold newN minI maxI
    split <;> split <;> omega
  have hz : zeros (n : Int) = repS ⟨#[0]⟩ (64 * n):=by
    unfold zeros; rw [hn]; congr 1; omega
  have hs : (zeros (n : Int)).size = 64 * n:=by rw [hz,repS_sz]
  have hb : nb (zeros (n : Int)) = n:=by unfold nb; rw [hs]; omega
  have hL : blks (zeros (n : Int)) n = List.replicate n zeB:=by
    refine List.ext_getElem? fun i => ?_
    rw [blks,List.getElem?_map,List.getElem?_replicate]
    by_cases hi : i < n
    · rw [List.getElem?_range hi,if_pos hi,Option.map_some,hz,rep_ex (by omega) (by omega),show 64 * i + 64 - 64 * i = 64 by omega]; rfl
    · rw [List.getElem?_eq_none (by simpa using hi),if_neg hi]; rfl
  show ofD (zeros (n : Int)) = _
  rw [ofD,hb,hL]; rfl
end Go.Proofs.YthapdikdeoeplaaGreatDoor.Z7
end
section
set_option linter.unusedVariables false
set_option linter.unnecessarySimpa false
open Go AH
set_option linter.unusedSimpArgs false
set_option maxRecDepth 100000
namespace Go.Proofs.YthapdikdeoeplaaGreatDoor.Z7
def aI (P Q : List ByteArray) (s : ByteArray) (b a : Int) : Prop :=
  (a = -1 ∧ s = ⟨#[]⟩ ∧ b = 0 ∧ (rdZ P).bad ≠ -1 ∧ (rdZ Q).bad ≠ -1) ∨
  (a = 0 ∧ (rdZ P).bad = -1 ∧ (rdZ P).t = s ∧ (rdZ P).q = b ∧ ((rdZ Q).bad ≠ -1 ∨ (rdZ Q).q ≤ b)) ∨
  (a = 1 ∧ (rdZ Q).bad = -1 ∧ (rdZ Q).t = s ∧ (rdZ Q).q = b ∧ ((rdZ P).bad ≠ -1 ∨ (rdZ P).q < b))
theorem aI_b {P Q : List ByteArray} {s : ByteArray} {b a : Int} (h : aI P Q s b a) : 0 ≤ b:=by
  rcases h with ⟨_,_,h,_⟩ | ⟨_,h,_,h2,_⟩ | ⟨_,h,_,h2,_⟩
  · omega
  · have:=rdZ_good h; omega
  · have:=rdZ_good h; omega
theorem aI_last {P Q S : List ByteArray} {s : ByteArray} {b a : Int} {Z : Nat} (hP : P.length = Z) (hQ : Q.length = Z) (h : aI P Q s b a) : lastZ (P ++ Q ++ S) Z = ⟨s,b,a⟩:=by
  have e0 : (P ++ Q ++ S).take Z = P:=by rw [List.append_assoc,← hP,List.take_left]
  have e1 : ((P ++ Q ++ S).drop Z).take Z = Q:=by
    rw [List.append_assoc,← hP,List.drop_left,hP,← hQ,List.take_left]
  unfold lastZ
  rw [e0,e1]
  rcases h with ⟨rfl,rfl,rfl,h1,h2⟩ | ⟨rfl,h1,rfl,rfl,h2⟩ | ⟨rfl,h1,rfl,rfl,h2⟩
  · have f0 : stepL ⟨⟨#[]⟩,0,-1⟩ (rdZ P) 0 = ⟨⟨#[]⟩,0,-1⟩:=by unfold stepL; rw [if_neg fun q =>h1 q.1]
    rw [f0]; unfold stepL; rw [if_neg fun q =>h2 q.1]
  · have f0 : stepL ⟨⟨#[]⟩,0,-1⟩ (rdZ P) 0 = ⟨(rdZ P).t,(rdZ P).q,0⟩:=by unfold stepL; rw [if_pos ⟨h1,.inl rfl⟩]
    rw [f0]; unfold stepL
    rw [if_neg fun q =>h2.elim (fun z =>z q.1) fun z =>q.2.elim (fun y =>by simp at y) fun y =>by simp only at y; omega]
  · by_cases g : (rdZ P).bad = -1
    · have f0 : stepL ⟨⟨#[]⟩,0,-1⟩ (rdZ P) 0 = ⟨(rdZ P).t,(rdZ P).q,0⟩:=by unfold stepL; rw [if_pos ⟨g,.inl rfl⟩]
      rw [f0]; unfold stepL
      rw [if_pos ⟨h1,.inr (by simp only; exact h2.resolve_left fun z =>z g)⟩]
    · have f0 : stepL ⟨⟨#[]⟩,0,-1⟩ (rdZ P) 0 = ⟨⟨#[]⟩,0,-1⟩:=by unfold stepL; rw [if_neg fun q =>g q.1]
      rw [f0]; unfold stepL
      rw [if_pos ⟨h1,.inl rfl⟩]
def arL (q : Int) (s : ByteArray) (Z : Nat) : List ByteArray:=blkL q s (sizeN s.size) ++ List.replicate (Z - sizeN s.size) zeB
theorem arL_len {q : Int} {s : ByteArray} {Z : Nat} (h : sizeN s.size ≤ Z) : (arL q s Z).length = Z:=by simp [arL,blkL_len]; omega
theorem arL_sz {q : Int} {s : ByteArray} {Z : Nat} : ∀ x ∈ arL q s Z,x.size = 64:=by
  intro x hx
  simp only [arL,List.mem_append,List.mem_replicate] at hx
  rcases hx with h | ⟨_,rfl⟩
  · exact blkL_sz (Nat.le_refl _) x h
  · exact zeB_sz
theorem arL_rd {q : Int} {s : ByteArray} {Z : Nat} (h1 : 1 ≤ q) (h2 : q ≤ 2147483647) (h3 : s.size ≤ 6000) : rdZ (arL q s Z) = ⟨s,q,(sizeN s.size : Int),-1⟩:=read_back h1 h2 h3 _
theorem area_w {P O S : List ByteArray} {w : Int} {B : List ByteArray} (hB : ∀ s ∈ B,s.size = 64) (hl : B.length ≤ O.length) : ∃ w',areaZ (dOn (P ++ (O ++ S)) w) O.length P.length B = (0,dOn (P ++ ((B ++ List.replicate (O.length - B.length) zeB) ++ S)) w'):=by
  obtain ⟨w1,h1⟩:=wipe_on O.length P O S w rfl
  have e : List.replicate O.length zeB ++ S = List.replicate B.length zeB ++ (List.replicate (O.length - B.length) zeB ++ S):=by
    rw [← List.append_assoc,List.replicate_append_replicate]; congr 2; omega
  obtain ⟨w2,h2⟩:=lay_on B P (List.replicate B.length zeB) (List.replicate (O.length - B.length) zeB ++ S) w1 (by simp) hB
  refine ⟨w2,?_⟩
  unfold areaZ
  rw [h1,if_pos rfl,e,h2,List.append_assoc]
def stD (P Q : List ByteArray) (b : Int) (W : List ByteArray) (n : Nat) (w : Int) : Dk:=dOn (lgL (P ++ Q) (frs (b + 1) W) [] n) w
def stG (P Q : List ByteArray) (b : Int) (W : List ByteArray) (n : Nat) (w : Int) : Lg:=⟨stD P Q b W n w,((P ++ Q).length : Nat),(((P ++ Q).length + n : Nat) : Int),b,(((P ++ Q).length + (frs (b + 1) W).length : Nat) : Int),W,false⟩
def stX (P Q : List ByteArray) (s : ByteArray) (b a : Int) (W : List ByteArray) (n : Nat) (w : Int) : So:=⟨stG P Q b W n w,P.length,s,b,a,false⟩
structure stI (P Q : List ByteArray) (s : ByteArray) (b a : Int) (W : List ByteArray) (n Z : Nat) : Prop where
  p : P.length = Z
  q : Q.length = Z
  z : 1 ≤ Z
  z2 : Z ≤ 100
  n1 : 0 < n
  n2 : n ≤ 3000
  pz : ∀ x ∈ P,x.size = 64
  qz : ∀ x ∈ Q,x.size = 64
  bl : b ≤ 1073741824
  ar : aI P Q s b a
  fl : (frs (b + 1) W).length ≤ n
  wz : ∀ x ∈ W,x.size ≤ 6000
variable {P Q : List ByteArray} {s : ByteArray} {b a : Int} {W : List ByteArray} {n Z : Nat} {w : Int}
theorem stI.base (h : stI P Q s b a W n Z) : isBase b:=⟨aI_b h.ar,h.bl⟩
theorem stI.len (h : stI P Q s b a W n Z) : (P ++ Q).length = 2 * Z:=by rw [List.length_append,h.p,h.q]; omega
theorem stI.dlen (h : stI P Q s b a W n Z) : (lgL (P ++ Q) (frs (b + 1) W) [] n).length = 2 * Z + n:=by rw [lgL_len h.fl,h.len]; simp
theorem stI.dok (h : stI P Q s b a W n Z) : (stD P Q b W n w).ok:=by
  refine dOn_ok (lgL_sz (fun x hx =>(List.mem_append.1 hx).elim (h.pz x) (h.qz x)) (frs_sz W _) fun x hx =>by cases hx) ?_
  rw [h.dlen]; have:=h.z2; have:=h.n2; omega
theorem stI.gok (h : stI P Q s b a W n Z) : (stG P Q b W n w).ok:=by
  have h1:=frs_le W (b + 1)
  have h2:=h.dlen
  have h3:=h.len
  have h4:=h.fl
  refine ⟨h.dok,h.base,?_,?_,?_,?_,?_⟩
  · show (0 : Int) ≤ ((P ++ Q).length : Nat); omega
  · show (((P ++ Q).length : Nat) : Int) ≤ (((P ++ Q).length + (frs (b + 1) W).length : Nat) : Int); omega
  · show (((P ++ Q).length + (frs (b + 1) W).length : Nat) : Int) ≤ (((P ++ Q).length + n : Nat) : Int); omega
  · show (((P ++ Q).length + n : Nat) : Int) ≤ ((lgL (P ++ Q) (frs (b + 1) W) [] n).length : Int); omega
  · show (W.length : Int) ≤ (((P ++ Q).length + (frs (b + 1) W).length : Nat) : Int) - ((P ++ Q).length : Nat); omega
theorem stI.ok (h : stI P Q s b a W n Z) : (stX P Q s b a W n w).ok:=by
  have h2:=h.dlen
  have h3:=h.len
  refine ⟨h.gok,?_,?_,?_,?_⟩
  · show (1 : Int) ≤ (P.length : Int); have:=h.p; have:=h.z; omega
  · show (P.length : Int) ≤ 100; have:=h.p; have:=h.z2; omega
  · show (((P ++ Q).length : Nat) : Int) = 2 * (P.length : Int); have:=h.p; omega
  · show (((P ++ Q).length + n : Nat) : Int) = ((lgL (P ++ Q) (frs (b + 1) W) [] n).length : Int); omega
theorem stI.seq : (stX P Q s b a W n w).seq = b + (W.length : Int):=rfl
theorem stI.open (h : stI P Q s b a W n Z) : ∃ w',sopZ (stD P Q b W n w) Z = (0,stX P Q s b a W n w'):=by
  have hl : (lastZ (lgL (P ++ Q) (frs (b + 1) W) [] n) Z) = ⟨s,b,a⟩:=by
    unfold lgL; exact aI_last h.p h.q h.ar
  obtain ⟨w',ho⟩:=opn_frs (A:=P ++ Q) (C:=[]) (n:=n) (b:=b) (w:=w) (W:=W) h.n1 h.fl h.base h.wz (by have:=frs_le W (b + 1); have:=h.fl; have:=h.n2; omega)
  refine ⟨w',?_⟩
  have hd:=h.dlen
  have hL : (stD P Q b W n w).L = lgL (P ++ Q) (frs (b + 1) W) [] n:=rfl
  have h3:=h.len
  unfold sopZ
  rw [hL,Int.toNat_natCast,hl,hd]
  rw [if_neg (by have:=h.z; have:=h.z2; have:=h.n1; omega),if_neg (by show ¬ (false = true); simp),if_neg (by have:=h.bl; simp only; omega)]
  have e1 : 2 * (Z : Int) = ((P ++ Q).length : Nat):=by omega
  have e2 : ((2 * Z + n : Nat) : Int) = (((P ++ Q).length + n : Nat) : Int):=by omega
  simp only
  rw [e1,e2]
  have ho' : opnZ (stD P Q b W n w) ((P ++ Q).length : Nat) (((P ++ Q).length + n : Nat) : Int) b = (0,stG P Q b W n w'):=ho
  rw [ho']
  unfold stX
  rw [h.p]
theorem stI.add (h : stI P Q s b a W n Z) {r : ByteArray} (hr : r.size ≤ 6000) (hf : (frs (b + 1) W).length + sizeN r.size ≤ n) (hq : b + (W.length : Int) + 1 < 1073741824) : (∃ w',sadZ (stX P Q s b a W n w) r = (0,stX P Q s b a (W ++ [r]) n w') ∧ (addL (stX P Q s b a W n w).g r).1 = 0) ∧ stI P Q s b a (W ++ [r]) n Z:=by
  obtain ⟨w',e⟩:=add_on (A:=P ++ Q) (B:=frs (b + 1) W) (C:=[]) (n:=n) (w:=w) (b:=b) (W:=W) hr hf hq
  have e1 : frs (b + 1) (W ++ [r]) = frs (b + 1) W ++ blkL (b + (W.length : Int) + 1) r (sizeN r.size):=by
    rw [frs_snoc,show b + 1 + (W.length : Int) = b + (W.length : Int) + 1 by omega]
  have e2 : (frs (b + 1) W).length + sizeN r.size = (frs (b + 1) (W ++ [r])).length:=by rw [e1,List.length_append,blkL_len]
  rw [← e1,e2] at e
  have e' : addL (stG P Q b W n w) r = (0,stG P Q b (W ++ [r]) n w'):=e
  refine ⟨⟨w',?_,?_⟩,⟨h.p,h.q,h.z,h.z2,h.n1,h.n2,h.pz,h.qz,h.bl,h.ar,by omega,fun x hx =>(List.mem_append.1 hx).elim (h.wz x) fun q =>by rw [List.mem_singleton.1 q]; exact hr⟩⟩
  · unfold sadZ
    rw [if_neg (by simp [stX])]
    show ((addL (stG P Q b W n w) r).1,(⟨(addL (stG P Q b W n w) r).2,P.length,s,b,a,(addL (stG P Q b W n w) r).1 == 14⟩ : So)) = _
    rw [e']; rfl
  · show (addL (stG P Q b W n w) r).1 = 0
    rw [e']
theorem stI.keep (h : stI P Q s b a W n Z) {r : ByteArray} (hr : sizeN r.size ≤ Z) (hq : b + (W.length : Int) < 1073741824) :
    ∃ P' Q' w',keepZ (stX P Q s b a W n w) r = (0,stX P' Q' r (b + (W.length : Int) + 1) (if a = 0 then 1 else 0) [] n w') ∧ stI P' Q' r (b + (W.length : Int) + 1) (if a = 0 then 1 else 0) [] n Z ∧ ((a = 0 ∧ P' = P ∧ Q' = arL (b + (W.length : Int) + 1) r Z) ∨ (a ≠ 0 ∧ P' = arL (b + (W.length : Int) + 1) r Z ∧ Q' = Q)):=by
  have hb:=h.base
  have hr6 : r.size ≤ 6000:=by unfold sizeN at hr; have:=h.z2; omega
  have hbl:=blkL_len (b + (W.length : Int) + 1) r (sizeN r.size)
  have hbz:=blkL_sz (q:=b + (W.length : Int) + 1) (s:=r) (n:=sizeN r.size) (Nat.le_refl _)
  have hib : isBase (b + (W.length : Int) + 1):=⟨by have:=hb.1; omega,by omega⟩
  have hseq : (stX P Q s b a W n w).seq = b + (W.length : Int):=rfl
  have hrd:=arL_rd (q:=b + (W.length : Int) + 1) (s:=r) (Z:=Z) (by have:=hb.1; omega) (by omega) hr6
  have fin : ∀ {P' Q' : List ByteArray} {w1 : Int},P'.length = Z → Q'.length = Z → areaZ (stX P Q s b a W n w).g.d Z (if a = 0 then Z else 0) (blkL (b + (W.length : Int) + 1) r (sizeN r.size)) = (0,stD P' Q' b W n w1) → (∃ w2,rstL (stG P' Q' b W n w1) (b + (W.length : Int) + 1) = (0,stG P' Q' (b + (W.length : Int) + 1) [] n w2)) →
      ∃ w',keepZ (stX P Q s b a W n w) r = (0,stX P' Q' r (b + (W.length : Int) + 1) (if a = 0 then 1 else 0) [] n w'):=by
    intro P' Q' w1 hP' hQ' hA hR
    obtain ⟨w2,hR⟩:=hR
    have eZ : (stX P Q s b a W n w).z.toNat = Z:=by show ((P.length : Int)).toNat = Z; rw [h.p]; simp
    have eY : keepY (stX P Q s b a W n w) r = (0,stD P' Q' b W n w1):=by
      unfold keepY
      rw [hseq,eZ]
      exact hA
    have eL : (P' ++ Q').length = (P ++ Q).length:=by rw [List.length_append,hP',hQ',h.len]; omega
    have eR : keepR (stX P Q s b a W n w) r = (0,stG P' Q' (b + (W.length : Int) + 1) [] n w2):=by
      unfold keepR
      rw [hseq,eY]
      have : ({ (stX P Q s b a W n w).g with d:=stD P' Q' b W n w1 } : Lg) = stG P' Q' b W n w1:=by
        show (⟨stD P' Q' b W n w1,((P ++ Q).length : Nat),(((P ++ Q).length + n : Nat) : Int),b,(((P ++ Q).length + (frs (b + 1) W).length : Nat) : Int),W,false⟩ : Lg) = _
        rw [← eL]; rfl
      show rstL ({ (stX P Q s b a W n w).g with d:=stD P' Q' b W n w1 } : Lg) _ = _
      rw [this,hR]
    refine ⟨w2,?_⟩
    unfold keepZ
    rw [if_neg (by
      rintro (q | q)
      · have : (stX P Q s b a W n w).z = (P.length : Int):=rfl
        have:=h.p
        omega
      · rw [hseq] at q; omega),if_neg (by simp [stX]),eY,if_neg (by simp),eR,if_neg (by simp),hseq]
    unfold stX
    rw [h.p,hP']
  by_cases ha : a = 0
  · have hA : ∃ w1,areaZ (stX P Q s b a W n w).g.d Z Z (blkL (b + (W.length : Int) + 1) r (sizeN r.size)) = (0,stD P (arL (b + (W.length : Int) + 1) r Z) b W n w1):=by
      obtain ⟨w1,e⟩:=area_w (P:=P) (O:=Q) (S:=frs (b + 1) W ++ (List.replicate (n - (frs (b + 1) W).length) zeB ++ [])) (w:=w) hbz (by rw [hbl,h.q]; exact hr)
      rw [h.p,h.q,hbl] at e
      refine ⟨w1,?_⟩
      show areaZ (dOn (lgL (P ++ Q) (frs (b + 1) W) [] n) w) Z Z _ = _
      unfold lgL
      rw [List.append_assoc,e]
      show _ = (0,dOn (lgL (P ++ arL (b + (W.length : Int) + 1) r Z) (frs (b + 1) W) [] n) w1)
      unfold lgL arL
      simp only [List.append_assoc]
    obtain ⟨w1,hA⟩:=hA
    have hQl : (arL (b + (W.length : Int) + 1) r Z).length = Z:=arL_len hr
    have hR : ∃ w2,rstL (stG P (arL (b + (W.length : Int) + 1) r Z) b W n w1) (b + (W.length : Int) + 1) = (0,stG P (arL (b + (W.length : Int) + 1) r Z) (b + (W.length : Int) + 1) [] n w2):=by
      obtain ⟨w2,e⟩:=rst_on (A:=P ++ arL (b + (W.length : Int) + 1) r Z) (B:=frs (b + 1) W) (C:=[]) (n:=n) (w:=w1) (b:=b) (W:=W) hib h.fl
      exact ⟨w2,e⟩
    obtain ⟨w',e⟩:=fin h.p hQl (by rw [if_pos ha]; exact hA) hR
    refine ⟨P,arL (b + (W.length : Int) + 1) r Z,w',e,⟨h.p,hQl,h.z,h.z2,h.n1,h.n2,h.pz,arL_sz,hib.2,?_,Nat.zero_le _,fun x hx =>by cases hx⟩,.inl ⟨ha,rfl,rfl⟩⟩
    rw [if_pos ha]
    refine .inr (.inr ⟨rfl,by rw [hrd],by rw [hrd],by rw [hrd],?_⟩)
    rcases h.ar with ⟨h1,_⟩ | ⟨_,_,_,h2,_⟩ | ⟨h1,_⟩
    · rw [ha] at h1; cases h1
    · right; rw [h2]; omega
    · rw [ha] at h1; cases h1
  · have hA : ∃ w1,areaZ (stX P Q s b a W n w).g.d Z 0 (blkL (b + (W.length : Int) + 1) r (sizeN r.size)) = (0,stD (arL (b + (W.length : Int) + 1) r Z) Q b W n w1):=by
      obtain ⟨w1,e⟩:=area_w (P:=[]) (O:=P) (S:=Q ++ (frs (b + 1) W ++ (List.replicate (n - (frs (b + 1) W).length) zeB ++ []))) (w:=w) hbz (by rw [hbl,h.p]; exact hr)
      rw [h.p,hbl] at e
      refine ⟨w1,?_⟩
      show areaZ (dOn (lgL (P ++ Q) (frs (b + 1) W) [] n) w) Z 0 _ = _
      unfold lgL
      rw [List.append_assoc]
      refine e.trans ?_
      show _ = (0,dOn (lgL (arL (b + (W.length : Int) + 1) r Z ++ Q) (frs (b + 1) W) [] n) w1)
      unfold lgL arL
      simp only [List.append_assoc,List.nil_append]
    obtain ⟨w1,hA⟩:=hA
    have hPl : (arL (b + (W.length : Int) + 1) r Z).length = Z:=arL_len hr
    have hR : ∃ w2,rstL (stG (arL (b + (W.length : Int) + 1) r Z) Q b W n w1) (b + (W.length : Int) + 1) = (0,stG (arL (b + (W.length : Int) + 1) r Z) Q (b + (W.length : Int) + 1) [] n w2):=by
      obtain ⟨w2,e⟩:=rst_on (A:=arL (b + (W.length : Int) + 1) r Z ++ Q) (B:=frs (b + 1) W) (C:=[]) (n:=n) (w:=w1) (b:=b) (W:=W) hib h.fl
      exact ⟨w2,e⟩
    obtain ⟨w',e⟩:=fin hPl h.q (by rw [if_neg ha]; exact hA) hR
    refine ⟨arL (b + (W.length : Int) + 1) r Z,Q,w',e,⟨hPl,h.q,h.z,h.z2,h.n1,h.n2,arL_sz,h.qz,hib.2,?_,Nat.zero_le _,fun x hx =>by cases hx⟩,.inr ⟨ha,rfl,rfl⟩⟩
    rw [if_neg ha]
    refine .inr (.inl ⟨rfl,by rw [hrd],by rw [hrd],by rw [hrd],?_⟩)
    rcases h.ar with ⟨_,_,_,_,h2⟩ | ⟨h1,_⟩ | ⟨_,_,_,h2,_⟩
    · exact .inl h2
    · exact absurd h1 ha
    · right; rw [h2]; omega
end Go.Proofs.YthapdikdeoeplaaGreatDoor.Z7
end
section
set_option linter.unusedVariables false
set_option linter.unnecessarySimpa false
open Go AH
set_option linter.unusedSimpArgs false
namespace Go.Proofs.YthapdikdeoeplaaGreatDoor.Z7
def z64 : ByteArray:=⟨(List.replicate 64 (0 : UInt8)).toArray⟩
theorem z64_sz : z64.size = 64:=rfl
def tornS (s : ByteArray) (t : Nat) : ByteArray:=s.extract 0 t ++ z64.extract t 64
theorem tornS_sz {s : ByteArray} {t : Nat} (h : s.size = 64) (ht : t ≤ 64) : (tornS s t).size = 64:=by
  rw [tornS,ByteArray.size_append,ByteArray.size_extract,ByteArray.size_extract,h,z64_sz]; omega
theorem ex_toList (s : ByteArray) (i j : Nat) : (s.extract i j).data.toList = (s.data.toList.take j).drop i:=by
  rw [ByteArray.data_extract]; simp [Array.toList_extract,List.extract_eq_take_drop,List.drop_take]
theorem ba_ext {a b : ByteArray} (h : a.data.toList = b.data.toList) : a = b:=ByteArray.ext (Array.ext' h)
theorem size_l (s : ByteArray) : s.data.toList.length = s.size:=rfl
theorem end_l (p i n : Int) : (endS p i n).data.toList = [byt (IntKind.u64.wrap p) 0,byt (IntKind.u64.wrap p) 1,byt (IntKind.u64.wrap p) 2,byt (IntKind.u64.wrap p) 3,byt (IntKind.u64.wrap i) 0,byt (IntKind.u64.wrap i) 1,byt (IntKind.u64.wrap n) 0,byt (IntKind.u64.wrap n) 1]:=rfl
end Go.Proofs.YthapdikdeoeplaaGreatDoor.Z7
end
section
set_option linter.unusedVariables false
set_option linter.unnecessarySimpa false
open Go AH
set_option linter.unusedSimpArgs false
set_option maxRecDepth 100000
namespace Go.Proofs.YthapdikdeoeplaaGreatDoor.Z7
def tzS (B : ByteArray) (t : Nat) : ByteArray:=zeB.extract 0 t ++ B.extract t 64
theorem zeB_l : zeB.data.toList = List.replicate 64 0:=by decide +kernel
theorem tz_l {B : ByteArray} {t : Nat} (h : B.size = 64) (ht : t ≤ 64) : (tzS B t).data.toList = List.replicate t 0 ++ B.data.toList.drop t:=by
  have hl : B.data.toList.length = 64:=h
  rw [tzS,ByteArray.data_append,Array.toList_append,ex_toList,ex_toList,List.drop_zero,zeB_l,List.take_replicate,List.take_of_length_le (l:=B.data.toList) (by omega)]
  congr 2; omega
theorem tz_sz {B : ByteArray} {t : Nat} (h : B.size = 64) (ht : t ≤ 64) : (tzS B t).size = 64:=by
  have hl : B.data.toList.length = 64:=h
  rw [← size_l,tz_l h ht,List.length_append,List.length_replicate,List.length_drop]; omega
end Go.Proofs.YthapdikdeoeplaaGreatDoor.Z7
end
section
set_option linter.unusedVariables false
set_option linter.unnecessarySimpa false
open Go AH
set_option linter.unusedSimpArgs false
set_option maxRecDepth 100000
namespace Go.Proofs.YthapdikdeoeplaaGreatDoor.Z7
end Go.Proofs.YthapdikdeoeplaaGreatDoor.Z7
end
section
set_option linter.unusedVariables false
set_option linter.unnecessarySimpa false
open Go AH
set_option linter.unusedSimpArgs false
set_option maxRecDepth 100000
namespace Go.Proofs.YthapdikdeoeplaaGreatDoor.Z7
theorem z64_ze : z64 = zeB:=ba_ext (by rw [zeB_l]; rfl)
theorem fuse_dn {f : Int} (h1 : -1 ≤ f) (h2 : f ≤ 1000) : f ≠ 0 → maxI (IntKind.i64.wrap (f - 1)) (-1) = if f = -1 then -1 else f - 1:=by
  intro _
  rw [IntKind.wrap_i64]
  unfold maxI
  split <;> split <;> omega
theorem wr_fu {P S : List ByteArray} {o s : ByteArray} {f t w : Int} (hs : s.size = 64) (h1 : -1 ≤ f) (h2 : f ≤ 1000) (h3 : f ≠ 0) : ∃ w',wrD ⟨P ++ o :: S,false,f,t,w⟩ ((P.length : Nat) : Int) s = (0,⟨P ++ s :: S,false,if f = -1 then -1 else f - 1,t,w'⟩):=by
  have hi : P.length < (⟨P ++ o :: S,false,f,t,w⟩ : Dk).L.length:=by show P.length < (P ++ o :: S).length; simp
  rw [wrD_at hi hs]
  refine ⟨IntKind.i64.wrap (w + 1),?_⟩
  rw [if_neg (by simp),if_neg h3]
  simp only [set_mid,fuse_dn h1 h2 h3]
theorem lay_fu : ∀ (B : List ByteArray) (P S : List ByteArray) (f t w : Int),(∀ s ∈ B,s.size = 64) → -1 ≤ f → f ≤ 1000 → (f = -1 ∨ (B.length : Int) ≤ f) → ∃ w',layD ⟨P ++ (List.replicate B.length zeB ++ S),false,f,t,w⟩ P.length B = (0,⟨P ++ (B ++ S),false,if f = -1 then -1 else f - B.length,t,w'⟩)
  | [],P,S,f,t,w,_,_,_,_ =>⟨w,by
    simp only [layD,List.length_nil,List.replicate_zero,List.nil_append]
    congr 2
    split
    · assumption
    · omega⟩
  | s :: r,P,S,f,t,w,hs,h1,h2,h3 =>by
    have h4 : f ≠ 0:=by rcases h3 with h | h <;> (try rw [List.length_cons] at h) <;> omega
    obtain ⟨w1,e1⟩:=wr_fu (P:=P) (S:=List.replicate r.length zeB ++ S) (o:=zeB) (s:=s) (f:=f) (t:=t) (w:=w) (hs s (List.mem_cons_self ..)) h1 h2 h4
    have g : (if f = -1 then -1 else f - 1 : Int) = -1 ∨ (r.length : Int) ≤ (if f = -1 then -1 else f - 1):=by
      rcases h3 with h | h
      · left; rw [if_pos h]
      · rw [List.length_cons] at h
        by_cases q : f = -1
        · left; rw [if_pos q]
        · right; rw [if_neg q]; omega
    obtain ⟨w2,e2⟩:=lay_fu r (P ++ [s]) S (if f = -1 then -1 else f - 1) t w1 (fun x hx =>hs x (List.mem_cons_of_mem _ hx)) (by split <;> omega) (by split <;> omega) g
    refine ⟨w2,?_⟩
    rw [layD,List.length_cons,List.replicate_succ,List.cons_append,e1,if_pos rfl]
    simp only [List.append_assoc,List.singleton_append,List.length_append,List.length_cons,List.length_nil,Nat.zero_add] at e2
    rw [e2]
    simp only [List.cons_append]
    congr 2
    by_cases q : f = -1
    · simp [q]
    · simp only [if_neg q]
      rw [if_neg (by rcases h3 with h | h <;> (try rw [List.length_cons] at h) <;> omega)]
      omega
theorem lay_cut : ∀ (j : Nat) (B P S : List ByteArray) (s : ByteArray) (T : Nat) (w : Int),(∀ s ∈ B,s.size = 64) → j ≤ 900 → B[j]? = some s → ∃ w',layD ⟨P ++ (List.replicate B.length zeB ++ S),false,(j : Int),(T : Int),w⟩ P.length B = (14,⟨P ++ (B.take j ++ (tornS s T :: (List.replicate (B.length - j - 1) zeB ++ S))),true,0,(T : Int),w'⟩)
  | _,[],P,S,s,T,w,_,_,h =>by simp at h
  | 0,b :: r,P,S,s,T,w,hs,_,h =>by
    simp at h
    subst h
    have hi : P.length < (⟨P ++ (zeB :: (List.replicate r.length zeB ++ S)),false,((0 : Nat) : Int),(T : Int),w⟩ : Dk).L.length:=by show P.length < (P ++ (zeB :: (List.replicate r.length zeB ++ S))).length; simp
    have hw:=wrD_at (d:=⟨P ++ (zeB :: (List.replicate r.length zeB ++ S)),false,((0 : Nat) : Int),(T : Int),w⟩) hi (hs b (List.mem_cons_self ..))
    rw [if_neg (by simp),if_pos (show (⟨P ++ (zeB :: (List.replicate r.length zeB ++ S)),false,((0 : Nat) : Int),(T : Int),w⟩ : Dk).fuse = 0 from rfl)] at hw
    refine ⟨w,?_⟩
    rw [layD,List.length_cons,List.replicate_succ,List.cons_append,hw,if_neg (by simp)]
    simp only [set_mid,getD_mid,Int.toNat_natCast,List.take_zero,List.nil_append,tornS,z64_ze]
    rfl
  | j + 1,b :: r,P,S,s,T,w,hs,hj,h =>by
    obtain ⟨w1,e1⟩:=wr_fu (P:=P) (S:=List.replicate r.length zeB ++ S) (o:=zeB) (s:=b) (f:=((j + 1 : Nat) : Int)) (t:=(T : Int)) (w:=w) (hs b (List.mem_cons_self ..)) (by omega) (by omega) (by omega)
    rw [if_neg (by omega),show ((j + 1 : Nat) : Int) - 1 = (j : Int) by omega] at e1
    obtain ⟨w2,e2⟩:=lay_cut j r (P ++ [b]) S s T w1 (fun x hx =>hs x (List.mem_cons_of_mem _ hx)) (by omega) (by simpa using h)
    refine ⟨w2,?_⟩
    rw [layD,List.length_cons,List.replicate_succ,List.cons_append,e1,if_pos rfl]
    simp only [List.append_assoc,List.singleton_append,List.length_append,List.length_cons,List.length_nil,Nat.zero_add] at e2
    rw [e2]
    simp only [List.take_succ_cons,List.cons_append,Prod.mk.injEq,true_and]
    rw [show r.length + 1 - (j + 1) - 1 = r.length - j - 1 by omega]
end Go.Proofs.YthapdikdeoeplaaGreatDoor.Z7
end
