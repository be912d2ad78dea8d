import Derived.Test.YthapdikdeoeplaaGreatDoorPaFKindZ7
import Derived.Test.YthapdikdeoeplaaGreatDoorPbLgRZ7
section
set_option linter.unusedVariables false
set_option linter.unnecessarySimpa false
open Go AH
namespace Go.Proofs.YthapdikdeoeplaaGreatDoor.Z7
-- quitrent/quitrentref05.number
def F53 : AFun:=⟨23,2,[.tmp 4],(.seq (.reg [⟨some 4,none,.mov (.c (.str ⟨#[]⟩))⟩]) (.seq (.reg [⟨some 7,none,.bslice 1 0 [(.int .u8 0)] []⟩,⟨some 5,none,.mov (.t 7)⟩]) (.seq (.seq (.reg [⟨some 6,none,.mov (.c (.int .i64 0))⟩]) (.block 0 (.loop (.seq (.seq (.reg [⟨some 8,none,.mov (.t 6)⟩,⟨some 9,none,.mov (.t 1)⟩,⟨some 10,none,.ibin .lss (.t 8) (.t 9)⟩]) (.cond (.t 10) .skip (.exit 0))) (.seq (.block 1 (.reg [⟨some 13,none,.mov (.t 5)⟩,⟨some 14,none,.mov (.t 0)⟩,⟨some 15,none,.mov (.t 6)⟩,⟨some 16,none,.ibin .mul (.c (.int .i64 8)) (.t 15)⟩,⟨some 17,none,.ibin .shr (.t 14) (.t 16)⟩,⟨some 18,none,.i2i .u8 (.t 17)⟩,⟨some 19,none,.bslice 1 1 [(.int .u8 0)] [(0,1,(.t 18))]⟩,⟨some 20,none,.append 1 1 [(.int .u8 0)] (.t 13) (.t 19)⟩,⟨some 5,none,.mov (.t 20)⟩])) (.reg [⟨some 11,none,.mov (.t 6)⟩,⟨some 12,none,.ibin .add (.t 11) (.c (.int .i64 1))⟩,⟨some 6,none,.mov (.t 12)⟩])))))) (.seq (.reg [⟨some 21,none,.mov (.t 5)⟩,⟨some 22,none,.b2s (.t 21)⟩,⟨some 4,none,.mov (.t 22)⟩]) .ret))))⟩
-- quitrent/quitrentref05.value
def F63 : AFun:=⟨20,1,[.tmp 2],(.seq (.reg [⟨some 2,none,.mov (.c (.int .i64 0))⟩]) (.seq (.reg [⟨some 3,none,.mov (.c (.int .i64 0))⟩]) (.seq (.seq (.reg [⟨some 5,none,.mov (.t 0)⟩,⟨some 6,none,.len .str (.t 5)⟩,⟨some 7,none,.ibin .sub (.t 6) (.c (.int .i64 1))⟩,⟨some 4,none,.mov (.t 7)⟩]) (.block 0 (.loop (.seq (.seq (.reg [⟨some 8,none,.mov (.t 4)⟩,⟨some 9,none,.ibin .geq (.t 8) (.c (.int .i64 0))⟩]) (.cond (.t 9) .skip (.exit 0))) (.seq (.block 1 (.reg [⟨some 12,none,.mov (.t 3)⟩,⟨some 13,none,.ibin .mul (.t 12) (.c (.int .i64 256))⟩,⟨some 14,none,.mov (.t 0)⟩,⟨some 15,none,.mov (.t 4)⟩,⟨some 16,none,.idxStr (.t 14) (.t 15)⟩,⟨some 17,none,.i2i .i64 (.t 16)⟩,⟨some 18,none,.ibin .add (.t 13) (.t 17)⟩,⟨some 3,none,.mov (.t 18)⟩])) (.reg [⟨some 10,none,.mov (.t 4)⟩,⟨some 11,none,.ibin .sub (.t 10) (.c (.int .i64 1))⟩,⟨some 4,none,.mov (.t 11)⟩])))))) (.seq (.reg [⟨some 19,none,.mov (.t 3)⟩,⟨some 2,none,.mov (.t 19)⟩]) .ret))))⟩
-- quitrent/quitrentref05.Size
def F21 : AFun:=⟨8,1,[.tmp 2],(.seq (.reg [⟨some 2,none,.mov (.c (.int .i64 0))⟩]) (.seq (.reg [⟨some 3,none,.mov (.t 0)⟩,⟨some 4,none,.len .str (.t 3)⟩,⟨some 5,none,.ibin .add (.t 4) (.c (.int .i64 8))⟩,⟨some 6,none,.ibin .add (.t 5) (.c (.int .i64 55))⟩,⟨some 7,none,.ibin .quo (.t 6) (.c (.int .i64 56))⟩,⟨some 2,none,.mov (.t 7)⟩]) .ret))⟩
-- quitrent/quitrentref05.Blocks
def F22 : AFun:=⟨66,2,[.tmp 4,.tmp 5],(.seq (.reg [⟨some 4,none,.mov (.c .nils)⟩,⟨some 5,none,.mov (.c (.bool false))⟩]) (.seq (.seq (.reg [⟨some 10,none,.mov (.t 0)⟩,⟨some 11,none,.ibin .lss (.t 10) (.c (.int .i64 1))⟩,⟨some 12,none,.mov (.t 11)⟩,⟨some 13,(some (12,false)),.mov (.t 0)⟩,⟨some 14,(some (12,false)),.ibin .gtr (.t 13) (.c (.int .i64 2147483647))⟩,⟨some 15,none,.pick (.t 12) (.c (.bool true)) (.t 14)⟩,⟨some 16,none,.mov (.t 15)⟩,⟨some 17,(some (16,false)),.mov (.t 1)⟩,⟨some 18,(some (16,false)),.len .str (.t 17)⟩,⟨some 19,(some (16,false)),.ibin .gtr (.t 18) (.c (.int .i64 6000))⟩,⟨some 20,none,.pick (.t 16) (.c (.bool true)) (.t 19)⟩]) (.cond (.t 20) (.seq (.reg [⟨some 4,none,.mov (.c .nils)⟩,⟨some 5,none,.mov (.c (.bool false))⟩]) .ret) .skip)) (.seq (.reg [⟨some 21,none,.mov (.t 1)⟩,⟨some 22,none,.len .str (.t 21)⟩,⟨some 23,none,.call (.c (.fn 53 [] [])) [(.t 22),(.c (.int .i64 4))]⟩,⟨some 24,none,.mov (.t 1)⟩,⟨some 25,none,.call (.c (.fn 54 [] [])) [(.t 24)]⟩,⟨some 26,none,.i2i .i64 (.t 25)⟩,⟨some 27,none,.call (.c (.fn 53 [] [])) [(.t 26),(.c (.int .i64 4))]⟩,⟨some 28,none,.ibin .add (.t 23) (.t 27)⟩,⟨some 29,none,.mov (.t 1)⟩,⟨some 30,none,.ibin .add (.t 28) (.t 29)⟩,⟨some 6,none,.mov (.t 30)⟩]) (.seq (.block 0 (.loop (.seq (.seq (.reg [⟨some 31,none,.mov (.t 6)⟩,⟨some 32,none,.len .str (.t 31)⟩,⟨some 33,none,.ibin .rem (.t 32) (.c (.int .i64 56))⟩,⟨some 34,none,.ibin .neq (.t 33) (.c (.int .i64 0))⟩]) (.cond (.t 34) .skip (.exit 0))) (.block 1 (.reg [⟨some 35,none,.mov (.t 6)⟩,⟨some 36,none,.ibin .add (.t 35) (.c (.str ⟨#[0]⟩))⟩,⟨some 6,none,.mov (.t 36)⟩]))))) (.seq (.reg [⟨some 37,none,.bslice 1 0 [(.str ⟨#[]⟩)] []⟩,⟨some 7,none,.mov (.t 37)⟩]) (.seq (.reg [⟨some 38,none,.mov (.t 6)⟩,⟨some 39,none,.len .str (.t 38)⟩,⟨some 40,none,.ibin .quo (.t 39) (.c (.int .i64 56))⟩,⟨some 8,none,.mov (.t 40)⟩]) (.seq (.seq (.reg [⟨some 9,none,.mov (.c (.int .i64 0))⟩]) (.block 2 (.loop (.seq (.seq (.reg [⟨some 41,none,.mov (.t 9)⟩,⟨some 42,none,.mov (.t 8)⟩,⟨some 43,none,.ibin .lss (.t 41) (.t 42)⟩]) (.cond (.t 43) .skip (.exit 2))) (.seq (.block 3 (.draw [⟨some 46,none,.mov (.t 7)⟩,⟨some 47,none,.mov (.t 6)⟩,⟨some 48,none,.mov (.t 9)⟩,⟨some 49,none,.ibin .mul (.c (.int .i64 56)) (.t 48)⟩,⟨some 50,none,.mov (.t 9)⟩,⟨some 51,none,.ibin .mul (.c (.int .i64 56)) (.t 50)⟩,⟨some 52,none,.ibin .add (.t 51) (.c (.int .i64 56))⟩,⟨some 53,none,.sliceStr (.t 47) (some (.t 49)) (some (.t 52))⟩,⟨some 54,none,.mov (.t 0)⟩,⟨some 55,none,.call (.c (.fn 53 [] [])) [(.t 54),(.c (.int .i64 4))]⟩,⟨some 56,none,.ibin .add (.t 53) (.t 55)⟩,⟨some 57,none,.mov (.t 9)⟩,⟨some 58,none,.call (.c (.fn 53 [] [])) [(.t 57),(.c (.int .i64 2))]⟩,⟨some 59,none,.ibin .add (.t 56) (.t 58)⟩,⟨some 60,none,.mov (.t 8)⟩,⟨some 61,none,.call (.c (.fn 53 [] [])) [(.t 60),(.c (.int .i64 2))]⟩,⟨some 62,none,.ibin .add (.t 59) (.t 61)⟩,⟨some 63,none,.bslice 1 1 [(.str ⟨#[]⟩)] [(0,1,(.t 62))]⟩,⟨some 64,none,.append 1 16 [(.str ⟨#[]⟩)] (.t 46) (.t 63)⟩,⟨some 7,none,.mov (.t 64)⟩] [[],[],[],[2],[],[4],[5,4],[1,3,6,2,5,4],[],[8],[7,9,1,3,6,2,5,4,8],[],[11,9,8],[10,12,7,9,1,3,6,2,5,4,8,11],[],[14,12,11,9,8],[13,15,10,12,7,9,1,3,6,2,5,4,8,11,14],[16,13,15,10,12,7,9,1,3,6,2,5,4,8,11,14],[0,17,15,16,13,10,12,7,9,1,3,6,2,5,4,8,11,14],[18,0,1,2,3,4,5,6,7,8,9,10,11,12,13,14,15,16,17]])) (.reg [⟨some 44,none,.mov (.t 9)⟩,⟨some 45,none,.ibin .add (.t 44) (.c (.int .i64 1))⟩,⟨some 9,none,.mov (.t 45)⟩])))))) (.seq (.reg [⟨some 65,none,.mov (.t 7)⟩,⟨some 4,none,.mov (.t 65)⟩,⟨some 5,none,.mov (.c (.bool true))⟩]) .ret))))))))⟩
-- quitrent/quitrentref05.Read
def F46 : AFun:=⟨146,1,[.tmp 2,.tmp 3,.tmp 4,.tmp 5],(.seq (.reg [⟨some 2,none,.mov (.c (.str ⟨#[]⟩))⟩,⟨some 3,none,.mov (.c (.int .i64 0))⟩,⟨some 4,none,.mov (.c (.int .i64 0))⟩,⟨some 5,none,.mov (.c (.int .i64 0))⟩]) (.seq (.seq (.reg [⟨some 14,none,.mov (.t 0)⟩,⟨some 15,none,.len .sl (.t 14)⟩,⟨some 16,none,.ibin .eql (.t 15) (.c (.int .i64 0))⟩,⟨some 17,none,.mov (.t 16)⟩,⟨some 18,(some (17,false)),.mov (.t 0)⟩,⟨some 19,(some (17,false)),.iaddrSl 1 (.t 18) (.c (.int .i64 0))⟩,⟨some 20,(some (17,false)),.load false 1 (.t 19)⟩,⟨some 21,(some (17,false)),.len .str (.t 20)⟩,⟨some 22,(some (17,false)),.ibin .neq (.t 21) (.c (.int .i64 64))⟩,⟨some 23,none,.pick (.t 17) (.c (.bool true)) (.t 22)⟩]) (.cond (.t 23) (.seq (.reg [⟨some 2,none,.mov (.c (.str ⟨#[]⟩))⟩,⟨some 3,none,.mov (.c (.int .i64 0))⟩,⟨some 4,none,.mov (.c (.int .i64 0))⟩,⟨some 5,none,.mov (.c (.int .i64 0))⟩]) .ret) .skip)) (.seq (.reg [⟨some 24,none,.mov (.t 0)⟩,⟨some 25,none,.iaddrSl 1 (.t 24) (.c (.int .i64 0))⟩,⟨some 26,none,.load false 1 (.t 25)⟩,⟨some 27,none,.sliceStr (.t 26) (some (.c (.int .i64 56))) (some (.c (.int .i64 60)))⟩,⟨some 28,none,.call (.c (.fn 63 [] [])) [(.t 27)]⟩,⟨some 6,none,.mov (.t 28)⟩]) (.seq (.reg [⟨some 29,none,.mov (.t 0)⟩,⟨some 30,none,.iaddrSl 1 (.t 29) (.c (.int .i64 0))⟩,⟨some 31,none,.load false 1 (.t 30)⟩,⟨some 32,none,.sliceStr (.t 31) (some (.c (.int .i64 62))) (some (.c (.int .i64 64)))⟩,⟨some 33,none,.call (.c (.fn 63 [] [])) [(.t 32)]⟩,⟨some 7,none,.mov (.t 33)⟩]) (.seq (.seq (.reg [⟨some 34,none,.mov (.t 6)⟩,⟨some 35,none,.ibin .lss (.t 34) (.c (.int .i64 1))⟩,⟨some 36,none,.mov (.t 35)⟩,⟨some 37,(some (36,false)),.mov (.t 6)⟩,⟨some 38,(some (36,false)),.ibin .gtr (.t 37) (.c (.int .i64 2147483647))⟩,⟨some 39,none,.pick (.t 36) (.c (.bool true)) (.t 38)⟩,⟨some 40,none,.mov (.t 39)⟩,⟨some 41,(some (40,false)),.mov (.t 0)⟩,⟨some 42,(some (40,false)),.iaddrSl 1 (.t 41) (.c (.int .i64 0))⟩,⟨some 43,(some (40,false)),.load false 1 (.t 42)⟩,⟨some 44,(some (40,false)),.sliceStr (.t 43) (some (.c (.int .i64 60))) (some (.c (.int .i64 62)))⟩,⟨some 45,(some (40,false)),.call (.c (.fn 63 [] [])) [(.t 44)]⟩,⟨some 46,(some (40,false)),.ibin .neq (.t 45) (.c (.int .i64 0))⟩,⟨some 47,none,.pick (.t 40) (.c (.bool true)) (.t 46)⟩,⟨some 48,none,.mov (.t 47)⟩,⟨some 49,(some (48,false)),.mov (.t 7)⟩,⟨some 50,(some (48,false)),.ibin .lss (.t 49) (.c (.int .i64 1))⟩,⟨some 51,none,.pick (.t 48) (.c (.bool true)) (.t 50)⟩,⟨some 52,none,.mov (.t 51)⟩,⟨some 53,(some (52,false)),.mov (.t 7)⟩,⟨some 54,(some (52,false)),.ibin .gtr (.t 53) (.c (.int .i64 108))⟩,⟨some 55,none,.pick (.t 52) (.c (.bool true)) (.t 54)⟩]) (.cond (.t 55) (.seq (.reg [⟨some 2,none,.mov (.c (.str ⟨#[]⟩))⟩,⟨some 3,none,.mov (.c (.int .i64 0))⟩,⟨some 4,none,.mov (.c (.int .i64 0))⟩,⟨some 5,none,.mov (.c (.int .i64 0))⟩]) .ret) .skip)) (.seq (.reg [⟨some 8,none,.mov (.c (.str ⟨#[]⟩))⟩]) (.seq (.seq (.reg [⟨some 9,none,.mov (.c (.int .i64 0))⟩]) (.block 0 (.loop (.seq (.seq (.reg [⟨some 56,none,.mov (.t 9)⟩,⟨some 57,none,.mov (.t 7)⟩,⟨some 58,none,.ibin .lss (.t 56) (.t 57)⟩]) (.cond (.t 58) .skip (.exit 0))) (.seq (.block 1 (.seq (.seq (.draw [⟨some 61,none,.mov (.t 9)⟩,⟨some 62,none,.mov (.t 0)⟩,⟨some 63,none,.len .sl (.t 62)⟩,⟨some 64,none,.ibin .geq (.t 61) (.t 63)⟩,⟨some 65,none,.mov (.t 64)⟩,⟨some 66,(some (65,false)),.mov (.t 0)⟩,⟨some 67,(some (65,false)),.mov (.t 9)⟩,⟨some 68,(some (65,false)),.iaddrSl 1 (.t 66) (.t 67)⟩,⟨some 69,(some (65,false)),.load false 1 (.t 68)⟩,⟨some 70,(some (65,false)),.len .str (.t 69)⟩,⟨some 71,(some (65,false)),.ibin .neq (.t 70) (.c (.int .i64 64))⟩,⟨some 72,none,.pick (.t 65) (.c (.bool true)) (.t 71)⟩,⟨some 73,none,.mov (.t 72)⟩,⟨some 74,(some (73,false)),.mov (.t 0)⟩,⟨some 75,(some (73,false)),.mov (.t 9)⟩,⟨some 76,(some (73,false)),.iaddrSl 1 (.t 74) (.t 75)⟩,⟨some 77,(some (73,false)),.load false 1 (.t 76)⟩,⟨some 78,(some (73,false)),.sliceStr (.t 77) (some (.c (.int .i64 56))) none⟩,⟨some 79,(some (73,false)),.mov (.t 6)⟩,⟨some 80,(some (73,false)),.call (.c (.fn 53 [] [])) [(.t 79),(.c (.int .i64 4))]⟩,⟨some 81,(some (73,false)),.mov (.t 9)⟩,⟨some 82,(some (73,false)),.call (.c (.fn 53 [] [])) [(.t 81),(.c (.int .i64 2))]⟩,⟨some 83,(some (73,false)),.ibin .add (.t 80) (.t 82)⟩,⟨some 84,(some (73,false)),.mov (.t 7)⟩,⟨some 85,(some (73,false)),.call (.c (.fn 53 [] [])) [(.t 84),(.c (.int .i64 2))]⟩,⟨some 86,(some (73,false)),.ibin .add (.t 83) (.t 85)⟩,⟨some 87,(some (73,false)),.ibin .neq (.t 78) (.t 86)⟩,⟨some 88,none,.pick (.t 73) (.c (.bool true)) (.t 87)⟩] [[],[],[1],[0,2,1],[3,0,2,1],[4,3,0,2,1],[4,3,0,2,1],[5,6,4,3,0,2,1],[7,4,5,6,3,0,2,1],[8,4,7,5,6,3,0,2,1],[9,4,8,7,5,6,3,0,2,1],[4,10,3,0,2,1,9,8,7,5,6],[11,4,10,3,0,2,1,9,8,7,5,6],[12,11,4,10,3,0,2,1,9,8,7,5,6],[12,11,4,10,3,0,2,1,9,8,7,5,6],[13,14,12,11,4,10,3,0,2,1,9,8,7,5,6],[15,12,13,14,11,4,10,3,0,2,1,9,8,7,5,6],[16,12,15,13,14,11,4,10,3,0,2,1,9,8,7,5,6],[12,11,4,10,3,0,2,1,9,8,7,5,6],[18,12,11,4,10,3,0,2,1,9,8,7,5,6],[12,11,4,10,3,0,2,1,9,8,7,5,6],[20,19,12,11,4,10,3,0,2,1,9,8,7,5,6,18],[19,21,12,18,11,4,10,3,0,2,1,9,8,7,5,6,20],[12,11,4,10,3,0,2,1,9,8,7,5,6],[23,21,12,11,4,10,3,0,2,1,9,8,7,5,6,20,19,18],[22,24,12,19,21,18,11,4,10,3,0,2,1,9,8,7,5,6,20,23],[17,25,12,16,15,13,14,11,4,10,3,0,2,1,9,8,7,5,6,22,24,19,21,18,20,23],[12,26,11,4,10,3,0,2,1,9,8,7,5,6,17,25,16,15,13,14,22,24,19,21,18,20,23]]) (.cond (.t 88) (.seq (.reg [⟨some 89,none,.mov (.t 9)⟩,⟨some 2,none,.mov (.c (.str ⟨#[]⟩))⟩,⟨some 3,none,.mov (.c (.int .i64 0))⟩,⟨some 4,none,.mov (.c (.int .i64 0))⟩,⟨some 5,none,.mov (.t 89)⟩]) .ret) .skip)) (.reg [⟨some 90,none,.mov (.t 8)⟩,⟨some 91,none,.mov (.t 0)⟩,⟨some 92,none,.mov (.t 9)⟩,⟨some 93,none,.iaddrSl 1 (.t 91) (.t 92)⟩,⟨some 94,none,.load false 1 (.t 93)⟩,⟨some 95,none,.sliceStr (.t 94) none (some (.c (.int .i64 56)))⟩,⟨some 96,none,.ibin .add (.t 90) (.t 95)⟩,⟨some 8,none,.mov (.t 96)⟩]))) (.reg [⟨some 59,none,.mov (.t 9)⟩,⟨some 60,none,.ibin .add (.t 59) (.c (.int .i64 1))⟩,⟨some 9,none,.mov (.t 60)⟩])))))) (.seq (.reg [⟨some 97,none,.mov (.t 8)⟩,⟨some 98,none,.sliceStr (.t 97) none (some (.c (.int .i64 4)))⟩,⟨some 99,none,.call (.c (.fn 63 [] [])) [(.t 98)]⟩,⟨some 10,none,.mov (.t 99)⟩]) (.seq (.seq (.reg [⟨some 100,none,.mov (.t 10)⟩,⟨some 101,none,.ibin .gtr (.t 100) (.c (.int .i64 6000))⟩,⟨some 102,none,.mov (.t 101)⟩,⟨some 103,(some (102,false)),.mov (.t 10)⟩,⟨some 104,(some (102,false)),.mov (.t 8)⟩,⟨some 105,(some (102,false)),.len .str (.t 104)⟩,⟨some 106,(some (102,false)),.ibin .sub (.t 105) (.c (.int .i64 8))⟩,⟨some 107,(some (102,false)),.ibin .gtr (.t 103) (.t 106)⟩,⟨some 108,none,.pick (.t 102) (.c (.bool true)) (.t 107)⟩]) (.cond (.t 108) (.seq (.reg [⟨some 2,none,.mov (.c (.str ⟨#[]⟩))⟩,⟨some 3,none,.mov (.c (.int .i64 0))⟩,⟨some 4,none,.mov (.c (.int .i64 0))⟩,⟨some 5,none,.mov (.c (.int .i64 0))⟩]) .ret) .skip)) (.seq (.reg [⟨some 110,none,.mov (.t 6)⟩,⟨some 111,none,.mov (.t 8)⟩,⟨some 112,none,.mov (.t 10)⟩,⟨some 113,none,.ibin .add (.c (.int .i64 8)) (.t 112)⟩,⟨some 114,none,.sliceStr (.t 111) (some (.c (.int .i64 8))) (some (.t 113))⟩,⟨some 115,none,.call (.c (.fn 22 [] [])) [(.t 110),(.t 114)]⟩,⟨some 109,none,.mov (.t 115)⟩,⟨some 116,none,.extract (.t 109) 0⟩,⟨some 117,none,.extract (.t 109) 1⟩,⟨some 11,none,.mov (.t 116)⟩,⟨some 12,none,.mov (.t 117)⟩]) (.seq (.seq (.reg [⟨some 118,none,.mov (.t 12)⟩,⟨some 119,none,.un .not (.t 118)⟩,⟨some 120,none,.mov (.t 119)⟩,⟨some 121,(some (120,false)),.mov (.t 11)⟩,⟨some 122,(some (120,false)),.len .sl (.t 121)⟩,⟨some 123,(some (120,false)),.mov (.t 7)⟩,⟨some 124,(some (120,false)),.ibin .neq (.t 122) (.t 123)⟩,⟨some 125,none,.pick (.t 120) (.c (.bool true)) (.t 124)⟩]) (.cond (.t 125) (.seq (.reg [⟨some 2,none,.mov (.c (.str ⟨#[]⟩))⟩,⟨some 3,none,.mov (.c (.int .i64 0))⟩,⟨some 4,none,.mov (.c (.int .i64 0))⟩,⟨some 5,none,.mov (.c (.int .i64 0))⟩]) .ret) .skip)) (.seq (.seq (.reg [⟨some 13,none,.mov (.c (.int .i64 0))⟩]) (.block 2 (.loop (.seq (.seq (.reg [⟨some 126,none,.mov (.t 13)⟩,⟨some 127,none,.mov (.t 7)⟩,⟨some 128,none,.ibin .lss (.t 126) (.t 127)⟩]) (.cond (.t 128) .skip (.exit 2))) (.seq (.block 3 (.seq (.draw [⟨some 131,none,.mov (.t 11)⟩,⟨some 132,none,.mov (.t 13)⟩,⟨some 133,none,.iaddrSl 1 (.t 131) (.t 132)⟩,⟨some 134,none,.load false 1 (.t 133)⟩,⟨some 135,none,.mov (.t 0)⟩,⟨some 136,none,.mov (.t 13)⟩,⟨some 137,none,.iaddrSl 1 (.t 135) (.t 136)⟩,⟨some 138,none,.load false 1 (.t 137)⟩,⟨some 139,none,.ibin .neq (.t 134) (.t 138)⟩] [[],[],[0,1],[2,0,1],[],[],[4,5],[6,4,5],[3,7,2,0,1,6,4,5]]) (.cond (.t 139) (.seq (.reg [⟨some 2,none,.mov (.c (.str ⟨#[]⟩))⟩,⟨some 3,none,.mov (.c (.int .i64 0))⟩,⟨some 4,none,.mov (.c (.int .i64 0))⟩,⟨some 5,none,.mov (.c (.int .i64 0))⟩]) .ret) .skip))) (.reg [⟨some 129,none,.mov (.t 13)⟩,⟨some 130,none,.ibin .add (.t 129) (.c (.int .i64 1))⟩,⟨some 13,none,.mov (.t 130)⟩])))))) (.seq (.reg [⟨some 140,none,.mov (.t 8)⟩,⟨some 141,none,.mov (.t 10)⟩,⟨some 142,none,.ibin .add (.c (.int .i64 8)) (.t 141)⟩,⟨some 143,none,.sliceStr (.t 140) (some (.c (.int .i64 8))) (some (.t 142))⟩,⟨some 144,none,.mov (.t 6)⟩,⟨some 145,none,.mov (.t 7)⟩,⟨some 2,none,.mov (.t 143)⟩,⟨some 3,none,.mov (.t 144)⟩,⟨some 4,none,.mov (.t 145)⟩,⟨some 5,none,.mov (.c (.int .i64 (-1)))⟩]) .ret)))))))))))))⟩
-- quitrent/quitrentref02.Of
def F54 : AFun:=⟨5,1,[.tmp 2],(.seq (.reg [⟨some 2,none,.mov (.c (.int .u32 0))⟩]) (.seq (.reg [⟨some 3,none,.mov (.t 0)⟩,⟨some 4,none,.call (.c (.fn 71 [] [])) [(.c (.int .u32 1)),(.t 3)]⟩,⟨some 2,none,.mov (.t 4)⟩]) .ret))⟩
-- quitrent/quitrentref02.More
def F71 : AFun:=⟨26,2,[.tmp 4],(.seq (.reg [⟨some 4,none,.mov (.c (.int .u32 0))⟩]) (.seq (.reg [⟨some 7,none,.mov (.t 0)⟩,⟨some 8,none,.i2i .u64 (.t 7)⟩,⟨some 5,none,.mov (.t 8)⟩]) (.seq (.seq (.reg [⟨some 6,none,.mov (.c (.int .i64 0))⟩]) (.block 0 (.loop (.seq (.seq (.reg [⟨some 9,none,.mov (.t 6)⟩,⟨some 10,none,.mov (.t 1)⟩,⟨some 11,none,.len .str (.t 10)⟩,⟨some 12,none,.ibin .lss (.t 9) (.t 11)⟩]) (.cond (.t 12) .skip (.exit 0))) (.seq (.block 1 (.reg [⟨some 15,none,.mov (.t 5)⟩,⟨some 16,none,.ibin .mul (.t 15) (.c (.int .u64 257))⟩,⟨some 17,none,.mov (.t 1)⟩,⟨some 18,none,.mov (.t 6)⟩,⟨some 19,none,.idxStr (.t 17) (.t 18)⟩,⟨some 20,none,.i2i .u64 (.t 19)⟩,⟨some 21,none,.ibin .add (.t 16) (.t 20)⟩,⟨some 22,none,.ibin .add (.t 21) (.c (.int .u64 1))⟩,⟨some 23,none,.ibin .rem (.t 22) (.c (.int .u64 4294967296))⟩,⟨some 5,none,.mov (.t 23)⟩])) (.reg [⟨some 13,none,.mov (.t 6)⟩,⟨some 14,none,.ibin .add (.t 13) (.c (.int .i64 1))⟩,⟨some 6,none,.mov (.t 14)⟩])))))) (.seq (.reg [⟨some 24,none,.mov (.t 5)⟩,⟨some 25,none,.i2i .u32 (.t 24)⟩,⟨some 4,none,.mov (.t 25)⟩]) .ret))))⟩
theorem c53 : cFun Tryz.prog [1,0,2,3,4,5,6,7,8,9,10,11,12,13] Tryz.f53 = some F53:=by kernel_rfl
theorem c63 : cFun Tryz.prog [1,0,2,3,4,5,6,7,8,9,10,11,12,13] Tryz.f63 = some F63:=by kernel_rfl
theorem c21 : cFun Tryz.prog [1,0,2,3,4,5,6,7,8,9,10,11,12,13] Tryz.f21 = some F21:=by kernel_rfl
theorem c22 : cFun Tryz.prog [1,0,2,3,4,5,6,7,8,9,10,11,12,13] Tryz.f22 = some F22:=by kernel_rfl
theorem c46 : cFun Tryz.prog [1,0,2,3,4,5,6,7,8,9,10,11,12,13] Tryz.f46 = some F46:=by kernel_rfl
theorem c54 : cFun Tryz.prog [1,0,2,3,4,5,6,7,8,9,10,11,12,13] Tryz.f54 = some F54:=by kernel_rfl
theorem c71 : cFun Tryz.prog [1,0,2,3,4,5,6,7,8,9,10,11,12,13] Tryz.f71 = some F71:=by kernel_rfl
end Go.Proofs.YthapdikdeoeplaaGreatDoor.Z7
end
section
set_option linter.unusedVariables false
set_option linter.unnecessarySimpa false
open Go AH
set_option linter.unusedSimpArgs false
set_option maxRecDepth 100000
namespace Go.Proofs.YthapdikdeoeplaaGreatDoor.Z7
theorem q0 : min (IntKind.i64.wrap (8 * 0)).toNat IntKind.i64.bits = 0:=by decide
theorem fdq (n : Int) (k : Nat) : n.fdiv (2 ^ k) = n / 2 ^ k:=by
  rw [Int.fdiv_eq_ediv_of_nonneg _ (Int.le_of_lt (Int.pow_pos (by decide)))]
theorem rnum4 (n : Int) : Pure S0 53 [.int .i64 n,.int .i64 4] (.str (num4 n)):=by
  refine fun_sound okF0 Tryz.func53 c53 ?_
  unfold wpF F53
  simp only [AH.SD,AH.SE,AOp.call?,AOp.next?,bstep,AV.cells,unAV,binAV,retQ,retV,AH.sliceElems,AH.bytesOf,AH.strOp,AH.bound,AH.missQ,AH.minmaxAV,AH.readOf,AH.effOf,Nat.reduceBEq,Nat.reduceAdd,Nat.reduceLT,↓reduceIte,Nat.reduceEqDiff,Nat.reduceLeDiff,Nat.reduceSub,Nat.reduceMul,Int.reduceSub,Int.reduceToNat,Int.reduceBEq,Int.reduceBNe,Int.reduceLT,Int.reduceGT,Int.reduceLE,Int.reduceGE,Int.reduceNeg,Int.reduceAdd]
  repeat (refine ⟨by first | rfl | decide | omega | (simp only [List.length_map,List.length_set,and_true]; omega),?_⟩)
  refine loop_unroll ctxU_monoB ?_
  simp only [AH.SD,AH.SE,AOp.call?,AOp.next?,bstep,AV.cells,unAV,binAV,retQ,retV,AH.sliceElems,AH.bytesOf,AH.strOp,AH.bound,AH.missQ,AH.minmaxAV,AH.readOf,AH.effOf,Nat.reduceBEq,Nat.reduceAdd,Nat.reduceLT,↓reduceIte,Nat.reduceEqDiff,Nat.reduceLeDiff,Nat.reduceSub,Nat.reduceMul,Int.reduceSub,Int.reduceToNat,Int.reduceBEq,Int.reduceBNe,Int.reduceLT,Int.reduceGT,Int.reduceLE,Int.reduceGE,Int.reduceNeg,Int.reduceAdd,w8]
  repeat (refine ⟨by first | rfl | decide | omega | (simp only [List.length_map,List.length_set,and_true]; omega),?_⟩)
  refine loop_unroll ctxU_monoB ?_
  simp only [AH.SD,AH.SE,AOp.call?,AOp.next?,bstep,AV.cells,unAV,binAV,retQ,retV,AH.sliceElems,AH.bytesOf,AH.strOp,AH.bound,AH.missQ,AH.minmaxAV,AH.readOf,AH.effOf,Nat.reduceBEq,Nat.reduceAdd,Nat.reduceLT,↓reduceIte,Nat.reduceEqDiff,Nat.reduceLeDiff,Nat.reduceSub,Nat.reduceMul,Int.reduceSub,Int.reduceToNat,Int.reduceBEq,Int.reduceBNe,Int.reduceLT,Int.reduceGT,Int.reduceLE,Int.reduceGE,Int.reduceNeg,Int.reduceAdd,w8]
  repeat (refine ⟨by first | rfl | decide | omega | (simp only [List.length_map,List.length_set,and_true]; omega),?_⟩)
  refine loop_unroll ctxU_monoB ?_
  simp only [AH.SD,AH.SE,AOp.call?,AOp.next?,bstep,AV.cells,unAV,binAV,retQ,retV,AH.sliceElems,AH.bytesOf,AH.strOp,AH.bound,AH.missQ,AH.minmaxAV,AH.readOf,AH.effOf,Nat.reduceBEq,Nat.reduceAdd,Nat.reduceLT,↓reduceIte,Nat.reduceEqDiff,Nat.reduceLeDiff,Nat.reduceSub,Nat.reduceMul,Int.reduceSub,Int.reduceToNat,Int.reduceBEq,Int.reduceBNe,Int.reduceLT,Int.reduceGT,Int.reduceLE,Int.reduceGE,Int.reduceNeg,Int.reduceAdd,w8]
  repeat (refine ⟨by first | rfl | decide | omega | (simp only [List.length_map,List.length_set,and_true]; omega),?_⟩)
  refine loop_unroll ctxU_monoB ?_
  simp only [AH.SD,AH.SE,AOp.call?,AOp.next?,bstep,AV.cells,unAV,binAV,retQ,retV,AH.sliceElems,AH.bytesOf,AH.strOp,AH.bound,AH.missQ,AH.minmaxAV,AH.readOf,AH.effOf,Nat.reduceBEq,Nat.reduceAdd,Nat.reduceLT,↓reduceIte,Nat.reduceEqDiff,Nat.reduceLeDiff,Nat.reduceSub,Nat.reduceMul,Int.reduceSub,Int.reduceToNat,Int.reduceBEq,Int.reduceBNe,Int.reduceLT,Int.reduceGT,Int.reduceLE,Int.reduceGE,Int.reduceNeg,Int.reduceAdd,w8]
  repeat (refine ⟨by first | rfl | decide | omega | (simp only [List.length_map,List.length_set,and_true]; omega),?_⟩)
  refine loop_unroll ctxU_monoB ?_
  simp only [AH.SD,AH.SE,AOp.call?,AOp.next?,bstep,AV.cells,unAV,binAV,retQ,retV,AH.sliceElems,AH.bytesOf,AH.strOp,AH.bound,AH.missQ,AH.minmaxAV,AH.readOf,AH.effOf,Nat.reduceBEq,Nat.reduceAdd,Nat.reduceLT,↓reduceIte,Nat.reduceEqDiff,Nat.reduceLeDiff,Nat.reduceSub,Nat.reduceMul,Int.reduceSub,Int.reduceToNat,Int.reduceBEq,Int.reduceBNe,Int.reduceLT,Int.reduceGT,Int.reduceLE,Int.reduceGE,Int.reduceNeg,Int.reduceAdd,w8]
  repeat (refine ⟨by first | rfl | decide | omega | (simp only [List.length_map,List.length_set,and_true]; omega),?_⟩)
  simp only [m0,m1,m2,m3,fdq]
  rfl
theorem rnum2 (n : Int) : Pure S0 53 [.int .i64 n,.int .i64 2] (.str (num2 n)):=by
  refine fun_sound okF0 Tryz.func53 c53 ?_
  unfold wpF F53
  simp only [AH.SD,AH.SE,AOp.call?,AOp.next?,bstep,AV.cells,unAV,binAV,retQ,retV,AH.sliceElems,AH.bytesOf,AH.strOp,AH.bound,AH.missQ,AH.minmaxAV,AH.readOf,AH.effOf,Nat.reduceBEq,Nat.reduceAdd,Nat.reduceLT,↓reduceIte,Nat.reduceEqDiff,Nat.reduceLeDiff,Nat.reduceSub,Nat.reduceMul,Int.reduceSub,Int.reduceToNat,Int.reduceBEq,Int.reduceBNe,Int.reduceLT,Int.reduceGT,Int.reduceLE,Int.reduceGE,Int.reduceNeg,Int.reduceAdd]
  repeat (refine ⟨by first | rfl | decide | omega | (simp only [List.length_map,List.length_set,and_true]; omega),?_⟩)
  refine loop_unroll ctxU_monoB ?_
  simp only [AH.SD,AH.SE,AOp.call?,AOp.next?,bstep,AV.cells,unAV,binAV,retQ,retV,AH.sliceElems,AH.bytesOf,AH.strOp,AH.bound,AH.missQ,AH.minmaxAV,AH.readOf,AH.effOf,Nat.reduceBEq,Nat.reduceAdd,Nat.reduceLT,↓reduceIte,Nat.reduceEqDiff,Nat.reduceLeDiff,Nat.reduceSub,Nat.reduceMul,Int.reduceSub,Int.reduceToNat,Int.reduceBEq,Int.reduceBNe,Int.reduceLT,Int.reduceGT,Int.reduceLE,Int.reduceGE,Int.reduceNeg,Int.reduceAdd,w8]
  repeat (refine ⟨by first | rfl | decide | omega | (simp only [List.length_map,List.length_set,and_true]; omega),?_⟩)
  refine loop_unroll ctxU_monoB ?_
  simp only [AH.SD,AH.SE,AOp.call?,AOp.next?,bstep,AV.cells,unAV,binAV,retQ,retV,AH.sliceElems,AH.bytesOf,AH.strOp,AH.bound,AH.missQ,AH.minmaxAV,AH.readOf,AH.effOf,Nat.reduceBEq,Nat.reduceAdd,Nat.reduceLT,↓reduceIte,Nat.reduceEqDiff,Nat.reduceLeDiff,Nat.reduceSub,Nat.reduceMul,Int.reduceSub,Int.reduceToNat,Int.reduceBEq,Int.reduceBNe,Int.reduceLT,Int.reduceGT,Int.reduceLE,Int.reduceGE,Int.reduceNeg,Int.reduceAdd,w8]
  repeat (refine ⟨by first | rfl | decide | omega | (simp only [List.length_map,List.length_set,and_true]; omega),?_⟩)
  refine loop_unroll ctxU_monoB ?_
  simp only [AH.SD,AH.SE,AOp.call?,AOp.next?,bstep,AV.cells,unAV,binAV,retQ,retV,AH.sliceElems,AH.bytesOf,AH.strOp,AH.bound,AH.missQ,AH.minmaxAV,AH.readOf,AH.effOf,Nat.reduceBEq,Nat.reduceAdd,Nat.reduceLT,↓reduceIte,Nat.reduceEqDiff,Nat.reduceLeDiff,Nat.reduceSub,Nat.reduceMul,Int.reduceSub,Int.reduceToNat,Int.reduceBEq,Int.reduceBNe,Int.reduceLT,Int.reduceGT,Int.reduceLE,Int.reduceGE,Int.reduceNeg,Int.reduceAdd,w8]
  repeat (refine ⟨by first | rfl | decide | omega | (simp only [List.length_map,List.length_set,and_true]; omega),?_⟩)
  simp only [m0,m1,m2,m3,fdq]
  rfl
theorem x3 : IntKind.i64.wrap ((4 : Int) - 1) = 3:=by decide
theorem x2 : IntKind.i64.wrap ((3 : Int) - 1) = 2:=by decide
theorem x1 : IntKind.i64.wrap ((2 : Int) - 1) = 1:=by decide
theorem x0 : IntKind.i64.wrap ((1 : Int) - 1) = 0:=by decide
theorem xm : IntKind.i64.wrap ((0 : Int) - 1) = -1:=by decide
theorem y3 : decide ((3 : Int) ≥ 0) = true:=rfl
theorem y2 : decide ((2 : Int) ≥ 0) = true:=rfl
theorem y1 : decide ((1 : Int) ≥ 0) = true:=rfl
theorem y0 : decide ((0 : Int) ≥ 0) = true:=rfl
theorem ym : decide ((-1 : Int) ≥ 0) = false:=rfl
theorem wz : IntKind.i64.wrap 0 = 0:=by decide
theorem wm : IntKind.i64.wrap (-1) = -1:=by decide
theorem t3 : (3 : Int).toNat = 3:=rfl
theorem t2 : (2 : Int).toNat = 2:=rfl
theorem t1 : (1 : Int).toNat = 1:=rfl
theorem t0 : (0 : Int).toNat = 0:=rfl
theorem vst {x : Int} {b : UInt8} (h0 : 0 ≤ x) (h1 : x < 1099511627776) : IntKind.i64.wrap (IntKind.i64.wrap (x * 256) + IntKind.i64.wrap (b.toNat : Int)) = x * 256 + b.toNat:=by
  have:=b.toNat_lt
  simp only [IntKind.wrap_i64]
  omega
theorem rval2 (a b : UInt8) : Pure S0 63 [.str ⟨#[a,b]⟩] (.int .i64 (val2 a b)):=by
  refine fun_sound okF0 Tryz.func63 c63 ?_
  unfold wpF F63
  simp only [AH.SD,AH.SE,AOp.call?,AOp.next?,bstep,AV.cells,unAV,binAV,retQ,retV,AH.sliceElems,AH.bytesOf,AH.strOp,AH.bound,AH.missQ,AH.minmaxAV,AH.readOf,AH.effOf,Nat.reduceBEq,Nat.reduceAdd,Nat.reduceLT,↓reduceIte,Nat.reduceEqDiff,Nat.reduceLeDiff,Nat.reduceSub,Nat.reduceMul,Int.reduceSub,Int.reduceToNat,Int.reduceBEq,Int.reduceBNe,Int.reduceLT,Int.reduceGT,Int.reduceLE,Int.reduceGE,Int.reduceNeg,Int.reduceAdd,sz2,wz,wm,sz4,x3,x2,x1,x0,xm,y3,y2,y1,y0,ym,t3,t2,t1,t0]
  refine loop_unroll ctxU_monoB ?_
  simp only [AH.SD,AH.SE,AOp.call?,AOp.next?,bstep,AV.cells,unAV,binAV,retQ,retV,AH.sliceElems,AH.bytesOf,AH.strOp,AH.bound,AH.missQ,AH.minmaxAV,AH.readOf,AH.effOf,Nat.reduceBEq,Nat.reduceAdd,Nat.reduceLT,↓reduceIte,Nat.reduceEqDiff,Nat.reduceLeDiff,Nat.reduceSub,Nat.reduceMul,Int.reduceSub,Int.reduceToNat,Int.reduceBEq,Int.reduceBNe,Int.reduceLT,Int.reduceGT,Int.reduceLE,Int.reduceGE,Int.reduceNeg,Int.reduceAdd,sz2,wz,wm,sz4,x3,x2,x1,x0,xm,y3,y2,y1,y0,ym,t3,t2,t1,t0]
  repeat ((with_reducible refine And.intro ?_ ?_); focus (first | rfl | decide | omega | (simp only [List.length_map,List.length_set,and_true]; omega)))
  refine loop_unroll ctxU_monoB ?_
  simp only [AH.SD,AH.SE,AOp.call?,AOp.next?,bstep,AV.cells,unAV,binAV,retQ,retV,AH.sliceElems,AH.bytesOf,AH.strOp,AH.bound,AH.missQ,AH.minmaxAV,AH.readOf,AH.effOf,Nat.reduceBEq,Nat.reduceAdd,Nat.reduceLT,↓reduceIte,Nat.reduceEqDiff,Nat.reduceLeDiff,Nat.reduceSub,Nat.reduceMul,Int.reduceSub,Int.reduceToNat,Int.reduceBEq,Int.reduceBNe,Int.reduceLT,Int.reduceGT,Int.reduceLE,Int.reduceGE,Int.reduceNeg,Int.reduceAdd,sz2,wz,wm,sz4,x3,x2,x1,x0,xm,y3,y2,y1,y0,ym,t3,t2,t1,t0]
  repeat ((with_reducible refine And.intro ?_ ?_); focus (first | rfl | decide | omega | (simp only [List.length_map,List.length_set,and_true]; omega)))
  refine loop_unroll ctxU_monoB ?_
  simp only [AH.SD,AH.SE,AOp.call?,AOp.next?,bstep,AV.cells,unAV,binAV,retQ,retV,AH.sliceElems,AH.bytesOf,AH.strOp,AH.bound,AH.missQ,AH.minmaxAV,AH.readOf,AH.effOf,Nat.reduceBEq,Nat.reduceAdd,Nat.reduceLT,↓reduceIte,Nat.reduceEqDiff,Nat.reduceLeDiff,Nat.reduceSub,Nat.reduceMul,Int.reduceSub,Int.reduceToNat,Int.reduceBEq,Int.reduceBNe,Int.reduceLT,Int.reduceGT,Int.reduceLE,Int.reduceGE,Int.reduceNeg,Int.reduceAdd,sz2,wz,wm,sz4,x3,x2,x1,x0,xm,y3,y2,y1,y0,ym,t3,t2,t1,t0]
  repeat ((with_reducible refine And.intro ?_ ?_); focus (first | rfl | decide | omega | (simp only [List.length_map,List.length_set,and_true]; omega)))
  have ha:=a.toNat_lt
  have hb:=b.toNat_lt
  rw [vst (x:=0) (by decide) (by decide),vst (x:=0 * 256 + (b.toNat : Int)) (by omega) (by omega)]
  simp only [val2]
  congr 1; omega
theorem rval4 (a b c d : UInt8) : Pure S0 63 [.str ⟨#[a,b,c,d]⟩] (.int .i64 (val4 a b c d)):=by
  refine fun_sound okF0 Tryz.func63 c63 ?_
  unfold wpF F63
  simp only [AH.SD,AH.SE,AOp.call?,AOp.next?,bstep,AV.cells,unAV,binAV,retQ,retV,AH.sliceElems,AH.bytesOf,AH.strOp,AH.bound,AH.missQ,AH.minmaxAV,AH.readOf,AH.effOf,Nat.reduceBEq,Nat.reduceAdd,Nat.reduceLT,↓reduceIte,Nat.reduceEqDiff,Nat.reduceLeDiff,Nat.reduceSub,Nat.reduceMul,Int.reduceSub,Int.reduceToNat,Int.reduceBEq,Int.reduceBNe,Int.reduceLT,Int.reduceGT,Int.reduceLE,Int.reduceGE,Int.reduceNeg,Int.reduceAdd,sz2,wz,wm,sz4,x3,x2,x1,x0,xm,y3,y2,y1,y0,ym,t3,t2,t1,t0]
  refine loop_unroll ctxU_monoB ?_
  simp only [AH.SD,AH.SE,AOp.call?,AOp.next?,bstep,AV.cells,unAV,binAV,retQ,retV,AH.sliceElems,AH.bytesOf,AH.strOp,AH.bound,AH.missQ,AH.minmaxAV,AH.readOf,AH.effOf,Nat.reduceBEq,Nat.reduceAdd,Nat.reduceLT,↓reduceIte,Nat.reduceEqDiff,Nat.reduceLeDiff,Nat.reduceSub,Nat.reduceMul,Int.reduceSub,Int.reduceToNat,Int.reduceBEq,Int.reduceBNe,Int.reduceLT,Int.reduceGT,Int.reduceLE,Int.reduceGE,Int.reduceNeg,Int.reduceAdd,sz2,wz,wm,sz4,x3,x2,x1,x0,xm,y3,y2,y1,y0,ym,t3,t2,t1,t0]
  repeat ((with_reducible refine And.intro ?_ ?_); focus (first | rfl | decide | omega | (simp only [List.length_map,List.length_set,and_true]; omega)))
  refine loop_unroll ctxU_monoB ?_
  simp only [AH.SD,AH.SE,AOp.call?,AOp.next?,bstep,AV.cells,unAV,binAV,retQ,retV,AH.sliceElems,AH.bytesOf,AH.strOp,AH.bound,AH.missQ,AH.minmaxAV,AH.readOf,AH.effOf,Nat.reduceBEq,Nat.reduceAdd,Nat.reduceLT,↓reduceIte,Nat.reduceEqDiff,Nat.reduceLeDiff,Nat.reduceSub,Nat.reduceMul,Int.reduceSub,Int.reduceToNat,Int.reduceBEq,Int.reduceBNe,Int.reduceLT,Int.reduceGT,Int.reduceLE,Int.reduceGE,Int.reduceNeg,Int.reduceAdd,sz2,wz,wm,sz4,x3,x2,x1,x0,xm,y3,y2,y1,y0,ym,t3,t2,t1,t0]
  repeat ((with_reducible refine And.intro ?_ ?_); focus (first | rfl | decide | omega | (simp only [List.length_map,List.length_set,and_true]; omega)))
  refine loop_unroll ctxU_monoB ?_
  simp only [AH.SD,AH.SE,AOp.call?,AOp.next?,bstep,AV.cells,unAV,binAV,retQ,retV,AH.sliceElems,AH.bytesOf,AH.strOp,AH.bound,AH.missQ,AH.minmaxAV,AH.readOf,AH.effOf,Nat.reduceBEq,Nat.reduceAdd,Nat.reduceLT,↓reduceIte,Nat.reduceEqDiff,Nat.reduceLeDiff,Nat.reduceSub,Nat.reduceMul,Int.reduceSub,Int.reduceToNat,Int.reduceBEq,Int.reduceBNe,Int.reduceLT,Int.reduceGT,Int.reduceLE,Int.reduceGE,Int.reduceNeg,Int.reduceAdd,sz2,wz,wm,sz4,x3,x2,x1,x0,xm,y3,y2,y1,y0,ym,t3,t2,t1,t0]
  repeat ((with_reducible refine And.intro ?_ ?_); focus (first | rfl | decide | omega | (simp only [List.length_map,List.length_set,and_true]; omega)))
  refine loop_unroll ctxU_monoB ?_
  simp only [AH.SD,AH.SE,AOp.call?,AOp.next?,bstep,AV.cells,unAV,binAV,retQ,retV,AH.sliceElems,AH.bytesOf,AH.strOp,AH.bound,AH.missQ,AH.minmaxAV,AH.readOf,AH.effOf,Nat.reduceBEq,Nat.reduceAdd,Nat.reduceLT,↓reduceIte,Nat.reduceEqDiff,Nat.reduceLeDiff,Nat.reduceSub,Nat.reduceMul,Int.reduceSub,Int.reduceToNat,Int.reduceBEq,Int.reduceBNe,Int.reduceLT,Int.reduceGT,Int.reduceLE,Int.reduceGE,Int.reduceNeg,Int.reduceAdd,sz2,wz,wm,sz4,x3,x2,x1,x0,xm,y3,y2,y1,y0,ym,t3,t2,t1,t0]
  repeat ((with_reducible refine And.intro ?_ ?_); focus (first | rfl | decide | omega | (simp only [List.length_map,List.length_set,and_true]; omega)))
  refine loop_unroll ctxU_monoB ?_
  simp only [AH.SD,AH.SE,AOp.call?,AOp.next?,bstep,AV.cells,unAV,binAV,retQ,retV,AH.sliceElems,AH.bytesOf,AH.strOp,AH.bound,AH.missQ,AH.minmaxAV,AH.readOf,AH.effOf,Nat.reduceBEq,Nat.reduceAdd,Nat.reduceLT,↓reduceIte,Nat.reduceEqDiff,Nat.reduceLeDiff,Nat.reduceSub,Nat.reduceMul,Int.reduceSub,Int.reduceToNat,Int.reduceBEq,Int.reduceBNe,Int.reduceLT,Int.reduceGT,Int.reduceLE,Int.reduceGE,Int.reduceNeg,Int.reduceAdd,sz2,wz,wm,sz4,x3,x2,x1,x0,xm,y3,y2,y1,y0,ym,t3,t2,t1,t0]
  repeat ((with_reducible refine And.intro ?_ ?_); focus (first | rfl | decide | omega | (simp only [List.length_map,List.length_set,and_true]; omega)))
  have ha:=a.toNat_lt
  have hb:=b.toNat_lt
  have hc:=c.toNat_lt
  have hd:=d.toNat_lt
  rw [vst (x:=0) (by decide) (by decide),vst (x:=0 * 256 + (d.toNat : Int)) (by omega) (by omega),vst (x:=(0 * 256 + (d.toNat : Int)) * 256 + (c.toNat : Int)) (by omega) (by omega),vst (x:=((0 * 256 + (d.toNat : Int)) * 256 + (c.toNat : Int)) * 256 + (b.toNat : Int)) (by omega) (by omega)]
  simp only [val4]
  congr 1; omega
theorem rsize_ok (s : ByteArray) (h : okSz s) : Pure S0 21 [.str s] (.int .i64 (sizeN s.size)):=by
  have h1 : s.size ≤ 1048576:=h
  refine fun_sound okF0 Tryz.func21 c21 ?_
  unfold wpF F21
  have w1 : IntKind.i64.wrap ((s.size : Int) + 8) = ((s.size + 8 : Nat) : Int):=by rw [IntKind.wrap_i64]; omega
  have w3 : IntKind.i64.wrap (((s.size + 8 : Nat) : Int) + 55) = ((s.size + 63 : Nat) : Int):=by rw [IntKind.wrap_i64]; omega
  have w4 : ((s.size + 63 : Nat) : Int).tdiv 56 = ((sizeN s.size : Nat) : Int):=by
    rw [Int.tdiv_eq_ediv_of_nonneg (by omega)]; unfold sizeN; omega
  have h5 : sizeN s.size ≤ 1048576:=by unfold sizeN; omega
  have w5 : IntKind.i64.wrap ((sizeN s.size : Nat) : Int) = ((sizeN s.size : Nat) : Int):=by rw [IntKind.wrap_i64]; omega
  simp only [AH.SD,AH.SE,AOp.call?,AOp.next?,bstep,AV.cells,unAV,binAV,retQ,retV,AH.sliceElems,AH.bytesOf,AH.strOp,AH.bound,AH.missQ,AH.minmaxAV,AH.readOf,AH.effOf,Nat.reduceBEq,Nat.reduceAdd,Nat.reduceLT,↓reduceIte,Nat.reduceEqDiff,Nat.reduceLeDiff,Nat.reduceSub,Nat.reduceMul,Int.reduceSub,Int.reduceToNat,Int.reduceBEq,Int.reduceBNe,Int.reduceLT,Int.reduceGT,Int.reduceLE,Int.reduceGE,Int.reduceNeg,Int.reduceAdd,w1,w3,w4,w5]
  decide
def rstep (n : Int) (b : UInt8) : Int:=(IntKind.u64.wrap (IntKind.u64.wrap (IntKind.u64.wrap (n * 257) + IntKind.u64.wrap (b.toNat : Int)) + 1)).tmod 4294967296
def rmSt (s : ByteArray) (n : Int) (i : Nat) : St:=⟨[(6,.int .i64 i),(5,.int .u64 ((s.data.toList.take i).foldl rstep n)),(1,.str s)],[]⟩
theorem byt_at {s : ByteArray} {i : Nat} (h : i < s.data.toList.length) : s.data.toList.getD i 0 = s.data.toList[i]:=by
  rw [List.getD_eq_getElem?_getD,List.getElem?_eq_getElem h]; rfl
theorem rmore_ok (n : Int) (s : ByteArray) (hs : s.size ≤ 1048576) : Pure S0 71 [.int .u32 n,.str s] (.int .u32 (IntKind.u32.wrap (s.data.toList.foldl rstep (IntKind.u64.wrap n)))):=by
  refine fun_sound okF0 Tryz.func71 c71 ?_
  unfold wpF F71
  simp only [AH.SD,AH.SE,AOp.call?,AOp.next?,bstep,AV.cells,unAV,binAV,retQ,retV,AH.sliceElems,AH.bytesOf,AH.strOp,AH.bound,AH.missQ,AH.minmaxAV,AH.readOf,AH.effOf,Nat.reduceBEq,Nat.reduceAdd,Nat.reduceLT,↓reduceIte,Nat.reduceEqDiff,Nat.reduceLeDiff,Nat.reduceSub,Nat.reduceMul,Int.reduceSub,Int.reduceToNat,Int.reduceBEq,Int.reduceBNe,Int.reduceLT,Int.reduceGT,Int.reduceLE,Int.reduceGE,Int.reduceNeg,Int.reduceAdd]
  have hsz : s.data.toList.length = s.size:=by rw [Array.length_toList]; rfl
  refine loop_do [] [6,5,1] [] (α:=Nat) (fun i =>s.size - i) (rmSt s (IntKind.u64.wrap n)) (fun i =>i ≤ s.size) 0 (Nat.zero_le _) (by simp only [AH.SD,AH.SE,AOp.call?,AOp.next?,bstep,AV.cells,unAV,binAV,retQ,retV,AH.sliceElems,AH.bytesOf,AH.strOp,AH.bound,AH.missQ,AH.minmaxAV,AH.readOf,AH.effOf,Nat.reduceBEq,Nat.reduceAdd,Nat.reduceLT,↓reduceIte,Nat.reduceEqDiff,Nat.reduceLeDiff,Nat.reduceSub,Nat.reduceMul,Int.reduceSub,Int.reduceToNat,Int.reduceBEq,Int.reduceBNe,Int.reduceLT,Int.reduceGT,Int.reduceLE,Int.reduceGE,Int.reduceNeg,Int.reduceAdd,AH.SP,AH.PD,AV.inB,vstep,rmSt,List.foldl_nil]) ?_
  intro X i hi ih
  simp only [AH.SD,AH.SE,AOp.call?,AOp.next?,bstep,AV.cells,unAV,binAV,retQ,retV,AH.sliceElems,AH.bytesOf,AH.strOp,AH.bound,AH.missQ,AH.minmaxAV,AH.readOf,AH.effOf,Nat.reduceBEq,Nat.reduceAdd,Nat.reduceLT,↓reduceIte,Nat.reduceEqDiff,Nat.reduceLeDiff,Nat.reduceSub,Nat.reduceMul,Int.reduceSub,Int.reduceToNat,Int.reduceBEq,Int.reduceBNe,Int.reduceLT,Int.reduceGT,Int.reduceLE,Int.reduceGE,Int.reduceNeg,Int.reduceAdd,rmSt]
  refine ⟨fun hlt => ?_,fun hlt => ?_⟩
  · have hi1:=lt_of_dec hlt
    have hi2 : i < s.data.toList.length:=by omega
    have wi:=wrapS (i:=i) (by omega)
    have done:=ih (i + 1) hi1 (by omega)
    simp only [rmSt,List.take_succ_eq_append_getElem hi2,List.foldl_append,List.foldl_cons,List.foldl_nil] at done
    rw [show ∀ x : Int,rstep x s.data.toList[i] = (IntKind.u64.wrap (IntKind.u64.wrap (IntKind.u64.wrap (x * 257) + IntKind.u64.wrap ((s.data.toList[i]).toNat : Int)) + 1)).tmod 4294967296 from fun _ =>rfl] at done
    simp only [AH.SD,AH.SE,AOp.call?,AOp.next?,bstep,AV.cells,unAV,binAV,retQ,retV,AH.sliceElems,AH.bytesOf,AH.strOp,AH.bound,AH.missQ,AH.minmaxAV,AH.readOf,AH.effOf,Nat.reduceBEq,Nat.reduceAdd,Nat.reduceLT,↓reduceIte,Nat.reduceEqDiff,Nat.reduceLeDiff,Nat.reduceSub,Nat.reduceMul,Int.reduceSub,Int.reduceToNat,Int.reduceBEq,Int.reduceBNe,Int.reduceLT,Int.reduceGT,Int.reduceLE,Int.reduceGE,Int.reduceNeg,Int.reduceAdd,byt_at hi2,wi,Int.toNat_natCast]
    repeat ((with_reducible refine And.intro ?_ ?_); focus (first | rfl | decide | omega | (simp only [List.length_map,List.length_set,and_true]; omega)))
    try simp only [AH.SD,AH.SE,AOp.call?,AOp.next?,bstep,AV.cells,unAV,binAV,retQ,retV,AH.sliceElems,AH.bytesOf,AH.strOp,AH.bound,AH.missQ,AH.minmaxAV,AH.readOf,AH.effOf,Nat.reduceBEq,Nat.reduceAdd,Nat.reduceLT,↓reduceIte,Nat.reduceEqDiff,Nat.reduceLeDiff,Nat.reduceSub,Nat.reduceMul,Int.reduceSub,Int.reduceToNat,Int.reduceBEq,Int.reduceBNe,Int.reduceLT,Int.reduceGT,Int.reduceLE,Int.reduceGE,Int.reduceNeg,Int.reduceAdd,byt_at hi2,wi,Int.toNat_natCast]
    repeat ((with_reducible refine And.intro ?_ ?_); focus (first | rfl | decide | omega | (simp only [List.length_map,List.length_set,and_true]; omega)))
    refine gc_auto [] [6,5,1] [] ?_
    simp only [AH.SD,AH.SE,AOp.call?,AOp.next?,bstep,AV.cells,unAV,binAV,retQ,retV,AH.sliceElems,AH.bytesOf,AH.strOp,AH.bound,AH.missQ,AH.minmaxAV,AH.readOf,AH.effOf,Nat.reduceBEq,Nat.reduceAdd,Nat.reduceLT,↓reduceIte,Nat.reduceEqDiff,Nat.reduceLeDiff,Nat.reduceSub,Nat.reduceMul,Int.reduceSub,Int.reduceToNat,Int.reduceBEq,Int.reduceBNe,Int.reduceLT,Int.reduceGT,Int.reduceLE,Int.reduceGE,Int.reduceNeg,Int.reduceAdd,AH.SP,AH.PD,AV.inB,vstep]
    exact done
  · have hi1:=ge_of_dec hlt
    obtain rfl : i = s.size:=by omega
    rw [show s.data.toList.take s.size = s.data.toList by rw [← hsz,List.take_length]]
    simp only [AH.SD,AH.SE,AOp.call?,AOp.next?,bstep,AV.cells,unAV,binAV,retQ,retV,AH.sliceElems,AH.bytesOf,AH.strOp,AH.bound,AH.missQ,AH.minmaxAV,AH.readOf,AH.effOf,Nat.reduceBEq,Nat.reduceAdd,Nat.reduceLT,↓reduceIte,Nat.reduceEqDiff,Nat.reduceLeDiff,Nat.reduceSub,Nat.reduceMul,Int.reduceSub,Int.reduceToNat,Int.reduceBEq,Int.reduceBNe,Int.reduceLT,Int.reduceGT,Int.reduceLE,Int.reduceGE,Int.reduceNeg,Int.reduceAdd]
theorem moreB_in (n : Int) (b : UInt8) : 0 ≤ moreB n b ∧ moreB n b < 4294967296:=by
  unfold moreB
  rw [IntKind.wrap_u32]; omega
theorem rstep_eq {n : Int} (h0 : 0 ≤ n) (h1 : n < 4294967296) (b : UInt8) : rstep n b = moreB n b:=by
  have:=b.toNat_lt
  simp only [rstep,moreB,IntKind.wrap_u64,IntKind.wrap_u32]
  have e : (((n * 257 % 18446744073709551616 + (b.toNat : Int) % 18446744073709551616) % 18446744073709551616 + 1) % 18446744073709551616) = n * 257 + b.toNat + 1:=by omega
  rw [e,Int.tmod_eq_emod_of_nonneg (by omega)]
  omega
theorem rfold_eq (l : List UInt8) : ∀ {n : Int},0 ≤ n → n < 4294967296 → l.foldl rstep n = l.foldl moreB n:=by
  induction l with
  | nil =>intro n _ _; simp only [List.foldl_nil]
  | cons b l ih =>
    intro n h0 h1
    simp only [List.foldl_cons,rstep_eq h0 h1,ih (moreB_in n b).1 (moreB_in n b).2]
def rmoreZ (n : Int) (s : ByteArray) : Int:=IntKind.u32.wrap (s.data.toList.foldl rstep (IntKind.u64.wrap n))
def rmoreT : RT:=rtC (cC (aI .u32) (cC aS c0)) (fun x =>okSz x.2.1) fun x => .int .u32 (rmoreZ x.1 x.2.1)
theorem rmoreT_ok : ReadF S0 71 rmoreT:=rtC_ok (fun x h =>rmore_ok x.1 x.2.1 h) fun _ =>rfl
theorem rmoreT_p {n : Int} {s : ByteArray} {M : Nat → Option Blk} : rmoreT [.int .u32 n,.str s] M = rtC1 (fun (x : Int × ByteArray × Unit) =>okSz x.2.1) (fun x => .int .u32 (rmoreZ x.1 x.2.1)) (some (n,s,())):=by
  simp only [rmoreT,rtC_p,cC_dec,aI_dec,aS_dec,c0_dec,pairO_some]
theorem okRsum : CtxOK S0 (ctxU S0 [(71,rmoreT)] []):=ctxU_ok ⟨rmoreT_ok,trivial⟩ trivial mixed
theorem rof_eq (s : ByteArray) : rmoreZ 1 s = sumZ s:=by
  have h:=sumZ_in s
  have e : s.data.toList.foldl moreB 1 = sumZ s:=rfl
  rw [rmoreZ,show IntKind.u64.wrap 1 = 1 by decide,rfold_eq s.data.toList (by decide) (by decide),e,IntKind.wrap_u32]
  exact Int.emod_eq_of_lt h.1 h.2
theorem rof_ok (s : ByteArray) (hs : okSz s) : Pure S0 54 [.str s] (.int .u32 (sumZ s)):=by
  refine fun_sound okRsum Tryz.func54 c54 ?_
  unfold wpF F54
  simp only [AH.SD,AH.SE,AOp.call?,AOp.next?,bstep,AV.cells,unAV,binAV,retQ,retV,AH.sliceElems,AH.bytesOf,AH.strOp,AH.bound,AH.missQ,AH.minmaxAV,AH.readOf,AH.effOf,Nat.reduceBEq,Nat.reduceAdd,Nat.reduceLT,↓reduceIte,Nat.reduceEqDiff,Nat.reduceLeDiff,Nat.reduceSub,Nat.reduceMul,Int.reduceSub,Int.reduceToNat,Int.reduceBEq,Int.reduceBNe,Int.reduceLT,Int.reduceGT,Int.reduceLE,Int.reduceGE,Int.reduceNeg,Int.reduceAdd,rmoreT_p,rtC1,hs,if_true,rof_eq]
def rofT : RT:=rtC (cC aS c0) (fun x =>okSz x.1) fun x => .int .u32 (sumZ x.1)
theorem rofT_ok : ReadF S0 54 rofT:=rtC_ok (fun x h =>rof_ok x.1 h) fun _ =>rfl
theorem rofT_p {s : ByteArray} {M : Nat → Option Blk} (h : okSz s) : rofT [.str s] M = some (.int .u32 (sumZ s),[]):=by
  simp only [rofT,rtC_p,cC_dec,aS_dec,c0_dec,pairO_some]
  exact rtC1_eq h
def rnumT : RT:=rtC (cC (aI .i64) (cC (aI .i64) c0)) numP numF
theorem rnumT_ok : ReadF S0 53 rnumT:=rtC_ok (fun x h =>by
  obtain ⟨n,k,u⟩:=x
  rcases h with h | h
  · simp only at h; subst h; exact rnum4 n
  · simp only at h; subst h; exact rnum2 n) fun _ =>rfl
theorem rnumT_4 {n : Int} {M : Nat → Option Blk} : rnumT [.int .i64 n,.int .i64 4] M = some (.str (num4 n),[]):=by
  simp only [rnumT,rtC_p,cC_dec,aI_dec,c0_dec,pairO_some]
  exact rtC1_eq (.inl rfl)
theorem rnumT_2 {n : Int} {M : Nat → Option Blk} : rnumT [.int .i64 n,.int .i64 2] M = some (.str (num2 n),[]):=by
  simp only [rnumT,rtC_p,cC_dec,aI_dec,c0_dec,pairO_some]
  exact rtC1_eq (.inr rfl)
theorem rvalue_ok (s : ByteArray) (h : okVal s) : Pure S0 63 [.str s] (.int .i64 (valS s)):=by
  obtain ⟨⟨l⟩⟩:=s
  rcases h with h | h
  · match l,h with
    | [a,b],_ =>exact rval2 a b
  · match l,h with
    | [a,b,c,d],_ =>exact rval4 a b c d
def rvalT : RT:=rtC (cC aS c0) (fun x =>okVal x.1) fun x => .int .i64 (valS x.1)
theorem rvalT_ok : ReadF S0 63 rvalT:=rtC_ok (fun x h =>rvalue_ok x.1 h) fun _ =>rfl
theorem rvalT_p {s : ByteArray} {M : Nat → Option Blk} (h : okVal s) : rvalT [.str s] M = some (.int .i64 (valS s),[]):=by
  simp only [rvalT,rtC_p,cC_dec,aS_dec,c0_dec,pairO_some]
  exact rtC1_eq h
def rsizeT : RT:=rtC (cC aS c0) (fun x =>okSz x.1) fun x => .int .i64 (sizeN x.1.size)
theorem rsizeT_ok : ReadF S0 21 rsizeT:=rtC_ok (fun x h =>rsize_ok x.1 h) fun _ =>rfl
theorem rsizeT_p {s : ByteArray} {M : Nat → Option Blk} (h : okSz s) : rsizeT [.str s] M = some (.int .i64 (sizeN s.size),[]):=by
  simp only [rsizeT,rtC_p,cC_dec,aS_dec,c0_dec,pairO_some]
  exact rtC1_eq h
end Go.Proofs.YthapdikdeoeplaaGreatDoor.Z7
end
section
set_option linter.unusedVariables false
set_option linter.unnecessarySimpa false
open Go AH
set_option linter.unusedSimpArgs false
set_option maxRecDepth 100000
namespace Go.Proofs.YthapdikdeoeplaaGreatDoor.Z7
theorem okRb : CtxOK S0 (ctxU S0 [(53,rnumT),(54,rofT)] []):=ctxU_ok ⟨rnumT_ok,rofT_ok,trivial⟩ trivial mixed
theorem rblocks_no (seq : Int) (d : ByteArray) (h : seq < 1 ∨ seq > 2147483647 ∨ d.size > 6000) : Pure S0 22 [.int .i64 seq,.str d] (.tup [.nils,.bool false]):=by
  refine fun_sound okRb Tryz.func22 c22 ?_
  unfold wpF F22
  cases h1 : decide (seq < 1)
  · cases h2 : decide (seq > 2147483647)
    · have h3 : decide ((d.size : Int) > 6000) = true:=by
        simp only [decide_eq_false_iff_not] at h1 h2
        simp only [decide_eq_true_eq]; omega
      simp only [AH.SD,AH.SE,AOp.call?,AOp.next?,bstep,AV.cells,unAV,binAV,retQ,retV,AH.sliceElems,AH.bytesOf,AH.strOp,AH.bound,AH.missQ,AH.minmaxAV,AH.readOf,AH.effOf,simprocAttr,h1,h2,h3]
    · simp only [AH.SD,AH.SE,AOp.call?,AOp.next?,bstep,AV.cells,unAV,binAV,retQ,retV,AH.sliceElems,AH.bytesOf,AH.strOp,AH.bound,AH.missQ,AH.minmaxAV,AH.readOf,AH.effOf,simprocAttr,h1,h2]
  · simp only [AH.SD,AH.SE,AOp.call?,AOp.next?,bstep,AV.cells,unAV,binAV,retQ,retV,AH.sliceElems,AH.bytesOf,AH.strOp,AH.bound,AH.missQ,AH.minmaxAV,AH.readOf,AH.effOf,simprocAttr,h1]
theorem repL : ∀ k,Lib.repeatL [(0 : UInt8)] k = List.replicate k 0
  | 0 =>rfl
  | k + 1 =>by rw [Lib.repeatL,repL k]; rfl
theorem repS_l (k : Nat) : (repS ⟨#[0]⟩ k).data.toList = List.replicate k 0:=by
  show (Lib.repeatL [0] k).toArray.toList = _
  rw [repL]
theorem repS_snoc (k : Nat) : repS ⟨#[0]⟩ k ++ ⟨#[0]⟩ = repS ⟨#[0]⟩ (k + 1):=by
  apply ByteArray.ext; apply Array.ext'
  rw [ByteArray.data_append,Array.toList_append,repS_l,repS_l,List.replicate_succ']
theorem repS_0 (s : ByteArray) : s ++ repS ⟨#[0]⟩ 0 = s:=by
  apply ByteArray.ext; apply Array.ext'
  rw [ByteArray.data_append,Array.toList_append,repS_l]; simp
def rb1 (seq : Int) (d : ByteArray) (j : Nat) : St:=⟨[(6,.str (headS d ++ repS ⟨#[0]⟩ j)),(0,.int .i64 seq)],[]⟩
def rb2 (seq : Int) (d : ByteArray) (i : Nat) : St:=⟨[(9,.int .i64 i),(8,.int .i64 (sizeN d.size)),(7,.slc 0 0 i none),(6,.str (fullS d)),(0,.int .i64 seq)],[some (.row false 1 ((blkL seq d i).map strC))]⟩
theorem piece_eq {seq : Int} {d : ByteArray} {i : Nat} (h1 : 1 ≤ seq) (h2 : seq ≤ 2147483647) (h3 : d.size ≤ 6000) (hi : i < sizeN d.size) : (fullS d).extract (i * 56) ((i + 1) * 56) ++ num4 seq ++ num2 i ++ num2 (sizeN d.size) = blkS seq d i:=by
  have:=sizeN_le h3
  rw [blkS,endS,u64_id (n:=seq) (by omega) (by omega),u64_id (n:=(i : Int)) (by omega) (by omega),u64_id (n:=(sizeN d.size : Int)) (by omega) (by omega)]
  simp only [ByteArray.append_assoc]
set_option maxHeartbeats 2000000 in
theorem rblocks_ok (seq : Int) (d : ByteArray) (h1 : 1 ≤ seq) (h2 : seq ≤ 2147483647) (h3 : d.size ≤ 6000) : CallA1 S0 22 [.int .i64 seq,.str d] [] fun r m =>r = .tup [.slc 0 0 (sizeN d.size) none,.bool true] ∧ m = [some (.row false 1 ((blkL seq d (sizeN d.size)).map strC))]:=by
  refine CallA1.fin ?_
  refine fun_sound okRb Tryz.func22 c22 ?_
  unfold wpF F22
  have d1 : decide (seq < 1) = false:=by simp only [decide_eq_false_iff_not]; omega
  have d2 : decide (seq > 2147483647) = false:=by simp only [decide_eq_false_iff_not]; omega
  have d3 : decide ((d.size : Int) > 6000) = false:=by simp only [decide_eq_false_iff_not]; omega
  have hok : okSz d:=by unfold okSz; omega
  obtain ⟨s1,s2⟩:=sizeN_le h3
  obtain ⟨z1,z2⟩:=sumZ_in d
  have hhd:=head_sz d
  have hle : 8 + d.size ≤ sizeN d.size * 56:=by unfold sizeN; omega
  have hlt56 : sizeN d.size * 56 < 8 + d.size + 56:=by unfold sizeN; omega
  have wz : IntKind.i64.wrap (sumZ d) = sumZ d:=by rw [IntKind.wrap_i64]; omega
  have e1 : num4 (d.size : Int) ++ num4 (sumZ d) ++ d = headS d:=by
    rw [headS,u64_id (n:=(d.size : Int)) (by omega) (by omega),u64_id z1 z2]
  have hpd : padN d = sizeN d.size * 56 - (8 + d.size):=by rw [padN,hhd]
  simp only [AH.SD,AH.SE,AOp.call?,AOp.next?,bstep,AV.cells,unAV,binAV,retQ,retV,AH.sliceElems,AH.bytesOf,AH.strOp,AH.bound,AH.missQ,AH.minmaxAV,AH.readOf,AH.effOf,simprocAttr,d1,d2,d3,rnumT_4,rofT_p hok,wz,e1]
  refine ⟨by rw [num4_sz,num4_sz,imax]; omega,by rw [ByteArray.size_append,num4_sz,num4_sz,imax]; omega,?_⟩
  refine loop_do [] [6,0] [] (α:=Nat) (fun j =>padN d - j) (rb1 seq d) (fun j =>j ≤ padN d) 0 (Nat.zero_le _) (by simp only [AH.SD,AH.SE,AOp.call?,AOp.next?,bstep,AV.cells,unAV,binAV,retQ,retV,AH.sliceElems,AH.bytesOf,AH.strOp,AH.bound,AH.missQ,AH.minmaxAV,AH.readOf,AH.effOf,simprocAttr,AH.SP,AH.PD,AV.inB,vstep,rb1,repS_0]) ?_
  intro X j hj ih
  have hsz : (headS d ++ repS ⟨#[0]⟩ j).size = 8 + d.size + j:=by rw [ByteArray.size_append,repS_sz,hhd]
  have hmod : ((8 + d.size + j : Nat) : Int).tmod 56 = (((8 + d.size + j) % 56 : Nat) : Int):=by rw [Int.tmod_eq_emod_of_nonneg (by omega)]; omega
  rcases Nat.lt_or_ge j (padN d) with hlt | hge
  · have hb : ((((8 + d.size + j) % 56 : Nat) : Int) != 0) = true:=by
      have : (8 + d.size + j) % 56 ≠ 0:=by
        intro h
        have:=Nat.div_add_mod (8 + d.size + j) 56
        rw [h] at this
        omega
      simp only [bne_iff_ne]; omega
    have done:=ih (j + 1) hlt (by omega)
    simp only [rb1,← repS_snoc,← ByteArray.append_assoc] at done
    simp only [AH.SD,AH.SE,AOp.call?,AOp.next?,bstep,AV.cells,unAV,binAV,retQ,retV,AH.sliceElems,AH.bytesOf,AH.strOp,AH.bound,AH.missQ,AH.minmaxAV,AH.readOf,AH.effOf,simprocAttr,rb1,hsz,hmod,hb]
    repeat ((with_reducible refine And.intro ?_ ?_); focus (first | rfl | decide | omega | (simp only [List.length_map,List.length_set,and_true]; omega)))
    try simp only [AH.SD,AH.SE,AOp.call?,AOp.next?,bstep,AV.cells,unAV,binAV,retQ,retV,AH.sliceElems,AH.bytesOf,AH.strOp,AH.bound,AH.missQ,AH.minmaxAV,AH.readOf,AH.effOf,simprocAttr,hsz,hmod,hb]
    refine And.intro (by rw [show (⟨#[0]⟩ : ByteArray).size = 1 from rfl,imax]; omega) ?_
    refine gc_auto [] [6,0] [] ?_
    simp only [AH.SD,AH.SE,AOp.call?,AOp.next?,bstep,AV.cells,unAV,binAV,retQ,retV,AH.sliceElems,AH.bytesOf,AH.strOp,AH.bound,AH.missQ,AH.minmaxAV,AH.readOf,AH.effOf,simprocAttr,AH.SP,AH.PD,AV.inB,vstep]
    exact done
  · obtain rfl : j = padN d:=by omega
    clear ih
    have hfs:=full_sz d
    have e2 : headS d ++ repS ⟨#[0]⟩ (padN d) = fullS d:=rfl
    have hb : ((((8 + d.size + padN d) % 56 : Nat) : Int) != 0) = false:=by
      have : (8 + d.size + padN d) % 56 = 0:=by
        rw [show 8 + d.size + padN d = sizeN d.size * 56 by omega]; exact Nat.mul_mod_left _ _
      rw [this]; rfl
    have hq : ((8 + d.size + padN d : Nat) : Int).tdiv 56 = (sizeN d.size : Int):=by rw [Int.tdiv_eq_ediv_of_nonneg (by omega)]; omega
    have wq : IntKind.i64.wrap (sizeN d.size : Int) = (sizeN d.size : Int):=by rw [IntKind.wrap_i64]; omega
    simp only [AH.SD,AH.SE,AOp.call?,AOp.next?,bstep,AV.cells,unAV,binAV,retQ,retV,AH.sliceElems,AH.bytesOf,AH.strOp,AH.bound,AH.missQ,AH.minmaxAV,AH.readOf,AH.effOf,simprocAttr,rb1,hsz,hmod,hb]
    repeat ((with_reducible refine And.intro ?_ ?_); focus (first | rfl | decide | omega | (simp only [List.length_map,List.length_set,and_true]; omega)))
    try simp only [AH.SD,AH.SE,AOp.call?,AOp.next?,bstep,AV.cells,unAV,binAV,retQ,retV,AH.sliceElems,AH.bytesOf,AH.strOp,AH.bound,AH.missQ,AH.minmaxAV,AH.readOf,AH.effOf,simprocAttr,hsz,hmod,hb,e2,hfs,hq,wq]
    repeat ((with_reducible refine And.intro ?_ ?_); focus (first | rfl | decide | omega | (simp only [List.length_map,List.length_set,and_true]; omega)))
    try simp only [AH.SD,AH.SE,AOp.call?,AOp.next?,bstep,AV.cells,unAV,binAV,retQ,retV,AH.sliceElems,AH.bytesOf,AH.strOp,AH.bound,AH.missQ,AH.minmaxAV,AH.readOf,AH.effOf,simprocAttr,e2,hfs,hq,wq]
    repeat ((with_reducible refine And.intro ?_ ?_); focus (first | rfl | decide | omega | (simp only [List.length_map,List.length_set,and_true]; omega)))
    refine loop_do [0] [9,8,7,6,0] [.cap 7] (α:=Nat) (fun i =>sizeN d.size - i) (rb2 seq d) (fun i =>i ≤ sizeN d.size) 0 (Nat.zero_le _) (by simp only [AH.SD,AH.SE,AOp.call?,AOp.next?,bstep,AV.cells,unAV,binAV,retQ,retV,AH.sliceElems,AH.bytesOf,AH.strOp,AH.bound,AH.missQ,AH.minmaxAV,AH.readOf,AH.effOf,simprocAttr,AH.SP,AH.PD,AV.inB,vstep,rb2,show blkL seq d 0 = [] from rfl]) ?_
    intro X i hi ih
    simp only [AH.SD,AH.SE,AOp.call?,AOp.next?,bstep,AV.cells,unAV,binAV,retQ,retV,AH.sliceElems,AH.bytesOf,AH.strOp,AH.bound,AH.missQ,AH.minmaxAV,AH.readOf,AH.effOf,simprocAttr,rb2,blkL_len]
    refine ⟨fun hlt => ?_,fun hlt => ?_⟩
    · have hi1:=lt_of_dec hlt
      have wi:=wrapS (i:=i) (by omega)
      have wa : IntKind.i64.wrap (56 * (i : Int)) = ((i * 56 : Nat) : Int):=by rw [IntKind.wrap_i64]; omega
      have wb : IntKind.i64.wrap (((i * 56 : Nat) : Int) + 56) = (((i + 1) * 56 : Nat) : Int):=by rw [IntKind.wrap_i64]; omega
      have done:=ih (i + 1) hi1 (by omega)
      simp only [rb2,blkL_succ,List.map_append,List.map_cons,List.map_nil,List.length_append,List.length_cons,List.length_nil,Nat.zero_add,strC_eq,← piece_eq h1 h2 h3 hi1] at done
      have e3 : ((blkL seq d i).map strC).take i = (blkL seq d i).map strC:=List.take_of_length_le (by rw [List.length_map,blkL_len]; exact Nat.le_refl _)
      have hxs : ((fullS d).extract (i * 56) ((i + 1) * 56)).size = 56:=by rw [ByteArray.size_extract,hfs]; omega
      simp only [AH.SD,AH.SE,AOp.call?,AOp.next?,bstep,AV.cells,unAV,binAV,retQ,retV,AH.sliceElems,AH.bytesOf,AH.strOp,AH.bound,AH.missQ,AH.minmaxAV,AH.readOf,AH.effOf,simprocAttr,wi,wa,wb,rnumT_4,rnumT_2,Int.toNat_natCast,hfs,e3,List.length_map,blkL_len]
      repeat ((with_reducible refine And.intro ?_ ?_); focus (first | rfl | decide | omega | (simp only [hxs,hfs,num4_sz,num2_sz,ByteArray.size_append,imax]; omega)))
      try simp only [AH.SD,AH.SE,AOp.call?,AOp.next?,bstep,AV.cells,unAV,binAV,retQ,retV,AH.sliceElems,AH.bytesOf,AH.strOp,AH.bound,AH.missQ,AH.minmaxAV,AH.readOf,AH.effOf,simprocAttr,wi,wa,wb,rnumT_4,rnumT_2,Int.toNat_natCast,hfs,e3,List.length_map,blkL_len]
      refine gc_auto [2] [9,8,7,6,0] [] ?_
      simp only [AH.SD,AH.SE,AOp.call?,AOp.next?,bstep,AV.cells,unAV,binAV,retQ,retV,AH.sliceElems,AH.bytesOf,AH.strOp,AH.bound,AH.missQ,AH.minmaxAV,AH.readOf,AH.effOf,simprocAttr,AH.SP,AH.PD,AV.inB,vstep,List.length_append,List.length_map,blkL_len]
      exact done
    · have hi1:=ge_of_dec hlt
      obtain rfl : i = sizeN d.size:=by omega
      simp only [AH.SD,AH.SE,AOp.call?,AOp.next?,bstep,AV.cells,unAV,binAV,retQ,retV,AH.sliceElems,AH.bytesOf,AH.strOp,AH.bound,AH.missQ,AH.minmaxAV,AH.readOf,AH.effOf,simprocAttr]
      refine ⟨[0],[],?_⟩
      simp only [AH.SD,AH.SE,AOp.call?,AOp.next?,bstep,AV.cells,unAV,binAV,retQ,retV,AH.sliceElems,AH.bytesOf,AH.strOp,AH.bound,AH.missQ,AH.minmaxAV,AH.readOf,AH.effOf,simprocAttr,AH.SP,AH.PD,AV.inB,vstep,blkL_len]
def rbksN : RT:=rtC (cC (aI .i64) (cC aS c0)) (fun x => ¬ okBl x) fun _ => .tup [.nils,.bool false]
theorem rbksN_ok : ReadF S0 22 rbksN:=rtC_ok (fun x h =>rblocks_no x.1 x.2.1 (by unfold okBl at h; omega)) fun _ =>rfl
theorem rbksN_p {n : Int} {s : ByteArray} {M : Nat → Option Blk} : rbksN [.int .i64 n,.str s] M = rtC1 (fun x => ¬ okBl x) (fun _ => .tup [.nils,.bool false]) (some (n,s,())):=by
  simp only [rbksN,rtC_p,cC_dec,aI_dec,aS_dec,c0_dec,pairO_some]
def rbksT : ET:=etN (cC (aI .i64) (cC aS c0)) fun x =>if okBl x then some (.tup [.slc 0 0 (sizeN x.2.1.size) none,.bool true],[some (.row false 1 ((blkL x.1 x.2.1 (sizeN x.2.1.size)).map strC))]) else none
theorem rbksT_ok : EffF S0 22 rbksT:=etN_ok fun x v m' h =>by
  split at h
  · rename_i hx
    simp only [Option.some.injEq,Prod.mk.injEq] at h
    obtain ⟨rfl,rfl⟩:=h
    exact ⟨rfl,rblocks_ok x.1 x.2.1 hx.1 hx.2.1 hx.2.2⟩
  · cases h
theorem rbksT_p {q : Int} {d : ByteArray} {n : Nat} {M : Nat → Option Blk} : rbksT [.int .i64 q,.str d] M n = useO [] n (if okBl (q,d,()) then some (.tup [.slc 0 0 (sizeN d.size) none,.bool true],[some (.row false 1 ((blkL q d (sizeN d.size)).map strC))]) else none):=by
  simp only [rbksT,etN_eq,cC_dec,aI_dec,aS_dec,c0_dec,pairO_some,Option.bind_some]
end Go.Proofs.YthapdikdeoeplaaGreatDoor.Z7
end
section
set_option linter.unusedVariables false
set_option linter.unnecessarySimpa false
open Go AH
set_option linter.unusedSimpArgs false
namespace Go.Proofs.YthapdikdeoeplaaGreatDoor.Z7
theorem byt_of {n : Int} {i : Nat} {b : UInt8} (h : n / 256 ^ i % 256 = (b.toNat : Int)) : byt n i = b:=by
  unfold byt
  rw [h,Int.toNat_natCast,UInt8.ofNat_toNat]
theorem num_val4 {s : ByteArray} (h : s.size = 4) : num4 (valS s) = s:=by
  obtain ⟨⟨l⟩⟩:=s
  match l,h with
  | [a,b,c,d],_ =>
    have ha:=a.toNat_lt; have hb:=b.toNat_lt; have hc:=c.toNat_lt; have hd:=d.toNat_lt
    show num4 (val4 a b c d) = _
    have e0 : byt (val4 a b c d) 0 = a:=byt_of (by rw [Int.pow_zero,Int.ediv_one]; unfold val4; omega)
    have e1 : byt (val4 a b c d) 1 = b:=byt_of (by rw [show (256 : Int) ^ 1 = 256 from rfl]; unfold val4; omega)
    have e2 : byt (val4 a b c d) 2 = c:=byt_of (by rw [show (256 : Int) ^ 2 = 65536 from rfl]; unfold val4; omega)
    have e3 : byt (val4 a b c d) 3 = d:=byt_of (by rw [show (256 : Int) ^ 3 = 16777216 from rfl]; unfold val4; omega)
    rw [num4,e0,e1,e2,e3]
theorem num_val2 {s : ByteArray} (h : s.size = 2) : num2 (valS s) = s:=by
  obtain ⟨⟨l⟩⟩:=s
  match l,h with
  | [a,b],_ =>
    have ha:=a.toNat_lt; have hb:=b.toNat_lt
    show num2 (val2 a b) = _
    have e0 : byt (val2 a b) 0 = a:=byt_of (by rw [Int.pow_zero,Int.ediv_one]; unfold val2; omega)
    have e1 : byt (val2 a b) 1 = b:=byt_of (by rw [show (256 : Int) ^ 1 = 256 from rfl]; unfold val2; omega)
    rw [num2,e0,e1]
theorem ex_all2 {a : ByteArray} {i j : Nat} (h : i = 0) (h2 : a.size ≤ j) : a.extract i j = a:=by
  subst h
  rw [show a.extract 0 j = a.extract 0 a.size from by apply ByteArray.ext; simp [ByteArray.data_extract]; omega]
  exact ByteArray.extract_zero_size
theorem ex_join {a : ByteArray} {i j k : Nat} (h : i ≤ j) (h2 : j ≤ k) : a.extract i j ++ a.extract j k = a.extract i k:=by
  rw [ByteArray.extract_append_extract]; congr 1 <;> omega
theorem end_of {e : ByteArray} (h : e.size = 8) : (e.toList == (endS (valS (e.extract 0 4)) 0 (valS (e.extract 6 8))).toList) = (valS (e.extract 4 6) == 0):=by
  have z4 : (e.extract 0 4).size = 4:=by rw [ByteArray.size_extract]; omega
  have z6 : (e.extract 4 6).size = 2:=by rw [ByteArray.size_extract]; omega
  have z8 : (e.extract 6 8).size = 2:=by rw [ByteArray.size_extract]; omega
  obtain ⟨a1,a2⟩:=valS_in (s:=e.extract 0 4) (.inr z4)
  obtain ⟨b1,b2⟩:=valS_in (s:=e.extract 6 8) (.inl z8)
  have he : e = e.extract 0 4 ++ e.extract 4 6 ++ e.extract 6 8:=by
    rw [ex_join (by omega) (by omega),ex_join (by omega) (by omega)]
    exact (ex_all2 rfl (by omega)).symm
  have hE : endS (valS (e.extract 0 4)) 0 (valS (e.extract 6 8)) = e.extract 0 4 ++ num2 0 ++ e.extract 6 8:=by
    rw [endS,u64_id a1 a2,u64_id b1 b2,show IntKind.u64.wrap 0 = 0 by decide,num_val4 z4,num_val2 z8]
  rw [hE]
  cases hv : valS (e.extract 4 6) == 0
  · refine tl_ne fun hq => ?_
    have : e.extract 4 6 = num2 0:=by
      have h2 : e.extract 4 6 = (e.extract 0 4 ++ num2 0 ++ e.extract 6 8).extract 4 6:=congrArg (fun x : ByteArray =>x.extract 4 6) hq
      rw [h2,ex_left (by rw [ByteArray.size_append,z4,num2_sz]; exact Nat.le_refl _),ex_right (by rw [z4]; exact Nat.le_refl _),z4]
      exact ex_all rfl
    rw [this] at hv
    cases hv
  · have hv0 : valS (e.extract 4 6) = 0:=eq_of_beq hv
    have : e.extract 4 6 = num2 0:=by rw [← num_val2 z6,hv0]
    rw [← this,← he]
    exact tl_self e
theorem trN_z {s : ByteArray} : ∀ k,trN s 0 k = 0 → ∀ j,j < k → s.data.toList.getD j 0 = 0
  | 0,_,j,hj =>by omega
  | k + 1,h,j,hj =>by
    rw [trN] at h
    cases hb : s.data.toList.getD k 0 == 0
    · rw [hb] at h; simp at h
    · rw [hb,cond_true] at h
      rcases Nat.lt_or_ge j k with c | c
      · exact trN_z k h j c
      · obtain rfl : j = k:=by omega
        exact eq_of_beq hb
theorem trN_top {s : ByteArray} : ∀ k m,trN s 0 k = m + 1 → m < k ∧ s.data.toList.getD m 0 ≠ 0
  | 0,m,h =>by simp [trN] at h
  | k + 1,m,h =>by
    rw [trN] at h
    cases hb : s.data.toList.getD k 0 == 0
    · rw [hb,cond_false] at h
      obtain rfl : m = k:=by omega
      exact ⟨by omega,by simpa using hb⟩
    · rw [hb,cond_true] at h
      have:=trN_top k m h
      exact ⟨by omega,this.2⟩
theorem tlN_all {s : ByteArray} : ∀ f i,i + f ≤ tlN s 0 i f → ∀ j,i ≤ j → j < i + f → s.data.toList.getD j 0 = 0
  | 0,i,_,j,h1,h2 =>by omega
  | f + 1,i,h,j,h1,h2 =>by
    rw [tlN] at h
    cases hb : s.data.toList.getD i 0 == 0
    · rw [hb,cond_false] at h; omega
    · rw [hb,cond_true] at h
      rcases Nat.lt_or_ge i j with c | c
      · exact tlN_all f (i + 1) (by omega) j c (by omega)
      · obtain rfl : j = i:=by omega
        exact eq_of_beq hb
theorem trim_empty {s : ByteArray} (h : trim0 s = ⟨#[]⟩) : ∀ j,j < s.size → s.data.toList.getD j 0 = 0:=by
  unfold trim0 at h
  cases hc : s.toList == (⟨#[]⟩ : ByteArray).toList
  · rw [hc,cond_false] at h
    cases hm : trN s 0 s.size with
    | zero =>exact trN_z s.size hm
    | succ m =>
      rw [hm] at h
      obtain ⟨hlt,hne⟩:=trN_top s.size m hm
      have hsz : (s.extract 0 (m + 1)).size = m + 1:=by rw [ByteArray.size_extract]; omega
      have h0:=congrArg ByteArray.size h
      rw [ByteArray.size_extract,hsz] at h0
      rw [Nat.min_self,show (⟨#[]⟩ : ByteArray).size = 0 from rfl] at h0
      have h0' : m + 1 ≤ tlN (s.extract 0 (m + 1)) 0 0 (m + 1):=by omega
      have:=tlN_all (s:=s.extract 0 (m + 1)) (m + 1) 0 (by omega) m (Nat.zero_le _) (by omega)
      rw [ex_get s (k:=m + 1) (j:=m) hlt (Nat.lt_succ_self _)] at this
      exact absurd this hne
  · have : s = ⟨#[]⟩:=tl_eq hc
    subst this
    intro j hj
    cases hj
theorem zeros_eq {s : ByteArray} (h : ∀ j,j < s.size → s.data.toList.getD j 0 = 0) : s = repS ⟨#[0]⟩ s.size:=by
  apply ByteArray.ext; apply Array.ext'
  rw [repS_l]
  refine List.ext_getElem (by rw [List.length_replicate]; rfl) fun j h1 h2 => ?_
  have:=h j h1
  rw [List.getD_eq_getElem?_getD,List.getElem?_eq_getElem h1] at this
  rw [List.getElem_replicate]
  exact this
theorem dat_full {s : ByteArray} {k : Nat} (h8 : 8 + k ≤ s.size) (hk6 : k ≤ 6000) (hv : valS (s.extract 0 4) = (k : Int)) (hq : datQ s k = true) : fullS (datT s k) = s:=by
  have ht : (datT s k).size = k:=by rw [datT,ByteArray.size_extract]; omega
  unfold datQ at hq
  rw [ht] at hq
  cases c1 : ((sizeN k * 56 : Nat) : Int) == (s.size : Int)
  · rw [c1] at hq; cases hq
  · cases c2 : (trim0 (s.extract (8 + k) s.size)).toList == (⟨#[]⟩ : ByteArray).toList
    · rw [c1,c2] at hq; cases hq
    · rw [c1,c2,cond_true,cond_true] at hq
      have hs : sizeN k * 56 = s.size:=by have:=eq_of_beq c1; omega
      obtain ⟨z1,z2⟩:=sumZ_in (datT s k)
      have hsum : valS (s.extract 4 8) = sumZ (datT s k):=by
        have:=eq_of_beq hq
        rw [this,IntKind.wrap_i64]; omega
      have hz:=zeros_eq (trim_empty (tl_eq c2))
      have hrs : (s.extract (8 + k) s.size).size = s.size - (8 + k):=by rw [ByteArray.size_extract]; omega
      rw [hrs] at hz
      have e0 : num4 (k : Int) = s.extract 0 4:=by rw [← hv]; exact num_val4 (by rw [ByteArray.size_extract]; omega)
      have e4 : num4 (sumZ (datT s k)) = s.extract 4 8:=by rw [← hsum]; exact num_val4 (by rw [ByteArray.size_extract]; omega)
      have hp : padN (datT s k) = s.size - (8 + k):=by rw [padN,head_sz,ht,hs]
      rw [full_eq,ht,u64_id (n:=(k : Int)) (by omega) (by omega),u64_id z1 z2,e0,e4,hp,← hz]
      rw [datT,ex_join (by omega) (by omega),ex_join (by omega) (by omega),ex_join (by omega) (by omega)]
      refine ex_all2 ?_ ?_ <;> omega
theorem dat_of {s : ByteArray} {k : Nat} (hk6 : (datT s k).size ≤ 6000) (hv : valS (s.extract 0 4) = (k : Int)) (hk : k ≤ 6000) (h8 : 8 + k ≤ s.size) (hf : fullS (datT s k) = s) : datQ s k = true:=by
  have h:=full_data hk6
  rw [hf,datZ,hv,decide_eq_false (by omega : ¬ (k : Int) > 6000),decide_eq_false (by omega : ¬ (k : Int) > (s.size : Int) - 8),cond_false,cond_false,Int.toNat_natCast] at h
  exact congrArg Prod.snd h
end Go.Proofs.YthapdikdeoeplaaGreatDoor.Z7
end
section
set_option linter.unusedVariables false
set_option linter.unnecessarySimpa false
open Go AH
set_option linter.unusedSimpArgs false
namespace Go.Proofs.YthapdikdeoeplaaGreatDoor.Z7
theorem ex_sub {s : ByteArray} {i j p q : Nat} (h : i + q ≤ j) : (s.extract i j).extract p q = s.extract (i + p) (i + q):=by
  rw [ByteArray.extract_extract]; congr 1; omega
theorem badJ_no {l : List ByteArray} {q : Int} {n i : Nat} (h : badJ l q n i = false) : ∃ x,l[i]? = some x ∧ x.size = 64 ∧ x.extract 56 64 = endS q i n:=by
  unfold badJ at h
  split at h
  · rename_i s hs
    rw [Bool.or_eq_false_iff] at h
    have h64 : s.size = 64:=by have:=h.1; simp only [bne_eq_false_iff_eq] at this; omega
    rw [h64] at h
    exact ⟨s,hs,h64,tl_eq (by have:=h.2; simpa using this)⟩
  · cases h
theorem join_parts {l : List ByteArray} {q : Int} {n : Nat} {acc : ByteArray} : ∀ (m i : Nat) (a0 : ByteArray),a0.size = i * 56 → joinS l q n m i a0 = (acc,-1) →
    acc.size = (i + m) * 56 ∧ acc.extract 0 (i * 56) = a0 ∧ ∀ j,i ≤ j → j < i + m → ∃ x,l[j]? = some x ∧ x.size = 64 ∧ x = acc.extract (j * 56) ((j + 1) * 56) ++ endS q j n
  | 0,i,a0,h0,h =>by
    simp only [joinS,Prod.mk.injEq,and_true] at h
    subst h
    exact ⟨by omega,ex_all (by omega),fun j h1 h2 =>by omega⟩
  | m + 1,i,a0,h0,h =>by
    rw [joinS] at h
    cases hb : badJ l q n i
    · rw [hb,cond_false] at h
      obtain ⟨x,hx,h64,he⟩:=badJ_no hb
      rw [hx,Option.getD_some] at h
      have hs0 : (x.extract 0 56).size = 56:=by rw [ByteArray.size_extract]; omega
      obtain ⟨e1,e2,e3⟩:=join_parts m (i + 1) (a0 ++ x.extract 0 56) (by rw [ByteArray.size_append,hs0,h0]; omega) h
      have hx0 : x.extract 0 56 = acc.extract (i * 56) ((i + 1) * 56):=by
        have h2 : (acc.extract 0 ((i + 1) * 56)).extract (i * 56) ((i + 1) * 56) = (a0 ++ x.extract 0 56).extract (i * 56) ((i + 1) * 56):=by rw [e2]
        rw [ex_sub (by omega),ex_right (by omega)] at h2
        rw [show 0 + i * 56 = i * 56 by omega,show 0 + (i + 1) * 56 = (i + 1) * 56 by omega] at h2
        rw [h2]; exact (ex_all2 (by omega) (by omega)).symm
      refine ⟨by omega,?_,fun j h1 h2 => ?_⟩
      · have h2 : (acc.extract 0 ((i + 1) * 56)).extract 0 (i * 56) = (a0 ++ x.extract 0 56).extract 0 (i * 56):=by rw [e2]
        rw [ex_sub (by omega),ex_left (by omega)] at h2
        rw [show 0 + 0 = 0 from rfl,show 0 + i * 56 = i * 56 by omega] at h2
        rw [h2]; exact ex_all (by omega)
      · rcases Nat.lt_or_ge i j with c | c
        · exact e3 j (by omega) (by omega)
        · obtain rfl : j = i:=by omega
          refine ⟨x,hx,h64,?_⟩
          rw [← hx0,← he,ex_join (by omega) (by omega)]
          exact (ex_all2 rfl (by omega)).symm
    · rw [hb,cond_true] at h
      have:=congrArg Prod.snd h
      simp only at this
      omega
theorem pieces {a b : ByteArray} {n : Nat} (ha : a.size = n * 56) (hb : b.size = n * 56) (h : ∀ j,j < n → a.extract (j * 56) ((j + 1) * 56) = b.extract (j * 56) ((j + 1) * 56)) : a = b:=by
  have key : ∀ k,k ≤ n → a.extract 0 (k * 56) = b.extract 0 (k * 56):=by
    intro k
    induction k with
    | zero =>intro _; apply ByteArray.ext; simp [ByteArray.data_extract]
    | succ k ih =>
      intro hk
      rw [← ex_join (a:=a) (i:=0) (j:=k * 56) (k:=(k + 1) * 56) (by omega) (by omega),← ex_join (a:=b) (i:=0) (j:=k * 56) (k:=(k + 1) * 56) (by omega) (by omega),ih (by omega),h k (by omega)]
  have:=key n (Nat.le_refl _)
  rw [← ha,ex_all2 rfl (Nat.le_refl _),ha,← hb,ex_all2 rfl (Nat.le_refl _)] at this
  exact this
theorem ge_not (x m : Int) : decide (x ≥ m) = !decide (x < m):=by
  rcases Int.lt_or_le x m with h | h
  · rw [decide_eq_true h,decide_eq_false (by omega : ¬ x ≥ m)]; rfl
  · rw [decide_eq_false (by omega : ¬ x < m),decide_eq_true h]; rfl
theorem le_not (x m : Int) : decide (x ≤ m) = !decide (x > m):=by
  rcases Int.lt_or_le m x with h | h
  · rw [decide_eq_true (show x > m from h),decide_eq_false (by omega : ¬ x ≤ m)]; rfl
  · rw [decide_eq_false (by omega : ¬ x > m),decide_eq_true h]; rfl
theorem bool_ref (x y z : Int) : (bif (bif (bif (bif decide (x ≥ 1) then decide (x ≤ 2147483647) else false) then decide (z ≥ 1) else false) then decide (z ≤ 108) else false) then y == 0 else false) = !(decide (x < 1) || decide (x > 2147483647) || (y != 0) || decide (z < 1) || decide (z > 108)):=by
  rw [ge_not,ge_not,le_not,le_not,show (y != 0) = !(y == 0) from rfl]
  generalize decide (x < 1) = a
  generalize decide (x > 2147483647) = b
  generalize (y == 0) = c
  generalize decide (z < 1) = d
  generalize decide (z > 108) = e
  cases a <;> cases b <;> cases c <;> cases d <;> cases e <;> rfl
theorem first_ref {s : ByteArray} (h : s.size = 64) : (firS s).2.2 = !(decide (valS (s.extract 56 60) < 1) || decide (valS (s.extract 56 60) > 2147483647) || (valS (s.extract 60 62) != 0) || decide (valS (s.extract 62 64) < 1) || decide (valS (s.extract 62 64) > 108)):=by
  have h64 : ((s.size : Int) != 64) = false:=by rw [h]; rfl
  have e8 : (tailE s).size = 8:=by rw [tailE,ByteArray.size_extract]; omega
  have a1 : (tailE s).extract 0 4 = s.extract 56 60:=ex_sub (by omega)
  have a2 : (tailE s).extract 4 6 = s.extract 60 62:=ex_sub (by omega)
  have a3 : (tailE s).extract 6 8 = s.extract 62 64:=ex_sub (by omega)
  have he:=end_of e8
  rw [a1,a2,a3] at he
  rw [firS,h64,cond_false,a1,a3]
  simp only [firB,he]
  generalize valS (s.extract 56 60) = x
  generalize valS (s.extract 60 62) = y
  generalize valS (s.extract 62 64) = z
  exact bool_ref x y z
theorem first_val {s : ByteArray} (h : s.size = 64) : (firS s).1 = valS (s.extract 56 60) ∧ (firS s).2.1 = valS (s.extract 62 64):=by
  have h64 : ((s.size : Int) != 64) = false:=by rw [h]; rfl
  have a1 : (tailE s).extract 0 4 = s.extract 56 60:=ex_sub (by omega)
  have a3 : (tailE s).extract 6 8 = s.extract 62 64:=ex_sub (by omega)
  rw [firS,h64,cond_false,a1,a3]
  exact ⟨rfl,rfl⟩
theorem rdZ_no {l : List ByteArray} (h : (firZ l).2.2 = false) : rdZ l = ⟨⟨#[]⟩,0,0,0⟩:=by rw [rdZ,h]; rfl
theorem rdZ_bad {l : List ByteArray} {q : Int} {n i : Nat} (hf : firZ l = (q,(n : Int),true)) (h : (jnZ l q n).2 = (i : Int)) : rdZ l = ⟨⟨#[]⟩,0,0,(i : Int)⟩:=by
  rw [rdZ,hf]
  simp only [Int.toNat_natCast,h,cond_true]
  rw [decide_eq_true (by omega : (i : Int) ≥ 0)]; rfl
theorem rdZ_join {l : List ByteArray} {q : Int} {n : Nat} {acc : ByteArray} (hf : firZ l = (q,(n : Int),true)) (h : jnZ l q n = (acc,-1)) : rdZ l = bif (datZ acc).2 then ⟨(datZ acc).1,q,(n : Int),-1⟩ else ⟨⟨#[]⟩,0,0,0⟩:=by
  rw [rdZ,hf]
  simp only [Int.toNat_natCast,h,cond_true]
  rw [show decide ((-1 : Int) ≥ 0) = false from rfl,cond_false]
end Go.Proofs.YthapdikdeoeplaaGreatDoor.Z7
end
section
set_option linter.unusedVariables false
set_option linter.unnecessarySimpa false
open Go AH
set_option linter.unusedSimpArgs false
set_option maxRecDepth 100000
namespace Go.Proofs.YthapdikdeoeplaaGreatDoor.Z7
theorem okRd5 : CtxOK S0 (ctxE S0 [(53,rnumT),(63,rvalT),(22,rbksN)] [] [(22,rbksT)]):=ctxE_ok ⟨rnumT_ok,rvalT_ok,rbksN_ok,trivial⟩ trivial ⟨rbksT_ok,trivial⟩ mixed
def rrA (x : Rd) : AV:=.tup [.str x.t,.int .i64 x.q,.int .i64 x.n,.int .i64 x.bad]
theorem rowG {l : List ByteArray} {i : Nat} {x : ByteArray} (h : l[i]? = some x) : (l.map strC).getD i [] = [.str x]:=by
  rw [List.getD_eq_getElem?_getD,List.getElem?_map,h]; rfl
theorem strsR_in (X : List ByteArray) (p : Nat → Bool) : (X.map strC).all (AV.insB p) = true:=by
  simp only [List.all_eq_true,List.mem_map]
  rintro x ⟨y,_,rfl⟩; rfl
theorem strsR_ren (X : List ByteArray) (ρ : Nat → Nat) : (X.map strC).map (AV.rens ρ) = X.map strC:=by
  rw [List.map_map]; rfl
def r5a (l : List ByteArray) (q : Int) (n : Nat) (x : Nat × ByteArray) : St:=⟨[(9,.int .i64 x.1),(8,.str x.2),(7,.int .i64 n),(6,.int .i64 q),(0,.slc 0 0 l.length none)],[some (.row true 1 (l.map strC))]⟩
def r5b (l : List ByteArray) (q : Int) (n k : Nat) (acc : ByteArray) (i : Nat) : St:=⟨[(13,.int .i64 i),(11,.slc 1 0 n none),(10,.int .i64 k),(8,.str acc),(7,.int .i64 n),(6,.int .i64 q),(0,.slc 0 0 l.length none)],[some (.row true 1 (l.map strC)),some (.row false 1 ((blkL q (datT acc k) n).map strC))]⟩
set_option maxHeartbeats 4000000 in
theorem rread_ok (l : List ByteArray) (hl : l.length ≤ 1048576) : CallA1 S0 46 [.slc 0 0 l.length none] [some (.row true 1 (l.map strC))] fun r _ =>r = rrA (rdZ l):=by
  refine fun_sound okRd5 Tryz.func46 c46 ?_
  unfold wpF F46
  rcases Nat.eq_zero_or_pos l.length with hz | hpos
  · have hn : l = []:=List.eq_nil_of_length_eq_zero hz
    subst hn
    have hz:=rdZ_no (l:=[]) rfl
    simp only [AH.SD,AH.SE,AOp.call?,AOp.next?,bstep,AV.cells,unAV,binAV,retQ,retV,AH.sliceElems,AH.bytesOf,AH.strOp,AH.bound,AH.missQ,AH.minmaxAV,AH.readOf,AH.effOf,simprocAttr,AH.SP,AH.PD,AV.inB,vstep,vw,shift,newOnes,rowsM,blkIn,rwB,@flat_lts,AV.lt,AV.lts,Nat.sub_self,AH.SO,List.map_nil,hz,rrA]
  · obtain ⟨s,hs⟩ : ∃ s,l[0]? = some s:=⟨l[0],List.getElem?_eq_getElem hpos⟩
    have hfz : firZ l = firS s:=by
      cases l with
      | nil =>cases hpos
      | cons x r =>simp at hs; subst hs; rfl
    have g0:=rowG hs
    have hl0 : ((l.length : Int) == 0) = false:=by simp only [beq_eq_false_iff_ne]; omega
    cases h64 : ((s.size : Int) != 64)
    rotate_left
    · have hz:=rdZ_no (l:=l) (by rw [hfz,firS,h64]; rfl)
      simp only [AH.SD,AH.SE,AOp.call?,AOp.next?,bstep,AV.cells,unAV,binAV,retQ,retV,AH.sliceElems,AH.bytesOf,AH.strOp,AH.bound,AH.missQ,AH.minmaxAV,AH.readOf,AH.effOf,simprocAttr,AH.SP,AH.PD,AV.inB,vstep,vw,shift,newOnes,rowsM,blkIn,rwB,@flat_lts,AV.lt,AV.lts,Nat.sub_self,AH.SO,h64,hl0,g0,hz,rrA,List.length_map]
      try repeat ((with_reducible refine And.intro ?_ ?_); focus (first | rfl | decide | omega | (simp only [List.length_map,List.length_set,and_true]; omega)))
      try simp only [AH.SD,AH.SE,AOp.call?,AOp.next?,bstep,AV.cells,unAV,binAV,retQ,retV,AH.sliceElems,AH.bytesOf,AH.strOp,AH.bound,AH.missQ,AH.minmaxAV,AH.readOf,AH.effOf,simprocAttr,AH.SP,AH.PD,AV.inB,vstep,vw,shift,newOnes,rowsM,blkIn,rwB,@flat_lts,AV.lt,AV.lts,Nat.sub_self,AH.SO,h64,hl0,g0,hz,rrA,List.length_map]
      exact hpos
    · have hs64 : s.size = 64:=by simp only [bne_eq_false_iff_eq] at h64; omega
      have v1 : okVal (s.extract 56 60):=.inr (by rw [ByteArray.size_extract]; omega)
      have v2 : okVal (s.extract 60 62):=.inl (by rw [ByteArray.size_extract]; omega)
      have v3 : okVal (s.extract 62 64):=.inl (by rw [ByteArray.size_extract]; omega)
      have hr:=first_ref hs64
      obtain ⟨w1,w2⟩:=first_val hs64
      rw [← hfz] at hr w1 w2
      cases d1 : decide (valS (s.extract 56 60) < 1)
      rotate_left
      · have hz:=rdZ_no (l:=l) (by rw [hr,d1]; rfl)
        simp only [AH.SD,AH.SE,AOp.call?,AOp.next?,bstep,AV.cells,unAV,binAV,retQ,retV,AH.sliceElems,AH.bytesOf,AH.strOp,AH.bound,AH.missQ,AH.minmaxAV,AH.readOf,AH.effOf,simprocAttr,AH.SP,AH.PD,AV.inB,vstep,vw,shift,newOnes,rowsM,blkIn,rwB,@flat_lts,AV.lt,AV.lts,Nat.sub_self,AH.SO,h64,hl0,rvalT_p v1,rvalT_p v2,rvalT_p v3,g0,List.length_map,hs64,d1,hz,rrA]
        try repeat ((with_reducible refine And.intro ?_ ?_); focus (first | rfl | decide | omega | (simp only [List.length_map,List.length_set,and_true]; omega)))
        exact hpos
      · cases d2 : decide (valS (s.extract 56 60) > 2147483647)
        rotate_left
        · have hz:=rdZ_no (l:=l) (by rw [hr,d1,d2]; rfl)
          simp only [AH.SD,AH.SE,AOp.call?,AOp.next?,bstep,AV.cells,unAV,binAV,retQ,retV,AH.sliceElems,AH.bytesOf,AH.strOp,AH.bound,AH.missQ,AH.minmaxAV,AH.readOf,AH.effOf,simprocAttr,AH.SP,AH.PD,AV.inB,vstep,vw,shift,newOnes,rowsM,blkIn,rwB,@flat_lts,AV.lt,AV.lts,Nat.sub_self,AH.SO,h64,hl0,rvalT_p v1,rvalT_p v2,rvalT_p v3,g0,List.length_map,hs64,d1,d2,hz,rrA]
          try repeat ((with_reducible refine And.intro ?_ ?_); focus (first | rfl | decide | omega | (simp only [List.length_map,List.length_set,and_true]; omega)))
          exact hpos
        · cases d3 : valS (s.extract 60 62) != 0
          rotate_left
          · have hz:=rdZ_no (l:=l) (by rw [hr,d1,d2,d3]; rfl)
            simp only [AH.SD,AH.SE,AOp.call?,AOp.next?,bstep,AV.cells,unAV,binAV,retQ,retV,AH.sliceElems,AH.bytesOf,AH.strOp,AH.bound,AH.missQ,AH.minmaxAV,AH.readOf,AH.effOf,simprocAttr,AH.SP,AH.PD,AV.inB,vstep,vw,shift,newOnes,rowsM,blkIn,rwB,@flat_lts,AV.lt,AV.lts,Nat.sub_self,AH.SO,h64,hl0,rvalT_p v1,rvalT_p v2,rvalT_p v3,g0,List.length_map,hs64,d1,d2,d3,hz,rrA]
            try repeat ((with_reducible refine And.intro ?_ ?_); focus (first | rfl | decide | omega | (simp only [List.length_map,List.length_set,and_true]; omega)))
            exact hpos
          · cases d4 : decide (valS (s.extract 62 64) < 1)
            rotate_left
            · have hz:=rdZ_no (l:=l) (by rw [hr,d1,d2,d3,d4]; rfl)
              simp only [AH.SD,AH.SE,AOp.call?,AOp.next?,bstep,AV.cells,unAV,binAV,retQ,retV,AH.sliceElems,AH.bytesOf,AH.strOp,AH.bound,AH.missQ,AH.minmaxAV,AH.readOf,AH.effOf,simprocAttr,AH.SP,AH.PD,AV.inB,vstep,vw,shift,newOnes,rowsM,blkIn,rwB,@flat_lts,AV.lt,AV.lts,Nat.sub_self,AH.SO,h64,hl0,rvalT_p v1,rvalT_p v2,rvalT_p v3,g0,List.length_map,hs64,d1,d2,d3,d4,hz,rrA]
              try repeat ((with_reducible refine And.intro ?_ ?_); focus (first | rfl | decide | omega | (simp only [List.length_map,List.length_set,and_true]; omega)))
              exact hpos
            · cases d5 : decide (valS (s.extract 62 64) > 108)
              rotate_left
              · have hz:=rdZ_no (l:=l) (by rw [hr,d1,d2,d3,d4,d5]; rfl)
                simp only [AH.SD,AH.SE,AOp.call?,AOp.next?,bstep,AV.cells,unAV,binAV,retQ,retV,AH.sliceElems,AH.bytesOf,AH.strOp,AH.bound,AH.missQ,AH.minmaxAV,AH.readOf,AH.effOf,simprocAttr,AH.SP,AH.PD,AV.inB,vstep,vw,shift,newOnes,rowsM,blkIn,rwB,@flat_lts,AV.lt,AV.lts,Nat.sub_self,AH.SO,h64,hl0,rvalT_p v1,rvalT_p v2,rvalT_p v3,g0,List.length_map,hs64,d1,d2,d3,d4,d5,hz,rrA]
                try repeat ((with_reducible refine And.intro ?_ ?_); focus (first | rfl | decide | omega | (simp only [List.length_map,List.length_set,and_true]; omega)))
                exact hpos
              · have hf : (firZ l).2.2 = true:=by rw [hr,d1,d2,d3,d4,d5]; rfl
                obtain ⟨q1,q2,q3,q4⟩:=firZ_in hf
                rw [w1] at q1 q2
                rw [w2] at q3 q4
                obtain ⟨n,hn⟩:=Int.eq_ofNat_of_zero_le (by omega : 0 ≤ valS (s.extract 62 64))
                obtain ⟨q,hq⟩ : ∃ q,valS (s.extract 56 60) = q:=⟨_,rfl⟩
                rw [hn] at d4 d5 q3 q4 w2
                rw [hq] at d1 d2 q1 q2 w1
                have hF : firZ l = (q,(n : Int),true):=by rw [← w1,← w2,← hf]
                simp only [AH.SD,AH.SE,AOp.call?,AOp.next?,bstep,AV.cells,unAV,binAV,retQ,retV,AH.sliceElems,AH.bytesOf,AH.strOp,AH.bound,AH.missQ,AH.minmaxAV,AH.readOf,AH.effOf,simprocAttr,AH.SP,AH.PD,AV.inB,vstep,vw,shift,newOnes,rowsM,blkIn,rwB,@flat_lts,AV.lt,AV.lts,Nat.sub_self,AH.SO,h64,hl0,rvalT_p v1,rvalT_p v2,rvalT_p v3,g0,List.length_map,hs64,hn,hq,d1,d2,d3,d4,d5]
                try repeat ((with_reducible refine And.intro ?_ ?_); focus (first | rfl | decide | omega | (simp only [List.length_map,List.length_set,and_true]; omega)))
                try simp only [AH.SD,AH.SE,AOp.call?,AOp.next?,bstep,AV.cells,unAV,binAV,retQ,retV,AH.sliceElems,AH.bytesOf,AH.strOp,AH.bound,AH.missQ,AH.minmaxAV,AH.readOf,AH.effOf,simprocAttr,AH.SP,AH.PD,AV.inB,vstep,vw,shift,newOnes,rowsM,blkIn,rwB,@flat_lts,AV.lt,AV.lts,Nat.sub_self,AH.SO,h64,hl0,rvalT_p v1,rvalT_p v2,rvalT_p v3,g0,List.length_map,hs64,hn,hq,d1,d2,d3,d4,d5]
                try repeat ((with_reducible refine And.intro ?_ ?_); focus (first | rfl | decide | omega | (simp only [List.length_map,List.length_set,and_true]; omega)))
                clear hr w1 w2 hf
                refine loop_do [0] [9,8,7,6,0] [] (α:=Nat × ByteArray) (fun x =>n - x.1) (r5a l q n) (fun x =>x.1 ≤ n ∧ x.2.size = x.1 * 56 ∧ joinS l q n (n - x.1) x.1 x.2 = jnZ l q n) (0,⟨#[]⟩) ⟨Nat.zero_le _,rfl,rfl⟩ (by simp only [AH.SD,AH.SE,AOp.call?,AOp.next?,bstep,AV.cells,unAV,binAV,retQ,retV,AH.sliceElems,AH.bytesOf,AH.strOp,AH.bound,AH.missQ,AH.minmaxAV,AH.readOf,AH.effOf,simprocAttr,AH.SP,AH.PD,AV.inB,vstep,r5a,strsR_in,strsR_ren]) ?_
                rintro X ⟨i,acc⟩ ⟨hi,hsz,hj⟩ ih
                dsimp only at hi hsz hj
                cases hlt : decide ((i : Int) < (n : Int))
                rotate_left
                · have hi1 : i < n:=by simp only [decide_eq_true_eq] at hlt; omega
                  have wi:=wrapS (i:=i) (by omega)
                  rw [show n - i = (n - (i + 1)) + 1 by omega,joinS] at hj
                  have eE : num4 q ++ num2 (i : Int) ++ num2 (n : Int) = endS q i n:=by
                    rw [endS,u64_id (n:=q) (by omega) (by omega),u64_id (n:=(i : Int)) (by omega) (by omega),u64_id (n:=(n : Int)) (by omega) (by omega)]
                  cases hx : l[i]? with
                  | none =>
                    have hge : decide ((i : Int) ≥ (l.length : Int)) = true:=decide_eq_true (by have:=List.getElem?_eq_none_iff.1 hx; omega)
                    have hb : badJ l q n i = true:=by rw [badJ,hx]
                    rw [hb,cond_true] at hj
                    have hz:=rdZ_bad (i:=i) hF (by rw [← hj])
                    clear ih
                    simp only [AH.SD,AH.SE,AOp.call?,AOp.next?,bstep,AV.cells,unAV,binAV,retQ,retV,AH.sliceElems,AH.bytesOf,AH.strOp,AH.bound,AH.missQ,AH.minmaxAV,AH.readOf,AH.effOf,simprocAttr,AH.SP,AH.PD,AV.inB,vstep,vw,shift,newOnes,rowsM,blkIn,rwB,@flat_lts,AV.lt,AV.lts,Nat.sub_self,AH.SO,r5a,hlt,hge,hz,rrA]
                    try repeat ((with_reducible refine And.intro ?_ ?_); focus (first | rfl | decide | omega | (simp only [List.length_map,List.length_set,and_true]; omega)))
                    try simp only [AH.SD,AH.SE,AOp.call?,AOp.next?,bstep,AV.cells,unAV,binAV,retQ,retV,AH.sliceElems,AH.bytesOf,AH.strOp,AH.bound,AH.missQ,AH.minmaxAV,AH.readOf,AH.effOf,simprocAttr,AH.SP,AH.PD,AV.inB,vstep,vw,shift,newOnes,rowsM,blkIn,rwB,@flat_lts,AV.lt,AV.lts,Nat.sub_self,AH.SO,hz,rrA]
                    rfl
                  | some x =>
                    have hil : i < l.length:=(List.getElem?_eq_some_iff.1 hx).1
                    have hge : decide ((i : Int) ≥ (l.length : Int)) = false:=decide_eq_false (by omega)
                    have gi:=rowG hx
                    cases hx64 : ((x.size : Int) != 64)
                    rotate_left
                    · have hb : badJ l q n i = true:=by simp only [badJ,hx,hx64,Bool.true_or]
                      rw [hb,cond_true] at hj
                      have hz:=rdZ_bad (i:=i) hF (by rw [← hj])
                      clear ih
                      simp only [AH.SD,AH.SE,AOp.call?,AOp.next?,bstep,AV.cells,unAV,binAV,retQ,retV,AH.sliceElems,AH.bytesOf,AH.strOp,AH.bound,AH.missQ,AH.minmaxAV,AH.readOf,AH.effOf,simprocAttr,AH.SP,AH.PD,AV.inB,vstep,vw,shift,newOnes,rowsM,blkIn,rwB,@flat_lts,AV.lt,AV.lts,Nat.sub_self,AH.SO,r5a,hlt,hge,gi,hx64,Int.toNat_natCast,List.length_map,hz,rrA]
                      try repeat ((with_reducible refine And.intro ?_ ?_); focus (first | rfl | decide | omega | (simp only [List.length_map,List.length_set,and_true]; omega)))
                      try simp only [AH.SD,AH.SE,AOp.call?,AOp.next?,bstep,AV.cells,unAV,binAV,retQ,retV,AH.sliceElems,AH.bytesOf,AH.strOp,AH.bound,AH.missQ,AH.minmaxAV,AH.readOf,AH.effOf,simprocAttr,AH.SP,AH.PD,AV.inB,vstep,vw,shift,newOnes,rowsM,blkIn,rwB,@flat_lts,AV.lt,AV.lts,Nat.sub_self,AH.SO,hz,rrA]
                      rfl
                    · have hx1 : x.size = 64:=by simp only [bne_eq_false_iff_eq] at hx64; omega
                      cases hte : (x.extract 56 64).toList == (endS q i n).toList
                      · have hb : badJ l q n i = true:=by rw [badJ,hx]; show ((x.size : Int) != 64 || !((x.extract 56 x.size).toList == (endS q i n).toList)) = _; rw [hx64,hx1,hte]; rfl
                        rw [hb,cond_true] at hj
                        have hz:=rdZ_bad (i:=i) hF (by rw [← hj])
                        clear ih
                        simp only [AH.SD,AH.SE,AOp.call?,AOp.next?,bstep,AV.cells,unAV,binAV,retQ,retV,AH.sliceElems,AH.bytesOf,AH.strOp,AH.bound,AH.missQ,AH.minmaxAV,AH.readOf,AH.effOf,simprocAttr,AH.SP,AH.PD,AV.inB,vstep,vw,shift,newOnes,rowsM,blkIn,rwB,@flat_lts,AV.lt,AV.lts,Nat.sub_self,AH.SO,r5a,hlt,hge,gi,hx64,hx1,Int.toNat_natCast,List.length_map,rnumT_4,rnumT_2,eE,hte,hz,rrA]
                        try repeat ((with_reducible refine And.intro ?_ ?_); focus (first | rfl | decide | omega | (simp only [List.length_map,List.length_set,and_true]; omega)))
                        try simp only [AH.SD,AH.SE,AOp.call?,AOp.next?,bstep,AV.cells,unAV,binAV,retQ,retV,AH.sliceElems,AH.bytesOf,AH.strOp,AH.bound,AH.missQ,AH.minmaxAV,AH.readOf,AH.effOf,simprocAttr,AH.SP,AH.PD,AV.inB,vstep,vw,shift,newOnes,rowsM,blkIn,rwB,@flat_lts,AV.lt,AV.lts,Nat.sub_self,AH.SO,hx1,Int.toNat_natCast,List.length_map,rnumT_4,rnumT_2,eE,hte,hz,rrA]
                        repeat ((with_reducible refine And.intro ?_ ?_); focus (first | rfl | decide | omega | (simp only [num4_sz,num2_sz,ByteArray.size_append,imax]; omega)))
                        rfl
                      · have hb : badJ l q n i = false:=by rw [badJ,hx]; show ((x.size : Int) != 64 || !((x.extract 56 x.size).toList == (endS q i n).toList)) = _; rw [hx64,hx1,hte]; rfl
                        rw [hb,cond_false,hx,Option.getD_some] at hj
                        have hs0 : (x.extract 0 56).size = 56:=by rw [ByteArray.size_extract]; omega
                        have done:=ih (i + 1,acc ++ x.extract 0 56) ⟨hi1,by rw [ByteArray.size_append,hs0,hsz]; omega,hj⟩ (show n - (i + 1) < n - i by omega)
                        simp only [r5a] at done
                        simp only [AH.SD,AH.SE,AOp.call?,AOp.next?,bstep,AV.cells,unAV,binAV,retQ,retV,AH.sliceElems,AH.bytesOf,AH.strOp,AH.bound,AH.missQ,AH.minmaxAV,AH.readOf,AH.effOf,simprocAttr,AH.SP,AH.PD,AV.inB,vstep,vw,shift,newOnes,rowsM,blkIn,rwB,@flat_lts,AV.lt,AV.lts,Nat.sub_self,AH.SO,r5a,hlt,hge,gi,hx64,hx1,Int.toNat_natCast,List.length_map,rnumT_4,rnumT_2,eE,hte,wi]
                        try repeat ((with_reducible refine And.intro ?_ ?_); focus (first | rfl | decide | omega | (simp only [List.length_map,List.length_set,and_true]; omega)))
                        try simp only [AH.SD,AH.SE,AOp.call?,AOp.next?,bstep,AV.cells,unAV,binAV,retQ,retV,AH.sliceElems,AH.bytesOf,AH.strOp,AH.bound,AH.missQ,AH.minmaxAV,AH.readOf,AH.effOf,simprocAttr,AH.SP,AH.PD,AV.inB,vstep,vw,shift,newOnes,rowsM,blkIn,rwB,@flat_lts,AV.lt,AV.lts,Nat.sub_self,AH.SO,hx1,gi,Int.toNat_natCast,List.length_map,rnumT_4,rnumT_2,eE,hte,wi]
                        try repeat ((with_reducible refine And.intro ?_ ?_); focus (first | rfl | decide | omega | (simp only [List.length_map,List.length_set,and_true]; omega)))
                        repeat ((with_reducible refine And.intro ?_ ?_); focus (first | rfl | decide | omega | (simp only [num4_sz,num2_sz,ByteArray.size_append,imax]; omega) | (rw [hs0,hsz,imax]; omega)))
                        refine gc_auto [0] [9,8,7,6,0] [] ?_
                        simp only [AH.SD,AH.SE,AOp.call?,AOp.next?,bstep,AV.cells,unAV,binAV,retQ,retV,AH.sliceElems,AH.bytesOf,AH.strOp,AH.bound,AH.missQ,AH.minmaxAV,AH.readOf,AH.effOf,simprocAttr,AH.SP,AH.PD,AV.inB,vstep,strsR_in,strsR_ren]
                        exact done
                · have hi1 : n = i:=by simp only [decide_eq_false_iff_not] at hlt; omega
                  subst hi1
                  rw [Nat.sub_self,joinS] at hj
                  clear ih
                  have hz:=rdZ_join hF hj.symm
                  have v4 : okVal (acc.extract 0 4):=.inr (by rw [ByteArray.size_extract]; omega)
                  obtain ⟨k1,k2⟩:=valS_in v4
                  obtain ⟨k,hk⟩:=Int.eq_ofNat_of_zero_le k1
                  rw [hk] at k2
                  have w8 : IntKind.i64.wrap ((acc.size : Int) - 8) = (acc.size : Int) - 8:=by rw [IntKind.wrap_i64]; omega
                  have bad : (datZ acc).2 = false → rdZ l = ⟨⟨#[]⟩,0,0,0⟩:=fun h =>by rw [hz,h]; rfl
                  have hdz : ∀ a b : Bool,decide ((k : Int) > 6000) = a → decide ((k : Int) > (acc.size : Int) - 8) = b → datZ acc = bif a then (⟨#[]⟩,false) else bif b then (⟨#[]⟩,false) else (datT acc k,datQ acc k):=fun a b h1 h2 =>by rw [datZ,hk,h1,h2,Int.toNat_natCast]
                  cases e1 : decide ((k : Int) > 6000)
                  rotate_left
                  · have hz':=bad (by rw [hdz _ _ e1 rfl]; rfl)
                    simp only [AH.SD,AH.SE,AOp.call?,AOp.next?,bstep,AV.cells,unAV,binAV,retQ,retV,AH.sliceElems,AH.bytesOf,AH.strOp,AH.bound,AH.missQ,AH.minmaxAV,AH.readOf,AH.effOf,simprocAttr,AH.SP,AH.PD,AV.inB,vstep,vw,shift,newOnes,rowsM,blkIn,rwB,@flat_lts,AV.lt,AV.lts,Nat.sub_self,AH.SO,r5a,hlt,rvalT_p v4,hk,e1,hz',rrA]
                    try repeat ((with_reducible refine And.intro ?_ ?_); focus (first | rfl | decide | omega | (simp only [List.length_map,List.length_set,and_true]; omega)))
                    try simp only [AH.SD,AH.SE,AOp.call?,AOp.next?,bstep,AV.cells,unAV,binAV,retQ,retV,AH.sliceElems,AH.bytesOf,AH.strOp,AH.bound,AH.missQ,AH.minmaxAV,AH.readOf,AH.effOf,simprocAttr,AH.SP,AH.PD,AV.inB,vstep,vw,shift,newOnes,rowsM,blkIn,rwB,@flat_lts,AV.lt,AV.lts,Nat.sub_self,AH.SO,rvalT_p v4,hk,e1,hz',rrA]
                    omega
                  · cases e2 : decide ((k : Int) > (acc.size : Int) - 8)
                    rotate_left
                    · have hz':=bad (by rw [hdz _ _ e1 e2]; rfl)
                      simp only [AH.SD,AH.SE,AOp.call?,AOp.next?,bstep,AV.cells,unAV,binAV,retQ,retV,AH.sliceElems,AH.bytesOf,AH.strOp,AH.bound,AH.missQ,AH.minmaxAV,AH.readOf,AH.effOf,simprocAttr,AH.SP,AH.PD,AV.inB,vstep,vw,shift,newOnes,rowsM,blkIn,rwB,@flat_lts,AV.lt,AV.lts,Nat.sub_self,AH.SO,r5a,hlt,rvalT_p v4,hk,e1,e2,w8,hz',rrA]
                      try repeat ((with_reducible refine And.intro ?_ ?_); focus (first | rfl | decide | omega | (simp only [List.length_map,List.length_set,and_true]; omega)))
                      try simp only [AH.SD,AH.SE,AOp.call?,AOp.next?,bstep,AV.cells,unAV,binAV,retQ,retV,AH.sliceElems,AH.bytesOf,AH.strOp,AH.bound,AH.missQ,AH.minmaxAV,AH.readOf,AH.effOf,simprocAttr,AH.SP,AH.PD,AV.inB,vstep,vw,shift,newOnes,rowsM,blkIn,rwB,@flat_lts,AV.lt,AV.lts,Nat.sub_self,AH.SO,rvalT_p v4,hk,e1,e2,w8,hz',rrA]
                      omega
                    · have e1' : k ≤ 6000:=by simp only [decide_eq_false_iff_not] at e1; omega
                      have e2' : 8 + k ≤ acc.size:=by simp only [decide_eq_false_iff_not] at e2; omega
                      have wk : IntKind.i64.wrap (8 + (k : Int)) = ((8 + k : Nat) : Int):=by rw [IntKind.wrap_i64]; omega
                      have ht : (datT acc k).size = k:=by rw [datT,ByteArray.size_extract]; omega
                      have etd : acc.extract 8 (8 + k) = datT acc k:=rfl
                      have hdq:=hdz _ _ e1 e2
                      rw [cond_false,cond_false] at hdq
                      rw [hdq] at bad
                      have o1 : okBl (q,datT acc k,()):=⟨q1,q2,by show (datT acc k).size ≤ 6000; omega⟩
                      cases e3 : ((sizeN k : Int) != (n : Int))
                      rotate_left
                      · have hz':=bad (by
                          have : (((sizeN k * 56 : Nat) : Int) == (acc.size : Int)) = false:=by
                            simp only [bne_iff_ne] at e3
                            simp only [beq_eq_false_iff_ne]; omega
                          show datQ acc k = false
                          rw [datQ,ht,this]; rfl)
                        simp only [AH.SD,AH.SE,AOp.call?,AOp.next?,bstep,AV.cells,unAV,binAV,retQ,retV,AH.sliceElems,AH.bytesOf,AH.strOp,AH.bound,AH.missQ,AH.minmaxAV,AH.readOf,AH.effOf,simprocAttr,AH.SP,AH.PD,AV.inB,vstep,vw,shift,newOnes,rowsM,blkIn,rwB,@flat_lts,AV.lt,AV.lts,Nat.sub_self,AH.SO,r5a,hlt,rvalT_p v4,hk,e1,e2,w8,wk,etd,rbksN_p,rtC1,o1,not_true_eq_false,if_false,rbksT_p,if_true,ht,e3,Int.toNat_natCast,hz',rrA]
                        try repeat ((with_reducible refine And.intro ?_ ?_); focus (first | rfl | decide | omega | (simp only [List.length_map,List.length_set,and_true]; omega)))
                        try simp only [AH.SD,AH.SE,AOp.call?,AOp.next?,bstep,AV.cells,unAV,binAV,retQ,retV,AH.sliceElems,AH.bytesOf,AH.strOp,AH.bound,AH.missQ,AH.minmaxAV,AH.readOf,AH.effOf,simprocAttr,AH.SP,AH.PD,AV.inB,vstep,vw,shift,newOnes,rowsM,blkIn,rwB,@flat_lts,AV.lt,AV.lts,Nat.sub_self,AH.SO,etd,rbksN_p,rtC1,o1,not_true_eq_false,if_false,rbksT_p,if_true,ht,e3,Int.toNat_natCast,hz',rrA]
                        omega
                      · have hnk : sizeN k = n:=by simp only [bne_eq_false_iff_eq] at e3; omega
                        obtain ⟨j1,j2,j3⟩:=join_parts n 0 ⟨#[]⟩ rfl hj.symm
                        rw [Nat.zero_add] at j1 j3
                        have hfs : (fullS (datT acc k)).size = n * 56:=by rw [full_sz,ht,hnk]
                        have blkE : ∀ i,blkS q (datT acc k) i = (fullS (datT acc k)).extract (i * 56) ((i + 1) * 56) ++ endS q i n:=fun i =>by rw [blkS,ht,hnk]
                        simp only [AH.SD,AH.SE,AOp.call?,AOp.next?,bstep,AV.cells,unAV,binAV,retQ,retV,AH.sliceElems,AH.bytesOf,AH.strOp,AH.bound,AH.missQ,AH.minmaxAV,AH.readOf,AH.effOf,simprocAttr,AH.SP,AH.PD,AV.inB,vstep,vw,shift,newOnes,rowsM,blkIn,rwB,@flat_lts,AV.lt,AV.lts,Nat.sub_self,AH.SO,r5a,hlt,rvalT_p v4,hk,e1,e2,w8,wk,etd,rbksN_p,rtC1,o1,not_true_eq_false,if_false,rbksT_p,if_true,ht,e3,Int.toNat_natCast]
                        try repeat ((with_reducible refine And.intro ?_ ?_); focus (first | rfl | decide | omega | (simp only [List.length_map,List.length_set,and_true]; omega)))
                        try simp only [AH.SD,AH.SE,AOp.call?,AOp.next?,bstep,AV.cells,unAV,binAV,retQ,retV,AH.sliceElems,AH.bytesOf,AH.strOp,AH.bound,AH.missQ,AH.minmaxAV,AH.readOf,AH.effOf,simprocAttr,AH.SP,AH.PD,AV.inB,vstep,vw,shift,newOnes,rowsM,blkIn,rwB,@flat_lts,AV.lt,AV.lts,Nat.sub_self,AH.SO,etd,rbksN_p,rtC1,o1,not_true_eq_false,if_false,rbksT_p,if_true,ht,e3,Int.toNat_natCast]
                        try repeat ((with_reducible refine And.intro ?_ ?_); focus (first | rfl | decide | omega | (simp only [List.length_map,List.length_set,and_true]; omega)))
                        rw [hnk]
                        refine loop_do [0,1] [13,11,10,8,7,6,0] [] (α:=Nat) (fun i =>n - i) (r5b l q n k acc) (fun i =>i ≤ n ∧ ∀ j,j < i → (fullS (datT acc k)).extract (j * 56) ((j + 1) * 56) = acc.extract (j * 56) ((j + 1) * 56)) 0 ⟨Nat.zero_le _,fun j h =>by omega⟩ (by simp only [AH.SD,AH.SE,AOp.call?,AOp.next?,bstep,AV.cells,unAV,binAV,retQ,retV,AH.sliceElems,AH.bytesOf,AH.strOp,AH.bound,AH.missQ,AH.minmaxAV,AH.readOf,AH.effOf,simprocAttr,AH.SP,AH.PD,AV.inB,vstep,r5b,strsR_in,strsR_ren]) ?_
                        rintro X i ⟨hi,hall⟩ ih
                        cases hlt : decide ((i : Int) < (n : Int))
                        · have hi1 : n = i:=by simp only [decide_eq_false_iff_not] at hlt; omega
                          subst hi1
                          have hfull : fullS (datT acc k) = acc:=pieces hfs j1 hall
                          have hq2 : datQ acc k = true:=dat_of (by omega) hk e1' e2' hfull
                          have hz' : rdZ l = ⟨datT acc k,q,(n : Int),-1⟩:=by rw [hz,hdq]; simp only [hq2,cond_true]
                          clear ih
                          simp only [AH.SD,AH.SE,AOp.call?,AOp.next?,bstep,AV.cells,unAV,binAV,retQ,retV,AH.sliceElems,AH.bytesOf,AH.strOp,AH.bound,AH.missQ,AH.minmaxAV,AH.readOf,AH.effOf,simprocAttr,AH.SP,AH.PD,AV.inB,vstep,vw,shift,newOnes,rowsM,blkIn,rwB,@flat_lts,AV.lt,AV.lts,Nat.sub_self,AH.SO,r5b,hlt,wk,etd,Int.toNat_natCast,hz',rrA]
                          try repeat ((with_reducible refine And.intro ?_ ?_); focus (first | rfl | decide | omega | (simp only [List.length_map,List.length_set,and_true]; omega)))
                          try simp only [AH.SD,AH.SE,AOp.call?,AOp.next?,bstep,AV.cells,unAV,binAV,retQ,retV,AH.sliceElems,AH.bytesOf,AH.strOp,AH.bound,AH.missQ,AH.minmaxAV,AH.readOf,AH.effOf,simprocAttr,AH.SP,AH.PD,AV.inB,vstep,vw,shift,newOnes,rowsM,blkIn,rwB,@flat_lts,AV.lt,AV.lts,Nat.sub_self,AH.SO,wk,etd,Int.toNat_natCast,hz',rrA]
                          omega
                        · have hi1 : i < n:=by simp only [decide_eq_true_eq] at hlt; omega
                          have wi:=wrapS (i:=i) (by omega)
                          obtain ⟨x,hx,hx64,hxe⟩:=j3 i (Nat.zero_le _) hi1
                          have hil : i < l.length:=(List.getElem?_eq_some_iff.1 hx).1
                          have gi:=rowG hx
                          have gb : ((blkL q (datT acc k) n).map strC).getD i [] = [.str (blkS q (datT acc k) i)]:=rowG (by simp [blkL,hi1])
                          cases hc : (blkS q (datT acc k) i).toList == x.toList
                          · have hz':=bad (by
                              show datQ acc k = false
                              cases hdqq : datQ acc k
                              · rfl
                              · have hf2:=dat_full e2' e1' hk hdqq
                                rw [blkE,hf2,← hxe,tl_self] at hc
                                cases hc)
                            clear ih
                            simp only [AH.SD,AH.SE,AOp.call?,AOp.next?,bstep,AV.cells,unAV,binAV,retQ,retV,AH.sliceElems,AH.bytesOf,AH.strOp,AH.bound,AH.missQ,AH.minmaxAV,AH.readOf,AH.effOf,simprocAttr,AH.SP,AH.PD,AV.inB,vstep,vw,shift,newOnes,rowsM,blkIn,rwB,@flat_lts,AV.lt,AV.lts,Nat.sub_self,AH.SO,r5b,hlt,gi,gb,hc,Int.toNat_natCast,List.length_map,blkL_len,hz',rrA]
                            try repeat ((with_reducible refine And.intro ?_ ?_); focus (first | rfl | decide | omega | (simp only [List.length_map,List.length_set,and_true]; omega)))
                            try simp only [AH.SD,AH.SE,AOp.call?,AOp.next?,bstep,AV.cells,unAV,binAV,retQ,retV,AH.sliceElems,AH.bytesOf,AH.strOp,AH.bound,AH.missQ,AH.minmaxAV,AH.readOf,AH.effOf,simprocAttr,AH.SP,AH.PD,AV.inB,vstep,vw,shift,newOnes,rowsM,blkIn,rwB,@flat_lts,AV.lt,AV.lts,Nat.sub_self,AH.SO,gi,gb,hc,Int.toNat_natCast,List.length_map,blkL_len,hz',rrA]
                            rfl
                          · have hxq:=tl_eq hc
                            have done:=ih (i + 1) ⟨hi1,fun j hj2 =>by
                              rcases Nat.lt_or_ge j i with c | c
                              · exact hall j c
                              · obtain rfl : j = i:=by omega
                                rw [blkE,hxe] at hxq
                                have h2 : ((fullS (datT acc k)).extract (j * 56) ((j + 1) * 56) ++ endS q j n).extract 0 56 = (acc.extract (j * 56) ((j + 1) * 56) ++ endS q j n).extract 0 56:=by rw [hxq]
                                rw [ex_left (by rw [ByteArray.size_extract]; omega),ex_left (by rw [ByteArray.size_extract]; omega),ex_all2 rfl (by rw [ByteArray.size_extract]; omega),ex_all2 rfl (by rw [ByteArray.size_extract]; omega)] at h2
                                exact h2⟩ (show n - (i + 1) < n - i by omega)
                            simp only [r5b] at done
                            simp only [AH.SD,AH.SE,AOp.call?,AOp.next?,bstep,AV.cells,unAV,binAV,retQ,retV,AH.sliceElems,AH.bytesOf,AH.strOp,AH.bound,AH.missQ,AH.minmaxAV,AH.readOf,AH.effOf,simprocAttr,AH.SP,AH.PD,AV.inB,vstep,vw,shift,newOnes,rowsM,blkIn,rwB,@flat_lts,AV.lt,AV.lts,Nat.sub_self,AH.SO,r5b,hlt,gi,gb,hc,Int.toNat_natCast,List.length_map,blkL_len,wi]
                            try repeat ((with_reducible refine And.intro ?_ ?_); focus (first | rfl | decide | omega | (simp only [List.length_map,List.length_set,and_true]; omega)))
                            try simp only [AH.SD,AH.SE,AOp.call?,AOp.next?,bstep,AV.cells,unAV,binAV,retQ,retV,AH.sliceElems,AH.bytesOf,AH.strOp,AH.bound,AH.missQ,AH.minmaxAV,AH.readOf,AH.effOf,simprocAttr,AH.SP,AH.PD,AV.inB,vstep,vw,shift,newOnes,rowsM,blkIn,rwB,@flat_lts,AV.lt,AV.lts,Nat.sub_self,AH.SO,gi,gb,hc,Int.toNat_natCast,List.length_map,blkL_len,wi]
                            try repeat ((with_reducible refine And.intro ?_ ?_); focus (first | rfl | decide | omega | (simp only [List.length_map,List.length_set,and_true]; omega)))
                            refine gc_auto [0,1] [13,11,10,8,7,6,0] [] ?_
                            simp only [AH.SD,AH.SE,AOp.call?,AOp.next?,bstep,AV.cells,unAV,binAV,retQ,retV,AH.sliceElems,AH.bytesOf,AH.strOp,AH.bound,AH.missQ,AH.minmaxAV,AH.readOf,AH.effOf,simprocAttr,AH.SP,AH.PD,AV.inB,vstep,strsR_in,strsR_ren]
                            exact done
end Go.Proofs.YthapdikdeoeplaaGreatDoor.Z7
end
section
set_option linter.unusedVariables false
set_option linter.unnecessarySimpa false
open Go AH
set_option linter.unusedSimpArgs false
set_option maxRecDepth 100000
namespace Go.Proofs.YthapdikdeoeplaaGreatDoor.Z7
def prSt (s : ByteArray) (i : Nat) : St:=⟨[(4,.int .i64 ((64 * i : Nat) : Int)),(3,.slc 0 0 i none),(0,.str s)],[some (.row false 1 ((blks s i).map strC))]⟩
theorem parts_ok (s : ByteArray) (hs : s.size ≤ 1048576) : CallA1 S0 8 [.str s] [] fun r m =>r = .slc 0 0 (s.size / 64) none ∧ m = [some (.row false 1 ((blks s (s.size / 64)).map strC))]:=by
  refine CallA1.fin ?_
  refine fun_sound okL0 Tryz.func8 c8 ?_
  unfold wpF F8
  simp only [AH.SD,AH.SE,AOp.call?,AOp.next?,bstep,AV.cells,unAV,binAV,retQ,retV,AH.sliceElems,AH.bytesOf,AH.strOp,AH.bound,AH.missQ,AH.minmaxAV,AH.readOf,AH.effOf,simprocAttr]
  repeat (refine ⟨by first | rfl | decide | omega | (simp only [List.length_map,List.length_set,and_true]; omega),?_⟩)
  try simp only [AH.SD,AH.SE,AOp.call?,AOp.next?,bstep,AV.cells,unAV,binAV,retQ,retV,AH.sliceElems,AH.bytesOf,AH.strOp,AH.bound,AH.missQ,AH.minmaxAV,AH.readOf,AH.effOf,simprocAttr]
  refine loop_do [0] [4,3,0] [.cap 3] (α:=Nat) (fun i =>s.size / 64 - i) (prSt s) (fun i =>i ≤ s.size / 64) 0 (Nat.zero_le _) (by simp only [AH.SD,AH.SE,AOp.call?,AOp.next?,bstep,AV.cells,unAV,binAV,retQ,retV,AH.sliceElems,AH.bytesOf,AH.strOp,AH.bound,AH.missQ,AH.minmaxAV,AH.readOf,AH.effOf,simprocAttr,AH.SP,AH.PD,AV.inB,vstep,prSt,blks,List.range_zero,List.map_nil]) ?_
  intro X i hi ih
  have w1 : IntKind.i64.wrap (((64 * i : Nat) : Int) + 64) = ((64 * (i + 1) : Nat) : Int):=by rw [IntKind.wrap_i64]; omega
  simp only [AH.SD,AH.SE,AOp.call?,AOp.next?,bstep,AV.cells,unAV,binAV,retQ,retV,AH.sliceElems,AH.bytesOf,AH.strOp,AH.bound,AH.missQ,AH.minmaxAV,AH.readOf,AH.effOf,simprocAttr,prSt,w1]
  refine ⟨fun hlt => ?_,fun hlt => ?_⟩
  · have h1 : 64 * (i + 1) ≤ s.size:=by simp only [decide_eq_true_eq] at hlt; omega
    have done:=ih (i + 1) (by omega) (by omega)
    have htk : ((blks s i).map strC).take i = (blks s i).map strC:=List.take_of_length_le (by rw [List.length_map,blks_len]; exact Nat.le_refl _)
    simp only [prSt,blks_succ,List.map_append,List.map_cons,List.map_nil,List.length_append,List.length_cons,List.length_nil,Nat.zero_add,strC_eq,show 64 * i + 64 = 64 * (i + 1) by omega] at done
    simp only [AH.SD,AH.SE,AOp.call?,AOp.next?,bstep,AV.cells,unAV,binAV,retQ,retV,AH.sliceElems,AH.bytesOf,AH.strOp,AH.bound,AH.missQ,AH.minmaxAV,AH.readOf,AH.effOf,simprocAttr,w1,Int.toNat_natCast,List.length_map,blks_len,htk,List.drop_zero]
    repeat (refine ⟨by first | rfl | decide | omega | (simp only [List.length_map,List.length_set,and_true]; omega),?_⟩)
    try simp only [AH.SD,AH.SE,AOp.call?,AOp.next?,bstep,AV.cells,unAV,binAV,retQ,retV,AH.sliceElems,AH.bytesOf,AH.strOp,AH.bound,AH.missQ,AH.minmaxAV,AH.readOf,AH.effOf,simprocAttr,w1,Int.toNat_natCast,List.length_map,blks_len,htk,List.drop_zero]
    refine gc_auto [2] [4,3,0] [] ?_
    simp only [AH.SD,AH.SE,AOp.call?,AOp.next?,bstep,AV.cells,unAV,binAV,retQ,retV,AH.sliceElems,AH.bytesOf,AH.strOp,AH.bound,AH.missQ,AH.minmaxAV,AH.readOf,AH.effOf,simprocAttr,AH.SP,AH.PD,AV.inB,vstep,List.length_append,List.length_map,blks_len,List.length_cons,List.length_nil,Nat.zero_add]
    exact done
  · have : i = s.size / 64:=by simp only [decide_eq_false_iff_not] at hlt; omega
    subst this
    simp only [AH.SD,AH.SE,AOp.call?,AOp.next?,bstep,AV.cells,unAV,binAV,retQ,retV,AH.sliceElems,AH.bytesOf,AH.strOp,AH.bound,AH.missQ,AH.minmaxAV,AH.readOf,AH.effOf,simprocAttr]
    refine ⟨[0],[],?_⟩
    simp only [AH.SD,AH.SE,AOp.call?,AOp.next?,bstep,AV.cells,unAV,binAV,retQ,retV,AH.sliceElems,AH.bytesOf,AH.strOp,AH.bound,AH.missQ,AH.minmaxAV,AH.readOf,AH.effOf,simprocAttr,AH.SP,AH.PD,AV.inB,vstep]
    try simp
def partsT : ET:=etN (cC aS c0) fun x =>if x.1.size ≤ 1048576 then some (.slc 0 0 (x.1.size / 64) none,[some (.row false 1 ((blks x.1 (x.1.size / 64)).map strC))]) else none
theorem partsT_ok : EffF S0 8 partsT:=etN_ok fun x v m' h =>by
  split at h
  · rename_i hs
    simp only [Option.some.injEq,Prod.mk.injEq] at h
    obtain ⟨rfl,rfl⟩:=h
    exact ⟨rfl,parts_ok x.1 hs⟩
  · cases h
theorem partsT_p {s : ByteArray} {M : Nat → Option Blk} {n : Nat} : partsT [.str s] M n = useO [] n (if s.size ≤ 1048576 then some (.slc 0 0 (s.size / 64) none,[some (.row false 1 ((blks s (s.size / 64)).map strC))]) else none):=by
  simp only [partsT,etN_eq,cC_dec,aS_dec,c0_dec,pairO_some,Option.bind_some]
def rrdV : RT:=rtV [1] (vf1 1 cStr c0 fun l (_ : Unit) =>rrA (rdZ l))
theorem rrdV_ok : ReadF S0 46 rrdV:=vf1_ok errs0 fun l _ hl =>⟨rfl,rread_ok l hl⟩
theorem rrdV_eq {id ix n : Nat} {cap : Option Nat} {M : Nat → Option Blk} {es : List (List AV)} {l : List ByteArray} (hM : rowE M id = some (1,es)) (hs : (es.drop ix).take n = l.map strC) (hle : ix + n ≤ es.length) (hb : n ≤ 1048576) :
    rrdV [.slc id ix n cap] M = some (rrA (rdZ l),[id]):=vf1_eq (c:=cStr) (x:=c0) hM hs hle hb rfl
theorem okRr : CtxOK S0 (ctxU S0 [(46,rrdV)] []):=ctxU_ok ⟨rrdV_ok,trivial⟩ trivial mixed
def rrSt (b : Int) (L : List ByteArray) (x : Nat × List ByteArray × Nat) : St:=⟨[(7,.int .i64 x.1),(6,.slc 1 0 x.2.1.length none),(1,.int .i64 b),(0,.slc 0 0 L.length none)],[some (.row true 1 (L.map strC)),some (.row false 1 (x.2.1.map strC))]⟩
theorem rowE0 {ro : Bool} {k : Nat} {es : List (List AV)} {r : Mem} : rowE (mget (some (.row ro k es) :: r)) 0 = some (k,es):=rowE_hit
theorem rdZ_pos {l : List ByteArray} (h : (rdZ l).bad ≠ -1) : 0 ≤ (rdZ l).bad:=by
  unfold rdZ at h ⊢
  cases h1 : (firZ l).2.2
  · exact Int.le_refl 0
  · rw [h1,cond_true] at h
    rw [cond_true]
    cases h2 : decide ((jnZ l (firZ l).1 (firZ l).2.1.toNat).2 ≥ 0)
    · rw [h2,cond_false] at h
      rw [cond_false]
      cases h3 : (datZ (jnZ l (firZ l).1 (firZ l).2.1.toNat).1).2
      · exact Int.le_refl 0
      · rw [h3,cond_true] at h; exact absurd rfl h
    · rw [cond_true]; simpa using h2
def okB2 (n : Int) : Prop:=0 ≤ n ∧ n ≤ 2147483647
instance (n : Int) : Decidable (okB2 n):=by unfold okB2; infer_instance
set_option maxHeartbeats 4000000 in
theorem rlog_ok (L : List ByteArray) (hL : L.length ≤ 1048576) (b : Int) (hb : okB2 b) : CallA1 S0 11 [.slc 0 0 L.length none,.int .i64 b] [some (.row true 1 (L.map strC))]
    fun r m =>r = .tup [.slc 1 0 (logR L.length L (b + 1)).1.length none,.int .i64 (logR L.length L (b + 1)).2] ∧ m = [some (.row true 1 (L.map strC)),some (.row false 1 ((logR L.length L (b + 1)).1.map strC))]:=by
  have hb1:=hb.1
  have hb2:=hb.2
  refine CallA1.fin ?_
  refine fun_sound okRr Tryz.func11 c11 ?_
  unfold wpF F11
  simp only [AH.SD,AH.SE,AOp.call?,AOp.next?,bstep,AV.cells,unAV,binAV,retQ,retV,AH.sliceElems,AH.bytesOf,AH.strOp,AH.bound,AH.missQ,AH.minmaxAV,AH.readOf,AH.effOf,simprocAttr]
  repeat (refine ⟨by first | rfl | decide | omega | (simp only [List.length_map,List.length_set,and_true]; omega),?_⟩)
  try simp only [AH.SD,AH.SE,AOp.call?,AOp.next?,bstep,AV.cells,unAV,binAV,retQ,retV,AH.sliceElems,AH.bytesOf,AH.strOp,AH.bound,AH.missQ,AH.minmaxAV,AH.readOf,AH.effOf,simprocAttr]
  refine loop_do [0,1] [7,6,1,0] [.cap 6] (α:=Nat × List ByteArray × Nat) (fun x =>L.length - x.1) (rrSt b L)
    (fun x =>x.1 ≤ L.length ∧ x.2.1.length ≤ x.1 ∧ L.length - x.1 ≤ x.2.2 ∧ (logR L.length L (b + 1)) = (x.2.1 ++ (logR x.2.2 (L.drop x.1) (b + (x.2.1.length : Int) + 1)).1,x.1 + (logR x.2.2 (L.drop x.1) (b + (x.2.1.length : Int) + 1)).2)) (0,[],L.length)
    ⟨Nat.zero_le _,Nat.le_refl _,by simp,by simp⟩ (by simp only [AH.SD,AH.SE,AOp.call?,AOp.next?,bstep,AV.cells,unAV,binAV,retQ,retV,AH.sliceElems,AH.bytesOf,AH.strOp,AH.bound,AH.missQ,AH.minmaxAV,AH.readOf,AH.effOf,simprocAttr,AH.SP,AH.PD,AV.inB,vstep,rrSt,List.map_nil,List.length_nil]) ?_
  rintro X ⟨i,R,k⟩ ⟨hi,hRi,hk,hx⟩ ih
  simp only at hi hRi hk hx
  have hdl : (L.drop i).length = L.length - i:=List.length_drop
  have hstop : ((rdZ (L.drop i)).bad ≠ -1 ∨ (rdZ (L.drop i)).q ≠ b + (R.length : Int) + 1) → logR L.length L (b + 1) = (R,i):=fun h =>by
    rw [hx]
    cases k with
    | zero =>simp [logR]
    | succ k =>
      unfold logR
      rw [if_neg (fun q =>h.elim (fun z =>z q.1) (fun z =>z q.2))]
      simp
  simp only [AH.SD,AH.SE,AOp.call?,AOp.next?,bstep,AV.cells,unAV,binAV,retQ,retV,AH.sliceElems,AH.bytesOf,AH.strOp,AH.bound,AH.missQ,AH.minmaxAV,AH.readOf,AH.effOf,simprocAttr,rrSt]
  refine ⟨fun hgt => ?_,fun hgt => ?_⟩
  · have hin : i < L.length:=lt_of_dec hgt
    have hs : ((L.map strC).drop i).take (L.length - i) = (L.drop i).map strC:=by
      rw [← List.map_drop]; exact List.take_of_length_le (by simp)
    have hle : i + (L.length - i) ≤ (L.map strC).length:=by rw [List.length_map]; omega
    have hbd : L.length - i ≤ 1048576:=by omega
    have fG:=fun (M : Nat → Option Blk) (hM : rowE M 0 = some (1,L.map strC)) =>rrdV_eq (cap:=none) hM hs hle hbd
    have w1 : IntKind.i64.wrap (b + (R.length : Int)) = b + (R.length : Int):=by rw [IntKind.wrap_i64]; omega
    have w2 : IntKind.i64.wrap (b + (R.length : Int) + 1) = b + (R.length : Int) + 1:=by rw [IntKind.wrap_i64]; omega
    by_cases hg : (rdZ (L.drop i)).bad = -1
    · obtain ⟨g1,g2,g3,g4,g5⟩:=rdZ_good hg
      rw [hdl] at g2
      obtain ⟨n,hn⟩:=Int.eq_ofNat_of_zero_le (show 0 ≤ (rdZ (L.drop i)).n by omega)
      have hn2 : (rdZ (L.drop i)).n.toNat = n:=by omega
      have hng : decide ((-1 : Int) ≥ 0) = false:=rfl
      cases hq : ((rdZ (L.drop i)).q != b + (R.length : Int) + 1)
      · have hq' : (rdZ (L.drop i)).q = b + (R.length : Int) + 1:=by simpa using hq
        obtain ⟨k',hk'⟩ : ∃ k',k = k' + 1:=⟨k - 1,by omega⟩
        have e1 : IntKind.i64.wrap ((i : Int) + (n : Int)) = ((i + n : Nat) : Int):=by rw [IntKind.wrap_i64]; omega
        have done:=ih (i + n,R ++ [(rdZ (L.drop i)).t],k') ⟨by simp only; omega,by simp only [List.length_append,List.length_cons,List.length_nil]; omega,by simp only; omega,by
          rw [hx,hk']
          conv =>lhs; unfold logR
          rw [if_pos ⟨hg,hq'⟩,hn2,List.drop_drop]
          simp only [List.length_append,List.length_cons,List.length_nil,List.append_assoc,List.singleton_append,Nat.zero_add]
          rw [show b + ((R.length + 1 : Nat) : Int) + 1 = b + (R.length : Int) + 1 + 1 by omega,Nat.add_assoc]⟩ (by simp only; omega)
        simp only [rrSt,List.map_append,List.map_cons,List.map_nil,List.length_append,List.length_cons,List.length_nil,Nat.zero_add,strC_eq] at done
        simp only [AH.SD,AH.SE,AOp.call?,AOp.next?,bstep,AV.cells,unAV,binAV,retQ,retV,AH.sliceElems,AH.bytesOf,AH.strOp,AH.bound,AH.missQ,AH.minmaxAV,AH.readOf,AH.effOf,simprocAttr,fG _ rowE0,rrA,hg,hng,hq,hn,w1,w2,e1,Int.toNat_natCast,List.length_map,List.drop_zero,take_all,List.length_append,List.length_cons,List.length_nil,Nat.zero_add]
        repeat ((with_reducible refine And.intro ?_ ?_); focus (first | rfl | decide | omega | (simp only [List.length_map,List.length_set,and_true]; omega)))
        try simp only [AH.SD,AH.SE,AOp.call?,AOp.next?,bstep,AV.cells,unAV,binAV,retQ,retV,AH.sliceElems,AH.bytesOf,AH.strOp,AH.bound,AH.missQ,AH.minmaxAV,AH.readOf,AH.effOf,simprocAttr,fG _ rowE0,rrA,hg,hng,hq,hn,w1,w2,e1,Int.toNat_natCast,List.length_map,List.drop_zero,take_all,List.length_append,List.length_cons,List.length_nil,Nat.zero_add]
        repeat ((with_reducible refine And.intro ?_ ?_); focus (first | rfl | decide | omega | (simp only [List.length_map,List.length_set,and_true]; omega)))
        refine gc_auto [0,3] [7,6,1,0] [] ?_
        simp only [AH.SD,AH.SE,AOp.call?,AOp.next?,bstep,AV.cells,unAV,binAV,retQ,retV,AH.sliceElems,AH.bytesOf,AH.strOp,AH.bound,AH.missQ,AH.minmaxAV,AH.readOf,AH.effOf,simprocAttr,AH.SP,AH.PD,AV.inB,vstep,List.length_append,List.length_map,List.length_cons,List.length_nil,Nat.zero_add]
        exact done
      · have e:=hstop (.inr (by simpa using hq))
        simp only [AH.SD,AH.SE,AOp.call?,AOp.next?,bstep,AV.cells,unAV,binAV,retQ,retV,AH.sliceElems,AH.bytesOf,AH.strOp,AH.bound,AH.missQ,AH.minmaxAV,AH.readOf,AH.effOf,simprocAttr,fG _ rowE0,rrA,hg,hng,hq,hn,w1,w2,Int.toNat_natCast,List.length_map,List.drop_zero]
        repeat ((with_reducible refine And.intro ?_ ?_); focus (first | rfl | decide | omega | (simp only [List.length_map,List.length_set,and_true]; omega)))
        try simp only [AH.SD,AH.SE,AOp.call?,AOp.next?,bstep,AV.cells,unAV,binAV,retQ,retV,AH.sliceElems,AH.bytesOf,AH.strOp,AH.bound,AH.missQ,AH.minmaxAV,AH.readOf,AH.effOf,simprocAttr,fG _ rowE0,rrA,hg,hng,hq,hn,w1,w2,Int.toNat_natCast,List.length_map,List.drop_zero]
        repeat ((with_reducible refine And.intro ?_ ?_); focus (first | rfl | decide | omega | (simp only [List.length_map,List.length_set,and_true]; omega)))
        refine ⟨[0,1],[],?_⟩
        simp only [AH.SD,AH.SE,AOp.call?,AOp.next?,bstep,AV.cells,unAV,binAV,retQ,retV,AH.sliceElems,AH.bytesOf,AH.strOp,AH.bound,AH.missQ,AH.minmaxAV,AH.readOf,AH.effOf,simprocAttr,AH.SP,AH.PD,AV.inB,vstep,e]
        try simp
    · have e:=hstop (.inl hg)
      have hng : decide ((rdZ (L.drop i)).bad ≥ 0) = true:=decide_eq_true (rdZ_pos hg)
      simp only [AH.SD,AH.SE,AOp.call?,AOp.next?,bstep,AV.cells,unAV,binAV,retQ,retV,AH.sliceElems,AH.bytesOf,AH.strOp,AH.bound,AH.missQ,AH.minmaxAV,AH.readOf,AH.effOf,simprocAttr,fG _ rowE0,rrA,hng,Int.toNat_natCast,List.length_map,List.drop_zero]
      repeat ((with_reducible refine And.intro ?_ ?_); focus (first | rfl | decide | omega | (simp only [List.length_map,List.length_set,and_true]; omega)))
      try simp only [AH.SD,AH.SE,AOp.call?,AOp.next?,bstep,AV.cells,unAV,binAV,retQ,retV,AH.sliceElems,AH.bytesOf,AH.strOp,AH.bound,AH.missQ,AH.minmaxAV,AH.readOf,AH.effOf,simprocAttr,fG _ rowE0,rrA,hng,Int.toNat_natCast,List.length_map,List.drop_zero]
      repeat ((with_reducible refine And.intro ?_ ?_); focus (first | rfl | decide | omega | (simp only [List.length_map,List.length_set,and_true]; omega)))
      refine ⟨[0,1],[],?_⟩
      simp only [AH.SD,AH.SE,AOp.call?,AOp.next?,bstep,AV.cells,unAV,binAV,retQ,retV,AH.sliceElems,AH.bytesOf,AH.strOp,AH.bound,AH.missQ,AH.minmaxAV,AH.readOf,AH.effOf,simprocAttr,AH.SP,AH.PD,AV.inB,vstep,e]
      try simp
  · have : i = L.length:=by have:=ge_of_dec hgt; omega
    subst this
    have e:=hstop (.inl (by rw [List.drop_length]; exact rdZ_nil))
    simp only [AH.SD,AH.SE,AOp.call?,AOp.next?,bstep,AV.cells,unAV,binAV,retQ,retV,AH.sliceElems,AH.bytesOf,AH.strOp,AH.bound,AH.missQ,AH.minmaxAV,AH.readOf,AH.effOf,simprocAttr]
    refine ⟨[0,1],[],?_⟩
    simp only [AH.SD,AH.SE,AOp.call?,AOp.next?,bstep,AV.cells,unAV,binAV,retQ,retV,AH.sliceElems,AH.bytesOf,AH.strOp,AH.bound,AH.missQ,AH.minmaxAV,AH.readOf,AH.effOf,simprocAttr,AH.SP,AH.PD,AV.inB,vstep,e]
    try simp
def rlgU : UT:=utN [1] (nfX 1 cStr (cSub1 (cC (aI .i64) c0) fun x =>okB2 x.1) (fun L (x : {a : Int × Unit // okB2 a.1}) => .tup [.slc 1 0 (logR L.length L (x.1.1 + 1)).1.length none,.int .i64 (logR L.length L (x.1.1 + 1)).2]) fun L x => [some (.row false 1 ((logR L.length L (x.1.1 + 1)).1.map strC))])
theorem rlgU_ok : CallF S0 11 rlgU:=nfX_ok errs0 fun L b hl =>by
  refine ⟨rfl,?_,rfl,?_⟩
  · simp only [List.all_cons,List.all_nil,blkIn,Blk.inB,flat_ins,Bool.and_true]
  · obtain ⟨⟨b,u⟩,h⟩:=b
    exact rlog_ok L hl b h
theorem rlgU_eq2 {id ix n : Nat} {p : Option Nat} {b : Int} {m : Mem} {es : List (List AV)} {l : List ByteArray} (hM : rowE (mget m) id = some (1,es)) (hs : (es.drop ix).take n = l.map strC) (hle : ix + n ≤ es.length) (hb : n ≤ 1048576) (hB : okB2 b) :
    rlgU [.slc id ix n p,.int .i64 b] m = some (.tup [.slc m.length 0 (logR l.length l (b + 1)).1.length none,.int .i64 (logR l.length l (b + 1)).2],m ++ [some (.row false 1 ((logR l.length l (b + 1)).1.map strC))]):=by
  have hd : (cSub1 (cC (aI .i64) c0) fun x =>okB2 x.1).dec [.int .i64 b] = some ⟨(b,()),hB⟩:=cSub1_dec (c:=cC (aI .i64) c0) (p:=fun x : Int × Unit =>okB2 x.1) (a:=(b,())) hB rfl
  rw [rlgU,nfX_eq (c:=cStr) hM hs hle hb hd]
  simp [shift,AV.ren,AV.rens,newOnes,Blk.ren,flat_rens]
  exact fun a _ =>flatE_ren _ a
end Go.Proofs.YthapdikdeoeplaaGreatDoor.Z7
end
section
set_option linter.unusedVariables false
set_option linter.unnecessarySimpa false
open Go AH
set_option linter.unusedSimpArgs false
set_option maxRecDepth 100000
namespace Go.Proofs.YthapdikdeoeplaaGreatDoor.Z7
structure So where
  g : Lg
  z : Int
  s : ByteArray
  b : Int
  a : Int
  down : Bool
def soC (q l : Nat) (x : So) : List AV:=[.ptr q 0 0,.int .i64 x.z,.str x.s,.int .i64 x.b,.int .i64 x.a,.ptr l 0 0,.bool x.down]
def soM (x : So) : Mem:=[some (.row false 7 [[.ptr 2 0 0,.int .i64 x.z,.str x.s,.int .i64 x.b,.int .i64 x.a,.ptr 1 0 0,.bool x.down]]),
  some (.row false 7 [[.ptr 2 0 0,.int .i64 x.g.f,.int .i64 x.g.t,.int .i64 x.g.b,.int .i64 x.g.a,.slc 4 0 x.g.R.length none,.bool x.g.down]]),
  some (.row false 5 [[.slc 3 0 x.g.d.L.length none,.bool x.g.d.away,.int .i64 x.g.d.fuse,.int .i64 x.g.d.torn,.int .i64 x.g.d.writes]]),some (.row false 1 (x.g.d.L.map strC)),some (.row false 1 (x.g.R.map strC))]
def no4 (p l q k r : Nat) : Bool:=!(p == l) && (!(p == q) && (!(p == k) && !(p == r)))
def soS (p q : Nat) (z : Int) (s : ByteArray) (b a : Int) (down : Bool) : Option (Lg × List (Nat × Bool)) → Option (So × List (Nat × Bool))
  | some (g,[(l,false),(q',false),(k,false),(r,false)]) =>if q' = q ∧ no4 p l q k r = true then some (⟨g,z,s,b,a,down⟩,[(p,false),(l,false),(q,false),(k,false),(r,false)]) else none
  | _ =>none
def soR (M : Nat → Option Blk) (p : Nat) : Option Blk → Option (So × List (Nat × Bool))
  | some (.row false 7 [[.ptr q 0 0,.int .i64 z,.str s,.int .i64 b,.int .i64 a,.ptr l 0 0,.bool down]]) =>soS p q z s b a down (lgR M l (M l))
  | _ =>none
def soD (M : Nat → Option Blk) : AV → Option (So × List (Nat × Bool))
  | .ptr p 0 0 =>soR M p (M p)
  | _ =>none
theorem no4_iff {p l q k r : Nat} : no4 p l q k r = true ↔ p ≠ l ∧ p ≠ q ∧ p ≠ k ∧ p ≠ r:=by simp [no4]
theorem soD_inv {M : Nat → Option Blk} {v : AV} {x : So} {sel : List (Nat × Bool)} (h : soD M v = some (x,sel)) :
    ∃ p l q b r,v = .ptr p 0 0 ∧ sel = [(p,false),(l,false),(q,false),(b,false),(r,false)] ∧ no4 p l q b r = true ∧ ne4 l q b r = true ∧
      M p = some (.row false 7 [soC q l x]) ∧ M l = some (.row false 7 [lgC q r x.g]) ∧ M q = some (.row false 5 [dkC b x.g.d]) ∧ M b = some (.row false 1 (x.g.d.L.map strC)) ∧ M r = some (.row false 1 (x.g.R.map strC)):=by
  unfold soD at h
  split at h
  · rename_i p
    unfold soR at h
    split at h
    · rename_i q z s b a l down hp
      unfold soS at h
      split at h
      · rename_i g l' q' k r hg
        split at h
        · rename_i hc
          simp only [Option.some.injEq,Prod.mk.injEq] at h
          obtain ⟨rfl,rfl⟩:=h
          obtain ⟨rfl,hno⟩:=hc
          obtain ⟨p2,q2,b2,r2,e1,e2,e3,e4,e5,e6,e7⟩:=lgD_inv (M:=M) (v:=.ptr l 0 0) (l:=g) (sel:=[(l',false),(q',false),(k,false),(r,false)]) hg
          simp only [List.cons.injEq,Prod.mk.injEq,and_true] at e2
          obtain ⟨rfl,rfl,rfl,rfl⟩:=e2
          cases e1
          exact ⟨p,_,_,_,_,rfl,rfl,hno,e3,hp,e4,e5,e6,e7⟩
        · cases h
      · cases h
    · cases h
  · cases h
theorem soD_of {M : Nat → Option Blk} {p l q b r : Nat} (x : So) (hno : no4 p l q b r = true) (hne : ne4 l q b r = true) (hp : M p = some (.row false 7 [soC q l x])) (hl : M l = some (.row false 7 [lgC q r x.g])) (hq : M q = some (.row false 5 [dkC b x.g.d])) (hb : M b = some (.row false 1 (x.g.d.L.map strC))) (hr : M r = some (.row false 1 (x.g.R.map strC))) :
    soD M (.ptr p 0 0) = some (x,[(p,false),(l,false),(q,false),(b,false),(r,false)]):=by
  have hd : lgR M l (M l) = some (x.g,[(l,false),(q,false),(b,false),(r,false)]):=lgD_of x.g hne hl hq hb hr
  simp only [soD,hp,soC,soR,hd,soS,hno,and_self,if_true]
def soO : AH.Obj So where
  dec:=soD
  mem:=soM
  self:=fun _ => .ptr 0 0 0
  ok:=by
    intro M v x sel h
    obtain ⟨p,l,q,b,r,rfl,rfl,hno,hne,hp,hl,hq,hb,hr⟩:=soD_inv h
    obtain ⟨n1,n2,n3,n4,n5,n6⟩:=ne4_iff.1 hne
    obtain ⟨m1,m2,m3,m4⟩:=no4_iff.1 hno
    have h1 : (l == q) = false:=by simpa using n1
    have h2 : (l == b) = false:=by simpa using n2
    have h3 : (l == r) = false:=by simpa using n3
    have h4 : (q == b) = false:=by simpa using n4
    have h5 : (q == r) = false:=by simpa using n5
    have h6 : (b == r) = false:=by simpa using n6
    have g1 : (q == l) = false:=by simpa using n1.symm
    have g2 : (b == l) = false:=by simpa using n2.symm
    have g3 : (r == l) = false:=by simpa using n3.symm
    have g4 : (b == q) = false:=by simpa using n4.symm
    have g5 : (r == q) = false:=by simpa using n5.symm
    have g6 : (r == b) = false:=by simpa using n6.symm
    have i1 : (p == l) = false:=by simpa using m1
    have i2 : (p == q) = false:=by simpa using m2
    have i3 : (p == b) = false:=by simpa using m3
    have i4 : (p == r) = false:=by simpa using m4
    have j1 : (l == p) = false:=by simpa using m1.symm
    have j2 : (q == p) = false:=by simpa using m2.symm
    have j3 : (b == p) = false:=by simpa using m3.symm
    have j4 : (r == p) = false:=by simpa using m4.symm
    refine ⟨⟨?_,?_⟩,?_,?_,?_⟩
    · simp [selF,hp,hl,hq,hb,hr,soC,lgC,dkC,AV.insB,AV.inB,AH.isIn]
      exact ⟨fun x _ =>flatE_in _ x,fun x _ =>flatE_in _ x⟩
    · simp [AH.distinct,AH.isIn,h1,h2,h3,h4,h5,h6,g1,g2,g3,g4,g5,g6,i1,i2,i3,i4,j1,j2,j3,j4]
    · simp only [subF,hp,hl,hq,hb,hr,soC,lgC,dkC,Option.map_some,Blk.ren,Blk.asRo,List.map_cons,List.map_nil,AV.rens,AV.ren,AH.posOf,beq_self_eq_true,h1,h2,h3,h4,h5,h6,g1,g2,g3,g4,g5,g6,i1,i2,i3,i4,j1,j2,j3,j4,cond_true,cond_false,flat_rens,soM,Nat.zero_add,Nat.reduceAdd]
    · simp [AV.inB,AH.isIn]
    · simp [AV.ren,AH.posOf]
  loc:=by
    intro M v x sel h M' hM'
    obtain ⟨p,l,q,b,r,rfl,rfl,hno,hne,hp,hl,hq,hb,hr⟩:=soD_inv h
    exact soD_of x hno hne ((hM' p (by simp)).trans hp) ((hM' l (by simp)).trans hl) ((hM' q (by simp)).trans hq) ((hM' b (by simp)).trans hb) ((hM' r (by simp)).trans hr)
theorem soO_dec {M : Nat → Option Blk} {p : Nat} : soO.dec M (.ptr p 0 0) = soR M p (M p):=rfl
theorem soR_eq {M : Nat → Option Blk} {p q l : Nat} {z b a : Int} {s : ByteArray} {down : Bool} : soR M p (some (.row false 7 [[.ptr q 0 0,.int .i64 z,.str s,.int .i64 b,.int .i64 a,.ptr l 0 0,.bool down]])) = soS p q z s b a down (lgR M l (M l)):=rfl
theorem soS_eq {p q l k r : Nat} {z b a : Int} {s : ByteArray} {down : Bool} {g : Lg} : soS p q z s b a down (some (g,[(l,false),(q,false),(k,false),(r,false)])) = if no4 p l q k r = true then some (⟨g,z,s,b,a,down⟩,[(p,false),(l,false),(q,false),(k,false),(r,false)]) else none:=by
  simp only [soS,true_and]
theorem So.eta (x : So) : (⟨x.g,x.z,x.s,x.b,x.a,x.down⟩ : So) = x:=rfl
end Go.Proofs.YthapdikdeoeplaaGreatDoor.Z7
end
section
set_option linter.unusedVariables false
set_option linter.unnecessarySimpa false
open Go AH
namespace Go.Proofs.YthapdikdeoeplaaGreatDoor.Z7
-- quitrent/shot.area
def F75 : AFun:=⟨35,3,[.tmp 6,.tmp 7],(.seq (.reg [⟨some 6,none,.mov (.c .nils)⟩,⟨some 7,none,.mov (.c .nili)⟩]) (.seq (.reg [⟨some 8,none,.mov (.c .nils)⟩]) (.seq (.seq (.reg [⟨some 12,none,.mov (.t 1)⟩,⟨some 13,none,.mov (.c (.int .i64 0))⟩]) (.block 0 (.loop (.seq (.reg [⟨some 14,none,.ibin .lss (.t 13) (.t 12)⟩]) (.seq (.cond (.t 14) .skip (.exit 0)) (.seq (.block 1 (.seq (.reg [⟨some 15,none,.mov (.t 13)⟩,⟨some 9,none,.mov (.t 15)⟩]) (.seq (.reg [⟨some 17,none,.mov (.t 0)⟩,⟨some 18,none,.mov (.t 2)⟩,⟨some 19,none,.mov (.t 1)⟩,⟨some 20,none,.ibin .mul (.t 18) (.t 19)⟩,⟨some 21,none,.mov (.t 9)⟩,⟨some 22,none,.ibin .add (.t 20) (.t 21)⟩,⟨some 23,none,.call (.c (.fn 59 [] [])) [(.t 17),(.t 22)]⟩,⟨some 16,none,.mov (.t 23)⟩,⟨some 24,none,.extract (.t 16) 0⟩,⟨some 25,none,.extract (.t 16) 1⟩,⟨some 10,none,.mov (.t 24)⟩,⟨some 11,none,.mov (.t 25)⟩]) (.seq (.seq (.reg [⟨some 26,none,.mov (.t 11)⟩,⟨some 27,none,.eq true .iface true (.t 26) (.c .nili)⟩]) (.cond (.t 27) (.seq (.reg [⟨some 28,none,.mov (.t 11)⟩,⟨some 6,none,.mov (.c .nils)⟩,⟨some 7,none,.mov (.t 28)⟩]) .ret) .skip)) (.reg [⟨some 29,none,.mov (.t 8)⟩,⟨some 30,none,.mov (.t 10)⟩,⟨some 31,none,.bslice 1 1 [(.str ⟨#[]⟩)] [(0,1,(.t 30))]⟩,⟨some 32,none,.append 1 16 [(.str ⟨#[]⟩)] (.t 29) (.t 31)⟩,⟨some 8,none,.mov (.t 32)⟩]))))) (.reg [⟨some 33,none,.ibin .add (.t 13) (.c (.int .i64 1))⟩,⟨some 13,none,.mov (.t 33)⟩]))))))) (.seq (.reg [⟨some 34,none,.mov (.t 8)⟩,⟨some 6,none,.mov (.t 34)⟩,⟨some 7,none,.mov (.c .nili)⟩]) .ret))))⟩
-- (*quitrent/shot.Store).last
def F56 : AFun:=⟨71,1,[.tmp 2],(.seq (.reg [⟨some 2,none,.mov (.c .nili)⟩]) (.seq (.seq (.reg [⟨some 9,none,.mov (.c (.int .i64 0))⟩]) (.block 0 (.loop (.seq (.reg [⟨some 10,none,.ibin .lss (.t 9) (.c (.int .i64 2))⟩]) (.seq (.cond (.t 10) .skip (.exit 0)) (.seq (.block 1 (.seq (.reg [⟨some 11,none,.mov (.t 9)⟩,⟨some 3,none,.mov (.t 11)⟩]) (.seq (.draw [⟨some 13,none,.mov (.t 0)⟩,⟨some 14,none,.nilchk (.t 13)⟩,⟨some 15,none,.faddr 0 (.t 14)⟩,⟨some 16,none,.load false 1 (.t 15)⟩,⟨some 17,none,.mov (.t 0)⟩,⟨some 18,none,.nilchk (.t 17)⟩,⟨some 19,none,.faddr 1 (.t 18)⟩,⟨some 20,none,.load false 1 (.t 19)⟩,⟨some 21,none,.mov (.t 3)⟩,⟨some 22,none,.call (.c (.fn 75 [] [])) [(.t 16),(.t 20),(.t 21)]⟩,⟨some 12,none,.mov (.t 22)⟩,⟨some 23,none,.extract (.t 12) 0⟩,⟨some 24,none,.extract (.t 12) 1⟩,⟨some 4,none,.mov (.t 23)⟩,⟨some 5,none,.mov (.t 24)⟩] [[],[0],[1,0],[2,1,0],[],[4],[5,4],[6,5,4],[],[3,7,8,2,1,0,6,5,4],[9,3,7,8,2,1,0,6,5,4],[10,9,3,7,8,2,1,0,6,5,4],[10,9,3,7,8,2,1,0,6,5,4],[11,9,0,1,2,3,4,5,6,7,8,10],[12,13,0,1,2,3,4,5,6,7,8,9,10,11]]) (.seq (.seq (.reg [⟨some 25,none,.mov (.t 5)⟩,⟨some 26,none,.eq true .iface true (.t 25) (.c .nili)⟩]) (.cond (.t 26) (.seq (.reg [⟨some 27,none,.mov (.t 5)⟩,⟨some 2,none,.mov (.t 27)⟩]) .ret) .skip)) (.seq (.reg [⟨some 29,none,.mov (.t 4)⟩,⟨some 30,none,.call (.c (.fn 60 [] [])) [(.t 29)]⟩,⟨some 28,none,.mov (.t 30)⟩,⟨some 31,none,.extract (.t 28) 0⟩,⟨some 32,none,.extract (.t 28) 1⟩,⟨some 33,none,.extract (.t 28) 2⟩,⟨some 34,none,.extract (.t 28) 3⟩,⟨some 6,none,.mov (.t 31)⟩,⟨some 7,none,.mov (.t 32)⟩,⟨some 8,none,.mov (.t 33)⟩,⟨some 5,none,.mov (.t 34)⟩]) (.seq (.reg [⟨some 35,none,.mov (.t 5)⟩,⟨some 36,none,.eq false .iface true (.t 35) (.c .nili)⟩,⟨some 37,none,.mov (.t 36)⟩,⟨some 38,(some (37,true)),.mov (.t 0)⟩,⟨some 39,(some (37,true)),.nilchk (.t 38)⟩,⟨some 40,(some (37,true)),.faddr 4 (.t 39)⟩,⟨some 41,(some (37,true)),.load false 1 (.t 40)⟩,⟨some 42,(some (37,true)),.ibin .eql (.t 41) (.c (.int .i64 (-1)))⟩,⟨some 43,(some (37,true)),.mov (.t 42)⟩,⟨some 44,(some (43,false)),.mov (.t 7)⟩,⟨some 45,(some (43,false)),.mov (.t 0)⟩,⟨some 46,(some (43,false)),.nilchk (.t 45)⟩,⟨some 47,(some (43,false)),.faddr 3 (.t 46)⟩,⟨some 48,(some (43,false)),.load false 1 (.t 47)⟩,⟨some 49,(some (43,false)),.ibin .gtr (.t 44) (.t 48)⟩,⟨some 50,(some (37,true)),.pick (.t 43) (.c (.bool true)) (.t 49)⟩,⟨some 51,none,.pick (.t 37) (.t 50) (.c (.bool false))⟩]) (.cond (.t 51) (.reg [⟨some 52,none,.mov (.t 0)⟩,⟨some 53,none,.mov (.t 0)⟩,⟨some 54,none,.mov (.t 0)⟩,⟨some 55,none,.mov (.t 6)⟩,⟨some 56,none,.mov (.t 7)⟩,⟨some 57,none,.mov (.t 3)⟩,⟨some 58,none,.nilchk (.t 52)⟩,⟨some 59,none,.faddr 2 (.t 58)⟩,⟨none,none,.store 1 (.t 59) (.t 55)⟩,⟨some 60,none,.nilchk (.t 53)⟩,⟨some 61,none,.faddr 3 (.t 60)⟩,⟨none,none,.store 1 (.t 61) (.t 56)⟩,⟨some 62,none,.nilchk (.t 54)⟩,⟨some 63,none,.faddr 4 (.t 62)⟩,⟨none,none,.store 1 (.t 63) (.t 57)⟩]) .skip))))))) (.reg [⟨some 64,none,.ibin .add (.t 9) (.c (.int .i64 1))⟩,⟨some 9,none,.mov (.t 64)⟩]))))))) (.seq (.seq (.reg [⟨some 65,none,.mov (.t 0)⟩,⟨some 66,none,.nilchk (.t 65)⟩,⟨some 67,none,.faddr 3 (.t 66)⟩,⟨some 68,none,.load false 1 (.t 67)⟩,⟨some 69,none,.ibin .gtr (.t 68) (.c (.int .i64 1073741824))⟩]) (.cond (.t 69) (.seq (.reg [⟨some 70,none,.loadg 2⟩,⟨some 2,none,.mov (.t 70)⟩]) .ret) .skip)) (.seq (.reg [⟨some 2,none,.mov (.c .nili)⟩]) .ret))))⟩
-- quitrent/shot.Open
def F25 : AFun:=⟨59,2,[.tmp 4,.tmp 5],(.seq (.reg [⟨some 4,none,.mov (.c .nilp)⟩,⟨some 5,none,.mov (.c .nili)⟩]) (.seq (.block 0 (.seq (.reg [⟨some 11,none,.mov (.t 0)⟩,⟨some 12,none,.eq false .ptr true (.t 11) (.c .nilp)⟩,⟨some 10,none,.mov (.t 12)⟩]) (.cond (.t 10) (.seq (.draw [⟨some 13,none,.loadg 0⟩,⟨some 4,none,.mov (.c .nilp)⟩,⟨some 5,none,.mov (.t 13)⟩] [[],[],[0,1]]) .ret) (.seq (.reg [⟨some 15,none,.mov (.t 1)⟩,⟨some 16,none,.ibin .lss (.t 15) (.c (.int .i64 1))⟩,⟨some 17,none,.mov (.t 16)⟩,⟨some 18,(some (17,false)),.mov (.t 1)⟩,⟨some 19,(some (17,false)),.ibin .gtr (.t 18) (.c (.int .i64 108))⟩,⟨some 20,none,.pick (.t 17) (.c (.bool true)) (.t 19)⟩,⟨some 21,none,.mov (.t 20)⟩,⟨some 22,(some (21,false)),.mov (.t 0)⟩,⟨some 23,(some (21,false)),.call (.c (.fn 40 [] [])) [(.t 22)]⟩,⟨some 24,(some (21,false)),.mov (.t 1)⟩,⟨some 25,(some (21,false)),.ibin .mul (.c (.int .i64 2)) (.t 24)⟩,⟨some 26,(some (21,false)),.ibin .leq (.t 23) (.t 25)⟩,⟨some 27,none,.pick (.t 21) (.c (.bool true)) (.t 26)⟩,⟨some 14,none,.mov (.t 27)⟩]) (.cond (.t 14) (.seq (.draw [⟨some 28,none,.loadg 1⟩,⟨some 4,none,.mov (.c .nilp)⟩,⟨some 5,none,.mov (.t 28)⟩] [[],[],[0,1]]) .ret) .skip))))) (.seq (.reg [⟨some 29,none,.mov (.t 0)⟩,⟨some 30,none,.mov (.t 1)⟩,⟨some 31,none,.build [.nilp,(.int .i64 0),(.str ⟨#[]⟩),(.int .i64 0),(.int .i64 0),.nilp,(.bool false)] [(0,1,(.t 29)),(1,1,(.t 30)),(4,1,(.c (.int .i64 (-1))))]⟩,⟨some 32,none,.box 7 (.t 31)⟩,⟨some 6,none,.mov (.t 32)⟩]) (.seq (.seq (.reg [⟨some 33,none,.mov (.t 6)⟩,⟨some 34,none,.call (.c (.fn 56 [] [])) [(.t 33)]⟩,⟨some 7,none,.mov (.t 34)⟩]) (.seq (.reg [⟨some 35,none,.mov (.t 7)⟩,⟨some 36,none,.eq true .iface true (.t 35) (.c .nili)⟩]) (.cond (.t 36) (.seq (.reg [⟨some 37,none,.mov (.t 7)⟩,⟨some 4,none,.mov (.c .nilp)⟩,⟨some 5,none,.mov (.t 37)⟩]) .ret) .skip))) (.seq (.draw [⟨some 39,none,.mov (.t 0)⟩,⟨some 40,none,.mov (.t 1)⟩,⟨some 41,none,.ibin .mul (.c (.int .i64 2)) (.t 40)⟩,⟨some 42,none,.mov (.t 0)⟩,⟨some 43,none,.call (.c (.fn 40 [] [])) [(.t 42)]⟩,⟨some 44,none,.mov (.t 6)⟩,⟨some 45,none,.nilchk (.t 44)⟩,⟨some 46,none,.faddr 3 (.t 45)⟩,⟨some 47,none,.load false 1 (.t 46)⟩,⟨some 48,none,.call (.c (.fn 9 [] [])) [(.t 39),(.t 41),(.t 43),(.t 47)]⟩,⟨some 38,none,.mov (.t 48)⟩,⟨some 49,none,.extract (.t 38) 0⟩,⟨some 50,none,.extract (.t 38) 1⟩,⟨some 8,none,.mov (.t 49)⟩,⟨some 9,none,.mov (.t 50)⟩] [[],[],[1],[],[3],[],[5],[6,5],[7,6,5],[0,2,4,8,1,3,7,6,5],[9,0,2,4,8,1,3,7,6,5],[10,9,0,2,4,8,1,3,7,6,5],[10,9,0,2,4,8,1,3,7,6,5],[11,9,0,1,2,3,4,5,6,7,8,10],[12,13,0,1,2,3,4,5,6,7,8,9,10,11]]) (.seq (.seq (.reg [⟨some 51,none,.mov (.t 9)⟩,⟨some 52,none,.eq true .iface true (.t 51) (.c .nili)⟩]) (.cond (.t 52) (.seq (.reg [⟨some 53,none,.mov (.t 9)⟩,⟨some 4,none,.mov (.c .nilp)⟩,⟨some 5,none,.mov (.t 53)⟩]) .ret) .skip)) (.seq (.reg [⟨some 54,none,.mov (.t 6)⟩,⟨some 55,none,.mov (.t 8)⟩,⟨some 56,none,.nilchk (.t 54)⟩,⟨some 57,none,.faddr 5 (.t 56)⟩,⟨none,none,.store 1 (.t 57) (.t 55)⟩]) (.seq (.reg [⟨some 58,none,.mov (.t 6)⟩,⟨some 4,none,.mov (.t 58)⟩,⟨some 5,none,.mov (.c .nili)⟩]) .ret))))))))⟩
-- (*quitrent/shot.Store).State
def F32 : AFun:=⟨9,1,[.tmp 2],(.seq (.reg [⟨some 2,none,.mov (.c (.str ⟨#[]⟩))⟩]) (.seq (.seq (.reg [⟨some 3,none,.mov (.t 0)⟩,⟨some 4,none,.eq false .ptr true (.t 3) (.c .nilp)⟩]) (.cond (.t 4) (.seq (.reg [⟨some 2,none,.mov (.c (.str ⟨#[]⟩))⟩]) .ret) .skip)) (.seq (.reg [⟨some 5,none,.mov (.t 0)⟩,⟨some 6,none,.nilchk (.t 5)⟩,⟨some 7,none,.faddr 2 (.t 6)⟩,⟨some 8,none,.load false 1 (.t 7)⟩,⟨some 2,none,.mov (.t 8)⟩]) .ret)))⟩
-- (*quitrent/shot.Store).Records
def F34 : AFun:=⟨10,1,[.tmp 2],(.seq (.reg [⟨some 2,none,.mov (.c .nils)⟩]) (.seq (.seq (.reg [⟨some 3,none,.mov (.t 0)⟩,⟨some 4,none,.eq false .ptr true (.t 3) (.c .nilp)⟩]) (.cond (.t 4) (.seq (.reg [⟨some 2,none,.mov (.c .nils)⟩]) .ret) .skip)) (.seq (.reg [⟨some 5,none,.mov (.t 0)⟩,⟨some 6,none,.nilchk (.t 5)⟩,⟨some 7,none,.faddr 5 (.t 6)⟩,⟨some 8,none,.load false 1 (.t 7)⟩,⟨some 9,none,.call (.c (.fn 14 [] [])) [(.t 8)]⟩,⟨some 2,none,.mov (.t 9)⟩]) .ret)))⟩
-- (*quitrent/shot.Store).Seq
def F38 : AFun:=⟨11,1,[.tmp 2],(.seq (.reg [⟨some 2,none,.mov (.c (.int .i64 0))⟩]) (.seq (.seq (.reg [⟨some 3,none,.mov (.t 0)⟩,⟨some 4,none,.eq false .ptr true (.t 3) (.c .nilp)⟩]) (.cond (.t 4) (.seq (.reg [⟨some 2,none,.mov (.c (.int .i64 0))⟩]) .ret) .skip)) (.seq (.reg [⟨some 5,none,.mov (.t 0)⟩,⟨some 6,none,.nilchk (.t 5)⟩,⟨some 7,none,.faddr 5 (.t 6)⟩,⟨some 8,none,.load false 1 (.t 7)⟩,⟨some 9,none,.call (.c (.fn 15 [] [])) [(.t 8)]⟩,⟨some 10,none,.ibin .sub (.t 9) (.c (.int .i64 1))⟩,⟨some 2,none,.mov (.t 10)⟩]) .ret)))⟩
-- (*quitrent/shot.Store).lost
def F58 : AFun:=⟨18,2,[.tmp 4],(.seq (.reg [⟨some 4,none,.mov (.c .nili)⟩]) (.seq (.reg [⟨some 5,none,.mov (.t 0)⟩,⟨some 6,none,.mov (.t 0)⟩,⟨some 7,none,.nilchk (.t 6)⟩,⟨some 8,none,.faddr 6 (.t 7)⟩,⟨some 9,none,.load false 1 (.t 8)⟩,⟨some 10,none,.mov (.t 9)⟩,⟨some 11,(some (10,false)),.mov (.t 1)⟩,⟨some 12,(some (10,false)),.loadg 13⟩,⟨some 13,(some (10,false)),.call (.c (.fn 45 [] [])) [(.t 11),(.t 12)]⟩,⟨some 14,none,.pick (.t 10) (.c (.bool true)) (.t 13)⟩,⟨some 15,none,.nilchk (.t 5)⟩,⟨some 16,none,.faddr 6 (.t 15)⟩,⟨none,none,.store 1 (.t 16) (.t 14)⟩]) (.seq (.reg [⟨some 17,none,.mov (.t 1)⟩,⟨some 4,none,.mov (.t 17)⟩]) .ret)))⟩
-- (*quitrent/shot.Store).Add
def F29 : AFun:=⟨23,2,[.tmp 4],(.seq (.reg [⟨some 4,none,.mov (.c .nili)⟩]) (.seq (.block 0 (.seq (.reg [⟨some 6,none,.mov (.t 0)⟩,⟨some 7,none,.eq false .ptr true (.t 6) (.c .nilp)⟩,⟨some 5,none,.mov (.t 7)⟩]) (.cond (.t 5) (.seq (.reg [⟨some 8,none,.loadg 0⟩,⟨some 4,none,.mov (.t 8)⟩]) .ret) (.seq (.reg [⟨some 10,none,.mov (.t 0)⟩,⟨some 11,none,.nilchk (.t 10)⟩,⟨some 12,none,.faddr 6 (.t 11)⟩,⟨some 13,none,.load false 1 (.t 12)⟩,⟨some 9,none,.mov (.t 13)⟩]) (.cond (.t 9) (.seq (.reg [⟨some 14,none,.loadg 13⟩,⟨some 4,none,.mov (.t 14)⟩]) .ret) .skip))))) (.seq (.reg [⟨some 15,none,.mov (.t 0)⟩,⟨some 16,none,.mov (.t 0)⟩,⟨some 17,none,.nilchk (.t 16)⟩,⟨some 18,none,.faddr 5 (.t 17)⟩,⟨some 19,none,.load false 1 (.t 18)⟩,⟨some 20,none,.mov (.t 1)⟩,⟨some 21,none,.call (.c (.fn 20 [] [])) [(.t 19),(.t 20)]⟩,⟨some 22,none,.call (.c (.fn 58 [] [])) [(.t 15),(.t 21)]⟩,⟨some 4,none,.mov (.t 22)⟩]) .ret)))⟩
-- (*quitrent/shot.Store).lay
def F57 : AFun:=⟨88,3,[.tmp 6],(.seq (.reg [⟨some 6,none,.mov (.c .nili)⟩]) (.seq (.reg [⟨some 14,none,.call (.c (.fn 55 [] [])) [(.c (.str ⟨#[0]⟩)),(.c (.int .i64 64))]⟩,⟨some 7,none,.mov (.t 14)⟩]) (.seq (.seq (.reg [⟨some 15,none,.mov (.t 0)⟩,⟨some 16,none,.nilchk (.t 15)⟩,⟨some 17,none,.faddr 1 (.t 16)⟩,⟨some 18,none,.load false 1 (.t 17)⟩,⟨some 19,none,.mov (.c (.int .i64 0))⟩]) (.block 0 (.loop (.seq (.reg [⟨some 20,none,.ibin .lss (.t 19) (.t 18)⟩]) (.seq (.cond (.t 20) .skip (.exit 0)) (.seq (.block 1 (.seq (.reg [⟨some 21,none,.mov (.t 19)⟩,⟨some 8,none,.mov (.t 21)⟩]) (.seq (.draw [⟨some 23,none,.mov (.t 0)⟩,⟨some 24,none,.nilchk (.t 23)⟩,⟨some 25,none,.faddr 0 (.t 24)⟩,⟨some 26,none,.load false 1 (.t 25)⟩,⟨some 27,none,.mov (.t 1)⟩,⟨some 28,none,.mov (.t 0)⟩,⟨some 29,none,.nilchk (.t 28)⟩,⟨some 30,none,.faddr 1 (.t 29)⟩,⟨some 31,none,.load false 1 (.t 30)⟩,⟨some 32,none,.ibin .mul (.t 27) (.t 31)⟩,⟨some 33,none,.mov (.t 8)⟩,⟨some 34,none,.ibin .add (.t 32) (.t 33)⟩,⟨some 35,none,.call (.c (.fn 59 [] [])) [(.t 26),(.t 34)]⟩,⟨some 22,none,.mov (.t 35)⟩,⟨some 36,none,.extract (.t 22) 0⟩,⟨some 37,none,.extract (.t 22) 1⟩,⟨some 9,none,.mov (.t 36)⟩,⟨some 10,none,.mov (.t 37)⟩] [[],[0],[1,0],[2,1,0],[],[],[5],[6,5],[7,6,5],[4,8,7,6,5],[],[9,10,4,8,7,6,5],[3,11,2,1,0,9,10,4,8,7,6,5],[12,3,11,2,1,0,9,10,4,8,7,6,5],[13,12,3,11,2,1,0,9,10,4,8,7,6,5],[13,12,3,11,2,1,0,9,10,4,8,7,6,5],[14,12,0,1,2,3,4,5,6,7,8,9,10,11,13],[15,16,0,1,2,3,4,5,6,7,8,9,10,11,12,13,14]]) (.seq (.seq (.reg [⟨some 38,none,.mov (.t 10)⟩,⟨some 39,none,.eq false .iface true (.t 38) (.c .nili)⟩,⟨some 40,none,.mov (.t 39)⟩,⟨some 41,(some (40,true)),.mov (.t 9)⟩,⟨some 42,(some (40,true)),.mov (.t 7)⟩,⟨some 43,(some (40,true)),.ibin .neq (.t 41) (.t 42)⟩,⟨some 44,none,.pick (.t 40) (.t 43) (.c (.bool false))⟩]) (.cond (.t 44) (.draw [⟨some 45,none,.mov (.t 0)⟩,⟨some 46,none,.nilchk (.t 45)⟩,⟨some 47,none,.faddr 0 (.t 46)⟩,⟨some 48,none,.load false 1 (.t 47)⟩,⟨some 49,none,.mov (.t 1)⟩,⟨some 50,none,.mov (.t 0)⟩,⟨some 51,none,.nilchk (.t 50)⟩,⟨some 52,none,.faddr 1 (.t 51)⟩,⟨some 53,none,.load false 1 (.t 52)⟩,⟨some 54,none,.ibin .mul (.t 49) (.t 53)⟩,⟨some 55,none,.mov (.t 8)⟩,⟨some 56,none,.ibin .add (.t 54) (.t 55)⟩,⟨some 57,none,.mov (.t 7)⟩,⟨some 58,none,.call (.c (.fn 52 [] [])) [(.t 48),(.t 56),(.t 57)]⟩,⟨some 10,none,.mov (.t 58)⟩] [[],[0],[1,0],[2,1,0],[],[],[5],[6,5],[7,6,5],[4,8,7,6,5],[],[9,10,4,8,7,6,5],[],[3,11,12,2,1,0,9,10,4,8,7,6,5],[13,0,1,2,3,4,5,6,7,8,9,10,11,12]]) .skip)) (.seq (.reg [⟨some 59,none,.mov (.t 10)⟩,⟨some 60,none,.eq true .iface true (.t 59) (.c .nili)⟩]) (.cond (.t 60) (.seq (.reg [⟨some 61,none,.mov (.t 10)⟩,⟨some 6,none,.mov (.t 61)⟩]) .ret) .skip)))))) (.reg [⟨some 62,none,.ibin .add (.t 19) (.c (.int .i64 1))⟩,⟨some 19,none,.mov (.t 62)⟩]))))))) (.seq (.seq (.reg [⟨some 63,none,.mov (.t 2)⟩,⟨some 64,none,.len .sl (.t 63)⟩,⟨some 65,none,.mov (.c (.int .i64 0))⟩]) (.block 2 (.loop (.seq (.reg [⟨some 66,none,.ibin .lss (.t 65) (.t 64)⟩]) (.seq (.cond (.t 66) .skip (.exit 2)) (.seq (.block 3 (.seq (.reg [⟨some 67,none,.mov (.t 65)⟩,⟨some 68,none,.iaddrSl 1 (.t 63) (.t 65)⟩,⟨some 69,none,.load false 1 (.t 68)⟩,⟨some 11,none,.mov (.t 67)⟩,⟨some 12,none,.mov (.t 69)⟩]) (.seq (.draw [⟨some 70,none,.mov (.t 0)⟩,⟨some 71,none,.nilchk (.t 70)⟩,⟨some 72,none,.faddr 0 (.t 71)⟩,⟨some 73,none,.load false 1 (.t 72)⟩,⟨some 74,none,.mov (.t 1)⟩,⟨some 75,none,.mov (.t 0)⟩,⟨some 76,none,.nilchk (.t 75)⟩,⟨some 77,none,.faddr 1 (.t 76)⟩,⟨some 78,none,.load false 1 (.t 77)⟩,⟨some 79,none,.ibin .mul (.t 74) (.t 78)⟩,⟨some 80,none,.mov (.t 11)⟩,⟨some 81,none,.ibin .add (.t 79) (.t 80)⟩,⟨some 82,none,.mov (.t 12)⟩,⟨some 83,none,.call (.c (.fn 52 [] [])) [(.t 73),(.t 81),(.t 82)]⟩,⟨some 13,none,.mov (.t 83)⟩] [[],[0],[1,0],[2,1,0],[],[],[5],[6,5],[7,6,5],[4,8,7,6,5],[],[9,10,4,8,7,6,5],[],[3,11,12,2,1,0,9,10,4,8,7,6,5],[13,0,1,2,3,4,5,6,7,8,9,10,11,12]]) (.seq (.reg [⟨some 84,none,.mov (.t 13)⟩,⟨some 85,none,.eq true .iface true (.t 84) (.c .nili)⟩]) (.cond (.t 85) (.seq (.reg [⟨some 86,none,.mov (.t 13)⟩,⟨some 6,none,.mov (.t 86)⟩]) .ret) .skip))))) (.reg [⟨some 87,none,.ibin .add (.t 65) (.c (.int .i64 1))⟩,⟨some 65,none,.mov (.t 87)⟩]))))))) (.seq (.reg [⟨some 6,none,.mov (.c .nili)⟩]) .ret)))))⟩
-- (*quitrent/shot.Store).Keep
def F27 : AFun:=⟨84,2,[.tmp 4],(.seq (.reg [⟨some 4,none,.mov (.c .nili)⟩]) (.seq (.block 0 (.seq (.reg [⟨some 12,none,.mov (.t 0)⟩,⟨some 13,none,.eq false .ptr true (.t 12) (.c .nilp)⟩,⟨some 11,none,.mov (.t 13)⟩]) (.cond (.t 11) (.seq (.reg [⟨some 14,none,.loadg 0⟩,⟨some 4,none,.mov (.t 14)⟩]) .ret) (.seq (.draw [⟨some 16,none,.mov (.t 1)⟩,⟨some 17,none,.call (.c (.fn 50 [] [])) [(.t 16)]⟩,⟨some 18,none,.mov (.t 0)⟩,⟨some 19,none,.nilchk (.t 18)⟩,⟨some 20,none,.faddr 1 (.t 19)⟩,⟨some 21,none,.load false 1 (.t 20)⟩,⟨some 22,none,.ibin .gtr (.t 17) (.t 21)⟩,⟨some 23,none,.mov (.t 22)⟩,⟨some 24,(some (23,false)),.mov (.t 0)⟩,⟨some 25,(some (23,false)),.call (.c (.fn 38 [] [])) [(.t 24)]⟩,⟨some 26,(some (23,false)),.ibin .geq (.t 25) (.c (.int .i64 1073741824))⟩,⟨some 27,none,.pick (.t 23) (.c (.bool true)) (.t 26)⟩,⟨some 15,none,.mov (.t 27)⟩] [[],[0],[],[2],[3,2],[4,3,2],[1,5,0,4,3,2],[6,1,5,0,4,3,2],[7,6,1,5,0,4,3,2],[8,7,6,1,5,0,4,3,2],[9,7,8,6,1,5,0,4,3,2],[7,10,6,1,5,0,4,3,2,9,8],[11,9,7,10,6,1,5,0,4,3,2,8]]) (.cond (.t 15) (.seq (.reg [⟨some 28,none,.loadg 1⟩,⟨some 4,none,.mov (.t 28)⟩]) .ret) (.seq (.reg [⟨some 30,none,.mov (.t 0)⟩,⟨some 31,none,.nilchk (.t 30)⟩,⟨some 32,none,.faddr 6 (.t 31)⟩,⟨some 33,none,.load false 1 (.t 32)⟩,⟨some 29,none,.mov (.t 33)⟩]) (.cond (.t 29) (.seq (.reg [⟨some 34,none,.loadg 13⟩,⟨some 4,none,.mov (.t 34)⟩]) .ret) .skip))))))) (.seq (.reg [⟨some 35,none,.mov (.t 0)⟩,⟨some 36,none,.call (.c (.fn 38 [] [])) [(.t 35)]⟩,⟨some 37,none,.ibin .add (.t 36) (.c (.int .i64 1))⟩,⟨some 5,none,.mov (.t 37)⟩]) (.seq (.reg [⟨some 39,none,.mov (.t 5)⟩,⟨some 40,none,.mov (.t 1)⟩,⟨some 41,none,.call (.c (.fn 51 [] [])) [(.t 39),(.t 40)]⟩,⟨some 38,none,.mov (.t 41)⟩,⟨some 42,none,.extract (.t 38) 0⟩,⟨some 43,none,.extract (.t 38) 1⟩,⟨some 6,none,.mov (.t 42)⟩,⟨some 7,none,.mov (.t 43)⟩]) (.seq (.seq (.reg [⟨some 44,none,.mov (.t 7)⟩,⟨some 45,none,.eq true .iface true (.t 44) (.c .nili)⟩]) (.cond (.t 45) (.seq (.reg [⟨some 46,none,.mov (.t 7)⟩,⟨some 4,none,.mov (.t 46)⟩]) .ret) .skip)) (.seq (.reg [⟨some 8,none,.mov (.c (.int .i64 0))⟩]) (.seq (.seq (.reg [⟨some 47,none,.mov (.t 0)⟩,⟨some 48,none,.nilchk (.t 47)⟩,⟨some 49,none,.faddr 4 (.t 48)⟩,⟨some 50,none,.load false 1 (.t 49)⟩,⟨some 51,none,.ibin .eql (.t 50) (.c (.int .i64 0))⟩]) (.cond (.t 51) (.reg [⟨some 8,none,.mov (.c (.int .i64 1))⟩]) .skip)) (.seq (.seq (.reg [⟨some 52,none,.mov (.t 0)⟩,⟨some 53,none,.mov (.t 8)⟩,⟨some 54,none,.mov (.t 6)⟩,⟨some 55,none,.call (.c (.fn 57 [] [])) [(.t 52),(.t 53),(.t 54)]⟩,⟨some 9,none,.mov (.t 55)⟩]) (.seq (.reg [⟨some 56,none,.mov (.t 9)⟩,⟨some 57,none,.eq true .iface true (.t 56) (.c .nili)⟩]) (.cond (.t 57) (.seq (.reg [⟨some 58,none,.mov (.t 0)⟩,⟨some 59,none,.mov (.t 9)⟩,⟨some 60,none,.call (.c (.fn 58 [] [])) [(.t 58),(.t 59)]⟩,⟨some 4,none,.mov (.t 60)⟩]) .ret) .skip))) (.seq (.seq (.reg [⟨some 61,none,.mov (.t 0)⟩,⟨some 62,none,.nilchk (.t 61)⟩,⟨some 63,none,.faddr 5 (.t 62)⟩,⟨some 64,none,.load false 1 (.t 63)⟩,⟨some 65,none,.mov (.t 5)⟩,⟨some 66,none,.call (.c (.fn 19 [] [])) [(.t 64),(.t 65)]⟩,⟨some 10,none,.mov (.t 66)⟩]) (.seq (.reg [⟨some 67,none,.mov (.t 10)⟩,⟨some 68,none,.eq true .iface true (.t 67) (.c .nili)⟩]) (.cond (.t 68) (.seq (.reg [⟨some 69,none,.mov (.t 0)⟩,⟨some 70,none,.mov (.t 10)⟩,⟨some 71,none,.call (.c (.fn 58 [] [])) [(.t 69),(.t 70)]⟩,⟨some 4,none,.mov (.t 71)⟩]) .ret) .skip))) (.seq (.reg [⟨some 72,none,.mov (.t 0)⟩,⟨some 73,none,.mov (.t 0)⟩,⟨some 74,none,.mov (.t 0)⟩,⟨some 75,none,.mov (.t 1)⟩,⟨some 76,none,.mov (.t 5)⟩,⟨some 77,none,.mov (.t 8)⟩,⟨some 78,none,.nilchk (.t 72)⟩,⟨some 79,none,.faddr 2 (.t 78)⟩,⟨none,none,.store 1 (.t 79) (.t 75)⟩,⟨some 80,none,.nilchk (.t 73)⟩,⟨some 81,none,.faddr 3 (.t 80)⟩,⟨none,none,.store 1 (.t 81) (.t 76)⟩,⟨some 82,none,.nilchk (.t 74)⟩,⟨some 83,none,.faddr 4 (.t 82)⟩,⟨none,none,.store 1 (.t 83) (.t 77)⟩]) (.seq (.reg [⟨some 4,none,.mov (.c .nili)⟩]) .ret)))))))))))⟩
theorem c75 : cFun Tryz.prog [1,0,2,3,4,5,6,7,8,9,10,11,12,13] Tryz.f75 = some F75:=by kernel_rfl
theorem c56 : cFun Tryz.prog [1,0,2,3,4,5,6,7,8,9,10,11,12,13] Tryz.f56 = some F56:=by kernel_rfl
theorem c25 : cFun Tryz.prog [1,0,2,3,4,5,6,7,8,9,10,11,12,13] Tryz.f25 = some F25:=by kernel_rfl
theorem c32 : cFun Tryz.prog [1,0,2,3,4,5,6,7,8,9,10,11,12,13] Tryz.f32 = some F32:=by kernel_rfl
theorem c34 : cFun Tryz.prog [1,0,2,3,4,5,6,7,8,9,10,11,12,13] Tryz.f34 = some F34:=by kernel_rfl
theorem c38 : cFun Tryz.prog [1,0,2,3,4,5,6,7,8,9,10,11,12,13] Tryz.f38 = some F38:=by kernel_rfl
theorem c58 : cFun Tryz.prog [1,0,2,3,4,5,6,7,8,9,10,11,12,13] Tryz.f58 = some F58:=by kernel_rfl
theorem c29 : cFun Tryz.prog [1,0,2,3,4,5,6,7,8,9,10,11,12,13] Tryz.f29 = some F29:=by kernel_rfl
theorem c57 : cFun Tryz.prog [1,0,2,3,4,5,6,7,8,9,10,11,12,13] Tryz.f57 = some F57:=by kernel_rfl
theorem c27 : cFun Tryz.prog [1,0,2,3,4,5,6,7,8,9,10,11,12,13] Tryz.f27 = some F27:=by kernel_rfl
end Go.Proofs.YthapdikdeoeplaaGreatDoor.Z7
end
section
set_option linter.unusedVariables false
set_option linter.unnecessarySimpa false
open Go AH
set_option linter.unusedSimpArgs false
set_option maxRecDepth 100000
namespace Go.Proofs.YthapdikdeoeplaaGreatDoor.Z7
def So.ok (x : So) : Prop:=x.g.ok ∧ 1 ≤ x.z ∧ x.z ≤ 100 ∧ x.g.f = 2 * x.z ∧ x.g.t = (x.g.d.L.length : Int)
instance (x : So) : Decidable x.ok:=by unfold So.ok; infer_instance
def So.seq (x : So) : Int:=x.g.b + (x.g.R.length : Int)
theorem okSo0 : CtxOK S0 (ctxE S0 [] [] []):=ctxE_ok trivial trivial trivial mixed
theorem state_ok (x : So) : CallA1 S0 32 [.ptr 0 0 0] (soM x) fun r m =>r = .str x.s ∧ m = soM x:=by
  refine fun_sound okSo0 Tryz.func32 c32 ?_
  unfold wpF F32
  simp only [AH.SD,AH.SE,AOp.call?,AOp.next?,bstep,AV.cells,unAV,binAV,retQ,retV,AH.sliceElems,AH.bytesOf,AH.strOp,AH.bound,AH.missQ,AH.minmaxAV,AH.readOf,AH.effOf,simprocAttr,AH.SP,AH.PD,AV.inB,vstep,vw,shift,newOnes,rowsM,blkIn,rwB,@flat_lts,AV.lt,AV.lts,Nat.sub_self,AH.SO,soM]
theorem state_nil : Pure S0 32 [.nilp] (.str ⟨#[]⟩):=by
  refine fun_sound okSo0 Tryz.func32 c32 ?_
  unfold wpF F32
  simp only [AH.SD,AH.SE,AOp.call?,AOp.next?,bstep,AV.cells,unAV,binAV,retQ,retV,AH.sliceElems,AH.bytesOf,AH.strOp,AH.bound,AH.missQ,AH.minmaxAV,AH.readOf,AH.effOf,simprocAttr,AH.SP,AH.PD,AV.inB,vstep,vw,shift,newOnes,rowsM,blkIn,rwB,@flat_lts,AV.lt,AV.lts,Nat.sub_self,AH.SO]
def stateT : RT:=rtElse (cC aNil c0) (fun _ => .str ⟨#[]⟩) (rtO soO c0 fun x _ =>some (.str x.s))
theorem stateT_ok : ReadF S0 32 stateT:=rtElse_ok (fun _ =>state_nil) (fun _ =>rfl) (rtO_ok fun x y v h =>by
  simp only [Option.some.injEq] at h; subst h
  exact ⟨rfl,state_ok x⟩)
theorem stateT_p {p : Nat} {M : Nat → Option Blk} : stateT [.ptr p 0 0] M = rtO2 (fun (x : So) (_ : Unit) =>some (.str x.s)) (soR M p (M p)) (some ()):=by
  simp only [stateT,rtElse_eq,rtO_eq,cC_dec,aNil_ptr,c0_dec,pairO_none,Option.map_none,elseO_none,soO_dec]
theorem stateT_n {M : Nat → Option Blk} : stateT [.nilp] M = some (.str ⟨#[]⟩,[]):=by
  simp only [stateT,rtElse_eq,cC_dec,aNil_dec,c0_dec,pairO_some,Option.map_some,elseO_some]
theorem okSo1 : CtxOK S0 (ctxE S0 [(15,nextT)] [] [(14,recsT)]):=ctxE_ok ⟨nextT_ok,trivial⟩ trivial ⟨recsT_ok,trivial⟩ mixed
theorem seq_ok (x : So) (h : x.g.ok) : CallA1 S0 38 [.ptr 0 0 0] (soM x) fun r m =>r = .int .i64 x.seq ∧ m = soM x:=by
  obtain ⟨hd,⟨h1,h2⟩,h4,h5,h6,h7,h3⟩:=id h
  have h8:=hd.2.2.2
  have hnx : x.g.next = x.g.b + (x.g.R.length : Int) + 1:=rfl
  have w1 : IntKind.i64.wrap (x.g.b + (x.g.R.length : Int) + 1 - 1) = x.seq:=by rw [IntKind.wrap_i64]; unfold So.seq; omega
  refine fun_sound okSo1 Tryz.func38 c38 ?_
  unfold wpF F38
  simp only [AH.SD,AH.SE,AOp.call?,AOp.next?,bstep,AV.cells,unAV,binAV,retQ,retV,AH.sliceElems,AH.bytesOf,AH.strOp,AH.bound,AH.missQ,AH.minmaxAV,AH.readOf,AH.effOf,simprocAttr,AH.SP,AH.PD,AV.inB,vstep,vw,shift,newOnes,rowsM,blkIn,rwB,@flat_lts,AV.lt,AV.lts,Nat.sub_self,AH.SO,soM,lgR_eq,lgU_eq,Lg.eta,ne4,no4,soR_eq,soS_eq,So.eta,Bool.not_false,Bool.and_self,if_true,dkR_eq,dkB_eq,Dk.eta,ne_eq,Nat.reduceEqDiff,Nat.zero_ne_one,not_false_eq_true,nextT_p,h,hnx,w1]
theorem seq_nil : Pure S0 38 [.nilp] (.int .i64 0):=by
  refine fun_sound okSo1 Tryz.func38 c38 ?_
  unfold wpF F38
  simp only [AH.SD,AH.SE,AOp.call?,AOp.next?,bstep,AV.cells,unAV,binAV,retQ,retV,AH.sliceElems,AH.bytesOf,AH.strOp,AH.bound,AH.missQ,AH.minmaxAV,AH.readOf,AH.effOf,simprocAttr,AH.SP,AH.PD,AV.inB,vstep,vw,shift,newOnes,rowsM,blkIn,rwB,@flat_lts,AV.lt,AV.lts,Nat.sub_self,AH.SO]
def seqT : RT:=rtElse (cC aNil c0) (fun _ => .int .i64 0) (rtO soO c0 fun x _ =>if x.g.ok then some (.int .i64 x.seq) else none)
theorem seqT_ok : ReadF S0 38 seqT:=rtElse_ok (fun _ =>seq_nil) (fun _ =>rfl) (rtO_ok fun x y v h =>by
  split at h
  · rename_i hx
    simp only [Option.some.injEq] at h; subst h
    exact ⟨rfl,seq_ok x hx⟩
  · cases h)
theorem seqT_p {p : Nat} {M : Nat → Option Blk} : seqT [.ptr p 0 0] M = rtO2 (fun (x : So) (_ : Unit) =>if x.g.ok then some (.int .i64 x.seq) else none) (soR M p (M p)) (some ()):=by
  simp only [seqT,rtElse_eq,rtO_eq,cC_dec,aNil_ptr,c0_dec,pairO_none,Option.map_none,elseO_none,soO_dec]
theorem seqT_n {M : Nat → Option Blk} : seqT [.nilp] M = some (.int .i64 0,[]):=by
  simp only [seqT,rtElse_eq,cC_dec,aNil_dec,c0_dec,pairO_some,Option.map_some,elseO_some]
theorem srecords_ok (x : So) (h : x.g.R.length ≤ 1048576) : CallA1 S0 34 [.ptr 0 0 0] (soM x) fun r m =>r = .slc 5 0 x.g.R.length none ∧ m = soM x ++ [some (.row false 1 (x.g.R.map strC))]:=by
  refine CallA1.fin ?_
  refine fun_sound okSo1 Tryz.func34 c34 ?_
  unfold wpF F34
  simp only [AH.SD,AH.SE,AOp.call?,AOp.next?,bstep,AV.cells,unAV,binAV,retQ,retV,AH.sliceElems,AH.bytesOf,AH.strOp,AH.bound,AH.missQ,AH.minmaxAV,AH.readOf,AH.effOf,simprocAttr,AH.SP,AH.PD,AV.inB,vstep,vw,shift,newOnes,rowsM,blkIn,rwB,@flat_lts,AV.lt,AV.lts,Nat.sub_self,AH.SO,soM,lgR_eq,lgU_eq,Lg.eta,ne4,no4,soR_eq,soS_eq,So.eta,Bool.not_false,Bool.and_self,if_true,dkR_eq,dkB_eq,Dk.eta,ne_eq,Nat.reduceEqDiff,Nat.zero_ne_one,not_false_eq_true,recsT_p,h,lgM,List.cons_append,List.nil_append]
  refine ⟨[0,1,2,3,4,5],[],?_⟩
  simp only [AH.SD,AH.SE,AOp.call?,AOp.next?,bstep,AV.cells,unAV,binAV,retQ,retV,AH.sliceElems,AH.bytesOf,AH.strOp,AH.bound,AH.missQ,AH.minmaxAV,AH.readOf,AH.effOf,simprocAttr,AH.SP,AH.PD,AV.inB,vstep]
  try simp
theorem srecords_nil : Pure S0 34 [.nilp] .nils:=by
  refine fun_sound okSo1 Tryz.func34 c34 ?_
  unfold wpF F34
  simp only [AH.SD,AH.SE,AOp.call?,AOp.next?,bstep,AV.cells,unAV,binAV,retQ,retV,AH.sliceElems,AH.bytesOf,AH.strOp,AH.bound,AH.missQ,AH.minmaxAV,AH.readOf,AH.effOf,simprocAttr,AH.SP,AH.PD,AV.inB,vstep,vw,shift,newOnes,rowsM,blkIn,rwB,@flat_lts,AV.lt,AV.lts,Nat.sub_self,AH.SO]
def srecT : ET:=etO soO c0 fun x _ =>if x.g.R.length ≤ 1048576 then some (.slc 5 0 x.g.R.length none,soM x ++ [some (.row false 1 (x.g.R.map strC))]) else none
theorem srecT_ok : EffF S0 34 srecT:=etO_ok fun x y v m' h =>by
  split at h
  · rename_i hl
    simp only [Option.some.injEq,Prod.mk.injEq] at h
    obtain ⟨rfl,rfl⟩:=h
    exact ⟨⟨by simp [soO,soM],rfl⟩,srecords_ok x hl⟩
  · cases h
theorem srecT_p {p n : Nat} {M : Nat → Option Blk} : srecT [.ptr p 0 0] M n = etO2 n (fun (x : So) (_ : Unit) =>if x.g.R.length ≤ 1048576 then some (.slc 5 0 x.g.R.length none,soM x ++ [some (.row false 1 (x.g.R.map strC))]) else none) (soR M p (M p)) (some ()):=by
  simp only [srecT,etO_eq,c0_dec,soO_dec]
def srecN : RT:=rtP (cC aNil c0) fun _ => .nils
theorem srecN_ok : ReadF S0 34 srecN:=rtP_ok (fun _ =>srecords_nil) fun _ =>rfl
theorem srecN_n {M : Nat → Option Blk} : srecN [.nilp] M = some (.nils,[]):=by
  simp only [srecN,rtP,cC_dec,aNil_dec,c0_dec,pairO_some,Option.map_some]
theorem srecN_p {p : Nat} {M : Nat → Option Blk} : srecN [.ptr p 0 0] M = none:=by
  simp only [srecN,rtP,cC_dec,aNil_ptr,pairO_none,Option.map_none]
def decEk : AV → Option {k : Nat // k = 0 ∨ k = 1 ∨ k = 7 ∨ k = 14}
  | .nili =>some ⟨0,.inl rfl⟩
  | .err g =>if g = 1 then some ⟨1,.inr (.inl rfl)⟩ else if g = 6 then some ⟨7,.inr (.inr (.inl rfl))⟩ else if g = 13 then some ⟨14,.inr (.inr (.inr rfl))⟩ else none
  | _ =>none
theorem decEk_ok (v : AV) (a : {k : Nat // k = 0 ∨ k = 1 ∨ k = 7 ∨ k = 14}) (h : decEk v = some a) : v = errA a.1:=by
  unfold decEk at h
  split at h
  · simp only [Option.some.injEq] at h; subst h; rfl
  · split at h
    · rename_i e
      simp only [Option.some.injEq] at h; subst h; rw [e]; rfl
    · split at h
      · rename_i e
        simp only [Option.some.injEq] at h; subst h; rw [e]; rfl
      · split at h
        · rename_i e
          simp only [Option.some.injEq] at h; subst h; rw [e]; rfl
        · cases h
  · cases h
theorem decEk_de (a : {k : Nat // k = 0 ∨ k = 1 ∨ k = 7 ∨ k = 14}) : decEk (errA a.1) = some a:=by
  obtain ⟨k,h⟩:=a
  rcases h with rfl | rfl | rfl | rfl <;> rfl
def aEk : Arg {k : Nat // k = 0 ∨ k = 1 ∨ k = 7 ∨ k = 14}:=⟨fun a =>errA a.1,decEk,decEk_ok,decEk_de,fun a =>errA_flat a.1⟩
theorem aEk_dec {k : Nat} (h : k = 0 ∨ k = 1 ∨ k = 7 ∨ k = 14) : aEk.dec (errA k) = some ⟨k,h⟩:=decEk_de ⟨k,h⟩
def lostZ (x : So) (k : Nat) : So:={ x with down:=x.down || k == 14 }
theorem is_k (k : Nat) (h : k = 0 ∨ k = 1 ∨ k = 7 ∨ k = 14) (M : Nat → Option Blk) : isT [errA k,.err 13] M = some (.bool (k == 14),[]):=by
  rcases h with rfl | rfl | rfl | rfl <;> rfl
theorem okLost2 : CtxOK S0 (ctxE S0 [(45,isT)] [] []):=ctxE_ok ⟨isT_ok,trivial⟩ trivial trivial mixed
theorem slost_ok (x : So) (k : Nat) (h : k = 0 ∨ k = 1 ∨ k = 7 ∨ k = 14) : CallA1 S0 58 [.ptr 0 0 0,errA k] (soM x) fun r m =>r = errA k ∧ m = soM (lostZ x k):=by
  obtain ⟨g,z,s,b,a,down⟩:=x
  refine fun_sound okLost2 Tryz.func58 c58 ?_
  unfold wpF F58
  cases down
  · simp only [AH.SD,AH.SE,AOp.call?,AOp.next?,bstep,AV.cells,unAV,binAV,retQ,retV,AH.sliceElems,AH.bytesOf,AH.strOp,AH.bound,AH.missQ,AH.minmaxAV,AH.readOf,AH.effOf,simprocAttr,AH.SP,AH.PD,AV.inB,vstep,vw,shift,newOnes,rowsM,blkIn,rwB,@flat_lts,AV.lt,AV.lts,Nat.sub_self,AH.SO,soM,is_k k h,lostZ,Bool.false_or]
    try trivial
  · simp only [AH.SD,AH.SE,AOp.call?,AOp.next?,bstep,AV.cells,unAV,binAV,retQ,retV,AH.sliceElems,AH.bytesOf,AH.strOp,AH.bound,AH.missQ,AH.minmaxAV,AH.readOf,AH.effOf,simprocAttr,AH.SP,AH.PD,AV.inB,vstep,vw,shift,newOnes,rowsM,blkIn,rwB,@flat_lts,AV.lt,AV.lts,Nat.sub_self,AH.SO,soM,is_k k h,lostZ,Bool.true_or]
    try trivial
def slostT : ET:=etO soO (cC aEk c0) fun x y =>some (errA y.1.1,soM (lostZ x y.1.1))
theorem slostT_ok : EffF S0 58 slostT:=etO_ok fun x y v m' h =>by
  simp only [Option.some.injEq,Prod.mk.injEq] at h
  obtain ⟨rfl,rfl⟩:=h
  exact ⟨⟨Nat.le_refl 5,rfl⟩,slost_ok x y.1.1 y.1.2⟩
theorem slostT_p {p n k : Nat} {M : Nat → Option Blk} (h : k = 0 ∨ k = 1 ∨ k = 7 ∨ k = 14) : slostT [.ptr p 0 0,errA k] M n = etO2 n (fun (x : So) (y : {k : Nat // k = 0 ∨ k = 1 ∨ k = 7 ∨ k = 14} × Unit) =>some (errA y.1.1,soM (lostZ x y.1.1))) (soR M p (M p)) (some (⟨k,h⟩,())):=by
  simp only [slostT,etO_eq,cC_dec,aEk_dec h,c0_dec,pairO_some,soO_dec]
theorem slostT_d {p n : Nat} {M : Nat → Option Blk} : slostT [.ptr p 0 0,.err 13] M n = etO2 n (fun (x : So) (y : {k : Nat // k = 0 ∨ k = 1 ∨ k = 7 ∨ k = 14} × Unit) =>some (errA y.1.1,soM (lostZ x y.1.1))) (soR M p (M p)) (some (⟨14,.inr (.inr (.inr rfl))⟩,())):=slostT_p (k:=14) (.inr (.inr (.inr rfl)))
theorem addL_kinds {l : Lg} (h : l.ok) (s : ByteArray) : (addL l s).1 = 0 ∨ (addL l s).1 = 1 ∨ (addL l s).1 = 7 ∨ (addL l s).1 = 14:=by
  unfold addL
  split
  · exact .inr (.inl rfl)
  · split
    · exact .inr (.inr (.inl rfl))
    · split
      · exact .inr (.inr (.inr rfl))
      · rename_i h1 h2 h3
        split
        · exact .inl rfl
        · rename_i h4
          have:=lay_kind (blkL l.next s (sizeN s.size)) (d:=l.d) l.a.toNat (by
            rw [blkL_len]
            have e : l.room = l.t - l.a:=rfl
            have:=h.2.2.2.2.2.1
            have:=h.2.2.1
            have:=h.2.2.2.1
            omega) (blkL_sz (Nat.le_refl _))
          exact .inr (.inr (.inr (this.resolve_left h4)))
def sadZ (x : So) (s : ByteArray) : Nat × So:=if x.down = true then (14,x) else ((addL x.g s).1,{ x with g:=(addL x.g s).2,down:=(addL x.g s).1 == 14 })
def soM2 (y : Option Blk) (x : So) : Mem:=[some (.row false 7 [[.ptr 2 0 0,.int .i64 x.z,.str x.s,.int .i64 x.b,.int .i64 x.a,.ptr 1 0 0,.bool x.down]]),
  some (.row false 7 [[.ptr 2 0 0,.int .i64 x.g.f,.int .i64 x.g.t,.int .i64 x.g.b,.int .i64 x.g.a,.slc 5 0 x.g.R.length none,.bool x.g.down]]),
  some (.row false 5 [[.slc 3 0 x.g.d.L.length none,.bool x.g.d.away,.int .i64 x.g.d.fuse,.int .i64 x.g.d.torn,.int .i64 x.g.d.writes]]),some (.row false 1 (x.g.d.L.map strC)),y,some (.row false 1 (x.g.R.map strC))]
def sadM (x : So) (s : ByteArray) : Mem:=if x.down = false ∧ (addL x.g s).1 = 0 then soM2 none (sadZ x s).2 else soM (sadZ x s).2
theorem okSad : CtxOK S0 (ctxE S0 [(20,adN)] [] [(20,adT),(58,slostT)]):=ctxE_ok ⟨adN_ok,trivial⟩ trivial ⟨adT_ok,slostT_ok,trivial⟩ mixed
theorem sad_ok (x : So) (h : x.g.ok) (s : ByteArray) (hs : okSz s) : CallA1 S0 29 [.ptr 0 0 0,.str s] (soM x) fun r m =>r = errA (sadZ x s).1 ∧ m = sadM x s:=by
  obtain ⟨g,z,st,b,a,down⟩:=x
  simp only at h
  have hk:=addL_kinds h s
  refine CallA1.fin ?_
  refine fun_sound okSad Tryz.func29 c29 ?_
  unfold wpF F29
  cases down
  · have e : sadZ ⟨g,z,st,b,a,false⟩ s = ((addL g s).1,⟨(addL g s).2,z,st,b,a,(addL g s).1 == 14⟩):=by unfold sadZ; rw [if_neg (by simp)]
    by_cases h0 : (addL g s).1 = 0
    · simp only [AH.SD,AH.SE,AOp.call?,AOp.next?,bstep,AV.cells,unAV,binAV,retQ,retV,AH.sliceElems,AH.bytesOf,AH.strOp,AH.bound,AH.missQ,AH.minmaxAV,AH.readOf,AH.effOf,simprocAttr,AH.SP,AH.PD,AV.inB,vstep,vw,shift,newOnes,rowsM,blkIn,rwB,@flat_lts,AV.lt,AV.lts,Nat.sub_self,AH.SO,soM,lgR_eq,lgU_eq,Lg.eta,ne4,no4,soR_eq,soS_eq,So.eta,Bool.not_false,Bool.and_self,if_true,dkR_eq,dkB_eq,Dk.eta,ne_eq,Nat.reduceEqDiff,Nat.zero_ne_one,not_false_eq_true,adN_p,adT_p,h,hs,and_self,adM,h0,lgM2,errA_ren,slostT_p (Or.inl rfl : (0 : Nat) = 0 ∨ (0 : Nat) = 1 ∨ (0 : Nat) = 7 ∨ (0 : Nat) = 14),lostZ,Bool.false_or]
      refine ⟨[0,1,2,3,4,5],[],?_⟩
      simp only [AH.SD,AH.SE,AOp.call?,AOp.next?,bstep,AV.cells,unAV,binAV,retQ,retV,AH.sliceElems,AH.bytesOf,AH.strOp,AH.bound,AH.missQ,AH.minmaxAV,AH.readOf,AH.effOf,simprocAttr,AH.SP,AH.PD,AV.inB,vstep,e,sadM,soM2,h0,true_and,flat_inB (errA_flat _)]
      try simp
    · simp only [AH.SD,AH.SE,AOp.call?,AOp.next?,bstep,AV.cells,unAV,binAV,retQ,retV,AH.sliceElems,AH.bytesOf,AH.strOp,AH.bound,AH.missQ,AH.minmaxAV,AH.readOf,AH.effOf,simprocAttr,AH.SP,AH.PD,AV.inB,vstep,vw,shift,newOnes,rowsM,blkIn,rwB,@flat_lts,AV.lt,AV.lts,Nat.sub_self,AH.SO,soM,lgR_eq,lgU_eq,Lg.eta,ne4,no4,soR_eq,soS_eq,So.eta,Bool.not_false,Bool.and_self,if_true,dkR_eq,dkB_eq,Dk.eta,ne_eq,Nat.reduceEqDiff,Nat.zero_ne_one,not_false_eq_true,adN_p,adT_p,h,hs,and_self,adM,h0,if_false,lgM,errA_ren,slostT_p hk,lostZ,Bool.false_or]
      refine ⟨[0,1,2,3,4],[],?_⟩
      simp only [AH.SD,AH.SE,AOp.call?,AOp.next?,bstep,AV.cells,unAV,binAV,retQ,retV,AH.sliceElems,AH.bytesOf,AH.strOp,AH.bound,AH.missQ,AH.minmaxAV,AH.readOf,AH.effOf,simprocAttr,AH.SP,AH.PD,AV.inB,vstep,e,sadM,soM,h0,and_false,if_false,flat_inB (errA_flat _),errA_ren]
      try simp
  · have e : sadZ ⟨g,z,st,b,a,true⟩ s = (14,⟨g,z,st,b,a,true⟩):=by unfold sadZ; rw [if_pos rfl]
    simp only [AH.SD,AH.SE,AOp.call?,AOp.next?,bstep,AV.cells,unAV,binAV,retQ,retV,AH.sliceElems,AH.bytesOf,AH.strOp,AH.bound,AH.missQ,AH.minmaxAV,AH.readOf,AH.effOf,simprocAttr,AH.SP,AH.PD,AV.inB,vstep,vw,shift,newOnes,rowsM,blkIn,rwB,@flat_lts,AV.lt,AV.lts,Nat.sub_self,AH.SO,soM]
    refine ⟨[0,1,2,3,4],[],?_⟩
    simp only [AH.SD,AH.SE,AOp.call?,AOp.next?,bstep,AV.cells,unAV,binAV,retQ,retV,AH.sliceElems,AH.bytesOf,AH.strOp,AH.bound,AH.missQ,AH.minmaxAV,AH.readOf,AH.effOf,simprocAttr,AH.SP,AH.PD,AV.inB,vstep,e,sadM,soM,errA14,Bool.true_eq_false,false_and,if_false]
    try simp
theorem sadd_nil (s : ByteArray) : Pure S0 29 [.nilp,.str s] (errA 2):=by
  refine fun_sound okSad Tryz.func29 c29 ?_
  unfold wpF F29
  simp only [AH.SD,AH.SE,AOp.call?,AOp.next?,bstep,AV.cells,unAV,binAV,retQ,retV,AH.sliceElems,AH.bytesOf,AH.strOp,AH.bound,AH.missQ,AH.minmaxAV,AH.readOf,AH.effOf,simprocAttr,AH.SP,AH.PD,AV.inB,vstep,vw,shift,newOnes,rowsM,blkIn,rwB,@flat_lts,AV.lt,AV.lts,Nat.sub_self,AH.SO,errA2]
theorem sadM_len (x : So) (s : ByteArray) : 5 ≤ (sadM x s).length ∧ ((sadM x s).drop 5).all rwB = true:=by
  unfold sadM
  split
  · exact ⟨by simp [soM2],rfl⟩
  · exact ⟨by simp [soM],rfl⟩
def sadT : ET:=etO soO (cC aS c0) fun x y =>if x.g.ok ∧ okSz y.1 then some (errA (sadZ x y.1).1,sadM x y.1) else none
theorem sadT_ok : EffF S0 29 sadT:=etO_ok fun x y v m' h =>by
  split at h
  · rename_i hl
    simp only [Option.some.injEq,Prod.mk.injEq] at h
    obtain ⟨rfl,rfl⟩:=h
    exact ⟨sadM_len x y.1,sad_ok x hl.1 y.1 hl.2⟩
  · cases h
theorem sadT_p {p n : Nat} {s : ByteArray} {M : Nat → Option Blk} : sadT [.ptr p 0 0,.str s] M n = etO2 n (fun (x : So) (y : ByteArray × Unit) =>if x.g.ok ∧ okSz y.1 then some (errA (sadZ x y.1).1,sadM x y.1) else none) (soR M p (M p)) (some (s,())):=by
  simp only [sadT,etO_eq,cC_dec,aS_dec,c0_dec,pairO_some,soO_dec]
def sadN : RT:=rtP (cC aNil (cC aS c0)) fun _ =>errA 2
theorem sadN_ok : ReadF S0 29 sadN:=rtP_ok (fun x =>sadd_nil x.2.1) fun _ =>rfl
theorem sadN_n {s : ByteArray} {M : Nat → Option Blk} : sadN [.nilp,.str s] M = some (errA 2,[]):=by
  simp only [sadN,rtP,cC_dec,aNil_dec,aS_dec,c0_dec,pairO_some,Option.map_some]
theorem sadN_p {p : Nat} {s : ByteArray} {M : Nat → Option Blk} : sadN [.ptr p 0 0,.str s] M = none:=by
  simp only [sadN,rtP,cC_dec,aNil_ptr,pairO_none,Option.map_none]
end Go.Proofs.YthapdikdeoeplaaGreatDoor.Z7
end
section
set_option linter.unusedVariables false
set_option linter.unnecessarySimpa false
open Go AH
set_option linter.unusedSimpArgs false
set_option maxRecDepth 100000
namespace Go.Proofs.YthapdikdeoeplaaGreatDoor.Z7
noncomputable abbrev tAr : List (FuncId × RT):=[(59,drdT)]
theorem okAr : CtxOK S0 (ctxU S0 tAr []):=ctxU_ok ⟨drdT_ok,trivial⟩ trivial mixed
def arSt (d : Dk) (z at_ : Int) (Z o : Nat) (i : Nat) : St:=⟨[(13,.int .i64 i),(12,.int .i64 z),(8,.slc 2 0 i none),(2,.int .i64 at_),(1,.int .i64 z),(0,.ptr 0 0 0)],dkM d ++ [some (.row false 1 (((d.L.drop o).take i).map strC))]⟩
theorem part_sn {L : List ByteArray} {o i : Nat} (h2 : o + i < L.length) : (L.drop o).take (i + 1) = (L.drop o).take i ++ [L[o + i]]:=by
  have h3 : i < (L.drop o).length:=by rw [List.length_drop]; omega
  rw [List.take_succ_eq_append_getElem h3,List.getElem_drop]
theorem area_on (d : Dk) (hd : d.ok) (ha : d.away = false) (at_ : Int) (Z o : Nat) (hw : IntKind.i64.wrap (at_ * (Z : Int)) = (o : Int)) (h2 : o + Z ≤ d.L.length) : CallA1 S0 75 [.ptr 0 0 0,.int .i64 Z,.int .i64 at_] (dkM d)
    fun r m =>r = .tup [.slc 2 0 Z none,.nili] ∧ m = dkM d ++ [some (.row false 1 (((d.L.drop o).take Z).map strC))]:=by
  have hL:=hd.2.2.2
  refine CallA1.fin ?_
  refine fun_sound okAr Tryz.func75 c75 ?_
  unfold wpF F75
  simp only [AH.SD,AH.SE,AOp.call?,AOp.next?,bstep,AV.cells,unAV,binAV,retQ,retV,AH.sliceElems,AH.bytesOf,AH.strOp,AH.bound,AH.missQ,AH.minmaxAV,AH.readOf,AH.effOf,simprocAttr,AH.SP,AH.PD,AV.inB,vstep,vw,shift,newOnes,rowsM,blkIn,rwB,@flat_lts,AV.lt,AV.lts,Nat.sub_self,AH.SO,dkM]
  refine loop_do [0,1] [13,12,8,2,1,0] [.tm 8 1] (α:=Nat) (fun i =>Z - i) (arSt d Z at_ Z o) (fun i =>i ≤ Z) 0 (Nat.zero_le _) (by simp only [AH.SD,AH.SE,AOp.call?,AOp.next?,bstep,AV.cells,unAV,binAV,retQ,retV,AH.sliceElems,AH.bytesOf,AH.strOp,AH.bound,AH.missQ,AH.minmaxAV,AH.readOf,AH.effOf,simprocAttr,AH.SP,AH.PD,AV.inB,vstep,arSt,dkM,List.take_zero,List.map_nil,List.cons_append,List.nil_append]) ?_
  intro X i hi ih
  simp only [AH.SD,AH.SE,AOp.call?,AOp.next?,bstep,AV.cells,unAV,binAV,retQ,retV,AH.sliceElems,AH.bytesOf,AH.strOp,AH.bound,AH.missQ,AH.minmaxAV,AH.readOf,AH.effOf,simprocAttr,AH.SP,AH.PD,AV.inB,vstep,vw,shift,newOnes,rowsM,blkIn,rwB,@flat_lts,AV.lt,AV.lts,Nat.sub_self,AH.SO,arSt,dkM,List.cons_append,List.nil_append]
  refine ⟨fun hlt => ?_,fun hlt => ?_⟩
  · have hiT:=lt_of_dec hlt
    have wi:=wrapS (i:=i) (by omega)
    have hiL : o + i < d.L.length:=by omega
    have wo : IntKind.i64.wrap ((o : Int) + (i : Int)) = ((o + i : Nat) : Int):=by rw [IntKind.wrap_i64]; omega
    have hck:=chk_at hiL
    rw [ha] at hck
    simp only [Bool.false_eq_true,if_false] at hck
    have hg : d.L.getD (o + i) ⟨#[]⟩ = d.L[o + i]:=by rw [List.getD_eq_getElem?_getD,List.getElem?_eq_getElem hiL]; rfl
    have hrd : rdS d ((o + i : Nat) : Int) = d.L[o + i]:=by rw [rdS,hck,Int.toNat_natCast,hg]; rfl
    have done:=ih (i + 1) hiT (by omega)
    have hln : ((d.L.drop o).take i).length = i:=by rw [List.length_take,List.length_drop]; omega
    have htk : (((d.L.drop o).take i).map strC).take i = ((d.L.drop o).take i).map strC:=List.take_of_length_le (by rw [List.length_map]; omega)
    have hps:=part_sn hiL
    simp only [arSt,dkM,hps,List.map_append,List.map_cons,List.map_nil,List.length_append,List.length_cons,List.length_nil,Nat.zero_add,List.map_append,strC_eq,List.cons_append,List.nil_append] at done
    simp only [AH.SD,AH.SE,AOp.call?,AOp.next?,bstep,AV.cells,unAV,binAV,retQ,retV,AH.sliceElems,AH.bytesOf,AH.strOp,AH.bound,AH.missQ,AH.minmaxAV,AH.readOf,AH.effOf,simprocAttr,AH.SP,AH.PD,AV.inB,vstep,vw,shift,newOnes,rowsM,blkIn,rwB,@flat_lts,AV.lt,AV.lts,Nat.sub_self,AH.SO,lgR_eq,lgU_eq,Lg.eta,ne4,no4,soR_eq,soS_eq,So.eta,Bool.not_false,Bool.and_self,if_true,dkR_eq,dkB_eq,Dk.eta,ne_eq,Nat.reduceEqDiff,Nat.zero_ne_one,not_false_eq_true,hw,wo,drdT_p,drdA,hck,hrd,errA_nil,errA0,wi,List.length_map,hln,htk,List.drop_zero]
    repeat ((with_reducible refine And.intro ?_ ?_); focus (first | rfl | decide | omega | (simp only [List.length_map,List.length_set,and_true]; omega)))
    try simp only [AH.SD,AH.SE,AOp.call?,AOp.next?,bstep,AV.cells,unAV,binAV,retQ,retV,AH.sliceElems,AH.bytesOf,AH.strOp,AH.bound,AH.missQ,AH.minmaxAV,AH.readOf,AH.effOf,simprocAttr,AH.SP,AH.PD,AV.inB,vstep,vw,shift,newOnes,rowsM,blkIn,rwB,@flat_lts,AV.lt,AV.lts,Nat.sub_self,AH.SO,lgR_eq,lgU_eq,Lg.eta,ne4,no4,soR_eq,soS_eq,So.eta,Bool.not_false,Bool.and_self,if_true,dkR_eq,dkB_eq,Dk.eta,ne_eq,Nat.reduceEqDiff,Nat.zero_ne_one,not_false_eq_true,hw,wo,drdT_p,drdA,hck,hrd,errA_nil,errA0,wi,List.length_map,hln,htk,List.drop_zero]
    repeat ((with_reducible refine And.intro ?_ ?_); focus (first | rfl | decide | omega | (simp only [List.length_map,List.length_set,and_true]; omega)))
    refine gc_auto [0,1,4] [13,12,8,2,1,0] [] ?_
    simp only [AH.SD,AH.SE,AOp.call?,AOp.next?,bstep,AV.cells,unAV,binAV,retQ,retV,AH.sliceElems,AH.bytesOf,AH.strOp,AH.bound,AH.missQ,AH.minmaxAV,AH.readOf,AH.effOf,simprocAttr,AH.SP,AH.PD,AV.inB,vstep,List.length_append,List.length_map,hln,List.length_cons,List.length_nil,Nat.zero_add]
    exact done
  · have : i = Z:=by
      have:=ge_of_dec hlt
      omega
    subst this
    simp only [AH.SD,AH.SE,AOp.call?,AOp.next?,bstep,AV.cells,unAV,binAV,retQ,retV,AH.sliceElems,AH.bytesOf,AH.strOp,AH.bound,AH.missQ,AH.minmaxAV,AH.readOf,AH.effOf,simprocAttr,AH.SP,AH.PD,AV.inB,vstep,vw,shift,newOnes,rowsM,blkIn,rwB,@flat_lts,AV.lt,AV.lts,Nat.sub_self,AH.SO]
    refine ⟨[0,1,2],[],?_⟩
    simp only [AH.SD,AH.SE,AOp.call?,AOp.next?,bstep,AV.cells,unAV,binAV,retQ,retV,AH.sliceElems,AH.bytesOf,AH.strOp,AH.bound,AH.missQ,AH.minmaxAV,AH.readOf,AH.effOf,simprocAttr,AH.SP,AH.PD,AV.inB,vstep,dkM]
    try simp
theorem area_off (d : Dk) (hd : d.ok) (ha : d.away = true) (at_ : Int) (Z o : Nat) (hw : IntKind.i64.wrap (at_ * (Z : Int)) = (o : Int)) (h1 : 0 < Z) (h2 : o + Z ≤ d.L.length) : CallA1 S0 75 [.ptr 0 0 0,.int .i64 Z,.int .i64 at_] (dkM d)
    fun r m =>r = .tup [.nils,errA 14] ∧ m = dkM d:=by
  have hL:=hd.2.2.2
  have hlt : decide ((0 : Int) < (Z : Int)) = true:=decide_eq_true (by omega)
  have wo : IntKind.i64.wrap ((o : Int) + 0) = (o : Int):=by rw [IntKind.wrap_i64]; omega
  have wo2 : IntKind.i64.wrap (o : Int) = (o : Int):=by rw [IntKind.wrap_i64]; omega
  have hck:=chk_at (d:=d) (i:=o) (by omega)
  rw [ha] at hck
  simp only [if_true] at hck
  refine CallA1.fin ?_
  refine fun_sound okAr Tryz.func75 c75 ?_
  unfold wpF F75
  simp only [AH.SD,AH.SE,AOp.call?,AOp.next?,bstep,AV.cells,unAV,binAV,retQ,retV,AH.sliceElems,AH.bytesOf,AH.strOp,AH.bound,AH.missQ,AH.minmaxAV,AH.readOf,AH.effOf,simprocAttr,AH.SP,AH.PD,AV.inB,vstep,vw,shift,newOnes,rowsM,blkIn,rwB,@flat_lts,AV.lt,AV.lts,Nat.sub_self,AH.SO,dkM]
  refine loop_unroll ctxU_monoB ?_
  simp only [AH.SD,AH.SE,AOp.call?,AOp.next?,bstep,AV.cells,unAV,binAV,retQ,retV,AH.sliceElems,AH.bytesOf,AH.strOp,AH.bound,AH.missQ,AH.minmaxAV,AH.readOf,AH.effOf,simprocAttr,AH.SP,AH.PD,AV.inB,vstep,vw,shift,newOnes,rowsM,blkIn,rwB,@flat_lts,AV.lt,AV.lts,Nat.sub_self,AH.SO,lgR_eq,lgU_eq,Lg.eta,ne4,no4,soR_eq,soS_eq,So.eta,Bool.not_false,Bool.and_self,if_true,dkR_eq,dkB_eq,Dk.eta,ne_eq,Nat.reduceEqDiff,Nat.zero_ne_one,not_false_eq_true,hlt,hw,wo,wo2,Int.add_zero,drdT_p,drdA,hck,errA_nil,errA14]
  refine ⟨[0,1],[],?_⟩
  simp only [AH.SD,AH.SE,AOp.call?,AOp.next?,bstep,AV.cells,unAV,binAV,retQ,retV,AH.sliceElems,AH.bytesOf,AH.strOp,AH.bound,AH.missQ,AH.minmaxAV,AH.readOf,AH.effOf,simprocAttr,AH.SP,AH.PD,AV.inB,vstep,dkM]
  try simp
def okArea (d : Dk) (x : Int × Int × Unit) : Prop:=d.ok ∧ 1 ≤ x.1 ∧ (x.2.1 = 0 ∨ x.2.1 = 1) ∧ x.2.1 * x.1 + x.1 ≤ (d.L.length : Int)
instance (d : Dk) (x : Int × Int × Unit) : Decidable (okArea d x):=by unfold okArea; infer_instance
def areaT : ET:=etO dkO (cC (aI .i64) (cC (aI .i64) c0)) fun d x =>if okArea d x then some (if d.away = true then (.tup [.nils,errA 14],dkM d) else (.tup [.slc 2 0 x.1.toNat none,.nili],dkM d ++ [some (.row false 1 (((d.L.drop (x.2.1 * x.1).toNat).take x.1.toNat).map strC))])) else none
theorem areaT_ok : EffF S0 75 areaT:=etO_ok fun d x v m' h =>by
  split at h
  · rename_i hx
    obtain ⟨z,at_,u⟩:=x
    obtain ⟨hd,h1,h2,h3⟩:=hx
    simp only at h1 h2 h3 h
    obtain ⟨Z,rfl⟩:=Int.eq_ofNat_of_zero_le (show 0 ≤ z by omega)
    have hL:=hd.2.2.2
    obtain ⟨o,ho,ho2⟩ : ∃ o : Nat,at_ * (Z : Int) = (o : Int) ∧ o + Z ≤ d.L.length:=by
      rcases h2 with rfl | rfl
      · exact ⟨0,by simp,by omega⟩
      · exact ⟨Z,by simp,by omega⟩
    have hw : IntKind.i64.wrap (at_ * (Z : Int)) = (o : Int):=by rw [ho,IntKind.wrap_i64]; omega
    rw [ho] at h
    simp only [Int.toNat_natCast] at h
    split at h
    · rename_i ha
      simp only [Option.some.injEq,Prod.mk.injEq] at h
      obtain ⟨rfl,rfl⟩:=h
      exact ⟨⟨Nat.le_refl 2,rfl⟩,area_off d hd ha at_ Z o hw (by omega) ho2⟩
    · rename_i ha
      simp only [Option.some.injEq,Prod.mk.injEq] at h
      obtain ⟨rfl,rfl⟩:=h
      exact ⟨⟨by simp [dkO,dkM],rfl⟩,area_on d hd (by simpa using ha) at_ Z o hw ho2⟩
  · cases h
theorem areaT_p {p n : Nat} {z at_ : Int} {M : Nat → Option Blk} : areaT [.ptr p 0 0,.int .i64 z,.int .i64 at_] M n = etO2 n (fun d (x : Int × Int × Unit) =>if okArea d x then some (if d.away = true then (.tup [.nils,errA 14],dkM d) else (.tup [.slc 2 0 x.1.toNat none,.nili],dkM d ++ [some (.row false 1 (((d.L.drop (x.2.1 * x.1).toNat).take x.1.toNat).map strC))])) else none) (dkR M p (M p)) (some (z,at_,())):=by
  simp only [areaT,etO_eq,cC_dec,aI_dec,c0_dec,pairO_some,dkO_dec]
end Go.Proofs.YthapdikdeoeplaaGreatDoor.Z7
end
