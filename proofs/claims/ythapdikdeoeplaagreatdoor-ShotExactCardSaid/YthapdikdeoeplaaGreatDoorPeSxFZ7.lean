import Derived.Test.YthapdikdeoeplaaGreatDoorPaFKindZ7
import Derived.Test.YthapdikdeoeplaaGreatDoorPdSoEZ7
section
set_option linter.unusedVariables false
set_option linter.unnecessarySimpa false
open Go AH
namespace Go.Proofs.YthapdikdeoeplaaGreatDoor.Z7
-- quitrent/quitrentlaw07.ShotExact
def F5 : AFun:=⟨283,3,[.tmp 6],(.seq (.reg [⟨some 6,none,.mov (.c (.bool false))⟩]) (.seq (.seq (.reg [⟨some 23,none,.call (.c (.fn 23 [] [])) []⟩,⟨some 24,none,.un .not (.t 23)⟩]) (.cond (.t 24) (.seq (.reg [⟨some 6,none,.mov (.c (.bool false))⟩]) .ret) .skip)) (.seq (.seq (.reg [⟨some 25,none,.mov (.t 0)⟩,⟨some 26,none,.len .str (.t 25)⟩,⟨some 27,none,.ibin .gtr (.t 26) (.c (.int .i64 1920))⟩,⟨some 28,none,.mov (.t 27)⟩,⟨some 29,(some (28,false)),.mov (.t 2)⟩,⟨some 30,(some (28,false)),.len .sl (.t 29)⟩,⟨some 31,(some (28,false)),.ibin .gtr (.t 30) (.c (.int .i64 12))⟩,⟨some 32,none,.pick (.t 28) (.c (.bool true)) (.t 31)⟩]) (.cond (.t 32) (.seq (.reg [⟨some 6,none,.mov (.c (.bool true))⟩]) .ret) .skip)) (.seq (.reg [⟨some 33,none,.mov (.t 0)⟩,⟨some 34,none,.call (.c (.fn 7 [] [])) [(.t 33)]⟩,⟨some 7,none,.mov (.t 34)⟩]) (.seq (.reg [⟨some 35,none,.mov (.t 0)⟩,⟨some 36,none,.call (.c (.fn 8 [] [])) [(.t 35)]⟩,⟨some 8,none,.mov (.t 36)⟩]) (.seq (.reg [⟨some 38,none,.mov (.t 7)⟩,⟨some 39,none,.mov (.t 1)⟩,⟨some 40,none,.call (.c (.fn 25 [] [])) [(.t 38),(.t 39)]⟩,⟨some 37,none,.mov (.t 40)⟩,⟨some 41,none,.extract (.t 37) 0⟩,⟨some 42,none,.extract (.t 37) 1⟩,⟨some 9,none,.mov (.t 41)⟩,⟨some 10,none,.mov (.t 42)⟩]) (.seq (.seq (.reg [⟨some 43,none,.mov (.t 1)⟩,⟨some 44,none,.ibin .lss (.t 43) (.c (.int .i64 1))⟩,⟨some 45,none,.mov (.t 44)⟩,⟨some 46,(some (45,false)),.mov (.t 1)⟩,⟨some 47,(some (45,false)),.ibin .gtr (.t 46) (.c (.int .i64 108))⟩,⟨some 48,none,.pick (.t 45) (.c (.bool true)) (.t 47)⟩,⟨some 49,none,.mov (.t 48)⟩,⟨some 50,(some (49,false)),.mov (.t 8)⟩,⟨some 51,(some (49,false)),.len .sl (.t 50)⟩,⟨some 52,(some (49,false)),.mov (.t 1)⟩,⟨some 53,(some (49,false)),.ibin .mul (.c (.int .i64 2)) (.t 52)⟩,⟨some 54,(some (49,false)),.ibin .leq (.t 51) (.t 53)⟩,⟨some 55,none,.pick (.t 49) (.c (.bool true)) (.t 54)⟩]) (.cond (.t 55) (.seq (.reg [⟨some 56,none,.mov (.t 9)⟩,⟨some 57,none,.eq false .ptr true (.t 56) (.c .nilp)⟩,⟨some 58,none,.mov (.t 57)⟩,⟨some 59,(some (58,true)),.mov (.t 10)⟩,⟨some 60,(some (58,true)),.call (.c (.fn 28 [] [])) [(.t 59)]⟩,⟨some 61,(some (58,true)),.ibin .eql (.t 60) (.c (.int .i64 1))⟩,⟨some 62,none,.pick (.t 58) (.t 61) (.c (.bool false))⟩,⟨some 6,none,.mov (.t 62)⟩]) .ret) .skip)) (.seq (.reg [⟨some 63,none,.mov (.t 8)⟩,⟨some 64,none,.mov (.t 1)⟩,⟨some 65,none,.call (.c (.fn 35 [] [])) [(.t 63),(.t 64)]⟩,⟨some 11,none,.box 5 (.c (.agg [(.str ⟨#[]⟩),(.int .i64 0),(.int .i64 0),.nils,(.int .i64 0)]))⟩,⟨none,none,.store 5 (.t 11) (.t 65)⟩]) (.seq (.seq (.reg [⟨some 66,none,.faddr 1 (.t 11)⟩,⟨some 67,none,.load false 1 (.t 66)⟩,⟨some 68,none,.ibin .gtr (.t 67) (.c (.int .i64 1073741824))⟩]) (.cond (.t 68) (.seq (.reg [⟨some 69,none,.mov (.t 9)⟩,⟨some 70,none,.eq false .ptr true (.t 69) (.c .nilp)⟩,⟨some 71,none,.mov (.t 70)⟩,⟨some 72,(some (71,true)),.mov (.t 10)⟩,⟨some 73,(some (71,true)),.call (.c (.fn 28 [] [])) [(.t 72)]⟩,⟨some 74,(some (71,true)),.ibin .eql (.t 73) (.c (.int .i64 3))⟩,⟨some 75,none,.pick (.t 71) (.t 74) (.c (.bool false))⟩,⟨some 6,none,.mov (.t 75)⟩]) .ret) .skip)) (.seq (.seq (.reg [⟨some 76,none,.mov (.t 10)⟩,⟨some 77,none,.eq true .iface true (.t 76) (.c .nili)⟩,⟨some 78,none,.mov (.t 77)⟩,⟨some 79,(some (78,false)),.mov (.t 9)⟩,⟨some 80,(some (78,false)),.eq false .ptr true (.t 79) (.c .nilp)⟩,⟨some 81,none,.pick (.t 78) (.c (.bool true)) (.t 80)⟩]) (.cond (.t 81) (.seq (.reg [⟨some 6,none,.mov (.c (.bool false))⟩]) .ret) .skip)) (.seq (.reg [⟨some 82,none,.load true 5 (.t 11)⟩,⟨some 83,none,.mov (.t 8)⟩,⟨some 84,none,.mov (.t 1)⟩,⟨some 85,none,.call (.c (.fn 36 [] [])) [(.t 82),(.t 83),(.t 84)]⟩,⟨some 8,none,.mov (.t 85)⟩]) (.seq (.seq (.reg [⟨some 12,none,.mov (.c (.int .i64 0))⟩]) (.block 0 (.loop (.seq (.seq (.reg [⟨some 86,none,.mov (.t 12)⟩,⟨some 87,none,.mov (.t 2)⟩,⟨some 88,none,.len .sl (.t 87)⟩,⟨some 89,none,.ibin .leq (.t 86) (.t 88)⟩]) (.cond (.t 89) .skip (.exit 0))) (.seq (.block 1 (.seq (.seq (.draw [⟨some 92,none,.mov (.t 9)⟩,⟨some 93,none,.call (.c (.fn 32 [] [])) [(.t 92)]⟩,⟨some 94,none,.faddr 0 (.t 11)⟩,⟨some 95,none,.load false 1 (.t 94)⟩,⟨some 96,none,.ibin .neq (.t 93) (.t 95)⟩,⟨some 97,none,.mov (.t 96)⟩,⟨some 98,(some (97,false)),.mov (.t 9)⟩,⟨some 99,(some (97,false)),.call (.c (.fn 34 [] [])) [(.t 98)]⟩,⟨some 100,(some (97,false)),.faddr 3 (.t 11)⟩,⟨some 101,(some (97,false)),.load false 1 (.t 100)⟩,⟨some 102,(some (97,false)),.call (.c (.fn 37 [] [])) [(.t 99),(.t 101)]⟩,⟨some 103,(some (97,false)),.un .not (.t 102)⟩,⟨some 104,none,.pick (.t 97) (.c (.bool true)) (.t 103)⟩,⟨some 105,none,.mov (.t 104)⟩,⟨some 106,(some (105,false)),.mov (.t 9)⟩,⟨some 107,(some (105,false)),.call (.c (.fn 38 [] [])) [(.t 106)]⟩,⟨some 108,(some (105,false)),.faddr 1 (.t 11)⟩,⟨some 109,(some (105,false)),.load false 1 (.t 108)⟩,⟨some 110,(some (105,false)),.faddr 3 (.t 11)⟩,⟨some 111,(some (105,false)),.load false 1 (.t 110)⟩,⟨some 112,(some (105,false)),.len .sl (.t 111)⟩,⟨some 113,(some (105,false)),.ibin .add (.t 109) (.t 112)⟩,⟨some 114,(some (105,false)),.ibin .neq (.t 107) (.t 113)⟩,⟨some 115,none,.pick (.t 105) (.c (.bool true)) (.t 114)⟩,⟨some 116,none,.mov (.t 115)⟩,⟨some 117,(some (116,false)),.mov (.t 7)⟩,⟨some 118,(some (116,false)),.call (.c (.fn 17 [] [])) [(.t 117)]⟩,⟨some 119,(some (116,false)),.mov (.t 8)⟩,⟨some 120,(some (116,false)),.call (.c (.fn 33 [] [])) [(.t 119)]⟩,⟨some 121,(some (116,false)),.ibin .neq (.t 118) (.t 120)⟩,⟨some 122,none,.pick (.t 116) (.c (.bool true)) (.t 121)⟩] [[],[0],[],[2],[1,3,0,2],[4,1,3,0,2],[5,4,1,3,0,2],[6,5,4,1,3,0,2],[5,4,1,3,0,2],[8,5,4,1,3,0,2],[7,9,5,6,4,1,3,0,2,8],[10,5,7,9,6,4,1,3,0,2,8],[5,11,4,1,3,0,2,10,7,9,6,8],[12,10,5,11,4,1,3,0,2,7,9,6,8],[13,12,10,5,11,4,1,3,0,2,7,9,6,8],[14,13,12,10,5,11,4,1,3,0,2,7,9,6,8],[13,12,10,5,11,4,1,3,0,2,7,9,6,8],[16,13,12,10,5,11,4,1,3,0,2,7,9,6,8],[13,12,10,5,11,4,1,3,0,2,7,9,6,8],[18,13,12,10,5,11,4,1,3,0,2,7,9,6,8],[19,13,18,12,10,5,11,4,1,3,0,2,7,9,6,8],[17,20,13,16,12,10,5,11,4,1,3,0,2,7,9,6,8,19,18],[15,21,13,14,12,10,5,11,4,1,3,0,2,7,9,6,8,17,20,16,19,18],[13,22,12,10,5,11,4,1,3,0,2,7,9,6,8,15,21,14,17,20,16,19,18],[23,15,13,22,12,10,5,11,4,1,3,0,2,7,9,6,8,21,14,17,20,16,19,18],[24,23,15,13,22,12,10,5,11,4,1,3,0,2,7,9,6,8,21,14,17,20,16,19,18],[25,24,23,15,13,22,12,10,5,11,4,1,3,0,2,7,9,6,8,21,14,17,20,16,19,18],[24,23,15,13,22,12,10,5,11,4,1,3,0,2,7,9,6,8,21,14,17,20,16,19,18],[27,26,24,23,15,13,22,12,10,5,11,4,1,3,0,2,7,9,6,8,21,14,17,20,16,19,18,25],[26,28,24,25,23,15,13,22,12,10,5,11,4,1,3,0,2,7,9,6,8,21,14,17,20,16,19,18,27],[24,29,23,15,13,22,12,10,5,11,4,1,3,0,2,7,9,6,8,21,14,17,20,16,19,18,26,28,25,27]]) (.cond (.t 122) (.seq (.reg [⟨some 6,none,.mov (.c (.bool false))⟩]) .ret) .skip)) (.seq (.seq (.reg [⟨some 123,none,.mov (.t 12)⟩,⟨some 124,none,.mov (.t 2)⟩,⟨some 125,none,.len .sl (.t 124)⟩,⟨some 126,none,.ibin .eql (.t 123) (.t 125)⟩]) (.cond (.t 126) (.exit 0) .skip)) (.seq (.reg [⟨some 127,none,.mov (.t 2)⟩,⟨some 128,none,.mov (.t 12)⟩,⟨some 129,none,.iaddrSl 1 (.t 127) (.t 128)⟩,⟨some 130,none,.load false 1 (.t 129)⟩,⟨some 13,none,.mov (.t 130)⟩]) (.seq (.seq (.reg [⟨some 131,none,.mov (.t 13)⟩,⟨some 132,none,.len .str (.t 131)⟩,⟨some 133,none,.ibin .gtr (.t 132) (.c (.int .i64 7000))⟩]) (.cond (.t 133) (.seq (.reg [⟨some 6,none,.mov (.c (.bool true))⟩]) .ret) .skip)) (.seq (.seq (.reg [⟨some 134,none,.mov (.t 13)⟩,⟨some 135,none,.len .str (.t 134)⟩,⟨some 136,none,.ibin .gtr (.t 135) (.c (.int .i64 0))⟩,⟨some 137,none,.mov (.t 136)⟩,⟨some 138,(some (137,true)),.mov (.t 13)⟩,⟨some 139,(some (137,true)),.idxStr (.t 138) (.c (.int .i64 0))⟩,⟨some 140,(some (137,true)),.ibin .eql (.t 139) (.c (.int .u8 43))⟩,⟨some 141,none,.pick (.t 137) (.t 140) (.c (.bool false))⟩]) (.cond (.t 141) (.seq (.reg [⟨some 142,none,.mov (.t 9)⟩,⟨some 143,none,.mov (.t 13)⟩,⟨some 144,none,.sliceStr (.t 143) (some (.c (.int .i64 1))) none⟩,⟨some 145,none,.call (.c (.fn 27 [] [])) [(.t 142),(.t 144)]⟩,⟨some 14,none,.mov (.t 145)⟩]) (.seq (.seq (.reg [⟨some 146,none,.mov (.t 13)⟩,⟨some 147,none,.sliceStr (.t 146) (some (.c (.int .i64 1))) none⟩,⟨some 148,none,.call (.c (.fn 21 [] [])) [(.t 147)]⟩,⟨some 149,none,.mov (.t 1)⟩,⟨some 150,none,.ibin .gtr (.t 148) (.t 149)⟩,⟨some 151,none,.mov (.t 150)⟩,⟨some 152,(some (151,false)),.faddr 1 (.t 11)⟩,⟨some 153,(some (151,false)),.load false 1 (.t 152)⟩,⟨some 154,(some (151,false)),.faddr 3 (.t 11)⟩,⟨some 155,(some (151,false)),.load false 1 (.t 154)⟩,⟨some 156,(some (151,false)),.len .sl (.t 155)⟩,⟨some 157,(some (151,false)),.ibin .add (.t 153) (.t 156)⟩,⟨some 158,(some (151,false)),.ibin .geq (.t 157) (.c (.int .i64 1073741824))⟩,⟨some 159,none,.pick (.t 151) (.c (.bool true)) (.t 158)⟩]) (.cond (.t 159) (.seq (.seq (.reg [⟨some 160,none,.mov (.t 14)⟩,⟨some 161,none,.call (.c (.fn 28 [] [])) [(.t 160)]⟩,⟨some 162,none,.ibin .neq (.t 161) (.c (.int .i64 1))⟩]) (.cond (.t 162) (.seq (.reg [⟨some 6,none,.mov (.c (.bool false))⟩]) .ret) .skip)) (.exit 1)) .skip)) (.seq (.seq (.reg [⟨some 163,none,.mov (.t 14)⟩,⟨some 164,none,.eq true .iface true (.t 163) (.c .nili)⟩]) (.cond (.t 164) (.seq (.reg [⟨some 6,none,.mov (.c (.bool false))⟩]) .ret) .skip)) (.seq (.draw [⟨some 165,none,.load true 5 (.t 11)⟩,⟨some 166,none,.mov (.t 8)⟩,⟨some 167,none,.mov (.t 1)⟩,⟨some 168,none,.mov (.t 13)⟩,⟨some 169,none,.sliceStr (.t 168) (some (.c (.int .i64 1))) none⟩,⟨some 170,none,.call (.c (.fn 39 [] [])) [(.t 165),(.t 166),(.t 167),(.t 169)]⟩,⟨some 8,none,.mov (.t 170)⟩] [[],[],[],[],[3],[0,1,2,4,3],[5,0,1,2,3,4]]) (.seq (.reg [⟨some 171,none,.mov (.t 8)⟩,⟨some 172,none,.mov (.t 1)⟩,⟨some 173,none,.call (.c (.fn 35 [] [])) [(.t 171),(.t 172)]⟩,⟨none,none,.store 5 (.t 11) (.t 173)⟩]) (.exit 1)))))) .skip)) (.seq (.reg [⟨some 174,none,.mov (.t 9)⟩,⟨some 175,none,.mov (.t 13)⟩,⟨some 176,none,.call (.c (.fn 29 [] [])) [(.t 174),(.t 175)]⟩,⟨some 15,none,.mov (.t 176)⟩]) (.seq (.reg [⟨some 177,none,.mov (.t 13)⟩,⟨some 178,none,.call (.c (.fn 21 [] [])) [(.t 177)]⟩,⟨some 16,none,.mov (.t 178)⟩]) (.seq (.reg [⟨some 179,none,.mov (.t 13)⟩,⟨some 180,none,.len .str (.t 179)⟩,⟨some 181,none,.ibin .gtr (.t 180) (.c (.int .i64 6000))⟩]) (.cond (.t 181) (.seq (.reg [⟨some 182,none,.mov (.t 15)⟩,⟨some 183,none,.call (.c (.fn 28 [] [])) [(.t 182)]⟩,⟨some 184,none,.ibin .neq (.t 183) (.c (.int .i64 1))⟩]) (.cond (.t 184) (.seq (.reg [⟨some 6,none,.mov (.c (.bool false))⟩]) .ret) .skip)) (.seq (.reg [⟨some 185,none,.mov (.t 16)⟩,⟨some 186,none,.mov (.t 8)⟩,⟨some 187,none,.len .sl (.t 186)⟩,⟨some 188,none,.mov (.t 1)⟩,⟨some 189,none,.ibin .mul (.c (.int .i64 2)) (.t 188)⟩,⟨some 190,none,.ibin .sub (.t 187) (.t 189)⟩,⟨some 191,none,.faddr 4 (.t 11)⟩,⟨some 192,none,.load false 1 (.t 191)⟩,⟨some 193,none,.ibin .sub (.t 190) (.t 192)⟩,⟨some 194,none,.ibin .gtr (.t 185) (.t 193)⟩,⟨some 195,none,.mov (.t 194)⟩,⟨some 196,(some (195,false)),.faddr 1 (.t 11)⟩,⟨some 197,(some (195,false)),.load false 1 (.t 196)⟩,⟨some 198,(some (195,false)),.faddr 3 (.t 11)⟩,⟨some 199,(some (195,false)),.load false 1 (.t 198)⟩,⟨some 200,(some (195,false)),.len .sl (.t 199)⟩,⟨some 201,(some (195,false)),.ibin .add (.t 197) (.t 200)⟩,⟨some 202,(some (195,false)),.ibin .add (.t 201) (.c (.int .i64 1))⟩,⟨some 203,(some (195,false)),.ibin .geq (.t 202) (.c (.int .i64 1073741824))⟩,⟨some 204,none,.pick (.t 195) (.c (.bool true)) (.t 203)⟩]) (.cond (.t 204) (.seq (.reg [⟨some 205,none,.mov (.t 15)⟩,⟨some 206,none,.call (.c (.fn 28 [] [])) [(.t 205)]⟩,⟨some 207,none,.ibin .neq (.t 206) (.c (.int .i64 7))⟩]) (.cond (.t 207) (.seq (.reg [⟨some 6,none,.mov (.c (.bool false))⟩]) .ret) .skip)) (.seq (.seq (.reg [⟨some 208,none,.mov (.t 15)⟩,⟨some 209,none,.eq true .iface true (.t 208) (.c .nili)⟩]) (.cond (.t 209) (.seq (.reg [⟨some 6,none,.mov (.c (.bool false))⟩]) .ret) .skip)) (.seq (.reg [⟨some 211,none,.faddr 1 (.t 11)⟩,⟨some 212,none,.load false 1 (.t 211)⟩,⟨some 213,none,.faddr 3 (.t 11)⟩,⟨some 214,none,.load false 1 (.t 213)⟩,⟨some 215,none,.len .sl (.t 214)⟩,⟨some 216,none,.ibin .add (.t 212) (.t 215)⟩,⟨some 217,none,.ibin .add (.t 216) (.c (.int .i64 1))⟩,⟨some 218,none,.mov (.t 13)⟩,⟨some 219,none,.call (.c (.fn 22 [] [])) [(.t 217),(.t 218)]⟩,⟨some 210,none,.mov (.t 219)⟩,⟨some 220,none,.extract (.t 210) 0⟩,⟨some 221,none,.extract (.t 210) 1⟩,⟨some 17,none,.mov (.t 220)⟩,⟨some 18,none,.mov (.t 221)⟩]) (.seq (.reg [⟨some 222,none,.bslice 1 0 [(.str ⟨#[]⟩)] []⟩,⟨some 223,none,.mov (.t 8)⟩,⟨some 224,none,.mov (.t 1)⟩,⟨some 225,none,.ibin .mul (.c (.int .i64 2)) (.t 224)⟩,⟨some 226,none,.faddr 4 (.t 11)⟩,⟨some 227,none,.load false 1 (.t 226)⟩,⟨some 228,none,.ibin .add (.t 225) (.t 227)⟩,⟨some 229,none,.slice 1 (.t 223) none (some (.t 228)) none⟩,⟨some 230,none,.append 1 16 [(.str ⟨#[]⟩)] (.t 222) (.t 229)⟩,⟨some 19,none,.mov (.t 230)⟩]) (.seq (.reg [⟨some 231,none,.mov (.t 19)⟩,⟨some 232,none,.mov (.t 17)⟩,⟨some 233,none,.append 1 16 [(.str ⟨#[]⟩)] (.t 231) (.t 232)⟩,⟨some 19,none,.mov (.t 233)⟩]) (.seq (.reg [⟨some 234,none,.mov (.t 19)⟩,⟨some 235,none,.mov (.t 8)⟩,⟨some 236,none,.mov (.t 1)⟩,⟨some 237,none,.ibin .mul (.c (.int .i64 2)) (.t 236)⟩,⟨some 238,none,.faddr 4 (.t 11)⟩,⟨some 239,none,.load false 1 (.t 238)⟩,⟨some 240,none,.ibin .add (.t 237) (.t 239)⟩,⟨some 241,none,.mov (.t 16)⟩,⟨some 242,none,.ibin .add (.t 240) (.t 241)⟩,⟨some 243,none,.slice 1 (.t 235) (some (.t 242)) none none⟩,⟨some 244,none,.append 1 16 [(.str ⟨#[]⟩)] (.t 234) (.t 243)⟩,⟨some 8,none,.mov (.t 244)⟩]) (.reg [⟨some 245,none,.mov (.t 8)⟩,⟨some 246,none,.mov (.t 1)⟩,⟨some 247,none,.call (.c (.fn 35 [] [])) [(.t 245),(.t 246)]⟩,⟨none,none,.store 5 (.t 11) (.t 247)⟩])))))))))))))))))) (.reg [⟨some 90,none,.mov (.t 12)⟩,⟨some 91,none,.ibin .add (.t 90) (.c (.int .i64 1))⟩,⟨some 12,none,.mov (.t 91)⟩])))))) (.seq (.reg [⟨some 20,none,.mov (.c .nilp)⟩]) (.seq (.reg [⟨some 249,none,.call (.c (.fn 25 [] [])) [(.c .nilp),(.c (.int .i64 1))]⟩,⟨some 248,none,.mov (.t 249)⟩,⟨some 250,none,.extract (.t 248) 0⟩,⟨some 251,none,.extract (.t 248) 1⟩,⟨some 21,none,.mov (.t 250)⟩,⟨some 22,none,.mov (.t 251)⟩]) (.seq (.reg [⟨some 252,none,.mov (.t 22)⟩,⟨some 253,none,.call (.c (.fn 28 [] [])) [(.t 252)]⟩,⟨some 254,none,.ibin .eql (.t 253) (.c (.int .i64 2))⟩,⟨some 255,none,.mov (.t 254)⟩,⟨some 256,(some (255,true)),.mov (.t 20)⟩,⟨some 257,(some (255,true)),.call (.c (.fn 29 [] [])) [(.t 256),(.c (.str ⟨#[]⟩))]⟩,⟨some 258,(some (255,true)),.call (.c (.fn 28 [] [])) [(.t 257)]⟩,⟨some 259,(some (255,true)),.ibin .eql (.t 258) (.c (.int .i64 2))⟩,⟨some 260,none,.pick (.t 255) (.t 259) (.c (.bool false))⟩,⟨some 261,none,.mov (.t 260)⟩,⟨some 262,(some (261,true)),.mov (.t 20)⟩,⟨some 263,(some (261,true)),.call (.c (.fn 27 [] [])) [(.t 262),(.c (.str ⟨#[]⟩))]⟩,⟨some 264,(some (261,true)),.call (.c (.fn 28 [] [])) [(.t 263)]⟩,⟨some 265,(some (261,true)),.ibin .eql (.t 264) (.c (.int .i64 2))⟩,⟨some 266,none,.pick (.t 261) (.t 265) (.c (.bool false))⟩,⟨some 267,none,.mov (.t 266)⟩,⟨some 268,(some (267,true)),.mov (.t 20)⟩,⟨some 269,(some (267,true)),.call (.c (.fn 32 [] [])) [(.t 268)]⟩,⟨some 270,(some (267,true)),.ibin .eql (.t 269) (.c (.str ⟨#[]⟩))⟩,⟨some 271,none,.pick (.t 267) (.t 270) (.c (.bool false))⟩,⟨some 272,none,.mov (.t 271)⟩,⟨some 273,(some (272,true)),.mov (.t 20)⟩,⟨some 274,(some (272,true)),.call (.c (.fn 34 [] [])) [(.t 273)]⟩,⟨some 275,(some (272,true)),.len .sl (.t 274)⟩,⟨some 276,(some (272,true)),.ibin .eql (.t 275) (.c (.int .i64 0))⟩,⟨some 277,none,.pick (.t 272) (.t 276) (.c (.bool false))⟩,⟨some 278,none,.mov (.t 277)⟩,⟨some 279,(some (278,true)),.mov (.t 20)⟩,⟨some 280,(some (278,true)),.call (.c (.fn 38 [] [])) [(.t 279)]⟩,⟨some 281,(some (278,true)),.ibin .eql (.t 280) (.c (.int .i64 0))⟩,⟨some 282,none,.pick (.t 278) (.t 281) (.c (.bool false))⟩,⟨some 6,none,.mov (.t 282)⟩]) .ret)))))))))))))))⟩
theorem c5 : cFun Tryz.prog [1,0,2,3,4,5,6,7,8,9,10,11,12,13] Tryz.f5 = some F5:=by kernel_rfl
end Go.Proofs.YthapdikdeoeplaaGreatDoor.Z7
end
section
set_option linter.unusedVariables false
set_option linter.unnecessarySimpa false
open Go AH
set_option linter.unusedSimpArgs false
set_option maxRecDepth 100000
namespace Go.Proofs.YthapdikdeoeplaaGreatDoor.Z7
theorem keep_nil (s : ByteArray) : Pure S0 27 [.nilp,.str s] (errA 2):=by
  refine fun_sound okKp Tryz.func27 c27 ?_
  unfold wpF F27
  simp only [AH.SD,AH.SE,AOp.call?,AOp.next?,bstep,AV.cells,unAV,binAV,retQ,retV,AH.sliceElems,AH.bytesOf,AH.strOp,AH.bound,AH.missQ,AH.minmaxAV,AH.readOf,AH.effOf,Nat.reduceBEq,Nat.reduceAdd,Nat.reduceLT,↓reduceIte,Nat.reduceEqDiff,Nat.reduceLeDiff,Nat.reduceSub,Nat.reduceMul,Int.reduceSub,Int.reduceToNat,Int.reduceBEq,Int.reduceBNe,Int.reduceLT,Int.reduceGT,Int.reduceLE,Int.reduceGE,Int.reduceNeg,Int.reduceAdd,AH.SP,AH.PD,AV.inB,vstep,vw,shift,newOnes,rowsM,blkIn,rwB,@flat_lts,AV.lt,AV.lts,Nat.sub_self,AH.SO]
  try trivial
def keepN : RT:=rtP (cC aNil (cC aS c0)) fun _ =>errA 2
theorem keepN_ok : ReadF S0 27 keepN:=rtP_ok (fun x =>keep_nil x.2.1) fun _ =>rfl
theorem keepN_n {s : ByteArray} {M : Nat → Option Blk} : keepN [.nilp,.str s] M = some (errA 2,[]):=by
  simp only [keepN,rtP,cC_dec,aNil_dec,aS_dec,c0_dec,pairO_some,Option.map_some]
theorem keepN_p {p : Nat} {s : ByteArray} {M : Nat → Option Blk} : keepN [.ptr p 0 0,.str s] M = none:=by
  simp only [keepN,rtP,cC_dec,aNil_ptr,pairO_none,Option.map_none]
noncomputable abbrev tSx : List (FuncId × RT):=(23,sawakeT) :: (33,joT) :: (21,rsizeT) :: (17,imgT) :: (28,kindT) :: (27,keepN) :: tSh
noncomputable abbrev eSx : List (FuncId × ET):=(7,ofT) :: (8,partsT) :: (22,rbksT) :: (35,srdE) :: (36,simE) :: (39,skpE') :: eSh
theorem okSx : CtxOK S0 (ctxE S0 tSx [] eSx):=ctxE_ok ⟨sawakeT_ok,joT_ok,rsizeT_ok,imgT_ok,kindT_ok,keepN_ok,tSh_ok⟩ trivial ⟨ofT_ok,partsT_ok,rbksT_ok,srdE_ok,simE_ok,skpE_ok,eSh_ok⟩ mixed
def shR (X : So) : Mem:=[some (.row false 5 [[.slc 2 0 X.g.d.L.length none,.bool X.g.d.away,.int .i64 X.g.d.fuse,.int .i64 X.g.d.torn,.int .i64 X.g.d.writes]]),some (.row false 1 (X.g.d.L.map strC)),
  some (.row false 7 [[.ptr 1 0 0,.int .i64 X.z,.str X.s,.int .i64 X.b,.int .i64 X.a,.ptr 4 0 0,.bool X.down]]),
  some (.row false 7 [[.ptr 1 0 0,.int .i64 X.g.f,.int .i64 X.g.t,.int .i64 X.g.b,.int .i64 X.g.a,.slc 5 0 X.g.R.length none,.bool X.g.down]]),some (.row false 1 (X.g.R.map strC))]
structure SX where
  i : Nat
  P : List ByteArray
  Q : List ByteArray
  B : List ByteArray
  s : ByteArray
  b : Int
  a : Int
  W : List ByteArray
  w : Int
def SX.x (n : Nat) (t : SX) : So:=svX t.P t.Q t.B t.s t.b t.a t.W n t.w
def sxSt (l : List ByteArray) (Z : Nat) (X : So) (u i : Nat) : St:=⟨[(12,.int .i64 i),(11,.ptr 6 0 0),(9,.ptr 3 0 0),(8,.slc 8 0 X.g.d.L.length none),(7,.ptr 1 0 0),(2,.slc 0 0 l.length none),(1,.int .i64 Z)],
  some (.row true 1 (l.map strC)) :: (shR X ++ [some (.row false 5 [[.str X.s,.int .i64 X.b,.int .i64 X.a,.slc 7 0 X.g.R.length none,.int .i64 u]]),some (.row false 1 (X.g.R.map strC)),some (.row false 1 (X.g.d.L.map strC))])⟩
theorem sm_e2 {A W : List ByteArray} (e : A = W) (h : A.length ≤ 1048576) (n1 n2 i j : Nat) (r1 r2 : Bool) (h1 : n1 = A.length) (h2 : n2 = W.length) : rt2Q 1 1 cStr cStr (fun L1 L2 (_ : Unit) => .bool (decide (L1 = L2))) n1 i n2 j (some (.row r1 1 (A.map strC))) (some (.row r2 1 (W.map strC))) (some ()) = some (.bool true,[i,j]):=by
  subst e
  rw [saQ_eq h1 h2 h h]
  simp
theorem rowE8 {a b c d e f g h : Option Blk} {ro : Bool} {k : Nat} {es : List (List AV)} {r : Mem} : rowE (mget (a :: b :: c :: d :: e :: f :: g :: h :: some (.row ro k es) :: r)) 8 = some (k,es):=by cases r <;> rfl
structure SxF (X : So) (n Z u : Nat) : Prop where
  ok : X.ok
  gok : X.g.ok
  dok : X.g.d.ok
  rl : X.g.R.length ≤ 1048576
  jo : ∀ (m : Mem),rowE (mget m) 8 = some (1,X.g.d.L.map strC) → joT [.slc 8 0 X.g.d.L.length none] (mget m) = some (.str (catS X.g.d.L),[8])
  w1 : IntKind.i64.wrap (X.b + (X.g.R.length : Int)) = X.seq
  w2 : IntKind.i64.wrap (X.seq + 1) = X.seq + 1
  eta : (⟨X.g.d,X.g.f,X.g.t,X.g.b,X.g.a,X.g.R,false⟩ : Lg) = X.g
  dl : X.g.d.L.length = 2 * Z + n
  rd : srdA X.g.d.L Z = .agg [.str X.s,.int .i64 X.b,.int .i64 X.a,.slc 1 0 X.g.R.length none,.int .i64 u]
  rm : srdM X.g.d.L Z = [some (.row true 1 (X.g.d.L.map strC)),some (.row false 1 (X.g.R.map strC))]
  sq : X.seq = X.b + (X.g.R.length : Int)
theorem svI.sxf {P Q B : List ByteArray} {s : ByteArray} {b a : Int} {W : List ByteArray} {n Z : Nat} (h : svI P Q B s b a W n Z) (w : Int) : SxF (svX P Q B s b a W n w) n Z B.length:=by
  have hb:=h.base
  have k1:=hb.1
  have k2:=hb.2
  have k3:=h.wl
  have k4:=h.fl
  have k5:=h.n2
  have k6:=h.z2
  have hL : (svX P Q B s b a W n w).g.d.L = lgL (P ++ Q) B [] n:=rfl
  have hj : okJ (lgL (P ++ Q) B [] n):=⟨fun x hx =>by rw [h.sz x hx]; decide,by rw [h.dlen]; omega⟩
  obtain ⟨r1,r2,r3⟩:=h.read
  have r4 : rsO (lgL (P ++ Q) B [] n) Z = (W,B.length):=by
    unfold rsO
    rw [r1]
    refine r3 _ ?_
    rw [r2]; simp; omega
  refine ⟨h.ok,h.gok,h.dok,by show W.length ≤ _; omega,?_,?_,?_,rfl,by rw [hL]; exact h.dlen,?_,?_,rfl⟩
  · intro m hm
    rw [hL] at hm ⊢
    exact joT_eq (cap:=none) (ix:=0) hm (by rw [List.drop_zero,List.take_of_length_le (by rw [List.length_map]; exact Nat.le_refl _)]) (by rw [List.length_map]; omega) hj
  · show IntKind.i64.wrap (b + (W.length : Int)) = b + (W.length : Int)
    rw [IntKind.wrap_i64]; omega
  · show IntKind.i64.wrap (b + (W.length : Int) + 1) = b + (W.length : Int) + 1
    rw [IntKind.wrap_i64]; omega
  · rw [hL]; unfold srdA; rw [r1,r4]; rfl
  · rw [hL]; unfold srdM; rw [r4]; rfl
end Go.Proofs.YthapdikdeoeplaaGreatDoor.Z7
end
section
set_option linter.unusedVariables false
set_option linter.unnecessarySimpa false
open Go AH
set_option linter.unusedSimpArgs false
set_option maxRecDepth 100000
namespace Go.Proofs.YthapdikdeoeplaaGreatDoor.Z7
def sxI (l : List ByteArray) (n Z : Nat) (t : SX) : Prop:=t.i ≤ l.length ∧ svI t.P t.Q t.B t.s t.b t.a t.W n Z
theorem sx_kp {P Q B P' Q' : List ByteArray} {s y : ByteArray} {b a : Int} {W : List ByteArray} {n Z : Nat} {w w' : Int} (hI : svI P Q B s b a W n Z) (g1 : sizeN y.size ≤ Z)
    (hch : (a = 0 ∧ P' = P ∧ Q' = arL (b + (W.length : Int) + 1) y Z) ∨ (a ≠ 0 ∧ P' = arL (b + (W.length : Int) + 1) y Z ∧ Q' = Q)) :
    skpL (⟨(svX P Q B s b a W n w).s,(svX P Q B s b a W n w).b,(svX P Q B s b a W n w).a,(B.length : Int),(svX P Q B s b a W n w).g.R,(svX P Q B s b a W n w).g.d.L⟩,(Z : Int),y,()) = (svX P' Q' [] y (b + (W.length : Int) + 1) (if a = 0 then 1 else 0) [] n w').g.d.L:=by
  have hL : (svX P Q B s b a W n w).g.d.L = lgL (P ++ Q) B [] n:=rfl
  have hL' : (svX P' Q' [] y (b + (W.length : Int) + 1) (if a = 0 then 1 else 0) [] n w').g.d.L = lgL (P' ++ Q') [] [] n:=rfl
  have hbl:=blkL_len (b + (W.length : Int) + 1) y (sizeN y.size)
  have e0 : (lgL (P ++ Q) B [] n).take Z = P:=by rw [lgL,List.append_assoc,← hI.p,List.take_left]
  have e1 : ((lgL (P ++ Q) B [] n).drop Z).take Z = Q:=by
    rw [lgL,List.append_assoc,← hI.p,List.drop_left,hI.p,← hI.q,List.take_left]
  rw [hL,hL']
  show kpL (Z : Int).toNat (if a = 0 then 1 else 0) (blkL (b + (W.length : Int) + 1) y (sizeN y.size)) (lgL (P ++ Q) B [] n) (lgL (P ++ Q) B [] n).length = _
  rw [Int.toNat_natCast]
  rcases hch with ⟨ha,rfl,rfl⟩ | ⟨ha,rfl,rfl⟩
  · rw [if_pos ha,kp_1 (by omega) (by rw [hI.dlen]; omega),e0,hI.dlen,hbl,Nat.add_sub_cancel_left]
    simp [lgL,arL]
  · rw [if_neg ha,kp_0 (by omega) (by rw [hI.dlen]; omega),e1,hI.dlen,hbl,Nat.add_sub_cancel_left]
    simp [lgL,arL]
theorem sx_ko {P Q B : List ByteArray} {s y : ByteArray} {b a : Int} {W : List ByteArray} {n Z : Nat} {w : Int} (hI : svI P Q B s b a W n Z) (g1 : sizeN y.size ≤ Z) (g2 : b + (W.length : Int) < 1073741824) :
    skpC (⟨(svX P Q B s b a W n w).s,(svX P Q B s b a W n w).b,(svX P Q B s b a W n w).a,(B.length : Int),(svX P Q B s b a W n w).g.R,(svX P Q B s b a W n w).g.d.L⟩,(Z : Int),y,()):=by
  have hL : (svX P Q B s b a W n w).g.d.L = lgL (P ++ Q) B [] n:=rfl
  have hb:=hI.base.1
  have h1:=hI.z2
  have h2:=hI.n2
  have h3:=hI.wl
  have h4:=hI.fl
  refine ⟨by simp only; omega,?_⟩
  show skI _ (Z : Int).toNat y
  rw [Int.toNat_natCast]
  refine ⟨⟨by show 1 ≤ b + (W.length : Int) + 1; omega,by show b + (W.length : Int) + 1 ≤ 2147483647; omega,by show y.size ≤ 6000; unfold sizeN at g1; omega⟩,g1,?_,?_,by show W.length ≤ 4096; omega⟩
  · show 2 * Z ≤ (lgL (P ++ Q) B [] n).length; rw [hI.dlen]; omega
  · show (lgL (P ++ Q) B [] n).length ≤ 4096; rw [hI.dlen]; omega
theorem sx_cat {P Q B Bk : List ByteArray} {s : ByteArray} {b a : Int} {W W' : List ByteArray} {n Z k : Nat} {w w' : Int} (hI : svI P Q B s b a W n Z) (hk : Bk.length = k) :
    (svX P Q B s b a W n w).g.d.L.take (2 * Z + B.length) ++ Bk ++ (svX P Q B s b a W n w).g.d.L.drop (2 * Z + B.length + k) = (svX P Q (B ++ Bk) s b a W' n w').g.d.L:=by
  have hL : (svX P Q B s b a W n w).g.d.L = (P ++ Q) ++ (B ++ List.replicate (n - B.length) zeB):=by show lgL (P ++ Q) B [] n = _; simp [lgL]
  have hL' : (svX P Q (B ++ Bk) s b a W' n w').g.d.L = (P ++ Q) ++ (B ++ (Bk ++ List.replicate (n - (B.length + k)) zeB)):=by show lgL (P ++ Q) (B ++ Bk) [] n = _; simp [lgL,hk]
  rw [hL,hL',← hI.len,List.take_length_add_append,List.take_left,Nat.add_assoc,List.drop_length_add_append,List.drop_length_add_append,List.drop_replicate]
  simp [Nat.sub_sub]
theorem svI_seq {P Q B : List ByteArray} {s : ByteArray} {b a : Int} {W : List ByteArray} {n : Nat} {w : Int} : (svX P Q B s b a W n w).seq = b + (W.length : Int):=rfl
set_option maxHeartbeats 16000000 in
theorem sx_loop (l : List ByteArray) (n Z : Nat) (hl12 : l.length ≤ 12) (x0 : SX) (hx0 : sxI l n Z x0) {Q0 : Exit → St → Prop} {st : St} {base : Nat} (hbase : base = 1)
    (h0 : (heads 1 0 [0,1,2,4,5,6,8,7,9] = true ∧ distN [0,1,2,4,5,6,8,7,9] = true) ∧ packB [0,1,2,4,5,6,8,7,9] st.mem [0,1,2,4,5,6,8,7,9] = true ∧ liveB [0,1,2,4,5,6,8,7,9] st.tm [12,11,9,8,7,2,1] = true ∧ wpV (fun s =>s = sxSt l Z (x0.x n) x0.B.length x0.i) [] (some ⟨packTm [0,1,2,4,5,6,8,7,9] st.tm [12,11,9,8,7,2,1],packM [0,1,2,4,5,6,8,7,9] st.mem [0,1,2,4,5,6,8,7,9]⟩))
    (hR : ∀ s : St,tget s.tm 6 = .bool true → Q0 .ret s) (hE : ∀ s : St,Q0 (.exit 0) s) :
    wpA { call:=(ctxE S0 tSx [] eSx).call,read:=(ctxE S0 tSx [] eSx).read,eff:=(ctxE S0 tSx [] eSx).eff,base:=base } (F5.body.at [true,true,true,true,true,true,true,true,true,true,true,false,true,true]) Q0 st:=by
  subst hbase
  unfold F5
  simp only [ACode.at]
  refine loop_do [0,1,2,4,5,6,8,7,9] [12,11,9,8,7,2,1] [] (α:=SX) (fun t =>l.length - t.i) (fun t =>sxSt l Z (t.x n) t.B.length t.i) (sxI l n Z) x0 hx0 h0 ?_
  clear h0 hx0 x0
  rintro Y ⟨i,P,Q,B,s,b,a,W,w⟩ ⟨hi,hI⟩ ih
  simp only at hi hI
  have hx : (SX.mk i P Q B s b a W w).x n = svX P Q B s b a W n w:=rfl
  have F:=hI.sxf w
  simp only [AH.SD,AH.SE,AOp.call?,AOp.next?,bstep,AV.cells,unAV,binAV,retQ,retV,AH.sliceElems,AH.bytesOf,AH.strOp,AH.bound,AH.missQ,AH.minmaxAV,AH.readOf,AH.effOf,simprocAttr,AH.SP,AH.PD,AV.inB,vstep,vw,shift,newOnes,rowsM,blkIn,rwB,@flat_lts,AV.lt,AV.lts,Nat.sub_self,AH.SO,sxSt,shR]
  rw [hx]
  have rest:=fun (B' : List ByteArray) (P' Q' : List ByteArray) (s' : ByteArray) (b' a' : Int) (W' : List ByteArray) (w' : Int) (hi' : i + 1 ≤ l.length) (h' : svI P' Q' B' s' b' a' W' n Z) =>ih ⟨i + 1,P',Q',B',s',b',a',W',w'⟩ ⟨hi',h'⟩ (by simp only; omega)
  simp only [SX.x] at rest
  have same:=fun hi' =>rest B P Q s b a W w hi' hI
  refine ⟨fun hle => ?_,fun hle => ?_⟩
  rotate_left
  · exact hE _
  have sq:=sm_e2 (A:=(svX P Q B s b a W n w).g.R) rfl F.rl
  by_cases hil : i < l.length
  rotate_left
  · have hie : i = l.length:=by omega
    clear same rest ih hx hI
    generalize svX P Q B s b a W n w = X at *
    subst hie
    simp only [AH.SD,AH.SE,AOp.call?,AOp.next?,bstep,AV.cells,unAV,binAV,retQ,retV,AH.sliceElems,AH.bytesOf,AH.strOp,AH.bound,AH.missQ,AH.minmaxAV,AH.readOf,AH.effOf,simprocAttr,AH.SP,AH.PD,AV.inB,vstep,vw,shift,newOnes,rowsM,blkIn,rwB,@flat_lts,AV.lt,AV.lts,Nat.sub_self,AH.SO,stateT_p,lgR_eq,lgU_eq,Lg.eta,ne4,no4,soR_eq,soS_eq,So.eta,Bool.not_false,Bool.and_self,if_true,dkR_eq,dkB_eq,Dk.eta,ne_eq,Nat.reduceEqDiff,Nat.zero_ne_one,not_false_eq_true,tl_self,Bool.not_true,srecN_p,srecT_p,F.rl,soM,saT_p,sq,seqT_p,F.gok,F.w1,F.sq,beq_self_eq_true,bne_self_eq_false,imgT_p,F.dok,F.jo _ rowE8,F.eta,List.cons_append,List.nil_append]
    repeat ((with_reducible refine And.intro ?_ ?_); focus (first | rfl | decide | omega | (simp only [List.length_map,List.length_set,and_true]; omega)))
    try simp only [AH.SD,AH.SE,AOp.call?,AOp.next?,bstep,AV.cells,unAV,binAV,retQ,retV,AH.sliceElems,AH.bytesOf,AH.strOp,AH.bound,AH.missQ,AH.minmaxAV,AH.readOf,AH.effOf,simprocAttr,AH.SP,AH.PD,AV.inB,vstep,vw,shift,newOnes,rowsM,blkIn,rwB,@flat_lts,AV.lt,AV.lts,Nat.sub_self,AH.SO]
    repeat ((with_reducible refine And.intro ?_ ?_); focus (first | rfl | decide | omega | (simp only [List.length_map,List.length_set,and_true]; omega)))
    exact hE _
  have hgi : (l.map strC).getD i [] = strC l[i]:=getD_enc hil
  have hin : ((i : Int) == (l.length : Int)) = false:=by simp only [beq_eq_false_iff_ne]; omega
  have wi:=wrapS (i:=i) (by omega)
  generalize l[i] = y at *
  clear hle
  cases h7 : decide ((y.size : Int) > 7000)
  rotate_left
  · clear same rest ih hx hI
    generalize svX P Q B s b a W n w = X at *
    simp only [AH.SD,AH.SE,AOp.call?,AOp.next?,bstep,AV.cells,unAV,binAV,retQ,retV,AH.sliceElems,AH.bytesOf,AH.strOp,AH.bound,AH.missQ,AH.minmaxAV,AH.readOf,AH.effOf,simprocAttr,AH.SP,AH.PD,AV.inB,vstep,vw,shift,newOnes,rowsM,blkIn,rwB,@flat_lts,AV.lt,AV.lts,Nat.sub_self,AH.SO,stateT_p,lgR_eq,lgU_eq,Lg.eta,ne4,no4,soR_eq,soS_eq,So.eta,Bool.not_false,Bool.and_self,if_true,dkR_eq,dkB_eq,Dk.eta,ne_eq,Nat.reduceEqDiff,Nat.zero_ne_one,not_false_eq_true,tl_self,Bool.not_true,srecN_p,srecT_p,F.rl,soM,saT_p,sq,seqT_p,F.gok,F.w1,F.sq,beq_self_eq_true,bne_self_eq_false,imgT_p,F.dok,F.jo _ rowE8,F.eta,List.cons_append,List.nil_append,hin,hgi,strC_eq,wi,Int.toNat_natCast,List.length_map,h7]
    repeat ((with_reducible refine And.intro ?_ ?_); focus (first | rfl | decide | omega | (simp only [List.length_map,List.length_set,and_true]; omega)))
    try simp only [AH.SD,AH.SE,AOp.call?,AOp.next?,bstep,AV.cells,unAV,binAV,retQ,retV,AH.sliceElems,AH.bytesOf,AH.strOp,AH.bound,AH.missQ,AH.minmaxAV,AH.readOf,AH.effOf,simprocAttr,AH.SP,AH.PD,AV.inB,vstep,vw,shift,newOnes,rowsM,blkIn,rwB,@flat_lts,AV.lt,AV.lts,Nat.sub_self,AH.SO,stateT_p,lgR_eq,lgU_eq,Lg.eta,ne4,no4,soR_eq,soS_eq,So.eta,Bool.not_false,Bool.and_self,if_true,dkR_eq,dkB_eq,Dk.eta,ne_eq,Nat.reduceEqDiff,Nat.zero_ne_one,not_false_eq_true,tl_self,Bool.not_true,srecN_p,srecT_p,F.rl,soM,saT_p,sq,seqT_p,F.gok,F.w1,F.sq,beq_self_eq_true,bne_self_eq_false,imgT_p,F.dok,F.jo _ rowE8,F.eta,List.cons_append,List.nil_append,hin,hgi,strC_eq,wi,Int.toNat_natCast,List.length_map,h7]
    repeat ((with_reducible refine And.intro ?_ ?_); focus (first | rfl | decide | omega | (simp only [List.length_map,List.length_set,and_true]; omega)))
    try simp only [AH.SD,AH.SE,AOp.call?,AOp.next?,bstep,AV.cells,unAV,binAV,retQ,retV,AH.sliceElems,AH.bytesOf,AH.strOp,AH.bound,AH.missQ,AH.minmaxAV,AH.readOf,AH.effOf,simprocAttr,AH.SP,AH.PD,AV.inB,vstep,vw,shift,newOnes,rowsM,blkIn,rwB,@flat_lts,AV.lt,AV.lts,Nat.sub_self,AH.SO,stateT_p,lgR_eq,lgU_eq,Lg.eta,ne4,no4,soR_eq,soS_eq,So.eta,Bool.not_false,Bool.and_self,if_true,dkR_eq,dkB_eq,Dk.eta,ne_eq,Nat.reduceEqDiff,Nat.zero_ne_one,not_false_eq_true,tl_self,Bool.not_true,srecN_p,srecT_p,F.rl,soM,saT_p,sq,seqT_p,F.gok,F.w1,F.sq,beq_self_eq_true,bne_self_eq_false,imgT_p,F.dok,F.jo _ rowE8,F.eta,List.cons_append,List.nil_append,hin,hgi,strC_eq,wi,Int.toNat_natCast,List.length_map,h7]
    exact hR _ rfl
  have hs7 : y.size ≤ 7000:=by simp only [decide_eq_false_iff_not] at h7; omega
  have hsz : okSz y:=okSz_of hs7
  by_cases hp : 0 < y.size ∧ ((y.data.toList.getD 0 0).toNat : Int) = 43
  · have p1 : decide ((y.size : Int) > 0) = true:=decide_eq_true (by omega)
    have p2 : (((y.data.toList.getD 0 0).toNat : Int) == 43) = true:=by simpa using hp.2
    have hy1 : okSz (y.extract 1 y.size):=okSz_of (by rw [ByteArray.size_extract]; omega)
    have hp0:=hp.1
    clear hp
    generalize hye : y.extract 1 y.size = y1 at *
    by_cases hr : sizeN y1.size > Z ∨ b + (W.length : Int) ≥ 1073741824
    · have k1:=hI.keep1 (w:=w) hr
      have same:=same hil
      have m1 : keepM (svX P Q B s b a W n w) y1 = soM (svX P Q B s b a W n w):=by unfold keepM; rw [k1]; rfl
      have hr' : decide ((sizeN y1.size : Int) > (Z : Int)) = true ∨ (decide ((sizeN y1.size : Int) > (Z : Int)) = false ∧ decide ((svX P Q B s b a W n w).seq ≥ 1073741824) = true):=by
        by_cases h : sizeN y1.size > Z
        · exact .inl (decide_eq_true (by omega))
        · refine .inr ⟨decide_eq_false (by omega),decide_eq_true ?_⟩
          rw [svI_seq]; exact hr.resolve_left h
      simp only [sxSt,shR] at same
      clear rest ih hx hI hr
      generalize svX P Q B s b a W n w = X at *
      rcases hr' with d1 | ⟨d1,d2⟩
      · iterate 4 ((try simp only [AH.SD,AH.SE,AOp.call?,AOp.next?,bstep,AV.cells,unAV,binAV,retQ,retV,AH.sliceElems,AH.bytesOf,AH.strOp,AH.bound,AH.missQ,AH.minmaxAV,AH.readOf,AH.effOf,simprocAttr,AH.SP,AH.PD,AV.inB,vstep,vw,shift,newOnes,rowsM,blkIn,rwB,@flat_lts,AV.lt,AV.lts,Nat.sub_self,AH.SO,stateT_p,lgR_eq,lgU_eq,Lg.eta,ne4,no4,soR_eq,soS_eq,So.eta,Bool.not_false,Bool.and_self,if_true,dkR_eq,dkB_eq,Dk.eta,ne_eq,Nat.reduceEqDiff,Nat.zero_ne_one,not_false_eq_true,tl_self,Bool.not_true,srecN_p,srecT_p,F.rl,soM,saT_p,sq,seqT_p,F.gok,F.w1,F.sq,beq_self_eq_true,bne_self_eq_false,imgT_p,F.dok,F.jo _ rowE8,F.eta,List.cons_append,List.nil_append,hin,hgi,strC_eq,wi,Int.toNat_natCast,List.length_map,h7,p1,p2,hye,keepN_p,keepT_p,F.ok,hy1,and_self,errA_ren,errA_nil,errA0,kindT_err,show (1 : Nat) ≤ 14 by decide,rsizeT_p hy1,k1,m1,d1]); repeat ((with_reducible refine And.intro ?_ ?_); focus (first | rfl | decide | omega | (simp only [List.length_map,List.length_set,and_true]; omega))))
        refine gc_auto [0,1,2,3,4,5,6,7,8] [12,11,9,8,7,2,1] [] ?_
        simp only [AH.SD,AH.SE,AOp.call?,AOp.next?,bstep,AV.cells,unAV,binAV,retQ,retV,AH.sliceElems,AH.bytesOf,AH.strOp,AH.bound,AH.missQ,AH.minmaxAV,AH.readOf,AH.effOf,simprocAttr,AH.SP,AH.PD,AV.inB,vstep]
        exact same
      · rw [F.sq] at d2
        iterate 4 ((try simp only [AH.SD,AH.SE,AOp.call?,AOp.next?,bstep,AV.cells,unAV,binAV,retQ,retV,AH.sliceElems,AH.bytesOf,AH.strOp,AH.bound,AH.missQ,AH.minmaxAV,AH.readOf,AH.effOf,simprocAttr,AH.SP,AH.PD,AV.inB,vstep,vw,shift,newOnes,rowsM,blkIn,rwB,@flat_lts,AV.lt,AV.lts,Nat.sub_self,AH.SO,stateT_p,lgR_eq,lgU_eq,Lg.eta,ne4,no4,soR_eq,soS_eq,So.eta,Bool.not_false,Bool.and_self,if_true,dkR_eq,dkB_eq,Dk.eta,ne_eq,Nat.reduceEqDiff,Nat.zero_ne_one,not_false_eq_true,tl_self,Bool.not_true,srecN_p,srecT_p,F.rl,soM,saT_p,sq,seqT_p,F.gok,F.w1,F.sq,beq_self_eq_true,bne_self_eq_false,imgT_p,F.dok,F.jo _ rowE8,F.eta,List.cons_append,List.nil_append,hin,hgi,strC_eq,wi,Int.toNat_natCast,List.length_map,h7,p1,p2,hye,keepN_p,keepT_p,F.ok,hy1,and_self,errA_ren,errA_nil,errA0,kindT_err,show (1 : Nat) ≤ 14 by decide,rsizeT_p hy1,k1,m1,d1,d2]); repeat ((with_reducible refine And.intro ?_ ?_); focus (first | rfl | decide | omega | (simp only [List.length_map,List.length_set,and_true]; omega))))
        refine gc_auto [0,1,2,3,4,5,6,7,8] [12,11,9,8,7,2,1] [] ?_
        simp only [AH.SD,AH.SE,AOp.call?,AOp.next?,bstep,AV.cells,unAV,binAV,retQ,retV,AH.sliceElems,AH.bytesOf,AH.strOp,AH.bound,AH.missQ,AH.minmaxAV,AH.readOf,AH.effOf,simprocAttr,AH.SP,AH.PD,AV.inB,vstep]
        exact same
    · have g1 : sizeN y1.size ≤ Z:=by omega
      have g2 : b + (W.length : Int) < 1073741824:=by omega
      obtain ⟨P',Q',w',k1,hI',hch⟩:=hI.keep (w:=w) g1 g2
      have F':=hI'.sxf w'
      have nx:=rest [] P' Q' y1 (b + (W.length : Int) + 1) (if a = 0 then 1 else 0) [] w' hil hI'
      have d1 : decide ((sizeN y1.size : Int) > (Z : Int)) = false:=decide_eq_false (by omega)
      have d2 : decide ((svX P Q B s b a W n w).b + ((svX P Q B s b a W n w).g.R.length : Int) ≥ 1073741824) = false:=decide_eq_false (by show ¬ b + (W.length : Int) ≥ 1073741824; omega)
      have eX : ∀ k,(svX P' Q' k y1 (b + (W.length : Int) + 1) (if a = 0 then 1 else 0) [] n w').g.R = []:=fun _ =>rfl
      have hb:=hI.base
      have kp : skpL (⟨(svX P Q B s b a W n w).s,(svX P Q B s b a W n w).b,(svX P Q B s b a W n w).a,(B.length : Int),(svX P Q B s b a W n w).g.R,(svX P Q B s b a W n w).g.d.L⟩,(Z : Int),y1,()) = (svX P' Q' [] y1 (b + (W.length : Int) + 1) (if a = 0 then 1 else 0) [] n w').g.d.L:=sx_kp hI g1 hch
      have ko : skpC (⟨(svX P Q B s b a W n w).s,(svX P Q B s b a W n w).b,(svX P Q B s b a W n w).a,(B.length : Int),(svX P Q B s b a W n w).g.R,(svX P Q B s b a W n w).g.d.L⟩,(Z : Int),y1,()):=sx_ko hI g1 g2
      have m1 : keepM (svX P Q B s b a W n w) y1 = soM2 (some (.row false 1 ((svX P Q B s b a W n w).g.R.map strC))) (svX P' Q' [] y1 (b + (W.length : Int) + 1) (if a = 0 then 1 else 0) [] n w'):=by unfold keepM; rw [k1]; rfl
      have hlen : (svX P Q B s b a W n w).g.d.L.length = 2 * Z + n:=F.dl
      simp only [sxSt,shR] at nx
      have hz:=hI.z
      have hz2:=hI.z2
      have hn2:=hI.n2
      clear same rest ih hx hI hr hI' hch
      generalize svX P Q B s b a W n w = X at *
      generalize svX P' Q' [] y1 (b + (W.length : Int) + 1) (if a = 0 then 1 else 0) [] n w' = X' at *
      have c1 : (0 : Nat) = 0 ∧ 2 * Z + n = 2 * Z + n ∧ 1 ≤ (Z : Int) ∧ 2 * (Z : Int) ≤ ((2 * Z + n : Nat) : Int) ∧ 2 * Z + n ≤ 4096:=⟨rfl,rfl,by omega,by omega,by omega⟩
      simp only [AH.SD,AH.SE,AOp.call?,AOp.next?,bstep,AV.cells,unAV,binAV,retQ,retV,AH.sliceElems,AH.bytesOf,AH.strOp,AH.bound,AH.missQ,AH.minmaxAV,AH.readOf,AH.effOf,simprocAttr,AH.SP,AH.PD,AV.inB,vstep,vw,shift,newOnes,rowsM,blkIn,rwB,@flat_lts,AV.lt,AV.lts,Nat.sub_self,AH.SO,stateT_p,lgR_eq,lgU_eq,Lg.eta,ne4,no4,soR_eq,soS_eq,So.eta,Bool.not_false,Bool.and_self,if_true,dkR_eq,dkB_eq,Dk.eta,ne_eq,Nat.reduceEqDiff,Nat.zero_ne_one,not_false_eq_true,tl_self,Bool.not_true,srecN_p,srecT_p,F.rl,soM,saT_p,sq,seqT_p,F.gok,F.w1,F.sq,beq_self_eq_true,bne_self_eq_false,imgT_p,F.dok,F.jo _ rowE8,F.eta,List.cons_append,List.nil_append,hin,hgi,strC_eq,wi,Int.toNat_natCast,List.length_map,h7,p1,p2,hye,keepN_p,keepT_p,F.ok,hy1,and_self,errA_ren,errA_nil,errA0,kindT_err,show (1 : Nat) ≤ 14 by decide,rsizeT_p hy1,k1,m1,d1,d2,soM2]
      repeat ((with_reducible refine And.intro ?_ ?_); focus (first | rfl | decide | omega | (simp only [List.length_map,List.length_set,and_true]; omega)))
      iterate 4 ((try simp only [AH.SD,AH.SE,AOp.call?,AOp.next?,bstep,AV.cells,unAV,binAV,retQ,retV,AH.sliceElems,AH.bytesOf,AH.strOp,AH.bound,AH.missQ,AH.minmaxAV,AH.readOf,AH.effOf,simprocAttr,AH.SP,AH.PD,AV.inB,vstep,vw,shift,newOnes,rowsM,blkIn,rwB,@flat_lts,AV.lt,AV.lts,Nat.sub_self,AH.SO,stateT_p,lgR_eq,lgU_eq,Lg.eta,ne4,no4,soR_eq,soS_eq,So.eta,Bool.not_false,Bool.and_self,if_true,dkR_eq,dkB_eq,Dk.eta,ne_eq,Nat.reduceEqDiff,Nat.zero_ne_one,not_false_eq_true,tl_self,Bool.not_true,srecN_p,srecT_p,F.rl,soM,saT_p,sq,seqT_p,F.gok,F.w1,F.sq,beq_self_eq_true,bne_self_eq_false,imgT_p,F.dok,F.jo _ rowE8,F.eta,List.cons_append,List.nil_append,hin,hgi,strC_eq,wi,Int.toNat_natCast,List.length_map,h7,p1,p2,hye,keepN_p,keepT_p,F.ok,hy1,and_self,errA_ren,errA_nil,errA0,kindT_err,show (1 : Nat) ≤ 14 by decide,rsizeT_p hy1,k1,m1,d1,d2,soM2,etL2_some,skpE_p,siS_eq2,kp,ko,siM,srdE_p,syR_s,hlen,F'.dl,c1,F'.rd,F'.rm,List.length_map]); repeat ((with_reducible refine And.intro ?_ ?_); focus (first | rfl | decide | omega | (simp only [List.length_map,List.length_set,and_true]; omega))))
      simp only [F'.dl,List.length_nil,Int.natCast_zero,Int.ofNat_zero] at nx
      refine gc_auto [0,1,2,3,4,10,6,12,11] [12,11,9,8,7,2,1] [] ?_
      simp only [AH.SD,AH.SE,AOp.call?,AOp.next?,bstep,AV.cells,unAV,binAV,retQ,retV,AH.sliceElems,AH.bytesOf,AH.strOp,AH.bound,AH.missQ,AH.minmaxAV,AH.readOf,AH.effOf,simprocAttr,AH.SP,AH.PD,AV.inB,vstep]
      exact nx
  have hpw : decide ((y.size : Int) > 0) = false ∨ (decide ((y.size : Int) > 0) = true ∧ (((y.data.toList.getD 0 0).toNat : Int) == 43) = false ∧ 0 < y.size):=by
    by_cases h : 0 < y.size
    · refine .inr ⟨decide_eq_true (by omega),?_,h⟩
      simp only [beq_eq_false_iff_ne]; exact fun q =>hp ⟨h,q⟩
    · exact .inl (decide_eq_false (by omega))
  clear hp
  have same:=same hil
  simp only [sxSt,shR] at same
  by_cases h6 : y.size ≤ 6000
  rotate_left
  · obtain ⟨k1,k2⟩:=hI.add1 (w:=w) h6
    have d6 : decide ((y.size : Int) > 6000) = true:=decide_eq_true (by omega)
    have m1 : sadM (svX P Q B s b a W n w) y = soM (svX P Q B s b a W n w):=by unfold sadM; rw [k1,k2]; rfl
    clear rest ih hx hI
    generalize svX P Q B s b a W n w = X at *
    rcases hpw with p1 | ⟨p1,p2,p3⟩
    · iterate 4 ((try simp only [AH.SD,AH.SE,AOp.call?,AOp.next?,bstep,AV.cells,unAV,binAV,retQ,retV,AH.sliceElems,AH.bytesOf,AH.strOp,AH.bound,AH.missQ,AH.minmaxAV,AH.readOf,AH.effOf,simprocAttr,AH.SP,AH.PD,AV.inB,vstep,vw,shift,newOnes,rowsM,blkIn,rwB,@flat_lts,AV.lt,AV.lts,Nat.sub_self,AH.SO,stateT_p,lgR_eq,lgU_eq,Lg.eta,ne4,no4,soR_eq,soS_eq,So.eta,Bool.not_false,Bool.and_self,if_true,dkR_eq,dkB_eq,Dk.eta,ne_eq,Nat.reduceEqDiff,Nat.zero_ne_one,not_false_eq_true,tl_self,Bool.not_true,srecN_p,srecT_p,F.rl,soM,saT_p,sq,seqT_p,F.gok,F.w1,F.sq,beq_self_eq_true,bne_self_eq_false,imgT_p,F.dok,F.jo _ rowE8,F.eta,List.cons_append,List.nil_append,hin,hgi,strC_eq,wi,Int.toNat_natCast,List.length_map,h7,sadN_p,sadT_p,hsz,and_self,errA_ren,errA_nil,errA0,kindT_err,show (1 : Nat) ≤ 14 by decide,show (7 : Nat) ≤ 14 by decide,rsizeT_p hsz,k1,m1,p1,d6]); repeat ((with_reducible refine And.intro ?_ ?_); focus (first | rfl | decide | omega | (simp only [List.length_map,List.length_set,and_true]; omega))))
      refine gc_auto [0,1,2,3,4,5,6,7,8] [12,11,9,8,7,2,1] [] ?_
      simp only [AH.SD,AH.SE,AOp.call?,AOp.next?,bstep,AV.cells,unAV,binAV,retQ,retV,AH.sliceElems,AH.bytesOf,AH.strOp,AH.bound,AH.missQ,AH.minmaxAV,AH.readOf,AH.effOf,simprocAttr,AH.SP,AH.PD,AV.inB,vstep]
      exact same
    · iterate 4 ((try simp only [AH.SD,AH.SE,AOp.call?,AOp.next?,bstep,AV.cells,unAV,binAV,retQ,retV,AH.sliceElems,AH.bytesOf,AH.strOp,AH.bound,AH.missQ,AH.minmaxAV,AH.readOf,AH.effOf,simprocAttr,AH.SP,AH.PD,AV.inB,vstep,vw,shift,newOnes,rowsM,blkIn,rwB,@flat_lts,AV.lt,AV.lts,Nat.sub_self,AH.SO,stateT_p,lgR_eq,lgU_eq,Lg.eta,ne4,no4,soR_eq,soS_eq,So.eta,Bool.not_false,Bool.and_self,if_true,dkR_eq,dkB_eq,Dk.eta,ne_eq,Nat.reduceEqDiff,Nat.zero_ne_one,not_false_eq_true,tl_self,Bool.not_true,srecN_p,srecT_p,F.rl,soM,saT_p,sq,seqT_p,F.gok,F.w1,F.sq,beq_self_eq_true,bne_self_eq_false,imgT_p,F.dok,F.jo _ rowE8,F.eta,List.cons_append,List.nil_append,hin,hgi,strC_eq,wi,Int.toNat_natCast,List.length_map,h7,sadN_p,sadT_p,hsz,and_self,errA_ren,errA_nil,errA0,kindT_err,show (1 : Nat) ≤ 14 by decide,show (7 : Nat) ≤ 14 by decide,rsizeT_p hsz,k1,m1,p1,p2,d6]); repeat ((with_reducible refine And.intro ?_ ?_); focus (first | rfl | decide | omega | (simp only [List.length_map,List.length_set,and_true]; omega))))
      refine gc_auto [0,1,2,3,4,5,6,7,8] [12,11,9,8,7,2,1] [] ?_
      simp only [AH.SD,AH.SE,AOp.call?,AOp.next?,bstep,AV.cells,unAV,binAV,retQ,retV,AH.sliceElems,AH.bytesOf,AH.strOp,AH.bound,AH.missQ,AH.minmaxAV,AH.readOf,AH.effOf,simprocAttr,AH.SP,AH.PD,AV.inB,vstep]
      exact same
  have d6 : decide ((y.size : Int) > 6000) = false:=decide_eq_false (by omega)
  have hB:=hI.fl
  have hz:=hI.z
  have hz2:=hI.z2
  have hn2:=hI.n2
  have hb:=hI.base
  have hb1:=hb.1
  have hb2:=hb.2
  have hWl:=hI.wl
  have wz2 : IntKind.i64.wrap (2 * (Z : Int)) = ((2 * Z : Nat) : Int):=by rw [IntKind.wrap_i64]; omega
  have wz3 : IntKind.i64.wrap (((svX P Q B s b a W n w).g.d.L.length : Int) - ((2 * Z : Nat) : Int)) = ((n : Nat) : Int):=by rw [F.dl,IntKind.wrap_i64]; omega
  have wz4 : IntKind.i64.wrap ((n : Int) - (B.length : Int)) = ((n - B.length : Nat) : Int):=by rw [IntKind.wrap_i64]; omega
  have wz5 : IntKind.i64.wrap ((svX P Q B s b a W n w).b + ((svX P Q B s b a W n w).g.R.length : Int) + 1) = (svX P Q B s b a W n w).b + ((svX P Q B s b a W n w).g.R.length : Int) + 1:=F.w2
  have hlen : (svX P Q B s b a W n w).g.d.L.length = 2 * Z + n:=F.dl
  by_cases h7' : B.length + sizeN y.size ≤ n ∧ b + (W.length : Int) + 1 < 1073741824
  rotate_left
  · obtain ⟨k1,k2⟩:=hI.add7 (w:=w) h6 h7'
    have m1 : sadM (svX P Q B s b a W n w) y = soM (svX P Q B s b a W n w):=by unfold sadM; rw [k1,k2]; rfl
    have hr' : decide ((sizeN y.size : Int) > ((n - B.length : Nat) : Int)) = true ∨ (decide ((sizeN y.size : Int) > ((n - B.length : Nat) : Int)) = false ∧ decide ((svX P Q B s b a W n w).b + ((svX P Q B s b a W n w).g.R.length : Int) + 1 ≥ 1073741824) = true):=by
      by_cases h : B.length + sizeN y.size ≤ n
      · refine .inr ⟨decide_eq_false (by omega),decide_eq_true ?_⟩
        show b + (W.length : Int) + 1 ≥ 1073741824
        have:=fun z =>h7' ⟨h,z⟩
        omega
      · exact .inl (decide_eq_true (by omega))
    clear rest ih hx hI
    generalize svX P Q B s b a W n w = X at *
    rcases hpw with p1 | ⟨p1,p2,p3⟩
    · rcases hr' with d7 | ⟨d7,d8⟩
      · iterate 4 ((try simp only [AH.SD,AH.SE,AOp.call?,AOp.next?,bstep,AV.cells,unAV,binAV,retQ,retV,AH.sliceElems,AH.bytesOf,AH.strOp,AH.bound,AH.missQ,AH.minmaxAV,AH.readOf,AH.effOf,simprocAttr,AH.SP,AH.PD,AV.inB,vstep,vw,shift,newOnes,rowsM,blkIn,rwB,@flat_lts,AV.lt,AV.lts,Nat.sub_self,AH.SO,stateT_p,lgR_eq,lgU_eq,Lg.eta,ne4,no4,soR_eq,soS_eq,So.eta,Bool.not_false,Bool.and_self,if_true,dkR_eq,dkB_eq,Dk.eta,ne_eq,Nat.reduceEqDiff,Nat.zero_ne_one,not_false_eq_true,tl_self,Bool.not_true,srecN_p,srecT_p,F.rl,soM,saT_p,sq,seqT_p,F.gok,F.w1,F.sq,beq_self_eq_true,bne_self_eq_false,imgT_p,F.dok,F.jo _ rowE8,F.eta,List.cons_append,List.nil_append,hin,hgi,strC_eq,wi,Int.toNat_natCast,List.length_map,h7,sadN_p,sadT_p,hsz,and_self,errA_ren,errA_nil,errA0,kindT_err,show (1 : Nat) ≤ 14 by decide,show (7 : Nat) ≤ 14 by decide,rsizeT_p hsz,k1,m1,p1,d6,d7,wz2,wz3,wz4,wz5]); repeat ((with_reducible refine And.intro ?_ ?_); focus (first | rfl | decide | omega | (simp only [List.length_map,List.length_set,and_true]; omega))))
        refine gc_auto [0,1,2,3,4,5,6,7,8] [12,11,9,8,7,2,1] [] ?_
        simp only [AH.SD,AH.SE,AOp.call?,AOp.next?,bstep,AV.cells,unAV,binAV,retQ,retV,AH.sliceElems,AH.bytesOf,AH.strOp,AH.bound,AH.missQ,AH.minmaxAV,AH.readOf,AH.effOf,simprocAttr,AH.SP,AH.PD,AV.inB,vstep]
        exact same
      · iterate 4 ((try simp only [AH.SD,AH.SE,AOp.call?,AOp.next?,bstep,AV.cells,unAV,binAV,retQ,retV,AH.sliceElems,AH.bytesOf,AH.strOp,AH.bound,AH.missQ,AH.minmaxAV,AH.readOf,AH.effOf,simprocAttr,AH.SP,AH.PD,AV.inB,vstep,vw,shift,newOnes,rowsM,blkIn,rwB,@flat_lts,AV.lt,AV.lts,Nat.sub_self,AH.SO,stateT_p,lgR_eq,lgU_eq,Lg.eta,ne4,no4,soR_eq,soS_eq,So.eta,Bool.not_false,Bool.and_self,if_true,dkR_eq,dkB_eq,Dk.eta,ne_eq,Nat.reduceEqDiff,Nat.zero_ne_one,not_false_eq_true,tl_self,Bool.not_true,srecN_p,srecT_p,F.rl,soM,saT_p,sq,seqT_p,F.gok,F.w1,F.sq,beq_self_eq_true,bne_self_eq_false,imgT_p,F.dok,F.jo _ rowE8,F.eta,List.cons_append,List.nil_append,hin,hgi,strC_eq,wi,Int.toNat_natCast,List.length_map,h7,sadN_p,sadT_p,hsz,and_self,errA_ren,errA_nil,errA0,kindT_err,show (1 : Nat) ≤ 14 by decide,show (7 : Nat) ≤ 14 by decide,rsizeT_p hsz,k1,m1,p1,d6,d7,d8,wz2,wz3,wz4,wz5]); repeat ((with_reducible refine And.intro ?_ ?_); focus (first | rfl | decide | omega | (simp only [List.length_map,List.length_set,and_true]; omega))))
        refine gc_auto [0,1,2,3,4,5,6,7,8] [12,11,9,8,7,2,1] [] ?_
        simp only [AH.SD,AH.SE,AOp.call?,AOp.next?,bstep,AV.cells,unAV,binAV,retQ,retV,AH.sliceElems,AH.bytesOf,AH.strOp,AH.bound,AH.missQ,AH.minmaxAV,AH.readOf,AH.effOf,simprocAttr,AH.SP,AH.PD,AV.inB,vstep]
        exact same
    · rcases hr' with d7 | ⟨d7,d8⟩
      · iterate 4 ((try simp only [AH.SD,AH.SE,AOp.call?,AOp.next?,bstep,AV.cells,unAV,binAV,retQ,retV,AH.sliceElems,AH.bytesOf,AH.strOp,AH.bound,AH.missQ,AH.minmaxAV,AH.readOf,AH.effOf,simprocAttr,AH.SP,AH.PD,AV.inB,vstep,vw,shift,newOnes,rowsM,blkIn,rwB,@flat_lts,AV.lt,AV.lts,Nat.sub_self,AH.SO,stateT_p,lgR_eq,lgU_eq,Lg.eta,ne4,no4,soR_eq,soS_eq,So.eta,Bool.not_false,Bool.and_self,if_true,dkR_eq,dkB_eq,Dk.eta,ne_eq,Nat.reduceEqDiff,Nat.zero_ne_one,not_false_eq_true,tl_self,Bool.not_true,srecN_p,srecT_p,F.rl,soM,saT_p,sq,seqT_p,F.gok,F.w1,F.sq,beq_self_eq_true,bne_self_eq_false,imgT_p,F.dok,F.jo _ rowE8,F.eta,List.cons_append,List.nil_append,hin,hgi,strC_eq,wi,Int.toNat_natCast,List.length_map,h7,sadN_p,sadT_p,hsz,and_self,errA_ren,errA_nil,errA0,kindT_err,show (1 : Nat) ≤ 14 by decide,show (7 : Nat) ≤ 14 by decide,rsizeT_p hsz,k1,m1,p1,p2,d6,d7,wz2,wz3,wz4,wz5]); repeat ((with_reducible refine And.intro ?_ ?_); focus (first | rfl | decide | omega | (simp only [List.length_map,List.length_set,and_true]; omega))))
        refine gc_auto [0,1,2,3,4,5,6,7,8] [12,11,9,8,7,2,1] [] ?_
        simp only [AH.SD,AH.SE,AOp.call?,AOp.next?,bstep,AV.cells,unAV,binAV,retQ,retV,AH.sliceElems,AH.bytesOf,AH.strOp,AH.bound,AH.missQ,AH.minmaxAV,AH.readOf,AH.effOf,simprocAttr,AH.SP,AH.PD,AV.inB,vstep]
        exact same
      · iterate 4 ((try simp only [AH.SD,AH.SE,AOp.call?,AOp.next?,bstep,AV.cells,unAV,binAV,retQ,retV,AH.sliceElems,AH.bytesOf,AH.strOp,AH.bound,AH.missQ,AH.minmaxAV,AH.readOf,AH.effOf,simprocAttr,AH.SP,AH.PD,AV.inB,vstep,vw,shift,newOnes,rowsM,blkIn,rwB,@flat_lts,AV.lt,AV.lts,Nat.sub_self,AH.SO,stateT_p,lgR_eq,lgU_eq,Lg.eta,ne4,no4,soR_eq,soS_eq,So.eta,Bool.not_false,Bool.and_self,if_true,dkR_eq,dkB_eq,Dk.eta,ne_eq,Nat.reduceEqDiff,Nat.zero_ne_one,not_false_eq_true,tl_self,Bool.not_true,srecN_p,srecT_p,F.rl,soM,saT_p,sq,seqT_p,F.gok,F.w1,F.sq,beq_self_eq_true,bne_self_eq_false,imgT_p,F.dok,F.jo _ rowE8,F.eta,List.cons_append,List.nil_append,hin,hgi,strC_eq,wi,Int.toNat_natCast,List.length_map,h7,sadN_p,sadT_p,hsz,and_self,errA_ren,errA_nil,errA0,kindT_err,show (1 : Nat) ≤ 14 by decide,show (7 : Nat) ≤ 14 by decide,rsizeT_p hsz,k1,m1,p1,p2,d6,d7,d8,wz2,wz3,wz4,wz5]); repeat ((with_reducible refine And.intro ?_ ?_); focus (first | rfl | decide | omega | (simp only [List.length_map,List.length_set,and_true]; omega))))
        refine gc_auto [0,1,2,3,4,5,6,7,8] [12,11,9,8,7,2,1] [] ?_
        simp only [AH.SD,AH.SE,AOp.call?,AOp.next?,bstep,AV.cells,unAV,binAV,retQ,retV,AH.sliceElems,AH.bytesOf,AH.strOp,AH.bound,AH.missQ,AH.minmaxAV,AH.readOf,AH.effOf,simprocAttr,AH.SP,AH.PD,AV.inB,vstep]
        exact same
  obtain ⟨⟨w',k1,k2⟩,hI'⟩:=hI.add (w:=w) h6 h7'.1 h7'.2
  have hbk : okBl ((svX P Q B s b a W n w).b + ((svX P Q B s b a W n w).g.R.length : Int) + 1,y,()):=⟨by show 1 ≤ b + (W.length : Int) + 1; omega,by show b + (W.length : Int) + 1 ≤ 2147483647; omega,h6⟩
  have eK : (svX P Q B s b a W n w).b + ((svX P Q B s b a W n w).g.R.length : Int) + 1 = b + (W.length : Int) + 1:=rfl
  have hbl:=blkL_len (b + (W.length : Int) + 1) y (sizeN y.size)
  rw [← eK] at hbl hI' k1
  have m1 : sadM (svX P Q B s b a W n w) y = soM2 none (svX P Q (B ++ blkL ((svX P Q B s b a W n w).b + ((svX P Q B s b a W n w).g.R.length : Int) + 1) y (sizeN y.size)) s b a (W ++ [y]) n w'):=by unfold sadM; rw [if_pos ⟨rfl,k2⟩,k1]
  have F':=hI'.sxf w'
  have nx:=rest _ P Q s b a (W ++ [y]) w' hil hI'
  have d7 : decide ((sizeN y.size : Int) > ((n - B.length : Nat) : Int)) = false:=decide_eq_false (by omega)
  have d8 : decide ((svX P Q B s b a W n w).b + ((svX P Q B s b a W n w).g.R.length : Int) + 1 ≥ 1073741824) = false:=decide_eq_false (by show ¬ b + (W.length : Int) + 1 ≥ 1073741824; omega)
  have hcat : (svX P Q B s b a W n w).g.d.L.take (2 * Z + B.length) ++ blkL ((svX P Q B s b a W n w).b + ((svX P Q B s b a W n w).g.R.length : Int) + 1) y (sizeN y.size) ++ (svX P Q B s b a W n w).g.d.L.drop (2 * Z + B.length + sizeN y.size) = (svX P Q (B ++ blkL ((svX P Q B s b a W n w).b + ((svX P Q B s b a W n w).g.R.length : Int) + 1) y (sizeN y.size)) s b a (W ++ [y]) n w').g.d.L:=sx_cat hI hbl
  have eu : (B ++ blkL ((svX P Q B s b a W n w).b + ((svX P Q B s b a W n w).g.R.length : Int) + 1) y (sizeN y.size)).length = B.length + sizeN y.size:=by rw [List.length_append,hbl]
  rw [eu] at F' nx
  have ha1 : ((svX P Q B s b a W n w).g.d.L.take (2 * Z + B.length)).length = 2 * Z + B.length:=by rw [List.length_take,hlen]; omega
  have ha2 : ((svX P Q B s b a W n w).g.d.L.drop (2 * Z + B.length + sizeN y.size)).length = 2 * Z + n - (2 * Z + B.length + sizeN y.size):=by rw [List.length_drop,hlen]
  have ht1 : ((svX P Q B s b a W n w).g.d.L.map strC).take (2 * Z + B.length) = ((svX P Q B s b a W n w).g.d.L.take (2 * Z + B.length)).map strC:=by rw [List.map_take]
  have ht2 : (((svX P Q B s b a W n w).g.d.L.map strC).drop (2 * Z + B.length + sizeN y.size)).take (2 * Z + n - (2 * Z + B.length + sizeN y.size)) = ((svX P Q B s b a W n w).g.d.L.drop (2 * Z + B.length + sizeN y.size)).map strC:=by
    rw [← List.map_drop]; exact List.take_of_length_le (by rw [List.length_map,ha2]; exact Nat.le_refl _)
  have hsr : (svX P Q B s b a W n w).g.R.map strC ++ [[.str y]] = (svX P Q (B ++ blkL ((svX P Q B s b a W n w).b + ((svX P Q B s b a W n w).g.R.length : Int) + 1) y (sizeN y.size)) s b a (W ++ [y]) n w').g.R.map strC:=by
    show W.map strC ++ [[.str y]] = (W ++ [y]).map strC
    rw [List.map_append]; rfl
  simp only [sxSt,shR] at nx
  have wz6 : IntKind.i64.wrap (((2 * Z : Nat) : Int) + (B.length : Int)) = ((2 * Z + B.length : Nat) : Int):=by rw [IntKind.wrap_i64]; omega
  have wz7 : IntKind.i64.wrap (((2 * Z + B.length : Nat) : Int) + (sizeN y.size : Int)) = ((2 * Z + B.length + sizeN y.size : Nat) : Int):=by rw [IntKind.wrap_i64]; omega
  have hle6:=h7'.1
  have hsum : 2 * Z + B.length + sizeN y.size + (2 * Z + n - (2 * Z + B.length + sizeN y.size)) = 2 * Z + n:=by omega
  clear rest ih hx hI hI' same eu
  generalize hBke : blkL ((svX P Q B s b a W n w).b + ((svX P Q B s b a W n w).g.R.length : Int) + 1) y (sizeN y.size) = Bk at *
  generalize svX P Q B s b a W n w = X at *
  generalize svX P Q (B ++ Bk) s b a (W ++ [y]) n w' = X' at *
  generalize X.g.d.L.take (2 * Z + B.length) = A at *
  generalize X.g.d.L.drop (2 * Z + B.length + sizeN y.size) = D at *
  have tA : (A.map strC).take (2 * Z + B.length) = A.map strC:=by rw [← ha1]; exact take_all
  have tB : (Bk.map strC).take (sizeN y.size) = Bk.map strC:=by rw [← hbl]; exact take_all
  have tAB : (A.map strC ++ Bk.map strC).take (2 * Z + B.length + sizeN y.size) = A.map strC ++ Bk.map strC:=List.take_of_length_le (by rw [List.length_append,List.length_map,List.length_map,ha1,hbl]; exact Nat.le_refl _)
  have hc : A.map strC ++ (Bk.map strC ++ D.map strC) = X'.g.d.L.map strC:=by rw [← hcat]; simp only [List.map_append,List.append_assoc]
  have hc' : A.map strC ++ Bk.map strC ++ D.map strC = X'.g.d.L.map strC:=by rw [← hcat]; simp only [List.map_append]
  have c1 : (0 : Nat) = 0 ∧ 2 * Z + n = 2 * Z + n ∧ 1 ≤ (Z : Int) ∧ 2 * (Z : Int) ≤ ((2 * Z + n : Nat) : Int) ∧ 2 * Z + n ≤ 4096:=⟨rfl,rfl,by omega,by omega,by omega⟩
  simp only [F'.dl] at nx
  rcases hpw with p1 | ⟨p1,p2,p3⟩
  · simp only [AH.SD,AH.SE,AOp.call?,AOp.next?,bstep,AV.cells,unAV,binAV,retQ,retV,AH.sliceElems,AH.bytesOf,AH.strOp,AH.bound,AH.missQ,AH.minmaxAV,AH.readOf,AH.effOf,simprocAttr,AH.SP,AH.PD,AV.inB,vstep,vw,shift,newOnes,rowsM,blkIn,rwB,@flat_lts,AV.lt,AV.lts,Nat.sub_self,AH.SO,stateT_p,lgR_eq,lgU_eq,Lg.eta,ne4,no4,soR_eq,soS_eq,So.eta,Bool.not_false,Bool.and_self,if_true,dkR_eq,dkB_eq,Dk.eta,ne_eq,Nat.reduceEqDiff,Nat.zero_ne_one,not_false_eq_true,tl_self,Bool.not_true,srecN_p,srecT_p,F.rl,soM,saT_p,sq,seqT_p,F.gok,F.w1,F.sq,beq_self_eq_true,bne_self_eq_false,imgT_p,F.dok,F.jo _ rowE8,F.eta,List.cons_append,List.nil_append,hin,hgi,strC_eq,wi,Int.toNat_natCast,List.length_map,h7,sadN_p,sadT_p,hsz,and_self,errA_ren,errA_nil,errA0,kindT_err,show (1 : Nat) ≤ 14 by decide,show (7 : Nat) ≤ 14 by decide,rsizeT_p hsz,k1,m1,p1,d6,d7,d8,wz2,wz3,wz4,wz5,soM2]
    repeat ((with_reducible refine And.intro ?_ ?_); focus (first | rfl | decide | omega | (simp only [List.length_map,List.length_set,and_true]; omega)))
    iterate 4 ((try simp only [AH.SD,AH.SE,AOp.call?,AOp.next?,bstep,AV.cells,unAV,binAV,retQ,retV,AH.sliceElems,AH.bytesOf,AH.strOp,AH.bound,AH.missQ,AH.minmaxAV,AH.readOf,AH.effOf,simprocAttr,AH.SP,AH.PD,AV.inB,vstep,vw,shift,newOnes,rowsM,blkIn,rwB,@flat_lts,AV.lt,AV.lts,Nat.sub_self,AH.SO,stateT_p,lgR_eq,lgU_eq,Lg.eta,ne4,no4,soR_eq,soS_eq,So.eta,Bool.not_false,Bool.and_self,if_true,dkR_eq,dkB_eq,Dk.eta,ne_eq,Nat.reduceEqDiff,Nat.zero_ne_one,not_false_eq_true,tl_self,Bool.not_true,srecN_p,srecT_p,F.rl,soM,saT_p,sq,seqT_p,F.gok,F.w1,F.sq,beq_self_eq_true,bne_self_eq_false,imgT_p,F.dok,F.jo _ rowE8,F.eta,List.cons_append,List.nil_append,hin,hgi,strC_eq,wi,Int.toNat_natCast,List.length_map,h7,sadN_p,sadT_p,hsz,and_self,errA_ren,errA_nil,errA0,kindT_err,show (1 : Nat) ≤ 14 by decide,show (7 : Nat) ≤ 14 by decide,rsizeT_p hsz,k1,m1,d6,d7,d8,wz2,wz3,wz4,wz5,wz6,wz7,soM2,rbksT_p,hbk,hBke,ht1,ht2,ha1,ha2,hbl,tA,tB,tAB,hc,hc',hlen,hsum,srdE_p,syR_s,F'.dl,c1,F'.rd,F'.rm,p1]); repeat ((with_reducible refine And.intro ?_ ?_); focus (first | rfl | decide | omega | (simp only [List.length_map,List.length_set,and_true]; omega))))
    refine gc_auto [0,1,2,3,4,10,6,16,15] [12,11,9,8,7,2,1] [] ?_
    simp only [AH.SD,AH.SE,AOp.call?,AOp.next?,bstep,AV.cells,unAV,binAV,retQ,retV,AH.sliceElems,AH.bytesOf,AH.strOp,AH.bound,AH.missQ,AH.minmaxAV,AH.readOf,AH.effOf,simprocAttr,AH.SP,AH.PD,AV.inB,vstep]
    exact nx
  · simp only [AH.SD,AH.SE,AOp.call?,AOp.next?,bstep,AV.cells,unAV,binAV,retQ,retV,AH.sliceElems,AH.bytesOf,AH.strOp,AH.bound,AH.missQ,AH.minmaxAV,AH.readOf,AH.effOf,simprocAttr,AH.SP,AH.PD,AV.inB,vstep,vw,shift,newOnes,rowsM,blkIn,rwB,@flat_lts,AV.lt,AV.lts,Nat.sub_self,AH.SO,stateT_p,lgR_eq,lgU_eq,Lg.eta,ne4,no4,soR_eq,soS_eq,So.eta,Bool.not_false,Bool.and_self,if_true,dkR_eq,dkB_eq,Dk.eta,ne_eq,Nat.reduceEqDiff,Nat.zero_ne_one,not_false_eq_true,tl_self,Bool.not_true,srecN_p,srecT_p,F.rl,soM,saT_p,sq,seqT_p,F.gok,F.w1,F.sq,beq_self_eq_true,bne_self_eq_false,imgT_p,F.dok,F.jo _ rowE8,F.eta,List.cons_append,List.nil_append,hin,hgi,strC_eq,wi,Int.toNat_natCast,List.length_map,h7,sadN_p,sadT_p,hsz,and_self,errA_ren,errA_nil,errA0,kindT_err,show (1 : Nat) ≤ 14 by decide,show (7 : Nat) ≤ 14 by decide,rsizeT_p hsz,k1,m1,p1,p2,d6,d7,d8,wz2,wz3,wz4,wz5,soM2]
    repeat ((with_reducible refine And.intro ?_ ?_); focus (first | rfl | decide | omega | (simp only [List.length_map,List.length_set,and_true]; omega)))
    iterate 4 ((try simp only [AH.SD,AH.SE,AOp.call?,AOp.next?,bstep,AV.cells,unAV,binAV,retQ,retV,AH.sliceElems,AH.bytesOf,AH.strOp,AH.bound,AH.missQ,AH.minmaxAV,AH.readOf,AH.effOf,simprocAttr,AH.SP,AH.PD,AV.inB,vstep,vw,shift,newOnes,rowsM,blkIn,rwB,@flat_lts,AV.lt,AV.lts,Nat.sub_self,AH.SO,stateT_p,lgR_eq,lgU_eq,Lg.eta,ne4,no4,soR_eq,soS_eq,So.eta,Bool.not_false,Bool.and_self,if_true,dkR_eq,dkB_eq,Dk.eta,ne_eq,Nat.reduceEqDiff,Nat.zero_ne_one,not_false_eq_true,tl_self,Bool.not_true,srecN_p,srecT_p,F.rl,soM,saT_p,sq,seqT_p,F.gok,F.w1,F.sq,beq_self_eq_true,bne_self_eq_false,imgT_p,F.dok,F.jo _ rowE8,F.eta,List.cons_append,List.nil_append,hin,hgi,strC_eq,wi,Int.toNat_natCast,List.length_map,h7,sadN_p,sadT_p,hsz,and_self,errA_ren,errA_nil,errA0,kindT_err,show (1 : Nat) ≤ 14 by decide,show (7 : Nat) ≤ 14 by decide,rsizeT_p hsz,k1,m1,d6,d7,d8,wz2,wz3,wz4,wz5,wz6,wz7,soM2,rbksT_p,hbk,hBke,ht1,ht2,ha1,ha2,hbl,tA,tB,tAB,hc,hc',hlen,hsum,srdE_p,syR_s,F'.dl,c1,F'.rd,F'.rm,p1,p2]); repeat ((with_reducible refine And.intro ?_ ?_); focus (first | rfl | decide | omega | (simp only [List.length_map,List.length_set,and_true]; omega))))
    refine gc_auto [0,1,2,3,4,10,6,16,15] [12,11,9,8,7,2,1] [] ?_
    simp only [AH.SD,AH.SE,AOp.call?,AOp.next?,bstep,AV.cells,unAV,binAV,retQ,retV,AH.sliceElems,AH.bytesOf,AH.strOp,AH.bound,AH.missQ,AH.minmaxAV,AH.readOf,AH.effOf,simprocAttr,AH.SP,AH.PD,AV.inB,vstep]
    exact nx
end Go.Proofs.YthapdikdeoeplaaGreatDoor.Z7
end
section
set_option linter.unusedVariables false
set_option linter.unnecessarySimpa false
open Go AH
set_option linter.unusedSimpArgs false
set_option maxRecDepth 100000
namespace Go.Proofs.YthapdikdeoeplaaGreatDoor.Z7
set_option maxHeartbeats 16000000 in
theorem sexact_ok (s : ByteArray) (z : Int) (l : List ByteArray) : CallA1 S0 5 [.str s,.int .i64 z,.slc 0 0 l.length none] [some (.row true 1 (l.map strC))] fun r _ =>r = .bool true:=by
  refine fun_sound okSx Tryz.func5 c5 ?_
  unfold wpF F5
  simp only [AH.SD,AH.SE,AOp.call?,AOp.next?,bstep,AV.cells,unAV,binAV,retQ,retV,AH.sliceElems,AH.bytesOf,AH.strOp,AH.bound,AH.missQ,AH.minmaxAV,AH.readOf,AH.effOf,simprocAttr,AH.SP,AH.PD,AV.inB,vstep,vw,shift,newOnes,rowsM,blkIn,rwB,@flat_lts,AV.lt,AV.lts,Nat.sub_self,AH.SO,sawakeT_eq]
  cases h1 : decide ((s.size : Int) > 1920)
  rotate_left
  · simp only [AH.SD,AH.SE,AOp.call?,AOp.next?,bstep,AV.cells,unAV,binAV,retQ,retV,AH.sliceElems,AH.bytesOf,AH.strOp,AH.bound,AH.missQ,AH.minmaxAV,AH.readOf,AH.effOf,simprocAttr,AH.SP,AH.PD,AV.inB,vstep,vw,shift,newOnes,rowsM,blkIn,rwB,@flat_lts,AV.lt,AV.lts,Nat.sub_self,AH.SO,h1]
  cases h2 : decide ((l.length : Int) > 12)
  rotate_left
  · simp only [AH.SD,AH.SE,AOp.call?,AOp.next?,bstep,AV.cells,unAV,binAV,retQ,retV,AH.sliceElems,AH.bytesOf,AH.strOp,AH.bound,AH.missQ,AH.minmaxAV,AH.readOf,AH.effOf,simprocAttr,AH.SP,AH.PD,AV.inB,vstep,vw,shift,newOnes,rowsM,blkIn,rwB,@flat_lts,AV.lt,AV.lts,Nat.sub_self,AH.SO,h1,h2]
  have hs : s.size ≤ 1920:=by simp only [decide_eq_false_iff_not] at h1; omega
  have hl12 : l.length ≤ 12:=by simp only [decide_eq_false_iff_not] at h2; omega
  have hs2 : s.size ≤ 1048576:=by omega
  have hnb : nb s = s.size / 64:=by unfold nb; omega
  have hd0 : ofD s = dOn (blks s (s.size / 64)) 0:=by unfold ofD; rw [hnb]; rfl
  have hdo:=ofD_ok s
  rw [hd0] at hdo
  have hal : (blks s (s.size / 64)).length = s.size / 64:=blks_len ..
  have hsz:=hdo.1
  have hal30 : s.size / 64 ≤ 30:=by omega
  generalize hN : s.size / 64 = N at *
  have hsz' : ∀ x ∈ blks s N,x.size = 64:=hsz
  generalize hall : blks s N = all at *
  subst hal
  have hdo' : (⟨all,false,-1,0,0⟩ : Dk).ok:=hdo
  by_cases hbad : z < 1 ∨ z > 108 ∨ (all.length : Int) ≤ 2 * z
  · have hz : ∃ y,sopZ ⟨all,false,-1,0,0⟩ z = (1,y) ∧ y.g.d = ⟨all,false,-1,0,0⟩:=⟨_,by unfold sopZ; rw [if_pos hbad],rfl⟩
    obtain ⟨y,hz,hyd⟩:=hz
    have hcs : decide (z < 1) = true ∨ (decide (z < 1) = false ∧ decide (z > 108) = true) ∨ (decide (z < 1) = false ∧ decide (z > 108) = false ∧ decide ((all.length : Int) ≤ 2 * z) = true ∧ IntKind.i64.wrap (2 * z) = 2 * z):=by
      by_cases a1 : z < 1
      · exact .inl (decide_eq_true a1)
      · by_cases a2 : z > 108
        · exact .inr (.inl ⟨decide_eq_false a1,decide_eq_true a2⟩)
        · refine .inr (.inr ⟨decide_eq_false a1,decide_eq_false a2,decide_eq_true ?_,by rw [IntKind.wrap_i64]; omega⟩)
          exact (hbad.resolve_left a1).resolve_left a2
    rcases hcs with c1 | ⟨c1,c2⟩ | ⟨c1,c2,c3,w1⟩
    · simp only [AH.SD,AH.SE,AOp.call?,AOp.next?,bstep,AV.cells,unAV,binAV,retQ,retV,AH.sliceElems,AH.bytesOf,AH.strOp,AH.bound,AH.missQ,AH.minmaxAV,AH.readOf,AH.effOf,simprocAttr,AH.SP,AH.PD,AV.inB,vstep,vw,shift,newOnes,rowsM,blkIn,rwB,@flat_lts,AV.lt,AV.lts,Nat.sub_self,AH.SO,h1,h2,ofT_eq,hd0,hdo',dkM,dOn,partsT_p,hs2,hN,hall,sopN_p,sopT_p,lgR_eq,lgU_eq,Lg.eta,ne4,no4,soR_eq,soS_eq,So.eta,Bool.not_false,Bool.and_self,if_true,dkR_eq,dkB_eq,Dk.eta,ne_eq,Nat.reduceEqDiff,Nat.zero_ne_one,not_false_eq_true,errA_ren,errA_nil,kindT_err,show (1 : Nat) ≤ 14 by decide,show (3 : Nat) ≤ 14 by decide,sopA,sopM,List.cons_append,List.nil_append,hz,hyd,show ¬ ((1 : Nat) = 0) by decide,if_false,c1]
      try trivial
    · simp only [AH.SD,AH.SE,AOp.call?,AOp.next?,bstep,AV.cells,unAV,binAV,retQ,retV,AH.sliceElems,AH.bytesOf,AH.strOp,AH.bound,AH.missQ,AH.minmaxAV,AH.readOf,AH.effOf,simprocAttr,AH.SP,AH.PD,AV.inB,vstep,vw,shift,newOnes,rowsM,blkIn,rwB,@flat_lts,AV.lt,AV.lts,Nat.sub_self,AH.SO,h1,h2,ofT_eq,hd0,hdo',dkM,dOn,partsT_p,hs2,hN,hall,sopN_p,sopT_p,lgR_eq,lgU_eq,Lg.eta,ne4,no4,soR_eq,soS_eq,So.eta,Bool.not_false,Bool.and_self,if_true,dkR_eq,dkB_eq,Dk.eta,ne_eq,Nat.reduceEqDiff,Nat.zero_ne_one,not_false_eq_true,errA_ren,errA_nil,kindT_err,show (1 : Nat) ≤ 14 by decide,show (3 : Nat) ≤ 14 by decide,sopA,sopM,List.cons_append,List.nil_append,hz,hyd,show ¬ ((1 : Nat) = 0) by decide,if_false,c1,c2]
      try trivial
    · simp only [AH.SD,AH.SE,AOp.call?,AOp.next?,bstep,AV.cells,unAV,binAV,retQ,retV,AH.sliceElems,AH.bytesOf,AH.strOp,AH.bound,AH.missQ,AH.minmaxAV,AH.readOf,AH.effOf,simprocAttr,AH.SP,AH.PD,AV.inB,vstep,vw,shift,newOnes,rowsM,blkIn,rwB,@flat_lts,AV.lt,AV.lts,Nat.sub_self,AH.SO,h1,h2,ofT_eq,hd0,hdo',dkM,dOn,partsT_p,hs2,hN,hall,sopN_p,sopT_p,lgR_eq,lgU_eq,Lg.eta,ne4,no4,soR_eq,soS_eq,So.eta,Bool.not_false,Bool.and_self,if_true,dkR_eq,dkB_eq,Dk.eta,ne_eq,Nat.reduceEqDiff,Nat.zero_ne_one,not_false_eq_true,errA_ren,errA_nil,kindT_err,show (1 : Nat) ≤ 14 by decide,show (3 : Nat) ≤ 14 by decide,sopA,sopM,List.cons_append,List.nil_append,hz,hyd,show ¬ ((1 : Nat) = 0) by decide,if_false,c1,c2,c3,w1]
      try trivial
  have g1 : 1 ≤ z:=by omega
  have g2 : z ≤ 108:=by omega
  have g3 : 2 * z < (all.length : Int):=by omega
  clear hbad
  obtain ⟨Z,rfl⟩:=Int.eq_ofNat_of_zero_le (show 0 ≤ z by omega)
  have c1 : decide ((Z : Int) < 1) = false:=decide_eq_false (by omega)
  have c2 : decide ((Z : Int) > 108) = false:=decide_eq_false (by omega)
  have c3 : decide ((all.length : Int) ≤ ((2 * Z : Nat) : Int)) = false:=decide_eq_false (by omega)
  have w1 : IntKind.i64.wrap (2 * (Z : Int)) = ((2 * Z : Nat) : Int):=by rw [IntKind.wrap_i64]; omega
  have ce : (0 : Nat) = 0 ∧ all.length = all.length ∧ 1 ≤ (Z : Int) ∧ 2 * (Z : Int) ≤ (all.length : Int) ∧ all.length ≤ 4096:=⟨rfl,rfl,by omega,by omega,by omega⟩
  by_cases hb : (lastZ all Z).b ≤ 1073741824
  rotate_left
  · obtain ⟨y,hz,hyd⟩:=sv_bad (L:=all) (Z:=Z) (w:=0) (by omega) (by omega) hal30 hb
    have hz' : sopZ ⟨all,false,-1,0,0⟩ Z = (3,y):=hz
    have hyd' : y.g.d = ⟨all,false,-1,0,0⟩:=hyd
    have c5 : decide ((lastZ all Z).b > 1073741824) = true:=decide_eq_true (by omega)
    clear hz hyd
    simp only [AH.SD,AH.SE,AOp.call?,AOp.next?,bstep,AV.cells,unAV,binAV,retQ,retV,AH.sliceElems,AH.bytesOf,AH.strOp,AH.bound,AH.missQ,AH.minmaxAV,AH.readOf,AH.effOf,simprocAttr,AH.SP,AH.PD,AV.inB,vstep,vw,shift,newOnes,rowsM,blkIn,rwB,@flat_lts,AV.lt,AV.lts,Nat.sub_self,AH.SO,h1,h2,ofT_eq,hd0,hdo',dkM,dOn,partsT_p,hs2,hN,hall,sopN_p,sopT_p,lgR_eq,lgU_eq,Lg.eta,ne4,no4,soR_eq,soS_eq,So.eta,Bool.not_false,Bool.and_self,if_true,dkR_eq,dkB_eq,Dk.eta,ne_eq,Nat.reduceEqDiff,Nat.zero_ne_one,not_false_eq_true,errA_ren,errA_nil,kindT_err,show (1 : Nat) ≤ 14 by decide,show (3 : Nat) ≤ 14 by decide,sopA,sopM,List.cons_append,List.nil_append,hz',hyd',show ¬ ((3 : Nat) = 0) by decide,if_false,c1,c2,c3,w1,srdE_p,syR_s,ce,srdA,srdM,Int.toNat_natCast,c5]
    iterate 3 (repeat ((with_reducible refine And.intro ?_ ?_); focus (first | rfl | decide | omega | (simp only [List.length_map,List.length_set,and_true]; omega))); try simp only [AH.SD,AH.SE,AOp.call?,AOp.next?,bstep,AV.cells,unAV,binAV,retQ,retV,AH.sliceElems,AH.bytesOf,AH.strOp,AH.bound,AH.missQ,AH.minmaxAV,AH.readOf,AH.effOf,simprocAttr,AH.SP,AH.PD,AV.inB,vstep,vw,shift,newOnes,rowsM,blkIn,rwB,@flat_lts,AV.lt,AV.lts,Nat.sub_self,AH.SO,h1,h2,ofT_eq,hd0,hdo',dkM,dOn,partsT_p,hs2,hN,hall,sopN_p,sopT_p,lgR_eq,lgU_eq,Lg.eta,ne4,no4,soR_eq,soS_eq,So.eta,Bool.not_false,Bool.and_self,if_true,dkR_eq,dkB_eq,Dk.eta,ne_eq,Nat.reduceEqDiff,Nat.zero_ne_one,not_false_eq_true,errA_ren,errA_nil,kindT_err,show (1 : Nat) ≤ 14 by decide,show (3 : Nat) ≤ 14 by decide,sopA,sopM,List.cons_append,List.nil_append,hz',hyd',show ¬ ((3 : Nat) = 0) by decide,if_false,c1,c2,c3,w1,srdE_p,syR_s,ce,srdA,srdM,Int.toNat_natCast,c5])
  have c5 : decide ((lastZ all Z).b > 1073741824) = false:=decide_eq_false (by omega)
  obtain ⟨w',B,hop,hI,hBl,himg⟩:=sv_open (L:=all) (Z:=Z) (w:=0) hsz' (by omega) (by omega) hal30 hb
  have hop' : sopZ ⟨all,false,-1,0,0⟩ Z = _:=hop
  have F:=hI.sxf w'
  have x1 : (SX.mk 0 (all.take Z) ((all.drop Z).take Z) B (lastZ all Z).s (lastZ all Z).b (lastZ all Z).a (logR (all.drop (2 * Z)).length (all.drop (2 * Z)) ((lastZ all Z).b + 1)).1 w').x (all.length - 2 * Z) = svX (all.take Z) ((all.drop Z).take Z) B (lastZ all Z).s (lastZ all Z).b (lastZ all Z).a (logR (all.drop (2 * Z)).length (all.drop (2 * Z)) ((lastZ all Z).b + 1)).1 (all.length - 2 * Z) w':=rfl
  have hA : srdA all Z = .agg [.str (svX (all.take Z) ((all.drop Z).take Z) B (lastZ all Z).s (lastZ all Z).b (lastZ all Z).a (logR (all.drop (2 * Z)).length (all.drop (2 * Z)) ((lastZ all Z).b + 1)).1 (all.length - 2 * Z) w').s,.int .i64 (svX (all.take Z) ((all.drop Z).take Z) B (lastZ all Z).s (lastZ all Z).b (lastZ all Z).a (logR (all.drop (2 * Z)).length (all.drop (2 * Z)) ((lastZ all Z).b + 1)).1 (all.length - 2 * Z) w').b,.int .i64 (svX (all.take Z) ((all.drop Z).take Z) B (lastZ all Z).s (lastZ all Z).b (lastZ all Z).a (logR (all.drop (2 * Z)).length (all.drop (2 * Z)) ((lastZ all Z).b + 1)).1 (all.length - 2 * Z) w').a,.slc 1 0 (svX (all.take Z) ((all.drop Z).take Z) B (lastZ all Z).s (lastZ all Z).b (lastZ all Z).a (logR (all.drop (2 * Z)).length (all.drop (2 * Z)) ((lastZ all Z).b + 1)).1 (all.length - 2 * Z) w').g.R.length none,.int .i64 B.length]:=by
    unfold srdA rsO; rw [hBl]; rfl
  have hM : srdM all Z = [some (.row true 1 (all.map strC)),some (.row false 1 ((svX (all.take Z) ((all.drop Z).take Z) B (lastZ all Z).s (lastZ all Z).b (lastZ all Z).a (logR (all.drop (2 * Z)).length (all.drop (2 * Z)) ((lastZ all Z).b + 1)).1 (all.length - 2 * Z) w').g.R.map strC))]:=rfl
  have hL : (svX (all.take Z) ((all.drop Z).take Z) B (lastZ all Z).s (lastZ all Z).b (lastZ all Z).a (logR (all.drop (2 * Z)).length (all.drop (2 * Z)) ((lastZ all Z).b + 1)).1 (all.length - 2 * Z) w').g.d.L = all.take (2 * Z + B.length) ++ List.replicate (all.length - (2 * Z + B.length)) zeB:=himg
  have hBf:=hI.fl
  have hbb : (svX (all.take Z) ((all.drop Z).take Z) B (lastZ all Z).s (lastZ all Z).b (lastZ all Z).a (logR (all.drop (2 * Z)).length (all.drop (2 * Z)) ((lastZ all Z).b + 1)).1 (all.length - 2 * Z) w').b = (lastZ all Z).b:=rfl
  rw [← hbb] at c5
  have hgd : (svX (all.take Z) ((all.drop Z).take Z) B (lastZ all Z).s (lastZ all Z).b (lastZ all Z).a (logR (all.drop (2 * Z)).length (all.drop (2 * Z)) ((lastZ all Z).b + 1)).1 (all.length - 2 * Z) w').g.down = false:=rfl
  have loop:=fun {Q0} {st} {base} =>sx_loop l (all.length - 2 * Z) Z hl12 (SX.mk 0 (all.take Z) ((all.drop Z).take Z) B (lastZ all Z).s (lastZ all Z).b (lastZ all Z).a (logR (all.drop (2 * Z)).length (all.drop (2 * Z)) ((lastZ all Z).b + 1)).1 w') ⟨Nat.zero_le _,hI⟩ (Q0:=Q0) (st:=st) (base:=base)
  rw [x1] at loop
  clear hI x1 hop hBl himg hbb hb
  generalize svX (all.take Z) ((all.drop Z).take Z) B (lastZ all Z).s (lastZ all Z).b (lastZ all Z).a (logR (all.drop (2 * Z)).length (all.drop (2 * Z)) ((lastZ all Z).b + 1)).1 (all.length - 2 * Z) w' = X at *
  simp only at loop
  have hdl : X.g.d.L.length = all.length:=by rw [F.dl]; omega
  have hS : ∀ (s : ByteArray) (b a : Int) (R : List ByteArray),simL ⟨s,b,a,(B.length : Int),R,all⟩ (2 * Z + B.length) all.length = X.g.d.L:=fun s b a R =>by rw [hL]; rfl
  have hC : ∀ (s : ByteArray) (b a : Int) (R : List ByteArray),simC (⟨s,b,a,(B.length : Int),R,all⟩,(Z : Int),()):=fun s b a R =>⟨by simp only; omega,by simp only; omega,by simp only; omega,by simp only; omega⟩
  simp only [AH.SD,AH.SE,AOp.call?,AOp.next?,bstep,AV.cells,unAV,binAV,retQ,retV,AH.sliceElems,AH.bytesOf,AH.strOp,AH.bound,AH.missQ,AH.minmaxAV,AH.readOf,AH.effOf,simprocAttr,AH.SP,AH.PD,AV.inB,vstep,vw,shift,newOnes,rowsM,blkIn,rwB,@flat_lts,AV.lt,AV.lts,Nat.sub_self,AH.SO,h1,h2,ofT_eq,hd0,hdo',dkM,dOn,partsT_p,hs2,hN,hall,sopN_p,sopT_p,lgR_eq,lgU_eq,Lg.eta,ne4,no4,soR_eq,soS_eq,So.eta,Bool.not_false,Bool.and_self,if_true,dkR_eq,dkB_eq,Dk.eta,ne_eq,Nat.reduceEqDiff,Nat.zero_ne_one,not_false_eq_true,errA_ren,errA_nil,kindT_err,show (1 : Nat) ≤ 14 by decide,show (3 : Nat) ≤ 14 by decide,sopA,sopM,List.cons_append,List.nil_append,hop',F.eta,c1,c2,c3,w1,srdE_p,syR_s,ce,hA,hM,Int.toNat_natCast,c5,etL2_some,simE_p,siS_eq2,hS,hC,siM]
  iterate 3 (repeat ((with_reducible refine And.intro ?_ ?_); focus (first | rfl | decide | omega | (simp only [List.length_map,List.length_set,and_true]; omega))); try simp only [AH.SD,AH.SE,AOp.call?,AOp.next?,bstep,AV.cells,unAV,binAV,retQ,retV,AH.sliceElems,AH.bytesOf,AH.strOp,AH.bound,AH.missQ,AH.minmaxAV,AH.readOf,AH.effOf,simprocAttr,AH.SP,AH.PD,AV.inB,vstep,vw,shift,newOnes,rowsM,blkIn,rwB,@flat_lts,AV.lt,AV.lts,Nat.sub_self,AH.SO,h1,h2,ofT_eq,hd0,hdo',dkM,dOn,partsT_p,hs2,hN,hall,sopN_p,sopT_p,lgR_eq,lgU_eq,Lg.eta,ne4,no4,soR_eq,soS_eq,So.eta,Bool.not_false,Bool.and_self,if_true,dkR_eq,dkB_eq,Dk.eta,ne_eq,Nat.reduceEqDiff,Nat.zero_ne_one,not_false_eq_true,errA_ren,errA_nil,kindT_err,show (1 : Nat) ≤ 14 by decide,show (3 : Nat) ≤ 14 by decide,sopA,sopM,List.cons_append,List.nil_append,hop',F.eta,c1,c2,c3,w1,srdE_p,syR_s,ce,hA,hM,Int.toNat_natCast,c5,etL2_some,simE_p,siS_eq2,hS,hC,siM])
  refine loop_atL (loop rfl (by simp only [AH.SD,AH.SE,AOp.call?,AOp.next?,bstep,AV.cells,unAV,binAV,retQ,retV,AH.sliceElems,AH.bytesOf,AH.strOp,AH.bound,AH.missQ,AH.minmaxAV,AH.readOf,AH.effOf,simprocAttr,AH.SP,AH.PD,AV.inB,vstep,sxSt,shR,hdl,hgd,Int.natCast_zero,Int.ofNat_zero]) ?_ ?_) (by unfold F5; rfl)
  · intro st h
    simp only [AH.SD,AH.SE,AOp.call?,AOp.next?,bstep,AV.cells,unAV,binAV,retQ,retV,AH.sliceElems,AH.bytesOf,AH.strOp,AH.bound,AH.missQ,AH.minmaxAV,AH.readOf,AH.effOf,simprocAttr,AH.SP,AH.PD,AV.inB,vstep,vw,shift,newOnes,rowsM,blkIn,rwB,@flat_lts,AV.lt,AV.lts,Nat.sub_self,AH.SO,h]
  · intro st
    simp only [AH.SD,AH.SE,AOp.call?,AOp.next?,bstep,AV.cells,unAV,binAV,retQ,retV,AH.sliceElems,AH.bytesOf,AH.strOp,AH.bound,AH.missQ,AH.minmaxAV,AH.readOf,AH.effOf,simprocAttr,AH.SP,AH.PD,AV.inB,vstep,vw,shift,newOnes,rowsM,blkIn,rwB,@flat_lts,AV.lt,AV.lts,Nat.sub_self,AH.SO,sopN_n,kindT_err,show (2 : Nat) ≤ 14 by decide,sadN_n,keepN_n,srecN_n,stateT_n,seqT_n,tl_self]
    try trivial
end Go.Proofs.YthapdikdeoeplaaGreatDoor.Z7
end
