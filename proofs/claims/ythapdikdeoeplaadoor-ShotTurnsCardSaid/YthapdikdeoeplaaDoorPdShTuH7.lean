import Derived.Test.YthapdikdeoeplaaDoorPcLgRH7
import Derived.Test.YthapdikdeoeplaaDoorPaBlkH7
section
set_option linter.unusedVariables false
set_option linter.unnecessarySimpa false
open Go AH
set_option linter.unusedSimpArgs false
set_option maxRecDepth 100000
namespace Go.Proofs.YthapdikdeoeplaaDoor.H7
noncomputable abbrev tSh : List (FuncId × RT) := [(25, sopN), (29, stateT), (27, seqT), (31, srecN), (28, sadN), (30, saT)]
noncomputable abbrev eSh : List (FuncId × ET) := [(8, newT), (25, sopT), (31, srecT), (28, sadT), (26, keepT)]
theorem tSh_ok : AllF S0 tSh := ⟨sopN_ok, stateT_ok, seqT_ok, srecN_ok, sadN_ok, saT_ok, trivial⟩
theorem eSh_ok : AllE S0 eSh := ⟨newT_ok, sopT_ok, srecT_ok, sadT_ok, keepT_ok, trivial⟩
theorem okSh0 : CtxOK S0 (ctxE S0 tSh [] eSh) := ctxE_ok tSh_ok trivial eSh_ok mixed
theorem rep3 (Z n : Nat) : List.replicate (2 * Z + n) zeB = lgL (List.replicate Z zeB ++ List.replicate Z zeB) (frs (0 + 1) []) [] n := by
  simp only [lgL, frs, List.length_nil, Nat.sub_zero, List.nil_append, List.append_nil, List.replicate_append_replicate]
  congr 1; omega
theorem newSt {Z n : Nat} (h : 2 * Z + n ≤ 4096) : newD ((2 * Z + n : Nat) : Int) = stD (List.replicate Z zeB) (List.replicate Z zeB) 0 [] n 0 := by
  rw [newD_rep h, rep3]; rfl
theorem stI_0 {Z n : Nat} (h1 : 1 ≤ Z) (h2 : Z ≤ 100) (h3 : 0 < n) (h4 : n ≤ 3000) : stI (List.replicate Z zeB) (List.replicate Z zeB) ⟨#[]⟩ 0 (-1) [] n Z :=
  ⟨by simp, by simp, h1, h2, h3, h4, fun x hx => by rw [(List.mem_replicate.1 hx).2]; exact zeB_sz, fun x hx => by rw [(List.mem_replicate.1 hx).2]; exact zeB_sz, by decide, .inl ⟨rfl, rfl, rfl, rdZ_zes _, rdZ_zes _⟩, Nat.zero_le _, fun x hx => by cases hx⟩
theorem stX_g (P Q : List ByteArray) (s : ByteArray) (b a : Int) (W : List ByteArray) (n : Nat) (w : Int) : (stX P Q s b a W n w).g = stG P Q b W n w := rfl
theorem stX_d (P Q : List ByteArray) (s : ByteArray) (b a : Int) (W : List ByteArray) (n : Nat) (w : Int) : (stX P Q s b a W n w).g.d = stD P Q b W n w := rfl
theorem stX_eta (P Q : List ByteArray) (s : ByteArray) (b a : Int) (W : List ByteArray) (n : Nat) (w : Int) : (⟨(stX P Q s b a W n w).g.d, (stX P Q s b a W n w).g.f, (stX P Q s b a W n w).g.t, (stX P Q s b a W n w).g.b, (stX P Q s b a W n w).g.a, (stX P Q s b a W n w).g.R, false⟩ : Lg) = (stX P Q s b a W n w).g := rfl
theorem sm_eq {W : List ByteArray} (h : W.length ≤ 1048576) (n1 n2 i j : Nat) (r1 r2 : Bool) (h1 : n1 = W.length) (h2 : n2 = W.length) : rt2Q 1 1 cStr cStr (fun L1 L2 (_ : Unit) => .bool (decide (L1 = L2))) n1 i n2 j (some (.row r1 1 (W.map strC))) (some (.row r2 1 (W.map strC))) (some ()) = some (.bool true, [i, j]) := by
  rw [saQ_eq h1 h2 h h]
  simp
def oneS : ByteArray := ⟨#[111, 110, 101]⟩
def twoS : ByteArray := ⟨#[116, 119, 111]⟩
def bothS : ByteArray := ⟨#[98, 111, 116, 104]⟩
def threeS : ByteArray := ⟨#[116, 104, 114, 101, 101]⟩
theorem sm_1 {i j n1 : Nat} {r1 r2 : Bool} {L1 : List ByteArray} {x : ByteArray} (h1 : n1 = L1.length) (h3 : L1.length ≤ 1048576) (hL : L1 = [x]) : rt2Q 1 1 cStr cStr (fun L1 L2 (_ : Unit) => .bool (decide (L1 = L2))) n1 i 1 j (some (.row r1 1 (L1.map strC))) (some (.row r2 1 [[.str x]])) (some ()) = some (.bool true, [i, j]) := by
  have := saQ_eq (i := i) (j := j) (r1 := r1) (r2 := r2) (L1 := L1) (L2 := [x]) h1 rfl h3 (by simp)
  rw [decide_eq_true hL] at this
  exact this
set_option maxHeartbeats 8000000 in
theorem sawake_ok : Pure S0 24 [] (.bool true) := by
  have n20 : newD 20 = stD (List.replicate 3 zeB) (List.replicate 3 zeB) 0 [] 14 0 := newSt (Z := 3) (n := 14) (by decide)
  have i0 := stI_0 (Z := 3) (n := 14) (by decide) (by decide) (by decide) (by decide)
  generalize List.replicate 3 zeB = P0 at *
  have d0 := i0.dok (w := 0)
  obtain ⟨w1, e1⟩ := i0.open (w := 0)
  have g1 := i0.gok (w := w1)
  obtain ⟨⟨w2, e2, k2⟩, i2⟩ := i0.add (w := w1) (r := oneS) (by decide) (by decide) (by decide)
  have g2 := i2.gok (w := w2)
  obtain ⟨⟨w3, e3, k3⟩, i3⟩ := i2.add (w := w2) (r := twoS) (by decide) (by decide) (by decide)
  have o3 := i3.ok (w := w3)
  obtain ⟨P, Q, w4, e4, i4, _⟩ := i3.keep (w := w3) (r := bothS) (by decide) (by decide)
  have g4 := i4.gok (w := w4)
  obtain ⟨⟨w5, e5, k5⟩, i5⟩ := i4.add (w := w4) (r := threeS) (by decide) (by decide) (by decide)
  have d5 := i5.dok (w := w5)
  obtain ⟨w6, e6⟩ := i5.open (w := w5)
  have g6 := i5.gok (w := w6)
  have E1 := stX_eta P0 P0 ⟨#[]⟩ 0 (-1) [] 14 w1
  have E6 := stX_eta P Q bothS (0 + (([] ++ [oneS] ++ [twoS] : List ByteArray).length : Int) + 1) (if (-1 : Int) = 0 then 1 else 0) ([] ++ [threeS]) 14 w6
  have s6 : (stX P Q bothS (0 + (([] ++ [oneS] ++ [twoS] : List ByteArray).length : Int) + 1) (if (-1 : Int) = 0 then 1 else 0) ([] ++ [threeS]) 14 w6).s = bothS := rfl
  have q6 : (stX P Q bothS (0 + (([] ++ [oneS] ++ [twoS] : List ByteArray).length : Int) + 1) (if (-1 : Int) = 0 then 1 else 0) ([] ++ [threeS]) 14 w6).seq = 4 := rfl
  have r6 : (stX P Q bothS (0 + (([] ++ [oneS] ++ [twoS] : List ByteArray).length : Int) + 1) (if (-1 : Int) = 0 then 1 else 0) ([] ++ [threeS]) 14 w6).g.R = [threeS] := rfl
  have D0 : stD P0 P0 0 [] 14 0 = (stX P0 P0 ⟨#[]⟩ 0 (-1) [] 14 0).g.d := rfl
  have f1 : (stX P0 P0 ⟨#[]⟩ 0 (-1) [] 14 w1).down = false := rfl
  have f2 : (stX P0 P0 ⟨#[]⟩ 0 (-1) ([] ++ [oneS]) 14 w2).down = false := rfl
  have f4 : (stX P Q bothS (0 + (([] ++ [oneS] ++ [twoS] : List ByteArray).length : Int) + 1) (if (-1 : Int) = 0 then 1 else 0) [] 14 w4).down = false := rfl
  have D5 : stD P Q (0 + (([] ++ [oneS] ++ [twoS] : List ByteArray).length : Int) + 1) ([] ++ [threeS]) 14 w5 = (stX P Q bothS (0 + (([] ++ [oneS] ++ [twoS] : List ByteArray).length : Int) + 1) (if (-1 : Int) = 0 then 1 else 0) ([] ++ [threeS]) 14 w5).g.d := rfl
  rw [D5] at e6 d5
  have c1 : stG P0 P0 0 [] 14 w1 = (stX P0 P0 ⟨#[]⟩ 0 (-1) [] 14 w1).g := rfl
  have c2 : stG P0 P0 0 ([] ++ [oneS]) 14 w2 = (stX P0 P0 ⟨#[]⟩ 0 (-1) ([] ++ [oneS]) 14 w2).g := rfl
  have c4 : stG P Q (0 + (([] ++ [oneS] ++ [twoS] : List ByteArray).length : Int) + 1) [] 14 w4 = (stX P Q bothS (0 + (([] ++ [oneS] ++ [twoS] : List ByteArray).length : Int) + 1) (if (-1 : Int) = 0 then 1 else 0) [] 14 w4).g := rfl
  have c6 : stG P Q (0 + (([] ++ [oneS] ++ [twoS] : List ByteArray).length : Int) + 1) ([] ++ [threeS]) 14 w6 = (stX P Q bothS (0 + (([] ++ [oneS] ++ [twoS] : List ByteArray).length : Int) + 1) (if (-1 : Int) = 0 then 1 else 0) ([] ++ [threeS]) 14 w6).g := rfl
  rw [c1] at g1; rw [c2] at g2; rw [c4] at g4; rw [c6] at g6
  generalize stX P0 P0 ⟨#[]⟩ 0 (-1) [] 14 w1 = X1 at *
  generalize stX P0 P0 ⟨#[]⟩ 0 (-1) ([] ++ [oneS]) 14 w2 = X2 at *
  generalize stX P0 P0 ⟨#[]⟩ 0 (-1) ([] ++ [oneS] ++ [twoS]) 14 w3 = X3 at *
  generalize stX P Q bothS (0 + (([] ++ [oneS] ++ [twoS] : List ByteArray).length : Int) + 1) (if (-1 : Int) = 0 then 1 else 0) [] 14 w4 = X4 at *
  generalize stX P Q bothS (0 + (([] ++ [oneS] ++ [twoS] : List ByteArray).length : Int) + 1) (if (-1 : Int) = 0 then 1 else 0) ([] ++ [threeS]) 14 w5 = X5 at *
  generalize stX P Q bothS (0 + (([] ++ [oneS] ++ [twoS] : List ByteArray).length : Int) + 1) (if (-1 : Int) = 0 then 1 else 0) ([] ++ [threeS]) 14 w6 = X6 at *
  generalize stD P0 P0 0 [] 14 0 = DD at *
  have m2 : sadM X1 oneS = soM2 none X2 := by unfold sadM; rw [if_pos ⟨f1, k2⟩, e2]
  have m3 : sadM X2 twoS = soM2 none X3 := by unfold sadM; rw [if_pos ⟨f2, k3⟩, e3]
  have m5 : sadM X4 threeS = soM2 none X5 := by unfold sadM; rw [if_pos ⟨f4, k5⟩, e5]
  clear f1 f2 f4 k2 k3 k5
  clear D0 D5 c1 c2 c4 c6 i0 i2 i3 i4 i5
  have hl6 : X6.g.R.length ≤ 1048576 := by rw [r6]; decide
  have hs6 : (X6.s.toList == bothS.toList) = true := by rw [s6]; exact tl_self _
  have z1 : okSz oneS := okSz_of (by decide)
  have z2 : okSz twoS := okSz_of (by decide)
  have z3 : okSz bothS := okSz_of (by decide)
  have z4 : okSz threeS := okSz_of (by decide)
  have y1 : (⟨#[111, 110, 101]⟩ : ByteArray) = oneS := rfl
  have y2 : (⟨#[116, 119, 111]⟩ : ByteArray) = twoS := rfl
  have y3 : (⟨#[98, 111, 116, 104]⟩ : ByteArray) = bothS := rfl
  have y4 : (⟨#[116, 104, 114, 101, 101]⟩ : ByteArray) = threeS := rfl
  have k3' : ((3 : Nat) : Int) = 3 := rfl
  rw [k3'] at e1 e6
  refine fun_sound okSh0 Tryd.func24 c24 ?_
  unfold wpF F24
  simp only [AH.SD, AH.SE, AOp.call?, AOp.next?, bstep, AV.cells, unAV, binAV, retQ, retV, AH.sliceElems, AH.bytesOf, AH.strOp, AH.bound, AH.missQ, AH.minmaxAV, AH.readOf, AH.effOf, Nat.reduceBEq, Nat.reduceAdd, Nat.reduceLT, ↓reduceIte, Nat.reduceEqDiff, Nat.reduceLeDiff, Nat.reduceSub, Nat.reduceMul, Int.reduceSub, Int.reduceToNat, Int.reduceBEq, Int.reduceBNe, Int.reduceLT, Int.reduceGT, Int.reduceLE, Int.reduceGE, Int.reduceNeg, Int.reduceAdd, AH.SP, AH.PD, AV.inB, vstep, vw, shift, newOnes, rowsM, blkIn, rwB, @flat_lts, AV.lt, AV.lts, Nat.sub_self, AH.SO, newT_eq, n20, dkM, sopN_p, sopT_p, lgR_eq, lgU_eq, Lg.eta, ne4, no4, soR_eq, soS_eq, So.eta, Bool.not_false, Bool.and_self, if_true, dkR_eq, dkB_eq, Dk.eta, ne_eq, Nat.reduceEqDiff, Nat.zero_ne_one, not_false_eq_true, d0, e1, sopA, sopM, E1, y1, y2, y3, y4, sadN_p, sadT_p, g1, g2, g4, z1, z2, z3, z4, and_self, e2, e3, e4, e5, e6, m2, m3, m5, soM2, errA0, errA_ren, errA_nil, keepT_p, o3, keepM, d5, E6, stateT_p, hs6, srecN_p, srecT_p, hl6, soM, saT_p, sm_1 rfl hl6 r6, seqT_p, g6, q6, List.cons_append, List.nil_append, show ((4 : Int) == 4) = true from rfl]
  try trivial
def sawakeT : RT := rtP c0 fun _ => .bool true
theorem sawakeT_ok : ReadF S0 24 sawakeT := rtP_ok (fun _ => sawake_ok) fun _ => rfl
theorem sawakeT_eq (M : Nat → Option Blk) : sawakeT [] M = some (.bool true, []) := rfl
end Go.Proofs.YthapdikdeoeplaaDoor.H7
end
section
set_option linter.unusedVariables false
set_option linter.unnecessarySimpa false
open Go AH
namespace Go.Proofs.YthapdikdeoeplaaDoor.H7
-- quitrent/quitrentlaw07.ShotTurns
def F6 : AFun := ⟨108,2,[.tmp 4],(.seq (.reg [⟨some 4,none,.mov (.c (.bool false))⟩]) (.seq (.seq (.reg [⟨some 15,none,.call (.c (.fn 24 [] [])) []⟩,⟨some 16,none,.un .not (.t 15)⟩]) (.cond (.t 16) (.seq (.reg [⟨some 4,none,.mov (.c (.bool false))⟩]) .ret) .skip)) (.seq (.seq (.reg [⟨some 17,none,.mov (.t 0)⟩,⟨some 18,none,.len .sl (.t 17)⟩,⟨some 19,none,.ibin .gtr (.t 18) (.c (.int .i64 12))⟩]) (.cond (.t 19) (.seq (.reg [⟨some 4,none,.mov (.c (.bool true))⟩]) .ret) .skip)) (.seq (.reg [⟨some 20,none,.call (.c (.fn 8 [] [])) [(.c (.int .i64 30))]⟩,⟨some 5,none,.mov (.t 20)⟩]) (.seq (.reg [⟨some 22,none,.mov (.t 5)⟩,⟨some 23,none,.call (.c (.fn 25 [] [])) [(.t 22),(.c (.int .i64 4))]⟩,⟨some 21,none,.mov (.t 23)⟩,⟨some 24,none,.extract (.t 21) 0⟩,⟨some 25,none,.extract (.t 21) 1⟩,⟨some 6,none,.mov (.t 24)⟩,⟨some 7,none,.mov (.t 25)⟩]) (.seq (.seq (.reg [⟨some 26,none,.mov (.t 7)⟩,⟨some 27,none,.eq true .iface true (.t 26) (.c .nili)⟩]) (.cond (.t 27) (.seq (.reg [⟨some 4,none,.mov (.c (.bool false))⟩]) .ret) .skip)) (.seq (.reg [⟨some 8,none,.mov (.c (.str ⟨#[]⟩))⟩]) (.seq (.seq (.reg [⟨some 9,none,.mov (.c (.int .i64 0))⟩]) (.block 0 (.loop (.seq (.seq (.reg [⟨some 28,none,.mov (.t 9)⟩,⟨some 29,none,.mov (.t 0)⟩,⟨some 30,none,.len .sl (.t 29)⟩,⟨some 31,none,.ibin .lss (.t 28) (.t 30)⟩]) (.cond (.t 31) .skip (.exit 0))) (.seq (.block 1 (.seq (.seq (.reg [⟨some 34,none,.mov (.t 0)⟩,⟨some 35,none,.mov (.t 9)⟩,⟨some 36,none,.iaddrSl 1 (.t 34) (.t 35)⟩,⟨some 37,none,.load false 1 (.t 36)⟩,⟨some 38,none,.len .str (.t 37)⟩,⟨some 39,none,.ibin .gtr (.t 38) (.c (.int .i64 100))⟩]) (.cond (.t 39) (.seq (.reg [⟨some 4,none,.mov (.c (.bool true))⟩]) .ret) .skip)) (.seq (.seq (.reg [⟨some 40,none,.mov (.t 6)⟩,⟨some 41,none,.mov (.t 0)⟩,⟨some 42,none,.mov (.t 9)⟩,⟨some 43,none,.iaddrSl 1 (.t 41) (.t 42)⟩,⟨some 44,none,.load false 1 (.t 43)⟩,⟨some 45,none,.call (.c (.fn 26 [] [])) [(.t 40),(.t 44)]⟩,⟨some 46,none,.eq true .iface true (.t 45) (.c .nili)⟩,⟨some 47,none,.mov (.t 46)⟩,⟨some 48,(some (47,false)),.mov (.t 6)⟩,⟨some 49,(some (47,false)),.call (.c (.fn 27 [] [])) [(.t 48)]⟩,⟨some 50,(some (47,false)),.mov (.t 9)⟩,⟨some 51,(some (47,false)),.ibin .add (.t 50) (.c (.int .i64 1))⟩,⟨some 52,(some (47,false)),.ibin .neq (.t 49) (.t 51)⟩,⟨some 53,none,.pick (.t 47) (.c (.bool true)) (.t 52)⟩]) (.cond (.t 53) (.seq (.reg [⟨some 4,none,.mov (.c (.bool false))⟩]) .ret) .skip)) (.reg [⟨some 54,none,.mov (.t 0)⟩,⟨some 55,none,.mov (.t 9)⟩,⟨some 56,none,.iaddrSl 1 (.t 54) (.t 55)⟩,⟨some 57,none,.load false 1 (.t 56)⟩,⟨some 8,none,.mov (.t 57)⟩])))) (.reg [⟨some 32,none,.mov (.t 9)⟩,⟨some 33,none,.ibin .add (.t 32) (.c (.int .i64 1))⟩,⟨some 9,none,.mov (.t 33)⟩])))))) (.seq (.reg [⟨some 58,none,.mov (.t 1)⟩,⟨some 59,none,.i2i .u64 (.t 58)⟩,⟨some 60,none,.ibin .rem (.t 59) (.c (.int .u64 5))⟩,⟨some 61,none,.i2i .i64 (.t 60)⟩,⟨some 10,none,.mov (.t 61)⟩]) (.seq (.reg [⟨some 62,none,.bslice 1 0 [(.str ⟨#[]⟩)] []⟩,⟨some 11,none,.mov (.t 62)⟩]) (.seq (.seq (.reg [⟨some 12,none,.mov (.c (.int .i64 0))⟩]) (.block 2 (.loop (.seq (.seq (.reg [⟨some 63,none,.mov (.t 12)⟩,⟨some 64,none,.mov (.t 10)⟩,⟨some 65,none,.ibin .lss (.t 63) (.t 64)⟩]) (.cond (.t 65) .skip (.exit 2))) (.seq (.block 3 (.seq (.seq (.reg [⟨some 68,none,.mov (.t 6)⟩,⟨some 69,none,.call (.c (.fn 28 [] [])) [(.t 68),(.c (.str ⟨#[114]⟩))]⟩,⟨some 70,none,.eq true .iface true (.t 69) (.c .nili)⟩]) (.cond (.t 70) (.seq (.reg [⟨some 4,none,.mov (.c (.bool false))⟩]) .ret) .skip)) (.reg [⟨some 71,none,.mov (.t 11)⟩,⟨some 72,none,.bslice 1 1 [(.str ⟨#[]⟩)] [(0,1,(.c (.str ⟨#[114]⟩)))]⟩,⟨some 73,none,.append 1 16 [(.str ⟨#[]⟩)] (.t 71) (.t 72)⟩,⟨some 11,none,.mov (.t 73)⟩]))) (.reg [⟨some 66,none,.mov (.t 12)⟩,⟨some 67,none,.ibin .add (.t 66) (.c (.int .i64 1))⟩,⟨some 12,none,.mov (.t 67)⟩])))))) (.seq (.reg [⟨some 75,none,.mov (.t 5)⟩,⟨some 76,none,.call (.c (.fn 25 [] [])) [(.t 75),(.c (.int .i64 4))]⟩,⟨some 74,none,.mov (.t 76)⟩,⟨some 77,none,.extract (.t 74) 0⟩,⟨some 78,none,.extract (.t 74) 1⟩,⟨some 13,none,.mov (.t 77)⟩,⟨some 14,none,.mov (.t 78)⟩]) (.seq (.reg [⟨some 79,none,.mov (.t 14)⟩,⟨some 80,none,.eq false .iface true (.t 79) (.c .nili)⟩,⟨some 81,none,.mov (.t 80)⟩,⟨some 82,(some (81,true)),.mov (.t 13)⟩,⟨some 83,(some (81,true)),.call (.c (.fn 29 [] [])) [(.t 82)]⟩,⟨some 84,(some (81,true)),.mov (.t 8)⟩,⟨some 85,(some (81,true)),.ibin .eql (.t 83) (.t 84)⟩,⟨some 86,none,.pick (.t 81) (.t 85) (.c (.bool false))⟩,⟨some 87,none,.mov (.t 86)⟩,⟨some 88,(some (87,true)),.mov (.t 13)⟩,⟨some 89,(some (87,true)),.call (.c (.fn 31 [] [])) [(.t 88)]⟩,⟨some 90,(some (87,true)),.mov (.t 11)⟩,⟨some 91,(some (87,true)),.call (.c (.fn 30 [] [])) [(.t 89),(.t 90)]⟩,⟨some 92,none,.pick (.t 87) (.t 91) (.c (.bool false))⟩,⟨some 93,none,.mov (.t 92)⟩,⟨some 94,(some (93,true)),.mov (.t 13)⟩,⟨some 95,(some (93,true)),.call (.c (.fn 27 [] [])) [(.t 94)]⟩,⟨some 96,(some (93,true)),.mov (.t 0)⟩,⟨some 97,(some (93,true)),.len .sl (.t 96)⟩,⟨some 98,(some (93,true)),.mov (.t 10)⟩,⟨some 99,(some (93,true)),.ibin .add (.t 97) (.t 98)⟩,⟨some 100,(some (93,true)),.ibin .eql (.t 95) (.t 99)⟩,⟨some 101,none,.pick (.t 93) (.t 100) (.c (.bool false))⟩,⟨some 102,none,.mov (.t 101)⟩,⟨some 103,(some (102,true)),.mov (.t 6)⟩,⟨some 104,(some (102,true)),.call (.c (.fn 29 [] [])) [(.t 103)]⟩,⟨some 105,(some (102,true)),.mov (.t 8)⟩,⟨some 106,(some (102,true)),.ibin .eql (.t 104) (.t 105)⟩,⟨some 107,none,.pick (.t 102) (.t 106) (.c (.bool false))⟩,⟨some 4,none,.mov (.t 107)⟩]) .ret)))))))))))))⟩
theorem c6 : cFun Tryd.prog [1, 0, 4, 2, 3] Tryd.f6 = some F6 := by kernel_rfl
end Go.Proofs.YthapdikdeoeplaaDoor.H7
end
section
set_option linter.unusedVariables false
set_option linter.unnecessarySimpa false
open Go AH
set_option linter.unusedSimpArgs false
set_option maxRecDepth 100000
namespace Go.Proofs.YthapdikdeoeplaaDoor.H7
theorem okTu : CtxOK S0 (ctxE S0 ((24, sawakeT) :: tSh) [] eSh) := ctxE_ok ⟨sawakeT_ok, tSh_ok⟩ trivial eSh_ok mixed
def rS : ByteArray := ⟨#[114]⟩
theorem mod_u (x : Int) {m : Int} (h1 : 1 ≤ m) (h2 : m ≤ 2199023255552) : ∃ k : Nat, IntKind.i64.wrap ((IntKind.u64.wrap x).tmod m) = (k : Int) ∧ (k : Int) < m := by
  have h0 : 0 ≤ IntKind.u64.wrap x := by rw [IntKind.wrap_u64]; omega
  have h3 : (IntKind.u64.wrap x).tmod m = IntKind.u64.wrap x % m := Int.tmod_eq_emod_of_nonneg h0
  have h4 := Int.emod_nonneg (IntKind.u64.wrap x) (by omega : m ≠ 0)
  have h5 := Int.emod_lt_of_pos (IntKind.u64.wrap x) (by omega : (0 : Int) < m)
  rw [h3]
  generalize IntKind.u64.wrap x % m = r at *
  refine ⟨r.toNat, ?_, by omega⟩
  rw [IntKind.wrap_i64]
  omega
theorem sm_e2 {A W : List ByteArray} (e : A = W) (h : A.length ≤ 1048576) (n1 n2 i j : Nat) (r1 r2 : Bool) (h1 : n1 = A.length) (h2 : n2 = W.length) : rt2Q 1 1 cStr cStr (fun L1 L2 (_ : Unit) => .bool (decide (L1 = L2))) n1 i n2 j (some (.row r1 1 (A.map strC))) (some (.row r2 1 (W.map strC))) (some ()) = some (.bool true, [i, j]) := by
  subst e
  rw [saQ_eq h1 h2 h h]
  simp
def shR (X : So) : Mem := [some (.row false 5 [[.slc 2 0 X.g.d.L.length none, .bool X.g.d.away, .int .i64 X.g.d.fuse, .int .i64 X.g.d.torn, .int .i64 X.g.d.writes]]), some (.row false 1 (X.g.d.L.map strC)),
  some (.row false 7 [[.ptr 1 0 0, .int .i64 X.z, .str X.s, .int .i64 X.b, .int .i64 X.a, .ptr 4 0 0, .bool X.down]]),
  some (.row false 7 [[.ptr 1 0 0, .int .i64 X.g.f, .int .i64 X.g.t, .int .i64 X.g.b, .int .i64 X.g.a, .slc 5 0 X.g.R.length none, .bool X.g.down]]), some (.row false 1 (X.g.R.map strC))]
structure TX where
  i : Nat
  P : List ByteArray
  Q : List ByteArray
  s : ByteArray
  a : Int
  w : Int
def TX.x (t : TX) : So := stX t.P t.Q t.s t.i t.a [] 22 t.w
def tuSt (l : List ByteArray) (more : Int) (t : TX) : St := ⟨[(9, .int .i64 t.i), (8, .str t.s), (6, .ptr 3 0 0), (5, .ptr 1 0 0), (1, .int .i64 more), (0, .slc 0 0 l.length none)], some (.row true 1 (l.map strC)) :: shR t.x⟩
def tu2St (l : List ByteArray) (k : Nat) (s : ByteArray) (X : So) (j : Nat) : St := ⟨[(12, .int .i64 j), (11, .slc 6 0 X.g.R.length none), (10, .int .i64 k), (8, .str s), (6, .ptr 3 0 0), (5, .ptr 1 0 0), (0, .slc 0 0 l.length none)], some (.row true 1 (l.map strC)) :: (shR X ++ [some (.row false 1 (X.g.R.map strC))])⟩
structure UX where
  j : Nat
  W : List ByteArray
  w : Int
def UX.x (P Q : List ByteArray) (s : ByteArray) (b a : Int) (u : UX) : So := stX P Q s b a u.W 22 u.w
set_option maxHeartbeats 16000000 in
theorem turns_ok (l : List ByteArray) (more : Int) : CallA1 S0 6 [.slc 0 0 l.length none, .int .i64 more] [some (.row true 1 (l.map strC))] fun r _ => r = .bool true := by
  have n30 : newD 30 = stD (List.replicate 4 zeB) (List.replicate 4 zeB) 0 [] 22 0 := newSt (Z := 4) (n := 22) (by decide)
  have i0 := stI_0 (Z := 4) (n := 22) (by decide) (by decide) (by decide) (by decide)
  generalize List.replicate 4 zeB = P0 at *
  have d0 := i0.dok (w := 0)
  obtain ⟨w1, e1⟩ := i0.open (w := 0)
  have k4' : ((4 : Nat) : Int) = 4 := rfl
  rw [k4'] at e1
  have D0 : stD P0 P0 0 [] 22 0 = (stX P0 P0 ⟨#[]⟩ 0 (-1) [] 22 0).g.d := rfl
  have E1 := stX_eta P0 P0 ⟨#[]⟩ 0 (-1) [] 22 w1
  have x1 : (TX.mk 0 P0 P0 ⟨#[]⟩ (-1) w1).x = stX P0 P0 ⟨#[]⟩ 0 (-1) [] 22 w1 := rfl
  refine fun_sound okTu Tryd.func6 c6 ?_
  unfold wpF F6
  cases h12 : decide ((l.length : Int) > 12)
  rotate_left
  · simp only [AH.SD, AH.SE, AOp.call?, AOp.next?, bstep, AV.cells, unAV, binAV, retQ, retV, AH.sliceElems, AH.bytesOf, AH.strOp, AH.bound, AH.missQ, AH.minmaxAV, AH.readOf, AH.effOf, Nat.reduceBEq, Nat.reduceAdd, Nat.reduceLT, ↓reduceIte, Nat.reduceEqDiff, Nat.reduceLeDiff, Nat.reduceSub, Nat.reduceMul, Int.reduceSub, Int.reduceToNat, Int.reduceBEq, Int.reduceBNe, Int.reduceLT, Int.reduceGT, Int.reduceLE, Int.reduceGE, Int.reduceNeg, Int.reduceAdd, AH.SP, AH.PD, AV.inB, vstep, vw, shift, newOnes, rowsM, blkIn, rwB, @flat_lts, AV.lt, AV.lts, Nat.sub_self, AH.SO, sawakeT_eq, h12]
  have hl12 : l.length ≤ 12 := by simp only [decide_eq_false_iff_not] at h12; omega
  have es : (stX P0 P0 ⟨#[]⟩ 0 (-1) [] 22 w1).s = ⟨#[]⟩ := rfl
  rw [← x1] at e1 E1 es
  have hs1 : (⟨#[]⟩ : ByteArray) = (TX.mk 0 P0 P0 ⟨#[]⟩ (-1) w1).s := rfl
  simp only [AH.SD, AH.SE, AOp.call?, AOp.next?, bstep, AV.cells, unAV, binAV, retQ, retV, AH.sliceElems, AH.bytesOf, AH.strOp, AH.bound, AH.missQ, AH.minmaxAV, AH.readOf, AH.effOf, Nat.reduceBEq, Nat.reduceAdd, Nat.reduceLT, ↓reduceIte, Nat.reduceEqDiff, Nat.reduceLeDiff, Nat.reduceSub, Nat.reduceMul, Int.reduceSub, Int.reduceToNat, Int.reduceBEq, Int.reduceBNe, Int.reduceLT, Int.reduceGT, Int.reduceLE, Int.reduceGE, Int.reduceNeg, Int.reduceAdd, AH.SP, AH.PD, AV.inB, vstep, vw, shift, newOnes, rowsM, blkIn, rwB, @flat_lts, AV.lt, AV.lts, Nat.sub_self, AH.SO, sawakeT_eq, h12, newT_eq, n30, dkM, sopN_p, sopT_p, lgR_eq, lgU_eq, Lg.eta, ne4, no4, soR_eq, soS_eq, So.eta, Bool.not_false, Bool.and_self, if_true, dkR_eq, dkB_eq, Dk.eta, ne_eq, Nat.reduceEqDiff, Nat.zero_ne_one, not_false_eq_true, d0, e1, sopA, sopM, errA_nil]
  refine loop_do [0, 1, 2, 3, 4, 5] [9, 8, 6, 5, 1, 0] [] (α := TX) (fun t => l.length - t.i) (tuSt l more) (fun t => t.i ≤ l.length ∧ stI t.P t.Q t.s t.i t.a [] 22 4) ⟨0, P0, P0, ⟨#[]⟩, -1, w1⟩ ⟨Nat.zero_le _, i0⟩ (by
    simp only [AH.SD, AH.SE, AOp.call?, AOp.next?, bstep, AV.cells, unAV, binAV, retQ, retV, AH.sliceElems, AH.bytesOf, AH.strOp, AH.bound, AH.missQ, AH.minmaxAV, AH.readOf, AH.effOf, Nat.reduceBEq, Nat.reduceAdd, Nat.reduceLT, ↓reduceIte, Nat.reduceEqDiff, Nat.reduceLeDiff, Nat.reduceSub, Nat.reduceMul, Int.reduceSub, Int.reduceToNat, Int.reduceBEq, Int.reduceBNe, Int.reduceLT, Int.reduceGT, Int.reduceLE, Int.reduceGE, Int.reduceNeg, Int.reduceAdd, AH.SP, AH.PD, AV.inB, vstep, tuSt, shR]
    try rfl) ?_
  clear i0 d0 e1 D0 E1 x1 es hs1 n30 h12
  rintro X ⟨i, P, Q, s, a, w⟩ ⟨hi, hI⟩ ih
  simp only at hi hI
  have hx : (TX.mk i P Q s a w).x = stX P Q s i a [] 22 w := rfl
  simp only [AH.SD, AH.SE, AOp.call?, AOp.next?, bstep, AV.cells, unAV, binAV, retQ, retV, AH.sliceElems, AH.bytesOf, AH.strOp, AH.bound, AH.missQ, AH.minmaxAV, AH.readOf, AH.effOf, Nat.reduceBEq, Nat.reduceAdd, Nat.reduceLT, ↓reduceIte, Nat.reduceEqDiff, Nat.reduceLeDiff, Nat.reduceSub, Nat.reduceMul, Int.reduceSub, Int.reduceToNat, Int.reduceBEq, Int.reduceBNe, Int.reduceLT, Int.reduceGT, Int.reduceLE, Int.reduceGE, Int.reduceNeg, Int.reduceAdd, AH.SP, AH.PD, AV.inB, vstep, vw, shift, newOnes, rowsM, blkIn, rwB, @flat_lts, AV.lt, AV.lts, Nat.sub_self, AH.SO, tuSt, shR]
  rw [hx]
  cases c1 : decide ((i : Int) < (l.length : Int))
  rotate_left
  · have hil2 := lt_of_dec c1
    have hgi : (l.map strC).getD i [] = strC l[i] := getD_enc hil2
    have hok := hI.ok (w := w)
    cases c2 : decide ((l[i].size : Int) > 100)
    rotate_left
    · simp only [AH.SD, AH.SE, AOp.call?, AOp.next?, bstep, AV.cells, unAV, binAV, retQ, retV, AH.sliceElems, AH.bytesOf, AH.strOp, AH.bound, AH.missQ, AH.minmaxAV, AH.readOf, AH.effOf, Nat.reduceBEq, Nat.reduceAdd, Nat.reduceLT, ↓reduceIte, Nat.reduceEqDiff, Nat.reduceLeDiff, Nat.reduceSub, Nat.reduceMul, Int.reduceSub, Int.reduceToNat, Int.reduceBEq, Int.reduceBNe, Int.reduceLT, Int.reduceGT, Int.reduceLE, Int.reduceGE, Int.reduceNeg, Int.reduceAdd, AH.SP, AH.PD, AV.inB, vstep, vw, shift, newOnes, rowsM, blkIn, rwB, @flat_lts, AV.lt, AV.lts, Nat.sub_self, AH.SO, hgi, strC_eq, c2]
      omega
    have hs100 : l[i].size ≤ 100 := by simp only [decide_eq_false_iff_not] at c2; omega
    have hsok : okSz l[i] := okSz_of (by omega)
    obtain ⟨P', Q', w', e4, hI', -⟩ := hI.keep (w := w) (r := l[i]) (by unfold sizeN; omega) (by simp only [List.length_nil]; omega)
    have eb : (i : Int) + (([] : List ByteArray).length : Int) + 1 = ((i + 1 : Nat) : Int) := by simp only [List.length_nil]; omega
    rw [eb] at e4 hI'
    have hg' := hI'.gok (w := w')
    have done := ih ⟨i + 1, P', Q', l[i], (if a = 0 then 1 else 0), w'⟩ ⟨hil2, hI'⟩ (by simp only; omega)
    have hx' : (TX.mk (i + 1) P' Q' l[i] (if a = 0 then 1 else 0) w').x = stX P' Q' l[i] ((i + 1 : Nat) : Int) (if a = 0 then 1 else 0) [] 22 w' := rfl
    simp only [tuSt, shR] at done
    rw [hx'] at done
    have q' : (stX P' Q' l[i] ((i + 1 : Nat) : Int) (if a = 0 then 1 else 0) [] 22 w').seq = ((i + 1 : Nat) : Int) := by
      rw [stI.seq]; simp
    have cg : stG P' Q' ((i + 1 : Nat) : Int) [] 22 w' = (stX P' Q' l[i] ((i + 1 : Nat) : Int) (if a = 0 then 1 else 0) [] 22 w').g := rfl
    rw [cg] at hg'
    have wi := wrapS (i := i) (by omega)
    clear hx hx' hI hI' cg
    generalize stX P Q s i a [] 22 w = X1 at *
    generalize stX P' Q' l[i] ((i + 1 : Nat) : Int) (if a = 0 then 1 else 0) [] 22 w' = X2 at *
    simp only [AH.SD, AH.SE, AOp.call?, AOp.next?, bstep, AV.cells, unAV, binAV, retQ, retV, AH.sliceElems, AH.bytesOf, AH.strOp, AH.bound, AH.missQ, AH.minmaxAV, AH.readOf, AH.effOf, Nat.reduceBEq, Nat.reduceAdd, Nat.reduceLT, ↓reduceIte, Nat.reduceEqDiff, Nat.reduceLeDiff, Nat.reduceSub, Nat.reduceMul, Int.reduceSub, Int.reduceToNat, Int.reduceBEq, Int.reduceBNe, Int.reduceLT, Int.reduceGT, Int.reduceLE, Int.reduceGE, Int.reduceNeg, Int.reduceAdd, AH.SP, AH.PD, AV.inB, vstep, vw, shift, newOnes, rowsM, blkIn, rwB, @flat_lts, AV.lt, AV.lts, Nat.sub_self, AH.SO, hgi, strC_eq, c2, keepT_p, lgR_eq, lgU_eq, Lg.eta, ne4, no4, soR_eq, soS_eq, So.eta, Bool.not_false, Bool.and_self, if_true, dkR_eq, dkB_eq, Dk.eta, ne_eq, Nat.reduceEqDiff, Nat.zero_ne_one, not_false_eq_true, hok, hsok, and_self, e4, keepM, soM2, errA0, errA_nil, seqT_p, hg', q', wi, beq_self_eq_true, bne_self_eq_false, List.cons_append, List.nil_append]
    repeat ((with_reducible refine And.intro ?_ ?_); focus (first | rfl | decide | omega | (simp only [List.length_map, and_true]; omega) | (simp only [List.length_map, List.length_set, and_true]; omega)))
    refine gc_auto [0, 1, 2, 3, 4, 6] [9, 8, 6, 5, 1, 0] [] ?_
    simp only [AH.SD, AH.SE, AOp.call?, AOp.next?, bstep, AV.cells, unAV, binAV, retQ, retV, AH.sliceElems, AH.bytesOf, AH.strOp, AH.bound, AH.missQ, AH.minmaxAV, AH.readOf, AH.effOf, Nat.reduceBEq, Nat.reduceAdd, Nat.reduceLT, ↓reduceIte, Nat.reduceEqDiff, Nat.reduceLeDiff, Nat.reduceSub, Nat.reduceMul, Int.reduceSub, Int.reduceToNat, Int.reduceBEq, Int.reduceBNe, Int.reduceLT, Int.reduceGT, Int.reduceLE, Int.reduceGE, Int.reduceNeg, Int.reduceAdd, AH.SP, AH.PD, AV.inB, vstep]
    exact done
  have hil : i = l.length := by simp only [decide_eq_false_iff_not] at c1; omega
  clear ih
  obtain ⟨k, hk, hk5⟩ := mod_u more (m := 5) (by decide) (by decide)
  have hk4 : k ≤ 4 := by omega
  have ew : (stX P Q s i a [] 22 w).g.R = [] := rfl
  simp only [AH.SD, AH.SE, AOp.call?, AOp.next?, bstep, AV.cells, unAV, binAV, retQ, retV, AH.sliceElems, AH.bytesOf, AH.strOp, AH.bound, AH.missQ, AH.minmaxAV, AH.readOf, AH.effOf, Nat.reduceBEq, Nat.reduceAdd, Nat.reduceLT, ↓reduceIte, Nat.reduceEqDiff, Nat.reduceLeDiff, Nat.reduceSub, Nat.reduceMul, Int.reduceSub, Int.reduceToNat, Int.reduceBEq, Int.reduceBNe, Int.reduceLT, Int.reduceGT, Int.reduceLE, Int.reduceGE, Int.reduceNeg, Int.reduceAdd, AH.SP, AH.PD, AV.inB, vstep, vw, shift, newOnes, rowsM, blkIn, rwB, @flat_lts, AV.lt, AV.lts, Nat.sub_self, AH.SO, hk]
  refine ⟨by decide, ?_⟩
  refine loop_do [0, 1, 2, 3, 4, 5, 6] [12, 11, 10, 8, 6, 5, 0] [.cap 11] (α := UX) (fun u => k - u.j) (fun u => tu2St l k s (u.x P Q s i a) u.j) (fun u => u.j ≤ k ∧ u.W.length = u.j ∧ (frs ((i : Int) + 1) u.W).length = u.j ∧ stI P Q s i a u.W 22 4) ⟨0, [], w⟩ ⟨Nat.zero_le _, rfl, rfl, hI⟩ (by
    simp only [AH.SD, AH.SE, AOp.call?, AOp.next?, bstep, AV.cells, unAV, binAV, retQ, retV, AH.sliceElems, AH.bytesOf, AH.strOp, AH.bound, AH.missQ, AH.minmaxAV, AH.readOf, AH.effOf, Nat.reduceBEq, Nat.reduceAdd, Nat.reduceLT, ↓reduceIte, Nat.reduceEqDiff, Nat.reduceLeDiff, Nat.reduceSub, Nat.reduceMul, Int.reduceSub, Int.reduceToNat, Int.reduceBEq, Int.reduceBNe, Int.reduceLT, Int.reduceGT, Int.reduceLE, Int.reduceGE, Int.reduceNeg, Int.reduceAdd, AH.SP, AH.PD, AV.inB, vstep, tu2St, shR]
    try rfl) ?_
  clear hI hx c1 ew
  rintro X ⟨j, W, w⟩ ⟨hj, hWj, hfj, hI⟩ ih
  simp only at hj hWj hfj hI
  have hx : (UX.mk j W w).x P Q s i a = stX P Q s i a W 22 w := rfl
  simp only [AH.SD, AH.SE, AOp.call?, AOp.next?, bstep, AV.cells, unAV, binAV, retQ, retV, AH.sliceElems, AH.bytesOf, AH.strOp, AH.bound, AH.missQ, AH.minmaxAV, AH.readOf, AH.effOf, Nat.reduceBEq, Nat.reduceAdd, Nat.reduceLT, ↓reduceIte, Nat.reduceEqDiff, Nat.reduceLeDiff, Nat.reduceSub, Nat.reduceMul, Int.reduceSub, Int.reduceToNat, Int.reduceBEq, Int.reduceBNe, Int.reduceLT, Int.reduceGT, Int.reduceLE, Int.reduceGE, Int.reduceNeg, Int.reduceAdd, AH.SP, AH.PD, AV.inB, vstep, vw, shift, newOnes, rowsM, blkIn, rwB, @flat_lts, AV.lt, AV.lts, Nat.sub_self, AH.SO, tu2St, shR]
  rw [hx]
  cases c1 : decide ((j : Int) < (k : Int))
  rotate_left
  · have hjk : j < k := by simp only [decide_eq_true_eq] at c1; omega
    have hg := hI.gok (w := w)
    obtain ⟨⟨w', e, k1⟩, hI'⟩ := hI.add (w := w) (r := rS) (by decide) (by rw [hfj]; show j + 1 ≤ 22; omega) (by omega)
    have hg' := hI'.gok (w := w')
    have hf' : (frs ((i : Int) + 1) (W ++ [rS])).length = j + 1 := by rw [frs_snoc, List.length_append, blkL_len, hfj]; rfl
    have hW' : (W ++ [rS]).length = j + 1 := by rw [List.length_append, hWj]; rfl
    have done := ih ⟨j + 1, W ++ [rS], w'⟩ ⟨hjk, hW', hf', hI'⟩ (by simp only; omega)
    have hx' : (UX.mk (j + 1) (W ++ [rS]) w').x P Q s i a = stX P Q s i a (W ++ [rS]) 22 w' := rfl
    simp only [tu2St, shR] at done
    rw [hx'] at done
    have m1 : sadM (stX P Q s i a W 22 w) rS = soM2 none (stX P Q s i a (W ++ [rS]) 22 w') := by unfold sadM; rw [if_pos ⟨rfl, k1⟩, e]
    have cg : stG P Q i W 22 w = (stX P Q s i a W 22 w).g := rfl
    have hsW : (stX P Q s i a W 22 w).g.R.map strC ++ [[.str rS]] = (stX P Q s i a (W ++ [rS]) 22 w').g.R.map strC := by
      show W.map strC ++ [[.str rS]] = (W ++ [rS]).map strC
      rw [List.map_append]; rfl
    have hWl : (stX P Q s i a W 22 w).g.R.length + 1 = (stX P Q s i a (W ++ [rS]) 22 w').g.R.length := by
      show W.length + 1 = (W ++ [rS]).length
      rw [List.length_append]; rfl
    rw [cg] at hg
    have hWc : (stX P Q s i a (W ++ [rS]) 22 w').g.R.length ≤ 5 := by show (W ++ [rS]).length ≤ 5; omega
    have wi := wrapS (i := j) (by omega)
    have zr : okSz rS := okSz_of (by decide)
    have yr : (⟨#[114]⟩ : ByteArray) = rS := rfl
    clear hx hx' hI hI' cg hg'
    generalize stX P Q s i a W 22 w = X1 at *
    generalize stX P Q s i a (W ++ [rS]) 22 w' = X2 at *
    simp only [AH.SD, AH.SE, AOp.call?, AOp.next?, bstep, AV.cells, unAV, binAV, retQ, retV, AH.sliceElems, AH.bytesOf, AH.strOp, AH.bound, AH.missQ, AH.minmaxAV, AH.readOf, AH.effOf, Nat.reduceBEq, Nat.reduceAdd, Nat.reduceLT, ↓reduceIte, Nat.reduceEqDiff, Nat.reduceLeDiff, Nat.reduceSub, Nat.reduceMul, Int.reduceSub, Int.reduceToNat, Int.reduceBEq, Int.reduceBNe, Int.reduceLT, Int.reduceGT, Int.reduceLE, Int.reduceGE, Int.reduceNeg, Int.reduceAdd, AH.SP, AH.PD, AV.inB, vstep, vw, shift, newOnes, rowsM, blkIn, rwB, @flat_lts, AV.lt, AV.lts, Nat.sub_self, AH.SO, sadN_p, sadT_p, lgR_eq, lgU_eq, Lg.eta, ne4, no4, soR_eq, soS_eq, So.eta, Bool.not_false, Bool.and_self, if_true, dkR_eq, dkB_eq, Dk.eta, ne_eq, Nat.reduceEqDiff, Nat.zero_ne_one, not_false_eq_true, hg, yr, zr, and_self, e, m1, soM2, errA0, errA_ren, errA_nil, hsW, hWl, List.length_map, List.drop_zero, take_all, wi, Int.toNat_natCast, List.cons_append, List.nil_append]
    refine ⟨by omega, ?_⟩
    refine gc_auto [0, 1, 2, 3, 4, 7, 9] [12, 11, 10, 8, 6, 5, 0] [] ?_
    simp only [AH.SD, AH.SE, AOp.call?, AOp.next?, bstep, AV.cells, unAV, binAV, retQ, retV, AH.sliceElems, AH.bytesOf, AH.strOp, AH.bound, AH.missQ, AH.minmaxAV, AH.readOf, AH.effOf, Nat.reduceBEq, Nat.reduceAdd, Nat.reduceLT, ↓reduceIte, Nat.reduceEqDiff, Nat.reduceLeDiff, Nat.reduceSub, Nat.reduceMul, Int.reduceSub, Int.reduceToNat, Int.reduceBEq, Int.reduceBNe, Int.reduceLT, Int.reduceGT, Int.reduceLE, Int.reduceGE, Int.reduceNeg, Int.reduceAdd, AH.SP, AH.PD, AV.inB, vstep]
    exact done
  have hjk : j = k := by simp only [decide_eq_false_iff_not] at c1; omega
  have hd := hI.dok (w := w)
  obtain ⟨w', e⟩ := hI.open (w := w)
  have hg := hI.gok (w := w')
  have E3 := stX_eta P Q s i a W 22 w'
  have cd : stD P Q i W 22 w = (stX P Q s i a W 22 w).g.d := rfl
  have cg : stG P Q i W 22 w' = (stX P Q s i a W 22 w').g := rfl
  have s1 : ((stX P Q s i a W 22 w).s.toList == s.toList) = true := tl_self _
  have s2 : ((stX P Q s i a W 22 w').s.toList == s.toList) = true := tl_self _
  have q2 : (stX P Q s i a W 22 w').seq = ((i + j : Nat) : Int) := by rw [stI.seq, hWj]; omega
  have r2 : (stX P Q s i a W 22 w').g.R = (stX P Q s i a W 22 w).g.R := rfl
  have hWl : (stX P Q s i a W 22 w').g.R.length ≤ 1048576 := by show W.length ≤ 1048576; omega
  have wl : IntKind.i64.wrap ((l.length : Int) + (k : Int)) = ((i + j : Nat) : Int) := by rw [IntKind.wrap_i64]; omega
  have k4' : ((4 : Nat) : Int) = 4 := rfl
  rw [cd] at hd e
  rw [cg] at hg
  rw [k4'] at e
  clear hI cd cg hx ih
  generalize stX P Q s i a W 22 w = X1 at *
  generalize stX P Q s i a W 22 w' = X2 at *
  simp only [AH.SD, AH.SE, AOp.call?, AOp.next?, bstep, AV.cells, unAV, binAV, retQ, retV, AH.sliceElems, AH.bytesOf, AH.strOp, AH.bound, AH.missQ, AH.minmaxAV, AH.readOf, AH.effOf, Nat.reduceBEq, Nat.reduceAdd, Nat.reduceLT, ↓reduceIte, Nat.reduceEqDiff, Nat.reduceLeDiff, Nat.reduceSub, Nat.reduceMul, Int.reduceSub, Int.reduceToNat, Int.reduceBEq, Int.reduceBNe, Int.reduceLT, Int.reduceGT, Int.reduceLE, Int.reduceGE, Int.reduceNeg, Int.reduceAdd, AH.SP, AH.PD, AV.inB, vstep, vw, shift, newOnes, rowsM, blkIn, rwB, @flat_lts, AV.lt, AV.lts, Nat.sub_self, AH.SO, sopN_p, sopT_p, lgR_eq, lgU_eq, Lg.eta, ne4, no4, soR_eq, soS_eq, So.eta, Bool.not_false, Bool.and_self, if_true, dkR_eq, dkB_eq, Dk.eta, ne_eq, Nat.reduceEqDiff, Nat.zero_ne_one, not_false_eq_true, hd, e, sopA, sopM, E3, errA_nil, stateT_p, s1, s2, srecN_p, srecT_p, hWl, soM, saT_p, sm_e2 r2 hWl, seqT_p, hg, q2, wl, beq_self_eq_true, List.cons_append, List.nil_append]
  try trivial
end Go.Proofs.YthapdikdeoeplaaDoor.H7
end
