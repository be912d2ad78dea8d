import Derived.Test.YtkbjfhkhbcgkgaaDoorShAB33m
open Go AH
set_option linter.unusedSimpArgs false
set_option maxRecDepth 100000
namespace Go.Proofs.YtkbjfhkhbcgkgaaDoor.B33m

abbrev tLaw : List (FuncId × RT) := [(36, ofT), (33, leastT), (34, hunT), (31, shcmpT), (30, rleastT), (32, rcompareT), (35, rhunT)]
theorem okLaw : CtxOK S0 (ctxU S0 tLaw []) := ctxU_ok ⟨ofT_ok, leastT_ok, hunT_ok, shcmpT_ok, rleastT_ok, rcompareT_ok, rhunT_ok, trivial⟩ trivial mixed
theorem eqSh (a b c d : Int) : eqFlat [.int, .int] [.int .i64 a, .int .i64 b] [.int .i64 c, .int .i64 d] = some (a == c && (b == d && true)) := rfl

def aw3 : List V4 := [⟨3, 0, 0, 0⟩, ⟨1, 0, 0, 0⟩, ⟨2, 0, 0, 0⟩]
set_option maxRecDepth 100000 in
theorem awake_ok : Pure S0 29 [] (.bool true) := by
  have o1 : ofA ⟨2, 0, 3, 0⟩ ⟨10, 1, 9, 1⟩ = .tup [.agg [.int .i64 3, .int .i64 9], .nili] := by
    have g : (good ⟨2, 0, 3, 0⟩ && good ⟨10, 1, 9, 1⟩) = true := by decide +kernel
    have n : (ofS ⟨2, 0, 3, 0⟩ ⟨10, 1, 9, 1⟩).n = 3 := by decide +kernel
    have d : (ofS ⟨2, 0, 3, 0⟩ ⟨10, 1, 9, 1⟩).d = 9 := by decide +kernel
    rw [ofA, g, n, d]; rfl
  have h39 : Sh.ok ⟨3, 9⟩ := by decide
  have h13 : Sh.ok ⟨1, 3⟩ := by decide
  have ln : (leastS ⟨3, 9⟩).n = 1 := by decide +kernel
  have ld : (leastS ⟨3, 9⟩).d = 3 := by decide +kernel
  have hh : hunS ⟨3, 9⟩ = 33 := by decide +kernel
  have hc : cmpS ⟨3, 9⟩ ⟨1, 3⟩ = 0 := by decide +kernel
  have hr : ordR aw3 ⟨9, 9, 9, 9⟩ = [1, 2, 0] := by decide +kernel
  have oo := order_ok aw3 ⟨9, 9, 9, 9⟩ (by decide) (by decide +kernel) (by decide +kernel)
  rw [hr] at oo
  refine fun_sound okLaw Tryd.func29 c29 ?_
  unfold wpF F29
  simp only [AH.SD, AH.wpOp, AOp.call?, AOp.next?, bstep, AOp.map, Opd.ev, tget, argTm, evs, AV.cells, St.eff, St.put, applyWr, mset, terase, pureE, unAV, intOp, binAV, fill, mget, AH.rowAt, AH.part, retQ, rvs, retV, AH.splice, AH.sliceElems, AH.bytesOf, AH.strOp, AH.bound, AH.addLog, AH.missQ, AH.minmaxAV, AH.wpOpD, AH.readOf, AH.mapAt, AH.iterAt, Nat.reduceBEq, Nat.reduceAdd, Nat.reduceLT, ↓reduceIte, Nat.reduceEqDiff, Nat.reduceLeDiff, Nat.reduceSub, Nat.reduceMul, Int.reduceSub, Int.reduceToNat, Int.reduceBEq, Int.reduceBNe, Int.reduceLT, Int.reduceGT, Int.reduceLE, Int.reduceGE, Int.reduceNeg, Int.reduceAdd, ofT_eq, o1]
  refine (CallA1.view errs0 (R := [(4, aw3.map V4.cells)]) (news := [some (.row false 1 ([1, 2, 0].map intC))]) oo [4] (foot := [1]) ?_).mono ?_
  · simp only [AH.SD, AH.wpOp, AOp.call?, AOp.next?, bstep, AOp.map, Opd.ev, tget, argTm, evs, AV.cells, St.eff, St.put, applyWr, mset, terase, pureE, unAV, intOp, binAV, fill, mget, AH.rowAt, AH.part, retQ, rvs, retV, AH.splice, AH.sliceElems, AH.bytesOf, AH.strOp, AH.bound, AH.addLog, AH.missQ, AH.minmaxAV, AH.wpOpD, AH.readOf, AH.mapAt, AH.iterAt, Nat.reduceBEq, Nat.reduceAdd, Nat.reduceLT, ↓reduceIte, Nat.reduceEqDiff, Nat.reduceLeDiff, Nat.reduceSub, Nat.reduceMul, Int.reduceSub, Int.reduceToNat, Int.reduceBEq, Int.reduceBNe, Int.reduceLT, Int.reduceGT, Int.reduceLE, Int.reduceGE, Int.reduceNeg, Int.reduceAdd, AH.PD, heads, distN, AH.inN, posN, packM, packB, packTm, liveB, AV.inB, AV.insB, AV.ren, AV.rens, Blk.ren, Blk.inB, vstep, tput, vw, shift, newOnes, rowsM, blkIn, rwB, @flat_lts, AV.lt, AV.lts, Nat.sub_self, aw3, V4.cells, intC_eq]
  rintro r m' ⟨rfl, rfl⟩
  simp only [AH.SD, AH.wpOp, AOp.call?, AOp.next?, bstep, AOp.map, Opd.ev, tget, argTm, evs, AV.cells, St.eff, St.put, applyWr, mset, terase, pureE, unAV, intOp, binAV, fill, mget, AH.rowAt, AH.part, retQ, rvs, retV, AH.splice, AH.sliceElems, AH.bytesOf, AH.strOp, AH.bound, AH.addLog, AH.missQ, AH.minmaxAV, AH.wpOpD, AH.readOf, AH.mapAt, AH.iterAt, Nat.reduceBEq, Nat.reduceAdd, Nat.reduceLT, ↓reduceIte, Nat.reduceEqDiff, Nat.reduceLeDiff, Nat.reduceSub, Nat.reduceMul, Int.reduceSub, Int.reduceToNat, Int.reduceBEq, Int.reduceBNe, Int.reduceLT, Int.reduceGT, Int.reduceLE, Int.reduceGE, Int.reduceNeg, Int.reduceAdd, AH.PD, heads, distN, AH.inN, posN, packM, packB, packTm, liveB, AV.inB, AV.insB, AV.ren, AV.rens, Blk.ren, Blk.inB, vstep, tput, vw, shift, newOnes, rowsM, blkIn, rwB, @flat_lts, AV.lt, AV.lts, Nat.sub_self, aw3, eqSh, intC_eq, leastT_eq _ _ _ h39, hunT_eq _ _ _ h39, shcmpT_eq _ _ _ _ _ h39 h13, ln, ld, hh, hc, Bool.and_self]
  try trivial
def awakeT : RT := rtP c0 fun _ => .bool true
theorem awakeT_ok : ReadF S0 29 awakeT := rtP_ok (fun _ => awake_ok) fun _ => rfl
theorem awakeT_eq (M : Nat → Option Blk) : awakeT [] M = some (.bool true, []) := rfl
theorem okEx : CtxOK S0 (ctxU S0 ((29, awakeT) :: tLaw) []) := ctxU_ok ⟨awakeT_ok, ofT_ok, leastT_ok, hunT_ok, shcmpT_ok, rleastT_ok, rcompareT_ok, rhunT_ok, trivial⟩ trivial mixed

set_option maxRecDepth 100000 in
theorem exact_ok (a b : Sh) (ha : a.ok) (hb : b.ok) : Pure S0 7 [.agg a.cells, .agg b.cells] (.bool true) := by
  refine fun_sound okEx Tryd.func7 c7 ?_
  unfold wpF F7
  simp only [AH.SD, AH.wpOp, AOp.call?, AOp.next?, bstep, AOp.map, Opd.ev, tget, argTm, evs, AV.cells, St.eff, St.put, applyWr, mset, terase, pureE, unAV, intOp, binAV, fill, mget, AH.rowAt, AH.part, retQ, rvs, retV, AH.splice, AH.sliceElems, AH.bytesOf, AH.strOp, AH.bound, AH.addLog, AH.missQ, AH.minmaxAV, AH.wpOpD, AH.readOf, AH.mapAt, AH.iterAt, Nat.reduceBEq, Nat.reduceAdd, Nat.reduceLT, ↓reduceIte, Nat.reduceEqDiff, Nat.reduceLeDiff, Nat.reduceSub, Nat.reduceMul, Int.reduceSub, Int.reduceToNat, Int.reduceBEq, Int.reduceBNe, Int.reduceLT, Int.reduceGT, Int.reduceLE, Int.reduceGE, Int.reduceNeg, Int.reduceAdd, awakeT_eq, Sh.cells_eq, rleastT_eq _ _ _ ha, shcmpT_eq _ _ _ _ _ ha hb, rcompareT_eq _ _ _ _ _ ha hb, leastT_eq _ _ _ ha, hunT_eq _ _ _ ha, rhunT_eq _ _ _ ha, eqSh, Bool.and_self]
  repeat (refine ⟨by first | rfl | decide | omega | (simp only [List.length_map, and_true]; omega) | (simp only [List.length_map, List.length_set, and_true]; omega), ?_⟩)
  try trivial

set_option maxHeartbeats 4000000 in
set_option maxRecDepth 100000 in
theorem chain_ok (a b c : Sh) (ha : a.ok) (hb : b.ok) (hc : c.ok) : Pure S0 8 [.agg a.cells, .agg b.cells, .agg c.cells] (.bool true) := by
  refine fun_sound okEx Tryd.func8 c8 ?_
  unfold wpF F8
  have t1 := cmpS_trans a b c
  have t2 := cmpS_trans c b a
  have n1 := cmpS_neg a b
  have n2 := cmpS_neg b c
  have n3 := cmpS_neg a c
  have z := cmpS_zero a b c
  have s := cmpS_self a
  have l := least_iff a b
  have eL : ((leastS a).n == (leastS b).n && ((leastS a).d == (leastS b).d && true)) = decide (cmpS a b = 0) := by
    rw [Bool.eq_iff_iff, decide_eq_true_eq, l]
    simp only [Bool.and_true, Bool.and_eq_true, beq_iff_eq]
    exact ⟨fun h => Sh.ext h.1 h.2, fun h => by rw [h]; exact ⟨rfl, rfl⟩⟩
  have wm : IntKind.i64.wrap (-1) = -1 := by decide
  have w1 : IntKind.i64.wrap 1 = 1 := by decide
  have w0 : IntKind.i64.wrap 0 = 0 := by decide
  have d1 : decide ((-1 : Int) = 0) = false := by decide
  have d2 : decide ((1 : Int) = 0) = false := by decide
  have d3 : decide ((0 : Int) = 0) = true := by decide
  rcases cmpS_in a b with x | x | x <;> rcases cmpS_in b c with y | y | y <;> rcases cmpS_in a c with w | w | w <;> first | omega | skip
  all_goals
    have n4 : cmpS b a = -cmpS a b := n1
    rw [x] at n4
    simp only [AH.SD, AH.wpOp, AOp.call?, AOp.next?, bstep, AOp.map, Opd.ev, tget, argTm, evs, AV.cells, St.eff, St.put, applyWr, mset, terase, pureE, unAV, intOp, binAV, fill, mget, AH.rowAt, AH.part, retQ, rvs, retV, AH.splice, AH.sliceElems, AH.bytesOf, AH.strOp, AH.bound, AH.addLog, AH.missQ, AH.minmaxAV, AH.wpOpD, AH.readOf, AH.mapAt, AH.iterAt, Nat.reduceBEq, Nat.reduceAdd, Nat.reduceLT, ↓reduceIte, Nat.reduceEqDiff, Nat.reduceLeDiff, Nat.reduceSub, Nat.reduceMul, Int.reduceSub, Int.reduceToNat, Int.reduceBEq, Int.reduceBNe, Int.reduceLT, Int.reduceGT, Int.reduceLE, Int.reduceGE, Int.reduceNeg, Int.reduceAdd, awakeT_eq, Sh.cells_eq, shcmpT_eq _ _ _ _ _ ha hb, shcmpT_eq _ _ _ _ _ hb hc, shcmpT_eq _ _ _ _ _ ha hc, shcmpT_eq _ _ _ _ _ hb ha, shcmpT_eq _ _ _ _ _ ha ha, leastT_eq _ _ _ ha, leastT_eq _ _ _ hb, eqSh, x, y, w, n4, s, eL, wm, w1, w0, d1, d2, d3, Bool.and_self]
    repeat (refine ⟨by first | rfl | decide | omega | (simp only [List.length_map, and_true]; omega) | (simp only [List.length_map, List.length_set, and_true]; omega), ?_⟩)
    try trivial
end Go.Proofs.YtkbjfhkhbcgkgaaDoor.B33m
