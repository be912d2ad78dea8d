import Derived.Test.YtkbjfhkhbcgkgaaDoorShMB33m
import Derived.Test.YtkbjfhkhbcgkgaaDoorFMoB33m
open Go AH
set_option linter.unusedSimpArgs false
set_option maxRecDepth 100000
namespace Go.Proofs.YtkbjfhkhbcgkgaaDoor.B33m

abbrev tMore : List (FuncId × RT) := [(29, awakeT), (18, addT), (21, scaleT), (36, ofT), (31, shcmpT), (33, leastT), (34, hunT)]
theorem okMore : CtxOK S0 (ctxU S0 tMore []) := ctxU_ok ⟨awakeT_ok, addT_ok, scaleT_ok, ofT_ok, shcmpT_ok, leastT_ok, hunT_ok, trivial⟩ trivial mixed
theorem ofA_good {v w : V4} (h : good v = true) (g : good w = true) : ofA v w = .tup [.agg [.int .i64 (ofS v w).n, .int .i64 (ofS v w).d], .nili] := by rw [ofA, h, g]; rfl

set_option maxHeartbeats 1000000 in
set_option maxRecDepth 100000 in
theorem more_ok (v m w : V4) : Pure S0 9 [.agg v.cells, .agg m.cells, .agg w.cells] (.bool true) := by
  refine fun_sound okMore Tryd.func9 c9 ?_
  unfold wpF F9
  simp only [AH.SD, AH.wpOp, AOp.call?, AOp.next?, bstep, AOp.map, Opd.ev, tget, argTm, evs, AV.cells, St.eff, St.put, applyWr, mset, terase, pureE, unAV, intOp, binAV, fill, mget, AH.rowAt, AH.part, retQ, rvs, retV, AH.splice, AH.sliceElems, AH.bytesOf, AH.strOp, AH.bound, AH.addLog, AH.missQ, AH.minmaxAV, AH.wpOpD, AH.readOf, AH.mapAt, AH.iterAt, Nat.reduceBEq, Nat.reduceAdd, Nat.reduceLT, ↓reduceIte, Nat.reduceEqDiff, Nat.reduceLeDiff, Nat.reduceSub, Nat.reduceMul, Int.reduceSub, Int.reduceToNat, Int.reduceBEq, Int.reduceBNe, Int.reduceLT, Int.reduceGT, Int.reduceLE, Int.reduceGE, Int.reduceNeg, Int.reduceAdd, awakeT_eq, V4.cells_eq, addT_eq, scaleT_eq, vecE, errA_nil, V4.eta]
  cases h1 : (addK v m == 0)
  · simp only [AH.SD, AH.wpOp, AOp.call?, AOp.next?, bstep, AOp.map, Opd.ev, tget, argTm, evs, AV.cells, St.eff, St.put, applyWr, mset, terase, pureE, unAV, intOp, binAV, fill, mget, AH.rowAt, AH.part, retQ, rvs, retV, AH.splice, AH.sliceElems, AH.bytesOf, AH.strOp, AH.bound, AH.addLog, AH.missQ, AH.minmaxAV, AH.wpOpD, AH.readOf, AH.mapAt, AH.iterAt, Nat.reduceBEq, Nat.reduceAdd, Nat.reduceLT, ↓reduceIte, Nat.reduceEqDiff, Nat.reduceLeDiff, Nat.reduceSub, Nat.reduceMul, Int.reduceSub, Int.reduceToNat, Int.reduceBEq, Int.reduceBNe, Int.reduceLT, Int.reduceGT, Int.reduceLE, Int.reduceGE, Int.reduceNeg, Int.reduceAdd, h1]
    repeat (refine ⟨by first | rfl | decide | omega | (simp only [List.length_map, and_true]; omega) | (simp only [List.length_map, List.length_set, and_true]; omega), ?_⟩)
    try trivial
  cases h2 : (scaleK v 2 == 0)
  · simp only [AH.SD, AH.wpOp, AOp.call?, AOp.next?, bstep, AOp.map, Opd.ev, tget, argTm, evs, AV.cells, St.eff, St.put, applyWr, mset, terase, pureE, unAV, intOp, binAV, fill, mget, AH.rowAt, AH.part, retQ, rvs, retV, AH.splice, AH.sliceElems, AH.bytesOf, AH.strOp, AH.bound, AH.addLog, AH.missQ, AH.minmaxAV, AH.wpOpD, AH.readOf, AH.mapAt, AH.iterAt, Nat.reduceBEq, Nat.reduceAdd, Nat.reduceLT, ↓reduceIte, Nat.reduceEqDiff, Nat.reduceLeDiff, Nat.reduceSub, Nat.reduceMul, Int.reduceSub, Int.reduceToNat, Int.reduceBEq, Int.reduceBNe, Int.reduceLT, Int.reduceGT, Int.reduceLE, Int.reduceGE, Int.reduceNeg, Int.reduceAdd, h1, h2, errA_nil]
    repeat (refine ⟨by first | rfl | decide | omega | (simp only [List.length_map, and_true]; omega) | (simp only [List.length_map, List.length_set, and_true]; omega), ?_⟩)
    try trivial
  cases h3 : (scaleK w 2 == 0)
  · simp only [AH.SD, AH.wpOp, AOp.call?, AOp.next?, bstep, AOp.map, Opd.ev, tget, argTm, evs, AV.cells, St.eff, St.put, applyWr, mset, terase, pureE, unAV, intOp, binAV, fill, mget, AH.rowAt, AH.part, retQ, rvs, retV, AH.splice, AH.sliceElems, AH.bytesOf, AH.strOp, AH.bound, AH.addLog, AH.missQ, AH.minmaxAV, AH.wpOpD, AH.readOf, AH.mapAt, AH.iterAt, Nat.reduceBEq, Nat.reduceAdd, Nat.reduceLT, ↓reduceIte, Nat.reduceEqDiff, Nat.reduceLeDiff, Nat.reduceSub, Nat.reduceMul, Int.reduceSub, Int.reduceToNat, Int.reduceBEq, Int.reduceBNe, Int.reduceLT, Int.reduceGT, Int.reduceLE, Int.reduceGE, Int.reduceNeg, Int.reduceAdd, h1, h2, h3, errA_nil]
    repeat (refine ⟨by first | rfl | decide | omega | (simp only [List.length_map, and_true]; omega) | (simp only [List.length_map, List.length_set, and_true]; omega), ?_⟩)
    try trivial
  have e1 : addK v m = 0 := by simpa using h1
  have e2 : scaleK v 2 = 0 := by simpa using h2
  have e3 : scaleK w 2 = 0 := by simpa using h3
  obtain ⟨gv, rv, gv2⟩ := scale_two e2
  obtain ⟨gw, rw2, gw2⟩ := scale_two e3
  have hA := (addK_iff v m).1 e1
  have ga := add_good e1
  have hm := (goodR_iff m).1 hA.2.1
  simp only [inR] at hm
  have le : ∀ j, v.at j ≤ (addR v m).at j := fun j => by
    rw [addR_of e1]
    unfold V4.at
    split <;> (simp only; omega)
  have d1 : ∀ j, (scaleR v 2).at j = v.at j * 2 := fun j => by
    rw [rv]
    unfold V4.at
    split <;> rfl
  have d2 : ∀ j, (scaleR w 2).at j = w.at j * 2 := fun j => by
    rw [rw2]
    unfold V4.at
    split <;> rfl
  have ca : cmpS (ofS v w) (ofS (addR v m) w) ≤ 0 := ofS_more le
  have cc : cmpS (ofS v w) (ofS (scaleR v 2) (scaleR w 2)) = 0 := by
    rw [show ofS (scaleR v 2) (scaleR w 2) = dbl (ofS v w) from ofN_dbl d1 d2 4]
    exact cmp_dbl1 _
  have cl := least_least (ofS v w)
  have hm2 := hun_mono ca
  have cn := cmpS_neg (ofS (addR v m) w) (ofS v w)
  have ci := cmpS_in (ofS (addR v m) w) (ofS v w)
  have oka : (ofS v w).ok := ofN_ok gv gw 4
  have okb : (ofS (addR v m) w).ok := ofN_ok ga gw 4
  have okc : (ofS (scaleR v 2) (scaleR w 2)).ok := ofN_ok gv2 gw2 4
  have okl := leastS_ok oka
  have oa := ofA_good gv gw
  have ob := ofA_good ga gw
  have oc := ofA_good gv2 gw2
  have wn : IntKind.i64.wrap (0 - cmpS (ofS (addR v m) w) (ofS v w)) = cmpS (ofS v w) (ofS (addR v m) w) := by rw [IntKind.wrap_i64]; omega
  have k1 : decide (cmpS (ofS v w) (ofS (addR v m) w) ≤ 0) = true := decide_eq_true ca
  have k5 : decide (hunS (ofS v w) ≤ hunS (ofS (addR v m) w)) = true := decide_eq_true hm2
  generalize ofS v w = a at *
  generalize ofS (addR v m) w = b at *
  generalize ofS (scaleR v 2) (scaleR w 2) = c at *
  simp only [AH.SD, AH.wpOp, AOp.call?, AOp.next?, bstep, AOp.map, Opd.ev, tget, argTm, evs, AV.cells, St.eff, St.put, applyWr, mset, terase, pureE, unAV, intOp, binAV, fill, mget, AH.rowAt, AH.part, retQ, rvs, retV, AH.splice, AH.sliceElems, AH.bytesOf, AH.strOp, AH.bound, AH.addLog, AH.missQ, AH.minmaxAV, AH.wpOpD, AH.readOf, AH.mapAt, AH.iterAt, Nat.reduceBEq, Nat.reduceAdd, Nat.reduceLT, ↓reduceIte, Nat.reduceEqDiff, Nat.reduceLeDiff, Nat.reduceSub, Nat.reduceMul, Int.reduceSub, Int.reduceToNat, Int.reduceBEq, Int.reduceBNe, Int.reduceLT, Int.reduceGT, Int.reduceLE, Int.reduceGE, Int.reduceNeg, Int.reduceAdd, h1, h2, h3, errA_nil, ofT_eq, V4.eta, oa, ob, oc]
  simp only [AH.SD, AH.wpOp, AOp.call?, AOp.next?, bstep, AOp.map, Opd.ev, tget, argTm, evs, AV.cells, St.eff, St.put, applyWr, mset, terase, pureE, unAV, intOp, binAV, fill, mget, AH.rowAt, AH.part, retQ, rvs, retV, AH.splice, AH.sliceElems, AH.bytesOf, AH.strOp, AH.bound, AH.addLog, AH.missQ, AH.minmaxAV, AH.wpOpD, AH.readOf, AH.mapAt, AH.iterAt, Nat.reduceBEq, Nat.reduceAdd, Nat.reduceLT, ↓reduceIte, Nat.reduceEqDiff, Nat.reduceLeDiff, Nat.reduceSub, Nat.reduceMul, Int.reduceSub, Int.reduceToNat, Int.reduceBEq, Int.reduceBNe, Int.reduceLT, Int.reduceGT, Int.reduceLE, Int.reduceGE, Int.reduceNeg, Int.reduceAdd, shcmpT_eq a.n a.d b.n b.d _ oka okb, shcmpT_eq a.n a.d c.n c.d _ oka okc, shcmpT_eq b.n b.d a.n a.d _ okb oka, shcmpT_eq (leastS a).n (leastS a).d a.n a.d _ okl oka, leastT_eq a.n a.d _ oka, hunT_eq a.n a.d _ oka, hunT_eq b.n b.d _ okb, Sh.eta, k1, cc, cl, wn, k5]
  repeat (refine ⟨by first | rfl | decide | omega | (simp only [List.length_map, and_true]; omega) | (simp only [List.length_map, List.length_set, and_true]; omega), ?_⟩)
  try trivial
end Go.Proofs.YtkbjfhkhbcgkgaaDoor.B33m
