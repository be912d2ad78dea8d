import Derived.Test.YtnlolefgifeohaaDoorVGE15
open Go AH
set_option linter.unusedSimpArgs false
set_option maxRecDepth 100000
namespace Go.Proofs.YtnlolefgifeohaaDoor.E15

theorem isNaN_ok (x : Int) : Pure S0 104 [.int .i64 x] (.bool false) := by
  refine fun_sound okZ Tryd.func104 c104 ?_
  unfold wpF F104
  simp only [AH.SD, AH.wpOp, AOp.call?, AOp.next?, bstep, AOp.map, Opd.ev, tget, argTm, evs, AV.cells, St.eff, St.put, applyWr, mset, terase, pureE, unAV, intOp, binAV, fill, mget, AH.rowAt, AH.part, retQ, rvs, retV, AH.splice, AH.sliceElems, AH.bytesOf, AH.strOp, AH.bound, AH.addLog, AH.missQ, AH.minmaxAV, AH.wpOpD, AH.readOf, AH.effOf, AH.mapAt, AH.iterAt, Nat.reduceBEq, Nat.reduceAdd, Nat.reduceLT, ↓reduceIte, Nat.reduceEqDiff, Nat.reduceLeDiff, Nat.reduceSub, Nat.reduceMul, Int.reduceSub, Int.reduceToNat, Int.reduceBEq, Int.reduceBNe, Int.reduceLT, Int.reduceGT, Int.reduceLE, Int.reduceGE, Int.reduceNeg, Int.reduceAdd, bne_self_eq_false]
def isNaNT : RT := rtP (cC (aI .i64) c0) fun _ => .bool false
theorem isNaNT_ok : ReadF S0 104 isNaNT := rtP_ok (fun x => isNaN_ok x.1) fun _ => rfl
theorem isNaNT_eq (n : Int) (M : Nat → Option Blk) : isNaNT [.int .i64 n] M = some (.bool false, []) := rfl

def cmpZ (x y : Int) : Int := if x < y then -1 else if x > y then 1 else 0

theorem cmp_ok (x y : Int) : Pure S0 96 [.int .i64 x, .int .i64 y] (.int .i64 (cmpZ x y)) := by
  have ok : CtxOK S0 (ctxU S0 [(104, isNaNT)] []) := ctxU_ok ⟨isNaNT_ok, trivial⟩ trivial mixed
  refine fun_sound ok Tryd.func96 c96 ?_
  unfold wpF F96
  simp only [AH.SD, AH.wpOp, AOp.call?, AOp.next?, bstep, AOp.map, Opd.ev, tget, argTm, evs, AV.cells, St.eff, St.put, applyWr, mset, terase, pureE, unAV, intOp, binAV, fill, mget, AH.rowAt, AH.part, retQ, rvs, retV, AH.splice, AH.sliceElems, AH.bytesOf, AH.strOp, AH.bound, AH.addLog, AH.missQ, AH.minmaxAV, AH.wpOpD, AH.readOf, AH.effOf, AH.mapAt, AH.iterAt, Nat.reduceBEq, Nat.reduceAdd, Nat.reduceLT, ↓reduceIte, Nat.reduceEqDiff, Nat.reduceLeDiff, Nat.reduceSub, Nat.reduceMul, Int.reduceSub, Int.reduceToNat, Int.reduceBEq, Int.reduceBNe, Int.reduceLT, Int.reduceGT, Int.reduceLE, Int.reduceGE, Int.reduceNeg, Int.reduceAdd, isNaNT_eq]
  refine ⟨fun h => ?_, fun h => ?_⟩
  · simp only [decide_eq_true_eq] at h
    simp only [AH.SD, AH.wpOp, AOp.call?, AOp.next?, bstep, AOp.map, Opd.ev, tget, argTm, evs, AV.cells, St.eff, St.put, applyWr, mset, terase, pureE, unAV, intOp, binAV, fill, mget, AH.rowAt, AH.part, retQ, rvs, retV, AH.splice, AH.sliceElems, AH.bytesOf, AH.strOp, AH.bound, AH.addLog, AH.missQ, AH.minmaxAV, AH.wpOpD, AH.readOf, AH.effOf, AH.mapAt, AH.iterAt, Nat.reduceBEq, Nat.reduceAdd, Nat.reduceLT, ↓reduceIte, Nat.reduceEqDiff, Nat.reduceLeDiff, Nat.reduceSub, Nat.reduceMul, Int.reduceSub, Int.reduceToNat, Int.reduceBEq, Int.reduceBNe, Int.reduceLT, Int.reduceGT, Int.reduceLE, Int.reduceGE, Int.reduceNeg, Int.reduceAdd, cmpZ, h]
  · simp only [decide_eq_false_iff_not] at h
    simp only [AH.SD, AH.wpOp, AOp.call?, AOp.next?, bstep, AOp.map, Opd.ev, tget, argTm, evs, AV.cells, St.eff, St.put, applyWr, mset, terase, pureE, unAV, intOp, binAV, fill, mget, AH.rowAt, AH.part, retQ, rvs, retV, AH.splice, AH.sliceElems, AH.bytesOf, AH.strOp, AH.bound, AH.addLog, AH.missQ, AH.minmaxAV, AH.wpOpD, AH.readOf, AH.effOf, AH.mapAt, AH.iterAt, Nat.reduceBEq, Nat.reduceAdd, Nat.reduceLT, ↓reduceIte, Nat.reduceEqDiff, Nat.reduceLeDiff, Nat.reduceSub, Nat.reduceMul, Int.reduceSub, Int.reduceToNat, Int.reduceBEq, Int.reduceBNe, Int.reduceLT, Int.reduceGT, Int.reduceLE, Int.reduceGE, Int.reduceNeg, Int.reduceAdd]
    refine ⟨fun g => ?_, fun g => ?_⟩
    · simp only [decide_eq_true_eq] at g
      simp only [AH.SD, AH.wpOp, AOp.call?, AOp.next?, bstep, AOp.map, Opd.ev, tget, argTm, evs, AV.cells, St.eff, St.put, applyWr, mset, terase, pureE, unAV, intOp, binAV, fill, mget, AH.rowAt, AH.part, retQ, rvs, retV, AH.splice, AH.sliceElems, AH.bytesOf, AH.strOp, AH.bound, AH.addLog, AH.missQ, AH.minmaxAV, AH.wpOpD, AH.readOf, AH.effOf, AH.mapAt, AH.iterAt, Nat.reduceBEq, Nat.reduceAdd, Nat.reduceLT, ↓reduceIte, Nat.reduceEqDiff, Nat.reduceLeDiff, Nat.reduceSub, Nat.reduceMul, Int.reduceSub, Int.reduceToNat, Int.reduceBEq, Int.reduceBNe, Int.reduceLT, Int.reduceGT, Int.reduceLE, Int.reduceGE, Int.reduceNeg, Int.reduceAdd, cmpZ, h, if_false, g]
    · simp only [decide_eq_false_iff_not] at g
      simp only [AH.SD, AH.wpOp, AOp.call?, AOp.next?, bstep, AOp.map, Opd.ev, tget, argTm, evs, AV.cells, St.eff, St.put, applyWr, mset, terase, pureE, unAV, intOp, binAV, fill, mget, AH.rowAt, AH.part, retQ, rvs, retV, AH.splice, AH.sliceElems, AH.bytesOf, AH.strOp, AH.bound, AH.addLog, AH.missQ, AH.minmaxAV, AH.wpOpD, AH.readOf, AH.effOf, AH.mapAt, AH.iterAt, Nat.reduceBEq, Nat.reduceAdd, Nat.reduceLT, ↓reduceIte, Nat.reduceEqDiff, Nat.reduceLeDiff, Nat.reduceSub, Nat.reduceMul, Int.reduceSub, Int.reduceToNat, Int.reduceBEq, Int.reduceBNe, Int.reduceLT, Int.reduceGT, Int.reduceLE, Int.reduceGE, Int.reduceNeg, Int.reduceAdd, cmpZ, h, if_false, g]
def cmpT : RT := rtP (cC (aI .i64) (cC (aI .i64) c0)) fun x => .int .i64 (cmpZ x.1 x.2.1)
theorem cmpT_ok : ReadF S0 96 cmpT := rtP_ok (fun x => cmp_ok x.1 x.2.1) fun _ => rfl
theorem cmpT_eq (x y : Int) (M : Nat → Option Blk) : cmpT [.int .i64 x, .int .i64 y] M = some (.int .i64 (cmpZ x y), []) := rfl

def eqV (x y : V4) : Bool := x.a == y.a && (x.b == y.b && (x.c == y.c && (x.d == y.d && true)))
theorem eqV_iff (x y : V4) : eqV x y = true ↔ x = y := by
  cases x; cases y
  simp [eqV]
theorem eqFlat_vec (a b c d x y z u : Int) : eqFlat [.int, .int, .int, .int] [.int .i64 a, .int .i64 b, .int .i64 c, .int .i64 d] [.int .i64 x, .int .i64 y, .int .i64 z, .int .i64 u] = some (eqV ⟨a, b, c, d⟩ ⟨x, y, z, u⟩) := rfl

end Go.Proofs.YtnlolefgifeohaaDoor.E15
