import Derived.Test.YtcmnchmkoghfdaaDoorFRef5C05h
import Derived.Test.YtcmnchmkoghfdaaDoorFrmQC05h
open Go AH
set_option linter.unusedSimpArgs false
set_option maxRecDepth 100000
namespace Go.Proofs.YtcmnchmkoghfdaaDoor.C05h
/- The reference's small functions. -/
theorem q0 : min (IntKind.i64.wrap (8 * 0)).toNat IntKind.i64.bits = 0 := by decide
theorem fdq (n : Int) (k : Nat) : n.fdiv (2 ^ k) = n / 2 ^ k := by
  rw [Int.fdiv_eq_ediv_of_nonneg _ (Int.le_of_lt (Int.pow_pos (by decide)))]
theorem bq0 (n : Int) : UInt8.ofNat (n / 2 ^ 0 % 256).toNat = byt n 0 := rfl
theorem bq1 (n : Int) : UInt8.ofNat (n / 2 ^ 8 % 256).toNat = byt n 1 := rfl
theorem bq2 (n : Int) : UInt8.ofNat (n / 2 ^ 16 % 256).toNat = byt n 2 := rfl
theorem bq3 (n : Int) : UInt8.ofNat (n / 2 ^ 24 % 256).toNat = byt n 3 := rfl
theorem rnum4 (n : Int) : Pure S0 50 [.int .i64 n, .int .i64 4] (.str (num4 n)) := by
  refine fun_sound okF0 Tryd.func50 c50 ?_
  unfold wpF F50
  simp only [AH.SD, AH.wpOp, AOp.call?, AOp.next?, bstep, AOp.map, Opd.ev, tget, argTm, evs, AV.cells, St.eff, St.put, applyWr, mset, terase, pureE, unAV, intOp, binAV, fill, mget, AH.rowAt, AH.part, retQ, rvs, retV, AH.splice, AH.sliceElems, AH.bytesOf, AH.strOp, AH.bound, AH.addLog, AH.missQ, AH.minmaxAV, AH.wpOpD, AH.readOf, AH.effOf, AH.mapAt, AH.iterAt, Nat.reduceBEq, Nat.reduceAdd, Nat.reduceLT, ↓reduceIte, Nat.reduceEqDiff, Nat.reduceLeDiff, Nat.reduceSub, Nat.reduceMul, Int.reduceSub, Int.reduceToNat, Int.reduceBEq, Int.reduceBNe, Int.reduceLT, Int.reduceGT, Int.reduceLE, Int.reduceGE, Int.reduceNeg, Int.reduceAdd]
  repeat (refine ⟨by first | rfl | decide | omega | (simp only [List.length_map, and_true]; omega) | (simp only [List.length_map, List.length_set, and_true]; omega), ?_⟩)
  refine loop_unroll ctxU_monoB ?_
  simp only [AH.SD, AH.wpOp, AOp.call?, AOp.next?, bstep, AOp.map, Opd.ev, tget, argTm, evs, AV.cells, St.eff, St.put, applyWr, mset, terase, pureE, unAV, intOp, binAV, fill, mget, AH.rowAt, AH.part, retQ, rvs, retV, AH.splice, AH.sliceElems, AH.bytesOf, AH.strOp, AH.bound, AH.addLog, AH.missQ, AH.minmaxAV, AH.wpOpD, AH.readOf, AH.effOf, AH.mapAt, AH.iterAt, Nat.reduceBEq, Nat.reduceAdd, Nat.reduceLT, ↓reduceIte, Nat.reduceEqDiff, Nat.reduceLeDiff, Nat.reduceSub, Nat.reduceMul, Int.reduceSub, Int.reduceToNat, Int.reduceBEq, Int.reduceBNe, Int.reduceLT, Int.reduceGT, Int.reduceLE, Int.reduceGE, Int.reduceNeg, Int.reduceAdd, w8]
  repeat (refine ⟨by first | rfl | decide | omega | (simp only [List.length_map, and_true]; omega) | (simp only [List.length_map, List.length_set, and_true]; omega), ?_⟩)
  refine loop_unroll ctxU_monoB ?_
  simp only [AH.SD, AH.wpOp, AOp.call?, AOp.next?, bstep, AOp.map, Opd.ev, tget, argTm, evs, AV.cells, St.eff, St.put, applyWr, mset, terase, pureE, unAV, intOp, binAV, fill, mget, AH.rowAt, AH.part, retQ, rvs, retV, AH.splice, AH.sliceElems, AH.bytesOf, AH.strOp, AH.bound, AH.addLog, AH.missQ, AH.minmaxAV, AH.wpOpD, AH.readOf, AH.effOf, AH.mapAt, AH.iterAt, Nat.reduceBEq, Nat.reduceAdd, Nat.reduceLT, ↓reduceIte, Nat.reduceEqDiff, Nat.reduceLeDiff, Nat.reduceSub, Nat.reduceMul, Int.reduceSub, Int.reduceToNat, Int.reduceBEq, Int.reduceBNe, Int.reduceLT, Int.reduceGT, Int.reduceLE, Int.reduceGE, Int.reduceNeg, Int.reduceAdd, w8]
  repeat (refine ⟨by first | rfl | decide | omega | (simp only [List.length_map, and_true]; omega) | (simp only [List.length_map, List.length_set, and_true]; omega), ?_⟩)
  refine loop_unroll ctxU_monoB ?_
  simp only [AH.SD, AH.wpOp, AOp.call?, AOp.next?, bstep, AOp.map, Opd.ev, tget, argTm, evs, AV.cells, St.eff, St.put, applyWr, mset, terase, pureE, unAV, intOp, binAV, fill, mget, AH.rowAt, AH.part, retQ, rvs, retV, AH.splice, AH.sliceElems, AH.bytesOf, AH.strOp, AH.bound, AH.addLog, AH.missQ, AH.minmaxAV, AH.wpOpD, AH.readOf, AH.effOf, AH.mapAt, AH.iterAt, Nat.reduceBEq, Nat.reduceAdd, Nat.reduceLT, ↓reduceIte, Nat.reduceEqDiff, Nat.reduceLeDiff, Nat.reduceSub, Nat.reduceMul, Int.reduceSub, Int.reduceToNat, Int.reduceBEq, Int.reduceBNe, Int.reduceLT, Int.reduceGT, Int.reduceLE, Int.reduceGE, Int.reduceNeg, Int.reduceAdd, w8]
  repeat (refine ⟨by first | rfl | decide | omega | (simp only [List.length_map, and_true]; omega) | (simp only [List.length_map, List.length_set, and_true]; omega), ?_⟩)
  refine loop_unroll ctxU_monoB ?_
  simp only [AH.SD, AH.wpOp, AOp.call?, AOp.next?, bstep, AOp.map, Opd.ev, tget, argTm, evs, AV.cells, St.eff, St.put, applyWr, mset, terase, pureE, unAV, intOp, binAV, fill, mget, AH.rowAt, AH.part, retQ, rvs, retV, AH.splice, AH.sliceElems, AH.bytesOf, AH.strOp, AH.bound, AH.addLog, AH.missQ, AH.minmaxAV, AH.wpOpD, AH.readOf, AH.effOf, AH.mapAt, AH.iterAt, Nat.reduceBEq, Nat.reduceAdd, Nat.reduceLT, ↓reduceIte, Nat.reduceEqDiff, Nat.reduceLeDiff, Nat.reduceSub, Nat.reduceMul, Int.reduceSub, Int.reduceToNat, Int.reduceBEq, Int.reduceBNe, Int.reduceLT, Int.reduceGT, Int.reduceLE, Int.reduceGE, Int.reduceNeg, Int.reduceAdd, w8]
  repeat (refine ⟨by first | rfl | decide | omega | (simp only [List.length_map, and_true]; omega) | (simp only [List.length_map, List.length_set, and_true]; omega), ?_⟩)
  refine loop_unroll ctxU_monoB ?_
  simp only [AH.SD, AH.wpOp, AOp.call?, AOp.next?, bstep, AOp.map, Opd.ev, tget, argTm, evs, AV.cells, St.eff, St.put, applyWr, mset, terase, pureE, unAV, intOp, binAV, fill, mget, AH.rowAt, AH.part, retQ, rvs, retV, AH.splice, AH.sliceElems, AH.bytesOf, AH.strOp, AH.bound, AH.addLog, AH.missQ, AH.minmaxAV, AH.wpOpD, AH.readOf, AH.effOf, AH.mapAt, AH.iterAt, Nat.reduceBEq, Nat.reduceAdd, Nat.reduceLT, ↓reduceIte, Nat.reduceEqDiff, Nat.reduceLeDiff, Nat.reduceSub, Nat.reduceMul, Int.reduceSub, Int.reduceToNat, Int.reduceBEq, Int.reduceBNe, Int.reduceLT, Int.reduceGT, Int.reduceLE, Int.reduceGE, Int.reduceNeg, Int.reduceAdd, w8]
  repeat (refine ⟨by first | rfl | decide | omega | (simp only [List.length_map, and_true]; omega) | (simp only [List.length_map, List.length_set, and_true]; omega), ?_⟩)
  simp only [m0, m1, m2, m3, fdq]
  rfl
theorem rnum2 (n : Int) : Pure S0 50 [.int .i64 n, .int .i64 2] (.str (num2 n)) := by
  refine fun_sound okF0 Tryd.func50 c50 ?_
  unfold wpF F50
  simp only [AH.SD, AH.wpOp, AOp.call?, AOp.next?, bstep, AOp.map, Opd.ev, tget, argTm, evs, AV.cells, St.eff, St.put, applyWr, mset, terase, pureE, unAV, intOp, binAV, fill, mget, AH.rowAt, AH.part, retQ, rvs, retV, AH.splice, AH.sliceElems, AH.bytesOf, AH.strOp, AH.bound, AH.addLog, AH.missQ, AH.minmaxAV, AH.wpOpD, AH.readOf, AH.effOf, AH.mapAt, AH.iterAt, Nat.reduceBEq, Nat.reduceAdd, Nat.reduceLT, ↓reduceIte, Nat.reduceEqDiff, Nat.reduceLeDiff, Nat.reduceSub, Nat.reduceMul, Int.reduceSub, Int.reduceToNat, Int.reduceBEq, Int.reduceBNe, Int.reduceLT, Int.reduceGT, Int.reduceLE, Int.reduceGE, Int.reduceNeg, Int.reduceAdd]
  repeat (refine ⟨by first | rfl | decide | omega | (simp only [List.length_map, and_true]; omega) | (simp only [List.length_map, List.length_set, and_true]; omega), ?_⟩)
  refine loop_unroll ctxU_monoB ?_
  simp only [AH.SD, AH.wpOp, AOp.call?, AOp.next?, bstep, AOp.map, Opd.ev, tget, argTm, evs, AV.cells, St.eff, St.put, applyWr, mset, terase, pureE, unAV, intOp, binAV, fill, mget, AH.rowAt, AH.part, retQ, rvs, retV, AH.splice, AH.sliceElems, AH.bytesOf, AH.strOp, AH.bound, AH.addLog, AH.missQ, AH.minmaxAV, AH.wpOpD, AH.readOf, AH.effOf, AH.mapAt, AH.iterAt, Nat.reduceBEq, Nat.reduceAdd, Nat.reduceLT, ↓reduceIte, Nat.reduceEqDiff, Nat.reduceLeDiff, Nat.reduceSub, Nat.reduceMul, Int.reduceSub, Int.reduceToNat, Int.reduceBEq, Int.reduceBNe, Int.reduceLT, Int.reduceGT, Int.reduceLE, Int.reduceGE, Int.reduceNeg, Int.reduceAdd, w8]
  repeat (refine ⟨by first | rfl | decide | omega | (simp only [List.length_map, and_true]; omega) | (simp only [List.length_map, List.length_set, and_true]; omega), ?_⟩)
  refine loop_unroll ctxU_monoB ?_
  simp only [AH.SD, AH.wpOp, AOp.call?, AOp.next?, bstep, AOp.map, Opd.ev, tget, argTm, evs, AV.cells, St.eff, St.put, applyWr, mset, terase, pureE, unAV, intOp, binAV, fill, mget, AH.rowAt, AH.part, retQ, rvs, retV, AH.splice, AH.sliceElems, AH.bytesOf, AH.strOp, AH.bound, AH.addLog, AH.missQ, AH.minmaxAV, AH.wpOpD, AH.readOf, AH.effOf, AH.mapAt, AH.iterAt, Nat.reduceBEq, Nat.reduceAdd, Nat.reduceLT, ↓reduceIte, Nat.reduceEqDiff, Nat.reduceLeDiff, Nat.reduceSub, Nat.reduceMul, Int.reduceSub, Int.reduceToNat, Int.reduceBEq, Int.reduceBNe, Int.reduceLT, Int.reduceGT, Int.reduceLE, Int.reduceGE, Int.reduceNeg, Int.reduceAdd, w8]
  repeat (refine ⟨by first | rfl | decide | omega | (simp only [List.length_map, and_true]; omega) | (simp only [List.length_map, List.length_set, and_true]; omega), ?_⟩)
  refine loop_unroll ctxU_monoB ?_
  simp only [AH.SD, AH.wpOp, AOp.call?, AOp.next?, bstep, AOp.map, Opd.ev, tget, argTm, evs, AV.cells, St.eff, St.put, applyWr, mset, terase, pureE, unAV, intOp, binAV, fill, mget, AH.rowAt, AH.part, retQ, rvs, retV, AH.splice, AH.sliceElems, AH.bytesOf, AH.strOp, AH.bound, AH.addLog, AH.missQ, AH.minmaxAV, AH.wpOpD, AH.readOf, AH.effOf, AH.mapAt, AH.iterAt, Nat.reduceBEq, Nat.reduceAdd, Nat.reduceLT, ↓reduceIte, Nat.reduceEqDiff, Nat.reduceLeDiff, Nat.reduceSub, Nat.reduceMul, Int.reduceSub, Int.reduceToNat, Int.reduceBEq, Int.reduceBNe, Int.reduceLT, Int.reduceGT, Int.reduceLE, Int.reduceGE, Int.reduceNeg, Int.reduceAdd, w8]
  repeat (refine ⟨by first | rfl | decide | omega | (simp only [List.length_map, and_true]; omega) | (simp only [List.length_map, List.length_set, and_true]; omega), ?_⟩)
  simp only [m0, m1, m2, m3, fdq]
  rfl
theorem x3 : IntKind.i64.wrap ((4 : Int) - 1) = 3 := by decide
theorem x2 : IntKind.i64.wrap ((3 : Int) - 1) = 2 := by decide
theorem x1 : IntKind.i64.wrap ((2 : Int) - 1) = 1 := by decide
theorem x0 : IntKind.i64.wrap ((1 : Int) - 1) = 0 := by decide
theorem xm : IntKind.i64.wrap ((0 : Int) - 1) = -1 := by decide
theorem y3 : decide ((3 : Int) ≥ 0) = true := rfl
theorem y2 : decide ((2 : Int) ≥ 0) = true := rfl
theorem y1 : decide ((1 : Int) ≥ 0) = true := rfl
theorem y0 : decide ((0 : Int) ≥ 0) = true := rfl
theorem ym : decide ((-1 : Int) ≥ 0) = false := rfl
theorem wz : IntKind.i64.wrap 0 = 0 := by decide
theorem wm : IntKind.i64.wrap (-1) = -1 := by decide
theorem t3 : (3 : Int).toNat = 3 := rfl
theorem t2 : (2 : Int).toNat = 2 := rfl
theorem t1 : (1 : Int).toNat = 1 := rfl
theorem t0 : (0 : Int).toNat = 0 := rfl
theorem vst {x : Int} {b : UInt8} (h0 : 0 ≤ x) (h1 : x < 1099511627776) : IntKind.i64.wrap (IntKind.i64.wrap (x * 256) + IntKind.i64.wrap (b.toNat : Int)) = x * 256 + b.toNat := by
  have := b.toNat_lt
  simp only [IntKind.wrap_i64]
  omega
theorem rval2 (a b : UInt8) : Pure S0 52 [.str ⟨#[a, b]⟩] (.int .i64 (val2 a b)) := by
  refine fun_sound okF0 Tryd.func52 c52 ?_
  unfold wpF F52
  simp only [AH.SD, AH.wpOp, AOp.call?, AOp.next?, bstep, AOp.map, Opd.ev, tget, argTm, evs, AV.cells, St.eff, St.put, applyWr, mset, terase, pureE, unAV, intOp, binAV, fill, mget, AH.rowAt, AH.part, retQ, rvs, retV, AH.splice, AH.sliceElems, AH.bytesOf, AH.strOp, AH.bound, AH.addLog, AH.missQ, AH.minmaxAV, AH.wpOpD, AH.readOf, AH.effOf, AH.mapAt, AH.iterAt, Nat.reduceBEq, Nat.reduceAdd, Nat.reduceLT, ↓reduceIte, Nat.reduceEqDiff, Nat.reduceLeDiff, Nat.reduceSub, Nat.reduceMul, Int.reduceSub, Int.reduceToNat, Int.reduceBEq, Int.reduceBNe, Int.reduceLT, Int.reduceGT, Int.reduceLE, Int.reduceGE, Int.reduceNeg, Int.reduceAdd, sz2, wz, wm, sz4, x3, x2, x1, x0, xm, y3, y2, y1, y0, ym, t3, t2, t1, t0]
  refine loop_unroll ctxU_monoB ?_
  simp only [AH.SD, AH.wpOp, AOp.call?, AOp.next?, bstep, AOp.map, Opd.ev, tget, argTm, evs, AV.cells, St.eff, St.put, applyWr, mset, terase, pureE, unAV, intOp, binAV, fill, mget, AH.rowAt, AH.part, retQ, rvs, retV, AH.splice, AH.sliceElems, AH.bytesOf, AH.strOp, AH.bound, AH.addLog, AH.missQ, AH.minmaxAV, AH.wpOpD, AH.readOf, AH.effOf, AH.mapAt, AH.iterAt, Nat.reduceBEq, Nat.reduceAdd, Nat.reduceLT, ↓reduceIte, Nat.reduceEqDiff, Nat.reduceLeDiff, Nat.reduceSub, Nat.reduceMul, Int.reduceSub, Int.reduceToNat, Int.reduceBEq, Int.reduceBNe, Int.reduceLT, Int.reduceGT, Int.reduceLE, Int.reduceGE, Int.reduceNeg, Int.reduceAdd, sz2, wz, wm, sz4, x3, x2, x1, x0, xm, y3, y2, y1, y0, ym, t3, t2, t1, t0]
  repeat ((with_reducible refine And.intro ?_ ?_); focus (first | rfl | decide | omega | (simp only [List.length_map, and_true]; omega) | (simp only [List.length_map, List.length_set, and_true]; omega)))
  refine loop_unroll ctxU_monoB ?_
  simp only [AH.SD, AH.wpOp, AOp.call?, AOp.next?, bstep, AOp.map, Opd.ev, tget, argTm, evs, AV.cells, St.eff, St.put, applyWr, mset, terase, pureE, unAV, intOp, binAV, fill, mget, AH.rowAt, AH.part, retQ, rvs, retV, AH.splice, AH.sliceElems, AH.bytesOf, AH.strOp, AH.bound, AH.addLog, AH.missQ, AH.minmaxAV, AH.wpOpD, AH.readOf, AH.effOf, AH.mapAt, AH.iterAt, Nat.reduceBEq, Nat.reduceAdd, Nat.reduceLT, ↓reduceIte, Nat.reduceEqDiff, Nat.reduceLeDiff, Nat.reduceSub, Nat.reduceMul, Int.reduceSub, Int.reduceToNat, Int.reduceBEq, Int.reduceBNe, Int.reduceLT, Int.reduceGT, Int.reduceLE, Int.reduceGE, Int.reduceNeg, Int.reduceAdd, sz2, wz, wm, sz4, x3, x2, x1, x0, xm, y3, y2, y1, y0, ym, t3, t2, t1, t0]
  repeat ((with_reducible refine And.intro ?_ ?_); focus (first | rfl | decide | omega | (simp only [List.length_map, and_true]; omega) | (simp only [List.length_map, List.length_set, and_true]; omega)))
  refine loop_unroll ctxU_monoB ?_
  simp only [AH.SD, AH.wpOp, AOp.call?, AOp.next?, bstep, AOp.map, Opd.ev, tget, argTm, evs, AV.cells, St.eff, St.put, applyWr, mset, terase, pureE, unAV, intOp, binAV, fill, mget, AH.rowAt, AH.part, retQ, rvs, retV, AH.splice, AH.sliceElems, AH.bytesOf, AH.strOp, AH.bound, AH.addLog, AH.missQ, AH.minmaxAV, AH.wpOpD, AH.readOf, AH.effOf, AH.mapAt, AH.iterAt, Nat.reduceBEq, Nat.reduceAdd, Nat.reduceLT, ↓reduceIte, Nat.reduceEqDiff, Nat.reduceLeDiff, Nat.reduceSub, Nat.reduceMul, Int.reduceSub, Int.reduceToNat, Int.reduceBEq, Int.reduceBNe, Int.reduceLT, Int.reduceGT, Int.reduceLE, Int.reduceGE, Int.reduceNeg, Int.reduceAdd, sz2, wz, wm, sz4, x3, x2, x1, x0, xm, y3, y2, y1, y0, ym, t3, t2, t1, t0]
  repeat ((with_reducible refine And.intro ?_ ?_); focus (first | rfl | decide | omega | (simp only [List.length_map, and_true]; omega) | (simp only [List.length_map, List.length_set, and_true]; omega)))
  have ha := a.toNat_lt
  have hb := b.toNat_lt
  rw [vst (x := 0) (by decide) (by decide), vst (x := 0 * 256 + (b.toNat : Int)) (by omega) (by omega)]
  simp only [val2]
  congr 1; omega
theorem rval4 (a b c d : UInt8) : Pure S0 52 [.str ⟨#[a, b, c, d]⟩] (.int .i64 (val4 a b c d)) := by
  refine fun_sound okF0 Tryd.func52 c52 ?_
  unfold wpF F52
  simp only [AH.SD, AH.wpOp, AOp.call?, AOp.next?, bstep, AOp.map, Opd.ev, tget, argTm, evs, AV.cells, St.eff, St.put, applyWr, mset, terase, pureE, unAV, intOp, binAV, fill, mget, AH.rowAt, AH.part, retQ, rvs, retV, AH.splice, AH.sliceElems, AH.bytesOf, AH.strOp, AH.bound, AH.addLog, AH.missQ, AH.minmaxAV, AH.wpOpD, AH.readOf, AH.effOf, AH.mapAt, AH.iterAt, Nat.reduceBEq, Nat.reduceAdd, Nat.reduceLT, ↓reduceIte, Nat.reduceEqDiff, Nat.reduceLeDiff, Nat.reduceSub, Nat.reduceMul, Int.reduceSub, Int.reduceToNat, Int.reduceBEq, Int.reduceBNe, Int.reduceLT, Int.reduceGT, Int.reduceLE, Int.reduceGE, Int.reduceNeg, Int.reduceAdd, sz2, wz, wm, sz4, x3, x2, x1, x0, xm, y3, y2, y1, y0, ym, t3, t2, t1, t0]
  refine loop_unroll ctxU_monoB ?_
  simp only [AH.SD, AH.wpOp, AOp.call?, AOp.next?, bstep, AOp.map, Opd.ev, tget, argTm, evs, AV.cells, St.eff, St.put, applyWr, mset, terase, pureE, unAV, intOp, binAV, fill, mget, AH.rowAt, AH.part, retQ, rvs, retV, AH.splice, AH.sliceElems, AH.bytesOf, AH.strOp, AH.bound, AH.addLog, AH.missQ, AH.minmaxAV, AH.wpOpD, AH.readOf, AH.effOf, AH.mapAt, AH.iterAt, Nat.reduceBEq, Nat.reduceAdd, Nat.reduceLT, ↓reduceIte, Nat.reduceEqDiff, Nat.reduceLeDiff, Nat.reduceSub, Nat.reduceMul, Int.reduceSub, Int.reduceToNat, Int.reduceBEq, Int.reduceBNe, Int.reduceLT, Int.reduceGT, Int.reduceLE, Int.reduceGE, Int.reduceNeg, Int.reduceAdd, sz2, wz, wm, sz4, x3, x2, x1, x0, xm, y3, y2, y1, y0, ym, t3, t2, t1, t0]
  repeat ((with_reducible refine And.intro ?_ ?_); focus (first | rfl | decide | omega | (simp only [List.length_map, and_true]; omega) | (simp only [List.length_map, List.length_set, and_true]; omega)))
  refine loop_unroll ctxU_monoB ?_
  simp only [AH.SD, AH.wpOp, AOp.call?, AOp.next?, bstep, AOp.map, Opd.ev, tget, argTm, evs, AV.cells, St.eff, St.put, applyWr, mset, terase, pureE, unAV, intOp, binAV, fill, mget, AH.rowAt, AH.part, retQ, rvs, retV, AH.splice, AH.sliceElems, AH.bytesOf, AH.strOp, AH.bound, AH.addLog, AH.missQ, AH.minmaxAV, AH.wpOpD, AH.readOf, AH.effOf, AH.mapAt, AH.iterAt, Nat.reduceBEq, Nat.reduceAdd, Nat.reduceLT, ↓reduceIte, Nat.reduceEqDiff, Nat.reduceLeDiff, Nat.reduceSub, Nat.reduceMul, Int.reduceSub, Int.reduceToNat, Int.reduceBEq, Int.reduceBNe, Int.reduceLT, Int.reduceGT, Int.reduceLE, Int.reduceGE, Int.reduceNeg, Int.reduceAdd, sz2, wz, wm, sz4, x3, x2, x1, x0, xm, y3, y2, y1, y0, ym, t3, t2, t1, t0]
  repeat ((with_reducible refine And.intro ?_ ?_); focus (first | rfl | decide | omega | (simp only [List.length_map, and_true]; omega) | (simp only [List.length_map, List.length_set, and_true]; omega)))
  refine loop_unroll ctxU_monoB ?_
  simp only [AH.SD, AH.wpOp, AOp.call?, AOp.next?, bstep, AOp.map, Opd.ev, tget, argTm, evs, AV.cells, St.eff, St.put, applyWr, mset, terase, pureE, unAV, intOp, binAV, fill, mget, AH.rowAt, AH.part, retQ, rvs, retV, AH.splice, AH.sliceElems, AH.bytesOf, AH.strOp, AH.bound, AH.addLog, AH.missQ, AH.minmaxAV, AH.wpOpD, AH.readOf, AH.effOf, AH.mapAt, AH.iterAt, Nat.reduceBEq, Nat.reduceAdd, Nat.reduceLT, ↓reduceIte, Nat.reduceEqDiff, Nat.reduceLeDiff, Nat.reduceSub, Nat.reduceMul, Int.reduceSub, Int.reduceToNat, Int.reduceBEq, Int.reduceBNe, Int.reduceLT, Int.reduceGT, Int.reduceLE, Int.reduceGE, Int.reduceNeg, Int.reduceAdd, sz2, wz, wm, sz4, x3, x2, x1, x0, xm, y3, y2, y1, y0, ym, t3, t2, t1, t0]
  repeat ((with_reducible refine And.intro ?_ ?_); focus (first | rfl | decide | omega | (simp only [List.length_map, and_true]; omega) | (simp only [List.length_map, List.length_set, and_true]; omega)))
  refine loop_unroll ctxU_monoB ?_
  simp only [AH.SD, AH.wpOp, AOp.call?, AOp.next?, bstep, AOp.map, Opd.ev, tget, argTm, evs, AV.cells, St.eff, St.put, applyWr, mset, terase, pureE, unAV, intOp, binAV, fill, mget, AH.rowAt, AH.part, retQ, rvs, retV, AH.splice, AH.sliceElems, AH.bytesOf, AH.strOp, AH.bound, AH.addLog, AH.missQ, AH.minmaxAV, AH.wpOpD, AH.readOf, AH.effOf, AH.mapAt, AH.iterAt, Nat.reduceBEq, Nat.reduceAdd, Nat.reduceLT, ↓reduceIte, Nat.reduceEqDiff, Nat.reduceLeDiff, Nat.reduceSub, Nat.reduceMul, Int.reduceSub, Int.reduceToNat, Int.reduceBEq, Int.reduceBNe, Int.reduceLT, Int.reduceGT, Int.reduceLE, Int.reduceGE, Int.reduceNeg, Int.reduceAdd, sz2, wz, wm, sz4, x3, x2, x1, x0, xm, y3, y2, y1, y0, ym, t3, t2, t1, t0]
  repeat ((with_reducible refine And.intro ?_ ?_); focus (first | rfl | decide | omega | (simp only [List.length_map, and_true]; omega) | (simp only [List.length_map, List.length_set, and_true]; omega)))
  refine loop_unroll ctxU_monoB ?_
  simp only [AH.SD, AH.wpOp, AOp.call?, AOp.next?, bstep, AOp.map, Opd.ev, tget, argTm, evs, AV.cells, St.eff, St.put, applyWr, mset, terase, pureE, unAV, intOp, binAV, fill, mget, AH.rowAt, AH.part, retQ, rvs, retV, AH.splice, AH.sliceElems, AH.bytesOf, AH.strOp, AH.bound, AH.addLog, AH.missQ, AH.minmaxAV, AH.wpOpD, AH.readOf, AH.effOf, AH.mapAt, AH.iterAt, Nat.reduceBEq, Nat.reduceAdd, Nat.reduceLT, ↓reduceIte, Nat.reduceEqDiff, Nat.reduceLeDiff, Nat.reduceSub, Nat.reduceMul, Int.reduceSub, Int.reduceToNat, Int.reduceBEq, Int.reduceBNe, Int.reduceLT, Int.reduceGT, Int.reduceLE, Int.reduceGE, Int.reduceNeg, Int.reduceAdd, sz2, wz, wm, sz4, x3, x2, x1, x0, xm, y3, y2, y1, y0, ym, t3, t2, t1, t0]
  repeat ((with_reducible refine And.intro ?_ ?_); focus (first | rfl | decide | omega | (simp only [List.length_map, and_true]; omega) | (simp only [List.length_map, List.length_set, and_true]; omega)))
  have ha := a.toNat_lt
  have hb := b.toNat_lt
  have hc := c.toNat_lt
  have hd := d.toNat_lt
  rw [vst (x := 0) (by decide) (by decide), vst (x := 0 * 256 + (d.toNat : Int)) (by omega) (by omega), vst (x := (0 * 256 + (d.toNat : Int)) * 256 + (c.toNat : Int)) (by omega) (by omega), vst (x := ((0 * 256 + (d.toNat : Int)) * 256 + (c.toNat : Int)) * 256 + (b.toNat : Int)) (by omega) (by omega)]
  simp only [val4]
  congr 1; omega
theorem rsize_ok (s : ByteArray) (h : okSz s) : Pure S0 35 [.str s] (.int .i64 (sizeN s.size)) := by
  have h1 : s.size ≤ 1048576 := h
  refine fun_sound okF0 Tryd.func35 c35 ?_
  unfold wpF F35
  have w1 : IntKind.i64.wrap ((s.size : Int) + 8) = ((s.size + 8 : Nat) : Int) := by rw [IntKind.wrap_i64]; omega
  have w3 : IntKind.i64.wrap (((s.size + 8 : Nat) : Int) + 55) = ((s.size + 63 : Nat) : Int) := by rw [IntKind.wrap_i64]; omega
  have w4 : ((s.size + 63 : Nat) : Int).tdiv 56 = ((sizeN s.size : Nat) : Int) := by
    rw [Int.tdiv_eq_ediv_of_nonneg (by omega)]; unfold sizeN; omega
  have h5 : sizeN s.size ≤ 1048576 := by unfold sizeN; omega
  have w5 : IntKind.i64.wrap ((sizeN s.size : Nat) : Int) = ((sizeN s.size : Nat) : Int) := by rw [IntKind.wrap_i64]; omega
  simp only [AH.SD, AH.wpOp, AOp.call?, AOp.next?, bstep, AOp.map, Opd.ev, tget, argTm, evs, AV.cells, St.eff, St.put, applyWr, mset, terase, pureE, unAV, intOp, binAV, fill, mget, AH.rowAt, AH.part, retQ, rvs, retV, AH.splice, AH.sliceElems, AH.bytesOf, AH.strOp, AH.bound, AH.addLog, AH.missQ, AH.minmaxAV, AH.wpOpD, AH.readOf, AH.effOf, AH.mapAt, AH.iterAt, Nat.reduceBEq, Nat.reduceAdd, Nat.reduceLT, ↓reduceIte, Nat.reduceEqDiff, Nat.reduceLeDiff, Nat.reduceSub, Nat.reduceMul, Int.reduceSub, Int.reduceToNat, Int.reduceBEq, Int.reduceBNe, Int.reduceLT, Int.reduceGT, Int.reduceLE, Int.reduceGE, Int.reduceNeg, Int.reduceAdd, w1, w3, w4, w5]
  decide
def rstep (n : Int) (b : UInt8) : Int := (IntKind.u64.wrap (IntKind.u64.wrap (IntKind.u64.wrap (n * 257) + IntKind.u64.wrap (b.toNat : Int)) + 1)).tmod 4294967296
def rmSt (s : ByteArray) (n : Int) (i : Nat) : St := ⟨[(6, .int .i64 i), (5, .int .u64 ((s.data.toList.take i).foldl rstep n)), (1, .str s)], []⟩
theorem byt_at {s : ByteArray} {i : Nat} (h : i < s.data.toList.length) : s.data.toList.getD i 0 = s.data.toList[i] := by
  rw [List.getD_eq_getElem?_getD, List.getElem?_eq_getElem h]; rfl
theorem rmore_ok (n : Int) (s : ByteArray) (hs : s.size ≤ 1048576) : Pure S0 63 [.int .u32 n, .str s] (.int .u32 (IntKind.u32.wrap (s.data.toList.foldl rstep (IntKind.u64.wrap n)))) := by
  refine fun_sound okF0 Tryd.func63 c63 ?_
  unfold wpF F63
  simp only [AH.SD, AH.wpOp, AOp.call?, AOp.next?, bstep, AOp.map, Opd.ev, tget, argTm, evs, AV.cells, St.eff, St.put, applyWr, mset, terase, pureE, unAV, intOp, binAV, fill, mget, AH.rowAt, AH.part, retQ, rvs, retV, AH.splice, AH.sliceElems, AH.bytesOf, AH.strOp, AH.bound, AH.addLog, AH.missQ, AH.minmaxAV, AH.wpOpD, AH.readOf, AH.effOf, AH.mapAt, AH.iterAt, Nat.reduceBEq, Nat.reduceAdd, Nat.reduceLT, ↓reduceIte, Nat.reduceEqDiff, Nat.reduceLeDiff, Nat.reduceSub, Nat.reduceMul, Int.reduceSub, Int.reduceToNat, Int.reduceBEq, Int.reduceBNe, Int.reduceLT, Int.reduceGT, Int.reduceLE, Int.reduceGE, Int.reduceNeg, Int.reduceAdd]
  have hsz : s.data.toList.length = s.size := by rw [Array.length_toList]; rfl
  refine loop_do [] [6, 5, 1] [] (α := Nat) (fun i => s.size - i) (rmSt s (IntKind.u64.wrap n)) (fun i => i ≤ s.size) 0 (Nat.zero_le _) (by simp only [AH.SD, AH.wpOp, AOp.call?, AOp.next?, bstep, AOp.map, Opd.ev, tget, argTm, evs, AV.cells, St.eff, St.put, applyWr, mset, terase, pureE, unAV, intOp, binAV, fill, mget, AH.rowAt, AH.part, retQ, rvs, retV, AH.splice, AH.sliceElems, AH.bytesOf, AH.strOp, AH.bound, AH.addLog, AH.missQ, AH.minmaxAV, AH.wpOpD, AH.readOf, AH.effOf, AH.mapAt, AH.iterAt, Nat.reduceBEq, Nat.reduceAdd, Nat.reduceLT, ↓reduceIte, Nat.reduceEqDiff, Nat.reduceLeDiff, Nat.reduceSub, Nat.reduceMul, Int.reduceSub, Int.reduceToNat, Int.reduceBEq, Int.reduceBNe, Int.reduceLT, Int.reduceGT, Int.reduceLE, Int.reduceGE, Int.reduceNeg, Int.reduceAdd, AH.PD, heads, distN, AH.inN, posN, packM, packB, packTm, liveB, AV.inB, AV.insB, AV.ren, AV.rens, Blk.ren, Blk.inB, vstep, tput, rmSt, List.foldl_nil]) ?_
  intro X i hi ih
  simp only [AH.SD, AH.wpOp, AOp.call?, AOp.next?, bstep, AOp.map, Opd.ev, tget, argTm, evs, AV.cells, St.eff, St.put, applyWr, mset, terase, pureE, unAV, intOp, binAV, fill, mget, AH.rowAt, AH.part, retQ, rvs, retV, AH.splice, AH.sliceElems, AH.bytesOf, AH.strOp, AH.bound, AH.addLog, AH.missQ, AH.minmaxAV, AH.wpOpD, AH.readOf, AH.effOf, AH.mapAt, AH.iterAt, Nat.reduceBEq, Nat.reduceAdd, Nat.reduceLT, ↓reduceIte, Nat.reduceEqDiff, Nat.reduceLeDiff, Nat.reduceSub, Nat.reduceMul, Int.reduceSub, Int.reduceToNat, Int.reduceBEq, Int.reduceBNe, Int.reduceLT, Int.reduceGT, Int.reduceLE, Int.reduceGE, Int.reduceNeg, Int.reduceAdd, rmSt]
  refine ⟨fun hlt => ?_, fun hlt => ?_⟩
  · have hi1 := lt_of_dec hlt
    have hi2 : i < s.data.toList.length := by omega
    have wi := wrapS (i := i) (by omega)
    have done := ih (i + 1) hi1 (by omega)
    simp only [rmSt, List.take_succ_eq_append_getElem hi2, List.foldl_append, List.foldl_cons, List.foldl_nil] at done
    rw [show ∀ x : Int, rstep x s.data.toList[i] = (IntKind.u64.wrap (IntKind.u64.wrap (IntKind.u64.wrap (x * 257) + IntKind.u64.wrap ((s.data.toList[i]).toNat : Int)) + 1)).tmod 4294967296 from fun _ => rfl] at done
    simp only [AH.SD, AH.wpOp, AOp.call?, AOp.next?, bstep, AOp.map, Opd.ev, tget, argTm, evs, AV.cells, St.eff, St.put, applyWr, mset, terase, pureE, unAV, intOp, binAV, fill, mget, AH.rowAt, AH.part, retQ, rvs, retV, AH.splice, AH.sliceElems, AH.bytesOf, AH.strOp, AH.bound, AH.addLog, AH.missQ, AH.minmaxAV, AH.wpOpD, AH.readOf, AH.effOf, AH.mapAt, AH.iterAt, Nat.reduceBEq, Nat.reduceAdd, Nat.reduceLT, ↓reduceIte, Nat.reduceEqDiff, Nat.reduceLeDiff, Nat.reduceSub, Nat.reduceMul, Int.reduceSub, Int.reduceToNat, Int.reduceBEq, Int.reduceBNe, Int.reduceLT, Int.reduceGT, Int.reduceLE, Int.reduceGE, Int.reduceNeg, Int.reduceAdd, byt_at hi2, wi, Int.toNat_natCast]
    repeat ((with_reducible refine And.intro ?_ ?_); focus (first | rfl | decide | omega | (simp only [List.length_map, and_true]; omega) | (simp only [List.length_map, List.length_set, and_true]; omega)))
    try simp only [AH.SD, AH.wpOp, AOp.call?, AOp.next?, bstep, AOp.map, Opd.ev, tget, argTm, evs, AV.cells, St.eff, St.put, applyWr, mset, terase, pureE, unAV, intOp, binAV, fill, mget, AH.rowAt, AH.part, retQ, rvs, retV, AH.splice, AH.sliceElems, AH.bytesOf, AH.strOp, AH.bound, AH.addLog, AH.missQ, AH.minmaxAV, AH.wpOpD, AH.readOf, AH.effOf, AH.mapAt, AH.iterAt, Nat.reduceBEq, Nat.reduceAdd, Nat.reduceLT, ↓reduceIte, Nat.reduceEqDiff, Nat.reduceLeDiff, Nat.reduceSub, Nat.reduceMul, Int.reduceSub, Int.reduceToNat, Int.reduceBEq, Int.reduceBNe, Int.reduceLT, Int.reduceGT, Int.reduceLE, Int.reduceGE, Int.reduceNeg, Int.reduceAdd, byt_at hi2, wi, Int.toNat_natCast]
    repeat ((with_reducible refine And.intro ?_ ?_); focus (first | rfl | decide | omega | (simp only [List.length_map, and_true]; omega) | (simp only [List.length_map, List.length_set, and_true]; omega)))
    refine gc_auto [] [6, 5, 1] [] ?_
    simp only [AH.SD, AH.wpOp, AOp.call?, AOp.next?, bstep, AOp.map, Opd.ev, tget, argTm, evs, AV.cells, St.eff, St.put, applyWr, mset, terase, pureE, unAV, intOp, binAV, fill, mget, AH.rowAt, AH.part, retQ, rvs, retV, AH.splice, AH.sliceElems, AH.bytesOf, AH.strOp, AH.bound, AH.addLog, AH.missQ, AH.minmaxAV, AH.wpOpD, AH.readOf, AH.effOf, AH.mapAt, AH.iterAt, Nat.reduceBEq, Nat.reduceAdd, Nat.reduceLT, ↓reduceIte, Nat.reduceEqDiff, Nat.reduceLeDiff, Nat.reduceSub, Nat.reduceMul, Int.reduceSub, Int.reduceToNat, Int.reduceBEq, Int.reduceBNe, Int.reduceLT, Int.reduceGT, Int.reduceLE, Int.reduceGE, Int.reduceNeg, Int.reduceAdd, AH.PD, heads, distN, AH.inN, posN, packM, packB, packTm, liveB, AV.inB, AV.insB, AV.ren, AV.rens, Blk.ren, Blk.inB, vstep, tput]
    exact done
  · have hi1 := ge_of_dec hlt
    obtain rfl : i = s.size := by omega
    rw [show s.data.toList.take s.size = s.data.toList by rw [← hsz, List.take_length]]
    simp only [AH.SD, AH.wpOp, AOp.call?, AOp.next?, bstep, AOp.map, Opd.ev, tget, argTm, evs, AV.cells, St.eff, St.put, applyWr, mset, terase, pureE, unAV, intOp, binAV, fill, mget, AH.rowAt, AH.part, retQ, rvs, retV, AH.splice, AH.sliceElems, AH.bytesOf, AH.strOp, AH.bound, AH.addLog, AH.missQ, AH.minmaxAV, AH.wpOpD, AH.readOf, AH.effOf, AH.mapAt, AH.iterAt, Nat.reduceBEq, Nat.reduceAdd, Nat.reduceLT, ↓reduceIte, Nat.reduceEqDiff, Nat.reduceLeDiff, Nat.reduceSub, Nat.reduceMul, Int.reduceSub, Int.reduceToNat, Int.reduceBEq, Int.reduceBNe, Int.reduceLT, Int.reduceGT, Int.reduceLE, Int.reduceGE, Int.reduceNeg, Int.reduceAdd]
theorem moreB_in (n : Int) (b : UInt8) : 0 ≤ moreB n b ∧ moreB n b < 4294967296 := by
  unfold moreB
  rw [IntKind.wrap_u32]; omega
theorem rstep_eq {n : Int} (h0 : 0 ≤ n) (h1 : n < 4294967296) (b : UInt8) : rstep n b = moreB n b := by
  have := b.toNat_lt
  simp only [rstep, moreB, IntKind.wrap_u64, IntKind.wrap_u32]
  have e : (((n * 257 % 18446744073709551616 + (b.toNat : Int) % 18446744073709551616) % 18446744073709551616 + 1) % 18446744073709551616) = n * 257 + b.toNat + 1 := by omega
  rw [e, Int.tmod_eq_emod_of_nonneg (by omega)]
  omega
theorem rfold_eq (l : List UInt8) : ∀ {n : Int}, 0 ≤ n → n < 4294967296 → l.foldl rstep n = l.foldl moreB n := by
  induction l with
  | nil => intro n _ _; simp only [List.foldl_nil]
  | cons b l ih =>
    intro n h0 h1
    simp only [List.foldl_cons, rstep_eq h0 h1, ih (moreB_in n b).1 (moreB_in n b).2]
def rmoreZ (n : Int) (s : ByteArray) : Int := IntKind.u32.wrap (s.data.toList.foldl rstep (IntKind.u64.wrap n))
def rmoreT : RT := rtC (cC (aI .u32) (cC aS c0)) (fun x => okSz x.2.1) fun x => .int .u32 (rmoreZ x.1 x.2.1)
theorem rmoreT_ok : ReadF S0 63 rmoreT := rtC_ok (fun x h => rmore_ok x.1 x.2.1 h) fun _ => rfl
theorem rmoreT_p {n : Int} {s : ByteArray} {M : Nat → Option Blk} : rmoreT [.int .u32 n, .str s] M = rtC1 (fun (x : Int × ByteArray × Unit) => okSz x.2.1) (fun x => .int .u32 (rmoreZ x.1 x.2.1)) (some (n, s, ())) := by
  simp only [rmoreT, rtC_p, cC_dec, aI_dec, aS_dec, c0_dec, pairO_some]
theorem okRsum : CtxOK S0 (ctxU S0 [(63, rmoreT)] []) := ctxU_ok ⟨rmoreT_ok, trivial⟩ trivial mixed
theorem rof_eq (s : ByteArray) : rmoreZ 1 s = sumZ s := by
  have h := sumZ_in s
  have e : s.data.toList.foldl moreB 1 = sumZ s := rfl
  rw [rmoreZ, show IntKind.u64.wrap 1 = 1 by decide, rfold_eq s.data.toList (by decide) (by decide), e, IntKind.wrap_u32]
  exact Int.emod_eq_of_lt h.1 h.2
theorem rof_ok (s : ByteArray) (hs : okSz s) : Pure S0 51 [.str s] (.int .u32 (sumZ s)) := by
  refine fun_sound okRsum Tryd.func51 c51 ?_
  unfold wpF F51
  simp only [AH.SD, AH.wpOp, AOp.call?, AOp.next?, bstep, AOp.map, Opd.ev, tget, argTm, evs, AV.cells, St.eff, St.put, applyWr, mset, terase, pureE, unAV, intOp, binAV, fill, mget, AH.rowAt, AH.part, retQ, rvs, retV, AH.splice, AH.sliceElems, AH.bytesOf, AH.strOp, AH.bound, AH.addLog, AH.missQ, AH.minmaxAV, AH.wpOpD, AH.readOf, AH.effOf, AH.mapAt, AH.iterAt, Nat.reduceBEq, Nat.reduceAdd, Nat.reduceLT, ↓reduceIte, Nat.reduceEqDiff, Nat.reduceLeDiff, Nat.reduceSub, Nat.reduceMul, Int.reduceSub, Int.reduceToNat, Int.reduceBEq, Int.reduceBNe, Int.reduceLT, Int.reduceGT, Int.reduceLE, Int.reduceGE, Int.reduceNeg, Int.reduceAdd, rmoreT_p, rtC1, hs, if_true, rof_eq]
def rofT : RT := rtC (cC aS c0) (fun x => okSz x.1) fun x => .int .u32 (sumZ x.1)
theorem rofT_ok : ReadF S0 51 rofT := rtC_ok (fun x h => rof_ok x.1 h) fun _ => rfl
theorem rofT_p {s : ByteArray} {M : Nat → Option Blk} (h : okSz s) : rofT [.str s] M = some (.int .u32 (sumZ s), []) := by
  simp only [rofT, rtC_p, cC_dec, aS_dec, c0_dec, pairO_some]
  exact rtC1_eq h
def rnumT : RT := rtC (cC (aI .i64) (cC (aI .i64) c0)) numP numF
theorem rnumT_ok : ReadF S0 50 rnumT := rtC_ok (fun x h => by
  obtain ⟨n, k, u⟩ := x
  rcases h with h | h
  · simp only at h; subst h; exact rnum4 n
  · simp only at h; subst h; exact rnum2 n) fun _ => rfl
theorem rnumT_4 {n : Int} {M : Nat → Option Blk} : rnumT [.int .i64 n, .int .i64 4] M = some (.str (num4 n), []) := by
  simp only [rnumT, rtC_p, cC_dec, aI_dec, c0_dec, pairO_some]
  exact rtC1_eq (.inl rfl)
theorem rnumT_2 {n : Int} {M : Nat → Option Blk} : rnumT [.int .i64 n, .int .i64 2] M = some (.str (num2 n), []) := by
  simp only [rnumT, rtC_p, cC_dec, aI_dec, c0_dec, pairO_some]
  exact rtC1_eq (.inr rfl)
theorem rvalue_ok (s : ByteArray) (h : okVal s) : Pure S0 52 [.str s] (.int .i64 (valS s)) := by
  obtain ⟨⟨l⟩⟩ := s
  rcases h with h | h
  · match l, h with
    | [a, b], _ => exact rval2 a b
  · match l, h with
    | [a, b, c, d], _ => exact rval4 a b c d
def rvalT : RT := rtC (cC aS c0) (fun x => okVal x.1) fun x => .int .i64 (valS x.1)
theorem rvalT_ok : ReadF S0 52 rvalT := rtC_ok (fun x h => rvalue_ok x.1 h) fun _ => rfl
theorem rvalT_p {s : ByteArray} {M : Nat → Option Blk} (h : okVal s) : rvalT [.str s] M = some (.int .i64 (valS s), []) := by
  simp only [rvalT, rtC_p, cC_dec, aS_dec, c0_dec, pairO_some]
  exact rtC1_eq h
def rsizeT : RT := rtC (cC aS c0) (fun x => okSz x.1) fun x => .int .i64 (sizeN x.1.size)
theorem rsizeT_ok : ReadF S0 35 rsizeT := rtC_ok (fun x h => rsize_ok x.1 h) fun _ => rfl
theorem rsizeT_p {s : ByteArray} {M : Nat → Option Blk} (h : okSz s) : rsizeT [.str s] M = some (.int .i64 (sizeN s.size), []) := by
  simp only [rsizeT, rtC_p, cC_dec, aS_dec, c0_dec, pairO_some]
  exact rtC1_eq h
end Go.Proofs.YtcmnchmkoghfdaaDoor.C05h
