import Derived.Test.YtkbjfhkhbcgkgaaDoorSum02B01
import Derived.Test.YtkbjfhkhbcgkgaaDoorAsTB01
import Derived.Test.YtkbjfhkhbcgkgaaDoorVecMB01
open Go AH
set_option linter.unusedSimpArgs false
set_option maxRecDepth 100000
namespace Go.Proofs.YtkbjfhkhbcgkgaaDoor.B01

theorem kindQ_1 {b : Nat} {s : ByteArray} {a : Int} : kindQ b (some (3, [[.str s, .int .i64 a, errA 1]])) = some (.int .i64 1, [b]) := rfl
theorem kindQ_4 {b : Nat} {s : ByteArray} {a : Int} : kindQ b (some (3, [[.str s, .int .i64 a, errA 4]])) = some (.int .i64 4, [b]) := rfl
instance : DecidableEq V4 := fun x y => decidable_of_iff (eqV x y = true) (eqV_iff x y)
theorem eqV_self (v : V4) : eqV v v = true := (eqV_iff v v).2 rfl

theorem none_ok (v : V4) : Pure S0 28 [v.av] (.bool (eqV v .zero)) := by
  refine fun_sound okZ Tryd.func28 c28 ?_
  unfold wpF F28
  simp only [AH.SD, AH.wpOp, AOp.call?, AOp.next?, bstep, AOp.map, Opd.ev, tget, argTm, evs, AV.cells, St.eff, St.put, applyWr, mset, terase, pureE, unAV, intOp, binAV, fill, mget, AH.rowAt, AH.part, retQ, rvs, retV, AH.splice, AH.sliceElems, AH.bytesOf, AH.strOp, AH.bound, AH.addLog, AH.missQ, AH.minmaxAV, AH.wpOpD, AH.readOf, AH.mapAt, AH.iterAt, Nat.reduceBEq, Nat.reduceAdd, Nat.reduceLT, ↓reduceIte, Nat.reduceEqDiff, Nat.reduceLeDiff, Nat.reduceSub, Nat.reduceMul, Int.reduceSub, Int.reduceToNat, Int.reduceBEq, Int.reduceBNe, Int.reduceLT, Int.reduceGT, Int.reduceLE, Int.reduceGE, Int.reduceNeg, Int.reduceAdd, V4.av, eqFlat_vec, V4.zero]
def noneT : RT := rtP (cC (aA cV) c0) fun x => .bool (eqV x.1 .zero)
theorem noneT_ok : ReadF S0 28 noneT := rtP_ok (fun x => none_ok x.1) fun _ => rfl
theorem noneT_eq (a b c d : Int) (M : Nat → Option Blk) : noneT [.agg [.int .i64 a, .int .i64 b, .int .i64 c, .int .i64 d]] M = some (.bool (eqV ⟨a, b, c, d⟩ .zero), []) := rfl

theorem eqV_zero : eqV ⟨0, 0, 0, 0⟩ ⟨0, 0, 0, 0⟩ = true := rfl
abbrev tLaw : List (FuncId × RT) := [(18, addT), (17, subT), (21, scaleT), (16, goodT), (19, fitsT), (20, lessT), (28, noneT), (14, kindT), (22, raddT), (23, rsubT), (24, rscaleT), (25, goodT), (26, fitsT), (27, lessT), (13, rsumT)]
abbrev uLaw : List (FuncId × UT) := [(12, sumU), (15, asU)]
theorem tLaw_ok : AllF S0 tLaw := ⟨addT_ok, subT_ok, scaleT_ok, goodT_ok good_ok, fitsT_ok, lessT_ok, noneT_ok, kindT_ok, raddT_ok, rsubT_ok, rscaleT_ok, rgoodT_ok, rfitsT_ok, rlessT_ok, rsumT_ok, trivial⟩
theorem okLaw : CtxOK S0 (ctxU S0 tLaw uLaw) := ctxU_ok tLaw_ok ⟨sumU_ok, asU_ok, trivial⟩ mixed

set_option maxRecDepth 100000 in
theorem awake_ok : Pure S0 11 [] (.bool true) := by
  refine fun_sound okLaw Tryd.func11 c11 ?_
  unfold wpF F11
  have a1 : addR ⟨1, 2, 3, 4⟩ ⟨1, 1, 1, 1⟩ = ⟨2, 3, 4, 5⟩ := by decide +kernel
  have a2 : addK ⟨1, 2, 3, 4⟩ ⟨1, 1, 1, 1⟩ = 0 := by decide +kernel
  have s2 : subK ⟨0, 0, 0, 0⟩ ⟨0, 0, 0, 1⟩ = 4 := by decide +kernel
  have f1 : fitsV ⟨1, 0, 0, 0⟩ ⟨1, 1, 0, 0⟩ = true := by decide +kernel
  have l1 : lessV ⟨1, 0, 0, 0⟩ ⟨1, 1, 0, 0⟩ = true := by decide +kernel
  have n1 : eqV ⟨0, 0, 0, 0⟩ .zero = true := by decide +kernel
  have g1 : sumG .zero 0 [⟨1, 0, 0, 0⟩, ⟨-1, 0, 0, 0⟩] = (.zero, 1, 1) := by decide +kernel
  have u1 : ∀ r1 r2, sumU [.slc 2 0 2 (some 2)] (r1 :: r2 :: some (.row false 4 [[.int .i64 1, .int .i64 0, .int .i64 0, .int .i64 0], [.int .i64 (-1), .int .i64 0, .int .i64 0, .int .i64 0]]) :: []) = some (sumA (.zero, 1, 1) 3, [r1, r2, some (.row false 4 [[.int .i64 1, .int .i64 0, .int .i64 0, .int .i64 0], [.int .i64 (-1), .int .i64 0, .int .i64 0, .int .i64 0]])] ++ sumM (.zero, 1, 1)) := fun r1 r2 => by
    rw [← g1]
    exact sumU_of (es := [[.int .i64 1, .int .i64 0, .int .i64 0, .int .i64 0], [.int .i64 (-1), .int .i64 0, .int .i64 0, .int .i64 0]]) [⟨1, 0, 0, 0⟩, ⟨-1, 0, 0, 0⟩] (by simp only [rowE_next, rowE_hit]) rfl (by decide) (by decide)
  have n2 : (4 : Nat) ≤ 14 := by decide
  simp only [AH.SD, AH.wpOp, AOp.call?, AOp.next?, bstep, AOp.map, Opd.ev, tget, argTm, evs, AV.cells, St.eff, St.put, applyWr, mset, terase, pureE, unAV, intOp, binAV, fill, mget, AH.rowAt, AH.part, retQ, rvs, retV, AH.splice, AH.sliceElems, AH.bytesOf, AH.strOp, AH.bound, AH.addLog, AH.missQ, AH.minmaxAV, AH.wpOpD, AH.readOf, AH.mapAt, AH.iterAt, Nat.reduceBEq, Nat.reduceAdd, Nat.reduceLT, ↓reduceIte, Nat.reduceEqDiff, Nat.reduceLeDiff, Nat.reduceSub, Nat.reduceMul, Int.reduceSub, Int.reduceToNat, Int.reduceBEq, Int.reduceBNe, Int.reduceLT, Int.reduceGT, Int.reduceLE, Int.reduceGE, Int.reduceNeg, Int.reduceAdd, addT_eq, subT_eq, scaleT_eq, goodT_eq, fitsT_eq, lessT_eq, raddT_eq, rsubT_eq, rscaleT_eq, noneT_eq, vecE, vecK, V4.cells_eq, V4.av, V4.eta, errA_nil, kindT_nil, kindT_fault, kindQ_1, kindQ_4, asU_of, asQ_some, eqFlat_vec, eqV_self, kindT_err, bne_self_eq_false, a1, a2, s2, u1, sumA, sumM, V4.zero, n2, f1, l1, eqV_zero]

def awakeT : RT := rtP c0 fun _ => .bool true
theorem awakeT_ok : ReadF S0 11 awakeT := rtP_ok (fun _ => awake_ok) fun _ => rfl
theorem awakeT_eq (M : Nat → Option Blk) : awakeT [] M = some (.bool true, []) := rfl
theorem okL : CtxOK S0 (ctxU S0 ((11, awakeT) :: tLaw) uLaw) := ctxU_ok ⟨awakeT_ok, tLaw_ok⟩ ⟨sumU_ok, asU_ok, trivial⟩ mixed

theorem sumG_k : ∀ (l : List V4) (o : V4) (i : Nat), (sumG o i l).2.1 = 0 ∨ ((sumG o i l).1 = .zero ∧ ((sumG o i l).2.1 = 1 ∨ (sumG o i l).2.1 = 4))
  | [], o, i => .inl rfl
  | x :: r, o, i => by
    rw [sumG]
    rcases addK_le o x with h | h | h
    · rw [h]; exact sumG_k r _ _
    · rw [h]; exact .inr ⟨rfl, .inl rfl⟩
    · rw [h]; exact .inr ⟨rfl, .inr rfl⟩

set_option maxRecDepth 100000 in
theorem vecSum_ok (l : List V4) : CallA1 S0 3 [.slc 0 0 l.length none] [some (.row true 4 (l.map V4.cells))] fun r _ => r = .bool true := by
  refine fun_sound okL Tryd.func3 c3 ?_
  unfold wpF F3
  simp only [AH.SD, AH.wpOp, AOp.call?, AOp.next?, bstep, AOp.map, Opd.ev, tget, argTm, evs, AV.cells, St.eff, St.put, applyWr, mset, terase, pureE, unAV, intOp, binAV, fill, mget, AH.rowAt, AH.part, retQ, rvs, retV, AH.splice, AH.sliceElems, AH.bytesOf, AH.strOp, AH.bound, AH.addLog, AH.missQ, AH.minmaxAV, AH.wpOpD, AH.readOf, AH.mapAt, AH.iterAt, Nat.reduceBEq, Nat.reduceAdd, Nat.reduceLT, ↓reduceIte, Nat.reduceEqDiff, Nat.reduceLeDiff, Nat.reduceSub, Nat.reduceMul, Int.reduceSub, Int.reduceToNat, Int.reduceBEq, Int.reduceBNe, Int.reduceLT, Int.reduceGT, Int.reduceLE, Int.reduceGE, Int.reduceNeg, Int.reduceAdd, awakeT_eq]
  cases h1 : decide ((l.length : Int) > 30)
  rotate_left
  · simp only [AH.SD, AH.wpOp, AOp.call?, AOp.next?, bstep, AOp.map, Opd.ev, tget, argTm, evs, AV.cells, St.eff, St.put, applyWr, mset, terase, pureE, unAV, intOp, binAV, fill, mget, AH.rowAt, AH.part, retQ, rvs, retV, AH.splice, AH.sliceElems, AH.bytesOf, AH.strOp, AH.bound, AH.addLog, AH.missQ, AH.minmaxAV, AH.wpOpD, AH.readOf, AH.mapAt, AH.iterAt, Nat.reduceBEq, Nat.reduceAdd, Nat.reduceLT, ↓reduceIte, Nat.reduceEqDiff, Nat.reduceLeDiff, Nat.reduceSub, Nat.reduceMul, Int.reduceSub, Int.reduceToNat, Int.reduceBEq, Int.reduceBNe, Int.reduceLT, Int.reduceGT, Int.reduceLE, Int.reduceGE, Int.reduceNeg, Int.reduceAdd]
  have hl : l.length ≤ 1048576 := by simp at h1; omega
  have h2 := sumG_k l .zero 0
  have e1 := sumU_eq (m := [some (.row true 4 (l.map V4.cells))]) (p := none) rowE_hit hl
  simp only [AH.SD, AH.wpOp, AOp.call?, AOp.next?, bstep, AOp.map, Opd.ev, tget, argTm, evs, AV.cells, St.eff, St.put, applyWr, mset, terase, pureE, unAV, intOp, binAV, fill, mget, AH.rowAt, AH.part, retQ, rvs, retV, AH.splice, AH.sliceElems, AH.bytesOf, AH.strOp, AH.bound, AH.addLog, AH.missQ, AH.minmaxAV, AH.wpOpD, AH.readOf, AH.mapAt, AH.iterAt, Nat.reduceBEq, Nat.reduceAdd, Nat.reduceLT, ↓reduceIte, Nat.reduceEqDiff, Nat.reduceLeDiff, Nat.reduceSub, Nat.reduceMul, Int.reduceSub, Int.reduceToNat, Int.reduceBEq, Int.reduceBNe, Int.reduceLT, Int.reduceGT, Int.reduceLE, Int.reduceGE, Int.reduceNeg, Int.reduceAdd, e1]
  generalize hx : sumG .zero 0 l = x at h2 ⊢
  obtain ⟨v, k, i⟩ := x
  simp only at h2
  rcases h2 with rfl | ⟨rfl, rfl | rfl⟩
  all_goals
    simp only [AH.SD, AH.wpOp, AOp.call?, AOp.next?, bstep, AOp.map, Opd.ev, tget, argTm, evs, AV.cells, St.eff, St.put, applyWr, mset, terase, pureE, unAV, intOp, binAV, fill, mget, AH.rowAt, AH.part, retQ, rvs, retV, AH.splice, AH.sliceElems, AH.bytesOf, AH.strOp, AH.bound, AH.addLog, AH.missQ, AH.minmaxAV, AH.wpOpD, AH.readOf, AH.mapAt, AH.iterAt, Nat.reduceBEq, Nat.reduceAdd, Nat.reduceLT, ↓reduceIte, Nat.reduceEqDiff, Nat.reduceLeDiff, Nat.reduceSub, Nat.reduceMul, Int.reduceSub, Int.reduceToNat, Int.reduceBEq, Int.reduceBNe, Int.reduceLT, Int.reduceGT, Int.reduceLE, Int.reduceGE, Int.reduceNeg, Int.reduceAdd, addT_eq, subT_eq, scaleT_eq, goodT_eq, fitsT_eq, lessT_eq, raddT_eq, rsubT_eq, rscaleT_eq, noneT_eq, vecE, vecK, V4.cells_eq, V4.av, V4.eta, errA_nil, kindT_nil, kindT_fault, kindQ_1, kindQ_4, asU_of, asQ_some, eqFlat_vec, eqV_self, kindT_err, bne_self_eq_false, sumA, sumM, rsumT_eq, hl, hx, sumK, Int.natCast_zero, Int.cast_ofNat_Int]
    try repeat (refine ⟨by first | rfl | decide | omega | (simp only [List.length_map, and_true]; omega) | (simp only [List.length_map, List.length_set, and_true]; omega), ?_⟩)

theorem scaleK_le14 (a : V4) (n : Int) : scaleK a n ≤ 14 := by
  unfold scaleK
  cases decide (n < 0) || decide (n > 16)
  · rcases madeK_le a .zero (scaleV a n) with h | h | h <;> (simp only [cond_false, h]; omega)
  · simp only [cond_true]; omega

set_option maxRecDepth 100000 in
theorem vecExact_ok (a b : V4) (n : Int) : Pure S0 5 [.agg a.cells, .agg b.cells, .int .i64 n] (.bool true) := by
  refine fun_sound okL Tryd.func5 c5 ?_
  unfold wpF F5
  have k1 := addK_le14 a b
  have k2 := subK_le14 a b
  have k3 := scaleK_le14 a n
  simp only [AH.SD, AH.wpOp, AOp.call?, AOp.next?, bstep, AOp.map, Opd.ev, tget, argTm, evs, AV.cells, St.eff, St.put, applyWr, mset, terase, pureE, unAV, intOp, binAV, fill, mget, AH.rowAt, AH.part, retQ, rvs, retV, AH.splice, AH.sliceElems, AH.bytesOf, AH.strOp, AH.bound, AH.addLog, AH.missQ, AH.minmaxAV, AH.wpOpD, AH.readOf, AH.mapAt, AH.iterAt, Nat.reduceBEq, Nat.reduceAdd, Nat.reduceLT, ↓reduceIte, Nat.reduceEqDiff, Nat.reduceLeDiff, Nat.reduceSub, Nat.reduceMul, Int.reduceSub, Int.reduceToNat, Int.reduceBEq, Int.reduceBNe, Int.reduceLT, Int.reduceGT, Int.reduceLE, Int.reduceGE, Int.reduceNeg, Int.reduceAdd, awakeT_eq, addT_eq, subT_eq, scaleT_eq, goodT_eq, fitsT_eq, lessT_eq, raddT_eq, rsubT_eq, rscaleT_eq, noneT_eq, vecE, vecK, V4.cells_eq, V4.av, V4.eta, errA_nil, kindT_nil, kindT_fault, kindQ_1, kindQ_4, asU_of, asQ_some, eqFlat_vec, eqV_self, kindT_err, bne_self_eq_false, k1, k2, k3, V4.zero]
  repeat (refine ⟨by first | rfl | decide | omega | (simp only [List.length_map, and_true]; omega) | (simp only [List.length_map, List.length_set, and_true]; omega), ?_⟩)
  trivial
end Go.Proofs.YtkbjfhkhbcgkgaaDoor.B01
