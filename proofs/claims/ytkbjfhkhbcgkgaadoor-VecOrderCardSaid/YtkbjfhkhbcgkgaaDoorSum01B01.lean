import Derived.Test.YtkbjfhkhbcgkgaaDoorVecUB01
import Derived.Test.YtkbjfhkhbcgkgaaDoorNf1B01
open Go AH
set_option linter.unusedSimpArgs false
set_option maxRecDepth 100000
namespace Go.Proofs.YtkbjfhkhbcgkgaaDoor.B01

/-- A sum from the left: the vector, the kind and the place of the first that fails. -/
def sumG : V4 → Nat → List V4 → V4 × Nat × Nat
  | out, _, [] => (out, 0, 0)
  | out, i, x :: r => bif addK out x == 0 then sumG (addR out x) (i + 1) r else (.zero, addK out x, i)

def sumA (x : V4 × Nat × Nat) (p : Nat) : AV := .tup [.agg [.int .i64 x.1.a, .int .i64 x.1.b, .int .i64 x.1.c, .int .i64 x.1.d], bif x.2.1 == 0 then .nili else .ifc 33 (.ptr p 0 0)]
def sumM (x : V4 × Nat × Nat) : Mem := bif x.2.1 == 0 then [] else [some (.row false 3 [[.str ⟨#[115, 117, 109]⟩, .int .i64 x.2.2, errA x.2.1]])]

theorem okSum : CtxOK S0 (ctxU S0 [(18, addT)] []) := ctxU_ok ⟨addT_ok, trivial⟩ trivial mixed

theorem sum_ok (l : List V4) (hl : l.length ≤ 1048576) : CallA1 S0 12 [.slc 0 0 l.length none] [some (.row true 4 (l.map V4.cells))] fun r m' => r = sumA (sumG .zero 0 l) 1 ∧ m' = [some (.row true 4 (l.map V4.cells))] ++ sumM (sumG .zero 0 l) := by
  have f1 : ∀ p, (l.map V4.cells).all (AV.insB p) = true := fun p => cV.all_in p l
  have m1 : ∀ ρ, (l.map V4.cells).map (AV.rens ρ) = l.map V4.cells := fun ρ => by
    rw [List.map_map]; rfl
  refine CallA1.pack ?_
  refine fun_sound okSum Tryd.func12 c12 ?_
  unfold wpF F12
  simp only [AH.SD, AH.wpOp, AOp.call?, AOp.next?, bstep, AOp.map, Opd.ev, tget, argTm, evs, AV.cells, St.eff, St.put, applyWr, mset, terase, pureE, unAV, intOp, binAV, fill, mget, AH.rowAt, AH.part, retQ, rvs, retV, AH.splice, AH.sliceElems, AH.bytesOf, AH.strOp, AH.bound, AH.addLog, AH.missQ, AH.minmaxAV, AH.wpOpD, AH.readOf, AH.mapAt, AH.iterAt, Nat.reduceBEq, Nat.reduceAdd, Nat.reduceLT, ↓reduceIte, Nat.reduceEqDiff, Nat.reduceLeDiff, Nat.reduceSub, Nat.reduceMul, Int.reduceSub, Int.reduceToNat, Int.reduceBEq, Int.reduceBNe, Int.reduceLT, Int.reduceGT, Int.reduceLE, Int.reduceGE, Int.reduceNeg, Int.reduceAdd, addT_eq, vecE, V4.cells, V4.eta, errA_nil]
  refine loop_rule (α := Nat × V4) (fun x => l.length - x.1) (fun x => ⟨[(11, .int .i64 x.1), (10, .int .i64 l.length), (9, .slc 0 0 l.length none), (4, .ptr 2 0 0), (2, .ptr 1 0 0)], [some (.row true 4 (l.map V4.cells)), some (.row false 4 [[.int .i64 0, .int .i64 0, .int .i64 0, .int .i64 0]]), some (.row false 4 [[.int .i64 x.2.a, .int .i64 x.2.b, .int .i64 x.2.c, .int .i64 x.2.d]])]⟩)
    (fun x => x.1 ≤ l.length ∧ sumG x.2 x.1 (l.drop x.1) = sumG .zero 0 l) (0, .zero) ⟨Nat.zero_le _, rfl⟩ ?_ ?_
  · exact gc_keepE rfl rfl ⟨rfl, rfl, rfl, rfl, rfl, trivial⟩
  rintro X ⟨i, o⟩ ⟨hi, hg⟩ ih
  simp only [AH.SD, AH.wpOp, AOp.call?, AOp.next?, bstep, AOp.map, Opd.ev, tget, argTm, evs, AV.cells, St.eff, St.put, applyWr, mset, terase, pureE, unAV, intOp, binAV, fill, mget, AH.rowAt, AH.part, retQ, rvs, retV, AH.splice, AH.sliceElems, AH.bytesOf, AH.strOp, AH.bound, AH.addLog, AH.missQ, AH.minmaxAV, AH.wpOpD, AH.readOf, AH.mapAt, AH.iterAt, Nat.reduceBEq, Nat.reduceAdd, Nat.reduceLT, ↓reduceIte, Nat.reduceEqDiff, Nat.reduceLeDiff, Nat.reduceSub, Nat.reduceMul, Int.reduceSub, Int.reduceToNat, Int.reduceBEq, Int.reduceBNe, Int.reduceLT, Int.reduceGT, Int.reduceLE, Int.reduceGE, Int.reduceNeg, Int.reduceAdd, addT_eq, vecE, V4.cells, V4.eta, errA_nil]
  refine ⟨fun hlt => ?_, fun hlt => ?_⟩
  · simp only [decide_eq_true_eq] at hlt
    have hil : i < l.length := by omega
    have hget : (l.map V4.cells).getD i [] = (l[i]).cells := getD_map_lt _ _ _ _ hil
    have hw : IntKind.i64.wrap ((i : Int) + 1) = ((i + 1 : Nat) : Int) := by rw [IntKind.wrap_i64]; omega
    simp only [AH.SD, AH.wpOp, AOp.call?, AOp.next?, bstep, AOp.map, Opd.ev, tget, argTm, evs, AV.cells, St.eff, St.put, applyWr, mset, terase, pureE, unAV, intOp, binAV, fill, mget, AH.rowAt, AH.part, retQ, rvs, retV, AH.splice, AH.sliceElems, AH.bytesOf, AH.strOp, AH.bound, AH.addLog, AH.missQ, AH.minmaxAV, AH.wpOpD, AH.readOf, AH.mapAt, AH.iterAt, Nat.reduceBEq, Nat.reduceAdd, Nat.reduceLT, ↓reduceIte, Nat.reduceEqDiff, Nat.reduceLeDiff, Nat.reduceSub, Nat.reduceMul, Int.reduceSub, Int.reduceToNat, Int.reduceBEq, Int.reduceBNe, Int.reduceLT, Int.reduceGT, Int.reduceLE, Int.reduceGE, Int.reduceNeg, Int.reduceAdd, addT_eq, vecE, V4.cells, V4.eta, errA_nil]
    refine ⟨⟨by omega, by omega⟩, ⟨by simpa using hil, trivial⟩, ?_⟩
    simp only [AH.SD, AH.wpOp, AOp.call?, AOp.next?, bstep, AOp.map, Opd.ev, tget, argTm, evs, AV.cells, St.eff, St.put, applyWr, mset, terase, pureE, unAV, intOp, binAV, fill, mget, AH.rowAt, AH.part, retQ, rvs, retV, AH.splice, AH.sliceElems, AH.bytesOf, AH.strOp, AH.bound, AH.addLog, AH.missQ, AH.minmaxAV, AH.wpOpD, AH.readOf, AH.mapAt, AH.iterAt, Nat.reduceBEq, Nat.reduceAdd, Nat.reduceLT, ↓reduceIte, Nat.reduceEqDiff, Nat.reduceLeDiff, Nat.reduceSub, Nat.reduceMul, Int.reduceSub, Int.reduceToNat, Int.reduceBEq, Int.reduceBNe, Int.reduceLT, Int.reduceGT, Int.reduceLE, Int.reduceGE, Int.reduceNeg, Int.reduceAdd, addT_eq, vecE, V4.cells, V4.eta, errA_nil, hget]
    have hd : l.drop i = l[i] :: l.drop (i + 1) := List.drop_eq_getElem_cons hil
    rw [hd] at hg
    refine ⟨fun hk => ?_, fun hk => ?_⟩
    · rw [Bool.not_eq_true'] at hk
      have hs : sumG o i (l[i] :: l.drop (i + 1)) = (.zero, addK o l[i], i) := by simp only [sumG, hk, cond_false]
      have hk2 : addK o l[i] = 1 ∨ addK o l[i] = 4 := by
        rcases (show addK o l[i] = 0 ∨ addK o l[i] = 1 ∨ addK o l[i] = 4 by unfold addK madeK; cases good o && good l[i] <;> cases good (addV o l[i]) <;> simp) with h | h
        · rw [h] at hk; cases hk
        · exact h
      rw [hs] at hg
      rcases hk2 with h | h
      · simp only [AH.SD, AH.wpOp, AOp.call?, AOp.next?, bstep, AOp.map, Opd.ev, tget, argTm, evs, AV.cells, St.eff, St.put, applyWr, mset, terase, pureE, unAV, intOp, binAV, fill, mget, AH.rowAt, AH.part, retQ, rvs, retV, AH.splice, AH.sliceElems, AH.bytesOf, AH.strOp, AH.bound, AH.addLog, AH.missQ, AH.minmaxAV, AH.wpOpD, AH.readOf, AH.mapAt, AH.iterAt, Nat.reduceBEq, Nat.reduceAdd, Nat.reduceLT, ↓reduceIte, Nat.reduceEqDiff, Nat.reduceLeDiff, Nat.reduceSub, Nat.reduceMul, Int.reduceSub, Int.reduceToNat, Int.reduceBEq, Int.reduceBNe, Int.reduceLT, Int.reduceGT, Int.reduceLE, Int.reduceGE, Int.reduceNeg, Int.reduceAdd, addT_eq, vecE, V4.cells, V4.eta, errA_nil, h, show errA 1 = .err 0 from rfl]
        refine ⟨[0, 5], rfl, rfl, ?_, rfl, ?_, ?_⟩
        · simp only [packB, mget, Blk.inB, f1, Bool.and_self, Bool.true_and]; rfl
        · rw [← hg, h]; rfl
        · rw [← hg, h]; simp only [packM, mget, Option.map_some, Blk.ren, m1]; rfl
      · simp only [AH.SD, AH.wpOp, AOp.call?, AOp.next?, bstep, AOp.map, Opd.ev, tget, argTm, evs, AV.cells, St.eff, St.put, applyWr, mset, terase, pureE, unAV, intOp, binAV, fill, mget, AH.rowAt, AH.part, retQ, rvs, retV, AH.splice, AH.sliceElems, AH.bytesOf, AH.strOp, AH.bound, AH.addLog, AH.missQ, AH.minmaxAV, AH.wpOpD, AH.readOf, AH.mapAt, AH.iterAt, Nat.reduceBEq, Nat.reduceAdd, Nat.reduceLT, ↓reduceIte, Nat.reduceEqDiff, Nat.reduceLeDiff, Nat.reduceSub, Nat.reduceMul, Int.reduceSub, Int.reduceToNat, Int.reduceBEq, Int.reduceBNe, Int.reduceLT, Int.reduceGT, Int.reduceLE, Int.reduceGE, Int.reduceNeg, Int.reduceAdd, addT_eq, vecE, V4.cells, V4.eta, errA_nil, h, show errA 4 = .err 3 from rfl]
        refine ⟨[0, 5], rfl, rfl, ?_, rfl, ?_, ?_⟩
        · simp only [packB, mget, Blk.inB, f1, Bool.and_self, Bool.true_and]; rfl
        · rw [← hg, h]; rfl
        · rw [← hg, h]; simp only [packM, mget, Option.map_some, Blk.ren, m1]; rfl
    · rw [Bool.not_eq_false'] at hk
      have hs : sumG o i (l[i] :: l.drop (i + 1)) = sumG (addR o l[i]) (i + 1) (l.drop (i + 1)) := by simp only [sumG, hk, cond_true]
      rw [hs] at hg
      simp only [AH.SD, AH.wpOp, AOp.call?, AOp.next?, bstep, AOp.map, Opd.ev, tget, argTm, evs, AV.cells, St.eff, St.put, applyWr, mset, terase, pureE, unAV, intOp, binAV, fill, mget, AH.rowAt, AH.part, retQ, rvs, retV, AH.splice, AH.sliceElems, AH.bytesOf, AH.strOp, AH.bound, AH.addLog, AH.missQ, AH.minmaxAV, AH.wpOpD, AH.readOf, AH.mapAt, AH.iterAt, Nat.reduceBEq, Nat.reduceAdd, Nat.reduceLT, ↓reduceIte, Nat.reduceEqDiff, Nat.reduceLeDiff, Nat.reduceSub, Nat.reduceMul, Int.reduceSub, Int.reduceToNat, Int.reduceBEq, Int.reduceBNe, Int.reduceLT, Int.reduceGT, Int.reduceLE, Int.reduceGE, Int.reduceNeg, Int.reduceAdd, addT_eq, vecE, V4.cells, V4.eta, errA_nil, hw]
      have hm : ∀ v : V4, memLt 3 [some (.row true 4 (l.map V4.cells)), some (.row false 4 [V4.zero.cells]), some (.row false 4 [v.cells])] = true := fun v => by
        rw [memLt_row, show (l.map V4.cells).all (AV.lts 3) = true from cV.all_lt 3 l]; rfl
      exact gc_cutE 3 (ih (i + 1, addR o l[i]) ⟨by omega, hg⟩ (by simp only; omega)) (hm _) (by decide) rfl rfl rfl ⟨rfl, rfl, rfl, rfl, rfl, trivial⟩
  · have hi' : i = l.length := by simp only [decide_eq_false_iff_not] at hlt; omega
    subst hi'
    rw [List.drop_length] at hg
    simp only [AH.SD, AH.wpOp, AOp.call?, AOp.next?, bstep, AOp.map, Opd.ev, tget, argTm, evs, AV.cells, St.eff, St.put, applyWr, mset, terase, pureE, unAV, intOp, binAV, fill, mget, AH.rowAt, AH.part, retQ, rvs, retV, AH.splice, AH.sliceElems, AH.bytesOf, AH.strOp, AH.bound, AH.addLog, AH.missQ, AH.minmaxAV, AH.wpOpD, AH.readOf, AH.mapAt, AH.iterAt, Nat.reduceBEq, Nat.reduceAdd, Nat.reduceLT, ↓reduceIte, Nat.reduceEqDiff, Nat.reduceLeDiff, Nat.reduceSub, Nat.reduceMul, Int.reduceSub, Int.reduceToNat, Int.reduceBEq, Int.reduceBNe, Int.reduceLT, Int.reduceGT, Int.reduceLE, Int.reduceGE, Int.reduceNeg, Int.reduceAdd]
    refine ⟨[0], rfl, rfl, ?_, rfl, ?_, ?_⟩
    · simp only [packB, mget, Blk.inB, f1, Bool.and_self]
    · rw [← hg]; rfl
    · rw [← hg]; simp only [packM, mget, Option.map_some, Blk.ren, m1]; rfl
end Go.Proofs.YtkbjfhkhbcgkgaaDoor.B01
