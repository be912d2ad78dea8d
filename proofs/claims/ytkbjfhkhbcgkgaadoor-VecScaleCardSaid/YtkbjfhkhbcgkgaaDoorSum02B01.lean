import Derived.Test.YtkbjfhkhbcgkgaaDoorSum01B01
open Go AH
set_option linter.unusedSimpArgs false
set_option maxRecDepth 100000
namespace Go.Proofs.YtkbjfhkhbcgkgaaDoor.B01

theorem sumA_ren (x : V4 × Nat × Nat) (n : Nat) : (sumA x 1).ren (shift n 1) = sumA x n := by
  obtain ⟨v, k, i⟩ := x
  cases k <;> simp [sumA, AV.ren, AV.rens, shift]
theorem sumM_ren (x : V4 × Nat × Nat) (ρ : Nat → Nat) : newOnes ρ (sumM x) = sumM x := by
  obtain ⟨v, k, i⟩ := x
  cases k with
  | zero => rfl
  | succ k => simp only [sumM, newOnes, List.map_cons, List.map_nil, Option.map_some, Blk.ren, AV.rens, AV.ren, flat_ren (errA_flat _)]; rfl

def sumU : UT := utN [4] (nf1 4 cV (fun l => sumA (sumG .zero 0 l) 1) fun l => sumM (sumG .zero 0 l))
theorem sumU_ok : CallF S0 12 sumU := nf1_ok errs0 fun l hl => ⟨by
    generalize sumG .zero 0 l = x
    obtain ⟨v, k, i⟩ := x
    cases k <;> rfl, by
    generalize sumG .zero 0 l = x
    obtain ⟨v, k, i⟩ := x
    cases k with
    | zero => rfl
    | succ k => simp only [sumM, List.all_cons, List.all_nil, blkIn, Blk.inB, AV.insB, AV.inB, flat_inB (errA_flat _)]; rfl, by
    generalize sumG .zero 0 l = x
    obtain ⟨v, k, i⟩ := x
    cases k <;> rfl, sum_ok l hl⟩
theorem sumU_of {id ix n : Nat} {p : Option Nat} {m : Mem} {es : List (List AV)} (l : List V4)
    (hM : rowE (mget m) id = some (4, es)) (hs : (es.drop ix).take n = l.map V4.cells) (hle : ix + n ≤ es.length) (hb : n ≤ 1048576) :
    sumU [.slc id ix n p] m = some (sumA (sumG .zero 0 l) m.length, m ++ sumM (sumG .zero 0 l)) := by
  have := nf1_eq (c := cV) (f := fun l => sumA (sumG .zero 0 l) 1) (h := fun l => sumM (sumG .zero 0 l)) (p := p) hM hs hle hb
  rw [sumU, this, sumA_ren, sumM_ren]
theorem sumU_eq {l : List V4} {id : Nat} {p : Option Nat} {m : Mem} (hM : rowE (mget m) id = some (4, l.map V4.cells)) (hl : l.length ≤ 1048576) :
    sumU [.slc id 0 l.length p] m = some (sumA (sumG .zero 0 l) m.length, m ++ sumM (sumG .zero 0 l)) :=
  sumU_of l hM (by rw [List.drop_zero]; exact take_map_len _ _) (by simp) hl

/-- The reference's Sum. -/
def sumK (x : V4 × Nat × Nat) : AV := .tup [.agg [.int .i64 x.1.a, .int .i64 x.1.b, .int .i64 x.1.c, .int .i64 x.1.d], .int .i64 x.2.1, .int .i64 x.2.2]
theorem okRSum : CtxOK S0 (ctxU S0 [(22, raddT)] []) := ctxU_ok ⟨raddT_ok, trivial⟩ trivial mixed
def rsumSt (l : List V4) (x : Nat × V4) : St := ⟨[(6, .int .i64 x.1), (5, .ptr 2 0 0), (2, .ptr 1 0 0), (0, .slc 0 0 l.length none)], [some (.row true 4 (l.map V4.cells)), some (.row false 4 [[.int .i64 0, .int .i64 0, .int .i64 0, .int .i64 0]]), some (.row false 4 [x.2.cells])]⟩
theorem V4.cells_eq (v : V4) : v.cells = [.int .i64 v.a, .int .i64 v.b, .int .i64 v.c, .int .i64 v.d] := rfl
theorem addK_le (a b : V4) : addK a b = 0 ∨ addK a b = 1 ∨ addK a b = 4 := by
  unfold addK madeK
  cases good a && good b <;> cases good (addV a b) <;> simp
theorem rsum_ok (l : List V4) (hl : l.length ≤ 1048576) : CallA1 S0 13 [.slc 0 0 l.length none] [some (.row true 4 (l.map V4.cells))] fun r _ => r = sumK (sumG .zero 0 l) := by
  refine fun_sound okRSum Tryd.func13 c13 ?_
  unfold wpF F13
  simp only [AH.SD, AH.wpOp, AOp.call?, AOp.next?, bstep, AOp.map, Opd.ev, tget, argTm, evs, AV.cells, St.eff, St.put, applyWr, mset, terase, pureE, unAV, intOp, binAV, fill, mget, AH.rowAt, AH.part, retQ, rvs, retV, AH.splice, AH.sliceElems, AH.bytesOf, AH.strOp, AH.bound, AH.addLog, AH.missQ, AH.minmaxAV, AH.wpOpD, AH.readOf, AH.mapAt, AH.iterAt, Nat.reduceBEq, Nat.reduceAdd, Nat.reduceLT, ↓reduceIte, Nat.reduceEqDiff, Nat.reduceLeDiff, Nat.reduceSub, Nat.reduceMul, Int.reduceSub, Int.reduceToNat, Int.reduceBEq, Int.reduceBNe, Int.reduceLT, Int.reduceGT, Int.reduceLE, Int.reduceGE, Int.reduceNeg, Int.reduceAdd]
  refine loop_do [0, 1, 2] [6, 5, 2, 0] [] (α := Nat × V4) (fun x => l.length - x.1) (rsumSt l) (fun x => x.1 ≤ l.length ∧ sumG x.2 x.1 (l.drop x.1) = sumG .zero 0 l) (0, .zero) ⟨Nat.zero_le _, rfl⟩ (by simp only [AH.SD, AH.wpOp, AOp.call?, AOp.next?, bstep, AOp.map, Opd.ev, tget, argTm, evs, AV.cells, St.eff, St.put, applyWr, mset, terase, pureE, unAV, intOp, binAV, fill, mget, AH.rowAt, AH.part, retQ, rvs, retV, AH.splice, AH.sliceElems, AH.bytesOf, AH.strOp, AH.bound, AH.addLog, AH.missQ, AH.minmaxAV, AH.wpOpD, AH.readOf, AH.mapAt, AH.iterAt, Nat.reduceBEq, Nat.reduceAdd, Nat.reduceLT, ↓reduceIte, Nat.reduceEqDiff, Nat.reduceLeDiff, Nat.reduceSub, Nat.reduceMul, Int.reduceSub, Int.reduceToNat, Int.reduceBEq, Int.reduceBNe, Int.reduceLT, Int.reduceGT, Int.reduceLE, Int.reduceGE, Int.reduceNeg, Int.reduceAdd, AH.PD, heads, distN, AH.inN, posN, packM, packB, packTm, liveB, AV.inB, AV.insB, AV.ren, AV.rens, Blk.ren, Blk.inB, vstep, tput, rsumSt, V4.cells_eq, V4.zero]) ?_
  rintro X ⟨i, o⟩ ⟨hi, hg⟩ ih
  simp only at hi hg
  simp only [AH.SD, AH.wpOp, AOp.call?, AOp.next?, bstep, AOp.map, Opd.ev, tget, argTm, evs, AV.cells, St.eff, St.put, applyWr, mset, terase, pureE, unAV, intOp, binAV, fill, mget, AH.rowAt, AH.part, retQ, rvs, retV, AH.splice, AH.sliceElems, AH.bytesOf, AH.strOp, AH.bound, AH.addLog, AH.missQ, AH.minmaxAV, AH.wpOpD, AH.readOf, AH.mapAt, AH.iterAt, Nat.reduceBEq, Nat.reduceAdd, Nat.reduceLT, ↓reduceIte, Nat.reduceEqDiff, Nat.reduceLeDiff, Nat.reduceSub, Nat.reduceMul, Int.reduceSub, Int.reduceToNat, Int.reduceBEq, Int.reduceBNe, Int.reduceLT, Int.reduceGT, Int.reduceLE, Int.reduceGE, Int.reduceNeg, Int.reduceAdd, rsumSt]
  refine ⟨fun hlt => ?_, fun hlt => ?_⟩
  · have hil := lt_of_dec hlt
    have hw := wrapS (i := i) (by omega)
    rw [List.drop_eq_getElem_cons hil, sumG] at hg
    simp only [AH.SD, AH.wpOp, AOp.call?, AOp.next?, bstep, AOp.map, Opd.ev, tget, argTm, evs, AV.cells, St.eff, St.put, applyWr, mset, terase, pureE, unAV, intOp, binAV, fill, mget, AH.rowAt, AH.part, retQ, rvs, retV, AH.splice, AH.sliceElems, AH.bytesOf, AH.strOp, AH.bound, AH.addLog, AH.missQ, AH.minmaxAV, AH.wpOpD, AH.readOf, AH.mapAt, AH.iterAt, Nat.reduceBEq, Nat.reduceAdd, Nat.reduceLT, ↓reduceIte, Nat.reduceEqDiff, Nat.reduceLeDiff, Nat.reduceSub, Nat.reduceMul, Int.reduceSub, Int.reduceToNat, Int.reduceBEq, Int.reduceBNe, Int.reduceLT, Int.reduceGT, Int.reduceLE, Int.reduceGE, Int.reduceNeg, Int.reduceAdd, getD_enc, hil, V4.cells_eq, raddT_eq, vecK, V4.eta]
    repeat (refine ⟨by first | rfl | decide | omega | (simp only [List.length_map, and_true]; omega) | (simp only [List.length_map, List.length_set, and_true]; omega), ?_⟩)
    rcases addK_le o l[i] with hk | hk | hk
    · rw [hk] at hg
      simp only [AH.SD, AH.wpOp, AOp.call?, AOp.next?, bstep, AOp.map, Opd.ev, tget, argTm, evs, AV.cells, St.eff, St.put, applyWr, mset, terase, pureE, unAV, intOp, binAV, fill, mget, AH.rowAt, AH.part, retQ, rvs, retV, AH.splice, AH.sliceElems, AH.bytesOf, AH.strOp, AH.bound, AH.addLog, AH.missQ, AH.minmaxAV, AH.wpOpD, AH.readOf, AH.mapAt, AH.iterAt, Nat.reduceBEq, Nat.reduceAdd, Nat.reduceLT, ↓reduceIte, Nat.reduceEqDiff, Nat.reduceLeDiff, Nat.reduceSub, Nat.reduceMul, Int.reduceSub, Int.reduceToNat, Int.reduceBEq, Int.reduceBNe, Int.reduceLT, Int.reduceGT, Int.reduceLE, Int.reduceGE, Int.reduceNeg, Int.reduceAdd, hk, hw]
      repeat (refine ⟨by first | rfl | decide | omega | (simp only [List.length_map, and_true]; omega) | (simp only [List.length_map, List.length_set, and_true]; omega), ?_⟩)
      refine gc_auto [0, 1, 2] [6, 5, 2, 0] [] ?_
      simp only [AH.SD, AH.wpOp, AOp.call?, AOp.next?, bstep, AOp.map, Opd.ev, tget, argTm, evs, AV.cells, St.eff, St.put, applyWr, mset, terase, pureE, unAV, intOp, binAV, fill, mget, AH.rowAt, AH.part, retQ, rvs, retV, AH.splice, AH.sliceElems, AH.bytesOf, AH.strOp, AH.bound, AH.addLog, AH.missQ, AH.minmaxAV, AH.wpOpD, AH.readOf, AH.mapAt, AH.iterAt, Nat.reduceBEq, Nat.reduceAdd, Nat.reduceLT, ↓reduceIte, Nat.reduceEqDiff, Nat.reduceLeDiff, Nat.reduceSub, Nat.reduceMul, Int.reduceSub, Int.reduceToNat, Int.reduceBEq, Int.reduceBNe, Int.reduceLT, Int.reduceGT, Int.reduceLE, Int.reduceGE, Int.reduceNeg, Int.reduceAdd, AH.PD, heads, distN, AH.inN, posN, packM, packB, packTm, liveB, AV.inB, AV.insB, AV.ren, AV.rens, Blk.ren, Blk.inB, vstep, tput]
      have done := ih (i + 1, addR o l[i]) ⟨hil, hg⟩ (by simp only; omega)
      simp only [rsumSt, V4.cells_eq] at done
      exact done
    · rw [hk] at hg
      simp only [AH.SD, AH.wpOp, AOp.call?, AOp.next?, bstep, AOp.map, Opd.ev, tget, argTm, evs, AV.cells, St.eff, St.put, applyWr, mset, terase, pureE, unAV, intOp, binAV, fill, mget, AH.rowAt, AH.part, retQ, rvs, retV, AH.splice, AH.sliceElems, AH.bytesOf, AH.strOp, AH.bound, AH.addLog, AH.missQ, AH.minmaxAV, AH.wpOpD, AH.readOf, AH.mapAt, AH.iterAt, Nat.reduceBEq, Nat.reduceAdd, Nat.reduceLT, ↓reduceIte, Nat.reduceEqDiff, Nat.reduceLeDiff, Nat.reduceSub, Nat.reduceMul, Int.reduceSub, Int.reduceToNat, Int.reduceBEq, Int.reduceBNe, Int.reduceLT, Int.reduceGT, Int.reduceLE, Int.reduceGE, Int.reduceNeg, Int.reduceAdd, hk]
      repeat (refine ⟨by first | rfl | decide | omega | (simp only [List.length_map, and_true]; omega) | (simp only [List.length_map, List.length_set, and_true]; omega), ?_⟩)
      rw [← hg]; rfl
    · rw [hk] at hg
      simp only [AH.SD, AH.wpOp, AOp.call?, AOp.next?, bstep, AOp.map, Opd.ev, tget, argTm, evs, AV.cells, St.eff, St.put, applyWr, mset, terase, pureE, unAV, intOp, binAV, fill, mget, AH.rowAt, AH.part, retQ, rvs, retV, AH.splice, AH.sliceElems, AH.bytesOf, AH.strOp, AH.bound, AH.addLog, AH.missQ, AH.minmaxAV, AH.wpOpD, AH.readOf, AH.mapAt, AH.iterAt, Nat.reduceBEq, Nat.reduceAdd, Nat.reduceLT, ↓reduceIte, Nat.reduceEqDiff, Nat.reduceLeDiff, Nat.reduceSub, Nat.reduceMul, Int.reduceSub, Int.reduceToNat, Int.reduceBEq, Int.reduceBNe, Int.reduceLT, Int.reduceGT, Int.reduceLE, Int.reduceGE, Int.reduceNeg, Int.reduceAdd, hk]
      repeat (refine ⟨by first | rfl | decide | omega | (simp only [List.length_map, and_true]; omega) | (simp only [List.length_map, List.length_set, and_true]; omega), ?_⟩)
      rw [← hg]; rfl
  · have hil := ge_of_dec hlt
    obtain rfl : i = l.length := by omega
    rw [List.drop_length] at hg
    simp only [AH.SD, AH.wpOp, AOp.call?, AOp.next?, bstep, AOp.map, Opd.ev, tget, argTm, evs, AV.cells, St.eff, St.put, applyWr, mset, terase, pureE, unAV, intOp, binAV, fill, mget, AH.rowAt, AH.part, retQ, rvs, retV, AH.splice, AH.sliceElems, AH.bytesOf, AH.strOp, AH.bound, AH.addLog, AH.missQ, AH.minmaxAV, AH.wpOpD, AH.readOf, AH.mapAt, AH.iterAt, Nat.reduceBEq, Nat.reduceAdd, Nat.reduceLT, ↓reduceIte, Nat.reduceEqDiff, Nat.reduceLeDiff, Nat.reduceSub, Nat.reduceMul, Int.reduceSub, Int.reduceToNat, Int.reduceBEq, Int.reduceBNe, Int.reduceLT, Int.reduceGT, Int.reduceLE, Int.reduceGE, Int.reduceNeg, Int.reduceAdd, V4.cells_eq]
    repeat (refine ⟨by first | rfl | decide | omega | (simp only [List.length_map, and_true]; omega) | (simp only [List.length_map, List.length_set, and_true]; omega), ?_⟩)
    rw [← hg]; rfl
def rsumT : RT := rtV [4] (vf1 4 cV c0 fun l _ => sumK (sumG .zero 0 l))
theorem rsumT_ok : ReadF S0 13 rsumT := vf1_ok errs0 fun l _ hl => ⟨rfl, rsum_ok l hl⟩
theorem rsumT_eq {l : List V4} {id : Nat} {cap : Option Nat} {M : Nat → Option Blk} (hM : rowE M id = some (4, l.map V4.cells)) (hl : l.length ≤ 1048576) : rsumT [.slc id 0 l.length cap] M = some (sumK (sumG .zero 0 l), [id]) :=
  vf1_eq (k := 4) (c := cV) (x := c0) (f := fun l _ => sumK (sumG .zero 0 l)) (l := l) (b := ()) hM (by rw [List.drop_zero]; exact take_map_len _ _) (by simp) hl rfl
end Go.Proofs.YtkbjfhkhbcgkgaaDoor.B01
