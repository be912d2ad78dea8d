import Derived.Test.YtcmnchmkoghfdaaDoorFrmSC05h
import Derived.Test.YtcmnchmkoghfdaaDoorRJC05h
open Go AH
set_option linter.unusedSimpArgs false
set_option maxRecDepth 100000
namespace Go.Proofs.YtcmnchmkoghfdaaDoor.C05h
theorem gA1 : AV.err 0 = .err 0 := rfl
def headS (d : ByteArray) : ByteArray := num4 (IntKind.u64.wrap (d.size : Int)) ++ num4 (IntKind.u64.wrap (sumZ d)) ++ d
def padN (d : ByteArray) : Nat := sizeN d.size * 56 - (headS d).size
/-- A text with its head, filled up with zeros. -/
def fullS (d : ByteArray) : ByteArray := headS d ++ repS ⟨#[0]⟩ (padN d)
def blkS (seq : Int) (d : ByteArray) (i : Nat) : ByteArray := (fullS d).extract (i * 56) ((i + 1) * 56) ++ endS seq i (sizeN d.size)
def blkL (seq : Int) (d : ByteArray) (k : Nat) : List ByteArray := (List.range k).map (blkS seq d)
theorem blkL_len (seq : Int) (d : ByteArray) (k : Nat) : (blkL seq d k).length = k := by simp [blkL]
theorem blkL_succ (seq : Int) (d : ByteArray) (k : Nat) : blkL seq d (k + 1) = blkL seq d k ++ [blkS seq d k] := by simp [blkL, List.range_succ]
theorem head_sz (d : ByteArray) : (headS d).size = 8 + d.size := by
  simp only [headS, ByteArray.size_append, num4_sz]
theorem endS_sz (a b c : Int) : (endS a b c).size = 8 := rfl
theorem imax : IntKind.i64.max = 9223372036854775807 := rfl
theorem repS_sz (k : Nat) : (repS ⟨#[0]⟩ k).size = k := by
  unfold repS
  show (Lib.repeatL [0] k).toArray.size = k
  rw [List.size_toArray, Lib.repeatL_length]; simp
theorem full_sz (d : ByteArray) : (fullS d).size = sizeN d.size * 56 := by
  have h1 := head_sz d
  have h2 : 8 + d.size ≤ sizeN d.size * 56 := by unfold sizeN; omega
  rw [fullS, ByteArray.size_append, repS_sz, padN]
  omega
theorem okBk : CtxOK S0 (ctxU S0 [(31, sizeT), (41, numT), (42, sumT), (40, repT), (43, endT)] []) := ctxU_ok ⟨sizeT_ok, numT_ok, sumT_ok, repT_ok, endT_ok, trivial⟩ trivial mixed
theorem blocks_no (seq : Int) (d : ByteArray) (h : seq < 1 ∨ seq > 2147483647 ∨ d.size > 6000) : Pure S0 30 [.int .i64 seq, .str d] (.tup [.nils, .err 0]) := by
  refine fun_sound okBk Tryd.func30 c30 ?_
  unfold wpF F30
  cases h1 : decide (seq < 1)
  · cases h2 : decide (seq > 2147483647)
    · have h3 : decide ((d.size : Int) > 6000) = true := by
        simp only [decide_eq_false_iff_not] at h1 h2
        simp only [decide_eq_true_eq]; omega
      simp only [AH.SD, AH.wpOp, AOp.call?, AOp.next?, bstep, AOp.map, Opd.ev, tget, argTm, evs, AV.cells, St.eff, St.put, applyWr, mset, terase, pureE, unAV, intOp, binAV, fill, mget, AH.rowAt, AH.part, retQ, rvs, retV, AH.splice, AH.sliceElems, AH.bytesOf, AH.strOp, AH.bound, AH.addLog, AH.missQ, AH.minmaxAV, AH.wpOpD, AH.readOf, AH.effOf, AH.mapAt, AH.iterAt, Nat.reduceBEq, Nat.reduceAdd, Nat.reduceLT, ↓reduceIte, Nat.reduceEqDiff, Nat.reduceLeDiff, Nat.reduceSub, Nat.reduceMul, Int.reduceSub, Int.reduceToNat, Int.reduceBEq, Int.reduceBNe, Int.reduceLT, Int.reduceGT, Int.reduceLE, Int.reduceGE, Int.reduceNeg, Int.reduceAdd, h1, h2, h3]
      repeat (refine ⟨by first | rfl | decide | omega | (simp only [List.length_map, and_true]; omega) | (simp only [List.length_map, List.length_set, and_true]; omega), ?_⟩)
      simp only [AH.SD, AH.wpOp, AOp.call?, AOp.next?, bstep, AOp.map, Opd.ev, tget, argTm, evs, AV.cells, St.eff, St.put, applyWr, mset, terase, pureE, unAV, intOp, binAV, fill, mget, AH.rowAt, AH.part, retQ, rvs, retV, AH.splice, AH.sliceElems, AH.bytesOf, AH.strOp, AH.bound, AH.addLog, AH.missQ, AH.minmaxAV, AH.wpOpD, AH.readOf, AH.effOf, AH.mapAt, AH.iterAt, Nat.reduceBEq, Nat.reduceAdd, Nat.reduceLT, ↓reduceIte, Nat.reduceEqDiff, Nat.reduceLeDiff, Nat.reduceSub, Nat.reduceMul, Int.reduceSub, Int.reduceToNat, Int.reduceBEq, Int.reduceBNe, Int.reduceLT, Int.reduceGT, Int.reduceLE, Int.reduceGE, Int.reduceNeg, Int.reduceAdd]
    · simp only [AH.SD, AH.wpOp, AOp.call?, AOp.next?, bstep, AOp.map, Opd.ev, tget, argTm, evs, AV.cells, St.eff, St.put, applyWr, mset, terase, pureE, unAV, intOp, binAV, fill, mget, AH.rowAt, AH.part, retQ, rvs, retV, AH.splice, AH.sliceElems, AH.bytesOf, AH.strOp, AH.bound, AH.addLog, AH.missQ, AH.minmaxAV, AH.wpOpD, AH.readOf, AH.effOf, AH.mapAt, AH.iterAt, Nat.reduceBEq, Nat.reduceAdd, Nat.reduceLT, ↓reduceIte, Nat.reduceEqDiff, Nat.reduceLeDiff, Nat.reduceSub, Nat.reduceMul, Int.reduceSub, Int.reduceToNat, Int.reduceBEq, Int.reduceBNe, Int.reduceLT, Int.reduceGT, Int.reduceLE, Int.reduceGE, Int.reduceNeg, Int.reduceAdd, h1, h2]
      repeat (refine ⟨by first | rfl | decide | omega | (simp only [List.length_map, and_true]; omega) | (simp only [List.length_map, List.length_set, and_true]; omega), ?_⟩)
      simp only [AH.SD, AH.wpOp, AOp.call?, AOp.next?, bstep, AOp.map, Opd.ev, tget, argTm, evs, AV.cells, St.eff, St.put, applyWr, mset, terase, pureE, unAV, intOp, binAV, fill, mget, AH.rowAt, AH.part, retQ, rvs, retV, AH.splice, AH.sliceElems, AH.bytesOf, AH.strOp, AH.bound, AH.addLog, AH.missQ, AH.minmaxAV, AH.wpOpD, AH.readOf, AH.effOf, AH.mapAt, AH.iterAt, Nat.reduceBEq, Nat.reduceAdd, Nat.reduceLT, ↓reduceIte, Nat.reduceEqDiff, Nat.reduceLeDiff, Nat.reduceSub, Nat.reduceMul, Int.reduceSub, Int.reduceToNat, Int.reduceBEq, Int.reduceBNe, Int.reduceLT, Int.reduceGT, Int.reduceLE, Int.reduceGE, Int.reduceNeg, Int.reduceAdd]
  · simp only [AH.SD, AH.wpOp, AOp.call?, AOp.next?, bstep, AOp.map, Opd.ev, tget, argTm, evs, AV.cells, St.eff, St.put, applyWr, mset, terase, pureE, unAV, intOp, binAV, fill, mget, AH.rowAt, AH.part, retQ, rvs, retV, AH.splice, AH.sliceElems, AH.bytesOf, AH.strOp, AH.bound, AH.addLog, AH.missQ, AH.minmaxAV, AH.wpOpD, AH.readOf, AH.effOf, AH.mapAt, AH.iterAt, Nat.reduceBEq, Nat.reduceAdd, Nat.reduceLT, ↓reduceIte, Nat.reduceEqDiff, Nat.reduceLeDiff, Nat.reduceSub, Nat.reduceMul, Int.reduceSub, Int.reduceToNat, Int.reduceBEq, Int.reduceBNe, Int.reduceLT, Int.reduceGT, Int.reduceLE, Int.reduceGE, Int.reduceNeg, Int.reduceAdd, h1]
    repeat (refine ⟨by first | rfl | decide | omega | (simp only [List.length_map, and_true]; omega) | (simp only [List.length_map, List.length_set, and_true]; omega), ?_⟩)
    simp only [AH.SD, AH.wpOp, AOp.call?, AOp.next?, bstep, AOp.map, Opd.ev, tget, argTm, evs, AV.cells, St.eff, St.put, applyWr, mset, terase, pureE, unAV, intOp, binAV, fill, mget, AH.rowAt, AH.part, retQ, rvs, retV, AH.splice, AH.sliceElems, AH.bytesOf, AH.strOp, AH.bound, AH.addLog, AH.missQ, AH.minmaxAV, AH.wpOpD, AH.readOf, AH.effOf, AH.mapAt, AH.iterAt, Nat.reduceBEq, Nat.reduceAdd, Nat.reduceLT, ↓reduceIte, Nat.reduceEqDiff, Nat.reduceLeDiff, Nat.reduceSub, Nat.reduceMul, Int.reduceSub, Int.reduceToNat, Int.reduceBEq, Int.reduceBNe, Int.reduceLT, Int.reduceGT, Int.reduceLE, Int.reduceGE, Int.reduceNeg, Int.reduceAdd]
def bkSt (seq : Int) (d : ByteArray) (i : Nat) : St := ⟨[(44, .int .i64 i), (43, .int .i64 (sizeN d.size)), (8, .slc 0 0 (blkL seq d i).length none), (7, .str (fullS d)), (6, .int .i64 (sizeN d.size)), (0, .int .i64 seq)], [some (.row false 1 ((blkL seq d i).map strC))]⟩
theorem blocks_ok (seq : Int) (d : ByteArray) (h1 : 1 ≤ seq) (h2 : seq ≤ 2147483647) (h3 : d.size ≤ 6000) : CallA1 S0 30 [.int .i64 seq, .str d] [] fun r m => r = .tup [.slc 0 0 (sizeN d.size) none, .nili] ∧ m = [some (.row false 1 ((blkL seq d (sizeN d.size)).map strC))] := by
  refine CallA1.fin ?_
  refine fun_sound okBk Tryd.func30 c30 ?_
  unfold wpF F30
  have d1 : decide (seq < 1) = false := by simp only [decide_eq_false_iff_not]; omega
  have d2 : decide (seq > 2147483647) = false := by simp only [decide_eq_false_iff_not]; omega
  have d3 : decide ((d.size : Int) > 6000) = false := by simp only [decide_eq_false_iff_not]; omega
  have hok : okSz d := by unfold okSz; omega
  have hsn : sizeN d.size ≤ 200 := by unfold sizeN; omega
  have hhd := head_sz d
  have hle : 8 + d.size ≤ sizeN d.size * 56 := by unfold sizeN; omega
  have w1 : IntKind.i64.wrap ((sizeN d.size : Int) * 56) = ((sizeN d.size * 56 : Nat) : Int) := by rw [IntKind.wrap_i64]; omega
  have w2 : IntKind.i64.wrap (((sizeN d.size * 56 : Nat) : Int) - ((headS d).size : Int)) = ((padN d : Nat) : Int) := by rw [IntKind.wrap_i64]; unfold padN; omega
  have hrp : okRep ⟨#[0]⟩ ((padN d : Nat) : Int) := ⟨by omega, by decide, by unfold padN; omega⟩
  have e1 : num4 (IntKind.u64.wrap (d.size : Int)) ++ num4 (IntKind.u64.wrap (sumZ d)) ++ d = headS d := rfl
  have e2 : headS d ++ repS ⟨#[0]⟩ (padN d) = fullS d := rfl
  simp only [AH.SD, AH.wpOp, AOp.call?, AOp.next?, bstep, AOp.map, Opd.ev, tget, argTm, evs, AV.cells, St.eff, St.put, applyWr, mset, terase, pureE, unAV, intOp, binAV, fill, mget, AH.rowAt, AH.part, retQ, rvs, retV, AH.splice, AH.sliceElems, AH.bytesOf, AH.strOp, AH.bound, AH.addLog, AH.missQ, AH.minmaxAV, AH.wpOpD, AH.readOf, AH.effOf, AH.mapAt, AH.iterAt, Nat.reduceBEq, Nat.reduceAdd, Nat.reduceLT, ↓reduceIte, Nat.reduceEqDiff, Nat.reduceLeDiff, Nat.reduceSub, Nat.reduceMul, Int.reduceSub, Int.reduceToNat, Int.reduceBEq, Int.reduceBNe, Int.reduceLT, Int.reduceGT, Int.reduceLE, Int.reduceGE, Int.reduceNeg, Int.reduceAdd, d1, d2, d3, sizeT_p, sumT_p, rtC1, hok, if_true, numT_4, e1, w1, w2, repT_eq hrp, e2]
  refine ⟨by rw [num4_sz, num4_sz, imax]; omega, by rw [ByteArray.size_append, num4_sz, num4_sz, imax]; omega, by rw [repS_sz, hhd, imax]; unfold padN; omega, ?_⟩
  have hfs := full_sz d
  refine loop_do [] [44, 43, 8, 7, 6, 0] [.tm 8 1] (α := Nat) (fun i => sizeN d.size - i) (bkSt seq d) (fun i => i ≤ sizeN d.size) 0 (Nat.zero_le _) (by simp only [AH.SD, AH.wpOp, AOp.call?, AOp.next?, bstep, AOp.map, Opd.ev, tget, argTm, evs, AV.cells, St.eff, St.put, applyWr, mset, terase, pureE, unAV, intOp, binAV, fill, mget, AH.rowAt, AH.part, retQ, rvs, retV, AH.splice, AH.sliceElems, AH.bytesOf, AH.strOp, AH.bound, AH.addLog, AH.missQ, AH.minmaxAV, AH.wpOpD, AH.readOf, AH.effOf, AH.mapAt, AH.iterAt, Nat.reduceBEq, Nat.reduceAdd, Nat.reduceLT, ↓reduceIte, Nat.reduceEqDiff, Nat.reduceLeDiff, Nat.reduceSub, Nat.reduceMul, Int.reduceSub, Int.reduceToNat, Int.reduceBEq, Int.reduceBNe, Int.reduceLT, Int.reduceGT, Int.reduceLE, Int.reduceGE, Int.reduceNeg, Int.reduceAdd, AH.PD, heads, distN, AH.inN, posN, packM, packB, packTm, liveB, AV.inB, AV.insB, AV.ren, AV.rens, Blk.ren, Blk.inB, vstep, tput, bkSt, show blkL seq d 0 = [] from rfl]) ?_
  intro X i hi ih
  simp only [AH.SD, AH.wpOp, AOp.call?, AOp.next?, bstep, AOp.map, Opd.ev, tget, argTm, evs, AV.cells, St.eff, St.put, applyWr, mset, terase, pureE, unAV, intOp, binAV, fill, mget, AH.rowAt, AH.part, retQ, rvs, retV, AH.splice, AH.sliceElems, AH.bytesOf, AH.strOp, AH.bound, AH.addLog, AH.missQ, AH.minmaxAV, AH.wpOpD, AH.readOf, AH.effOf, AH.mapAt, AH.iterAt, Nat.reduceBEq, Nat.reduceAdd, Nat.reduceLT, ↓reduceIte, Nat.reduceEqDiff, Nat.reduceLeDiff, Nat.reduceSub, Nat.reduceMul, Int.reduceSub, Int.reduceToNat, Int.reduceBEq, Int.reduceBNe, Int.reduceLT, Int.reduceGT, Int.reduceLE, Int.reduceGE, Int.reduceNeg, Int.reduceAdd, bkSt, blkL_len]
  refine ⟨fun hlt => ?_, fun hlt => ?_⟩
  · have hi1 := lt_of_dec hlt
    have wi := wrapS (i := i) (by omega)
    have wa : IntKind.i64.wrap ((i : Int) * 56) = ((i * 56 : Nat) : Int) := by rw [IntKind.wrap_i64]; omega
    have wb : IntKind.i64.wrap (((i + 1 : Nat) : Int) * 56) = (((i + 1) * 56 : Nat) : Int) := by rw [IntKind.wrap_i64]; omega
    have done := ih (i + 1) hi1 (by omega)
    simp only [bkSt, blkL_succ, blkL_len, List.map_append, List.map_cons, List.map_nil, List.length_append, List.length_cons, List.length_nil, Nat.zero_add, strC_eq, blkS] at done
    have e3 : ((blkL seq d i).map strC).take i = (blkL seq d i).map strC := List.take_of_length_le (by rw [List.length_map, blkL_len]; exact Nat.le_refl _)
    have hxs : ((fullS d).extract (i * 56) ((i + 1) * 56)).size = 56 := by rw [ByteArray.size_extract, hfs]; omega
    simp only [AH.SD, AH.wpOp, AOp.call?, AOp.next?, bstep, AOp.map, Opd.ev, tget, argTm, evs, AV.cells, St.eff, St.put, applyWr, mset, terase, pureE, unAV, intOp, binAV, fill, mget, AH.rowAt, AH.part, retQ, rvs, retV, AH.splice, AH.sliceElems, AH.bytesOf, AH.strOp, AH.bound, AH.addLog, AH.missQ, AH.minmaxAV, AH.wpOpD, AH.readOf, AH.effOf, AH.mapAt, AH.iterAt, Nat.reduceBEq, Nat.reduceAdd, Nat.reduceLT, ↓reduceIte, Nat.reduceEqDiff, Nat.reduceLeDiff, Nat.reduceSub, Nat.reduceMul, Int.reduceSub, Int.reduceToNat, Int.reduceBEq, Int.reduceBNe, Int.reduceLT, Int.reduceGT, Int.reduceLE, Int.reduceGE, Int.reduceNeg, Int.reduceAdd, wi, wa, wb, endT_p, Int.toNat_natCast, hfs, e3, List.length_map, blkL_len, hxs, endS_sz, imax]
    repeat (refine ⟨by first | rfl | decide | omega | (simp only [List.length_map, and_true]; omega) | (simp only [List.length_map, List.length_set, and_true]; omega), ?_⟩)
    refine gc_auto [2] [44, 43, 8, 7, 6, 0] [] ?_
    simp only [AH.SD, AH.wpOp, AOp.call?, AOp.next?, bstep, AOp.map, Opd.ev, tget, argTm, evs, AV.cells, St.eff, St.put, applyWr, mset, terase, pureE, unAV, intOp, binAV, fill, mget, AH.rowAt, AH.part, retQ, rvs, retV, AH.splice, AH.sliceElems, AH.bytesOf, AH.strOp, AH.bound, AH.addLog, AH.missQ, AH.minmaxAV, AH.wpOpD, AH.readOf, AH.effOf, AH.mapAt, AH.iterAt, Nat.reduceBEq, Nat.reduceAdd, Nat.reduceLT, ↓reduceIte, Nat.reduceEqDiff, Nat.reduceLeDiff, Nat.reduceSub, Nat.reduceMul, Int.reduceSub, Int.reduceToNat, Int.reduceBEq, Int.reduceBNe, Int.reduceLT, Int.reduceGT, Int.reduceLE, Int.reduceGE, Int.reduceNeg, Int.reduceAdd, AH.PD, heads, distN, AH.inN, posN, packM, packB, packTm, liveB, AV.inB, AV.insB, AV.ren, AV.rens, Blk.ren, Blk.inB, vstep, tput, List.length_append, List.length_map, blkL_len]
    exact done
  · have hi1 := ge_of_dec hlt
    obtain rfl : i = sizeN d.size := by omega
    simp only [AH.SD, AH.wpOp, AOp.call?, AOp.next?, bstep, AOp.map, Opd.ev, tget, argTm, evs, AV.cells, St.eff, St.put, applyWr, mset, terase, pureE, unAV, intOp, binAV, fill, mget, AH.rowAt, AH.part, retQ, rvs, retV, AH.splice, AH.sliceElems, AH.bytesOf, AH.strOp, AH.bound, AH.addLog, AH.missQ, AH.minmaxAV, AH.wpOpD, AH.readOf, AH.effOf, AH.mapAt, AH.iterAt, Nat.reduceBEq, Nat.reduceAdd, Nat.reduceLT, ↓reduceIte, Nat.reduceEqDiff, Nat.reduceLeDiff, Nat.reduceSub, Nat.reduceMul, Int.reduceSub, Int.reduceToNat, Int.reduceBEq, Int.reduceBNe, Int.reduceLT, Int.reduceGT, Int.reduceLE, Int.reduceGE, Int.reduceNeg, Int.reduceAdd]
    refine ⟨[0], [], ?_⟩
    simp only [AH.SD, AH.wpOp, AOp.call?, AOp.next?, bstep, AOp.map, Opd.ev, tget, argTm, evs, AV.cells, St.eff, St.put, applyWr, mset, terase, pureE, unAV, intOp, binAV, fill, mget, AH.rowAt, AH.part, retQ, rvs, retV, AH.splice, AH.sliceElems, AH.bytesOf, AH.strOp, AH.bound, AH.addLog, AH.missQ, AH.minmaxAV, AH.wpOpD, AH.readOf, AH.effOf, AH.mapAt, AH.iterAt, Nat.reduceBEq, Nat.reduceAdd, Nat.reduceLT, ↓reduceIte, Nat.reduceEqDiff, Nat.reduceLeDiff, Nat.reduceSub, Nat.reduceMul, Int.reduceSub, Int.reduceToNat, Int.reduceBEq, Int.reduceBNe, Int.reduceLT, Int.reduceGT, Int.reduceLE, Int.reduceGE, Int.reduceNeg, Int.reduceAdd, AH.PD, heads, distN, AH.inN, posN, packM, packB, packTm, liveB, AV.inB, AV.insB, AV.ren, AV.rens, Blk.ren, Blk.inB, vstep, tput, blkL_len]
def okBl (x : Int × ByteArray × Unit) : Prop := 1 ≤ x.1 ∧ x.1 ≤ 2147483647 ∧ x.2.1.size ≤ 6000
instance : DecidablePred okBl := fun x => by unfold okBl; infer_instance
def bksN : RT := rtC (cC (aI .i64) (cC aS c0)) (fun x => ¬ okBl x) fun _ => .tup [.nils, .err 0]
theorem bksN_ok : ReadF S0 30 bksN := rtC_ok (fun x h => blocks_no x.1 x.2.1 (by unfold okBl at h; omega)) fun _ => rfl
theorem bksN_p {n : Int} {s : ByteArray} {M : Nat → Option Blk} : bksN [.int .i64 n, .str s] M = rtC1 (fun x => ¬ okBl x) (fun _ => .tup [.nils, .err 0]) (some (n, s, ())) := by
  simp only [bksN, rtC_p, cC_dec, aI_dec, aS_dec, c0_dec, pairO_some]
def bksT : ET := etN (cC (aI .i64) (cC aS c0)) fun x => if okBl x then some (.tup [.slc 0 0 (sizeN x.2.1.size) none, .nili], [some (.row false 1 ((blkL x.1 x.2.1 (sizeN x.2.1.size)).map strC))]) else none
theorem bksT_ok : EffF S0 30 bksT := etN_ok fun x v m' h => by
  split at h
  · rename_i hx
    simp only [Option.some.injEq, Prod.mk.injEq] at h
    obtain ⟨rfl, rfl⟩ := h
    exact ⟨rfl, blocks_ok x.1 x.2.1 hx.1 hx.2.1 hx.2.2⟩
  · cases h
end Go.Proofs.YtcmnchmkoghfdaaDoor.C05h
