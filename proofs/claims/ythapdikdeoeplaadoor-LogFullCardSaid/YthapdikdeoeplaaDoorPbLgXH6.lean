import Derived.Test.YthapdikdeoeplaaDoorPaFrmSH6
import Derived.Shelf.Strings.BuilderF
import Derived.Test.YthapdikdeoeplaaDoorAHd
import Derived.WalkKit
section
open Go AH
set_option linter.unusedSimpArgs false
set_option maxRecDepth 100000
namespace Go.Proofs.YthapdikdeoeplaaDoor.H6
theorem gA1 : AV.err 1 = .err 1 := rfl
def headS (d : ByteArray) : ByteArray := num4 (IntKind.u64.wrap (d.size : Int)) ++ num4 (IntKind.u64.wrap (sumZ d)) ++ d
def padN (d : ByteArray) : Nat := sizeN d.size * 56 - (headS d).size
/-- A text with its head, filled up with zeros. -/
def fullS (d : ByteArray) : ByteArray := headS d ++ repS ⟨#[0]⟩ (padN d)
def blkS (seq : Int) (d : ByteArray) (i : Nat) : ByteArray := (fullS d).extract (i * 56) ((i + 1) * 56) ++ endS seq i (sizeN d.size)
def blkL (seq : Int) (d : ByteArray) (k : Nat) : List ByteArray := (List.range k).map (blkS seq d)
theorem blkL_len (seq : Int) (d : ByteArray) (k : Nat) : (blkL seq d k).length = k := by simp [blkL]
theorem blkL_succ (seq : Int) (d : ByteArray) (k : Nat) : blkL seq d (k + 1) = blkL seq d k ++ [blkS seq d k] := by simp [blkL, List.range_succ]
theorem head_sz (d : ByteArray) : (headS d).size = 8 + d.size := by
  simp only [headS, ByteArray.size_append, num4_sz]
theorem endS_sz (a b c : Int) : (endS a b c).size = 8 := rfl
theorem imax : IntKind.i64.max = 9223372036854775807 := rfl
theorem repS_sz (k : Nat) : (repS ⟨#[0]⟩ k).size = k := by
  unfold repS
  show (Lib.repeatL [0] k).toArray.size = k
  rw [List.size_toArray, Lib.repeatL_length]; simp
theorem full_sz (d : ByteArray) : (fullS d).size = sizeN d.size * 56 := by
  have h1 := head_sz d
  have h2 : 8 + d.size ≤ sizeN d.size * 56 := by unfold sizeN; omega
  rw [fullS, ByteArray.size_append, repS_sz, padN]
  omega
theorem okBk : CtxOK S0 (ctxU S0 [(39, sizeT), (57, numT), (58, sumT), (33, repT), (59, endT)] []) := ctxU_ok ⟨sizeT_ok, numT_ok, sumT_ok, repT_ok, endT_ok, trivial⟩ trivial mixed
theorem blocks_no (seq : Int) (d : ByteArray) (h : seq < 1 ∨ seq > 2147483647 ∨ d.size > 6000) : Pure S0 40 [.int .i64 seq, .str d] (.tup [.nils, .err 1]) := by
  refine fun_sound okBk Tryd.func40 c40 ?_
  unfold wpF F40
  cases h1 : decide (seq < 1)
  · cases h2 : decide (seq > 2147483647)
    · have h3 : decide ((d.size : Int) > 6000) = true := by
        simp only [decide_eq_false_iff_not] at h1 h2
        simp only [decide_eq_true_eq]; omega
      simp only [AH.SD, AH.wpOp, AOp.call?, AOp.next?, bstep, AOp.map, Opd.ev, tget, argTm, evs, AV.cells, St.eff, St.put, applyWr, mset, terase, pureE, unAV, intOp, binAV, fill, mget, AH.rowAt, AH.part, retQ, rvs, retV, AH.splice, AH.sliceElems, AH.bytesOf, AH.strOp, AH.bound, AH.addLog, AH.missQ, AH.minmaxAV, AH.wpOpD, AH.readOf, AH.effOf, AH.mapAt, AH.iterAt, Nat.reduceBEq, Nat.reduceAdd, Nat.reduceLT, ↓reduceIte, Nat.reduceEqDiff, Nat.reduceLeDiff, Nat.reduceSub, Nat.reduceMul, Int.reduceSub, Int.reduceToNat, Int.reduceBEq, Int.reduceBNe, Int.reduceLT, Int.reduceGT, Int.reduceLE, Int.reduceGE, Int.reduceNeg, Int.reduceAdd, h1, h2, h3]
      repeat (refine ⟨by first | rfl | decide | omega | (simp only [List.length_map, and_true]; omega) | (simp only [List.length_map, List.length_set, and_true]; omega), ?_⟩)
      simp only [AH.SD, AH.wpOp, AOp.call?, AOp.next?, bstep, AOp.map, Opd.ev, tget, argTm, evs, AV.cells, St.eff, St.put, applyWr, mset, terase, pureE, unAV, intOp, binAV, fill, mget, AH.rowAt, AH.part, retQ, rvs, retV, AH.splice, AH.sliceElems, AH.bytesOf, AH.strOp, AH.bound, AH.addLog, AH.missQ, AH.minmaxAV, AH.wpOpD, AH.readOf, AH.effOf, AH.mapAt, AH.iterAt, Nat.reduceBEq, Nat.reduceAdd, Nat.reduceLT, ↓reduceIte, Nat.reduceEqDiff, Nat.reduceLeDiff, Nat.reduceSub, Nat.reduceMul, Int.reduceSub, Int.reduceToNat, Int.reduceBEq, Int.reduceBNe, Int.reduceLT, Int.reduceGT, Int.reduceLE, Int.reduceGE, Int.reduceNeg, Int.reduceAdd]
    · simp only [AH.SD, AH.wpOp, AOp.call?, AOp.next?, bstep, AOp.map, Opd.ev, tget, argTm, evs, AV.cells, St.eff, St.put, applyWr, mset, terase, pureE, unAV, intOp, binAV, fill, mget, AH.rowAt, AH.part, retQ, rvs, retV, AH.splice, AH.sliceElems, AH.bytesOf, AH.strOp, AH.bound, AH.addLog, AH.missQ, AH.minmaxAV, AH.wpOpD, AH.readOf, AH.effOf, AH.mapAt, AH.iterAt, Nat.reduceBEq, Nat.reduceAdd, Nat.reduceLT, ↓reduceIte, Nat.reduceEqDiff, Nat.reduceLeDiff, Nat.reduceSub, Nat.reduceMul, Int.reduceSub, Int.reduceToNat, Int.reduceBEq, Int.reduceBNe, Int.reduceLT, Int.reduceGT, Int.reduceLE, Int.reduceGE, Int.reduceNeg, Int.reduceAdd, h1, h2]
      repeat (refine ⟨by first | rfl | decide | omega | (simp only [List.length_map, and_true]; omega) | (simp only [List.length_map, List.length_set, and_true]; omega), ?_⟩)
      simp only [AH.SD, AH.wpOp, AOp.call?, AOp.next?, bstep, AOp.map, Opd.ev, tget, argTm, evs, AV.cells, St.eff, St.put, applyWr, mset, terase, pureE, unAV, intOp, binAV, fill, mget, AH.rowAt, AH.part, retQ, rvs, retV, AH.splice, AH.sliceElems, AH.bytesOf, AH.strOp, AH.bound, AH.addLog, AH.missQ, AH.minmaxAV, AH.wpOpD, AH.readOf, AH.effOf, AH.mapAt, AH.iterAt, Nat.reduceBEq, Nat.reduceAdd, Nat.reduceLT, ↓reduceIte, Nat.reduceEqDiff, Nat.reduceLeDiff, Nat.reduceSub, Nat.reduceMul, Int.reduceSub, Int.reduceToNat, Int.reduceBEq, Int.reduceBNe, Int.reduceLT, Int.reduceGT, Int.reduceLE, Int.reduceGE, Int.reduceNeg, Int.reduceAdd]
  · simp only [AH.SD, AH.wpOp, AOp.call?, AOp.next?, bstep, AOp.map, Opd.ev, tget, argTm, evs, AV.cells, St.eff, St.put, applyWr, mset, terase, pureE, unAV, intOp, binAV, fill, mget, AH.rowAt, AH.part, retQ, rvs, retV, AH.splice, AH.sliceElems, AH.bytesOf, AH.strOp, AH.bound, AH.addLog, AH.missQ, AH.minmaxAV, AH.wpOpD, AH.readOf, AH.effOf, AH.mapAt, AH.iterAt, Nat.reduceBEq, Nat.reduceAdd, Nat.reduceLT, ↓reduceIte, Nat.reduceEqDiff, Nat.reduceLeDiff, Nat.reduceSub, Nat.reduceMul, Int.reduceSub, Int.reduceToNat, Int.reduceBEq, Int.reduceBNe, Int.reduceLT, Int.reduceGT, Int.reduceLE, Int.reduceGE, Int.reduceNeg, Int.reduceAdd, h1]
    repeat (refine ⟨by first | rfl | decide | omega | (simp only [List.length_map, and_true]; omega) | (simp only [List.length_map, List.length_set, and_true]; omega), ?_⟩)
    simp only [AH.SD, AH.wpOp, AOp.call?, AOp.next?, bstep, AOp.map, Opd.ev, tget, argTm, evs, AV.cells, St.eff, St.put, applyWr, mset, terase, pureE, unAV, intOp, binAV, fill, mget, AH.rowAt, AH.part, retQ, rvs, retV, AH.splice, AH.sliceElems, AH.bytesOf, AH.strOp, AH.bound, AH.addLog, AH.missQ, AH.minmaxAV, AH.wpOpD, AH.readOf, AH.effOf, AH.mapAt, AH.iterAt, Nat.reduceBEq, Nat.reduceAdd, Nat.reduceLT, ↓reduceIte, Nat.reduceEqDiff, Nat.reduceLeDiff, Nat.reduceSub, Nat.reduceMul, Int.reduceSub, Int.reduceToNat, Int.reduceBEq, Int.reduceBNe, Int.reduceLT, Int.reduceGT, Int.reduceLE, Int.reduceGE, Int.reduceNeg, Int.reduceAdd]
def bkSt (seq : Int) (d : ByteArray) (i : Nat) : St := ⟨[(44, .int .i64 i), (43, .int .i64 (sizeN d.size)), (8, .slc 0 0 (blkL seq d i).length none), (7, .str (fullS d)), (6, .int .i64 (sizeN d.size)), (0, .int .i64 seq)], [some (.row false 1 ((blkL seq d i).map strC))]⟩
theorem blocks_ok (seq : Int) (d : ByteArray) (h1 : 1 ≤ seq) (h2 : seq ≤ 2147483647) (h3 : d.size ≤ 6000) : CallA1 S0 40 [.int .i64 seq, .str d] [] fun r m => r = .tup [.slc 0 0 (sizeN d.size) none, .nili] ∧ m = [some (.row false 1 ((blkL seq d (sizeN d.size)).map strC))] := by
  refine CallA1.fin ?_
  refine fun_sound okBk Tryd.func40 c40 ?_
  unfold wpF F40
  have d1 : decide (seq < 1) = false := by simp only [decide_eq_false_iff_not]; omega
  have d2 : decide (seq > 2147483647) = false := by simp only [decide_eq_false_iff_not]; omega
  have d3 : decide ((d.size : Int) > 6000) = false := by simp only [decide_eq_false_iff_not]; omega
  have hok : okSz d := by unfold okSz; omega
  have hsn : sizeN d.size ≤ 200 := by unfold sizeN; omega
  have hhd := head_sz d
  have hle : 8 + d.size ≤ sizeN d.size * 56 := by unfold sizeN; omega
  have w1 : IntKind.i64.wrap ((sizeN d.size : Int) * 56) = ((sizeN d.size * 56 : Nat) : Int) := by rw [IntKind.wrap_i64]; omega
  have w2 : IntKind.i64.wrap (((sizeN d.size * 56 : Nat) : Int) - ((headS d).size : Int)) = ((padN d : Nat) : Int) := by rw [IntKind.wrap_i64]; unfold padN; omega
  have hrp : okRep ⟨#[0]⟩ ((padN d : Nat) : Int) := ⟨by omega, by decide, by unfold padN; omega⟩
  have e1 : num4 (IntKind.u64.wrap (d.size : Int)) ++ num4 (IntKind.u64.wrap (sumZ d)) ++ d = headS d := rfl
  have e2 : headS d ++ repS ⟨#[0]⟩ (padN d) = fullS d := rfl
  simp only [AH.SD, AH.wpOp, AOp.call?, AOp.next?, bstep, AOp.map, Opd.ev, tget, argTm, evs, AV.cells, St.eff, St.put, applyWr, mset, terase, pureE, unAV, intOp, binAV, fill, mget, AH.rowAt, AH.part, retQ, rvs, retV, AH.splice, AH.sliceElems, AH.bytesOf, AH.strOp, AH.bound, AH.addLog, AH.missQ, AH.minmaxAV, AH.wpOpD, AH.readOf, AH.effOf, AH.mapAt, AH.iterAt, Nat.reduceBEq, Nat.reduceAdd, Nat.reduceLT, ↓reduceIte, Nat.reduceEqDiff, Nat.reduceLeDiff, Nat.reduceSub, Nat.reduceMul, Int.reduceSub, Int.reduceToNat, Int.reduceBEq, Int.reduceBNe, Int.reduceLT, Int.reduceGT, Int.reduceLE, Int.reduceGE, Int.reduceNeg, Int.reduceAdd, d1, d2, d3, sizeT_p, sumT_p, rtC1, hok, if_true, numT_4, e1, w1, w2, repT_eq hrp, e2]
  refine ⟨by rw [num4_sz, num4_sz, imax]; omega, by rw [ByteArray.size_append, num4_sz, num4_sz, imax]; omega, by rw [repS_sz, hhd, imax]; unfold padN; omega, ?_⟩
  have hfs := full_sz d
  refine loop_do [] [44, 43, 8, 7, 6, 0] [.tm 8 1] (α := Nat) (fun i => sizeN d.size - i) (bkSt seq d) (fun i => i ≤ sizeN d.size) 0 (Nat.zero_le _) (by simp only [AH.SD, AH.wpOp, AOp.call?, AOp.next?, bstep, AOp.map, Opd.ev, tget, argTm, evs, AV.cells, St.eff, St.put, applyWr, mset, terase, pureE, unAV, intOp, binAV, fill, mget, AH.rowAt, AH.part, retQ, rvs, retV, AH.splice, AH.sliceElems, AH.bytesOf, AH.strOp, AH.bound, AH.addLog, AH.missQ, AH.minmaxAV, AH.wpOpD, AH.readOf, AH.effOf, AH.mapAt, AH.iterAt, Nat.reduceBEq, Nat.reduceAdd, Nat.reduceLT, ↓reduceIte, Nat.reduceEqDiff, Nat.reduceLeDiff, Nat.reduceSub, Nat.reduceMul, Int.reduceSub, Int.reduceToNat, Int.reduceBEq, Int.reduceBNe, Int.reduceLT, Int.reduceGT, Int.reduceLE, Int.reduceGE, Int.reduceNeg, Int.reduceAdd, AH.PD, heads, distN, AH.inN, posN, packM, packB, packTm, liveB, AV.inB, AV.insB, AV.ren, AV.rens, Blk.ren, Blk.inB, vstep, tput, bkSt, show blkL seq d 0 = [] from rfl]) ?_
  intro X i hi ih
  simp only [AH.SD, AH.wpOp, AOp.call?, AOp.next?, bstep, AOp.map, Opd.ev, tget, argTm, evs, AV.cells, St.eff, St.put, applyWr, mset, terase, pureE, unAV, intOp, binAV, fill, mget, AH.rowAt, AH.part, retQ, rvs, retV, AH.splice, AH.sliceElems, AH.bytesOf, AH.strOp, AH.bound, AH.addLog, AH.missQ, AH.minmaxAV, AH.wpOpD, AH.readOf, AH.effOf, AH.mapAt, AH.iterAt, Nat.reduceBEq, Nat.reduceAdd, Nat.reduceLT, ↓reduceIte, Nat.reduceEqDiff, Nat.reduceLeDiff, Nat.reduceSub, Nat.reduceMul, Int.reduceSub, Int.reduceToNat, Int.reduceBEq, Int.reduceBNe, Int.reduceLT, Int.reduceGT, Int.reduceLE, Int.reduceGE, Int.reduceNeg, Int.reduceAdd, bkSt, blkL_len]
  refine ⟨fun hlt => ?_, fun hlt => ?_⟩
  · have hi1 := lt_of_dec hlt
    have wi := wrapS (i := i) (by omega)
    have wa : IntKind.i64.wrap ((i : Int) * 56) = ((i * 56 : Nat) : Int) := by rw [IntKind.wrap_i64]; omega
    have wb : IntKind.i64.wrap (((i + 1 : Nat) : Int) * 56) = (((i + 1) * 56 : Nat) : Int) := by rw [IntKind.wrap_i64]; omega
    have done := ih (i + 1) hi1 (by omega)
    simp only [bkSt, blkL_succ, blkL_len, List.map_append, List.map_cons, List.map_nil, List.length_append, List.length_cons, List.length_nil, Nat.zero_add, strC_eq, blkS] at done
    have e3 : ((blkL seq d i).map strC).take i = (blkL seq d i).map strC := List.take_of_length_le (by rw [List.length_map, blkL_len]; exact Nat.le_refl _)
    have hxs : ((fullS d).extract (i * 56) ((i + 1) * 56)).size = 56 := by rw [ByteArray.size_extract, hfs]; omega
    simp only [AH.SD, AH.wpOp, AOp.call?, AOp.next?, bstep, AOp.map, Opd.ev, tget, argTm, evs, AV.cells, St.eff, St.put, applyWr, mset, terase, pureE, unAV, intOp, binAV, fill, mget, AH.rowAt, AH.part, retQ, rvs, retV, AH.splice, AH.sliceElems, AH.bytesOf, AH.strOp, AH.bound, AH.addLog, AH.missQ, AH.minmaxAV, AH.wpOpD, AH.readOf, AH.effOf, AH.mapAt, AH.iterAt, Nat.reduceBEq, Nat.reduceAdd, Nat.reduceLT, ↓reduceIte, Nat.reduceEqDiff, Nat.reduceLeDiff, Nat.reduceSub, Nat.reduceMul, Int.reduceSub, Int.reduceToNat, Int.reduceBEq, Int.reduceBNe, Int.reduceLT, Int.reduceGT, Int.reduceLE, Int.reduceGE, Int.reduceNeg, Int.reduceAdd, wi, wa, wb, endT_p, Int.toNat_natCast, hfs, e3, List.length_map, blkL_len, hxs, endS_sz, imax]
    repeat (refine ⟨by first | rfl | decide | omega | (simp only [List.length_map, and_true]; omega) | (simp only [List.length_map, List.length_set, and_true]; omega), ?_⟩)
    refine gc_auto [2] [44, 43, 8, 7, 6, 0] [] ?_
    simp only [AH.SD, AH.wpOp, AOp.call?, AOp.next?, bstep, AOp.map, Opd.ev, tget, argTm, evs, AV.cells, St.eff, St.put, applyWr, mset, terase, pureE, unAV, intOp, binAV, fill, mget, AH.rowAt, AH.part, retQ, rvs, retV, AH.splice, AH.sliceElems, AH.bytesOf, AH.strOp, AH.bound, AH.addLog, AH.missQ, AH.minmaxAV, AH.wpOpD, AH.readOf, AH.effOf, AH.mapAt, AH.iterAt, Nat.reduceBEq, Nat.reduceAdd, Nat.reduceLT, ↓reduceIte, Nat.reduceEqDiff, Nat.reduceLeDiff, Nat.reduceSub, Nat.reduceMul, Int.reduceSub, Int.reduceToNat, Int.reduceBEq, Int.reduceBNe, Int.reduceLT, Int.reduceGT, Int.reduceLE, Int.reduceGE, Int.reduceNeg, Int.reduceAdd, AH.PD, heads, distN, AH.inN, posN, packM, packB, packTm, liveB, AV.inB, AV.insB, AV.ren, AV.rens, Blk.ren, Blk.inB, vstep, tput, List.length_append, List.length_map, blkL_len]
    exact done
  · have hi1 := ge_of_dec hlt
    obtain rfl : i = sizeN d.size := by omega
    simp only [AH.SD, AH.wpOp, AOp.call?, AOp.next?, bstep, AOp.map, Opd.ev, tget, argTm, evs, AV.cells, St.eff, St.put, applyWr, mset, terase, pureE, unAV, intOp, binAV, fill, mget, AH.rowAt, AH.part, retQ, rvs, retV, AH.splice, AH.sliceElems, AH.bytesOf, AH.strOp, AH.bound, AH.addLog, AH.missQ, AH.minmaxAV, AH.wpOpD, AH.readOf, AH.effOf, AH.mapAt, AH.iterAt, Nat.reduceBEq, Nat.reduceAdd, Nat.reduceLT, ↓reduceIte, Nat.reduceEqDiff, Nat.reduceLeDiff, Nat.reduceSub, Nat.reduceMul, Int.reduceSub, Int.reduceToNat, Int.reduceBEq, Int.reduceBNe, Int.reduceLT, Int.reduceGT, Int.reduceLE, Int.reduceGE, Int.reduceNeg, Int.reduceAdd]
    refine ⟨[0], [], ?_⟩
    simp only [AH.SD, AH.wpOp, AOp.call?, AOp.next?, bstep, AOp.map, Opd.ev, tget, argTm, evs, AV.cells, St.eff, St.put, applyWr, mset, terase, pureE, unAV, intOp, binAV, fill, mget, AH.rowAt, AH.part, retQ, rvs, retV, AH.splice, AH.sliceElems, AH.bytesOf, AH.strOp, AH.bound, AH.addLog, AH.missQ, AH.minmaxAV, AH.wpOpD, AH.readOf, AH.effOf, AH.mapAt, AH.iterAt, Nat.reduceBEq, Nat.reduceAdd, Nat.reduceLT, ↓reduceIte, Nat.reduceEqDiff, Nat.reduceLeDiff, Nat.reduceSub, Nat.reduceMul, Int.reduceSub, Int.reduceToNat, Int.reduceBEq, Int.reduceBNe, Int.reduceLT, Int.reduceGT, Int.reduceLE, Int.reduceGE, Int.reduceNeg, Int.reduceAdd, AH.PD, heads, distN, AH.inN, posN, packM, packB, packTm, liveB, AV.inB, AV.insB, AV.ren, AV.rens, Blk.ren, Blk.inB, vstep, tput, blkL_len]
def okBl (x : Int × ByteArray × Unit) : Prop := 1 ≤ x.1 ∧ x.1 ≤ 2147483647 ∧ x.2.1.size ≤ 6000
instance : DecidablePred okBl := fun x => by unfold okBl; infer_instance
def bksN : RT := rtC (cC (aI .i64) (cC aS c0)) (fun x => ¬ okBl x) fun _ => .tup [.nils, .err 1]
theorem bksN_ok : ReadF S0 40 bksN := rtC_ok (fun x h => blocks_no x.1 x.2.1 (by unfold okBl at h; omega)) fun _ => rfl
theorem bksN_p {n : Int} {s : ByteArray} {M : Nat → Option Blk} : bksN [.int .i64 n, .str s] M = rtC1 (fun x => ¬ okBl x) (fun _ => .tup [.nils, .err 1]) (some (n, s, ())) := by
  simp only [bksN, rtC_p, cC_dec, aI_dec, aS_dec, c0_dec, pairO_some]
def bksT : ET := etN (cC (aI .i64) (cC aS c0)) fun x => if okBl x then some (.tup [.slc 0 0 (sizeN x.2.1.size) none, .nili], [some (.row false 1 ((blkL x.1 x.2.1 (sizeN x.2.1.size)).map strC))]) else none
theorem bksT_ok : EffF S0 40 bksT := etN_ok fun x v m' h => by
  split at h
  · rename_i hx
    simp only [Option.some.injEq, Prod.mk.injEq] at h
    obtain ⟨rfl, rfl⟩ := h
    exact ⟨rfl, blocks_ok x.1 x.2.1 hx.1 hx.2.1 hx.2.2⟩
  · cases h
end Go.Proofs.YthapdikdeoeplaaDoor.H6
end

section
open Go AH
set_option linter.unusedSimpArgs false
set_option maxRecDepth 100000
namespace Go.Proofs.YthapdikdeoeplaaDoor.H6
/-- How long a text is without its last bytes of one kind. -/
def trN (s : ByteArray) (b : UInt8) : Nat → Nat
  | 0 => 0
  | k + 1 => bif s.data.toList.getD k 0 == b then trN s b k else k + 1
theorem trN_le (s : ByteArray) (b : UInt8) : ∀ k, trN s b k ≤ k
  | 0 => Nat.le_refl _
  | k + 1 => by
    unfold trN
    cases s.data.toList.getD k 0 == b
    · exact Nat.le_refl _
    · exact Nat.le_succ_of_le (trN_le s b k)
theorem ex_get (s : ByteArray) {k j : Nat} (hk : k ≤ s.size) (hj : j < k) : (s.extract 0 k).data.toList.getD j 0 = s.data.toList.getD j 0 := by
  rw [Lib.extract_data]
  simp only [List.drop_zero, Nat.sub_zero]
  rw [List.getD_eq_getElem?_getD, List.getElem?_take_of_lt hj, ← List.getD_eq_getElem?_getD]
def trSt (s : ByteArray) (b : UInt8) (k : Nat) : St := ⟨[(1, .int .u8 (b.toNat : Int)), (0, .str (s.extract 0 k))], []⟩
theorem trimR_ok (s : ByteArray) (b : UInt8) (hs : okSz s) : Pure S0 78 [.str s, .int .u8 (b.toNat : Int)] (.str (s.extract 0 (trN s b s.size))) := by
  have h1 : s.size ≤ 1048576 := hs
  refine fun_sound okF0 Tryd.func78 c78 ?_
  unfold wpF F78
  simp only [AH.SD, AH.wpOp, AOp.call?, AOp.next?, bstep, AOp.map, Opd.ev, tget, argTm, evs, AV.cells, St.eff, St.put, applyWr, mset, terase, pureE, unAV, intOp, binAV, fill, mget, AH.rowAt, AH.part, retQ, rvs, retV, AH.splice, AH.sliceElems, AH.bytesOf, AH.strOp, AH.bound, AH.addLog, AH.missQ, AH.minmaxAV, AH.wpOpD, AH.readOf, AH.effOf, AH.mapAt, AH.iterAt, Nat.reduceBEq, Nat.reduceAdd, Nat.reduceLT, ↓reduceIte, Nat.reduceEqDiff, Nat.reduceLeDiff, Nat.reduceSub, Nat.reduceMul, Int.reduceSub, Int.reduceToNat, Int.reduceBEq, Int.reduceBNe, Int.reduceLT, Int.reduceGT, Int.reduceLE, Int.reduceGE, Int.reduceNeg, Int.reduceAdd]
  refine loop_do [] [1, 0] [] (α := Nat) (fun k => k) (trSt s b) (fun k => k ≤ s.size ∧ trN s b k = trN s b s.size) s.size ⟨Nat.le_refl _, rfl⟩ (by simp only [AH.SD, AH.wpOp, AOp.call?, AOp.next?, bstep, AOp.map, Opd.ev, tget, argTm, evs, AV.cells, St.eff, St.put, applyWr, mset, terase, pureE, unAV, intOp, binAV, fill, mget, AH.rowAt, AH.part, retQ, rvs, retV, AH.splice, AH.sliceElems, AH.bytesOf, AH.strOp, AH.bound, AH.addLog, AH.missQ, AH.minmaxAV, AH.wpOpD, AH.readOf, AH.effOf, AH.mapAt, AH.iterAt, Nat.reduceBEq, Nat.reduceAdd, Nat.reduceLT, ↓reduceIte, Nat.reduceEqDiff, Nat.reduceLeDiff, Nat.reduceSub, Nat.reduceMul, Int.reduceSub, Int.reduceToNat, Int.reduceBEq, Int.reduceBNe, Int.reduceLT, Int.reduceGT, Int.reduceLE, Int.reduceGE, Int.reduceNeg, Int.reduceAdd, AH.PD, heads, distN, AH.inN, posN, packM, packB, packTm, liveB, AV.inB, AV.insB, AV.ren, AV.rens, Blk.ren, Blk.inB, vstep, tput, trSt, ByteArray.extract_zero_size]) ?_
  rintro X k ⟨hk, hp⟩ ih
  have hsz : (s.extract 0 k).size = k := by rw [ByteArray.size_extract]; omega
  cases k with
  | zero =>
    have z : decide (((0 : Nat) : Int) > 0) = false := by decide
    simp only [AH.SD, AH.wpOp, AOp.call?, AOp.next?, bstep, AOp.map, Opd.ev, tget, argTm, evs, AV.cells, St.eff, St.put, applyWr, mset, terase, pureE, unAV, intOp, binAV, fill, mget, AH.rowAt, AH.part, retQ, rvs, retV, AH.splice, AH.sliceElems, AH.bytesOf, AH.strOp, AH.bound, AH.addLog, AH.missQ, AH.minmaxAV, AH.wpOpD, AH.readOf, AH.effOf, AH.mapAt, AH.iterAt, Nat.reduceBEq, Nat.reduceAdd, Nat.reduceLT, ↓reduceIte, Nat.reduceEqDiff, Nat.reduceLeDiff, Nat.reduceSub, Nat.reduceMul, Int.reduceSub, Int.reduceToNat, Int.reduceBEq, Int.reduceBNe, Int.reduceLT, Int.reduceGT, Int.reduceLE, Int.reduceGE, Int.reduceNeg, Int.reduceAdd, trSt, hsz, z]
    rw [← hp]; rfl
  | succ k =>
    have z : decide (((k + 1 : Nat) : Int) > 0) = true := by simp only [decide_eq_true_eq]; omega
    have w : IntKind.i64.wrap (((k + 1 : Nat) : Int) - 1) = (k : Int) := by rw [IntKind.wrap_i64]; omega
    have hg := ex_get s (k := k + 1) (j := k) hk (Nat.lt_succ_self _)
    have hcmp : ∀ x y : UInt8, ((x.toNat : Int) == (y.toNat : Int)) = (x == y) := fun x y => by
      rw [Bool.eq_iff_iff, beq_iff_eq, beq_iff_eq, ← UInt8.toNat_inj]; omega
    cases hb : (s.data.toList.getD k 0 == b)
    · rw [trN, hb, cond_false] at hp
      simp only [AH.SD, AH.wpOp, AOp.call?, AOp.next?, bstep, AOp.map, Opd.ev, tget, argTm, evs, AV.cells, St.eff, St.put, applyWr, mset, terase, pureE, unAV, intOp, binAV, fill, mget, AH.rowAt, AH.part, retQ, rvs, retV, AH.splice, AH.sliceElems, AH.bytesOf, AH.strOp, AH.bound, AH.addLog, AH.missQ, AH.minmaxAV, AH.wpOpD, AH.readOf, AH.effOf, AH.mapAt, AH.iterAt, Nat.reduceBEq, Nat.reduceAdd, Nat.reduceLT, ↓reduceIte, Nat.reduceEqDiff, Nat.reduceLeDiff, Nat.reduceSub, Nat.reduceMul, Int.reduceSub, Int.reduceToNat, Int.reduceBEq, Int.reduceBNe, Int.reduceLT, Int.reduceGT, Int.reduceLE, Int.reduceGE, Int.reduceNeg, Int.reduceAdd, trSt, hsz, z, w, Int.toNat_natCast, hg, hcmp, hb]
      rw [hp]
      exact ⟨by omega, rfl⟩
    · rw [trN, hb, cond_true] at hp
      simp only [AH.SD, AH.wpOp, AOp.call?, AOp.next?, bstep, AOp.map, Opd.ev, tget, argTm, evs, AV.cells, St.eff, St.put, applyWr, mset, terase, pureE, unAV, intOp, binAV, fill, mget, AH.rowAt, AH.part, retQ, rvs, retV, AH.splice, AH.sliceElems, AH.bytesOf, AH.strOp, AH.bound, AH.addLog, AH.missQ, AH.minmaxAV, AH.wpOpD, AH.readOf, AH.effOf, AH.mapAt, AH.iterAt, Nat.reduceBEq, Nat.reduceAdd, Nat.reduceLT, ↓reduceIte, Nat.reduceEqDiff, Nat.reduceLeDiff, Nat.reduceSub, Nat.reduceMul, Int.reduceSub, Int.reduceToNat, Int.reduceBEq, Int.reduceBNe, Int.reduceLT, Int.reduceGT, Int.reduceLE, Int.reduceGE, Int.reduceNeg, Int.reduceAdd, trSt, hsz, z, w, Int.toNat_natCast, hg, hcmp, hb]
      have e : (s.extract 0 (k + 1)).extract 0 k = s.extract 0 k := by
        rw [ByteArray.extract_extract]; congr 1; omega
      refine ⟨by omega, by omega, ?_⟩
      rw [e]
      refine gc_auto [] [1, 0] [] ?_
      simp only [AH.SD, AH.wpOp, AOp.call?, AOp.next?, bstep, AOp.map, Opd.ev, tget, argTm, evs, AV.cells, St.eff, St.put, applyWr, mset, terase, pureE, unAV, intOp, binAV, fill, mget, AH.rowAt, AH.part, retQ, rvs, retV, AH.splice, AH.sliceElems, AH.bytesOf, AH.strOp, AH.bound, AH.addLog, AH.missQ, AH.minmaxAV, AH.wpOpD, AH.readOf, AH.effOf, AH.mapAt, AH.iterAt, Nat.reduceBEq, Nat.reduceAdd, Nat.reduceLT, ↓reduceIte, Nat.reduceEqDiff, Nat.reduceLeDiff, Nat.reduceSub, Nat.reduceMul, Int.reduceSub, Int.reduceToNat, Int.reduceBEq, Int.reduceBNe, Int.reduceLT, Int.reduceGT, Int.reduceLE, Int.reduceGE, Int.reduceNeg, Int.reduceAdd, AH.PD, heads, distN, AH.inN, posN, packM, packB, packTm, liveB, AV.inB, AV.insB, AV.ren, AV.rens, Blk.ren, Blk.inB, vstep, tput]
      exact ih k ⟨by omega, hp⟩ (Nat.lt_succ_self _)
/-- Where a text begins without its first bytes of one kind; fuel for as many steps as there are bytes. -/
def tlN (s : ByteArray) (b : UInt8) : Nat → Nat → Nat
  | i, 0 => i
  | i, f + 1 => bif s.data.toList.getD i 0 == b then tlN s b (i + 1) f else i
def tlSt (s : ByteArray) (b : UInt8) (i : Nat) : St := ⟨[(1, .int .u8 (b.toNat : Int)), (0, .str (s.extract i s.size))], []⟩
theorem dr_get (s : ByteArray) {i : Nat} (hi : i < s.size) : (s.extract i s.size).data.toList.getD 0 0 = s.data.toList.getD i 0 := by
  rw [Lib.extract_data, List.getD_eq_getElem?_getD, List.getElem?_take_of_lt (by omega), List.getElem?_drop, Nat.add_zero, ← List.getD_eq_getElem?_getD]
theorem trimL_ok (s : ByteArray) (b : UInt8) (hs : okSz s) : Pure S0 77 [.str s, .int .u8 (b.toNat : Int)] (.str (s.extract (tlN s b 0 s.size) s.size)) := by
  have h1 : s.size ≤ 1048576 := hs
  refine fun_sound okF0 Tryd.func77 c77 ?_
  unfold wpF F77
  simp only [AH.SD, AH.wpOp, AOp.call?, AOp.next?, bstep, AOp.map, Opd.ev, tget, argTm, evs, AV.cells, St.eff, St.put, applyWr, mset, terase, pureE, unAV, intOp, binAV, fill, mget, AH.rowAt, AH.part, retQ, rvs, retV, AH.splice, AH.sliceElems, AH.bytesOf, AH.strOp, AH.bound, AH.addLog, AH.missQ, AH.minmaxAV, AH.wpOpD, AH.readOf, AH.effOf, AH.mapAt, AH.iterAt, Nat.reduceBEq, Nat.reduceAdd, Nat.reduceLT, ↓reduceIte, Nat.reduceEqDiff, Nat.reduceLeDiff, Nat.reduceSub, Nat.reduceMul, Int.reduceSub, Int.reduceToNat, Int.reduceBEq, Int.reduceBNe, Int.reduceLT, Int.reduceGT, Int.reduceLE, Int.reduceGE, Int.reduceNeg, Int.reduceAdd]
  refine loop_do [] [1, 0] [] (α := Nat) (fun i => s.size - i) (tlSt s b) (fun i => i ≤ s.size ∧ tlN s b i (s.size - i) = tlN s b 0 s.size) 0 ⟨Nat.zero_le _, rfl⟩ (by simp only [AH.SD, AH.wpOp, AOp.call?, AOp.next?, bstep, AOp.map, Opd.ev, tget, argTm, evs, AV.cells, St.eff, St.put, applyWr, mset, terase, pureE, unAV, intOp, binAV, fill, mget, AH.rowAt, AH.part, retQ, rvs, retV, AH.splice, AH.sliceElems, AH.bytesOf, AH.strOp, AH.bound, AH.addLog, AH.missQ, AH.minmaxAV, AH.wpOpD, AH.readOf, AH.effOf, AH.mapAt, AH.iterAt, Nat.reduceBEq, Nat.reduceAdd, Nat.reduceLT, ↓reduceIte, Nat.reduceEqDiff, Nat.reduceLeDiff, Nat.reduceSub, Nat.reduceMul, Int.reduceSub, Int.reduceToNat, Int.reduceBEq, Int.reduceBNe, Int.reduceLT, Int.reduceGT, Int.reduceLE, Int.reduceGE, Int.reduceNeg, Int.reduceAdd, AH.PD, heads, distN, AH.inN, posN, packM, packB, packTm, liveB, AV.inB, AV.insB, AV.ren, AV.rens, Blk.ren, Blk.inB, vstep, tput, tlSt, ByteArray.extract_zero_size]) ?_
  rintro X i ⟨hi, hp⟩ ih
  have hsz : (s.extract i s.size).size = s.size - i := by rw [ByteArray.size_extract]; omega
  rcases Nat.lt_or_ge i s.size with hlt | hge
  · have z : decide (((s.size - i : Nat) : Int) > 0) = true := by simp only [decide_eq_true_eq]; omega
    have hg := dr_get s hlt
    have hcmp : ∀ x y : UInt8, ((x.toNat : Int) == (y.toNat : Int)) = (x == y) := fun x y => by
      rw [Bool.eq_iff_iff, beq_iff_eq, beq_iff_eq, ← UInt8.toNat_inj]; omega
    have hf : s.size - i = (s.size - (i + 1)) + 1 := by omega
    cases hb : (s.data.toList.getD i 0 == b)
    · rw [hf, tlN, hb, cond_false] at hp
      simp only [AH.SD, AH.wpOp, AOp.call?, AOp.next?, bstep, AOp.map, Opd.ev, tget, argTm, evs, AV.cells, St.eff, St.put, applyWr, mset, terase, pureE, unAV, intOp, binAV, fill, mget, AH.rowAt, AH.part, retQ, rvs, retV, AH.splice, AH.sliceElems, AH.bytesOf, AH.strOp, AH.bound, AH.addLog, AH.missQ, AH.minmaxAV, AH.wpOpD, AH.readOf, AH.effOf, AH.mapAt, AH.iterAt, Nat.reduceBEq, Nat.reduceAdd, Nat.reduceLT, ↓reduceIte, Nat.reduceEqDiff, Nat.reduceLeDiff, Nat.reduceSub, Nat.reduceMul, Int.reduceSub, Int.reduceToNat, Int.reduceBEq, Int.reduceBNe, Int.reduceLT, Int.reduceGT, Int.reduceLE, Int.reduceGE, Int.reduceNeg, Int.reduceAdd, tlSt, hsz, z, hg, hcmp, hb, Int.toNat_zero]
      rw [hp]
      exact ⟨by omega, rfl⟩
    · rw [hf, tlN, hb, cond_true] at hp
      simp only [AH.SD, AH.wpOp, AOp.call?, AOp.next?, bstep, AOp.map, Opd.ev, tget, argTm, evs, AV.cells, St.eff, St.put, applyWr, mset, terase, pureE, unAV, intOp, binAV, fill, mget, AH.rowAt, AH.part, retQ, rvs, retV, AH.splice, AH.sliceElems, AH.bytesOf, AH.strOp, AH.bound, AH.addLog, AH.missQ, AH.minmaxAV, AH.wpOpD, AH.readOf, AH.effOf, AH.mapAt, AH.iterAt, Nat.reduceBEq, Nat.reduceAdd, Nat.reduceLT, ↓reduceIte, Nat.reduceEqDiff, Nat.reduceLeDiff, Nat.reduceSub, Nat.reduceMul, Int.reduceSub, Int.reduceToNat, Int.reduceBEq, Int.reduceBNe, Int.reduceLT, Int.reduceGT, Int.reduceLE, Int.reduceGE, Int.reduceNeg, Int.reduceAdd, tlSt, hsz, z, hg, hcmp, hb, Int.toNat_zero]
      have e : (s.extract i s.size).extract 1 (s.size - i) = s.extract (i + 1) s.size := by
        rw [ByteArray.extract_extract]; congr 1; omega
      refine ⟨by omega, by omega, ?_⟩
      rw [e]
      refine gc_auto [] [1, 0] [] ?_
      simp only [AH.SD, AH.wpOp, AOp.call?, AOp.next?, bstep, AOp.map, Opd.ev, tget, argTm, evs, AV.cells, St.eff, St.put, applyWr, mset, terase, pureE, unAV, intOp, binAV, fill, mget, AH.rowAt, AH.part, retQ, rvs, retV, AH.splice, AH.sliceElems, AH.bytesOf, AH.strOp, AH.bound, AH.addLog, AH.missQ, AH.minmaxAV, AH.wpOpD, AH.readOf, AH.effOf, AH.mapAt, AH.iterAt, Nat.reduceBEq, Nat.reduceAdd, Nat.reduceLT, ↓reduceIte, Nat.reduceEqDiff, Nat.reduceLeDiff, Nat.reduceSub, Nat.reduceMul, Int.reduceSub, Int.reduceToNat, Int.reduceBEq, Int.reduceBNe, Int.reduceLT, Int.reduceGT, Int.reduceLE, Int.reduceGE, Int.reduceNeg, Int.reduceAdd, AH.PD, heads, distN, AH.inN, posN, packM, packB, packTm, liveB, AV.inB, AV.insB, AV.ren, AV.rens, Blk.ren, Blk.inB, vstep, tput]
      exact ih (i + 1) ⟨hlt, hp⟩ (by omega)
  · have z : decide (((s.size - i : Nat) : Int) > 0) = false := by simp only [decide_eq_false_iff_not]; omega
    obtain rfl : i = s.size := by omega
    rw [Nat.sub_self, tlN] at hp
    simp only [AH.SD, AH.wpOp, AOp.call?, AOp.next?, bstep, AOp.map, Opd.ev, tget, argTm, evs, AV.cells, St.eff, St.put, applyWr, mset, terase, pureE, unAV, intOp, binAV, fill, mget, AH.rowAt, AH.part, retQ, rvs, retV, AH.splice, AH.sliceElems, AH.bytesOf, AH.strOp, AH.bound, AH.addLog, AH.missQ, AH.minmaxAV, AH.wpOpD, AH.readOf, AH.effOf, AH.mapAt, AH.iterAt, Nat.reduceBEq, Nat.reduceAdd, Nat.reduceLT, ↓reduceIte, Nat.reduceEqDiff, Nat.reduceLeDiff, Nat.reduceSub, Nat.reduceMul, Int.reduceSub, Int.reduceToNat, Int.reduceBEq, Int.reduceBNe, Int.reduceLT, Int.reduceGT, Int.reduceLE, Int.reduceGE, Int.reduceNeg, Int.reduceAdd, tlSt, hsz, z]
    rw [← hp]
def okTr (x : ByteArray × UInt8) : Prop := okSz x.1
def aU8 : Arg UInt8 where
  enc b := .int .u8 (b.toNat : Int)
  dec v := match v with
    | .int .u8 n => if n = ((UInt8.ofNat n.toNat).toNat : Int) then some (UInt8.ofNat n.toNat) else none
    | _ => none
  ok v b h := by
    split at h
    · split at h
      · rename_i n hn
        simp only [Option.some.injEq] at h
        subst h
        rw [← hn]
      · cases h
    · cases h
  de b := by simp
  flat _ := rfl
theorem aU8_dec {b : UInt8} : aU8.dec (.int .u8 (b.toNat : Int)) = some b := aU8.de b
def trRT : RT := rtC (cC aS (cC aU8 c0)) (fun x => okSz x.1) fun x => .str (x.1.extract 0 (trN x.1 x.2.1 x.1.size))
theorem trRT_ok : ReadF S0 78 trRT := rtC_ok (fun x h => trimR_ok x.1 x.2.1 h) fun _ => rfl
def trLT : RT := rtC (cC aS (cC aU8 c0)) (fun x => okSz x.1) fun x => .str (x.1.extract (tlN x.1 x.2.1 0 x.1.size) x.1.size)
theorem trLT_ok : ReadF S0 77 trLT := rtC_ok (fun x h => trimL_ok x.1 x.2.1 h) fun _ => rfl
theorem trRT_p {s : ByteArray} {b : UInt8} {M : Nat → Option Blk} (h : okSz s) : trRT [.str s, .int .u8 (b.toNat : Int)] M = some (.str (s.extract 0 (trN s b s.size)), []) := by
  simp only [trRT, rtC_p, cC_dec, aS_dec, aU8_dec, c0_dec, pairO_some]
  exact rtC1_eq h
theorem trLT_p {s : ByteArray} {b : UInt8} {M : Nat → Option Blk} (h : okSz s) : trLT [.str s, .int .u8 (b.toNat : Int)] M = some (.str (s.extract (tlN s b 0 s.size) s.size), []) := by
  simp only [trLT, rtC_p, cC_dec, aS_dec, aU8_dec, c0_dec, pairO_some]
  exact rtC1_eq h
def trim0 (s : ByteArray) : ByteArray := bif s.toList == (⟨#[]⟩ : ByteArray).toList then s else (s.extract 0 (trN s 0 s.size)).extract (tlN (s.extract 0 (trN s 0 s.size)) 0 0 (s.extract 0 (trN s 0 s.size)).size) (s.extract 0 (trN s 0 s.size)).size
theorem okTrim : CtxOK S0 (ctxU S0 [(78, trRT), (77, trLT)] []) := ctxU_ok ⟨trRT_ok, trLT_ok, trivial⟩ trivial mixed
theorem trim_ok (s : ByteArray) (hs : okSz s) : Pure S0 76 [.str s, .str ⟨#[0]⟩] (.str (trim0 s)) := by
  refine fun_sound okTrim Tryd.func76 c76 ?_
  unfold wpF F76
  have h2 : okSz (s.extract 0 (trN s 0 s.size)) := by
    have h1 : s.size ≤ 1048576 := hs
    show (s.extract 0 (trN s 0 s.size)).size ≤ 1048576
    rw [ByteArray.size_extract]; omega
  have h0 : ((⟨#[0]⟩ : ByteArray).toList == (⟨#[]⟩ : ByteArray).toList) = false := by decide +kernel
  have h3 : (⟨#[0]⟩ : ByteArray).size = 1 := rfl
  have hb0 : (⟨#[0]⟩ : ByteArray).data.toList.getD 0 0 = (0 : UInt8) := rfl
  have hd0 : decide (((0 : UInt8).toNat : Int) < 128) = true := by decide
  have e1 := fun M => trRT_p (s := s) (b := 0) (M := M) hs
  have e2 := fun M => trLT_p (b := 0) (M := M) h2
  cases he : (s.toList == (⟨#[]⟩ : ByteArray).toList)
  · simp only [AH.SD, AH.wpOp, AOp.call?, AOp.next?, bstep, AOp.map, Opd.ev, tget, argTm, evs, AV.cells, St.eff, St.put, applyWr, mset, terase, pureE, unAV, intOp, binAV, fill, mget, AH.rowAt, AH.part, retQ, rvs, retV, AH.splice, AH.sliceElems, AH.bytesOf, AH.strOp, AH.bound, AH.addLog, AH.missQ, AH.minmaxAV, AH.wpOpD, AH.readOf, AH.effOf, AH.mapAt, AH.iterAt, Nat.reduceBEq, Nat.reduceAdd, Nat.reduceLT, ↓reduceIte, Nat.reduceEqDiff, Nat.reduceLeDiff, Nat.reduceSub, Nat.reduceMul, Int.reduceSub, Int.reduceToNat, Int.reduceBEq, Int.reduceBNe, Int.reduceLT, Int.reduceGT, Int.reduceLE, Int.reduceGE, Int.reduceNeg, Int.reduceAdd, he, h0, h3, trim0, hb0, hd0, e1, e2]
    repeat (refine ⟨by first | rfl | decide | omega | (simp only [List.length_map, and_true]; omega) | (simp only [List.length_map, List.length_set, and_true]; omega), ?_⟩)
    trivial
  · simp only [AH.SD, AH.wpOp, AOp.call?, AOp.next?, bstep, AOp.map, Opd.ev, tget, argTm, evs, AV.cells, St.eff, St.put, applyWr, mset, terase, pureE, unAV, intOp, binAV, fill, mget, AH.rowAt, AH.part, retQ, rvs, retV, AH.splice, AH.sliceElems, AH.bytesOf, AH.strOp, AH.bound, AH.addLog, AH.missQ, AH.minmaxAV, AH.wpOpD, AH.readOf, AH.effOf, AH.mapAt, AH.iterAt, Nat.reduceBEq, Nat.reduceAdd, Nat.reduceLT, ↓reduceIte, Nat.reduceEqDiff, Nat.reduceLeDiff, Nat.reduceSub, Nat.reduceMul, Int.reduceSub, Int.reduceToNat, Int.reduceBEq, Int.reduceBNe, Int.reduceLT, Int.reduceGT, Int.reduceLE, Int.reduceGE, Int.reduceNeg, Int.reduceAdd, he, trim0]
def trimT : RT := rtC (cC aS (cC aS c0)) (fun x => okSz x.1 ∧ x.2.1 = ⟨#[0]⟩) fun x => .str (trim0 x.1)
theorem trimT_ok : ReadF S0 76 trimT := rtC_ok (fun x h => by
  obtain ⟨s, c, u⟩ := x
  obtain ⟨h1, h2⟩ := h
  simp only at h1 h2
  subst h2
  exact trim_ok s h1) fun _ => rfl
theorem trimT_p {s : ByteArray} {M : Nat → Option Blk} (h : okSz s) : trimT [.str s, .str ⟨#[0]⟩] M = some (.str (trim0 s), []) := by
  simp only [trimT, rtC_p, cC_dec, aS_dec, c0_dec, pairO_some]
  exact rtC1_eq ⟨h, rfl⟩
/-- Is what trimming leaves nothing? Just where there is nothing but zeros. -/
def allZ (s : ByteArray) : Prop := ∀ b ∈ s.data.toList, b = 0
theorem trN_zero (s : ByteArray) : ∀ k, (∀ j, j < k → s.data.toList.getD j 0 = 0) → trN s 0 k = 0
  | 0, _ => rfl
  | k + 1, h => by
    rw [trN, h k (Nat.lt_succ_self _)]
    simp only [beq_self_eq_true, cond_true]
    exact trN_zero s k fun j hj => h j (Nat.lt_succ_of_lt hj)
theorem trN_last (s : ByteArray) : ∀ k, trN s 0 k = 0 ∨ ∃ j, trN s 0 k = j + 1 ∧ j < k ∧ s.data.toList.getD j 0 ≠ 0
  | 0 => .inl rfl
  | k + 1 => by
    unfold trN
    cases h : s.data.toList.getD k 0 == 0
    · exact .inr ⟨k, rfl, Nat.lt_succ_self _, by simpa using h⟩
    · simp only [cond_true]
      rcases trN_last s k with q | ⟨j, q1, q2, q3⟩
      · exact .inl q
      · exact .inr ⟨j, q1, Nat.lt_succ_of_lt q2, q3⟩
end Go.Proofs.YthapdikdeoeplaaDoor.H6
end

section
open Go AH
set_option linter.unusedSimpArgs false
set_option maxRecDepth 100000
namespace Go.Proofs.YthapdikdeoeplaaDoor.H6
/-- A text's bytes as a number. -/
def valS (s : ByteArray) : Int := match s.data.toList with
  | [a, b] => val2 a b
  | [a, b, c, d] => val4 a b c d
  | _ => 0
def okVal (s : ByteArray) : Prop := s.size = 2 ∨ s.size = 4
instance (s : ByteArray) : Decidable (okVal s) := by unfold okVal; infer_instance
theorem value_ok (s : ByteArray) (h : okVal s) : Pure S0 75 [.str s] (.int .i64 (valS s)) := by
  obtain ⟨⟨l⟩⟩ := s
  rcases h with h | h
  · match l, h with
    | [a, b], _ => exact value2 a b
  · match l, h with
    | [a, b, c, d], _ => exact value4 a b c d
def valT : RT := rtC (cC aS c0) (fun x => okVal x.1) fun x => .int .i64 (valS x.1)
theorem valT_ok : ReadF S0 75 valT := rtC_ok (fun x h => value_ok x.1 h) fun _ => rfl
theorem valT_p {s : ByteArray} {M : Nat → Option Blk} (h : okVal s) : valT [.str s] M = some (.int .i64 (valS s), []) := by
  simp only [valT, rtC_p, cC_dec, aS_dec, c0_dec, pairO_some]
  exact rtC1_eq h
theorem valS_in {s : ByteArray} (h : okVal s) : 0 ≤ valS s ∧ valS s < 4294967296 := by
  obtain ⟨⟨l⟩⟩ := s
  rcases h with h | h
  · match l, h with
    | [a, b], _ =>
      have ha := a.toNat_lt; have hb := b.toNat_lt
      show 0 ≤ val2 a b ∧ val2 a b < 4294967296
      unfold val2; omega
  · match l, h with
    | [a, b, c, d], _ =>
      have ha := a.toNat_lt; have hb := b.toNat_lt; have hc := c.toNat_lt; have hd := d.toNat_lt
      show 0 ≤ val4 a b c d ∧ val4 a b c d < 4294967296
      unfold val4; omega

def datT (s : ByteArray) (k : Nat) : ByteArray := s.extract 8 (8 + k)
def datQ (s : ByteArray) (k : Nat) : Bool :=
  bif (bif ((sizeN (datT s k).size * 56 : Nat) : Int) == (s.size : Int) then (trim0 (s.extract (8 + k) s.size)).toList == (⟨#[]⟩ : ByteArray).toList else false) then valS (s.extract 4 8) == IntKind.i64.wrap (sumZ (datT s k)) else false
/-- The text of bodies, and whether there is one. -/
def datZ (s : ByteArray) : ByteArray × Bool :=
  bif decide (valS (s.extract 0 4) > 6000) then (⟨#[]⟩, false) else bif decide (valS (s.extract 0 4) > (s.size : Int) - 8) then (⟨#[]⟩, false) else
    (datT s (valS (s.extract 0 4)).toNat, datQ s (valS (s.extract 0 4)).toNat)
theorem okDat : CtxOK S0 (ctxU S0 [(75, valT), (39, sizeT), (76, trimT), (58, sumT)] []) := ctxU_ok ⟨valT_ok, sizeT_ok, trimT_ok, sumT_ok, trivial⟩ trivial mixed
theorem data_ok (s : ByteArray) (h8 : 8 ≤ s.size) (hs : okSz s) : Pure S0 71 [.str s] (.tup [.str (datZ s).1, .bool (datZ s).2]) := by
  have h1 : s.size ≤ 1048576 := hs
  have hv0 : okVal (s.extract 0 4) := .inr (by rw [ByteArray.size_extract]; omega)
  have hv4 : okVal (s.extract 4 8) := .inr (by rw [ByteArray.size_extract]; omega)
  have hin := valS_in hv0
  refine fun_sound okDat Tryd.func71 c71 ?_
  unfold wpF F71
  have w8 : IntKind.i64.wrap ((s.size : Int) - 8) = (s.size : Int) - 8 := by rw [IntKind.wrap_i64]; omega
  cases d1 : decide (valS (s.extract 0 4) > 6000)
  · cases d2 : decide (valS (s.extract 0 4) > (s.size : Int) - 8)
    · simp only [decide_eq_false_iff_not] at d1 d2
      obtain ⟨k, hk⟩ := Int.eq_ofNat_of_zero_le hin.1
      rw [hk] at d1 d2
      have d1' : decide ((k : Int) > 6000) = false := by simp only [decide_eq_false_iff_not]; omega
      have d2' : decide ((k : Int) > (s.size : Int) - 8) = false := by simp only [decide_eq_false_iff_not]; omega
      have wk : IntKind.i64.wrap (8 + (k : Int)) = ((8 + k : Nat) : Int) := by rw [IntKind.wrap_i64]; omega
      have ht : okSz (s.extract 8 (8 + k)) := by show (s.extract 8 (8 + k)).size ≤ 1048576; rw [ByteArray.size_extract]; omega
      have hr : okSz (s.extract (8 + k) s.size) := by show (s.extract (8 + k) s.size).size ≤ 1048576; rw [ByteArray.size_extract]; omega
      have hsn : sizeN (s.extract 8 (8 + k)).size ≤ 200 := by unfold sizeN; rw [ByteArray.size_extract]; omega
      have w56 : IntKind.i64.wrap (((sizeN (s.extract 8 (8 + k)).size : Nat) : Int) * 56) = ((sizeN (s.extract 8 (8 + k)).size * 56 : Nat) : Int) := by rw [IntKind.wrap_i64]; omega
      cases q1 : (((sizeN (s.extract 8 (8 + k)).size * 56 : Nat) : Int) == (s.size : Int))
      · simp only [AH.SD, AH.wpOp, AOp.call?, AOp.next?, bstep, AOp.map, Opd.ev, tget, argTm, evs, AV.cells, St.eff, St.put, applyWr, mset, terase, pureE, unAV, intOp, binAV, fill, mget, AH.rowAt, AH.part, retQ, rvs, retV, AH.splice, AH.sliceElems, AH.bytesOf, AH.strOp, AH.bound, AH.addLog, AH.missQ, AH.minmaxAV, AH.wpOpD, AH.readOf, AH.effOf, AH.mapAt, AH.iterAt, Nat.reduceBEq, Nat.reduceAdd, Nat.reduceLT, ↓reduceIte, Nat.reduceEqDiff, Nat.reduceLeDiff, Nat.reduceSub, Nat.reduceMul, Int.reduceSub, Int.reduceToNat, Int.reduceBEq, Int.reduceBNe, Int.reduceLT, Int.reduceGT, Int.reduceLE, Int.reduceGE, Int.reduceNeg, Int.reduceAdd, valT_p hv0, hk, d1', d2', w8, wk, Int.toNat_natCast, sizeT_p, rtC1, ht, if_true, w56, q1, datZ, datQ, datT]
        repeat (refine ⟨by first | rfl | decide | omega | (simp only [List.length_map, and_true]; omega) | (simp only [List.length_map, List.length_set, and_true]; omega), ?_⟩)
        trivial
      · cases q2 : ((trim0 (s.extract (8 + k) s.size)).toList == (⟨#[]⟩ : ByteArray).toList)
        · simp only [AH.SD, AH.wpOp, AOp.call?, AOp.next?, bstep, AOp.map, Opd.ev, tget, argTm, evs, AV.cells, St.eff, St.put, applyWr, mset, terase, pureE, unAV, intOp, binAV, fill, mget, AH.rowAt, AH.part, retQ, rvs, retV, AH.splice, AH.sliceElems, AH.bytesOf, AH.strOp, AH.bound, AH.addLog, AH.missQ, AH.minmaxAV, AH.wpOpD, AH.readOf, AH.effOf, AH.mapAt, AH.iterAt, Nat.reduceBEq, Nat.reduceAdd, Nat.reduceLT, ↓reduceIte, Nat.reduceEqDiff, Nat.reduceLeDiff, Nat.reduceSub, Nat.reduceMul, Int.reduceSub, Int.reduceToNat, Int.reduceBEq, Int.reduceBNe, Int.reduceLT, Int.reduceGT, Int.reduceLE, Int.reduceGE, Int.reduceNeg, Int.reduceAdd, valT_p hv0, hk, d1', d2', w8, wk, Int.toNat_natCast, sizeT_p, rtC1, ht, if_true, w56, q1, trimT_p hr, q2, datZ, datQ, datT]
          repeat (refine ⟨by first | rfl | decide | omega | (simp only [List.length_map, and_true]; omega) | (simp only [List.length_map, List.length_set, and_true]; omega), ?_⟩)
          trivial
        · simp only [AH.SD, AH.wpOp, AOp.call?, AOp.next?, bstep, AOp.map, Opd.ev, tget, argTm, evs, AV.cells, St.eff, St.put, applyWr, mset, terase, pureE, unAV, intOp, binAV, fill, mget, AH.rowAt, AH.part, retQ, rvs, retV, AH.splice, AH.sliceElems, AH.bytesOf, AH.strOp, AH.bound, AH.addLog, AH.missQ, AH.minmaxAV, AH.wpOpD, AH.readOf, AH.effOf, AH.mapAt, AH.iterAt, Nat.reduceBEq, Nat.reduceAdd, Nat.reduceLT, ↓reduceIte, Nat.reduceEqDiff, Nat.reduceLeDiff, Nat.reduceSub, Nat.reduceMul, Int.reduceSub, Int.reduceToNat, Int.reduceBEq, Int.reduceBNe, Int.reduceLT, Int.reduceGT, Int.reduceLE, Int.reduceGE, Int.reduceNeg, Int.reduceAdd, valT_p hv0, valT_p hv4, hk, d1', d2', w8, wk, Int.toNat_natCast, sizeT_p, rtC1, ht, if_true, w56, q1, trimT_p hr, q2, sumT_p, datZ, datQ, datT]
          repeat (refine ⟨by first | rfl | decide | omega | (simp only [List.length_map, and_true]; omega) | (simp only [List.length_map, List.length_set, and_true]; omega), ?_⟩)
          trivial
    · simp only [AH.SD, AH.wpOp, AOp.call?, AOp.next?, bstep, AOp.map, Opd.ev, tget, argTm, evs, AV.cells, St.eff, St.put, applyWr, mset, terase, pureE, unAV, intOp, binAV, fill, mget, AH.rowAt, AH.part, retQ, rvs, retV, AH.splice, AH.sliceElems, AH.bytesOf, AH.strOp, AH.bound, AH.addLog, AH.missQ, AH.minmaxAV, AH.wpOpD, AH.readOf, AH.effOf, AH.mapAt, AH.iterAt, Nat.reduceBEq, Nat.reduceAdd, Nat.reduceLT, ↓reduceIte, Nat.reduceEqDiff, Nat.reduceLeDiff, Nat.reduceSub, Nat.reduceMul, Int.reduceSub, Int.reduceToNat, Int.reduceBEq, Int.reduceBNe, Int.reduceLT, Int.reduceGT, Int.reduceLE, Int.reduceGE, Int.reduceNeg, Int.reduceAdd, valT_p hv0, d1, d2, w8, datZ]
      repeat (refine ⟨by first | rfl | decide | omega | (simp only [List.length_map, and_true]; omega) | (simp only [List.length_map, List.length_set, and_true]; omega), ?_⟩)
      trivial
  · simp only [AH.SD, AH.wpOp, AOp.call?, AOp.next?, bstep, AOp.map, Opd.ev, tget, argTm, evs, AV.cells, St.eff, St.put, applyWr, mset, terase, pureE, unAV, intOp, binAV, fill, mget, AH.rowAt, AH.part, retQ, rvs, retV, AH.splice, AH.sliceElems, AH.bytesOf, AH.strOp, AH.bound, AH.addLog, AH.missQ, AH.minmaxAV, AH.wpOpD, AH.readOf, AH.effOf, AH.mapAt, AH.iterAt, Nat.reduceBEq, Nat.reduceAdd, Nat.reduceLT, ↓reduceIte, Nat.reduceEqDiff, Nat.reduceLeDiff, Nat.reduceSub, Nat.reduceMul, Int.reduceSub, Int.reduceToNat, Int.reduceBEq, Int.reduceBNe, Int.reduceLT, Int.reduceGT, Int.reduceLE, Int.reduceGE, Int.reduceNeg, Int.reduceAdd, valT_p hv0, d1, datZ]
    repeat (refine ⟨by first | rfl | decide | omega | (simp only [List.length_map, and_true]; omega) | (simp only [List.length_map, List.length_set, and_true]; omega), ?_⟩)
    trivial
def datRT : RT := rtC (cC aS c0) (fun x => 8 ≤ x.1.size ∧ okSz x.1) fun x => .tup [.str (datZ x.1).1, .bool (datZ x.1).2]
theorem datRT_ok : ReadF S0 71 datRT := rtC_ok (fun x h => data_ok x.1 h.1 h.2) fun _ => rfl
theorem datRT_p {s : ByteArray} {M : Nat → Option Blk} (h8 : 8 ≤ s.size) (hs : okSz s) : datRT [.str s] M = some (.tup [.str (datZ s).1, .bool (datZ s).2], []) := by
  simp only [datRT, rtC_p, cC_dec, aS_dec, c0_dec, pairO_some]
  exact rtC1_eq ⟨h8, hs⟩
end Go.Proofs.YthapdikdeoeplaaDoor.H6
end

section
open Go AH
set_option linter.unusedSimpArgs false
set_option maxRecDepth 100000
namespace Go.Proofs.YthapdikdeoeplaaDoor.H6
def tailE (s : ByteArray) : ByteArray := s.extract 56 64
def firB (seq n : Int) (e : ByteArray) : Bool :=
  bif (bif (bif (bif decide (seq ≥ 1) then decide (seq ≤ 2147483647) else false) then decide (n ≥ 1) else false) then decide (n ≤ 108) else false) then e.toList == (endS seq 0 n).toList else false
def firS (s : ByteArray) : Int × Int × Bool :=
  bif ((s.size : Int) != 64) then (0, 0, false) else (valS ((tailE s).extract 0 4), valS ((tailE s).extract 6 8), firB (valS ((tailE s).extract 0 4)) (valS ((tailE s).extract 6 8)) (tailE s))
/-- What the end of the first block tells. -/
def firZ : List ByteArray → Int × Int × Bool
  | [] => (0, 0, false)
  | s :: _ => firS s
def firA (x : Int × Int × Bool) : AV := .tup [.int .i64 x.1, .int .i64 x.2.1, .bool x.2.2]
theorem okFir : CtxOK S0 (ctxU S0 [(75, valT), (59, endT)] []) := ctxU_ok ⟨valT_ok, endT_ok, trivial⟩ trivial mixed
set_option maxHeartbeats 4000000 in
theorem first_ok (l : List ByteArray) (hl : l.length ≤ 1048576) : CallA1 S0 68 [.slc 0 0 l.length none] [some (.row true 1 (l.map strC))] fun r _ => r = firA (firZ l) := by
  refine fun_sound okFir Tryd.func68 c68 ?_
  unfold wpF F68
  cases l with
  | nil =>
    simp only [AH.SD, AH.wpOp, AOp.call?, AOp.next?, bstep, AOp.map, Opd.ev, tget, argTm, evs, AV.cells, St.eff, St.put, applyWr, mset, terase, pureE, unAV, intOp, binAV, fill, mget, AH.rowAt, AH.part, retQ, rvs, retV, AH.splice, AH.sliceElems, AH.bytesOf, AH.strOp, AH.bound, AH.addLog, AH.missQ, AH.minmaxAV, AH.wpOpD, AH.readOf, AH.effOf, AH.mapAt, AH.iterAt, Nat.reduceBEq, Nat.reduceAdd, Nat.reduceLT, ↓reduceIte, Nat.reduceEqDiff, Nat.reduceLeDiff, Nat.reduceSub, Nat.reduceMul, Int.reduceSub, Int.reduceToNat, Int.reduceBEq, Int.reduceBNe, Int.reduceLT, Int.reduceGT, Int.reduceLE, Int.reduceGE, Int.reduceNeg, Int.reduceAdd, List.map_nil, firZ, firA]
    repeat (refine ⟨by first | rfl | decide | omega | (simp only [List.length_map, and_true]; omega) | (simp only [List.length_map, List.length_set, and_true]; omega), ?_⟩)
  | cons s r =>
    have z : (((r.length + 1 : Nat) : Int) == 0) = false := by simp; omega
    cases h64 : ((s.size : Int) != 64)
    · have hs0 : (s.size : Int) = 64 := by simpa using h64
      have hs : s.size = 64 := by omega
      have hz : (tailE s).size = 8 := by rw [tailE, ByteArray.size_extract]; omega
      have v1 : okVal ((tailE s).extract 0 4) := .inr (by rw [ByteArray.size_extract]; omega)
      have v2 : okVal ((tailE s).extract 6 8) := .inl (by rw [ByteArray.size_extract]; omega)
      have et : s.extract 56 64 = tailE s := rfl
      have p1 := fun M => valT_p (M := M) v1
      have p2 := fun M => valT_p (M := M) v2
      generalize hseq : valS ((tailE s).extract 0 4) = seq at *
      generalize hn : valS ((tailE s).extract 6 8) = n at *
      cases c1 : decide (seq ≥ 1) <;> cases c2 : decide (seq ≤ 2147483647) <;> cases c3 : decide (n ≥ 1) <;> cases c4 : decide (n ≤ 108)
      all_goals
        simp only [AH.SD, AH.wpOp, AOp.call?, AOp.next?, bstep, AOp.map, Opd.ev, tget, argTm, evs, AV.cells, St.eff, St.put, applyWr, mset, terase, pureE, unAV, intOp, binAV, fill, mget, AH.rowAt, AH.part, retQ, rvs, retV, AH.splice, AH.sliceElems, AH.bytesOf, AH.strOp, AH.bound, AH.addLog, AH.missQ, AH.minmaxAV, AH.wpOpD, AH.readOf, AH.effOf, AH.mapAt, AH.iterAt, Nat.reduceBEq, Nat.reduceAdd, Nat.reduceLT, ↓reduceIte, Nat.reduceEqDiff, Nat.reduceLeDiff, Nat.reduceSub, Nat.reduceMul, Int.reduceSub, Int.reduceToNat, Int.reduceBEq, Int.reduceBNe, Int.reduceLT, Int.reduceGT, Int.reduceLE, Int.reduceGE, Int.reduceNeg, Int.reduceAdd, List.map_cons, strC_eq, z, h64, hs, et, hz, p1, p2, c1, c2, c3, c4, endT_p, firZ, firS, firA, firB, hseq, hn]
        repeat (refine ⟨by first | rfl | decide | omega | (simp only [List.length_map, and_true]; omega) | (simp only [List.length_map, List.length_set, and_true]; omega), ?_⟩)
        trivial
    · simp only [AH.SD, AH.wpOp, AOp.call?, AOp.next?, bstep, AOp.map, Opd.ev, tget, argTm, evs, AV.cells, St.eff, St.put, applyWr, mset, terase, pureE, unAV, intOp, binAV, fill, mget, AH.rowAt, AH.part, retQ, rvs, retV, AH.splice, AH.sliceElems, AH.bytesOf, AH.strOp, AH.bound, AH.addLog, AH.missQ, AH.minmaxAV, AH.wpOpD, AH.readOf, AH.effOf, AH.mapAt, AH.iterAt, Nat.reduceBEq, Nat.reduceAdd, Nat.reduceLT, ↓reduceIte, Nat.reduceEqDiff, Nat.reduceLeDiff, Nat.reduceSub, Nat.reduceMul, Int.reduceSub, Int.reduceToNat, Int.reduceBEq, Int.reduceBNe, Int.reduceLT, Int.reduceGT, Int.reduceLE, Int.reduceGE, Int.reduceNeg, Int.reduceAdd, List.map_cons, strC_eq, z, h64, firZ, firS, firA]
      repeat (refine ⟨by first | rfl | decide | omega | (simp only [List.length_map, and_true]; omega) | (simp only [List.length_map, List.length_set, and_true]; omega), ?_⟩)
      trivial
def firT : RT := rt1 1 cStr c0 fun l _ => firA (firZ l)
theorem firT_ok : ReadF S0 68 firT := rt1_ok errs0 fun l _ h => ⟨rfl, first_ok l h⟩
theorem firT_p {i n : Nat} {p : Option Nat} {M : Nat → Option Blk} : firT [.slc i 0 n p] M = rt1Q 1 cStr (fun l (_ : Unit) => firA (firZ l)) n i (M i) (some ()) := rfl
theorem firT_e {l : List ByteArray} {i : Nat} {ro : Bool} (h : l.length ≤ 1048576) : rt1Q 1 cStr (fun l (_ : Unit) => firA (firZ l)) l.length i (some (.row ro 1 (l.map strC))) (some ()) = some (firA (firZ l), [i]) := rt1Q_eq (c := cStr) h
end Go.Proofs.YthapdikdeoeplaaDoor.H6
end

section
open Go AH
set_option linter.unusedSimpArgs false
set_option maxRecDepth 100000
namespace Go.Proofs.YthapdikdeoeplaaDoor.H6
/-- The fault that tells of a block. -/
def frmS : ByteArray := ⟨#[102, 114, 97, 109, 101]⟩
def wrM (i : Int) : Mem := [some (.row false 3 [[.str frmS, .int .i64 i, .err 4]])]
def wrA : AV := .ifc 121 (.ptr 0 0 0)
theorem wrong_ok (i : Int) : CallA1 S0 69 [.int .i64 i] [] fun r m => r = wrA ∧ m = wrM i := by
  refine fun_sound okF0 Tryd.func69 c69 ?_
  unfold wpF F69
  simp only [AH.SD, AH.wpOp, AOp.call?, AOp.next?, bstep, AOp.map, Opd.ev, tget, argTm, evs, AV.cells, St.eff, St.put, applyWr, mset, terase, pureE, unAV, intOp, binAV, fill, mget, AH.rowAt, AH.part, retQ, rvs, retV, AH.splice, AH.sliceElems, AH.bytesOf, AH.strOp, AH.bound, AH.addLog, AH.missQ, AH.minmaxAV, AH.wpOpD, AH.readOf, AH.effOf, AH.mapAt, AH.iterAt, Nat.reduceBEq, Nat.reduceAdd, Nat.reduceLT, ↓reduceIte, Nat.reduceEqDiff, Nat.reduceLeDiff, Nat.reduceSub, Nat.reduceMul, Int.reduceSub, Int.reduceToNat, Int.reduceBEq, Int.reduceBNe, Int.reduceLT, Int.reduceGT, Int.reduceLE, Int.reduceGE, Int.reduceNeg, Int.reduceAdd, AH.PD, heads, distN, AH.inN, posN, packM, packB, packTm, liveB, AV.inB, AV.insB, AV.ren, AV.rens, Blk.ren, Blk.inB, vstep, tput, vw, shift, newOnes, rowsM, blkIn, rwB, @flat_lts, AV.lt, AV.lts, Nat.sub_self, AH.rtO_eq, AH.rtO2_eq, AH.rtO2_none, AH.etO_eq, AH.etO2_eq, AH.etO2_none, AH.useO_some, AH.rtElse_eq, AH.elseO_some, AH.elseO_none, AH.etN_eq, Option.bind_some, Option.bind_none, AH.pairO_some, AH.pairO_none, AH.cC_dec, AH.cC_nil, AH.c0_dec, AH.c0_dec1, AH.aI_dec, AH.aS_dec, AH.aB_dec, AH.aNil_dec, AH.aNil_ptr, Option.map_none, effS, wrS, newS, backNo, AH.isIn, AH.posOf, AH.rwB, List.all_cons, List.all_nil, List.getElem?_cons_zero, List.getElem?_cons_succ, List.getElem?_nil, AH.appE_some, List.contains_cons, List.contains_nil, Nat.add_zero, wrM, wrA, frmS]
def wrT : ET := etN (cC (aI .i64) c0) fun x => some (wrA, wrM x.1)
theorem wrT_ok : EffF S0 69 wrT := etN_ok fun x v m' h => by
  simp only [Option.some.injEq, Prod.mk.injEq] at h
  obtain ⟨rfl, rfl⟩ := h
  exact ⟨rfl, wrong_ok x.1⟩
theorem wrT_eq {i : Int} {M : Nat → Option Blk} {n : Nat} : wrT [.int .i64 i] M n = some (effS [] n wrA (wrM i), 1) := by
  simp only [wrT, etN_eq, cC_dec, aI_dec, c0_dec, pairO_some, Option.bind_some, useO_some]; rfl
end Go.Proofs.YthapdikdeoeplaaDoor.H6
end

section
open Go AH
namespace Go.Proofs.YthapdikdeoeplaaDoor.H6
-- quitrent/frame.joined
def F70 : AFun := ⟨47, 3, [.tmp 6, .tmp 7], (.seq (.reg [ ⟨(some 6), none, .mov (.c (.str ⟨#[]⟩))⟩, ⟨(some 7), none, .mov (.c (.int .i64 0))⟩]) (.seq (.reg [ ⟨(some 8), none, .box 2 (.c (.agg [.nilp, .nils]))⟩]) (.seq (.seq (.reg [ ⟨(some 10), none, .mov (.t 2)⟩, ⟨(some 11), none, .mov (.c (.int .i64 0))⟩]) (.block 0 (.loop (.seq (.reg [ ⟨(some 12), none, .ibin .lss (.t 11) (.t 10)⟩]) (.seq (.cond (.t 12) .skip (.exit 0)) (.seq (.block 1 (.seq (.reg [ ⟨(some 13), none, .mov (.t 11)⟩, ⟨(some 9), none, .mov (.t 13)⟩]) (.seq (.seq (.draw [ ⟨(some 14), none, .mov (.t 9)⟩, ⟨(some 15), none, .mov (.t 0)⟩, ⟨(some 16), none, .len .sl (.t 15)⟩, ⟨(some 17), none, .ibin .geq (.t 14) (.t 16)⟩, ⟨(some 18), none, .mov (.t 17)⟩, ⟨(some 19), (some (18, false)), .mov (.t 0)⟩, ⟨(some 20), (some (18, false)), .mov (.t 9)⟩, ⟨(some 21), (some (18, false)), .iaddrSl 1 (.t 19) (.t 20)⟩, ⟨(some 22), (some (18, false)), .load false 1 (.t 21)⟩, ⟨(some 23), (some (18, false)), .len .str (.t 22)⟩, ⟨(some 24), (some (18, false)), .ibin .neq (.t 23) (.c (.int .i64 64))⟩, ⟨(some 25), none, .pick (.t 18) (.c (.bool true)) (.t 24)⟩, ⟨(some 26), none, .mov (.t 25)⟩, ⟨(some 27), (some (26, false)), .mov (.t 0)⟩, ⟨(some 28), (some (26, false)), .mov (.t 9)⟩, ⟨(some 29), (some (26, false)), .iaddrSl 1 (.t 27) (.t 28)⟩, ⟨(some 30), (some (26, false)), .load false 1 (.t 29)⟩, ⟨(some 31), (some (26, false)), .sliceStr (.t 30) (some (.c (.int .i64 56))) none⟩, ⟨(some 32), (some (26, false)), .mov (.t 1)⟩, ⟨(some 33), (some (26, false)), .mov (.t 9)⟩, ⟨(some 34), (some (26, false)), .mov (.t 2)⟩, ⟨(some 35), (some (26, false)), .call (.c (.fn 59 [] [])) [(.t 32), (.t 33), (.t 34)]⟩, ⟨(some 36), (some (26, false)), .ibin .neq (.t 31) (.t 35)⟩, ⟨(some 37), none, .pick (.t 26) (.c (.bool true)) (.t 36)⟩] [[], [], [1], [0, 2, 1], [3, 0, 2, 1], [4, 3, 0, 2, 1], [4, 3, 0, 2, 1], [5, 6, 4, 3, 0, 2, 1], [7, 4, 5, 6, 3, 0, 2, 1], [8, 4, 7, 5, 6, 3, 0, 2, 1], [9, 4, 8, 7, 5, 6, 3, 0, 2, 1], [4, 10, 3, 0, 2, 1, 9, 8, 7, 5, 6], [11, 4, 10, 3, 0, 2, 1, 9, 8, 7, 5, 6], [12, 11, 4, 10, 3, 0, 2, 1, 9, 8, 7, 5, 6], [12, 11, 4, 10, 3, 0, 2, 1, 9, 8, 7, 5, 6], [13, 14, 12, 11, 4, 10, 3, 0, 2, 1, 9, 8, 7, 5, 6], [15, 12, 13, 14, 11, 4, 10, 3, 0, 2, 1, 9, 8, 7, 5, 6], [16, 12, 15, 13, 14, 11, 4, 10, 3, 0, 2, 1, 9, 8, 7, 5, 6], [12, 11, 4, 10, 3, 0, 2, 1, 9, 8, 7, 5, 6], [12, 11, 4, 10, 3, 0, 2, 1, 9, 8, 7, 5, 6], [12, 11, 4, 10, 3, 0, 2, 1, 9, 8, 7, 5, 6], [18, 19, 20, 12, 11, 4, 10, 3, 0, 2, 1, 9, 8, 7, 5, 6], [17, 21, 12, 16, 15, 13, 14, 11, 4, 10, 3, 0, 2, 1, 9, 8, 7, 5, 6, 18, 19, 20], [12, 22, 11, 4, 10, 3, 0, 2, 1, 9, 8, 7, 5, 6, 17, 21, 16, 15, 13, 14, 18, 19, 20]]) (.cond (.t 37) (.seq (.reg [ ⟨(some 38), none, .mov (.t 9)⟩, ⟨(some 6), none, .mov (.c (.str ⟨#[]⟩))⟩, ⟨(some 7), none, .mov (.t 38)⟩]) .ret) .skip)) (.reg [ ⟨(some 39), none, .mov (.t 0)⟩, ⟨(some 40), none, .mov (.t 9)⟩, ⟨(some 41), none, .iaddrSl 1 (.t 39) (.t 40)⟩, ⟨(some 42), none, .load false 1 (.t 41)⟩, ⟨(some 43), none, .sliceStr (.t 42) none (some (.c (.int .i64 56)))⟩, ⟨(some 44), none, .call (.c (.fn 52 [] [])) [(.t 8), (.t 43)]⟩])))) (.reg [ ⟨(some 45), none, .ibin .add (.t 11) (.c (.int .i64 1))⟩, ⟨(some 11), none, .mov (.t 45)⟩]))))))) (.seq (.reg [ ⟨(some 46), none, .call (.c (.fn 54 [] [])) [(.t 8)]⟩, ⟨(some 6), none, .mov (.t 46)⟩, ⟨(some 7), none, .mov (.c (.int .i64 (-1)))⟩]) .ret))))⟩

theorem c70 : cFun Tryd.prog [1, 0, 4, 5, 6, 7, 2, 8, 9, 10, 11, 12, 13, 3] Tryd.f70 = some F70 := by kernel_rfl
end Go.Proofs.YthapdikdeoeplaaDoor.H6
end

section
/- The kit's contracts of strings.Builder's WriteString and String at this program, laid by the kit's own tool. -/
namespace Go.Proofs
open Go.Shelf
def Tryd.lays170_ren : Go.Shelf.Ren := ⟨fun | 170 => 53 | n => n, fun | 70 => 76 | 3 => 3 | 0 => 0 | 72 => 78 | 37 => 45 | 5 => 5 | n => n, fun | n => n⟩
theorem Tryd.lays170 : Go.Proofs.Lays.n170 Tryd.prog Tryd.lays170_ren := {
  mixed := by kernel_rfl
  f170 := Tryd.func53.trans (congrArg some (by kernel_rfl))
  t0 := Tryd.underlying0
  a0 := Tryd.isAgg0
  z0 := Tryd.sizeOf0
  v0 := Tryd.zeroValue0
  t3 := Tryd.underlying3
  a3 := Tryd.isAgg3
  z3 := Tryd.sizeOf3
  v3 := Tryd.zeroValue3
  t37 := Tryd.underlying45
  a37 := Tryd.isAgg45
  z37 := Tryd.sizeOf45
  v37 := Tryd.zeroValue45
  t70 := Tryd.underlying76
  a70 := Tryd.isAgg76
  z70 := Tryd.sizeOf76
  v70 := Tryd.zeroValue76
  t72 := Tryd.underlying78
  a72 := Tryd.isAgg78
  z72 := Tryd.sizeOf78
  v72 := Tryd.zeroValue78 }
open Go.RowKit in
/-- (*strings.Builder).Len: "Len returns the number of accumulated bytes; b.Len() == len(b.String()).": the world is as it was. (THE FORM '_f': 'Lib.IsBuilderF'.) (LAID: no walk: one application.) -/
theorem Tryd.Builder_Len_f (B b : Nat) (bs : List Value) (w : World) (h : Lib.IsBuilderF 78 5 B b bs w) :
    Calls Tryd.prog 53 #[.pointer (some ⟨b, 0, none⟩)] w fun e w' => e = .returned (.int .i64 bs.length) ∧ w' = w := Any.Builder_Len_f Tryd.lays170 B b bs w h
def Tryd.lays169_ren : Go.Shelf.Ren := ⟨fun | 169 => 54 | n => n, fun | 70 => 76 | 9 => 9 | 0 => 0 | 72 => 78 | 37 => 45 | 127 => 100 | 3 => 3 | 5 => 5 | n => n, fun | n => n⟩
theorem Tryd.lays169 : Go.Proofs.Lays.n169 Tryd.prog Tryd.lays169_ren := {
  mixed := by kernel_rfl
  f169 := Tryd.func54.trans (congrArg some (by kernel_rfl))
  t0 := Tryd.underlying0
  a0 := Tryd.isAgg0
  z0 := Tryd.sizeOf0
  v0 := Tryd.zeroValue0
  t3 := Tryd.underlying3
  a3 := Tryd.isAgg3
  z3 := Tryd.sizeOf3
  v3 := Tryd.zeroValue3
  t9 := Tryd.underlying9
  a9 := Tryd.isAgg9
  z9 := Tryd.sizeOf9
  v9 := Tryd.zeroValue9
  t37 := Tryd.underlying45
  a37 := Tryd.isAgg45
  z37 := Tryd.sizeOf45
  v37 := Tryd.zeroValue45
  t70 := Tryd.underlying76
  a70 := Tryd.isAgg76
  z70 := Tryd.sizeOf76
  v70 := Tryd.zeroValue76
  t72 := Tryd.underlying78
  a72 := Tryd.isAgg78
  z72 := Tryd.sizeOf78
  v72 := Tryd.zeroValue78
  t127 := Tryd.underlying100
  a127 := Tryd.isAgg100
  z127 := Tryd.sizeOf100
  v127 := Tryd.zeroValue100 }
theorem Tryd.Builder_Extra_169 : Builder.Extra Tryd.prog Tryd.lays169_ren := {
  sizeBuilder := by kernel_rfl
  liesBuilder := by kernel_rfl
  t5 := Tryd.underlying5
  a5 := Tryd.isAgg5
  z5 := Tryd.sizeOf5
  v5 := Tryd.zeroValue5
  infoByte := by kernel_rfl
  cellsByte := by kernel_rfl
  sizeByte := by kernel_rfl
  neB5 := by decide }
open Go.RowKit in
/-- (*strings.Builder).String: "String returns the accumulated string.": OF A BUILDER THAT HOLDS AT LEAST ONE BYTE. ✋ THE MODEL FREEZES THOSE BYTES IN THE BUFFER (unsafe.String): a later write INTO them ends the model's run without an answer; a later append BEHIND them goes on. The statement's order of evaluation is drawn: one draw. THE FORM '_f': IT SAYS BESIDES THAT THE BUILDER IS A BUILDER STILL ('Lib.IsBuilderF', the same bytes): SO IT CAN BE WRITTEN ON: 'b.WriteString(b.String()[:k])'. (LAID: no walk: one application.) -/
theorem Tryd.Builder_String_f (B b : Nat) (l : List UInt8) (w : World) (h : Lib.IsBuilderF 78 5 B b (Lib.byteCells l) w) (h0 : l ≠ []) :
    Calls Tryd.prog 54 #[.pointer (some ⟨b, 0, none⟩)] w fun e w' => e = .returned (.string ⟨l.toArray⟩) ∧ (Lib.IsBuilderF 78 5 B b (Lib.byteCells l) w' ∧ Below B w w') := Any.Builder_String_f Tryd.lays169 Tryd.Builder_Extra_169 B b l w h h0
open Go.RowKit in
/-- (*strings.Builder).String OF A BUILDER THAT HOLDS NO BYTE: the empty string; THE FORM '_f': a builder still. (LAID: no walk: one application.) -/
theorem Tryd.Builder_String_empty_f (B b : Nat) (w : World) (h : Lib.IsBuilderF 78 5 B b [] w) (hBw : B ≤ w.heap.size) :
    Calls Tryd.prog 54 #[.pointer (some ⟨b, 0, none⟩)] w fun e w' => e = .returned (.string ⟨#[]⟩) ∧ (Lib.IsBuilderF 78 5 B b [] w' ∧ Below B w w') := Any.Builder_String_empty_f Tryd.lays169 Tryd.Builder_Extra_169 B b w h hBw
open Go.RowKit in
/-- (*strings.Builder).String: "String returns the accumulated string.": WHATEVER THE BUILDER HOLDS; THE FORM '_f': OF A BUILDER THAT MAY HAVE BEEN READ BEFORE; AND IT IS A BUILDER STILL, holding the same bytes: it can be written on. (LAID: no walk: one application.) -/
theorem Tryd.Builder_String_any_f (B b : Nat) (l : List UInt8) (w : World) (h : Lib.IsBuilderF 78 5 B b (Lib.byteCells l) w) (hBw : B ≤ w.heap.size) :
    Calls Tryd.prog 54 #[.pointer (some ⟨b, 0, none⟩)] w fun e w' => e = .returned (.string ⟨l.toArray⟩) ∧ (Lib.IsBuilderF 78 5 B b (Lib.byteCells l) w' ∧ Below B w w') := Any.Builder_String_any_f Tryd.lays169 Tryd.Builder_Extra_169 B b l w h hBw

end Go.Proofs
end

section
open Go Go.RowKit Go.Shelf
namespace Go.Proofs.YthapdikdeoeplaaDoor.H6
/- strings.Builder's WriteString at this program: out of the laying of strings.Join. -/
theorem bldWrite (B b : Nat) (bs : List Value) (s : ByteArray) (w : World) (h : Lib.IsBuilderF (Tryd.lays156_ren.t 72) (Tryd.lays156_ren.t 5) B b bs w) (hlen : bs.length + s.size ≤ 140737488355328) (hBw : B ≤ w.heap.size) :
    Calls Tryd.prog 52 #[.pointer (some ⟨b, 0, none⟩), .string s] w fun e w' => e = .returned (.tuple #[.int .i64 s.size, .nilIface]) ∧ (Lib.BuilderAtF (Tryd.lays156_ren.t 72) (Tryd.lays156_ren.t 5) B b (.pointer (some ⟨b, 0, none⟩)) (bs ++ Lib.strCells s) w' ∧ Below B w w') :=
  Any.Builder_WriteString_f ({ Tryd.lays156 with } : Lays.n166 Tryd.prog Tryd.lays156_ren) Tryd.Builder_Extra_156 B b bs s w h hlen hBw
end Go.Proofs.YthapdikdeoeplaaDoor.H6
end

section
open Go Go.RowKit
set_option linter.unusedSimpArgs false
set_option maxRecDepth 100000
namespace Go.Proofs.YthapdikdeoeplaaDoor.H6
/- frame.joined: what its loop gives, and what AH's own soundness says of its region. -/
def badJ (l : List ByteArray) (seq : Int) (n i : Nat) : Bool := match l[i]? with
  | some s => ((s.size : Int) != 64) || !((s.extract 56 s.size).toList == (endS seq i n).toList)
  | none => true
/-- From a place on: what is joined, and the place of what is wrong. -/
def joinS (l : List ByteArray) (seq : Int) (n : Nat) : Nat → Nat → ByteArray → ByteArray × Int
  | 0, _, acc => (acc, -1)
  | m + 1, i, acc => bif badJ l seq n i then (⟨#[]⟩, (i : Int)) else joinS l seq n m (i + 1) (acc ++ ((l[i]?).getD ⟨#[]⟩).extract 0 56)
theorem cons_len {α : Type} {n : Nat} {l : List α} (h : l.length = n + 1) : ∃ x r, l = x :: r ∧ r.length = n := by
  cases l with
  | nil => cases h
  | cons x r => exact ⟨x, r, rfl, by simpa using h⟩
theorem arr47 (a : Array Value) (h : a.size = 47) : ∃ x0 x1 x2 x3 x4 x5 x6 x7 x8 x9 x10 x11 x12 x13 x14 x15 x16 x17 x18 x19 x20 x21 x22 x23 x24 x25 x26 x27 x28 x29 x30 x31 x32 x33 x34 x35 x36 x37 x38 x39 x40 x41 x42 x43 x44 x45 x46 : Value, a = #[x0, x1, x2, x3, x4, x5, x6, x7, x8, x9, x10, x11, x12, x13, x14, x15, x16, x17, x18, x19, x20, x21, x22, x23, x24, x25, x26, x27, x28, x29, x30, x31, x32, x33, x34, x35, x36, x37, x38, x39, x40, x41, x42, x43, x44, x45, x46] := by
  obtain ⟨l0⟩ := a
  have h0 : l0.length = 47 := h
  obtain ⟨x0, l1, rfl, h1⟩ := cons_len h0
  obtain ⟨x1, l2, rfl, h2⟩ := cons_len h1
  obtain ⟨x2, l3, rfl, h3⟩ := cons_len h2
  obtain ⟨x3, l4, rfl, h4⟩ := cons_len h3
  obtain ⟨x4, l5, rfl, h5⟩ := cons_len h4
  obtain ⟨x5, l6, rfl, h6⟩ := cons_len h5
  obtain ⟨x6, l7, rfl, h7⟩ := cons_len h6
  obtain ⟨x7, l8, rfl, h8⟩ := cons_len h7
  obtain ⟨x8, l9, rfl, h9⟩ := cons_len h8
  obtain ⟨x9, l10, rfl, h10⟩ := cons_len h9
  obtain ⟨x10, l11, rfl, h11⟩ := cons_len h10
  obtain ⟨x11, l12, rfl, h12⟩ := cons_len h11
  obtain ⟨x12, l13, rfl, h13⟩ := cons_len h12
  obtain ⟨x13, l14, rfl, h14⟩ := cons_len h13
  obtain ⟨x14, l15, rfl, h15⟩ := cons_len h14
  obtain ⟨x15, l16, rfl, h16⟩ := cons_len h15
  obtain ⟨x16, l17, rfl, h17⟩ := cons_len h16
  obtain ⟨x17, l18, rfl, h18⟩ := cons_len h17
  obtain ⟨x18, l19, rfl, h19⟩ := cons_len h18
  obtain ⟨x19, l20, rfl, h20⟩ := cons_len h19
  obtain ⟨x20, l21, rfl, h21⟩ := cons_len h20
  obtain ⟨x21, l22, rfl, h22⟩ := cons_len h21
  obtain ⟨x22, l23, rfl, h23⟩ := cons_len h22
  obtain ⟨x23, l24, rfl, h24⟩ := cons_len h23
  obtain ⟨x24, l25, rfl, h25⟩ := cons_len h24
  obtain ⟨x25, l26, rfl, h26⟩ := cons_len h25
  obtain ⟨x26, l27, rfl, h27⟩ := cons_len h26
  obtain ⟨x27, l28, rfl, h28⟩ := cons_len h27
  obtain ⟨x28, l29, rfl, h29⟩ := cons_len h28
  obtain ⟨x29, l30, rfl, h30⟩ := cons_len h29
  obtain ⟨x30, l31, rfl, h31⟩ := cons_len h30
  obtain ⟨x31, l32, rfl, h32⟩ := cons_len h31
  obtain ⟨x32, l33, rfl, h33⟩ := cons_len h32
  obtain ⟨x33, l34, rfl, h34⟩ := cons_len h33
  obtain ⟨x34, l35, rfl, h35⟩ := cons_len h34
  obtain ⟨x35, l36, rfl, h36⟩ := cons_len h35
  obtain ⟨x36, l37, rfl, h37⟩ := cons_len h36
  obtain ⟨x37, l38, rfl, h38⟩ := cons_len h37
  obtain ⟨x38, l39, rfl, h39⟩ := cons_len h38
  obtain ⟨x39, l40, rfl, h40⟩ := cons_len h39
  obtain ⟨x40, l41, rfl, h41⟩ := cons_len h40
  obtain ⟨x41, l42, rfl, h42⟩ := cons_len h41
  obtain ⟨x42, l43, rfl, h43⟩ := cons_len h42
  obtain ⟨x43, l44, rfl, h44⟩ := cons_len h43
  obtain ⟨x44, l45, rfl, h45⟩ := cons_len h44
  obtain ⟨x45, l46, rfl, h46⟩ := cons_len h45
  obtain ⟨x46, l47, rfl, h47⟩ := cons_len h46
  obtain rfl := List.eq_nil_of_length_eq_zero h47
  exact ⟨x0, x1, x2, x3, x4, x5, x6, x7, x8, x9, x10, x11, x12, x13, x14, x15, x16, x17, x18, x19, x20, x21, x22, x23, x24, x25, x26, x27, x28, x29, x30, x31, x32, x33, x34, x35, x36, x37, x38, x39, x40, x41, x42, x43, x44, x45, x46, rfl⟩
theorem isBld_keep {T e : TypeId} {B b : Nat} {bs : List Value} {w w' : World} (h : Lib.IsBuilderF T e B b bs w) (hk : ∀ k, k < w.heap.size → w'.heap[k]? = w.heap[k]?) : Lib.IsBuilderF T e B b bs w' := by
  have key : ∀ p, Lib.BuilderAtF T e B b p bs w → Lib.BuilderAtF T e B b p bs w' := by
    rintro p ⟨hB, v, hb, ⟨h1, h2⟩, hne⟩
    refine ⟨hB, v, (hk b (Array.getElem?_eq_some_iff.1 hb).1).trans hb, ⟨h1, ?_⟩, hne⟩
    rcases h2 with hn | ⟨g, cap, cur, fz, hv, hbg, hg, rest⟩
    · exact .inl hn
    · exact .inr ⟨g, cap, cur, fz, hv, hbg, (hk g (Array.getElem?_eq_some_iff.1 hg).1).trans hg, rest⟩
  exact h.elim (fun x => .inl (key _ x)) (fun x => .inr (key _ x))
open AH
theorem okJn : CtxOK S0 (ctxU S0 [(59, endT)] []) := ctxU_ok ⟨endT_ok, trivial⟩ trivial mixed
/-- The memory at the region: the blocks' row, and the builder, of which AH knows nothing. -/
theorem mr_join {eb : Nat → Addr} {φ : Emb} {own : Nat → Prop} {w wr : World} {l : List ByteArray} {b : Nat} (hM : MR S0.errT eb φ (mget [some (.row true 1 (l.map strC))]) own w) (hd : ¬ φ.dom 1) (hk : ∀ k, k < w.heap.size → wr.heap[k]? = w.heap[k]?) (own' : Nat → Prop) :
    MR S0.errT eb (φ.add 1 b 0 2 2) (mget [some (.row true 1 (l.map strC)), none]) own' wr := by
  have ext := Emb.add_ext (φ := φ) (b := b) (base := 0) (k := 2) (size := 2) hd
  have only : ∀ id x, mget [some (.row true 1 (l.map strC)), none] id = some x → id = 0 ∧ x = .row true 1 (l.map strC) := by
    intro id x h
    match id, h with
    | 0, h => exact ⟨rfl, by simpa [mget] using h.symm⟩
    | 1, h => cases h
    | n + 2, h => cases h
  have h0 : φ.dom 0 := hM.dom 0 _ rfl
  refine ⟨fun id x h => ?_, fun id ro k es h => ?_, fun id x h hs => ?_, fun id x h hr => ?_, fun id id' x x' h h' hne hr => ?_⟩
  · obtain ⟨rfl, rfl⟩ := only id x h; exact .inl h0
  · obtain ⟨rfl, he⟩ := only id _ h
    rw [ext.k 0 h0]
    cases he
    exact hM.kk 0 _ _ _ rfl
  · obtain ⟨rfl, rfl⟩ := only id x h
    have hs' := (Blk.solid_ext ext h0).1 hs
    obtain ⟨o, ho, hb⟩ := hM.blk 0 _ rfl hs'
    refine ⟨o, ?_, hb.mono ext h0⟩
    rw [ext.blk 0 h0, hk _ (Array.getElem?_eq_some_iff.1 ho).1]
    exact ho
  · obtain ⟨rfl, rfl⟩ := only id x h; cases hr
  · obtain ⟨rfl, rfl⟩ := only id x h; cases hr
end Go.Proofs.YthapdikdeoeplaaDoor.H6
end

section
open Go Go.RowKit
set_option linter.unusedSimpArgs false
set_option maxRecDepth 100000
namespace Go.Proofs.YthapdikdeoeplaaDoor.H6
/- frame.joined, by the kit; its region of free order by AH's own soundness. -/
abbrev KeepW (w wr : World) : Prop := AH.Keeps (fun b => w.heap.size ≤ b) w wr
theorem keep_below {w wr w' : World} (h : KeepW w wr) (g : Below w.heap.size wr w') : KeepW w w' :=
  ⟨g.os.trans h.os, g.output.trans h.output, Nat.le_trans h.size g.size, fun b hb hn => (g.block b hb).trans (h.kept b hb hn), h.new⟩
theorem keep_keep {w wr w' : World} (h : KeepW w wr) (g : KeepW wr w') : KeepW w w' :=
  ⟨g.os.trans h.os, g.output.trans h.output, Nat.le_trans h.size g.size, fun b hb hn => (g.kept b (Nat.lt_of_lt_of_le hb h.size) (by have := h.size; omega)).trans (h.kept b hb hn), h.new⟩
def jnSt (l : List ByteArray) (c : Nat) (seq : Int) (n i : Nat) : AH.St := ⟨[(0, .slc 0 0 l.length (some c)), (1, .int .i64 seq), (2, .int .i64 n), (8, .ptr 1 0 0), (9, .int .i64 i), (10, .int .i64 n), (11, .int .i64 i), (3, .tup []), (4, .tup []), (5, .tup []), (46, .tup [])], [some (.row true 1 (l.map strC)), none]⟩
open AH in
theorem regA (l : List ByteArray) (c : Nat) (seq : Int) (n i : Nat) (hl : l.length ≤ 1048576) : wpA { call := (ctxU S0 [(59, endT)] []).call, read := (ctxU S0 [(59, endT)] []).read, eff := (ctxU S0 [(59, endT)] []).eff, base := 2 } (F70.body.at [true, true, false, true, true, true, true, true, false, true, true, false, false])
    (fun e s => e = .normal ∧ tget s.tm 37 = .bool (badJ l seq n i) ∧ tget s.tm 0 = .slc 0 0 l.length (some c) ∧ tget s.tm 1 = .int .i64 seq ∧ tget s.tm 2 = .int .i64 n ∧ tget s.tm 8 = .ptr 1 0 0 ∧ tget s.tm 9 = .int .i64 i ∧ tget s.tm 10 = .int .i64 n ∧ tget s.tm 11 = .int .i64 i ∧ tget s.tm 3 = .tup [] ∧ tget s.tm 4 = .tup [] ∧ tget s.tm 5 = .tup [] ∧ tget s.tm 46 = .tup []) (jnSt l c seq n i) := by
  unfold F70
  simp only [ACode.at]
  rcases Nat.lt_or_ge i l.length with hil | hil
  · have hd : decide ((i : Int) ≥ (l.length : Int)) = false := by simp only [decide_eq_false_iff_not]; omega
    have hg : l[i]? = some l[i] := List.getElem?_eq_getElem hil
    cases h64 : ((l[i].size : Int) != 64)
    · have hb : badJ l seq n i = !((l[i].extract 56 l[i].size).toList == (endS seq i n).toList) := by simp only [badJ, hg, h64, Bool.false_or]
      simp only [AH.SD, AH.wpOp, AOp.call?, AOp.next?, bstep, AOp.map, Opd.ev, tget, argTm, evs, AV.cells, St.eff, St.put, applyWr, mset, terase, pureE, unAV, intOp, binAV, fill, mget, AH.rowAt, AH.part, retQ, rvs, retV, AH.splice, AH.sliceElems, AH.bytesOf, AH.strOp, AH.bound, AH.addLog, AH.missQ, AH.minmaxAV, AH.wpOpD, AH.readOf, AH.effOf, AH.mapAt, AH.iterAt, Nat.reduceBEq, Nat.reduceAdd, Nat.reduceLT, ↓reduceIte, Nat.reduceEqDiff, Nat.reduceLeDiff, Nat.reduceSub, Nat.reduceMul, Int.reduceSub, Int.reduceToNat, Int.reduceBEq, Int.reduceBNe, Int.reduceLT, Int.reduceGT, Int.reduceLE, Int.reduceGE, Int.reduceNeg, Int.reduceAdd, jnSt, hd, getD_enc, hil, strC_eq, h64, hb, endT_p, List.length_map]
      have hs64 : l[i].size = 64 := by
        have : (l[i].size : Int) = 64 := by simpa using h64
        omega
      repeat ((with_reducible refine And.intro ?_ ?_); focus (first | rfl | decide | omega | (simp only [List.length_map, and_true]; omega) | (simp only [List.length_map, List.length_set, and_true]; omega)))
      try simp only [AH.SD, AH.wpOp, AOp.call?, AOp.next?, bstep, AOp.map, Opd.ev, tget, argTm, evs, AV.cells, St.eff, St.put, applyWr, mset, terase, pureE, unAV, intOp, binAV, fill, mget, AH.rowAt, AH.part, retQ, rvs, retV, AH.splice, AH.sliceElems, AH.bytesOf, AH.strOp, AH.bound, AH.addLog, AH.missQ, AH.minmaxAV, AH.wpOpD, AH.readOf, AH.effOf, AH.mapAt, AH.iterAt, Nat.reduceBEq, Nat.reduceAdd, Nat.reduceLT, ↓reduceIte, Nat.reduceEqDiff, Nat.reduceLeDiff, Nat.reduceSub, Nat.reduceMul, Int.reduceSub, Int.reduceToNat, Int.reduceBEq, Int.reduceBNe, Int.reduceLT, Int.reduceGT, Int.reduceLE, Int.reduceGE, Int.reduceNeg, Int.reduceAdd, jnSt, hd, getD_enc, hil, strC_eq, h64, hb, endT_p, List.length_map]
      repeat ((with_reducible refine And.intro ?_ ?_); focus (first | rfl | decide | omega | (simp only [List.length_map, and_true]; omega) | (simp only [List.length_map, List.length_set, and_true]; omega)))
      try trivial
    · have hb : badJ l seq n i = true := by simp only [badJ, hg, h64, Bool.true_or]
      simp only [AH.SD, AH.wpOp, AOp.call?, AOp.next?, bstep, AOp.map, Opd.ev, tget, argTm, evs, AV.cells, St.eff, St.put, applyWr, mset, terase, pureE, unAV, intOp, binAV, fill, mget, AH.rowAt, AH.part, retQ, rvs, retV, AH.splice, AH.sliceElems, AH.bytesOf, AH.strOp, AH.bound, AH.addLog, AH.missQ, AH.minmaxAV, AH.wpOpD, AH.readOf, AH.effOf, AH.mapAt, AH.iterAt, Nat.reduceBEq, Nat.reduceAdd, Nat.reduceLT, ↓reduceIte, Nat.reduceEqDiff, Nat.reduceLeDiff, Nat.reduceSub, Nat.reduceMul, Int.reduceSub, Int.reduceToNat, Int.reduceBEq, Int.reduceBNe, Int.reduceLT, Int.reduceGT, Int.reduceLE, Int.reduceGE, Int.reduceNeg, Int.reduceAdd, jnSt, hd, getD_enc, hil, strC_eq, h64, hb, List.length_map]
      repeat ((with_reducible refine And.intro ?_ ?_); focus (first | rfl | decide | omega | (simp only [List.length_map, and_true]; omega) | (simp only [List.length_map, List.length_set, and_true]; omega)))
      try simp only [AH.SD, AH.wpOp, AOp.call?, AOp.next?, bstep, AOp.map, Opd.ev, tget, argTm, evs, AV.cells, St.eff, St.put, applyWr, mset, terase, pureE, unAV, intOp, binAV, fill, mget, AH.rowAt, AH.part, retQ, rvs, retV, AH.splice, AH.sliceElems, AH.bytesOf, AH.strOp, AH.bound, AH.addLog, AH.missQ, AH.minmaxAV, AH.wpOpD, AH.readOf, AH.effOf, AH.mapAt, AH.iterAt, Nat.reduceBEq, Nat.reduceAdd, Nat.reduceLT, ↓reduceIte, Nat.reduceEqDiff, Nat.reduceLeDiff, Nat.reduceSub, Nat.reduceMul, Int.reduceSub, Int.reduceToNat, Int.reduceBEq, Int.reduceBNe, Int.reduceLT, Int.reduceGT, Int.reduceLE, Int.reduceGE, Int.reduceNeg, Int.reduceAdd, jnSt, hd, getD_enc, hil, strC_eq, h64, hb, List.length_map]
      repeat ((with_reducible refine And.intro ?_ ?_); focus (first | rfl | decide | omega | (simp only [List.length_map, and_true]; omega) | (simp only [List.length_map, List.length_set, and_true]; omega)))
      try trivial
  · have hd : decide ((i : Int) ≥ (l.length : Int)) = true := by simp only [decide_eq_true_eq]; omega
    have hb : badJ l seq n i = true := by simp only [badJ, List.getElem?_eq_none hil]
    simp only [AH.SD, AH.wpOp, AOp.call?, AOp.next?, bstep, AOp.map, Opd.ev, tget, argTm, evs, AV.cells, St.eff, St.put, applyWr, mset, terase, pureE, unAV, intOp, binAV, fill, mget, AH.rowAt, AH.part, retQ, rvs, retV, AH.splice, AH.sliceElems, AH.bytesOf, AH.strOp, AH.bound, AH.addLog, AH.missQ, AH.minmaxAV, AH.wpOpD, AH.readOf, AH.effOf, AH.mapAt, AH.iterAt, Nat.reduceBEq, Nat.reduceAdd, Nat.reduceLT, ↓reduceIte, Nat.reduceEqDiff, Nat.reduceLeDiff, Nat.reduceSub, Nat.reduceMul, Int.reduceSub, Int.reduceToNat, Int.reduceBEq, Int.reduceBNe, Int.reduceLT, Int.reduceGT, Int.reduceLE, Int.reduceGE, Int.reduceNeg, Int.reduceAdd, jnSt, hd, hb]
    repeat ((with_reducible refine And.intro ?_ ?_); focus (first | rfl | decide | omega | (simp only [List.length_map, and_true]; omega) | (simp only [List.length_map, List.length_set, and_true]; omega)))
    try trivial
theorem vr_int {S : AH.Sys} {eb : Nat → Addr} {φ : AH.Emb} {k : IntKind} {n : Int} {u : Value} (h : AH.VR S.errT eb φ (.int k n) u) : u = .int k n := by cases h; rfl
theorem vr_bool {S : AH.Sys} {eb : Nat → Addr} {φ : AH.Emb} {b : Bool} {u : Value} (h : AH.VR S.errT eb φ (.bool b) u) : u = .bool b := by cases h; rfl
theorem vr_tup0 {S : AH.Sys} {eb : Nat → Addr} {φ : AH.Emb} {u : Value} (h : AH.VR S.errT eb φ (.tup []) u) : u = undef := by
  cases h
  rename_i us h
  obtain ⟨l⟩ := us
  cases h
  rfl
/-- The region. -/
theorem regJ {eb : Nat → Addr} (l : List ByteArray) (hl : l.length ≤ 1048576) (cp : Nat) (seq : Int) (n i : Nat) {φ : AH.Emb} {w wr : World} {b : Nat} {a : Act} (hsz : a.tmps.size = 47) (hdf : a.defers = [])
    (hA : AH.Amb S0 eb (fun b => w.heap.size ≤ b) w) (hM : AH.MR S0.errT eb φ (AH.mget [some (.row true 1 (l.map strC))]) (fun b => w.heap.size ≤ b) w) (hd : ∀ id, φ.dom id → id < 1) (hk : KeepW w wr)
    (h0 : AH.VR S0.errT eb φ (.slc 0 0 l.length (some cp)) (a.tmps.getD 0 undef)) (h1 : a.tmps.getD 1 undef = .int .i64 seq) (h2 : a.tmps.getD 2 undef = .int .i64 n) (h8 : a.tmps.getD 8 undef = .pointer (some ⟨b, 0, none⟩)) (h9 : a.tmps.getD 9 undef = .int .i64 i) (h10 : a.tmps.getD 10 undef = .int .i64 n) (h11 : a.tmps.getD 11 undef = .int .i64 i) (h3 : a.tmps.getD 3 undef = undef) (h4 : a.tmps.getD 4 undef = undef) (h5 : a.tmps.getD 5 undef = undef) (h46 : a.tmps.getD 46 undef = undef)
    {c : Code} (hc : AH.cCode Tryd.prog [1, 0, 4, 5, 6, 7, 2, 8, 9, 10, 11, 12, 13, 3] 47 c = some (F70.body.at [true, true, false, true, true, true, true, true, false, true, true, false, false])) {Q : Exit → Act → World → Prop}
    (hQ : ∀ (a' : Act) (w' : World), a'.tmps.size = 47 → a'.defers = [] → KeepW wr w' → a'.tmps.getD 37 undef = .bool (badJ l seq n i) → (l ≠ [] → a'.tmps.getD 0 undef = a.tmps.getD 0 undef) → a'.tmps.getD 1 undef = .int .i64 seq → a'.tmps.getD 2 undef = .int .i64 n → a'.tmps.getD 8 undef = .pointer (some ⟨b, 0, none⟩) → a'.tmps.getD 9 undef = .int .i64 i → a'.tmps.getD 10 undef = .int .i64 n → a'.tmps.getD 11 undef = .int .i64 i → a'.tmps.getD 3 undef = undef → a'.tmps.getD 4 undef = undef → a'.tmps.getD 5 undef = undef → a'.tmps.getD 46 undef = undef → Q .normal a' w') :
    c.wp Tryd.prog Q a wr := by
  have hd1 : ¬ φ.dom 1 := fun q => by have := hd 1 q; omega
  have h0d : φ.dom 0 := hM.dom 0 _ rfl
  have ext := AH.Emb.add_ext (φ := φ) (b := b) (base := 0) (k := 2) (size := 2) hd1
  have hkk : ∀ k, k < w.heap.size → wr.heap[k]? = w.heap[k]? := fun k hk' => hk.kept k hk' (by omega)
  have hC : AH.CtxOK S0 { call := (AH.ctxU S0 [(59, endT)] []).call, read := (AH.ctxU S0 [(59, endT)] []).read, eff := (AH.ctxU S0 [(59, endT)] []).eff, base := 2 } := ⟨okJn.calls, okJn.reads, okJn.effs, okJn.mixed⟩
  refine wp_mono (AH.code_sound (S := S0) (own := fun x => wr.heap.size ≤ x) (w0 := wr) (φ0 := φ.add 1 b 0 2 2) (nt := 47) (hA.fresh hk) hC (fun id q => ?_) c _ hc _ (jnSt l cp seq n i) a wr (regA l cp seq n i hl) ⟨φ.add 1 b 0 2 2, .refl _, hsz, hdf, fun t => ?_, mr_join hM hd1 hkk _, .refl fun x hx => hx, fun id q => ?_⟩) ?_
  · rcases q with q | q
    · have := hd id q; show id < 2; omega
    · show id < 2; omega
  · show AH.VR S0.errT eb _ (AH.tget (jnSt l cp seq n i).tm t) _
    simp only [jnSt, AH.tget]
    cases e0 : (0 == t)
    · cases e1 : (1 == t)
      · cases e2 : (2 == t)
        · cases e8 : (8 == t)
          · cases e9 : (9 == t)
            · cases e10 : (10 == t)
              · cases e11 : (11 == t)
                · cases e3 : (3 == t)
                  · cases e4 : (4 == t)
                    · cases e5 : (5 == t)
                      · cases e46 : (46 == t)
                        · exact .undef _
                        · obtain rfl : 46 = t := by simpa using e46
                          rw [h46]; exact .tup _ _ .nil
                      · obtain rfl : 5 = t := by simpa using e5
                        rw [h5]; exact .tup _ _ .nil
                    · obtain rfl : 4 = t := by simpa using e4
                      rw [h4]; exact .tup _ _ .nil
                  · obtain rfl : 3 = t := by simpa using e3
                    rw [h3]; exact .tup _ _ .nil
                · obtain rfl : 11 = t := by simpa using e11
                  rw [h11]; exact .int _ _
              · obtain rfl : 10 = t := by simpa using e10
                rw [h10]; exact .int _ _
            · obtain rfl : 9 = t := by simpa using e9
              rw [h9]; exact .int _ _
          · obtain rfl : 8 = t := by simpa using e8
            rw [h8]
            have := AH.VR.ptr (T := S0.errT) (eb := eb) (φ := φ.add 1 b 0 2 2) 1 0 0 (.inr rfl)
            simpa [AH.Emb.add] using this
        · obtain rfl : 2 = t := by simpa using e2
          rw [h2]; exact .int _ _
      · obtain rfl : 1 = t := by simpa using e1
        rw [h1]; exact .int _ _
    · obtain rfl : 0 = t := by simpa using e0
      exact h0.mono ext
  · rcases q with q | q
    · have := hd id q; show id < 2; omega
    · show id < 2; omega
  · rintro e a' w' ⟨st, ⟨rfl, q37, q0, q1, q2, q8, q9, q10, q11, q3, q4, q5, q46⟩, φ', r⟩
    have tm : ∀ t v, AH.tget st.tm t = v → AH.VR S0.errT eb φ' v (a'.tmps.getD t undef) := fun t v h => h ▸ r.tm t
    refine hQ a' w' r.size r.defers r.keeps (vr_bool (tm 37 _ q37)) (fun hne => ?_) (vr_int (tm 1 _ q1)) (vr_int (tm 2 _ q2)) ?_ (vr_int (tm 9 _ q9)) (vr_int (tm 10 _ q10)) (vr_int (tm 11 _ q11)) (vr_tup0 (tm 3 _ q3)) (vr_tup0 (tm 4 _ q4)) (vr_tup0 (tm 5 _ q5)) (vr_tup0 (tm 46 _ q46))
    · have hlen : l.length ≠ 0 := fun q => hne (List.eq_nil_of_length_eq_zero q)
      obtain ⟨_, h⟩ := AH.slc_inv (tm 0 _ q0)
      obtain ⟨_, g⟩ := AH.slc_inv h0
      rcases h with ⟨c1, e1, _, f1, _⟩ | ⟨_, _, z, _⟩
      · rcases g with ⟨c2, e2, _, f2, _⟩ | ⟨_, _, z, _⟩
        · have b0 : φ'.blk 0 = φ.blk 0 := (r.ext.blk 0 (.inl h0d)).trans (ext.blk 0 h0d)
          have b1 : φ'.base 0 = φ.base 0 := (r.ext.base 0 (.inl h0d)).trans (ext.base 0 h0d)
          have b2 : φ'.k 0 = φ.k 0 := (r.ext.k 0 (.inl h0d)).trans (ext.k 0 h0d)
          rw [e1, e2, b0, b1, b2, f1 cp rfl, f2 cp rfl]
        · exact absurd z hlen
      · exact absurd z hlen
    · have h := tm 8 _ q8
      generalize a'.tmps.getD 8 undef = u at h
      cases h
      have b0 : φ'.blk 1 = b := (r.ext.blk 1 (.inr rfl)).trans (by simp [AH.Emb.add])
      have b1 : φ'.base 1 = 0 := (r.ext.base 1 (.inr rfl)).trans (by simp [AH.Emb.add])
      simp [b0, b1]
end Go.Proofs.YthapdikdeoeplaaDoor.H6
end

section
open Go Go.RowKit
set_option linter.unusedSimpArgs false
set_option maxRecDepth 100000
namespace Go.Proofs.YthapdikdeoeplaaDoor.H6
/- frame.joined, by the kit. -/
theorem badJ_ok {l : List ByteArray} {seq : Int} {n i : Nat} (h : badJ l seq n i = false) : ∃ s, l[i]? = some s ∧ s.size = 64 := by
  unfold badJ at h
  split at h
  · rename_i s hs
    simp only [Bool.or_eq_false_iff] at h
    have : (s.size : Int) = 64 := by simpa using h.1
    exact ⟨s, hs, by omega⟩
  · cases h
def jnMu (n : Nat) : Value → Nat
  | .int _ k => n - k.toNat
  | _ => 0
/-- What holds at the loop's head. -/
def jnRel (l : List ByteArray) (seq : Int) (n : Nat) (w : World) (tv : Value) (wr : World) : Prop :=
  ∃ (i : Nat) (acc : ByteArray), tv = .int .i64 i ∧ i ≤ n ∧ joinS l seq n (n - i) i acc = joinS l seq n n 0 ⟨#[]⟩ ∧ acc.size ≤ 56 * i ∧ KeepW w wr ∧ Lib.IsBuilderF (Tryd.lays156_ren.t 72) (Tryd.lays156_ren.t 5) w.heap.size w.heap.size (Lib.byteCells acc.data.toList) wr
theorem joinedK {eb : Nat → Addr} (l : List ByteArray) (hl : l.length ≤ 1048576) (cp : Nat) (ad : Option Addr) (seq : Int) (n : Nat) (hn : n ≤ 1000) {φ : AH.Emb} (w : World)
    (hA : AH.Amb S0 eb (fun b => w.heap.size ≤ b) w) (hM : AH.MR S0.errT eb φ (AH.mget [some (.row true 1 (l.map strC))]) (fun b => w.heap.size ≤ b) w) (hd : ∀ id, φ.dom id → id < 1)
    (h0 : AH.VR S0.errT eb φ (.slc 0 0 l.length (some cp)) (.slice ad l.length cp)) (hcell : ∀ (j : Nat) x, l[j]? = some x → ∃ bk off, ad = some ⟨bk, off, none⟩ ∧ w.cell? ⟨bk, off + j, none⟩ = some (.string x) ∧ bk < w.heap.size) :
    Calls Tryd.prog 70 #[.slice ad l.length cp, .int .i64 seq, .int .i64 n] w fun e w' => e = .returned (.tuple #[.string (joinS l seq n n 0 ⟨#[]⟩).1, .int .i64 (joinS l seq n n 0 ⟨#[]⟩).2]) ∧ KeepW w w' := by
  go_enter Tryd.func70, Tryd.ntmps70
  go_wp2
  go_loopw [11] (jnRel l seq n w) (fun tv _ => jnMu n tv)
  case atStart =>
    have hb0 : Below w.heap.size w (w.alloc (.cells #[.pointer none, .slice none 0 0] (Tryd.lays156_ren.t 72))) := (Below.refl _ w).alloc (Nat.le_refl _) _
    refine ⟨0, ⟨#[]⟩, rfl, Nat.zero_le _, rfl, Nat.zero_le _, keep_below (.refl fun x hx => hx) hb0, .inl ⟨Nat.le_refl _, .slice none 0 0, ?_, World.ownsRowF_nil _ _ _ _, by simp [Value.ownBlock]⟩⟩
    show (w.heap.push _)[w.heap.size]? = _
    rw [Array.getElem?_push, if_pos rfl]
    rfl
  case round =>
    obtain ⟨i, acc, rfl, hi, hj, hsz, hkw, hbld⟩ := hrel
    by_cases hin : i < n
    · have hlt : decide ((i : Int) < (n : Int)) = true := by simp only [decide_eq_true_eq]; omega
      go_wp2
      refine regJ l hl cp seq n i (φ := φ) (w := w) (b := w.heap.size) ?_ ?_ hA hM hd hkw ?_ ?_ ?_ ?_ ?_ ?_ ?_ ?_ ?_ ?_ ?_ ?_ ?_
      · rfl
      · rfl
      · exact h0
      · rfl
      · rfl
      · rfl
      · rfl
      · rfl
      · rfl
      · rfl
      · rfl
      · rfl
      · rfl
      · kernel_rfl
      rintro ⟨a', df⟩ w' s1 s2 hk' g37 g0 g1 g2 g8 g9 g10 g11 g3 g4 g5 g46
      simp only at s1 s2 g37 g0 g1 g2 g8 g9 g10 g11 g3 g4 g5 g46
      subst s2
      obtain ⟨x0, x1, x2, x3, x4, x5, x6, x7, x8, x9, x10, x11, x12, x13, x14, x15, x16, x17, x18, x19, x20, x21, x22, x23, x24, x25, x26, x27, x28, x29, x30, x31, x32, x33, x34, x35, x36, x37, x38, x39, x40, x41, x42, x43, x44, x45, x46, rfl⟩ := arr47 a' s1
      obtain rfl : x37 = _ := g37
      obtain rfl : x1 = _ := g1
      obtain rfl : x2 = _ := g2
      obtain rfl : x8 = _ := g8
      obtain rfl : x9 = _ := g9
      obtain rfl : x10 = _ := g10
      obtain rfl : x11 = _ := g11
      obtain rfl : x3 = _ := g3
      obtain rfl : x4 = _ := g4
      obtain rfl : x5 = _ := g5
      obtain rfl : x46 = _ := g46
      have hkw' := keep_keep hkw hk'
      have hbld' := isBld_keep hbld fun k hk => hk'.kept k hk (by omega)
      cases hb : badJ l seq n i
      · obtain ⟨s, hs, hs64⟩ := badJ_ok hb
        have hne : l ≠ [] := fun q => by rw [q] at hs; cases hs
        obtain rfl : x0 = _ := g0 hne
        obtain ⟨bk, off, rfl, hc, hbk⟩ := hcell i s hs
        have hil : i < l.length := (List.getElem?_eq_some_iff.1 hs).1
        have hc' : w'.cell? ⟨bk, off + i, none⟩ = some (.string s) := by
          have : w'.heap[bk]? = w.heap[bk]? := hkw'.kept bk hbk (by omega)
          simp only [World.cell?, this] at hc ⊢
          exact hc
        go_wp2_with (go_at_call 52; refine (bldWrite w.heap.size w.heap.size _ _ w' hbld' ?_ hkw'.size).mono ?_)
        · have : (Lib.byteCells acc.data.toList).length = acc.size := by simp [Lib.byteCells]
          omega
        · rintro e W2 rfl hB2 hbel2
          have hkw2 := keep_below hkw' hbel2
          have hbld2 : Lib.IsBuilderF (Tryd.lays156_ren.t 72) (Tryd.lays156_ren.t 5) w.heap.size w.heap.size (Lib.byteCells (acc ++ s.extract 0 56).data.toList) W2 := by
            have e : Lib.byteCells (acc ++ s.extract 0 56).data.toList = Lib.byteCells acc.data.toList ++ Lib.strCells (s.extract 0 56) := by
              simp [Lib.byteCells, Lib.strCells, ByteArray.data_append]
            rw [e]
            exact .inr hB2
          have hj2 : joinS l seq n (n - (i + 1)) (i + 1) (acc ++ s.extract 0 56) = joinS l seq n n 0 ⟨#[]⟩ := by
            rw [← hj, show n - i = (n - (i + 1)) + 1 by omega, joinS, hb, cond_false, hs]
            rfl
          have hw1 : IntKind.i64.wrap ((i : Int) + 1) = ((i + 1 : Nat) : Int) := by rw [IntKind.wrap_i64]; omega
          have hsz2 : (acc ++ s.extract 0 56).size ≤ 56 * (i + 1) := by
            rw [ByteArray.size_append, ByteArray.size_extract]; omega
          go_wp2
          refine ⟨⟨i + 1, _, by rw [Int.natCast_add]; rfl, by omega, hj2, hsz2, hkw2, hbld2⟩, ?_⟩
          simp only [jnMu]
          omega
      · go_wp2
        go_ret2
        refine ⟨?_, hkw'⟩
        rw [← hj, show n - i = (n - i - 1) + 1 by omega, joinS, hb]
        rfl
    · obtain rfl : i = n := by omega
      have hlt : decide ((i : Int) < (i : Int)) = false := by simp
      rw [Nat.sub_self] at hj
      have hres : joinS l seq i i 0 ⟨#[]⟩ = (acc, -1) := hj.symm
      go_wp2_with (go_at_call 54; refine (Tryd.Builder_String_any_f w.heap.size w.heap.size acc.data.toList wr hbld hkw.size).mono ?_)
      rintro e W2 ⟨rfl, _, hbel2⟩
      have hkw2 := keep_below hkw hbel2
      go_wp2
      go_ret2
      refine ⟨?_, hkw2⟩
      rw [hres]
      rfl
end Go.Proofs.YthapdikdeoeplaaDoor.H6
end

section
open Go AH
set_option linter.unusedSimpArgs false
set_option maxRecDepth 100000
namespace Go.Proofs.YthapdikdeoeplaaDoor.H6
/- frame.joined as a table's entry. -/
theorem joined_ok (l : List ByteArray) (hl : l.length ≤ 1048576) (seq : Int) (n : Nat) (hn : n ≤ 1000) : CallA1 S0 70 [.slc 0 0 l.length none, .int .i64 seq, .int .i64 n] [some (.row true 1 (l.map strC))]
    fun r _ => r = .tup [.str (joinS l seq n n 0 ⟨#[]⟩).1, .int .i64 (joinS l seq n n 0 ⟨#[]⟩).2] := by
  intro eb φ own w0 w us hA hus hM hk hb
  obtain ⟨u, h1⟩ : ∃ u, us.toList = u := ⟨_, rfl⟩
  rw [h1] at hus
  cases hus with
  | cons _ u1 _ us1 v1 hus =>
  cases hus with
  | cons _ u2 _ us2 v2 hus =>
  cases hus with
  | cons _ u3 _ us3 v3 hus =>
  cases hus
  cases v2
  cases v3
  obtain rfl : us = #[u1, .int .i64 seq, .int .i64 n] := by cases us; simp_all
  have hAf := hA.fresh hk
  have hM' : MR S0.errT eb φ (mget [some (.row true 1 (l.map strC))]) (fun b => w.heap.size ≤ b) w := by
    refine ⟨hM.dom, hM.kk, hM.blk, fun id x h hr => ?_, fun id id' x x' h h' hne hr => ?_⟩
    · match id, h with
      | 0, h => cases h; cases hr
      | n + 1, h => cases h
    · match id, h with
      | 0, h => cases h; cases hr
      | n + 1, h => cases h
  have hd : ∀ id, φ.dom id → id < 1 := hb
  obtain ⟨hdm, hu⟩ := slc_inv v1
  have hkk : φ.k 0 = 1 := hM.kk 0 _ _ _ rfl
  obtain ⟨ad, cp, rfl, h0, hcell⟩ : ∃ ad cp, u1 = .slice ad l.length cp ∧ VR S0.errT eb φ (.slc 0 0 l.length (some cp)) (.slice ad l.length cp) ∧
      ∀ (j : Nat) x, l[j]? = some x → ∃ bk off, ad = some ⟨bk, off, none⟩ ∧ w.cell? ⟨bk, off + j, none⟩ = some (.string x) ∧ bk < w.heap.size := by
    rcases hu with ⟨c, rfl, h2, _, h4⟩ | ⟨ad, rfl, hz, _⟩
    · refine ⟨_, c, rfl, .slc 0 0 l.length (some c) c hdm h2 (fun c0 q => by cases q; rfl) h4, fun j x hj => ?_⟩
      have hsol : (Blk.row true 1 (l.map strC)).solid φ 0 := .inl fun q => by
        have : l = [] := List.map_eq_nil_iff.1 q
        rw [this] at hj; cases hj
      obtain ⟨o, ho, arr, et, fr, rfl, _, hsz, hfit, _, hcells⟩ := hM.blk 0 _ rfl hsol
      refine ⟨φ.blk 0, φ.base 0 + 0 * φ.k 0, rfl, ?_, (Array.getElem?_eq_some_iff.1 ho).1⟩
      have he : (l.map strC)[j]? = some [.str x] := by rw [List.getElem?_map, hj]; rfl
      obtain ⟨_, hc⟩ := hcells j _ he
      obtain ⟨u, hu1, hu2, _⟩ := hc 0 (.str x) rfl
      cases hu2
      simp only [World.cell?, ho]
      rw [← hu1]
      simp
    · refine ⟨ad, 0, by rw [hz], ?_, fun j x hj => ?_⟩
      · rw [hz]; exact .slc0 0 0 (some 0) ad hdm (fun c0 q => by cases q; rfl)
      · rw [List.eq_nil_of_length_eq_zero hz] at hj; cases hj
  refine callRes_of Tryd.func70 rfl (by decide) ((joinedK l hl cp ad seq n hn w hAf hM' hd h0 hcell).mono ?_)
  rintro e w' ⟨rfl, hkw⟩
  have hbel : ∀ k, k < w.heap.size → w'.heap[k]? = w.heap[k]? := fun k hk' => hkw.kept k hk' (by omega)
  refine ⟨_, rfl, φ, _, [some (.row true 1 (l.map strC))], rfl, .refl φ, .tup _ _ (.cons _ _ _ _ (.str _) (.cons _ _ _ _ (.int _ _) .nil)), ?_, ?_, hb⟩
  · refine ⟨hM.dom, hM.kk, fun id x h hs => ?_, hM.own, hM.inj⟩
    obtain ⟨o, ho, hbr⟩ := hM.blk id x h hs
    exact ⟨o, by rw [hbel _ (Array.getElem?_eq_some_iff.1 ho).1]; exact ho, hbr⟩
  · exact ⟨hkw.os.trans hk.os, hkw.output.trans hk.output, Nat.le_trans hk.size hkw.size, fun b hb' ho => (hbel b (Nat.lt_of_lt_of_le hb' hk.size)).trans (hk.kept b hb' ho), hk.new⟩
end Go.Proofs.YthapdikdeoeplaaDoor.H6
end

section
open Go AH
set_option linter.unusedSimpArgs false
set_option maxRecDepth 100000
namespace Go.Proofs.YthapdikdeoeplaaDoor.H6
/- frame.Read. -/
theorem joinS_sz (l : List ByteArray) (seq : Int) (n : Nat) : ∀ (m i : Nat) (acc : ByteArray), (joinS l seq n m i acc).2 = -1 → (joinS l seq n m i acc).1.size = acc.size + 56 * m
  | 0, i, acc, _ => by simp [joinS]
  | m + 1, i, acc, h => by
    unfold joinS at h ⊢
    cases hb : badJ l seq n i
    · rw [hb] at h
      simp only [cond_false] at h ⊢
      rw [joinS_sz l seq n m (i + 1) _ h, ByteArray.size_append]
      obtain ⟨s, hs, h64⟩ := badJ_ok hb
      have : (((l[i]?).getD ⟨#[]⟩).extract 0 56).size = 56 := by
        rw [hs, Option.getD_some, ByteArray.size_extract]; omega
      omega
    · rw [hb] at h
      simp only [cond_true] at h
      omega
theorem joinS_at (l : List ByteArray) (seq : Int) (n : Nat) : ∀ (m i : Nat) (acc : ByteArray), (joinS l seq n m i acc).2 = -1 ∨ 0 ≤ (joinS l seq n m i acc).2
  | 0, i, acc => .inl rfl
  | m + 1, i, acc => by
    unfold joinS
    cases badJ l seq n i
    · exact joinS_at l seq n m (i + 1) _
    · right; show (0 : Int) ≤ (i : Int); omega
/-- What joined gives. -/
def jnZ (l : List ByteArray) (seq : Int) (n : Nat) : ByteArray × Int := joinS l seq n n 0 ⟨#[]⟩
def jnQ (n id : Nat) (seq k : Int) : Option Blk → Option (AV × List Nat)
  | some (.row _ 1 es) => if n = es.length ∧ n ≤ 1048576 ∧ 0 ≤ k ∧ k ≤ 1000 then (cStr.decL es).map fun l => (.tup [.str (jnZ l seq k.toNat).1, .int .i64 (jnZ l seq k.toNat).2], [id]) else none
  | _ => none
def jnT : RT := fun args M => match args with
  | [.slc id 0 n _, .int .i64 seq, .int .i64 k] => jnQ n id seq k (M id)
  | _ => none
theorem jnT_p {id n : Nat} {cp : Option Nat} {seq k : Int} {M : Nat → Option Blk} : jnT [.slc id 0 n cp, .int .i64 seq, .int .i64 k] M = jnQ n id seq k (M id) := rfl
theorem jnQ_eq {l : List ByteArray} {id : Nat} {ro : Bool} {seq : Int} {k : Nat} (hl : l.length ≤ 1048576) (hk : k ≤ 1000) : jnQ l.length id seq (k : Int) (some (.row ro 1 (l.map strC))) = some (.tup [.str (jnZ l seq k).1, .int .i64 (jnZ l seq k).2], [id]) := by
  have hd : cStr.decL (l.map strC) = some l := cStr.decL_map l
  have h2 : (0 : Int) ≤ (k : Int) := by omega
  have h3 : (k : Int) ≤ 1000 := by omega
  simp only [jnQ, hd, List.length_map, hl, h2, h3, and_self, if_true, Option.map_some, Int.toNat_natCast]
theorem jnF_ok (seq : Int) (n : Nat) (hn : n ≤ 1000) : ReadF S0 70 (rtPre 1 cStr (cSub1 (cC (aI .i64) (cC (aI .i64) c0)) (fun x => x.1 = seq ∧ x.2.1 = n)) fun l _ => .tup [.str (jnZ l seq n).1, .int .i64 (jnZ l seq n).2]) :=
  rtPre_ok errs0 fun l b hl => ⟨rfl, by
    obtain ⟨⟨a, b, u⟩, h⟩ := b
    have h1 : a = seq := h.1
    have h2 : b = (n : Int) := h.2
    show CallA1 S0 _ (.slc 0 0 l.length none :: [.int .i64 a, .int .i64 b]) _ _
    rw [h1, h2]
    exact joined_ok l hl seq n hn⟩
theorem jnT_ok : ReadF S0 70 jnT := by
  intro args M v foot e
  unfold jnT at e
  split at e
  · rename_i id n cp seq k
    unfold jnQ at e
    split at e
    · rename_i ro es hrow
      split at e
      · rename_i hc
        obtain ⟨h1, h2, h3, h4⟩ := hc
        cases hl : cStr.decL es with
        | none => rw [hl] at e; cases e
        | some l =>
          rw [hl] at e
          simp only [Option.map_some, Option.some.injEq, Prod.mk.injEq] at e
          obtain ⟨rfl, rfl⟩ := e
          obtain rfl := cStr.decL_ok hl
          obtain ⟨K, rfl⟩ := Int.eq_ofNat_of_zero_le h3
          have hK : K ≤ 1000 := by omega
          simp only [List.length_map] at h1
          subst h1
          simp only [Int.toNat_natCast]
          have key := jnF_ok seq K hK [.slc id 0 l.length cp, .int .i64 seq, .int .i64 K] M (.tup [.str (jnZ l seq K).1, .int .i64 (jnZ l seq K).2]) [id] (by
            rw [rtPre_p, hrow]
            have hd : (cSub1 (cC (aI .i64) (cC (aI .i64) c0)) (fun x => x.1 = seq ∧ x.2.1 = (K : Int))).dec [.int .i64 seq, .int .i64 K] = some ⟨(seq, (K : Int), ()), rfl, rfl⟩ := cSub1_dec ⟨rfl, rfl⟩ rfl
            rw [hd]
            exact rtPQ_eq1 (c := cStr) h2)
          refine ⟨fun M' hM' => ?_, key.2⟩
          have h5 : M' id = M id := hM' id (by simp)
          rw [jnT_p, h5, hrow]
          exact jnQ_eq h2 hK
      · cases e
    · cases e
  · cases e
end Go.Proofs.YthapdikdeoeplaaDoor.H6
end

section
open Go AH
set_option linter.unusedSimpArgs false
set_option maxRecDepth 100000
namespace Go.Proofs.YthapdikdeoeplaaDoor.H6
theorem firB_in {seq n : Int} {e : ByteArray} (h : firB seq n e = true) : 1 ≤ seq ∧ seq ≤ 2147483647 ∧ 1 ≤ n ∧ n ≤ 108 := by
  unfold firB at h
  cases h1 : decide (seq ≥ 1) <;> cases h2 : decide (seq ≤ 2147483647) <;> cases h3 : decide (n ≥ 1) <;> cases h4 : decide (n ≤ 108) <;> rw [h1, h2, h3, h4] at h <;> first | (cases h; done) | skip
  simp only [decide_eq_true_eq] at h1 h2 h3 h4
  omega
theorem firZ_in {l : List ByteArray} (h : (firZ l).2.2 = true) : 1 ≤ (firZ l).1 ∧ (firZ l).1 ≤ 2147483647 ∧ 1 ≤ (firZ l).2.1 ∧ (firZ l).2.1 ≤ 108 := by
  cases l with
  | nil => cases h
  | cons s r =>
    simp only [firZ, firS] at h ⊢
    cases h6 : ((s.size : Int) != 64)
    · rw [h6] at h
      simp only [cond_false] at h ⊢
      exact firB_in h
    · rw [h6] at h; cases h
theorem firT_f {l : List ByteArray} {i : Nat} {ro : Bool} (h : l.length ≤ 1048576) : rt1Q 1 cStr (fun l (_ : Unit) => firA (firZ l)) l.length i (some (.row ro 1 (l.map strC))) (some ()) = some (.tup [.int .i64 (firZ l).1, .int .i64 (firZ l).2.1, .bool (firZ l).2.2], [i]) := firT_e h
/-- What Read gives: the text, its number, how many blocks; the place of what is wrong, or -1. -/
structure Rd where
  t : ByteArray
  q : Int
  n : Int
  bad : Int
def rdZ (l : List ByteArray) : Rd :=
  bif (firZ l).2.2 then
    (bif decide ((jnZ l (firZ l).1 (firZ l).2.1.toNat).2 ≥ 0) then ⟨⟨#[]⟩, 0, 0, (jnZ l (firZ l).1 (firZ l).2.1.toNat).2⟩
     else bif (datZ (jnZ l (firZ l).1 (firZ l).2.1.toNat).1).2 then ⟨(datZ (jnZ l (firZ l).1 (firZ l).2.1.toNat).1).1, (firZ l).1, (firZ l).2.1, -1⟩ else ⟨⟨#[]⟩, 0, 0, 0⟩)
  else ⟨⟨#[]⟩, 0, 0, 0⟩
def rdA (x : Rd) : AV := .tup [.str x.t, .int .i64 x.q, .int .i64 x.n, bif x.bad == -1 then .nili else .ifc 121 (.ptr 1 0 0)]
def rdM (l : List ByteArray) (x : Rd) : Mem := some (.row true 1 (l.map strC)) :: bif x.bad == -1 then [] else wrM x.bad
noncomputable abbrev tRd : List (FuncId × RT) := [(68, firT), (70, jnT), (71, datRT)]
theorem okRd : CtxOK S0 (ctxE S0 tRd [] [(69, wrT)]) := ctxE_ok ⟨firT_ok, jnT_ok, datRT_ok, trivial⟩ trivial ⟨wrT_ok, trivial⟩ mixed
theorem read_ok (l : List ByteArray) (hl : l.length ≤ 1048576) : CallA1 S0 56 [.slc 0 0 l.length none] [some (.row true 1 (l.map strC))] fun r m => r = rdA (rdZ l) ∧ m = rdM l (rdZ l) := by
  refine CallA1.fin ?_
  refine fun_sound okRd Tryd.func56 c56 ?_
  unfold wpF F56
  cases h1 : (firZ l).2.2
  · have hz : rdZ l = ⟨⟨#[]⟩, 0, 0, 0⟩ := by rw [rdZ, h1]; rfl
    simp only [AH.SD, AH.wpOp, AOp.call?, AOp.next?, bstep, AOp.map, Opd.ev, tget, argTm, evs, AV.cells, St.eff, St.put, applyWr, mset, terase, pureE, unAV, intOp, binAV, fill, mget, AH.rowAt, AH.part, retQ, rvs, retV, AH.splice, AH.sliceElems, AH.bytesOf, AH.strOp, AH.bound, AH.addLog, AH.missQ, AH.minmaxAV, AH.wpOpD, AH.readOf, AH.effOf, AH.mapAt, AH.iterAt, Nat.reduceBEq, Nat.reduceAdd, Nat.reduceLT, ↓reduceIte, Nat.reduceEqDiff, Nat.reduceLeDiff, Nat.reduceSub, Nat.reduceMul, Int.reduceSub, Int.reduceToNat, Int.reduceBEq, Int.reduceBNe, Int.reduceLT, Int.reduceGT, Int.reduceLE, Int.reduceGE, Int.reduceNeg, Int.reduceAdd, AH.PD, heads, distN, AH.inN, posN, packM, packB, packTm, liveB, AV.inB, AV.insB, AV.ren, AV.rens, Blk.ren, Blk.inB, vstep, tput, vw, shift, newOnes, rowsM, blkIn, rwB, @flat_lts, AV.lt, AV.lts, Nat.sub_self, AH.rtO_eq, AH.rtO2_eq, AH.rtO2_none, AH.etO_eq, AH.etO2_eq, AH.etO2_none, AH.useO_some, AH.rtElse_eq, AH.elseO_some, AH.elseO_none, AH.etN_eq, Option.bind_some, Option.bind_none, AH.pairO_some, AH.pairO_none, AH.cC_dec, AH.cC_nil, AH.c0_dec, AH.c0_dec1, AH.aI_dec, AH.aS_dec, AH.aB_dec, AH.aNil_dec, AH.aNil_ptr, Option.map_none, effS, wrS, newS, backNo, AH.isIn, AH.posOf, AH.rwB, List.all_cons, List.all_nil, List.getElem?_cons_zero, List.getElem?_cons_succ, List.getElem?_nil, AH.appE_some, List.contains_cons, List.contains_nil, Nat.add_zero, firT_p, firT_f hl, h1, wrT_eq, wrA, wrM]
    refine ⟨[0, 1], [], ?_⟩
    simp only [AH.SD, AH.wpOp, AOp.call?, AOp.next?, bstep, AOp.map, Opd.ev, tget, argTm, evs, AV.cells, St.eff, St.put, applyWr, mset, terase, pureE, unAV, intOp, binAV, fill, mget, AH.rowAt, AH.part, retQ, rvs, retV, AH.splice, AH.sliceElems, AH.bytesOf, AH.strOp, AH.bound, AH.addLog, AH.missQ, AH.minmaxAV, AH.wpOpD, AH.readOf, AH.effOf, AH.mapAt, AH.iterAt, Nat.reduceBEq, Nat.reduceAdd, Nat.reduceLT, ↓reduceIte, Nat.reduceEqDiff, Nat.reduceLeDiff, Nat.reduceSub, Nat.reduceMul, Int.reduceSub, Int.reduceToNat, Int.reduceBEq, Int.reduceBNe, Int.reduceLT, Int.reduceGT, Int.reduceLE, Int.reduceGE, Int.reduceNeg, Int.reduceAdd, AH.PD, heads, distN, AH.inN, posN, packM, packB, packTm, liveB, AV.inB, AV.insB, AV.ren, AV.rens, Blk.ren, Blk.inB, vstep, tput, hz, rdA, rdM, wrM, show ((0 : Int) == -1) = false from rfl]
  · obtain ⟨q1, q2, q3, q4⟩ := firZ_in h1
    obtain ⟨K, hK⟩ := Int.eq_ofNat_of_zero_le (by omega : 0 ≤ (firZ l).2.1)
    have hKn : (firZ l).2.1.toNat = K := by omega
    have jq := fun (i : Nat) (ro : Bool) => jnQ_eq (l := l) (id := i) (ro := ro) (seq := (firZ l).1) hl (show K ≤ 1000 by omega)
    rcases joinS_at l (firZ l).1 K K 0 ⟨#[]⟩ with hj | hj
    · have hsz : (jnZ l (firZ l).1 K).1.size = 56 * K := by have := joinS_sz l (firZ l).1 K K 0 ⟨#[]⟩ hj; rw [jnZ, this]; show 0 + 56 * K = 56 * K; omega
      have hneg : decide ((jnZ l (firZ l).1 K).2 ≥ 0) = false := by rw [jnZ, hj]; rfl
      have h8 : 8 ≤ (jnZ l (firZ l).1 K).1.size := by omega
      have hok : okSz (jnZ l (firZ l).1 K).1 := by unfold okSz; omega
      cases hd : (datZ (jnZ l (firZ l).1 K).1).2
      · have hz : rdZ l = ⟨⟨#[]⟩, 0, 0, 0⟩ := by rw [rdZ, h1, hKn, hneg, hd]; rfl
        simp only [AH.SD, AH.wpOp, AOp.call?, AOp.next?, bstep, AOp.map, Opd.ev, tget, argTm, evs, AV.cells, St.eff, St.put, applyWr, mset, terase, pureE, unAV, intOp, binAV, fill, mget, AH.rowAt, AH.part, retQ, rvs, retV, AH.splice, AH.sliceElems, AH.bytesOf, AH.strOp, AH.bound, AH.addLog, AH.missQ, AH.minmaxAV, AH.wpOpD, AH.readOf, AH.effOf, AH.mapAt, AH.iterAt, Nat.reduceBEq, Nat.reduceAdd, Nat.reduceLT, ↓reduceIte, Nat.reduceEqDiff, Nat.reduceLeDiff, Nat.reduceSub, Nat.reduceMul, Int.reduceSub, Int.reduceToNat, Int.reduceBEq, Int.reduceBNe, Int.reduceLT, Int.reduceGT, Int.reduceLE, Int.reduceGE, Int.reduceNeg, Int.reduceAdd, AH.PD, heads, distN, AH.inN, posN, packM, packB, packTm, liveB, AV.inB, AV.insB, AV.ren, AV.rens, Blk.ren, Blk.inB, vstep, tput, vw, shift, newOnes, rowsM, blkIn, rwB, @flat_lts, AV.lt, AV.lts, Nat.sub_self, AH.rtO_eq, AH.rtO2_eq, AH.rtO2_none, AH.etO_eq, AH.etO2_eq, AH.etO2_none, AH.useO_some, AH.rtElse_eq, AH.elseO_some, AH.elseO_none, AH.etN_eq, Option.bind_some, Option.bind_none, AH.pairO_some, AH.pairO_none, AH.cC_dec, AH.cC_nil, AH.c0_dec, AH.c0_dec1, AH.aI_dec, AH.aS_dec, AH.aB_dec, AH.aNil_dec, AH.aNil_ptr, Option.map_none, effS, wrS, newS, backNo, AH.isIn, AH.posOf, AH.rwB, List.all_cons, List.all_nil, List.getElem?_cons_zero, List.getElem?_cons_succ, List.getElem?_nil, AH.appE_some, List.contains_cons, List.contains_nil, Nat.add_zero, firT_p, firT_f hl, h1, hK, jnT_p, jq, hneg, datRT_p h8 hok, hd, wrT_eq, wrA, wrM]
        refine ⟨[0, 1], [], ?_⟩
        simp only [AH.SD, AH.wpOp, AOp.call?, AOp.next?, bstep, AOp.map, Opd.ev, tget, argTm, evs, AV.cells, St.eff, St.put, applyWr, mset, terase, pureE, unAV, intOp, binAV, fill, mget, AH.rowAt, AH.part, retQ, rvs, retV, AH.splice, AH.sliceElems, AH.bytesOf, AH.strOp, AH.bound, AH.addLog, AH.missQ, AH.minmaxAV, AH.wpOpD, AH.readOf, AH.effOf, AH.mapAt, AH.iterAt, Nat.reduceBEq, Nat.reduceAdd, Nat.reduceLT, ↓reduceIte, Nat.reduceEqDiff, Nat.reduceLeDiff, Nat.reduceSub, Nat.reduceMul, Int.reduceSub, Int.reduceToNat, Int.reduceBEq, Int.reduceBNe, Int.reduceLT, Int.reduceGT, Int.reduceLE, Int.reduceGE, Int.reduceNeg, Int.reduceAdd, AH.PD, heads, distN, AH.inN, posN, packM, packB, packTm, liveB, AV.inB, AV.insB, AV.ren, AV.rens, Blk.ren, Blk.inB, vstep, tput, hz, rdA, rdM, wrM, show ((0 : Int) == -1) = false from rfl]
      · have hz : rdZ l = ⟨(datZ (jnZ l (firZ l).1 K).1).1, (firZ l).1, (firZ l).2.1, -1⟩ := by rw [rdZ, h1, hKn, hneg, hd]; rfl
        simp only [AH.SD, AH.wpOp, AOp.call?, AOp.next?, bstep, AOp.map, Opd.ev, tget, argTm, evs, AV.cells, St.eff, St.put, applyWr, mset, terase, pureE, unAV, intOp, binAV, fill, mget, AH.rowAt, AH.part, retQ, rvs, retV, AH.splice, AH.sliceElems, AH.bytesOf, AH.strOp, AH.bound, AH.addLog, AH.missQ, AH.minmaxAV, AH.wpOpD, AH.readOf, AH.effOf, AH.mapAt, AH.iterAt, Nat.reduceBEq, Nat.reduceAdd, Nat.reduceLT, ↓reduceIte, Nat.reduceEqDiff, Nat.reduceLeDiff, Nat.reduceSub, Nat.reduceMul, Int.reduceSub, Int.reduceToNat, Int.reduceBEq, Int.reduceBNe, Int.reduceLT, Int.reduceGT, Int.reduceLE, Int.reduceGE, Int.reduceNeg, Int.reduceAdd, AH.PD, heads, distN, AH.inN, posN, packM, packB, packTm, liveB, AV.inB, AV.insB, AV.ren, AV.rens, Blk.ren, Blk.inB, vstep, tput, vw, shift, newOnes, rowsM, blkIn, rwB, @flat_lts, AV.lt, AV.lts, Nat.sub_self, AH.rtO_eq, AH.rtO2_eq, AH.rtO2_none, AH.etO_eq, AH.etO2_eq, AH.etO2_none, AH.useO_some, AH.rtElse_eq, AH.elseO_some, AH.elseO_none, AH.etN_eq, Option.bind_some, Option.bind_none, AH.pairO_some, AH.pairO_none, AH.cC_dec, AH.cC_nil, AH.c0_dec, AH.c0_dec1, AH.aI_dec, AH.aS_dec, AH.aB_dec, AH.aNil_dec, AH.aNil_ptr, Option.map_none, effS, wrS, newS, backNo, AH.isIn, AH.posOf, AH.rwB, List.all_cons, List.all_nil, List.getElem?_cons_zero, List.getElem?_cons_succ, List.getElem?_nil, AH.appE_some, List.contains_cons, List.contains_nil, Nat.add_zero, firT_p, firT_f hl, h1, hK, jnT_p, jq, hneg, datRT_p h8 hok, hd]
        refine ⟨[0], [], ?_⟩
        simp only [AH.SD, AH.wpOp, AOp.call?, AOp.next?, bstep, AOp.map, Opd.ev, tget, argTm, evs, AV.cells, St.eff, St.put, applyWr, mset, terase, pureE, unAV, intOp, binAV, fill, mget, AH.rowAt, AH.part, retQ, rvs, retV, AH.splice, AH.sliceElems, AH.bytesOf, AH.strOp, AH.bound, AH.addLog, AH.missQ, AH.minmaxAV, AH.wpOpD, AH.readOf, AH.effOf, AH.mapAt, AH.iterAt, Nat.reduceBEq, Nat.reduceAdd, Nat.reduceLT, ↓reduceIte, Nat.reduceEqDiff, Nat.reduceLeDiff, Nat.reduceSub, Nat.reduceMul, Int.reduceSub, Int.reduceToNat, Int.reduceBEq, Int.reduceBNe, Int.reduceLT, Int.reduceGT, Int.reduceLE, Int.reduceGE, Int.reduceNeg, Int.reduceAdd, AH.PD, heads, distN, AH.inN, posN, packM, packB, packTm, liveB, AV.inB, AV.insB, AV.ren, AV.rens, Blk.ren, Blk.inB, vstep, tput, hz, rdA, rdM, hK, show ((-1 : Int) == -1) = true from rfl]
    · have hpos : decide ((jnZ l (firZ l).1 K).2 ≥ 0) = true := decide_eq_true (show (joinS l (firZ l).1 K K 0 ⟨#[]⟩).2 ≥ 0 from hj)
      have hne : ((jnZ l (firZ l).1 K).2 == -1) = false := by simp only [jnZ, beq_eq_false_iff_ne]; omega
      have hz : rdZ l = ⟨⟨#[]⟩, 0, 0, (jnZ l (firZ l).1 K).2⟩ := by rw [rdZ, h1, hKn, hpos]; rfl
      simp only [AH.SD, AH.wpOp, AOp.call?, AOp.next?, bstep, AOp.map, Opd.ev, tget, argTm, evs, AV.cells, St.eff, St.put, applyWr, mset, terase, pureE, unAV, intOp, binAV, fill, mget, AH.rowAt, AH.part, retQ, rvs, retV, AH.splice, AH.sliceElems, AH.bytesOf, AH.strOp, AH.bound, AH.addLog, AH.missQ, AH.minmaxAV, AH.wpOpD, AH.readOf, AH.effOf, AH.mapAt, AH.iterAt, Nat.reduceBEq, Nat.reduceAdd, Nat.reduceLT, ↓reduceIte, Nat.reduceEqDiff, Nat.reduceLeDiff, Nat.reduceSub, Nat.reduceMul, Int.reduceSub, Int.reduceToNat, Int.reduceBEq, Int.reduceBNe, Int.reduceLT, Int.reduceGT, Int.reduceLE, Int.reduceGE, Int.reduceNeg, Int.reduceAdd, AH.PD, heads, distN, AH.inN, posN, packM, packB, packTm, liveB, AV.inB, AV.insB, AV.ren, AV.rens, Blk.ren, Blk.inB, vstep, tput, vw, shift, newOnes, rowsM, blkIn, rwB, @flat_lts, AV.lt, AV.lts, Nat.sub_self, AH.rtO_eq, AH.rtO2_eq, AH.rtO2_none, AH.etO_eq, AH.etO2_eq, AH.etO2_none, AH.useO_some, AH.rtElse_eq, AH.elseO_some, AH.elseO_none, AH.etN_eq, Option.bind_some, Option.bind_none, AH.pairO_some, AH.pairO_none, AH.cC_dec, AH.cC_nil, AH.c0_dec, AH.c0_dec1, AH.aI_dec, AH.aS_dec, AH.aB_dec, AH.aNil_dec, AH.aNil_ptr, Option.map_none, effS, wrS, newS, backNo, AH.isIn, AH.posOf, AH.rwB, List.all_cons, List.all_nil, List.getElem?_cons_zero, List.getElem?_cons_succ, List.getElem?_nil, AH.appE_some, List.contains_cons, List.contains_nil, Nat.add_zero, firT_p, firT_f hl, h1, hK, jnT_p, jq, hpos, wrT_eq, wrA, wrM]
      refine ⟨[0, 1], [], ?_⟩
      simp only [AH.SD, AH.wpOp, AOp.call?, AOp.next?, bstep, AOp.map, Opd.ev, tget, argTm, evs, AV.cells, St.eff, St.put, applyWr, mset, terase, pureE, unAV, intOp, binAV, fill, mget, AH.rowAt, AH.part, retQ, rvs, retV, AH.splice, AH.sliceElems, AH.bytesOf, AH.strOp, AH.bound, AH.addLog, AH.missQ, AH.minmaxAV, AH.wpOpD, AH.readOf, AH.effOf, AH.mapAt, AH.iterAt, Nat.reduceBEq, Nat.reduceAdd, Nat.reduceLT, ↓reduceIte, Nat.reduceEqDiff, Nat.reduceLeDiff, Nat.reduceSub, Nat.reduceMul, Int.reduceSub, Int.reduceToNat, Int.reduceBEq, Int.reduceBNe, Int.reduceLT, Int.reduceGT, Int.reduceLE, Int.reduceGE, Int.reduceNeg, Int.reduceAdd, AH.PD, heads, distN, AH.inN, posN, packM, packB, packTm, liveB, AV.inB, AV.insB, AV.ren, AV.rens, Blk.ren, Blk.inB, vstep, tput, hz, rdA, rdM, wrM, hne]
def rdT : ET := etO (sxO cStr 1) c0 fun l _ => if l.length ≤ 1048576 then some (rdA (rdZ l), rdM l (rdZ l)) else none
theorem rdT_ok : EffF S0 56 rdT := etO_ok fun l _ v m' h => by
  split at h
  · rename_i hl
    simp only [Option.some.injEq, Prod.mk.injEq] at h
    obtain ⟨rfl, rfl⟩ := h
    refine ⟨⟨?_, ?_⟩, read_ok l hl⟩
    · unfold rdM; simp [sxO]
    · unfold rdM
      cases (rdZ l).bad == -1 <;> rfl
  · cases h
theorem rdT_p {i n k : Nat} {M : Nat → Option Blk} : rdT [.slc i 0 k none] M n = etO2 n (fun (l : List ByteArray) (_ : Unit) => if l.length ≤ 1048576 then some (rdA (rdZ l), rdM l (rdZ l)) else none) (sxR cStr 1 k i (M i)) (some ()) := by
  simp only [rdT, etO_eq, c0_dec, sxO_dec]
end Go.Proofs.YthapdikdeoeplaaDoor.H6
end

section
open Go AH
set_option linter.unusedSimpArgs false
namespace Go.Proofs.YthapdikdeoeplaaDoor.H6
/- What was laid is read as it was. -/
theorem ex_left {a b : ByteArray} {i j : Nat} (h : j ≤ a.size) : (a ++ b).extract i j = a.extract i j := by
  apply ByteArray.ext
  simp only [ByteArray.data_extract, ByteArray.data_append, Array.extract_append]
  have h' : j ≤ a.data.size := h
  have : b.data.extract (i - a.data.size) (j - a.data.size) = #[] := by
    rw [Array.extract_eq_empty_iff]; omega
  rw [this, Array.append_empty]
theorem ex_right {a b : ByteArray} {i j : Nat} (h : a.size ≤ i) : (a ++ b).extract i j = b.extract (i - a.size) (j - a.size) := by
  apply ByteArray.ext
  simp only [ByteArray.data_extract, ByteArray.data_append, Array.extract_append]
  have h' : a.data.size ≤ i := h
  have : a.data.extract i j = #[] := by
    rw [Array.extract_eq_empty_iff]; omega
  rw [this, Array.empty_append]
  rfl
theorem ex_all {a : ByteArray} {n : Nat} (h : n = a.size) : a.extract 0 n = a := by rw [h]; exact ByteArray.extract_zero_size
theorem tl_self (a : ByteArray) : (a.toList == a.toList) = true := beq_self_eq_true _
theorem byt_nat (n : Int) (i : Nat) : ((byt n i).toNat : Int) = n / 256 ^ i % 256 := by
  have h0 : 0 ≤ n / 256 ^ i % 256 := Int.emod_nonneg _ (by decide)
  have h1 : n / 256 ^ i % 256 < 256 := Int.emod_lt_of_pos _ (by decide)
  unfold byt
  rw [UInt8.toNat_ofNat_of_lt' (by show _ < 256; omega)]
  omega
theorem val_num4 {n : Int} (h0 : 0 ≤ n) (h1 : n < 4294967296) : valS (num4 n) = n := by
  show val4 (byt n 0) (byt n 1) (byt n 2) (byt n 3) = n
  have e0 := byt_nat n 0
  have e1 := byt_nat n 1
  have e2 := byt_nat n 2
  have e3 := byt_nat n 3
  unfold val4
  simp only [Int.pow_zero, Int.ediv_one, show (256 : Int) ^ 1 = 256 from rfl, show (256 : Int) ^ 2 = 65536 from rfl, show (256 : Int) ^ 3 = 16777216 from rfl] at e0 e1 e2 e3
  omega
theorem val_num2 {n : Int} (h0 : 0 ≤ n) (h1 : n < 65536) : valS (num2 n) = n := by
  show val2 (byt n 0) (byt n 1) = n
  have e0 := byt_nat n 0
  have e1 := byt_nat n 1
  unfold val2
  simp only [Int.pow_zero, Int.ediv_one, show (256 : Int) ^ 1 = 256 from rfl] at e0 e1
  omega
theorem u64_id {n : Int} (h0 : 0 ≤ n) (h1 : n < 4294967296) : IntKind.u64.wrap n = n := by rw [IntKind.wrap_u64]; omega
/- An end's parts. -/
theorem end_seq (a b c : Int) : (endS a b c).extract 0 4 = num4 (IntKind.u64.wrap a) := by
  rw [endS, ByteArray.append_assoc, ex_left (by rw [num4_sz]; exact Nat.le_refl _)]; exact ex_all rfl
theorem end_n (a b c : Int) : (endS a b c).extract 6 8 = num2 (IntKind.u64.wrap c) := by
  rw [endS, ex_right (by rw [ByteArray.size_append, num4_sz, num2_sz]; exact Nat.le_refl _)]
  exact ex_all rfl
theorem end_at (a b c : Int) : (endS a b c).extract 4 6 = num2 (IntKind.u64.wrap b) := by
  rw [endS, ex_left (by rw [ByteArray.size_append, num4_sz, num2_sz]; exact Nat.le_refl _), ex_right (by rw [num4_sz]; exact Nat.le_refl _)]
  exact ex_all rfl
theorem sizeN_le {d : ByteArray} (h : d.size ≤ 6000) : 1 ≤ sizeN d.size ∧ sizeN d.size ≤ 108 := by unfold sizeN; omega
theorem body_sz {d : ByteArray} {i : Nat} (h : i < sizeN d.size) : ((fullS d).extract (i * 56) ((i + 1) * 56)).size = 56 := by
  rw [ByteArray.size_extract, full_sz]; omega
theorem blk_sz {seq : Int} {d : ByteArray} {i : Nat} (h : i < sizeN d.size) : (blkS seq d i).size = 64 := by
  rw [blkS, ByteArray.size_append, body_sz h, endS_sz]
theorem blk_body {seq : Int} {d : ByteArray} {i : Nat} (h : i < sizeN d.size) : (blkS seq d i).extract 0 56 = (fullS d).extract (i * 56) ((i + 1) * 56) := by
  rw [blkS, ex_left (by rw [body_sz h]; exact Nat.le_refl _)]; exact ex_all (body_sz h).symm
theorem blk_end {seq : Int} {d : ByteArray} {i : Nat} (h : i < sizeN d.size) : (blkS seq d i).extract 56 64 = endS seq i (sizeN d.size) := by
  rw [blkS, ex_right (by rw [body_sz h]; exact Nat.le_refl _), body_sz h]; exact ex_all rfl
theorem blk_at {seq : Int} {d : ByteArray} {k i : Nat} (h : i < k) (r : List ByteArray) : (blkL seq d k ++ r)[i]? = some (blkS seq d i) := by
  rw [List.getElem?_append_left (by rw [blkL_len]; exact h)]
  simp [blkL, h]
theorem blk_good {seq : Int} {d : ByteArray} {i k : Nat} (h : i < sizeN d.size) (hk : i < k) (r : List ByteArray) : badJ (blkL seq d k ++ r) seq (sizeN d.size) i = false := by
  have hs := blk_sz (seq := seq) h
  have h64 : (((blkS seq d i).size : Int) != 64) = false := by rw [hs]; rfl
  simp only [badJ, blk_at hk r, h64, Bool.false_or]
  rw [hs, blk_end h, tl_self]; rfl
theorem blk_join {seq : Int} {d : ByteArray} (k : Nat) (r : List ByteArray) (hk : k = sizeN d.size) : ∀ (m i : Nat), i + m = k → joinS (blkL seq d k ++ r) seq (sizeN d.size) m i ((fullS d).extract 0 (i * 56)) = (fullS d, -1)
  | 0, i, h => by
    rw [joinS, ex_all]
    rw [full_sz]; congr 1; omega
  | m + 1, i, h => by
    rw [joinS, blk_good (by omega) (by omega) r, cond_false, blk_at (by omega) r, Option.getD_some, blk_body (by omega)]
    have : (fullS d).extract 0 (i * 56) ++ (fullS d).extract (i * 56) ((i + 1) * 56) = (fullS d).extract 0 ((i + 1) * 56) := by
      rw [ByteArray.extract_append_extract]
      congr 1 <;> omega
    rw [this]
    exact blk_join k r hk m (i + 1) (by omega)
theorem blk_first {seq : Int} {d : ByteArray} (h1 : 1 ≤ seq) (h2 : seq ≤ 2147483647) (h3 : d.size ≤ 6000) (k : Nat) (hk : 0 < k) (r : List ByteArray) : firZ (blkL seq d k ++ r) = (seq, (sizeN d.size : Int), true) := by
  obtain ⟨s1, s2⟩ := sizeN_le h3
  obtain ⟨l, hl⟩ : ∃ l, blkL seq d k ++ r = blkS seq d 0 :: l := by
    have := blk_at (seq := seq) (d := d) hk r
    cases hq : blkL seq d k ++ r with
    | nil => rw [hq] at this; cases this
    | cons x l => rw [hq] at this; simp at this; exact ⟨l, by rw [this]⟩
  have hs := blk_sz (seq := seq) (d := d) (i := 0) (by omega)
  have h64 : (((blkS seq d 0).size : Int) != 64) = false := by rw [hs]; rfl
  have he : tailE (blkS seq d 0) = endS seq 0 (sizeN d.size) := blk_end (by omega)
  have e1 : valS ((endS seq 0 (sizeN d.size)).extract 0 4) = seq := by rw [end_seq, u64_id (by omega) (by omega)]; exact val_num4 (by omega) (by omega)
  have e2 : valS ((endS seq 0 (sizeN d.size)).extract 6 8) = (sizeN d.size : Int) := by rw [end_n, u64_id (by omega) (by omega)]; exact val_num2 (by omega) (by omega)
  have c1 : decide (seq ≥ 1) = true := decide_eq_true h1
  have c2 : decide (seq ≤ 2147483647) = true := decide_eq_true h2
  have c3 : decide ((sizeN d.size : Int) ≥ 1) = true := decide_eq_true (by omega)
  have c4 : decide ((sizeN d.size : Int) ≤ 108) = true := decide_eq_true (by omega)
  rw [hl, firZ, firS, h64, cond_false, he, e1, e2, firB, c1, c2, c3, c4, cond_true, cond_true, cond_true, cond_true, tl_self]
end Go.Proofs.YthapdikdeoeplaaDoor.H6
end

section
open Go AH
set_option linter.unusedSimpArgs false
namespace Go.Proofs.YthapdikdeoeplaaDoor.H6
theorem tl_eq {a b : ByteArray} (h : (a.toList == b.toList) = true) : a = b := by
  have h1 := eq_of_beq h
  rw [ByteArray.toList_eq, ByteArray.toList_eq] at h1
  exact ByteArray.ext (Array.ext' h1)
theorem tl_ne {a b : ByteArray} (h : a ≠ b) : (a.toList == b.toList) = false := by
  cases hc : (a.toList == b.toList)
  · rfl
  · exact absurd (tl_eq hc) h
theorem more_in : ∀ (l : List UInt8) (n : Int), 0 ≤ n → n < 4294967296 → 0 ≤ moreL n l ∧ moreL n l < 4294967296
  | [], n, h0, h1 => ⟨h0, h1⟩
  | b :: r, n, _, _ => by
    have : 0 ≤ moreB n b ∧ moreB n b < 4294967296 := by
      unfold moreB
      rw [IntKind.wrap_u32]; omega
    exact more_in r _ this.1 this.2
theorem sumZ_in (d : ByteArray) : 0 ≤ sumZ d ∧ sumZ d < 4294967296 := more_in _ 1 (by decide) (by decide)
theorem rep_z (k : Nat) : allZ (repS ⟨#[0]⟩ k) := by
  intro b hb
  have hb' : b ∈ Lib.repeatL [0] k := by simpa [repS] using hb
  induction k with
  | zero => cases hb'
  | succ k ih =>
    simp only [Lib.repeatL, List.mem_append, List.mem_singleton] at hb'
    rcases hb' with h | h
    · exact h
    · exact ih (by simpa [repS] using h) h
theorem trim_z {s : ByteArray} (h : allZ s) : trim0 s = ⟨#[]⟩ := by
  have hz : trN s 0 s.size = 0 := trN_zero s s.size fun j hj => by
    have hj' : j < s.data.toList.length := hj
    rw [List.getD_eq_getElem?_getD, List.getElem?_eq_getElem hj']
    exact h _ (List.getElem_mem hj')
  unfold trim0
  rw [hz]
  cases hc : s.toList == (⟨#[]⟩ : ByteArray).toList
  · simp only [cond_false]
    apply ByteArray.ext
    simp [ByteArray.data_extract]
  · simp only [cond_true]
    exact tl_eq hc
theorem full_eq (d : ByteArray) : fullS d = num4 (IntKind.u64.wrap (d.size : Int)) ++ (num4 (IntKind.u64.wrap (sumZ d)) ++ (d ++ repS ⟨#[0]⟩ (padN d))) := by
  rw [fullS, headS, ByteArray.append_assoc, ByteArray.append_assoc]
theorem full_data {d : ByteArray} (h : d.size ≤ 6000) : datZ (fullS d) = (d, true) := by
  have hle : 8 + d.size ≤ sizeN d.size * 56 := by unfold sizeN; omega
  have hp : padN d = sizeN d.size * 56 - (8 + d.size) := by rw [padN, head_sz]
  have e0 : (fullS d).extract 0 4 = num4 (IntKind.u64.wrap (d.size : Int)) := by
    rw [full_eq, ex_left (by rw [num4_sz]; exact Nat.le_refl _)]; exact ex_all rfl
  have e4 : (fullS d).extract 4 8 = num4 (IntKind.u64.wrap (sumZ d)) := by
    rw [full_eq, ex_right (by rw [num4_sz]; exact Nat.le_refl _), num4_sz, ex_left (by rw [num4_sz]; exact Nat.le_refl _)]; exact ex_all rfl
  have e8 : (fullS d).extract 8 (8 + d.size) = d := by
    rw [full_eq, ex_right (by rw [num4_sz]; omega), num4_sz, ex_right (by rw [num4_sz]; omega), num4_sz, ex_left (by omega)]
    rw [show 8 - 4 - 4 = 0 from rfl]; exact ex_all (by omega)
  have er : (fullS d).extract (8 + d.size) (fullS d).size = repS ⟨#[0]⟩ (padN d) := by
    rw [full_sz, full_eq, ex_right (by rw [num4_sz]; omega), num4_sz, ex_right (by rw [num4_sz]; omega), num4_sz, ex_right (by omega)]
    rw [show 8 + d.size - 4 - 4 - d.size = 0 by omega]; exact ex_all (by rw [repS_sz]; omega)
  obtain ⟨z1, z2⟩ := sumZ_in d
  have v0 : valS ((fullS d).extract 0 4) = (d.size : Int) := by rw [e0, u64_id (by omega) (by omega)]; exact val_num4 (by omega) (by omega)
  have v4 : valS ((fullS d).extract 4 8) = sumZ d := by rw [e4, u64_id z1 z2]; exact val_num4 z1 z2
  have c1 : decide ((d.size : Int) > 6000) = false := decide_eq_false (by omega)
  have c2 : decide ((d.size : Int) > ((fullS d).size : Int) - 8) = false := decide_eq_false (by rw [full_sz]; omega)
  have hd : datT (fullS d) d.size = d := e8
  have w : IntKind.i64.wrap (sumZ d) = sumZ d := by rw [IntKind.wrap_i64]; omega
  have c3 : (((sizeN d.size * 56 : Nat) : Int) == ((fullS d).size : Int)) = true := by rw [full_sz]; exact beq_self_eq_true _
  have hq : datQ (fullS d) d.size = true := by
    rw [datQ, hd, er, trim_z (rep_z _), v4, w, c3, tl_self, cond_true, cond_true, beq_self_eq_true]
  rw [datZ, v0, c1, c2, cond_false, cond_false, Int.toNat_natCast, hd, hq]
/-- A text's blocks, whatever stands behind. -/
theorem read_back {seq : Int} {d : ByteArray} (h1 : 1 ≤ seq) (h2 : seq ≤ 2147483647) (h3 : d.size ≤ 6000) (r : List ByteArray) : rdZ (blkL seq d (sizeN d.size) ++ r) = ⟨d, seq, (sizeN d.size : Int), -1⟩ := by
  obtain ⟨s1, s2⟩ := sizeN_le h3
  have hf := blk_first h1 h2 h3 (sizeN d.size) (by omega) r
  have hj : jnZ (blkL seq d (sizeN d.size) ++ r) seq (sizeN d.size) = (fullS d, -1) := by
    have := blk_join (seq := seq) (d := d) (sizeN d.size) r rfl (sizeN d.size) 0 (by omega)
    rw [Nat.zero_mul] at this
    have e : (fullS d).extract 0 0 = ⟨#[]⟩ := by apply ByteArray.ext; simp [ByteArray.data_extract]
    rw [e] at this
    exact this
  rw [rdZ, hf]
  simp only [Int.toNat_natCast, hj, cond_true, full_data h3]
  rfl
end Go.Proofs.YthapdikdeoeplaaDoor.H6
end

section
open Go AH
set_option linter.unusedSimpArgs false
set_option maxRecDepth 100000
namespace Go.Proofs.YthapdikdeoeplaaDoor.H6
theorem bksT_p {q : Int} {d : ByteArray} {n : Nat} {M : Nat → Option Blk} : bksT [.int .i64 q, .str d] M n = useO [] n (if okBl (q, d, ()) then some (.tup [.slc 0 0 (sizeN d.size) none, .nili], [some (.row false 1 ((blkL q d (sizeN d.size)).map strC))]) else none) := by
  simp only [bksT, etN_eq, cC_dec, aI_dec, aS_dec, c0_dec, pairO_some, Option.bind_some]
theorem okSz_of {d : ByteArray} (h : d.size ≤ 7000) : okSz d := by unfold okSz; omega
theorem sizeT_q {d : ByteArray} {M : Nat → Option Blk} (h : okSz d) : sizeT [.str d] M = some (.int .i64 (sizeN d.size), []) := by
  rw [sizeT_p]; exact rtC1_eq h
end Go.Proofs.YthapdikdeoeplaaDoor.H6
end

section
open Go AH
set_option linter.unusedSimpArgs false
set_option maxRecDepth 100000
namespace Go.Proofs.YthapdikdeoeplaaDoor.H6
/- What a log does, in plain words. -/
def zeB : ByteArray := repS ⟨#[0]⟩ 64
theorem zeB_sz : zeB.size = 64 := repS_sz 64
/-- Of a log: blocks from one on, so many, are made zeros. -/
def wipeD (d : Dk) : Nat → Nat → Nat × Dk
  | 0, _ => (0, d)
  | k + 1, at_ => if d.away = true then (14, d) else if d.L.getD at_ ⟨#[]⟩ = zeB then wipeD d k (at_ + 1) else
      if (wrD d at_ zeB).1 = 0 then wipeD (wrD d at_ zeB).2 k (at_ + 1) else wrD d at_ zeB
def layD (d : Dk) (at_ : Nat) : List ByteArray → Nat × Dk
  | [] => (0, d)
  | s :: r => if (wrD d at_ s).1 = 0 then layD (wrD d at_ s).2 (at_ + 1) r else wrD d at_ s
/-- The records of blocks, and how many blocks they have. -/
def logR : Nat → List ByteArray → Int → List ByteArray × Nat
  | 0, _, _ => ([], 0)
  | k + 1, L, q => if (rdZ L).bad = -1 ∧ (rdZ L).q = q then ((rdZ L).t :: (logR k (L.drop (rdZ L).n.toNat) (q + 1)).1, (rdZ L).n.toNat + (logR k (L.drop (rdZ L).n.toNat) (q + 1)).2) else ([], 0)
def isBase (n : Int) : Prop := 0 ≤ n ∧ n ≤ 1073741824
instance (n : Int) : Decidable (isBase n) := by unfold isBase; infer_instance
def Lg.ok (l : Lg) : Prop := l.d.ok ∧ isBase l.b ∧ 0 ≤ l.f ∧ l.f ≤ l.a ∧ l.a ≤ l.t ∧ l.t ≤ (l.d.L.length : Int) ∧ (l.R.length : Int) ≤ l.a - l.f
instance (l : Lg) : Decidable l.ok := by unfold Lg.ok; infer_instance
def Lg.next (l : Lg) : Int := l.b + (l.R.length : Int) + 1
def Lg.room (l : Lg) : Int := l.t - l.a
/-- Add: its error, and the log behind it. -/
def addL (l : Lg) (s : ByteArray) : Nat × Lg :=
  if s.size > 6000 then (1, l) else
  if (sizeN s.size : Int) > l.room ∨ l.next ≥ 1073741824 then (7, l) else
  if l.down = true then (14, l) else
  if (layD l.d l.a.toNat (blkL l.next s (sizeN s.size))).1 = 0 then (0, { l with d := (layD l.d l.a.toNat (blkL l.next s (sizeN s.size))).2, a := l.a + sizeN s.size, R := l.R ++ [s] }) else
  ((layD l.d l.a.toNat (blkL l.next s (sizeN s.size))).1, { l with d := (layD l.d l.a.toNat (blkL l.next s (sizeN s.size))).2, down := (layD l.d l.a.toNat (blkL l.next s (sizeN s.size))).1 == 14 })
def rstL (l : Lg) (base : Int) : Nat × Lg :=
  if ¬ isBase base then (1, l) else
  if l.down = true then (14, l) else
  if (wipeD l.d (l.t - l.f).toNat l.f.toNat).1 = 0 then (0, { l with d := (wipeD l.d (l.t - l.f).toNat l.f.toNat).2, b := base, a := l.f, R := [] }) else
  ((wipeD l.d (l.t - l.f).toNat l.f.toNat).1, { l with d := (wipeD l.d (l.t - l.f).toNat l.f.toNat).2, down := (wipeD l.d (l.t - l.f).toNat l.f.toNat).1 == 14 })

/- Facts. -/
theorem chk_at {d : Dk} {i : Nat} (h : i < d.L.length) : chk d i = if d.away = true then 14 else 0 := by
  have h1 : decide ((i : Int) < 0) = false := by simp only [decide_eq_false_iff_not]; omega
  have h2 : decide ((i : Int) ≥ (d.L.length : Int)) = false := by simp only [decide_eq_false_iff_not]; omega
  unfold chk
  rw [h1, h2]
  cases d.away <;> rfl
theorem wrD_at {d : Dk} {i : Nat} {s : ByteArray} (h : i < d.L.length) (hs : s.size = 64) : wrD d i s = if d.away = true then (14, d) else
    if d.fuse = 0 then (14, { d with L := d.L.set i (s.extract 0 d.torn.toNat ++ (d.L.getD i ⟨#[]⟩).extract d.torn.toNat 64), away := true }) else
    (0, { d with L := d.L.set i s, fuse := maxI (IntKind.i64.wrap (d.fuse - 1)) (-1), writes := IntKind.i64.wrap (d.writes + 1) }) := by
  unfold wrD
  rw [if_neg (by omega), chk_at h]
  cases d.away
  · simp only [Bool.false_eq_true, if_false, ne_eq, not_true_eq_false, Int.toNat_natCast]
  · simp
theorem wrD_kinds {d : Dk} {i : Nat} {s : ByteArray} (h : i < d.L.length) (hs : s.size = 64) : (wrD d i s).1 = 0 ∨ (wrD d i s).1 = 14 := by
  rw [wrD_at h hs]
  split
  · exact .inr rfl
  · split
    · exact .inr rfl
    · exact .inl rfl
theorem wipe_ok : ∀ (k : Nat) {d : Dk} (at_ : Nat), d.ok → (wipeD d k at_).2.ok ∧ (wipeD d k at_).2.L.length = d.L.length
  | 0, d, at_, h => ⟨h, rfl⟩
  | k + 1, d, at_, h => by
    have h1 := wr_ok h at_ zeB
    have h2 := wr_len d at_ zeB
    unfold wipeD
    split
    · exact ⟨h, rfl⟩
    · split
      · exact wipe_ok k (at_ + 1) h
      · split
        · obtain ⟨g1, g2⟩ := wipe_ok k (at_ + 1) h1
          exact ⟨g1, g2.trans h2⟩
        · exact ⟨h1, h2⟩
theorem lay_ok : ∀ (L : List ByteArray) {d : Dk} (at_ : Nat), d.ok → (layD d at_ L).2.ok ∧ (layD d at_ L).2.L.length = d.L.length
  | [], d, at_, h => ⟨h, rfl⟩
  | s :: r, d, at_, h => by
    have h1 := wr_ok h at_ s
    have h2 := wr_len d at_ s
    unfold layD
    split
    · obtain ⟨g1, g2⟩ := lay_ok r (at_ + 1) h1
      exact ⟨g1, g2.trans h2⟩
    · exact ⟨h1, h2⟩
theorem wipe_kind : ∀ (k : Nat) {d : Dk} (at_ : Nat), at_ + k ≤ d.L.length → (wipeD d k at_).1 = 0 ∨ (wipeD d k at_).1 = 14
  | 0, d, at_, _ => .inl rfl
  | k + 1, d, at_, h => by
    unfold wipeD
    split
    · exact .inr rfl
    · split
      · exact wipe_kind k (at_ + 1) (by omega)
      · split
        · exact wipe_kind k (at_ + 1) (by rw [wr_len]; omega)
        · rename_i q
          exact .inr ((wrD_kinds (by omega) zeB_sz).resolve_left q)
theorem lay_kind : ∀ (L : List ByteArray) {d : Dk} (at_ : Nat), at_ + L.length ≤ d.L.length → (∀ s ∈ L, s.size = 64) → (layD d at_ L).1 = 0 ∨ (layD d at_ L).1 = 14
  | [], d, at_, _, _ => .inl rfl
  | s :: r, d, at_, h, hs => by
    unfold layD
    simp only [List.length_cons] at h
    split
    · exact lay_kind r (at_ + 1) (by rw [wr_len]; omega) fun x hx => hs x (List.mem_cons_of_mem _ hx)
    · rename_i q
      exact .inr ((wrD_kinds (by omega) (hs s (List.mem_cons_self ..))).resolve_left q)
theorem blkL_sz {q : Int} {s : ByteArray} {n : Nat} (h : n ≤ sizeN s.size) : ∀ x ∈ blkL q s n, x.size = 64 := by
  intro x hx
  simp only [blkL, List.mem_map, List.mem_range] at hx
  obtain ⟨i, hi, rfl⟩ := hx
  exact blk_sz (by omega)
theorem sizeN_pos (n : Nat) : 1 ≤ sizeN n := by unfold sizeN; omega
theorem joinS_le {l : List ByteArray} {q : Int} {n : Nat} : ∀ (m i : Nat) (a0 : ByteArray), (joinS l q n m i a0).2 = -1 → m = 0 ∨ i + m ≤ l.length
  | 0, _, _, _ => .inl rfl
  | m + 1, i, a0, h => by
    unfold joinS at h
    cases hb : badJ l q n i
    · rw [hb, cond_false] at h
      obtain ⟨s, hs, _⟩ := badJ_ok hb
      have hi : i < l.length := (List.getElem?_eq_some_iff.1 hs).1
      rcases joinS_le m (i + 1) _ h with e | e
      · right; omega
      · right; omega
    · rw [hb, cond_true] at h
      simp only at h
      omega
theorem datZ_sz {s : ByteArray} (h : (datZ s).2 = true) : (datZ s).1.size ≤ 6000 := by
  unfold datZ at h ⊢
  cases h1 : decide (valS (s.extract 0 4) > 6000)
  · rw [h1, cond_false] at h
    rw [cond_false]
    cases h2 : decide (valS (s.extract 0 4) > (s.size : Int) - 8)
    · rw [cond_false]
      show (datT s _).size ≤ 6000
      simp only [decide_eq_false_iff_not] at h1
      rw [datT, ByteArray.size_extract]; omega
    · rw [h2] at h; cases h
  · rw [h1] at h; cases h
theorem rdZ_good {L : List ByteArray} (h : (rdZ L).bad = -1) : 1 ≤ (rdZ L).n ∧ (rdZ L).n.toNat ≤ L.length ∧ (rdZ L).t.size ≤ 6000 ∧ 1 ≤ (rdZ L).q ∧ (rdZ L).q ≤ 2147483647 := by
  unfold rdZ at h ⊢
  cases h1 : (firZ L).2.2
  · rw [h1] at h; cases h
  · rw [h1, cond_true] at h
    rw [cond_true]
    obtain ⟨q1, q2, q3, q4⟩ := firZ_in h1
    cases h2 : decide ((jnZ L (firZ L).1 (firZ L).2.1.toNat).2 ≥ 0)
    · rw [h2, cond_false] at h
      rw [cond_false]
      cases h3 : (datZ (jnZ L (firZ L).1 (firZ L).2.1.toNat).1).2
      · rw [h3] at h; cases h
      · simp only [cond_true]
        refine ⟨q3, ?_, datZ_sz h3, q1, q2⟩
        have := joinS_at L (firZ L).1 (firZ L).2.1.toNat (firZ L).2.1.toNat 0 ⟨#[]⟩
        simp only [decide_eq_false_iff_not] at h2
        have h4 := this.resolve_right h2
        rcases joinS_le _ _ _ h4 with e | e <;> omega
    · rw [h2, cond_true] at h
      simp only at h
      simp only [decide_eq_true_eq] at h2
      omega
theorem logR_le : ∀ (k : Nat) (L : List ByteArray) (q : Int), (logR k L q).2 ≤ L.length ∧ (logR k L q).1.length ≤ (logR k L q).2 ∧ ∀ s ∈ (logR k L q).1, s.size ≤ 6000
  | 0, L, q => ⟨Nat.zero_le _, Nat.le_refl _, by simp [logR]⟩
  | k + 1, L, q => by
    unfold logR
    split
    · rename_i h
      obtain ⟨g1, g2, g3, _⟩ := rdZ_good h.1
      obtain ⟨k1, k2, k3⟩ := logR_le k (L.drop (rdZ L).n.toNat) (q + 1)
      rw [List.length_drop] at k1
      refine ⟨by simp only; omega, by simp only [List.length_cons]; omega, fun s hs => ?_⟩
      rcases List.mem_cons.1 hs with rfl | hs
      · exact g3
      · exact k3 s hs
    · exact ⟨Nat.zero_le _, Nat.le_refl _, by simp⟩
end Go.Proofs.YthapdikdeoeplaaDoor.H6
end

section
open Go AH
namespace Go.Proofs.YthapdikdeoeplaaDoor.H6
-- quitrent/log.isBase
def F35 : AFun := ⟨9, 1, [.tmp 2], (.seq (.reg [ ⟨(some 2), none, .mov (.c (.bool false))⟩]) (.seq (.reg [ ⟨(some 3), none, .mov (.t 0)⟩, ⟨(some 4), none, .ibin .geq (.t 3) (.c (.int .i64 0))⟩, ⟨(some 5), none, .mov (.t 4)⟩, ⟨(some 6), (some (5, true)), .mov (.t 0)⟩, ⟨(some 7), (some (5, true)), .ibin .leq (.t 6) (.c (.int .i64 1073741824))⟩, ⟨(some 8), none, .pick (.t 5) (.t 7) (.c (.bool false))⟩, ⟨(some 2), none, .mov (.t 8)⟩]) .ret))⟩

-- (*quitrent/log.Log).blocks
def F36 : AFun := ⟨37, 1, [.tmp 2, .tmp 3], (.seq (.reg [ ⟨(some 2), none, .mov (.c .nils)⟩, ⟨(some 3), none, .mov (.c .nili)⟩]) (.seq (.reg [ ⟨(some 4), none, .mov (.c .nils)⟩]) (.seq (.seq (.reg [ ⟨(some 8), none, .mov (.t 0)⟩, ⟨(some 9), none, .nilchk (.t 8)⟩, ⟨(some 10), none, .faddr 1 (.t 9)⟩, ⟨(some 11), none, .load false 1 (.t 10)⟩, ⟨(some 5), none, .mov (.t 11)⟩]) (.block 0 (.loop (.seq (.seq (.reg [ ⟨(some 12), none, .mov (.t 5)⟩, ⟨(some 13), none, .mov (.t 0)⟩, ⟨(some 14), none, .nilchk (.t 13)⟩, ⟨(some 15), none, .faddr 2 (.t 14)⟩, ⟨(some 16), none, .load false 1 (.t 15)⟩, ⟨(some 17), none, .ibin .lss (.t 12) (.t 16)⟩]) (.cond (.t 17) .skip (.exit 0))) (.seq (.block 1 (.seq (.reg [ ⟨(some 21), none, .mov (.t 0)⟩, ⟨(some 22), none, .nilchk (.t 21)⟩, ⟨(some 23), none, .faddr 0 (.t 22)⟩, ⟨(some 24), none, .load false 1 (.t 23)⟩, ⟨(some 25), none, .mov (.t 5)⟩, ⟨(some 26), none, .call (.c (.fn 55 [] [])) [(.t 24), (.t 25)]⟩, ⟨(some 20), none, .mov (.t 26)⟩, ⟨(some 27), none, .extract (.t 20) 0⟩, ⟨(some 28), none, .extract (.t 20) 1⟩, ⟨(some 6), none, .mov (.t 27)⟩, ⟨(some 7), none, .mov (.t 28)⟩]) (.seq (.seq (.reg [ ⟨(some 29), none, .mov (.t 7)⟩, ⟨(some 30), none, .eq true .iface true (.t 29) (.c .nili)⟩]) (.cond (.t 30) (.seq (.reg [ ⟨(some 31), none, .mov (.t 7)⟩, ⟨(some 2), none, .mov (.c .nils)⟩, ⟨(some 3), none, .mov (.t 31)⟩]) .ret) .skip)) (.reg [ ⟨(some 32), none, .mov (.t 4)⟩, ⟨(some 33), none, .mov (.t 6)⟩, ⟨(some 34), none, .bslice 1 1 [(.str ⟨#[]⟩)] [(0, 1, (.t 33))]⟩, ⟨(some 35), none, .append 1 16 [(.str ⟨#[]⟩)] (.t 32) (.t 34)⟩, ⟨(some 4), none, .mov (.t 35)⟩])))) (.reg [ ⟨(some 18), none, .mov (.t 5)⟩, ⟨(some 19), none, .ibin .add (.t 18) (.c (.int .i64 1))⟩, ⟨(some 5), none, .mov (.t 19)⟩])))))) (.seq (.reg [ ⟨(some 36), none, .mov (.t 4)⟩, ⟨(some 2), none, .mov (.t 36)⟩, ⟨(some 3), none, .mov (.c .nili)⟩]) .ret))))⟩

-- (*quitrent/log.Log).read
def F37 : AFun := ⟨47, 2, [], (.block 0 (.loop (.seq (.seq (.reg [ ⟨(some 8), none, .mov (.t 1)⟩, ⟨(some 9), none, .len .sl (.t 8)⟩, ⟨(some 10), none, .ibin .gtr (.t 9) (.c (.int .i64 0))⟩]) (.cond (.t 10) .skip (.exit 0))) (.block 1 (.seq (.reg [ ⟨(some 12), none, .mov (.t 1)⟩, ⟨(some 13), none, .call (.c (.fn 56 [] [])) [(.t 12)]⟩, ⟨(some 11), none, .mov (.t 13)⟩, ⟨(some 14), none, .extract (.t 11) 0⟩, ⟨(some 15), none, .extract (.t 11) 1⟩, ⟨(some 16), none, .extract (.t 11) 2⟩, ⟨(some 17), none, .extract (.t 11) 3⟩, ⟨(some 4), none, .mov (.t 14)⟩, ⟨(some 5), none, .mov (.t 15)⟩, ⟨(some 6), none, .mov (.t 16)⟩, ⟨(some 7), none, .mov (.t 17)⟩]) (.seq (.seq (.reg [ ⟨(some 18), none, .mov (.t 7)⟩, ⟨(some 19), none, .eq true .iface true (.t 18) (.c .nili)⟩, ⟨(some 20), none, .mov (.t 19)⟩, ⟨(some 21), (some (20, false)), .mov (.t 5)⟩, ⟨(some 22), (some (20, false)), .mov (.t 0)⟩, ⟨(some 23), (some (20, false)), .call (.c (.fn 23 [] [])) [(.t 22)]⟩, ⟨(some 24), (some (20, false)), .ibin .neq (.t 21) (.t 23)⟩, ⟨(some 25), none, .pick (.t 20) (.c (.bool true)) (.t 24)⟩]) (.cond (.t 25) .ret .skip)) (.seq (.reg [ ⟨(some 26), none, .mov (.t 0)⟩, ⟨(some 27), none, .mov (.t 0)⟩, ⟨(some 28), none, .nilchk (.t 27)⟩, ⟨(some 29), none, .faddr 5 (.t 28)⟩, ⟨(some 30), none, .load false 1 (.t 29)⟩, ⟨(some 31), none, .mov (.t 4)⟩, ⟨(some 32), none, .bslice 1 1 [(.str ⟨#[]⟩)] [(0, 1, (.t 31))]⟩, ⟨(some 33), none, .append 1 16 [(.str ⟨#[]⟩)] (.t 30) (.t 32)⟩, ⟨(some 34), none, .nilchk (.t 26)⟩, ⟨(some 35), none, .faddr 5 (.t 34)⟩, ⟨none, none, .store 1 (.t 35) (.t 33)⟩]) (.seq (.reg [ ⟨(some 36), none, .mov (.t 0)⟩, ⟨(some 37), none, .nilchk (.t 36)⟩, ⟨(some 38), none, .faddr 4 (.t 37)⟩, ⟨(some 39), none, .load false 1 (.t 38)⟩, ⟨(some 40), none, .mov (.t 6)⟩, ⟨(some 41), none, .ibin .add (.t 39) (.t 40)⟩, ⟨(some 42), none, .nilchk (.t 36)⟩, ⟨(some 43), none, .faddr 4 (.t 42)⟩, ⟨none, none, .store 1 (.t 43) (.t 41)⟩]) (.reg [ ⟨(some 44), none, .mov (.t 1)⟩, ⟨(some 45), none, .mov (.t 6)⟩, ⟨(some 46), none, .slice 1 (.t 44) (some (.t 45)) none none⟩, ⟨(some 1), none, .mov (.t 46)⟩])))))))))⟩

-- (*quitrent/log.Log).wipe
def F38 : AFun := ⟨45, 2, [.tmp 4], (.seq (.reg [ ⟨(some 4), none, .mov (.c .nili)⟩]) (.seq (.reg [ ⟨(some 9), none, .call (.c (.fn 33 [] [])) [(.c (.str ⟨#[0]⟩)), (.c (.int .i64 64))]⟩, ⟨(some 5), none, .mov (.t 9)⟩]) (.seq (.seq (.reg [ ⟨(some 10), none, .mov (.t 1)⟩, ⟨(some 6), none, .mov (.t 10)⟩]) (.block 0 (.loop (.seq (.seq (.reg [ ⟨(some 11), none, .mov (.t 6)⟩, ⟨(some 12), none, .mov (.t 0)⟩, ⟨(some 13), none, .nilchk (.t 12)⟩, ⟨(some 14), none, .faddr 2 (.t 13)⟩, ⟨(some 15), none, .load false 1 (.t 14)⟩, ⟨(some 16), none, .ibin .lss (.t 11) (.t 15)⟩]) (.cond (.t 16) .skip (.exit 0))) (.seq (.block 1 (.seq (.reg [ ⟨(some 20), none, .mov (.t 0)⟩, ⟨(some 21), none, .nilchk (.t 20)⟩, ⟨(some 22), none, .faddr 0 (.t 21)⟩, ⟨(some 23), none, .load false 1 (.t 22)⟩, ⟨(some 24), none, .mov (.t 6)⟩, ⟨(some 25), none, .call (.c (.fn 55 [] [])) [(.t 23), (.t 24)]⟩, ⟨(some 19), none, .mov (.t 25)⟩, ⟨(some 26), none, .extract (.t 19) 0⟩, ⟨(some 27), none, .extract (.t 19) 1⟩, ⟨(some 7), none, .mov (.t 26)⟩, ⟨(some 8), none, .mov (.t 27)⟩]) (.seq (.seq (.reg [ ⟨(some 28), none, .mov (.t 8)⟩, ⟨(some 29), none, .eq false .iface true (.t 28) (.c .nili)⟩, ⟨(some 30), none, .mov (.t 29)⟩, ⟨(some 31), (some (30, true)), .mov (.t 7)⟩, ⟨(some 32), (some (30, true)), .mov (.t 5)⟩, ⟨(some 33), (some (30, true)), .ibin .neq (.t 31) (.t 32)⟩, ⟨(some 34), none, .pick (.t 30) (.t 33) (.c (.bool false))⟩]) (.cond (.t 34) (.reg [ ⟨(some 35), none, .mov (.t 0)⟩, ⟨(some 36), none, .nilchk (.t 35)⟩, ⟨(some 37), none, .faddr 0 (.t 36)⟩, ⟨(some 38), none, .load false 1 (.t 37)⟩, ⟨(some 39), none, .mov (.t 6)⟩, ⟨(some 40), none, .mov (.t 5)⟩, ⟨(some 41), none, .call (.c (.fn 15 [] [])) [(.t 38), (.t 39), (.t 40)]⟩, ⟨(some 8), none, .mov (.t 41)⟩]) .skip)) (.seq (.reg [ ⟨(some 42), none, .mov (.t 8)⟩, ⟨(some 43), none, .eq true .iface true (.t 42) (.c .nili)⟩]) (.cond (.t 43) (.seq (.reg [ ⟨(some 44), none, .mov (.t 8)⟩, ⟨(some 4), none, .mov (.t 44)⟩]) .ret) .skip))))) (.reg [ ⟨(some 17), none, .mov (.t 6)⟩, ⟨(some 18), none, .ibin .add (.t 17) (.c (.int .i64 1))⟩, ⟨(some 6), none, .mov (.t 18)⟩])))))) (.seq (.reg [ ⟨(some 4), none, .mov (.c .nili)⟩]) .ret))))⟩

-- quitrent/log.Open
def F9 : AFun := ⟨66, 4, [.tmp 8, .tmp 9], (.seq (.reg [ ⟨(some 8), none, .mov (.c .nilp)⟩, ⟨(some 9), none, .mov (.c .nili)⟩]) (.seq (.block 0 (.seq (.reg [ ⟨(some 15), none, .mov (.t 0)⟩, ⟨(some 16), none, .eq false .ptr true (.t 15) (.c .nilp)⟩, ⟨(some 14), none, .mov (.t 16)⟩]) (.cond (.t 14) (.seq (.draw [ ⟨(some 17), none, .loadg 0⟩, ⟨(some 8), none, .mov (.c .nilp)⟩, ⟨(some 9), none, .mov (.t 17)⟩] [[], [], [0, 1]]) .ret) (.seq (.reg [ ⟨(some 19), none, .mov (.t 1)⟩, ⟨(some 20), none, .ibin .lss (.t 19) (.c (.int .i64 0))⟩, ⟨(some 21), none, .mov (.t 20)⟩, ⟨(some 22), (some (21, false)), .mov (.t 2)⟩, ⟨(some 23), (some (21, false)), .mov (.t 1)⟩, ⟨(some 24), (some (21, false)), .ibin .leq (.t 22) (.t 23)⟩, ⟨(some 25), none, .pick (.t 21) (.c (.bool true)) (.t 24)⟩, ⟨(some 26), none, .mov (.t 25)⟩, ⟨(some 27), (some (26, false)), .mov (.t 2)⟩, ⟨(some 28), (some (26, false)), .mov (.t 0)⟩, ⟨(some 29), (some (26, false)), .call (.c (.fn 34 [] [])) [(.t 28)]⟩, ⟨(some 30), (some (26, false)), .ibin .gtr (.t 27) (.t 29)⟩, ⟨(some 31), none, .pick (.t 26) (.c (.bool true)) (.t 30)⟩, ⟨(some 32), none, .mov (.t 31)⟩, ⟨(some 33), (some (32, false)), .mov (.t 3)⟩, ⟨(some 34), (some (32, false)), .call (.c (.fn 35 [] [])) [(.t 33)]⟩, ⟨(some 35), (some (32, false)), .un .not (.t 34)⟩, ⟨(some 36), none, .pick (.t 32) (.c (.bool true)) (.t 35)⟩, ⟨(some 18), none, .mov (.t 36)⟩]) (.cond (.t 18) (.seq (.draw [ ⟨(some 37), none, .loadg 1⟩, ⟨(some 8), none, .mov (.c .nilp)⟩, ⟨(some 9), none, .mov (.t 37)⟩] [[], [], [0, 1]]) .ret) .skip))))) (.seq (.reg [ ⟨(some 38), none, .mov (.t 0)⟩, ⟨(some 39), none, .mov (.t 1)⟩, ⟨(some 40), none, .mov (.t 2)⟩, ⟨(some 41), none, .mov (.t 3)⟩, ⟨(some 42), none, .mov (.t 1)⟩, ⟨(some 43), none, .build [.nilp, (.int .i64 0), (.int .i64 0), (.int .i64 0), (.int .i64 0), .nils, (.bool false)] [(0, 1, (.t 38)), (1, 1, (.t 39)), (2, 1, (.t 40)), (3, 1, (.t 41)), (4, 1, (.t 42))]⟩, ⟨(some 44), none, .box 7 (.t 43)⟩, ⟨(some 10), none, .mov (.t 44)⟩]) (.seq (.reg [ ⟨(some 46), none, .mov (.t 10)⟩, ⟨(some 47), none, .call (.c (.fn 36 [] [])) [(.t 46)]⟩, ⟨(some 45), none, .mov (.t 47)⟩, ⟨(some 48), none, .extract (.t 45) 0⟩, ⟨(some 49), none, .extract (.t 45) 1⟩, ⟨(some 11), none, .mov (.t 48)⟩, ⟨(some 12), none, .mov (.t 49)⟩]) (.seq (.seq (.reg [ ⟨(some 50), none, .mov (.t 12)⟩, ⟨(some 51), none, .eq true .iface true (.t 50) (.c .nili)⟩]) (.cond (.t 51) (.seq (.reg [ ⟨(some 52), none, .mov (.t 12)⟩, ⟨(some 8), none, .mov (.c .nilp)⟩, ⟨(some 9), none, .mov (.t 52)⟩]) .ret) .skip)) (.seq (.reg [ ⟨(some 53), none, .mov (.t 10)⟩, ⟨(some 54), none, .mov (.t 11)⟩, ⟨(some 55), none, .call (.c (.fn 37 [] [])) [(.t 53), (.t 54)]⟩]) (.seq (.seq (.reg [ ⟨(some 56), none, .mov (.t 10)⟩, ⟨(some 57), none, .mov (.t 10)⟩, ⟨(some 58), none, .nilchk (.t 57)⟩, ⟨(some 59), none, .faddr 4 (.t 58)⟩, ⟨(some 60), none, .load false 1 (.t 59)⟩, ⟨(some 61), none, .call (.c (.fn 38 [] [])) [(.t 56), (.t 60)]⟩, ⟨(some 13), none, .mov (.t 61)⟩]) (.seq (.reg [ ⟨(some 62), none, .mov (.t 13)⟩, ⟨(some 63), none, .eq true .iface true (.t 62) (.c .nili)⟩]) (.cond (.t 63) (.seq (.reg [ ⟨(some 64), none, .mov (.t 13)⟩, ⟨(some 8), none, .mov (.c .nilp)⟩, ⟨(some 9), none, .mov (.t 64)⟩]) .ret) .skip))) (.seq (.reg [ ⟨(some 65), none, .mov (.t 10)⟩, ⟨(some 8), none, .mov (.t 65)⟩, ⟨(some 9), none, .mov (.c .nili)⟩]) .ret))))))))⟩

-- (*quitrent/log.Log).Records
def F18 : AFun := ⟨10, 1, [.tmp 2], (.seq (.reg [ ⟨(some 2), none, .mov (.c .nils)⟩]) (.seq (.seq (.reg [ ⟨(some 3), none, .mov (.t 0)⟩, ⟨(some 4), none, .eq false .ptr true (.t 3) (.c .nilp)⟩]) (.cond (.t 4) (.seq (.reg [ ⟨(some 2), none, .mov (.c .nils)⟩]) .ret) .skip)) (.seq (.reg [ ⟨(some 5), none, .mov (.t 0)⟩, ⟨(some 6), none, .nilchk (.t 5)⟩, ⟨(some 7), none, .faddr 5 (.t 6)⟩, ⟨(some 8), none, .load false 1 (.t 7)⟩, ⟨(some 9), none, .call (.c (.fn 44 [] [])) [(.t 8)]⟩, ⟨(some 2), none, .mov (.t 9)⟩]) .ret)))⟩

-- (*quitrent/log.Log).Next
def F23 : AFun := ⟨16, 1, [.tmp 2], (.seq (.reg [ ⟨(some 2), none, .mov (.c (.int .i64 0))⟩]) (.seq (.seq (.reg [ ⟨(some 3), none, .mov (.t 0)⟩, ⟨(some 4), none, .eq false .ptr true (.t 3) (.c .nilp)⟩]) (.cond (.t 4) (.seq (.reg [ ⟨(some 2), none, .mov (.c (.int .i64 0))⟩]) .ret) .skip)) (.seq (.draw [ ⟨(some 5), none, .mov (.t 0)⟩, ⟨(some 6), none, .nilchk (.t 5)⟩, ⟨(some 7), none, .faddr 3 (.t 6)⟩, ⟨(some 8), none, .load false 1 (.t 7)⟩, ⟨(some 9), none, .mov (.t 0)⟩, ⟨(some 10), none, .nilchk (.t 9)⟩, ⟨(some 11), none, .faddr 5 (.t 10)⟩, ⟨(some 12), none, .load false 1 (.t 11)⟩, ⟨(some 13), none, .len .sl (.t 12)⟩, ⟨(some 14), none, .ibin .add (.t 8) (.t 13)⟩, ⟨(some 15), none, .ibin .add (.t 14) (.c (.int .i64 1))⟩, ⟨(some 2), none, .mov (.t 15)⟩] [[], [0], [1, 0], [2, 1, 0], [], [4], [5, 4], [6, 5, 4], [7, 6, 5, 4], [3, 8, 2, 1, 0, 7, 6, 5, 4], [9, 3, 8, 2, 1, 0, 7, 6, 5, 4], [10, 0, 1, 2, 3, 4, 5, 6, 7, 8, 9]]) .ret)))⟩

-- (*quitrent/log.Log).Room
def F21 : AFun := ⟨14, 1, [.tmp 2], (.seq (.reg [ ⟨(some 2), none, .mov (.c (.int .i64 0))⟩]) (.seq (.seq (.reg [ ⟨(some 3), none, .mov (.t 0)⟩, ⟨(some 4), none, .eq false .ptr true (.t 3) (.c .nilp)⟩]) (.cond (.t 4) (.seq (.reg [ ⟨(some 2), none, .mov (.c (.int .i64 0))⟩]) .ret) .skip)) (.seq (.draw [ ⟨(some 5), none, .mov (.t 0)⟩, ⟨(some 6), none, .nilchk (.t 5)⟩, ⟨(some 7), none, .faddr 2 (.t 6)⟩, ⟨(some 8), none, .load false 1 (.t 7)⟩, ⟨(some 9), none, .mov (.t 0)⟩, ⟨(some 10), none, .nilchk (.t 9)⟩, ⟨(some 11), none, .faddr 4 (.t 10)⟩, ⟨(some 12), none, .load false 1 (.t 11)⟩, ⟨(some 13), none, .ibin .sub (.t 8) (.t 12)⟩, ⟨(some 2), none, .mov (.t 13)⟩] [[], [0], [1, 0], [2, 1, 0], [], [4], [5, 4], [6, 5, 4], [3, 7, 2, 1, 0, 6, 5, 4], [8, 0, 1, 2, 3, 4, 5, 6, 7]]) .ret)))⟩

-- (*quitrent/log.Log).lost
def F41 : AFun := ⟨18, 2, [.tmp 4], (.seq (.reg [ ⟨(some 4), none, .mov (.c .nili)⟩]) (.seq (.reg [ ⟨(some 5), none, .mov (.t 0)⟩, ⟨(some 6), none, .mov (.t 0)⟩, ⟨(some 7), none, .nilchk (.t 6)⟩, ⟨(some 8), none, .faddr 6 (.t 7)⟩, ⟨(some 9), none, .load false 1 (.t 8)⟩, ⟨(some 10), none, .mov (.t 9)⟩, ⟨(some 11), (some (10, false)), .mov (.t 1)⟩, ⟨(some 12), (some (10, false)), .loadg 3⟩, ⟨(some 13), (some (10, false)), .call (.c (.fn 42 [] [])) [(.t 11), (.t 12)]⟩, ⟨(some 14), none, .pick (.t 10) (.c (.bool true)) (.t 13)⟩, ⟨(some 15), none, .nilchk (.t 5)⟩, ⟨(some 16), none, .faddr 6 (.t 15)⟩, ⟨none, none, .store 1 (.t 16) (.t 14)⟩]) (.seq (.reg [ ⟨(some 17), none, .mov (.t 1)⟩, ⟨(some 4), none, .mov (.t 17)⟩]) .ret)))⟩

-- (*quitrent/log.Log).Add
def F11 : AFun := ⟨91, 2, [.tmp 4], (.seq (.reg [ ⟨(some 4), none, .mov (.c .nili)⟩]) (.seq (.block 0 (.seq (.reg [ ⟨(some 11), none, .mov (.t 0)⟩, ⟨(some 12), none, .eq false .ptr true (.t 11) (.c .nilp)⟩, ⟨(some 10), none, .mov (.t 12)⟩]) (.cond (.t 10) (.seq (.reg [ ⟨(some 13), none, .loadg 0⟩, ⟨(some 4), none, .mov (.t 13)⟩]) .ret) (.seq (.reg [ ⟨(some 15), none, .mov (.t 1)⟩, ⟨(some 16), none, .len .str (.t 15)⟩, ⟨(some 17), none, .ibin .gtr (.t 16) (.c (.int .i64 6000))⟩, ⟨(some 14), none, .mov (.t 17)⟩]) (.cond (.t 14) (.seq (.reg [ ⟨(some 18), none, .loadg 1⟩, ⟨(some 4), none, .mov (.t 18)⟩]) .ret) (.seq (.reg [ ⟨(some 20), none, .mov (.t 1)⟩, ⟨(some 21), none, .call (.c (.fn 39 [] [])) [(.t 20)]⟩, ⟨(some 22), none, .mov (.t 0)⟩, ⟨(some 23), none, .call (.c (.fn 21 [] [])) [(.t 22)]⟩, ⟨(some 24), none, .ibin .gtr (.t 21) (.t 23)⟩, ⟨(some 25), none, .mov (.t 24)⟩, ⟨(some 26), (some (25, false)), .mov (.t 0)⟩, ⟨(some 27), (some (25, false)), .call (.c (.fn 23 [] [])) [(.t 26)]⟩, ⟨(some 28), (some (25, false)), .ibin .geq (.t 27) (.c (.int .i64 1073741824))⟩, ⟨(some 29), none, .pick (.t 25) (.c (.bool true)) (.t 28)⟩, ⟨(some 19), none, .mov (.t 29)⟩]) (.cond (.t 19) (.seq (.reg [ ⟨(some 30), none, .loadg 2⟩, ⟨(some 4), none, .mov (.t 30)⟩]) .ret) (.seq (.reg [ ⟨(some 32), none, .mov (.t 0)⟩, ⟨(some 33), none, .nilchk (.t 32)⟩, ⟨(some 34), none, .faddr 6 (.t 33)⟩, ⟨(some 35), none, .load false 1 (.t 34)⟩, ⟨(some 31), none, .mov (.t 35)⟩]) (.cond (.t 31) (.seq (.reg [ ⟨(some 36), none, .loadg 3⟩, ⟨(some 4), none, .mov (.t 36)⟩]) .ret) .skip))))))))) (.seq (.reg [ ⟨(some 38), none, .mov (.t 0)⟩, ⟨(some 39), none, .call (.c (.fn 23 [] [])) [(.t 38)]⟩, ⟨(some 40), none, .mov (.t 1)⟩, ⟨(some 41), none, .call (.c (.fn 40 [] [])) [(.t 39), (.t 40)]⟩, ⟨(some 37), none, .mov (.t 41)⟩, ⟨(some 42), none, .extract (.t 37) 0⟩, ⟨(some 43), none, .extract (.t 37) 1⟩, ⟨(some 5), none, .mov (.t 42)⟩, ⟨(some 6), none, .mov (.t 43)⟩]) (.seq (.seq (.reg [ ⟨(some 44), none, .mov (.t 6)⟩, ⟨(some 45), none, .eq true .iface true (.t 44) (.c .nili)⟩]) (.cond (.t 45) (.seq (.reg [ ⟨(some 46), none, .mov (.t 6)⟩, ⟨(some 4), none, .mov (.t 46)⟩]) .ret) .skip)) (.seq (.seq (.reg [ ⟨(some 47), none, .mov (.t 5)⟩, ⟨(some 48), none, .len .sl (.t 47)⟩, ⟨(some 49), none, .mov (.c (.int .i64 0))⟩]) (.block 1 (.loop (.seq (.reg [ ⟨(some 50), none, .ibin .lss (.t 49) (.t 48)⟩]) (.seq (.cond (.t 50) .skip (.exit 1)) (.seq (.block 2 (.seq (.reg [ ⟨(some 51), none, .mov (.t 49)⟩, ⟨(some 52), none, .iaddrSl 1 (.t 47) (.t 49)⟩, ⟨(some 53), none, .load false 1 (.t 52)⟩, ⟨(some 7), none, .mov (.t 51)⟩, ⟨(some 8), none, .mov (.t 53)⟩]) (.seq (.draw [ ⟨(some 54), none, .mov (.t 0)⟩, ⟨(some 55), none, .nilchk (.t 54)⟩, ⟨(some 56), none, .faddr 0 (.t 55)⟩, ⟨(some 57), none, .load false 1 (.t 56)⟩, ⟨(some 58), none, .mov (.t 0)⟩, ⟨(some 59), none, .nilchk (.t 58)⟩, ⟨(some 60), none, .faddr 4 (.t 59)⟩, ⟨(some 61), none, .load false 1 (.t 60)⟩, ⟨(some 62), none, .mov (.t 7)⟩, ⟨(some 63), none, .ibin .add (.t 61) (.t 62)⟩, ⟨(some 64), none, .mov (.t 8)⟩, ⟨(some 65), none, .call (.c (.fn 15 [] [])) [(.t 57), (.t 63), (.t 64)]⟩, ⟨(some 9), none, .mov (.t 65)⟩] [[], [0], [1, 0], [2, 1, 0], [], [4], [5, 4], [6, 5, 4], [], [7, 8, 6, 5, 4], [], [3, 9, 10, 2, 1, 0, 7, 8, 6, 5, 4], [11, 0, 1, 2, 3, 4, 5, 6, 7, 8, 9, 10]]) (.seq (.reg [ ⟨(some 66), none, .mov (.t 9)⟩, ⟨(some 67), none, .eq true .iface true (.t 66) (.c .nili)⟩]) (.cond (.t 67) (.seq (.reg [ ⟨(some 68), none, .mov (.t 0)⟩, ⟨(some 69), none, .mov (.t 9)⟩, ⟨(some 70), none, .call (.c (.fn 41 [] [])) [(.t 68), (.t 69)]⟩, ⟨(some 4), none, .mov (.t 70)⟩]) .ret) .skip))))) (.reg [ ⟨(some 71), none, .ibin .add (.t 49) (.c (.int .i64 1))⟩, ⟨(some 49), none, .mov (.t 71)⟩]))))))) (.seq (.reg [ ⟨(some 72), none, .mov (.t 0)⟩, ⟨(some 73), none, .nilchk (.t 72)⟩, ⟨(some 74), none, .faddr 4 (.t 73)⟩, ⟨(some 75), none, .load false 1 (.t 74)⟩, ⟨(some 76), none, .mov (.t 5)⟩, ⟨(some 77), none, .len .sl (.t 76)⟩, ⟨(some 78), none, .ibin .add (.t 75) (.t 77)⟩, ⟨(some 79), none, .nilchk (.t 72)⟩, ⟨(some 80), none, .faddr 4 (.t 79)⟩, ⟨none, none, .store 1 (.t 80) (.t 78)⟩]) (.seq (.reg [ ⟨(some 81), none, .mov (.t 0)⟩, ⟨(some 82), none, .mov (.t 0)⟩, ⟨(some 83), none, .nilchk (.t 82)⟩, ⟨(some 84), none, .faddr 5 (.t 83)⟩, ⟨(some 85), none, .load false 1 (.t 84)⟩, ⟨(some 86), none, .mov (.t 1)⟩, ⟨(some 87), none, .bslice 1 1 [(.str ⟨#[]⟩)] [(0, 1, (.t 86))]⟩, ⟨(some 88), none, .append 1 16 [(.str ⟨#[]⟩)] (.t 85) (.t 87)⟩, ⟨(some 89), none, .nilchk (.t 81)⟩, ⟨(some 90), none, .faddr 5 (.t 89)⟩, ⟨none, none, .store 1 (.t 90) (.t 88)⟩]) (.seq (.reg [ ⟨(some 4), none, .mov (.c .nili)⟩]) .ret))))))))⟩

-- (*quitrent/log.Log).Reset
def F13 : AFun := ⟨46, 2, [.tmp 4], (.seq (.reg [ ⟨(some 4), none, .mov (.c .nili)⟩]) (.seq (.block 0 (.seq (.reg [ ⟨(some 7), none, .mov (.t 0)⟩, ⟨(some 8), none, .eq false .ptr true (.t 7) (.c .nilp)⟩, ⟨(some 6), none, .mov (.t 8)⟩]) (.cond (.t 6) (.seq (.reg [ ⟨(some 9), none, .loadg 0⟩, ⟨(some 4), none, .mov (.t 9)⟩]) .ret) (.seq (.reg [ ⟨(some 11), none, .mov (.t 1)⟩, ⟨(some 12), none, .call (.c (.fn 35 [] [])) [(.t 11)]⟩, ⟨(some 13), none, .un .not (.t 12)⟩, ⟨(some 10), none, .mov (.t 13)⟩]) (.cond (.t 10) (.seq (.reg [ ⟨(some 14), none, .loadg 1⟩, ⟨(some 4), none, .mov (.t 14)⟩]) .ret) (.seq (.reg [ ⟨(some 16), none, .mov (.t 0)⟩, ⟨(some 17), none, .nilchk (.t 16)⟩, ⟨(some 18), none, .faddr 6 (.t 17)⟩, ⟨(some 19), none, .load false 1 (.t 18)⟩, ⟨(some 15), none, .mov (.t 19)⟩]) (.cond (.t 15) (.seq (.reg [ ⟨(some 20), none, .loadg 3⟩, ⟨(some 4), none, .mov (.t 20)⟩]) .ret) .skip))))))) (.seq (.seq (.reg [ ⟨(some 21), none, .mov (.t 0)⟩, ⟨(some 22), none, .mov (.t 0)⟩, ⟨(some 23), none, .nilchk (.t 22)⟩, ⟨(some 24), none, .faddr 1 (.t 23)⟩, ⟨(some 25), none, .load false 1 (.t 24)⟩, ⟨(some 26), none, .call (.c (.fn 38 [] [])) [(.t 21), (.t 25)]⟩, ⟨(some 5), none, .mov (.t 26)⟩]) (.seq (.reg [ ⟨(some 27), none, .mov (.t 5)⟩, ⟨(some 28), none, .eq true .iface true (.t 27) (.c .nili)⟩]) (.cond (.t 28) (.seq (.reg [ ⟨(some 29), none, .mov (.t 0)⟩, ⟨(some 30), none, .mov (.t 5)⟩, ⟨(some 31), none, .call (.c (.fn 41 [] [])) [(.t 29), (.t 30)]⟩, ⟨(some 4), none, .mov (.t 31)⟩]) .ret) .skip))) (.seq (.reg [ ⟨(some 32), none, .mov (.t 0)⟩, ⟨(some 33), none, .mov (.t 0)⟩, ⟨(some 34), none, .mov (.t 0)⟩, ⟨(some 35), none, .mov (.t 1)⟩, ⟨(some 36), none, .mov (.t 0)⟩, ⟨(some 37), none, .nilchk (.t 36)⟩, ⟨(some 38), none, .faddr 1 (.t 37)⟩, ⟨(some 39), none, .load false 1 (.t 38)⟩, ⟨(some 40), none, .nilchk (.t 32)⟩, ⟨(some 41), none, .faddr 3 (.t 40)⟩, ⟨none, none, .store 1 (.t 41) (.t 35)⟩, ⟨(some 42), none, .nilchk (.t 33)⟩, ⟨(some 43), none, .faddr 4 (.t 42)⟩, ⟨none, none, .store 1 (.t 43) (.t 39)⟩, ⟨(some 44), none, .nilchk (.t 34)⟩, ⟨(some 45), none, .faddr 5 (.t 44)⟩, ⟨none, none, .store 1 (.t 45) (.c .nils)⟩]) (.seq (.reg [ ⟨(some 4), none, .mov (.c .nili)⟩]) .ret)))))⟩

-- slices.Clone[[]string,string]
def F44 : AFun := ⟨8, 1, [.tmp 2], (.seq (.reg [ ⟨(some 2), none, .mov (.c .nils)⟩]) (.seq (.seq (.reg [ ⟨(some 3), none, .mov (.t 0)⟩, ⟨(some 4), none, .eq false .slice true (.t 3) (.c .nils)⟩]) (.cond (.t 4) (.seq (.reg [ ⟨(some 2), none, .mov (.c .nils)⟩]) .ret) .skip)) (.seq (.reg [ ⟨(some 5), none, .bslice 1 0 [(.str ⟨#[]⟩)] []⟩, ⟨(some 6), none, .mov (.t 0)⟩, ⟨(some 7), none, .append 1 16 [(.str ⟨#[]⟩)] (.t 5) (.t 6)⟩, ⟨(some 2), none, .mov (.t 7)⟩]) .ret)))⟩

theorem c35 : cFun Tryd.prog [1, 0, 4, 5, 6, 7, 2, 8, 9, 10, 11, 12, 13, 3] Tryd.f35 = some F35 := by kernel_rfl
theorem c36 : cFun Tryd.prog [1, 0, 4, 5, 6, 7, 2, 8, 9, 10, 11, 12, 13, 3] Tryd.f36 = some F36 := by kernel_rfl
theorem c37 : cFun Tryd.prog [1, 0, 4, 5, 6, 7, 2, 8, 9, 10, 11, 12, 13, 3] Tryd.f37 = some F37 := by kernel_rfl
theorem c38 : cFun Tryd.prog [1, 0, 4, 5, 6, 7, 2, 8, 9, 10, 11, 12, 13, 3] Tryd.f38 = some F38 := by kernel_rfl
theorem c9 : cFun Tryd.prog [1, 0, 4, 5, 6, 7, 2, 8, 9, 10, 11, 12, 13, 3] Tryd.f9 = some F9 := by kernel_rfl
theorem c18 : cFun Tryd.prog [1, 0, 4, 5, 6, 7, 2, 8, 9, 10, 11, 12, 13, 3] Tryd.f18 = some F18 := by kernel_rfl
theorem c23 : cFun Tryd.prog [1, 0, 4, 5, 6, 7, 2, 8, 9, 10, 11, 12, 13, 3] Tryd.f23 = some F23 := by kernel_rfl
theorem c21 : cFun Tryd.prog [1, 0, 4, 5, 6, 7, 2, 8, 9, 10, 11, 12, 13, 3] Tryd.f21 = some F21 := by kernel_rfl
theorem c41 : cFun Tryd.prog [1, 0, 4, 5, 6, 7, 2, 8, 9, 10, 11, 12, 13, 3] Tryd.f41 = some F41 := by kernel_rfl
theorem c11 : cFun Tryd.prog [1, 0, 4, 5, 6, 7, 2, 8, 9, 10, 11, 12, 13, 3] Tryd.f11 = some F11 := by kernel_rfl
theorem c13 : cFun Tryd.prog [1, 0, 4, 5, 6, 7, 2, 8, 9, 10, 11, 12, 13, 3] Tryd.f13 = some F13 := by kernel_rfl
theorem c44 : cFun Tryd.prog [1, 0, 4, 5, 6, 7, 2, 8, 9, 10, 11, 12, 13, 3] Tryd.f44 = some F44 := by kernel_rfl
end Go.Proofs.YthapdikdeoeplaaDoor.H6
end

section
open Go AH
set_option linter.unusedSimpArgs false
set_option maxRecDepth 100000
namespace Go.Proofs.YthapdikdeoeplaaDoor.H6
theorem isBase_ok (n : Int) : Pure S0 35 [.int .i64 n] (.bool (decide (isBase n))) := by
  refine fun_sound okZ0 Tryd.func35 c35 ?_
  unfold wpF F35
  cases h1 : decide (n ≥ 0)
  · have e : decide (isBase n) = false := by simp only [decide_eq_false_iff_not] at h1 ⊢; unfold isBase; omega
    simp only [AH.SD, AH.wpOp, AOp.call?, AOp.next?, bstep, AOp.map, Opd.ev, tget, argTm, evs, AV.cells, St.eff, St.put, applyWr, mset, terase, pureE, unAV, intOp, binAV, fill, mget, AH.rowAt, AH.part, retQ, rvs, retV, AH.splice, AH.sliceElems, AH.bytesOf, AH.strOp, AH.bound, AH.addLog, AH.missQ, AH.minmaxAV, AH.wpOpD, AH.readOf, AH.effOf, AH.mapAt, AH.iterAt, Nat.reduceBEq, Nat.reduceAdd, Nat.reduceLT, ↓reduceIte, Nat.reduceEqDiff, Nat.reduceLeDiff, Nat.reduceSub, Nat.reduceMul, Int.reduceSub, Int.reduceToNat, Int.reduceBEq, Int.reduceBNe, Int.reduceLT, Int.reduceGT, Int.reduceLE, Int.reduceGE, Int.reduceNeg, Int.reduceAdd, h1, e]
  · cases h2 : decide (n ≤ 1073741824)
    · have e : decide (isBase n) = false := by simp only [decide_eq_false_iff_not, decide_eq_true_eq] at h1 h2 ⊢; unfold isBase; omega
      simp only [AH.SD, AH.wpOp, AOp.call?, AOp.next?, bstep, AOp.map, Opd.ev, tget, argTm, evs, AV.cells, St.eff, St.put, applyWr, mset, terase, pureE, unAV, intOp, binAV, fill, mget, AH.rowAt, AH.part, retQ, rvs, retV, AH.splice, AH.sliceElems, AH.bytesOf, AH.strOp, AH.bound, AH.addLog, AH.missQ, AH.minmaxAV, AH.wpOpD, AH.readOf, AH.effOf, AH.mapAt, AH.iterAt, Nat.reduceBEq, Nat.reduceAdd, Nat.reduceLT, ↓reduceIte, Nat.reduceEqDiff, Nat.reduceLeDiff, Nat.reduceSub, Nat.reduceMul, Int.reduceSub, Int.reduceToNat, Int.reduceBEq, Int.reduceBNe, Int.reduceLT, Int.reduceGT, Int.reduceLE, Int.reduceGE, Int.reduceNeg, Int.reduceAdd, h1, h2, e]
    · have e : decide (isBase n) = true := by simp only [decide_eq_true_eq] at h1 h2 ⊢; unfold isBase; omega
      simp only [AH.SD, AH.wpOp, AOp.call?, AOp.next?, bstep, AOp.map, Opd.ev, tget, argTm, evs, AV.cells, St.eff, St.put, applyWr, mset, terase, pureE, unAV, intOp, binAV, fill, mget, AH.rowAt, AH.part, retQ, rvs, retV, AH.splice, AH.sliceElems, AH.bytesOf, AH.strOp, AH.bound, AH.addLog, AH.missQ, AH.minmaxAV, AH.wpOpD, AH.readOf, AH.effOf, AH.mapAt, AH.iterAt, Nat.reduceBEq, Nat.reduceAdd, Nat.reduceLT, ↓reduceIte, Nat.reduceEqDiff, Nat.reduceLeDiff, Nat.reduceSub, Nat.reduceMul, Int.reduceSub, Int.reduceToNat, Int.reduceBEq, Int.reduceBNe, Int.reduceLT, Int.reduceGT, Int.reduceLE, Int.reduceGE, Int.reduceNeg, Int.reduceAdd, h1, h2, e]
def isBaseT : RT := rtP (cC (aI .i64) c0) fun x => .bool (decide (isBase x.1))
theorem isBaseT_ok : ReadF S0 35 isBaseT := rtP_ok (fun x => isBase_ok x.1) fun _ => rfl
theorem isBaseT_p {n : Int} {M : Nat → Option Blk} : isBaseT [.int .i64 n] M = some (.bool (decide (isBase n)), []) := by
  simp only [isBaseT, rtP, cC_dec, aI_dec, c0_dec, pairO_some, Option.map_some]

theorem next_ok (l : Lg) (h : l.ok) : CallA1 S0 23 [.ptr 0 0 0] (lgM l) fun r m => r = .int .i64 l.next ∧ m = lgM l := by
  obtain ⟨hd, ⟨h1, h2⟩, h4, h5, h6, h7, h3⟩ := h
  have h8 := hd.2.2.2
  have w1 : IntKind.i64.wrap (l.b + (l.R.length : Int)) = l.b + (l.R.length : Int) := by rw [IntKind.wrap_i64]; omega
  have w2 : IntKind.i64.wrap (l.b + (l.R.length : Int) + 1) = l.b + (l.R.length : Int) + 1 := by rw [IntKind.wrap_i64]; omega
  refine fun_sound okZ0 Tryd.func23 c23 ?_
  unfold wpF F23
  simp only [AH.SD, AH.wpOp, AOp.call?, AOp.next?, bstep, AOp.map, Opd.ev, tget, argTm, evs, AV.cells, St.eff, St.put, applyWr, mset, terase, pureE, unAV, intOp, binAV, fill, mget, AH.rowAt, AH.part, retQ, rvs, retV, AH.splice, AH.sliceElems, AH.bytesOf, AH.strOp, AH.bound, AH.addLog, AH.missQ, AH.minmaxAV, AH.wpOpD, AH.readOf, AH.effOf, AH.mapAt, AH.iterAt, Nat.reduceBEq, Nat.reduceAdd, Nat.reduceLT, ↓reduceIte, Nat.reduceEqDiff, Nat.reduceLeDiff, Nat.reduceSub, Nat.reduceMul, Int.reduceSub, Int.reduceToNat, Int.reduceBEq, Int.reduceBNe, Int.reduceLT, Int.reduceGT, Int.reduceLE, Int.reduceGE, Int.reduceNeg, Int.reduceAdd, lgM, w1, w2, Lg.next]
  repeat (refine ⟨by first | rfl | decide | omega | (simp only [List.length_map, and_true]; omega) | (simp only [List.length_map, List.length_set, and_true]; omega), ?_⟩)
  try trivial
theorem next_nil : Pure S0 23 [.nilp] (.int .i64 0) := by
  refine fun_sound okZ0 Tryd.func23 c23 ?_
  unfold wpF F23
  simp only [AH.SD, AH.wpOp, AOp.call?, AOp.next?, bstep, AOp.map, Opd.ev, tget, argTm, evs, AV.cells, St.eff, St.put, applyWr, mset, terase, pureE, unAV, intOp, binAV, fill, mget, AH.rowAt, AH.part, retQ, rvs, retV, AH.splice, AH.sliceElems, AH.bytesOf, AH.strOp, AH.bound, AH.addLog, AH.missQ, AH.minmaxAV, AH.wpOpD, AH.readOf, AH.effOf, AH.mapAt, AH.iterAt, Nat.reduceBEq, Nat.reduceAdd, Nat.reduceLT, ↓reduceIte, Nat.reduceEqDiff, Nat.reduceLeDiff, Nat.reduceSub, Nat.reduceMul, Int.reduceSub, Int.reduceToNat, Int.reduceBEq, Int.reduceBNe, Int.reduceLT, Int.reduceGT, Int.reduceLE, Int.reduceGE, Int.reduceNeg, Int.reduceAdd]
def nextT : RT := rtElse (cC aNil c0) (fun _ => .int .i64 0) (rtO lgO c0 fun l _ => if l.ok then some (.int .i64 l.next) else none)
theorem nextT_ok : ReadF S0 23 nextT := rtElse_ok (fun _ => next_nil) (fun _ => rfl) (rtO_ok fun l x v h => by
  split at h
  · rename_i hl
    simp only [Option.some.injEq] at h; subst h
    exact ⟨rfl, next_ok l hl⟩
  · cases h)
theorem nextT_p {p : Nat} {M : Nat → Option Blk} : nextT [.ptr p 0 0] M = rtO2 (fun (l : Lg) (_ : Unit) => if l.ok then some (.int .i64 l.next) else none) (lgR M p (M p)) (some ()) := by
  simp only [nextT, rtElse_eq, rtO_eq, cC_dec, aNil_ptr, c0_dec, pairO_none, Option.map_none, elseO_none, lgO_dec]
theorem nextT_n {M : Nat → Option Blk} : nextT [.nilp] M = some (.int .i64 0, []) := by
  simp only [nextT, rtElse_eq, cC_dec, aNil_dec, c0_dec, pairO_some, Option.map_some, elseO_some]
theorem room_ok (l : Lg) (h : l.ok) : CallA1 S0 21 [.ptr 0 0 0] (lgM l) fun r m => r = .int .i64 l.room ∧ m = lgM l := by
  obtain ⟨hd, _, h1, h2, h3, h4, _⟩ := h
  have h5 := hd.2.2.2
  have w1 : IntKind.i64.wrap (l.t - l.a) = l.t - l.a := by rw [IntKind.wrap_i64]; omega
  refine fun_sound okZ0 Tryd.func21 c21 ?_
  unfold wpF F21
  simp only [AH.SD, AH.wpOp, AOp.call?, AOp.next?, bstep, AOp.map, Opd.ev, tget, argTm, evs, AV.cells, St.eff, St.put, applyWr, mset, terase, pureE, unAV, intOp, binAV, fill, mget, AH.rowAt, AH.part, retQ, rvs, retV, AH.splice, AH.sliceElems, AH.bytesOf, AH.strOp, AH.bound, AH.addLog, AH.missQ, AH.minmaxAV, AH.wpOpD, AH.readOf, AH.effOf, AH.mapAt, AH.iterAt, Nat.reduceBEq, Nat.reduceAdd, Nat.reduceLT, ↓reduceIte, Nat.reduceEqDiff, Nat.reduceLeDiff, Nat.reduceSub, Nat.reduceMul, Int.reduceSub, Int.reduceToNat, Int.reduceBEq, Int.reduceBNe, Int.reduceLT, Int.reduceGT, Int.reduceLE, Int.reduceGE, Int.reduceNeg, Int.reduceAdd, lgM, w1, Lg.room]
  repeat (refine ⟨by first | rfl | decide | omega | (simp only [List.length_map, and_true]; omega) | (simp only [List.length_map, List.length_set, and_true]; omega), ?_⟩)
  try trivial
theorem room_nil : Pure S0 21 [.nilp] (.int .i64 0) := by
  refine fun_sound okZ0 Tryd.func21 c21 ?_
  unfold wpF F21
  simp only [AH.SD, AH.wpOp, AOp.call?, AOp.next?, bstep, AOp.map, Opd.ev, tget, argTm, evs, AV.cells, St.eff, St.put, applyWr, mset, terase, pureE, unAV, intOp, binAV, fill, mget, AH.rowAt, AH.part, retQ, rvs, retV, AH.splice, AH.sliceElems, AH.bytesOf, AH.strOp, AH.bound, AH.addLog, AH.missQ, AH.minmaxAV, AH.wpOpD, AH.readOf, AH.effOf, AH.mapAt, AH.iterAt, Nat.reduceBEq, Nat.reduceAdd, Nat.reduceLT, ↓reduceIte, Nat.reduceEqDiff, Nat.reduceLeDiff, Nat.reduceSub, Nat.reduceMul, Int.reduceSub, Int.reduceToNat, Int.reduceBEq, Int.reduceBNe, Int.reduceLT, Int.reduceGT, Int.reduceLE, Int.reduceGE, Int.reduceNeg, Int.reduceAdd]
def roomT : RT := rtElse (cC aNil c0) (fun _ => .int .i64 0) (rtO lgO c0 fun l _ => if l.ok then some (.int .i64 l.room) else none)
theorem roomT_ok : ReadF S0 21 roomT := rtElse_ok (fun _ => room_nil) (fun _ => rfl) (rtO_ok fun l x v h => by
  split at h
  · rename_i hl
    simp only [Option.some.injEq] at h; subst h
    exact ⟨rfl, room_ok l hl⟩
  · cases h)
theorem roomT_p {p : Nat} {M : Nat → Option Blk} : roomT [.ptr p 0 0] M = rtO2 (fun (l : Lg) (_ : Unit) => if l.ok then some (.int .i64 l.room) else none) (lgR M p (M p)) (some ()) := by
  simp only [roomT, rtElse_eq, rtO_eq, cC_dec, aNil_ptr, c0_dec, pairO_none, Option.map_none, elseO_none, lgO_dec]
theorem roomT_n {M : Nat → Option Blk} : roomT [.nilp] M = some (.int .i64 0, []) := by
  simp only [roomT, rtElse_eq, cC_dec, aNil_dec, c0_dec, pairO_some, Option.map_some, elseO_some]

theorem zeB_eq : repS ⟨#[0]⟩ 64 = zeB := rfl
theorem okRep64 : okRep ⟨#[0]⟩ ((64 : Nat) : Int) := by decide
theorem repT_64 {M : Nat → Option Blk} : repT [.str ⟨#[0]⟩, .int .i64 64] M = some (.str zeB, []) := repT_eq (c := 64) okRep64
noncomputable abbrev tWp : List (FuncId × RT) := [(33, repT), (55, drdT), (15, writeNT)]
noncomputable abbrev eWp : List (FuncId × ET) := [(15, writeT)]
theorem okWp : CtxOK S0 (ctxE S0 tWp [] eWp) := ctxE_ok ⟨repT_ok, drdT_ok, writeNT_ok, trivial⟩ trivial ⟨writeT_ok, trivial⟩ mixed
def wpSt (l : Lg) (x : Nat × Dk) : St := ⟨[(6, .int .i64 x.1), (5, .str zeB), (0, .ptr 0 0 0)], lgM { l with d := x.2 }⟩
theorem errA_ren {k : Nat} {ρ : Nat → Nat} : (errA k).ren ρ = errA k := flat_ren (errA_flat k)
set_option maxHeartbeats 4000000 in
theorem lwipe_ok (l : Lg) (h : l.ok) (a T : Nat) (hT : l.t = T) (ha : a ≤ T) : CallA1 S0 38 [.ptr 0 0 0, .int .i64 a] (lgM l) fun r m => r = errA (wipeD l.d (T - a) a).1 ∧ m = lgM { l with d := (wipeD l.d (T - a) a).2 } := by
  obtain ⟨hd, _, _, _, _, h4, _⟩ := h
  have h5 := hd.2.2.2
  refine fun_sound okWp Tryd.func38 c38 ?_
  unfold wpF F38
  simp only [AH.SD, AH.wpOp, AOp.call?, AOp.next?, bstep, AOp.map, Opd.ev, tget, argTm, evs, AV.cells, St.eff, St.put, applyWr, mset, terase, pureE, unAV, intOp, binAV, fill, mget, AH.rowAt, AH.part, retQ, rvs, retV, AH.splice, AH.sliceElems, AH.bytesOf, AH.strOp, AH.bound, AH.addLog, AH.missQ, AH.minmaxAV, AH.wpOpD, AH.readOf, AH.effOf, AH.mapAt, AH.iterAt, Nat.reduceBEq, Nat.reduceAdd, Nat.reduceLT, ↓reduceIte, Nat.reduceEqDiff, Nat.reduceLeDiff, Nat.reduceSub, Nat.reduceMul, Int.reduceSub, Int.reduceToNat, Int.reduceBEq, Int.reduceBNe, Int.reduceLT, Int.reduceGT, Int.reduceLE, Int.reduceGE, Int.reduceNeg, Int.reduceAdd, AH.PD, heads, distN, AH.inN, posN, packM, packB, packTm, liveB, AV.inB, AV.insB, AV.ren, AV.rens, Blk.ren, Blk.inB, vstep, tput, vw, shift, newOnes, rowsM, blkIn, rwB, @flat_lts, AV.lt, AV.lts, Nat.sub_self, AH.rtO_eq, AH.rtO2_eq, AH.rtO2_none, AH.etO_eq, AH.etO2_eq, AH.etO2_none, AH.useO_some, AH.rtElse_eq, AH.elseO_some, AH.elseO_none, AH.etN_eq, Option.bind_some, Option.bind_none, AH.pairO_some, AH.pairO_none, AH.cC_dec, AH.cC_nil, AH.c0_dec, AH.c0_dec1, AH.aI_dec, AH.aS_dec, AH.aB_dec, AH.aNil_dec, AH.aNil_ptr, Option.map_none, effS, wrS, newS, backNo, AH.isIn, AH.posOf, AH.rwB, List.all_cons, List.all_nil, List.getElem?_cons_zero, List.getElem?_cons_succ, List.getElem?_nil, AH.appE_some, List.contains_cons, List.contains_nil, Nat.add_zero, repT_64]
  refine loop_do [0, 1, 2, 3] [6, 5, 0] [] (α := Nat × Dk) (fun x => T - x.1) (wpSt l) (fun x => x.1 ≤ T ∧ x.2.ok ∧ x.2.L.length = l.d.L.length ∧ wipeD x.2 (T - x.1) x.1 = wipeD l.d (T - a) a) (a, l.d) ⟨ha, hd, rfl, rfl⟩ (by simp only [AH.SD, AH.wpOp, AOp.call?, AOp.next?, bstep, AOp.map, Opd.ev, tget, argTm, evs, AV.cells, St.eff, St.put, applyWr, mset, terase, pureE, unAV, intOp, binAV, fill, mget, AH.rowAt, AH.part, retQ, rvs, retV, AH.splice, AH.sliceElems, AH.bytesOf, AH.strOp, AH.bound, AH.addLog, AH.missQ, AH.minmaxAV, AH.wpOpD, AH.readOf, AH.effOf, AH.mapAt, AH.iterAt, Nat.reduceBEq, Nat.reduceAdd, Nat.reduceLT, ↓reduceIte, Nat.reduceEqDiff, Nat.reduceLeDiff, Nat.reduceSub, Nat.reduceMul, Int.reduceSub, Int.reduceToNat, Int.reduceBEq, Int.reduceBNe, Int.reduceLT, Int.reduceGT, Int.reduceLE, Int.reduceGE, Int.reduceNeg, Int.reduceAdd, AH.PD, heads, distN, AH.inN, posN, packM, packB, packTm, liveB, AV.inB, AV.insB, AV.ren, AV.rens, Blk.ren, Blk.inB, vstep, tput, wpSt, lgM]) ?_
  rintro X ⟨i, d⟩ ⟨hi, hd1, hl, hw⟩ ih
  simp only at hi hd1 hl hw
  simp only [AH.SD, AH.wpOp, AOp.call?, AOp.next?, bstep, AOp.map, Opd.ev, tget, argTm, evs, AV.cells, St.eff, St.put, applyWr, mset, terase, pureE, unAV, intOp, binAV, fill, mget, AH.rowAt, AH.part, retQ, rvs, retV, AH.splice, AH.sliceElems, AH.bytesOf, AH.strOp, AH.bound, AH.addLog, AH.missQ, AH.minmaxAV, AH.wpOpD, AH.readOf, AH.effOf, AH.mapAt, AH.iterAt, Nat.reduceBEq, Nat.reduceAdd, Nat.reduceLT, ↓reduceIte, Nat.reduceEqDiff, Nat.reduceLeDiff, Nat.reduceSub, Nat.reduceMul, Int.reduceSub, Int.reduceToNat, Int.reduceBEq, Int.reduceBNe, Int.reduceLT, Int.reduceGT, Int.reduceLE, Int.reduceGE, Int.reduceNeg, Int.reduceAdd, AH.PD, heads, distN, AH.inN, posN, packM, packB, packTm, liveB, AV.inB, AV.insB, AV.ren, AV.rens, Blk.ren, Blk.inB, vstep, tput, vw, shift, newOnes, rowsM, blkIn, rwB, @flat_lts, AV.lt, AV.lts, Nat.sub_self, AH.rtO_eq, AH.rtO2_eq, AH.rtO2_none, AH.etO_eq, AH.etO2_eq, AH.etO2_none, AH.useO_some, AH.rtElse_eq, AH.elseO_some, AH.elseO_none, AH.etN_eq, Option.bind_some, Option.bind_none, AH.pairO_some, AH.pairO_none, AH.cC_dec, AH.cC_nil, AH.c0_dec, AH.c0_dec1, AH.aI_dec, AH.aS_dec, AH.aB_dec, AH.aNil_dec, AH.aNil_ptr, Option.map_none, effS, wrS, newS, backNo, AH.isIn, AH.posOf, AH.rwB, List.all_cons, List.all_nil, List.getElem?_cons_zero, List.getElem?_cons_succ, List.getElem?_nil, AH.appE_some, List.contains_cons, List.contains_nil, Nat.add_zero, wpSt, lgM, hT]
  refine ⟨fun hlt => ?_, fun hlt => ?_⟩
  · have hiT := lt_of_dec hlt
    have wi := wrapS (i := i) (by omega)
    have hiL : i < d.L.length := by omega
    have hck := chk_at hiL
    obtain ⟨k, hk⟩ : ∃ k, T - i = k + 1 := ⟨T - i - 1, by omega⟩
    have hk2 : T - (i + 1) = k := by omega
    by_cases haw' : d.away = true
    rotate_left
    · have haw : d.away = false := by simpa using haw'
      rw [haw] at hck
      simp only [Bool.false_eq_true, if_false] at hck
      have hg : d.L.getD i ⟨#[]⟩ = d.L[i] := by rw [List.getD_eq_getElem?_getD, List.getElem?_eq_getElem hiL]; rfl
      have hrd : rdS d i = d.L[i] := by rw [rdS, hck, Int.toNat_natCast, hg]; rfl
      by_cases hz : d.L[i] = zeB
      · have e1 : wipeD d (T - (i + 1)) (i + 1) = wipeD l.d (T - a) a := by
          rw [← hw, hk, hk2, wipeD, haw, hg]; simp [hz]
        have done := ih (i + 1, d) ⟨hiT, hd1, hl, e1⟩ (by simp only; omega)
        simp only [wpSt, lgM, hT] at done
        simp only [AH.SD, AH.wpOp, AOp.call?, AOp.next?, bstep, AOp.map, Opd.ev, tget, argTm, evs, AV.cells, St.eff, St.put, applyWr, mset, terase, pureE, unAV, intOp, binAV, fill, mget, AH.rowAt, AH.part, retQ, rvs, retV, AH.splice, AH.sliceElems, AH.bytesOf, AH.strOp, AH.bound, AH.addLog, AH.missQ, AH.minmaxAV, AH.wpOpD, AH.readOf, AH.effOf, AH.mapAt, AH.iterAt, Nat.reduceBEq, Nat.reduceAdd, Nat.reduceLT, ↓reduceIte, Nat.reduceEqDiff, Nat.reduceLeDiff, Nat.reduceSub, Nat.reduceMul, Int.reduceSub, Int.reduceToNat, Int.reduceBEq, Int.reduceBNe, Int.reduceLT, Int.reduceGT, Int.reduceLE, Int.reduceGE, Int.reduceNeg, Int.reduceAdd, AH.PD, heads, distN, AH.inN, posN, packM, packB, packTm, liveB, AV.inB, AV.insB, AV.ren, AV.rens, Blk.ren, Blk.inB, vstep, tput, vw, shift, newOnes, rowsM, blkIn, rwB, @flat_lts, AV.lt, AV.lts, Nat.sub_self, AH.rtO_eq, AH.rtO2_eq, AH.rtO2_none, AH.etO_eq, AH.etO2_eq, AH.etO2_none, AH.useO_some, AH.rtElse_eq, AH.elseO_some, AH.elseO_none, AH.etN_eq, Option.bind_some, Option.bind_none, AH.pairO_some, AH.pairO_none, AH.cC_dec, AH.cC_nil, AH.c0_dec, AH.c0_dec1, AH.aI_dec, AH.aS_dec, AH.aB_dec, AH.aNil_dec, AH.aNil_ptr, Option.map_none, effS, wrS, newS, backNo, AH.isIn, AH.posOf, AH.rwB, List.all_cons, List.all_nil, List.getElem?_cons_zero, List.getElem?_cons_succ, List.getElem?_nil, AH.appE_some, List.contains_cons, List.contains_nil, Nat.add_zero, lgR_eq, lgU_eq, Lg.eta, ne4, Bool.not_false, Bool.and_self, if_true, dkR_eq, dkB_eq, Dk.eta, ne_eq, Nat.reduceEqDiff, Nat.zero_ne_one, not_false_eq_true, drdT_p, drdA, hck, hrd, hz, errA_nil, tl_self, Bool.not_true, wi]
        refine gc_auto [0, 1, 2, 3] [6, 5, 0] [] ?_
        simp only [AH.SD, AH.wpOp, AOp.call?, AOp.next?, bstep, AOp.map, Opd.ev, tget, argTm, evs, AV.cells, St.eff, St.put, applyWr, mset, terase, pureE, unAV, intOp, binAV, fill, mget, AH.rowAt, AH.part, retQ, rvs, retV, AH.splice, AH.sliceElems, AH.bytesOf, AH.strOp, AH.bound, AH.addLog, AH.missQ, AH.minmaxAV, AH.wpOpD, AH.readOf, AH.effOf, AH.mapAt, AH.iterAt, Nat.reduceBEq, Nat.reduceAdd, Nat.reduceLT, ↓reduceIte, Nat.reduceEqDiff, Nat.reduceLeDiff, Nat.reduceSub, Nat.reduceMul, Int.reduceSub, Int.reduceToNat, Int.reduceBEq, Int.reduceBNe, Int.reduceLT, Int.reduceGT, Int.reduceLE, Int.reduceGE, Int.reduceNeg, Int.reduceAdd, AH.PD, heads, distN, AH.inN, posN, packM, packB, packTm, liveB, AV.inB, AV.insB, AV.ren, AV.rens, Blk.ren, Blk.inB, vstep, tput]
        exact done
      · have e2 := tl_ne hz
        have hkd := wrD_kinds (s := zeB) hiL zeB_sz
        have hok := wr_ok hd1 i zeB
        have hln := wr_len d i zeB
        have e3 : wipeD d (T - i) i = if (wrD d i zeB).1 = 0 then wipeD (wrD d i zeB).2 k (i + 1) else wrD d i zeB := by
          rw [hk, wipeD, haw, hg]; simp [hz]
        rcases hkd with hkd | hkd
        · rw [if_pos hkd, ← hk2] at e3
          have done := ih (i + 1, (wrD d i zeB).2) ⟨hiT, hok, by simp only; omega, by simp only; rw [← hw, e3]⟩ (by simp only; omega)
          simp only [wpSt, lgM, hT] at done
          simp only [AH.SD, AH.wpOp, AOp.call?, AOp.next?, bstep, AOp.map, Opd.ev, tget, argTm, evs, AV.cells, St.eff, St.put, applyWr, mset, terase, pureE, unAV, intOp, binAV, fill, mget, AH.rowAt, AH.part, retQ, rvs, retV, AH.splice, AH.sliceElems, AH.bytesOf, AH.strOp, AH.bound, AH.addLog, AH.missQ, AH.minmaxAV, AH.wpOpD, AH.readOf, AH.effOf, AH.mapAt, AH.iterAt, Nat.reduceBEq, Nat.reduceAdd, Nat.reduceLT, ↓reduceIte, Nat.reduceEqDiff, Nat.reduceLeDiff, Nat.reduceSub, Nat.reduceMul, Int.reduceSub, Int.reduceToNat, Int.reduceBEq, Int.reduceBNe, Int.reduceLT, Int.reduceGT, Int.reduceLE, Int.reduceGE, Int.reduceNeg, Int.reduceAdd, AH.PD, heads, distN, AH.inN, posN, packM, packB, packTm, liveB, AV.inB, AV.insB, AV.ren, AV.rens, Blk.ren, Blk.inB, vstep, tput, vw, shift, newOnes, rowsM, blkIn, rwB, @flat_lts, AV.lt, AV.lts, Nat.sub_self, AH.rtO_eq, AH.rtO2_eq, AH.rtO2_none, AH.etO_eq, AH.etO2_eq, AH.etO2_none, AH.useO_some, AH.rtElse_eq, AH.elseO_some, AH.elseO_none, AH.etN_eq, Option.bind_some, Option.bind_none, AH.pairO_some, AH.pairO_none, AH.cC_dec, AH.cC_nil, AH.c0_dec, AH.c0_dec1, AH.aI_dec, AH.aS_dec, AH.aB_dec, AH.aNil_dec, AH.aNil_ptr, Option.map_none, effS, wrS, newS, backNo, AH.isIn, AH.posOf, AH.rwB, List.all_cons, List.all_nil, List.getElem?_cons_zero, List.getElem?_cons_succ, List.getElem?_nil, AH.appE_some, List.contains_cons, List.contains_nil, Nat.add_zero, lgR_eq, lgU_eq, Lg.eta, ne4, Bool.not_false, Bool.and_self, if_true, dkR_eq, dkB_eq, Dk.eta, ne_eq, Nat.reduceEqDiff, Nat.zero_ne_one, not_false_eq_true, drdT_p, drdA, hck, hrd, e2, errA_nil, Bool.not_false, writeNT_p, writeT_p, hd1, if_true, dkM, hkd, errA0, wi, errA_ren]
          refine gc_auto [0, 1, 2, 3] [6, 5, 0] [] ?_
          simp only [AH.SD, AH.wpOp, AOp.call?, AOp.next?, bstep, AOp.map, Opd.ev, tget, argTm, evs, AV.cells, St.eff, St.put, applyWr, mset, terase, pureE, unAV, intOp, binAV, fill, mget, AH.rowAt, AH.part, retQ, rvs, retV, AH.splice, AH.sliceElems, AH.bytesOf, AH.strOp, AH.bound, AH.addLog, AH.missQ, AH.minmaxAV, AH.wpOpD, AH.readOf, AH.effOf, AH.mapAt, AH.iterAt, Nat.reduceBEq, Nat.reduceAdd, Nat.reduceLT, ↓reduceIte, Nat.reduceEqDiff, Nat.reduceLeDiff, Nat.reduceSub, Nat.reduceMul, Int.reduceSub, Int.reduceToNat, Int.reduceBEq, Int.reduceBNe, Int.reduceLT, Int.reduceGT, Int.reduceLE, Int.reduceGE, Int.reduceNeg, Int.reduceAdd, AH.PD, heads, distN, AH.inN, posN, packM, packB, packTm, liveB, AV.inB, AV.insB, AV.ren, AV.rens, Blk.ren, Blk.inB, vstep, tput]
          exact done
        · rw [hkd, if_neg (by decide)] at e3
          have e4 : wipeD l.d (T - a) a = wrD d i zeB := by rw [← hw, e3]
          simp only [AH.SD, AH.wpOp, AOp.call?, AOp.next?, bstep, AOp.map, Opd.ev, tget, argTm, evs, AV.cells, St.eff, St.put, applyWr, mset, terase, pureE, unAV, intOp, binAV, fill, mget, AH.rowAt, AH.part, retQ, rvs, retV, AH.splice, AH.sliceElems, AH.bytesOf, AH.strOp, AH.bound, AH.addLog, AH.missQ, AH.minmaxAV, AH.wpOpD, AH.readOf, AH.effOf, AH.mapAt, AH.iterAt, Nat.reduceBEq, Nat.reduceAdd, Nat.reduceLT, ↓reduceIte, Nat.reduceEqDiff, Nat.reduceLeDiff, Nat.reduceSub, Nat.reduceMul, Int.reduceSub, Int.reduceToNat, Int.reduceBEq, Int.reduceBNe, Int.reduceLT, Int.reduceGT, Int.reduceLE, Int.reduceGE, Int.reduceNeg, Int.reduceAdd, AH.PD, heads, distN, AH.inN, posN, packM, packB, packTm, liveB, AV.inB, AV.insB, AV.ren, AV.rens, Blk.ren, Blk.inB, vstep, tput, vw, shift, newOnes, rowsM, blkIn, rwB, @flat_lts, AV.lt, AV.lts, Nat.sub_self, AH.rtO_eq, AH.rtO2_eq, AH.rtO2_none, AH.etO_eq, AH.etO2_eq, AH.etO2_none, AH.useO_some, AH.rtElse_eq, AH.elseO_some, AH.elseO_none, AH.etN_eq, Option.bind_some, Option.bind_none, AH.pairO_some, AH.pairO_none, AH.cC_dec, AH.cC_nil, AH.c0_dec, AH.c0_dec1, AH.aI_dec, AH.aS_dec, AH.aB_dec, AH.aNil_dec, AH.aNil_ptr, Option.map_none, effS, wrS, newS, backNo, AH.isIn, AH.posOf, AH.rwB, List.all_cons, List.all_nil, List.getElem?_cons_zero, List.getElem?_cons_succ, List.getElem?_nil, AH.appE_some, List.contains_cons, List.contains_nil, Nat.add_zero, lgR_eq, lgU_eq, Lg.eta, ne4, Bool.not_false, Bool.and_self, if_true, dkR_eq, dkB_eq, Dk.eta, ne_eq, Nat.reduceEqDiff, Nat.zero_ne_one, not_false_eq_true, drdT_p, drdA, hck, hrd, e2, errA_nil, Bool.not_false, writeNT_p, writeT_p, hd1, if_true, dkM, hkd, errA14, errA_ren, e4, lgM, hT]
          try trivial
    · have haw : d.away = true := haw'
      rw [haw] at hck
      simp only [if_true] at hck
      have e3 : wipeD l.d (T - a) a = (14, d) := by rw [← hw, hk, wipeD, haw]; rfl
      simp only [AH.SD, AH.wpOp, AOp.call?, AOp.next?, bstep, AOp.map, Opd.ev, tget, argTm, evs, AV.cells, St.eff, St.put, applyWr, mset, terase, pureE, unAV, intOp, binAV, fill, mget, AH.rowAt, AH.part, retQ, rvs, retV, AH.splice, AH.sliceElems, AH.bytesOf, AH.strOp, AH.bound, AH.addLog, AH.missQ, AH.minmaxAV, AH.wpOpD, AH.readOf, AH.effOf, AH.mapAt, AH.iterAt, Nat.reduceBEq, Nat.reduceAdd, Nat.reduceLT, ↓reduceIte, Nat.reduceEqDiff, Nat.reduceLeDiff, Nat.reduceSub, Nat.reduceMul, Int.reduceSub, Int.reduceToNat, Int.reduceBEq, Int.reduceBNe, Int.reduceLT, Int.reduceGT, Int.reduceLE, Int.reduceGE, Int.reduceNeg, Int.reduceAdd, AH.PD, heads, distN, AH.inN, posN, packM, packB, packTm, liveB, AV.inB, AV.insB, AV.ren, AV.rens, Blk.ren, Blk.inB, vstep, tput, vw, shift, newOnes, rowsM, blkIn, rwB, @flat_lts, AV.lt, AV.lts, Nat.sub_self, AH.rtO_eq, AH.rtO2_eq, AH.rtO2_none, AH.etO_eq, AH.etO2_eq, AH.etO2_none, AH.useO_some, AH.rtElse_eq, AH.elseO_some, AH.elseO_none, AH.etN_eq, Option.bind_some, Option.bind_none, AH.pairO_some, AH.pairO_none, AH.cC_dec, AH.cC_nil, AH.c0_dec, AH.c0_dec1, AH.aI_dec, AH.aS_dec, AH.aB_dec, AH.aNil_dec, AH.aNil_ptr, Option.map_none, effS, wrS, newS, backNo, AH.isIn, AH.posOf, AH.rwB, List.all_cons, List.all_nil, List.getElem?_cons_zero, List.getElem?_cons_succ, List.getElem?_nil, AH.appE_some, List.contains_cons, List.contains_nil, Nat.add_zero, lgR_eq, lgU_eq, Lg.eta, ne4, Bool.not_false, Bool.and_self, if_true, dkR_eq, dkB_eq, Dk.eta, ne_eq, Nat.reduceEqDiff, Nat.zero_ne_one, not_false_eq_true, drdT_p, drdA, hck, errA_nil, errA14, e3, lgM, hT]
      try trivial
  · have : i = T := by
      have := ge_of_dec hlt
      omega
    subst this
    have e3 : wipeD l.d (i - a) a = (0, d) := by rw [← hw, Nat.sub_self, wipeD]
    simp only [AH.SD, AH.wpOp, AOp.call?, AOp.next?, bstep, AOp.map, Opd.ev, tget, argTm, evs, AV.cells, St.eff, St.put, applyWr, mset, terase, pureE, unAV, intOp, binAV, fill, mget, AH.rowAt, AH.part, retQ, rvs, retV, AH.splice, AH.sliceElems, AH.bytesOf, AH.strOp, AH.bound, AH.addLog, AH.missQ, AH.minmaxAV, AH.wpOpD, AH.readOf, AH.effOf, AH.mapAt, AH.iterAt, Nat.reduceBEq, Nat.reduceAdd, Nat.reduceLT, ↓reduceIte, Nat.reduceEqDiff, Nat.reduceLeDiff, Nat.reduceSub, Nat.reduceMul, Int.reduceSub, Int.reduceToNat, Int.reduceBEq, Int.reduceBNe, Int.reduceLT, Int.reduceGT, Int.reduceLE, Int.reduceGE, Int.reduceNeg, Int.reduceAdd, AH.PD, heads, distN, AH.inN, posN, packM, packB, packTm, liveB, AV.inB, AV.insB, AV.ren, AV.rens, Blk.ren, Blk.inB, vstep, tput, vw, shift, newOnes, rowsM, blkIn, rwB, @flat_lts, AV.lt, AV.lts, Nat.sub_self, AH.rtO_eq, AH.rtO2_eq, AH.rtO2_none, AH.etO_eq, AH.etO2_eq, AH.etO2_none, AH.useO_some, AH.rtElse_eq, AH.elseO_some, AH.elseO_none, AH.etN_eq, Option.bind_some, Option.bind_none, AH.pairO_some, AH.pairO_none, AH.cC_dec, AH.cC_nil, AH.c0_dec, AH.c0_dec1, AH.aI_dec, AH.aS_dec, AH.aB_dec, AH.aNil_dec, AH.aNil_ptr, Option.map_none, effS, wrS, newS, backNo, AH.isIn, AH.posOf, AH.rwB, List.all_cons, List.all_nil, List.getElem?_cons_zero, List.getElem?_cons_succ, List.getElem?_nil, AH.appE_some, List.contains_cons, List.contains_nil, Nat.add_zero, e3, errA0, lgM, hT]
    try trivial
end Go.Proofs.YthapdikdeoeplaaDoor.H6
end

section
open Go AH
set_option linter.unusedSimpArgs false
set_option maxRecDepth 100000
namespace Go.Proofs.YthapdikdeoeplaaDoor.H6
/- Records, lost, Add, Reset. -/
theorem cloneSt_ok : CallF S0 44 (cloneU 1) := clone_ok (bytes := 16) (z := [.str ⟨#[]⟩]) errs0 mixed Tryd.func44 c44 rfl (by decide) (by decide)
theorem cloneSt_eq {l : List ByteArray} {m : Mem} {id : Nat} {cap : Option Nat} (hM : rowE (mget m) id = some (1, l.map strC)) (hl : l.length ≤ 1048576) :
    cloneU 1 [.slc id 0 l.length cap] m = some (.slc m.length 0 l.length none, m ++ [some (.row false 1 (l.map strC))]) := by
  have h1 : (l.map strC).take l.length = l.map strC := take_all
  have h2 : (l.map strC).all (AV.lts 0) = true := cStr.all_flat l
  simp only [cloneU, hM, List.drop_zero, h1, h2, hl, beq_self_eq_true, List.length_map, Nat.zero_add, Nat.le_refl, decide_true, Bool.and_self, cond_true]
theorem okRc : CtxOK S0 (ctxU S0 [] [(44, cloneU 1)]) := ctxU_ok trivial ⟨cloneSt_ok, trivial⟩ mixed
theorem records_ok (l : Lg) (h : l.R.length ≤ 1048576) : CallA1 S0 18 [.ptr 0 0 0] (lgM l) fun r m => r = .slc 4 0 l.R.length none ∧ m = lgM l ++ [some (.row false 1 (l.R.map strC))] := by
  refine CallA1.fin ?_
  refine fun_sound okRc Tryd.func18 c18 ?_
  unfold wpF F18
  simp only [AH.SD, AH.wpOp, AOp.call?, AOp.next?, bstep, AOp.map, Opd.ev, tget, argTm, evs, AV.cells, St.eff, St.put, applyWr, mset, terase, pureE, unAV, intOp, binAV, fill, mget, AH.rowAt, AH.part, retQ, rvs, retV, AH.splice, AH.sliceElems, AH.bytesOf, AH.strOp, AH.bound, AH.addLog, AH.missQ, AH.minmaxAV, AH.wpOpD, AH.readOf, AH.effOf, AH.mapAt, AH.iterAt, Nat.reduceBEq, Nat.reduceAdd, Nat.reduceLT, ↓reduceIte, Nat.reduceEqDiff, Nat.reduceLeDiff, Nat.reduceSub, Nat.reduceMul, Int.reduceSub, Int.reduceToNat, Int.reduceBEq, Int.reduceBNe, Int.reduceLT, Int.reduceGT, Int.reduceLE, Int.reduceGE, Int.reduceNeg, Int.reduceAdd, lgM, cloneSt_eq, h]
  refine ⟨[0, 1, 2, 3, 4], [], ?_⟩
  simp only [AH.SD, AH.wpOp, AOp.call?, AOp.next?, bstep, AOp.map, Opd.ev, tget, argTm, evs, AV.cells, St.eff, St.put, applyWr, mset, terase, pureE, unAV, intOp, binAV, fill, mget, AH.rowAt, AH.part, retQ, rvs, retV, AH.splice, AH.sliceElems, AH.bytesOf, AH.strOp, AH.bound, AH.addLog, AH.missQ, AH.minmaxAV, AH.wpOpD, AH.readOf, AH.effOf, AH.mapAt, AH.iterAt, Nat.reduceBEq, Nat.reduceAdd, Nat.reduceLT, ↓reduceIte, Nat.reduceEqDiff, Nat.reduceLeDiff, Nat.reduceSub, Nat.reduceMul, Int.reduceSub, Int.reduceToNat, Int.reduceBEq, Int.reduceBNe, Int.reduceLT, Int.reduceGT, Int.reduceLE, Int.reduceGE, Int.reduceNeg, Int.reduceAdd, AH.PD, heads, distN, AH.inN, posN, packM, packB, packTm, liveB, AV.inB, AV.insB, AV.ren, AV.rens, Blk.ren, Blk.inB, vstep, tput]
  try trivial
theorem records_nil : Pure S0 18 [.nilp] .nils := by
  refine fun_sound okRc Tryd.func18 c18 ?_
  unfold wpF F18
  simp only [AH.SD, AH.wpOp, AOp.call?, AOp.next?, bstep, AOp.map, Opd.ev, tget, argTm, evs, AV.cells, St.eff, St.put, applyWr, mset, terase, pureE, unAV, intOp, binAV, fill, mget, AH.rowAt, AH.part, retQ, rvs, retV, AH.splice, AH.sliceElems, AH.bytesOf, AH.strOp, AH.bound, AH.addLog, AH.missQ, AH.minmaxAV, AH.wpOpD, AH.readOf, AH.effOf, AH.mapAt, AH.iterAt, Nat.reduceBEq, Nat.reduceAdd, Nat.reduceLT, ↓reduceIte, Nat.reduceEqDiff, Nat.reduceLeDiff, Nat.reduceSub, Nat.reduceMul, Int.reduceSub, Int.reduceToNat, Int.reduceBEq, Int.reduceBNe, Int.reduceLT, Int.reduceGT, Int.reduceLE, Int.reduceGE, Int.reduceNeg, Int.reduceAdd]
def recsT : ET := etO lgO c0 fun l _ => if l.R.length ≤ 1048576 then some (.slc 4 0 l.R.length none, lgM l ++ [some (.row false 1 (l.R.map strC))]) else none
theorem recsT_ok : EffF S0 18 recsT := etO_ok fun l x v m' h => by
  split at h
  · rename_i hl
    simp only [Option.some.injEq, Prod.mk.injEq] at h
    obtain ⟨rfl, rfl⟩ := h
    exact ⟨⟨by simp [lgO, lgM], rfl⟩, records_ok l hl⟩
  · cases h
theorem recsT_p {p n : Nat} {M : Nat → Option Blk} : recsT [.ptr p 0 0] M n = etO2 n (fun (l : Lg) (_ : Unit) => if l.R.length ≤ 1048576 then some (.slc 4 0 l.R.length none, lgM l ++ [some (.row false 1 (l.R.map strC))]) else none) (lgR M p (M p)) (some ()) := by
  simp only [recsT, etO_eq, c0_dec, lgO_dec]
def recsN : RT := rtP (cC aNil c0) fun _ => .nils
theorem recsN_ok : ReadF S0 18 recsN := rtP_ok (fun _ => records_nil) fun _ => rfl
theorem recsN_n {M : Nat → Option Blk} : recsN [.nilp] M = some (.nils, []) := by
  simp only [recsN, rtP, cC_dec, aNil_dec, c0_dec, pairO_some, Option.map_some]
theorem recsN_p {p : Nat} {M : Nat → Option Blk} : recsN [.ptr p 0 0] M = none := by
  simp only [recsN, rtP, cC_dec, aNil_ptr, pairO_none, Option.map_none]

theorem okLost : CtxOK S0 (ctxU S0 [(42, isT)] []) := ctxU_ok ⟨isT_ok, trivial⟩ trivial mixed
theorem isDown : ∀ M, isT [.err 3, .err 3] M = some (.bool true, []) := fun M => rfl
theorem lost_ok (l : Lg) : CallA1 S0 41 [.ptr 0 0 0, .err 3] (lgM l) fun r m => r = .err 3 ∧ m = lgM { l with down := true } := by
  refine fun_sound okLost Tryd.func41 c41 ?_
  unfold wpF F41
  cases h : l.down
  · simp only [AH.SD, AH.wpOp, AOp.call?, AOp.next?, bstep, AOp.map, Opd.ev, tget, argTm, evs, AV.cells, St.eff, St.put, applyWr, mset, terase, pureE, unAV, intOp, binAV, fill, mget, AH.rowAt, AH.part, retQ, rvs, retV, AH.splice, AH.sliceElems, AH.bytesOf, AH.strOp, AH.bound, AH.addLog, AH.missQ, AH.minmaxAV, AH.wpOpD, AH.readOf, AH.effOf, AH.mapAt, AH.iterAt, Nat.reduceBEq, Nat.reduceAdd, Nat.reduceLT, ↓reduceIte, Nat.reduceEqDiff, Nat.reduceLeDiff, Nat.reduceSub, Nat.reduceMul, Int.reduceSub, Int.reduceToNat, Int.reduceBEq, Int.reduceBNe, Int.reduceLT, Int.reduceGT, Int.reduceLE, Int.reduceGE, Int.reduceNeg, Int.reduceAdd, lgM, h, isDown]
  · simp only [AH.SD, AH.wpOp, AOp.call?, AOp.next?, bstep, AOp.map, Opd.ev, tget, argTm, evs, AV.cells, St.eff, St.put, applyWr, mset, terase, pureE, unAV, intOp, binAV, fill, mget, AH.rowAt, AH.part, retQ, rvs, retV, AH.splice, AH.sliceElems, AH.bytesOf, AH.strOp, AH.bound, AH.addLog, AH.missQ, AH.minmaxAV, AH.wpOpD, AH.readOf, AH.effOf, AH.mapAt, AH.iterAt, Nat.reduceBEq, Nat.reduceAdd, Nat.reduceLT, ↓reduceIte, Nat.reduceEqDiff, Nat.reduceLeDiff, Nat.reduceSub, Nat.reduceMul, Int.reduceSub, Int.reduceToNat, Int.reduceBEq, Int.reduceBNe, Int.reduceLT, Int.reduceGT, Int.reduceLE, Int.reduceGE, Int.reduceNeg, Int.reduceAdd, lgM, h, isDown]
def decDn : AV → Option Unit
  | .err n => if n = 3 then some () else none
  | _ => none
theorem decDn_ok (v : AV) (a : Unit) (h : decDn v = some a) : v = .err 3 := by
  unfold decDn at h
  split at h
  · split at h
    · rename_i e; rw [e]
    · cases h
  · cases h
def aDn : Arg Unit := ⟨fun _ => .err 3, decDn, decDn_ok, fun _ => rfl, fun _ => rfl⟩
theorem aDn_dec : aDn.dec (.err 3) = some () := rfl
def lostT : ET := etO lgO (cC aDn c0) fun l _ => some (.err 3, lgM { l with down := true })
theorem lostT_ok : EffF S0 41 lostT := etO_ok fun l x v m' h => by
  simp only [Option.some.injEq, Prod.mk.injEq] at h
  obtain ⟨rfl, rfl⟩ := h
  exact ⟨⟨Nat.le_refl 4, rfl⟩, lost_ok l⟩
theorem lostT_p {p n : Nat} {M : Nat → Option Blk} : lostT [.ptr p 0 0, .err 3] M n = etO2 n (fun (l : Lg) (_ : Unit × Unit) => some (.err 3, lgM { l with down := true })) (lgR M p (M p)) (some ((), ())) := by
  simp only [lostT, etO_eq, cC_dec, aDn_dec, c0_dec, pairO_some, lgO_dec]
/-- A log whose records lie elsewhere. -/
def lgM2 (x : Option Blk) (l : Lg) : Mem := [some (.row false 7 [[.ptr 1 0 0, .int .i64 l.f, .int .i64 l.t, .int .i64 l.b, .int .i64 l.a, .slc 4 0 l.R.length none, .bool l.down]]),
  some (.row false 5 [[.slc 2 0 l.d.L.length none, .bool l.d.away, .int .i64 l.d.fuse, .int .i64 l.d.torn, .int .i64 l.d.writes]]), some (.row false 1 (l.d.L.map strC)), x, some (.row false 1 (l.R.map strC))]
def wipeT : ET := etO lgO (cC (aI .i64) c0) fun l x => if l.ok ∧ 0 ≤ x.1 ∧ x.1 ≤ l.t then some (errA (wipeD l.d (l.t - x.1).toNat x.1.toNat).1, lgM { l with d := (wipeD l.d (l.t - x.1).toNat x.1.toNat).2 }) else none
theorem wipeT_ok : EffF S0 38 wipeT := etO_ok fun l x v m' h => by
  split at h
  · rename_i hl
    simp only [Option.some.injEq, Prod.mk.injEq] at h
    obtain ⟨rfl, rfl⟩ := h
    obtain ⟨h1, h2, h3⟩ := hl
    obtain ⟨a, ha⟩ := Int.eq_ofNat_of_zero_le h2
    obtain ⟨T, hT⟩ := Int.eq_ofNat_of_zero_le (show 0 ≤ l.t by omega)
    have e1 : (l.t - x.1).toNat = T - a := by omega
    have e2 : x.1.toNat = a := by omega
    refine ⟨⟨Nat.le_refl 4, rfl⟩, ?_⟩
    rw [e1, e2]
    have := lwipe_ok l h1 a T hT (by omega)
    show CallA1 S0 _ [.ptr 0 0 0, .int .i64 x.1] (lgM l) _
    rw [ha]
    exact this
  · cases h
theorem wipeT_p {p n : Nat} {a : Int} {M : Nat → Option Blk} : wipeT [.ptr p 0 0, .int .i64 a] M n = etO2 n (fun (l : Lg) (x : Int × Unit) => if l.ok ∧ 0 ≤ x.1 ∧ x.1 ≤ l.t then some (errA (wipeD l.d (l.t - x.1).toNat x.1.toNat).1, lgM { l with d := (wipeD l.d (l.t - x.1).toNat x.1.toNat).2 }) else none) (lgR M p (M p)) (some (a, ())) := by
  simp only [wipeT, etO_eq, cC_dec, aI_dec, c0_dec, pairO_some, lgO_dec]
noncomputable abbrev tRs : List (FuncId × RT) := [(35, isBaseT)]
noncomputable abbrev eRs : List (FuncId × ET) := [(38, wipeT), (41, lostT)]
theorem okRs : CtxOK S0 (ctxE S0 tRs [] eRs) := ctxE_ok ⟨isBaseT_ok, trivial⟩ trivial ⟨wipeT_ok, lostT_ok, trivial⟩ mixed
theorem Lg.ok.wipe {l : Lg} (h : l.ok) (k a : Nat) : ({ l with d := (wipeD l.d k a).2 } : Lg).ok := by
  obtain ⟨h1, h2, h3, h4, h5, h6, h7⟩ := h
  obtain ⟨g1, g2⟩ := wipe_ok k a h1
  exact ⟨g1, h2, h3, h4, h5, by simp only [g2]; exact h6, h7⟩
def rsM (l : Lg) (b : Int) : Mem := if (rstL l b).1 = 0 then lgM2 (some (.row false 1 (l.R.map strC))) (rstL l b).2 else lgM (rstL l b).2
theorem reset_ok (l : Lg) (h : l.ok) (b : Int) : CallA1 S0 13 [.ptr 0 0 0, .int .i64 b] (lgM l) fun r m => r = errA (rstL l b).1 ∧ m = rsM l b := by
  have hf := h.2.2.1
  have hft : l.f ≤ l.t := by have := h.2.2.2.1; have := h.2.2.2.2.1; omega
  have hkd := wipe_kind (l.t - l.f).toNat (d := l.d) l.f.toNat (by have := h.2.2.2.2.2.1; omega)
  obtain ⟨d, f, t, b0, a, R, down⟩ := l
  simp only at hf hft hkd
  refine CallA1.fin ?_
  refine fun_sound okRs Tryd.func13 c13 ?_
  unfold wpF F13
  by_cases hb : isBase b
  · have hb1 : decide (isBase b) = true := decide_eq_true hb
    cases down
    · rcases hkd with hkd | hkd
      · have e : rstL ⟨d, f, t, b0, a, R, false⟩ b = (0, ⟨(wipeD d (t - f).toNat f.toNat).2, f, t, b, f, [], false⟩) := by
          unfold rstL; rw [if_neg (by simpa using hb), if_neg (by simp), if_pos hkd]
        simp only [AH.SD, AH.wpOp, AOp.call?, AOp.next?, bstep, AOp.map, Opd.ev, tget, argTm, evs, AV.cells, St.eff, St.put, applyWr, mset, terase, pureE, unAV, intOp, binAV, fill, mget, AH.rowAt, AH.part, retQ, rvs, retV, AH.splice, AH.sliceElems, AH.bytesOf, AH.strOp, AH.bound, AH.addLog, AH.missQ, AH.minmaxAV, AH.wpOpD, AH.readOf, AH.effOf, AH.mapAt, AH.iterAt, Nat.reduceBEq, Nat.reduceAdd, Nat.reduceLT, ↓reduceIte, Nat.reduceEqDiff, Nat.reduceLeDiff, Nat.reduceSub, Nat.reduceMul, Int.reduceSub, Int.reduceToNat, Int.reduceBEq, Int.reduceBNe, Int.reduceLT, Int.reduceGT, Int.reduceLE, Int.reduceGE, Int.reduceNeg, Int.reduceAdd, AH.PD, heads, distN, AH.inN, posN, packM, packB, packTm, liveB, AV.inB, AV.insB, AV.ren, AV.rens, Blk.ren, Blk.inB, vstep, tput, vw, shift, newOnes, rowsM, blkIn, rwB, @flat_lts, AV.lt, AV.lts, Nat.sub_self, AH.rtO_eq, AH.rtO2_eq, AH.rtO2_none, AH.etO_eq, AH.etO2_eq, AH.etO2_none, AH.useO_some, AH.rtElse_eq, AH.elseO_some, AH.elseO_none, AH.etN_eq, Option.bind_some, Option.bind_none, AH.pairO_some, AH.pairO_none, AH.cC_dec, AH.cC_nil, AH.c0_dec, AH.c0_dec1, AH.aI_dec, AH.aS_dec, AH.aB_dec, AH.aNil_dec, AH.aNil_ptr, Option.map_none, effS, wrS, newS, backNo, AH.isIn, AH.posOf, AH.rwB, List.all_cons, List.all_nil, List.getElem?_cons_zero, List.getElem?_cons_succ, List.getElem?_nil, AH.appE_some, List.contains_cons, List.contains_nil, Nat.add_zero, lgM, isBaseT_p, hb1, lgR_eq, lgU_eq, Lg.eta, ne4, Bool.not_false, Bool.and_self, if_true, dkR_eq, dkB_eq, Dk.eta, ne_eq, Nat.reduceEqDiff, Nat.zero_ne_one, not_false_eq_true, wipeT_p, h, hf, hft, and_self, hkd, errA0, errA_nil, errA_ren]
        refine ⟨[0, 1, 2, 3], [.cell 0 0 5 1], ?_⟩
        simp only [AH.SD, AH.wpOp, AOp.call?, AOp.next?, bstep, AOp.map, Opd.ev, tget, argTm, evs, AV.cells, St.eff, St.put, applyWr, mset, terase, pureE, unAV, intOp, binAV, fill, mget, AH.rowAt, AH.part, retQ, rvs, retV, AH.splice, AH.sliceElems, AH.bytesOf, AH.strOp, AH.bound, AH.addLog, AH.missQ, AH.minmaxAV, AH.wpOpD, AH.readOf, AH.effOf, AH.mapAt, AH.iterAt, Nat.reduceBEq, Nat.reduceAdd, Nat.reduceLT, ↓reduceIte, Nat.reduceEqDiff, Nat.reduceLeDiff, Nat.reduceSub, Nat.reduceMul, Int.reduceSub, Int.reduceToNat, Int.reduceBEq, Int.reduceBNe, Int.reduceLT, Int.reduceGT, Int.reduceLE, Int.reduceGE, Int.reduceNeg, Int.reduceAdd, AH.PD, heads, distN, AH.inN, posN, packM, packB, packTm, liveB, AV.inB, AV.insB, AV.ren, AV.rens, Blk.ren, Blk.inB, vstep, tput, e, rsM, errA0, lgM2]
        try simp
      · have e : rstL ⟨d, f, t, b0, a, R, false⟩ b = (14, ⟨(wipeD d (t - f).toNat f.toNat).2, f, t, b0, a, R, true⟩) := by
          unfold rstL; rw [if_neg (by simpa using hb), if_neg (by simp), if_neg (by simp only [hkd]; decide)]; simp only [hkd]; rfl
        simp only [AH.SD, AH.wpOp, AOp.call?, AOp.next?, bstep, AOp.map, Opd.ev, tget, argTm, evs, AV.cells, St.eff, St.put, applyWr, mset, terase, pureE, unAV, intOp, binAV, fill, mget, AH.rowAt, AH.part, retQ, rvs, retV, AH.splice, AH.sliceElems, AH.bytesOf, AH.strOp, AH.bound, AH.addLog, AH.missQ, AH.minmaxAV, AH.wpOpD, AH.readOf, AH.effOf, AH.mapAt, AH.iterAt, Nat.reduceBEq, Nat.reduceAdd, Nat.reduceLT, ↓reduceIte, Nat.reduceEqDiff, Nat.reduceLeDiff, Nat.reduceSub, Nat.reduceMul, Int.reduceSub, Int.reduceToNat, Int.reduceBEq, Int.reduceBNe, Int.reduceLT, Int.reduceGT, Int.reduceLE, Int.reduceGE, Int.reduceNeg, Int.reduceAdd, AH.PD, heads, distN, AH.inN, posN, packM, packB, packTm, liveB, AV.inB, AV.insB, AV.ren, AV.rens, Blk.ren, Blk.inB, vstep, tput, vw, shift, newOnes, rowsM, blkIn, rwB, @flat_lts, AV.lt, AV.lts, Nat.sub_self, AH.rtO_eq, AH.rtO2_eq, AH.rtO2_none, AH.etO_eq, AH.etO2_eq, AH.etO2_none, AH.useO_some, AH.rtElse_eq, AH.elseO_some, AH.elseO_none, AH.etN_eq, Option.bind_some, Option.bind_none, AH.pairO_some, AH.pairO_none, AH.cC_dec, AH.cC_nil, AH.c0_dec, AH.c0_dec1, AH.aI_dec, AH.aS_dec, AH.aB_dec, AH.aNil_dec, AH.aNil_ptr, Option.map_none, effS, wrS, newS, backNo, AH.isIn, AH.posOf, AH.rwB, List.all_cons, List.all_nil, List.getElem?_cons_zero, List.getElem?_cons_succ, List.getElem?_nil, AH.appE_some, List.contains_cons, List.contains_nil, Nat.add_zero, lgM, isBaseT_p, hb1, lgR_eq, lgU_eq, Lg.eta, ne4, Bool.not_false, Bool.and_self, if_true, dkR_eq, dkB_eq, Dk.eta, ne_eq, Nat.reduceEqDiff, Nat.zero_ne_one, not_false_eq_true, wipeT_p, h, hf, hft, and_self, hkd, errA14, errA_nil, errA_ren, lostT_p]
        refine ⟨[0, 1, 2, 3], [], ?_⟩
        simp only [AH.SD, AH.wpOp, AOp.call?, AOp.next?, bstep, AOp.map, Opd.ev, tget, argTm, evs, AV.cells, St.eff, St.put, applyWr, mset, terase, pureE, unAV, intOp, binAV, fill, mget, AH.rowAt, AH.part, retQ, rvs, retV, AH.splice, AH.sliceElems, AH.bytesOf, AH.strOp, AH.bound, AH.addLog, AH.missQ, AH.minmaxAV, AH.wpOpD, AH.readOf, AH.effOf, AH.mapAt, AH.iterAt, Nat.reduceBEq, Nat.reduceAdd, Nat.reduceLT, ↓reduceIte, Nat.reduceEqDiff, Nat.reduceLeDiff, Nat.reduceSub, Nat.reduceMul, Int.reduceSub, Int.reduceToNat, Int.reduceBEq, Int.reduceBNe, Int.reduceLT, Int.reduceGT, Int.reduceLE, Int.reduceGE, Int.reduceNeg, Int.reduceAdd, AH.PD, heads, distN, AH.inN, posN, packM, packB, packTm, liveB, AV.inB, AV.insB, AV.ren, AV.rens, Blk.ren, Blk.inB, vstep, tput, e, rsM, errA14, lgM, show ¬ ((14 : Nat) = 0) by decide, if_false]
        try simp
    · have e : rstL ⟨d, f, t, b0, a, R, true⟩ b = (14, ⟨d, f, t, b0, a, R, true⟩) := by unfold rstL; rw [if_neg (by simpa using hb), if_pos rfl]
      simp only [AH.SD, AH.wpOp, AOp.call?, AOp.next?, bstep, AOp.map, Opd.ev, tget, argTm, evs, AV.cells, St.eff, St.put, applyWr, mset, terase, pureE, unAV, intOp, binAV, fill, mget, AH.rowAt, AH.part, retQ, rvs, retV, AH.splice, AH.sliceElems, AH.bytesOf, AH.strOp, AH.bound, AH.addLog, AH.missQ, AH.minmaxAV, AH.wpOpD, AH.readOf, AH.effOf, AH.mapAt, AH.iterAt, Nat.reduceBEq, Nat.reduceAdd, Nat.reduceLT, ↓reduceIte, Nat.reduceEqDiff, Nat.reduceLeDiff, Nat.reduceSub, Nat.reduceMul, Int.reduceSub, Int.reduceToNat, Int.reduceBEq, Int.reduceBNe, Int.reduceLT, Int.reduceGT, Int.reduceLE, Int.reduceGE, Int.reduceNeg, Int.reduceAdd, AH.PD, heads, distN, AH.inN, posN, packM, packB, packTm, liveB, AV.inB, AV.insB, AV.ren, AV.rens, Blk.ren, Blk.inB, vstep, tput, vw, shift, newOnes, rowsM, blkIn, rwB, @flat_lts, AV.lt, AV.lts, Nat.sub_self, AH.rtO_eq, AH.rtO2_eq, AH.rtO2_none, AH.etO_eq, AH.etO2_eq, AH.etO2_none, AH.useO_some, AH.rtElse_eq, AH.elseO_some, AH.elseO_none, AH.etN_eq, Option.bind_some, Option.bind_none, AH.pairO_some, AH.pairO_none, AH.cC_dec, AH.cC_nil, AH.c0_dec, AH.c0_dec1, AH.aI_dec, AH.aS_dec, AH.aB_dec, AH.aNil_dec, AH.aNil_ptr, Option.map_none, effS, wrS, newS, backNo, AH.isIn, AH.posOf, AH.rwB, List.all_cons, List.all_nil, List.getElem?_cons_zero, List.getElem?_cons_succ, List.getElem?_nil, AH.appE_some, List.contains_cons, List.contains_nil, Nat.add_zero, lgM, isBaseT_p, hb1]
      refine ⟨[0, 1, 2, 3], [], ?_⟩
      simp only [AH.SD, AH.wpOp, AOp.call?, AOp.next?, bstep, AOp.map, Opd.ev, tget, argTm, evs, AV.cells, St.eff, St.put, applyWr, mset, terase, pureE, unAV, intOp, binAV, fill, mget, AH.rowAt, AH.part, retQ, rvs, retV, AH.splice, AH.sliceElems, AH.bytesOf, AH.strOp, AH.bound, AH.addLog, AH.missQ, AH.minmaxAV, AH.wpOpD, AH.readOf, AH.effOf, AH.mapAt, AH.iterAt, Nat.reduceBEq, Nat.reduceAdd, Nat.reduceLT, ↓reduceIte, Nat.reduceEqDiff, Nat.reduceLeDiff, Nat.reduceSub, Nat.reduceMul, Int.reduceSub, Int.reduceToNat, Int.reduceBEq, Int.reduceBNe, Int.reduceLT, Int.reduceGT, Int.reduceLE, Int.reduceGE, Int.reduceNeg, Int.reduceAdd, AH.PD, heads, distN, AH.inN, posN, packM, packB, packTm, liveB, AV.inB, AV.insB, AV.ren, AV.rens, Blk.ren, Blk.inB, vstep, tput, e, rsM, errA14, lgM, show ¬ ((14 : Nat) = 0) by decide, if_false]
      try simp
  · have hb1 : decide (isBase b) = false := decide_eq_false hb
    have e : rstL ⟨d, f, t, b0, a, R, down⟩ b = (1, ⟨d, f, t, b0, a, R, down⟩) := by unfold rstL; rw [if_pos hb]
    simp only [AH.SD, AH.wpOp, AOp.call?, AOp.next?, bstep, AOp.map, Opd.ev, tget, argTm, evs, AV.cells, St.eff, St.put, applyWr, mset, terase, pureE, unAV, intOp, binAV, fill, mget, AH.rowAt, AH.part, retQ, rvs, retV, AH.splice, AH.sliceElems, AH.bytesOf, AH.strOp, AH.bound, AH.addLog, AH.missQ, AH.minmaxAV, AH.wpOpD, AH.readOf, AH.effOf, AH.mapAt, AH.iterAt, Nat.reduceBEq, Nat.reduceAdd, Nat.reduceLT, ↓reduceIte, Nat.reduceEqDiff, Nat.reduceLeDiff, Nat.reduceSub, Nat.reduceMul, Int.reduceSub, Int.reduceToNat, Int.reduceBEq, Int.reduceBNe, Int.reduceLT, Int.reduceGT, Int.reduceLE, Int.reduceGE, Int.reduceNeg, Int.reduceAdd, AH.PD, heads, distN, AH.inN, posN, packM, packB, packTm, liveB, AV.inB, AV.insB, AV.ren, AV.rens, Blk.ren, Blk.inB, vstep, tput, vw, shift, newOnes, rowsM, blkIn, rwB, @flat_lts, AV.lt, AV.lts, Nat.sub_self, AH.rtO_eq, AH.rtO2_eq, AH.rtO2_none, AH.etO_eq, AH.etO2_eq, AH.etO2_none, AH.useO_some, AH.rtElse_eq, AH.elseO_some, AH.elseO_none, AH.etN_eq, Option.bind_some, Option.bind_none, AH.pairO_some, AH.pairO_none, AH.cC_dec, AH.cC_nil, AH.c0_dec, AH.c0_dec1, AH.aI_dec, AH.aS_dec, AH.aB_dec, AH.aNil_dec, AH.aNil_ptr, Option.map_none, effS, wrS, newS, backNo, AH.isIn, AH.posOf, AH.rwB, List.all_cons, List.all_nil, List.getElem?_cons_zero, List.getElem?_cons_succ, List.getElem?_nil, AH.appE_some, List.contains_cons, List.contains_nil, Nat.add_zero, lgM, isBaseT_p, hb1]
    refine ⟨[0, 1, 2, 3], [], ?_⟩
    simp only [AH.SD, AH.wpOp, AOp.call?, AOp.next?, bstep, AOp.map, Opd.ev, tget, argTm, evs, AV.cells, St.eff, St.put, applyWr, mset, terase, pureE, unAV, intOp, binAV, fill, mget, AH.rowAt, AH.part, retQ, rvs, retV, AH.splice, AH.sliceElems, AH.bytesOf, AH.strOp, AH.bound, AH.addLog, AH.missQ, AH.minmaxAV, AH.wpOpD, AH.readOf, AH.effOf, AH.mapAt, AH.iterAt, Nat.reduceBEq, Nat.reduceAdd, Nat.reduceLT, ↓reduceIte, Nat.reduceEqDiff, Nat.reduceLeDiff, Nat.reduceSub, Nat.reduceMul, Int.reduceSub, Int.reduceToNat, Int.reduceBEq, Int.reduceBNe, Int.reduceLT, Int.reduceGT, Int.reduceLE, Int.reduceGE, Int.reduceNeg, Int.reduceAdd, AH.PD, heads, distN, AH.inN, posN, packM, packB, packTm, liveB, AV.inB, AV.insB, AV.ren, AV.rens, Blk.ren, Blk.inB, vstep, tput, e, rsM, errA1, lgM, show ¬ ((1 : Nat) = 0) by decide, if_false]
    try simp
end Go.Proofs.YthapdikdeoeplaaDoor.H6
end
