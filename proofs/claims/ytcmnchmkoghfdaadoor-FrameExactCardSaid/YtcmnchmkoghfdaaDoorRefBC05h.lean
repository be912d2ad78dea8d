import Derived.Test.YtcmnchmkoghfdaaDoorRefAC05h
open Go AH
set_option linter.unusedSimpArgs false
set_option maxRecDepth 100000
namespace Go.Proofs.YtcmnchmkoghfdaaDoor.C05h
/- The reference's blocks. -/
theorem okRb : CtxOK S0 (ctxU S0 [(50, rnumT), (51, rofT)] []) := ctxU_ok ⟨rnumT_ok, rofT_ok, trivial⟩ trivial mixed
theorem rblocks_no (seq : Int) (d : ByteArray) (h : seq < 1 ∨ seq > 2147483647 ∨ d.size > 6000) : Pure S0 34 [.int .i64 seq, .str d] (.tup [.nils, .bool false]) := by
  refine fun_sound okRb Tryd.func34 c34 ?_
  unfold wpF F34
  cases h1 : decide (seq < 1)
  · cases h2 : decide (seq > 2147483647)
    · have h3 : decide ((d.size : Int) > 6000) = true := by
        simp only [decide_eq_false_iff_not] at h1 h2
        simp only [decide_eq_true_eq]; omega
      simp only [AH.SD, AH.wpOp, AOp.call?, AOp.next?, bstep, AOp.map, Opd.ev, tget, argTm, evs, AV.cells, St.eff, St.put, applyWr, mset, terase, pureE, unAV, intOp, binAV, fill, mget, AH.rowAt, AH.part, retQ, rvs, retV, AH.splice, AH.sliceElems, AH.bytesOf, AH.strOp, AH.bound, AH.addLog, AH.missQ, AH.minmaxAV, AH.wpOpD, AH.readOf, AH.effOf, AH.mapAt, AH.iterAt, Nat.reduceBEq, Nat.reduceAdd, Nat.reduceLT, ↓reduceIte, Nat.reduceEqDiff, Nat.reduceLeDiff, Nat.reduceSub, Nat.reduceMul, Int.reduceSub, Int.reduceToNat, Int.reduceBEq, Int.reduceBNe, Int.reduceLT, Int.reduceGT, Int.reduceLE, Int.reduceGE, Int.reduceNeg, Int.reduceAdd, h1, h2, h3]
    · simp only [AH.SD, AH.wpOp, AOp.call?, AOp.next?, bstep, AOp.map, Opd.ev, tget, argTm, evs, AV.cells, St.eff, St.put, applyWr, mset, terase, pureE, unAV, intOp, binAV, fill, mget, AH.rowAt, AH.part, retQ, rvs, retV, AH.splice, AH.sliceElems, AH.bytesOf, AH.strOp, AH.bound, AH.addLog, AH.missQ, AH.minmaxAV, AH.wpOpD, AH.readOf, AH.effOf, AH.mapAt, AH.iterAt, Nat.reduceBEq, Nat.reduceAdd, Nat.reduceLT, ↓reduceIte, Nat.reduceEqDiff, Nat.reduceLeDiff, Nat.reduceSub, Nat.reduceMul, Int.reduceSub, Int.reduceToNat, Int.reduceBEq, Int.reduceBNe, Int.reduceLT, Int.reduceGT, Int.reduceLE, Int.reduceGE, Int.reduceNeg, Int.reduceAdd, h1, h2]
  · simp only [AH.SD, AH.wpOp, AOp.call?, AOp.next?, bstep, AOp.map, Opd.ev, tget, argTm, evs, AV.cells, St.eff, St.put, applyWr, mset, terase, pureE, unAV, intOp, binAV, fill, mget, AH.rowAt, AH.part, retQ, rvs, retV, AH.splice, AH.sliceElems, AH.bytesOf, AH.strOp, AH.bound, AH.addLog, AH.missQ, AH.minmaxAV, AH.wpOpD, AH.readOf, AH.effOf, AH.mapAt, AH.iterAt, Nat.reduceBEq, Nat.reduceAdd, Nat.reduceLT, ↓reduceIte, Nat.reduceEqDiff, Nat.reduceLeDiff, Nat.reduceSub, Nat.reduceMul, Int.reduceSub, Int.reduceToNat, Int.reduceBEq, Int.reduceBNe, Int.reduceLT, Int.reduceGT, Int.reduceLE, Int.reduceGE, Int.reduceNeg, Int.reduceAdd, h1]
theorem repL : ∀ k, Lib.repeatL [(0 : UInt8)] k = List.replicate k 0
  | 0 => rfl
  | k + 1 => by rw [Lib.repeatL, repL k]; rfl
theorem repS_l (k : Nat) : (repS ⟨#[0]⟩ k).data.toList = List.replicate k 0 := by
  show (Lib.repeatL [0] k).toArray.toList = _
  rw [repL]
theorem repS_snoc (k : Nat) : repS ⟨#[0]⟩ k ++ ⟨#[0]⟩ = repS ⟨#[0]⟩ (k + 1) := by
  apply ByteArray.ext; apply Array.ext'
  rw [ByteArray.data_append, Array.toList_append, repS_l, repS_l, List.replicate_succ']
theorem repS_0 (s : ByteArray) : s ++ repS ⟨#[0]⟩ 0 = s := by
  apply ByteArray.ext; apply Array.ext'
  rw [ByteArray.data_append, Array.toList_append, repS_l]; simp
def rb1 (seq : Int) (d : ByteArray) (j : Nat) : St := ⟨[(6, .str (headS d ++ repS ⟨#[0]⟩ j)), (0, .int .i64 seq)], []⟩
def rb2 (seq : Int) (d : ByteArray) (i : Nat) : St := ⟨[(9, .int .i64 i), (8, .int .i64 (sizeN d.size)), (7, .slc 0 0 i none), (6, .str (fullS d)), (0, .int .i64 seq)], [some (.row false 1 ((blkL seq d i).map strC))]⟩
theorem piece_eq {seq : Int} {d : ByteArray} {i : Nat} (h1 : 1 ≤ seq) (h2 : seq ≤ 2147483647) (h3 : d.size ≤ 6000) (hi : i < sizeN d.size) : (fullS d).extract (i * 56) ((i + 1) * 56) ++ num4 seq ++ num2 i ++ num2 (sizeN d.size) = blkS seq d i := by
  have := sizeN_le h3
  rw [blkS, endS, u64_id (n := seq) (by omega) (by omega), u64_id (n := (i : Int)) (by omega) (by omega), u64_id (n := (sizeN d.size : Int)) (by omega) (by omega)]
  simp only [ByteArray.append_assoc]
set_option maxHeartbeats 2000000 in
theorem rblocks_ok (seq : Int) (d : ByteArray) (h1 : 1 ≤ seq) (h2 : seq ≤ 2147483647) (h3 : d.size ≤ 6000) : CallA1 S0 34 [.int .i64 seq, .str d] [] fun r m => r = .tup [.slc 0 0 (sizeN d.size) none, .bool true] ∧ m = [some (.row false 1 ((blkL seq d (sizeN d.size)).map strC))] := by
  refine CallA1.fin ?_
  refine fun_sound okRb Tryd.func34 c34 ?_
  unfold wpF F34
  have d1 : decide (seq < 1) = false := by simp only [decide_eq_false_iff_not]; omega
  have d2 : decide (seq > 2147483647) = false := by simp only [decide_eq_false_iff_not]; omega
  have d3 : decide ((d.size : Int) > 6000) = false := by simp only [decide_eq_false_iff_not]; omega
  have hok : okSz d := by unfold okSz; omega
  obtain ⟨s1, s2⟩ := sizeN_le h3
  obtain ⟨z1, z2⟩ := sumZ_in d
  have hhd := head_sz d
  have hle : 8 + d.size ≤ sizeN d.size * 56 := by unfold sizeN; omega
  have hlt56 : sizeN d.size * 56 < 8 + d.size + 56 := by unfold sizeN; omega
  have wz : IntKind.i64.wrap (sumZ d) = sumZ d := by rw [IntKind.wrap_i64]; omega
  have e1 : num4 (d.size : Int) ++ num4 (sumZ d) ++ d = headS d := by
    rw [headS, u64_id (n := (d.size : Int)) (by omega) (by omega), u64_id z1 z2]
  have hpd : padN d = sizeN d.size * 56 - (8 + d.size) := by rw [padN, hhd]
  simp only [AH.SD, AH.wpOp, AOp.call?, AOp.next?, bstep, AOp.map, Opd.ev, tget, argTm, evs, AV.cells, St.eff, St.put, applyWr, mset, terase, pureE, unAV, intOp, binAV, fill, mget, AH.rowAt, AH.part, retQ, rvs, retV, AH.splice, AH.sliceElems, AH.bytesOf, AH.strOp, AH.bound, AH.addLog, AH.missQ, AH.minmaxAV, AH.wpOpD, AH.readOf, AH.effOf, AH.mapAt, AH.iterAt, Nat.reduceBEq, Nat.reduceAdd, Nat.reduceLT, ↓reduceIte, Nat.reduceEqDiff, Nat.reduceLeDiff, Nat.reduceSub, Nat.reduceMul, Int.reduceSub, Int.reduceToNat, Int.reduceBEq, Int.reduceBNe, Int.reduceLT, Int.reduceGT, Int.reduceLE, Int.reduceGE, Int.reduceNeg, Int.reduceAdd, d1, d2, d3, rnumT_4, rofT_p hok, wz, e1]
  refine ⟨by rw [num4_sz, num4_sz, imax]; omega, by rw [ByteArray.size_append, num4_sz, num4_sz, imax]; omega, ?_⟩
  refine loop_do [] [6, 0] [] (α := Nat) (fun j => padN d - j) (rb1 seq d) (fun j => j ≤ padN d) 0 (Nat.zero_le _) (by simp only [AH.SD, AH.wpOp, AOp.call?, AOp.next?, bstep, AOp.map, Opd.ev, tget, argTm, evs, AV.cells, St.eff, St.put, applyWr, mset, terase, pureE, unAV, intOp, binAV, fill, mget, AH.rowAt, AH.part, retQ, rvs, retV, AH.splice, AH.sliceElems, AH.bytesOf, AH.strOp, AH.bound, AH.addLog, AH.missQ, AH.minmaxAV, AH.wpOpD, AH.readOf, AH.effOf, AH.mapAt, AH.iterAt, Nat.reduceBEq, Nat.reduceAdd, Nat.reduceLT, ↓reduceIte, Nat.reduceEqDiff, Nat.reduceLeDiff, Nat.reduceSub, Nat.reduceMul, Int.reduceSub, Int.reduceToNat, Int.reduceBEq, Int.reduceBNe, Int.reduceLT, Int.reduceGT, Int.reduceLE, Int.reduceGE, Int.reduceNeg, Int.reduceAdd, AH.PD, heads, distN, AH.inN, posN, packM, packB, packTm, liveB, AV.inB, AV.insB, AV.ren, AV.rens, Blk.ren, Blk.inB, vstep, tput, rb1, repS_0]) ?_
  intro X j hj ih
  have hsz : (headS d ++ repS ⟨#[0]⟩ j).size = 8 + d.size + j := by rw [ByteArray.size_append, repS_sz, hhd]
  have hmod : ((8 + d.size + j : Nat) : Int).tmod 56 = (((8 + d.size + j) % 56 : Nat) : Int) := by rw [Int.tmod_eq_emod_of_nonneg (by omega)]; omega
  rcases Nat.lt_or_ge j (padN d) with hlt | hge
  · have hb : ((((8 + d.size + j) % 56 : Nat) : Int) != 0) = true := by
      have : (8 + d.size + j) % 56 ≠ 0 := by
        intro h
        have := Nat.div_add_mod (8 + d.size + j) 56
        rw [h] at this
        omega
      simp only [bne_iff_ne]; omega
    have done := ih (j + 1) hlt (by omega)
    simp only [rb1, ← repS_snoc, ← ByteArray.append_assoc] at done
    simp only [AH.SD, AH.wpOp, AOp.call?, AOp.next?, bstep, AOp.map, Opd.ev, tget, argTm, evs, AV.cells, St.eff, St.put, applyWr, mset, terase, pureE, unAV, intOp, binAV, fill, mget, AH.rowAt, AH.part, retQ, rvs, retV, AH.splice, AH.sliceElems, AH.bytesOf, AH.strOp, AH.bound, AH.addLog, AH.missQ, AH.minmaxAV, AH.wpOpD, AH.readOf, AH.effOf, AH.mapAt, AH.iterAt, Nat.reduceBEq, Nat.reduceAdd, Nat.reduceLT, ↓reduceIte, Nat.reduceEqDiff, Nat.reduceLeDiff, Nat.reduceSub, Nat.reduceMul, Int.reduceSub, Int.reduceToNat, Int.reduceBEq, Int.reduceBNe, Int.reduceLT, Int.reduceGT, Int.reduceLE, Int.reduceGE, Int.reduceNeg, Int.reduceAdd, rb1, hsz, hmod, hb]
    repeat ((with_reducible refine And.intro ?_ ?_); focus (first | rfl | decide | omega | (simp only [List.length_map, and_true]; omega) | (simp only [List.length_map, List.length_set, and_true]; omega)))
    try simp only [AH.SD, AH.wpOp, AOp.call?, AOp.next?, bstep, AOp.map, Opd.ev, tget, argTm, evs, AV.cells, St.eff, St.put, applyWr, mset, terase, pureE, unAV, intOp, binAV, fill, mget, AH.rowAt, AH.part, retQ, rvs, retV, AH.splice, AH.sliceElems, AH.bytesOf, AH.strOp, AH.bound, AH.addLog, AH.missQ, AH.minmaxAV, AH.wpOpD, AH.readOf, AH.effOf, AH.mapAt, AH.iterAt, Nat.reduceBEq, Nat.reduceAdd, Nat.reduceLT, ↓reduceIte, Nat.reduceEqDiff, Nat.reduceLeDiff, Nat.reduceSub, Nat.reduceMul, Int.reduceSub, Int.reduceToNat, Int.reduceBEq, Int.reduceBNe, Int.reduceLT, Int.reduceGT, Int.reduceLE, Int.reduceGE, Int.reduceNeg, Int.reduceAdd, hsz, hmod, hb]
    refine And.intro (by rw [show (⟨#[0]⟩ : ByteArray).size = 1 from rfl, imax]; omega) ?_
    refine gc_auto [] [6, 0] [] ?_
    simp only [AH.SD, AH.wpOp, AOp.call?, AOp.next?, bstep, AOp.map, Opd.ev, tget, argTm, evs, AV.cells, St.eff, St.put, applyWr, mset, terase, pureE, unAV, intOp, binAV, fill, mget, AH.rowAt, AH.part, retQ, rvs, retV, AH.splice, AH.sliceElems, AH.bytesOf, AH.strOp, AH.bound, AH.addLog, AH.missQ, AH.minmaxAV, AH.wpOpD, AH.readOf, AH.effOf, AH.mapAt, AH.iterAt, Nat.reduceBEq, Nat.reduceAdd, Nat.reduceLT, ↓reduceIte, Nat.reduceEqDiff, Nat.reduceLeDiff, Nat.reduceSub, Nat.reduceMul, Int.reduceSub, Int.reduceToNat, Int.reduceBEq, Int.reduceBNe, Int.reduceLT, Int.reduceGT, Int.reduceLE, Int.reduceGE, Int.reduceNeg, Int.reduceAdd, AH.PD, heads, distN, AH.inN, posN, packM, packB, packTm, liveB, AV.inB, AV.insB, AV.ren, AV.rens, Blk.ren, Blk.inB, vstep, tput]
    exact done
  · obtain rfl : j = padN d := by omega
    clear ih
    have hfs := full_sz d
    have e2 : headS d ++ repS ⟨#[0]⟩ (padN d) = fullS d := rfl
    have hb : ((((8 + d.size + padN d) % 56 : Nat) : Int) != 0) = false := by
      have : (8 + d.size + padN d) % 56 = 0 := by
        rw [show 8 + d.size + padN d = sizeN d.size * 56 by omega]; exact Nat.mul_mod_left _ _
      rw [this]; rfl
    have hq : ((8 + d.size + padN d : Nat) : Int).tdiv 56 = (sizeN d.size : Int) := by rw [Int.tdiv_eq_ediv_of_nonneg (by omega)]; omega
    have wq : IntKind.i64.wrap (sizeN d.size : Int) = (sizeN d.size : Int) := by rw [IntKind.wrap_i64]; omega
    simp only [AH.SD, AH.wpOp, AOp.call?, AOp.next?, bstep, AOp.map, Opd.ev, tget, argTm, evs, AV.cells, St.eff, St.put, applyWr, mset, terase, pureE, unAV, intOp, binAV, fill, mget, AH.rowAt, AH.part, retQ, rvs, retV, AH.splice, AH.sliceElems, AH.bytesOf, AH.strOp, AH.bound, AH.addLog, AH.missQ, AH.minmaxAV, AH.wpOpD, AH.readOf, AH.effOf, AH.mapAt, AH.iterAt, Nat.reduceBEq, Nat.reduceAdd, Nat.reduceLT, ↓reduceIte, Nat.reduceEqDiff, Nat.reduceLeDiff, Nat.reduceSub, Nat.reduceMul, Int.reduceSub, Int.reduceToNat, Int.reduceBEq, Int.reduceBNe, Int.reduceLT, Int.reduceGT, Int.reduceLE, Int.reduceGE, Int.reduceNeg, Int.reduceAdd, rb1, hsz, hmod, hb]
    repeat ((with_reducible refine And.intro ?_ ?_); focus (first | rfl | decide | omega | (simp only [List.length_map, and_true]; omega) | (simp only [List.length_map, List.length_set, and_true]; omega)))
    try simp only [AH.SD, AH.wpOp, AOp.call?, AOp.next?, bstep, AOp.map, Opd.ev, tget, argTm, evs, AV.cells, St.eff, St.put, applyWr, mset, terase, pureE, unAV, intOp, binAV, fill, mget, AH.rowAt, AH.part, retQ, rvs, retV, AH.splice, AH.sliceElems, AH.bytesOf, AH.strOp, AH.bound, AH.addLog, AH.missQ, AH.minmaxAV, AH.wpOpD, AH.readOf, AH.effOf, AH.mapAt, AH.iterAt, Nat.reduceBEq, Nat.reduceAdd, Nat.reduceLT, ↓reduceIte, Nat.reduceEqDiff, Nat.reduceLeDiff, Nat.reduceSub, Nat.reduceMul, Int.reduceSub, Int.reduceToNat, Int.reduceBEq, Int.reduceBNe, Int.reduceLT, Int.reduceGT, Int.reduceLE, Int.reduceGE, Int.reduceNeg, Int.reduceAdd, hsz, hmod, hb, e2, hfs, hq, wq]
    repeat ((with_reducible refine And.intro ?_ ?_); focus (first | rfl | decide | omega | (simp only [List.length_map, and_true]; omega) | (simp only [List.length_map, List.length_set, and_true]; omega)))
    try simp only [AH.SD, AH.wpOp, AOp.call?, AOp.next?, bstep, AOp.map, Opd.ev, tget, argTm, evs, AV.cells, St.eff, St.put, applyWr, mset, terase, pureE, unAV, intOp, binAV, fill, mget, AH.rowAt, AH.part, retQ, rvs, retV, AH.splice, AH.sliceElems, AH.bytesOf, AH.strOp, AH.bound, AH.addLog, AH.missQ, AH.minmaxAV, AH.wpOpD, AH.readOf, AH.effOf, AH.mapAt, AH.iterAt, Nat.reduceBEq, Nat.reduceAdd, Nat.reduceLT, ↓reduceIte, Nat.reduceEqDiff, Nat.reduceLeDiff, Nat.reduceSub, Nat.reduceMul, Int.reduceSub, Int.reduceToNat, Int.reduceBEq, Int.reduceBNe, Int.reduceLT, Int.reduceGT, Int.reduceLE, Int.reduceGE, Int.reduceNeg, Int.reduceAdd, e2, hfs, hq, wq]
    repeat ((with_reducible refine And.intro ?_ ?_); focus (first | rfl | decide | omega | (simp only [List.length_map, and_true]; omega) | (simp only [List.length_map, List.length_set, and_true]; omega)))
    refine loop_do [0] [9, 8, 7, 6, 0] [.cap 7] (α := Nat) (fun i => sizeN d.size - i) (rb2 seq d) (fun i => i ≤ sizeN d.size) 0 (Nat.zero_le _) (by simp only [AH.SD, AH.wpOp, AOp.call?, AOp.next?, bstep, AOp.map, Opd.ev, tget, argTm, evs, AV.cells, St.eff, St.put, applyWr, mset, terase, pureE, unAV, intOp, binAV, fill, mget, AH.rowAt, AH.part, retQ, rvs, retV, AH.splice, AH.sliceElems, AH.bytesOf, AH.strOp, AH.bound, AH.addLog, AH.missQ, AH.minmaxAV, AH.wpOpD, AH.readOf, AH.effOf, AH.mapAt, AH.iterAt, Nat.reduceBEq, Nat.reduceAdd, Nat.reduceLT, ↓reduceIte, Nat.reduceEqDiff, Nat.reduceLeDiff, Nat.reduceSub, Nat.reduceMul, Int.reduceSub, Int.reduceToNat, Int.reduceBEq, Int.reduceBNe, Int.reduceLT, Int.reduceGT, Int.reduceLE, Int.reduceGE, Int.reduceNeg, Int.reduceAdd, AH.PD, heads, distN, AH.inN, posN, packM, packB, packTm, liveB, AV.inB, AV.insB, AV.ren, AV.rens, Blk.ren, Blk.inB, vstep, tput, rb2, show blkL seq d 0 = [] from rfl]) ?_
    intro X i hi ih
    simp only [AH.SD, AH.wpOp, AOp.call?, AOp.next?, bstep, AOp.map, Opd.ev, tget, argTm, evs, AV.cells, St.eff, St.put, applyWr, mset, terase, pureE, unAV, intOp, binAV, fill, mget, AH.rowAt, AH.part, retQ, rvs, retV, AH.splice, AH.sliceElems, AH.bytesOf, AH.strOp, AH.bound, AH.addLog, AH.missQ, AH.minmaxAV, AH.wpOpD, AH.readOf, AH.effOf, AH.mapAt, AH.iterAt, Nat.reduceBEq, Nat.reduceAdd, Nat.reduceLT, ↓reduceIte, Nat.reduceEqDiff, Nat.reduceLeDiff, Nat.reduceSub, Nat.reduceMul, Int.reduceSub, Int.reduceToNat, Int.reduceBEq, Int.reduceBNe, Int.reduceLT, Int.reduceGT, Int.reduceLE, Int.reduceGE, Int.reduceNeg, Int.reduceAdd, rb2, blkL_len]
    refine ⟨fun hlt => ?_, fun hlt => ?_⟩
    · have hi1 := lt_of_dec hlt
      have wi := wrapS (i := i) (by omega)
      have wa : IntKind.i64.wrap (56 * (i : Int)) = ((i * 56 : Nat) : Int) := by rw [IntKind.wrap_i64]; omega
      have wb : IntKind.i64.wrap (((i * 56 : Nat) : Int) + 56) = (((i + 1) * 56 : Nat) : Int) := by rw [IntKind.wrap_i64]; omega
      have done := ih (i + 1) hi1 (by omega)
      simp only [rb2, blkL_succ, List.map_append, List.map_cons, List.map_nil, List.length_append, List.length_cons, List.length_nil, Nat.zero_add, strC_eq, ← piece_eq h1 h2 h3 hi1] at done
      have e3 : ((blkL seq d i).map strC).take i = (blkL seq d i).map strC := List.take_of_length_le (by rw [List.length_map, blkL_len]; exact Nat.le_refl _)
      have hxs : ((fullS d).extract (i * 56) ((i + 1) * 56)).size = 56 := by rw [ByteArray.size_extract, hfs]; omega
      simp only [AH.SD, AH.wpOp, AOp.call?, AOp.next?, bstep, AOp.map, Opd.ev, tget, argTm, evs, AV.cells, St.eff, St.put, applyWr, mset, terase, pureE, unAV, intOp, binAV, fill, mget, AH.rowAt, AH.part, retQ, rvs, retV, AH.splice, AH.sliceElems, AH.bytesOf, AH.strOp, AH.bound, AH.addLog, AH.missQ, AH.minmaxAV, AH.wpOpD, AH.readOf, AH.effOf, AH.mapAt, AH.iterAt, Nat.reduceBEq, Nat.reduceAdd, Nat.reduceLT, ↓reduceIte, Nat.reduceEqDiff, Nat.reduceLeDiff, Nat.reduceSub, Nat.reduceMul, Int.reduceSub, Int.reduceToNat, Int.reduceBEq, Int.reduceBNe, Int.reduceLT, Int.reduceGT, Int.reduceLE, Int.reduceGE, Int.reduceNeg, Int.reduceAdd, wi, wa, wb, rnumT_4, rnumT_2, Int.toNat_natCast, hfs, e3, List.length_map, blkL_len]
      repeat ((with_reducible refine And.intro ?_ ?_); focus (first | rfl | decide | omega | (simp only [hxs, hfs, num4_sz, num2_sz, ByteArray.size_append, imax]; omega)))
      try simp only [AH.SD, AH.wpOp, AOp.call?, AOp.next?, bstep, AOp.map, Opd.ev, tget, argTm, evs, AV.cells, St.eff, St.put, applyWr, mset, terase, pureE, unAV, intOp, binAV, fill, mget, AH.rowAt, AH.part, retQ, rvs, retV, AH.splice, AH.sliceElems, AH.bytesOf, AH.strOp, AH.bound, AH.addLog, AH.missQ, AH.minmaxAV, AH.wpOpD, AH.readOf, AH.effOf, AH.mapAt, AH.iterAt, Nat.reduceBEq, Nat.reduceAdd, Nat.reduceLT, ↓reduceIte, Nat.reduceEqDiff, Nat.reduceLeDiff, Nat.reduceSub, Nat.reduceMul, Int.reduceSub, Int.reduceToNat, Int.reduceBEq, Int.reduceBNe, Int.reduceLT, Int.reduceGT, Int.reduceLE, Int.reduceGE, Int.reduceNeg, Int.reduceAdd, wi, wa, wb, rnumT_4, rnumT_2, Int.toNat_natCast, hfs, e3, List.length_map, blkL_len]
      refine gc_auto [2] [9, 8, 7, 6, 0] [] ?_
      simp only [AH.SD, AH.wpOp, AOp.call?, AOp.next?, bstep, AOp.map, Opd.ev, tget, argTm, evs, AV.cells, St.eff, St.put, applyWr, mset, terase, pureE, unAV, intOp, binAV, fill, mget, AH.rowAt, AH.part, retQ, rvs, retV, AH.splice, AH.sliceElems, AH.bytesOf, AH.strOp, AH.bound, AH.addLog, AH.missQ, AH.minmaxAV, AH.wpOpD, AH.readOf, AH.effOf, AH.mapAt, AH.iterAt, Nat.reduceBEq, Nat.reduceAdd, Nat.reduceLT, ↓reduceIte, Nat.reduceEqDiff, Nat.reduceLeDiff, Nat.reduceSub, Nat.reduceMul, Int.reduceSub, Int.reduceToNat, Int.reduceBEq, Int.reduceBNe, Int.reduceLT, Int.reduceGT, Int.reduceLE, Int.reduceGE, Int.reduceNeg, Int.reduceAdd, AH.PD, heads, distN, AH.inN, posN, packM, packB, packTm, liveB, AV.inB, AV.insB, AV.ren, AV.rens, Blk.ren, Blk.inB, vstep, tput, List.length_append, List.length_map, blkL_len]
      exact done
    · have hi1 := ge_of_dec hlt
      obtain rfl : i = sizeN d.size := by omega
      simp only [AH.SD, AH.wpOp, AOp.call?, AOp.next?, bstep, AOp.map, Opd.ev, tget, argTm, evs, AV.cells, St.eff, St.put, applyWr, mset, terase, pureE, unAV, intOp, binAV, fill, mget, AH.rowAt, AH.part, retQ, rvs, retV, AH.splice, AH.sliceElems, AH.bytesOf, AH.strOp, AH.bound, AH.addLog, AH.missQ, AH.minmaxAV, AH.wpOpD, AH.readOf, AH.effOf, AH.mapAt, AH.iterAt, Nat.reduceBEq, Nat.reduceAdd, Nat.reduceLT, ↓reduceIte, Nat.reduceEqDiff, Nat.reduceLeDiff, Nat.reduceSub, Nat.reduceMul, Int.reduceSub, Int.reduceToNat, Int.reduceBEq, Int.reduceBNe, Int.reduceLT, Int.reduceGT, Int.reduceLE, Int.reduceGE, Int.reduceNeg, Int.reduceAdd]
      refine ⟨[0], [], ?_⟩
      simp only [AH.SD, AH.wpOp, AOp.call?, AOp.next?, bstep, AOp.map, Opd.ev, tget, argTm, evs, AV.cells, St.eff, St.put, applyWr, mset, terase, pureE, unAV, intOp, binAV, fill, mget, AH.rowAt, AH.part, retQ, rvs, retV, AH.splice, AH.sliceElems, AH.bytesOf, AH.strOp, AH.bound, AH.addLog, AH.missQ, AH.minmaxAV, AH.wpOpD, AH.readOf, AH.effOf, AH.mapAt, AH.iterAt, Nat.reduceBEq, Nat.reduceAdd, Nat.reduceLT, ↓reduceIte, Nat.reduceEqDiff, Nat.reduceLeDiff, Nat.reduceSub, Nat.reduceMul, Int.reduceSub, Int.reduceToNat, Int.reduceBEq, Int.reduceBNe, Int.reduceLT, Int.reduceGT, Int.reduceLE, Int.reduceGE, Int.reduceNeg, Int.reduceAdd, AH.PD, heads, distN, AH.inN, posN, packM, packB, packTm, liveB, AV.inB, AV.insB, AV.ren, AV.rens, Blk.ren, Blk.inB, vstep, tput, blkL_len]
def rbksN : RT := rtC (cC (aI .i64) (cC aS c0)) (fun x => ¬ okBl x) fun _ => .tup [.nils, .bool false]
theorem rbksN_ok : ReadF S0 34 rbksN := rtC_ok (fun x h => rblocks_no x.1 x.2.1 (by unfold okBl at h; omega)) fun _ => rfl
theorem rbksN_p {n : Int} {s : ByteArray} {M : Nat → Option Blk} : rbksN [.int .i64 n, .str s] M = rtC1 (fun x => ¬ okBl x) (fun _ => .tup [.nils, .bool false]) (some (n, s, ())) := by
  simp only [rbksN, rtC_p, cC_dec, aI_dec, aS_dec, c0_dec, pairO_some]
def rbksT : ET := etN (cC (aI .i64) (cC aS c0)) fun x => if okBl x then some (.tup [.slc 0 0 (sizeN x.2.1.size) none, .bool true], [some (.row false 1 ((blkL x.1 x.2.1 (sizeN x.2.1.size)).map strC))]) else none
theorem rbksT_ok : EffF S0 34 rbksT := etN_ok fun x v m' h => by
  split at h
  · rename_i hx
    simp only [Option.some.injEq, Prod.mk.injEq] at h
    obtain ⟨rfl, rfl⟩ := h
    exact ⟨rfl, rblocks_ok x.1 x.2.1 hx.1 hx.2.1 hx.2.2⟩
  · cases h
theorem rbksT_p {q : Int} {d : ByteArray} {n : Nat} {M : Nat → Option Blk} : rbksT [.int .i64 q, .str d] M n = useO [] n (if okBl (q, d, ()) then some (.tup [.slc 0 0 (sizeN d.size) none, .bool true], [some (.row false 1 ((blkL q d (sizeN d.size)).map strC))]) else none) := by
  simp only [rbksT, etN_eq, cC_dec, aI_dec, aS_dec, c0_dec, pairO_some, Option.bind_some]
end Go.Proofs.YtcmnchmkoghfdaaDoor.C05h
