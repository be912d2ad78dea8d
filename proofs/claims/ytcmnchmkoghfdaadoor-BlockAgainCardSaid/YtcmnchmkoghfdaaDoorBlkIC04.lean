import Derived.Test.YtcmnchmkoghfdaaDoorBlkWC04
import Derived.Test.YtcmnchmkoghfdaaDoorRJC04
open Go AH
set_option linter.unusedSimpArgs false
set_option maxRecDepth 100000
namespace Go.Proofs.YtcmnchmkoghfdaaDoor.C04

/-- The first k blocks of an image. -/
def blks (s : ByteArray) (k : Nat) : List ByteArray := (List.range k).map fun i => s.extract (64 * i) (64 * i + 64)
def nb (s : ByteArray) : Nat := min (s.size / 64) 4096
def ofD (s : ByteArray) : Dk := ⟨blks s (nb s), false, -1, 0, 0⟩
theorem blks_len (s : ByteArray) (k : Nat) : (blks s k).length = k := by simp [blks]
theorem blks_succ (s : ByteArray) (k : Nat) : blks s (k + 1) = blks s k ++ [s.extract (64 * k) (64 * k + 64)] := by simp [blks, List.range_succ]
theorem ofD_ok (s : ByteArray) : (ofD s).ok := by
  refine ⟨fun b hb => ?_, Int.le_refl 0, by show (0 : Int) ≤ 64; decide, ?_⟩
  · obtain ⟨i, hi, rfl⟩ := List.mem_map.1 hb
    have := List.mem_range.1 hi
    rw [ByteArray.size_extract]
    unfold nb at this
    omega
  · show (blks s (nb s)).length ≤ 4096
    rw [blks_len]; unfold nb; omega

def ofSt (s : ByteArray) (i : Nat) : St := ⟨[(3, .ptr 0 0 0), (0, .str (s.extract (64 * i) s.size))], dkM ⟨blks s i, false, -1, 0, 0⟩⟩
set_option maxRecDepth 100000 in
theorem of_ok (s : ByteArray) : CallA1 S0 12 [.str s] [] fun r m => r = .ptr 0 0 0 ∧ m = dkM (ofD s) := by
  refine CallA1.fin ?_
  refine fun_sound okZ0 Tryd.func12 c12 ?_
  unfold wpF F12
  have e0 : s.extract (64 * 0) s.size = s := ByteArray.extract_zero_size
  simp only [AH.SD, AH.wpOp, AOp.call?, AOp.next?, bstep, AOp.map, Opd.ev, tget, argTm, evs, AV.cells, St.eff, St.put, applyWr, mset, terase, pureE, unAV, intOp, binAV, fill, mget, AH.rowAt, AH.part, retQ, rvs, retV, AH.splice, AH.sliceElems, AH.bytesOf, AH.strOp, AH.bound, AH.addLog, AH.missQ, AH.minmaxAV, AH.wpOpD, AH.readOf, AH.effOf, AH.mapAt, AH.iterAt, Nat.reduceBEq, Nat.reduceAdd, Nat.reduceLT, ↓reduceIte, Nat.reduceEqDiff, Nat.reduceLeDiff, Nat.reduceSub, Nat.reduceMul, Int.reduceSub, Int.reduceToNat, Int.reduceBEq, Int.reduceBNe, Int.reduceLT, Int.reduceGT, Int.reduceLE, Int.reduceGE, Int.reduceNeg, Int.reduceAdd]
  refine loop_do [0] [3, 0] [.cell 0 0 0 1] (α := Nat) (fun i => 4096 - i) (ofSt s) (fun i => i ≤ nb s) 0 (Nat.zero_le _) (by simp only [AH.SD, AH.wpOp, AOp.call?, AOp.next?, bstep, AOp.map, Opd.ev, tget, argTm, evs, AV.cells, St.eff, St.put, applyWr, mset, terase, pureE, unAV, intOp, binAV, fill, mget, AH.rowAt, AH.part, retQ, rvs, retV, AH.splice, AH.sliceElems, AH.bytesOf, AH.strOp, AH.bound, AH.addLog, AH.missQ, AH.minmaxAV, AH.wpOpD, AH.readOf, AH.effOf, AH.mapAt, AH.iterAt, Nat.reduceBEq, Nat.reduceAdd, Nat.reduceLT, ↓reduceIte, Nat.reduceEqDiff, Nat.reduceLeDiff, Nat.reduceSub, Nat.reduceMul, Int.reduceSub, Int.reduceToNat, Int.reduceBEq, Int.reduceBNe, Int.reduceLT, Int.reduceGT, Int.reduceLE, Int.reduceGE, Int.reduceNeg, Int.reduceAdd, AH.PD, heads, distN, AH.inN, posN, packM, packB, packTm, liveB, AV.inB, AV.insB, AV.ren, AV.rens, Blk.ren, Blk.inB, vstep, tput, ofSt, dkM, e0, blks, List.range_zero]) ?_
  intro X i hi ih
  have hn : nb s ≤ s.size / 64 ∧ nb s ≤ 4096 := by unfold nb; omega
  have hsz : (s.extract (64 * i) s.size).size = s.size - 64 * i := by rw [ByteArray.size_extract, Nat.min_self]
  simp only [AH.SD, AH.wpOp, AOp.call?, AOp.next?, bstep, AOp.map, Opd.ev, tget, argTm, evs, AV.cells, St.eff, St.put, applyWr, mset, terase, pureE, unAV, intOp, binAV, fill, mget, AH.rowAt, AH.part, retQ, rvs, retV, AH.splice, AH.sliceElems, AH.bytesOf, AH.strOp, AH.bound, AH.addLog, AH.missQ, AH.minmaxAV, AH.wpOpD, AH.readOf, AH.effOf, AH.mapAt, AH.iterAt, Nat.reduceBEq, Nat.reduceAdd, Nat.reduceLT, ↓reduceIte, Nat.reduceEqDiff, Nat.reduceLeDiff, Nat.reduceSub, Nat.reduceMul, Int.reduceSub, Int.reduceToNat, Int.reduceBEq, Int.reduceBNe, Int.reduceLT, Int.reduceGT, Int.reduceLE, Int.reduceGE, Int.reduceNeg, Int.reduceAdd, ofSt, dkM, hsz, blks_len]
  by_cases h64 : 64 ≤ s.size - 64 * i
  · have h1 : decide (((s.size - 64 * i : Nat) : Int) ≥ 64) = true := by simp; omega
    simp only [AH.SD, AH.wpOp, AOp.call?, AOp.next?, bstep, AOp.map, Opd.ev, tget, argTm, evs, AV.cells, St.eff, St.put, applyWr, mset, terase, pureE, unAV, intOp, binAV, fill, mget, AH.rowAt, AH.part, retQ, rvs, retV, AH.splice, AH.sliceElems, AH.bytesOf, AH.strOp, AH.bound, AH.addLog, AH.missQ, AH.minmaxAV, AH.wpOpD, AH.readOf, AH.effOf, AH.mapAt, AH.iterAt, Nat.reduceBEq, Nat.reduceAdd, Nat.reduceLT, ↓reduceIte, Nat.reduceEqDiff, Nat.reduceLeDiff, Nat.reduceSub, Nat.reduceMul, Int.reduceSub, Int.reduceToNat, Int.reduceBEq, Int.reduceBNe, Int.reduceLT, Int.reduceGT, Int.reduceLE, Int.reduceGE, Int.reduceNeg, Int.reduceAdd, h1]
    refine ⟨fun hlt => ?_, fun hlt => ?_⟩
    · have hi2 : i < nb s := by
        have : i < 4096 := by simp only [decide_eq_true_eq] at hlt; omega
        unfold nb; omega
      have done := ih (i + 1) hi2 (by omega)
      simp only [ofSt, dkM, blks_succ, blks_len, List.map_append, List.map_cons, List.map_nil, List.length_append, List.length_cons, List.length_nil, Nat.zero_add, strC_eq] at done
      have e1 : (s.extract (64 * i) s.size).extract 0 64 = s.extract (64 * i) (64 * i + 64) := by
        rw [ByteArray.extract_extract, Nat.add_zero, show min (64 * i + 64) s.size = 64 * i + 64 by omega]
      have e2 : (s.extract (64 * i) s.size).extract 64 (s.size - 64 * i) = s.extract (64 * (i + 1)) s.size := by
        rw [ByteArray.extract_extract, show min (64 * i + (s.size - 64 * i)) s.size = s.size by omega, Nat.mul_succ]
      have e3 : ((blks s i).map strC).take i = (blks s i).map strC := List.take_of_length_le (by rw [List.length_map, blks_len]; exact Nat.le_refl _)
      simp only [AH.SD, AH.wpOp, AOp.call?, AOp.next?, bstep, AOp.map, Opd.ev, tget, argTm, evs, AV.cells, St.eff, St.put, applyWr, mset, terase, pureE, unAV, intOp, binAV, fill, mget, AH.rowAt, AH.part, retQ, rvs, retV, AH.splice, AH.sliceElems, AH.bytesOf, AH.strOp, AH.bound, AH.addLog, AH.missQ, AH.minmaxAV, AH.wpOpD, AH.readOf, AH.effOf, AH.mapAt, AH.iterAt, Nat.reduceBEq, Nat.reduceAdd, Nat.reduceLT, ↓reduceIte, Nat.reduceEqDiff, Nat.reduceLeDiff, Nat.reduceSub, Nat.reduceMul, Int.reduceSub, Int.reduceToNat, Int.reduceBEq, Int.reduceBNe, Int.reduceLT, Int.reduceGT, Int.reduceLE, Int.reduceGE, Int.reduceNeg, Int.reduceAdd, hsz, e1, e3, List.length_map, blks_len]
      repeat (refine ⟨by first | rfl | decide | omega | (simp only [List.length_map, and_true]; omega) | (simp only [List.length_map, List.length_set, and_true]; omega), ?_⟩)
      simp only [AH.SD, AH.wpOp, AOp.call?, AOp.next?, bstep, AOp.map, Opd.ev, tget, argTm, evs, AV.cells, St.eff, St.put, applyWr, mset, terase, pureE, unAV, intOp, binAV, fill, mget, AH.rowAt, AH.part, retQ, rvs, retV, AH.splice, AH.sliceElems, AH.bytesOf, AH.strOp, AH.bound, AH.addLog, AH.missQ, AH.minmaxAV, AH.wpOpD, AH.readOf, AH.effOf, AH.mapAt, AH.iterAt, Nat.reduceBEq, Nat.reduceAdd, Nat.reduceLT, ↓reduceIte, Nat.reduceEqDiff, Nat.reduceLeDiff, Nat.reduceSub, Nat.reduceMul, Int.reduceSub, Int.reduceToNat, Int.reduceBEq, Int.reduceBNe, Int.reduceLT, Int.reduceGT, Int.reduceLE, Int.reduceGE, Int.reduceNeg, Int.reduceAdd, e2]
      refine gc_auto [0, 3] [3, 0] [] ?_
      simp only [AH.SD, AH.wpOp, AOp.call?, AOp.next?, bstep, AOp.map, Opd.ev, tget, argTm, evs, AV.cells, St.eff, St.put, applyWr, mset, terase, pureE, unAV, intOp, binAV, fill, mget, AH.rowAt, AH.part, retQ, rvs, retV, AH.splice, AH.sliceElems, AH.bytesOf, AH.strOp, AH.bound, AH.addLog, AH.missQ, AH.minmaxAV, AH.wpOpD, AH.readOf, AH.effOf, AH.mapAt, AH.iterAt, Nat.reduceBEq, Nat.reduceAdd, Nat.reduceLT, ↓reduceIte, Nat.reduceEqDiff, Nat.reduceLeDiff, Nat.reduceSub, Nat.reduceMul, Int.reduceSub, Int.reduceToNat, Int.reduceBEq, Int.reduceBNe, Int.reduceLT, Int.reduceGT, Int.reduceLE, Int.reduceGE, Int.reduceNeg, Int.reduceAdd, AH.PD, heads, distN, AH.inN, posN, packM, packB, packTm, liveB, AV.inB, AV.insB, AV.ren, AV.rens, Blk.ren, Blk.inB, vstep, tput, blks_len]
      exact done
    · have : i = nb s := by
        have : ¬ i < 4096 := by simp only [decide_eq_false_iff_not] at hlt; omega
        unfold nb at hi ⊢; omega
      subst this
      simp only [AH.SD, AH.wpOp, AOp.call?, AOp.next?, bstep, AOp.map, Opd.ev, tget, argTm, evs, AV.cells, St.eff, St.put, applyWr, mset, terase, pureE, unAV, intOp, binAV, fill, mget, AH.rowAt, AH.part, retQ, rvs, retV, AH.splice, AH.sliceElems, AH.bytesOf, AH.strOp, AH.bound, AH.addLog, AH.missQ, AH.minmaxAV, AH.wpOpD, AH.readOf, AH.effOf, AH.mapAt, AH.iterAt, Nat.reduceBEq, Nat.reduceAdd, Nat.reduceLT, ↓reduceIte, Nat.reduceEqDiff, Nat.reduceLeDiff, Nat.reduceSub, Nat.reduceMul, Int.reduceSub, Int.reduceToNat, Int.reduceBEq, Int.reduceBNe, Int.reduceLT, Int.reduceGT, Int.reduceLE, Int.reduceGE, Int.reduceNeg, Int.reduceAdd]
      refine ⟨[0, 1], [], ?_⟩
      simp only [AH.SD, AH.wpOp, AOp.call?, AOp.next?, bstep, AOp.map, Opd.ev, tget, argTm, evs, AV.cells, St.eff, St.put, applyWr, mset, terase, pureE, unAV, intOp, binAV, fill, mget, AH.rowAt, AH.part, retQ, rvs, retV, AH.splice, AH.sliceElems, AH.bytesOf, AH.strOp, AH.bound, AH.addLog, AH.missQ, AH.minmaxAV, AH.wpOpD, AH.readOf, AH.effOf, AH.mapAt, AH.iterAt, Nat.reduceBEq, Nat.reduceAdd, Nat.reduceLT, ↓reduceIte, Nat.reduceEqDiff, Nat.reduceLeDiff, Nat.reduceSub, Nat.reduceMul, Int.reduceSub, Int.reduceToNat, Int.reduceBEq, Int.reduceBNe, Int.reduceLT, Int.reduceGT, Int.reduceLE, Int.reduceGE, Int.reduceNeg, Int.reduceAdd, AH.PD, heads, distN, AH.inN, posN, packM, packB, packTm, liveB, AV.inB, AV.insB, AV.ren, AV.rens, Blk.ren, Blk.inB, vstep, tput, ofD, blks_len]
      try trivial
  · have h1 : decide (((s.size - 64 * i : Nat) : Int) ≥ 64) = false := by simp; omega
    have : i = nb s := by unfold nb at hi ⊢; omega
    subst this
    simp only [AH.SD, AH.wpOp, AOp.call?, AOp.next?, bstep, AOp.map, Opd.ev, tget, argTm, evs, AV.cells, St.eff, St.put, applyWr, mset, terase, pureE, unAV, intOp, binAV, fill, mget, AH.rowAt, AH.part, retQ, rvs, retV, AH.splice, AH.sliceElems, AH.bytesOf, AH.strOp, AH.bound, AH.addLog, AH.missQ, AH.minmaxAV, AH.wpOpD, AH.readOf, AH.effOf, AH.mapAt, AH.iterAt, Nat.reduceBEq, Nat.reduceAdd, Nat.reduceLT, ↓reduceIte, Nat.reduceEqDiff, Nat.reduceLeDiff, Nat.reduceSub, Nat.reduceMul, Int.reduceSub, Int.reduceToNat, Int.reduceBEq, Int.reduceBNe, Int.reduceLT, Int.reduceGT, Int.reduceLE, Int.reduceGE, Int.reduceNeg, Int.reduceAdd, h1]
    refine ⟨[0, 1], [], ?_⟩
    simp only [AH.SD, AH.wpOp, AOp.call?, AOp.next?, bstep, AOp.map, Opd.ev, tget, argTm, evs, AV.cells, St.eff, St.put, applyWr, mset, terase, pureE, unAV, intOp, binAV, fill, mget, AH.rowAt, AH.part, retQ, rvs, retV, AH.splice, AH.sliceElems, AH.bytesOf, AH.strOp, AH.bound, AH.addLog, AH.missQ, AH.minmaxAV, AH.wpOpD, AH.readOf, AH.effOf, AH.mapAt, AH.iterAt, Nat.reduceBEq, Nat.reduceAdd, Nat.reduceLT, ↓reduceIte, Nat.reduceEqDiff, Nat.reduceLeDiff, Nat.reduceSub, Nat.reduceMul, Int.reduceSub, Int.reduceToNat, Int.reduceBEq, Int.reduceBNe, Int.reduceLT, Int.reduceGT, Int.reduceLE, Int.reduceGE, Int.reduceNeg, Int.reduceAdd, AH.PD, heads, distN, AH.inN, posN, packM, packB, packTm, liveB, AV.inB, AV.insB, AV.ren, AV.rens, Blk.ren, Blk.inB, vstep, tput, ofD, blks_len]
    try trivial
def ofT : ET := etN (cC aS c0) fun x => some (.ptr 0 0 0, dkM (ofD x.1))
theorem ofT_ok : EffF S0 12 ofT := etN_ok fun x v m' h => by
  simp only [Option.some.injEq, Prod.mk.injEq] at h
  obtain ⟨rfl, rfl⟩ := h
  exact ⟨rfl, of_ok x.1⟩
theorem ofT_eq {s : ByteArray} {M : Nat → Option Blk} {n : Nat} : ofT [.str s] M n = some (effS [] n (.ptr 0 0 0) (dkM (ofD s)), 2) := by
  simp only [ofT, etN_eq, cC_dec, aS_dec, c0_dec, pairO_some, Option.bind_some, useO_some]; rfl

/-- A block's count, out of any number. -/
def newN (n : Int) : Int := minI (maxI n 0) 4096
def zeros (n : Int) : ByteArray := repS ⟨#[0]⟩ (newN n * 64).toNat
def newD (n : Int) : Dk := ofD (zeros n)
theorem newN_in (n : Int) : 0 ≤ newN n ∧ newN n ≤ 4096 := by
  unfold newN minI maxI
  split <;> split <;> omega
theorem okNew : CtxOK S0 (ctxE S0 [(40, repT)] [] [(12, ofT)]) := ctxE_ok ⟨repT_ok, trivial⟩ trivial ⟨ofT_ok, trivial⟩ mixed
set_option maxRecDepth 100000 in
theorem new_ok (n : Int) : CallA1 S0 28 [.int .i64 n] [] fun r m => r = .ptr 0 0 0 ∧ m = dkM (newD n) := by
  refine fun_sound okNew Tryd.func28 c28 ?_
  unfold wpF F28
  obtain ⟨k, hk⟩ := Int.eq_ofNat_of_zero_le (newN_in n).1
  have hk2 := (newN_in n).2
  have e1 : (if 4096 < (if 0 > n then 0 else n) then 4096 else if 0 > n then 0 else n) = (k : Int) := hk
  have e2 : IntKind.i64.wrap ((k : Int) * 64) = ((k * 64 : Nat) : Int) := by rw [IntKind.wrap_i64]; omega
  have e3 : okRep ⟨#[0]⟩ ((k * 64 : Nat) : Int) := ⟨by omega, by decide, by omega⟩
  have e4 : zeros n = repS ⟨#[0]⟩ (k * 64) := by
    unfold zeros
    rw [hk]; congr 1
  simp only [AH.SD, AH.wpOp, AOp.call?, AOp.next?, bstep, AOp.map, Opd.ev, tget, argTm, evs, AV.cells, St.eff, St.put, applyWr, mset, terase, pureE, unAV, intOp, binAV, fill, mget, AH.rowAt, AH.part, retQ, rvs, retV, AH.splice, AH.sliceElems, AH.bytesOf, AH.strOp, AH.bound, AH.addLog, AH.missQ, AH.minmaxAV, AH.wpOpD, AH.readOf, AH.effOf, AH.mapAt, AH.iterAt, Nat.reduceBEq, Nat.reduceAdd, Nat.reduceLT, ↓reduceIte, Nat.reduceEqDiff, Nat.reduceLeDiff, Nat.reduceSub, Nat.reduceMul, Int.reduceSub, Int.reduceToNat, Int.reduceBEq, Int.reduceBNe, Int.reduceLT, Int.reduceGT, Int.reduceLE, Int.reduceGE, Int.reduceNeg, Int.reduceAdd, AH.PD, heads, distN, AH.inN, posN, packM, packB, packTm, liveB, AV.inB, AV.insB, AV.ren, AV.rens, Blk.ren, Blk.inB, vstep, tput, vw, shift, newOnes, rowsM, blkIn, rwB, @flat_lts, AV.lt, AV.lts, Nat.sub_self, AH.rtO_eq, AH.rtO2_eq, AH.rtO2_none, AH.etO_eq, AH.etO2_eq, AH.etO2_none, AH.useO_some, AH.rtElse_eq, AH.elseO_some, AH.elseO_none, AH.etN_eq, Option.bind_some, Option.bind_none, AH.pairO_some, AH.pairO_none, AH.cC_dec, AH.cC_nil, AH.c0_dec, AH.c0_dec1, AH.aI_dec, AH.aS_dec, AH.aB_dec, AH.aNil_dec, AH.aNil_ptr, Option.map_none, effS, wrS, newS, backNo, AH.isIn, AH.posOf, AH.rwB, List.all_cons, List.all_nil, List.getElem?_cons_zero, List.getElem?_cons_succ, List.getElem?_nil, AH.appE_some, List.contains_cons, List.contains_nil, Nat.add_zero, e1, e2, repT_eq e3, ofT_eq, newD, e4, dkM, Option.map_some]
  try trivial
theorem newT_ok : EffF S0 28 (etN (cC (aI .i64) c0) fun x => some (.ptr 0 0 0, dkM (newD x.1))) := etN_ok fun x v m' h => by
  simp only [Option.some.injEq, Prod.mk.injEq] at h
  obtain ⟨rfl, rfl⟩ := h
  exact ⟨rfl, new_ok x.1⟩
def newT : ET := etN (cC (aI .i64) c0) fun x => some (.ptr 0 0 0, dkM (newD x.1))
theorem newT_eq {k : Int} {M : Nat → Option Blk} {n : Nat} : newT [.int .i64 k] M n = some (effS [] n (.ptr 0 0 0) (dkM (newD k)), 2) := by
  simp only [newT, etN_eq, cC_dec, aI_dec, c0_dec, pairO_some, Option.bind_some, useO_some]; rfl

theorem okImg : CtxOK S0 (ctxU S0 [(39, joinT)] []) := ctxU_ok ⟨joinT_ok, trivial⟩ trivial mixed
theorem dk_okJ {d : Dk} (h : d.ok) : okJ d.L := ⟨fun s hs => by rw [h.1 s hs]; decide, by have := h.2.2.2; omega⟩
set_option maxRecDepth 100000 in
theorem image_ok (d : Dk) (hd : d.ok) : CallA1 S0 25 [.ptr 0 0 0] (dkM d) fun r m => r = .str (catS d.L) ∧ m = dkM d := by
  refine fun_sound okImg Tryd.func25 c25 ?_
  unfold wpF F25
  have hj := dk_okJ hd
  simp only [AH.SD, AH.wpOp, AOp.call?, AOp.next?, bstep, AOp.map, Opd.ev, tget, argTm, evs, AV.cells, St.eff, St.put, applyWr, mset, terase, pureE, unAV, intOp, binAV, fill, mget, AH.rowAt, AH.part, retQ, rvs, retV, AH.splice, AH.sliceElems, AH.bytesOf, AH.strOp, AH.bound, AH.addLog, AH.missQ, AH.minmaxAV, AH.wpOpD, AH.readOf, AH.effOf, AH.mapAt, AH.iterAt, Nat.reduceBEq, Nat.reduceAdd, Nat.reduceLT, ↓reduceIte, Nat.reduceEqDiff, Nat.reduceLeDiff, Nat.reduceSub, Nat.reduceMul, Int.reduceSub, Int.reduceToNat, Int.reduceBEq, Int.reduceBNe, Int.reduceLT, Int.reduceGT, Int.reduceLE, Int.reduceGE, Int.reduceNeg, Int.reduceAdd, dkM, joinT_eq, hj]
set_option maxRecDepth 100000 in
theorem image_nil : Pure S0 25 [.nilp] (.str ⟨#[]⟩) := by
  refine fun_sound okImg Tryd.func25 c25 ?_
  unfold wpF F25
  simp only [AH.SD, AH.wpOp, AOp.call?, AOp.next?, bstep, AOp.map, Opd.ev, tget, argTm, evs, AV.cells, St.eff, St.put, applyWr, mset, terase, pureE, unAV, intOp, binAV, fill, mget, AH.rowAt, AH.part, retQ, rvs, retV, AH.splice, AH.sliceElems, AH.bytesOf, AH.strOp, AH.bound, AH.addLog, AH.missQ, AH.minmaxAV, AH.wpOpD, AH.readOf, AH.effOf, AH.mapAt, AH.iterAt, Nat.reduceBEq, Nat.reduceAdd, Nat.reduceLT, ↓reduceIte, Nat.reduceEqDiff, Nat.reduceLeDiff, Nat.reduceSub, Nat.reduceMul, Int.reduceSub, Int.reduceToNat, Int.reduceBEq, Int.reduceBNe, Int.reduceLT, Int.reduceGT, Int.reduceLE, Int.reduceGE, Int.reduceNeg, Int.reduceAdd]
def imgT : RT := rtElse (cC aNil c0) (fun _ => .str ⟨#[]⟩) (rtO dkO c0 fun d _ => if d.ok then some (.str (catS d.L)) else none)
theorem imgT_ok : ReadF S0 25 imgT := rtElse_ok (fun _ => image_nil) (fun _ => rfl) (rtO_ok fun d x v h => by
  split at h
  · rename_i hd
    simp only [Option.some.injEq] at h; subst h
    exact ⟨rfl, image_ok d hd⟩
  · cases h)
theorem imgT_p {p : Nat} {M : Nat → Option Blk} : imgT [.ptr p 0 0] M = rtO2 (fun (d : Dk) (_ : Unit) => if d.ok then some (.str (catS d.L)) else none) (dkR M p (M p)) (some ()) := by
  simp only [imgT, rtElse_eq, rtO_eq, cC_dec, aNil_ptr, c0_dec, pairO_none, Option.map_none, elseO_none, dkO_dec]
theorem imgT_n {M : Nat → Option Blk} : imgT [.nilp] M = some (.str ⟨#[]⟩, []) := by
  simp only [imgT, rtElse_eq, cC_dec, aNil_dec, c0_dec, pairO_some, Option.map_some, elseO_some]
end Go.Proofs.YtcmnchmkoghfdaaDoor.C04
