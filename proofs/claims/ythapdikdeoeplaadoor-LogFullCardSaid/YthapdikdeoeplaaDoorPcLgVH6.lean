import Derived.Test.YthapdikdeoeplaaDoorPbLgXH6
import Derived.Test.YthapdikdeoeplaaDoorPaFrmSH6
section
open Go AH
set_option linter.unusedSimpArgs false
set_option maxRecDepth 100000
namespace Go.Proofs.YthapdikdeoeplaaDoor.H6
/- Add. -/
theorem errA7 : errA 7 = .err 2 := rfl
def rsT : ET := etO lgO (cC (aI .i64) c0) fun l x => if l.ok then some (errA (rstL l x.1).1, rsM l x.1) else none
theorem rsM_len (l : Lg) (b : Int) : 4 ≤ (rsM l b).length ∧ ((rsM l b).drop 4).all rwB = true := by
  unfold rsM
  split
  · exact ⟨by simp [lgM2], rfl⟩
  · exact ⟨by simp [lgM], rfl⟩
theorem rsT_ok : EffF S0 13 rsT := etO_ok fun l x v m' h => by
  split at h
  · rename_i hl
    simp only [Option.some.injEq, Prod.mk.injEq] at h
    obtain ⟨rfl, rfl⟩ := h
    exact ⟨rsM_len l x.1, reset_ok l hl x.1⟩
  · cases h
theorem rsT_p {p n : Nat} {b : Int} {M : Nat → Option Blk} : rsT [.ptr p 0 0, .int .i64 b] M n = etO2 n (fun (l : Lg) (x : Int × Unit) => if l.ok then some (errA (rstL l x.1).1, rsM l x.1) else none) (lgR M p (M p)) (some (b, ())) := by
  simp only [rsT, etO_eq, cC_dec, aI_dec, c0_dec, pairO_some, lgO_dec]
theorem reset_nil (b : Int) : Pure S0 13 [.nilp, .int .i64 b] (errA 2) := by
  refine fun_sound okRs Tryd.func13 c13 ?_
  unfold wpF F13
  simp only [AH.SD, AH.wpOp, AOp.call?, AOp.next?, bstep, AOp.map, Opd.ev, tget, argTm, evs, AV.cells, St.eff, St.put, applyWr, mset, terase, pureE, unAV, intOp, binAV, fill, mget, AH.rowAt, AH.part, retQ, rvs, retV, AH.splice, AH.sliceElems, AH.bytesOf, AH.strOp, AH.bound, AH.addLog, AH.missQ, AH.minmaxAV, AH.wpOpD, AH.readOf, AH.effOf, AH.mapAt, AH.iterAt, Nat.reduceBEq, Nat.reduceAdd, Nat.reduceLT, ↓reduceIte, Nat.reduceEqDiff, Nat.reduceLeDiff, Nat.reduceSub, Nat.reduceMul, Int.reduceSub, Int.reduceToNat, Int.reduceBEq, Int.reduceBNe, Int.reduceLT, Int.reduceGT, Int.reduceLE, Int.reduceGE, Int.reduceNeg, Int.reduceAdd, errA2]
def rsN : RT := rtP (cC aNil (cC (aI .i64) c0)) fun _ => errA 2
theorem rsN_ok : ReadF S0 13 rsN := rtP_ok (fun x => reset_nil x.2.1) fun _ => rfl
theorem rsN_n {b : Int} {M : Nat → Option Blk} : rsN [.nilp, .int .i64 b] M = some (errA 2, []) := by
  simp only [rsN, rtP, cC_dec, aNil_dec, aI_dec, c0_dec, pairO_some, Option.map_some]
theorem rsN_p {p : Nat} {b : Int} {M : Nat → Option Blk} : rsN [.ptr p 0 0, .int .i64 b] M = none := by
  simp only [rsN, rtP, cC_dec, aNil_ptr, pairO_none, Option.map_none]

noncomputable abbrev tAd : List (FuncId × RT) := [(39, sizeT), (21, roomT), (23, nextT), (15, writeNT)]
noncomputable abbrev eAd : List (FuncId × ET) := [(40, bksT), (15, writeT), (41, lostT)]
theorem okAd : CtxOK S0 (ctxE S0 tAd [] eAd) := ctxE_ok ⟨sizeT_ok, roomT_ok, nextT_ok, writeNT_ok, trivial⟩ trivial ⟨bksT_ok, writeT_ok, lostT_ok, trivial⟩ mixed
def adM (l : Lg) (s : ByteArray) : Mem := if (addL l s).1 = 0 then lgM2 none (addL l s).2 else lgM (addL l s).2
def adSt (f t b a : Int) (R : List ByteArray) (s : ByteArray) (n : Nat) (B : List ByteArray) (x : Nat × Dk) : St := ⟨[(49, .int .i64 x.1), (48, .int .i64 n), (47, .slc 4 0 n none), (5, .slc 4 0 n none), (1, .str s), (0, .ptr 0 0 0)], lgM ⟨x.2, f, t, b, a, R, false⟩ ++ [some (.row false 1 (B.map strC))]⟩
set_option maxHeartbeats 8000000 in
theorem add_ok (l : Lg) (h : l.ok) (s : ByteArray) (hs : okSz s) : CallA1 S0 11 [.ptr 0 0 0, .str s] (lgM l) fun r m => r = errA (addL l s).1 ∧ m = adM l s := by
  have hd := h.1
  have hb := h.2.1
  have hf := h.2.2.1
  have hfa := h.2.2.2.1
  have hat := h.2.2.2.2.1
  have htl := h.2.2.2.2.2.1
  have hR := h.2.2.2.2.2.2
  have hL := hd.2.2.2
  refine CallA1.fin ?_
  refine fun_sound okAd Tryd.func11 c11 ?_
  unfold wpF F11
  cases h1 : decide ((s.size : Int) > 6000)
  rotate_left
  · have e : addL l s = (1, l) := by
      unfold addL; rw [if_pos (by simp only [decide_eq_true_eq] at h1; omega)]
    simp only [AH.SD, AH.wpOp, AOp.call?, AOp.next?, bstep, AOp.map, Opd.ev, tget, argTm, evs, AV.cells, St.eff, St.put, applyWr, mset, terase, pureE, unAV, intOp, binAV, fill, mget, AH.rowAt, AH.part, retQ, rvs, retV, AH.splice, AH.sliceElems, AH.bytesOf, AH.strOp, AH.bound, AH.addLog, AH.missQ, AH.minmaxAV, AH.wpOpD, AH.readOf, AH.effOf, AH.mapAt, AH.iterAt, Nat.reduceBEq, Nat.reduceAdd, Nat.reduceLT, ↓reduceIte, Nat.reduceEqDiff, Nat.reduceLeDiff, Nat.reduceSub, Nat.reduceMul, Int.reduceSub, Int.reduceToNat, Int.reduceBEq, Int.reduceBNe, Int.reduceLT, Int.reduceGT, Int.reduceLE, Int.reduceGE, Int.reduceNeg, Int.reduceAdd, AH.PD, heads, distN, AH.inN, posN, packM, packB, packTm, liveB, AV.inB, AV.insB, AV.ren, AV.rens, Blk.ren, Blk.inB, vstep, tput, vw, shift, newOnes, rowsM, blkIn, rwB, @flat_lts, AV.lt, AV.lts, Nat.sub_self, AH.rtO_eq, AH.rtO2_eq, AH.rtO2_none, AH.etO_eq, AH.etO2_eq, AH.etO2_none, AH.useO_some, AH.rtElse_eq, AH.elseO_some, AH.elseO_none, AH.etN_eq, Option.bind_some, Option.bind_none, AH.pairO_some, AH.pairO_none, AH.cC_dec, AH.cC_nil, AH.c0_dec, AH.c0_dec1, AH.aI_dec, AH.aS_dec, AH.aB_dec, AH.aNil_dec, AH.aNil_ptr, Option.map_none, effS, wrS, newS, backNo, AH.isIn, AH.posOf, AH.rwB, List.all_cons, List.all_nil, List.getElem?_cons_zero, List.getElem?_cons_succ, List.getElem?_nil, AH.appE_some, List.contains_cons, List.contains_nil, Nat.add_zero, lgM, h1]
    refine ⟨[0, 1, 2, 3], [], ?_⟩
    simp only [AH.SD, AH.wpOp, AOp.call?, AOp.next?, bstep, AOp.map, Opd.ev, tget, argTm, evs, AV.cells, St.eff, St.put, applyWr, mset, terase, pureE, unAV, intOp, binAV, fill, mget, AH.rowAt, AH.part, retQ, rvs, retV, AH.splice, AH.sliceElems, AH.bytesOf, AH.strOp, AH.bound, AH.addLog, AH.missQ, AH.minmaxAV, AH.wpOpD, AH.readOf, AH.effOf, AH.mapAt, AH.iterAt, Nat.reduceBEq, Nat.reduceAdd, Nat.reduceLT, ↓reduceIte, Nat.reduceEqDiff, Nat.reduceLeDiff, Nat.reduceSub, Nat.reduceMul, Int.reduceSub, Int.reduceToNat, Int.reduceBEq, Int.reduceBNe, Int.reduceLT, Int.reduceGT, Int.reduceLE, Int.reduceGE, Int.reduceNeg, Int.reduceAdd, AH.PD, heads, distN, AH.inN, posN, packM, packB, packTm, liveB, AV.inB, AV.insB, AV.ren, AV.rens, Blk.ren, Blk.inB, vstep, tput, e, adM, errA1, lgM, show ¬ ((1 : Nat) = 0) by decide, if_false]
    try simp
  have hs6 : ¬ s.size > 6000 := by simp only [decide_eq_false_iff_not] at h1; omega
  cases h2 : decide ((sizeN s.size : Int) > l.room)
  rotate_left
  · have e : addL l s = (7, l) := by
      unfold addL; rw [if_neg hs6, if_pos (.inl (by simpa using h2))]
    simp only [AH.SD, AH.wpOp, AOp.call?, AOp.next?, bstep, AOp.map, Opd.ev, tget, argTm, evs, AV.cells, St.eff, St.put, applyWr, mset, terase, pureE, unAV, intOp, binAV, fill, mget, AH.rowAt, AH.part, retQ, rvs, retV, AH.splice, AH.sliceElems, AH.bytesOf, AH.strOp, AH.bound, AH.addLog, AH.missQ, AH.minmaxAV, AH.wpOpD, AH.readOf, AH.effOf, AH.mapAt, AH.iterAt, Nat.reduceBEq, Nat.reduceAdd, Nat.reduceLT, ↓reduceIte, Nat.reduceEqDiff, Nat.reduceLeDiff, Nat.reduceSub, Nat.reduceMul, Int.reduceSub, Int.reduceToNat, Int.reduceBEq, Int.reduceBNe, Int.reduceLT, Int.reduceGT, Int.reduceLE, Int.reduceGE, Int.reduceNeg, Int.reduceAdd, AH.PD, heads, distN, AH.inN, posN, packM, packB, packTm, liveB, AV.inB, AV.insB, AV.ren, AV.rens, Blk.ren, Blk.inB, vstep, tput, vw, shift, newOnes, rowsM, blkIn, rwB, @flat_lts, AV.lt, AV.lts, Nat.sub_self, AH.rtO_eq, AH.rtO2_eq, AH.rtO2_none, AH.etO_eq, AH.etO2_eq, AH.etO2_none, AH.useO_some, AH.rtElse_eq, AH.elseO_some, AH.elseO_none, AH.etN_eq, Option.bind_some, Option.bind_none, AH.pairO_some, AH.pairO_none, AH.cC_dec, AH.cC_nil, AH.c0_dec, AH.c0_dec1, AH.aI_dec, AH.aS_dec, AH.aB_dec, AH.aNil_dec, AH.aNil_ptr, Option.map_none, effS, wrS, newS, backNo, AH.isIn, AH.posOf, AH.rwB, List.all_cons, List.all_nil, List.getElem?_cons_zero, List.getElem?_cons_succ, List.getElem?_nil, AH.appE_some, List.contains_cons, List.contains_nil, Nat.add_zero, lgM, h1, lgR_eq, lgU_eq, Lg.eta, ne4, Bool.not_false, Bool.and_self, if_true, dkR_eq, dkB_eq, Dk.eta, ne_eq, Nat.reduceEqDiff, Nat.zero_ne_one, not_false_eq_true, sizeT_q hs, roomT_p, h, h2]
    refine ⟨[0, 1, 2, 3], [], ?_⟩
    simp only [AH.SD, AH.wpOp, AOp.call?, AOp.next?, bstep, AOp.map, Opd.ev, tget, argTm, evs, AV.cells, St.eff, St.put, applyWr, mset, terase, pureE, unAV, intOp, binAV, fill, mget, AH.rowAt, AH.part, retQ, rvs, retV, AH.splice, AH.sliceElems, AH.bytesOf, AH.strOp, AH.bound, AH.addLog, AH.missQ, AH.minmaxAV, AH.wpOpD, AH.readOf, AH.effOf, AH.mapAt, AH.iterAt, Nat.reduceBEq, Nat.reduceAdd, Nat.reduceLT, ↓reduceIte, Nat.reduceEqDiff, Nat.reduceLeDiff, Nat.reduceSub, Nat.reduceMul, Int.reduceSub, Int.reduceToNat, Int.reduceBEq, Int.reduceBNe, Int.reduceLT, Int.reduceGT, Int.reduceLE, Int.reduceGE, Int.reduceNeg, Int.reduceAdd, AH.PD, heads, distN, AH.inN, posN, packM, packB, packTm, liveB, AV.inB, AV.insB, AV.ren, AV.rens, Blk.ren, Blk.inB, vstep, tput, e, adM, errA7, lgM, show ¬ ((7 : Nat) = 0) by decide, if_false]
    try simp
  cases h3 : decide (l.next ≥ 1073741824)
  rotate_left
  · have e : addL l s = (7, l) := by
      unfold addL; rw [if_neg hs6, if_pos (.inr (by simpa using h3))]
    simp only [AH.SD, AH.wpOp, AOp.call?, AOp.next?, bstep, AOp.map, Opd.ev, tget, argTm, evs, AV.cells, St.eff, St.put, applyWr, mset, terase, pureE, unAV, intOp, binAV, fill, mget, AH.rowAt, AH.part, retQ, rvs, retV, AH.splice, AH.sliceElems, AH.bytesOf, AH.strOp, AH.bound, AH.addLog, AH.missQ, AH.minmaxAV, AH.wpOpD, AH.readOf, AH.effOf, AH.mapAt, AH.iterAt, Nat.reduceBEq, Nat.reduceAdd, Nat.reduceLT, ↓reduceIte, Nat.reduceEqDiff, Nat.reduceLeDiff, Nat.reduceSub, Nat.reduceMul, Int.reduceSub, Int.reduceToNat, Int.reduceBEq, Int.reduceBNe, Int.reduceLT, Int.reduceGT, Int.reduceLE, Int.reduceGE, Int.reduceNeg, Int.reduceAdd, AH.PD, heads, distN, AH.inN, posN, packM, packB, packTm, liveB, AV.inB, AV.insB, AV.ren, AV.rens, Blk.ren, Blk.inB, vstep, tput, vw, shift, newOnes, rowsM, blkIn, rwB, @flat_lts, AV.lt, AV.lts, Nat.sub_self, AH.rtO_eq, AH.rtO2_eq, AH.rtO2_none, AH.etO_eq, AH.etO2_eq, AH.etO2_none, AH.useO_some, AH.rtElse_eq, AH.elseO_some, AH.elseO_none, AH.etN_eq, Option.bind_some, Option.bind_none, AH.pairO_some, AH.pairO_none, AH.cC_dec, AH.cC_nil, AH.c0_dec, AH.c0_dec1, AH.aI_dec, AH.aS_dec, AH.aB_dec, AH.aNil_dec, AH.aNil_ptr, Option.map_none, effS, wrS, newS, backNo, AH.isIn, AH.posOf, AH.rwB, List.all_cons, List.all_nil, List.getElem?_cons_zero, List.getElem?_cons_succ, List.getElem?_nil, AH.appE_some, List.contains_cons, List.contains_nil, Nat.add_zero, lgM, h1, lgR_eq, lgU_eq, Lg.eta, ne4, Bool.not_false, Bool.and_self, if_true, dkR_eq, dkB_eq, Dk.eta, ne_eq, Nat.reduceEqDiff, Nat.zero_ne_one, not_false_eq_true, sizeT_q hs, roomT_p, nextT_p, h, h2, h3]
    refine ⟨[0, 1, 2, 3], [], ?_⟩
    simp only [AH.SD, AH.wpOp, AOp.call?, AOp.next?, bstep, AOp.map, Opd.ev, tget, argTm, evs, AV.cells, St.eff, St.put, applyWr, mset, terase, pureE, unAV, intOp, binAV, fill, mget, AH.rowAt, AH.part, retQ, rvs, retV, AH.splice, AH.sliceElems, AH.bytesOf, AH.strOp, AH.bound, AH.addLog, AH.missQ, AH.minmaxAV, AH.wpOpD, AH.readOf, AH.effOf, AH.mapAt, AH.iterAt, Nat.reduceBEq, Nat.reduceAdd, Nat.reduceLT, ↓reduceIte, Nat.reduceEqDiff, Nat.reduceLeDiff, Nat.reduceSub, Nat.reduceMul, Int.reduceSub, Int.reduceToNat, Int.reduceBEq, Int.reduceBNe, Int.reduceLT, Int.reduceGT, Int.reduceLE, Int.reduceGE, Int.reduceNeg, Int.reduceAdd, AH.PD, heads, distN, AH.inN, posN, packM, packB, packTm, liveB, AV.inB, AV.insB, AV.ren, AV.rens, Blk.ren, Blk.inB, vstep, tput, e, adM, errA7, lgM, show ¬ ((7 : Nat) = 0) by decide, if_false]
    try simp
  have h23 : ¬ ((sizeN s.size : Int) > l.room ∨ l.next ≥ 1073741824) := by
    simp only [decide_eq_false_iff_not] at h2 h3
    exact fun q => q.elim h2 h3
  have hn1 := sizeN_pos s.size
  have hbl : okBl (l.next, s, ()) := by
    simp only [decide_eq_false_iff_not] at h3
    refine ⟨?_, ?_, ?_⟩
    · show 1 ≤ l.next; unfold Lg.next; have := hb.1; omega
    · show l.next ≤ 2147483647; omega
    · show s.size ≤ 6000; omega
  have hroom : (sizeN s.size : Int) ≤ l.t - l.a := by have e : l.room = l.t - l.a := rfl; simp only [decide_eq_false_iff_not] at h2; omega
  have hsz := blkL_sz (q := l.next) (s := s) (n := sizeN s.size) (Nat.le_refl _)
  have hlen := blkL_len l.next s (sizeN s.size)
  obtain ⟨A, hA⟩ := Int.eq_ofNat_of_zero_le (show 0 ≤ l.a by omega)
  have hnx : l.next = l.b + (l.R.length : Int) + 1 := rfl
  have hrm : l.room = l.t - l.a := rfl
  obtain ⟨d, f, t, b, a, R, down⟩ := l
  simp only at hd hb hf hfa hat htl hR hL hroom hA hnx hrm
  cases down
  rotate_left
  · have e : addL ⟨d, f, t, b, a, R, true⟩ s = (14, ⟨d, f, t, b, a, R, true⟩) := by
      unfold addL; rw [if_neg hs6, if_neg h23, if_pos rfl]
    simp only [AH.SD, AH.wpOp, AOp.call?, AOp.next?, bstep, AOp.map, Opd.ev, tget, argTm, evs, AV.cells, St.eff, St.put, applyWr, mset, terase, pureE, unAV, intOp, binAV, fill, mget, AH.rowAt, AH.part, retQ, rvs, retV, AH.splice, AH.sliceElems, AH.bytesOf, AH.strOp, AH.bound, AH.addLog, AH.missQ, AH.minmaxAV, AH.wpOpD, AH.readOf, AH.effOf, AH.mapAt, AH.iterAt, Nat.reduceBEq, Nat.reduceAdd, Nat.reduceLT, ↓reduceIte, Nat.reduceEqDiff, Nat.reduceLeDiff, Nat.reduceSub, Nat.reduceMul, Int.reduceSub, Int.reduceToNat, Int.reduceBEq, Int.reduceBNe, Int.reduceLT, Int.reduceGT, Int.reduceLE, Int.reduceGE, Int.reduceNeg, Int.reduceAdd, AH.PD, heads, distN, AH.inN, posN, packM, packB, packTm, liveB, AV.inB, AV.insB, AV.ren, AV.rens, Blk.ren, Blk.inB, vstep, tput, vw, shift, newOnes, rowsM, blkIn, rwB, @flat_lts, AV.lt, AV.lts, Nat.sub_self, AH.rtO_eq, AH.rtO2_eq, AH.rtO2_none, AH.etO_eq, AH.etO2_eq, AH.etO2_none, AH.useO_some, AH.rtElse_eq, AH.elseO_some, AH.elseO_none, AH.etN_eq, Option.bind_some, Option.bind_none, AH.pairO_some, AH.pairO_none, AH.cC_dec, AH.cC_nil, AH.c0_dec, AH.c0_dec1, AH.aI_dec, AH.aS_dec, AH.aB_dec, AH.aNil_dec, AH.aNil_ptr, Option.map_none, effS, wrS, newS, backNo, AH.isIn, AH.posOf, AH.rwB, List.all_cons, List.all_nil, List.getElem?_cons_zero, List.getElem?_cons_succ, List.getElem?_nil, AH.appE_some, List.contains_cons, List.contains_nil, Nat.add_zero, lgM, h1, lgR_eq, lgU_eq, Lg.eta, ne4, Bool.not_false, Bool.and_self, if_true, dkR_eq, dkB_eq, Dk.eta, ne_eq, Nat.reduceEqDiff, Nat.zero_ne_one, not_false_eq_true, sizeT_q hs, roomT_p, nextT_p, h, h2, h3]
    refine ⟨[0, 1, 2, 3], [], ?_⟩
    simp only [AH.SD, AH.wpOp, AOp.call?, AOp.next?, bstep, AOp.map, Opd.ev, tget, argTm, evs, AV.cells, St.eff, St.put, applyWr, mset, terase, pureE, unAV, intOp, binAV, fill, mget, AH.rowAt, AH.part, retQ, rvs, retV, AH.splice, AH.sliceElems, AH.bytesOf, AH.strOp, AH.bound, AH.addLog, AH.missQ, AH.minmaxAV, AH.wpOpD, AH.readOf, AH.effOf, AH.mapAt, AH.iterAt, Nat.reduceBEq, Nat.reduceAdd, Nat.reduceLT, ↓reduceIte, Nat.reduceEqDiff, Nat.reduceLeDiff, Nat.reduceSub, Nat.reduceMul, Int.reduceSub, Int.reduceToNat, Int.reduceBEq, Int.reduceBNe, Int.reduceLT, Int.reduceGT, Int.reduceLE, Int.reduceGE, Int.reduceNeg, Int.reduceAdd, AH.PD, heads, distN, AH.inN, posN, packM, packB, packTm, liveB, AV.inB, AV.insB, AV.ren, AV.rens, Blk.ren, Blk.inB, vstep, tput, e, adM, errA14, lgM, show ¬ ((14 : Nat) = 0) by decide, if_false]
    try simp
  · have e0 : addL ⟨d, f, t, b, a, R, false⟩ s = if (layD d A (blkL (Lg.next ⟨d, f, t, b, a, R, false⟩) s (sizeN s.size))).1 = 0 then (0, ⟨(layD d A (blkL (Lg.next ⟨d, f, t, b, a, R, false⟩) s (sizeN s.size))).2, f, t, b, a + sizeN s.size, R ++ [s], false⟩) else
        ((layD d A (blkL (Lg.next ⟨d, f, t, b, a, R, false⟩) s (sizeN s.size))).1, ⟨(layD d A (blkL (Lg.next ⟨d, f, t, b, a, R, false⟩) s (sizeN s.size))).2, f, t, b, a, R, (layD d A (blkL (Lg.next ⟨d, f, t, b, a, R, false⟩) s (sizeN s.size))).1 == 14⟩) := by
      unfold addL; rw [if_neg hs6, if_neg h23, if_neg (by simp)]
      simp only [show a.toNat = A by omega]
    simp only [AH.SD, AH.wpOp, AOp.call?, AOp.next?, bstep, AOp.map, Opd.ev, tget, argTm, evs, AV.cells, St.eff, St.put, applyWr, mset, terase, pureE, unAV, intOp, binAV, fill, mget, AH.rowAt, AH.part, retQ, rvs, retV, AH.splice, AH.sliceElems, AH.bytesOf, AH.strOp, AH.bound, AH.addLog, AH.missQ, AH.minmaxAV, AH.wpOpD, AH.readOf, AH.effOf, AH.mapAt, AH.iterAt, Nat.reduceBEq, Nat.reduceAdd, Nat.reduceLT, ↓reduceIte, Nat.reduceEqDiff, Nat.reduceLeDiff, Nat.reduceSub, Nat.reduceMul, Int.reduceSub, Int.reduceToNat, Int.reduceBEq, Int.reduceBNe, Int.reduceLT, Int.reduceGT, Int.reduceLE, Int.reduceGE, Int.reduceNeg, Int.reduceAdd, AH.PD, heads, distN, AH.inN, posN, packM, packB, packTm, liveB, AV.inB, AV.insB, AV.ren, AV.rens, Blk.ren, Blk.inB, vstep, tput, vw, shift, newOnes, rowsM, blkIn, rwB, @flat_lts, AV.lt, AV.lts, Nat.sub_self, AH.rtO_eq, AH.rtO2_eq, AH.rtO2_none, AH.etO_eq, AH.etO2_eq, AH.etO2_none, AH.useO_some, AH.rtElse_eq, AH.elseO_some, AH.elseO_none, AH.etN_eq, Option.bind_some, Option.bind_none, AH.pairO_some, AH.pairO_none, AH.cC_dec, AH.cC_nil, AH.c0_dec, AH.c0_dec1, AH.aI_dec, AH.aS_dec, AH.aB_dec, AH.aNil_dec, AH.aNil_ptr, Option.map_none, effS, wrS, newS, backNo, AH.isIn, AH.posOf, AH.rwB, List.all_cons, List.all_nil, List.getElem?_cons_zero, List.getElem?_cons_succ, List.getElem?_nil, AH.appE_some, List.contains_cons, List.contains_nil, Nat.add_zero, lgM, h1, lgR_eq, lgU_eq, Lg.eta, ne4, Bool.not_false, Bool.and_self, if_true, dkR_eq, dkB_eq, Dk.eta, ne_eq, Nat.reduceEqDiff, Nat.zero_ne_one, not_false_eq_true, sizeT_q hs, roomT_p, nextT_p, h, h2, h3, bksT_p, hbl]
    clear hbl h23 h1 h2 h3
    generalize hB : blkL (Lg.next ⟨d, f, t, b, a, R, false⟩) s (sizeN s.size) = B at *
    generalize hN : sizeN s.size = N at *
    clear h hnx hrm hB
    refine loop_do [0, 1, 2, 3, 4] [49, 48, 47, 5, 1, 0] [] (α := Nat × Dk) (fun x => N - x.1) (adSt f t b a R s N B) (fun x => x.1 ≤ N ∧ x.2.ok ∧ x.2.L.length = d.L.length ∧ layD x.2 (A + x.1) (B.drop x.1) = layD d A B) (0, d) ⟨Nat.zero_le _, hd, rfl, rfl⟩ (by simp only [AH.SD, AH.wpOp, AOp.call?, AOp.next?, bstep, AOp.map, Opd.ev, tget, argTm, evs, AV.cells, St.eff, St.put, applyWr, mset, terase, pureE, unAV, intOp, binAV, fill, mget, AH.rowAt, AH.part, retQ, rvs, retV, AH.splice, AH.sliceElems, AH.bytesOf, AH.strOp, AH.bound, AH.addLog, AH.missQ, AH.minmaxAV, AH.wpOpD, AH.readOf, AH.effOf, AH.mapAt, AH.iterAt, Nat.reduceBEq, Nat.reduceAdd, Nat.reduceLT, ↓reduceIte, Nat.reduceEqDiff, Nat.reduceLeDiff, Nat.reduceSub, Nat.reduceMul, Int.reduceSub, Int.reduceToNat, Int.reduceBEq, Int.reduceBNe, Int.reduceLT, Int.reduceGT, Int.reduceLE, Int.reduceGE, Int.reduceNeg, Int.reduceAdd, AH.PD, heads, distN, AH.inN, posN, packM, packB, packTm, liveB, AV.inB, AV.insB, AV.ren, AV.rens, Blk.ren, Blk.inB, vstep, tput, adSt, lgM, List.cons_append, List.nil_append]) ?_
    rintro X ⟨i, d1⟩ ⟨hi, hd1, hl1, hy⟩ ih
    simp only at hi hd1 hl1 hy
    simp only [AH.SD, AH.wpOp, AOp.call?, AOp.next?, bstep, AOp.map, Opd.ev, tget, argTm, evs, AV.cells, St.eff, St.put, applyWr, mset, terase, pureE, unAV, intOp, binAV, fill, mget, AH.rowAt, AH.part, retQ, rvs, retV, AH.splice, AH.sliceElems, AH.bytesOf, AH.strOp, AH.bound, AH.addLog, AH.missQ, AH.minmaxAV, AH.wpOpD, AH.readOf, AH.effOf, AH.mapAt, AH.iterAt, Nat.reduceBEq, Nat.reduceAdd, Nat.reduceLT, ↓reduceIte, Nat.reduceEqDiff, Nat.reduceLeDiff, Nat.reduceSub, Nat.reduceMul, Int.reduceSub, Int.reduceToNat, Int.reduceBEq, Int.reduceBNe, Int.reduceLT, Int.reduceGT, Int.reduceLE, Int.reduceGE, Int.reduceNeg, Int.reduceAdd, AH.PD, heads, distN, AH.inN, posN, packM, packB, packTm, liveB, AV.inB, AV.insB, AV.ren, AV.rens, Blk.ren, Blk.inB, vstep, tput, vw, shift, newOnes, rowsM, blkIn, rwB, @flat_lts, AV.lt, AV.lts, Nat.sub_self, AH.rtO_eq, AH.rtO2_eq, AH.rtO2_none, AH.etO_eq, AH.etO2_eq, AH.etO2_none, AH.useO_some, AH.rtElse_eq, AH.elseO_some, AH.elseO_none, AH.etN_eq, Option.bind_some, Option.bind_none, AH.pairO_some, AH.pairO_none, AH.cC_dec, AH.cC_nil, AH.c0_dec, AH.c0_dec1, AH.aI_dec, AH.aS_dec, AH.aB_dec, AH.aNil_dec, AH.aNil_ptr, Option.map_none, effS, wrS, newS, backNo, AH.isIn, AH.posOf, AH.rwB, List.all_cons, List.all_nil, List.getElem?_cons_zero, List.getElem?_cons_succ, List.getElem?_nil, AH.appE_some, List.contains_cons, List.contains_nil, Nat.add_zero, adSt, lgM, List.cons_append, List.nil_append]
    refine ⟨fun hlt => ?_, fun hlt => ?_⟩
    · have hiN := lt_of_dec hlt
      have hiB : i < B.length := by omega
      have wi := wrapS (i := i) (by omega)
      have hAi : A + i < d1.L.length := by omega
      have wA : IntKind.i64.wrap (a + (i : Int)) = ((A + i : Nat) : Int) := by rw [IntKind.wrap_i64]; omega
      have hgi : (B.map strC).getD i [] = strC B[i] := getD_enc hiB
      have hBi : B[i].size = 64 := hsz _ (List.getElem_mem hiB)
      have hkd := wrD_kinds (s := B[i]) hAi hBi
      have hok := wr_ok hd1 ((A + i : Nat) : Int) B[i]
      have hln := wr_len d1 ((A + i : Nat) : Int) B[i]
      rw [List.drop_eq_getElem_cons hiB, layD] at hy
      rcases hkd with hkd | hkd
      · rw [if_pos hkd] at hy
        have done := ih (i + 1, (wrD d1 ((A + i : Nat) : Int) B[i]).2) ⟨hiN, hok, by simp only; omega, hy⟩ (by simp only; omega)
        simp only [adSt, lgM, List.cons_append, List.nil_append] at done
        simp only [AH.SD, AH.wpOp, AOp.call?, AOp.next?, bstep, AOp.map, Opd.ev, tget, argTm, evs, AV.cells, St.eff, St.put, applyWr, mset, terase, pureE, unAV, intOp, binAV, fill, mget, AH.rowAt, AH.part, retQ, rvs, retV, AH.splice, AH.sliceElems, AH.bytesOf, AH.strOp, AH.bound, AH.addLog, AH.missQ, AH.minmaxAV, AH.wpOpD, AH.readOf, AH.effOf, AH.mapAt, AH.iterAt, Nat.reduceBEq, Nat.reduceAdd, Nat.reduceLT, ↓reduceIte, Nat.reduceEqDiff, Nat.reduceLeDiff, Nat.reduceSub, Nat.reduceMul, Int.reduceSub, Int.reduceToNat, Int.reduceBEq, Int.reduceBNe, Int.reduceLT, Int.reduceGT, Int.reduceLE, Int.reduceGE, Int.reduceNeg, Int.reduceAdd, AH.PD, heads, distN, AH.inN, posN, packM, packB, packTm, liveB, AV.inB, AV.insB, AV.ren, AV.rens, Blk.ren, Blk.inB, vstep, tput, vw, shift, newOnes, rowsM, blkIn, rwB, @flat_lts, AV.lt, AV.lts, Nat.sub_self, AH.rtO_eq, AH.rtO2_eq, AH.rtO2_none, AH.etO_eq, AH.etO2_eq, AH.etO2_none, AH.useO_some, AH.rtElse_eq, AH.elseO_some, AH.elseO_none, AH.etN_eq, Option.bind_some, Option.bind_none, AH.pairO_some, AH.pairO_none, AH.cC_dec, AH.cC_nil, AH.c0_dec, AH.c0_dec1, AH.aI_dec, AH.aS_dec, AH.aB_dec, AH.aNil_dec, AH.aNil_ptr, Option.map_none, effS, wrS, newS, backNo, AH.isIn, AH.posOf, AH.rwB, List.all_cons, List.all_nil, List.getElem?_cons_zero, List.getElem?_cons_succ, List.getElem?_nil, AH.appE_some, List.contains_cons, List.contains_nil, Nat.add_zero, lgR_eq, lgU_eq, Lg.eta, ne4, Bool.not_false, Bool.and_self, if_true, dkR_eq, dkB_eq, Dk.eta, ne_eq, Nat.reduceEqDiff, Nat.zero_ne_one, not_false_eq_true, hgi, strC_eq, wA, writeNT_p, writeT_p, hd1, dkM, hkd, errA0, errA_ren, wi, List.length_map, hlen, Int.toNat_natCast]
        repeat ((with_reducible refine And.intro ?_ ?_); focus (first | rfl | decide | omega | (simp only [List.length_map, and_true]; omega) | (simp only [List.length_map, List.length_set, and_true]; omega)))
        try simp only [AH.SD, AH.wpOp, AOp.call?, AOp.next?, bstep, AOp.map, Opd.ev, tget, argTm, evs, AV.cells, St.eff, St.put, applyWr, mset, terase, pureE, unAV, intOp, binAV, fill, mget, AH.rowAt, AH.part, retQ, rvs, retV, AH.splice, AH.sliceElems, AH.bytesOf, AH.strOp, AH.bound, AH.addLog, AH.missQ, AH.minmaxAV, AH.wpOpD, AH.readOf, AH.effOf, AH.mapAt, AH.iterAt, Nat.reduceBEq, Nat.reduceAdd, Nat.reduceLT, ↓reduceIte, Nat.reduceEqDiff, Nat.reduceLeDiff, Nat.reduceSub, Nat.reduceMul, Int.reduceSub, Int.reduceToNat, Int.reduceBEq, Int.reduceBNe, Int.reduceLT, Int.reduceGT, Int.reduceLE, Int.reduceGE, Int.reduceNeg, Int.reduceAdd, AH.PD, heads, distN, AH.inN, posN, packM, packB, packTm, liveB, AV.inB, AV.insB, AV.ren, AV.rens, Blk.ren, Blk.inB, vstep, tput, vw, shift, newOnes, rowsM, blkIn, rwB, @flat_lts, AV.lt, AV.lts, Nat.sub_self, AH.rtO_eq, AH.rtO2_eq, AH.rtO2_none, AH.etO_eq, AH.etO2_eq, AH.etO2_none, AH.useO_some, AH.rtElse_eq, AH.elseO_some, AH.elseO_none, AH.etN_eq, Option.bind_some, Option.bind_none, AH.pairO_some, AH.pairO_none, AH.cC_dec, AH.cC_nil, AH.c0_dec, AH.c0_dec1, AH.aI_dec, AH.aS_dec, AH.aB_dec, AH.aNil_dec, AH.aNil_ptr, Option.map_none, effS, wrS, newS, backNo, AH.isIn, AH.posOf, AH.rwB, List.all_cons, List.all_nil, List.getElem?_cons_zero, List.getElem?_cons_succ, List.getElem?_nil, AH.appE_some, List.contains_cons, List.contains_nil, Nat.add_zero, lgR_eq, lgU_eq, Lg.eta, ne4, Bool.not_false, Bool.and_self, if_true, dkR_eq, dkB_eq, Dk.eta, ne_eq, Nat.reduceEqDiff, Nat.zero_ne_one, not_false_eq_true, hgi, strC_eq, wA, writeNT_p, writeT_p, hd1, dkM, hkd, errA0, errA_ren, wi, List.length_map, hlen, Int.toNat_natCast]
        refine gc_auto [0, 1, 2, 3, 4] [49, 48, 47, 5, 1, 0] [] ?_
        simp only [AH.SD, AH.wpOp, AOp.call?, AOp.next?, bstep, AOp.map, Opd.ev, tget, argTm, evs, AV.cells, St.eff, St.put, applyWr, mset, terase, pureE, unAV, intOp, binAV, fill, mget, AH.rowAt, AH.part, retQ, rvs, retV, AH.splice, AH.sliceElems, AH.bytesOf, AH.strOp, AH.bound, AH.addLog, AH.missQ, AH.minmaxAV, AH.wpOpD, AH.readOf, AH.effOf, AH.mapAt, AH.iterAt, Nat.reduceBEq, Nat.reduceAdd, Nat.reduceLT, ↓reduceIte, Nat.reduceEqDiff, Nat.reduceLeDiff, Nat.reduceSub, Nat.reduceMul, Int.reduceSub, Int.reduceToNat, Int.reduceBEq, Int.reduceBNe, Int.reduceLT, Int.reduceGT, Int.reduceLE, Int.reduceGE, Int.reduceNeg, Int.reduceAdd, AH.PD, heads, distN, AH.inN, posN, packM, packB, packTm, liveB, AV.inB, AV.insB, AV.ren, AV.rens, Blk.ren, Blk.inB, vstep, tput]
        exact done
      · rw [hkd, if_neg (by decide)] at hy
        have e : addL ⟨d, f, t, b, a, R, false⟩ s = (14, ⟨(wrD d1 ((A + i : Nat) : Int) B[i]).2, f, t, b, a, R, true⟩) := by
          rw [e0, ← hy, if_neg (by rw [hkd]; decide), hkd]; rfl
        simp only [AH.SD, AH.wpOp, AOp.call?, AOp.next?, bstep, AOp.map, Opd.ev, tget, argTm, evs, AV.cells, St.eff, St.put, applyWr, mset, terase, pureE, unAV, intOp, binAV, fill, mget, AH.rowAt, AH.part, retQ, rvs, retV, AH.splice, AH.sliceElems, AH.bytesOf, AH.strOp, AH.bound, AH.addLog, AH.missQ, AH.minmaxAV, AH.wpOpD, AH.readOf, AH.effOf, AH.mapAt, AH.iterAt, Nat.reduceBEq, Nat.reduceAdd, Nat.reduceLT, ↓reduceIte, Nat.reduceEqDiff, Nat.reduceLeDiff, Nat.reduceSub, Nat.reduceMul, Int.reduceSub, Int.reduceToNat, Int.reduceBEq, Int.reduceBNe, Int.reduceLT, Int.reduceGT, Int.reduceLE, Int.reduceGE, Int.reduceNeg, Int.reduceAdd, AH.PD, heads, distN, AH.inN, posN, packM, packB, packTm, liveB, AV.inB, AV.insB, AV.ren, AV.rens, Blk.ren, Blk.inB, vstep, tput, vw, shift, newOnes, rowsM, blkIn, rwB, @flat_lts, AV.lt, AV.lts, Nat.sub_self, AH.rtO_eq, AH.rtO2_eq, AH.rtO2_none, AH.etO_eq, AH.etO2_eq, AH.etO2_none, AH.useO_some, AH.rtElse_eq, AH.elseO_some, AH.elseO_none, AH.etN_eq, Option.bind_some, Option.bind_none, AH.pairO_some, AH.pairO_none, AH.cC_dec, AH.cC_nil, AH.c0_dec, AH.c0_dec1, AH.aI_dec, AH.aS_dec, AH.aB_dec, AH.aNil_dec, AH.aNil_ptr, Option.map_none, effS, wrS, newS, backNo, AH.isIn, AH.posOf, AH.rwB, List.all_cons, List.all_nil, List.getElem?_cons_zero, List.getElem?_cons_succ, List.getElem?_nil, AH.appE_some, List.contains_cons, List.contains_nil, Nat.add_zero, lgR_eq, lgU_eq, Lg.eta, ne4, Bool.not_false, Bool.and_self, if_true, dkR_eq, dkB_eq, Dk.eta, ne_eq, Nat.reduceEqDiff, Nat.zero_ne_one, not_false_eq_true, hgi, strC_eq, wA, writeNT_p, writeT_p, hd1, dkM, hkd, errA14, errA_ren, wi, List.length_map, hlen, Int.toNat_natCast, lostT_p, lgM]
        repeat ((with_reducible refine And.intro ?_ ?_); focus (first | rfl | decide | omega | (simp only [List.length_map, and_true]; omega) | (simp only [List.length_map, List.length_set, and_true]; omega)))
        try simp only [AH.SD, AH.wpOp, AOp.call?, AOp.next?, bstep, AOp.map, Opd.ev, tget, argTm, evs, AV.cells, St.eff, St.put, applyWr, mset, terase, pureE, unAV, intOp, binAV, fill, mget, AH.rowAt, AH.part, retQ, rvs, retV, AH.splice, AH.sliceElems, AH.bytesOf, AH.strOp, AH.bound, AH.addLog, AH.missQ, AH.minmaxAV, AH.wpOpD, AH.readOf, AH.effOf, AH.mapAt, AH.iterAt, Nat.reduceBEq, Nat.reduceAdd, Nat.reduceLT, ↓reduceIte, Nat.reduceEqDiff, Nat.reduceLeDiff, Nat.reduceSub, Nat.reduceMul, Int.reduceSub, Int.reduceToNat, Int.reduceBEq, Int.reduceBNe, Int.reduceLT, Int.reduceGT, Int.reduceLE, Int.reduceGE, Int.reduceNeg, Int.reduceAdd, AH.PD, heads, distN, AH.inN, posN, packM, packB, packTm, liveB, AV.inB, AV.insB, AV.ren, AV.rens, Blk.ren, Blk.inB, vstep, tput, vw, shift, newOnes, rowsM, blkIn, rwB, @flat_lts, AV.lt, AV.lts, Nat.sub_self, AH.rtO_eq, AH.rtO2_eq, AH.rtO2_none, AH.etO_eq, AH.etO2_eq, AH.etO2_none, AH.useO_some, AH.rtElse_eq, AH.elseO_some, AH.elseO_none, AH.etN_eq, Option.bind_some, Option.bind_none, AH.pairO_some, AH.pairO_none, AH.cC_dec, AH.cC_nil, AH.c0_dec, AH.c0_dec1, AH.aI_dec, AH.aS_dec, AH.aB_dec, AH.aNil_dec, AH.aNil_ptr, Option.map_none, effS, wrS, newS, backNo, AH.isIn, AH.posOf, AH.rwB, List.all_cons, List.all_nil, List.getElem?_cons_zero, List.getElem?_cons_succ, List.getElem?_nil, AH.appE_some, List.contains_cons, List.contains_nil, Nat.add_zero, lgR_eq, lgU_eq, Lg.eta, ne4, Bool.not_false, Bool.and_self, if_true, dkR_eq, dkB_eq, Dk.eta, ne_eq, Nat.reduceEqDiff, Nat.zero_ne_one, not_false_eq_true, hgi, strC_eq, wA, writeNT_p, writeT_p, hd1, dkM, hkd, errA14, errA_ren, wi, List.length_map, hlen, Int.toNat_natCast, lostT_p, lgM]
        refine ⟨[0, 1, 2, 3], [], ?_⟩
        simp only [AH.SD, AH.wpOp, AOp.call?, AOp.next?, bstep, AOp.map, Opd.ev, tget, argTm, evs, AV.cells, St.eff, St.put, applyWr, mset, terase, pureE, unAV, intOp, binAV, fill, mget, AH.rowAt, AH.part, retQ, rvs, retV, AH.splice, AH.sliceElems, AH.bytesOf, AH.strOp, AH.bound, AH.addLog, AH.missQ, AH.minmaxAV, AH.wpOpD, AH.readOf, AH.effOf, AH.mapAt, AH.iterAt, Nat.reduceBEq, Nat.reduceAdd, Nat.reduceLT, ↓reduceIte, Nat.reduceEqDiff, Nat.reduceLeDiff, Nat.reduceSub, Nat.reduceMul, Int.reduceSub, Int.reduceToNat, Int.reduceBEq, Int.reduceBNe, Int.reduceLT, Int.reduceGT, Int.reduceLE, Int.reduceGE, Int.reduceNeg, Int.reduceAdd, AH.PD, heads, distN, AH.inN, posN, packM, packB, packTm, liveB, AV.inB, AV.insB, AV.ren, AV.rens, Blk.ren, Blk.inB, vstep, tput, e, adM, errA14, lgM, show ¬ ((14 : Nat) = 0) by decide, if_false]
        try simp
    · have : i = N := by
        have := ge_of_dec hlt
        omega
      subst this
      rw [List.drop_eq_nil_of_le (by omega), layD] at hy
      have e : addL ⟨d, f, t, b, a, R, false⟩ s = (0, ⟨d1, f, t, b, a + i, R ++ [s], false⟩) := by rw [e0, ← hy, if_pos rfl]
      have wA : IntKind.i64.wrap (a + (i : Int)) = a + (i : Int) := by rw [IntKind.wrap_i64]; omega
      have hRl : R.length ≤ 4096 := by omega
      simp only [AH.SD, AH.wpOp, AOp.call?, AOp.next?, bstep, AOp.map, Opd.ev, tget, argTm, evs, AV.cells, St.eff, St.put, applyWr, mset, terase, pureE, unAV, intOp, binAV, fill, mget, AH.rowAt, AH.part, retQ, rvs, retV, AH.splice, AH.sliceElems, AH.bytesOf, AH.strOp, AH.bound, AH.addLog, AH.missQ, AH.minmaxAV, AH.wpOpD, AH.readOf, AH.effOf, AH.mapAt, AH.iterAt, Nat.reduceBEq, Nat.reduceAdd, Nat.reduceLT, ↓reduceIte, Nat.reduceEqDiff, Nat.reduceLeDiff, Nat.reduceSub, Nat.reduceMul, Int.reduceSub, Int.reduceToNat, Int.reduceBEq, Int.reduceBNe, Int.reduceLT, Int.reduceGT, Int.reduceLE, Int.reduceGE, Int.reduceNeg, Int.reduceAdd, AH.PD, heads, distN, AH.inN, posN, packM, packB, packTm, liveB, AV.inB, AV.insB, AV.ren, AV.rens, Blk.ren, Blk.inB, vstep, tput, vw, shift, newOnes, rowsM, blkIn, rwB, @flat_lts, AV.lt, AV.lts, Nat.sub_self, AH.rtO_eq, AH.rtO2_eq, AH.rtO2_none, AH.etO_eq, AH.etO2_eq, AH.etO2_none, AH.useO_some, AH.rtElse_eq, AH.elseO_some, AH.elseO_none, AH.etN_eq, Option.bind_some, Option.bind_none, AH.pairO_some, AH.pairO_none, AH.cC_dec, AH.cC_nil, AH.c0_dec, AH.c0_dec1, AH.aI_dec, AH.aS_dec, AH.aB_dec, AH.aNil_dec, AH.aNil_ptr, Option.map_none, effS, wrS, newS, backNo, AH.isIn, AH.posOf, AH.rwB, List.all_cons, List.all_nil, List.getElem?_cons_zero, List.getElem?_cons_succ, List.getElem?_nil, AH.appE_some, List.contains_cons, List.contains_nil, Nat.add_zero, wA, List.length_map, Int.toNat_natCast, List.drop_zero, take_all, List.length_append, List.length_cons, List.length_nil, Nat.zero_add]
      repeat ((with_reducible refine And.intro ?_ ?_); focus (first | rfl | decide | omega | (simp only [List.length_map, and_true]; omega) | (simp only [List.length_map, List.length_set, and_true]; omega)))
      try simp only [AH.SD, AH.wpOp, AOp.call?, AOp.next?, bstep, AOp.map, Opd.ev, tget, argTm, evs, AV.cells, St.eff, St.put, applyWr, mset, terase, pureE, unAV, intOp, binAV, fill, mget, AH.rowAt, AH.part, retQ, rvs, retV, AH.splice, AH.sliceElems, AH.bytesOf, AH.strOp, AH.bound, AH.addLog, AH.missQ, AH.minmaxAV, AH.wpOpD, AH.readOf, AH.effOf, AH.mapAt, AH.iterAt, Nat.reduceBEq, Nat.reduceAdd, Nat.reduceLT, ↓reduceIte, Nat.reduceEqDiff, Nat.reduceLeDiff, Nat.reduceSub, Nat.reduceMul, Int.reduceSub, Int.reduceToNat, Int.reduceBEq, Int.reduceBNe, Int.reduceLT, Int.reduceGT, Int.reduceLE, Int.reduceGE, Int.reduceNeg, Int.reduceAdd, AH.PD, heads, distN, AH.inN, posN, packM, packB, packTm, liveB, AV.inB, AV.insB, AV.ren, AV.rens, Blk.ren, Blk.inB, vstep, tput, vw, shift, newOnes, rowsM, blkIn, rwB, @flat_lts, AV.lt, AV.lts, Nat.sub_self, AH.rtO_eq, AH.rtO2_eq, AH.rtO2_none, AH.etO_eq, AH.etO2_eq, AH.etO2_none, AH.useO_some, AH.rtElse_eq, AH.elseO_some, AH.elseO_none, AH.etN_eq, Option.bind_some, Option.bind_none, AH.pairO_some, AH.pairO_none, AH.cC_dec, AH.cC_nil, AH.c0_dec, AH.c0_dec1, AH.aI_dec, AH.aS_dec, AH.aB_dec, AH.aNil_dec, AH.aNil_ptr, Option.map_none, effS, wrS, newS, backNo, AH.isIn, AH.posOf, AH.rwB, List.all_cons, List.all_nil, List.getElem?_cons_zero, List.getElem?_cons_succ, List.getElem?_nil, AH.appE_some, List.contains_cons, List.contains_nil, Nat.add_zero, wA, List.length_map, Int.toNat_natCast, List.drop_zero, take_all, List.length_append, List.length_cons, List.length_nil, Nat.zero_add]
      refine ⟨[0, 1, 2, 3, 6], [], ?_⟩
      simp only [AH.SD, AH.wpOp, AOp.call?, AOp.next?, bstep, AOp.map, Opd.ev, tget, argTm, evs, AV.cells, St.eff, St.put, applyWr, mset, terase, pureE, unAV, intOp, binAV, fill, mget, AH.rowAt, AH.part, retQ, rvs, retV, AH.splice, AH.sliceElems, AH.bytesOf, AH.strOp, AH.bound, AH.addLog, AH.missQ, AH.minmaxAV, AH.wpOpD, AH.readOf, AH.effOf, AH.mapAt, AH.iterAt, Nat.reduceBEq, Nat.reduceAdd, Nat.reduceLT, ↓reduceIte, Nat.reduceEqDiff, Nat.reduceLeDiff, Nat.reduceSub, Nat.reduceMul, Int.reduceSub, Int.reduceToNat, Int.reduceBEq, Int.reduceBNe, Int.reduceLT, Int.reduceGT, Int.reduceLE, Int.reduceGE, Int.reduceNeg, Int.reduceAdd, AH.PD, heads, distN, AH.inN, posN, packM, packB, packTm, liveB, AV.inB, AV.insB, AV.ren, AV.rens, Blk.ren, Blk.inB, vstep, tput, e, adM, errA0, lgM2, List.map_append, List.map_cons, List.map_nil, strC_eq, List.length_append, List.length_cons, List.length_nil, Nat.zero_add, List.all_append, List.all_cons, List.all_nil]
      try simp
theorem adM_len (l : Lg) (s : ByteArray) : 4 ≤ (adM l s).length ∧ ((adM l s).drop 4).all rwB = true := by
  unfold adM
  split
  · exact ⟨by simp [lgM2], rfl⟩
  · exact ⟨by simp [lgM], rfl⟩
def adT : ET := etO lgO (cC aS c0) fun l x => if l.ok ∧ okSz x.1 then some (errA (addL l x.1).1, adM l x.1) else none
theorem adT_ok : EffF S0 11 adT := etO_ok fun l x v m' h => by
  split at h
  · rename_i hl
    simp only [Option.some.injEq, Prod.mk.injEq] at h
    obtain ⟨rfl, rfl⟩ := h
    exact ⟨adM_len l x.1, add_ok l hl.1 x.1 hl.2⟩
  · cases h
theorem adT_p {p n : Nat} {s : ByteArray} {M : Nat → Option Blk} : adT [.ptr p 0 0, .str s] M n = etO2 n (fun (l : Lg) (x : ByteArray × Unit) => if l.ok ∧ okSz x.1 then some (errA (addL l x.1).1, adM l x.1) else none) (lgR M p (M p)) (some (s, ())) := by
  simp only [adT, etO_eq, cC_dec, aS_dec, c0_dec, pairO_some, lgO_dec]
theorem add_nil (s : ByteArray) : Pure S0 11 [.nilp, .str s] (errA 2) := by
  refine fun_sound okAd Tryd.func11 c11 ?_
  unfold wpF F11
  simp only [AH.SD, AH.wpOp, AOp.call?, AOp.next?, bstep, AOp.map, Opd.ev, tget, argTm, evs, AV.cells, St.eff, St.put, applyWr, mset, terase, pureE, unAV, intOp, binAV, fill, mget, AH.rowAt, AH.part, retQ, rvs, retV, AH.splice, AH.sliceElems, AH.bytesOf, AH.strOp, AH.bound, AH.addLog, AH.missQ, AH.minmaxAV, AH.wpOpD, AH.readOf, AH.effOf, AH.mapAt, AH.iterAt, Nat.reduceBEq, Nat.reduceAdd, Nat.reduceLT, ↓reduceIte, Nat.reduceEqDiff, Nat.reduceLeDiff, Nat.reduceSub, Nat.reduceMul, Int.reduceSub, Int.reduceToNat, Int.reduceBEq, Int.reduceBNe, Int.reduceLT, Int.reduceGT, Int.reduceLE, Int.reduceGE, Int.reduceNeg, Int.reduceAdd, errA2]
def adN : RT := rtP (cC aNil (cC aS c0)) fun _ => errA 2
theorem adN_ok : ReadF S0 11 adN := rtP_ok (fun x => add_nil x.2.1) fun _ => rfl
theorem adN_n {s : ByteArray} {M : Nat → Option Blk} : adN [.nilp, .str s] M = some (errA 2, []) := by
  simp only [adN, rtP, cC_dec, aNil_dec, aS_dec, c0_dec, pairO_some, Option.map_some]
theorem adN_p {p : Nat} {s : ByteArray} {M : Nat → Option Blk} : adN [.ptr p 0 0, .str s] M = none := by
  simp only [adN, rtP, cC_dec, aNil_ptr, pairO_none, Option.map_none]
end Go.Proofs.YthapdikdeoeplaaDoor.H6
end

section
open Go AH
namespace Go.Proofs.YthapdikdeoeplaaDoor.H6

end Go.Proofs.YthapdikdeoeplaaDoor.H6
end

section
open Go AH
set_option linter.unusedSimpArgs false
set_option maxRecDepth 100000
namespace Go.Proofs.YthapdikdeoeplaaDoor.H6

/-- Functions of one slice that make blocks. -/
def nf1 {α : Type} (k : Nat) (c : Cod α) (f : List α → AV) (h : List α → Mem) : NF := fun args rows => match args, rows with
  | [.slc i1 j1 n1 q1], [(w1, es1)] => match c.decL es1 with
    | some l1 => bif i1 == 0 && (j1 == 0 && (q1.isNone && (w1 == k && (n1 == l1.length && decide (n1 ≤ 1048576))))) then some (f l1, h l1) else none
    | none => none
  | _, _ => none

theorem nf1_ok {α : Type} {g : FuncId} {k : Nat} {c : Cod α} {f : List α → AV} {h : List α → Mem} (he : S0.errs ≠ [])
    (H : ∀ l, l.length ≤ 1048576 → (f l).inB (fun j => decide (1 ≤ j)) = true ∧ (h l).all (blkIn fun j => decide (1 ≤ j)) = true ∧ (h l).all rwB = true ∧
      CallA1 S0 g [.slc 0 0 l.length none] [some (.row true k (l.map c.enc))] fun r m' => r = f l ∧ m' = [some (.row true k (l.map c.enc))] ++ h l) :
    CallF S0 g (utN [k] (nf1 k c f h)) := by
  refine utN_ok he fun args rows v news e => ?_
  unfold nf1 at e
  split at e
  · rename_i i1 j1 n1 q1 w1 es1
    split at e
    · rename_i l1 h1
      cases hc : i1 == 0 && (j1 == 0 && (q1.isNone && (w1 == k && (n1 == l1.length && decide (n1 ≤ 1048576))))) with
      | false => rw [hc] at e; cases e
      | true =>
        rw [hc] at e
        simp only [cond_true, Option.some.injEq, Prod.mk.injEq] at e
        obtain ⟨rfl, rfl⟩ := e
        simp only [Bool.and_eq_true, beq_iff_eq, decide_eq_true_eq] at hc
        obtain ⟨rfl, rfl, hp1, rfl, rfl, hb1⟩ := hc
        have : q1 = none := by simpa using hp1
        subst this
        rw [c.decL_ok h1]
        exact H l1 hb1
    · cases e
  · cases e

theorem nf1_eq {α : Type} {k : Nat} {c : Cod α} {f : List α → AV} {h : List α → Mem} {id ix n : Nat} {p : Option Nat} {m : Mem} {es : List (List AV)} {l : List α}
    (hM : rowE (mget m) id = some (k, es)) (hs : (es.drop ix).take n = l.map c.enc) (hle : ix + n ≤ es.length) (hb : n ≤ 1048576) :
    utN [k] (nf1 k c f h) [.slc id ix n p] m = some ((f l).ren (shift m.length 1), m ++ newOnes (shift m.length 1) (h l)) := by
  obtain ⟨ro, hM⟩ := rowE_some hM
  have hn : n = l.length := by
    have := congrArg List.length hs
    rw [List.length_take, List.length_drop, List.length_map] at this
    omega
  have hv : vw (mget m) [k] [.slc id ix n p] 0 = some ([.slc 0 0 n none], [(k, l.map c.enc)], [id]) := by
    simp only [vw, hM, beq_self_eq_true, hle, decide_true, hs, c.all_flat, Bool.and_self, cond_true, Option.map_some]
  simp only [utN, hv, useN, nf1, c.decL_map]
  subst hn
  simp [hb]

end Go.Proofs.YthapdikdeoeplaaDoor.H6
end

section
open Go AH
set_option linter.unusedSimpArgs false
set_option maxRecDepth 100000
namespace Go.Proofs.YthapdikdeoeplaaDoor.H6
/- Open. -/
theorem rdA_ren (x : Rd) (h : x.bad = -1) (ρ : Nat → Nat) : (rdA x).ren ρ = .tup [.str x.t, .int .i64 x.q, .int .i64 x.n, .nili] := by
  rw [rdA, h]; rfl
def rdNew (x : Rd) : Mem := bif x.bad == -1 then [] else wrM x.bad
/-- frame.Read of a part of a row. -/
def frdU : UT := utN [1] (nf1 1 cStr (fun l => rdA (rdZ l)) fun l => rdNew (rdZ l))
theorem frdU_ok : CallF S0 56 frdU := nf1_ok errs0 fun l hl => by
  refine ⟨?_, ?_, ?_, ?_⟩
  · unfold rdA; cases (rdZ l).bad == -1 <;> rfl
  · unfold rdNew; cases (rdZ l).bad == -1 <;> rfl
  · unfold rdNew; cases (rdZ l).bad == -1 <;> rfl
  · exact read_ok l hl
theorem frdU_good {id ix n : Nat} {p : Option Nat} {m : Mem} {es : List (List AV)} {l : List ByteArray} (hM : rowE (mget m) id = some (1, es)) (hs : (es.drop ix).take n = l.map strC) (hle : ix + n ≤ es.length) (hb : n ≤ 1048576) (hg : (rdZ l).bad = -1) :
    frdU [.slc id ix n p] m = some (.tup [.str (rdZ l).t, .int .i64 (rdZ l).q, .int .i64 (rdZ l).n, .nili], m) := by
  rw [frdU, nf1_eq (c := cStr) hM hs hle hb, rdA_ren _ hg, rdNew, hg]
  simp [newOnes]
theorem frdU_bad {id ix n : Nat} {p : Option Nat} {m : Mem} {es : List (List AV)} {l : List ByteArray} (hM : rowE (mget m) id = some (1, es)) (hs : (es.drop ix).take n = l.map strC) (hle : ix + n ≤ es.length) (hb : n ≤ 1048576) (hg : (rdZ l).bad ≠ -1) :
    frdU [.slc id ix n p] m = some (.tup [.str (rdZ l).t, .int .i64 (rdZ l).q, .int .i64 (rdZ l).n, .ifc 121 (.ptr m.length 0 0)], m ++ wrM (rdZ l).bad) := by
  have h : ((rdZ l).bad == -1) = false := by simpa using hg
  rw [frdU, nf1_eq (c := cStr) hM hs hle hb, rdA, rdNew, h]
  simp [newOnes, wrM, shift, AV.ren, AV.rens, Blk.ren]
theorem rowE3 {a b c : Option Blk} {ro : Bool} {k : Nat} {es : List (List AV)} {r : Mem} : rowE (mget (a :: b :: c :: some (.row ro k es) :: r)) 3 = some (k, es) := by cases r <;> rfl
/-- A log that is being opened. -/
def opM (d : Dk) (f t b a : Int) (rc : AV) : Mem := [some (.row false 5 [[.slc 1 0 d.L.length none, .bool d.away, .int .i64 d.fuse, .int .i64 d.torn, .int .i64 d.writes]]), some (.row false 1 (d.L.map strC)),
  some (.row false 7 [[.ptr 0 0 0, .int .i64 f, .int .i64 t, .int .i64 b, .int .i64 a, rc, .bool false]])]
def bloSt (d : Dk) (F T : Nat) (b : Int) (i : Nat) : St := ⟨[(5, .int .i64 i), (4, .slc 3 0 (i - F) none), (0, .ptr 2 0 0)], opM d F T b F .nils ++ [some (.row false 1 (((d.L.drop F).take (i - F)).map strC))]⟩
noncomputable abbrev tBl : List (FuncId × RT) := [(55, drdT)]
theorem okBlo : CtxOK S0 (ctxU S0 tBl []) := ctxU_ok ⟨drdT_ok, trivial⟩ trivial mixed
theorem part_snoc {L : List ByteArray} {F i : Nat} (h1 : F ≤ i) (h2 : i < L.length) : (L.drop F).take (i + 1 - F) = (L.drop F).take (i - F) ++ [L[i]] := by
  have h3 : i - F < (L.drop F).length := by rw [List.length_drop]; omega
  have h4 : (L.drop F)[i - F] = L[i] := by rw [List.getElem_drop]; congr 1; omega
  rw [show i + 1 - F = (i - F) + 1 by omega, List.take_succ_eq_append_getElem h3, h4]
theorem blocks_on (d : Dk) (hd : d.ok) (ha : d.away = false) (F T : Nat) (b : Int) (h1 : F < T) (h2 : T ≤ d.L.length) : CallA1 S0 36 [.ptr 2 0 0] (opM d F T b F .nils)
    fun r m => r = .tup [.slc 3 0 (T - F) none, .nili] ∧ m = opM d F T b F .nils ++ [some (.row false 1 (((d.L.drop F).take (T - F)).map strC))] := by
  have hL := hd.2.2.2
  refine CallA1.fin ?_
  refine fun_sound okBlo Tryd.func36 c36 ?_
  unfold wpF F36
  simp only [AH.SD, AH.wpOp, AOp.call?, AOp.next?, bstep, AOp.map, Opd.ev, tget, argTm, evs, AV.cells, St.eff, St.put, applyWr, mset, terase, pureE, unAV, intOp, binAV, fill, mget, AH.rowAt, AH.part, retQ, rvs, retV, AH.splice, AH.sliceElems, AH.bytesOf, AH.strOp, AH.bound, AH.addLog, AH.missQ, AH.minmaxAV, AH.wpOpD, AH.readOf, AH.effOf, AH.mapAt, AH.iterAt, Nat.reduceBEq, Nat.reduceAdd, Nat.reduceLT, ↓reduceIte, Nat.reduceEqDiff, Nat.reduceLeDiff, Nat.reduceSub, Nat.reduceMul, Int.reduceSub, Int.reduceToNat, Int.reduceBEq, Int.reduceBNe, Int.reduceLT, Int.reduceGT, Int.reduceLE, Int.reduceGE, Int.reduceNeg, Int.reduceAdd, AH.PD, heads, distN, AH.inN, posN, packM, packB, packTm, liveB, AV.inB, AV.insB, AV.ren, AV.rens, Blk.ren, Blk.inB, vstep, tput, vw, shift, newOnes, rowsM, blkIn, rwB, @flat_lts, AV.lt, AV.lts, Nat.sub_self, AH.rtO_eq, AH.rtO2_eq, AH.rtO2_none, AH.etO_eq, AH.etO2_eq, AH.etO2_none, AH.useO_some, AH.rtElse_eq, AH.elseO_some, AH.elseO_none, AH.etN_eq, Option.bind_some, Option.bind_none, AH.pairO_some, AH.pairO_none, AH.cC_dec, AH.cC_nil, AH.c0_dec, AH.c0_dec1, AH.aI_dec, AH.aS_dec, AH.aB_dec, AH.aNil_dec, AH.aNil_ptr, Option.map_none, effS, wrS, newS, backNo, AH.isIn, AH.posOf, AH.rwB, List.all_cons, List.all_nil, List.getElem?_cons_zero, List.getElem?_cons_succ, List.getElem?_nil, AH.appE_some, List.contains_cons, List.contains_nil, Nat.add_zero, opM]
  refine loop_do [0, 1, 2] [5, 4, 0] [.tm 4 1] (α := Nat) (fun i => T - i) (bloSt d F T b) (fun i => F ≤ i ∧ i ≤ T) F ⟨Nat.le_refl _, by omega⟩ (by simp only [AH.SD, AH.wpOp, AOp.call?, AOp.next?, bstep, AOp.map, Opd.ev, tget, argTm, evs, AV.cells, St.eff, St.put, applyWr, mset, terase, pureE, unAV, intOp, binAV, fill, mget, AH.rowAt, AH.part, retQ, rvs, retV, AH.splice, AH.sliceElems, AH.bytesOf, AH.strOp, AH.bound, AH.addLog, AH.missQ, AH.minmaxAV, AH.wpOpD, AH.readOf, AH.effOf, AH.mapAt, AH.iterAt, Nat.reduceBEq, Nat.reduceAdd, Nat.reduceLT, ↓reduceIte, Nat.reduceEqDiff, Nat.reduceLeDiff, Nat.reduceSub, Nat.reduceMul, Int.reduceSub, Int.reduceToNat, Int.reduceBEq, Int.reduceBNe, Int.reduceLT, Int.reduceGT, Int.reduceLE, Int.reduceGE, Int.reduceNeg, Int.reduceAdd, AH.PD, heads, distN, AH.inN, posN, packM, packB, packTm, liveB, AV.inB, AV.insB, AV.ren, AV.rens, Blk.ren, Blk.inB, vstep, tput, bloSt, opM, Nat.sub_self, List.take_zero, List.map_nil, List.cons_append, List.nil_append]) ?_
  intro X i ⟨hi1, hi2⟩ ih
  simp only [AH.SD, AH.wpOp, AOp.call?, AOp.next?, bstep, AOp.map, Opd.ev, tget, argTm, evs, AV.cells, St.eff, St.put, applyWr, mset, terase, pureE, unAV, intOp, binAV, fill, mget, AH.rowAt, AH.part, retQ, rvs, retV, AH.splice, AH.sliceElems, AH.bytesOf, AH.strOp, AH.bound, AH.addLog, AH.missQ, AH.minmaxAV, AH.wpOpD, AH.readOf, AH.effOf, AH.mapAt, AH.iterAt, Nat.reduceBEq, Nat.reduceAdd, Nat.reduceLT, ↓reduceIte, Nat.reduceEqDiff, Nat.reduceLeDiff, Nat.reduceSub, Nat.reduceMul, Int.reduceSub, Int.reduceToNat, Int.reduceBEq, Int.reduceBNe, Int.reduceLT, Int.reduceGT, Int.reduceLE, Int.reduceGE, Int.reduceNeg, Int.reduceAdd, AH.PD, heads, distN, AH.inN, posN, packM, packB, packTm, liveB, AV.inB, AV.insB, AV.ren, AV.rens, Blk.ren, Blk.inB, vstep, tput, vw, shift, newOnes, rowsM, blkIn, rwB, @flat_lts, AV.lt, AV.lts, Nat.sub_self, AH.rtO_eq, AH.rtO2_eq, AH.rtO2_none, AH.etO_eq, AH.etO2_eq, AH.etO2_none, AH.useO_some, AH.rtElse_eq, AH.elseO_some, AH.elseO_none, AH.etN_eq, Option.bind_some, Option.bind_none, AH.pairO_some, AH.pairO_none, AH.cC_dec, AH.cC_nil, AH.c0_dec, AH.c0_dec1, AH.aI_dec, AH.aS_dec, AH.aB_dec, AH.aNil_dec, AH.aNil_ptr, Option.map_none, effS, wrS, newS, backNo, AH.isIn, AH.posOf, AH.rwB, List.all_cons, List.all_nil, List.getElem?_cons_zero, List.getElem?_cons_succ, List.getElem?_nil, AH.appE_some, List.contains_cons, List.contains_nil, Nat.add_zero, bloSt, opM, List.cons_append, List.nil_append]
  refine ⟨fun hlt => ?_, fun hlt => ?_⟩
  · have hiT := lt_of_dec hlt
    have wi := wrapS (i := i) (by omega)
    have hiL : i < d.L.length := by omega
    have hck := chk_at hiL
    rw [ha] at hck
    simp only [Bool.false_eq_true, if_false] at hck
    have hg : d.L.getD i ⟨#[]⟩ = d.L[i] := by rw [List.getD_eq_getElem?_getD, List.getElem?_eq_getElem hiL]; rfl
    have hrd : rdS d i = d.L[i] := by rw [rdS, hck, Int.toNat_natCast, hg]; rfl
    have done := ih (i + 1) ⟨by omega, hiT⟩ (by omega)
    have hln : ((d.L.drop F).take (i - F)).length = i - F := by rw [List.length_take, List.length_drop]; omega
    have hln2 : i - F ≤ ((d.L.drop F).take (i - F)).length := by omega
    have htk : (((d.L.drop F).take (i - F)).map strC).take (i - F) = ((d.L.drop F).take (i - F)).map strC := List.take_of_length_le (by rw [List.length_map]; omega)
    have hps := part_snoc hi1 hiL
    have e1 : i + 1 - F = i - F + 1 := by omega
    rw [e1] at hps
    simp only [bloSt, opM, e1, hps, List.map_append, List.map_cons, List.map_nil, List.length_append, List.length_cons, List.length_nil, Nat.zero_add, List.map_append, strC_eq, List.cons_append, List.nil_append] at done
    simp only [AH.SD, AH.wpOp, AOp.call?, AOp.next?, bstep, AOp.map, Opd.ev, tget, argTm, evs, AV.cells, St.eff, St.put, applyWr, mset, terase, pureE, unAV, intOp, binAV, fill, mget, AH.rowAt, AH.part, retQ, rvs, retV, AH.splice, AH.sliceElems, AH.bytesOf, AH.strOp, AH.bound, AH.addLog, AH.missQ, AH.minmaxAV, AH.wpOpD, AH.readOf, AH.effOf, AH.mapAt, AH.iterAt, Nat.reduceBEq, Nat.reduceAdd, Nat.reduceLT, ↓reduceIte, Nat.reduceEqDiff, Nat.reduceLeDiff, Nat.reduceSub, Nat.reduceMul, Int.reduceSub, Int.reduceToNat, Int.reduceBEq, Int.reduceBNe, Int.reduceLT, Int.reduceGT, Int.reduceLE, Int.reduceGE, Int.reduceNeg, Int.reduceAdd, AH.PD, heads, distN, AH.inN, posN, packM, packB, packTm, liveB, AV.inB, AV.insB, AV.ren, AV.rens, Blk.ren, Blk.inB, vstep, tput, vw, shift, newOnes, rowsM, blkIn, rwB, @flat_lts, AV.lt, AV.lts, Nat.sub_self, AH.rtO_eq, AH.rtO2_eq, AH.rtO2_none, AH.etO_eq, AH.etO2_eq, AH.etO2_none, AH.useO_some, AH.rtElse_eq, AH.elseO_some, AH.elseO_none, AH.etN_eq, Option.bind_some, Option.bind_none, AH.pairO_some, AH.pairO_none, AH.cC_dec, AH.cC_nil, AH.c0_dec, AH.c0_dec1, AH.aI_dec, AH.aS_dec, AH.aB_dec, AH.aNil_dec, AH.aNil_ptr, Option.map_none, effS, wrS, newS, backNo, AH.isIn, AH.posOf, AH.rwB, List.all_cons, List.all_nil, List.getElem?_cons_zero, List.getElem?_cons_succ, List.getElem?_nil, AH.appE_some, List.contains_cons, List.contains_nil, Nat.add_zero, lgR_eq, lgU_eq, Lg.eta, ne4, Bool.not_false, Bool.and_self, if_true, dkR_eq, dkB_eq, Dk.eta, ne_eq, Nat.reduceEqDiff, Nat.zero_ne_one, not_false_eq_true, drdT_p, drdA, hck, hrd, errA_nil, errA0, wi, List.length_map, hln, htk, List.drop_zero]
    repeat ((with_reducible refine And.intro ?_ ?_); focus (first | rfl | decide | omega | (simp only [List.length_map, and_true]; omega) | (simp only [List.length_map, List.length_set, and_true]; omega)))
    try simp only [AH.SD, AH.wpOp, AOp.call?, AOp.next?, bstep, AOp.map, Opd.ev, tget, argTm, evs, AV.cells, St.eff, St.put, applyWr, mset, terase, pureE, unAV, intOp, binAV, fill, mget, AH.rowAt, AH.part, retQ, rvs, retV, AH.splice, AH.sliceElems, AH.bytesOf, AH.strOp, AH.bound, AH.addLog, AH.missQ, AH.minmaxAV, AH.wpOpD, AH.readOf, AH.effOf, AH.mapAt, AH.iterAt, Nat.reduceBEq, Nat.reduceAdd, Nat.reduceLT, ↓reduceIte, Nat.reduceEqDiff, Nat.reduceLeDiff, Nat.reduceSub, Nat.reduceMul, Int.reduceSub, Int.reduceToNat, Int.reduceBEq, Int.reduceBNe, Int.reduceLT, Int.reduceGT, Int.reduceLE, Int.reduceGE, Int.reduceNeg, Int.reduceAdd, AH.PD, heads, distN, AH.inN, posN, packM, packB, packTm, liveB, AV.inB, AV.insB, AV.ren, AV.rens, Blk.ren, Blk.inB, vstep, tput, vw, shift, newOnes, rowsM, blkIn, rwB, @flat_lts, AV.lt, AV.lts, Nat.sub_self, AH.rtO_eq, AH.rtO2_eq, AH.rtO2_none, AH.etO_eq, AH.etO2_eq, AH.etO2_none, AH.useO_some, AH.rtElse_eq, AH.elseO_some, AH.elseO_none, AH.etN_eq, Option.bind_some, Option.bind_none, AH.pairO_some, AH.pairO_none, AH.cC_dec, AH.cC_nil, AH.c0_dec, AH.c0_dec1, AH.aI_dec, AH.aS_dec, AH.aB_dec, AH.aNil_dec, AH.aNil_ptr, Option.map_none, effS, wrS, newS, backNo, AH.isIn, AH.posOf, AH.rwB, List.all_cons, List.all_nil, List.getElem?_cons_zero, List.getElem?_cons_succ, List.getElem?_nil, AH.appE_some, List.contains_cons, List.contains_nil, Nat.add_zero, lgR_eq, lgU_eq, Lg.eta, ne4, Bool.not_false, Bool.and_self, if_true, dkR_eq, dkB_eq, Dk.eta, ne_eq, Nat.reduceEqDiff, Nat.zero_ne_one, not_false_eq_true, drdT_p, drdA, hck, hrd, errA_nil, errA0, wi, List.length_map, hln, htk, List.drop_zero]
    refine gc_auto [0, 1, 2, 5] [5, 4, 0] [] ?_
    simp only [AH.SD, AH.wpOp, AOp.call?, AOp.next?, bstep, AOp.map, Opd.ev, tget, argTm, evs, AV.cells, St.eff, St.put, applyWr, mset, terase, pureE, unAV, intOp, binAV, fill, mget, AH.rowAt, AH.part, retQ, rvs, retV, AH.splice, AH.sliceElems, AH.bytesOf, AH.strOp, AH.bound, AH.addLog, AH.missQ, AH.minmaxAV, AH.wpOpD, AH.readOf, AH.effOf, AH.mapAt, AH.iterAt, Nat.reduceBEq, Nat.reduceAdd, Nat.reduceLT, ↓reduceIte, Nat.reduceEqDiff, Nat.reduceLeDiff, Nat.reduceSub, Nat.reduceMul, Int.reduceSub, Int.reduceToNat, Int.reduceBEq, Int.reduceBNe, Int.reduceLT, Int.reduceGT, Int.reduceLE, Int.reduceGE, Int.reduceNeg, Int.reduceAdd, AH.PD, heads, distN, AH.inN, posN, packM, packB, packTm, liveB, AV.inB, AV.insB, AV.ren, AV.rens, Blk.ren, Blk.inB, vstep, tput, List.length_append, List.length_map, hln, List.length_cons, List.length_nil, Nat.zero_add]
    exact done
  · have : i = T := by
      have := ge_of_dec hlt
      omega
    subst this
    simp only [AH.SD, AH.wpOp, AOp.call?, AOp.next?, bstep, AOp.map, Opd.ev, tget, argTm, evs, AV.cells, St.eff, St.put, applyWr, mset, terase, pureE, unAV, intOp, binAV, fill, mget, AH.rowAt, AH.part, retQ, rvs, retV, AH.splice, AH.sliceElems, AH.bytesOf, AH.strOp, AH.bound, AH.addLog, AH.missQ, AH.minmaxAV, AH.wpOpD, AH.readOf, AH.effOf, AH.mapAt, AH.iterAt, Nat.reduceBEq, Nat.reduceAdd, Nat.reduceLT, ↓reduceIte, Nat.reduceEqDiff, Nat.reduceLeDiff, Nat.reduceSub, Nat.reduceMul, Int.reduceSub, Int.reduceToNat, Int.reduceBEq, Int.reduceBNe, Int.reduceLT, Int.reduceGT, Int.reduceLE, Int.reduceGE, Int.reduceNeg, Int.reduceAdd, AH.PD, heads, distN, AH.inN, posN, packM, packB, packTm, liveB, AV.inB, AV.insB, AV.ren, AV.rens, Blk.ren, Blk.inB, vstep, tput, vw, shift, newOnes, rowsM, blkIn, rwB, @flat_lts, AV.lt, AV.lts, Nat.sub_self, AH.rtO_eq, AH.rtO2_eq, AH.rtO2_none, AH.etO_eq, AH.etO2_eq, AH.etO2_none, AH.useO_some, AH.rtElse_eq, AH.elseO_some, AH.elseO_none, AH.etN_eq, Option.bind_some, Option.bind_none, AH.pairO_some, AH.pairO_none, AH.cC_dec, AH.cC_nil, AH.c0_dec, AH.c0_dec1, AH.aI_dec, AH.aS_dec, AH.aB_dec, AH.aNil_dec, AH.aNil_ptr, Option.map_none, effS, wrS, newS, backNo, AH.isIn, AH.posOf, AH.rwB, List.all_cons, List.all_nil, List.getElem?_cons_zero, List.getElem?_cons_succ, List.getElem?_nil, AH.appE_some, List.contains_cons, List.contains_nil, Nat.add_zero]
    refine ⟨[0, 1, 2, 3], [], ?_⟩
    simp only [AH.SD, AH.wpOp, AOp.call?, AOp.next?, bstep, AOp.map, Opd.ev, tget, argTm, evs, AV.cells, St.eff, St.put, applyWr, mset, terase, pureE, unAV, intOp, binAV, fill, mget, AH.rowAt, AH.part, retQ, rvs, retV, AH.splice, AH.sliceElems, AH.bytesOf, AH.strOp, AH.bound, AH.addLog, AH.missQ, AH.minmaxAV, AH.wpOpD, AH.readOf, AH.effOf, AH.mapAt, AH.iterAt, Nat.reduceBEq, Nat.reduceAdd, Nat.reduceLT, ↓reduceIte, Nat.reduceEqDiff, Nat.reduceLeDiff, Nat.reduceSub, Nat.reduceMul, Int.reduceSub, Int.reduceToNat, Int.reduceBEq, Int.reduceBNe, Int.reduceLT, Int.reduceGT, Int.reduceLE, Int.reduceGE, Int.reduceNeg, Int.reduceAdd, AH.PD, heads, distN, AH.inN, posN, packM, packB, packTm, liveB, AV.inB, AV.insB, AV.ren, AV.rens, Blk.ren, Blk.inB, vstep, tput]
    try simp
theorem blocks_off (d : Dk) (hd : d.ok) (ha : d.away = true) (F T : Nat) (b : Int) (h1 : F < T) (h2 : T ≤ d.L.length) : CallA1 S0 36 [.ptr 2 0 0] (opM d F T b F .nils)
    fun r m => r = .tup [.nils, errA 14] ∧ m = opM d F T b F .nils := by
  have hL := hd.2.2.2
  have hlt : decide ((F : Int) < (T : Int)) = true := decide_eq_true (by omega)
  have hck := chk_at (d := d) (i := F) (by omega)
  rw [ha] at hck
  simp only [if_true] at hck
  refine CallA1.fin ?_
  refine fun_sound okBlo Tryd.func36 c36 ?_
  unfold wpF F36
  simp only [AH.SD, AH.wpOp, AOp.call?, AOp.next?, bstep, AOp.map, Opd.ev, tget, argTm, evs, AV.cells, St.eff, St.put, applyWr, mset, terase, pureE, unAV, intOp, binAV, fill, mget, AH.rowAt, AH.part, retQ, rvs, retV, AH.splice, AH.sliceElems, AH.bytesOf, AH.strOp, AH.bound, AH.addLog, AH.missQ, AH.minmaxAV, AH.wpOpD, AH.readOf, AH.effOf, AH.mapAt, AH.iterAt, Nat.reduceBEq, Nat.reduceAdd, Nat.reduceLT, ↓reduceIte, Nat.reduceEqDiff, Nat.reduceLeDiff, Nat.reduceSub, Nat.reduceMul, Int.reduceSub, Int.reduceToNat, Int.reduceBEq, Int.reduceBNe, Int.reduceLT, Int.reduceGT, Int.reduceLE, Int.reduceGE, Int.reduceNeg, Int.reduceAdd, AH.PD, heads, distN, AH.inN, posN, packM, packB, packTm, liveB, AV.inB, AV.insB, AV.ren, AV.rens, Blk.ren, Blk.inB, vstep, tput, vw, shift, newOnes, rowsM, blkIn, rwB, @flat_lts, AV.lt, AV.lts, Nat.sub_self, AH.rtO_eq, AH.rtO2_eq, AH.rtO2_none, AH.etO_eq, AH.etO2_eq, AH.etO2_none, AH.useO_some, AH.rtElse_eq, AH.elseO_some, AH.elseO_none, AH.etN_eq, Option.bind_some, Option.bind_none, AH.pairO_some, AH.pairO_none, AH.cC_dec, AH.cC_nil, AH.c0_dec, AH.c0_dec1, AH.aI_dec, AH.aS_dec, AH.aB_dec, AH.aNil_dec, AH.aNil_ptr, Option.map_none, effS, wrS, newS, backNo, AH.isIn, AH.posOf, AH.rwB, List.all_cons, List.all_nil, List.getElem?_cons_zero, List.getElem?_cons_succ, List.getElem?_nil, AH.appE_some, List.contains_cons, List.contains_nil, Nat.add_zero, opM]
  refine loop_unroll ctxU_monoB ?_
  simp only [AH.SD, AH.wpOp, AOp.call?, AOp.next?, bstep, AOp.map, Opd.ev, tget, argTm, evs, AV.cells, St.eff, St.put, applyWr, mset, terase, pureE, unAV, intOp, binAV, fill, mget, AH.rowAt, AH.part, retQ, rvs, retV, AH.splice, AH.sliceElems, AH.bytesOf, AH.strOp, AH.bound, AH.addLog, AH.missQ, AH.minmaxAV, AH.wpOpD, AH.readOf, AH.effOf, AH.mapAt, AH.iterAt, Nat.reduceBEq, Nat.reduceAdd, Nat.reduceLT, ↓reduceIte, Nat.reduceEqDiff, Nat.reduceLeDiff, Nat.reduceSub, Nat.reduceMul, Int.reduceSub, Int.reduceToNat, Int.reduceBEq, Int.reduceBNe, Int.reduceLT, Int.reduceGT, Int.reduceLE, Int.reduceGE, Int.reduceNeg, Int.reduceAdd, AH.PD, heads, distN, AH.inN, posN, packM, packB, packTm, liveB, AV.inB, AV.insB, AV.ren, AV.rens, Blk.ren, Blk.inB, vstep, tput, vw, shift, newOnes, rowsM, blkIn, rwB, @flat_lts, AV.lt, AV.lts, Nat.sub_self, AH.rtO_eq, AH.rtO2_eq, AH.rtO2_none, AH.etO_eq, AH.etO2_eq, AH.etO2_none, AH.useO_some, AH.rtElse_eq, AH.elseO_some, AH.elseO_none, AH.etN_eq, Option.bind_some, Option.bind_none, AH.pairO_some, AH.pairO_none, AH.cC_dec, AH.cC_nil, AH.c0_dec, AH.c0_dec1, AH.aI_dec, AH.aS_dec, AH.aB_dec, AH.aNil_dec, AH.aNil_ptr, Option.map_none, effS, wrS, newS, backNo, AH.isIn, AH.posOf, AH.rwB, List.all_cons, List.all_nil, List.getElem?_cons_zero, List.getElem?_cons_succ, List.getElem?_nil, AH.appE_some, List.contains_cons, List.contains_nil, Nat.add_zero, lgR_eq, lgU_eq, Lg.eta, ne4, Bool.not_false, Bool.and_self, if_true, dkR_eq, dkB_eq, Dk.eta, ne_eq, Nat.reduceEqDiff, Nat.zero_ne_one, not_false_eq_true, hlt, drdT_p, drdA, hck, errA_nil, errA14]
  refine ⟨[0, 1, 2], [], ?_⟩
  simp only [AH.SD, AH.wpOp, AOp.call?, AOp.next?, bstep, AOp.map, Opd.ev, tget, argTm, evs, AV.cells, St.eff, St.put, applyWr, mset, terase, pureE, unAV, intOp, binAV, fill, mget, AH.rowAt, AH.part, retQ, rvs, retV, AH.splice, AH.sliceElems, AH.bytesOf, AH.strOp, AH.bound, AH.addLog, AH.missQ, AH.minmaxAV, AH.wpOpD, AH.readOf, AH.effOf, AH.mapAt, AH.iterAt, Nat.reduceBEq, Nat.reduceAdd, Nat.reduceLT, ↓reduceIte, Nat.reduceEqDiff, Nat.reduceLeDiff, Nat.reduceSub, Nat.reduceMul, Int.reduceSub, Int.reduceToNat, Int.reduceBEq, Int.reduceBNe, Int.reduceLT, Int.reduceGT, Int.reduceLE, Int.reduceGE, Int.reduceNeg, Int.reduceAdd, AH.PD, heads, distN, AH.inN, posN, packM, packB, packTm, liveB, AV.inB, AV.insB, AV.ren, AV.rens, Blk.ren, Blk.inB, vstep, tput]
  try simp

theorem rdZ_nil : (rdZ []).bad ≠ -1 := by decide
def rdlSt (d : Dk) (F T : Nat) (b : Int) (L : List ByteArray) (x : Nat × List ByteArray × Nat) : St := ⟨[(1, .slc 3 x.1 (L.length - x.1) none), (0, .ptr 2 0 0)], opM d F T b ((F + x.1 : Nat) : Int) (.slc 4 0 x.2.1.length none) ++ [some (.row false 1 (L.map strC)), some (.row false 1 (x.2.1.map strC))]⟩
theorem okRdl : CtxOK S0 (ctxU S0 [(23, nextT)] [(56, frdU)]) := ctxU_ok ⟨nextT_ok, trivial⟩ ⟨frdU_ok, trivial⟩ mixed
set_option maxHeartbeats 8000000 in
theorem lread_ok (d : Dk) (hd : d.ok) (F T : Nat) (b : Int) (hb : isBase b) (L : List ByteArray) (hFT : F + L.length = T) (hT : T ≤ d.L.length) : CallA1 S0 37 [.ptr 2 0 0, .slc 3 0 L.length none] (opM d F T b F .nils ++ [some (.row false 1 (L.map strC))])
    fun r m => r = .tup [] ∧ m = opM d F T b ((F + (logR L.length L (b + 1)).2 : Nat) : Int) (.slc 4 0 (logR L.length L (b + 1)).1.length none) ++ [some (.row false 1 (L.map strC)), some (.row false 1 ((logR L.length L (b + 1)).1.map strC))] := by
  have hL := hd.2.2.2
  refine CallA1.fin ?_
  refine fun_sound okRdl Tryd.func37 c37 ?_
  unfold wpF F37
  simp only [AH.SD, AH.wpOp, AOp.call?, AOp.next?, bstep, AOp.map, Opd.ev, tget, argTm, evs, AV.cells, St.eff, St.put, applyWr, mset, terase, pureE, unAV, intOp, binAV, fill, mget, AH.rowAt, AH.part, retQ, rvs, retV, AH.splice, AH.sliceElems, AH.bytesOf, AH.strOp, AH.bound, AH.addLog, AH.missQ, AH.minmaxAV, AH.wpOpD, AH.readOf, AH.effOf, AH.mapAt, AH.iterAt, Nat.reduceBEq, Nat.reduceAdd, Nat.reduceLT, ↓reduceIte, Nat.reduceEqDiff, Nat.reduceLeDiff, Nat.reduceSub, Nat.reduceMul, Int.reduceSub, Int.reduceToNat, Int.reduceBEq, Int.reduceBNe, Int.reduceLT, Int.reduceGT, Int.reduceLE, Int.reduceGE, Int.reduceNeg, Int.reduceAdd, AH.PD, heads, distN, AH.inN, posN, packM, packB, packTm, liveB, AV.inB, AV.insB, AV.ren, AV.rens, Blk.ren, Blk.inB, vstep, tput, vw, shift, newOnes, rowsM, blkIn, rwB, @flat_lts, AV.lt, AV.lts, Nat.sub_self, AH.rtO_eq, AH.rtO2_eq, AH.rtO2_none, AH.etO_eq, AH.etO2_eq, AH.etO2_none, AH.useO_some, AH.rtElse_eq, AH.elseO_some, AH.elseO_none, AH.etN_eq, Option.bind_some, Option.bind_none, AH.pairO_some, AH.pairO_none, AH.cC_dec, AH.cC_nil, AH.c0_dec, AH.c0_dec1, AH.aI_dec, AH.aS_dec, AH.aB_dec, AH.aNil_dec, AH.aNil_ptr, Option.map_none, effS, wrS, newS, backNo, AH.isIn, AH.posOf, AH.rwB, List.all_cons, List.all_nil, List.getElem?_cons_zero, List.getElem?_cons_succ, List.getElem?_nil, AH.appE_some, List.contains_cons, List.contains_nil, Nat.add_zero, opM, List.cons_append, List.nil_append]
  refine loop_do [0, 1, 2, 3] [1, 0] [.cell 2 0 5 1] (α := Nat × List ByteArray × Nat) (fun x => L.length - x.1) (rdlSt d F T b L)
    (fun x => x.1 ≤ L.length ∧ x.2.1.length ≤ x.1 ∧ L.length - x.1 ≤ x.2.2 ∧ (logR L.length L (b + 1)) = (x.2.1 ++ (logR x.2.2 (L.drop x.1) (b + (x.2.1.length : Int) + 1)).1, x.1 + (logR x.2.2 (L.drop x.1) (b + (x.2.1.length : Int) + 1)).2)) (0, [], L.length)
    ⟨Nat.zero_le _, Nat.le_refl _, by simp, by simp⟩ (by simp only [AH.SD, AH.wpOp, AOp.call?, AOp.next?, bstep, AOp.map, Opd.ev, tget, argTm, evs, AV.cells, St.eff, St.put, applyWr, mset, terase, pureE, unAV, intOp, binAV, fill, mget, AH.rowAt, AH.part, retQ, rvs, retV, AH.splice, AH.sliceElems, AH.bytesOf, AH.strOp, AH.bound, AH.addLog, AH.missQ, AH.minmaxAV, AH.wpOpD, AH.readOf, AH.effOf, AH.mapAt, AH.iterAt, Nat.reduceBEq, Nat.reduceAdd, Nat.reduceLT, ↓reduceIte, Nat.reduceEqDiff, Nat.reduceLeDiff, Nat.reduceSub, Nat.reduceMul, Int.reduceSub, Int.reduceToNat, Int.reduceBEq, Int.reduceBNe, Int.reduceLT, Int.reduceGT, Int.reduceLE, Int.reduceGE, Int.reduceNeg, Int.reduceAdd, AH.PD, heads, distN, AH.inN, posN, packM, packB, packTm, liveB, AV.inB, AV.insB, AV.ren, AV.rens, Blk.ren, Blk.inB, vstep, tput, rdlSt, opM, Nat.sub_zero, Nat.add_zero, List.map_nil, List.length_nil, List.cons_append, List.nil_append]) ?_
  rintro X ⟨i, R, k⟩ ⟨hi, hRi, hk, hx⟩ ih
  simp only at hi hRi hk hx
  have hdl : (L.drop i).length = L.length - i := List.length_drop
  have hstop : ((rdZ (L.drop i)).bad ≠ -1 ∨ (rdZ (L.drop i)).q ≠ b + (R.length : Int) + 1) → logR L.length L (b + 1) = (R, i) := fun h => by
    rw [hx]
    cases k with
    | zero => simp [logR]
    | succ k =>
      unfold logR
      rw [if_neg (fun q => h.elim (fun z => z q.1) (fun z => z q.2))]
      simp
  simp only [AH.SD, AH.wpOp, AOp.call?, AOp.next?, bstep, AOp.map, Opd.ev, tget, argTm, evs, AV.cells, St.eff, St.put, applyWr, mset, terase, pureE, unAV, intOp, binAV, fill, mget, AH.rowAt, AH.part, retQ, rvs, retV, AH.splice, AH.sliceElems, AH.bytesOf, AH.strOp, AH.bound, AH.addLog, AH.missQ, AH.minmaxAV, AH.wpOpD, AH.readOf, AH.effOf, AH.mapAt, AH.iterAt, Nat.reduceBEq, Nat.reduceAdd, Nat.reduceLT, ↓reduceIte, Nat.reduceEqDiff, Nat.reduceLeDiff, Nat.reduceSub, Nat.reduceMul, Int.reduceSub, Int.reduceToNat, Int.reduceBEq, Int.reduceBNe, Int.reduceLT, Int.reduceGT, Int.reduceLE, Int.reduceGE, Int.reduceNeg, Int.reduceAdd, AH.PD, heads, distN, AH.inN, posN, packM, packB, packTm, liveB, AV.inB, AV.insB, AV.ren, AV.rens, Blk.ren, Blk.inB, vstep, tput, vw, shift, newOnes, rowsM, blkIn, rwB, @flat_lts, AV.lt, AV.lts, Nat.sub_self, AH.rtO_eq, AH.rtO2_eq, AH.rtO2_none, AH.etO_eq, AH.etO2_eq, AH.etO2_none, AH.useO_some, AH.rtElse_eq, AH.elseO_some, AH.elseO_none, AH.etN_eq, Option.bind_some, Option.bind_none, AH.pairO_some, AH.pairO_none, AH.cC_dec, AH.cC_nil, AH.c0_dec, AH.c0_dec1, AH.aI_dec, AH.aS_dec, AH.aB_dec, AH.aNil_dec, AH.aNil_ptr, Option.map_none, effS, wrS, newS, backNo, AH.isIn, AH.posOf, AH.rwB, List.all_cons, List.all_nil, List.getElem?_cons_zero, List.getElem?_cons_succ, List.getElem?_nil, AH.appE_some, List.contains_cons, List.contains_nil, Nat.add_zero, rdlSt, opM, List.cons_append, List.nil_append]
  refine ⟨fun hgt => ?_, fun hgt => ?_⟩
  · have hin : i < L.length := by simp only [decide_eq_true_eq] at hgt; omega
    have hs : ((L.map strC).drop i).take (L.length - i) = (L.drop i).map strC := by
      rw [← List.map_drop]; exact List.take_of_length_le (by simp)
    have hle : i + (L.length - i) ≤ (L.map strC).length := by rw [List.length_map]; omega
    have hbd : L.length - i ≤ 1048576 := by omega
    have fG := fun (m : Mem) (hM : rowE (mget m) 3 = some (1, L.map strC)) (hg : (rdZ (L.drop i)).bad = -1) => frdU_good (p := none) hM hs hle hbd hg
    have fB := fun (m : Mem) (hM : rowE (mget m) 3 = some (1, L.map strC)) (hg : (rdZ (L.drop i)).bad ≠ -1) => frdU_bad (p := none) hM hs hle hbd hg
    by_cases hg : (rdZ (L.drop i)).bad = -1
    · obtain ⟨g1, g2, g3, g4, g5⟩ := rdZ_good hg
      rw [hdl] at g2
      obtain ⟨n, hn⟩ := Int.eq_ofNat_of_zero_le (show 0 ≤ (rdZ (L.drop i)).n by omega)
      have hn2 : (rdZ (L.drop i)).n.toNat = n := by omega
      have hok : (⟨d, F, T, b, ((F + i : Nat) : Int), R, false⟩ : Lg).ok := ⟨hd, hb, by simp only; omega, by simp only; omega, by simp only; omega, by simp only; omega, by simp only; omega⟩
      have hnx : (⟨d, F, T, b, ((F + i : Nat) : Int), R, false⟩ : Lg).next = b + (R.length : Int) + 1 := rfl
      cases hq : ((rdZ (L.drop i)).q != b + (R.length : Int) + 1)
      · have hq' : (rdZ (L.drop i)).q = b + (R.length : Int) + 1 := by simpa using hq
        obtain ⟨k', hk'⟩ : ∃ k', k = k' + 1 := ⟨k - 1, by omega⟩
        have e1 : IntKind.i64.wrap (((F + i : Nat) : Int) + (n : Int)) = ((F + (i + n) : Nat) : Int) := by rw [IntKind.wrap_i64]; omega
        have done := ih (i + n, R ++ [(rdZ (L.drop i)).t], k') ⟨by simp only; omega, by simp only [List.length_append, List.length_cons, List.length_nil]; omega, by simp only; omega, by
          rw [hx, hk']
          conv => lhs; unfold logR
          rw [if_pos ⟨hg, hq'⟩, hn2, List.drop_drop]
          simp only [List.length_append, List.length_cons, List.length_nil, List.append_assoc, List.singleton_append, Nat.zero_add]
          rw [show b + ((R.length + 1 : Nat) : Int) + 1 = b + (R.length : Int) + 1 + 1 by omega, Nat.add_assoc]⟩ (by simp only; omega)
        simp only [rdlSt, opM, List.cons_append, List.nil_append, List.map_append, List.map_cons, List.map_nil, List.length_append, List.length_cons, List.length_nil, Nat.zero_add, strC_eq, show L.length - (i + n) = L.length - i - n by omega] at done
        simp only [AH.SD, AH.wpOp, AOp.call?, AOp.next?, bstep, AOp.map, Opd.ev, tget, argTm, evs, AV.cells, St.eff, St.put, applyWr, mset, terase, pureE, unAV, intOp, binAV, fill, mget, AH.rowAt, AH.part, retQ, rvs, retV, AH.splice, AH.sliceElems, AH.bytesOf, AH.strOp, AH.bound, AH.addLog, AH.missQ, AH.minmaxAV, AH.wpOpD, AH.readOf, AH.effOf, AH.mapAt, AH.iterAt, Nat.reduceBEq, Nat.reduceAdd, Nat.reduceLT, ↓reduceIte, Nat.reduceEqDiff, Nat.reduceLeDiff, Nat.reduceSub, Nat.reduceMul, Int.reduceSub, Int.reduceToNat, Int.reduceBEq, Int.reduceBNe, Int.reduceLT, Int.reduceGT, Int.reduceLE, Int.reduceGE, Int.reduceNeg, Int.reduceAdd, AH.PD, heads, distN, AH.inN, posN, packM, packB, packTm, liveB, AV.inB, AV.insB, AV.ren, AV.rens, Blk.ren, Blk.inB, vstep, tput, vw, shift, newOnes, rowsM, blkIn, rwB, @flat_lts, AV.lt, AV.lts, Nat.sub_self, AH.rtO_eq, AH.rtO2_eq, AH.rtO2_none, AH.etO_eq, AH.etO2_eq, AH.etO2_none, AH.useO_some, AH.rtElse_eq, AH.elseO_some, AH.elseO_none, AH.etN_eq, Option.bind_some, Option.bind_none, AH.pairO_some, AH.pairO_none, AH.cC_dec, AH.cC_nil, AH.c0_dec, AH.c0_dec1, AH.aI_dec, AH.aS_dec, AH.aB_dec, AH.aNil_dec, AH.aNil_ptr, Option.map_none, effS, wrS, newS, backNo, AH.isIn, AH.posOf, AH.rwB, List.all_cons, List.all_nil, List.getElem?_cons_zero, List.getElem?_cons_succ, List.getElem?_nil, AH.appE_some, List.contains_cons, List.contains_nil, Nat.add_zero, fG _ rowE3 hg, nextT_p, lgR_eq, lgU_eq, Lg.eta, ne4, Bool.not_false, Bool.and_self, if_true, dkR_eq, dkB_eq, Dk.eta, ne_eq, Nat.reduceEqDiff, Nat.zero_ne_one, not_false_eq_true, hok, hnx, hq, hn, e1, Int.toNat_natCast, List.length_map, List.drop_zero, take_all, List.length_append, List.length_cons, List.length_nil, Nat.zero_add]
        refine ⟨⟨by omega, by omega⟩, ⟨by omega, by omega, by omega⟩, ?_⟩
        refine gc_auto [0, 1, 2, 3, 6] [1, 0] [] ?_
        simp only [AH.SD, AH.wpOp, AOp.call?, AOp.next?, bstep, AOp.map, Opd.ev, tget, argTm, evs, AV.cells, St.eff, St.put, applyWr, mset, terase, pureE, unAV, intOp, binAV, fill, mget, AH.rowAt, AH.part, retQ, rvs, retV, AH.splice, AH.sliceElems, AH.bytesOf, AH.strOp, AH.bound, AH.addLog, AH.missQ, AH.minmaxAV, AH.wpOpD, AH.readOf, AH.effOf, AH.mapAt, AH.iterAt, Nat.reduceBEq, Nat.reduceAdd, Nat.reduceLT, ↓reduceIte, Nat.reduceEqDiff, Nat.reduceLeDiff, Nat.reduceSub, Nat.reduceMul, Int.reduceSub, Int.reduceToNat, Int.reduceBEq, Int.reduceBNe, Int.reduceLT, Int.reduceGT, Int.reduceLE, Int.reduceGE, Int.reduceNeg, Int.reduceAdd, AH.PD, heads, distN, AH.inN, posN, packM, packB, packTm, liveB, AV.inB, AV.insB, AV.ren, AV.rens, Blk.ren, Blk.inB, vstep, tput, List.length_append, List.length_map, List.length_cons, List.length_nil, Nat.zero_add]
        exact done
      · have e := hstop (.inr (by simpa using hq))
        simp only [AH.SD, AH.wpOp, AOp.call?, AOp.next?, bstep, AOp.map, Opd.ev, tget, argTm, evs, AV.cells, St.eff, St.put, applyWr, mset, terase, pureE, unAV, intOp, binAV, fill, mget, AH.rowAt, AH.part, retQ, rvs, retV, AH.splice, AH.sliceElems, AH.bytesOf, AH.strOp, AH.bound, AH.addLog, AH.missQ, AH.minmaxAV, AH.wpOpD, AH.readOf, AH.effOf, AH.mapAt, AH.iterAt, Nat.reduceBEq, Nat.reduceAdd, Nat.reduceLT, ↓reduceIte, Nat.reduceEqDiff, Nat.reduceLeDiff, Nat.reduceSub, Nat.reduceMul, Int.reduceSub, Int.reduceToNat, Int.reduceBEq, Int.reduceBNe, Int.reduceLT, Int.reduceGT, Int.reduceLE, Int.reduceGE, Int.reduceNeg, Int.reduceAdd, AH.PD, heads, distN, AH.inN, posN, packM, packB, packTm, liveB, AV.inB, AV.insB, AV.ren, AV.rens, Blk.ren, Blk.inB, vstep, tput, vw, shift, newOnes, rowsM, blkIn, rwB, @flat_lts, AV.lt, AV.lts, Nat.sub_self, AH.rtO_eq, AH.rtO2_eq, AH.rtO2_none, AH.etO_eq, AH.etO2_eq, AH.etO2_none, AH.useO_some, AH.rtElse_eq, AH.elseO_some, AH.elseO_none, AH.etN_eq, Option.bind_some, Option.bind_none, AH.pairO_some, AH.pairO_none, AH.cC_dec, AH.cC_nil, AH.c0_dec, AH.c0_dec1, AH.aI_dec, AH.aS_dec, AH.aB_dec, AH.aNil_dec, AH.aNil_ptr, Option.map_none, effS, wrS, newS, backNo, AH.isIn, AH.posOf, AH.rwB, List.all_cons, List.all_nil, List.getElem?_cons_zero, List.getElem?_cons_succ, List.getElem?_nil, AH.appE_some, List.contains_cons, List.contains_nil, Nat.add_zero, fG _ rowE3 hg, nextT_p, lgR_eq, lgU_eq, Lg.eta, ne4, Bool.not_false, Bool.and_self, if_true, dkR_eq, dkB_eq, Dk.eta, ne_eq, Nat.reduceEqDiff, Nat.zero_ne_one, not_false_eq_true, hok, hnx, hq, hn, Int.toNat_natCast, List.length_map, List.drop_zero]
        refine ⟨[0, 1, 2, 3, 4], [], ?_⟩
        simp only [AH.SD, AH.wpOp, AOp.call?, AOp.next?, bstep, AOp.map, Opd.ev, tget, argTm, evs, AV.cells, St.eff, St.put, applyWr, mset, terase, pureE, unAV, intOp, binAV, fill, mget, AH.rowAt, AH.part, retQ, rvs, retV, AH.splice, AH.sliceElems, AH.bytesOf, AH.strOp, AH.bound, AH.addLog, AH.missQ, AH.minmaxAV, AH.wpOpD, AH.readOf, AH.effOf, AH.mapAt, AH.iterAt, Nat.reduceBEq, Nat.reduceAdd, Nat.reduceLT, ↓reduceIte, Nat.reduceEqDiff, Nat.reduceLeDiff, Nat.reduceSub, Nat.reduceMul, Int.reduceSub, Int.reduceToNat, Int.reduceBEq, Int.reduceBNe, Int.reduceLT, Int.reduceGT, Int.reduceLE, Int.reduceGE, Int.reduceNeg, Int.reduceAdd, AH.PD, heads, distN, AH.inN, posN, packM, packB, packTm, liveB, AV.inB, AV.insB, AV.ren, AV.rens, Blk.ren, Blk.inB, vstep, tput, e]
        try simp
    · have e := hstop (.inl hg)
      simp only [AH.SD, AH.wpOp, AOp.call?, AOp.next?, bstep, AOp.map, Opd.ev, tget, argTm, evs, AV.cells, St.eff, St.put, applyWr, mset, terase, pureE, unAV, intOp, binAV, fill, mget, AH.rowAt, AH.part, retQ, rvs, retV, AH.splice, AH.sliceElems, AH.bytesOf, AH.strOp, AH.bound, AH.addLog, AH.missQ, AH.minmaxAV, AH.wpOpD, AH.readOf, AH.effOf, AH.mapAt, AH.iterAt, Nat.reduceBEq, Nat.reduceAdd, Nat.reduceLT, ↓reduceIte, Nat.reduceEqDiff, Nat.reduceLeDiff, Nat.reduceSub, Nat.reduceMul, Int.reduceSub, Int.reduceToNat, Int.reduceBEq, Int.reduceBNe, Int.reduceLT, Int.reduceGT, Int.reduceLE, Int.reduceGE, Int.reduceNeg, Int.reduceAdd, AH.PD, heads, distN, AH.inN, posN, packM, packB, packTm, liveB, AV.inB, AV.insB, AV.ren, AV.rens, Blk.ren, Blk.inB, vstep, tput, vw, shift, newOnes, rowsM, blkIn, rwB, @flat_lts, AV.lt, AV.lts, Nat.sub_self, AH.rtO_eq, AH.rtO2_eq, AH.rtO2_none, AH.etO_eq, AH.etO2_eq, AH.etO2_none, AH.useO_some, AH.rtElse_eq, AH.elseO_some, AH.elseO_none, AH.etN_eq, Option.bind_some, Option.bind_none, AH.pairO_some, AH.pairO_none, AH.cC_dec, AH.cC_nil, AH.c0_dec, AH.c0_dec1, AH.aI_dec, AH.aS_dec, AH.aB_dec, AH.aNil_dec, AH.aNil_ptr, Option.map_none, effS, wrS, newS, backNo, AH.isIn, AH.posOf, AH.rwB, List.all_cons, List.all_nil, List.getElem?_cons_zero, List.getElem?_cons_succ, List.getElem?_nil, AH.appE_some, List.contains_cons, List.contains_nil, Nat.add_zero, fB _ rowE3 hg, wrM, List.cons_append, List.nil_append, List.length_cons, List.length_nil]
      refine ⟨[0, 1, 2, 3, 4], [], ?_⟩
      simp only [AH.SD, AH.wpOp, AOp.call?, AOp.next?, bstep, AOp.map, Opd.ev, tget, argTm, evs, AV.cells, St.eff, St.put, applyWr, mset, terase, pureE, unAV, intOp, binAV, fill, mget, AH.rowAt, AH.part, retQ, rvs, retV, AH.splice, AH.sliceElems, AH.bytesOf, AH.strOp, AH.bound, AH.addLog, AH.missQ, AH.minmaxAV, AH.wpOpD, AH.readOf, AH.effOf, AH.mapAt, AH.iterAt, Nat.reduceBEq, Nat.reduceAdd, Nat.reduceLT, ↓reduceIte, Nat.reduceEqDiff, Nat.reduceLeDiff, Nat.reduceSub, Nat.reduceMul, Int.reduceSub, Int.reduceToNat, Int.reduceBEq, Int.reduceBNe, Int.reduceLT, Int.reduceGT, Int.reduceLE, Int.reduceGE, Int.reduceNeg, Int.reduceAdd, AH.PD, heads, distN, AH.inN, posN, packM, packB, packTm, liveB, AV.inB, AV.insB, AV.ren, AV.rens, Blk.ren, Blk.inB, vstep, tput, e]
      try simp
  · have : i = L.length := by simp only [decide_eq_false_iff_not] at hgt; omega
    subst this
    have e := hstop (.inl (by rw [List.drop_length]; exact rdZ_nil))
    simp only [AH.SD, AH.wpOp, AOp.call?, AOp.next?, bstep, AOp.map, Opd.ev, tget, argTm, evs, AV.cells, St.eff, St.put, applyWr, mset, terase, pureE, unAV, intOp, binAV, fill, mget, AH.rowAt, AH.part, retQ, rvs, retV, AH.splice, AH.sliceElems, AH.bytesOf, AH.strOp, AH.bound, AH.addLog, AH.missQ, AH.minmaxAV, AH.wpOpD, AH.readOf, AH.effOf, AH.mapAt, AH.iterAt, Nat.reduceBEq, Nat.reduceAdd, Nat.reduceLT, ↓reduceIte, Nat.reduceEqDiff, Nat.reduceLeDiff, Nat.reduceSub, Nat.reduceMul, Int.reduceSub, Int.reduceToNat, Int.reduceBEq, Int.reduceBNe, Int.reduceLT, Int.reduceGT, Int.reduceLE, Int.reduceGE, Int.reduceNeg, Int.reduceAdd, AH.PD, heads, distN, AH.inN, posN, packM, packB, packTm, liveB, AV.inB, AV.insB, AV.ren, AV.rens, Blk.ren, Blk.inB, vstep, tput, vw, shift, newOnes, rowsM, blkIn, rwB, @flat_lts, AV.lt, AV.lts, Nat.sub_self, AH.rtO_eq, AH.rtO2_eq, AH.rtO2_none, AH.etO_eq, AH.etO2_eq, AH.etO2_none, AH.useO_some, AH.rtElse_eq, AH.elseO_some, AH.elseO_none, AH.etN_eq, Option.bind_some, Option.bind_none, AH.pairO_some, AH.pairO_none, AH.cC_dec, AH.cC_nil, AH.c0_dec, AH.c0_dec1, AH.aI_dec, AH.aS_dec, AH.aB_dec, AH.aNil_dec, AH.aNil_ptr, Option.map_none, effS, wrS, newS, backNo, AH.isIn, AH.posOf, AH.rwB, List.all_cons, List.all_nil, List.getElem?_cons_zero, List.getElem?_cons_succ, List.getElem?_nil, AH.appE_some, List.contains_cons, List.contains_nil, Nat.add_zero]
    refine ⟨[0, 1, 2, 3, 4], [], ?_⟩
    simp only [AH.SD, AH.wpOp, AOp.call?, AOp.next?, bstep, AOp.map, Opd.ev, tget, argTm, evs, AV.cells, St.eff, St.put, applyWr, mset, terase, pureE, unAV, intOp, binAV, fill, mget, AH.rowAt, AH.part, retQ, rvs, retV, AH.splice, AH.sliceElems, AH.bytesOf, AH.strOp, AH.bound, AH.addLog, AH.missQ, AH.minmaxAV, AH.wpOpD, AH.readOf, AH.effOf, AH.mapAt, AH.iterAt, Nat.reduceBEq, Nat.reduceAdd, Nat.reduceLT, ↓reduceIte, Nat.reduceEqDiff, Nat.reduceLeDiff, Nat.reduceSub, Nat.reduceMul, Int.reduceSub, Int.reduceToNat, Int.reduceBEq, Int.reduceBNe, Int.reduceLT, Int.reduceGT, Int.reduceLE, Int.reduceGE, Int.reduceNeg, Int.reduceAdd, AH.PD, heads, distN, AH.inN, posN, packM, packB, packTm, liveB, AV.inB, AV.insB, AV.ren, AV.rens, Blk.ren, Blk.inB, vstep, tput, e]
    try simp
/-- What Open comes to: the error, and the log. -/
def opnZ (d : Dk) (f t b : Int) : Nat × Lg :=
  if f < 0 ∨ t ≤ f ∨ t > (d.L.length : Int) ∨ ¬ isBase b then (1, ⟨d, f, t, b, f, [], false⟩) else
  if d.away = true then (14, ⟨d, f, t, b, f, [], false⟩) else
  ((wipeD d (t.toNat - (f.toNat + (logR (t - f).toNat ((d.L.drop f.toNat).take (t - f).toNat) (b + 1)).2)) (f.toNat + (logR (t - f).toNat ((d.L.drop f.toNat).take (t - f).toNat) (b + 1)).2)).1,
   ⟨(wipeD d (t.toNat - (f.toNat + (logR (t - f).toNat ((d.L.drop f.toNat).take (t - f).toNat) (b + 1)).2)) (f.toNat + (logR (t - f).toNat ((d.L.drop f.toNat).take (t - f).toNat) (b + 1)).2)).2, f, t, b, ((f.toNat + (logR (t - f).toNat ((d.L.drop f.toNat).take (t - f).toNat) (b + 1)).2 : Nat) : Int), (logR (t - f).toNat ((d.L.drop f.toNat).take (t - f).toNat) (b + 1)).1, false⟩)
def opnA (x : Nat × Lg) : AV := if x.1 = 0 then .tup [.ptr 2 0 0, .nili] else .tup [.nilp, errA x.1]
def opnM (x : Nat × Lg) : Mem := if x.1 = 0 then opM x.2.d x.2.f x.2.t x.2.b x.2.a (.slc 3 0 x.2.R.length none) ++ [some (.row false 1 (x.2.R.map strC))] else dkM x.2.d
noncomputable abbrev tOp : List (FuncId × RT) := [(34, lenT), (35, isBaseT)]
theorem okOp : CtxOK S0 (ctxE S0 tOp [] [(38, wipeT)]) := ctxE_ok ⟨lenT_ok, isBaseT_ok, trivial⟩ trivial ⟨wipeT_ok, trivial⟩ mixed
set_option maxHeartbeats 8000000 in
theorem open_ok (d : Dk) (hd : d.ok) (f t b : Int) : CallA1 S0 9 [.ptr 0 0 0, .int .i64 f, .int .i64 t, .int .i64 b] (dkM d) fun r m => r = opnA (opnZ d f t b) ∧ m = opnM (opnZ d f t b) := by
  have hL := hd.2.2.2
  refine CallA1.fin ?_
  refine fun_sound okOp Tryd.func9 c9 ?_
  unfold wpF F9
  have bad : (f < 0 ∨ t ≤ f ∨ t > (d.L.length : Int) ∨ ¬ isBase b) → opnA (opnZ d f t b) = .tup [.nilp, .err 1] ∧ opnM (opnZ d f t b) = dkM d := fun h => by
    have e : opnZ d f t b = (1, ⟨d, f, t, b, f, [], false⟩) := by unfold opnZ; rw [if_pos h]
    rw [e]; exact ⟨rfl, rfl⟩
  cases c1 : decide (f < 0)
  rotate_left
  · obtain ⟨e1, e2⟩ := bad (.inl (by simpa using c1))
    simp only [AH.SD, AH.wpOp, AOp.call?, AOp.next?, bstep, AOp.map, Opd.ev, tget, argTm, evs, AV.cells, St.eff, St.put, applyWr, mset, terase, pureE, unAV, intOp, binAV, fill, mget, AH.rowAt, AH.part, retQ, rvs, retV, AH.splice, AH.sliceElems, AH.bytesOf, AH.strOp, AH.bound, AH.addLog, AH.missQ, AH.minmaxAV, AH.wpOpD, AH.readOf, AH.effOf, AH.mapAt, AH.iterAt, Nat.reduceBEq, Nat.reduceAdd, Nat.reduceLT, ↓reduceIte, Nat.reduceEqDiff, Nat.reduceLeDiff, Nat.reduceSub, Nat.reduceMul, Int.reduceSub, Int.reduceToNat, Int.reduceBEq, Int.reduceBNe, Int.reduceLT, Int.reduceGT, Int.reduceLE, Int.reduceGE, Int.reduceNeg, Int.reduceAdd, AH.PD, heads, distN, AH.inN, posN, packM, packB, packTm, liveB, AV.inB, AV.insB, AV.ren, AV.rens, Blk.ren, Blk.inB, vstep, tput, vw, shift, newOnes, rowsM, blkIn, rwB, @flat_lts, AV.lt, AV.lts, Nat.sub_self, AH.rtO_eq, AH.rtO2_eq, AH.rtO2_none, AH.etO_eq, AH.etO2_eq, AH.etO2_none, AH.useO_some, AH.rtElse_eq, AH.elseO_some, AH.elseO_none, AH.etN_eq, Option.bind_some, Option.bind_none, AH.pairO_some, AH.pairO_none, AH.cC_dec, AH.cC_nil, AH.c0_dec, AH.c0_dec1, AH.aI_dec, AH.aS_dec, AH.aB_dec, AH.aNil_dec, AH.aNil_ptr, Option.map_none, effS, wrS, newS, backNo, AH.isIn, AH.posOf, AH.rwB, List.all_cons, List.all_nil, List.getElem?_cons_zero, List.getElem?_cons_succ, List.getElem?_nil, AH.appE_some, List.contains_cons, List.contains_nil, Nat.add_zero, dkM, c1]
    repeat ((with_reducible refine And.intro ?_ ?_); focus (first | rfl | decide | omega | (simp only [List.length_map, and_true]; omega) | (simp only [List.length_map, List.length_set, and_true]; omega)))
    refine ⟨[0, 1], [], ?_⟩
    simp only [AH.SD, AH.wpOp, AOp.call?, AOp.next?, bstep, AOp.map, Opd.ev, tget, argTm, evs, AV.cells, St.eff, St.put, applyWr, mset, terase, pureE, unAV, intOp, binAV, fill, mget, AH.rowAt, AH.part, retQ, rvs, retV, AH.splice, AH.sliceElems, AH.bytesOf, AH.strOp, AH.bound, AH.addLog, AH.missQ, AH.minmaxAV, AH.wpOpD, AH.readOf, AH.effOf, AH.mapAt, AH.iterAt, Nat.reduceBEq, Nat.reduceAdd, Nat.reduceLT, ↓reduceIte, Nat.reduceEqDiff, Nat.reduceLeDiff, Nat.reduceSub, Nat.reduceMul, Int.reduceSub, Int.reduceToNat, Int.reduceBEq, Int.reduceBNe, Int.reduceLT, Int.reduceGT, Int.reduceLE, Int.reduceGE, Int.reduceNeg, Int.reduceAdd, AH.PD, heads, distN, AH.inN, posN, packM, packB, packTm, liveB, AV.inB, AV.insB, AV.ren, AV.rens, Blk.ren, Blk.inB, vstep, tput, e1, e2, dkM]
    try simp
  cases c2 : decide (t ≤ f)
  rotate_left
  · obtain ⟨e1, e2⟩ := bad (.inr (.inl (by simpa using c2)))
    simp only [AH.SD, AH.wpOp, AOp.call?, AOp.next?, bstep, AOp.map, Opd.ev, tget, argTm, evs, AV.cells, St.eff, St.put, applyWr, mset, terase, pureE, unAV, intOp, binAV, fill, mget, AH.rowAt, AH.part, retQ, rvs, retV, AH.splice, AH.sliceElems, AH.bytesOf, AH.strOp, AH.bound, AH.addLog, AH.missQ, AH.minmaxAV, AH.wpOpD, AH.readOf, AH.effOf, AH.mapAt, AH.iterAt, Nat.reduceBEq, Nat.reduceAdd, Nat.reduceLT, ↓reduceIte, Nat.reduceEqDiff, Nat.reduceLeDiff, Nat.reduceSub, Nat.reduceMul, Int.reduceSub, Int.reduceToNat, Int.reduceBEq, Int.reduceBNe, Int.reduceLT, Int.reduceGT, Int.reduceLE, Int.reduceGE, Int.reduceNeg, Int.reduceAdd, AH.PD, heads, distN, AH.inN, posN, packM, packB, packTm, liveB, AV.inB, AV.insB, AV.ren, AV.rens, Blk.ren, Blk.inB, vstep, tput, vw, shift, newOnes, rowsM, blkIn, rwB, @flat_lts, AV.lt, AV.lts, Nat.sub_self, AH.rtO_eq, AH.rtO2_eq, AH.rtO2_none, AH.etO_eq, AH.etO2_eq, AH.etO2_none, AH.useO_some, AH.rtElse_eq, AH.elseO_some, AH.elseO_none, AH.etN_eq, Option.bind_some, Option.bind_none, AH.pairO_some, AH.pairO_none, AH.cC_dec, AH.cC_nil, AH.c0_dec, AH.c0_dec1, AH.aI_dec, AH.aS_dec, AH.aB_dec, AH.aNil_dec, AH.aNil_ptr, Option.map_none, effS, wrS, newS, backNo, AH.isIn, AH.posOf, AH.rwB, List.all_cons, List.all_nil, List.getElem?_cons_zero, List.getElem?_cons_succ, List.getElem?_nil, AH.appE_some, List.contains_cons, List.contains_nil, Nat.add_zero, dkM, c1, c2]
    repeat ((with_reducible refine And.intro ?_ ?_); focus (first | rfl | decide | omega | (simp only [List.length_map, and_true]; omega) | (simp only [List.length_map, List.length_set, and_true]; omega)))
    refine ⟨[0, 1], [], ?_⟩
    simp only [AH.SD, AH.wpOp, AOp.call?, AOp.next?, bstep, AOp.map, Opd.ev, tget, argTm, evs, AV.cells, St.eff, St.put, applyWr, mset, terase, pureE, unAV, intOp, binAV, fill, mget, AH.rowAt, AH.part, retQ, rvs, retV, AH.splice, AH.sliceElems, AH.bytesOf, AH.strOp, AH.bound, AH.addLog, AH.missQ, AH.minmaxAV, AH.wpOpD, AH.readOf, AH.effOf, AH.mapAt, AH.iterAt, Nat.reduceBEq, Nat.reduceAdd, Nat.reduceLT, ↓reduceIte, Nat.reduceEqDiff, Nat.reduceLeDiff, Nat.reduceSub, Nat.reduceMul, Int.reduceSub, Int.reduceToNat, Int.reduceBEq, Int.reduceBNe, Int.reduceLT, Int.reduceGT, Int.reduceLE, Int.reduceGE, Int.reduceNeg, Int.reduceAdd, AH.PD, heads, distN, AH.inN, posN, packM, packB, packTm, liveB, AV.inB, AV.insB, AV.ren, AV.rens, Blk.ren, Blk.inB, vstep, tput, e1, e2, dkM]
    try simp
  cases c3 : decide (t > (d.L.length : Int))
  rotate_left
  · obtain ⟨e1, e2⟩ := bad (.inr (.inr (.inl (by simpa using c3))))
    simp only [AH.SD, AH.wpOp, AOp.call?, AOp.next?, bstep, AOp.map, Opd.ev, tget, argTm, evs, AV.cells, St.eff, St.put, applyWr, mset, terase, pureE, unAV, intOp, binAV, fill, mget, AH.rowAt, AH.part, retQ, rvs, retV, AH.splice, AH.sliceElems, AH.bytesOf, AH.strOp, AH.bound, AH.addLog, AH.missQ, AH.minmaxAV, AH.wpOpD, AH.readOf, AH.effOf, AH.mapAt, AH.iterAt, Nat.reduceBEq, Nat.reduceAdd, Nat.reduceLT, ↓reduceIte, Nat.reduceEqDiff, Nat.reduceLeDiff, Nat.reduceSub, Nat.reduceMul, Int.reduceSub, Int.reduceToNat, Int.reduceBEq, Int.reduceBNe, Int.reduceLT, Int.reduceGT, Int.reduceLE, Int.reduceGE, Int.reduceNeg, Int.reduceAdd, AH.PD, heads, distN, AH.inN, posN, packM, packB, packTm, liveB, AV.inB, AV.insB, AV.ren, AV.rens, Blk.ren, Blk.inB, vstep, tput, vw, shift, newOnes, rowsM, blkIn, rwB, @flat_lts, AV.lt, AV.lts, Nat.sub_self, AH.rtO_eq, AH.rtO2_eq, AH.rtO2_none, AH.etO_eq, AH.etO2_eq, AH.etO2_none, AH.useO_some, AH.rtElse_eq, AH.elseO_some, AH.elseO_none, AH.etN_eq, Option.bind_some, Option.bind_none, AH.pairO_some, AH.pairO_none, AH.cC_dec, AH.cC_nil, AH.c0_dec, AH.c0_dec1, AH.aI_dec, AH.aS_dec, AH.aB_dec, AH.aNil_dec, AH.aNil_ptr, Option.map_none, effS, wrS, newS, backNo, AH.isIn, AH.posOf, AH.rwB, List.all_cons, List.all_nil, List.getElem?_cons_zero, List.getElem?_cons_succ, List.getElem?_nil, AH.appE_some, List.contains_cons, List.contains_nil, Nat.add_zero, dkM, c1, c2, lenT_p, lgR_eq, lgU_eq, Lg.eta, ne4, Bool.not_false, Bool.and_self, if_true, dkR_eq, dkB_eq, Dk.eta, ne_eq, Nat.reduceEqDiff, Nat.zero_ne_one, not_false_eq_true, c3]
    repeat ((with_reducible refine And.intro ?_ ?_); focus (first | rfl | decide | omega | (simp only [List.length_map, and_true]; omega) | (simp only [List.length_map, List.length_set, and_true]; omega)))
    refine ⟨[0, 1], [], ?_⟩
    simp only [AH.SD, AH.wpOp, AOp.call?, AOp.next?, bstep, AOp.map, Opd.ev, tget, argTm, evs, AV.cells, St.eff, St.put, applyWr, mset, terase, pureE, unAV, intOp, binAV, fill, mget, AH.rowAt, AH.part, retQ, rvs, retV, AH.splice, AH.sliceElems, AH.bytesOf, AH.strOp, AH.bound, AH.addLog, AH.missQ, AH.minmaxAV, AH.wpOpD, AH.readOf, AH.effOf, AH.mapAt, AH.iterAt, Nat.reduceBEq, Nat.reduceAdd, Nat.reduceLT, ↓reduceIte, Nat.reduceEqDiff, Nat.reduceLeDiff, Nat.reduceSub, Nat.reduceMul, Int.reduceSub, Int.reduceToNat, Int.reduceBEq, Int.reduceBNe, Int.reduceLT, Int.reduceGT, Int.reduceLE, Int.reduceGE, Int.reduceNeg, Int.reduceAdd, AH.PD, heads, distN, AH.inN, posN, packM, packB, packTm, liveB, AV.inB, AV.insB, AV.ren, AV.rens, Blk.ren, Blk.inB, vstep, tput, e1, e2, dkM]
    try simp
  cases c4 : decide (isBase b)
  · obtain ⟨e1, e2⟩ := bad (.inr (.inr (.inr (by simpa using c4))))
    simp only [AH.SD, AH.wpOp, AOp.call?, AOp.next?, bstep, AOp.map, Opd.ev, tget, argTm, evs, AV.cells, St.eff, St.put, applyWr, mset, terase, pureE, unAV, intOp, binAV, fill, mget, AH.rowAt, AH.part, retQ, rvs, retV, AH.splice, AH.sliceElems, AH.bytesOf, AH.strOp, AH.bound, AH.addLog, AH.missQ, AH.minmaxAV, AH.wpOpD, AH.readOf, AH.effOf, AH.mapAt, AH.iterAt, Nat.reduceBEq, Nat.reduceAdd, Nat.reduceLT, ↓reduceIte, Nat.reduceEqDiff, Nat.reduceLeDiff, Nat.reduceSub, Nat.reduceMul, Int.reduceSub, Int.reduceToNat, Int.reduceBEq, Int.reduceBNe, Int.reduceLT, Int.reduceGT, Int.reduceLE, Int.reduceGE, Int.reduceNeg, Int.reduceAdd, AH.PD, heads, distN, AH.inN, posN, packM, packB, packTm, liveB, AV.inB, AV.insB, AV.ren, AV.rens, Blk.ren, Blk.inB, vstep, tput, vw, shift, newOnes, rowsM, blkIn, rwB, @flat_lts, AV.lt, AV.lts, Nat.sub_self, AH.rtO_eq, AH.rtO2_eq, AH.rtO2_none, AH.etO_eq, AH.etO2_eq, AH.etO2_none, AH.useO_some, AH.rtElse_eq, AH.elseO_some, AH.elseO_none, AH.etN_eq, Option.bind_some, Option.bind_none, AH.pairO_some, AH.pairO_none, AH.cC_dec, AH.cC_nil, AH.c0_dec, AH.c0_dec1, AH.aI_dec, AH.aS_dec, AH.aB_dec, AH.aNil_dec, AH.aNil_ptr, Option.map_none, effS, wrS, newS, backNo, AH.isIn, AH.posOf, AH.rwB, List.all_cons, List.all_nil, List.getElem?_cons_zero, List.getElem?_cons_succ, List.getElem?_nil, AH.appE_some, List.contains_cons, List.contains_nil, Nat.add_zero, dkM, c1, c2, lenT_p, lgR_eq, lgU_eq, Lg.eta, ne4, Bool.not_false, Bool.and_self, if_true, dkR_eq, dkB_eq, Dk.eta, ne_eq, Nat.reduceEqDiff, Nat.zero_ne_one, not_false_eq_true, c3, isBaseT_p, c4]
    repeat ((with_reducible refine And.intro ?_ ?_); focus (first | rfl | decide | omega | (simp only [List.length_map, and_true]; omega) | (simp only [List.length_map, List.length_set, and_true]; omega)))
    refine ⟨[0, 1], [], ?_⟩
    simp only [AH.SD, AH.wpOp, AOp.call?, AOp.next?, bstep, AOp.map, Opd.ev, tget, argTm, evs, AV.cells, St.eff, St.put, applyWr, mset, terase, pureE, unAV, intOp, binAV, fill, mget, AH.rowAt, AH.part, retQ, rvs, retV, AH.splice, AH.sliceElems, AH.bytesOf, AH.strOp, AH.bound, AH.addLog, AH.missQ, AH.minmaxAV, AH.wpOpD, AH.readOf, AH.effOf, AH.mapAt, AH.iterAt, Nat.reduceBEq, Nat.reduceAdd, Nat.reduceLT, ↓reduceIte, Nat.reduceEqDiff, Nat.reduceLeDiff, Nat.reduceSub, Nat.reduceMul, Int.reduceSub, Int.reduceToNat, Int.reduceBEq, Int.reduceBNe, Int.reduceLT, Int.reduceGT, Int.reduceLE, Int.reduceGE, Int.reduceNeg, Int.reduceAdd, AH.PD, heads, distN, AH.inN, posN, packM, packB, packTm, liveB, AV.inB, AV.insB, AV.ren, AV.rens, Blk.ren, Blk.inB, vstep, tput, e1, e2, dkM]
    try simp
  clear bad
  have k1 : 0 ≤ f := by simp only [decide_eq_false_iff_not] at c1; omega
  have k2 : f < t := by simp only [decide_eq_false_iff_not] at c2; omega
  have k3 : t ≤ (d.L.length : Int) := by simp only [decide_eq_false_iff_not] at c3; omega
  have k4 : isBase b := by simpa using c4
  have hno : ¬ (f < 0 ∨ t ≤ f ∨ t > (d.L.length : Int) ∨ ¬ isBase b) := by
    rintro (h | h | h | h)
    · omega
    · omega
    · omega
    · exact h k4
  obtain ⟨F, rfl⟩ := Int.eq_ofNat_of_zero_le k1
  obtain ⟨T, rfl⟩ := Int.eq_ofNat_of_zero_le (show 0 ≤ t by omega)
  simp only [AH.SD, AH.wpOp, AOp.call?, AOp.next?, bstep, AOp.map, Opd.ev, tget, argTm, evs, AV.cells, St.eff, St.put, applyWr, mset, terase, pureE, unAV, intOp, binAV, fill, mget, AH.rowAt, AH.part, retQ, rvs, retV, AH.splice, AH.sliceElems, AH.bytesOf, AH.strOp, AH.bound, AH.addLog, AH.missQ, AH.minmaxAV, AH.wpOpD, AH.readOf, AH.effOf, AH.mapAt, AH.iterAt, Nat.reduceBEq, Nat.reduceAdd, Nat.reduceLT, ↓reduceIte, Nat.reduceEqDiff, Nat.reduceLeDiff, Nat.reduceSub, Nat.reduceMul, Int.reduceSub, Int.reduceToNat, Int.reduceBEq, Int.reduceBNe, Int.reduceLT, Int.reduceGT, Int.reduceLE, Int.reduceGE, Int.reduceNeg, Int.reduceAdd, AH.PD, heads, distN, AH.inN, posN, packM, packB, packTm, liveB, AV.inB, AV.insB, AV.ren, AV.rens, Blk.ren, Blk.inB, vstep, tput, vw, shift, newOnes, rowsM, blkIn, rwB, @flat_lts, AV.lt, AV.lts, Nat.sub_self, AH.rtO_eq, AH.rtO2_eq, AH.rtO2_none, AH.etO_eq, AH.etO2_eq, AH.etO2_none, AH.useO_some, AH.rtElse_eq, AH.elseO_some, AH.elseO_none, AH.etN_eq, Option.bind_some, Option.bind_none, AH.pairO_some, AH.pairO_none, AH.cC_dec, AH.cC_nil, AH.c0_dec, AH.c0_dec1, AH.aI_dec, AH.aS_dec, AH.aB_dec, AH.aNil_dec, AH.aNil_ptr, Option.map_none, effS, wrS, newS, backNo, AH.isIn, AH.posOf, AH.rwB, List.all_cons, List.all_nil, List.getElem?_cons_zero, List.getElem?_cons_succ, List.getElem?_nil, AH.appE_some, List.contains_cons, List.contains_nil, Nat.add_zero, dkM, c1, c2, lenT_p, lgR_eq, lgU_eq, Lg.eta, ne4, Bool.not_false, Bool.and_self, if_true, dkR_eq, dkB_eq, Dk.eta, ne_eq, Nat.reduceEqDiff, Nat.zero_ne_one, not_false_eq_true, c3, isBaseT_p, c4]
  have eM : opM d F T b F .nils = [some (.row false 5 [[.slc 1 0 d.L.length none, .bool d.away, .int .i64 d.fuse, .int .i64 d.torn, .int .i64 d.writes]]), some (.row false 1 (d.L.map strC)),
    some (.row false 7 [[.ptr 0 0 0, .int .i64 F, .int .i64 T, .int .i64 b, .int .i64 F, .nils, .bool false]])] := rfl
  rw [← eM]
  by_cases ha : d.away = true
  · have e : opnZ d F T b = (14, ⟨d, F, T, b, F, [], false⟩) := by unfold opnZ; rw [if_neg hno, if_pos ha]
    refine (blocks_off d hd ha F T b (by omega) (by omega)).mono ?_
    rintro r m ⟨rfl, rfl⟩
    simp only [AH.SD, AH.wpOp, AOp.call?, AOp.next?, bstep, AOp.map, Opd.ev, tget, argTm, evs, AV.cells, St.eff, St.put, applyWr, mset, terase, pureE, unAV, intOp, binAV, fill, mget, AH.rowAt, AH.part, retQ, rvs, retV, AH.splice, AH.sliceElems, AH.bytesOf, AH.strOp, AH.bound, AH.addLog, AH.missQ, AH.minmaxAV, AH.wpOpD, AH.readOf, AH.effOf, AH.mapAt, AH.iterAt, Nat.reduceBEq, Nat.reduceAdd, Nat.reduceLT, ↓reduceIte, Nat.reduceEqDiff, Nat.reduceLeDiff, Nat.reduceSub, Nat.reduceMul, Int.reduceSub, Int.reduceToNat, Int.reduceBEq, Int.reduceBNe, Int.reduceLT, Int.reduceGT, Int.reduceLE, Int.reduceGE, Int.reduceNeg, Int.reduceAdd, AH.PD, heads, distN, AH.inN, posN, packM, packB, packTm, liveB, AV.inB, AV.insB, AV.ren, AV.rens, Blk.ren, Blk.inB, vstep, tput, vw, shift, newOnes, rowsM, blkIn, rwB, @flat_lts, AV.lt, AV.lts, Nat.sub_self, AH.rtO_eq, AH.rtO2_eq, AH.rtO2_none, AH.etO_eq, AH.etO2_eq, AH.etO2_none, AH.useO_some, AH.rtElse_eq, AH.elseO_some, AH.elseO_none, AH.etN_eq, Option.bind_some, Option.bind_none, AH.pairO_some, AH.pairO_none, AH.cC_dec, AH.cC_nil, AH.c0_dec, AH.c0_dec1, AH.aI_dec, AH.aS_dec, AH.aB_dec, AH.aNil_dec, AH.aNil_ptr, Option.map_none, effS, wrS, newS, backNo, AH.isIn, AH.posOf, AH.rwB, List.all_cons, List.all_nil, List.getElem?_cons_zero, List.getElem?_cons_succ, List.getElem?_nil, AH.appE_some, List.contains_cons, List.contains_nil, Nat.add_zero, opM, errA_nil, errA14]
    refine ⟨[0, 1], [], ?_⟩
    simp only [AH.SD, AH.wpOp, AOp.call?, AOp.next?, bstep, AOp.map, Opd.ev, tget, argTm, evs, AV.cells, St.eff, St.put, applyWr, mset, terase, pureE, unAV, intOp, binAV, fill, mget, AH.rowAt, AH.part, retQ, rvs, retV, AH.splice, AH.sliceElems, AH.bytesOf, AH.strOp, AH.bound, AH.addLog, AH.missQ, AH.minmaxAV, AH.wpOpD, AH.readOf, AH.effOf, AH.mapAt, AH.iterAt, Nat.reduceBEq, Nat.reduceAdd, Nat.reduceLT, ↓reduceIte, Nat.reduceEqDiff, Nat.reduceLeDiff, Nat.reduceSub, Nat.reduceMul, Int.reduceSub, Int.reduceToNat, Int.reduceBEq, Int.reduceBNe, Int.reduceLT, Int.reduceGT, Int.reduceLE, Int.reduceGE, Int.reduceNeg, Int.reduceAdd, AH.PD, heads, distN, AH.inN, posN, packM, packB, packTm, liveB, AV.inB, AV.insB, AV.ren, AV.rens, Blk.ren, Blk.inB, vstep, tput, e, opnA, opnM, errA14, dkM, show ¬ ((14 : Nat) = 0) by decide, if_false]
    try simp
  · have ha' : d.away = false := by simpa using ha
    have hLn : ((d.L.drop F).take (T - F)).length = T - F := by rw [List.length_take, List.length_drop]; omega
    refine (blocks_on d hd ha' F T b (by omega) (by omega)).mono ?_
    rintro r m ⟨rfl, rfl⟩
    have ee : opnZ d F T b = ((wipeD d (T - (F + (logR (T - F) ((d.L.drop F).take (T - F)) (b + 1)).2)) (F + (logR (T - F) ((d.L.drop F).take (T - F)) (b + 1)).2)).1,
      ⟨(wipeD d (T - (F + (logR (T - F) ((d.L.drop F).take (T - F)) (b + 1)).2)) (F + (logR (T - F) ((d.L.drop F).take (T - F)) (b + 1)).2)).2, F, T, b, ((F + (logR (T - F) ((d.L.drop F).take (T - F)) (b + 1)).2 : Nat) : Int), (logR (T - F) ((d.L.drop F).take (T - F)) (b + 1)).1, false⟩) := by
      unfold opnZ; rw [if_neg hno, if_neg ha]
      simp only [Int.toNat_natCast, show ((T : Int) - (F : Int)).toNat = T - F by omega]
    obtain ⟨z1, z2, _⟩ := logR_le (T - F) ((d.L.drop F).take (T - F)) (b + 1)
    have hrd := lread_ok d hd F T b k4 ((d.L.drop F).take (T - F)) (by omega) (by omega)
    rw [hLn] at hrd z1
    generalize hx : logR (T - F) ((d.L.drop F).take (T - F)) (b + 1) = x at *
    generalize (d.L.drop F).take (T - F) = B at *
    simp only [AH.SD, AH.wpOp, AOp.call?, AOp.next?, bstep, AOp.map, Opd.ev, tget, argTm, evs, AV.cells, St.eff, St.put, applyWr, mset, terase, pureE, unAV, intOp, binAV, fill, mget, AH.rowAt, AH.part, retQ, rvs, retV, AH.splice, AH.sliceElems, AH.bytesOf, AH.strOp, AH.bound, AH.addLog, AH.missQ, AH.minmaxAV, AH.wpOpD, AH.readOf, AH.effOf, AH.mapAt, AH.iterAt, Nat.reduceBEq, Nat.reduceAdd, Nat.reduceLT, ↓reduceIte, Nat.reduceEqDiff, Nat.reduceLeDiff, Nat.reduceSub, Nat.reduceMul, Int.reduceSub, Int.reduceToNat, Int.reduceBEq, Int.reduceBNe, Int.reduceLT, Int.reduceGT, Int.reduceLE, Int.reduceGE, Int.reduceNeg, Int.reduceAdd, AH.PD, heads, distN, AH.inN, posN, packM, packB, packTm, liveB, AV.inB, AV.insB, AV.ren, AV.rens, Blk.ren, Blk.inB, vstep, tput, vw, shift, newOnes, rowsM, blkIn, rwB, @flat_lts, AV.lt, AV.lts, Nat.sub_self, AH.rtO_eq, AH.rtO2_eq, AH.rtO2_none, AH.etO_eq, AH.etO2_eq, AH.etO2_none, AH.useO_some, AH.rtElse_eq, AH.elseO_some, AH.elseO_none, AH.etN_eq, Option.bind_some, Option.bind_none, AH.pairO_some, AH.pairO_none, AH.cC_dec, AH.cC_nil, AH.c0_dec, AH.c0_dec1, AH.aI_dec, AH.aS_dec, AH.aB_dec, AH.aNil_dec, AH.aNil_ptr, Option.map_none, effS, wrS, newS, backNo, AH.isIn, AH.posOf, AH.rwB, List.all_cons, List.all_nil, List.getElem?_cons_zero, List.getElem?_cons_succ, List.getElem?_nil, AH.appE_some, List.contains_cons, List.contains_nil, Nat.add_zero, errA_nil]
    have key : ∀ (K : AV → Mem → Prop), K (.tup []) (opM d F T b ((F + x.2 : Nat) : Int) (.slc 4 0 x.1.length none) ++ [some (.row false 1 (B.map strC)), some (.row false 1 (x.1.map strC))]) → CallA1 S0 37 [.ptr 2 0 0, .slc 3 0 (T - F) none] (opM d F T b F .nils ++ [some (.row false 1 (B.map strC))]) K := fun K hK =>
      hrd.mono fun v m' ⟨h1, h2⟩ => by rw [h1, h2]; exact hK
    refine key _ ?_
    have hok : (⟨d, F, T, b, ((F + x.2 : Nat) : Int), x.1, false⟩ : Lg).ok := ⟨hd, k4, by simp only; omega, by simp only; omega, by simp only; omega, by simp only; omega, by simp only; omega⟩
    have h0 : (0 : Int) ≤ ((F + x.2 : Nat) : Int) := by omega
    have h1 : ((F + x.2 : Nat) : Int) ≤ (T : Int) := by omega
    have w1 : ((T : Int) - ((F + x.2 : Nat) : Int)).toNat = T - (F + x.2) := by omega
    have hkd := wipe_kind (T - (F + x.2)) (d := d) (F + x.2) (by omega)
    rcases hkd with hkd | hkd
    · simp only [AH.SD, AH.wpOp, AOp.call?, AOp.next?, bstep, AOp.map, Opd.ev, tget, argTm, evs, AV.cells, St.eff, St.put, applyWr, mset, terase, pureE, unAV, intOp, binAV, fill, mget, AH.rowAt, AH.part, retQ, rvs, retV, AH.splice, AH.sliceElems, AH.bytesOf, AH.strOp, AH.bound, AH.addLog, AH.missQ, AH.minmaxAV, AH.wpOpD, AH.readOf, AH.effOf, AH.mapAt, AH.iterAt, Nat.reduceBEq, Nat.reduceAdd, Nat.reduceLT, ↓reduceIte, Nat.reduceEqDiff, Nat.reduceLeDiff, Nat.reduceSub, Nat.reduceMul, Int.reduceSub, Int.reduceToNat, Int.reduceBEq, Int.reduceBNe, Int.reduceLT, Int.reduceGT, Int.reduceLE, Int.reduceGE, Int.reduceNeg, Int.reduceAdd, AH.PD, heads, distN, AH.inN, posN, packM, packB, packTm, liveB, AV.inB, AV.insB, AV.ren, AV.rens, Blk.ren, Blk.inB, vstep, tput, vw, shift, newOnes, rowsM, blkIn, rwB, @flat_lts, AV.lt, AV.lts, Nat.sub_self, AH.rtO_eq, AH.rtO2_eq, AH.rtO2_none, AH.etO_eq, AH.etO2_eq, AH.etO2_none, AH.useO_some, AH.rtElse_eq, AH.elseO_some, AH.elseO_none, AH.etN_eq, Option.bind_some, Option.bind_none, AH.pairO_some, AH.pairO_none, AH.cC_dec, AH.cC_nil, AH.c0_dec, AH.c0_dec1, AH.aI_dec, AH.aS_dec, AH.aB_dec, AH.aNil_dec, AH.aNil_ptr, Option.map_none, effS, wrS, newS, backNo, AH.isIn, AH.posOf, AH.rwB, List.all_cons, List.all_nil, List.getElem?_cons_zero, List.getElem?_cons_succ, List.getElem?_nil, AH.appE_some, List.contains_cons, List.contains_nil, Nat.add_zero, opM, List.cons_append, List.nil_append, lgR_eq, lgU_eq, Lg.eta, ne4, Bool.not_false, Bool.and_self, if_true, dkR_eq, dkB_eq, Dk.eta, ne_eq, Nat.reduceEqDiff, Nat.zero_ne_one, not_false_eq_true, wipeT_p, hok, h0, h1, w1, Int.toNat_natCast, hkd, errA_nil, errA0, lgM]
      refine ⟨[0, 1, 2, 4], [], ?_⟩
      simp only [AH.SD, AH.wpOp, AOp.call?, AOp.next?, bstep, AOp.map, Opd.ev, tget, argTm, evs, AV.cells, St.eff, St.put, applyWr, mset, terase, pureE, unAV, intOp, binAV, fill, mget, AH.rowAt, AH.part, retQ, rvs, retV, AH.splice, AH.sliceElems, AH.bytesOf, AH.strOp, AH.bound, AH.addLog, AH.missQ, AH.minmaxAV, AH.wpOpD, AH.readOf, AH.effOf, AH.mapAt, AH.iterAt, Nat.reduceBEq, Nat.reduceAdd, Nat.reduceLT, ↓reduceIte, Nat.reduceEqDiff, Nat.reduceLeDiff, Nat.reduceSub, Nat.reduceMul, Int.reduceSub, Int.reduceToNat, Int.reduceBEq, Int.reduceBNe, Int.reduceLT, Int.reduceGT, Int.reduceLE, Int.reduceGE, Int.reduceNeg, Int.reduceAdd, AH.PD, heads, distN, AH.inN, posN, packM, packB, packTm, liveB, AV.inB, AV.insB, AV.ren, AV.rens, Blk.ren, Blk.inB, vstep, tput, ee, hkd, opnA, opnM, opM, errA0, List.cons_append, List.nil_append]
      try simp
    · simp only [AH.SD, AH.wpOp, AOp.call?, AOp.next?, bstep, AOp.map, Opd.ev, tget, argTm, evs, AV.cells, St.eff, St.put, applyWr, mset, terase, pureE, unAV, intOp, binAV, fill, mget, AH.rowAt, AH.part, retQ, rvs, retV, AH.splice, AH.sliceElems, AH.bytesOf, AH.strOp, AH.bound, AH.addLog, AH.missQ, AH.minmaxAV, AH.wpOpD, AH.readOf, AH.effOf, AH.mapAt, AH.iterAt, Nat.reduceBEq, Nat.reduceAdd, Nat.reduceLT, ↓reduceIte, Nat.reduceEqDiff, Nat.reduceLeDiff, Nat.reduceSub, Nat.reduceMul, Int.reduceSub, Int.reduceToNat, Int.reduceBEq, Int.reduceBNe, Int.reduceLT, Int.reduceGT, Int.reduceLE, Int.reduceGE, Int.reduceNeg, Int.reduceAdd, AH.PD, heads, distN, AH.inN, posN, packM, packB, packTm, liveB, AV.inB, AV.insB, AV.ren, AV.rens, Blk.ren, Blk.inB, vstep, tput, vw, shift, newOnes, rowsM, blkIn, rwB, @flat_lts, AV.lt, AV.lts, Nat.sub_self, AH.rtO_eq, AH.rtO2_eq, AH.rtO2_none, AH.etO_eq, AH.etO2_eq, AH.etO2_none, AH.useO_some, AH.rtElse_eq, AH.elseO_some, AH.elseO_none, AH.etN_eq, Option.bind_some, Option.bind_none, AH.pairO_some, AH.pairO_none, AH.cC_dec, AH.cC_nil, AH.c0_dec, AH.c0_dec1, AH.aI_dec, AH.aS_dec, AH.aB_dec, AH.aNil_dec, AH.aNil_ptr, Option.map_none, effS, wrS, newS, backNo, AH.isIn, AH.posOf, AH.rwB, List.all_cons, List.all_nil, List.getElem?_cons_zero, List.getElem?_cons_succ, List.getElem?_nil, AH.appE_some, List.contains_cons, List.contains_nil, Nat.add_zero, opM, List.cons_append, List.nil_append, lgR_eq, lgU_eq, Lg.eta, ne4, Bool.not_false, Bool.and_self, if_true, dkR_eq, dkB_eq, Dk.eta, ne_eq, Nat.reduceEqDiff, Nat.zero_ne_one, not_false_eq_true, wipeT_p, hok, h0, h1, w1, Int.toNat_natCast, hkd, errA_nil, errA14, lgM]
      refine ⟨[0, 1], [], ?_⟩
      simp only [AH.SD, AH.wpOp, AOp.call?, AOp.next?, bstep, AOp.map, Opd.ev, tget, argTm, evs, AV.cells, St.eff, St.put, applyWr, mset, terase, pureE, unAV, intOp, binAV, fill, mget, AH.rowAt, AH.part, retQ, rvs, retV, AH.splice, AH.sliceElems, AH.bytesOf, AH.strOp, AH.bound, AH.addLog, AH.missQ, AH.minmaxAV, AH.wpOpD, AH.readOf, AH.effOf, AH.mapAt, AH.iterAt, Nat.reduceBEq, Nat.reduceAdd, Nat.reduceLT, ↓reduceIte, Nat.reduceEqDiff, Nat.reduceLeDiff, Nat.reduceSub, Nat.reduceMul, Int.reduceSub, Int.reduceToNat, Int.reduceBEq, Int.reduceBNe, Int.reduceLT, Int.reduceGT, Int.reduceLE, Int.reduceGE, Int.reduceNeg, Int.reduceAdd, AH.PD, heads, distN, AH.inN, posN, packM, packB, packTm, liveB, AV.inB, AV.insB, AV.ren, AV.rens, Blk.ren, Blk.inB, vstep, tput, ee, hkd, opnA, opnM, dkM, errA14, show ¬ ((14 : Nat) = 0) by decide, if_false]
      try simp
end Go.Proofs.YthapdikdeoeplaaDoor.H6
end

section
open Go AH
set_option linter.unusedSimpArgs false
set_option maxRecDepth 100000
namespace Go.Proofs.YthapdikdeoeplaaDoor.H6
/-- Functions of one slice and of arguments without blocks, that make blocks. -/
def nfX {α β : Type} (k : Nat) (c : Cod α) (x : Cod β) (f : List α → β → AV) (h : List α → β → Mem) : NF := fun args rows => match args, rows with
  | .slc i1 j1 n1 q1 :: r, [(w1, es1)] => match c.decL es1, x.dec r with
    | some l1, some b => bif i1 == 0 && (j1 == 0 && (q1.isNone && (w1 == k && (n1 == l1.length && decide (n1 ≤ 1048576))))) then some (f l1 b, h l1 b) else none
    | _, _ => none
  | _, _ => none
theorem nfX_ok {α β : Type} {g : FuncId} {k : Nat} {c : Cod α} {x : Cod β} {f : List α → β → AV} {h : List α → β → Mem} (he : S0.errs ≠ [])
    (H : ∀ l b, l.length ≤ 1048576 → (f l b).inB (fun j => decide (1 ≤ j)) = true ∧ (h l b).all (blkIn fun j => decide (1 ≤ j)) = true ∧ (h l b).all rwB = true ∧
      CallA1 S0 g (.slc 0 0 l.length none :: x.enc b) [some (.row true k (l.map c.enc))] fun r m' => r = f l b ∧ m' = [some (.row true k (l.map c.enc))] ++ h l b) :
    CallF S0 g (utN [k] (nfX k c x f h)) := by
  refine utN_ok he fun args rows v news e => ?_
  unfold nfX at e
  split at e
  · rename_i i1 j1 n1 q1 r w1 es1
    split at e
    · rename_i l1 b h1 h2
      cases hc : i1 == 0 && (j1 == 0 && (q1.isNone && (w1 == k && (n1 == l1.length && decide (n1 ≤ 1048576))))) with
      | false => rw [hc] at e; cases e
      | true =>
        rw [hc] at e
        simp only [cond_true, Option.some.injEq, Prod.mk.injEq] at e
        obtain ⟨rfl, rfl⟩ := e
        simp only [Bool.and_eq_true, beq_iff_eq, decide_eq_true_eq] at hc
        obtain ⟨rfl, rfl, hp1, rfl, rfl, hb1⟩ := hc
        have : q1 = none := by simpa using hp1
        subst this
        rw [c.decL_ok h1, x.ok _ _ h2]
        exact H l1 b hb1
    · cases e
  · cases e
theorem nfX_eq {α β : Type} {k : Nat} {c : Cod α} {x : Cod β} {f : List α → β → AV} {h : List α → β → Mem} {id ix n : Nat} {p : Option Nat} {r : List AV} {b : β} {m : Mem} {es : List (List AV)} {l : List α}
    (hM : rowE (mget m) id = some (k, es)) (hs : (es.drop ix).take n = l.map c.enc) (hle : ix + n ≤ es.length) (hb : n ≤ 1048576) (hr : x.dec r = some b) :
    utN [k] (nfX k c x f h) (.slc id ix n p :: r) m = some ((f l b).ren (shift m.length 1), m ++ newOnes (shift m.length 1) (h l b)) := by
  obtain ⟨ro, hM⟩ := rowE_some hM
  have hn : n = l.length := by
    have := congrArg List.length hs
    rw [List.length_take, List.length_drop, List.length_map] at this
    omega
  have hrf := x.ok _ _ hr
  have hfl : AV.lts 0 r = true := by rw [hrf]; exact x.flat b
  have hv : vw (mget m) [k] (.slc id ix n p :: r) 0 = some (.slc 0 0 n none :: r, [(k, l.map c.enc)], [id]) := by
    simp only [vw, hM, beq_self_eq_true, hle, decide_true, hs, c.all_flat, Bool.and_self, cond_true, vw_flat hfl, Option.map_some]
  simp only [utN, hv, useN, nfX, c.decL_map, hr]
  subst hn
  simp [hb]
end Go.Proofs.YthapdikdeoeplaaDoor.H6
end

section
open Go AH
set_option linter.unusedSimpArgs false
set_option maxRecDepth 100000
namespace Go.Proofs.YthapdikdeoeplaaDoor.H6
/-- Functions of one slice of which something holds. -/
def vfC {α : Type} (k : Nat) (c : Cod α) (p : List α → Prop) [DecidablePred p] (f : List α → AV) : VF := fun args rows => match args, rows with
  | [.slc 0 0 n none], [(k', es)] => match c.decL es with
    | some L => if k' = k ∧ n = L.length ∧ p L then some (f L) else none
    | none => none
  | _, _ => none
theorem vfC_ok {α : Type} {g : FuncId} {k : Nat} {c : Cod α} {p : List α → Prop} [DecidablePred p] {f : List α → AV} (he : S0.errs ≠ []) (h : ∀ L, p L → (f L).lt 0 = true ∧ CallA1 S0 g [.slc 0 0 L.length none] [some (.row true k (L.map c.enc))] fun r _ => r = f L) :
    ReadF S0 g (rtV [k] (vfC k c p f)) := by
  refine rtV_ok he fun args rows v e => ?_
  unfold vfC at e
  split at e
  · rename_i n k' es
    split at e
    · rename_i L hL
      split at e
      · rename_i hc
        simp only [Option.some.injEq] at e
        subst e
        obtain ⟨rfl, rfl, h3⟩ := hc
        have := c.decL_ok hL
        subst this
        exact h L h3
      · cases e
    · cases e
  · cases e
theorem vfC_eq {α : Type} {k : Nat} {c : Cod α} {p : List α → Prop} [DecidablePred p] {f : List α → AV} {id ix n : Nat} {cap : Option Nat} {M : Nat → Option Blk} {es : List (List AV)} {l : List α} (hM : rowE M id = some (k, es)) (hs : (es.drop ix).take n = l.map c.enc) (hle : ix + n ≤ es.length) (hp : p l) :
    rtV [k] (vfC k c p f) [.slc id ix n cap] M = some (f l, [id]) := by
  obtain ⟨ro, hM⟩ := rowE_some hM
  have hn : n = l.length := by
    have := congrArg List.length hs
    rw [List.length_take, List.length_drop, List.length_map] at this
    omega
  have hv : vw M [k] [.slc id ix n cap] 0 = some ([.slc 0 0 n none], [(k, l.map c.enc)], [id]) := by
    simp only [vw, hM, beq_self_eq_true, hle, decide_true, hs, c.all_flat, Bool.and_self, cond_true, Option.map_some]
  simp only [rtV, hv, useV, vfC, c.decL_map]
  subst hn
  simp [hp]
end Go.Proofs.YthapdikdeoeplaaDoor.H6
end

section
open Go AH
namespace Go.Proofs.YthapdikdeoeplaaDoor.H6
-- quitrent/quitrentlaw06.same
def F19 : AFun := ⟨26, 2, [.tmp 4], (.seq (.reg [ ⟨(some 4), none, .mov (.c (.bool false))⟩]) (.seq (.seq (.reg [ ⟨(some 6), none, .mov (.t 0)⟩, ⟨(some 7), none, .len .sl (.t 6)⟩, ⟨(some 8), none, .mov (.t 1)⟩, ⟨(some 9), none, .len .sl (.t 8)⟩, ⟨(some 10), none, .ibin .neq (.t 7) (.t 9)⟩]) (.cond (.t 10) (.seq (.reg [ ⟨(some 4), none, .mov (.c (.bool false))⟩]) .ret) .skip)) (.seq (.seq (.reg [ ⟨(some 5), none, .mov (.c (.int .i64 0))⟩]) (.block 0 (.loop (.seq (.seq (.reg [ ⟨(some 11), none, .mov (.t 5)⟩, ⟨(some 12), none, .mov (.t 0)⟩, ⟨(some 13), none, .len .sl (.t 12)⟩, ⟨(some 14), none, .ibin .lss (.t 11) (.t 13)⟩]) (.cond (.t 14) .skip (.exit 0))) (.seq (.block 1 (.seq (.draw [ ⟨(some 17), none, .mov (.t 0)⟩, ⟨(some 18), none, .mov (.t 5)⟩, ⟨(some 19), none, .iaddrSl 1 (.t 17) (.t 18)⟩, ⟨(some 20), none, .load false 1 (.t 19)⟩, ⟨(some 21), none, .mov (.t 1)⟩, ⟨(some 22), none, .mov (.t 5)⟩, ⟨(some 23), none, .iaddrSl 1 (.t 21) (.t 22)⟩, ⟨(some 24), none, .load false 1 (.t 23)⟩, ⟨(some 25), none, .ibin .neq (.t 20) (.t 24)⟩] [[], [], [0, 1], [2, 0, 1], [], [], [4, 5], [6, 4, 5], [3, 7, 2, 0, 1, 6, 4, 5]]) (.cond (.t 25) (.seq (.reg [ ⟨(some 4), none, .mov (.c (.bool false))⟩]) .ret) .skip))) (.reg [ ⟨(some 15), none, .mov (.t 5)⟩, ⟨(some 16), none, .ibin .add (.t 15) (.c (.int .i64 1))⟩, ⟨(some 5), none, .mov (.t 16)⟩])))))) (.seq (.reg [ ⟨(some 4), none, .mov (.c (.bool true))⟩]) .ret))))⟩

-- quitrent/quitrentlaw06.zeros
def F16 : AFun := ⟨8, 1, [.tmp 2], (.seq (.reg [ ⟨(some 2), none, .mov (.c (.str ⟨#[]⟩))⟩]) (.seq (.reg [ ⟨(some 3), none, .mov (.t 0)⟩, ⟨(some 4), none, .minmax true [(.t 3), (.c (.int .i64 0))]⟩, ⟨(some 5), none, .ibin .mul (.c (.int .i64 64)) (.t 4)⟩, ⟨(some 6), none, .mkslice 1 1 [(.int .u8 0)] (.t 5) (.t 5)⟩, ⟨(some 7), none, .b2s (.t 6)⟩, ⟨(some 2), none, .mov (.t 7)⟩]) .ret))⟩

-- quitrent/quitrentlaw06.awake
def F7 : AFun := ⟨53, 0, [.tmp 0], (.seq (.reg [ ⟨(some 0), none, .mov (.c (.bool false))⟩]) (.seq (.reg [ ⟨(some 7), none, .call (.c (.fn 8 [] [])) [(.c (.int .i64 5))]⟩, ⟨(some 1), none, .mov (.t 7)⟩]) (.seq (.reg [ ⟨(some 9), none, .mov (.t 1)⟩, ⟨(some 10), none, .call (.c (.fn 9 [] [])) [(.t 9), (.c (.int .i64 1)), (.c (.int .i64 4)), (.c (.int .i64 10))]⟩, ⟨(some 8), none, .mov (.t 10)⟩, ⟨(some 11), none, .extract (.t 8) 0⟩, ⟨(some 12), none, .extract (.t 8) 1⟩, ⟨(some 2), none, .mov (.t 11)⟩, ⟨(some 3), none, .mov (.t 12)⟩]) (.seq (.seq (.reg [ ⟨(some 13), none, .mov (.t 3)⟩, ⟨(some 14), none, .eq true .iface true (.t 13) (.c .nili)⟩, ⟨(some 15), none, .mov (.t 14)⟩, ⟨(some 16), (some (15, false)), .mov (.t 2)⟩, ⟨(some 17), (some (15, false)), .eq false .ptr true (.t 16) (.c .nilp)⟩, ⟨(some 18), none, .pick (.t 15) (.c (.bool true)) (.t 17)⟩]) (.cond (.t 18) (.seq (.reg [ ⟨(some 0), none, .mov (.c (.bool false))⟩]) .ret) .skip)) (.seq (.reg [ ⟨(some 19), none, .mov (.t 2)⟩, ⟨(some 20), none, .call (.c (.fn 11 [] [])) [(.t 19), (.c (.str ⟨#[104, 101, 108, 108, 111]⟩))]⟩, ⟨(some 4), none, .mov (.t 20)⟩]) (.seq (.reg [ ⟨(some 22), none, .mov (.t 1)⟩, ⟨(some 23), none, .call (.c (.fn 9 [] [])) [(.t 22), (.c (.int .i64 1)), (.c (.int .i64 4)), (.c (.int .i64 10))]⟩, ⟨(some 21), none, .mov (.t 23)⟩, ⟨(some 24), none, .extract (.t 21) 0⟩, ⟨(some 25), none, .extract (.t 21) 1⟩, ⟨(some 5), none, .mov (.t 24)⟩, ⟨(some 6), none, .mov (.t 25)⟩]) (.seq (.reg [ ⟨(some 26), none, .mov (.t 4)⟩, ⟨(some 27), none, .eq false .iface true (.t 26) (.c .nili)⟩, ⟨(some 28), none, .mov (.t 27)⟩, ⟨(some 29), (some (28, true)), .mov (.t 6)⟩, ⟨(some 30), (some (28, true)), .eq false .iface true (.t 29) (.c .nili)⟩, ⟨(some 31), none, .pick (.t 28) (.t 30) (.c (.bool false))⟩, ⟨(some 32), none, .mov (.t 31)⟩, ⟨(some 33), (some (32, true)), .mov (.t 5)⟩, ⟨(some 34), (some (32, true)), .call (.c (.fn 18 [] [])) [(.t 33)]⟩, ⟨(some 35), (some (32, true)), .bslice 1 1 [(.str ⟨#[]⟩)] [(0, 1, (.c (.str ⟨#[104, 101, 108, 108, 111]⟩)))]⟩, ⟨(some 36), (some (32, true)), .call (.c (.fn 19 [] [])) [(.t 34), (.t 35)]⟩, ⟨(some 37), none, .pick (.t 32) (.t 36) (.c (.bool false))⟩, ⟨(some 38), none, .mov (.t 37)⟩, ⟨(some 39), (some (38, true)), .mov (.t 5)⟩, ⟨(some 40), (some (38, true)), .call (.c (.fn 23 [] [])) [(.t 39)]⟩, ⟨(some 41), (some (38, true)), .ibin .eql (.t 40) (.c (.int .i64 12))⟩, ⟨(some 42), none, .pick (.t 38) (.t 41) (.c (.bool false))⟩, ⟨(some 43), none, .mov (.t 42)⟩, ⟨(some 44), (some (43, true)), .mov (.t 5)⟩, ⟨(some 45), (some (43, true)), .call (.c (.fn 21 [] [])) [(.t 44)]⟩, ⟨(some 46), (some (43, true)), .ibin .eql (.t 45) (.c (.int .i64 2))⟩, ⟨(some 47), none, .pick (.t 43) (.t 46) (.c (.bool false))⟩, ⟨(some 48), none, .mov (.t 47)⟩, ⟨(some 49), (some (48, true)), .mov (.t 2)⟩, ⟨(some 50), (some (48, true)), .call (.c (.fn 21 [] [])) [(.t 49)]⟩, ⟨(some 51), (some (48, true)), .ibin .eql (.t 50) (.c (.int .i64 2))⟩, ⟨(some 52), none, .pick (.t 48) (.t 51) (.c (.bool false))⟩, ⟨(some 0), none, .mov (.t 52)⟩]) .ret)))))))⟩

-- quitrent/quitrentlaw06.LogKeeps
def F3 : AFun := ⟨168, 3, [.tmp 6], (.seq (.reg [ ⟨(some 6), none, .mov (.c (.bool false))⟩]) (.seq (.seq (.reg [ ⟨(some 17), none, .call (.c (.fn 7 [] [])) []⟩, ⟨(some 18), none, .un .not (.t 17)⟩]) (.cond (.t 18) (.seq (.reg [ ⟨(some 6), none, .mov (.c (.bool false))⟩]) .ret) .skip)) (.seq (.seq (.reg [ ⟨(some 19), none, .mov (.t 0)⟩, ⟨(some 20), none, .len .sl (.t 19)⟩, ⟨(some 21), none, .ibin .gtr (.t 20) (.c (.int .i64 4))⟩]) (.cond (.t 21) (.seq (.reg [ ⟨(some 6), none, .mov (.c (.bool true))⟩]) .ret) .skip)) (.seq (.reg [ ⟨(some 22), none, .call (.c (.fn 8 [] [])) [(.c (.int .i64 120))]⟩, ⟨(some 7), none, .mov (.t 22)⟩]) (.seq (.reg [ ⟨(some 24), none, .mov (.t 7)⟩, ⟨(some 25), none, .call (.c (.fn 9 [] [])) [(.t 24), (.c (.int .i64 5)), (.c (.int .i64 110)), (.c (.int .i64 7))]⟩, ⟨(some 23), none, .mov (.t 25)⟩, ⟨(some 26), none, .extract (.t 23) 0⟩, ⟨(some 27), none, .extract (.t 23) 1⟩, ⟨(some 8), none, .mov (.t 26)⟩, ⟨(some 9), none, .mov (.t 27)⟩]) (.seq (.seq (.reg [ ⟨(some 28), none, .mov (.t 9)⟩, ⟨(some 29), none, .eq true .iface true (.t 28) (.c .nili)⟩]) (.cond (.t 29) (.seq (.reg [ ⟨(some 6), none, .mov (.c (.bool false))⟩]) .ret) .skip)) (.seq (.reg [ ⟨(some 30), none, .bslice 1 0 [(.str ⟨#[]⟩)] []⟩, ⟨(some 10), none, .mov (.t 30)⟩]) (.seq (.seq (.reg [ ⟨(some 11), none, .mov (.c (.int .i64 0))⟩]) (.block 0 (.loop (.seq (.seq (.reg [ ⟨(some 31), none, .mov (.t 11)⟩, ⟨(some 32), none, .mov (.t 0)⟩, ⟨(some 33), none, .len .sl (.t 32)⟩, ⟨(some 34), none, .ibin .lss (.t 31) (.t 33)⟩]) (.cond (.t 34) .skip (.exit 0))) (.seq (.block 1 (.seq (.seq (.reg [ ⟨(some 37), none, .mov (.t 11)⟩, ⟨(some 38), none, .mov (.t 1)⟩, ⟨(some 39), none, .len .sl (.t 38)⟩, ⟨(some 40), none, .ibin .lss (.t 37) (.t 39)⟩, ⟨(some 41), none, .mov (.t 40)⟩, ⟨(some 42), (some (41, true)), .mov (.t 11)⟩, ⟨(some 43), (some (41, true)), .mov (.t 2)⟩, ⟨(some 44), (some (41, true)), .len .sl (.t 43)⟩, ⟨(some 45), (some (41, true)), .ibin .lss (.t 42) (.t 44)⟩, ⟨(some 46), none, .pick (.t 41) (.t 45) (.c (.bool false))⟩]) (.cond (.t 46) (.draw [ ⟨(some 47), none, .mov (.t 7)⟩, ⟨(some 48), none, .mov (.t 1)⟩, ⟨(some 49), none, .mov (.t 11)⟩, ⟨(some 50), none, .iaddrSl 1 (.t 48) (.t 49)⟩, ⟨(some 51), none, .load false 1 (.t 50)⟩, ⟨(some 52), none, .i2i .u64 (.t 51)⟩, ⟨(some 53), none, .ibin .rem (.t 52) (.c (.int .u64 30))⟩, ⟨(some 54), none, .i2i .i64 (.t 53)⟩, ⟨(some 55), none, .mov (.t 2)⟩, ⟨(some 56), none, .mov (.t 11)⟩, ⟨(some 57), none, .iaddrSl 1 (.t 55) (.t 56)⟩, ⟨(some 58), none, .load false 1 (.t 57)⟩, ⟨(some 59), none, .i2i .u64 (.t 58)⟩, ⟨(some 60), none, .ibin .rem (.t 59) (.c (.int .u64 65))⟩, ⟨(some 61), none, .i2i .i64 (.t 60)⟩, ⟨(some 62), none, .call (.c (.fn 10 [] [])) [(.t 47), (.t 54), (.t 61)]⟩] [[], [], [], [1, 2], [3, 1, 2], [4, 3, 1, 2], [5, 4, 3, 1, 2], [6, 5, 4, 3, 1, 2], [], [], [8, 9], [10, 8, 9], [11, 10, 8, 9], [12, 11, 10, 8, 9], [13, 12, 11, 10, 8, 9], [0, 7, 14, 6, 5, 4, 3, 1, 2, 13, 12, 11, 10, 8, 9]]) .skip)) (.seq (.reg [ ⟨(some 12), none, .mov (.c (.str ⟨#[]⟩))⟩]) (.seq (.reg [ ⟨(some 13), none, .mov (.c (.bool false))⟩]) (.seq (.seq (.reg [ ⟨(some 14), none, .mov (.c (.int .i64 0))⟩]) (.block 2 (.loop (.seq (.seq (.reg [ ⟨(some 63), none, .mov (.t 14)⟩, ⟨(some 64), none, .mov (.t 0)⟩, ⟨(some 65), none, .mov (.t 11)⟩, ⟨(some 66), none, .iaddrSl 1 (.t 64) (.t 65)⟩, ⟨(some 67), none, .load false 1 (.t 66)⟩, ⟨(some 68), none, .len .sl (.t 67)⟩, ⟨(some 69), none, .ibin .lss (.t 63) (.t 68)⟩, ⟨(some 70), none, .mov (.t 69)⟩, ⟨(some 71), (some (70, true)), .mov (.t 14)⟩, ⟨(some 72), (some (70, true)), .ibin .lss (.t 71) (.c (.int .i64 10))⟩, ⟨(some 73), none, .pick (.t 70) (.t 72) (.c (.bool false))⟩]) (.cond (.t 73) .skip (.exit 2))) (.seq (.block 3 (.seq (.seq (.reg [ ⟨(some 76), none, .mov (.t 0)⟩, ⟨(some 77), none, .mov (.t 11)⟩, ⟨(some 78), none, .iaddrSl 1 (.t 76) (.t 77)⟩, ⟨(some 79), none, .load false 1 (.t 78)⟩, ⟨(some 80), none, .mov (.t 14)⟩, ⟨(some 81), none, .iaddrSl 1 (.t 79) (.t 80)⟩, ⟨(some 82), none, .load false 1 (.t 81)⟩, ⟨(some 83), none, .len .str (.t 82)⟩, ⟨(some 84), none, .ibin .gtr (.t 83) (.c (.int .i64 200))⟩]) (.cond (.t 84) (.seq (.reg [ ⟨(some 6), none, .mov (.c (.bool true))⟩]) .ret) .skip)) (.seq (.reg [ ⟨(some 85), none, .mov (.t 8)⟩, ⟨(some 86), none, .mov (.t 0)⟩, ⟨(some 87), none, .mov (.t 11)⟩, ⟨(some 88), none, .iaddrSl 1 (.t 86) (.t 87)⟩, ⟨(some 89), none, .load false 1 (.t 88)⟩, ⟨(some 90), none, .mov (.t 14)⟩, ⟨(some 91), none, .iaddrSl 1 (.t 89) (.t 90)⟩, ⟨(some 92), none, .load false 1 (.t 91)⟩, ⟨(some 93), none, .call (.c (.fn 11 [] [])) [(.t 85), (.t 92)]⟩, ⟨(some 15), none, .mov (.t 93)⟩]) (.seq (.seq (.reg [ ⟨(some 94), none, .mov (.t 15)⟩, ⟨(some 95), none, .call (.c (.fn 12 [] [])) [(.t 94)]⟩, ⟨(some 96), none, .ibin .eql (.t 95) (.c (.int .i64 7))⟩]) (.cond (.t 96) (.exit 2) .skip)) (.seq (.seq (.reg [ ⟨(some 97), none, .mov (.t 15)⟩, ⟨(some 98), none, .eq true .iface true (.t 97) (.c .nili)⟩]) (.cond (.t 98) (.seq (.seq (.reg [ ⟨(some 99), none, .mov (.t 15)⟩, ⟨(some 100), none, .call (.c (.fn 12 [] [])) [(.t 99)]⟩, ⟨(some 101), none, .ibin .neq (.t 100) (.c (.int .i64 14))⟩, ⟨(some 102), none, .mov (.t 101)⟩, ⟨(some 103), (some (102, false)), .mov (.t 8)⟩, ⟨(some 104), (some (102, false)), .call (.c (.fn 11 [] [])) [(.t 103), (.c (.str ⟨#[120]⟩))]⟩, ⟨(some 105), (some (102, false)), .call (.c (.fn 12 [] [])) [(.t 104)]⟩, ⟨(some 106), (some (102, false)), .ibin .neq (.t 105) (.c (.int .i64 14))⟩, ⟨(some 107), none, .pick (.t 102) (.c (.bool true)) (.t 106)⟩, ⟨(some 108), none, .mov (.t 107)⟩, ⟨(some 109), (some (108, false)), .mov (.t 8)⟩, ⟨(some 110), (some (108, false)), .call (.c (.fn 13 [] [])) [(.t 109), (.c (.int .i64 0))]⟩, ⟨(some 111), (some (108, false)), .call (.c (.fn 12 [] [])) [(.t 110)]⟩, ⟨(some 112), (some (108, false)), .ibin .neq (.t 111) (.c (.int .i64 14))⟩, ⟨(some 113), none, .pick (.t 108) (.c (.bool true)) (.t 112)⟩]) (.cond (.t 113) (.seq (.reg [ ⟨(some 6), none, .mov (.c (.bool false))⟩]) .ret) .skip)) (.seq (.reg [ ⟨(some 114), none, .mov (.t 0)⟩, ⟨(some 115), none, .mov (.t 11)⟩, ⟨(some 116), none, .iaddrSl 1 (.t 114) (.t 115)⟩, ⟨(some 117), none, .load false 1 (.t 116)⟩, ⟨(some 118), none, .mov (.t 14)⟩, ⟨(some 119), none, .iaddrSl 1 (.t 117) (.t 118)⟩, ⟨(some 120), none, .load false 1 (.t 119)⟩, ⟨(some 12), none, .mov (.t 120)⟩]) (.seq (.reg [ ⟨(some 13), none, .mov (.c (.bool true))⟩]) (.exit 2)))) .skip)) (.reg [ ⟨(some 121), none, .mov (.t 10)⟩, ⟨(some 122), none, .mov (.t 0)⟩, ⟨(some 123), none, .mov (.t 11)⟩, ⟨(some 124), none, .iaddrSl 1 (.t 122) (.t 123)⟩, ⟨(some 125), none, .load false 1 (.t 124)⟩, ⟨(some 126), none, .mov (.t 14)⟩, ⟨(some 127), none, .iaddrSl 1 (.t 125) (.t 126)⟩, ⟨(some 128), none, .load false 1 (.t 127)⟩, ⟨(some 129), none, .bslice 1 1 [(.str ⟨#[]⟩)] [(0, 1, (.t 128))]⟩, ⟨(some 130), none, .append 1 16 [(.str ⟨#[]⟩)] (.t 121) (.t 129)⟩, ⟨(some 10), none, .mov (.t 130)⟩])))))) (.reg [ ⟨(some 74), none, .mov (.t 14)⟩, ⟨(some 75), none, .ibin .add (.t 74) (.c (.int .i64 1))⟩, ⟨(some 14), none, .mov (.t 75)⟩])))))) (.seq (.seq (.reg [ ⟨(some 131), none, .mov (.t 7)⟩, ⟨(some 132), none, .call (.c (.fn 14 [] [])) [(.t 131)]⟩]) (.cond (.t 132) (.seq (.reg [ ⟨(some 133), none, .mov (.t 7)⟩, ⟨(some 134), none, .call (.c (.fn 10 [] [])) [(.t 133), (.c (.int .i64 0)), (.c (.int .i64 0))]⟩]) (.reg [ ⟨(some 135), none, .mov (.t 7)⟩, ⟨(some 136), none, .call (.c (.fn 16 [] [])) [(.c (.int .i64 1))]⟩, ⟨(some 137), none, .call (.c (.fn 15 [] [])) [(.t 135), (.c (.int .i64 0)), (.t 136)]⟩])) .skip)) (.seq (.reg [ ⟨(some 138), none, .mov (.t 7)⟩, ⟨(some 139), none, .call (.c (.fn 17 [] [])) [(.t 138)]⟩]) (.seq (.reg [ ⟨(some 141), none, .mov (.t 7)⟩, ⟨(some 142), none, .call (.c (.fn 9 [] [])) [(.t 141), (.c (.int .i64 5)), (.c (.int .i64 110)), (.c (.int .i64 7))]⟩, ⟨(some 140), none, .mov (.t 142)⟩, ⟨(some 143), none, .extract (.t 140) 0⟩, ⟨(some 144), none, .extract (.t 140) 1⟩, ⟨(some 8), none, .mov (.t 143)⟩, ⟨(some 9), none, .mov (.t 144)⟩]) (.seq (.seq (.reg [ ⟨(some 145), none, .mov (.t 9)⟩, ⟨(some 146), none, .eq true .iface true (.t 145) (.c .nili)⟩]) (.cond (.t 146) (.seq (.reg [ ⟨(some 6), none, .mov (.c (.bool false))⟩]) .ret) .skip)) (.seq (.reg [ ⟨(some 147), none, .mov (.t 8)⟩, ⟨(some 148), none, .call (.c (.fn 18 [] [])) [(.t 147)]⟩, ⟨(some 16), none, .mov (.t 148)⟩]) (.seq (.reg [ ⟨(some 149), none, .mov (.t 13)⟩, ⟨(some 150), none, .mov (.t 149)⟩, ⟨(some 151), (some (150, true)), .mov (.t 16)⟩, ⟨(some 152), (some (150, true)), .bslice 1 0 [(.str ⟨#[]⟩)] []⟩, ⟨(some 153), (some (150, true)), .mov (.t 10)⟩, ⟨(some 154), (some (150, true)), .append 1 16 [(.str ⟨#[]⟩)] (.t 152) (.t 153)⟩, ⟨(some 155), (some (150, true)), .mov (.t 12)⟩, ⟨(some 156), (some (150, true)), .bslice 1 1 [(.str ⟨#[]⟩)] [(0, 1, (.t 155))]⟩, ⟨(some 157), (some (150, true)), .append 1 16 [(.str ⟨#[]⟩)] (.t 154) (.t 156)⟩, ⟨(some 158), (some (150, true)), .call (.c (.fn 19 [] [])) [(.t 151), (.t 157)]⟩, ⟨(some 159), none, .pick (.t 150) (.t 158) (.c (.bool false))⟩]) (.cond (.t 159) (.reg [ ⟨(some 160), none, .mov (.t 10)⟩, ⟨(some 161), none, .mov (.t 12)⟩, ⟨(some 162), none, .bslice 1 1 [(.str ⟨#[]⟩)] [(0, 1, (.t 161))]⟩, ⟨(some 163), none, .append 1 16 [(.str ⟨#[]⟩)] (.t 160) (.t 162)⟩, ⟨(some 10), none, .mov (.t 163)⟩]) (.seq (.reg [ ⟨(some 164), none, .mov (.t 16)⟩, ⟨(some 165), none, .mov (.t 10)⟩, ⟨(some 166), none, .call (.c (.fn 19 [] [])) [(.t 164), (.t 165)]⟩, ⟨(some 167), none, .un .not (.t 166)⟩]) (.cond (.t 167) (.seq (.reg [ ⟨(some 6), none, .mov (.c (.bool false))⟩]) .ret) .skip)))))))))))))) (.reg [ ⟨(some 35), none, .mov (.t 11)⟩, ⟨(some 36), none, .ibin .add (.t 35) (.c (.int .i64 1))⟩, ⟨(some 11), none, .mov (.t 36)⟩])))))) (.seq (.reg [ ⟨(some 6), none, .mov (.c (.bool true))⟩]) .ret)))))))))⟩

-- quitrent/quitrentlaw06.LogResets
def F4 : AFun := ⟨112, 3, [.tmp 6], (.seq (.reg [ ⟨(some 6), none, .mov (.c (.bool false))⟩]) (.seq (.seq (.reg [ ⟨(some 18), none, .call (.c (.fn 7 [] [])) []⟩, ⟨(some 19), none, .un .not (.t 18)⟩]) (.cond (.t 19) (.seq (.reg [ ⟨(some 6), none, .mov (.c (.bool false))⟩]) .ret) .skip)) (.seq (.seq (.reg [ ⟨(some 20), none, .mov (.t 0)⟩, ⟨(some 21), none, .len .sl (.t 20)⟩, ⟨(some 22), none, .ibin .gtr (.t 21) (.c (.int .i64 8))⟩]) (.cond (.t 22) (.seq (.reg [ ⟨(some 6), none, .mov (.c (.bool true))⟩]) .ret) .skip)) (.seq (.reg [ ⟨(some 23), none, .call (.c (.fn 8 [] [])) [(.c (.int .i64 60))]⟩, ⟨(some 7), none, .mov (.t 23)⟩]) (.seq (.reg [ ⟨(some 25), none, .mov (.t 7)⟩, ⟨(some 26), none, .call (.c (.fn 9 [] [])) [(.t 25), (.c (.int .i64 0)), (.c (.int .i64 60)), (.c (.int .i64 3))]⟩, ⟨(some 24), none, .mov (.t 26)⟩, ⟨(some 27), none, .extract (.t 24) 0⟩, ⟨(some 28), none, .extract (.t 24) 1⟩, ⟨(some 8), none, .mov (.t 27)⟩, ⟨(some 9), none, .mov (.t 28)⟩]) (.seq (.seq (.reg [ ⟨(some 29), none, .mov (.t 9)⟩, ⟨(some 30), none, .eq true .iface true (.t 29) (.c .nili)⟩]) (.cond (.t 30) (.seq (.reg [ ⟨(some 6), none, .mov (.c (.bool false))⟩]) .ret) .skip)) (.seq (.seq (.reg [ ⟨(some 10), none, .mov (.c (.int .i64 0))⟩]) (.block 0 (.loop (.seq (.seq (.reg [ ⟨(some 31), none, .mov (.t 10)⟩, ⟨(some 32), none, .mov (.t 0)⟩, ⟨(some 33), none, .len .sl (.t 32)⟩, ⟨(some 34), none, .ibin .lss (.t 31) (.t 33)⟩]) (.cond (.t 34) .skip (.exit 0))) (.seq (.block 1 (.seq (.seq (.reg [ ⟨(some 37), none, .mov (.t 0)⟩, ⟨(some 38), none, .mov (.t 10)⟩, ⟨(some 39), none, .iaddrSl 1 (.t 37) (.t 38)⟩, ⟨(some 40), none, .load false 1 (.t 39)⟩, ⟨(some 41), none, .len .str (.t 40)⟩, ⟨(some 42), none, .ibin .gtr (.t 41) (.c (.int .i64 200))⟩]) (.cond (.t 42) (.seq (.reg [ ⟨(some 6), none, .mov (.c (.bool true))⟩]) .ret) .skip)) (.seq (.reg [ ⟨(some 43), none, .mov (.t 8)⟩, ⟨(some 44), none, .mov (.t 0)⟩, ⟨(some 45), none, .mov (.t 10)⟩, ⟨(some 46), none, .iaddrSl 1 (.t 44) (.t 45)⟩, ⟨(some 47), none, .load false 1 (.t 46)⟩, ⟨(some 48), none, .call (.c (.fn 11 [] [])) [(.t 43), (.t 47)]⟩, ⟨(some 49), none, .eq true .iface true (.t 48) (.c .nili)⟩]) (.cond (.t 49) (.seq (.reg [ ⟨(some 6), none, .mov (.c (.bool false))⟩]) .ret) .skip)))) (.reg [ ⟨(some 35), none, .mov (.t 10)⟩, ⟨(some 36), none, .ibin .add (.t 35) (.c (.int .i64 1))⟩, ⟨(some 10), none, .mov (.t 36)⟩])))))) (.seq (.reg [ ⟨(some 50), none, .mov (.t 7)⟩, ⟨(some 51), none, .call (.c (.fn 20 [] [])) [(.t 50)]⟩, ⟨(some 11), none, .mov (.t 51)⟩]) (.seq (.reg [ ⟨(some 52), none, .mov (.t 7)⟩, ⟨(some 53), none, .mov (.t 1)⟩, ⟨(some 54), none, .i2i .u64 (.t 53)⟩, ⟨(some 55), none, .ibin .rem (.t 54) (.c (.int .u64 40))⟩, ⟨(some 56), none, .i2i .i64 (.t 55)⟩, ⟨(some 57), none, .mov (.t 2)⟩, ⟨(some 58), none, .i2i .u64 (.t 57)⟩, ⟨(some 59), none, .ibin .rem (.t 58) (.c (.int .u64 65))⟩, ⟨(some 60), none, .i2i .i64 (.t 59)⟩, ⟨(some 61), none, .call (.c (.fn 10 [] [])) [(.t 52), (.t 56), (.t 60)]⟩]) (.seq (.reg [ ⟨(some 62), none, .mov (.t 8)⟩, ⟨(some 63), none, .call (.c (.fn 13 [] [])) [(.t 62), (.c (.int .i64 50))]⟩, ⟨(some 12), none, .mov (.t 63)⟩]) (.seq (.reg [ ⟨(some 64), none, .mov (.t 7)⟩, ⟨(some 65), none, .call (.c (.fn 20 [] [])) [(.t 64)]⟩, ⟨(some 66), none, .mov (.t 11)⟩, ⟨(some 67), none, .ibin .sub (.t 65) (.t 66)⟩, ⟨(some 13), none, .mov (.t 67)⟩]) (.seq (.reg [ ⟨(some 68), none, .mov (.t 7)⟩, ⟨(some 69), none, .call (.c (.fn 14 [] [])) [(.t 68)]⟩, ⟨(some 14), none, .mov (.t 69)⟩]) (.seq (.seq (.reg [ ⟨(some 70), none, .mov (.t 14)⟩, ⟨(some 71), none, .un .not (.t 70)⟩]) (.cond (.t 71) (.reg [ ⟨(some 72), none, .mov (.t 7)⟩, ⟨(some 73), none, .call (.c (.fn 17 [] [])) [(.t 72)]⟩]) .skip)) (.seq (.reg [ ⟨(some 75), none, .mov (.t 7)⟩, ⟨(some 76), none, .call (.c (.fn 9 [] [])) [(.t 75), (.c (.int .i64 0)), (.c (.int .i64 60)), (.c (.int .i64 3))]⟩, ⟨(some 74), none, .mov (.t 76)⟩, ⟨(some 77), none, .extract (.t 74) 0⟩, ⟨(some 78), none, .extract (.t 74) 1⟩, ⟨(some 15), none, .mov (.t 77)⟩, ⟨(some 16), none, .mov (.t 78)⟩]) (.seq (.seq (.reg [ ⟨(some 79), none, .mov (.t 16)⟩, ⟨(some 80), none, .eq true .iface true (.t 79) (.c .nili)⟩]) (.cond (.t 80) (.seq (.reg [ ⟨(some 6), none, .mov (.c (.bool false))⟩]) .ret) .skip)) (.seq (.reg [ ⟨(some 81), none, .mov (.t 15)⟩, ⟨(some 82), none, .call (.c (.fn 18 [] [])) [(.t 81)]⟩, ⟨(some 83), none, .len .sl (.t 82)⟩, ⟨(some 17), none, .mov (.t 83)⟩]) (.seq (.seq (.reg [ ⟨(some 84), none, .mov (.t 12)⟩, ⟨(some 85), none, .eq false .iface true (.t 84) (.c .nili)⟩]) (.cond (.t 85) (.seq (.reg [ ⟨(some 86), none, .mov (.t 14)⟩, ⟨(some 87), none, .mov (.t 86)⟩, ⟨(some 88), (some (87, true)), .mov (.t 17)⟩, ⟨(some 89), (some (87, true)), .ibin .eql (.t 88) (.c (.int .i64 0))⟩, ⟨(some 90), none, .pick (.t 87) (.t 89) (.c (.bool false))⟩, ⟨(some 6), none, .mov (.t 90)⟩]) .ret) .skip)) (.seq (.reg [ ⟨(some 91), none, .mov (.t 12)⟩, ⟨(some 92), none, .call (.c (.fn 12 [] [])) [(.t 91)]⟩, ⟨(some 93), none, .ibin .eql (.t 92) (.c (.int .i64 14))⟩, ⟨(some 94), none, .mov (.t 93)⟩, ⟨(some 95), (some (94, true)), .mov (.t 14)⟩, ⟨(some 96), (some (94, true)), .un .not (.t 95)⟩, ⟨(some 97), none, .pick (.t 94) (.t 96) (.c (.bool false))⟩, ⟨(some 98), none, .mov (.t 97)⟩, ⟨(some 99), (some (98, true)), .mov (.t 17)⟩, ⟨(some 100), (some (98, true)), .ibin .eql (.t 99) (.c (.int .i64 0))⟩, ⟨(some 101), (some (98, true)), .mov (.t 100)⟩, ⟨(some 102), (some (101, false)), .mov (.t 13)⟩, ⟨(some 103), (some (101, false)), .ibin .eql (.t 102) (.c (.int .i64 0))⟩, ⟨(some 104), (some (101, false)), .mov (.t 103)⟩, ⟨(some 105), (some (104, true)), .mov (.t 15)⟩, ⟨(some 106), (some (104, true)), .call (.c (.fn 18 [] [])) [(.t 105)]⟩, ⟨(some 107), (some (104, true)), .mov (.t 0)⟩, ⟨(some 108), (some (104, true)), .call (.c (.fn 19 [] [])) [(.t 106), (.t 107)]⟩, ⟨(some 109), (some (101, false)), .pick (.t 104) (.t 108) (.c (.bool false))⟩, ⟨(some 110), (some (98, true)), .pick (.t 101) (.c (.bool true)) (.t 109)⟩, ⟨(some 111), none, .pick (.t 98) (.t 110) (.c (.bool false))⟩, ⟨(some 6), none, .mov (.t 111)⟩]) .ret))))))))))))))))))⟩

-- quitrent/quitrentlaw06.LogFull
def F5 : AFun := ⟨117, 1, [.tmp 2], (.seq (.reg [ ⟨(some 2), none, .mov (.c (.bool false))⟩]) (.seq (.seq (.reg [ ⟨(some 15), none, .call (.c (.fn 7 [] [])) []⟩, ⟨(some 16), none, .un .not (.t 15)⟩]) (.cond (.t 16) (.seq (.reg [ ⟨(some 2), none, .mov (.c (.bool false))⟩]) .ret) .skip)) (.seq (.reg [ ⟨(some 17), none, .call (.c (.fn 8 [] [])) [(.c (.int .i64 12))]⟩, ⟨(some 3), none, .mov (.t 17)⟩]) (.seq (.reg [ ⟨(some 19), none, .mov (.t 3)⟩, ⟨(some 20), none, .call (.c (.fn 9 [] [])) [(.t 19), (.c (.int .i64 1)), (.c (.int .i64 11)), (.c (.int .i64 0))]⟩, ⟨(some 18), none, .mov (.t 20)⟩, ⟨(some 21), none, .extract (.t 18) 0⟩, ⟨(some 22), none, .extract (.t 18) 1⟩, ⟨(some 4), none, .mov (.t 21)⟩, ⟨(some 5), none, .mov (.t 22)⟩]) (.seq (.seq (.reg [ ⟨(some 23), none, .mov (.t 5)⟩, ⟨(some 24), none, .eq true .iface true (.t 23) (.c .nili)⟩]) (.cond (.t 24) (.seq (.reg [ ⟨(some 2), none, .mov (.c (.bool false))⟩]) .ret) .skip)) (.seq (.reg [ ⟨(some 25), none, .bslice 1 0 [(.str ⟨#[]⟩)] []⟩, ⟨(some 6), none, .mov (.t 25)⟩]) (.seq (.seq (.reg [ ⟨(some 7), none, .mov (.c (.int .i64 0))⟩]) (.block 0 (.loop (.seq (.seq (.reg [ ⟨(some 26), none, .mov (.t 7)⟩, ⟨(some 27), none, .mov (.t 0)⟩, ⟨(some 28), none, .len .sl (.t 27)⟩, ⟨(some 29), none, .ibin .lss (.t 26) (.t 28)⟩, ⟨(some 30), none, .mov (.t 29)⟩, ⟨(some 31), (some (30, true)), .mov (.t 7)⟩, ⟨(some 32), (some (30, true)), .ibin .lss (.t 31) (.c (.int .i64 30))⟩, ⟨(some 33), none, .pick (.t 30) (.t 32) (.c (.bool false))⟩]) (.cond (.t 33) .skip (.exit 0))) (.seq (.block 1 (.seq (.reg [ ⟨(some 36), none, .mov (.t 0)⟩, ⟨(some 37), none, .mov (.t 7)⟩, ⟨(some 38), none, .iaddrSl 1 (.t 36) (.t 37)⟩, ⟨(some 39), none, .load false 1 (.t 38)⟩, ⟨(some 40), none, .i2i .u64 (.t 39)⟩, ⟨(some 41), none, .ibin .rem (.t 40) (.c (.int .u64 200))⟩, ⟨(some 42), none, .i2i .i64 (.t 41)⟩, ⟨(some 43), none, .mkslice 1 1 [(.int .u8 0)] (.t 42) (.t 42)⟩, ⟨(some 44), none, .b2s (.t 43)⟩, ⟨(some 8), none, .mov (.t 44)⟩]) (.seq (.reg [ ⟨(some 45), none, .mov (.t 4)⟩, ⟨(some 46), none, .call (.c (.fn 21 [] [])) [(.t 45)]⟩, ⟨(some 9), none, .mov (.t 46)⟩]) (.seq (.reg [ ⟨(some 47), none, .mov (.t 3)⟩, ⟨(some 48), none, .call (.c (.fn 22 [] [])) [(.t 47)]⟩, ⟨(some 10), none, .mov (.t 48)⟩]) (.seq (.reg [ ⟨(some 49), none, .mov (.t 4)⟩, ⟨(some 50), none, .mov (.t 8)⟩, ⟨(some 51), none, .call (.c (.fn 11 [] [])) [(.t 49), (.t 50)]⟩, ⟨(some 11), none, .mov (.t 51)⟩]) (.seq (.reg [ ⟨(some 52), none, .mov (.t 8)⟩, ⟨(some 53), none, .len .str (.t 52)⟩, ⟨(some 54), none, .ibin .add (.t 53) (.c (.int .i64 8))⟩, ⟨(some 55), none, .ibin .add (.t 54) (.c (.int .i64 55))⟩, ⟨(some 56), none, .ibin .quo (.t 55) (.c (.int .i64 56))⟩, ⟨(some 12), none, .mov (.t 56)⟩]) (.seq (.seq (.reg [ ⟨(some 57), none, .mov (.t 12)⟩, ⟨(some 58), none, .mov (.t 9)⟩, ⟨(some 59), none, .ibin .gtr (.t 57) (.t 58)⟩]) (.cond (.t 59) (.seq (.seq (.reg [ ⟨(some 60), none, .mov (.t 11)⟩, ⟨(some 61), none, .call (.c (.fn 12 [] [])) [(.t 60)]⟩, ⟨(some 62), none, .ibin .neq (.t 61) (.c (.int .i64 7))⟩, ⟨(some 63), none, .mov (.t 62)⟩, ⟨(some 64), (some (63, false)), .mov (.t 4)⟩, ⟨(some 65), (some (63, false)), .call (.c (.fn 21 [] [])) [(.t 64)]⟩, ⟨(some 66), (some (63, false)), .mov (.t 9)⟩, ⟨(some 67), (some (63, false)), .ibin .neq (.t 65) (.t 66)⟩, ⟨(some 68), none, .pick (.t 63) (.c (.bool true)) (.t 67)⟩, ⟨(some 69), none, .mov (.t 68)⟩, ⟨(some 70), (some (69, false)), .mov (.t 3)⟩, ⟨(some 71), (some (69, false)), .call (.c (.fn 22 [] [])) [(.t 70)]⟩, ⟨(some 72), (some (69, false)), .mov (.t 10)⟩, ⟨(some 73), (some (69, false)), .ibin .neq (.t 71) (.t 72)⟩, ⟨(some 74), none, .pick (.t 69) (.c (.bool true)) (.t 73)⟩]) (.cond (.t 74) (.seq (.reg [ ⟨(some 2), none, .mov (.c (.bool false))⟩]) .ret) .skip)) (.exit 1)) .skip)) (.seq (.seq (.reg [ ⟨(some 75), none, .mov (.t 11)⟩, ⟨(some 76), none, .eq true .iface true (.t 75) (.c .nili)⟩, ⟨(some 77), none, .mov (.t 76)⟩, ⟨(some 78), (some (77, false)), .mov (.t 4)⟩, ⟨(some 79), (some (77, false)), .call (.c (.fn 21 [] [])) [(.t 78)]⟩, ⟨(some 80), (some (77, false)), .mov (.t 9)⟩, ⟨(some 81), (some (77, false)), .mov (.t 12)⟩, ⟨(some 82), (some (77, false)), .ibin .sub (.t 80) (.t 81)⟩, ⟨(some 83), (some (77, false)), .ibin .neq (.t 79) (.t 82)⟩, ⟨(some 84), none, .pick (.t 77) (.c (.bool true)) (.t 83)⟩]) (.cond (.t 84) (.seq (.reg [ ⟨(some 2), none, .mov (.c (.bool false))⟩]) .ret) .skip)) (.reg [ ⟨(some 85), none, .mov (.t 6)⟩, ⟨(some 86), none, .mov (.t 8)⟩, ⟨(some 87), none, .bslice 1 1 [(.str ⟨#[]⟩)] [(0, 1, (.t 86))]⟩, ⟨(some 88), none, .append 1 16 [(.str ⟨#[]⟩)] (.t 85) (.t 87)⟩, ⟨(some 6), none, .mov (.t 88)⟩]))))))))) (.reg [ ⟨(some 34), none, .mov (.t 7)⟩, ⟨(some 35), none, .ibin .add (.t 34) (.c (.int .i64 1))⟩, ⟨(some 7), none, .mov (.t 35)⟩])))))) (.seq (.reg [ ⟨(some 90), none, .mov (.t 3)⟩, ⟨(some 91), none, .call (.c (.fn 9 [] [])) [(.t 90), (.c (.int .i64 1)), (.c (.int .i64 11)), (.c (.int .i64 0))]⟩, ⟨(some 89), none, .mov (.t 91)⟩, ⟨(some 92), none, .extract (.t 89) 0⟩, ⟨(some 93), none, .extract (.t 89) 1⟩, ⟨(some 13), none, .mov (.t 92)⟩, ⟨(some 14), none, .mov (.t 93)⟩]) (.seq (.reg [ ⟨(some 94), none, .mov (.t 14)⟩, ⟨(some 95), none, .eq false .iface true (.t 94) (.c .nili)⟩, ⟨(some 96), none, .mov (.t 95)⟩, ⟨(some 97), (some (96, true)), .mov (.t 13)⟩, ⟨(some 98), (some (96, true)), .call (.c (.fn 18 [] [])) [(.t 97)]⟩, ⟨(some 99), (some (96, true)), .mov (.t 6)⟩, ⟨(some 100), (some (96, true)), .call (.c (.fn 19 [] [])) [(.t 98), (.t 99)]⟩, ⟨(some 101), none, .pick (.t 96) (.t 100) (.c (.bool false))⟩, ⟨(some 102), none, .mov (.t 101)⟩, ⟨(some 103), (some (102, true)), .mov (.t 13)⟩, ⟨(some 104), (some (102, true)), .call (.c (.fn 21 [] [])) [(.t 103)]⟩, ⟨(some 105), (some (102, true)), .mov (.t 4)⟩, ⟨(some 106), (some (102, true)), .call (.c (.fn 21 [] [])) [(.t 105)]⟩, ⟨(some 107), (some (102, true)), .ibin .eql (.t 104) (.t 106)⟩, ⟨(some 108), none, .pick (.t 102) (.t 107) (.c (.bool false))⟩, ⟨(some 109), none, .mov (.t 108)⟩, ⟨(some 110), (some (109, true)), .mov (.t 13)⟩, ⟨(some 111), (some (109, true)), .call (.c (.fn 23 [] [])) [(.t 110)]⟩, ⟨(some 112), (some (109, true)), .mov (.t 6)⟩, ⟨(some 113), (some (109, true)), .len .sl (.t 112)⟩, ⟨(some 114), (some (109, true)), .ibin .add (.t 113) (.c (.int .i64 1))⟩, ⟨(some 115), (some (109, true)), .ibin .eql (.t 111) (.t 114)⟩, ⟨(some 116), none, .pick (.t 109) (.t 115) (.c (.bool false))⟩, ⟨(some 2), none, .mov (.t 116)⟩]) .ret)))))))))⟩

theorem c19 : cFun Tryd.prog [1, 0, 4, 5, 6, 7, 2, 8, 9, 10, 11, 12, 13, 3] Tryd.f19 = some F19 := by kernel_rfl
theorem c16 : cFun Tryd.prog [1, 0, 4, 5, 6, 7, 2, 8, 9, 10, 11, 12, 13, 3] Tryd.f16 = some F16 := by kernel_rfl
theorem c7 : cFun Tryd.prog [1, 0, 4, 5, 6, 7, 2, 8, 9, 10, 11, 12, 13, 3] Tryd.f7 = some F7 := by kernel_rfl
theorem c3 : cFun Tryd.prog [1, 0, 4, 5, 6, 7, 2, 8, 9, 10, 11, 12, 13, 3] Tryd.f3 = some F3 := by kernel_rfl
theorem c4 : cFun Tryd.prog [1, 0, 4, 5, 6, 7, 2, 8, 9, 10, 11, 12, 13, 3] Tryd.f4 = some F4 := by kernel_rfl
theorem c5 : cFun Tryd.prog [1, 0, 4, 5, 6, 7, 2, 8, 9, 10, 11, 12, 13, 3] Tryd.f5 = some F5 := by kernel_rfl
end Go.Proofs.YthapdikdeoeplaaDoor.H6
end

section
open Go AH
set_option linter.unusedSimpArgs false
set_option maxRecDepth 100000
namespace Go.Proofs.YthapdikdeoeplaaDoor.H6
/- The laws' helpers: joined, same, zeros; Open as an entry. -/
theorem catS_nil : catS [] = ⟨#[]⟩ := rfl
theorem catS_snoc (l : List ByteArray) (x : ByteArray) : catS (l ++ [x]) = catS l ++ x := by
  apply ByteArray.ext
  simp [catS]
theorem catS_app (a b : List ByteArray) : catS (a ++ b) = catS a ++ catS b := by
  apply ByteArray.ext
  simp [catS]
theorem catS_le {L : List ByteArray} {m : Nat} (h : ∀ s ∈ L, s.size ≤ m) : (catS L).size ≤ L.length * m := by
  have := flat_len (m := m) (L.map (·.data.toList)) fun x hx => by
    obtain ⟨s, hs, rfl⟩ := List.mem_map.1 hx
    have := h s hs
    rw [Array.length_toList]; exact this
  rw [List.length_map] at this
  simpa [catS, ByteArray.size] using this
theorem okL0 : CtxOK S0 (ctxU S0 [] []) := ctxU_ok trivial trivial mixed
def saSt (L1 L2 : List ByteArray) (i : Nat) : St := ⟨[(5, .int .i64 i), (1, .slc 1 0 L2.length none), (0, .slc 0 0 L1.length none)], [some (.row true 1 (L1.map strC)), some (.row true 1 (L2.map strC))]⟩
theorem lsame_ok (L1 L2 : List ByteArray) (h1 : L1.length ≤ 1048576) (h2 : L2.length ≤ 1048576) : CallA1 S0 19 [.slc 0 0 L1.length none, .slc 1 0 L2.length none] [some (.row true 1 (L1.map strC)), some (.row true 1 (L2.map strC))] fun r _ => r = .bool (decide (L1 = L2)) := by
  refine fun_sound okL0 Tryd.func19 c19 ?_
  unfold wpF F19
  cases hn : ((L1.length : Int) != (L2.length : Int))
  rotate_left
  · have e : decide (L1 = L2) = false := decide_eq_false fun q => by rw [q] at hn; simp at hn
    simp only [AH.SD, AH.wpOp, AOp.call?, AOp.next?, bstep, AOp.map, Opd.ev, tget, argTm, evs, AV.cells, St.eff, St.put, applyWr, mset, terase, pureE, unAV, intOp, binAV, fill, mget, AH.rowAt, AH.part, retQ, rvs, retV, AH.splice, AH.sliceElems, AH.bytesOf, AH.strOp, AH.bound, AH.addLog, AH.missQ, AH.minmaxAV, AH.wpOpD, AH.readOf, AH.effOf, AH.mapAt, AH.iterAt, Nat.reduceBEq, Nat.reduceAdd, Nat.reduceLT, ↓reduceIte, Nat.reduceEqDiff, Nat.reduceLeDiff, Nat.reduceSub, Nat.reduceMul, Int.reduceSub, Int.reduceToNat, Int.reduceBEq, Int.reduceBNe, Int.reduceLT, Int.reduceGT, Int.reduceLE, Int.reduceGE, Int.reduceNeg, Int.reduceAdd, hn, e]
  have hn' : L1.length = L2.length := by
    simp only [bne_eq_false_iff_eq] at hn; omega
  simp only [AH.SD, AH.wpOp, AOp.call?, AOp.next?, bstep, AOp.map, Opd.ev, tget, argTm, evs, AV.cells, St.eff, St.put, applyWr, mset, terase, pureE, unAV, intOp, binAV, fill, mget, AH.rowAt, AH.part, retQ, rvs, retV, AH.splice, AH.sliceElems, AH.bytesOf, AH.strOp, AH.bound, AH.addLog, AH.missQ, AH.minmaxAV, AH.wpOpD, AH.readOf, AH.effOf, AH.mapAt, AH.iterAt, Nat.reduceBEq, Nat.reduceAdd, Nat.reduceLT, ↓reduceIte, Nat.reduceEqDiff, Nat.reduceLeDiff, Nat.reduceSub, Nat.reduceMul, Int.reduceSub, Int.reduceToNat, Int.reduceBEq, Int.reduceBNe, Int.reduceLT, Int.reduceGT, Int.reduceLE, Int.reduceGE, Int.reduceNeg, Int.reduceAdd, hn]
  refine loop_do [0, 1] [5, 1, 0] [] (α := Nat) (fun i => L1.length - i) (saSt L1 L2) (fun i => i ≤ L1.length ∧ L1.take i = L2.take i) 0 ⟨Nat.zero_le _, rfl⟩ (by simp only [AH.SD, AH.wpOp, AOp.call?, AOp.next?, bstep, AOp.map, Opd.ev, tget, argTm, evs, AV.cells, St.eff, St.put, applyWr, mset, terase, pureE, unAV, intOp, binAV, fill, mget, AH.rowAt, AH.part, retQ, rvs, retV, AH.splice, AH.sliceElems, AH.bytesOf, AH.strOp, AH.bound, AH.addLog, AH.missQ, AH.minmaxAV, AH.wpOpD, AH.readOf, AH.effOf, AH.mapAt, AH.iterAt, Nat.reduceBEq, Nat.reduceAdd, Nat.reduceLT, ↓reduceIte, Nat.reduceEqDiff, Nat.reduceLeDiff, Nat.reduceSub, Nat.reduceMul, Int.reduceSub, Int.reduceToNat, Int.reduceBEq, Int.reduceBNe, Int.reduceLT, Int.reduceGT, Int.reduceLE, Int.reduceGE, Int.reduceNeg, Int.reduceAdd, AH.PD, heads, distN, AH.inN, posN, packM, packB, packTm, liveB, AV.inB, AV.insB, AV.ren, AV.rens, Blk.ren, Blk.inB, vstep, tput, saSt]) ?_
  rintro X i ⟨hi, hq⟩ ih
  simp only [AH.SD, AH.wpOp, AOp.call?, AOp.next?, bstep, AOp.map, Opd.ev, tget, argTm, evs, AV.cells, St.eff, St.put, applyWr, mset, terase, pureE, unAV, intOp, binAV, fill, mget, AH.rowAt, AH.part, retQ, rvs, retV, AH.splice, AH.sliceElems, AH.bytesOf, AH.strOp, AH.bound, AH.addLog, AH.missQ, AH.minmaxAV, AH.wpOpD, AH.readOf, AH.effOf, AH.mapAt, AH.iterAt, Nat.reduceBEq, Nat.reduceAdd, Nat.reduceLT, ↓reduceIte, Nat.reduceEqDiff, Nat.reduceLeDiff, Nat.reduceSub, Nat.reduceMul, Int.reduceSub, Int.reduceToNat, Int.reduceBEq, Int.reduceBNe, Int.reduceLT, Int.reduceGT, Int.reduceLE, Int.reduceGE, Int.reduceNeg, Int.reduceAdd, saSt]
  refine ⟨fun hlt => ?_, fun hlt => ?_⟩
  · have hil := lt_of_dec hlt
    have hi2 : i < L2.length := by omega
    have wi := wrapS (i := i) (by omega)
    by_cases he : L1[i] = L2[i]
    · have done := ih (i + 1) ⟨hil, by rw [List.take_succ_eq_append_getElem hil, List.take_succ_eq_append_getElem hi2, hq, he]⟩ (by omega)
      simp only [saSt] at done
      simp only [AH.SD, AH.wpOp, AOp.call?, AOp.next?, bstep, AOp.map, Opd.ev, tget, argTm, evs, AV.cells, St.eff, St.put, applyWr, mset, terase, pureE, unAV, intOp, binAV, fill, mget, AH.rowAt, AH.part, retQ, rvs, retV, AH.splice, AH.sliceElems, AH.bytesOf, AH.strOp, AH.bound, AH.addLog, AH.missQ, AH.minmaxAV, AH.wpOpD, AH.readOf, AH.effOf, AH.mapAt, AH.iterAt, Nat.reduceBEq, Nat.reduceAdd, Nat.reduceLT, ↓reduceIte, Nat.reduceEqDiff, Nat.reduceLeDiff, Nat.reduceSub, Nat.reduceMul, Int.reduceSub, Int.reduceToNat, Int.reduceBEq, Int.reduceBNe, Int.reduceLT, Int.reduceGT, Int.reduceLE, Int.reduceGE, Int.reduceNeg, Int.reduceAdd, getD_enc, hil, hi2, strC_eq, Int.toNat_natCast, List.length_map, he, tl_self, Bool.not_true]
      repeat (refine ⟨by first | rfl | decide | omega | (simp only [List.length_map, and_true]; omega) | (simp only [List.length_map, List.length_set, and_true]; omega), ?_⟩)
      try simp only [AH.SD, AH.wpOp, AOp.call?, AOp.next?, bstep, AOp.map, Opd.ev, tget, argTm, evs, AV.cells, St.eff, St.put, applyWr, mset, terase, pureE, unAV, intOp, binAV, fill, mget, AH.rowAt, AH.part, retQ, rvs, retV, AH.splice, AH.sliceElems, AH.bytesOf, AH.strOp, AH.bound, AH.addLog, AH.missQ, AH.minmaxAV, AH.wpOpD, AH.readOf, AH.effOf, AH.mapAt, AH.iterAt, Nat.reduceBEq, Nat.reduceAdd, Nat.reduceLT, ↓reduceIte, Nat.reduceEqDiff, Nat.reduceLeDiff, Nat.reduceSub, Nat.reduceMul, Int.reduceSub, Int.reduceToNat, Int.reduceBEq, Int.reduceBNe, Int.reduceLT, Int.reduceGT, Int.reduceLE, Int.reduceGE, Int.reduceNeg, Int.reduceAdd, wi]
      refine gc_auto [0, 1] [5, 1, 0] [] ?_
      simp only [AH.SD, AH.wpOp, AOp.call?, AOp.next?, bstep, AOp.map, Opd.ev, tget, argTm, evs, AV.cells, St.eff, St.put, applyWr, mset, terase, pureE, unAV, intOp, binAV, fill, mget, AH.rowAt, AH.part, retQ, rvs, retV, AH.splice, AH.sliceElems, AH.bytesOf, AH.strOp, AH.bound, AH.addLog, AH.missQ, AH.minmaxAV, AH.wpOpD, AH.readOf, AH.effOf, AH.mapAt, AH.iterAt, Nat.reduceBEq, Nat.reduceAdd, Nat.reduceLT, ↓reduceIte, Nat.reduceEqDiff, Nat.reduceLeDiff, Nat.reduceSub, Nat.reduceMul, Int.reduceSub, Int.reduceToNat, Int.reduceBEq, Int.reduceBNe, Int.reduceLT, Int.reduceGT, Int.reduceLE, Int.reduceGE, Int.reduceNeg, Int.reduceAdd, AH.PD, heads, distN, AH.inN, posN, packM, packB, packTm, liveB, AV.inB, AV.insB, AV.ren, AV.rens, Blk.ren, Blk.inB, vstep, tput]
      exact done
    · have e : decide (L1 = L2) = false := decide_eq_false fun q => by subst q; exact he rfl
      simp only [AH.SD, AH.wpOp, AOp.call?, AOp.next?, bstep, AOp.map, Opd.ev, tget, argTm, evs, AV.cells, St.eff, St.put, applyWr, mset, terase, pureE, unAV, intOp, binAV, fill, mget, AH.rowAt, AH.part, retQ, rvs, retV, AH.splice, AH.sliceElems, AH.bytesOf, AH.strOp, AH.bound, AH.addLog, AH.missQ, AH.minmaxAV, AH.wpOpD, AH.readOf, AH.effOf, AH.mapAt, AH.iterAt, Nat.reduceBEq, Nat.reduceAdd, Nat.reduceLT, ↓reduceIte, Nat.reduceEqDiff, Nat.reduceLeDiff, Nat.reduceSub, Nat.reduceMul, Int.reduceSub, Int.reduceToNat, Int.reduceBEq, Int.reduceBNe, Int.reduceLT, Int.reduceGT, Int.reduceLE, Int.reduceGE, Int.reduceNeg, Int.reduceAdd, getD_enc, hil, hi2, strC_eq, Int.toNat_natCast, List.length_map, tl_ne he, Bool.not_false, e]
      repeat (refine ⟨by first | rfl | decide | omega | (simp only [List.length_map, and_true]; omega) | (simp only [List.length_map, List.length_set, and_true]; omega), ?_⟩)
      try trivial
  · have hil := ge_of_dec hlt
    obtain rfl : i = L1.length := by omega
    have e : decide (L1 = L2) = true := decide_eq_true (by rw [List.take_length, hn', List.take_length] at hq; exact hq)
    simp only [AH.SD, AH.wpOp, AOp.call?, AOp.next?, bstep, AOp.map, Opd.ev, tget, argTm, evs, AV.cells, St.eff, St.put, applyWr, mset, terase, pureE, unAV, intOp, binAV, fill, mget, AH.rowAt, AH.part, retQ, rvs, retV, AH.splice, AH.sliceElems, AH.bytesOf, AH.strOp, AH.bound, AH.addLog, AH.missQ, AH.minmaxAV, AH.wpOpD, AH.readOf, AH.effOf, AH.mapAt, AH.iterAt, Nat.reduceBEq, Nat.reduceAdd, Nat.reduceLT, ↓reduceIte, Nat.reduceEqDiff, Nat.reduceLeDiff, Nat.reduceSub, Nat.reduceMul, Int.reduceSub, Int.reduceToNat, Int.reduceBEq, Int.reduceBNe, Int.reduceLT, Int.reduceGT, Int.reduceLE, Int.reduceGE, Int.reduceNeg, Int.reduceAdd, e]
    try trivial
def saT : RT := rt2 1 1 cStr cStr c0 fun L1 L2 _ => .bool (decide (L1 = L2))
theorem saT_ok : ReadF S0 19 saT := rt2_ok errs0 fun L1 L2 _ h1 h2 => ⟨rfl, lsame_ok L1 L2 h1 h2⟩
theorem saT_p {i j n1 n2 : Nat} {p1 p2 : Option Nat} {M : Nat → Option Blk} : saT [.slc i 0 n1 p1, .slc j 0 n2 p2] M = rt2Q 1 1 cStr cStr (fun L1 L2 (_ : Unit) => .bool (decide (L1 = L2))) n1 i n2 j (M i) (M j) (some ()) := rfl
theorem saQ_eq {i j n1 n2 : Nat} {r1 r2 : Bool} {L1 L2 : List ByteArray} (h1 : n1 = L1.length) (h2 : n2 = L2.length) (h3 : L1.length ≤ 1048576) (h4 : L2.length ≤ 1048576) : rt2Q 1 1 cStr cStr (fun L1 L2 (_ : Unit) => .bool (decide (L1 = L2))) n1 i n2 j (some (.row r1 1 (L1.map strC))) (some (.row r2 1 (L2.map strC))) (some ()) = some (.bool (decide (L1 = L2)), [i, j]) := by
  subst h1 h2
  exact rt2Q_eq (c1 := cStr) (c2 := cStr) h3 h4
def zrN (n : Int) : Nat := n.toNat
def okZr (x : Int × Unit) : Prop := x.1 ≤ 1048576
instance (x : Int × Unit) : Decidable (okZr x) := by unfold okZr; infer_instance
theorem bytesZ : ∀ k, bytesOf (List.replicate k [.int .u8 0]) = some (List.replicate k 0)
  | 0 => rfl
  | k + 1 => by rw [List.replicate_succ, List.replicate_succ, bytesOf, bytesZ k]; rfl
theorem repS_list (k : Nat) : (⟨(List.replicate k (0 : UInt8)).toArray⟩ : ByteArray) = repS ⟨#[0]⟩ k := by
  have : ∀ k, Lib.repeatL [(0 : UInt8)] k = List.replicate k 0 := by
    intro k
    induction k with
    | zero => rfl
    | succ n ih => rw [Lib.repeatL, ih, List.replicate_succ]; rfl
  show _ = (⟨(Lib.repeatL [(0 : UInt8)] k).toArray⟩ : ByteArray)
  rw [this]
theorem lzeros_ok (n : Int) (h : okZr (n, ())) : Pure S0 16 [.int .i64 n] (.str (repS ⟨#[0]⟩ (64 * n.toNat))) := by
  have h' : n ≤ 1048576 := h
  refine fun_sound okL0 Tryd.func16 c16 ?_
  unfold wpF F16
  by_cases hn : 0 > n
  · have e : n.toNat = 0 := by omega
    simp only [AH.SD, AH.wpOp, AOp.call?, AOp.next?, bstep, AOp.map, Opd.ev, tget, argTm, evs, AV.cells, St.eff, St.put, applyWr, mset, terase, pureE, unAV, intOp, binAV, fill, mget, AH.rowAt, AH.part, retQ, rvs, retV, AH.splice, AH.sliceElems, AH.bytesOf, AH.strOp, AH.bound, AH.addLog, AH.missQ, AH.minmaxAV, AH.wpOpD, AH.readOf, AH.effOf, AH.mapAt, AH.iterAt, Nat.reduceBEq, Nat.reduceAdd, Nat.reduceLT, ↓reduceIte, Nat.reduceEqDiff, Nat.reduceLeDiff, Nat.reduceSub, Nat.reduceMul, Int.reduceSub, Int.reduceToNat, Int.reduceBEq, Int.reduceBNe, Int.reduceLT, Int.reduceGT, Int.reduceLE, Int.reduceGE, Int.reduceNeg, Int.reduceAdd, hn, if_true, e]
    repeat (refine ⟨by first | rfl | decide | omega | (simp only [List.length_map, and_true]; omega) | (simp only [List.length_map, List.length_set, and_true]; omega), ?_⟩)
    try simp only [AH.SD, AH.wpOp, AOp.call?, AOp.next?, bstep, AOp.map, Opd.ev, tget, argTm, evs, AV.cells, St.eff, St.put, applyWr, mset, terase, pureE, unAV, intOp, binAV, fill, mget, AH.rowAt, AH.part, retQ, rvs, retV, AH.splice, AH.sliceElems, AH.bytesOf, AH.strOp, AH.bound, AH.addLog, AH.missQ, AH.minmaxAV, AH.wpOpD, AH.readOf, AH.effOf, AH.mapAt, AH.iterAt, Nat.reduceBEq, Nat.reduceAdd, Nat.reduceLT, ↓reduceIte, Nat.reduceEqDiff, Nat.reduceLeDiff, Nat.reduceSub, Nat.reduceMul, Int.reduceSub, Int.reduceToNat, Int.reduceBEq, Int.reduceBNe, Int.reduceLT, Int.reduceGT, Int.reduceLE, Int.reduceGE, Int.reduceNeg, Int.reduceAdd, hn, if_true, e]
    try trivial
  · obtain ⟨k, rfl⟩ := Int.eq_ofNat_of_zero_le (show 0 ≤ n by omega)
    have w1 : IntKind.i64.wrap (64 * (k : Int)) = ((64 * k : Nat) : Int) := by rw [IntKind.wrap_i64]; omega
    simp only [AH.SD, AH.wpOp, AOp.call?, AOp.next?, bstep, AOp.map, Opd.ev, tget, argTm, evs, AV.cells, St.eff, St.put, applyWr, mset, terase, pureE, unAV, intOp, binAV, fill, mget, AH.rowAt, AH.part, retQ, rvs, retV, AH.splice, AH.sliceElems, AH.bytesOf, AH.strOp, AH.bound, AH.addLog, AH.missQ, AH.minmaxAV, AH.wpOpD, AH.readOf, AH.effOf, AH.mapAt, AH.iterAt, Nat.reduceBEq, Nat.reduceAdd, Nat.reduceLT, ↓reduceIte, Nat.reduceEqDiff, Nat.reduceLeDiff, Nat.reduceSub, Nat.reduceMul, Int.reduceSub, Int.reduceToNat, Int.reduceBEq, Int.reduceBNe, Int.reduceLT, Int.reduceGT, Int.reduceLE, Int.reduceGE, Int.reduceNeg, Int.reduceAdd, hn, if_false, w1, Int.toNat_natCast]
    repeat (refine ⟨by first | rfl | decide | omega | (simp only [List.length_map, and_true]; omega) | (simp only [List.length_map, List.length_set, and_true]; omega), ?_⟩)
    try simp only [AH.SD, AH.wpOp, AOp.call?, AOp.next?, bstep, AOp.map, Opd.ev, tget, argTm, evs, AV.cells, St.eff, St.put, applyWr, mset, terase, pureE, unAV, intOp, binAV, fill, mget, AH.rowAt, AH.part, retQ, rvs, retV, AH.splice, AH.sliceElems, AH.bytesOf, AH.strOp, AH.bound, AH.addLog, AH.missQ, AH.minmaxAV, AH.wpOpD, AH.readOf, AH.effOf, AH.mapAt, AH.iterAt, Nat.reduceBEq, Nat.reduceAdd, Nat.reduceLT, ↓reduceIte, Nat.reduceEqDiff, Nat.reduceLeDiff, Nat.reduceSub, Nat.reduceMul, Int.reduceSub, Int.reduceToNat, Int.reduceBEq, Int.reduceBNe, Int.reduceLT, Int.reduceGT, Int.reduceLE, Int.reduceGE, Int.reduceNeg, Int.reduceAdd, hn, if_false, w1, Int.toNat_natCast, List.drop_zero, List.take_replicate, Nat.min_self, List.length_replicate, bytesZ, repS_list]
    repeat (refine ⟨by first | rfl | decide | omega | (simp only [List.length_map, and_true]; omega) | (simp only [List.length_map, List.length_set, and_true]; omega), ?_⟩)
    try simp only [AH.SD, AH.wpOp, AOp.call?, AOp.next?, bstep, AOp.map, Opd.ev, tget, argTm, evs, AV.cells, St.eff, St.put, applyWr, mset, terase, pureE, unAV, intOp, binAV, fill, mget, AH.rowAt, AH.part, retQ, rvs, retV, AH.splice, AH.sliceElems, AH.bytesOf, AH.strOp, AH.bound, AH.addLog, AH.missQ, AH.minmaxAV, AH.wpOpD, AH.readOf, AH.effOf, AH.mapAt, AH.iterAt, Nat.reduceBEq, Nat.reduceAdd, Nat.reduceLT, ↓reduceIte, Nat.reduceEqDiff, Nat.reduceLeDiff, Nat.reduceSub, Nat.reduceMul, Int.reduceSub, Int.reduceToNat, Int.reduceBEq, Int.reduceBNe, Int.reduceLT, Int.reduceGT, Int.reduceLE, Int.reduceGE, Int.reduceNeg, Int.reduceAdd, hn, if_false, w1, Int.toNat_natCast, List.drop_zero, List.take_replicate, Nat.min_self, List.length_replicate, bytesZ, repS_list]
    try trivial
def zrT : RT := rtC (cC (aI .i64) c0) okZr fun x => .str (repS ⟨#[0]⟩ (64 * x.1.toNat))
theorem zrT_ok : ReadF S0 16 zrT := rtC_ok (fun x h => lzeros_ok x.1 h) fun _ => rfl
theorem zrT_p {n : Int} {M : Nat → Option Blk} (h : n ≤ 1048576) : zrT [.int .i64 n] M = some (.str (repS ⟨#[0]⟩ (64 * n.toNat)), []) := by
  simp only [zrT, rtC_p, cC_dec, aI_dec, c0_dec, pairO_some]
  exact rtC1_eq h
/- Open as an entry. -/
theorem opnM_len (x : Nat × Lg) : 2 ≤ (opnM x).length ∧ ((opnM x).drop 2).all rwB = true := by
  unfold opnM
  split
  · exact ⟨by simp [opM], rfl⟩
  · exact ⟨by simp [dkM], rfl⟩
def opnT : ET := etO dkO (cC (aI .i64) (cC (aI .i64) (cC (aI .i64) c0))) fun d x => if d.ok then some (opnA (opnZ d x.1 x.2.1 x.2.2.1), opnM (opnZ d x.1 x.2.1 x.2.2.1)) else none
theorem opnT_ok : EffF S0 9 opnT := etO_ok fun d x v m' h => by
  split at h
  · rename_i hd
    simp only [Option.some.injEq, Prod.mk.injEq] at h
    obtain ⟨rfl, rfl⟩ := h
    exact ⟨opnM_len _, open_ok d hd x.1 x.2.1 x.2.2.1⟩
  · cases h
theorem opnT_p {p n : Nat} {f t b : Int} {M : Nat → Option Blk} : opnT [.ptr p 0 0, .int .i64 f, .int .i64 t, .int .i64 b] M n = etO2 n (fun d (x : Int × Int × Int × Unit) => if d.ok then some (opnA (opnZ d x.1 x.2.1 x.2.2.1), opnM (opnZ d x.1 x.2.1 x.2.2.1)) else none) (dkR M p (M p)) (some (f, t, b, ())) := by
  simp only [opnT, etO_eq, cC_dec, aI_dec, c0_dec, pairO_some, dkO_dec]
theorem open_nil (f t b : Int) : Pure S0 9 [.nilp, .int .i64 f, .int .i64 t, .int .i64 b] (.tup [.nilp, errA 2]) := by
  refine fun_sound okOp Tryd.func9 c9 ?_
  unfold wpF F9
  simp only [AH.SD, AH.wpOp, AOp.call?, AOp.next?, bstep, AOp.map, Opd.ev, tget, argTm, evs, AV.cells, St.eff, St.put, applyWr, mset, terase, pureE, unAV, intOp, binAV, fill, mget, AH.rowAt, AH.part, retQ, rvs, retV, AH.splice, AH.sliceElems, AH.bytesOf, AH.strOp, AH.bound, AH.addLog, AH.missQ, AH.minmaxAV, AH.wpOpD, AH.readOf, AH.effOf, AH.mapAt, AH.iterAt, Nat.reduceBEq, Nat.reduceAdd, Nat.reduceLT, ↓reduceIte, Nat.reduceEqDiff, Nat.reduceLeDiff, Nat.reduceSub, Nat.reduceMul, Int.reduceSub, Int.reduceToNat, Int.reduceBEq, Int.reduceBNe, Int.reduceLT, Int.reduceGT, Int.reduceLE, Int.reduceGE, Int.reduceNeg, Int.reduceAdd, errA2]
  repeat ((with_reducible refine And.intro ?_ ?_); focus (first | rfl | decide | omega | (simp only [List.length_map, and_true]; omega) | (simp only [List.length_map, List.length_set, and_true]; omega)))
  try trivial
def opnN : RT := rtP (cC aNil (cC (aI .i64) (cC (aI .i64) (cC (aI .i64) c0)))) fun _ => .tup [.nilp, errA 2]
theorem opnN_ok : ReadF S0 9 opnN := rtP_ok (fun x => open_nil x.2.1 x.2.2.1 x.2.2.2.1) fun _ => rfl
theorem opnN_n {f t b : Int} {M : Nat → Option Blk} : opnN [.nilp, .int .i64 f, .int .i64 t, .int .i64 b] M = some (.tup [.nilp, errA 2], []) := by
  simp only [opnN, rtP, cC_dec, aNil_dec, aI_dec, c0_dec, pairO_some, Option.map_some]
theorem opnN_p {p : Nat} {f t b : Int} {M : Nat → Option Blk} : opnN [.ptr p 0 0, .int .i64 f, .int .i64 t, .int .i64 b] M = none := by
  simp only [opnN, rtP, cC_dec, aNil_ptr, pairO_none, Option.map_none]
theorem opnT_n {n : Nat} {f t b : Int} {M : Nat → Option Blk} : opnT [.nilp, .int .i64 f, .int .i64 t, .int .i64 b] M n = none := rfl
end Go.Proofs.YthapdikdeoeplaaDoor.H6
end

section
open Go AH
set_option linter.unusedSimpArgs false
set_option maxRecDepth 100000
namespace Go.Proofs.YthapdikdeoeplaaDoor.H6
/- The answers of awake. -/
def helloS : ByteArray := ⟨#[104, 101, 108, 108, 111]⟩
def awa : Dk := newD 5
def awb : Nat × Lg := opnZ awa 1 4 10
def awc : Nat × Lg := addL awb.2 helloS
def awd : Nat × Lg := opnZ awc.2.d 1 4 10
theorem awa_ok : awa.ok := ofD_ok _
theorem awb0 : awb.1 = 0 := by decide +kernel
theorem awb_ok : awb.2.ok := by decide +kernel
theorem awc0 : awc.1 = 0 := by decide +kernel
theorem awc_ok : awc.2.d.ok := by decide +kernel
theorem awc_ok2 : awc.2.ok := by decide +kernel
theorem awd0 : awd.1 = 0 := by decide +kernel
theorem awd_ok : awd.2.ok := by decide +kernel
theorem awd_R : awd.2.R = [helloS] := by decide +kernel
theorem awd_n : awd.2.next = 12 := by decide +kernel
theorem awd_r : awd.2.room = 2 := by decide +kernel
theorem awc_r : awc.2.room = 2 := by decide +kernel
theorem awd_l : awd.2.R.length ≤ 1048576 := by decide +kernel
theorem opn_down (d : Dk) (f t b : Int) : (opnZ d f t b).2.down = false := by
  unfold opnZ
  split
  · rfl
  · split <;> rfl
theorem opn_eta (d : Dk) (f t b : Int) : (⟨(opnZ d f t b).2.d, (opnZ d f t b).2.f, (opnZ d f t b).2.t, (opnZ d f t b).2.b, (opnZ d f t b).2.a, (opnZ d f t b).2.R, false⟩ : Lg) = (opnZ d f t b).2 := by
  have := opn_down d f t b
  generalize (opnZ d f t b).2 = x at *
  cases x; simp only at this; rw [this]
theorem awb_eta : (⟨awb.2.d, awb.2.f, awb.2.t, awb.2.b, awb.2.a, awb.2.R, false⟩ : Lg) = awb.2 := opn_eta awa 1 4 10
theorem awd_eta : (⟨awd.2.d, awd.2.f, awd.2.t, awd.2.b, awd.2.a, awd.2.R, false⟩ : Lg) = awd.2 := opn_eta awc.2.d 1 4 10
theorem hello_sz : okSz helloS := okSz_of (by decide)
theorem row_hello : [[AV.str helloS]] = [helloS].map strC := rfl
theorem awd_same : decide (awd.2.R = [helloS]) = true := decide_eq_true awd_R
theorem saQ_1 {i j n1 : Nat} {r1 r2 : Bool} {L1 : List ByteArray} {x : ByteArray} (h1 : n1 = L1.length) (h3 : L1.length ≤ 1048576) : rt2Q 1 1 cStr cStr (fun L1 L2 (_ : Unit) => .bool (decide (L1 = L2))) n1 i 1 j (some (.row r1 1 (L1.map strC))) (some (.row r2 1 [[.str x]])) (some ()) = some (.bool (decide (L1 = [x])), [i, j]) :=
  saQ_eq (L2 := [x]) h1 rfl h3 (by simp)
end Go.Proofs.YthapdikdeoeplaaDoor.H6
end

section
open Go AH
set_option linter.unusedSimpArgs false
set_option maxRecDepth 100000
namespace Go.Proofs.YthapdikdeoeplaaDoor.H6
/- A disk without a fuse. -/
def dOn (L : List ByteArray) (w : Int) : Dk := ⟨L, false, -1, 0, w⟩
theorem dOn_ok {L : List ByteArray} {w : Int} (h : ∀ s ∈ L, s.size = 64) (hl : L.length ≤ 4096) : (dOn L w).ok := ⟨h, Int.le_refl 0, by show (0 : Int) ≤ 64; decide, hl⟩
theorem set_mid {α : Type} (P S : List α) (o s : α) : (P ++ o :: S).set P.length s = P ++ s :: S := by
  rw [List.set_append_right _ _ (Nat.le_refl _), Nat.sub_self, List.set_cons_zero]
theorem wr_on {P S : List ByteArray} {o s : ByteArray} {w : Int} (hs : s.size = 64) : ∃ w', wrD (dOn (P ++ o :: S) w) ((P.length : Nat) : Int) s = (0, dOn (P ++ s :: S) w') := by
  have hi : P.length < (dOn (P ++ o :: S) w).L.length := by show P.length < (P ++ o :: S).length; simp
  rw [wrD_at hi hs]
  refine ⟨IntKind.i64.wrap (w + 1), ?_⟩
  rw [if_neg (by simp [dOn]), if_neg (by simp [dOn])]
  simp only [dOn, set_mid, maxI, show IntKind.i64.wrap ((-1 : Int) - 1) = -2 by decide, show ((-1 : Int) > -2) = True by simp, if_true]
theorem lay_on : ∀ (B : List ByteArray) (P O S : List ByteArray) (w : Int), O.length = B.length → (∀ s ∈ B, s.size = 64) → ∃ w', layD (dOn (P ++ (O ++ S)) w) P.length B = (0, dOn (P ++ (B ++ S)) w')
  | [], P, O, S, w, h, _ => by
    have : O = [] := List.eq_nil_of_length_eq_zero h
    subst this
    exact ⟨w, rfl⟩
  | s :: r, P, O, S, w, h, hs => by
    cases O with
    | nil => simp at h
    | cons o O =>
      obtain ⟨w1, h1⟩ := wr_on (P := P) (S := O ++ S) (o := o) (s := s) (w := w) (hs s (List.mem_cons_self ..))
      obtain ⟨w2, h2⟩ := lay_on r (P ++ [s]) O S w1 (by simpa using h) fun x hx => hs x (List.mem_cons_of_mem _ hx)
      refine ⟨w2, ?_⟩
      rw [List.cons_append, layD, h1, if_pos rfl]
      simp only [List.append_assoc, List.singleton_append, List.length_append, List.length_cons, List.length_nil, Nat.zero_add] at h2
      exact h2
theorem getD_mid {α : Type} (P S : List α) (o d : α) : (P ++ o :: S).getD P.length d = o := by
  rw [List.getD_eq_getElem?_getD, List.getElem?_append_right (Nat.le_refl _), Nat.sub_self]; rfl
theorem wipe_on : ∀ (k : Nat) (P O S : List ByteArray) (w : Int), O.length = k → ∃ w', wipeD (dOn (P ++ (O ++ S)) w) k P.length = (0, dOn (P ++ (List.replicate k zeB ++ S)) w')
  | 0, P, O, S, w, h => by
    have : O = [] := List.eq_nil_of_length_eq_zero h
    subst this
    exact ⟨w, rfl⟩
  | k + 1, P, O, S, w, h => by
    cases O with
    | nil => simp at h
    | cons o O =>
      have hO : O.length = k := by simpa using h
      rw [wipeD, if_neg (by simp [dOn])]
      have e : (dOn (P ++ (o :: O ++ S)) w).L.getD P.length ⟨#[]⟩ = o := getD_mid P (O ++ S) o _
      rw [e]
      by_cases hz : o = zeB
      · obtain ⟨w2, h2⟩ := wipe_on k (P ++ [zeB]) O S w hO
        refine ⟨w2, ?_⟩
        rw [if_pos hz, hz, List.replicate_succ]
        simp only [List.append_assoc, List.singleton_append, List.length_append, List.length_cons, List.length_nil, Nat.zero_add, List.cons_append] at h2 ⊢
        exact h2
      · obtain ⟨w1, h1⟩ := wr_on (P := P) (S := O ++ S) (o := o) (s := zeB) (w := w) zeB_sz
        obtain ⟨w2, h2⟩ := wipe_on k (P ++ [zeB]) O S w1 hO
        refine ⟨w2, ?_⟩
        have h1' : wrD (dOn (P ++ (o :: O ++ S)) w) ((P.length : Nat) : Int) zeB = (0, dOn (P ++ zeB :: (O ++ S)) w1) := h1
        rw [if_neg hz, h1', if_pos rfl, List.replicate_succ]
        simp only [List.append_assoc, List.singleton_append, List.length_append, List.length_cons, List.length_nil, Nat.zero_add, List.cons_append] at h2 ⊢
        exact h2
theorem repS_cat (a b : Nat) : repS ⟨#[0]⟩ a ++ repS ⟨#[0]⟩ b = repS ⟨#[0]⟩ (a + b) := by
  rw [← repS_list, ← repS_list, ← repS_list]
  apply ByteArray.ext
  simp [List.replicate_append_replicate]
theorem catS_rep : ∀ n : Nat, catS (List.replicate n zeB) = repS ⟨#[0]⟩ (64 * n)
  | 0 => rfl
  | n + 1 => by
    rw [List.replicate_succ', catS_snoc, catS_rep n]
    show repS _ _ ++ repS _ _ = _
    rw [repS_cat, Nat.mul_succ]
/-- A part of a disk: what lies ahead, the blocks of records, zeros up to a number, what lies behind. -/
def lgL (A B C : List ByteArray) (n : Nat) : List ByteArray := A ++ (B ++ (List.replicate (n - B.length) zeB ++ C))
theorem lgL_cat (A B C : List ByteArray) (n : Nat) : catS A ++ catS B ++ repS ⟨#[0]⟩ (64 * (n - B.length)) ++ catS C = catS (lgL A B C n) := by
  rw [lgL, catS_app, catS_app, catS_app, catS_rep, ByteArray.append_assoc, ByteArray.append_assoc]
theorem lgL_len {A B C : List ByteArray} {n : Nat} (h : B.length ≤ n) : (lgL A B C n).length = A.length + n + C.length := by
  simp [lgL]; omega
theorem lgL_sz {A B C : List ByteArray} {n : Nat} (hA : ∀ s ∈ A, s.size = 64) (hB : ∀ s ∈ B, s.size = 64) (hC : ∀ s ∈ C, s.size = 64) : ∀ s ∈ lgL A B C n, s.size = 64 := by
  intro s hs
  simp only [lgL, List.mem_append, List.mem_replicate] at hs
  rcases hs with h | h | ⟨_, rfl⟩ | h
  · exact hA s h
  · exact hB s h
  · exact zeB_sz
  · exact hC s h
/-- Add where the power stays. -/
theorem add_on {A B C : List ByteArray} {n : Nat} {w b : Int} {W : List ByteArray} {s : ByteArray} (hs : s.size ≤ 6000) (hr : B.length + sizeN s.size ≤ n) (hn : b + (W.length : Int) + 1 < 1073741824) :
    ∃ w', addL ⟨dOn (lgL A B C n) w, A.length, ((A.length + n : Nat) : Int), b, ((A.length + B.length : Nat) : Int), W, false⟩ s =
      (0, ⟨dOn (lgL A (B ++ blkL (b + (W.length : Int) + 1) s (sizeN s.size)) C n) w', A.length, ((A.length + n : Nat) : Int), b, ((A.length + (B.length + sizeN s.size) : Nat) : Int), W ++ [s], false⟩) := by
  have hbl := blkL_len (b + (W.length : Int) + 1) s (sizeN s.size)
  obtain ⟨w', h⟩ := lay_on (blkL (b + (W.length : Int) + 1) s (sizeN s.size)) (A ++ B) (List.replicate (sizeN s.size) zeB) (List.replicate (n - B.length - sizeN s.size) zeB ++ C) w (by rw [List.length_replicate, hbl]) (blkL_sz (Nat.le_refl _))
  have e1 : lgL A B C n = (A ++ B) ++ (List.replicate (sizeN s.size) zeB ++ (List.replicate (n - B.length - sizeN s.size) zeB ++ C)) := by
    rw [lgL, ← List.append_assoc (List.replicate _ _) (List.replicate _ _) C, List.replicate_append_replicate, List.append_assoc]
    congr 4; omega
  have e2 : lgL A (B ++ blkL (b + (W.length : Int) + 1) s (sizeN s.size)) C n = (A ++ B) ++ (blkL (b + (W.length : Int) + 1) s (sizeN s.size) ++ (List.replicate (n - B.length - sizeN s.size) zeB ++ C)) := by
    rw [lgL, List.length_append, hbl, Nat.sub_sub]
    simp only [List.append_assoc]
  refine ⟨w', ?_⟩
  unfold addL
  rw [if_neg (by omega), if_neg (by
    rintro (q | q)
    · have : (Lg.room ⟨dOn (lgL A B C n) w, A.length, ((A.length + n : Nat) : Int), b, ((A.length + B.length : Nat) : Int), W, false⟩) = ((A.length + n : Nat) : Int) - ((A.length + B.length : Nat) : Int) := rfl
      omega
    · have : (Lg.next ⟨dOn (lgL A B C n) w, A.length, ((A.length + n : Nat) : Int), b, ((A.length + B.length : Nat) : Int), W, false⟩) = b + (W.length : Int) + 1 := rfl
      omega), if_neg (by simp)]
  have hnx : (Lg.next ⟨dOn (lgL A B C n) w, A.length, ((A.length + n : Nat) : Int), b, ((A.length + B.length : Nat) : Int), W, false⟩) = b + (W.length : Int) + 1 := rfl
  rw [List.length_append] at h
  simp only [hnx, Int.toNat_natCast]
  rw [e1, h, if_pos rfl, e2]
  simp only [Prod.mk.injEq, true_and]
  congr 1
  omega
/-- Reset where the power stays. -/
theorem rst_on {A B C : List ByteArray} {n : Nat} {w b b' : Int} {W : List ByteArray} (hb : isBase b') (hB : B.length ≤ n) :
    ∃ w', rstL ⟨dOn (lgL A B C n) w, A.length, ((A.length + n : Nat) : Int), b, ((A.length + B.length : Nat) : Int), W, false⟩ b' =
      (0, ⟨dOn (lgL A [] C n) w', A.length, ((A.length + n : Nat) : Int), b', A.length, [], false⟩) := by
  obtain ⟨w', h⟩ := wipe_on n A (B ++ List.replicate (n - B.length) zeB) C w (by simp; omega)
  have e1 : lgL A B C n = A ++ (B ++ List.replicate (n - B.length) zeB ++ C) := by rw [lgL, List.append_assoc]
  have e2 : lgL A [] C n = A ++ (List.replicate n zeB ++ C) := by simp [lgL]
  refine ⟨w', ?_⟩
  unfold rstL
  rw [if_neg (by simpa using hb), if_neg (by simp)]
  simp only [Int.toNat_natCast, show (((A.length + n : Nat) : Int) - (A.length : Int)).toNat = n by omega]
  rw [e1, h, if_pos rfl, e2]
end Go.Proofs.YthapdikdeoeplaaDoor.H6
end

section
open Go AH
set_option linter.unusedSimpArgs false
set_option maxRecDepth 100000
namespace Go.Proofs.YthapdikdeoeplaaDoor.H6
noncomputable abbrev tLg : List (FuncId × RT) := [(12, kindT), (23, nextT), (21, roomT), (18, recsN), (11, adN), (13, rsN), (9, opnN), (19, saT)]
noncomputable abbrev eLg : List (FuncId × ET) := [(8, newT), (9, opnT), (18, recsT), (13, rsT), (11, adT)]
theorem tLg_ok : AllF S0 tLg := ⟨kindT_ok, nextT_ok, roomT_ok, recsN_ok, adN_ok, rsN_ok, opnN_ok, saT_ok, trivial⟩
theorem eLg_ok : AllE S0 eLg := ⟨newT_ok, opnT_ok, recsT_ok, rsT_ok, adT_ok, trivial⟩
theorem okLg0 : CtxOK S0 (ctxE S0 tLg [] eLg) := ctxE_ok tLg_ok trivial eLg_ok mixed
theorem awl_ok : (⟨awd.2.d, awc.2.f, awc.2.t, awc.2.b, awc.2.a, awc.2.R, awc.2.down⟩ : Lg).ok := by decide +kernel
theorem awl_r : (⟨awd.2.d, awc.2.f, awc.2.t, awc.2.b, awc.2.a, awc.2.R, awc.2.down⟩ : Lg).room = 2 := awc_r
set_option maxHeartbeats 4000000 in
theorem lawake_ok : Pure S0 7 [] (.bool true) := by
  refine fun_sound okLg0 Tryd.func7 c7 ?_
  unfold wpF F7
  have z1 : newD 5 = awa := rfl
  have z2 : opnZ awa 1 4 10 = awb := rfl
  have z3 : addL awb.2 helloS = awc := rfl
  have z4 : opnZ awc.2.d 1 4 10 = awd := rfl
  have z5 : (⟨#[104, 101, 108, 108, 111]⟩ : ByteArray) = helloS := rfl
  simp only [AH.SD, AH.wpOp, AOp.call?, AOp.next?, bstep, AOp.map, Opd.ev, tget, argTm, evs, AV.cells, St.eff, St.put, applyWr, mset, terase, pureE, unAV, intOp, binAV, fill, mget, AH.rowAt, AH.part, retQ, rvs, retV, AH.splice, AH.sliceElems, AH.bytesOf, AH.strOp, AH.bound, AH.addLog, AH.missQ, AH.minmaxAV, AH.wpOpD, AH.readOf, AH.effOf, AH.mapAt, AH.iterAt, Nat.reduceBEq, Nat.reduceAdd, Nat.reduceLT, ↓reduceIte, Nat.reduceEqDiff, Nat.reduceLeDiff, Nat.reduceSub, Nat.reduceMul, Int.reduceSub, Int.reduceToNat, Int.reduceBEq, Int.reduceBNe, Int.reduceLT, Int.reduceGT, Int.reduceLE, Int.reduceGE, Int.reduceNeg, Int.reduceAdd, AH.PD, heads, distN, AH.inN, posN, packM, packB, packTm, liveB, AV.inB, AV.insB, AV.ren, AV.rens, Blk.ren, Blk.inB, vstep, tput, vw, shift, newOnes, rowsM, blkIn, rwB, @flat_lts, AV.lt, AV.lts, Nat.sub_self, AH.rtO_eq, AH.rtO2_eq, AH.rtO2_none, AH.etO_eq, AH.etO2_eq, AH.etO2_none, AH.useO_some, AH.rtElse_eq, AH.elseO_some, AH.elseO_none, AH.etN_eq, Option.bind_some, Option.bind_none, AH.pairO_some, AH.pairO_none, AH.cC_dec, AH.cC_nil, AH.c0_dec, AH.c0_dec1, AH.aI_dec, AH.aS_dec, AH.aB_dec, AH.aNil_dec, AH.aNil_ptr, Option.map_none, effS, wrS, newS, backNo, AH.isIn, AH.posOf, AH.rwB, List.all_cons, List.all_nil, List.getElem?_cons_zero, List.getElem?_cons_succ, List.getElem?_nil, AH.appE_some, List.contains_cons, List.contains_nil, Nat.add_zero, newT_eq, z1, dkM, opnN_p, opnT_p, lgR_eq, lgU_eq, lgU_nil, Lg.eta, ne4, Bool.not_false, Bool.and_self, if_true, dkR_eq, dkB_eq, Dk.eta, ne_eq, Nat.reduceEqDiff, Nat.zero_ne_one, not_false_eq_true, awa_ok, z2, opnA, opnM, awb0, opM, List.cons_append, List.nil_append, z5, adN_p, adT_p, awb_eta, awb_ok, hello_sz, and_self, z3, awc0, adM, lgM2, errA0, errA_ren, awc_ok, z4, awd0, errA_nil, awd_eta, recsN_p, recsT_p, lgM, awd_l, saT_p, List.map_append, nextT_p, roomT_p, awd_ok, awc_ok2, awd_n, awd_r, awc_r, saQ_1, awd_same, awl_ok, awl_r]
  try decide
def lawakeT : RT := rtP c0 fun _ => .bool true
theorem lawakeT_ok : ReadF S0 7 lawakeT := rtP_ok (fun _ => lawake_ok) fun _ => rfl
theorem lawakeT_eq (M : Nat → Option Blk) : lawakeT [] M = some (.bool true, []) := rfl
end Go.Proofs.YthapdikdeoeplaaDoor.H6
end

section
open Go AH
set_option linter.unusedSimpArgs false
set_option maxRecDepth 100000
namespace Go.Proofs.YthapdikdeoeplaaDoor.H6
/- What was added is read again. -/
def frs (q : Int) : List ByteArray → List ByteArray
  | [] => []
  | s :: r => blkL q s (sizeN s.size) ++ frs (q + 1) r
theorem frs_snoc : ∀ (W : List ByteArray) (q : Int) (s : ByteArray), frs q (W ++ [s]) = frs q W ++ blkL (q + (W.length : Int)) s (sizeN s.size)
  | [], q, s => by simp [frs]
  | a :: r, q, s => by
    rw [List.cons_append, frs, frs, frs_snoc r (q + 1) s, List.append_assoc]
    rw [show q + 1 + (r.length : Int) = q + ((a :: r).length : Int) by rw [List.length_cons]; omega]
theorem frs_sz : ∀ (W : List ByteArray) (q : Int), ∀ x ∈ frs q W, x.size = 64
  | [], _, _, h => by cases h
  | a :: r, q, x, h => by
    rcases List.mem_append.1 h with h | h
    · exact blkL_sz (Nat.le_refl _) x h
    · exact frs_sz r (q + 1) x h
theorem frs_le : ∀ (W : List ByteArray) (q : Int), W.length ≤ (frs q W).length
  | [], _ => Nat.le_refl _
  | a :: r, q => by
    have := frs_le r (q + 1)
    have h1 := sizeN_pos a.size
    rw [frs, List.length_append, blkL_len, List.length_cons]; omega
theorem firS_ze : (firS zeB).2.2 = false := by decide +kernel
theorem rdZ_no' {l : List ByteArray} (h : (firZ l).2.2 = false) : rdZ l = ⟨⟨#[]⟩, 0, 0, 0⟩ := by rw [rdZ, h]; rfl
theorem rdZ_ze (r : List ByteArray) : (rdZ (zeB :: r)).bad ≠ -1 := by
  have h : (firZ (zeB :: r)).2.2 = false := firS_ze
  rw [rdZ_no' h]; decide
theorem rdZ_zes (n : Nat) : (rdZ (List.replicate n zeB)).bad ≠ -1 := by
  cases n with
  | zero => exact rdZ_nil
  | succ n => rw [List.replicate_succ]; exact rdZ_ze _
theorem logR_stop {k : Nat} {Z : List ByteArray} {q : Int} (h : (rdZ Z).bad ≠ -1) : logR k Z q = ([], 0) := by
  cases k with
  | zero => rfl
  | succ k => unfold logR; rw [if_neg (fun z => h z.1)]
theorem logR_frs : ∀ (W : List ByteArray) (q : Int) (k : Nat) (Z : List ByteArray), 1 ≤ q → q + (W.length : Int) ≤ 2147483647 → (∀ s ∈ W, s.size ≤ 6000) → W.length ≤ k → (rdZ Z).bad ≠ -1 → logR k (frs q W ++ Z) q = (W, (frs q W).length)
  | [], q, k, Z, _, _, _, _, hZ => by rw [frs, List.nil_append, logR_stop hZ]; rfl
  | s :: r, q, k, Z, h1, h2, hs, hk, hZ => by
    obtain ⟨k, rfl⟩ : ∃ k', k = k' + 1 := ⟨k - 1, by rw [List.length_cons] at hk; omega⟩
    rw [List.length_cons] at h2 hk
    have hr := read_back (seq := q) (d := s) h1 (by omega) (hs s (List.mem_cons_self ..)) (frs (q + 1) r ++ Z)
    have hd : (blkL q s (sizeN s.size) ++ (frs (q + 1) r ++ Z)).drop (sizeN s.size) = frs (q + 1) r ++ Z := by
      have := List.drop_left (l₁ := blkL q s (sizeN s.size)) (l₂ := frs (q + 1) r ++ Z)
      rwa [blkL_len] at this
    have ih := logR_frs r (q + 1) k Z (by omega) (by omega) (fun x hx => hs x (List.mem_cons_of_mem _ hx)) (by omega) hZ
    rw [frs, List.append_assoc]
    unfold logR
    rw [hr]
    simp only [and_self, if_true, Int.toNat_natCast, hd, ih, List.length_append, blkL_len]
theorem parts_cut {all : List ByteArray} {F T : Nat} (h : F ≤ T) : all = all.take F ++ ((all.drop F).take (T - F) ++ all.drop T) := by
  have e : all.drop T = (all.drop F).drop (T - F) := by rw [List.drop_drop]; congr 1; omega
  rw [e, List.take_append_drop, List.take_append_drop]
/-- Open where the power stays. -/
theorem opn_on {all : List ByteArray} {F T : Nat} {b w : Int} (hFT : F < T) (hT : T ≤ all.length) (hb : isBase b) :
    ∃ w', opnZ (dOn all w) F T b = (0, ⟨dOn (lgL (all.take F) ((all.drop F).take (logR (T - F) ((all.drop F).take (T - F)) (b + 1)).2) (all.drop T) (T - F)) w', F, T, b, ((F + (logR (T - F) ((all.drop F).take (T - F)) (b + 1)).2 : Nat) : Int), (logR (T - F) ((all.drop F).take (T - F)) (b + 1)).1, false⟩) := by
  have hu := (logR_le (T - F) ((all.drop F).take (T - F)) (b + 1)).1
  rw [List.length_take, List.length_drop] at hu
  generalize hx : logR (T - F) ((all.drop F).take (T - F)) (b + 1) = x at *
  obtain ⟨W, u⟩ := x
  simp only at hu
  have hu' : u ≤ T - F := by omega
  have e1 : all = (all.take F ++ (all.drop F).take u) ++ ((all.drop (F + u)).take (T - F - u) ++ all.drop T) := by
    have := parts_cut (all := all) (F := F) (T := F + u) (by omega)
    have h2 := parts_cut (all := all.drop F) (F := u) (T := T - F) hu'
    rw [List.drop_drop, List.drop_drop, show F + (T - F) = T by omega] at h2
    conv => lhs; rw [← List.take_append_drop F all, h2]
    simp only [List.append_assoc]
  obtain ⟨w', h⟩ := wipe_on (T - F - u) (all.take F ++ (all.drop F).take u) ((all.drop (F + u)).take (T - F - u)) (all.drop T) w (by rw [List.length_take, List.length_drop]; omega)
  rw [← e1] at h
  have hlen : (all.take F ++ (all.drop F).take u).length = F + u := by rw [List.length_append, List.length_take, List.length_take, List.length_drop]; omega
  rw [hlen] at h
  refine ⟨w', ?_⟩
  unfold opnZ
  rw [if_neg (by rintro (q | q | q | q) <;> first | omega | exact q hb | (have : (dOn all w).L.length = all.length := rfl; omega)), if_neg (by simp [dOn])]
  have e2 : (dOn all w).L = all := rfl
  simp only [Int.toNat_natCast, show ((T : Int) - (F : Int)).toNat = T - F by omega, e2, hx, show T - (F + u) = T - F - u by omega]
  rw [h]
  simp only [lgL, List.length_take, List.length_drop, show min u (all.length - F) = u by omega, List.append_assoc]
/-- Open again of a part with frames. -/
theorem opn_frs {A C : List ByteArray} {n : Nat} {b w : Int} {W : List ByteArray} (hn : 0 < n) (hB : (frs (b + 1) W).length ≤ n) (hb : isBase b) (hW : ∀ s ∈ W, s.size ≤ 6000) (hl : W.length ≤ 4096) :
    ∃ w', opnZ (dOn (lgL A (frs (b + 1) W) C n) w) A.length ((A.length + n : Nat) : Int) b = (0, ⟨dOn (lgL A (frs (b + 1) W) C n) w', A.length, ((A.length + n : Nat) : Int), b, ((A.length + (frs (b + 1) W).length : Nat) : Int), W, false⟩) := by
  obtain ⟨w', h⟩ := opn_on (all := lgL A (frs (b + 1) W) C n) (F := A.length) (T := A.length + n) (b := b) (w := w) (by omega) (by rw [lgL_len hB]; omega) hb
  have e1 : (lgL A (frs (b + 1) W) C n).take A.length = A := by rw [lgL, List.take_left]
  have e2 : (lgL A (frs (b + 1) W) C n).drop A.length = frs (b + 1) W ++ (List.replicate (n - (frs (b + 1) W).length) zeB ++ C) := by rw [lgL, List.drop_left]
  have e3 : (frs (b + 1) W ++ (List.replicate (n - (frs (b + 1) W).length) zeB ++ C)).take n = frs (b + 1) W ++ List.replicate (n - (frs (b + 1) W).length) zeB := by
    rw [← List.append_assoc]
    exact List.take_left' (by simp; omega)
  have e4 : (lgL A (frs (b + 1) W) C n).drop (A.length + n) = C := by
    rw [← List.drop_drop, e2, ← List.append_assoc]
    exact List.drop_left' (by simp; omega)
  have hr := logR_frs W (b + 1) n (List.replicate (n - (frs (b + 1) W).length) zeB) (by have := hb.1; omega) (by have := hb.2; omega) hW (by have := frs_le W (b + 1); omega) (rdZ_zes _)
  rw [show A.length + n - A.length = n by omega, e1, e2, e3, e4, hr, List.take_left] at h
  exact ⟨w', h⟩
/- A new disk. -/
theorem rep_ex {k i j : Nat} (h : j ≤ k) (hij : i ≤ j) : (repS ⟨#[0]⟩ k).extract i j = repS ⟨#[0]⟩ (j - i) := by
  rw [← repS_list, ← repS_list]
  apply ByteArray.ext
  rw [ByteArray.data_extract]
  apply Array.ext'
  simp [List.extract_eq_take_drop]
  omega
theorem newD_rep {n : Nat} (h : n ≤ 4096) : newD n = dOn (List.replicate n zeB) 0 := by
  have hn : newN (n : Int) = n := by
    unfold newN minI maxI
    split <;> split <;> omega
  have hz : zeros (n : Int) = repS ⟨#[0]⟩ (64 * n) := by
    unfold zeros; rw [hn]; congr 1; omega
  have hs : (zeros (n : Int)).size = 64 * n := by rw [hz, repS_sz]
  have hb : nb (zeros (n : Int)) = n := by unfold nb; rw [hs]; omega
  have hL : blks (zeros (n : Int)) n = List.replicate n zeB := by
    refine List.ext_getElem? fun i => ?_
    rw [blks, List.getElem?_map, List.getElem?_replicate]
    by_cases hi : i < n
    · rw [List.getElem?_range hi, if_pos hi, Option.map_some, hz, rep_ex (by omega) (by omega), show 64 * i + 64 - 64 * i = 64 by omega]; rfl
    · rw [List.getElem?_eq_none (by simpa using hi), if_neg hi]; rfl
  show ofD (zeros (n : Int)) = _
  rw [ofD, hb, hL]; rfl
end Go.Proofs.YthapdikdeoeplaaDoor.H6
end
