import Derived.Test.YtcmnchmkoghfdaaDoorFrmRC05h
open Go AH
set_option linter.unusedSimpArgs false
set_option maxRecDepth 100000
namespace Go.Proofs.YtcmnchmkoghfdaaDoor.C05h
theorem firB_in {seq n : Int} {e : ByteArray} (h : firB seq n e = true) : 1 ≤ seq ∧ seq ≤ 2147483647 ∧ 1 ≤ n ∧ n ≤ 108 := by
  unfold firB at h
  cases h1 : decide (seq ≥ 1) <;> cases h2 : decide (seq ≤ 2147483647) <;> cases h3 : decide (n ≥ 1) <;> cases h4 : decide (n ≤ 108) <;> rw [h1, h2, h3, h4] at h <;> first | (cases h; done) | skip
  simp only [decide_eq_true_eq] at h1 h2 h3 h4
  omega
theorem firZ_in {l : List ByteArray} (h : (firZ l).2.2 = true) : 1 ≤ (firZ l).1 ∧ (firZ l).1 ≤ 2147483647 ∧ 1 ≤ (firZ l).2.1 ∧ (firZ l).2.1 ≤ 108 := by
  cases l with
  | nil => cases h
  | cons s r =>
    simp only [firZ, firS] at h ⊢
    cases h6 : ((s.size : Int) != 64)
    · rw [h6] at h
      simp only [cond_false] at h ⊢
      exact firB_in h
    · rw [h6] at h; cases h
theorem firT_f {l : List ByteArray} {i : Nat} {ro : Bool} (h : l.length ≤ 1048576) : rt1Q 1 cStr (fun l (_ : Unit) => firA (firZ l)) l.length i (some (.row ro 1 (l.map strC))) (some ()) = some (.tup [.int .i64 (firZ l).1, .int .i64 (firZ l).2.1, .bool (firZ l).2.2], [i]) := firT_e h
/-- What Read gives: the text, its number, how many blocks; the place of what is wrong, or -1. -/
structure Rd where
  t : ByteArray
  q : Int
  n : Int
  bad : Int
def rdZ (l : List ByteArray) : Rd :=
  bif (firZ l).2.2 then
    (bif decide ((jnZ l (firZ l).1 (firZ l).2.1.toNat).2 ≥ 0) then ⟨⟨#[]⟩, 0, 0, (jnZ l (firZ l).1 (firZ l).2.1.toNat).2⟩
     else bif (datZ (jnZ l (firZ l).1 (firZ l).2.1.toNat).1).2 then ⟨(datZ (jnZ l (firZ l).1 (firZ l).2.1.toNat).1).1, (firZ l).1, (firZ l).2.1, -1⟩ else ⟨⟨#[]⟩, 0, 0, 0⟩)
  else ⟨⟨#[]⟩, 0, 0, 0⟩
def rdA (x : Rd) : AV := .tup [.str x.t, .int .i64 x.q, .int .i64 x.n, bif x.bad == -1 then .nili else .ifc 88 (.ptr 1 0 0)]
def rdM (l : List ByteArray) (x : Rd) : Mem := some (.row true 1 (l.map strC)) :: bif x.bad == -1 then [] else wrM x.bad
noncomputable abbrev tRd : List (FuncId × RT) := [(44, firT), (46, jnT), (47, datRT)]
theorem okRd : CtxOK S0 (ctxE S0 tRd [] [(45, wrT)]) := ctxE_ok ⟨firT_ok, jnT_ok, datRT_ok, trivial⟩ trivial ⟨wrT_ok, trivial⟩ mixed
theorem read_ok (l : List ByteArray) (hl : l.length ≤ 1048576) : CallA1 S0 32 [.slc 0 0 l.length none] [some (.row true 1 (l.map strC))] fun r m => r = rdA (rdZ l) ∧ m = rdM l (rdZ l) := by
  refine CallA1.fin ?_
  refine fun_sound okRd Tryd.func32 c32 ?_
  unfold wpF F32
  cases h1 : (firZ l).2.2
  · have hz : rdZ l = ⟨⟨#[]⟩, 0, 0, 0⟩ := by rw [rdZ, h1]; rfl
    simp only [AH.SD, AH.wpOp, AOp.call?, AOp.next?, bstep, AOp.map, Opd.ev, tget, argTm, evs, AV.cells, St.eff, St.put, applyWr, mset, terase, pureE, unAV, intOp, binAV, fill, mget, AH.rowAt, AH.part, retQ, rvs, retV, AH.splice, AH.sliceElems, AH.bytesOf, AH.strOp, AH.bound, AH.addLog, AH.missQ, AH.minmaxAV, AH.wpOpD, AH.readOf, AH.effOf, AH.mapAt, AH.iterAt, Nat.reduceBEq, Nat.reduceAdd, Nat.reduceLT, ↓reduceIte, Nat.reduceEqDiff, Nat.reduceLeDiff, Nat.reduceSub, Nat.reduceMul, Int.reduceSub, Int.reduceToNat, Int.reduceBEq, Int.reduceBNe, Int.reduceLT, Int.reduceGT, Int.reduceLE, Int.reduceGE, Int.reduceNeg, Int.reduceAdd, AH.PD, heads, distN, AH.inN, posN, packM, packB, packTm, liveB, AV.inB, AV.insB, AV.ren, AV.rens, Blk.ren, Blk.inB, vstep, tput, vw, shift, newOnes, rowsM, blkIn, rwB, @flat_lts, AV.lt, AV.lts, Nat.sub_self, AH.rtO_eq, AH.rtO2_eq, AH.rtO2_none, AH.etO_eq, AH.etO2_eq, AH.etO2_none, AH.useO_some, AH.rtElse_eq, AH.elseO_some, AH.elseO_none, AH.etN_eq, Option.bind_some, Option.bind_none, AH.pairO_some, AH.pairO_none, AH.cC_dec, AH.cC_nil, AH.c0_dec, AH.c0_dec1, AH.aI_dec, AH.aS_dec, AH.aB_dec, AH.aNil_dec, AH.aNil_ptr, Option.map_none, effS, wrS, newS, backNo, AH.isIn, AH.posOf, AH.rwB, List.all_cons, List.all_nil, List.getElem?_cons_zero, List.getElem?_cons_succ, List.getElem?_nil, AH.appE_some, List.contains_cons, List.contains_nil, Nat.add_zero, firT_p, firT_f hl, h1, wrT_eq, wrA, wrM]
    refine ⟨[0, 1], [], ?_⟩
    simp only [AH.SD, AH.wpOp, AOp.call?, AOp.next?, bstep, AOp.map, Opd.ev, tget, argTm, evs, AV.cells, St.eff, St.put, applyWr, mset, terase, pureE, unAV, intOp, binAV, fill, mget, AH.rowAt, AH.part, retQ, rvs, retV, AH.splice, AH.sliceElems, AH.bytesOf, AH.strOp, AH.bound, AH.addLog, AH.missQ, AH.minmaxAV, AH.wpOpD, AH.readOf, AH.effOf, AH.mapAt, AH.iterAt, Nat.reduceBEq, Nat.reduceAdd, Nat.reduceLT, ↓reduceIte, Nat.reduceEqDiff, Nat.reduceLeDiff, Nat.reduceSub, Nat.reduceMul, Int.reduceSub, Int.reduceToNat, Int.reduceBEq, Int.reduceBNe, Int.reduceLT, Int.reduceGT, Int.reduceLE, Int.reduceGE, Int.reduceNeg, Int.reduceAdd, AH.PD, heads, distN, AH.inN, posN, packM, packB, packTm, liveB, AV.inB, AV.insB, AV.ren, AV.rens, Blk.ren, Blk.inB, vstep, tput, hz, rdA, rdM, wrM, show ((0 : Int) == -1) = false from rfl]
  · obtain ⟨q1, q2, q3, q4⟩ := firZ_in h1
    obtain ⟨K, hK⟩ := Int.eq_ofNat_of_zero_le (by omega : 0 ≤ (firZ l).2.1)
    have hKn : (firZ l).2.1.toNat = K := by omega
    have jq := fun (i : Nat) (ro : Bool) => jnQ_eq (l := l) (id := i) (ro := ro) (seq := (firZ l).1) hl (show K ≤ 1000 by omega)
    rcases joinS_at l (firZ l).1 K K 0 ⟨#[]⟩ with hj | hj
    · have hsz : (jnZ l (firZ l).1 K).1.size = 56 * K := by have := joinS_sz l (firZ l).1 K K 0 ⟨#[]⟩ hj; rw [jnZ, this]; show 0 + 56 * K = 56 * K; omega
      have hneg : decide ((jnZ l (firZ l).1 K).2 ≥ 0) = false := by rw [jnZ, hj]; rfl
      have h8 : 8 ≤ (jnZ l (firZ l).1 K).1.size := by omega
      have hok : okSz (jnZ l (firZ l).1 K).1 := by unfold okSz; omega
      cases hd : (datZ (jnZ l (firZ l).1 K).1).2
      · have hz : rdZ l = ⟨⟨#[]⟩, 0, 0, 0⟩ := by rw [rdZ, h1, hKn, hneg, hd]; rfl
        simp only [AH.SD, AH.wpOp, AOp.call?, AOp.next?, bstep, AOp.map, Opd.ev, tget, argTm, evs, AV.cells, St.eff, St.put, applyWr, mset, terase, pureE, unAV, intOp, binAV, fill, mget, AH.rowAt, AH.part, retQ, rvs, retV, AH.splice, AH.sliceElems, AH.bytesOf, AH.strOp, AH.bound, AH.addLog, AH.missQ, AH.minmaxAV, AH.wpOpD, AH.readOf, AH.effOf, AH.mapAt, AH.iterAt, Nat.reduceBEq, Nat.reduceAdd, Nat.reduceLT, ↓reduceIte, Nat.reduceEqDiff, Nat.reduceLeDiff, Nat.reduceSub, Nat.reduceMul, Int.reduceSub, Int.reduceToNat, Int.reduceBEq, Int.reduceBNe, Int.reduceLT, Int.reduceGT, Int.reduceLE, Int.reduceGE, Int.reduceNeg, Int.reduceAdd, AH.PD, heads, distN, AH.inN, posN, packM, packB, packTm, liveB, AV.inB, AV.insB, AV.ren, AV.rens, Blk.ren, Blk.inB, vstep, tput, vw, shift, newOnes, rowsM, blkIn, rwB, @flat_lts, AV.lt, AV.lts, Nat.sub_self, AH.rtO_eq, AH.rtO2_eq, AH.rtO2_none, AH.etO_eq, AH.etO2_eq, AH.etO2_none, AH.useO_some, AH.rtElse_eq, AH.elseO_some, AH.elseO_none, AH.etN_eq, Option.bind_some, Option.bind_none, AH.pairO_some, AH.pairO_none, AH.cC_dec, AH.cC_nil, AH.c0_dec, AH.c0_dec1, AH.aI_dec, AH.aS_dec, AH.aB_dec, AH.aNil_dec, AH.aNil_ptr, Option.map_none, effS, wrS, newS, backNo, AH.isIn, AH.posOf, AH.rwB, List.all_cons, List.all_nil, List.getElem?_cons_zero, List.getElem?_cons_succ, List.getElem?_nil, AH.appE_some, List.contains_cons, List.contains_nil, Nat.add_zero, firT_p, firT_f hl, h1, hK, jnT_p, jq, hneg, datRT_p h8 hok, hd, wrT_eq, wrA, wrM]
        refine ⟨[0, 1], [], ?_⟩
        simp only [AH.SD, AH.wpOp, AOp.call?, AOp.next?, bstep, AOp.map, Opd.ev, tget, argTm, evs, AV.cells, St.eff, St.put, applyWr, mset, terase, pureE, unAV, intOp, binAV, fill, mget, AH.rowAt, AH.part, retQ, rvs, retV, AH.splice, AH.sliceElems, AH.bytesOf, AH.strOp, AH.bound, AH.addLog, AH.missQ, AH.minmaxAV, AH.wpOpD, AH.readOf, AH.effOf, AH.mapAt, AH.iterAt, Nat.reduceBEq, Nat.reduceAdd, Nat.reduceLT, ↓reduceIte, Nat.reduceEqDiff, Nat.reduceLeDiff, Nat.reduceSub, Nat.reduceMul, Int.reduceSub, Int.reduceToNat, Int.reduceBEq, Int.reduceBNe, Int.reduceLT, Int.reduceGT, Int.reduceLE, Int.reduceGE, Int.reduceNeg, Int.reduceAdd, AH.PD, heads, distN, AH.inN, posN, packM, packB, packTm, liveB, AV.inB, AV.insB, AV.ren, AV.rens, Blk.ren, Blk.inB, vstep, tput, hz, rdA, rdM, wrM, show ((0 : Int) == -1) = false from rfl]
      · have hz : rdZ l = ⟨(datZ (jnZ l (firZ l).1 K).1).1, (firZ l).1, (firZ l).2.1, -1⟩ := by rw [rdZ, h1, hKn, hneg, hd]; rfl
        simp only [AH.SD, AH.wpOp, AOp.call?, AOp.next?, bstep, AOp.map, Opd.ev, tget, argTm, evs, AV.cells, St.eff, St.put, applyWr, mset, terase, pureE, unAV, intOp, binAV, fill, mget, AH.rowAt, AH.part, retQ, rvs, retV, AH.splice, AH.sliceElems, AH.bytesOf, AH.strOp, AH.bound, AH.addLog, AH.missQ, AH.minmaxAV, AH.wpOpD, AH.readOf, AH.effOf, AH.mapAt, AH.iterAt, Nat.reduceBEq, Nat.reduceAdd, Nat.reduceLT, ↓reduceIte, Nat.reduceEqDiff, Nat.reduceLeDiff, Nat.reduceSub, Nat.reduceMul, Int.reduceSub, Int.reduceToNat, Int.reduceBEq, Int.reduceBNe, Int.reduceLT, Int.reduceGT, Int.reduceLE, Int.reduceGE, Int.reduceNeg, Int.reduceAdd, AH.PD, heads, distN, AH.inN, posN, packM, packB, packTm, liveB, AV.inB, AV.insB, AV.ren, AV.rens, Blk.ren, Blk.inB, vstep, tput, vw, shift, newOnes, rowsM, blkIn, rwB, @flat_lts, AV.lt, AV.lts, Nat.sub_self, AH.rtO_eq, AH.rtO2_eq, AH.rtO2_none, AH.etO_eq, AH.etO2_eq, AH.etO2_none, AH.useO_some, AH.rtElse_eq, AH.elseO_some, AH.elseO_none, AH.etN_eq, Option.bind_some, Option.bind_none, AH.pairO_some, AH.pairO_none, AH.cC_dec, AH.cC_nil, AH.c0_dec, AH.c0_dec1, AH.aI_dec, AH.aS_dec, AH.aB_dec, AH.aNil_dec, AH.aNil_ptr, Option.map_none, effS, wrS, newS, backNo, AH.isIn, AH.posOf, AH.rwB, List.all_cons, List.all_nil, List.getElem?_cons_zero, List.getElem?_cons_succ, List.getElem?_nil, AH.appE_some, List.contains_cons, List.contains_nil, Nat.add_zero, firT_p, firT_f hl, h1, hK, jnT_p, jq, hneg, datRT_p h8 hok, hd]
        refine ⟨[0], [], ?_⟩
        simp only [AH.SD, AH.wpOp, AOp.call?, AOp.next?, bstep, AOp.map, Opd.ev, tget, argTm, evs, AV.cells, St.eff, St.put, applyWr, mset, terase, pureE, unAV, intOp, binAV, fill, mget, AH.rowAt, AH.part, retQ, rvs, retV, AH.splice, AH.sliceElems, AH.bytesOf, AH.strOp, AH.bound, AH.addLog, AH.missQ, AH.minmaxAV, AH.wpOpD, AH.readOf, AH.effOf, AH.mapAt, AH.iterAt, Nat.reduceBEq, Nat.reduceAdd, Nat.reduceLT, ↓reduceIte, Nat.reduceEqDiff, Nat.reduceLeDiff, Nat.reduceSub, Nat.reduceMul, Int.reduceSub, Int.reduceToNat, Int.reduceBEq, Int.reduceBNe, Int.reduceLT, Int.reduceGT, Int.reduceLE, Int.reduceGE, Int.reduceNeg, Int.reduceAdd, AH.PD, heads, distN, AH.inN, posN, packM, packB, packTm, liveB, AV.inB, AV.insB, AV.ren, AV.rens, Blk.ren, Blk.inB, vstep, tput, hz, rdA, rdM, hK, show ((-1 : Int) == -1) = true from rfl]
    · have hpos : decide ((jnZ l (firZ l).1 K).2 ≥ 0) = true := decide_eq_true (show (joinS l (firZ l).1 K K 0 ⟨#[]⟩).2 ≥ 0 from hj)
      have hne : ((jnZ l (firZ l).1 K).2 == -1) = false := by simp only [jnZ, beq_eq_false_iff_ne]; omega
      have hz : rdZ l = ⟨⟨#[]⟩, 0, 0, (jnZ l (firZ l).1 K).2⟩ := by rw [rdZ, h1, hKn, hpos]; rfl
      simp only [AH.SD, AH.wpOp, AOp.call?, AOp.next?, bstep, AOp.map, Opd.ev, tget, argTm, evs, AV.cells, St.eff, St.put, applyWr, mset, terase, pureE, unAV, intOp, binAV, fill, mget, AH.rowAt, AH.part, retQ, rvs, retV, AH.splice, AH.sliceElems, AH.bytesOf, AH.strOp, AH.bound, AH.addLog, AH.missQ, AH.minmaxAV, AH.wpOpD, AH.readOf, AH.effOf, AH.mapAt, AH.iterAt, Nat.reduceBEq, Nat.reduceAdd, Nat.reduceLT, ↓reduceIte, Nat.reduceEqDiff, Nat.reduceLeDiff, Nat.reduceSub, Nat.reduceMul, Int.reduceSub, Int.reduceToNat, Int.reduceBEq, Int.reduceBNe, Int.reduceLT, Int.reduceGT, Int.reduceLE, Int.reduceGE, Int.reduceNeg, Int.reduceAdd, AH.PD, heads, distN, AH.inN, posN, packM, packB, packTm, liveB, AV.inB, AV.insB, AV.ren, AV.rens, Blk.ren, Blk.inB, vstep, tput, vw, shift, newOnes, rowsM, blkIn, rwB, @flat_lts, AV.lt, AV.lts, Nat.sub_self, AH.rtO_eq, AH.rtO2_eq, AH.rtO2_none, AH.etO_eq, AH.etO2_eq, AH.etO2_none, AH.useO_some, AH.rtElse_eq, AH.elseO_some, AH.elseO_none, AH.etN_eq, Option.bind_some, Option.bind_none, AH.pairO_some, AH.pairO_none, AH.cC_dec, AH.cC_nil, AH.c0_dec, AH.c0_dec1, AH.aI_dec, AH.aS_dec, AH.aB_dec, AH.aNil_dec, AH.aNil_ptr, Option.map_none, effS, wrS, newS, backNo, AH.isIn, AH.posOf, AH.rwB, List.all_cons, List.all_nil, List.getElem?_cons_zero, List.getElem?_cons_succ, List.getElem?_nil, AH.appE_some, List.contains_cons, List.contains_nil, Nat.add_zero, firT_p, firT_f hl, h1, hK, jnT_p, jq, hpos, wrT_eq, wrA, wrM]
      refine ⟨[0, 1], [], ?_⟩
      simp only [AH.SD, AH.wpOp, AOp.call?, AOp.next?, bstep, AOp.map, Opd.ev, tget, argTm, evs, AV.cells, St.eff, St.put, applyWr, mset, terase, pureE, unAV, intOp, binAV, fill, mget, AH.rowAt, AH.part, retQ, rvs, retV, AH.splice, AH.sliceElems, AH.bytesOf, AH.strOp, AH.bound, AH.addLog, AH.missQ, AH.minmaxAV, AH.wpOpD, AH.readOf, AH.effOf, AH.mapAt, AH.iterAt, Nat.reduceBEq, Nat.reduceAdd, Nat.reduceLT, ↓reduceIte, Nat.reduceEqDiff, Nat.reduceLeDiff, Nat.reduceSub, Nat.reduceMul, Int.reduceSub, Int.reduceToNat, Int.reduceBEq, Int.reduceBNe, Int.reduceLT, Int.reduceGT, Int.reduceLE, Int.reduceGE, Int.reduceNeg, Int.reduceAdd, AH.PD, heads, distN, AH.inN, posN, packM, packB, packTm, liveB, AV.inB, AV.insB, AV.ren, AV.rens, Blk.ren, Blk.inB, vstep, tput, hz, rdA, rdM, wrM, hne]
def rdT : ET := etO (sxO cStr 1) c0 fun l _ => if l.length ≤ 1048576 then some (rdA (rdZ l), rdM l (rdZ l)) else none
theorem rdT_ok : EffF S0 32 rdT := etO_ok fun l _ v m' h => by
  split at h
  · rename_i hl
    simp only [Option.some.injEq, Prod.mk.injEq] at h
    obtain ⟨rfl, rfl⟩ := h
    refine ⟨⟨?_, ?_⟩, read_ok l hl⟩
    · unfold rdM; simp [sxO]
    · unfold rdM
      cases (rdZ l).bad == -1 <;> rfl
  · cases h
theorem rdT_p {i n k : Nat} {M : Nat → Option Blk} : rdT [.slc i 0 k none] M n = etO2 n (fun (l : List ByteArray) (_ : Unit) => if l.length ≤ 1048576 then some (rdA (rdZ l), rdM l (rdZ l)) else none) (sxR cStr 1 k i (M i)) (some ()) := by
  simp only [rdT, etO_eq, c0_dec, sxO_dec]
end Go.Proofs.YtcmnchmkoghfdaaDoor.C05h
