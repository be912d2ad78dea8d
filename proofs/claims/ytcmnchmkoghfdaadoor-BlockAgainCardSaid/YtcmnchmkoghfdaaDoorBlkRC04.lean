import Derived.Test.YtcmnchmkoghfdaaDoorBlkIC04
import Derived.Test.YtcmnchmkoghfdaaDoorFBlkRC04
open Go AH
set_option linter.unusedSimpArgs false
set_option maxRecDepth 100000
namespace Go.Proofs.YtcmnchmkoghfdaaDoor.C04
/- The reference's disk: the same, but for the power, which is told the other way round. -/
def onD (d : Dk) : Dk := { d with away := !d.away }
theorem onD_onD (d : Dk) : onD (onD d) = d := by
  cases d; simp [onD]
theorem onD_ok {d : Dk} (h : d.ok) : (onD d).ok := h
theorem onD_ok' {d : Dk} : (onD d).ok ↔ d.ok := Iff.rfl

def rofSt (s : ByteArray) (i : Nat) : St := ⟨[(4, .int .i64 ((64 * i : Nat) : Int)), (3, .ptr 0 0 0), (0, .str s)], dkM ⟨blks s i, true, -1, 0, 0⟩⟩
set_option maxRecDepth 100000 in
theorem rof_ok (s : ByteArray) : CallA1 S0 13 [.str s] [] fun r m => r = .ptr 0 0 0 ∧ m = dkM (onD (ofD s)) := by
  refine CallA1.fin ?_
  refine fun_sound okZ0 Tryd.func13 c13 ?_
  unfold wpF F13
  simp only [AH.SD, AH.wpOp, AOp.call?, AOp.next?, bstep, AOp.map, Opd.ev, tget, argTm, evs, AV.cells, St.eff, St.put, applyWr, mset, terase, pureE, unAV, intOp, binAV, fill, mget, AH.rowAt, AH.part, retQ, rvs, retV, AH.splice, AH.sliceElems, AH.bytesOf, AH.strOp, AH.bound, AH.addLog, AH.missQ, AH.minmaxAV, AH.wpOpD, AH.readOf, AH.effOf, AH.mapAt, AH.iterAt, Nat.reduceBEq, Nat.reduceAdd, Nat.reduceLT, ↓reduceIte, Nat.reduceEqDiff, Nat.reduceLeDiff, Nat.reduceSub, Nat.reduceMul, Int.reduceSub, Int.reduceToNat, Int.reduceBEq, Int.reduceBNe, Int.reduceLT, Int.reduceGT, Int.reduceLE, Int.reduceGE, Int.reduceNeg, Int.reduceAdd]
  refine loop_do [0] [4, 3, 0] [.cell 0 0 0 1] (α := Nat) (fun i => 4096 - i) (rofSt s) (fun i => i ≤ nb s) 0 (Nat.zero_le _) (by simp only [AH.SD, AH.wpOp, AOp.call?, AOp.next?, bstep, AOp.map, Opd.ev, tget, argTm, evs, AV.cells, St.eff, St.put, applyWr, mset, terase, pureE, unAV, intOp, binAV, fill, mget, AH.rowAt, AH.part, retQ, rvs, retV, AH.splice, AH.sliceElems, AH.bytesOf, AH.strOp, AH.bound, AH.addLog, AH.missQ, AH.minmaxAV, AH.wpOpD, AH.readOf, AH.effOf, AH.mapAt, AH.iterAt, Nat.reduceBEq, Nat.reduceAdd, Nat.reduceLT, ↓reduceIte, Nat.reduceEqDiff, Nat.reduceLeDiff, Nat.reduceSub, Nat.reduceMul, Int.reduceSub, Int.reduceToNat, Int.reduceBEq, Int.reduceBNe, Int.reduceLT, Int.reduceGT, Int.reduceLE, Int.reduceGE, Int.reduceNeg, Int.reduceAdd, AH.PD, heads, distN, AH.inN, posN, packM, packB, packTm, liveB, AV.inB, AV.insB, AV.ren, AV.rens, Blk.ren, Blk.inB, vstep, tput, rofSt, dkM, blks, List.range_zero]) ?_
  intro X i hi ih
  have hn : nb s ≤ s.size / 64 ∧ nb s ≤ 4096 := by unfold nb; omega
  have w1 : IntKind.i64.wrap (((64 * i : Nat) : Int) + 64) = ((64 * (i + 1) : Nat) : Int) := by rw [IntKind.wrap_i64]; omega
  simp only [AH.SD, AH.wpOp, AOp.call?, AOp.next?, bstep, AOp.map, Opd.ev, tget, argTm, evs, AV.cells, St.eff, St.put, applyWr, mset, terase, pureE, unAV, intOp, binAV, fill, mget, AH.rowAt, AH.part, retQ, rvs, retV, AH.splice, AH.sliceElems, AH.bytesOf, AH.strOp, AH.bound, AH.addLog, AH.missQ, AH.minmaxAV, AH.wpOpD, AH.readOf, AH.effOf, AH.mapAt, AH.iterAt, Nat.reduceBEq, Nat.reduceAdd, Nat.reduceLT, ↓reduceIte, Nat.reduceEqDiff, Nat.reduceLeDiff, Nat.reduceSub, Nat.reduceMul, Int.reduceSub, Int.reduceToNat, Int.reduceBEq, Int.reduceBNe, Int.reduceLT, Int.reduceGT, Int.reduceLE, Int.reduceGE, Int.reduceNeg, Int.reduceAdd, rofSt, dkM, blks_len, w1]
  by_cases h64 : 64 * (i + 1) ≤ s.size
  · have h1 : decide (((64 * (i + 1) : Nat) : Int) ≤ (s.size : Int)) = true := by simp only [decide_eq_true_eq]; omega
    simp only [AH.SD, AH.wpOp, AOp.call?, AOp.next?, bstep, AOp.map, Opd.ev, tget, argTm, evs, AV.cells, St.eff, St.put, applyWr, mset, terase, pureE, unAV, intOp, binAV, fill, mget, AH.rowAt, AH.part, retQ, rvs, retV, AH.splice, AH.sliceElems, AH.bytesOf, AH.strOp, AH.bound, AH.addLog, AH.missQ, AH.minmaxAV, AH.wpOpD, AH.readOf, AH.effOf, AH.mapAt, AH.iterAt, Nat.reduceBEq, Nat.reduceAdd, Nat.reduceLT, ↓reduceIte, Nat.reduceEqDiff, Nat.reduceLeDiff, Nat.reduceSub, Nat.reduceMul, Int.reduceSub, Int.reduceToNat, Int.reduceBEq, Int.reduceBNe, Int.reduceLT, Int.reduceGT, Int.reduceLE, Int.reduceGE, Int.reduceNeg, Int.reduceAdd, h1]
    refine ⟨fun hlt => ?_, fun hlt => ?_⟩
    · have hi2 : i < nb s := by
        have : i < 4096 := by simp only [decide_eq_true_eq] at hlt; omega
        unfold nb; omega
      have done := ih (i + 1) hi2 (by omega)
      simp only [rofSt, dkM, blks_succ, blks_len, List.map_append, List.map_cons, List.map_nil, List.length_append, List.length_cons, List.length_nil, Nat.zero_add, strC_eq] at done
      have e3 : ((blks s i).map strC).take i = (blks s i).map strC := List.take_of_length_le (by rw [List.length_map, blks_len]; exact Nat.le_refl _)
      simp only [AH.SD, AH.wpOp, AOp.call?, AOp.next?, bstep, AOp.map, Opd.ev, tget, argTm, evs, AV.cells, St.eff, St.put, applyWr, mset, terase, pureE, unAV, intOp, binAV, fill, mget, AH.rowAt, AH.part, retQ, rvs, retV, AH.splice, AH.sliceElems, AH.bytesOf, AH.strOp, AH.bound, AH.addLog, AH.missQ, AH.minmaxAV, AH.wpOpD, AH.readOf, AH.effOf, AH.mapAt, AH.iterAt, Nat.reduceBEq, Nat.reduceAdd, Nat.reduceLT, ↓reduceIte, Nat.reduceEqDiff, Nat.reduceLeDiff, Nat.reduceSub, Nat.reduceMul, Int.reduceSub, Int.reduceToNat, Int.reduceBEq, Int.reduceBNe, Int.reduceLT, Int.reduceGT, Int.reduceLE, Int.reduceGE, Int.reduceNeg, Int.reduceAdd, w1, e3, List.length_map, blks_len, Int.toNat_natCast]
      repeat (refine ⟨by first | rfl | decide | omega | (simp only [List.length_map, and_true]; omega) | (simp only [List.length_map, List.length_set, and_true]; omega), ?_⟩)
      refine gc_auto [0, 3] [4, 3, 0] [] ?_
      simp only [AH.SD, AH.wpOp, AOp.call?, AOp.next?, bstep, AOp.map, Opd.ev, tget, argTm, evs, AV.cells, St.eff, St.put, applyWr, mset, terase, pureE, unAV, intOp, binAV, fill, mget, AH.rowAt, AH.part, retQ, rvs, retV, AH.splice, AH.sliceElems, AH.bytesOf, AH.strOp, AH.bound, AH.addLog, AH.missQ, AH.minmaxAV, AH.wpOpD, AH.readOf, AH.effOf, AH.mapAt, AH.iterAt, Nat.reduceBEq, Nat.reduceAdd, Nat.reduceLT, ↓reduceIte, Nat.reduceEqDiff, Nat.reduceLeDiff, Nat.reduceSub, Nat.reduceMul, Int.reduceSub, Int.reduceToNat, Int.reduceBEq, Int.reduceBNe, Int.reduceLT, Int.reduceGT, Int.reduceLE, Int.reduceGE, Int.reduceNeg, Int.reduceAdd, AH.PD, heads, distN, AH.inN, posN, packM, packB, packTm, liveB, AV.inB, AV.insB, AV.ren, AV.rens, Blk.ren, Blk.inB, vstep, tput, blks_len, w1]
      exact done
    · have : i = nb s := by
        have : ¬ i < 4096 := by simp only [decide_eq_false_iff_not] at hlt; omega
        unfold nb at hi ⊢; omega
      subst this
      simp only [AH.SD, AH.wpOp, AOp.call?, AOp.next?, bstep, AOp.map, Opd.ev, tget, argTm, evs, AV.cells, St.eff, St.put, applyWr, mset, terase, pureE, unAV, intOp, binAV, fill, mget, AH.rowAt, AH.part, retQ, rvs, retV, AH.splice, AH.sliceElems, AH.bytesOf, AH.strOp, AH.bound, AH.addLog, AH.missQ, AH.minmaxAV, AH.wpOpD, AH.readOf, AH.effOf, AH.mapAt, AH.iterAt, Nat.reduceBEq, Nat.reduceAdd, Nat.reduceLT, ↓reduceIte, Nat.reduceEqDiff, Nat.reduceLeDiff, Nat.reduceSub, Nat.reduceMul, Int.reduceSub, Int.reduceToNat, Int.reduceBEq, Int.reduceBNe, Int.reduceLT, Int.reduceGT, Int.reduceLE, Int.reduceGE, Int.reduceNeg, Int.reduceAdd]
      refine ⟨[0, 1], [], ?_⟩
      simp only [AH.SD, AH.wpOp, AOp.call?, AOp.next?, bstep, AOp.map, Opd.ev, tget, argTm, evs, AV.cells, St.eff, St.put, applyWr, mset, terase, pureE, unAV, intOp, binAV, fill, mget, AH.rowAt, AH.part, retQ, rvs, retV, AH.splice, AH.sliceElems, AH.bytesOf, AH.strOp, AH.bound, AH.addLog, AH.missQ, AH.minmaxAV, AH.wpOpD, AH.readOf, AH.effOf, AH.mapAt, AH.iterAt, Nat.reduceBEq, Nat.reduceAdd, Nat.reduceLT, ↓reduceIte, Nat.reduceEqDiff, Nat.reduceLeDiff, Nat.reduceSub, Nat.reduceMul, Int.reduceSub, Int.reduceToNat, Int.reduceBEq, Int.reduceBNe, Int.reduceLT, Int.reduceGT, Int.reduceLE, Int.reduceGE, Int.reduceNeg, Int.reduceAdd, AH.PD, heads, distN, AH.inN, posN, packM, packB, packTm, liveB, AV.inB, AV.insB, AV.ren, AV.rens, Blk.ren, Blk.inB, vstep, tput, ofD, onD, blks_len]
      try trivial
  · have h1 : decide (((64 * (i + 1) : Nat) : Int) ≤ (s.size : Int)) = false := by simp only [decide_eq_false_iff_not]; omega
    have : i = nb s := by unfold nb at hi ⊢; omega
    subst this
    simp only [AH.SD, AH.wpOp, AOp.call?, AOp.next?, bstep, AOp.map, Opd.ev, tget, argTm, evs, AV.cells, St.eff, St.put, applyWr, mset, terase, pureE, unAV, intOp, binAV, fill, mget, AH.rowAt, AH.part, retQ, rvs, retV, AH.splice, AH.sliceElems, AH.bytesOf, AH.strOp, AH.bound, AH.addLog, AH.missQ, AH.minmaxAV, AH.wpOpD, AH.readOf, AH.effOf, AH.mapAt, AH.iterAt, Nat.reduceBEq, Nat.reduceAdd, Nat.reduceLT, ↓reduceIte, Nat.reduceEqDiff, Nat.reduceLeDiff, Nat.reduceSub, Nat.reduceMul, Int.reduceSub, Int.reduceToNat, Int.reduceBEq, Int.reduceBNe, Int.reduceLT, Int.reduceGT, Int.reduceLE, Int.reduceGE, Int.reduceNeg, Int.reduceAdd, h1]
    refine ⟨[0, 1], [], ?_⟩
    simp only [AH.SD, AH.wpOp, AOp.call?, AOp.next?, bstep, AOp.map, Opd.ev, tget, argTm, evs, AV.cells, St.eff, St.put, applyWr, mset, terase, pureE, unAV, intOp, binAV, fill, mget, AH.rowAt, AH.part, retQ, rvs, retV, AH.splice, AH.sliceElems, AH.bytesOf, AH.strOp, AH.bound, AH.addLog, AH.missQ, AH.minmaxAV, AH.wpOpD, AH.readOf, AH.effOf, AH.mapAt, AH.iterAt, Nat.reduceBEq, Nat.reduceAdd, Nat.reduceLT, ↓reduceIte, Nat.reduceEqDiff, Nat.reduceLeDiff, Nat.reduceSub, Nat.reduceMul, Int.reduceSub, Int.reduceToNat, Int.reduceBEq, Int.reduceBNe, Int.reduceLT, Int.reduceGT, Int.reduceLE, Int.reduceGE, Int.reduceNeg, Int.reduceAdd, AH.PD, heads, distN, AH.inN, posN, packM, packB, packTm, liveB, AV.inB, AV.insB, AV.ren, AV.rens, Blk.ren, Blk.inB, vstep, tput, ofD, onD, blks_len]
    try trivial
def rofT : ET := etN (cC aS c0) fun x => some (.ptr 0 0 0, dkM (onD (ofD x.1)))
theorem rofT_ok : EffF S0 13 rofT := etN_ok fun x v m' h => by
  simp only [Option.some.injEq, Prod.mk.injEq] at h
  obtain ⟨rfl, rfl⟩ := h
  exact ⟨rfl, rof_ok x.1⟩
theorem rofT_eq {s : ByteArray} {M : Nat → Option Blk} {n : Nat} : rofT [.str s] M n = some (effS [] n (.ptr 0 0 0) (dkM (onD (ofD s))), 2) := by
  simp only [rofT, etN_eq, cC_dec, aS_dec, c0_dec, pairO_some, Option.bind_some, useO_some]; rfl

set_option maxRecDepth 100000 in
theorem rwrite_ok (d : Dk) (hd : d.ok) (at_ : Int) (s : ByteArray) : CallA1 S0 22 [.ptr 0 0 0, .int .i64 at_, .str s] (dkM (onD d)) fun r m => r = .int .i64 ((wrD d at_ s).1 : Nat) ∧ m = dkM (onD (wrD d at_ s).2) := by
  refine fun_sound okZ0 Tryd.func22 c22 ?_
  unfold wpF F22
  cases h1 : decide (at_ < 0)
  · cases h2 : decide (at_ ≥ (d.L.length : Int))
    · by_cases hs : s.size = 64
      · have hs1 : ((s.size : Int) != 64) = false := by rw [hs]; rfl
        have hs2 : ¬ (s.size ≠ 64) := fun h => h hs
        cases ha : d.away
        · have hc : chk d at_ = 0 := by rw [chk, h1, h2, ha]; rfl
          obtain ⟨i, rfl, hi, _⟩ := chk_in hc
          have hg : d.L.getD i ⟨#[]⟩ = d.L[i] := by rw [List.getD_eq_getElem?_getD, List.getElem?_eq_getElem hi]; rfl
          have hz : d.L[i].size = 64 := hd.1 _ (List.getElem_mem hi)
          obtain ⟨q, hq⟩ := Int.eq_ofNat_of_zero_le hd.2.1
          have hq2 := hd.2.2.1
          have hh : ¬ (chk d (i : Int) ≠ 0) := fun z => z hc
          by_cases hf : d.fuse = 0
          · have hf1 : ((0 : Int) == 0) = true := rfl
            have e : wrD d (i : Int) s = (14, { d with L := d.L.set i (s.extract 0 q ++ d.L[i].extract q 64), away := true }) := by
              simp only [wrD, hs2, hh, hf, hq, hg, Int.toNat_natCast, if_true, if_false]
            simp only [AH.SD, AH.wpOp, AOp.call?, AOp.next?, bstep, AOp.map, Opd.ev, tget, argTm, evs, AV.cells, St.eff, St.put, applyWr, mset, terase, pureE, unAV, intOp, binAV, fill, mget, AH.rowAt, AH.part, retQ, rvs, retV, AH.splice, AH.sliceElems, AH.bytesOf, AH.strOp, AH.bound, AH.addLog, AH.missQ, AH.minmaxAV, AH.wpOpD, AH.readOf, AH.effOf, AH.mapAt, AH.iterAt, Nat.reduceBEq, Nat.reduceAdd, Nat.reduceLT, ↓reduceIte, Nat.reduceEqDiff, Nat.reduceLeDiff, Nat.reduceSub, Nat.reduceMul, Int.reduceSub, Int.reduceToNat, Int.reduceBEq, Int.reduceBNe, Int.reduceLT, Int.reduceGT, Int.reduceLE, Int.reduceGE, Int.reduceNeg, Int.reduceAdd, dkM, onD, h1, h2, ha, hs1, hf, hf1, getD_enc, hi, strC_eq, hq, Int.toNat_natCast, hs, hz, e]
            repeat (refine ⟨by first | rfl | decide | omega | (simp only [List.length_map, and_true]; omega) | (simp only [List.length_map, List.length_set, and_true]; omega), ?_⟩)
            have e1 : ((s.extract 0 q).size + (d.L[i].extract q 64).size : Nat) = 64 := by
              rw [ByteArray.size_extract, ByteArray.size_extract, hz, hs]; omega
            simp only [AH.SD, AH.wpOp, AOp.call?, AOp.next?, bstep, AOp.map, Opd.ev, tget, argTm, evs, AV.cells, St.eff, St.put, applyWr, mset, terase, pureE, unAV, intOp, binAV, fill, mget, AH.rowAt, AH.part, retQ, rvs, retV, AH.splice, AH.sliceElems, AH.bytesOf, AH.strOp, AH.bound, AH.addLog, AH.missQ, AH.minmaxAV, AH.wpOpD, AH.readOf, AH.effOf, AH.mapAt, AH.iterAt, Nat.reduceBEq, Nat.reduceAdd, Nat.reduceLT, ↓reduceIte, Nat.reduceEqDiff, Nat.reduceLeDiff, Nat.reduceSub, Nat.reduceMul, Int.reduceSub, Int.reduceToNat, Int.reduceBEq, Int.reduceBNe, Int.reduceLT, Int.reduceGT, Int.reduceLE, Int.reduceGE, Int.reduceNeg, Int.reduceAdd, e1, set_strC, List.length_set, hq]
            repeat (refine ⟨by first | rfl | decide | omega | (simp only [List.length_map, and_true]; omega) | (simp only [List.length_map, List.length_set, and_true]; omega), ?_⟩)
            trivial
          · have hf1 : (d.fuse == 0) = false := by simpa using hf
            have e : wrD d (i : Int) s = (0, { d with L := d.L.set i s, fuse := if -1 > IntKind.i64.wrap (d.fuse - 1) then -1 else IntKind.i64.wrap (d.fuse - 1), writes := IntKind.i64.wrap (d.writes + 1) }) := by
              simp only [wrD, hs2, hh, hf, Int.toNat_natCast, if_true, if_false, maxI]
            simp only [AH.SD, AH.wpOp, AOp.call?, AOp.next?, bstep, AOp.map, Opd.ev, tget, argTm, evs, AV.cells, St.eff, St.put, applyWr, mset, terase, pureE, unAV, intOp, binAV, fill, mget, AH.rowAt, AH.part, retQ, rvs, retV, AH.splice, AH.sliceElems, AH.bytesOf, AH.strOp, AH.bound, AH.addLog, AH.missQ, AH.minmaxAV, AH.wpOpD, AH.readOf, AH.effOf, AH.mapAt, AH.iterAt, Nat.reduceBEq, Nat.reduceAdd, Nat.reduceLT, ↓reduceIte, Nat.reduceEqDiff, Nat.reduceLeDiff, Nat.reduceSub, Nat.reduceMul, Int.reduceSub, Int.reduceToNat, Int.reduceBEq, Int.reduceBNe, Int.reduceLT, Int.reduceGT, Int.reduceLE, Int.reduceGE, Int.reduceNeg, Int.reduceAdd, dkM, onD, h1, h2, ha, hs1, hf1, getD_enc, hi, Int.toNat_natCast, strC_eq, e, set_strC, List.length_set]
            repeat (refine ⟨by first | rfl | decide | omega | (simp only [List.length_map, and_true]; omega) | (simp only [List.length_map, List.length_set, and_true]; omega), ?_⟩)
            trivial
        · have hc : chk d at_ = 14 := by rw [chk, h1, h2, ha]; rfl
          have e : wrD d at_ s = (14, d) := by simp only [wrD, hs2, hc, ne_eq, not_false_eq_true, if_true, if_false, show ¬ (14 = 0) by decide]
          simp only [AH.SD, AH.wpOp, AOp.call?, AOp.next?, bstep, AOp.map, Opd.ev, tget, argTm, evs, AV.cells, St.eff, St.put, applyWr, mset, terase, pureE, unAV, intOp, binAV, fill, mget, AH.rowAt, AH.part, retQ, rvs, retV, AH.splice, AH.sliceElems, AH.bytesOf, AH.strOp, AH.bound, AH.addLog, AH.missQ, AH.minmaxAV, AH.wpOpD, AH.readOf, AH.effOf, AH.mapAt, AH.iterAt, Nat.reduceBEq, Nat.reduceAdd, Nat.reduceLT, ↓reduceIte, Nat.reduceEqDiff, Nat.reduceLeDiff, Nat.reduceSub, Nat.reduceMul, Int.reduceSub, Int.reduceToNat, Int.reduceBEq, Int.reduceBNe, Int.reduceLT, Int.reduceGT, Int.reduceLE, Int.reduceGE, Int.reduceNeg, Int.reduceAdd, dkM, onD, h1, h2, ha, hs1, e]
          try trivial
      · have hs1 : ((s.size : Int) != 64) = true := by
          have : (s.size : Int) ≠ 64 := by omega
          simpa using this
        have e : wrD d at_ s = (1, d) := by simp only [wrD, hs, ne_eq, not_false_eq_true, if_true]
        simp only [AH.SD, AH.wpOp, AOp.call?, AOp.next?, bstep, AOp.map, Opd.ev, tget, argTm, evs, AV.cells, St.eff, St.put, applyWr, mset, terase, pureE, unAV, intOp, binAV, fill, mget, AH.rowAt, AH.part, retQ, rvs, retV, AH.splice, AH.sliceElems, AH.bytesOf, AH.strOp, AH.bound, AH.addLog, AH.missQ, AH.minmaxAV, AH.wpOpD, AH.readOf, AH.effOf, AH.mapAt, AH.iterAt, Nat.reduceBEq, Nat.reduceAdd, Nat.reduceLT, ↓reduceIte, Nat.reduceEqDiff, Nat.reduceLeDiff, Nat.reduceSub, Nat.reduceMul, Int.reduceSub, Int.reduceToNat, Int.reduceBEq, Int.reduceBNe, Int.reduceLT, Int.reduceGT, Int.reduceLE, Int.reduceGE, Int.reduceNeg, Int.reduceAdd, dkM, onD, h1, h2, hs1, e]
        try trivial
    · have hc : chk d at_ = 1 := by rw [chk, h1, h2]; rfl
      have e : wrD d at_ s = (1, d) := by
        unfold wrD
        split
        · rfl
        · rw [if_pos (by rw [hc]; decide), hc]
      simp only [AH.SD, AH.wpOp, AOp.call?, AOp.next?, bstep, AOp.map, Opd.ev, tget, argTm, evs, AV.cells, St.eff, St.put, applyWr, mset, terase, pureE, unAV, intOp, binAV, fill, mget, AH.rowAt, AH.part, retQ, rvs, retV, AH.splice, AH.sliceElems, AH.bytesOf, AH.strOp, AH.bound, AH.addLog, AH.missQ, AH.minmaxAV, AH.wpOpD, AH.readOf, AH.effOf, AH.mapAt, AH.iterAt, Nat.reduceBEq, Nat.reduceAdd, Nat.reduceLT, ↓reduceIte, Nat.reduceEqDiff, Nat.reduceLeDiff, Nat.reduceSub, Nat.reduceMul, Int.reduceSub, Int.reduceToNat, Int.reduceBEq, Int.reduceBNe, Int.reduceLT, Int.reduceGT, Int.reduceLE, Int.reduceGE, Int.reduceNeg, Int.reduceAdd, dkM, onD, h1, h2, e]
      try trivial
  · have hc : chk d at_ = 1 := by rw [chk, h1]; rfl
    have e : wrD d at_ s = (1, d) := by
      unfold wrD
      split
      · rfl
      · rw [if_pos (by rw [hc]; decide), hc]
    simp only [AH.SD, AH.wpOp, AOp.call?, AOp.next?, bstep, AOp.map, Opd.ev, tget, argTm, evs, AV.cells, St.eff, St.put, applyWr, mset, terase, pureE, unAV, intOp, binAV, fill, mget, AH.rowAt, AH.part, retQ, rvs, retV, AH.splice, AH.sliceElems, AH.bytesOf, AH.strOp, AH.bound, AH.addLog, AH.missQ, AH.minmaxAV, AH.wpOpD, AH.readOf, AH.effOf, AH.mapAt, AH.iterAt, Nat.reduceBEq, Nat.reduceAdd, Nat.reduceLT, ↓reduceIte, Nat.reduceEqDiff, Nat.reduceLeDiff, Nat.reduceSub, Nat.reduceMul, Int.reduceSub, Int.reduceToNat, Int.reduceBEq, Int.reduceBNe, Int.reduceLT, Int.reduceGT, Int.reduceLE, Int.reduceGE, Int.reduceNeg, Int.reduceAdd, dkM, onD, h1, e]
    try trivial
def rwriteT : ET := etO dkO (cC (aI .i64) (cC aS c0)) fun d x => if d.ok then some (.int .i64 ((wrD (onD d) x.1 x.2.1).1 : Nat), dkM (onD (wrD (onD d) x.1 x.2.1).2)) else none
theorem rwriteT_ok : EffF S0 22 rwriteT := etO_ok fun d x v m' h => by
  split at h
  · rename_i hd
    simp only [Option.some.injEq, Prod.mk.injEq] at h
    obtain ⟨rfl, rfl⟩ := h
    have := rwrite_ok (onD d) (onD_ok hd) x.1 x.2.1
    rw [onD_onD] at this
    exact ⟨⟨Nat.le_refl 2, rfl⟩, this⟩
  · cases h
theorem rwriteT_p {p n : Nat} {at_ : Int} {s : ByteArray} {M : Nat → Option Blk} : rwriteT [.ptr p 0 0, .int .i64 at_, .str s] M n = etO2 n (fun d (x : Int × ByteArray × Unit) => if d.ok then some (.int .i64 ((wrD (onD d) x.1 x.2.1).1 : Nat), dkM (onD (wrD (onD d) x.1 x.2.1).2)) else none) (dkR M p (M p)) (some (at_, s, ())) := by
  simp only [rwriteT, etO_eq, cC_dec, aI_dec, aS_dec, c0_dec, pairO_some, dkO_dec]
set_option maxRecDepth 100000 in
theorem rfuse_ok (d : Dk) (n torn : Int) : CallA1 S0 17 [.ptr 0 0 0, .int .i64 n, .int .i64 torn] (dkM (onD d)) fun r m => r = .tup [] ∧ m = dkM (onD (fuD d n torn)) := by
  refine fun_sound okZ0 Tryd.func17 c17 ?_
  unfold wpF F17
  cases h : d.away
  · have e : fuD d n torn = { d with away := false, fuse := if -1 > n then -1 else n, torn := if 64 < (if 0 > torn then 0 else torn) then 64 else if 0 > torn then 0 else torn } := by
      rw [fuD, h]; rfl
    simp only [AH.SD, AH.wpOp, AOp.call?, AOp.next?, bstep, AOp.map, Opd.ev, tget, argTm, evs, AV.cells, St.eff, St.put, applyWr, mset, terase, pureE, unAV, intOp, binAV, fill, mget, AH.rowAt, AH.part, retQ, rvs, retV, AH.splice, AH.sliceElems, AH.bytesOf, AH.strOp, AH.bound, AH.addLog, AH.missQ, AH.minmaxAV, AH.wpOpD, AH.readOf, AH.effOf, AH.mapAt, AH.iterAt, Nat.reduceBEq, Nat.reduceAdd, Nat.reduceLT, ↓reduceIte, Nat.reduceEqDiff, Nat.reduceLeDiff, Nat.reduceSub, Nat.reduceMul, Int.reduceSub, Int.reduceToNat, Int.reduceBEq, Int.reduceBNe, Int.reduceLT, Int.reduceGT, Int.reduceLE, Int.reduceGE, Int.reduceNeg, Int.reduceAdd, dkM, onD, h, e]
    try trivial
  · have e : fuD d n torn = d := by simp only [fuD, h, cond_true]
    simp only [AH.SD, AH.wpOp, AOp.call?, AOp.next?, bstep, AOp.map, Opd.ev, tget, argTm, evs, AV.cells, St.eff, St.put, applyWr, mset, terase, pureE, unAV, intOp, binAV, fill, mget, AH.rowAt, AH.part, retQ, rvs, retV, AH.splice, AH.sliceElems, AH.bytesOf, AH.strOp, AH.bound, AH.addLog, AH.missQ, AH.minmaxAV, AH.wpOpD, AH.readOf, AH.effOf, AH.mapAt, AH.iterAt, Nat.reduceBEq, Nat.reduceAdd, Nat.reduceLT, ↓reduceIte, Nat.reduceEqDiff, Nat.reduceLeDiff, Nat.reduceSub, Nat.reduceMul, Int.reduceSub, Int.reduceToNat, Int.reduceBEq, Int.reduceBNe, Int.reduceLT, Int.reduceGT, Int.reduceLE, Int.reduceGE, Int.reduceNeg, Int.reduceAdd, dkM, onD, h, e]
def rfuseT : ET := etO dkO (cC (aI .i64) (cC (aI .i64) c0)) fun d x => some (.tup [], dkM (onD (fuD (onD d) x.1 x.2.1)))
theorem rfuseT_ok : EffF S0 17 rfuseT := etO_ok fun d x v m' h => by
  simp only [Option.some.injEq, Prod.mk.injEq] at h
  obtain ⟨rfl, rfl⟩ := h
  have := rfuse_ok (onD d) x.1 x.2.1
  rw [onD_onD] at this
  exact ⟨⟨Nat.le_refl 2, rfl⟩, this⟩
theorem rfuseT_p {p n : Nat} {k torn : Int} {M : Nat → Option Blk} : rfuseT [.ptr p 0 0, .int .i64 k, .int .i64 torn] M n = etO2 n (fun d (x : Int × Int × Unit) => some (.tup [], dkM (onD (fuD (onD d) x.1 x.2.1)))) (dkR M p (M p)) (some (k, torn, ())) := by
  simp only [rfuseT, etO_eq, cC_dec, aI_dec, c0_dec, pairO_some, dkO_dec]
set_option maxRecDepth 100000 in
theorem rcome_ok (d : Dk) : CallA1 S0 19 [.ptr 0 0 0] (dkM (onD d)) fun r m => r = .tup [] ∧ m = dkM (onD (coD d)) := by
  refine fun_sound okZ0 Tryd.func19 c19 ?_
  unfold wpF F19
  cases h : d.away
  all_goals
    simp only [AH.SD, AH.wpOp, AOp.call?, AOp.next?, bstep, AOp.map, Opd.ev, tget, argTm, evs, AV.cells, St.eff, St.put, applyWr, mset, terase, pureE, unAV, intOp, binAV, fill, mget, AH.rowAt, AH.part, retQ, rvs, retV, AH.splice, AH.sliceElems, AH.bytesOf, AH.strOp, AH.bound, AH.addLog, AH.missQ, AH.minmaxAV, AH.wpOpD, AH.readOf, AH.effOf, AH.mapAt, AH.iterAt, Nat.reduceBEq, Nat.reduceAdd, Nat.reduceLT, ↓reduceIte, Nat.reduceEqDiff, Nat.reduceLeDiff, Nat.reduceSub, Nat.reduceMul, Int.reduceSub, Int.reduceToNat, Int.reduceBEq, Int.reduceBNe, Int.reduceLT, Int.reduceGT, Int.reduceLE, Int.reduceGE, Int.reduceNeg, Int.reduceAdd, dkM, onD, h, coD]
def rcomeT : ET := etO dkO c0 fun d _ => some (.tup [], dkM (onD (coD (onD d))))
theorem rcomeT_ok : EffF S0 19 rcomeT := etO_ok fun d x v m' h => by
  simp only [Option.some.injEq, Prod.mk.injEq] at h
  obtain ⟨rfl, rfl⟩ := h
  have := rcome_ok (onD d)
  rw [onD_onD] at this
  exact ⟨⟨Nat.le_refl 2, rfl⟩, this⟩
theorem rcomeT_p {p n : Nat} {M : Nat → Option Blk} : rcomeT [.ptr p 0 0] M n = etO2 n (fun (d : Dk) (_ : Unit) => some (.tup [], dkM (onD (coD (onD d))))) (dkR M p (M p)) (some ()) := by
  simp only [rcomeT, etO_eq, c0_dec, dkO_dec]
end Go.Proofs.YtcmnchmkoghfdaaDoor.C04
