import Derived.Test.YtcmnchmkoghfdaaDoorBlkYC04
open Go AH
set_option linter.unusedSimpArgs false
set_option maxRecDepth 100000
namespace Go.Proofs.YtcmnchmkoghfdaaDoor.C04
/- What a made disk has: in plain bytes. -/
theorem repL_one : ∀ n : Nat, Lib.repeatL [0] n = List.replicate n 0
  | 0 => rfl
  | n + 1 => by rw [Lib.repeatL, repL_one n, List.replicate_succ]; rfl
theorem zeros_size (n : Int) : (zeros n).size = (newN n * 64).toNat := by
  show (Lib.repeatL [0] (newN n * 64).toNat).toArray.size = _
  rw [repL_one]; simp
theorem nb_zeros (n : Int) : nb (zeros n) = (newN n).toNat := by
  have := newN_in n
  unfold nb
  rw [zeros_size]; omega
theorem newD_len (n : Int) : (newD n).L.length = (newN n).toNat := by
  show (blks _ _).length = _
  rw [blks_len, nb_zeros]
theorem zeros_ext (n : Int) (i : Nat) (h : 64 * i + 64 ≤ (zeros n).size) : (zeros n).extract (64 * i) (64 * i + 64) = fillS 0 := by
  apply ByteArray.ext
  have e : (zeros n).data = (List.replicate (newN n * 64).toNat (0 : UInt8)).toArray := by
    show (Lib.repeatL [0] (newN n * 64).toNat).toArray = _
    rw [repL_one]
  rw [zeros_size] at h
  rw [ByteArray.data_extract, e]
  apply Array.ext'
  simp [fillS, List.extract_eq_take_drop]
  rw [show min (64 * i + 64) (newN n * 64).toNat - 64 * i = 64 by omega]
  rfl
theorem newD_get (n : Int) (i : Nat) (h : i < (newN n).toNat) : (newD n).L[i]? = some (fillS 0) := by
  show (blks (zeros n) (nb (zeros n)))[i]? = _
  have hz := zeros_size n
  have := newN_in n
  rw [nb_zeros, blks, List.getElem?_map, List.getElem?_range h, Option.map_some, zeros_ext]
  rw [hz]; omega
/-- An image's whole blocks are its beginning. -/
theorem catS_blks (s : ByteArray) : ∀ k, 64 * k ≤ s.size → catS (blks s k) = s.extract 0 (64 * k)
  | 0, _ => by
    rw [show blks s 0 = [] from rfl, catS_nil]
    apply ByteArray.ext
    simp
  | k + 1, h => by
    rw [blks_succ, catS_snoc, catS_blks s k (by omega), ByteArray.extract_append_extract]
    congr 1 <;> omega
set_option maxHeartbeats 4000000 in
set_option maxRecDepth 100000 in
theorem sizes_ok (n : Int) (s : ByteArray) : Pure S0 5 [.int .i64 n, .str s] (.bool true) := by
  refine fun_sound okB Tryd.func5 c5 ?_
  unfold wpF F5
  simp only [AH.SD, AH.wpOp, AOp.call?, AOp.next?, bstep, AOp.map, Opd.ev, tget, argTm, evs, AV.cells, St.eff, St.put, applyWr, mset, terase, pureE, unAV, intOp, binAV, fill, mget, AH.rowAt, AH.part, retQ, rvs, retV, AH.splice, AH.sliceElems, AH.bytesOf, AH.strOp, AH.bound, AH.addLog, AH.missQ, AH.minmaxAV, AH.wpOpD, AH.readOf, AH.effOf, AH.mapAt, AH.iterAt, Nat.reduceBEq, Nat.reduceAdd, Nat.reduceLT, ↓reduceIte, Nat.reduceEqDiff, Nat.reduceLeDiff, Nat.reduceSub, Nat.reduceMul, Int.reduceSub, Int.reduceToNat, Int.reduceBEq, Int.reduceBNe, Int.reduceLT, Int.reduceGT, Int.reduceLE, Int.reduceGE, Int.reduceNeg, Int.reduceAdd, awakeT_eq]
  cases h1 : decide ((s.size : Int) > 1024)
  rotate_left
  · simp only [AH.SD, AH.wpOp, AOp.call?, AOp.next?, bstep, AOp.map, Opd.ev, tget, argTm, evs, AV.cells, St.eff, St.put, applyWr, mset, terase, pureE, unAV, intOp, binAV, fill, mget, AH.rowAt, AH.part, retQ, rvs, retV, AH.splice, AH.sliceElems, AH.bytesOf, AH.strOp, AH.bound, AH.addLog, AH.missQ, AH.minmaxAV, AH.wpOpD, AH.readOf, AH.effOf, AH.mapAt, AH.iterAt, Nat.reduceBEq, Nat.reduceAdd, Nat.reduceLT, ↓reduceIte, Nat.reduceEqDiff, Nat.reduceLeDiff, Nat.reduceSub, Nat.reduceMul, Int.reduceSub, Int.reduceToNat, Int.reduceBEq, Int.reduceBNe, Int.reduceLT, Int.reduceGT, Int.reduceLE, Int.reduceGE, Int.reduceNeg, Int.reduceAdd]
  have hs : s.size ≤ 1024 := by simp only [decide_eq_false_iff_not] at h1; omega
  have hd : (newD n).ok := ofD_ok _
  have hd2 : (ofD s).ok := ofD_ok _
  have hk : newN n = (((newD n).L.length : Nat) : Int) := by
    rw [newD_len]; have := newN_in n; omega
  have hk2 := (newN_in n).2
  have e1 : (if 4096 < (if 0 > n then 0 else n) then 4096 else if 0 > n then 0 else n) = (((newD n).L.length : Nat) : Int) := hk
  have hon : (!(newD n).away) = true := rfl
  have hnb : nb s = s.size / 64 := by unfold nb; omega
  have hl2 : (ofD s).L.length = s.size / 64 := by show (blks s (nb s)).length = _; rw [blks_len, hnb]
  have hcat : catS (ofD s).L = s.extract 0 (64 * (s.size / 64)) := by
    show catS (blks s (nb s)) = _
    rw [hnb, catS_blks s _ (by omega)]
  have c2 : chk (newD n) (((newD n).L.length : Nat) : Int) = 1 := by
    rw [chk]; simp
  have r2 : rdS (newD n) (((newD n).L.length : Nat) : Int) = ⟨#[]⟩ := rdS_ne (by omega)
  have last : 0 < (newD n).L.length → chk (newD n) ((((newD n).L.length - 1 : Nat)) : Int) = 0 ∧ rdS (newD n) ((((newD n).L.length - 1 : Nat)) : Int) = fillS 0 := fun hp => by
    have hc : chk (newD n) ((((newD n).L.length - 1 : Nat)) : Int) = 0 := by
      have q1 : decide (((((newD n).L.length - 1 : Nat)) : Int) < 0) = false := by simp only [decide_eq_false_iff_not]; omega
      have q2 : decide (((((newD n).L.length - 1 : Nat)) : Int) ≥ ((newD n).L.length : Int)) = false := by simp only [decide_eq_false_iff_not]; omega
      rw [chk, q1, q2]; rfl
    refine ⟨hc, ?_⟩
    rw [rdS, hc, Int.toNat_natCast, List.getD_eq_getElem?_getD, newD_get n _ (by rw [hk] at hk2; rw [newD_len] at hp ⊢; omega)]; rfl
  have w1 : 0 < (newD n).L.length → IntKind.i64.wrap ((((newD n).L.length : Nat) : Int) - 1) = (((newD n).L.length - 1 : Nat) : Int) := fun hp => by rw [IntKind.wrap_i64]; rw [hk] at hk2; omega
  have w2 : IntKind.i64.wrap (((ofD s).L.length : Int) * 64) = ((64 * (s.size / 64) : Nat) : Int) := by rw [hl2, IntKind.wrap_i64]; omega
  have w3 : IntKind.i64.wrap ((s.size : Int).tdiv 64) = (((ofD s).L.length : Nat) : Int) := by
    rw [hl2, Int.tdiv_eq_ediv_of_nonneg (by omega), IntKind.wrap_i64]; omega
  generalize hD : newD n = D at *
  generalize hE : ofD s = E at *
  simp only [AH.SD, AH.wpOp, AOp.call?, AOp.next?, bstep, AOp.map, Opd.ev, tget, argTm, evs, AV.cells, St.eff, St.put, applyWr, mset, terase, pureE, unAV, intOp, binAV, fill, mget, AH.rowAt, AH.part, retQ, rvs, retV, AH.splice, AH.sliceElems, AH.bytesOf, AH.strOp, AH.bound, AH.addLog, AH.missQ, AH.minmaxAV, AH.wpOpD, AH.readOf, AH.effOf, AH.mapAt, AH.iterAt, Nat.reduceBEq, Nat.reduceAdd, Nat.reduceLT, ↓reduceIte, Nat.reduceEqDiff, Nat.reduceLeDiff, Nat.reduceSub, Nat.reduceMul, Int.reduceSub, Int.reduceToNat, Int.reduceBEq, Int.reduceBNe, Int.reduceLT, Int.reduceGT, Int.reduceLE, Int.reduceGE, Int.reduceNeg, Int.reduceAdd, AH.PD, heads, distN, AH.inN, posN, packM, packB, packTm, liveB, AV.inB, AV.insB, AV.ren, AV.rens, Blk.ren, Blk.inB, vstep, tput, vw, shift, newOnes, rowsM, blkIn, rwB, @flat_lts, AV.lt, AV.lts, Nat.sub_self, AH.rtO_eq, AH.rtO2_eq, AH.rtO2_none, AH.etO_eq, AH.etO2_eq, AH.etO2_none, AH.useO_some, AH.rtElse_eq, AH.elseO_some, AH.elseO_none, AH.etN_eq, Option.bind_some, Option.bind_none, AH.pairO_some, AH.pairO_none, AH.cC_dec, AH.cC_nil, AH.c0_dec, AH.c0_dec1, AH.aI_dec, AH.aS_dec, AH.aB_dec, AH.aNil_dec, AH.aNil_ptr, Option.map_none, effS, wrS, newS, backNo, AH.isIn, AH.posOf, AH.rwB, List.all_cons, List.all_nil, List.getElem?_cons_zero, List.getElem?_cons_succ, List.getElem?_nil, AH.appE_some, List.contains_cons, List.contains_nil, Nat.add_zero, errA_ren, dkM, dkR_eq, dkB_eq, Dk.eta, ne_eq, Nat.reduceEqDiff, Nat.zero_ne_one, not_false_eq_true, rdT_p, rdT_n, isOnT_p, isOnT_n, writesT_p, writesT_n, imgT_p, imgT_n, lenT_p, lenT_n, rimgT_p, fillT_eq, writeNT_p, writeNT_n, fuseNT_p, fuseNT_n, comeNT_p, comeNT_n, newT_eq, ofT_eq, rofT_eq, writeT_p, rwriteT_p, fuseT_p, rfuseT_p, comeT_p, rcomeT_p, e1, hD, hE, hd, hd2, hon, bne_self_eq_false]
  refine ⟨fun hp => ?_, fun hp => ?_⟩
  · have hp' : 0 < D.L.length := by simp only [decide_eq_true_eq] at hp; omega
    obtain ⟨l1, l2⟩ := last hp'
    have w1' := w1 hp'
    simp only [AH.SD, AH.wpOp, AOp.call?, AOp.next?, bstep, AOp.map, Opd.ev, tget, argTm, evs, AV.cells, St.eff, St.put, applyWr, mset, terase, pureE, unAV, intOp, binAV, fill, mget, AH.rowAt, AH.part, retQ, rvs, retV, AH.splice, AH.sliceElems, AH.bytesOf, AH.strOp, AH.bound, AH.addLog, AH.missQ, AH.minmaxAV, AH.wpOpD, AH.readOf, AH.effOf, AH.mapAt, AH.iterAt, Nat.reduceBEq, Nat.reduceAdd, Nat.reduceLT, ↓reduceIte, Nat.reduceEqDiff, Nat.reduceLeDiff, Nat.reduceSub, Nat.reduceMul, Int.reduceSub, Int.reduceToNat, Int.reduceBEq, Int.reduceBNe, Int.reduceLT, Int.reduceGT, Int.reduceLE, Int.reduceGE, Int.reduceNeg, Int.reduceAdd, AH.PD, heads, distN, AH.inN, posN, packM, packB, packTm, liveB, AV.inB, AV.insB, AV.ren, AV.rens, Blk.ren, Blk.inB, vstep, tput, vw, shift, newOnes, rowsM, blkIn, rwB, @flat_lts, AV.lt, AV.lts, Nat.sub_self, AH.rtO_eq, AH.rtO2_eq, AH.rtO2_none, AH.etO_eq, AH.etO2_eq, AH.etO2_none, AH.useO_some, AH.rtElse_eq, AH.elseO_some, AH.elseO_none, AH.etN_eq, Option.bind_some, Option.bind_none, AH.pairO_some, AH.pairO_none, AH.cC_dec, AH.cC_nil, AH.c0_dec, AH.c0_dec1, AH.aI_dec, AH.aS_dec, AH.aB_dec, AH.aNil_dec, AH.aNil_ptr, Option.map_none, effS, wrS, newS, backNo, AH.isIn, AH.posOf, AH.rwB, List.all_cons, List.all_nil, List.getElem?_cons_zero, List.getElem?_cons_succ, List.getElem?_nil, AH.appE_some, List.contains_cons, List.contains_nil, Nat.add_zero, errA_ren, dkM, dkR_eq, dkB_eq, Dk.eta, ne_eq, Nat.reduceEqDiff, Nat.zero_ne_one, not_false_eq_true, rdT_p, rdT_n, isOnT_p, isOnT_n, writesT_p, writesT_n, imgT_p, imgT_n, lenT_p, lenT_n, rimgT_p, fillT_eq, writeNT_p, writeNT_n, fuseNT_p, fuseNT_n, comeNT_p, comeNT_n, newT_eq, ofT_eq, rofT_eq, writeT_p, rwriteT_p, fuseT_p, rfuseT_p, comeT_p, rcomeT_p, w1', l1, l2, rdA, errA_nil, bne_self_eq_false, c2, r2, hE, hd2, kindT_err, show (1 : Nat) ≤ 14 by decide, w2, w3, hcat, Int.toNat_natCast]
    repeat (refine ⟨by first | rfl | decide | omega | (simp only [List.length_map, and_true]; omega) | (simp only [List.length_map, List.length_set, and_true]; omega), ?_⟩)
    trivial
  · simp only [AH.SD, AH.wpOp, AOp.call?, AOp.next?, bstep, AOp.map, Opd.ev, tget, argTm, evs, AV.cells, St.eff, St.put, applyWr, mset, terase, pureE, unAV, intOp, binAV, fill, mget, AH.rowAt, AH.part, retQ, rvs, retV, AH.splice, AH.sliceElems, AH.bytesOf, AH.strOp, AH.bound, AH.addLog, AH.missQ, AH.minmaxAV, AH.wpOpD, AH.readOf, AH.effOf, AH.mapAt, AH.iterAt, Nat.reduceBEq, Nat.reduceAdd, Nat.reduceLT, ↓reduceIte, Nat.reduceEqDiff, Nat.reduceLeDiff, Nat.reduceSub, Nat.reduceMul, Int.reduceSub, Int.reduceToNat, Int.reduceBEq, Int.reduceBNe, Int.reduceLT, Int.reduceGT, Int.reduceLE, Int.reduceGE, Int.reduceNeg, Int.reduceAdd, AH.PD, heads, distN, AH.inN, posN, packM, packB, packTm, liveB, AV.inB, AV.insB, AV.ren, AV.rens, Blk.ren, Blk.inB, vstep, tput, vw, shift, newOnes, rowsM, blkIn, rwB, @flat_lts, AV.lt, AV.lts, Nat.sub_self, AH.rtO_eq, AH.rtO2_eq, AH.rtO2_none, AH.etO_eq, AH.etO2_eq, AH.etO2_none, AH.useO_some, AH.rtElse_eq, AH.elseO_some, AH.elseO_none, AH.etN_eq, Option.bind_some, Option.bind_none, AH.pairO_some, AH.pairO_none, AH.cC_dec, AH.cC_nil, AH.c0_dec, AH.c0_dec1, AH.aI_dec, AH.aS_dec, AH.aB_dec, AH.aNil_dec, AH.aNil_ptr, Option.map_none, effS, wrS, newS, backNo, AH.isIn, AH.posOf, AH.rwB, List.all_cons, List.all_nil, List.getElem?_cons_zero, List.getElem?_cons_succ, List.getElem?_nil, AH.appE_some, List.contains_cons, List.contains_nil, Nat.add_zero, errA_ren, dkM, dkR_eq, dkB_eq, Dk.eta, ne_eq, Nat.reduceEqDiff, Nat.zero_ne_one, not_false_eq_true, rdT_p, rdT_n, isOnT_p, isOnT_n, writesT_p, writesT_n, imgT_p, imgT_n, lenT_p, lenT_n, rimgT_p, fillT_eq, writeNT_p, writeNT_n, fuseNT_p, fuseNT_n, comeNT_p, comeNT_n, newT_eq, ofT_eq, rofT_eq, writeT_p, rwriteT_p, fuseT_p, rfuseT_p, comeT_p, rcomeT_p, rdA, errA_nil, bne_self_eq_false, c2, r2, hE, hd2, kindT_err, show (1 : Nat) ≤ 14 by decide, w2, w3, hcat, Int.toNat_natCast]
    repeat (refine ⟨by first | rfl | decide | omega | (simp only [List.length_map, and_true]; omega) | (simp only [List.length_map, List.length_set, and_true]; omega), ?_⟩)
    trivial
theorem ofD_again (s : ByteArray) : ofD (catS (ofD s).L) = ofD s := by
  have h1 : nb s ≤ s.size / 64 ∧ nb s ≤ 4096 := by unfold nb; omega
  have e : catS (ofD s).L = s.extract 0 (64 * nb s) := catS_blks s (nb s) (by omega)
  rw [e]
  have hn : nb (s.extract 0 (64 * nb s)) = nb s := by
    have : (s.extract 0 (64 * nb s)).size = 64 * nb s := by rw [ByteArray.size_extract]; omega
    unfold nb at this ⊢
    rw [this]; omega
  have hb : blks (s.extract 0 (64 * nb s)) (nb s) = blks s (nb s) := by
    unfold blks
    refine List.map_congr_left fun i hi => ?_
    have := List.mem_range.1 hi
    rw [ByteArray.extract_extract]
    congr 1 <;> omega
  rw [ofD, hn, hb]; rfl
set_option maxHeartbeats 4000000 in
set_option maxRecDepth 100000 in
theorem again_ok (s : ByteArray) (at_ b : Int) : Pure S0 6 [.str s, .int .i64 at_, .int .u8 b] (.bool true) := by
  refine fun_sound okB Tryd.func6 c6 ?_
  unfold wpF F6
  simp only [AH.SD, AH.wpOp, AOp.call?, AOp.next?, bstep, AOp.map, Opd.ev, tget, argTm, evs, AV.cells, St.eff, St.put, applyWr, mset, terase, pureE, unAV, intOp, binAV, fill, mget, AH.rowAt, AH.part, retQ, rvs, retV, AH.splice, AH.sliceElems, AH.bytesOf, AH.strOp, AH.bound, AH.addLog, AH.missQ, AH.minmaxAV, AH.wpOpD, AH.readOf, AH.effOf, AH.mapAt, AH.iterAt, Nat.reduceBEq, Nat.reduceAdd, Nat.reduceLT, ↓reduceIte, Nat.reduceEqDiff, Nat.reduceLeDiff, Nat.reduceSub, Nat.reduceMul, Int.reduceSub, Int.reduceToNat, Int.reduceBEq, Int.reduceBNe, Int.reduceLT, Int.reduceGT, Int.reduceLE, Int.reduceGE, Int.reduceNeg, Int.reduceAdd, awakeT_eq]
  cases h1 : decide ((s.size : Int) > 1024)
  rotate_left
  · simp only [AH.SD, AH.wpOp, AOp.call?, AOp.next?, bstep, AOp.map, Opd.ev, tget, argTm, evs, AV.cells, St.eff, St.put, applyWr, mset, terase, pureE, unAV, intOp, binAV, fill, mget, AH.rowAt, AH.part, retQ, rvs, retV, AH.splice, AH.sliceElems, AH.bytesOf, AH.strOp, AH.bound, AH.addLog, AH.missQ, AH.minmaxAV, AH.wpOpD, AH.readOf, AH.effOf, AH.mapAt, AH.iterAt, Nat.reduceBEq, Nat.reduceAdd, Nat.reduceLT, ↓reduceIte, Nat.reduceEqDiff, Nat.reduceLeDiff, Nat.reduceSub, Nat.reduceMul, Int.reduceSub, Int.reduceToNat, Int.reduceBEq, Int.reduceBNe, Int.reduceLT, Int.reduceGT, Int.reduceLE, Int.reduceGE, Int.reduceNeg, Int.reduceAdd]
  have hag := ofD_again s
  have hd : (ofD s).ok := ofD_ok _
  have hw0 : ((ofD s).writes != 0) = false := rfl
  have hLd := hd.2.2.2
  by_cases hz : (ofD s).L.length = 0
  · have c1 : ∀ x, (wrD (ofD s) 0 x).1 = 1 := fun x => by
      have hc : chk (ofD s) 0 = 1 := by rw [chk, hz]; rfl
      unfold wrD
      split
      · rfl
      · rw [if_pos (by omega), hc]
    have hz1 : (((ofD s).L.length : Int) == 0) = true := by rw [hz]; rfl
    generalize hD : ofD s = D at *
    simp only [AH.SD, AH.wpOp, AOp.call?, AOp.next?, bstep, AOp.map, Opd.ev, tget, argTm, evs, AV.cells, St.eff, St.put, applyWr, mset, terase, pureE, unAV, intOp, binAV, fill, mget, AH.rowAt, AH.part, retQ, rvs, retV, AH.splice, AH.sliceElems, AH.bytesOf, AH.strOp, AH.bound, AH.addLog, AH.missQ, AH.minmaxAV, AH.wpOpD, AH.readOf, AH.effOf, AH.mapAt, AH.iterAt, Nat.reduceBEq, Nat.reduceAdd, Nat.reduceLT, ↓reduceIte, Nat.reduceEqDiff, Nat.reduceLeDiff, Nat.reduceSub, Nat.reduceMul, Int.reduceSub, Int.reduceToNat, Int.reduceBEq, Int.reduceBNe, Int.reduceLT, Int.reduceGT, Int.reduceLE, Int.reduceGE, Int.reduceNeg, Int.reduceAdd, AH.PD, heads, distN, AH.inN, posN, packM, packB, packTm, liveB, AV.inB, AV.insB, AV.ren, AV.rens, Blk.ren, Blk.inB, vstep, tput, vw, shift, newOnes, rowsM, blkIn, rwB, @flat_lts, AV.lt, AV.lts, Nat.sub_self, AH.rtO_eq, AH.rtO2_eq, AH.rtO2_none, AH.etO_eq, AH.etO2_eq, AH.etO2_none, AH.useO_some, AH.rtElse_eq, AH.elseO_some, AH.elseO_none, AH.etN_eq, Option.bind_some, Option.bind_none, AH.pairO_some, AH.pairO_none, AH.cC_dec, AH.cC_nil, AH.c0_dec, AH.c0_dec1, AH.aI_dec, AH.aS_dec, AH.aB_dec, AH.aNil_dec, AH.aNil_ptr, Option.map_none, effS, wrS, newS, backNo, AH.isIn, AH.posOf, AH.rwB, List.all_cons, List.all_nil, List.getElem?_cons_zero, List.getElem?_cons_succ, List.getElem?_nil, AH.appE_some, List.contains_cons, List.contains_nil, Nat.add_zero, errA_ren, dkM, dkR_eq, dkB_eq, Dk.eta, ne_eq, Nat.reduceEqDiff, Nat.zero_ne_one, not_false_eq_true, rdT_p, rdT_n, isOnT_p, isOnT_n, writesT_p, writesT_n, imgT_p, imgT_n, lenT_p, lenT_n, rimgT_p, fillT_eq, writeNT_p, writeNT_n, fuseNT_p, fuseNT_n, comeNT_p, comeNT_n, newT_eq, ofT_eq, rofT_eq, writeT_p, rwriteT_p, fuseT_p, rfuseT_p, comeT_p, rcomeT_p, hD, hag, hd, bne_self_eq_false, hz1, c1, kindT_err, show (1 : Nat) ≤ 14 by decide]
    repeat (refine ⟨by first | rfl | decide | omega | (simp only [List.length_map, and_true]; omega) | (simp only [List.length_map, List.length_set, and_true]; omega), ?_⟩)
  · have hz1 : (((ofD s).L.length : Int) == 0) = false := by simpa using hz
    obtain ⟨j, hj, hjl⟩ : ∃ j : Nat, IntKind.i64.wrap ((IntKind.u64.wrap at_).tmod (IntKind.u64.wrap ((ofD s).L.length : Int))) = (j : Int) ∧ j < (ofD s).L.length := by
      have w : IntKind.u64.wrap ((ofD s).L.length : Int) = ((ofD s).L.length : Int) := by rw [IntKind.wrap_u64]; omega
      have h0 : 0 ≤ IntKind.u64.wrap at_ := by rw [IntKind.wrap_u64]; omega
      obtain ⟨A, hA⟩ := Int.eq_ofNat_of_zero_le h0
      have hm : A % (ofD s).L.length < (ofD s).L.length := Nat.mod_lt _ (by omega)
      refine ⟨A % (ofD s).L.length, ?_, hm⟩
      rw [w, hA, ← Int.ofNat_tmod, IntKind.wrap_i64]; omega
    have q1 : decide ((j : Int) < 0) = false := by simp only [decide_eq_false_iff_not]; omega
    have q2 : decide ((j : Int) ≥ ((ofD s).L.length : Int)) = false := by simp only [decide_eq_false_iff_not]; omega
    have hc : chk (ofD s) j = 0 := by rw [chk, q1, q2]; rfl
    have e : wrD (ofD s) j (fillS b) = (0, { ofD s with L := (ofD s).L.set j (fillS b), fuse := maxI (IntKind.i64.wrap ((ofD s).fuse - 1)) (-1), writes := IntKind.i64.wrap ((ofD s).writes + 1) }) := by
      unfold wrD
      rw [if_neg (by rw [fillS_size]; decide), if_neg (by omega), if_neg (by show ¬ ((-1 : Int) = 0); decide), Int.toNat_natCast]
    have e1 : (wrD (ofD s) j (fillS b)).1 = 0 := by rw [e]
    have e2 : ((wrD (ofD s) j (fillS b)).2.writes != 1) = false := by rw [e]; rfl
    have e3 : chk (wrD (ofD s) j (fillS b)).2 j = 0 := by
      rw [chk, wr_len, q1, q2, e]; rfl
    have e4 : rdS (wrD (ofD s) j (fillS b)).2 j = fillS b := by
      rw [rdS, e3, e, Int.toNat_natCast, List.getD_eq_getElem?_getD, List.getElem?_set_self hjl]; rfl
    generalize hD : ofD s = D at *
    generalize hE : (wrD D j (fillS b)) = E at *
    simp only [AH.SD, AH.wpOp, AOp.call?, AOp.next?, bstep, AOp.map, Opd.ev, tget, argTm, evs, AV.cells, St.eff, St.put, applyWr, mset, terase, pureE, unAV, intOp, binAV, fill, mget, AH.rowAt, AH.part, retQ, rvs, retV, AH.splice, AH.sliceElems, AH.bytesOf, AH.strOp, AH.bound, AH.addLog, AH.missQ, AH.minmaxAV, AH.wpOpD, AH.readOf, AH.effOf, AH.mapAt, AH.iterAt, Nat.reduceBEq, Nat.reduceAdd, Nat.reduceLT, ↓reduceIte, Nat.reduceEqDiff, Nat.reduceLeDiff, Nat.reduceSub, Nat.reduceMul, Int.reduceSub, Int.reduceToNat, Int.reduceBEq, Int.reduceBNe, Int.reduceLT, Int.reduceGT, Int.reduceLE, Int.reduceGE, Int.reduceNeg, Int.reduceAdd, AH.PD, heads, distN, AH.inN, posN, packM, packB, packTm, liveB, AV.inB, AV.insB, AV.ren, AV.rens, Blk.ren, Blk.inB, vstep, tput, vw, shift, newOnes, rowsM, blkIn, rwB, @flat_lts, AV.lt, AV.lts, Nat.sub_self, AH.rtO_eq, AH.rtO2_eq, AH.rtO2_none, AH.etO_eq, AH.etO2_eq, AH.etO2_none, AH.useO_some, AH.rtElse_eq, AH.elseO_some, AH.elseO_none, AH.etN_eq, Option.bind_some, Option.bind_none, AH.pairO_some, AH.pairO_none, AH.cC_dec, AH.cC_nil, AH.c0_dec, AH.c0_dec1, AH.aI_dec, AH.aS_dec, AH.aB_dec, AH.aNil_dec, AH.aNil_ptr, Option.map_none, effS, wrS, newS, backNo, AH.isIn, AH.posOf, AH.rwB, List.all_cons, List.all_nil, List.getElem?_cons_zero, List.getElem?_cons_succ, List.getElem?_nil, AH.appE_some, List.contains_cons, List.contains_nil, Nat.add_zero, errA_ren, dkM, dkR_eq, dkB_eq, Dk.eta, ne_eq, Nat.reduceEqDiff, Nat.zero_ne_one, not_false_eq_true, rdT_p, rdT_n, isOnT_p, isOnT_n, writesT_p, writesT_n, imgT_p, imgT_n, lenT_p, lenT_n, rimgT_p, fillT_eq, writeNT_p, writeNT_n, fuseNT_p, fuseNT_n, comeNT_p, comeNT_n, newT_eq, ofT_eq, rofT_eq, writeT_p, rwriteT_p, fuseT_p, rfuseT_p, comeT_p, rcomeT_p, hD, hag, hd, bne_self_eq_false, hz1, hj, hE, e1, e2, e3, e4, errA_nil, rdA, hw0]
    repeat (refine ⟨by first | rfl | decide | omega | (simp only [List.length_map, and_true]; omega) | (simp only [List.length_map, List.length_set, and_true]; omega), ?_⟩)
    rw [IntKind.wrap_u64]; omega
end Go.Proofs.YtcmnchmkoghfdaaDoor.C04
