import Derived.Test.YtnlolefgifeohaaDoorPurOE10
open Go AH
set_option linter.unusedSimpArgs false
set_option maxRecDepth 100000
namespace Go.Proofs.YtnlolefgifeohaaDoor.E10
noncomputable def owT : ET := etO puO c0 fun t _ => if Pk t ∧ t.L.length ≤ 1000 then some (.slc 2 0 (ownK t).length none, puM t ++ [rowI (ownK t)]) else none
theorem owT_ok : EffF S0 15 owT := etO_ok fun t x v m' h => by
  split at h
  · rename_i ht
    simp only [Option.some.injEq, Prod.mk.injEq] at h
    obtain ⟨rfl, rfl⟩ := h
    exact ⟨⟨by simp [puO, mpO, mpM, puM], rfl⟩, puOwn_ok t ht.1 ht.2⟩
  · cases h
theorem owT_p {p n : Nat} {M : Nat → Option Blk} : owT [.ptr p 0 0] M n = etO2 n (fun (t : Mp Pu) (_ : Unit) => if Pk t ∧ t.L.length ≤ 1000 then some (.slc 2 0 (ownK t).length none, puM t ++ [rowI (ownK t)]) else none) (puR M p (M p)) (some ()) := by
  simp only [owT, etO_eq, c0_dec, puO_dec]
instance : FlatE Ac.cells := ⟨cAc.flat⟩
theorem eqPu {a b c d : Int} : eqFlat [.int, .int] [.int .i64 a, .int .i64 b] [.int .i64 c, .int .i64 d] = some (a == c && b == d) := by
  simp only [eqFlat, eqScalar, and_self, if_true, Bool.and_true]
theorem Ac.cells_eq (a : Ac) : a.cells = [.int .i64 a.k, .int .i64 a.t, .int .i64 a.o, .int .i64 a.n] := rfl
theorem okDo : CtxOK S0 (ctxE S0 [] [] [(16, gvT), (52, tkT), (17, hoT), (19, unT), (18, pyT)]) := ctxE_ok trivial trivial ⟨gvT_ok, tkT_ok, hoT_ok, unT_ok, pyT_ok, trivial⟩ mixed
theorem do_ok (t : Mp Pu) (ht : Pk t) (a : Ac) : CallA1 S0 13 [.ptr 0 0 0, .agg a.cells] (puM t) fun r m => r = errA (doE t a).1 ∧ m = puM (doE t a).2 := by
  refine CallA1.fin ?_
  refine fun_sound okDo Tryd.func13 c13 ?_
  unfold wpF F13
  cases h1 : a.k == 1
  · cases h2 : a.k == 2
    · cases h3 : a.k == 3
      · cases h4 : a.k == 4 <;>
        (simp only [Ac.cells_eq]
         simp only [AH.SD, AH.wpOp, AOp.call?, AOp.next?, bstep, AOp.map, Opd.ev, tget, argTm, evs, AV.cells, St.eff, St.put, applyWr, mset, terase, pureE, unAV, intOp, binAV, fill, mget, AH.rowAt, AH.part, retQ, rvs, retV, AH.splice, AH.sliceElems, AH.bytesOf, AH.strOp, AH.bound, AH.addLog, AH.missQ, AH.minmaxAV, AH.wpOpD, AH.readOf, AH.effOf, AH.mapAt, AH.iterAt, Nat.reduceBEq, Nat.reduceAdd, Nat.reduceLT, ↓reduceIte, Nat.reduceEqDiff, Nat.reduceLeDiff, Nat.reduceSub, Nat.reduceMul, Int.reduceSub, Int.reduceToNat, Int.reduceBEq, Int.reduceBNe, Int.reduceLT, Int.reduceGT, Int.reduceLE, Int.reduceGE, Int.reduceNeg, Int.reduceAdd, AH.PD, heads, distN, AH.inN, posN, packM, packB, packTm, liveB, AV.inB, AV.insB, AV.ren, AV.rens, Blk.ren, Blk.inB, vstep, tput, vw, shift, newOnes, rowsM, blkIn, rwB, @flat_lts, AV.lt, AV.lts, Nat.sub_self, AH.rtO_eq, AH.rtO2_eq, AH.rtO2_none, AH.etO_eq, AH.etO2_eq, AH.etO2_none, AH.useO_some, AH.rtElse_eq, AH.elseO_some, AH.elseO_none, AH.etN_eq, Option.bind_some, Option.bind_none, AH.pairO_some, AH.pairO_none, AH.cC_dec, AH.cC_nil, AH.c0_dec, AH.c0_dec1, AH.aI_dec, AH.aS_dec, AH.aB_dec, AH.aNil_dec, AH.aNil_ptr, Option.map_none, effS, wrS, newS, backNo, AH.isIn, AH.posOf, AH.rwB, List.all_cons, List.all_nil, List.getElem?_cons_zero, List.getElem?_cons_succ, List.getElem?_nil, AH.appE_some, List.contains_cons, List.contains_nil, Nat.add_zero, puM, gvT_p, tkT_p, hoT_p, unT_p, pyT_p, pu_in, pu_ren, puR_eq, puB_eq, Mp.eta, ne_eq, Nat.reduceEqDiff, Nat.zero_ne_one, not_false_eq_true, h1, h2, h3, h4]
         repeat (refine ⟨by first | rfl | decide | omega | (simp only [List.length_map, and_true]; omega) | (simp only [List.length_map, List.length_set, and_true]; omega), ?_⟩)
         refine ⟨[0, 1], [], ?_⟩
         simp only [AH.SD, AH.wpOp, AOp.call?, AOp.next?, bstep, AOp.map, Opd.ev, tget, argTm, evs, AV.cells, St.eff, St.put, applyWr, mset, terase, pureE, unAV, intOp, binAV, fill, mget, AH.rowAt, AH.part, retQ, rvs, retV, AH.splice, AH.sliceElems, AH.bytesOf, AH.strOp, AH.bound, AH.addLog, AH.missQ, AH.minmaxAV, AH.wpOpD, AH.readOf, AH.effOf, AH.mapAt, AH.iterAt, Nat.reduceBEq, Nat.reduceAdd, Nat.reduceLT, ↓reduceIte, Nat.reduceEqDiff, Nat.reduceLeDiff, Nat.reduceSub, Nat.reduceMul, Int.reduceSub, Int.reduceToNat, Int.reduceBEq, Int.reduceBNe, Int.reduceLT, Int.reduceGT, Int.reduceLE, Int.reduceGE, Int.reduceNeg, Int.reduceAdd, AH.PD, heads, distN, AH.inN, posN, packM, packB, packTm, liveB, AV.inB, AV.insB, AV.ren, AV.rens, Blk.ren, Blk.inB, vstep, tput, pu_in, pu_ren, errA_ren, doE, h1, h2, h3, h4]
         exact flat_inB (errA_flat _))
      · simp only [Ac.cells_eq]
        simp only [AH.SD, AH.wpOp, AOp.call?, AOp.next?, bstep, AOp.map, Opd.ev, tget, argTm, evs, AV.cells, St.eff, St.put, applyWr, mset, terase, pureE, unAV, intOp, binAV, fill, mget, AH.rowAt, AH.part, retQ, rvs, retV, AH.splice, AH.sliceElems, AH.bytesOf, AH.strOp, AH.bound, AH.addLog, AH.missQ, AH.minmaxAV, AH.wpOpD, AH.readOf, AH.effOf, AH.mapAt, AH.iterAt, Nat.reduceBEq, Nat.reduceAdd, Nat.reduceLT, ↓reduceIte, Nat.reduceEqDiff, Nat.reduceLeDiff, Nat.reduceSub, Nat.reduceMul, Int.reduceSub, Int.reduceToNat, Int.reduceBEq, Int.reduceBNe, Int.reduceLT, Int.reduceGT, Int.reduceLE, Int.reduceGE, Int.reduceNeg, Int.reduceAdd, AH.PD, heads, distN, AH.inN, posN, packM, packB, packTm, liveB, AV.inB, AV.insB, AV.ren, AV.rens, Blk.ren, Blk.inB, vstep, tput, vw, shift, newOnes, rowsM, blkIn, rwB, @flat_lts, AV.lt, AV.lts, Nat.sub_self, AH.rtO_eq, AH.rtO2_eq, AH.rtO2_none, AH.etO_eq, AH.etO2_eq, AH.etO2_none, AH.useO_some, AH.rtElse_eq, AH.elseO_some, AH.elseO_none, AH.etN_eq, Option.bind_some, Option.bind_none, AH.pairO_some, AH.pairO_none, AH.cC_dec, AH.cC_nil, AH.c0_dec, AH.c0_dec1, AH.aI_dec, AH.aS_dec, AH.aB_dec, AH.aNil_dec, AH.aNil_ptr, Option.map_none, effS, wrS, newS, backNo, AH.isIn, AH.posOf, AH.rwB, List.all_cons, List.all_nil, List.getElem?_cons_zero, List.getElem?_cons_succ, List.getElem?_nil, AH.appE_some, List.contains_cons, List.contains_nil, Nat.add_zero, puM, gvT_p, tkT_p, hoT_p, unT_p, pyT_p, pu_in, pu_ren, puR_eq, puB_eq, Mp.eta, ne_eq, Nat.reduceEqDiff, Nat.zero_ne_one, not_false_eq_true, h1, h2, h3]
        repeat (refine ⟨by first | rfl | decide | omega | (simp only [List.length_map, and_true]; omega) | (simp only [List.length_map, List.length_set, and_true]; omega), ?_⟩)
        refine ⟨[0, 1], [], ?_⟩
        simp only [AH.SD, AH.wpOp, AOp.call?, AOp.next?, bstep, AOp.map, Opd.ev, tget, argTm, evs, AV.cells, St.eff, St.put, applyWr, mset, terase, pureE, unAV, intOp, binAV, fill, mget, AH.rowAt, AH.part, retQ, rvs, retV, AH.splice, AH.sliceElems, AH.bytesOf, AH.strOp, AH.bound, AH.addLog, AH.missQ, AH.minmaxAV, AH.wpOpD, AH.readOf, AH.effOf, AH.mapAt, AH.iterAt, Nat.reduceBEq, Nat.reduceAdd, Nat.reduceLT, ↓reduceIte, Nat.reduceEqDiff, Nat.reduceLeDiff, Nat.reduceSub, Nat.reduceMul, Int.reduceSub, Int.reduceToNat, Int.reduceBEq, Int.reduceBNe, Int.reduceLT, Int.reduceGT, Int.reduceLE, Int.reduceGE, Int.reduceNeg, Int.reduceAdd, AH.PD, heads, distN, AH.inN, posN, packM, packB, packTm, liveB, AV.inB, AV.insB, AV.ren, AV.rens, Blk.ren, Blk.inB, vstep, tput, pu_in, pu_ren, errA_ren, doE, h1, h2, h3]
        exact flat_inB (errA_flat _)
    · simp only [Ac.cells_eq]
      simp only [AH.SD, AH.wpOp, AOp.call?, AOp.next?, bstep, AOp.map, Opd.ev, tget, argTm, evs, AV.cells, St.eff, St.put, applyWr, mset, terase, pureE, unAV, intOp, binAV, fill, mget, AH.rowAt, AH.part, retQ, rvs, retV, AH.splice, AH.sliceElems, AH.bytesOf, AH.strOp, AH.bound, AH.addLog, AH.missQ, AH.minmaxAV, AH.wpOpD, AH.readOf, AH.effOf, AH.mapAt, AH.iterAt, Nat.reduceBEq, Nat.reduceAdd, Nat.reduceLT, ↓reduceIte, Nat.reduceEqDiff, Nat.reduceLeDiff, Nat.reduceSub, Nat.reduceMul, Int.reduceSub, Int.reduceToNat, Int.reduceBEq, Int.reduceBNe, Int.reduceLT, Int.reduceGT, Int.reduceLE, Int.reduceGE, Int.reduceNeg, Int.reduceAdd, AH.PD, heads, distN, AH.inN, posN, packM, packB, packTm, liveB, AV.inB, AV.insB, AV.ren, AV.rens, Blk.ren, Blk.inB, vstep, tput, vw, shift, newOnes, rowsM, blkIn, rwB, @flat_lts, AV.lt, AV.lts, Nat.sub_self, AH.rtO_eq, AH.rtO2_eq, AH.rtO2_none, AH.etO_eq, AH.etO2_eq, AH.etO2_none, AH.useO_some, AH.rtElse_eq, AH.elseO_some, AH.elseO_none, AH.etN_eq, Option.bind_some, Option.bind_none, AH.pairO_some, AH.pairO_none, AH.cC_dec, AH.cC_nil, AH.c0_dec, AH.c0_dec1, AH.aI_dec, AH.aS_dec, AH.aB_dec, AH.aNil_dec, AH.aNil_ptr, Option.map_none, effS, wrS, newS, backNo, AH.isIn, AH.posOf, AH.rwB, List.all_cons, List.all_nil, List.getElem?_cons_zero, List.getElem?_cons_succ, List.getElem?_nil, AH.appE_some, List.contains_cons, List.contains_nil, Nat.add_zero, puM, gvT_p, tkT_p, hoT_p, unT_p, pyT_p, pu_in, pu_ren, puR_eq, puB_eq, Mp.eta, ne_eq, Nat.reduceEqDiff, Nat.zero_ne_one, not_false_eq_true, h1, h2]
      repeat (refine ⟨by first | rfl | decide | omega | (simp only [List.length_map, and_true]; omega) | (simp only [List.length_map, List.length_set, and_true]; omega), ?_⟩)
      refine ⟨[0, 1], [], ?_⟩
      simp only [AH.SD, AH.wpOp, AOp.call?, AOp.next?, bstep, AOp.map, Opd.ev, tget, argTm, evs, AV.cells, St.eff, St.put, applyWr, mset, terase, pureE, unAV, intOp, binAV, fill, mget, AH.rowAt, AH.part, retQ, rvs, retV, AH.splice, AH.sliceElems, AH.bytesOf, AH.strOp, AH.bound, AH.addLog, AH.missQ, AH.minmaxAV, AH.wpOpD, AH.readOf, AH.effOf, AH.mapAt, AH.iterAt, Nat.reduceBEq, Nat.reduceAdd, Nat.reduceLT, ↓reduceIte, Nat.reduceEqDiff, Nat.reduceLeDiff, Nat.reduceSub, Nat.reduceMul, Int.reduceSub, Int.reduceToNat, Int.reduceBEq, Int.reduceBNe, Int.reduceLT, Int.reduceGT, Int.reduceLE, Int.reduceGE, Int.reduceNeg, Int.reduceAdd, AH.PD, heads, distN, AH.inN, posN, packM, packB, packTm, liveB, AV.inB, AV.insB, AV.ren, AV.rens, Blk.ren, Blk.inB, vstep, tput, pu_in, pu_ren, errA_ren, doE, h1, h2]
      exact flat_inB (errA_flat _)
  · simp only [Ac.cells_eq]
    simp only [AH.SD, AH.wpOp, AOp.call?, AOp.next?, bstep, AOp.map, Opd.ev, tget, argTm, evs, AV.cells, St.eff, St.put, applyWr, mset, terase, pureE, unAV, intOp, binAV, fill, mget, AH.rowAt, AH.part, retQ, rvs, retV, AH.splice, AH.sliceElems, AH.bytesOf, AH.strOp, AH.bound, AH.addLog, AH.missQ, AH.minmaxAV, AH.wpOpD, AH.readOf, AH.effOf, AH.mapAt, AH.iterAt, Nat.reduceBEq, Nat.reduceAdd, Nat.reduceLT, ↓reduceIte, Nat.reduceEqDiff, Nat.reduceLeDiff, Nat.reduceSub, Nat.reduceMul, Int.reduceSub, Int.reduceToNat, Int.reduceBEq, Int.reduceBNe, Int.reduceLT, Int.reduceGT, Int.reduceLE, Int.reduceGE, Int.reduceNeg, Int.reduceAdd, AH.PD, heads, distN, AH.inN, posN, packM, packB, packTm, liveB, AV.inB, AV.insB, AV.ren, AV.rens, Blk.ren, Blk.inB, vstep, tput, vw, shift, newOnes, rowsM, blkIn, rwB, @flat_lts, AV.lt, AV.lts, Nat.sub_self, AH.rtO_eq, AH.rtO2_eq, AH.rtO2_none, AH.etO_eq, AH.etO2_eq, AH.etO2_none, AH.useO_some, AH.rtElse_eq, AH.elseO_some, AH.elseO_none, AH.etN_eq, Option.bind_some, Option.bind_none, AH.pairO_some, AH.pairO_none, AH.cC_dec, AH.cC_nil, AH.c0_dec, AH.c0_dec1, AH.aI_dec, AH.aS_dec, AH.aB_dec, AH.aNil_dec, AH.aNil_ptr, Option.map_none, effS, wrS, newS, backNo, AH.isIn, AH.posOf, AH.rwB, List.all_cons, List.all_nil, List.getElem?_cons_zero, List.getElem?_cons_succ, List.getElem?_nil, AH.appE_some, List.contains_cons, List.contains_nil, Nat.add_zero, puM, gvT_p, tkT_p, hoT_p, unT_p, pyT_p, pu_in, pu_ren, puR_eq, puB_eq, Mp.eta, ne_eq, Nat.reduceEqDiff, Nat.zero_ne_one, not_false_eq_true, ht, h1]
    repeat (refine ⟨by first | rfl | decide | omega | (simp only [List.length_map, and_true]; omega) | (simp only [List.length_map, List.length_set, and_true]; omega), ?_⟩)
    refine ⟨[0, 1], [], ?_⟩
    simp only [AH.SD, AH.wpOp, AOp.call?, AOp.next?, bstep, AOp.map, Opd.ev, tget, argTm, evs, AV.cells, St.eff, St.put, applyWr, mset, terase, pureE, unAV, intOp, binAV, fill, mget, AH.rowAt, AH.part, retQ, rvs, retV, AH.splice, AH.sliceElems, AH.bytesOf, AH.strOp, AH.bound, AH.addLog, AH.missQ, AH.minmaxAV, AH.wpOpD, AH.readOf, AH.effOf, AH.mapAt, AH.iterAt, Nat.reduceBEq, Nat.reduceAdd, Nat.reduceLT, ↓reduceIte, Nat.reduceEqDiff, Nat.reduceLeDiff, Nat.reduceSub, Nat.reduceMul, Int.reduceSub, Int.reduceToNat, Int.reduceBEq, Int.reduceBNe, Int.reduceLT, Int.reduceGT, Int.reduceLE, Int.reduceGE, Int.reduceNeg, Int.reduceAdd, AH.PD, heads, distN, AH.inN, posN, packM, packB, packTm, liveB, AV.inB, AV.insB, AV.ren, AV.rens, Blk.ren, Blk.inB, vstep, tput, pu_in, pu_ren, errA_ren, doE, h1]
    exact flat_inB (errA_flat _)
noncomputable def doT : ET := etO puO (cC (aA cAc) c0) fun t x => if Pk t then some (errA (doE t x.1).1, puM (doE t x.1).2) else none
theorem doT_ok : EffF S0 13 doT := etO_ok fun t x v m' h => by
  split at h
  · rename_i ht
    simp only [Option.some.injEq, Prod.mk.injEq] at h
    obtain ⟨rfl, rfl⟩ := h
    exact ⟨⟨Nat.le_refl _, rfl⟩, do_ok t ht x.1⟩
  · cases h
theorem aAc_dec {k t o n : Int} : (aA cAc).dec (.agg [.int .i64 k, .int .i64 t, .int .i64 o, .int .i64 n]) = some ⟨k, t, o, n⟩ := rfl
theorem doT_p {p n : Nat} {k t o x : Int} {M : Nat → Option Blk} : doT [.ptr p 0 0, .agg [.int .i64 k, .int .i64 t, .int .i64 o, .int .i64 x]] M n = etO2 n (fun (t : Mp Pu) (x : Ac × Unit) => if Pk t then some (errA (doE t x.1).1, puM (doE t x.1).2) else none) (puR M p (M p)) (some (⟨k, t, o, x⟩, ())) := by
  simp only [doT, etO_eq, c0_dec, puO_dec, cC_dec, aAc_dec, pairO_some]

noncomputable abbrev tP : List (FuncId × RT) := [(12, ofT), (14, totT), (20, kindT)]
noncomputable abbrev eP : List (FuncId × ET) := [(11, nwT), (16, gvT), (52, tkT), (17, hoT), (19, unT), (18, pyT), (15, owT), (13, doT)]
theorem tP_ok : AllF S0 tP := ⟨ofT_ok, totT_ok, kindT_ok, trivial⟩
theorem eP_ok : AllE S0 eP := ⟨nwT_ok, gvT_ok, tkT_ok, hoT_ok, unT_ok, pyT_ok, owT_ok, doT_ok, trivial⟩
theorem okP0 : CtxOK S0 (ctxE S0 tP [] eP) := ctxE_ok tP_ok trivial eP_ok mixed
deriving instance DecidableEq for AH.En
deriving instance DecidableEq for AH.Mp
def P1 : Mp Pu := ⟨[⟨1, ⟨10, 0⟩, 0⟩], 1⟩
def P2 : Mp Pu := ⟨[⟨1, ⟨6, 4⟩, 0⟩], 1⟩
def P3 : Mp Pu := ⟨[⟨1, ⟨6, 1⟩, 0⟩, ⟨2, ⟨3, 0⟩, 1⟩], 2⟩
theorem pk0 : Pk P0 := ⟨wf_new, fun _ h => by (cases h), by decide, fun _ h => by (cases h)⟩
theorem k1 : gvE P0 1 10 = (0, P1) := by decide +kernel
theorem k2 : spE P1 1 4 4 = (0, P2) := by decide +kernel
theorem k3 : pyE P2 1 2 3 = (0, P3) := by decide +kernel
theorem inR_1 : inR 1 := ⟨by decide, by decide⟩
theorem inR_2 : inR 2 := ⟨by decide, by decide⟩
theorem pk1 : Pk P1 := by have := (gv_after pk0 (id := 1) (n := 10) inR_1).pk; rw [k1] at this; exact this
theorem pk2 : Pk P2 := by have := (sp_after pk1 (id := 1) (n := 4) inR_1 (.inr rfl)).pk; rw [k2] at this; exact this
theorem pk3 : Pk P3 := by have := (py_after pk2 (id := 1) (o := 2) (n := 3) inR_1 inR_2).pk; rw [k3] at this; exact this
theorem k4 : ofP P3 1 = ⟨6, 1⟩ := by decide +kernel
theorem k5 : ofP P3 2 = ⟨3, 0⟩ := by decide +kernel
theorem k6 : sumP P3.L = 10 := by decide +kernel
theorem k7 : spE P3 2 4 0 = (12, P3) := by decide +kernel
theorem k8 : pyE P3 1 1 2 = (13, P3) := by decide +kernel
theorem k9 : (ownK P3).length = 2 := by
  have h : (ownK P3).Perm ((P3.L.map (·.k)).filter (ownB P3)) := (sortI_perm _).filter _
  rw [h.length_eq]
  decide +kernel
theorem l3 : P3.L.length ≤ 1000 := by decide
theorem awake_ok : Pure S0 10 [] (.bool true) := by
  refine fun_sound okP0 Tryd.func10 c10 ?_
  unfold wpF F10
  have kE12 : ∀ M, kindT [errA 12] M = some (.int .i64 12, []) := fun M => kindT_err (k := 12) M (by decide)
  have kE13 : ∀ M, kindT [errA 13] M = some (.int .i64 13, []) := fun M => kindT_err (k := 13) M (by decide)
  simp only [AH.SD, AH.wpOp, AOp.call?, AOp.next?, bstep, AOp.map, Opd.ev, tget, argTm, evs, AV.cells, St.eff, St.put, applyWr, mset, terase, pureE, unAV, intOp, binAV, fill, mget, AH.rowAt, AH.part, retQ, rvs, retV, AH.splice, AH.sliceElems, AH.bytesOf, AH.strOp, AH.bound, AH.addLog, AH.missQ, AH.minmaxAV, AH.wpOpD, AH.readOf, AH.effOf, AH.mapAt, AH.iterAt, Nat.reduceBEq, Nat.reduceAdd, Nat.reduceLT, ↓reduceIte, Nat.reduceEqDiff, Nat.reduceLeDiff, Nat.reduceSub, Nat.reduceMul, Int.reduceSub, Int.reduceToNat, Int.reduceBEq, Int.reduceBNe, Int.reduceLT, Int.reduceGT, Int.reduceLE, Int.reduceGE, Int.reduceNeg, Int.reduceAdd, AH.PD, heads, distN, AH.inN, posN, packM, packB, packTm, liveB, AV.inB, AV.insB, AV.ren, AV.rens, Blk.ren, Blk.inB, vstep, tput, vw, shift, newOnes, rowsM, blkIn, rwB, @flat_lts, AV.lt, AV.lts, Nat.sub_self, AH.rtO_eq, AH.rtO2_eq, AH.rtO2_none, AH.etO_eq, AH.etO2_eq, AH.etO2_none, AH.useO_some, AH.rtElse_eq, AH.elseO_some, AH.elseO_none, AH.etN_eq, Option.bind_some, Option.bind_none, AH.pairO_some, AH.pairO_none, AH.cC_dec, AH.cC_nil, AH.c0_dec, AH.c0_dec1, AH.aI_dec, AH.aS_dec, AH.aB_dec, AH.aNil_dec, AH.aNil_ptr, Option.map_none, effS, wrS, newS, backNo, AH.isIn, AH.posOf, AH.rwB, List.all_cons, List.all_nil, List.getElem?_cons_zero, List.getElem?_cons_succ, List.getElem?_nil, AH.appE_some, List.contains_cons, List.contains_nil, Nat.add_zero, pu_in, pu_ren, puR_eq, puB_eq, Mp.eta, ne_eq, Nat.reduceEqDiff, Nat.zero_ne_one, not_false_eq_true, ofT_p, totT_p, nwT_eq, gvT_p, tkT_p, hoT_p, unT_p, pyT_p, owT_p, doT_p, errA_ren, puM, rowI, Pu.av, AH.eqAV_flat, eqPu, k1, k2, k3, pk0, pk1, pk2, pk3, l3, k4, k5, k6, k7, k8, k9, errA_nil, eA0, kE12, kE13]
def awakeT : RT := rtP c0 fun _ => .bool true
theorem awakeT_ok : ReadF S0 10 awakeT := rtP_ok (fun _ => awake_ok) fun _ => rfl
theorem awakeT_eq (M : Nat → Option Blk) : awakeT [] M = some (.bool true, []) := rfl
theorem okP : CtxOK S0 (ctxE S0 ((10, awakeT) :: tP) [] eP) := ctxE_ok ⟨awakeT_ok, tP_ok⟩ trivial eP_ok mixed
end Go.Proofs.YtnlolefgifeohaaDoor.E10
