import Derived.Test.YtnlolefgifeohaaDoorPurDE10
open Go AH
set_option linter.unusedSimpArgs false
set_option maxRecDepth 100000
namespace Go.Proofs.YtnlolefgifeohaaDoor.E10
theorem u64_at {m : Int} (h1 : 1 ≤ m) (h2 : m ≤ 2199023255552) : IntKind.u64.wrap m = m := by rw [IntKind.wrap_u64]; omega
theorem mod_in (x : Int) {m : Int} (h1 : 1 ≤ m) (h2 : m ≤ 2199023255552) : 0 ≤ IntKind.i64.wrap ((IntKind.u64.wrap x).tmod m) ∧ IntKind.i64.wrap ((IntKind.u64.wrap x).tmod m) < m := by
  have h0 : 0 ≤ IntKind.u64.wrap x := by rw [IntKind.wrap_u64]; omega
  have h3 : (IntKind.u64.wrap x).tmod m = IntKind.u64.wrap x % m := Int.tmod_eq_emod_of_nonneg h0
  have h4 := Int.emod_nonneg (IntKind.u64.wrap x) (by omega : m ≠ 0)
  have h5 := Int.emod_lt_of_pos (IntKind.u64.wrap x) (by omega : (0 : Int) < m)
  rw [h3]
  generalize IntKind.u64.wrap x % m = r at *
  rw [IntKind.wrap_i64]
  omega
theorem inR_7 : inR 7 := ⟨by decide, by decide⟩
theorem inR_8 : inR 8 := ⟨by decide, by decide⟩
theorem gv_do {t : Mp Pu} (ht : Pk t) {id n : Int} (h1 : 0 ≤ n) (h2 : sumP t.L + n ≤ 1125899906842624) : gvE t id n = (0, mvP t id n 0) := by
  have h0 := sum_nonneg ht.pos
  have hm := ht.max
  have w : IntKind.i64.wrap (1125899906842624 - sumP t.L) = 1125899906842624 - sumP t.L := wr_small (by omega) (by omega)
  have c1 : decide (n < 0) = false := by simp only [decide_eq_false_iff_not]; omega
  have c2 : decide (n > 1125899906842624) = false := by simp only [decide_eq_false_iff_not]; omega
  have c3 : decide (n > 1125899906842624 - sumP t.L) = false := by simp only [decide_eq_false_iff_not]; omega
  rw [gvE, w, c1, c2, c3]; rfl
theorem sp_do {t : Mp Pu} (ht : Pk t) {id n h : Int} (h1 : 0 ≤ n) (h2 : n ≤ (ofP t id).f) : spE t id n h = (0, mvP t id (-n) h) := by
  obtain ⟨o1, o2, o3⟩ := ofP_in ht id
  have hm := ht.max
  have c1 : decide (n < 0) = false := by simp only [decide_eq_false_iff_not]; omega
  have c2 : decide (n > 1125899906842624) = false := by simp only [decide_eq_false_iff_not]; omega
  have c3 : decide ((ofP t id).f < n) = false := by simp only [decide_eq_false_iff_not]; omega
  rw [spE, c1, c2, c3, neg_small h1 (by omega)]; rfl
theorem py_do {t : Mp Pu} (ht : Pk t) {id o n : Int} (h1 : 0 ≤ n) (h2 : n ≤ (ofP t id).h) : pyE t id o n = (0, mvP (mvP t id 0 (-n)) o n 0) := by
  obtain ⟨o1, o2, o3⟩ := ofP_in ht id
  have hm := ht.max
  have c1 : decide (n < 0) = false := by simp only [decide_eq_false_iff_not]; omega
  have c2 : decide (n > 1125899906842624) = false := by simp only [decide_eq_false_iff_not]; omega
  have c3 : decide ((ofP t id).h < n) = false := by simp only [decide_eq_false_iff_not]; omega
  rw [pyE, c1, c2, c3, neg_small h1 (by omega)]; rfl
/-- What is given, held, paid and freed. -/
theorem back {g h p o : Int} (h1 : 0 ≤ p) (h2 : p ≤ h) (h3 : h ≤ g) (h4 : g < 1099511627776) (ho : o = 7 ∨ o = 8) : ∃ T1 T2 T3 T4 : Mp Pu, Pk T1 ∧
    gvE P0 7 g = (0, T1) ∧ spE T1 7 h h = (0, T2) ∧ pyE T2 7 o p = (0, T3) ∧ pyE T3 7 7 (h - p) = (0, T4) ∧ pyE T4 7 7 1 = (13, T4) ∧
    (o = 7 → ofP T4 7 = ⟨g, 0⟩) ∧ (o = 8 → ofP T4 7 = ⟨g - p, 0⟩ ∧ ofP T4 8 = ⟨p, 0⟩) := by
  have e1 : gvE P0 7 g = (0, mvP P0 7 g 0) := gv_do pk0 (by omega) (by simp only [P0, sumP, List.map_nil, List.sum_nil]; omega)
  have a1 := gv_after pk0 (id := 7) (n := g) inR_7
  rw [e1] at a1
  have o1 : ∀ k, ofP (mvP P0 7 g 0) k = if k = 7 then ⟨g, 0⟩ else ⟨0, 0⟩ := fun k => by
    rw [mv_of]
    have : ∀ k, ofP P0 k = ⟨0, 0⟩ := fun k => rfl
    rw [this, this]
    simp only
    rw [wr_small (n := 0 + g) (by omega) (by omega)]
    simp only [Int.zero_add]
    rfl
  generalize mvP P0 7 g 0 = T1 at *
  have p1 := a1.pk
  simp only at p1
  have v1 := o1 7
  rw [if_pos rfl] at v1
  have e2 : spE T1 7 h h = (0, mvP T1 7 (-h) h) := sp_do p1 (by omega) (by rw [v1]; simp only; omega)
  have a2 := sp_after p1 (id := 7) (n := h) (h := h) inR_7 (.inr rfl)
  rw [e2] at a2
  have o2 : ∀ k, ofP (mvP T1 7 (-h) h) k = if k = 7 then ⟨g - h, h⟩ else ⟨0, 0⟩ := fun k => by
    rw [mv_of, v1, o1]
    simp only
    rw [wr_small (n := g + -h) (by omega) (by omega), wr_small (n := 0 + h) (by omega) (by omega), Int.zero_add]
    by_cases q : k = 7 <;> simp only [q, if_true, if_false] <;> rfl
  generalize mvP T1 7 (-h) h = T2 at *
  have p2 := a2.pk
  simp only at p2
  have v2 := o2 7
  rw [if_pos rfl] at v2
  have e3 : pyE T2 7 o p = (0, mvP (mvP T2 7 0 (-p)) o p 0) := py_do p2 (by omega) (by rw [v2]; simp only; omega)
  have a3 := py_after p2 (id := 7) (o := o) (n := p) inR_7 (ho.elim (fun q => q ▸ inR_7) (fun q => q ▸ inR_8))
  rw [e3] at a3
  have m3 : ∀ k, ofP (mvP T2 7 0 (-p)) k = if k = 7 then ⟨g - h, h - p⟩ else ⟨0, 0⟩ := fun k => by
    rw [mv_of, v2, o2]
    simp only
    rw [wr_small (n := g - h + 0) (by omega) (by omega), wr_small (n := h + -p) (by omega) (by omega), Int.add_zero]
    by_cases q : k = 7 <;> simp only [q, if_true, if_false] <;> rfl
  have o3 : ∀ k, ofP (mvP (mvP T2 7 0 (-p)) o p 0) k = if k = 7 then (if o = 7 then ⟨g - h + p, h - p⟩ else ⟨g - h, h - p⟩) else if k = o then ⟨p, 0⟩ else ⟨0, 0⟩ := fun k => by
    rw [mv_of, m3, m3]
    rcases ho with rfl | rfl
    · simp only [if_true]
      rw [wr_small (n := g - h + p) (by omega) (by omega), wr_small (n := h - p + 0) (by omega) (by omega), Int.add_zero]
      by_cases q : k = 7 <;> simp only [q, if_true, if_false]
    · simp only [show ¬ (8 : Int) = 7 by decide, if_false]
      rw [wr_small (n := 0 + p) (by omega) (by omega), Int.zero_add, show IntKind.i64.wrap (0 + 0) = 0 by decide]
      by_cases q : k = 8
      · subst q; rfl
      · by_cases q2 : k = 7 <;> simp only [q, q2, if_true, if_false]
        rw [if_neg (by decide)]
  generalize mvP (mvP T2 7 0 (-p)) o p 0 = T3 at *
  have p3 := a3.pk
  simp only at p3
  have v3 := o3 7
  rw [if_pos rfl] at v3
  have e4 : pyE T3 7 7 (h - p) = (0, mvP (mvP T3 7 0 (-(h - p))) 7 (h - p) 0) := py_do p3 (by omega) (by rw [v3]; split <;> (simp only; omega))
  have a4 := py_after p3 (id := 7) (o := 7) (n := h - p) inR_7 inR_7
  rw [e4] at a4
  have o4 : ∀ k, ofP (mvP (mvP T3 7 0 (-(h - p))) 7 (h - p) 0) k = if k = 7 then (if o = 7 then ⟨g, 0⟩ else ⟨g - p, 0⟩) else ofP T3 k := fun k => by
    rw [mv_of, mv_of, mv_of, v3]
    rcases ho with rfl | rfl
    · simp only [if_true]
      rw [wr_small (n := g - h + p + 0) (by omega) (by omega), wr_small (n := h - p + -(h - p)) (by omega) (by omega), wr_small (n := g - h + p + 0 + (h - p)) (by omega) (by omega), wr_small (n := h - p + -(h - p) + 0) (by omega) (by omega)]
      by_cases q : k = 7
      · simp only [q, if_true]; congr 1 <;> omega
      · simp only [q, if_false]
    · simp only [show ¬ (8 : Int) = 7 by decide, if_false, if_true]
      rw [wr_small (n := g - h + 0) (by omega) (by omega), wr_small (n := h - p + -(h - p)) (by omega) (by omega), wr_small (n := g - h + 0 + (h - p)) (by omega) (by omega), wr_small (n := h - p + -(h - p) + 0) (by omega) (by omega)]
      by_cases q : k = 7
      · simp only [q, if_true]; congr 1 <;> omega
      · simp only [q, if_false]
  generalize mvP (mvP T3 7 0 (-(h - p))) 7 (h - p) 0 = T4 at *
  have v4 := o4 7
  rw [if_pos rfl] at v4
  refine ⟨T1, T2, T3, T4, p1, e1, e2, e3, e4, ?_, fun q => ?_, fun q => ?_⟩
  · have c3 : decide ((ofP T4 7).h < 1) = true := by rw [v4]; split <;> rfl
    rw [pyE, c3]; rfl
  · rw [v4, if_pos q]
  · subst q
    refine ⟨by rw [v4]; rfl, ?_⟩
    rw [o4, if_neg (by decide), o3, if_neg (by decide), if_pos rfl]
theorem pB0 : sumP P0.L = 0 := rfl
set_option maxHeartbeats 4000000 in
theorem back_ok (give hold pay : Int) (same : Bool) : CallA1 S0 4 [.int .i64 give, .int .i64 hold, .int .i64 pay, .bool same] [] fun r _ => r = .bool true := by
  refine fun_sound okP Tryd.func4 c4 ?_
  unfold wpF F4
  obtain ⟨g1, g2⟩ := mod_in give (m := 1099511627776) (by decide) (by decide)
  generalize hg : IntKind.i64.wrap ((IntKind.u64.wrap give).tmod 1099511627776) = g at *
  obtain ⟨h1, h2⟩ := mod_in hold (m := g + 1) (by omega) (by omega)
  generalize hh : IntKind.i64.wrap ((IntKind.u64.wrap hold).tmod (g + 1)) = h at *
  obtain ⟨p1, p2⟩ := mod_in pay (m := h + 1) (by omega) (by omega)
  generalize hp : IntKind.i64.wrap ((IntKind.u64.wrap pay).tmod (h + 1)) = p at *
  have wg : IntKind.i64.wrap (g + 1) = g + 1 := wr_small (by omega) (by omega)
  have wh : IntKind.i64.wrap (h + 1) = h + 1 := wr_small (by omega) (by omega)
  have ug := u64_at (m := g + 1) (by omega) (by omega)
  have uh := u64_at (m := h + 1) (by omega) (by omega)
  have wp : IntKind.i64.wrap (h - p) = h - p := wr_small (by omega) (by omega)
  have wq : IntKind.i64.wrap (g - p) = g - p := wr_small (by omega) (by omega)
  have kE13 : ∀ M, kindT [errA 13] M = some (.int .i64 13, []) := fun M => kindT_err (k := 13) M (by decide)
  simp only [AH.SD, AH.wpOp, AOp.call?, AOp.next?, bstep, AOp.map, Opd.ev, tget, argTm, evs, AV.cells, St.eff, St.put, applyWr, mset, terase, pureE, unAV, intOp, binAV, fill, mget, AH.rowAt, AH.part, retQ, rvs, retV, AH.splice, AH.sliceElems, AH.bytesOf, AH.strOp, AH.bound, AH.addLog, AH.missQ, AH.minmaxAV, AH.wpOpD, AH.readOf, AH.effOf, AH.mapAt, AH.iterAt, Nat.reduceBEq, Nat.reduceAdd, Nat.reduceLT, ↓reduceIte, Nat.reduceEqDiff, Nat.reduceLeDiff, Nat.reduceSub, Nat.reduceMul, Int.reduceSub, Int.reduceToNat, Int.reduceBEq, Int.reduceBNe, Int.reduceLT, Int.reduceGT, Int.reduceLE, Int.reduceGE, Int.reduceNeg, Int.reduceAdd, AH.PD, heads, distN, AH.inN, posN, packM, packB, packTm, liveB, AV.inB, AV.insB, AV.ren, AV.rens, Blk.ren, Blk.inB, vstep, tput, vw, shift, newOnes, rowsM, blkIn, rwB, @flat_lts, AV.lt, AV.lts, Nat.sub_self, AH.rtO_eq, AH.rtO2_eq, AH.rtO2_none, AH.etO_eq, AH.etO2_eq, AH.etO2_none, AH.useO_some, AH.rtElse_eq, AH.elseO_some, AH.elseO_none, AH.etN_eq, Option.bind_some, Option.bind_none, AH.pairO_some, AH.pairO_none, AH.cC_dec, AH.cC_nil, AH.c0_dec, AH.c0_dec1, AH.aI_dec, AH.aS_dec, AH.aB_dec, AH.aNil_dec, AH.aNil_ptr, Option.map_none, effS, wrS, newS, backNo, AH.isIn, AH.posOf, AH.rwB, List.all_cons, List.all_nil, List.getElem?_cons_zero, List.getElem?_cons_succ, List.getElem?_nil, AH.appE_some, List.contains_cons, List.contains_nil, Nat.add_zero, awakeT_eq, pu_in, pu_ren, puR_eq, puB_eq, Mp.eta, ne_eq, Nat.reduceEqDiff, Nat.zero_ne_one, not_false_eq_true, ofT_p, totT_p, nwT_eq, gvT_p, tkT_p, hoT_p, unT_p, pyT_p, owT_p, doT_p, errA_ren, puM, rowI, Pu.av, AH.eqAV_flat, eqPu]
  refine ⟨by decide, ?_⟩
  simp only [AH.SD, AH.wpOp, AOp.call?, AOp.next?, bstep, AOp.map, Opd.ev, tget, argTm, evs, AV.cells, St.eff, St.put, applyWr, mset, terase, pureE, unAV, intOp, binAV, fill, mget, AH.rowAt, AH.part, retQ, rvs, retV, AH.splice, AH.sliceElems, AH.bytesOf, AH.strOp, AH.bound, AH.addLog, AH.missQ, AH.minmaxAV, AH.wpOpD, AH.readOf, AH.effOf, AH.mapAt, AH.iterAt, Nat.reduceBEq, Nat.reduceAdd, Nat.reduceLT, ↓reduceIte, Nat.reduceEqDiff, Nat.reduceLeDiff, Nat.reduceSub, Nat.reduceMul, Int.reduceSub, Int.reduceToNat, Int.reduceBEq, Int.reduceBNe, Int.reduceLT, Int.reduceGT, Int.reduceLE, Int.reduceGE, Int.reduceNeg, Int.reduceAdd, AH.PD, heads, distN, AH.inN, posN, packM, packB, packTm, liveB, AV.inB, AV.insB, AV.ren, AV.rens, Blk.ren, Blk.inB, vstep, tput, vw, shift, newOnes, rowsM, blkIn, rwB, @flat_lts, AV.lt, AV.lts, Nat.sub_self, AH.rtO_eq, AH.rtO2_eq, AH.rtO2_none, AH.etO_eq, AH.etO2_eq, AH.etO2_none, AH.useO_some, AH.rtElse_eq, AH.elseO_some, AH.elseO_none, AH.etN_eq, Option.bind_some, Option.bind_none, AH.pairO_some, AH.pairO_none, AH.cC_dec, AH.cC_nil, AH.c0_dec, AH.c0_dec1, AH.aI_dec, AH.aS_dec, AH.aB_dec, AH.aNil_dec, AH.aNil_ptr, Option.map_none, effS, wrS, newS, backNo, AH.isIn, AH.posOf, AH.rwB, List.all_cons, List.all_nil, List.getElem?_cons_zero, List.getElem?_cons_succ, List.getElem?_nil, AH.appE_some, List.contains_cons, List.contains_nil, Nat.add_zero, hg, wg, ug]
  refine ⟨by omega, ?_⟩
  simp only [AH.SD, AH.wpOp, AOp.call?, AOp.next?, bstep, AOp.map, Opd.ev, tget, argTm, evs, AV.cells, St.eff, St.put, applyWr, mset, terase, pureE, unAV, intOp, binAV, fill, mget, AH.rowAt, AH.part, retQ, rvs, retV, AH.splice, AH.sliceElems, AH.bytesOf, AH.strOp, AH.bound, AH.addLog, AH.missQ, AH.minmaxAV, AH.wpOpD, AH.readOf, AH.effOf, AH.mapAt, AH.iterAt, Nat.reduceBEq, Nat.reduceAdd, Nat.reduceLT, ↓reduceIte, Nat.reduceEqDiff, Nat.reduceLeDiff, Nat.reduceSub, Nat.reduceMul, Int.reduceSub, Int.reduceToNat, Int.reduceBEq, Int.reduceBNe, Int.reduceLT, Int.reduceGT, Int.reduceLE, Int.reduceGE, Int.reduceNeg, Int.reduceAdd, AH.PD, heads, distN, AH.inN, posN, packM, packB, packTm, liveB, AV.inB, AV.insB, AV.ren, AV.rens, Blk.ren, Blk.inB, vstep, tput, vw, shift, newOnes, rowsM, blkIn, rwB, @flat_lts, AV.lt, AV.lts, Nat.sub_self, AH.rtO_eq, AH.rtO2_eq, AH.rtO2_none, AH.etO_eq, AH.etO2_eq, AH.etO2_none, AH.useO_some, AH.rtElse_eq, AH.elseO_some, AH.elseO_none, AH.etN_eq, Option.bind_some, Option.bind_none, AH.pairO_some, AH.pairO_none, AH.cC_dec, AH.cC_nil, AH.c0_dec, AH.c0_dec1, AH.aI_dec, AH.aS_dec, AH.aB_dec, AH.aNil_dec, AH.aNil_ptr, Option.map_none, effS, wrS, newS, backNo, AH.isIn, AH.posOf, AH.rwB, List.all_cons, List.all_nil, List.getElem?_cons_zero, List.getElem?_cons_succ, List.getElem?_nil, AH.appE_some, List.contains_cons, List.contains_nil, Nat.add_zero, hh, wh, uh]
  refine ⟨by omega, ?_⟩
  cases same
  · obtain ⟨T1, T2, T3, T4, k0, e1, e2, e3, e4, e5, _, e7⟩ := back (g := g) (h := h) (p := p) (o := 8) p1 (by omega) (by omega) g2 (.inr rfl)
    obtain ⟨e7, e8⟩ := e7 rfl
    simp only [AH.SD, AH.wpOp, AOp.call?, AOp.next?, bstep, AOp.map, Opd.ev, tget, argTm, evs, AV.cells, St.eff, St.put, applyWr, mset, terase, pureE, unAV, intOp, binAV, fill, mget, AH.rowAt, AH.part, retQ, rvs, retV, AH.splice, AH.sliceElems, AH.bytesOf, AH.strOp, AH.bound, AH.addLog, AH.missQ, AH.minmaxAV, AH.wpOpD, AH.readOf, AH.effOf, AH.mapAt, AH.iterAt, Nat.reduceBEq, Nat.reduceAdd, Nat.reduceLT, ↓reduceIte, Nat.reduceEqDiff, Nat.reduceLeDiff, Nat.reduceSub, Nat.reduceMul, Int.reduceSub, Int.reduceToNat, Int.reduceBEq, Int.reduceBNe, Int.reduceLT, Int.reduceGT, Int.reduceLE, Int.reduceGE, Int.reduceNeg, Int.reduceAdd, AH.PD, heads, distN, AH.inN, posN, packM, packB, packTm, liveB, AV.inB, AV.insB, AV.ren, AV.rens, Blk.ren, Blk.inB, vstep, tput, vw, shift, newOnes, rowsM, blkIn, rwB, @flat_lts, AV.lt, AV.lts, Nat.sub_self, AH.rtO_eq, AH.rtO2_eq, AH.rtO2_none, AH.etO_eq, AH.etO2_eq, AH.etO2_none, AH.useO_some, AH.rtElse_eq, AH.elseO_some, AH.elseO_none, AH.etN_eq, Option.bind_some, Option.bind_none, AH.pairO_some, AH.pairO_none, AH.cC_dec, AH.cC_nil, AH.c0_dec, AH.c0_dec1, AH.aI_dec, AH.aS_dec, AH.aB_dec, AH.aNil_dec, AH.aNil_ptr, Option.map_none, effS, wrS, newS, backNo, AH.isIn, AH.posOf, AH.rwB, List.all_cons, List.all_nil, List.getElem?_cons_zero, List.getElem?_cons_succ, List.getElem?_nil, AH.appE_some, List.contains_cons, List.contains_nil, Nat.add_zero, hp, pu_in, pu_ren, puR_eq, puB_eq, Mp.eta, ne_eq, Nat.reduceEqDiff, Nat.zero_ne_one, not_false_eq_true, ofT_p, totT_p, nwT_eq, gvT_p, tkT_p, hoT_p, unT_p, pyT_p, owT_p, doT_p, errA_ren, puM, rowI, Pu.av, AH.eqAV_flat, eqPu, pk0, e1, errA_nil, e2, e3, wp, e4, e7, wq, beq_self_eq_true, Bool.and_self, e8, e5, kE13]
  · obtain ⟨T1, T2, T3, T4, k0, e1, e2, e3, e4, e5, e6, _⟩ := back (g := g) (h := h) (p := p) (o := 7) p1 (by omega) (by omega) g2 (.inl rfl)
    simp only [AH.SD, AH.wpOp, AOp.call?, AOp.next?, bstep, AOp.map, Opd.ev, tget, argTm, evs, AV.cells, St.eff, St.put, applyWr, mset, terase, pureE, unAV, intOp, binAV, fill, mget, AH.rowAt, AH.part, retQ, rvs, retV, AH.splice, AH.sliceElems, AH.bytesOf, AH.strOp, AH.bound, AH.addLog, AH.missQ, AH.minmaxAV, AH.wpOpD, AH.readOf, AH.effOf, AH.mapAt, AH.iterAt, Nat.reduceBEq, Nat.reduceAdd, Nat.reduceLT, ↓reduceIte, Nat.reduceEqDiff, Nat.reduceLeDiff, Nat.reduceSub, Nat.reduceMul, Int.reduceSub, Int.reduceToNat, Int.reduceBEq, Int.reduceBNe, Int.reduceLT, Int.reduceGT, Int.reduceLE, Int.reduceGE, Int.reduceNeg, Int.reduceAdd, AH.PD, heads, distN, AH.inN, posN, packM, packB, packTm, liveB, AV.inB, AV.insB, AV.ren, AV.rens, Blk.ren, Blk.inB, vstep, tput, vw, shift, newOnes, rowsM, blkIn, rwB, @flat_lts, AV.lt, AV.lts, Nat.sub_self, AH.rtO_eq, AH.rtO2_eq, AH.rtO2_none, AH.etO_eq, AH.etO2_eq, AH.etO2_none, AH.useO_some, AH.rtElse_eq, AH.elseO_some, AH.elseO_none, AH.etN_eq, Option.bind_some, Option.bind_none, AH.pairO_some, AH.pairO_none, AH.cC_dec, AH.cC_nil, AH.c0_dec, AH.c0_dec1, AH.aI_dec, AH.aS_dec, AH.aB_dec, AH.aNil_dec, AH.aNil_ptr, Option.map_none, effS, wrS, newS, backNo, AH.isIn, AH.posOf, AH.rwB, List.all_cons, List.all_nil, List.getElem?_cons_zero, List.getElem?_cons_succ, List.getElem?_nil, AH.appE_some, List.contains_cons, List.contains_nil, Nat.add_zero, hp, pu_in, pu_ren, puR_eq, puB_eq, Mp.eta, ne_eq, Nat.reduceEqDiff, Nat.zero_ne_one, not_false_eq_true, ofT_p, totT_p, nwT_eq, gvT_p, tkT_p, hoT_p, unT_p, pyT_p, owT_p, doT_p, errA_ren, puM, rowI, Pu.av, AH.eqAV_flat, eqPu, pk0, e1, errA_nil, e2, e3, wp, e4, e6 rfl, beq_self_eq_true, Bool.and_self]
end Go.Proofs.YtnlolefgifeohaaDoor.E10
