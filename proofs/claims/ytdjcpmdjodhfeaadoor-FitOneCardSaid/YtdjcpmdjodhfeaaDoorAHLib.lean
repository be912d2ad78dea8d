import Derived.Test.YtdjcpmdjodhfeaaDoorAHVals
/-
AH: functions of Go's library, once for all instances.
-/
set_option linter.unusedSimpArgs false
namespace AH
open Go
variable {S : Sys}

theorem mset_end : ∀ {m : Mem} {b : Option Blk}, mset m m.length b = m ++ [b]
  | [], _ => rfl
  | _ :: m, b => by simp only [List.length_cons, mset, List.cons_append, mset_end (m := m)]
theorem mget_end : ∀ {m : Mem} {b : Option Blk}, mget (m ++ [b]) m.length = b
  | [], _ => rfl
  | _ :: m, b => by simp only [List.length_cons, mget, List.cons_append, mget_end (m := m)]
theorem mget_old {m r : Mem} {i : Nat} (h : i < m.length) : mget (m ++ r) i = mget m i := by rw [mget_append, if_pos h]

/-- slices.Clone. -/
def cloneF (k bytes : Nat) (z : List AV) : AFun := ⟨8, 1, [.tmp 2],
  (.seq
   (.reg [
     ⟨(some 2), none, .mov (.c .nils)⟩])
   (.seq
    (.seq
     (.reg [
       ⟨(some 3), none, .mov (.t 0)⟩,
       ⟨(some 4), none, .eq false .slice true (.t 3) (.c .nils)⟩])
     (.cond (.t 4)
      (.seq
       (.reg [
         ⟨(some 2), none, .mov (.c .nils)⟩])
       .ret)
      .skip))
    (.seq
     (.reg [
       ⟨(some 5), none, .bslice k 0 z []⟩,
       ⟨(some 6), none, .mov (.t 0)⟩,
       ⟨(some 7), none, .append k bytes z (.t 5) (.t 6)⟩,
       ⟨(some 2), none, .mov (.t 7)⟩])
     .ret)))⟩

def cloneU (k : Nat) : UT := fun args m => match args with
  | [.nils] => some (.slc m.length 0 0 none, m ++ [some (.row true k [])])
  | [.slc id ix n _] => match rowE (mget m) id with
    | some (k', es) => bif k' == k && (decide (ix + n ≤ es.length) && (decide (n ≤ 1048576) && ((es.drop ix).take n).all (AV.lts 0))) then some (.slc m.length 0 n none, m ++ [some (.row (n == 0) k ((es.drop ix).take n))]) else none
    | none => none
  | _ => none

theorem all_rens {ρ : Nat → Nat} : ∀ {es : List (List AV)}, es.all (AV.lts 0) = true → es.map (AV.rens ρ) = es
  | [], _ => rfl
  | e :: r, h => by
    simp only [List.all_cons, Bool.and_eq_true] at h
    simp only [List.map_cons, flats_rens h.1, all_rens h.2]
theorem all_inB {p : Nat → Bool} : ∀ {es : List (List AV)}, es.all (AV.lts 0) = true → es.all (AV.insB p) = true
  | [], _ => rfl
  | e :: r, h => by
    simp only [List.all_cons, Bool.and_eq_true] at h
    simp only [List.all_cons, flats_inB h.1, all_inB h.2, Bool.and_self]

theorem clone_ok {g : FuncId} {fn : Func} {k bytes : Nat} {z : List AV} (he : S.errs ≠ []) (hm : S.P.follows .mixedOrders = true) (hf : S.P.funcs[g]? = some fn) (hF : cFun S.P S.errs fn = some (cloneF k bytes z)) (hz : z.length = k) (hk : 0 < k) (hb : 1048576 * bytes ≤ 140737488355328) :
    CallF S g (cloneU k) := by
  have okC : CtxOK S (ctxU S [] []) := ctxU_ok trivial trivial hm
  intro args m v m' e
  unfold cloneU at e
  split at e
  · simp only [Option.some.injEq, Prod.mk.injEq] at e
    obtain ⟨rfl, rfl⟩ := e
    refine CallA1.empty k he ?_
    refine fun_sound okC hf hF ?_
    unfold wpF cloneF
    simp only [wpA_skip, wpA_reg, wpA_draw, wpA_seq, wpA_cond, wpA_block, wpA_exit, wpA_ret, thenQ_normal, thenQ_exit, thenQ_ret, inBlk_normal, inBlk_exit, inBlk_ret, wpOps_nil, wpOps_plain, wpOps_guard, wpG_tt, wpG_ff, wpG_tf, wpG_ft, wpG_tu, wpC_true, wpC_false, wpOp_call, AH.wpOp, wpEff_some, AOp.call?, bstep, AOp.map, Opd.ev, tget, argTm, evs, AV.cells, St.eff, St.put, applyWr, mset, terase, wpCall_fn, kCall_eq, pureE, unAV, intOp, binAV, fill, List.map_nil, List.map_cons, cond_true, cond_false, Nat.reduceBEq, List.length_cons, List.length_nil, List.append_nil, List.nil_append, List.cons_append, mget, AH.rowAt, true_and, Nat.reduceAdd, AH.part, List.drop_zero, List.take_succ_cons, List.take_zero, Nat.zero_add, Nat.lt_add_one, Nat.le_refl, and_self, List.getD_cons_zero, List.drop, List.take, beq_self_eq_true, Nat.reduceLT, Nat.lt_irrefl, Nat.zero_lt_one, Option.map_some, ↓reduceIte, retQ, rvs, retV, Bool.not_true, Bool.not_false, eq_self, Nat.reduceEqDiff, if_true, AH.splice, AH.sliceElems, AH.bytesOf, List.replicate_succ, List.replicate_zero, List.flatten_cons, List.flatten_nil, List.range_succ, List.range_zero, Nat.zero_mul, Nat.mul_one, List.getD_cons_succ, Nat.reduceLeDiff, Nat.reduceSub, Nat.reduceMul, Int.toNat_natCast, AH.strOp, eqAV_bool, eqAV_flat, eqAV_p0, eqAV_p1, eqAV_p2, eqAV_p3, eqAV_s0, eqAV_s1, eqAV_s2, eqAV_s3, eqAV_s4, eqAV_m0, eqAV_m1, eqAV_m2, eqAV_f0, eqAV_f1, eqAV_f2, eqAV_i0, eqAV_i1, eqAV_i2, eqAV_i3, eqAV_i4, Option.map_none, Int.reduceSub, Int.reduceToNat, AH.bound, List.set_cons_zero, List.set_cons_succ, List.length_set, AH.addLog, ctxU_call, callR_read, callR_new, callR_none, lookT_cons, lookT_nil, appT_some, appT_none, lookU_cons, lookU_nil, appU_some, appU_none, wpEffX_false, AH.missQ, rowE_hit, rowE_next, wpEffX_true, nbz, Int.cast_ofNat_Int, Int.reduceBEq, Int.reduceBNe, Int.reduceLT, Int.reduceGT, Int.reduceLE, Int.reduceGE, Int.reduceNeg, decide_true, decide_false, beq_tt, beq_tf, beq_ft, beq_ff, bne_tt, bne_tf, bne_ft, bne_ff]
    exact .inl trivial
  · rename_i id ix n cap
    split at e
    · rename_i k' es hrow
      cases hc : (k' == k && (decide (ix + n ≤ es.length) && (decide (n ≤ 1048576) && ((es.drop ix).take n).all (AV.lts 0)))) with
      | false => rw [hc] at e; cases e
      | true =>
        rw [hc] at e
        simp only [cond_true, Option.some.injEq, Prod.mk.injEq] at e
        obtain ⟨rfl, rfl⟩ := e
        simp only [Bool.and_eq_true, beq_iff_eq, decide_eq_true_eq] at hc
        obtain ⟨rfl, hle, hn, hfl⟩ := hc
        obtain ⟨ro, hid⟩ := rowE_some hrow
        have hlt := (mget_some hid).1
        cases n with
        | zero =>
          refine CallA1.empty k' he ?_
          refine fun_sound okC hf hF ?_
          unfold wpF cloneF
          simp only [wpA_skip, wpA_reg, wpA_draw, wpA_seq, wpA_cond, wpA_block, wpA_exit, wpA_ret, thenQ_normal, thenQ_exit, thenQ_ret, inBlk_normal, inBlk_exit, inBlk_ret, wpOps_nil, wpOps_plain, wpOps_guard, wpG_tt, wpG_ff, wpG_tf, wpG_ft, wpG_tu, wpC_true, wpC_false, wpOp_call, AH.wpOp, wpEff_some, AOp.call?, bstep, AOp.map, Opd.ev, tget, argTm, evs, AV.cells, St.eff, St.put, applyWr, mset, terase, wpCall_fn, kCall_eq, pureE, unAV, intOp, binAV, fill, List.map_nil, List.map_cons, cond_true, cond_false, Nat.reduceBEq, List.length_cons, List.length_nil, List.append_nil, List.nil_append, List.cons_append, mget, AH.rowAt, true_and, Nat.reduceAdd, AH.part, List.drop_zero, List.take_succ_cons, List.take_zero, Nat.zero_add, Nat.lt_add_one, Nat.le_refl, and_self, List.getD_cons_zero, List.drop, List.take, beq_self_eq_true, Nat.reduceLT, Nat.lt_irrefl, Nat.zero_lt_one, Option.map_some, ↓reduceIte, retQ, rvs, retV, Bool.not_true, Bool.not_false, eq_self, Nat.reduceEqDiff, if_true, AH.splice, AH.sliceElems, AH.bytesOf, List.replicate_succ, List.replicate_zero, List.flatten_cons, List.flatten_nil, List.range_succ, List.range_zero, Nat.zero_mul, Nat.mul_one, List.getD_cons_succ, Nat.reduceLeDiff, Nat.reduceSub, Nat.reduceMul, Int.toNat_natCast, AH.strOp, eqAV_bool, eqAV_flat, eqAV_p0, eqAV_p1, eqAV_p2, eqAV_p3, eqAV_s0, eqAV_s1, eqAV_s2, eqAV_s3, eqAV_s4, eqAV_m0, eqAV_m1, eqAV_m2, eqAV_f0, eqAV_f1, eqAV_f2, eqAV_i0, eqAV_i1, eqAV_i2, eqAV_i3, eqAV_i4, Option.map_none, Int.reduceSub, Int.reduceToNat, AH.bound, List.set_cons_zero, List.set_cons_succ, List.length_set, AH.addLog, ctxU_call, callR_read, callR_new, callR_none, lookT_cons, lookT_nil, appT_some, appT_none, lookU_cons, lookU_nil, appU_some, appU_none, wpEffX_false, AH.missQ, rowE_hit, rowE_next, wpEffX_true, nbz, Int.cast_ofNat_Int, Int.reduceBEq, Int.reduceBNe, Int.reduceLT, Int.reduceGT, Int.reduceLE, Int.reduceGE, Int.reduceNeg, decide_true, decide_false, beq_tt, beq_tf, beq_ft, beq_ff, bne_tt, bne_tf, bne_ft, bne_ff]
          refine ⟨.inl trivial, hz, ?_⟩
          simp only [wpA_skip, wpA_reg, wpA_draw, wpA_seq, wpA_cond, wpA_block, wpA_exit, wpA_ret, thenQ_normal, thenQ_exit, thenQ_ret, inBlk_normal, inBlk_exit, inBlk_ret, wpOps_nil, wpOps_plain, wpOps_guard, wpG_tt, wpG_ff, wpG_tf, wpG_ft, wpG_tu, wpC_true, wpC_false, wpOp_call, AH.wpOp, wpEff_some, AOp.call?, bstep, AOp.map, Opd.ev, tget, argTm, evs, AV.cells, St.eff, St.put, applyWr, mset, terase, wpCall_fn, kCall_eq, pureE, unAV, intOp, binAV, fill, List.map_nil, List.map_cons, cond_true, cond_false, Nat.reduceBEq, List.length_cons, List.length_nil, List.append_nil, List.nil_append, List.cons_append, mget, AH.rowAt, true_and, Nat.reduceAdd, AH.part, List.drop_zero, List.take_succ_cons, List.take_zero, Nat.zero_add, Nat.lt_add_one, Nat.le_refl, and_self, List.getD_cons_zero, List.drop, List.take, beq_self_eq_true, Nat.reduceLT, Nat.lt_irrefl, Nat.zero_lt_one, Option.map_some, ↓reduceIte, retQ, rvs, retV, Bool.not_true, Bool.not_false, eq_self, Nat.reduceEqDiff, if_true, AH.splice, AH.sliceElems, AH.bytesOf, List.replicate_succ, List.replicate_zero, List.flatten_cons, List.flatten_nil, List.range_succ, List.range_zero, Nat.zero_mul, Nat.mul_one, List.getD_cons_succ, Nat.reduceLeDiff, Nat.reduceSub, Nat.reduceMul, Int.toNat_natCast, AH.strOp, eqAV_bool, eqAV_flat, eqAV_p0, eqAV_p1, eqAV_p2, eqAV_p3, eqAV_s0, eqAV_s1, eqAV_s2, eqAV_s3, eqAV_s4, eqAV_m0, eqAV_m1, eqAV_m2, eqAV_f0, eqAV_f1, eqAV_f2, eqAV_i0, eqAV_i1, eqAV_i2, eqAV_i3, eqAV_i4, Option.map_none, Int.reduceSub, Int.reduceToNat, AH.bound, List.set_cons_zero, List.set_cons_succ, List.length_set, AH.addLog, ctxU_call, callR_read, callR_new, callR_none, lookT_cons, lookT_nil, appT_some, appT_none, lookU_cons, lookU_nil, appU_some, appU_none, wpEffX_false, AH.missQ, rowE_hit, rowE_next, wpEffX_true, nbz, Int.cast_ofNat_Int, Int.reduceBEq, Int.reduceBNe, Int.reduceLT, Int.reduceGT, Int.reduceLE, Int.reduceGE, Int.reduceNeg, decide_true, decide_false, beq_tt, beq_tf, beq_ft, beq_ff, bne_tt, bne_tf, bne_ft, bne_ff, mset_end, mget_end, mget_old hlt, hid]
          refine ⟨⟨by simpa using hle, hz, hk, trivial⟩, ?_⟩
          right; exact ⟨_, _, _, rfl, rfl⟩
        | succ n =>
          have key : CallF S g (utN [k'] fun args rows => match args, rows with
            | [.slc i j nn cp], [(k2, es')] => bif i == 0 && (j == 0 && (cp.isNone && (k2 == k' && (nn == es'.length && (decide (0 < nn) && (decide (nn ≤ 1048576) && es'.all (AV.lts 0))))))) then some (.slc 1 0 nn none, [some (.row false k' es')]) else none
            | _, _ => none) := by
            refine utN_ok he fun args rows v news e => ?_
            split at e
            · rename_i i j nn cp k2 es'
              cases hc : (i == 0 && (j == 0 && (cp.isNone && (k2 == k' && (nn == es'.length && (decide (0 < nn) && (decide (nn ≤ 1048576) && es'.all (AV.lts 0)))))))) with
              | false => rw [hc] at e; cases e
              | true =>
                rw [hc] at e
                simp only [cond_true, Option.some.injEq, Prod.mk.injEq] at e
                obtain ⟨rfl, rfl⟩ := e
                simp only [Bool.and_eq_true, beq_iff_eq, decide_eq_true_eq] at hc
                obtain ⟨rfl, rfl, hcp, rfl, rfl, h0, h1, h2⟩ := hc
                have : cp = none := by simpa using hcp
                subst this
                refine ⟨rfl, ?_, rfl, ?_⟩
                · simp only [List.all_cons, List.all_nil, blkIn, Blk.inB, all_inB h2, Bool.and_self]
                · refine CallA1.pack ?_
                  refine fun_sound okC hf hF ?_
                  unfold wpF cloneF
                  cases es' with
                  | nil => simp at h0
                  | cons a r =>
                    have hlen : ((a :: r).take (r.length + 1)).length = r.length + 1 := by simp
                    have e1 : (a :: r).take (r.length + 1) = a :: r := List.take_of_length_le (by simp)
                    simp only [wpA_skip, wpA_reg, wpA_draw, wpA_seq, wpA_cond, wpA_block, wpA_exit, wpA_ret, thenQ_normal, thenQ_exit, thenQ_ret, inBlk_normal, inBlk_exit, inBlk_ret, wpOps_nil, wpOps_plain, wpOps_guard, wpG_tt, wpG_ff, wpG_tf, wpG_ft, wpG_tu, wpC_true, wpC_false, wpOp_call, AH.wpOp, wpEff_some, AOp.call?, bstep, AOp.map, Opd.ev, tget, argTm, evs, AV.cells, St.eff, St.put, applyWr, mset, terase, wpCall_fn, kCall_eq, pureE, unAV, intOp, binAV, fill, List.map_nil, List.map_cons, cond_true, cond_false, Nat.reduceBEq, List.length_cons, List.length_nil, List.append_nil, List.nil_append, List.cons_append, mget, AH.rowAt, true_and, Nat.reduceAdd, AH.part, List.drop_zero, List.take_succ_cons, List.take_zero, Nat.zero_add, Nat.lt_add_one, Nat.le_refl, and_self, List.getD_cons_zero, List.drop, List.take, beq_self_eq_true, Nat.reduceLT, Nat.lt_irrefl, Nat.zero_lt_one, Option.map_some, ↓reduceIte, retQ, rvs, retV, Bool.not_true, Bool.not_false, eq_self, Nat.reduceEqDiff, if_true, AH.splice, AH.sliceElems, AH.bytesOf, List.replicate_succ, List.replicate_zero, List.flatten_cons, List.flatten_nil, List.range_succ, List.range_zero, Nat.zero_mul, Nat.mul_one, List.getD_cons_succ, Nat.reduceLeDiff, Nat.reduceSub, Nat.reduceMul, Int.toNat_natCast, AH.strOp, eqAV_bool, eqAV_flat, eqAV_p0, eqAV_p1, eqAV_p2, eqAV_p3, eqAV_s0, eqAV_s1, eqAV_s2, eqAV_s3, eqAV_s4, eqAV_m0, eqAV_m1, eqAV_m2, eqAV_f0, eqAV_f1, eqAV_f2, eqAV_i0, eqAV_i1, eqAV_i2, eqAV_i3, eqAV_i4, Option.map_none, Int.reduceSub, Int.reduceToNat, AH.bound, List.set_cons_zero, List.set_cons_succ, List.length_set, AH.addLog, ctxU_call, callR_read, callR_new, callR_none, lookT_cons, lookT_nil, appT_some, appT_none, lookU_cons, lookU_nil, appU_some, appU_none, wpEffX_false, AH.missQ, rowE_hit, rowE_next, wpEffX_true, nbz, Int.cast_ofNat_Int, Int.reduceBEq, Int.reduceBNe, Int.reduceLT, Int.reduceGT, Int.reduceLE, Int.reduceGE, Int.reduceNeg, decide_true, decide_false, beq_tt, beq_tf, beq_ft, beq_ff, bne_tt, bne_tf, bne_ft, bne_ff, rowsM]
                    simp only [List.length_cons] at h1
                    have hb2 := Nat.mul_le_mul_right bytes h1
                    have e2 : r.take r.length = r := List.take_of_length_le (by simp)
                    simp only [e2]
                    refine ⟨by omega, hz, ?_⟩
                    refine ⟨⟨hz, hk, by omega, by omega⟩, ?_⟩
                    refine ⟨[0, 2], rfl, rfl, ?_, rfl, ?_, ?_⟩
                    · have hfr : ((a :: r).all (AV.insB (inN [0, 2]))) = true := all_inB h2
                      simp only [packB, mget, Blk.inB, hfr, Bool.and_self]
                    · rfl
                    · have hfm : ∀ ρ, (a :: r).map (AV.rens ρ) = a :: r := fun ρ => all_rens h2
                      simp only [packM, mget, Option.map_some, Blk.ren, hfm]
            · cases e
          refine key _ _ _ _ ?_
          have hv : vw (mget m) [k'] [.slc id ix (n + 1) cap] 0 = some ([.slc 0 0 (n + 1) none], [(k', (es.drop ix).take (n + 1))], [id]) := by
            simp only [vw, hid, beq_self_eq_true, hle, decide_true, hfl, Bool.and_self, cond_true, Option.map_some]
          have hlen : ((es.drop ix).take (n + 1)).length = n + 1 := by rw [List.length_take, List.length_drop]; omega
          have hsn : shift m.length 1 1 = m.length := by simp [shift]
          have hb0 : decide (0 < n + 1) = true := by simp
          have hb1 : decide (n + 1 ≤ 1048576) = true := by simpa using hn
          simp only [utN, hv, useN, hlen, hfl, hb0, hb1, beq_self_eq_true, Option.isNone_none, Bool.and_self, cond_true, Option.map_some, List.length_cons, List.length_nil, Nat.zero_add, AV.ren, hsn, newOnes, Blk.ren, all_rens hfl, nbz]
    · cases e
  · cases e

end AH
