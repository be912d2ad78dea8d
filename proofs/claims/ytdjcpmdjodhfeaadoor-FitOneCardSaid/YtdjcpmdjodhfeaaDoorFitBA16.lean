import Derived.Test.YtdjcpmdjodhfeaaDoorFitA16
open Go AH
set_option linter.unusedSimpArgs false
namespace Go.Proofs.YtdjcpmdjodhfeaaDoor.A16

theorem cloneSp_ok : CallF S0 33 (cloneU 5) := clone_ok (bytes := 40) (z := [.int .i64 0, .int .i64 0, .int .i64 0, .int .i64 0, .int .i64 0]) errs0 mixed Tryd.func33 c33 rfl (by decide) (by decide)

theorem cloneSp_eq {l : List Sp} {m : Mem} {id : Nat} {cap : Option Nat} (hM : rowE (mget m) id = some (5, l.map Sp.cells)) (hl : l.length ≤ 1048576) :
    cloneU 5 [.slc id 0 l.length cap] m = some (.slc m.length 0 l.length none, m ++ [some (.row (l.length == 0) 5 (l.map Sp.cells))]) := by
  have h1 : (l.map Sp.cells).take l.length = l.map Sp.cells := take_map_len _ _
  have h2 : (l.map Sp.cells).all (AV.lts 0) = true := cSp.all_flat l
  simp only [cloneU, hM, List.drop_zero, h1, h2, hl, beq_self_eq_true, List.length_map, Nat.zero_add, Nat.le_refl, decide_true, Bool.and_self, cond_true]

/-- One more thing where it fits best. -/
def putB (l : List Sp) (need : V4) : List Sp := l.set (bestI l need).toNat ⟨(l.getD (bestI l need).toNat ⟨0, .zero⟩).id, subR (l.getD (bestI l need).toNat ⟨0, .zero⟩).v need⟩
def idB (l : List Sp) (need : V4) : Int := (l.getD (bestI l need).toNat ⟨0, .zero⟩).id

/-- So many behind one another. -/
def allS (l : List Sp) (ns : List V4) : Nat → Option (List Sp × List Int)
  | 0 => some (l, [])
  | i + 1 => match allS l ns i, ns[i]? with
    | some (l', out), some n => bif bestI l' n == -1 then none else some (putB l' n, out ++ [idB l' n])
    | x, _ => x

theorem bestI_range (l : List Sp) (need : V4) : bestI l need = -1 ∨ ∃ k : Nat, bestI l need = k ∧ k < l.length := by
  rcases bestF_range l need l.length with h | ⟨h0, h1⟩
  · exact .inl h
  · obtain ⟨k, hk⟩ := Int.eq_ofNat_of_zero_le h0
    exact .inr ⟨k, hk, by omega⟩

theorem putB_len (l : List Sp) (need : V4) : (putB l need).length = l.length := by simp [putB]

theorem allS_len {l : List Sp} {ns : List V4} : ∀ {i : Nat} {x : List Sp × List Int}, i ≤ ns.length → allS l ns i = some x → x.1.length = l.length ∧ x.2.length = i
  | 0, x, _, h => by simp only [allS, Option.some.injEq] at h; subst h; exact ⟨rfl, rfl⟩
  | i + 1, x, hi, h => by
    rw [allS, List.getElem?_eq_getElem (show i < ns.length by omega)] at h
    cases hq : allS l ns i with
    | none => rw [hq] at h; cases h
    | some y =>
      obtain ⟨l', out⟩ := y
      rw [hq] at h
      simp only at h
      have ih := allS_len (by omega) hq
      cases hb : bestI l' ns[i] == -1 with
      | true => rw [hb] at h; cases h
      | false =>
        rw [hb] at h
        simp only [cond_false, Option.some.injEq] at h
        subst h
        exact ⟨by simp [putB_len, ih.1], by simp [ih.2]⟩

def intC (n : Int) : List AV := [.int .i64 n]
def decIC : List AV → Option Int
  | [.int .i64 n] => some n
  | _ => none
theorem decIC_ok (l : List AV) (n : Int) (h : decIC l = some n) : l = intC n := by
  unfold decIC at h
  split at h
  · simp only [Option.some.injEq] at h; subst h; rfl
  · cases h
def cInt : Cod Int := ⟨intC, decIC, decIC_ok, fun _ => rfl, fun _ => rfl⟩
/-- A slice of numbers that was made by appending. -/
def outV (b : Nat) (out : List Int) : AV := match out with
  | [] => .nils
  | _ :: _ => .slc b 0 out.length none
def outM (out : List Int) : Mem := match out with
  | [] => []
  | _ :: _ => [some (.row false 1 (out.map intC))]

/-- How many go, at most the first that fits nowhere. -/
def failAt (l : List Sp) (ns : List V4) : Nat → Nat
  | 0 => 0
  | i + 1 => match allS l ns i with
    | some _ => i
    | none => failAt l ns i

theorem failAt_of {l : List Sp} {ns : List V4} : ∀ {n i : Nat}, i < n → (allS l ns i).isSome = true → allS l ns (i + 1) = none → failAt l ns n = i
  | n + 1, i, hi, h1, h2 => by
    have down : ∀ j, allS l ns (i + 1 + j) = none := fun j => by
      induction j with
      | zero => exact h2
      | succ j ih => rw [← Nat.add_assoc, allS, ih]
    unfold failAt
    by_cases hn : n = i
    · subst hn
      cases hq : allS l ns n with
      | none => rw [hq] at h1; cases h1
      | some x => rfl
    · have : allS l ns n = none := by
        have := down (n - (i + 1))
        rwa [show i + 1 + (n - (i + 1)) = n by omega] at this
      rw [this]
      exact failAt_of (by omega) h1 h2

/-- What 'All' comes to. -/
def allA (l : List Sp) (ns : List V4) (b : Nat) : AV := match allS l ns ns.length with
  | some (_, out) => .tup [outV b out, .int .i64 (-1)]
  | none => .tup [.nils, .int .i64 (failAt l ns ns.length)]
def allM (l : List Sp) (ns : List V4) : Mem := match allS l ns ns.length with
  | some (_, out) => outM out
  | none => []

abbrev tAll : List (FuncId × RT) := [(34, restT), (32, bestT)]
abbrev uAll : List (FuncId × UT) := [(33, cloneU 5)]
theorem okAll : CtxOK S0 (ctxU S0 tAll uAll) := ctxU_ok ⟨restT_ok, bestT_ok, trivial⟩ ⟨cloneSp_ok, trivial⟩ mixed

def allSt (l : List Sp) (ns : List V4) (x : Nat × List Sp × List Int) : St := ⟨[(14, .int .i64 x.1), (13, .int .i64 ns.length), (12, .slc 1 0 ns.length none), (6, outV 3 x.2.2), (0, .slc 2 0 l.length none)],
  [some (.row true 5 (l.map Sp.cells)), some (.row true 4 (ns.map V4.cells)), some (.row (l.length == 0) 5 (x.2.1.map Sp.cells))] ++ outM x.2.2⟩

set_option maxRecDepth 100000 in
theorem all_ok (l : List Sp) (ns : List V4) (hl : l.length ≤ 1048576) (hn : ns.length ≤ 1048576) : CallA1 S0 11 [.slc 0 0 l.length none, .slc 1 0 ns.length none] [some (.row true 5 (l.map Sp.cells)), some (.row true 4 (ns.map V4.cells))]
    fun r m => r = allA l ns 2 ∧ m = [some (.row true 5 (l.map Sp.cells)), some (.row true 4 (ns.map V4.cells))] ++ allM l ns := by
  refine CallA1.pack ?_
  refine fun_sound okAll Tryd.func11 c11 ?_
  unfold wpF F11
  simp only [wpA_skip, wpA_reg, wpA_draw, wpA_seq, wpA_cond, wpA_block, wpA_exit, wpA_ret, thenQ_normal, thenQ_exit, thenQ_ret, inBlk_normal, inBlk_exit, inBlk_ret, wpOps_nil, wpOps_plain, wpOps_guard, wpG_tt, wpG_ff, wpG_tf, wpG_ft, wpG_tu, wpC_true, wpC_false, wpOp_call, AH.wpOp, wpEff_some, AOp.call?, bstep, AOp.map, Opd.ev, tget, argTm, evs, AV.cells, St.eff, St.put, applyWr, mset, terase, wpCall_fn, kCall_eq, pureE, unAV, intOp, binAV, fill, List.map_nil, List.map_cons, cond_true, cond_false, Nat.reduceBEq, List.length_cons, List.length_nil, List.append_nil, List.nil_append, List.cons_append, mget, AH.rowAt, true_and, Nat.reduceAdd, AH.part, List.drop_zero, List.take_succ_cons, List.take_zero, Nat.zero_add, Nat.lt_add_one, Nat.le_refl, and_self, List.getD_cons_zero, List.drop, List.take, beq_self_eq_true, Nat.reduceLT, Nat.lt_irrefl, Nat.zero_lt_one, Option.map_some, ↓reduceIte, retQ, rvs, retV, Bool.not_true, Bool.not_false, eq_self, Nat.reduceEqDiff, if_true, AH.splice, AH.sliceElems, AH.bytesOf, List.replicate_succ, List.replicate_zero, List.flatten_cons, List.flatten_nil, List.range_succ, List.range_zero, Nat.zero_mul, Nat.mul_one, List.getD_cons_succ, Nat.reduceLeDiff, Nat.reduceSub, Nat.reduceMul, Int.toNat_natCast, AH.strOp, eqAV_bool, eqAV_flat, eqAV_p0, eqAV_p1, eqAV_p2, eqAV_p3, eqAV_s0, eqAV_s1, eqAV_s2, eqAV_s3, eqAV_s4, eqAV_m0, eqAV_m1, eqAV_m2, eqAV_f0, eqAV_f1, eqAV_f2, eqAV_i0, eqAV_i1, eqAV_i2, eqAV_i3, eqAV_i4, Option.map_none, Int.reduceSub, Int.reduceToNat, AH.bound, List.set_cons_zero, List.set_cons_succ, List.length_set, AH.addLog, ctxU_call, callR_read, callR_new, callR_none, lookT_cons, lookT_nil, appT_some, appT_none, lookU_cons, lookU_nil, appU_some, appU_none, wpEffX_false, AH.missQ, rowE_hit, rowE_next, wpEffX_true, nbz, Int.cast_ofNat_Int, Int.reduceBEq, Int.reduceBNe, Int.reduceLT, Int.reduceGT, Int.reduceLE, Int.reduceGE, Int.reduceNeg, decide_true, decide_false, beq_tt, beq_tf, beq_ft, beq_ff, bne_tt, bne_tf, bne_ft, bne_ff, wpDs_nil, wpDs_plain, wpDs_guard, wpGD_tt, wpGD_ff, wpGD_tf, wpGD_ft, wpGD_tu, wpEffD_some, wpRead_some, AH.wpOpD, AH.readOf, ctxU_read, List.map, wpEffD_quiet, okLog_quiet, cloneSp_eq, hl]
  refine loop_rule (α := Nat × List Sp × List Int) (fun x => ns.length - x.1) (allSt l ns) (fun x => x.1 ≤ ns.length ∧ allS l ns x.1 = some x.2) (0, l, []) ⟨Nat.zero_le _, rfl⟩ (gc_keepE (l := (allSt l ns (0, l, [])).tm) (m := (allSt l ns (0, l, [])).mem) rfl rfl ⟨rfl, rfl, rfl, rfl, rfl, trivial⟩) ?_
  rintro X ⟨i, l', out⟩ ⟨hi, hx⟩ ih
  obtain ⟨hl', hout⟩ := allS_len hi hx
  simp only at hi hl' hout
  simp only [wpA_skip, wpA_reg, wpA_draw, wpA_seq, wpA_cond, wpA_block, wpA_exit, wpA_ret, thenQ_normal, thenQ_exit, thenQ_ret, inBlk_normal, inBlk_exit, inBlk_ret, wpOps_nil, wpOps_plain, wpOps_guard, wpG_tt, wpG_ff, wpG_tf, wpG_ft, wpG_tu, wpC_true, wpC_false, wpOp_call, AH.wpOp, wpEff_some, AOp.call?, bstep, AOp.map, Opd.ev, tget, argTm, evs, AV.cells, St.eff, St.put, applyWr, mset, terase, wpCall_fn, kCall_eq, pureE, unAV, intOp, binAV, fill, List.map_nil, List.map_cons, cond_true, cond_false, Nat.reduceBEq, List.length_cons, List.length_nil, List.append_nil, List.nil_append, List.cons_append, mget, AH.rowAt, true_and, Nat.reduceAdd, AH.part, List.drop_zero, List.take_succ_cons, List.take_zero, Nat.zero_add, Nat.lt_add_one, Nat.le_refl, and_self, List.getD_cons_zero, List.drop, List.take, beq_self_eq_true, Nat.reduceLT, Nat.lt_irrefl, Nat.zero_lt_one, Option.map_some, ↓reduceIte, retQ, rvs, retV, Bool.not_true, Bool.not_false, eq_self, Nat.reduceEqDiff, if_true, AH.splice, AH.sliceElems, AH.bytesOf, List.replicate_succ, List.replicate_zero, List.flatten_cons, List.flatten_nil, List.range_succ, List.range_zero, Nat.zero_mul, Nat.mul_one, List.getD_cons_succ, Nat.reduceLeDiff, Nat.reduceSub, Nat.reduceMul, Int.toNat_natCast, AH.strOp, eqAV_bool, eqAV_flat, eqAV_p0, eqAV_p1, eqAV_p2, eqAV_p3, eqAV_s0, eqAV_s1, eqAV_s2, eqAV_s3, eqAV_s4, eqAV_m0, eqAV_m1, eqAV_m2, eqAV_f0, eqAV_f1, eqAV_f2, eqAV_i0, eqAV_i1, eqAV_i2, eqAV_i3, eqAV_i4, Option.map_none, Int.reduceSub, Int.reduceToNat, AH.bound, List.set_cons_zero, List.set_cons_succ, List.length_set, AH.addLog, ctxU_call, callR_read, callR_new, callR_none, lookT_cons, lookT_nil, appT_some, appT_none, lookU_cons, lookU_nil, appU_some, appU_none, wpEffX_false, AH.missQ, rowE_hit, rowE_next, wpEffX_true, nbz, Int.cast_ofNat_Int, Int.reduceBEq, Int.reduceBNe, Int.reduceLT, Int.reduceGT, Int.reduceLE, Int.reduceGE, Int.reduceNeg, decide_true, decide_false, beq_tt, beq_tf, beq_ft, beq_ff, bne_tt, bne_tf, bne_ft, bne_ff, wpDs_nil, wpDs_plain, wpDs_guard, wpGD_tt, wpGD_ff, wpGD_tf, wpGD_ft, wpGD_tu, wpEffD_some, wpRead_some, AH.wpOpD, AH.readOf, ctxU_read, List.map, wpEffD_quiet, okLog_quiet, allSt]
  refine ⟨fun hlt => ?_, fun hlt => ?_⟩
  · simp only [decide_eq_true_eq] at hlt
    have hil : i < ns.length := by omega
    have hg : (ns.map V4.cells).getD i [] = ns[i].cells := getD_map_lt _ _ _ _ hil
    have hc : ns[i].cells = [.int .i64 ns[i].a, .int .i64 ns[i].b, .int .i64 ns[i].c, .int .i64 ns[i].d] := rfl
    have hw : IntKind.i64.wrap ((i : Int) + 1) = ((i + 1 : Nat) : Int) := by rw [IntKind.wrap_i64]; omega
    have hs1 : allS l ns (i + 1) = bif bestI l' ns[i] == -1 then none else some (putB l' ns[i], out ++ [idB l' ns[i]]) := by
      rw [allS, hx, List.getElem?_eq_getElem hil]
    have none_end : ∀ {k : Nat}, bestI l' ns[i] = -1 → allS l ns ns.length = none ∧ failAt l ns ns.length = i := fun {k} hb => by
      have h2 : allS l ns (i + 1) = none := by rw [hs1, hb]; rfl
      have down : ∀ j, allS l ns (i + 1 + j) = none := fun j => by
        induction j with
        | zero => exact h2
        | succ j ih => rw [← Nat.add_assoc, allS, ih]
      refine ⟨?_, failAt_of hil (by rw [hx]; rfl) h2⟩
      have := down (ns.length - (i + 1))
      rwa [show i + 1 + (ns.length - (i + 1)) = ns.length by omega] at this
    have f1 : ∀ p, (l.map Sp.cells).all (AV.insB p) = true := fun p => cSp.all_in p l
    have f2 : ∀ p, (ns.map V4.cells).all (AV.insB p) = true := fun p => cV.all_in p ns
    have f3 : ∀ (p : Nat → Bool) (l : List Sp), (l.map Sp.cells).all (AV.insB p) = true := fun p l => cSp.all_in p l
    have m3 : ∀ ρ (l : List Sp), (l.map Sp.cells).map (AV.rens ρ) = l.map Sp.cells := fun ρ l => cSp.map_rens ρ l
    have f4 : ∀ (p : Nat → Bool) (l : List Int), (l.map intC).all (AV.insB p) = true := fun p l => cInt.all_in p l
    have m4 : ∀ ρ (l : List Int), (l.map intC).map (AV.rens ρ) = l.map intC := fun ρ l => cInt.map_rens ρ l
    have m1 : ∀ ρ, (l.map Sp.cells).map (AV.rens ρ) = l.map Sp.cells := fun ρ => cSp.map_rens ρ l
    have m2 : ∀ ρ, (ns.map V4.cells).map (AV.rens ρ) = ns.map V4.cells := fun ρ => cV.map_rens ρ ns
    have hll : l'.length ≤ 1048576 := by omega
    rcases out with _ | ⟨o0, or⟩
    all_goals
      simp only [wpA_skip, wpA_reg, wpA_draw, wpA_seq, wpA_cond, wpA_block, wpA_exit, wpA_ret, thenQ_normal, thenQ_exit, thenQ_ret, inBlk_normal, inBlk_exit, inBlk_ret, wpOps_nil, wpOps_plain, wpOps_guard, wpG_tt, wpG_ff, wpG_tf, wpG_ft, wpG_tu, wpC_true, wpC_false, wpOp_call, AH.wpOp, wpEff_some, AOp.call?, bstep, AOp.map, Opd.ev, tget, argTm, evs, AV.cells, St.eff, St.put, applyWr, mset, terase, wpCall_fn, kCall_eq, pureE, unAV, intOp, binAV, fill, List.map_nil, List.map_cons, cond_true, cond_false, Nat.reduceBEq, List.length_cons, List.length_nil, List.append_nil, List.nil_append, List.cons_append, mget, AH.rowAt, true_and, Nat.reduceAdd, AH.part, List.drop_zero, List.take_succ_cons, List.take_zero, Nat.zero_add, Nat.lt_add_one, Nat.le_refl, and_self, List.getD_cons_zero, List.drop, List.take, beq_self_eq_true, Nat.reduceLT, Nat.lt_irrefl, Nat.zero_lt_one, Option.map_some, ↓reduceIte, retQ, rvs, retV, Bool.not_true, Bool.not_false, eq_self, Nat.reduceEqDiff, if_true, AH.splice, AH.sliceElems, AH.bytesOf, List.replicate_succ, List.replicate_zero, List.flatten_cons, List.flatten_nil, List.range_succ, List.range_zero, Nat.zero_mul, Nat.mul_one, List.getD_cons_succ, Nat.reduceLeDiff, Nat.reduceSub, Nat.reduceMul, Int.toNat_natCast, AH.strOp, eqAV_bool, eqAV_flat, eqAV_p0, eqAV_p1, eqAV_p2, eqAV_p3, eqAV_s0, eqAV_s1, eqAV_s2, eqAV_s3, eqAV_s4, eqAV_m0, eqAV_m1, eqAV_m2, eqAV_f0, eqAV_f1, eqAV_f2, eqAV_i0, eqAV_i1, eqAV_i2, eqAV_i3, eqAV_i4, Option.map_none, Int.reduceSub, Int.reduceToNat, AH.bound, List.set_cons_zero, List.set_cons_succ, List.length_set, AH.addLog, ctxU_call, callR_read, callR_new, callR_none, lookT_cons, lookT_nil, appT_some, appT_none, lookU_cons, lookU_nil, appU_some, appU_none, wpEffX_false, AH.missQ, rowE_hit, rowE_next, wpEffX_true, nbz, Int.cast_ofNat_Int, Int.reduceBEq, Int.reduceBNe, Int.reduceLT, Int.reduceGT, Int.reduceLE, Int.reduceGE, Int.reduceNeg, decide_true, decide_false, beq_tt, beq_tf, beq_ft, beq_ff, bne_tt, bne_tf, bne_ft, bne_ff, wpDs_nil, wpDs_plain, wpDs_guard, wpGD_tt, wpGD_ff, wpGD_tf, wpGD_ft, wpGD_tu, wpEffD_some, wpRead_some, AH.wpOpD, AH.readOf, ctxU_read, List.map, wpEffD_quiet, okLog_quiet, hg, hc, outV, outM]
      refine ⟨⟨by omega, by omega⟩, ⟨by rw [List.length_map]; exact hil, trivial⟩, ?_⟩
      rw [← hl']
      simp only [wpA_skip, wpA_reg, wpA_draw, wpA_seq, wpA_cond, wpA_block, wpA_exit, wpA_ret, thenQ_normal, thenQ_exit, thenQ_ret, inBlk_normal, inBlk_exit, inBlk_ret, wpOps_nil, wpOps_plain, wpOps_guard, wpG_tt, wpG_ff, wpG_tf, wpG_ft, wpG_tu, wpC_true, wpC_false, wpOp_call, AH.wpOp, wpEff_some, AOp.call?, bstep, AOp.map, Opd.ev, tget, argTm, evs, AV.cells, St.eff, St.put, applyWr, mset, terase, wpCall_fn, kCall_eq, pureE, unAV, intOp, binAV, fill, List.map_nil, List.map_cons, cond_true, cond_false, Nat.reduceBEq, List.length_cons, List.length_nil, List.append_nil, List.nil_append, List.cons_append, mget, AH.rowAt, true_and, Nat.reduceAdd, AH.part, List.drop_zero, List.take_succ_cons, List.take_zero, Nat.zero_add, Nat.lt_add_one, Nat.le_refl, and_self, List.getD_cons_zero, List.drop, List.take, beq_self_eq_true, Nat.reduceLT, Nat.lt_irrefl, Nat.zero_lt_one, Option.map_some, ↓reduceIte, retQ, rvs, retV, Bool.not_true, Bool.not_false, eq_self, Nat.reduceEqDiff, if_true, AH.splice, AH.sliceElems, AH.bytesOf, List.replicate_succ, List.replicate_zero, List.flatten_cons, List.flatten_nil, List.range_succ, List.range_zero, Nat.zero_mul, Nat.mul_one, List.getD_cons_succ, Nat.reduceLeDiff, Nat.reduceSub, Nat.reduceMul, Int.toNat_natCast, AH.strOp, eqAV_bool, eqAV_flat, eqAV_p0, eqAV_p1, eqAV_p2, eqAV_p3, eqAV_s0, eqAV_s1, eqAV_s2, eqAV_s3, eqAV_s4, eqAV_m0, eqAV_m1, eqAV_m2, eqAV_f0, eqAV_f1, eqAV_f2, eqAV_i0, eqAV_i1, eqAV_i2, eqAV_i3, eqAV_i4, Option.map_none, Int.reduceSub, Int.reduceToNat, AH.bound, List.set_cons_zero, List.set_cons_succ, List.length_set, AH.addLog, ctxU_call, callR_read, callR_new, callR_none, lookT_cons, lookT_nil, appT_some, appT_none, lookU_cons, lookU_nil, appU_some, appU_none, wpEffX_false, AH.missQ, rowE_hit, rowE_next, wpEffX_true, nbz, Int.cast_ofNat_Int, Int.reduceBEq, Int.reduceBNe, Int.reduceLT, Int.reduceGT, Int.reduceLE, Int.reduceGE, Int.reduceNeg, decide_true, decide_false, beq_tt, beq_tf, beq_ft, beq_ff, bne_tt, bne_tf, bne_ft, bne_ff, wpDs_nil, wpDs_plain, wpDs_guard, wpGD_tt, wpGD_ff, wpGD_tf, wpGD_ft, wpGD_tu, wpEffD_some, wpRead_some, AH.wpOpD, AH.readOf, ctxU_read, List.map, wpEffD_quiet, okLog_quiet, bestT_eq, hll, V4.eta]
    all_goals rcases bestI_range l' ns[i] with hb | ⟨k, hb, hk⟩
    · simp only [wpA_skip, wpA_reg, wpA_draw, wpA_seq, wpA_cond, wpA_block, wpA_exit, wpA_ret, thenQ_normal, thenQ_exit, thenQ_ret, inBlk_normal, inBlk_exit, inBlk_ret, wpOps_nil, wpOps_plain, wpOps_guard, wpG_tt, wpG_ff, wpG_tf, wpG_ft, wpG_tu, wpC_true, wpC_false, wpOp_call, AH.wpOp, wpEff_some, AOp.call?, bstep, AOp.map, Opd.ev, tget, argTm, evs, AV.cells, St.eff, St.put, applyWr, mset, terase, wpCall_fn, kCall_eq, pureE, unAV, intOp, binAV, fill, List.map_nil, List.map_cons, cond_true, cond_false, Nat.reduceBEq, List.length_cons, List.length_nil, List.append_nil, List.nil_append, List.cons_append, mget, AH.rowAt, true_and, Nat.reduceAdd, AH.part, List.drop_zero, List.take_succ_cons, List.take_zero, Nat.zero_add, Nat.lt_add_one, Nat.le_refl, and_self, List.getD_cons_zero, List.drop, List.take, beq_self_eq_true, Nat.reduceLT, Nat.lt_irrefl, Nat.zero_lt_one, Option.map_some, ↓reduceIte, retQ, rvs, retV, Bool.not_true, Bool.not_false, eq_self, Nat.reduceEqDiff, if_true, AH.splice, AH.sliceElems, AH.bytesOf, List.replicate_succ, List.replicate_zero, List.flatten_cons, List.flatten_nil, List.range_succ, List.range_zero, Nat.zero_mul, Nat.mul_one, List.getD_cons_succ, Nat.reduceLeDiff, Nat.reduceSub, Nat.reduceMul, Int.toNat_natCast, AH.strOp, eqAV_bool, eqAV_flat, eqAV_p0, eqAV_p1, eqAV_p2, eqAV_p3, eqAV_s0, eqAV_s1, eqAV_s2, eqAV_s3, eqAV_s4, eqAV_m0, eqAV_m1, eqAV_m2, eqAV_f0, eqAV_f1, eqAV_f2, eqAV_i0, eqAV_i1, eqAV_i2, eqAV_i3, eqAV_i4, Option.map_none, Int.reduceSub, Int.reduceToNat, AH.bound, List.set_cons_zero, List.set_cons_succ, List.length_set, AH.addLog, ctxU_call, callR_read, callR_new, callR_none, lookT_cons, lookT_nil, appT_some, appT_none, lookU_cons, lookU_nil, appU_some, appU_none, wpEffX_false, AH.missQ, rowE_hit, rowE_next, wpEffX_true, nbz, Int.cast_ofNat_Int, Int.reduceBEq, Int.reduceBNe, Int.reduceLT, Int.reduceGT, Int.reduceLE, Int.reduceGE, Int.reduceNeg, decide_true, decide_false, beq_tt, beq_tf, beq_ft, beq_ff, bne_tt, bne_tf, bne_ft, bne_ff, wpDs_nil, wpDs_plain, wpDs_guard, wpGD_tt, wpGD_ff, wpGD_tf, wpGD_ft, wpGD_tu, wpEffD_some, wpRead_some, AH.wpOpD, AH.readOf, ctxU_read, List.map, wpEffD_quiet, okLog_quiet, hb]
      refine ⟨[0, 1], rfl, rfl, ?_, rfl, ?_, ?_⟩
      · simp only [packB, mget, Blk.inB, f1, f2, Bool.and_self]
      · rw [allA, (none_end (k := 0) hb).1, (none_end (k := 0) hb).2]; rfl
      · simp only [packM, mget, Option.map_some, Blk.ren, m1, m2, allM, (none_end (k := 0) hb).1, List.append_nil]
    · have hg2 : (l'.map Sp.cells).getD k [] = l'[k].cells := getD_map_lt _ _ _ _ hk
      have hc2 : l'[k].cells = [.int .i64 l'[k].id, .int .i64 l'[k].v.a, .int .i64 l'[k].v.b, .int .i64 l'[k].v.c, .int .i64 l'[k].v.d] := rfl
      have hk1 : ((k : Int) == -1) = false := by simp
      have hz : (l'.length == 0) = false := by rw [beq_eq_false_iff_ne]; omega
      have hz2 : (l.length == 0) = false := by rw [← hl']; exact hz
      have hd : l'.getD k ⟨0, .zero⟩ = l'[k] := by rw [List.getD_eq_getElem?_getD, List.getElem?_eq_getElem hk]; rfl
      have hput : (putB l' ns[i]).map Sp.cells = (l'.map Sp.cells).set k [.int .i64 l'[k].id, .int .i64 (subR l'[k].v ns[i]).a, .int .i64 (subR l'[k].v ns[i]).b, .int .i64 (subR l'[k].v ns[i]).c, .int .i64 (subR l'[k].v ns[i]).d] := by
        rw [putB, List.map_set, hb, Int.toNat_natCast, hd]; rfl
      have hid : idB l' ns[i] = l'[k].id := by rw [idB, hb, Int.toNat_natCast, hd]
      have hg3 : ((l'.map Sp.cells).set k [.int .i64 l'[k].id, .int .i64 (subR l'[k].v ns[i]).a, .int .i64 (subR l'[k].v ns[i]).b, .int .i64 (subR l'[k].v ns[i]).c, .int .i64 (subR l'[k].v ns[i]).d]).getD k [] = [.int .i64 l'[k].id, .int .i64 (subR l'[k].v ns[i]).a, .int .i64 (subR l'[k].v ns[i]).b, .int .i64 (subR l'[k].v ns[i]).c, .int .i64 (subR l'[k].v ns[i]).d] := by
        rw [List.getD_eq_getElem?_getD, List.getElem?_set_self (by rw [List.length_map]; exact hk)]; rfl
      rw [hb, hk1] at hs1
      have done := ih (i + 1, putB l' ns[i], ([] : List Int) ++ [idB l' ns[i]]) ⟨by simp only; omega, hs1⟩ (by simp only; omega)
      simp only [allSt, hput, hid, hz2, outV, outM, List.nil_append, List.cons_append] at done
      simp only [wpA_skip, wpA_reg, wpA_draw, wpA_seq, wpA_cond, wpA_block, wpA_exit, wpA_ret, thenQ_normal, thenQ_exit, thenQ_ret, inBlk_normal, inBlk_exit, inBlk_ret, wpOps_nil, wpOps_plain, wpOps_guard, wpG_tt, wpG_ff, wpG_tf, wpG_ft, wpG_tu, wpC_true, wpC_false, wpOp_call, AH.wpOp, wpEff_some, AOp.call?, bstep, AOp.map, Opd.ev, tget, argTm, evs, AV.cells, St.eff, St.put, applyWr, mset, terase, wpCall_fn, kCall_eq, pureE, unAV, intOp, binAV, fill, List.map_nil, List.map_cons, cond_true, cond_false, Nat.reduceBEq, List.length_cons, List.length_nil, List.append_nil, List.nil_append, List.cons_append, mget, AH.rowAt, true_and, Nat.reduceAdd, AH.part, List.drop_zero, List.take_succ_cons, List.take_zero, Nat.zero_add, Nat.lt_add_one, Nat.le_refl, and_self, List.getD_cons_zero, List.drop, List.take, beq_self_eq_true, Nat.reduceLT, Nat.lt_irrefl, Nat.zero_lt_one, Option.map_some, ↓reduceIte, retQ, rvs, retV, Bool.not_true, Bool.not_false, eq_self, Nat.reduceEqDiff, if_true, AH.splice, AH.sliceElems, AH.bytesOf, List.replicate_succ, List.replicate_zero, List.flatten_cons, List.flatten_nil, List.range_succ, List.range_zero, Nat.zero_mul, Nat.mul_one, List.getD_cons_succ, Nat.reduceLeDiff, Nat.reduceSub, Nat.reduceMul, Int.toNat_natCast, AH.strOp, eqAV_bool, eqAV_flat, eqAV_p0, eqAV_p1, eqAV_p2, eqAV_p3, eqAV_s0, eqAV_s1, eqAV_s2, eqAV_s3, eqAV_s4, eqAV_m0, eqAV_m1, eqAV_m2, eqAV_f0, eqAV_f1, eqAV_f2, eqAV_i0, eqAV_i1, eqAV_i2, eqAV_i3, eqAV_i4, Option.map_none, Int.reduceSub, Int.reduceToNat, AH.bound, List.set_cons_zero, List.set_cons_succ, List.length_set, AH.addLog, ctxU_call, callR_read, callR_new, callR_none, lookT_cons, lookT_nil, appT_some, appT_none, lookU_cons, lookU_nil, appU_some, appU_none, wpEffX_false, AH.missQ, rowE_hit, rowE_next, wpEffX_true, nbz, Int.cast_ofNat_Int, Int.reduceBEq, Int.reduceBNe, Int.reduceLT, Int.reduceGT, Int.reduceLE, Int.reduceGE, Int.reduceNeg, decide_true, decide_false, beq_tt, beq_tf, beq_ft, beq_ff, bne_tt, bne_tf, bne_ft, bne_ff, wpDs_nil, wpDs_plain, wpDs_guard, wpGD_tt, wpGD_ff, wpGD_tf, wpGD_ft, wpGD_tu, wpEffD_some, wpRead_some, AH.wpOpD, AH.readOf, ctxU_read, List.map, wpEffD_quiet, okLog_quiet, hb, hk1, hg2, hc2, hz, restT_eq, restA, V4.eta]
      repeat (refine ⟨by first | rfl | decide | omega | (simp only [List.length_map, and_true]; omega) | (simp only [List.length_map, List.length_set, and_true]; omega), ?_⟩)
      simp only [wpA_skip, wpA_reg, wpA_draw, wpA_seq, wpA_cond, wpA_block, wpA_exit, wpA_ret, thenQ_normal, thenQ_exit, thenQ_ret, inBlk_normal, inBlk_exit, inBlk_ret, wpOps_nil, wpOps_plain, wpOps_guard, wpG_tt, wpG_ff, wpG_tf, wpG_ft, wpG_tu, wpC_true, wpC_false, wpOp_call, AH.wpOp, wpEff_some, AOp.call?, bstep, AOp.map, Opd.ev, tget, argTm, evs, AV.cells, St.eff, St.put, applyWr, mset, terase, wpCall_fn, kCall_eq, pureE, unAV, intOp, binAV, fill, List.map_nil, List.map_cons, cond_true, cond_false, Nat.reduceBEq, List.length_cons, List.length_nil, List.append_nil, List.nil_append, List.cons_append, mget, AH.rowAt, true_and, Nat.reduceAdd, AH.part, List.drop_zero, List.take_succ_cons, List.take_zero, Nat.zero_add, Nat.lt_add_one, Nat.le_refl, and_self, List.getD_cons_zero, List.drop, List.take, beq_self_eq_true, Nat.reduceLT, Nat.lt_irrefl, Nat.zero_lt_one, Option.map_some, ↓reduceIte, retQ, rvs, retV, Bool.not_true, Bool.not_false, eq_self, Nat.reduceEqDiff, if_true, AH.splice, AH.sliceElems, AH.bytesOf, List.replicate_succ, List.replicate_zero, List.flatten_cons, List.flatten_nil, List.range_succ, List.range_zero, Nat.zero_mul, Nat.mul_one, List.getD_cons_succ, Nat.reduceLeDiff, Nat.reduceSub, Nat.reduceMul, Int.toNat_natCast, AH.strOp, eqAV_bool, eqAV_flat, eqAV_p0, eqAV_p1, eqAV_p2, eqAV_p3, eqAV_s0, eqAV_s1, eqAV_s2, eqAV_s3, eqAV_s4, eqAV_m0, eqAV_m1, eqAV_m2, eqAV_f0, eqAV_f1, eqAV_f2, eqAV_i0, eqAV_i1, eqAV_i2, eqAV_i3, eqAV_i4, Option.map_none, Int.reduceSub, Int.reduceToNat, AH.bound, List.set_cons_zero, List.set_cons_succ, List.length_set, AH.addLog, ctxU_call, callR_read, callR_new, callR_none, lookT_cons, lookT_nil, appT_some, appT_none, lookU_cons, lookU_nil, appU_some, appU_none, wpEffX_false, AH.missQ, rowE_hit, rowE_next, wpEffX_true, nbz, Int.cast_ofNat_Int, Int.reduceBEq, Int.reduceBNe, Int.reduceLT, Int.reduceGT, Int.reduceLE, Int.reduceGE, Int.reduceNeg, decide_true, decide_false, beq_tt, beq_tf, beq_ft, beq_ff, bne_tt, bne_tf, bne_ft, bne_ff, wpDs_nil, wpDs_plain, wpDs_guard, wpGD_tt, wpGD_ff, wpGD_tf, wpGD_ft, wpGD_tu, wpEffD_some, wpRead_some, AH.wpOpD, AH.readOf, ctxU_read, List.map, wpEffD_quiet, okLog_quiet, hg3, hw]
      repeat (refine ⟨by first | rfl | decide | omega | (simp only [List.length_map, and_true]; omega) | (simp only [List.length_map, List.length_set, and_true]; omega), ?_⟩)
      refine gc_packE [0, 1, 2, 5] done rfl rfl ?_ ?_ ⟨⟨rfl, rfl⟩, ⟨rfl, rfl⟩, ⟨rfl, rfl⟩, ⟨rfl, rfl⟩, ⟨rfl, by rw [hl']; rfl⟩, trivial⟩
      · simp only [packB, mget, Blk.inB, f1, f2, ← hput, f3, Bool.and_self, Bool.true_and]
        rfl
      · simp only [packM, mget, Option.map_some, Blk.ren, m1, m2, ← hput, m3]
        rfl
    · simp only [wpA_skip, wpA_reg, wpA_draw, wpA_seq, wpA_cond, wpA_block, wpA_exit, wpA_ret, thenQ_normal, thenQ_exit, thenQ_ret, inBlk_normal, inBlk_exit, inBlk_ret, wpOps_nil, wpOps_plain, wpOps_guard, wpG_tt, wpG_ff, wpG_tf, wpG_ft, wpG_tu, wpC_true, wpC_false, wpOp_call, AH.wpOp, wpEff_some, AOp.call?, bstep, AOp.map, Opd.ev, tget, argTm, evs, AV.cells, St.eff, St.put, applyWr, mset, terase, wpCall_fn, kCall_eq, pureE, unAV, intOp, binAV, fill, List.map_nil, List.map_cons, cond_true, cond_false, Nat.reduceBEq, List.length_cons, List.length_nil, List.append_nil, List.nil_append, List.cons_append, mget, AH.rowAt, true_and, Nat.reduceAdd, AH.part, List.drop_zero, List.take_succ_cons, List.take_zero, Nat.zero_add, Nat.lt_add_one, Nat.le_refl, and_self, List.getD_cons_zero, List.drop, List.take, beq_self_eq_true, Nat.reduceLT, Nat.lt_irrefl, Nat.zero_lt_one, Option.map_some, ↓reduceIte, retQ, rvs, retV, Bool.not_true, Bool.not_false, eq_self, Nat.reduceEqDiff, if_true, AH.splice, AH.sliceElems, AH.bytesOf, List.replicate_succ, List.replicate_zero, List.flatten_cons, List.flatten_nil, List.range_succ, List.range_zero, Nat.zero_mul, Nat.mul_one, List.getD_cons_succ, Nat.reduceLeDiff, Nat.reduceSub, Nat.reduceMul, Int.toNat_natCast, AH.strOp, eqAV_bool, eqAV_flat, eqAV_p0, eqAV_p1, eqAV_p2, eqAV_p3, eqAV_s0, eqAV_s1, eqAV_s2, eqAV_s3, eqAV_s4, eqAV_m0, eqAV_m1, eqAV_m2, eqAV_f0, eqAV_f1, eqAV_f2, eqAV_i0, eqAV_i1, eqAV_i2, eqAV_i3, eqAV_i4, Option.map_none, Int.reduceSub, Int.reduceToNat, AH.bound, List.set_cons_zero, List.set_cons_succ, List.length_set, AH.addLog, ctxU_call, callR_read, callR_new, callR_none, lookT_cons, lookT_nil, appT_some, appT_none, lookU_cons, lookU_nil, appU_some, appU_none, wpEffX_false, AH.missQ, rowE_hit, rowE_next, wpEffX_true, nbz, Int.cast_ofNat_Int, Int.reduceBEq, Int.reduceBNe, Int.reduceLT, Int.reduceGT, Int.reduceLE, Int.reduceGE, Int.reduceNeg, decide_true, decide_false, beq_tt, beq_tf, beq_ft, beq_ff, bne_tt, bne_tf, bne_ft, bne_ff, wpDs_nil, wpDs_plain, wpDs_guard, wpGD_tt, wpGD_ff, wpGD_tf, wpGD_ft, wpGD_tu, wpEffD_some, wpRead_some, AH.wpOpD, AH.readOf, ctxU_read, List.map, wpEffD_quiet, okLog_quiet, hb]
      refine ⟨[0, 1], rfl, rfl, ?_, rfl, ?_, ?_⟩
      · simp only [packB, mget, Blk.inB, f1, f2, Bool.and_self]
      · rw [allA, (none_end (k := 0) hb).1, (none_end (k := 0) hb).2]; rfl
      · simp only [packM, mget, Option.map_some, Blk.ren, m1, m2, allM, (none_end (k := 0) hb).1, List.append_nil]
    · have hg2 : (l'.map Sp.cells).getD k [] = l'[k].cells := getD_map_lt _ _ _ _ hk
      have hc2 : l'[k].cells = [.int .i64 l'[k].id, .int .i64 l'[k].v.a, .int .i64 l'[k].v.b, .int .i64 l'[k].v.c, .int .i64 l'[k].v.d] := rfl
      have hk1 : ((k : Int) == -1) = false := by simp
      have hz : (l'.length == 0) = false := by rw [beq_eq_false_iff_ne]; omega
      have hz2 : (l.length == 0) = false := by rw [← hl']; exact hz
      have hd : l'.getD k ⟨0, .zero⟩ = l'[k] := by rw [List.getD_eq_getElem?_getD, List.getElem?_eq_getElem hk]; rfl
      have hput : (putB l' ns[i]).map Sp.cells = (l'.map Sp.cells).set k [.int .i64 l'[k].id, .int .i64 (subR l'[k].v ns[i]).a, .int .i64 (subR l'[k].v ns[i]).b, .int .i64 (subR l'[k].v ns[i]).c, .int .i64 (subR l'[k].v ns[i]).d] := by
        rw [putB, List.map_set, hb, Int.toNat_natCast, hd]; rfl
      have hid : idB l' ns[i] = l'[k].id := by rw [idB, hb, Int.toNat_natCast, hd]
      have hg3 : ((l'.map Sp.cells).set k [.int .i64 l'[k].id, .int .i64 (subR l'[k].v ns[i]).a, .int .i64 (subR l'[k].v ns[i]).b, .int .i64 (subR l'[k].v ns[i]).c, .int .i64 (subR l'[k].v ns[i]).d]).getD k [] = [.int .i64 l'[k].id, .int .i64 (subR l'[k].v ns[i]).a, .int .i64 (subR l'[k].v ns[i]).b, .int .i64 (subR l'[k].v ns[i]).c, .int .i64 (subR l'[k].v ns[i]).d] := by
        rw [List.getD_eq_getElem?_getD, List.getElem?_set_self (by rw [List.length_map]; exact hk)]; rfl
      rw [hb, hk1] at hs1
      have done := ih (i + 1, putB l' ns[i], (o0 :: or) ++ [idB l' ns[i]]) ⟨by simp only; omega, hs1⟩ (by simp only; omega)
      simp only [allSt, hput, hid, hz2, outV, outM, List.nil_append, List.cons_append] at done
      simp only [wpA_skip, wpA_reg, wpA_draw, wpA_seq, wpA_cond, wpA_block, wpA_exit, wpA_ret, thenQ_normal, thenQ_exit, thenQ_ret, inBlk_normal, inBlk_exit, inBlk_ret, wpOps_nil, wpOps_plain, wpOps_guard, wpG_tt, wpG_ff, wpG_tf, wpG_ft, wpG_tu, wpC_true, wpC_false, wpOp_call, AH.wpOp, wpEff_some, AOp.call?, bstep, AOp.map, Opd.ev, tget, argTm, evs, AV.cells, St.eff, St.put, applyWr, mset, terase, wpCall_fn, kCall_eq, pureE, unAV, intOp, binAV, fill, List.map_nil, List.map_cons, cond_true, cond_false, Nat.reduceBEq, List.length_cons, List.length_nil, List.append_nil, List.nil_append, List.cons_append, mget, AH.rowAt, true_and, Nat.reduceAdd, AH.part, List.drop_zero, List.take_succ_cons, List.take_zero, Nat.zero_add, Nat.lt_add_one, Nat.le_refl, and_self, List.getD_cons_zero, List.drop, List.take, beq_self_eq_true, Nat.reduceLT, Nat.lt_irrefl, Nat.zero_lt_one, Option.map_some, ↓reduceIte, retQ, rvs, retV, Bool.not_true, Bool.not_false, eq_self, Nat.reduceEqDiff, if_true, AH.splice, AH.sliceElems, AH.bytesOf, List.replicate_succ, List.replicate_zero, List.flatten_cons, List.flatten_nil, List.range_succ, List.range_zero, Nat.zero_mul, Nat.mul_one, List.getD_cons_succ, Nat.reduceLeDiff, Nat.reduceSub, Nat.reduceMul, Int.toNat_natCast, AH.strOp, eqAV_bool, eqAV_flat, eqAV_p0, eqAV_p1, eqAV_p2, eqAV_p3, eqAV_s0, eqAV_s1, eqAV_s2, eqAV_s3, eqAV_s4, eqAV_m0, eqAV_m1, eqAV_m2, eqAV_f0, eqAV_f1, eqAV_f2, eqAV_i0, eqAV_i1, eqAV_i2, eqAV_i3, eqAV_i4, Option.map_none, Int.reduceSub, Int.reduceToNat, AH.bound, List.set_cons_zero, List.set_cons_succ, List.length_set, AH.addLog, ctxU_call, callR_read, callR_new, callR_none, lookT_cons, lookT_nil, appT_some, appT_none, lookU_cons, lookU_nil, appU_some, appU_none, wpEffX_false, AH.missQ, rowE_hit, rowE_next, wpEffX_true, nbz, Int.cast_ofNat_Int, Int.reduceBEq, Int.reduceBNe, Int.reduceLT, Int.reduceGT, Int.reduceLE, Int.reduceGE, Int.reduceNeg, decide_true, decide_false, beq_tt, beq_tf, beq_ft, beq_ff, bne_tt, bne_tf, bne_ft, bne_ff, wpDs_nil, wpDs_plain, wpDs_guard, wpGD_tt, wpGD_ff, wpGD_tf, wpGD_ft, wpGD_tu, wpEffD_some, wpRead_some, AH.wpOpD, AH.readOf, ctxU_read, List.map, wpEffD_quiet, okLog_quiet, hb, hk1, hg2, hc2, hz, restT_eq, restA, V4.eta]
      repeat (refine ⟨by first | rfl | decide | omega | (simp only [List.length_map, and_true]; omega) | (simp only [List.length_map, List.length_set, and_true]; omega), ?_⟩)
      simp only [wpA_skip, wpA_reg, wpA_draw, wpA_seq, wpA_cond, wpA_block, wpA_exit, wpA_ret, thenQ_normal, thenQ_exit, thenQ_ret, inBlk_normal, inBlk_exit, inBlk_ret, wpOps_nil, wpOps_plain, wpOps_guard, wpG_tt, wpG_ff, wpG_tf, wpG_ft, wpG_tu, wpC_true, wpC_false, wpOp_call, AH.wpOp, wpEff_some, AOp.call?, bstep, AOp.map, Opd.ev, tget, argTm, evs, AV.cells, St.eff, St.put, applyWr, mset, terase, wpCall_fn, kCall_eq, pureE, unAV, intOp, binAV, fill, List.map_nil, List.map_cons, cond_true, cond_false, Nat.reduceBEq, List.length_cons, List.length_nil, List.append_nil, List.nil_append, List.cons_append, mget, AH.rowAt, true_and, Nat.reduceAdd, AH.part, List.drop_zero, List.take_succ_cons, List.take_zero, Nat.zero_add, Nat.lt_add_one, Nat.le_refl, and_self, List.getD_cons_zero, List.drop, List.take, beq_self_eq_true, Nat.reduceLT, Nat.lt_irrefl, Nat.zero_lt_one, Option.map_some, ↓reduceIte, retQ, rvs, retV, Bool.not_true, Bool.not_false, eq_self, Nat.reduceEqDiff, if_true, AH.splice, AH.sliceElems, AH.bytesOf, List.replicate_succ, List.replicate_zero, List.flatten_cons, List.flatten_nil, List.range_succ, List.range_zero, Nat.zero_mul, Nat.mul_one, List.getD_cons_succ, Nat.reduceLeDiff, Nat.reduceSub, Nat.reduceMul, Int.toNat_natCast, AH.strOp, eqAV_bool, eqAV_flat, eqAV_p0, eqAV_p1, eqAV_p2, eqAV_p3, eqAV_s0, eqAV_s1, eqAV_s2, eqAV_s3, eqAV_s4, eqAV_m0, eqAV_m1, eqAV_m2, eqAV_f0, eqAV_f1, eqAV_f2, eqAV_i0, eqAV_i1, eqAV_i2, eqAV_i3, eqAV_i4, Option.map_none, Int.reduceSub, Int.reduceToNat, AH.bound, List.set_cons_zero, List.set_cons_succ, List.length_set, AH.addLog, ctxU_call, callR_read, callR_new, callR_none, lookT_cons, lookT_nil, appT_some, appT_none, lookU_cons, lookU_nil, appU_some, appU_none, wpEffX_false, AH.missQ, rowE_hit, rowE_next, wpEffX_true, nbz, Int.cast_ofNat_Int, Int.reduceBEq, Int.reduceBNe, Int.reduceLT, Int.reduceGT, Int.reduceLE, Int.reduceGE, Int.reduceNeg, decide_true, decide_false, beq_tt, beq_tf, beq_ft, beq_ff, bne_tt, bne_tf, bne_ft, bne_ff, wpDs_nil, wpDs_plain, wpDs_guard, wpGD_tt, wpGD_ff, wpGD_tf, wpGD_ft, wpGD_tu, wpEffD_some, wpRead_some, AH.wpOpD, AH.readOf, ctxU_read, List.map, wpEffD_quiet, okLog_quiet, hg3, hw]
      repeat (refine ⟨by first | rfl | decide | omega | (simp only [List.length_map, and_true]; omega) | (simp only [List.length_map, List.length_set, and_true]; omega), ?_⟩)
      have ht : (or.map intC).take or.length = or.map intC := take_map_len _ _
      have ho : or.length + 1 = i := by simpa using hout
      simp only [ht, List.length_map]
      refine ⟨⟨by omega, by omega, by omega⟩, ?_⟩
      refine gc_packE [0, 1, 2, 6] done rfl rfl ?_ ?_ ⟨⟨rfl, rfl⟩, ⟨rfl, rfl⟩, ⟨rfl, rfl⟩, ⟨rfl, ?_⟩, ⟨rfl, by rw [hl']; rfl⟩, trivial⟩
      · have := f4 (inN [0, 1, 2, 6]) (o0 :: (or ++ [l'[k].id]))
        simp only [List.map_cons, List.map_append, List.map_nil, intC] at this
        simp only [packB, mget, Blk.inB, f1, f2, ← hput, f3, Bool.and_self, Bool.true_and, intC, this]
      · have := m4 (posN [0, 1, 2, 6]) (o0 :: (or ++ [l'[k].id]))
        simp only [List.map_cons, List.map_append, List.map_nil, intC] at this
        simp only [packM, mget, Option.map_some, Blk.ren, m1, m2, ← hput, m3, List.map_cons, List.map_append, List.map_nil, intC, this]
      · simp only [tget, Nat.reduceBEq, cond_false, cond_true, AV.ren, List.length_append, List.length_map, List.length_cons, List.length_nil]
        rfl
  · simp only [decide_eq_false_iff_not] at hlt
    have hin : i = ns.length := by omega
    subst hin
    have f1 : ∀ p, (l.map Sp.cells).all (AV.insB p) = true := fun p => cSp.all_in p l
    have f2 : ∀ p, (ns.map V4.cells).all (AV.insB p) = true := fun p => cV.all_in p ns
    have m1 : ∀ ρ, (l.map Sp.cells).map (AV.rens ρ) = l.map Sp.cells := fun ρ => cSp.map_rens ρ l
    have m2 : ∀ ρ, (ns.map V4.cells).map (AV.rens ρ) = ns.map V4.cells := fun ρ => cV.map_rens ρ ns
    have f4 : ∀ (p : Nat → Bool) (l : List Int), (l.map intC).all (AV.insB p) = true := fun p l => cInt.all_in p l
    have m4 : ∀ ρ (l : List Int), (l.map intC).map (AV.rens ρ) = l.map intC := fun ρ l => cInt.map_rens ρ l
    have hdec : decide ((ns.length : Int) < (ns.length : Int)) = false := by simp
    rcases out with _ | ⟨o0, or⟩
    · simp only [wpA_skip, wpA_reg, wpA_draw, wpA_seq, wpA_cond, wpA_block, wpA_exit, wpA_ret, thenQ_normal, thenQ_exit, thenQ_ret, inBlk_normal, inBlk_exit, inBlk_ret, wpOps_nil, wpOps_plain, wpOps_guard, wpG_tt, wpG_ff, wpG_tf, wpG_ft, wpG_tu, wpC_true, wpC_false, wpOp_call, AH.wpOp, wpEff_some, AOp.call?, bstep, AOp.map, Opd.ev, tget, argTm, evs, AV.cells, St.eff, St.put, applyWr, mset, terase, wpCall_fn, kCall_eq, pureE, unAV, intOp, binAV, fill, List.map_nil, List.map_cons, cond_true, cond_false, Nat.reduceBEq, List.length_cons, List.length_nil, List.append_nil, List.nil_append, List.cons_append, mget, AH.rowAt, true_and, Nat.reduceAdd, AH.part, List.drop_zero, List.take_succ_cons, List.take_zero, Nat.zero_add, Nat.lt_add_one, Nat.le_refl, and_self, List.getD_cons_zero, List.drop, List.take, beq_self_eq_true, Nat.reduceLT, Nat.lt_irrefl, Nat.zero_lt_one, Option.map_some, ↓reduceIte, retQ, rvs, retV, Bool.not_true, Bool.not_false, eq_self, Nat.reduceEqDiff, if_true, AH.splice, AH.sliceElems, AH.bytesOf, List.replicate_succ, List.replicate_zero, List.flatten_cons, List.flatten_nil, List.range_succ, List.range_zero, Nat.zero_mul, Nat.mul_one, List.getD_cons_succ, Nat.reduceLeDiff, Nat.reduceSub, Nat.reduceMul, Int.toNat_natCast, AH.strOp, eqAV_bool, eqAV_flat, eqAV_p0, eqAV_p1, eqAV_p2, eqAV_p3, eqAV_s0, eqAV_s1, eqAV_s2, eqAV_s3, eqAV_s4, eqAV_m0, eqAV_m1, eqAV_m2, eqAV_f0, eqAV_f1, eqAV_f2, eqAV_i0, eqAV_i1, eqAV_i2, eqAV_i3, eqAV_i4, Option.map_none, Int.reduceSub, Int.reduceToNat, AH.bound, List.set_cons_zero, List.set_cons_succ, List.length_set, AH.addLog, ctxU_call, callR_read, callR_new, callR_none, lookT_cons, lookT_nil, appT_some, appT_none, lookU_cons, lookU_nil, appU_some, appU_none, wpEffX_false, AH.missQ, rowE_hit, rowE_next, wpEffX_true, nbz, Int.cast_ofNat_Int, Int.reduceBEq, Int.reduceBNe, Int.reduceLT, Int.reduceGT, Int.reduceLE, Int.reduceGE, Int.reduceNeg, decide_true, decide_false, beq_tt, beq_tf, beq_ft, beq_ff, bne_tt, bne_tf, bne_ft, bne_ff, wpDs_nil, wpDs_plain, wpDs_guard, wpGD_tt, wpGD_ff, wpGD_tf, wpGD_ft, wpGD_tu, wpEffD_some, wpRead_some, AH.wpOpD, AH.readOf, ctxU_read, List.map, wpEffD_quiet, okLog_quiet, hdec, outV, outM]
      refine ⟨[0, 1], rfl, rfl, ?_, rfl, ?_, ?_⟩
      · simp only [packB, mget, Blk.inB, f1, f2, Bool.and_self]
      · simp only [allA, hx, outV]; rfl
      · simp only [packM, mget, Option.map_some, Blk.ren, m1, m2, allM, hx, outM, List.append_nil]
    · simp only [wpA_skip, wpA_reg, wpA_draw, wpA_seq, wpA_cond, wpA_block, wpA_exit, wpA_ret, thenQ_normal, thenQ_exit, thenQ_ret, inBlk_normal, inBlk_exit, inBlk_ret, wpOps_nil, wpOps_plain, wpOps_guard, wpG_tt, wpG_ff, wpG_tf, wpG_ft, wpG_tu, wpC_true, wpC_false, wpOp_call, AH.wpOp, wpEff_some, AOp.call?, bstep, AOp.map, Opd.ev, tget, argTm, evs, AV.cells, St.eff, St.put, applyWr, mset, terase, wpCall_fn, kCall_eq, pureE, unAV, intOp, binAV, fill, List.map_nil, List.map_cons, cond_true, cond_false, Nat.reduceBEq, List.length_cons, List.length_nil, List.append_nil, List.nil_append, List.cons_append, mget, AH.rowAt, true_and, Nat.reduceAdd, AH.part, List.drop_zero, List.take_succ_cons, List.take_zero, Nat.zero_add, Nat.lt_add_one, Nat.le_refl, and_self, List.getD_cons_zero, List.drop, List.take, beq_self_eq_true, Nat.reduceLT, Nat.lt_irrefl, Nat.zero_lt_one, Option.map_some, ↓reduceIte, retQ, rvs, retV, Bool.not_true, Bool.not_false, eq_self, Nat.reduceEqDiff, if_true, AH.splice, AH.sliceElems, AH.bytesOf, List.replicate_succ, List.replicate_zero, List.flatten_cons, List.flatten_nil, List.range_succ, List.range_zero, Nat.zero_mul, Nat.mul_one, List.getD_cons_succ, Nat.reduceLeDiff, Nat.reduceSub, Nat.reduceMul, Int.toNat_natCast, AH.strOp, eqAV_bool, eqAV_flat, eqAV_p0, eqAV_p1, eqAV_p2, eqAV_p3, eqAV_s0, eqAV_s1, eqAV_s2, eqAV_s3, eqAV_s4, eqAV_m0, eqAV_m1, eqAV_m2, eqAV_f0, eqAV_f1, eqAV_f2, eqAV_i0, eqAV_i1, eqAV_i2, eqAV_i3, eqAV_i4, Option.map_none, Int.reduceSub, Int.reduceToNat, AH.bound, List.set_cons_zero, List.set_cons_succ, List.length_set, AH.addLog, ctxU_call, callR_read, callR_new, callR_none, lookT_cons, lookT_nil, appT_some, appT_none, lookU_cons, lookU_nil, appU_some, appU_none, wpEffX_false, AH.missQ, rowE_hit, rowE_next, wpEffX_true, nbz, Int.cast_ofNat_Int, Int.reduceBEq, Int.reduceBNe, Int.reduceLT, Int.reduceGT, Int.reduceLE, Int.reduceGE, Int.reduceNeg, decide_true, decide_false, beq_tt, beq_tf, beq_ft, beq_ff, bne_tt, bne_tf, bne_ft, bne_ff, wpDs_nil, wpDs_plain, wpDs_guard, wpGD_tt, wpGD_ff, wpGD_tf, wpGD_ft, wpGD_tu, wpEffD_some, wpRead_some, AH.wpOpD, AH.readOf, ctxU_read, List.map, wpEffD_quiet, okLog_quiet, hdec, outV, outM]
      refine ⟨[0, 1, 3], rfl, rfl, ?_, rfl, ?_, ?_⟩
      · have := f4 (inN [0, 1, 3]) (o0 :: or)
        simp only [List.map_cons] at this
        simp only [packB, mget, Blk.inB, f1, f2, this, Bool.and_self]
      · simp only [allA, hx, outV]; rfl
      · have := m4 (posN [0, 1, 3]) (o0 :: or)
        simp only [List.map_cons] at this
        simp only [packM, mget, Option.map_some, Blk.ren, m1, m2, allM, hx, outM, List.map_cons, this, List.cons_append, List.nil_append]

end Go.Proofs.YtdjcpmdjodhfeaaDoor.A16
