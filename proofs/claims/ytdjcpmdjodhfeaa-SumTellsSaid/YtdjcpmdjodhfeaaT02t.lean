import Derived.Test.YtdjcpmdjodhfeaaAHEnd
import Derived.Laws.Bits64
import Derived.Test.YtdjcpmdjodhfeaaF02
open Go AH
set_option linter.unusedSimpArgs false
namespace Go.Proofs.Ytdjcpmdjodhfeaa

theorem okC : CtxOK S0 (ctx S0 noRead) := ctx_ok noRead_ok mixed

def step32 (n : Int) (b : UInt8) : Int := IntKind.u32.wrap (IntKind.u32.wrap (IntKind.u32.wrap (n * 257) + IntKind.u32.wrap b.toNat) + 1)
def moreZ (n : Int) (l : List UInt8) : Int := l.foldl step32 n

theorem back_ok (n b : Int) : Pure S0 7 [.int .u32 n, .int .u8 b] (.int .u32 (IntKind.u32.wrap (IntKind.u32.wrap (IntKind.u32.wrap (n - IntKind.u32.wrap b) - 1) * 4278255361))) := by
  refine fun_sound okC Try.func7 c7 ?_
  unfold wpF F7
  simp only [wpA_skip, wpA_reg, wpA_draw, wpA_seq, wpA_cond, wpA_block, wpA_exit, wpA_ret, thenQ_normal, thenQ_exit, thenQ_ret, inBlk_normal, inBlk_exit, inBlk_ret, wpOps_nil, wpOps_plain, wpOps_guard, wpG_tt, wpG_ff, wpG_tf, wpG_ft, wpG_tu, wpC_true, wpC_false, wpOp_call, AH.wpOp, wpEff_some, AOp.call?, bstep, AOp.map, Opd.ev, tget, argTm, evs, AV.cells, St.eff, St.put, applyWr, mset, terase, wpCall_fn, kCall_eq, pureE, unAV, intOp, binAV, fill, List.map_nil, List.map_cons, cond_true, cond_false, Nat.reduceBEq, List.length_cons, List.length_nil, List.append_nil, List.nil_append, List.cons_append, mget, AH.rowAt, true_and, Nat.reduceAdd, AH.part, List.drop_zero, List.take_succ_cons, List.take_zero, Nat.zero_add, Nat.lt_add_one, Nat.le_refl, and_self, List.getD_cons_zero, List.drop, List.take, beq_self_eq_true, Nat.reduceLT, Nat.lt_irrefl, Nat.zero_lt_one, Option.map_some, ↓reduceIte, retQ, rvs, retV, Bool.not_true, Bool.not_false, ctx_call, eq_self, Nat.reduceEqDiff, if_true, AH.splice, AH.sliceElems, AH.bytesOf, List.replicate_succ, List.replicate_zero, List.flatten_cons, List.flatten_nil, List.range_succ, List.range_zero, Nat.zero_mul, Nat.mul_one, List.getD_cons_succ, Nat.reduceLeDiff, Nat.reduceSub, Nat.reduceMul, Int.toNat_natCast, AH.strOp, AH.eqAV, Option.map_none]

theorem more_ok (n : Int) (s : ByteArray) (hs : s.size ≤ 1048576) : Pure S0 10 [.int .u32 n, .str s] (.int .u32 (moreZ n s.data.toList)) := by
  refine fun_sound okC Try.func10 c10 ?_
  unfold wpF F10
  simp only [wpA_skip, wpA_reg, wpA_draw, wpA_seq, wpA_cond, wpA_block, wpA_exit, wpA_ret, thenQ_normal, thenQ_exit, thenQ_ret, inBlk_normal, inBlk_exit, inBlk_ret, wpOps_nil, wpOps_plain, wpOps_guard, wpG_tt, wpG_ff, wpG_tf, wpG_ft, wpG_tu, wpC_true, wpC_false, wpOp_call, AH.wpOp, wpEff_some, AOp.call?, bstep, AOp.map, Opd.ev, tget, argTm, evs, AV.cells, St.eff, St.put, applyWr, mset, terase, wpCall_fn, kCall_eq, pureE, unAV, intOp, binAV, fill, List.map_nil, List.map_cons, cond_true, cond_false, Nat.reduceBEq, List.length_cons, List.length_nil, List.append_nil, List.nil_append, List.cons_append, mget, AH.rowAt, true_and, Nat.reduceAdd, AH.part, List.drop_zero, List.take_succ_cons, List.take_zero, Nat.zero_add, Nat.lt_add_one, Nat.le_refl, and_self, List.getD_cons_zero, List.drop, List.take, beq_self_eq_true, Nat.reduceLT, Nat.lt_irrefl, Nat.zero_lt_one, Option.map_some, ↓reduceIte, retQ, rvs, retV, Bool.not_true, Bool.not_false, ctx_call, eq_self, Nat.reduceEqDiff, if_true, AH.splice, AH.sliceElems, AH.bytesOf, List.replicate_succ, List.replicate_zero, List.flatten_cons, List.flatten_nil, List.range_succ, List.range_zero, Nat.zero_mul, Nat.mul_one, List.getD_cons_succ, Nat.reduceLeDiff, Nat.reduceSub, Nat.reduceMul, Int.toNat_natCast, AH.strOp, AH.eqAV, Option.map_none]
  refine loop_rule (α := Nat × Int) (fun x => s.size - x.1) (fun x => ⟨[(10, .int .i64 x.1), (9, .int .i64 s.size), (8, .slc 0 0 s.size none), (0, .int .u32 x.2)], [some (.row false 1 (s.data.toList.map fun b => [.int .u8 b.toNat]))]⟩)
    (fun x => x.1 ≤ s.size ∧ moreZ x.2 (s.data.toList.drop x.1) = moreZ n s.data.toList) (0, n) ⟨Nat.zero_le _, rfl⟩ (gc_keep (l := [(10, .int .i64 0), (9, .int .i64 s.size), (8, .slc 0 0 s.size none), (0, .int .u32 n)]) ⟨rfl, rfl, rfl, rfl, trivial⟩ rfl) ?_
  rintro X ⟨i, x⟩ ⟨hi, hx⟩ ih
  simp only at hi hx
  have hsz : s.data.toList.length = s.size := by rw [Array.length_toList]; rfl
  simp only [wpA_skip, wpA_reg, wpA_draw, wpA_seq, wpA_cond, wpA_block, wpA_exit, wpA_ret, thenQ_normal, thenQ_exit, thenQ_ret, inBlk_normal, inBlk_exit, inBlk_ret, wpOps_nil, wpOps_plain, wpOps_guard, wpG_tt, wpG_ff, wpG_tf, wpG_ft, wpG_tu, wpC_true, wpC_false, wpOp_call, AH.wpOp, wpEff_some, AOp.call?, bstep, AOp.map, Opd.ev, tget, argTm, evs, AV.cells, St.eff, St.put, applyWr, mset, terase, wpCall_fn, kCall_eq, pureE, unAV, intOp, binAV, fill, List.map_nil, List.map_cons, cond_true, cond_false, Nat.reduceBEq, List.length_cons, List.length_nil, List.append_nil, List.nil_append, List.cons_append, mget, AH.rowAt, true_and, Nat.reduceAdd, AH.part, List.drop_zero, List.take_succ_cons, List.take_zero, Nat.zero_add, Nat.lt_add_one, Nat.le_refl, and_self, List.getD_cons_zero, List.drop, List.take, beq_self_eq_true, Nat.reduceLT, Nat.lt_irrefl, Nat.zero_lt_one, Option.map_some, ↓reduceIte, retQ, rvs, retV, Bool.not_true, Bool.not_false, ctx_call, eq_self, Nat.reduceEqDiff, if_true, AH.splice, AH.sliceElems, AH.bytesOf, List.replicate_succ, List.replicate_zero, List.flatten_cons, List.flatten_nil, List.range_succ, List.range_zero, Nat.zero_mul, Nat.mul_one, List.getD_cons_succ, Nat.reduceLeDiff, Nat.reduceSub, Nat.reduceMul, Int.toNat_natCast, AH.strOp, AH.eqAV, Option.map_none, wpC]
  refine ⟨fun h => ?_, fun h => ?_⟩
  · simp only [decide_eq_true_eq] at h
    have hlt : i < s.size := by omega
    have hil : i < s.data.toList.length := by omega
    have hg : (s.data.toList.map fun b => [AV.int .u8 (b.toNat : Int)]).getD i [] = [AV.int .u8 (s.data.toList[i].toNat : Int)] := by
      rw [List.getD_eq_getElem?_getD, List.getElem?_map, List.getElem?_eq_getElem hil]; rfl
    have hw : IntKind.i64.wrap ((i : Int) + 1) = ((i + 1 : Nat) : Int) := by rw [IntKind.wrap_i64]; omega
    refine ⟨⟨by omega, by omega⟩, ⟨by rw [List.length_map]; omega, trivial⟩, ?_⟩
    simp only [wpA_skip, wpA_reg, wpA_draw, wpA_seq, wpA_cond, wpA_block, wpA_exit, wpA_ret, thenQ_normal, thenQ_exit, thenQ_ret, inBlk_normal, inBlk_exit, inBlk_ret, wpOps_nil, wpOps_plain, wpOps_guard, wpG_tt, wpG_ff, wpG_tf, wpG_ft, wpG_tu, wpC_true, wpC_false, wpOp_call, AH.wpOp, wpEff_some, AOp.call?, bstep, AOp.map, Opd.ev, tget, argTm, evs, AV.cells, St.eff, St.put, applyWr, mset, terase, wpCall_fn, kCall_eq, pureE, unAV, intOp, binAV, fill, List.map_nil, List.map_cons, cond_true, cond_false, Nat.reduceBEq, List.length_cons, List.length_nil, List.append_nil, List.nil_append, List.cons_append, mget, AH.rowAt, true_and, Nat.reduceAdd, AH.part, List.drop_zero, List.take_succ_cons, List.take_zero, Nat.zero_add, Nat.lt_add_one, Nat.le_refl, and_self, List.getD_cons_zero, List.drop, List.take, beq_self_eq_true, Nat.reduceLT, Nat.lt_irrefl, Nat.zero_lt_one, Option.map_some, ↓reduceIte, retQ, rvs, retV, Bool.not_true, Bool.not_false, ctx_call, eq_self, Nat.reduceEqDiff, if_true, AH.splice, AH.sliceElems, AH.bytesOf, List.replicate_succ, List.replicate_zero, List.flatten_cons, List.flatten_nil, List.range_succ, List.range_zero, Nat.zero_mul, Nat.mul_one, List.getD_cons_succ, Nat.reduceLeDiff, Nat.reduceSub, Nat.reduceMul, Int.toNat_natCast, AH.strOp, AH.eqAV, Option.map_none, hg, hw]
    refine gc_keep (l := [(10, .int .i64 ((i + 1 : Nat) : Int)), (9, .int .i64 s.size), (8, .slc 0 0 s.size none), (0, .int .u32 (step32 x s.data.toList[i]))]) ⟨rfl, rfl, rfl, rfl, trivial⟩ ?_
    refine ih (i + 1, step32 x s.data.toList[i]) ⟨by simp only; omega, ?_⟩ (by simp only; omega)
    rw [← hx, List.drop_eq_getElem_cons hil]
    rfl
  · simp only [decide_eq_false_iff_not] at h
    have : i = s.size := by omega
    subst this
    rw [List.drop_eq_nil_of_le (by omega)] at hx
    rw [← hx]
    rfl

theorem more_call (n : Int) (s : ByteArray) (hs : s.size ≤ 1048576) {m : Mem} {K : AV → Mem → Prop} (h : K (.int .u32 (moreZ n s.data.toList)) m) : CallA1 S0 10 [.int .u32 n, .str s] m K := (more_ok n s hs).call rfl rfl h

theorem of_ok (s : ByteArray) (hs : s.size ≤ 1048576) : Pure S0 8 [.str s] (.int .u32 (moreZ 1 s.data.toList)) := by
  refine fun_sound okC Try.func8 c8 ?_
  unfold wpF F8
  simp only [wpA_skip, wpA_reg, wpA_draw, wpA_seq, wpA_cond, wpA_block, wpA_exit, wpA_ret, thenQ_normal, thenQ_exit, thenQ_ret, inBlk_normal, inBlk_exit, inBlk_ret, wpOps_nil, wpOps_plain, wpOps_guard, wpG_tt, wpG_ff, wpG_tf, wpG_ft, wpG_tu, wpC_true, wpC_false, wpOp_call, AH.wpOp, wpEff_some, AOp.call?, bstep, AOp.map, Opd.ev, tget, argTm, evs, AV.cells, St.eff, St.put, applyWr, mset, terase, wpCall_fn, kCall_eq, pureE, unAV, intOp, binAV, fill, List.map_nil, List.map_cons, cond_true, cond_false, Nat.reduceBEq, List.length_cons, List.length_nil, List.append_nil, List.nil_append, List.cons_append, mget, AH.rowAt, true_and, Nat.reduceAdd, AH.part, List.drop_zero, List.take_succ_cons, List.take_zero, Nat.zero_add, Nat.lt_add_one, Nat.le_refl, and_self, List.getD_cons_zero, List.drop, List.take, beq_self_eq_true, Nat.reduceLT, Nat.lt_irrefl, Nat.zero_lt_one, Option.map_some, ↓reduceIte, retQ, rvs, retV, Bool.not_true, Bool.not_false, ctx_call, eq_self, Nat.reduceEqDiff, if_true, AH.splice, AH.sliceElems, AH.bytesOf, List.replicate_succ, List.replicate_zero, List.flatten_cons, List.flatten_nil, List.range_succ, List.range_zero, Nat.zero_mul, Nat.mul_one, List.getD_cons_succ, Nat.reduceLeDiff, Nat.reduceSub, Nat.reduceMul, Int.toNat_natCast, AH.strOp, AH.eqAV, Option.map_none]
  refine more_call 1 s hs ?_
  simp only [wpA_skip, wpA_reg, wpA_draw, wpA_seq, wpA_cond, wpA_block, wpA_exit, wpA_ret, thenQ_normal, thenQ_exit, thenQ_ret, inBlk_normal, inBlk_exit, inBlk_ret, wpOps_nil, wpOps_plain, wpOps_guard, wpG_tt, wpG_ff, wpG_tf, wpG_ft, wpG_tu, wpC_true, wpC_false, wpOp_call, AH.wpOp, wpEff_some, AOp.call?, bstep, AOp.map, Opd.ev, tget, argTm, evs, AV.cells, St.eff, St.put, applyWr, mset, terase, wpCall_fn, kCall_eq, pureE, unAV, intOp, binAV, fill, List.map_nil, List.map_cons, cond_true, cond_false, Nat.reduceBEq, List.length_cons, List.length_nil, List.append_nil, List.nil_append, List.cons_append, mget, AH.rowAt, true_and, Nat.reduceAdd, AH.part, List.drop_zero, List.take_succ_cons, List.take_zero, Nat.zero_add, Nat.lt_add_one, Nat.le_refl, and_self, List.getD_cons_zero, List.drop, List.take, beq_self_eq_true, Nat.reduceLT, Nat.lt_irrefl, Nat.zero_lt_one, Option.map_some, ↓reduceIte, retQ, rvs, retV, Bool.not_true, Bool.not_false, ctx_call, eq_self, Nat.reduceEqDiff, if_true, AH.splice, AH.sliceElems, AH.bytesOf, List.replicate_succ, List.replicate_zero, List.flatten_cons, List.flatten_nil, List.range_succ, List.range_zero, Nat.zero_mul, Nat.mul_one, List.getD_cons_succ, Nat.reduceLeDiff, Nat.reduceSub, Nat.reduceMul, Int.toNat_natCast, AH.strOp, AH.eqAV, Option.map_none]

theorem of_call (s : ByteArray) (hs : s.size ≤ 1048576) {m : Mem} {K : AV → Mem → Prop} (h : K (.int .u32 (moreZ 1 s.data.toList)) m) : CallA1 S0 8 [.str s] m K := (of_ok s hs).call rfl rfl h

def rstep (x : Int) (b : UInt8) : Int := (IntKind.u64.wrap (IntKind.u64.wrap (IntKind.u64.wrap (x * 257) + IntKind.u64.wrap b.toNat) + 1)).tmod 4294967296
def refZ (n : Int) (l : List UInt8) : Int := IntKind.u32.wrap (l.foldl rstep (IntKind.u64.wrap n))

theorem rmore_ok (n : Int) (s : ByteArray) (hs : s.size ≤ 1048576) : Pure S0 11 [.int .u32 n, .str s] (.int .u32 (refZ n s.data.toList)) := by
  refine fun_sound okC Try.func11 c11 ?_
  unfold wpF F11
  simp only [wpA_skip, wpA_reg, wpA_draw, wpA_seq, wpA_cond, wpA_block, wpA_exit, wpA_ret, thenQ_normal, thenQ_exit, thenQ_ret, inBlk_normal, inBlk_exit, inBlk_ret, wpOps_nil, wpOps_plain, wpOps_guard, wpG_tt, wpG_ff, wpG_tf, wpG_ft, wpG_tu, wpC_true, wpC_false, wpOp_call, AH.wpOp, wpEff_some, AOp.call?, bstep, AOp.map, Opd.ev, tget, argTm, evs, AV.cells, St.eff, St.put, applyWr, mset, terase, wpCall_fn, kCall_eq, pureE, unAV, intOp, binAV, fill, List.map_nil, List.map_cons, cond_true, cond_false, Nat.reduceBEq, List.length_cons, List.length_nil, List.append_nil, List.nil_append, List.cons_append, mget, AH.rowAt, true_and, Nat.reduceAdd, AH.part, List.drop_zero, List.take_succ_cons, List.take_zero, Nat.zero_add, Nat.lt_add_one, Nat.le_refl, and_self, List.getD_cons_zero, List.drop, List.take, beq_self_eq_true, Nat.reduceLT, Nat.lt_irrefl, Nat.zero_lt_one, Option.map_some, ↓reduceIte, retQ, rvs, retV, Bool.not_true, Bool.not_false, ctx_call, eq_self, Nat.reduceEqDiff, if_true, AH.splice, AH.sliceElems, AH.bytesOf, List.replicate_succ, List.replicate_zero, List.flatten_cons, List.flatten_nil, List.range_succ, List.range_zero, Nat.zero_mul, Nat.mul_one, List.getD_cons_succ, Nat.reduceLeDiff, Nat.reduceSub, Nat.reduceMul, Int.toNat_natCast, AH.strOp, AH.eqAV, Option.map_none]
  refine loop_rule (α := Nat × Int) (fun x => s.size - x.1) (fun x => ⟨[(6, .int .i64 x.1), (1, .str s), (5, .int .u64 x.2)], []⟩)
    (fun x => x.1 ≤ s.size ∧ (s.data.toList.drop x.1).foldl rstep x.2 = s.data.toList.foldl rstep (IntKind.u64.wrap n)) (0, IntKind.u64.wrap n) ⟨Nat.zero_le _, rfl⟩ (gc_keep (l := [(6, .int .i64 0), (1, .str s), (5, .int .u64 (IntKind.u64.wrap n))]) ⟨rfl, rfl, rfl, trivial⟩ rfl) ?_
  rintro X ⟨i, x⟩ ⟨hi, hx⟩ ih
  simp only at hi hx
  have hsz : s.data.toList.length = s.size := by rw [Array.length_toList]; rfl
  simp only [wpA_skip, wpA_reg, wpA_draw, wpA_seq, wpA_cond, wpA_block, wpA_exit, wpA_ret, thenQ_normal, thenQ_exit, thenQ_ret, inBlk_normal, inBlk_exit, inBlk_ret, wpOps_nil, wpOps_plain, wpOps_guard, wpG_tt, wpG_ff, wpG_tf, wpG_ft, wpG_tu, wpC_true, wpC_false, wpOp_call, AH.wpOp, wpEff_some, AOp.call?, bstep, AOp.map, Opd.ev, tget, argTm, evs, AV.cells, St.eff, St.put, applyWr, mset, terase, wpCall_fn, kCall_eq, pureE, unAV, intOp, binAV, fill, List.map_nil, List.map_cons, cond_true, cond_false, Nat.reduceBEq, List.length_cons, List.length_nil, List.append_nil, List.nil_append, List.cons_append, mget, AH.rowAt, true_and, Nat.reduceAdd, AH.part, List.drop_zero, List.take_succ_cons, List.take_zero, Nat.zero_add, Nat.lt_add_one, Nat.le_refl, and_self, List.getD_cons_zero, List.drop, List.take, beq_self_eq_true, Nat.reduceLT, Nat.lt_irrefl, Nat.zero_lt_one, Option.map_some, ↓reduceIte, retQ, rvs, retV, Bool.not_true, Bool.not_false, ctx_call, eq_self, Nat.reduceEqDiff, if_true, AH.splice, AH.sliceElems, AH.bytesOf, List.replicate_succ, List.replicate_zero, List.flatten_cons, List.flatten_nil, List.range_succ, List.range_zero, Nat.zero_mul, Nat.mul_one, List.getD_cons_succ, Nat.reduceLeDiff, Nat.reduceSub, Nat.reduceMul, Int.toNat_natCast, AH.strOp, AH.eqAV, Option.map_none, wpC]
  refine ⟨fun h => ?_, fun h => ?_⟩
  · simp only [decide_eq_true_eq] at h
    have hlt : i < s.size := by omega
    have hil : i < s.data.toList.length := by omega
    have hg : s.data.toList.getD i 0 = s.data.toList[i] := by rw [List.getD_eq_getElem?_getD, List.getElem?_eq_getElem hil]; rfl
    have hw : IntKind.i64.wrap ((i : Int) + 1) = ((i + 1 : Nat) : Int) := by rw [IntKind.wrap_i64]; omega
    refine ⟨⟨by omega, by omega⟩, ?_⟩
    simp only [wpA_skip, wpA_reg, wpA_draw, wpA_seq, wpA_cond, wpA_block, wpA_exit, wpA_ret, thenQ_normal, thenQ_exit, thenQ_ret, inBlk_normal, inBlk_exit, inBlk_ret, wpOps_nil, wpOps_plain, wpOps_guard, wpG_tt, wpG_ff, wpG_tf, wpG_ft, wpG_tu, wpC_true, wpC_false, wpOp_call, AH.wpOp, wpEff_some, AOp.call?, bstep, AOp.map, Opd.ev, tget, argTm, evs, AV.cells, St.eff, St.put, applyWr, mset, terase, wpCall_fn, kCall_eq, pureE, unAV, intOp, binAV, fill, List.map_nil, List.map_cons, cond_true, cond_false, Nat.reduceBEq, List.length_cons, List.length_nil, List.append_nil, List.nil_append, List.cons_append, mget, AH.rowAt, true_and, Nat.reduceAdd, AH.part, List.drop_zero, List.take_succ_cons, List.take_zero, Nat.zero_add, Nat.lt_add_one, Nat.le_refl, and_self, List.getD_cons_zero, List.drop, List.take, beq_self_eq_true, Nat.reduceLT, Nat.lt_irrefl, Nat.zero_lt_one, Option.map_some, ↓reduceIte, retQ, rvs, retV, Bool.not_true, Bool.not_false, ctx_call, eq_self, Nat.reduceEqDiff, if_true, AH.splice, AH.sliceElems, AH.bytesOf, List.replicate_succ, List.replicate_zero, List.flatten_cons, List.flatten_nil, List.range_succ, List.range_zero, Nat.zero_mul, Nat.mul_one, List.getD_cons_succ, Nat.reduceLeDiff, Nat.reduceSub, Nat.reduceMul, Int.toNat_natCast, AH.strOp, AH.eqAV, Option.map_none, hg, hw]
    refine ⟨by decide, ?_⟩
    refine gc_keep (l := [(6, .int .i64 ((i + 1 : Nat) : Int)), (1, .str s), (5, .int .u64 (rstep x s.data.toList[i]))]) ⟨rfl, rfl, rfl, trivial⟩ ?_
    refine ih (i + 1, rstep x s.data.toList[i]) ⟨by simp only; omega, ?_⟩ (by simp only; omega)
    rw [← hx, List.drop_eq_getElem_cons hil]
    rfl
  · simp only [decide_eq_false_iff_not] at h
    have : i = s.size := by omega
    subst this
    rw [List.drop_eq_nil_of_le (by omega)] at hx
    rw [refZ, ← hx]
    rfl

theorem rmore_call (n : Int) (s : ByteArray) (hs : s.size ≤ 1048576) {m : Mem} {K : AV → Mem → Prop} (h : K (.int .u32 (refZ n s.data.toList)) m) : CallA1 S0 11 [.int .u32 n, .str s] m K := (rmore_ok n s hs).call rfl rfl h

theorem rof_ok (s : ByteArray) (hs : s.size ≤ 1048576) : Pure S0 9 [.str s] (.int .u32 (refZ 1 s.data.toList)) := by
  refine fun_sound okC Try.func9 c9 ?_
  unfold wpF F9
  simp only [wpA_skip, wpA_reg, wpA_draw, wpA_seq, wpA_cond, wpA_block, wpA_exit, wpA_ret, thenQ_normal, thenQ_exit, thenQ_ret, inBlk_normal, inBlk_exit, inBlk_ret, wpOps_nil, wpOps_plain, wpOps_guard, wpG_tt, wpG_ff, wpG_tf, wpG_ft, wpG_tu, wpC_true, wpC_false, wpOp_call, AH.wpOp, wpEff_some, AOp.call?, bstep, AOp.map, Opd.ev, tget, argTm, evs, AV.cells, St.eff, St.put, applyWr, mset, terase, wpCall_fn, kCall_eq, pureE, unAV, intOp, binAV, fill, List.map_nil, List.map_cons, cond_true, cond_false, Nat.reduceBEq, List.length_cons, List.length_nil, List.append_nil, List.nil_append, List.cons_append, mget, AH.rowAt, true_and, Nat.reduceAdd, AH.part, List.drop_zero, List.take_succ_cons, List.take_zero, Nat.zero_add, Nat.lt_add_one, Nat.le_refl, and_self, List.getD_cons_zero, List.drop, List.take, beq_self_eq_true, Nat.reduceLT, Nat.lt_irrefl, Nat.zero_lt_one, Option.map_some, ↓reduceIte, retQ, rvs, retV, Bool.not_true, Bool.not_false, ctx_call, eq_self, Nat.reduceEqDiff, if_true, AH.splice, AH.sliceElems, AH.bytesOf, List.replicate_succ, List.replicate_zero, List.flatten_cons, List.flatten_nil, List.range_succ, List.range_zero, Nat.zero_mul, Nat.mul_one, List.getD_cons_succ, Nat.reduceLeDiff, Nat.reduceSub, Nat.reduceMul, Int.toNat_natCast, AH.strOp, AH.eqAV, Option.map_none]
  refine rmore_call 1 s hs ?_
  simp only [wpA_skip, wpA_reg, wpA_draw, wpA_seq, wpA_cond, wpA_block, wpA_exit, wpA_ret, thenQ_normal, thenQ_exit, thenQ_ret, inBlk_normal, inBlk_exit, inBlk_ret, wpOps_nil, wpOps_plain, wpOps_guard, wpG_tt, wpG_ff, wpG_tf, wpG_ft, wpG_tu, wpC_true, wpC_false, wpOp_call, AH.wpOp, wpEff_some, AOp.call?, bstep, AOp.map, Opd.ev, tget, argTm, evs, AV.cells, St.eff, St.put, applyWr, mset, terase, wpCall_fn, kCall_eq, pureE, unAV, intOp, binAV, fill, List.map_nil, List.map_cons, cond_true, cond_false, Nat.reduceBEq, List.length_cons, List.length_nil, List.append_nil, List.nil_append, List.cons_append, mget, AH.rowAt, true_and, Nat.reduceAdd, AH.part, List.drop_zero, List.take_succ_cons, List.take_zero, Nat.zero_add, Nat.lt_add_one, Nat.le_refl, and_self, List.getD_cons_zero, List.drop, List.take, beq_self_eq_true, Nat.reduceLT, Nat.lt_irrefl, Nat.zero_lt_one, Option.map_some, ↓reduceIte, retQ, rvs, retV, Bool.not_true, Bool.not_false, ctx_call, eq_self, Nat.reduceEqDiff, if_true, AH.splice, AH.sliceElems, AH.bytesOf, List.replicate_succ, List.replicate_zero, List.flatten_cons, List.flatten_nil, List.range_succ, List.range_zero, Nat.zero_mul, Nat.mul_one, List.getD_cons_succ, Nat.reduceLeDiff, Nat.reduceSub, Nat.reduceMul, Int.toNat_natCast, AH.strOp, AH.eqAV, Option.map_none]

theorem rof_call (s : ByteArray) (hs : s.size ≤ 1048576) {m : Mem} {K : AV → Mem → Prop} (h : K (.int .u32 (refZ 1 s.data.toList)) m) : CallA1 S0 9 [.str s] m K := (rof_ok s hs).call rfl rfl h

def backZ (n b : Int) : Int := IntKind.u32.wrap (IntKind.u32.wrap (IntKind.u32.wrap (n - IntKind.u32.wrap b) - 1) * 4278255361)
theorem back_call (n b : Int) {m : Mem} {K : AV → Mem → Prop} (h : K (.int .u32 (backZ n b)) m) : CallA1 S0 7 [.int .u32 n, .int .u8 b] m K := (back_ok n b).call rfl rfl h

theorem awake_ok : Pure S0 6 [] (.bool true) := by
  refine fun_sound okC Try.func6 c6 ?_
  unfold wpF F6
  simp only [wpA_skip, wpA_reg, wpA_draw, wpA_seq, wpA_cond, wpA_block, wpA_exit, wpA_ret, thenQ_normal, thenQ_exit, thenQ_ret, inBlk_normal, inBlk_exit, inBlk_ret, wpOps_nil, wpOps_plain, wpOps_guard, wpG_tt, wpG_ff, wpG_tf, wpG_ft, wpG_tu, wpC_true, wpC_false, wpOp_call, AH.wpOp, wpEff_some, AOp.call?, bstep, AOp.map, Opd.ev, tget, argTm, evs, AV.cells, St.eff, St.put, applyWr, mset, terase, wpCall_fn, kCall_eq, pureE, unAV, intOp, binAV, fill, List.map_nil, List.map_cons, cond_true, cond_false, Nat.reduceBEq, List.length_cons, List.length_nil, List.append_nil, List.nil_append, List.cons_append, mget, AH.rowAt, true_and, Nat.reduceAdd, AH.part, List.drop_zero, List.take_succ_cons, List.take_zero, Nat.zero_add, Nat.lt_add_one, Nat.le_refl, and_self, List.getD_cons_zero, List.drop, List.take, beq_self_eq_true, Nat.reduceLT, Nat.lt_irrefl, Nat.zero_lt_one, Option.map_some, ↓reduceIte, retQ, rvs, retV, Bool.not_true, Bool.not_false, ctx_call, eq_self, Nat.reduceEqDiff, if_true, AH.splice, AH.sliceElems, AH.bytesOf, List.replicate_succ, List.replicate_zero, List.flatten_cons, List.flatten_nil, List.range_succ, List.range_zero, Nat.zero_mul, Nat.mul_one, List.getD_cons_succ, Nat.reduceLeDiff, Nat.reduceSub, Nat.reduceMul, Int.toNat_natCast, AH.strOp, AH.eqAV, Option.map_none]
  refine of_call _ (by decide) ?_
  have e1 : moreZ 1 (⟨#[]⟩ : ByteArray).data.toList = 1 := rfl
  have e2 : moreZ 1 (⟨#[97]⟩ : ByteArray).data.toList = 355 := by decide
  have e3 : backZ 355 97 = 1 := by decide
  simp only [wpA_skip, wpA_reg, wpA_draw, wpA_seq, wpA_cond, wpA_block, wpA_exit, wpA_ret, thenQ_normal, thenQ_exit, thenQ_ret, inBlk_normal, inBlk_exit, inBlk_ret, wpOps_nil, wpOps_plain, wpOps_guard, wpG_tt, wpG_ff, wpG_tf, wpG_ft, wpG_tu, wpC_true, wpC_false, wpOp_call, AH.wpOp, wpEff_some, AOp.call?, bstep, AOp.map, Opd.ev, tget, argTm, evs, AV.cells, St.eff, St.put, applyWr, mset, terase, wpCall_fn, kCall_eq, pureE, unAV, intOp, binAV, fill, List.map_nil, List.map_cons, cond_true, cond_false, Nat.reduceBEq, List.length_cons, List.length_nil, List.append_nil, List.nil_append, List.cons_append, mget, AH.rowAt, true_and, Nat.reduceAdd, AH.part, List.drop_zero, List.take_succ_cons, List.take_zero, Nat.zero_add, Nat.lt_add_one, Nat.le_refl, and_self, List.getD_cons_zero, List.drop, List.take, beq_self_eq_true, Nat.reduceLT, Nat.lt_irrefl, Nat.zero_lt_one, Option.map_some, ↓reduceIte, retQ, rvs, retV, Bool.not_true, Bool.not_false, ctx_call, eq_self, Nat.reduceEqDiff, if_true, AH.splice, AH.sliceElems, AH.bytesOf, List.replicate_succ, List.replicate_zero, List.flatten_cons, List.flatten_nil, List.range_succ, List.range_zero, Nat.zero_mul, Nat.mul_one, List.getD_cons_succ, Nat.reduceLeDiff, Nat.reduceSub, Nat.reduceMul, Int.toNat_natCast, AH.strOp, AH.eqAV, Option.map_none, e1]
  refine of_call _ (by decide) ?_
  simp only [wpA_skip, wpA_reg, wpA_draw, wpA_seq, wpA_cond, wpA_block, wpA_exit, wpA_ret, thenQ_normal, thenQ_exit, thenQ_ret, inBlk_normal, inBlk_exit, inBlk_ret, wpOps_nil, wpOps_plain, wpOps_guard, wpG_tt, wpG_ff, wpG_tf, wpG_ft, wpG_tu, wpC_true, wpC_false, wpOp_call, AH.wpOp, wpEff_some, AOp.call?, bstep, AOp.map, Opd.ev, tget, argTm, evs, AV.cells, St.eff, St.put, applyWr, mset, terase, wpCall_fn, kCall_eq, pureE, unAV, intOp, binAV, fill, List.map_nil, List.map_cons, cond_true, cond_false, Nat.reduceBEq, List.length_cons, List.length_nil, List.append_nil, List.nil_append, List.cons_append, mget, AH.rowAt, true_and, Nat.reduceAdd, AH.part, List.drop_zero, List.take_succ_cons, List.take_zero, Nat.zero_add, Nat.lt_add_one, Nat.le_refl, and_self, List.getD_cons_zero, List.drop, List.take, beq_self_eq_true, Nat.reduceLT, Nat.lt_irrefl, Nat.zero_lt_one, Option.map_some, ↓reduceIte, retQ, rvs, retV, Bool.not_true, Bool.not_false, ctx_call, eq_self, Nat.reduceEqDiff, if_true, AH.splice, AH.sliceElems, AH.bytesOf, List.replicate_succ, List.replicate_zero, List.flatten_cons, List.flatten_nil, List.range_succ, List.range_zero, Nat.zero_mul, Nat.mul_one, List.getD_cons_succ, Nat.reduceLeDiff, Nat.reduceSub, Nat.reduceMul, Int.toNat_natCast, AH.strOp, AH.eqAV, Option.map_none, e2]
  refine back_call _ _ ?_
  simp only [wpA_skip, wpA_reg, wpA_draw, wpA_seq, wpA_cond, wpA_block, wpA_exit, wpA_ret, thenQ_normal, thenQ_exit, thenQ_ret, inBlk_normal, inBlk_exit, inBlk_ret, wpOps_nil, wpOps_plain, wpOps_guard, wpG_tt, wpG_ff, wpG_tf, wpG_ft, wpG_tu, wpC_true, wpC_false, wpOp_call, AH.wpOp, wpEff_some, AOp.call?, bstep, AOp.map, Opd.ev, tget, argTm, evs, AV.cells, St.eff, St.put, applyWr, mset, terase, wpCall_fn, kCall_eq, pureE, unAV, intOp, binAV, fill, List.map_nil, List.map_cons, cond_true, cond_false, Nat.reduceBEq, List.length_cons, List.length_nil, List.append_nil, List.nil_append, List.cons_append, mget, AH.rowAt, true_and, Nat.reduceAdd, AH.part, List.drop_zero, List.take_succ_cons, List.take_zero, Nat.zero_add, Nat.lt_add_one, Nat.le_refl, and_self, List.getD_cons_zero, List.drop, List.take, beq_self_eq_true, Nat.reduceLT, Nat.lt_irrefl, Nat.zero_lt_one, Option.map_some, ↓reduceIte, retQ, rvs, retV, Bool.not_true, Bool.not_false, ctx_call, eq_self, Nat.reduceEqDiff, if_true, AH.splice, AH.sliceElems, AH.bytesOf, List.replicate_succ, List.replicate_zero, List.flatten_cons, List.flatten_nil, List.range_succ, List.range_zero, Nat.zero_mul, Nat.mul_one, List.getD_cons_succ, Nat.reduceLeDiff, Nat.reduceSub, Nat.reduceMul, Int.toNat_natCast, AH.strOp, AH.eqAV, Option.map_none, e3]

theorem awake_call {m : Mem} {K : AV → Mem → Prop} (h : K (.bool true) m) : CallA1 S0 6 [] m K := awake_ok.call rfl rfl h

/-- The plain step. -/
def nx (n : Int) (b : UInt8) : Int := (n * 257 + b.toNat + 1) % 4294967296

theorem byte_lt (b : UInt8) : b.toNat < 256 := b.toNat_lt

theorem step_nx (n : Int) (b : UInt8) : step32 n b = nx n b := by
  have := byte_lt b
  simp only [step32, nx, IntKind.wrap_u32]
  omega

theorem nx_range (n : Int) (b : UInt8) : 0 ≤ nx n b ∧ nx n b < 4294967296 := by
  simp only [nx]; omega

theorem rstep_nx {n : Int} (h0 : 0 ≤ n) (h1 : n < 4294967296) (b : UInt8) : rstep n b = nx n b := by
  have := byte_lt b
  simp only [rstep, nx, IntKind.wrap_u64]
  have e : (((n * 257 % 18446744073709551616 + (b.toNat : Int) % 18446744073709551616) % 18446744073709551616 + 1) % 18446744073709551616) = n * 257 + b.toNat + 1 := by omega
  rw [e, Int.tmod_eq_emod_of_nonneg (by omega)]

theorem more_nx (l : List UInt8) (n : Int) : moreZ n l = l.foldl nx n := by
  unfold moreZ
  congr 1
  funext n b
  exact step_nx n b

theorem fold_range (l : List UInt8) : ∀ {n : Int}, 0 ≤ n → n < 4294967296 → 0 ≤ l.foldl nx n ∧ l.foldl nx n < 4294967296 := by
  induction l with
  | nil => intro n h0 h1; exact ⟨h0, h1⟩
  | cons b l ih => intro n _ _; rw [List.foldl_cons]; exact ih (nx_range n b).1 (nx_range n b).2

theorem rfold_nx (l : List UInt8) : ∀ {n : Int}, 0 ≤ n → n < 4294967296 → l.foldl rstep n = l.foldl nx n := by
  induction l with
  | nil => intro n _ _; simp only [List.foldl_nil]
  | cons b l ih =>
    intro n h0 h1
    simp only [List.foldl_cons, rstep_nx h0 h1, ih (nx_range n b).1 (nx_range n b).2]

theorem ref_nx (l : List UInt8) {n : Int} (h0 : 0 ≤ n) (h1 : n < 4294967296) : refZ n l = l.foldl nx n := by
  have e : IntKind.u64.wrap n = n := by rw [IntKind.wrap_u64]; omega
  obtain ⟨g1, g2⟩ := fold_range l h0 h1
  rw [refZ, e, rfold_nx l h0 h1, IntKind.wrap_u32]
  omega

theorem ref_more (l : List UInt8) {n : Int} (h0 : 0 ≤ n) (h1 : n < 4294967296) : refZ n l = moreZ n l := by rw [ref_nx l h0 h1, more_nx]

theorem back_range (n b : Int) : 0 ≤ backZ n b ∧ backZ n b < 4294967296 := by
  simp only [backZ, IntKind.wrap_u32]; omega

theorem nx_back {n : Int} (h0 : 0 ≤ n) (h1 : n < 4294967296) (b : UInt8) : nx (backZ n b.toNat) b = n := by
  have := byte_lt b
  simp only [nx, backZ, IntKind.wrap_u32]
  omega

theorem back_nx {n : Int} (h0 : 0 ≤ n) (h1 : n < 4294967296) (b : UInt8) : backZ (nx n b) b.toNat = n := by
  have := byte_lt b
  simp only [nx, backZ, IntKind.wrap_u32]
  omega

theorem exact_ok (n : Int) (s : ByteArray) (b : Int) (h0 : 0 ≤ n) (h1 : n < 4294967296) (hb0 : 0 ≤ b) (hb1 : b < 256) : Pure S0 3 [.int .u32 n, .str s, .int .u8 b] (.bool true) := by
  refine fun_sound okC Try.func3 c3 ?_
  unfold wpF F3
  simp only [wpA_skip, wpA_reg, wpA_draw, wpA_seq, wpA_cond, wpA_block, wpA_exit, wpA_ret, thenQ_normal, thenQ_exit, thenQ_ret, inBlk_normal, inBlk_exit, inBlk_ret, wpOps_nil, wpOps_plain, wpOps_guard, wpG_tt, wpG_ff, wpG_tf, wpG_ft, wpG_tu, wpC_true, wpC_false, wpOp_call, AH.wpOp, wpEff_some, AOp.call?, bstep, AOp.map, Opd.ev, tget, argTm, evs, AV.cells, St.eff, St.put, applyWr, mset, terase, wpCall_fn, kCall_eq, pureE, unAV, intOp, binAV, fill, List.map_nil, List.map_cons, cond_true, cond_false, Nat.reduceBEq, List.length_cons, List.length_nil, List.append_nil, List.nil_append, List.cons_append, mget, AH.rowAt, true_and, Nat.reduceAdd, AH.part, List.drop_zero, List.take_succ_cons, List.take_zero, Nat.zero_add, Nat.lt_add_one, Nat.le_refl, and_self, List.getD_cons_zero, List.drop, List.take, beq_self_eq_true, Nat.reduceLT, Nat.lt_irrefl, Nat.zero_lt_one, Option.map_some, ↓reduceIte, retQ, rvs, retV, Bool.not_true, Bool.not_false, ctx_call, eq_self, Nat.reduceEqDiff, if_true, AH.splice, AH.sliceElems, AH.bytesOf, List.replicate_succ, List.replicate_zero, List.flatten_cons, List.flatten_nil, List.range_succ, List.range_zero, Nat.zero_mul, Nat.mul_one, List.getD_cons_succ, Nat.reduceLeDiff, Nat.reduceSub, Nat.reduceMul, Int.toNat_natCast, AH.strOp, AH.eqAV, Option.map_none]
  refine awake_call ?_
  simp only [wpA_skip, wpA_reg, wpA_draw, wpA_seq, wpA_cond, wpA_block, wpA_exit, wpA_ret, thenQ_normal, thenQ_exit, thenQ_ret, inBlk_normal, inBlk_exit, inBlk_ret, wpOps_nil, wpOps_plain, wpOps_guard, wpG_tt, wpG_ff, wpG_tf, wpG_ft, wpG_tu, wpC_true, wpC_false, wpOp_call, AH.wpOp, wpEff_some, AOp.call?, bstep, AOp.map, Opd.ev, tget, argTm, evs, AV.cells, St.eff, St.put, applyWr, mset, terase, wpCall_fn, kCall_eq, pureE, unAV, intOp, binAV, fill, List.map_nil, List.map_cons, cond_true, cond_false, Nat.reduceBEq, List.length_cons, List.length_nil, List.append_nil, List.nil_append, List.cons_append, mget, AH.rowAt, true_and, Nat.reduceAdd, AH.part, List.drop_zero, List.take_succ_cons, List.take_zero, Nat.zero_add, Nat.lt_add_one, Nat.le_refl, and_self, List.getD_cons_zero, List.drop, List.take, beq_self_eq_true, Nat.reduceLT, Nat.lt_irrefl, Nat.zero_lt_one, Option.map_some, ↓reduceIte, retQ, rvs, retV, Bool.not_true, Bool.not_false, ctx_call, eq_self, Nat.reduceEqDiff, if_true, AH.splice, AH.sliceElems, AH.bytesOf, List.replicate_succ, List.replicate_zero, List.flatten_cons, List.flatten_nil, List.range_succ, List.range_zero, Nat.zero_mul, Nat.mul_one, List.getD_cons_succ, Nat.reduceLeDiff, Nat.reduceSub, Nat.reduceMul, Int.toNat_natCast, AH.strOp, AH.eqAV, Option.map_none]
  refine ⟨fun h => ?_, fun h => ?_⟩
  · simp only [wpA_skip, wpA_reg, wpA_draw, wpA_seq, wpA_cond, wpA_block, wpA_exit, wpA_ret, thenQ_normal, thenQ_exit, thenQ_ret, inBlk_normal, inBlk_exit, inBlk_ret, wpOps_nil, wpOps_plain, wpOps_guard, wpG_tt, wpG_ff, wpG_tf, wpG_ft, wpG_tu, wpC_true, wpC_false, wpOp_call, AH.wpOp, wpEff_some, AOp.call?, bstep, AOp.map, Opd.ev, tget, argTm, evs, AV.cells, St.eff, St.put, applyWr, mset, terase, wpCall_fn, kCall_eq, pureE, unAV, intOp, binAV, fill, List.map_nil, List.map_cons, cond_true, cond_false, Nat.reduceBEq, List.length_cons, List.length_nil, List.append_nil, List.nil_append, List.cons_append, mget, AH.rowAt, true_and, Nat.reduceAdd, AH.part, List.drop_zero, List.take_succ_cons, List.take_zero, Nat.zero_add, Nat.lt_add_one, Nat.le_refl, and_self, List.getD_cons_zero, List.drop, List.take, beq_self_eq_true, Nat.reduceLT, Nat.lt_irrefl, Nat.zero_lt_one, Option.map_some, ↓reduceIte, retQ, rvs, retV, Bool.not_true, Bool.not_false, ctx_call, eq_self, Nat.reduceEqDiff, if_true, AH.splice, AH.sliceElems, AH.bytesOf, List.replicate_succ, List.replicate_zero, List.flatten_cons, List.flatten_nil, List.range_succ, List.range_zero, Nat.zero_mul, Nat.mul_one, List.getD_cons_succ, Nat.reduceLeDiff, Nat.reduceSub, Nat.reduceMul, Int.toNat_natCast, AH.strOp, AH.eqAV, Option.map_none]
  · simp only [wpA_skip, wpA_reg, wpA_draw, wpA_seq, wpA_cond, wpA_block, wpA_exit, wpA_ret, thenQ_normal, thenQ_exit, thenQ_ret, inBlk_normal, inBlk_exit, inBlk_ret, wpOps_nil, wpOps_plain, wpOps_guard, wpG_tt, wpG_ff, wpG_tf, wpG_ft, wpG_tu, wpC_true, wpC_false, wpOp_call, AH.wpOp, wpEff_some, AOp.call?, bstep, AOp.map, Opd.ev, tget, argTm, evs, AV.cells, St.eff, St.put, applyWr, mset, terase, wpCall_fn, kCall_eq, pureE, unAV, intOp, binAV, fill, List.map_nil, List.map_cons, cond_true, cond_false, Nat.reduceBEq, List.length_cons, List.length_nil, List.append_nil, List.nil_append, List.cons_append, mget, AH.rowAt, true_and, Nat.reduceAdd, AH.part, List.drop_zero, List.take_succ_cons, List.take_zero, Nat.zero_add, Nat.lt_add_one, Nat.le_refl, and_self, List.getD_cons_zero, List.drop, List.take, beq_self_eq_true, Nat.reduceLT, Nat.lt_irrefl, Nat.zero_lt_one, Option.map_some, ↓reduceIte, retQ, rvs, retV, Bool.not_true, Bool.not_false, ctx_call, eq_self, Nat.reduceEqDiff, if_true, AH.splice, AH.sliceElems, AH.bytesOf, List.replicate_succ, List.replicate_zero, List.flatten_cons, List.flatten_nil, List.range_succ, List.range_zero, Nat.zero_mul, Nat.mul_one, List.getD_cons_succ, Nat.reduceLeDiff, Nat.reduceSub, Nat.reduceMul, Int.toNat_natCast, AH.strOp, AH.eqAV, Option.map_none]
    have hs : s.size ≤ 1024 := by simp only [decide_eq_false_iff_not] at h; omega
    refine back_call _ _ ?_
    simp only [wpA_skip, wpA_reg, wpA_draw, wpA_seq, wpA_cond, wpA_block, wpA_exit, wpA_ret, thenQ_normal, thenQ_exit, thenQ_ret, inBlk_normal, inBlk_exit, inBlk_ret, wpOps_nil, wpOps_plain, wpOps_guard, wpG_tt, wpG_ff, wpG_tf, wpG_ft, wpG_tu, wpC_true, wpC_false, wpOp_call, AH.wpOp, wpEff_some, AOp.call?, bstep, AOp.map, Opd.ev, tget, argTm, evs, AV.cells, St.eff, St.put, applyWr, mset, terase, wpCall_fn, kCall_eq, pureE, unAV, intOp, binAV, fill, List.map_nil, List.map_cons, cond_true, cond_false, Nat.reduceBEq, List.length_cons, List.length_nil, List.append_nil, List.nil_append, List.cons_append, mget, AH.rowAt, true_and, Nat.reduceAdd, AH.part, List.drop_zero, List.take_succ_cons, List.take_zero, Nat.zero_add, Nat.lt_add_one, Nat.le_refl, and_self, List.getD_cons_zero, List.drop, List.take, beq_self_eq_true, Nat.reduceLT, Nat.lt_irrefl, Nat.zero_lt_one, Option.map_some, ↓reduceIte, retQ, rvs, retV, Bool.not_true, Bool.not_false, ctx_call, eq_self, Nat.reduceEqDiff, if_true, AH.splice, AH.sliceElems, AH.bytesOf, List.replicate_succ, List.replicate_zero, List.flatten_cons, List.flatten_nil, List.range_succ, List.range_zero, Nat.zero_mul, Nat.mul_one, List.getD_cons_succ, Nat.reduceLeDiff, Nat.reduceSub, Nat.reduceMul, Int.toNat_natCast, AH.strOp, AH.eqAV, Option.map_none]
    refine of_call s (by omega) ?_
    simp only [wpA_skip, wpA_reg, wpA_draw, wpA_seq, wpA_cond, wpA_block, wpA_exit, wpA_ret, thenQ_normal, thenQ_exit, thenQ_ret, inBlk_normal, inBlk_exit, inBlk_ret, wpOps_nil, wpOps_plain, wpOps_guard, wpG_tt, wpG_ff, wpG_tf, wpG_ft, wpG_tu, wpC_true, wpC_false, wpOp_call, AH.wpOp, wpEff_some, AOp.call?, bstep, AOp.map, Opd.ev, tget, argTm, evs, AV.cells, St.eff, St.put, applyWr, mset, terase, wpCall_fn, kCall_eq, pureE, unAV, intOp, binAV, fill, List.map_nil, List.map_cons, cond_true, cond_false, Nat.reduceBEq, List.length_cons, List.length_nil, List.append_nil, List.nil_append, List.cons_append, mget, AH.rowAt, true_and, Nat.reduceAdd, AH.part, List.drop_zero, List.take_succ_cons, List.take_zero, Nat.zero_add, Nat.lt_add_one, Nat.le_refl, and_self, List.getD_cons_zero, List.drop, List.take, beq_self_eq_true, Nat.reduceLT, Nat.lt_irrefl, Nat.zero_lt_one, Option.map_some, ↓reduceIte, retQ, rvs, retV, Bool.not_true, Bool.not_false, ctx_call, eq_self, Nat.reduceEqDiff, if_true, AH.splice, AH.sliceElems, AH.bytesOf, List.replicate_succ, List.replicate_zero, List.flatten_cons, List.flatten_nil, List.range_succ, List.range_zero, Nat.zero_mul, Nat.mul_one, List.getD_cons_succ, Nat.reduceLeDiff, Nat.reduceSub, Nat.reduceMul, Int.toNat_natCast, AH.strOp, AH.eqAV, Option.map_none]
    refine rof_call s (by omega) ?_
    have e1 : refZ 1 s.data.toList = moreZ 1 s.data.toList := ref_more _ (by decide) (by decide)
    simp only [wpA_skip, wpA_reg, wpA_draw, wpA_seq, wpA_cond, wpA_block, wpA_exit, wpA_ret, thenQ_normal, thenQ_exit, thenQ_ret, inBlk_normal, inBlk_exit, inBlk_ret, wpOps_nil, wpOps_plain, wpOps_guard, wpG_tt, wpG_ff, wpG_tf, wpG_ft, wpG_tu, wpC_true, wpC_false, wpOp_call, AH.wpOp, wpEff_some, AOp.call?, bstep, AOp.map, Opd.ev, tget, argTm, evs, AV.cells, St.eff, St.put, applyWr, mset, terase, wpCall_fn, kCall_eq, pureE, unAV, intOp, binAV, fill, List.map_nil, List.map_cons, cond_true, cond_false, Nat.reduceBEq, List.length_cons, List.length_nil, List.append_nil, List.nil_append, List.cons_append, mget, AH.rowAt, true_and, Nat.reduceAdd, AH.part, List.drop_zero, List.take_succ_cons, List.take_zero, Nat.zero_add, Nat.lt_add_one, Nat.le_refl, and_self, List.getD_cons_zero, List.drop, List.take, beq_self_eq_true, Nat.reduceLT, Nat.lt_irrefl, Nat.zero_lt_one, Option.map_some, ↓reduceIte, retQ, rvs, retV, Bool.not_true, Bool.not_false, ctx_call, eq_self, Nat.reduceEqDiff, if_true, AH.splice, AH.sliceElems, AH.bytesOf, List.replicate_succ, List.replicate_zero, List.flatten_cons, List.flatten_nil, List.range_succ, List.range_zero, Nat.zero_mul, Nat.mul_one, List.getD_cons_succ, Nat.reduceLeDiff, Nat.reduceSub, Nat.reduceMul, Int.toNat_natCast, AH.strOp, AH.eqAV, Option.map_none, e1]
    refine more_call n s (by omega) ?_
    simp only [wpA_skip, wpA_reg, wpA_draw, wpA_seq, wpA_cond, wpA_block, wpA_exit, wpA_ret, thenQ_normal, thenQ_exit, thenQ_ret, inBlk_normal, inBlk_exit, inBlk_ret, wpOps_nil, wpOps_plain, wpOps_guard, wpG_tt, wpG_ff, wpG_tf, wpG_ft, wpG_tu, wpC_true, wpC_false, wpOp_call, AH.wpOp, wpEff_some, AOp.call?, bstep, AOp.map, Opd.ev, tget, argTm, evs, AV.cells, St.eff, St.put, applyWr, mset, terase, wpCall_fn, kCall_eq, pureE, unAV, intOp, binAV, fill, List.map_nil, List.map_cons, cond_true, cond_false, Nat.reduceBEq, List.length_cons, List.length_nil, List.append_nil, List.nil_append, List.cons_append, mget, AH.rowAt, true_and, Nat.reduceAdd, AH.part, List.drop_zero, List.take_succ_cons, List.take_zero, Nat.zero_add, Nat.lt_add_one, Nat.le_refl, and_self, List.getD_cons_zero, List.drop, List.take, beq_self_eq_true, Nat.reduceLT, Nat.lt_irrefl, Nat.zero_lt_one, Option.map_some, ↓reduceIte, retQ, rvs, retV, Bool.not_true, Bool.not_false, ctx_call, eq_self, Nat.reduceEqDiff, if_true, AH.splice, AH.sliceElems, AH.bytesOf, List.replicate_succ, List.replicate_zero, List.flatten_cons, List.flatten_nil, List.range_succ, List.range_zero, Nat.zero_mul, Nat.mul_one, List.getD_cons_succ, Nat.reduceLeDiff, Nat.reduceSub, Nat.reduceMul, Int.toNat_natCast, AH.strOp, AH.eqAV, Option.map_none]
    refine rmore_call n s (by omega) ?_
    have e2 : refZ n s.data.toList = moreZ n s.data.toList := ref_more _ h0 h1
    simp only [wpA_skip, wpA_reg, wpA_draw, wpA_seq, wpA_cond, wpA_block, wpA_exit, wpA_ret, thenQ_normal, thenQ_exit, thenQ_ret, inBlk_normal, inBlk_exit, inBlk_ret, wpOps_nil, wpOps_plain, wpOps_guard, wpG_tt, wpG_ff, wpG_tf, wpG_ft, wpG_tu, wpC_true, wpC_false, wpOp_call, AH.wpOp, wpEff_some, AOp.call?, bstep, AOp.map, Opd.ev, tget, argTm, evs, AV.cells, St.eff, St.put, applyWr, mset, terase, wpCall_fn, kCall_eq, pureE, unAV, intOp, binAV, fill, List.map_nil, List.map_cons, cond_true, cond_false, Nat.reduceBEq, List.length_cons, List.length_nil, List.append_nil, List.nil_append, List.cons_append, mget, AH.rowAt, true_and, Nat.reduceAdd, AH.part, List.drop_zero, List.take_succ_cons, List.take_zero, Nat.zero_add, Nat.lt_add_one, Nat.le_refl, and_self, List.getD_cons_zero, List.drop, List.take, beq_self_eq_true, Nat.reduceLT, Nat.lt_irrefl, Nat.zero_lt_one, Option.map_some, ↓reduceIte, retQ, rvs, retV, Bool.not_true, Bool.not_false, ctx_call, eq_self, Nat.reduceEqDiff, if_true, AH.splice, AH.sliceElems, AH.bytesOf, List.replicate_succ, List.replicate_zero, List.flatten_cons, List.flatten_nil, List.range_succ, List.range_zero, Nat.zero_mul, Nat.mul_one, List.getD_cons_succ, Nat.reduceLeDiff, Nat.reduceSub, Nat.reduceMul, Int.toNat_natCast, AH.strOp, AH.eqAV, Option.map_none, e2]
    refine rmore_call _ _ (by show 1 ≤ 1048576; decide) ?_
    have hbb : ((UInt8.ofNat b.toNat).toNat : Int) = b := by
      rw [UInt8.toNat_ofNat']
      omega
    have e3 : refZ (backZ n b) (⟨#[UInt8.ofNat b.toNat]⟩ : ByteArray).data.toList = n := by
      rw [ref_nx _ (back_range n b).1 (back_range n b).2]
      show nx (backZ n b) (UInt8.ofNat b.toNat) = n
      conv => lhs; rw [← hbb]
      rw [show UInt8.ofNat ((UInt8.ofNat b.toNat).toNat : Int).toNat = UInt8.ofNat b.toNat by rw [hbb]]
      exact nx_back h0 h1 _
    simp only [wpA_skip, wpA_reg, wpA_draw, wpA_seq, wpA_cond, wpA_block, wpA_exit, wpA_ret, thenQ_normal, thenQ_exit, thenQ_ret, inBlk_normal, inBlk_exit, inBlk_ret, wpOps_nil, wpOps_plain, wpOps_guard, wpG_tt, wpG_ff, wpG_tf, wpG_ft, wpG_tu, wpC_true, wpC_false, wpOp_call, AH.wpOp, wpEff_some, AOp.call?, bstep, AOp.map, Opd.ev, tget, argTm, evs, AV.cells, St.eff, St.put, applyWr, mset, terase, wpCall_fn, kCall_eq, pureE, unAV, intOp, binAV, fill, List.map_nil, List.map_cons, cond_true, cond_false, Nat.reduceBEq, List.length_cons, List.length_nil, List.append_nil, List.nil_append, List.cons_append, mget, AH.rowAt, true_and, Nat.reduceAdd, AH.part, List.drop_zero, List.take_succ_cons, List.take_zero, Nat.zero_add, Nat.lt_add_one, Nat.le_refl, and_self, List.getD_cons_zero, List.drop, List.take, beq_self_eq_true, Nat.reduceLT, Nat.lt_irrefl, Nat.zero_lt_one, Option.map_some, ↓reduceIte, retQ, rvs, retV, Bool.not_true, Bool.not_false, ctx_call, eq_self, Nat.reduceEqDiff, if_true, AH.splice, AH.sliceElems, AH.bytesOf, List.replicate_succ, List.replicate_zero, List.flatten_cons, List.flatten_nil, List.range_succ, List.range_zero, Nat.zero_mul, Nat.mul_one, List.getD_cons_succ, Nat.reduceLeDiff, Nat.reduceSub, Nat.reduceMul, Int.toNat_natCast, AH.strOp, AH.eqAV, Option.map_none, e3]

/-- One byte as a text. -/
def chr (b : Int) : UInt8 := UInt8.ofNat b.toNat

theorem back_ok5 (n : Int) (s : ByteArray) (h0 : 0 ≤ n) (h1 : n < 4294967296) : Pure S0 5 [.int .u32 n, .str s] (.bool true) := by
  refine fun_sound okC Try.func5 c5 ?_
  unfold wpF F5
  simp only [wpA_skip, wpA_reg, wpA_draw, wpA_seq, wpA_cond, wpA_block, wpA_exit, wpA_ret, thenQ_normal, thenQ_exit, thenQ_ret, inBlk_normal, inBlk_exit, inBlk_ret, wpOps_nil, wpOps_plain, wpOps_guard, wpG_tt, wpG_ff, wpG_tf, wpG_ft, wpG_tu, wpC_true, wpC_false, wpOp_call, AH.wpOp, wpEff_some, AOp.call?, bstep, AOp.map, Opd.ev, tget, argTm, evs, AV.cells, St.eff, St.put, applyWr, mset, terase, wpCall_fn, kCall_eq, pureE, unAV, intOp, binAV, fill, List.map_nil, List.map_cons, cond_true, cond_false, Nat.reduceBEq, List.length_cons, List.length_nil, List.append_nil, List.nil_append, List.cons_append, mget, AH.rowAt, true_and, Nat.reduceAdd, AH.part, List.drop_zero, List.take_succ_cons, List.take_zero, Nat.zero_add, Nat.lt_add_one, Nat.le_refl, and_self, List.getD_cons_zero, List.drop, List.take, beq_self_eq_true, Nat.reduceLT, Nat.lt_irrefl, Nat.zero_lt_one, Option.map_some, ↓reduceIte, retQ, rvs, retV, Bool.not_true, Bool.not_false, ctx_call, eq_self, Nat.reduceEqDiff, if_true, AH.splice, AH.sliceElems, AH.bytesOf, List.replicate_succ, List.replicate_zero, List.flatten_cons, List.flatten_nil, List.range_succ, List.range_zero, Nat.zero_mul, Nat.mul_one, List.getD_cons_succ, Nat.reduceLeDiff, Nat.reduceSub, Nat.reduceMul, Int.toNat_natCast, AH.strOp, AH.eqAV, Option.map_none]
  refine awake_call ?_
  simp only [wpA_skip, wpA_reg, wpA_draw, wpA_seq, wpA_cond, wpA_block, wpA_exit, wpA_ret, thenQ_normal, thenQ_exit, thenQ_ret, inBlk_normal, inBlk_exit, inBlk_ret, wpOps_nil, wpOps_plain, wpOps_guard, wpG_tt, wpG_ff, wpG_tf, wpG_ft, wpG_tu, wpC_true, wpC_false, wpOp_call, AH.wpOp, wpEff_some, AOp.call?, bstep, AOp.map, Opd.ev, tget, argTm, evs, AV.cells, St.eff, St.put, applyWr, mset, terase, wpCall_fn, kCall_eq, pureE, unAV, intOp, binAV, fill, List.map_nil, List.map_cons, cond_true, cond_false, Nat.reduceBEq, List.length_cons, List.length_nil, List.append_nil, List.nil_append, List.cons_append, mget, AH.rowAt, true_and, Nat.reduceAdd, AH.part, List.drop_zero, List.take_succ_cons, List.take_zero, Nat.zero_add, Nat.lt_add_one, Nat.le_refl, and_self, List.getD_cons_zero, List.drop, List.take, beq_self_eq_true, Nat.reduceLT, Nat.lt_irrefl, Nat.zero_lt_one, Option.map_some, ↓reduceIte, retQ, rvs, retV, Bool.not_true, Bool.not_false, ctx_call, eq_self, Nat.reduceEqDiff, if_true, AH.splice, AH.sliceElems, AH.bytesOf, List.replicate_succ, List.replicate_zero, List.flatten_cons, List.flatten_nil, List.range_succ, List.range_zero, Nat.zero_mul, Nat.mul_one, List.getD_cons_succ, Nat.reduceLeDiff, Nat.reduceSub, Nat.reduceMul, Int.toNat_natCast, AH.strOp, AH.eqAV, Option.map_none]
  refine ⟨fun h => ?_, fun h => ?_⟩
  · simp only [wpA_skip, wpA_reg, wpA_draw, wpA_seq, wpA_cond, wpA_block, wpA_exit, wpA_ret, thenQ_normal, thenQ_exit, thenQ_ret, inBlk_normal, inBlk_exit, inBlk_ret, wpOps_nil, wpOps_plain, wpOps_guard, wpG_tt, wpG_ff, wpG_tf, wpG_ft, wpG_tu, wpC_true, wpC_false, wpOp_call, AH.wpOp, wpEff_some, AOp.call?, bstep, AOp.map, Opd.ev, tget, argTm, evs, AV.cells, St.eff, St.put, applyWr, mset, terase, wpCall_fn, kCall_eq, pureE, unAV, intOp, binAV, fill, List.map_nil, List.map_cons, cond_true, cond_false, Nat.reduceBEq, List.length_cons, List.length_nil, List.append_nil, List.nil_append, List.cons_append, mget, AH.rowAt, true_and, Nat.reduceAdd, AH.part, List.drop_zero, List.take_succ_cons, List.take_zero, Nat.zero_add, Nat.lt_add_one, Nat.le_refl, and_self, List.getD_cons_zero, List.drop, List.take, beq_self_eq_true, Nat.reduceLT, Nat.lt_irrefl, Nat.zero_lt_one, Option.map_some, ↓reduceIte, retQ, rvs, retV, Bool.not_true, Bool.not_false, ctx_call, eq_self, Nat.reduceEqDiff, if_true, AH.splice, AH.sliceElems, AH.bytesOf, List.replicate_succ, List.replicate_zero, List.flatten_cons, List.flatten_nil, List.range_succ, List.range_zero, Nat.zero_mul, Nat.mul_one, List.getD_cons_succ, Nat.reduceLeDiff, Nat.reduceSub, Nat.reduceMul, Int.toNat_natCast, AH.strOp, AH.eqAV, Option.map_none]
  · simp only [wpA_skip, wpA_reg, wpA_draw, wpA_seq, wpA_cond, wpA_block, wpA_exit, wpA_ret, thenQ_normal, thenQ_exit, thenQ_ret, inBlk_normal, inBlk_exit, inBlk_ret, wpOps_nil, wpOps_plain, wpOps_guard, wpG_tt, wpG_ff, wpG_tf, wpG_ft, wpG_tu, wpC_true, wpC_false, wpOp_call, AH.wpOp, wpEff_some, AOp.call?, bstep, AOp.map, Opd.ev, tget, argTm, evs, AV.cells, St.eff, St.put, applyWr, mset, terase, wpCall_fn, kCall_eq, pureE, unAV, intOp, binAV, fill, List.map_nil, List.map_cons, cond_true, cond_false, Nat.reduceBEq, List.length_cons, List.length_nil, List.append_nil, List.nil_append, List.cons_append, mget, AH.rowAt, true_and, Nat.reduceAdd, AH.part, List.drop_zero, List.take_succ_cons, List.take_zero, Nat.zero_add, Nat.lt_add_one, Nat.le_refl, and_self, List.getD_cons_zero, List.drop, List.take, beq_self_eq_true, Nat.reduceLT, Nat.lt_irrefl, Nat.zero_lt_one, Option.map_some, ↓reduceIte, retQ, rvs, retV, Bool.not_true, Bool.not_false, ctx_call, eq_self, Nat.reduceEqDiff, if_true, AH.splice, AH.sliceElems, AH.bytesOf, List.replicate_succ, List.replicate_zero, List.flatten_cons, List.flatten_nil, List.range_succ, List.range_zero, Nat.zero_mul, Nat.mul_one, List.getD_cons_succ, Nat.reduceLeDiff, Nat.reduceSub, Nat.reduceMul, Int.toNat_natCast, AH.strOp, AH.eqAV, Option.map_none]
    have hs : s.size ≤ 512 := by simp only [decide_eq_false_iff_not] at h; omega
    refine more_call n s (by omega) ?_
    simp only [wpA_skip, wpA_reg, wpA_draw, wpA_seq, wpA_cond, wpA_block, wpA_exit, wpA_ret, thenQ_normal, thenQ_exit, thenQ_ret, inBlk_normal, inBlk_exit, inBlk_ret, wpOps_nil, wpOps_plain, wpOps_guard, wpG_tt, wpG_ff, wpG_tf, wpG_ft, wpG_tu, wpC_true, wpC_false, wpOp_call, AH.wpOp, wpEff_some, AOp.call?, bstep, AOp.map, Opd.ev, tget, argTm, evs, AV.cells, St.eff, St.put, applyWr, mset, terase, wpCall_fn, kCall_eq, pureE, unAV, intOp, binAV, fill, List.map_nil, List.map_cons, cond_true, cond_false, Nat.reduceBEq, List.length_cons, List.length_nil, List.append_nil, List.nil_append, List.cons_append, mget, AH.rowAt, true_and, Nat.reduceAdd, AH.part, List.drop_zero, List.take_succ_cons, List.take_zero, Nat.zero_add, Nat.lt_add_one, Nat.le_refl, and_self, List.getD_cons_zero, List.drop, List.take, beq_self_eq_true, Nat.reduceLT, Nat.lt_irrefl, Nat.zero_lt_one, Option.map_some, ↓reduceIte, retQ, rvs, retV, Bool.not_true, Bool.not_false, ctx_call, eq_self, Nat.reduceEqDiff, if_true, AH.splice, AH.sliceElems, AH.bytesOf, List.replicate_succ, List.replicate_zero, List.flatten_cons, List.flatten_nil, List.range_succ, List.range_zero, Nat.zero_mul, Nat.mul_one, List.getD_cons_succ, Nat.reduceLeDiff, Nat.reduceSub, Nat.reduceMul, Int.toNat_natCast, AH.strOp, AH.eqAV, Option.map_none]
    have hsz : s.data.toList.length = s.size := by rw [Array.length_toList]; rfl
    have ew : IntKind.i64.wrap ((s.size : Int) - 1) = (s.size : Int) - 1 := by rw [IntKind.wrap_i64]; omega
    have et : moreZ n s.data.toList = (s.data.toList.take s.size).foldl nx n := by rw [more_nx, List.take_of_length_le (by omega)]
    refine loop_rule (α := Nat) (fun k => k) (fun k => ⟨[(6, .int .i64 ((k : Int) - 1)), (5, .int .u32 ((s.data.toList.take k).foldl nx n)), (0, .int .u32 n), (1, .str s)], []⟩)
      (fun k => k ≤ s.size) s.size (Nat.le_refl _) (gc_keep (l := [(6, .int .i64 ((s.size : Int) - 1)), (5, .int .u32 ((s.data.toList.take s.size).foldl nx n)), (0, .int .u32 n), (1, .str s)]) ⟨by rw [ew]; rfl, by rw [et]; rfl, rfl, rfl, trivial⟩ rfl) ?_
    intro X k hk ih
    simp only [wpA_skip, wpA_reg, wpA_draw, wpA_seq, wpA_cond, wpA_block, wpA_exit, wpA_ret, thenQ_normal, thenQ_exit, thenQ_ret, inBlk_normal, inBlk_exit, inBlk_ret, wpOps_nil, wpOps_plain, wpOps_guard, wpG_tt, wpG_ff, wpG_tf, wpG_ft, wpG_tu, wpC_true, wpC_false, wpOp_call, AH.wpOp, wpEff_some, AOp.call?, bstep, AOp.map, Opd.ev, tget, argTm, evs, AV.cells, St.eff, St.put, applyWr, mset, terase, wpCall_fn, kCall_eq, pureE, unAV, intOp, binAV, fill, List.map_nil, List.map_cons, cond_true, cond_false, Nat.reduceBEq, List.length_cons, List.length_nil, List.append_nil, List.nil_append, List.cons_append, mget, AH.rowAt, true_and, Nat.reduceAdd, AH.part, List.drop_zero, List.take_succ_cons, List.take_zero, Nat.zero_add, Nat.lt_add_one, Nat.le_refl, and_self, List.getD_cons_zero, List.drop, List.take, beq_self_eq_true, Nat.reduceLT, Nat.lt_irrefl, Nat.zero_lt_one, Option.map_some, ↓reduceIte, retQ, rvs, retV, Bool.not_true, Bool.not_false, ctx_call, eq_self, Nat.reduceEqDiff, if_true, AH.splice, AH.sliceElems, AH.bytesOf, List.replicate_succ, List.replicate_zero, List.flatten_cons, List.flatten_nil, List.range_succ, List.range_zero, Nat.zero_mul, Nat.mul_one, List.getD_cons_succ, Nat.reduceLeDiff, Nat.reduceSub, Nat.reduceMul, Int.toNat_natCast, AH.strOp, AH.eqAV, Option.map_none]
    refine ⟨fun h => ?_, fun h => ?_⟩
    · simp only [decide_eq_true_eq] at h
      obtain ⟨j, rfl⟩ : ∃ j, k = j + 1 := ⟨k - 1, by omega⟩
      have ej : ((j + 1 : Nat) : Int) - 1 = (j : Int) := by omega
      have hjl : j < s.data.toList.length := by omega
      have hg : s.data.toList.getD j 0 = s.data.toList[j] := by rw [List.getD_eq_getElem?_getD, List.getElem?_eq_getElem hjl]; rfl
      simp only [wpA_skip, wpA_reg, wpA_draw, wpA_seq, wpA_cond, wpA_block, wpA_exit, wpA_ret, thenQ_normal, thenQ_exit, thenQ_ret, inBlk_normal, inBlk_exit, inBlk_ret, wpOps_nil, wpOps_plain, wpOps_guard, wpG_tt, wpG_ff, wpG_tf, wpG_ft, wpG_tu, wpC_true, wpC_false, wpOp_call, AH.wpOp, wpEff_some, AOp.call?, bstep, AOp.map, Opd.ev, tget, argTm, evs, AV.cells, St.eff, St.put, applyWr, mset, terase, wpCall_fn, kCall_eq, pureE, unAV, intOp, binAV, fill, List.map_nil, List.map_cons, cond_true, cond_false, Nat.reduceBEq, List.length_cons, List.length_nil, List.append_nil, List.nil_append, List.cons_append, mget, AH.rowAt, true_and, Nat.reduceAdd, AH.part, List.drop_zero, List.take_succ_cons, List.take_zero, Nat.zero_add, Nat.lt_add_one, Nat.le_refl, and_self, List.getD_cons_zero, List.drop, List.take, beq_self_eq_true, Nat.reduceLT, Nat.lt_irrefl, Nat.zero_lt_one, Option.map_some, ↓reduceIte, retQ, rvs, retV, Bool.not_true, Bool.not_false, ctx_call, eq_self, Nat.reduceEqDiff, if_true, AH.splice, AH.sliceElems, AH.bytesOf, List.replicate_succ, List.replicate_zero, List.flatten_cons, List.flatten_nil, List.range_succ, List.range_zero, Nat.zero_mul, Nat.mul_one, List.getD_cons_succ, Nat.reduceLeDiff, Nat.reduceSub, Nat.reduceMul, Int.toNat_natCast, AH.strOp, AH.eqAV, Option.map_none, ej, hg]
      refine ⟨⟨by omega, by omega⟩, ?_⟩
      refine back_call _ _ ?_
      have hw : IntKind.i64.wrap ((j : Int) - 1) = (j : Int) - 1 := by rw [IntKind.wrap_i64]; omega
      obtain ⟨g1, g2⟩ := fold_range (s.data.toList.take j) h0 h1
      have hb : backZ ((s.data.toList.take (j + 1)).foldl nx n) s.data.toList[j].toNat = (s.data.toList.take j).foldl nx n := by
        rw [List.take_add_one, List.getElem?_eq_getElem hjl, List.foldl_append]
        exact back_nx g1 g2 _
      simp only [wpA_skip, wpA_reg, wpA_draw, wpA_seq, wpA_cond, wpA_block, wpA_exit, wpA_ret, thenQ_normal, thenQ_exit, thenQ_ret, inBlk_normal, inBlk_exit, inBlk_ret, wpOps_nil, wpOps_plain, wpOps_guard, wpG_tt, wpG_ff, wpG_tf, wpG_ft, wpG_tu, wpC_true, wpC_false, wpOp_call, AH.wpOp, wpEff_some, AOp.call?, bstep, AOp.map, Opd.ev, tget, argTm, evs, AV.cells, St.eff, St.put, applyWr, mset, terase, wpCall_fn, kCall_eq, pureE, unAV, intOp, binAV, fill, List.map_nil, List.map_cons, cond_true, cond_false, Nat.reduceBEq, List.length_cons, List.length_nil, List.append_nil, List.nil_append, List.cons_append, mget, AH.rowAt, true_and, Nat.reduceAdd, AH.part, List.drop_zero, List.take_succ_cons, List.take_zero, Nat.zero_add, Nat.lt_add_one, Nat.le_refl, and_self, List.getD_cons_zero, List.drop, List.take, beq_self_eq_true, Nat.reduceLT, Nat.lt_irrefl, Nat.zero_lt_one, Option.map_some, ↓reduceIte, retQ, rvs, retV, Bool.not_true, Bool.not_false, ctx_call, eq_self, Nat.reduceEqDiff, if_true, AH.splice, AH.sliceElems, AH.bytesOf, List.replicate_succ, List.replicate_zero, List.flatten_cons, List.flatten_nil, List.range_succ, List.range_zero, Nat.zero_mul, Nat.mul_one, List.getD_cons_succ, Nat.reduceLeDiff, Nat.reduceSub, Nat.reduceMul, Int.toNat_natCast, AH.strOp, AH.eqAV, Option.map_none, hw, hb]
      refine gc_keep (l := [(6, .int .i64 ((j : Int) - 1)), (5, .int .u32 ((s.data.toList.take j).foldl nx n)), (0, .int .u32 n), (1, .str s)]) ⟨rfl, rfl, rfl, rfl, trivial⟩ ?_
      exact ih j (by omega) (by omega)
    · simp only [decide_eq_false_iff_not] at h
      have hk0 : k = 0 := by omega
      subst hk0
      simp only [wpA_skip, wpA_reg, wpA_draw, wpA_seq, wpA_cond, wpA_block, wpA_exit, wpA_ret, thenQ_normal, thenQ_exit, thenQ_ret, inBlk_normal, inBlk_exit, inBlk_ret, wpOps_nil, wpOps_plain, wpOps_guard, wpG_tt, wpG_ff, wpG_tf, wpG_ft, wpG_tu, wpC_true, wpC_false, wpOp_call, AH.wpOp, wpEff_some, AOp.call?, bstep, AOp.map, Opd.ev, tget, argTm, evs, AV.cells, St.eff, St.put, applyWr, mset, terase, wpCall_fn, kCall_eq, pureE, unAV, intOp, binAV, fill, List.map_nil, List.map_cons, cond_true, cond_false, Nat.reduceBEq, List.length_cons, List.length_nil, List.append_nil, List.nil_append, List.cons_append, mget, AH.rowAt, true_and, Nat.reduceAdd, AH.part, List.drop_zero, List.take_succ_cons, List.take_zero, Nat.zero_add, Nat.lt_add_one, Nat.le_refl, and_self, List.getD_cons_zero, List.drop, List.take, beq_self_eq_true, Nat.reduceLT, Nat.lt_irrefl, Nat.zero_lt_one, Option.map_some, ↓reduceIte, retQ, rvs, retV, Bool.not_true, Bool.not_false, ctx_call, eq_self, Nat.reduceEqDiff, if_true, AH.splice, AH.sliceElems, AH.bytesOf, List.replicate_succ, List.replicate_zero, List.flatten_cons, List.flatten_nil, List.range_succ, List.range_zero, Nat.zero_mul, Nat.mul_one, List.getD_cons_succ, Nat.reduceLeDiff, Nat.reduceSub, Nat.reduceMul, Int.toNat_natCast, AH.strOp, AH.eqAV, Option.map_none, List.foldl_nil]



section
variable {C : Ctx} {K : St → Prop} {st : St} {lg : Log} {i : Nat} {a : List Nat} {ix : List (List Nat)}
theorem ctx_read {S : AH.Sys} {r : FuncId → List AV → (Nat → Option Blk) → Option (AV × List Nat)} : (ctx S r).read = r := rfl
theorem wpDs_nil : wpDs C K i [] [] lg st = K st := rfl
theorem wpDs_plain {d : Option Nat} {op : AOp Opd} {r : List AOper} : wpDs C K i (⟨d, none, op⟩ :: r) (a :: ix) lg st = wpOpD C i a lg d op st (wpDs C K (i + 1) r ix) := rfl
theorem wpDs_guard {d : Option Nat} {t : Nat} {w : Bool} {op : AOp Opd} {r : List AOper} : wpDs C K i (⟨d, some (t, w), op⟩ :: r) (a :: ix) lg st = wpGD C i a lg ⟨d, some (t, w), op⟩ st (wpDs C K (i + 1) r ix) w (tget st.tm t) := rfl
variable {o : AOper} {K2 : Log → St → Prop}
theorem wpGD_tt : wpGD C i a lg o st K2 true (.bool true) = wpOpD C i a lg o.dst o.op st K2 := by simp [wpGD]
theorem wpGD_ff : wpGD C i a lg o st K2 false (.bool false) = wpOpD C i a lg o.dst o.op st K2 := by simp [wpGD]
theorem wpGD_tf : wpGD C i a lg o st K2 true (.bool false) = K2 lg (st.put o.dst (.tup [])) := by simp [wpGD]
theorem wpGD_ft : wpGD C i a lg o st K2 false (.bool true) = K2 lg (st.put o.dst (.tup [])) := by simp [wpGD]
theorem wpGD_tu {w : Bool} : wpGD C i a lg o st K2 w (.tup []) = K2 lg (st.put o.dst (.tup [])) := by simp [wpGD]
theorem wpEffD_some {d : Option Nat} {p : Prop} {e : Eff} : wpEffD i a lg d st K2 (some (p, e)) = (p ∧ okFresh st.mem.length e = true ∧ okLog a (e.wr.map Prod.fst ++ e.foot) (e.wr.map Prod.fst) lg = true ∧ K2 ((i, e.wr.map Prod.fst ++ e.foot, e.wr.map Prod.fst) :: lg) (st.eff d e)) := rfl
theorem wpRead_some {d : Option Nat} {v : AV} {f : List Nat} : wpRead i a lg st d K2 (some (v, f)) = (okLog a f [] lg = true ∧ K2 ((i, f, []) :: lg) (st.put d v)) := rfl
end
/-- What the calls in the region of free order come to. -/
def rd : FuncId → List AV → (Nat → Option Blk) → Option (AV × List Nat)
  | 8, [.str s], _ => if s.size ≤ 1048576 then some (.int .u32 (moreZ 1 s.data.toList), []) else none
  | 10, [.int .u32 n, .str s], _ => if s.size ≤ 1048576 then some (.int .u32 (moreZ n s.data.toList), []) else none
  | _, _, _ => none

theorem rd_ok : ReadA S0 rd := by
  intro g args M v foot h
  unfold rd at h
  split at h
  · split at h
    · rename_i s hs
      simp only [Option.some.injEq, Prod.mk.injEq] at h
      obtain ⟨rfl, rfl⟩ := h
      exact ⟨fun _ _ => if_pos hs, fun eb φ own w0 w us hA hus hM hk => (of_ok s hs).run rfl rfl hA hus hM hk⟩
    · cases h
  · split at h
    · rename_i n s hs
      simp only [Option.some.injEq, Prod.mk.injEq] at h
      obtain ⟨rfl, rfl⟩ := h
      exact ⟨fun _ _ => if_pos hs, fun eb φ own w0 w us hA hus hM hk => (more_ok n s hs).run rfl rfl hA hus hM hk⟩
    · cases h
  · cases h

theorem okD : CtxOK S0 (ctx S0 rd) := ctx_ok rd_ok mixed

theorem nx_inj {n : Int} {x y : UInt8} (h : nx n x = nx n y) : x = y := by
  have := byte_lt x
  have := byte_lt y
  simp only [nx] at h
  have e : x.toNat = y.toNat := by omega
  exact UInt8.toNat_inj.1 e

theorem fold_inj (l : List UInt8) : ∀ {n m : Int}, 0 ≤ n → n < 4294967296 → 0 ≤ m → m < 4294967296 → l.foldl nx n = l.foldl nx m → n = m := by
  induction l with
  | nil => intro n m _ _ _ _ h; simpa only [List.foldl_nil] using h
  | cons b l ih =>
    intro n m h0 h1 g0 g1 h
    simp only [List.foldl_cons] at h
    have e := ih (nx_range n b).1 (nx_range n b).2 (nx_range m b).1 (nx_range m b).2 h
    rw [← back_nx h0 h1 b, e, back_nx g0 g1 b]

theorem text_list (a : ByteArray) (x : UInt8) (b : ByteArray) : (a ++ (⟨#[x]⟩ : ByteArray) ++ b).data.toList = a.data.toList ++ (x :: b.data.toList) := by
  rw [ByteArray.data_append, ByteArray.data_append]
  simp

theorem chr_inj {x y : Int} (hx0 : 0 ≤ x) (hx1 : x < 256) (hy0 : 0 ≤ y) (hy1 : y < 256) (h : UInt8.ofNat x.toNat = UInt8.ofNat y.toNat) : x = y := by
  have := congrArg UInt8.toNat h
  rw [UInt8.toNat_ofNat', UInt8.toNat_ofNat'] at this
  omega

set_option maxRecDepth 100000 in
theorem tells_ok (a b : ByteArray) (x y : Int) (hx0 : 0 ≤ x) (hx1 : x < 256) (hy0 : 0 ≤ y) (hy1 : y < 256) : Pure S0 4 [.str a, .str b, .int .u8 x, .int .u8 y] (.bool true) := by
  refine fun_sound okD Try.func4 c4 ?_
  unfold wpF F4
  simp only [wpA_skip, wpA_reg, wpA_draw, wpA_seq, wpA_cond, wpA_block, wpA_exit, wpA_ret, thenQ_normal, thenQ_exit, thenQ_ret, inBlk_normal, inBlk_exit, inBlk_ret, wpOps_nil, wpOps_plain, wpOps_guard, wpG_tt, wpG_ff, wpG_tf, wpG_ft, wpG_tu, wpC_true, wpC_false, wpOp_call, AH.wpOp, wpEff_some, AOp.call?, bstep, AOp.map, Opd.ev, tget, argTm, evs, AV.cells, St.eff, St.put, applyWr, mset, terase, wpCall_fn, kCall_eq, pureE, unAV, intOp, binAV, fill, List.map_nil, List.map_cons, cond_true, cond_false, Nat.reduceBEq, List.length_cons, List.length_nil, List.append_nil, List.nil_append, List.cons_append, mget, AH.rowAt, true_and, Nat.reduceAdd, AH.part, List.drop_zero, List.take_succ_cons, List.take_zero, Nat.zero_add, Nat.lt_add_one, Nat.le_refl, and_self, List.getD_cons_zero, List.drop, List.take, beq_self_eq_true, Nat.reduceLT, Nat.lt_irrefl, Nat.zero_lt_one, Option.map_some, ↓reduceIte, retQ, rvs, retV, Bool.not_true, Bool.not_false, ctx_call, eq_self, Nat.reduceEqDiff, if_true, AH.splice, AH.sliceElems, AH.bytesOf, List.replicate_succ, List.replicate_zero, List.flatten_cons, List.flatten_nil, List.range_succ, List.range_zero, Nat.zero_mul, Nat.mul_one, List.getD_cons_succ, Nat.reduceLeDiff, Nat.reduceSub, Nat.reduceMul, Int.toNat_natCast, AH.strOp, AH.eqAV, Option.map_none]
  refine awake_call ?_
  simp only [wpA_skip, wpA_reg, wpA_draw, wpA_seq, wpA_cond, wpA_block, wpA_exit, wpA_ret, thenQ_normal, thenQ_exit, thenQ_ret, inBlk_normal, inBlk_exit, inBlk_ret, wpOps_nil, wpOps_plain, wpOps_guard, wpG_tt, wpG_ff, wpG_tf, wpG_ft, wpG_tu, wpC_true, wpC_false, wpOp_call, AH.wpOp, wpEff_some, AOp.call?, bstep, AOp.map, Opd.ev, tget, argTm, evs, AV.cells, St.eff, St.put, applyWr, mset, terase, wpCall_fn, kCall_eq, pureE, unAV, intOp, binAV, fill, List.map_nil, List.map_cons, cond_true, cond_false, Nat.reduceBEq, List.length_cons, List.length_nil, List.append_nil, List.nil_append, List.cons_append, mget, AH.rowAt, true_and, Nat.reduceAdd, AH.part, List.drop_zero, List.take_succ_cons, List.take_zero, Nat.zero_add, Nat.lt_add_one, Nat.le_refl, and_self, List.getD_cons_zero, List.drop, List.take, beq_self_eq_true, Nat.reduceLT, Nat.lt_irrefl, Nat.zero_lt_one, Option.map_some, ↓reduceIte, retQ, rvs, retV, Bool.not_true, Bool.not_false, ctx_call, eq_self, Nat.reduceEqDiff, if_true, AH.splice, AH.sliceElems, AH.bytesOf, List.replicate_succ, List.replicate_zero, List.flatten_cons, List.flatten_nil, List.range_succ, List.range_zero, Nat.zero_mul, Nat.mul_one, List.getD_cons_succ, Nat.reduceLeDiff, Nat.reduceSub, Nat.reduceMul, Int.toNat_natCast, AH.strOp, AH.eqAV, Option.map_none]
  cases hA : decide ((a.size : Int) > 512)
  · simp only [wpA_skip, wpA_reg, wpA_draw, wpA_seq, wpA_cond, wpA_block, wpA_exit, wpA_ret, thenQ_normal, thenQ_exit, thenQ_ret, inBlk_normal, inBlk_exit, inBlk_ret, wpOps_nil, wpOps_plain, wpOps_guard, wpG_tt, wpG_ff, wpG_tf, wpG_ft, wpG_tu, wpC_true, wpC_false, wpOp_call, AH.wpOp, wpEff_some, AOp.call?, bstep, AOp.map, Opd.ev, tget, argTm, evs, AV.cells, St.eff, St.put, applyWr, mset, terase, wpCall_fn, kCall_eq, pureE, unAV, intOp, binAV, fill, List.map_nil, List.map_cons, cond_true, cond_false, Nat.reduceBEq, List.length_cons, List.length_nil, List.append_nil, List.nil_append, List.cons_append, mget, AH.rowAt, true_and, Nat.reduceAdd, AH.part, List.drop_zero, List.take_succ_cons, List.take_zero, Nat.zero_add, Nat.lt_add_one, Nat.le_refl, and_self, List.getD_cons_zero, List.drop, List.take, beq_self_eq_true, Nat.reduceLT, Nat.lt_irrefl, Nat.zero_lt_one, Option.map_some, ↓reduceIte, retQ, rvs, retV, Bool.not_true, Bool.not_false, ctx_call, eq_self, Nat.reduceEqDiff, if_true, AH.splice, AH.sliceElems, AH.bytesOf, List.replicate_succ, List.replicate_zero, List.flatten_cons, List.flatten_nil, List.range_succ, List.range_zero, Nat.zero_mul, Nat.mul_one, List.getD_cons_succ, Nat.reduceLeDiff, Nat.reduceSub, Nat.reduceMul, Int.toNat_natCast, AH.strOp, AH.eqAV, Option.map_none, hA]
    cases hB : decide ((b.size : Int) > 512)
    · have ha : a.size ≤ 512 := by simp only [decide_eq_false_iff_not] at hA; omega
      have hb : b.size ≤ 512 := by simp only [decide_eq_false_iff_not] at hB; omega
      simp only [wpA_skip, wpA_reg, wpA_draw, wpA_seq, wpA_cond, wpA_block, wpA_exit, wpA_ret, thenQ_normal, thenQ_exit, thenQ_ret, inBlk_normal, inBlk_exit, inBlk_ret, wpOps_nil, wpOps_plain, wpOps_guard, wpG_tt, wpG_ff, wpG_tf, wpG_ft, wpG_tu, wpC_true, wpC_false, wpOp_call, AH.wpOp, wpEff_some, AOp.call?, bstep, AOp.map, Opd.ev, tget, argTm, evs, AV.cells, St.eff, St.put, applyWr, mset, terase, wpCall_fn, kCall_eq, pureE, unAV, intOp, binAV, fill, List.map_nil, List.map_cons, cond_true, cond_false, Nat.reduceBEq, List.length_cons, List.length_nil, List.append_nil, List.nil_append, List.cons_append, mget, AH.rowAt, true_and, Nat.reduceAdd, AH.part, List.drop_zero, List.take_succ_cons, List.take_zero, Nat.zero_add, Nat.lt_add_one, Nat.le_refl, and_self, List.getD_cons_zero, List.drop, List.take, beq_self_eq_true, Nat.reduceLT, Nat.lt_irrefl, Nat.zero_lt_one, Option.map_some, ↓reduceIte, retQ, rvs, retV, Bool.not_true, Bool.not_false, ctx_call, eq_self, Nat.reduceEqDiff, if_true, AH.splice, AH.sliceElems, AH.bytesOf, List.replicate_succ, List.replicate_zero, List.flatten_cons, List.flatten_nil, List.range_succ, List.range_zero, Nat.zero_mul, Nat.mul_one, List.getD_cons_succ, Nat.reduceLeDiff, Nat.reduceSub, Nat.reduceMul, Int.toNat_natCast, AH.strOp, AH.eqAV, Option.map_none]
      have size1 : ∀ z : UInt8, (⟨#[z]⟩ : ByteArray).size = 1 := fun _ => rfl
      have sizeA : ∀ u v : ByteArray, (u ++ v).size = u.size + v.size := fun u v => ByteArray.size_append
      have big : IntKind.i64.max = 9223372036854775807 := by decide
      refine ⟨by rw [size1, big]; omega, by rw [sizeA, size1, big]; omega, by rw [size1, big]; omega, by rw [sizeA, size1, big]; omega, rfl, ?_⟩
      generalize hS : a ++ (⟨#[UInt8.ofNat x.toNat]⟩ : ByteArray) ++ b = s
      generalize hT : a ++ (⟨#[UInt8.ofNat y.toNat]⟩ : ByteArray) ++ b = t
      have hs : s.size ≤ 1048576 := by rw [← hS, sizeA, sizeA, size1]; omega
      have ht : t.size ≤ 1048576 := by rw [← hT, sizeA, sizeA, size1]; omega
      have r8 : ∀ (u : ByteArray) (M : Nat → Option Blk), u.size ≤ 1048576 → rd 8 [.str u] M = some (.int .u32 (moreZ 1 u.data.toList), []) := fun u M h => if_pos h
      have r10 : ∀ (n : Int) (u : ByteArray) (M : Nat → Option Blk), u.size ≤ 1048576 → rd 10 [.int .u32 n, .str u] M = some (.int .u32 (moreZ n u.data.toList), []) := fun n u M h => if_pos h
      have key : ((moreZ 1 s.data.toList == moreZ 1 t.data.toList) == (x == y)) = true := by
        rw [← hS, ← hT, text_list, text_list, more_nx, more_nx, List.foldl_append, List.foldl_append, List.foldl_cons, List.foldl_cons]
        by_cases hxy : x = y
        · subst hxy; simp
        · have hne : ¬ (b.data.toList.foldl nx (nx (a.data.toList.foldl nx 1) (UInt8.ofNat x.toNat)) = b.data.toList.foldl nx (nx (a.data.toList.foldl nx 1) (UInt8.ofNat y.toNat))) := fun h => by
            have e := fold_inj _ (nx_range _ _).1 (nx_range _ _).2 (nx_range _ _).1 (nx_range _ _).2 h
            exact hxy (chr_inj hx0 hx1 hy0 hy1 (nx_inj e))
          rw [beq_eq_false_iff_ne.2 hne, beq_eq_false_iff_ne.2 hxy]; rfl
      have hu : ((⟨#[UInt8.ofNat x.toNat]⟩ : ByteArray) ++ b).size ≤ 1048576 := by rw [sizeA, size1]; omega
      have key2 : moreZ (moreZ 1 a.data.toList) ((⟨#[UInt8.ofNat x.toNat]⟩ : ByteArray) ++ b).data.toList = moreZ 1 s.data.toList := by
        rw [← hS, text_list, ByteArray.data_append]
        simp only [moreZ, List.foldl_append, Array.toList_append, List.foldl_cons, List.foldl_nil]
      simp only [wpA_skip, wpA_reg, wpA_draw, wpA_seq, wpA_cond, wpA_block, wpA_exit, wpA_ret, thenQ_normal, thenQ_exit, thenQ_ret, inBlk_normal, inBlk_exit, inBlk_ret, wpOps_nil, wpOps_plain, wpOps_guard, wpG_tt, wpG_ff, wpG_tf, wpG_ft, wpG_tu, wpC_true, wpC_false, wpOp_call, AH.wpOp, wpEff_some, AOp.call?, bstep, AOp.map, Opd.ev, tget, argTm, evs, AV.cells, St.eff, St.put, applyWr, mset, terase, wpCall_fn, kCall_eq, pureE, unAV, intOp, binAV, fill, List.map_nil, List.map_cons, cond_true, cond_false, Nat.reduceBEq, List.length_cons, List.length_nil, List.append_nil, List.nil_append, List.cons_append, mget, AH.rowAt, true_and, Nat.reduceAdd, AH.part, List.drop_zero, List.take_succ_cons, List.take_zero, Nat.zero_add, Nat.lt_add_one, Nat.le_refl, and_self, List.getD_cons_zero, List.drop, List.take, beq_self_eq_true, Nat.reduceLT, Nat.lt_irrefl, Nat.zero_lt_one, Option.map_some, ↓reduceIte, retQ, rvs, retV, Bool.not_true, Bool.not_false, ctx_call, eq_self, Nat.reduceEqDiff, if_true, AH.splice, AH.sliceElems, AH.bytesOf, List.replicate_succ, List.replicate_zero, List.flatten_cons, List.flatten_nil, List.range_succ, List.range_zero, Nat.zero_mul, Nat.mul_one, List.getD_cons_succ, Nat.reduceLeDiff, Nat.reduceSub, Nat.reduceMul, Int.toNat_natCast, AH.strOp, AH.eqAV, Option.map_none, wpDs_nil, wpDs_plain, wpDs_guard, wpGD_tt, wpGD_ff, wpGD_tf, wpGD_ft, wpGD_tu, wpEffD_some, wpRead_some, AH.wpOpD, AH.readOf, ctx_read, List.map, r8 s _ hs, r8 t _ ht, key, r8 a _ (show a.size ≤ 1048576 by omega), r10 _ _ _ hu, key2]
      repeat (first | refine ⟨rfl, ?_⟩ | refine ⟨by rw [size1, big]; omega, ?_⟩)
      trivial
    · simp only [wpA_skip, wpA_reg, wpA_draw, wpA_seq, wpA_cond, wpA_block, wpA_exit, wpA_ret, thenQ_normal, thenQ_exit, thenQ_ret, inBlk_normal, inBlk_exit, inBlk_ret, wpOps_nil, wpOps_plain, wpOps_guard, wpG_tt, wpG_ff, wpG_tf, wpG_ft, wpG_tu, wpC_true, wpC_false, wpOp_call, AH.wpOp, wpEff_some, AOp.call?, bstep, AOp.map, Opd.ev, tget, argTm, evs, AV.cells, St.eff, St.put, applyWr, mset, terase, wpCall_fn, kCall_eq, pureE, unAV, intOp, binAV, fill, List.map_nil, List.map_cons, cond_true, cond_false, Nat.reduceBEq, List.length_cons, List.length_nil, List.append_nil, List.nil_append, List.cons_append, mget, AH.rowAt, true_and, Nat.reduceAdd, AH.part, List.drop_zero, List.take_succ_cons, List.take_zero, Nat.zero_add, Nat.lt_add_one, Nat.le_refl, and_self, List.getD_cons_zero, List.drop, List.take, beq_self_eq_true, Nat.reduceLT, Nat.lt_irrefl, Nat.zero_lt_one, Option.map_some, ↓reduceIte, retQ, rvs, retV, Bool.not_true, Bool.not_false, ctx_call, eq_self, Nat.reduceEqDiff, if_true, AH.splice, AH.sliceElems, AH.bytesOf, List.replicate_succ, List.replicate_zero, List.flatten_cons, List.flatten_nil, List.range_succ, List.range_zero, Nat.zero_mul, Nat.mul_one, List.getD_cons_succ, Nat.reduceLeDiff, Nat.reduceSub, Nat.reduceMul, Int.toNat_natCast, AH.strOp, AH.eqAV, Option.map_none]
  · simp only [wpA_skip, wpA_reg, wpA_draw, wpA_seq, wpA_cond, wpA_block, wpA_exit, wpA_ret, thenQ_normal, thenQ_exit, thenQ_ret, inBlk_normal, inBlk_exit, inBlk_ret, wpOps_nil, wpOps_plain, wpOps_guard, wpG_tt, wpG_ff, wpG_tf, wpG_ft, wpG_tu, wpC_true, wpC_false, wpOp_call, AH.wpOp, wpEff_some, AOp.call?, bstep, AOp.map, Opd.ev, tget, argTm, evs, AV.cells, St.eff, St.put, applyWr, mset, terase, wpCall_fn, kCall_eq, pureE, unAV, intOp, binAV, fill, List.map_nil, List.map_cons, cond_true, cond_false, Nat.reduceBEq, List.length_cons, List.length_nil, List.append_nil, List.nil_append, List.cons_append, mget, AH.rowAt, true_and, Nat.reduceAdd, AH.part, List.drop_zero, List.take_succ_cons, List.take_zero, Nat.zero_add, Nat.lt_add_one, Nat.le_refl, and_self, List.getD_cons_zero, List.drop, List.take, beq_self_eq_true, Nat.reduceLT, Nat.lt_irrefl, Nat.zero_lt_one, Option.map_some, ↓reduceIte, retQ, rvs, retV, Bool.not_true, Bool.not_false, ctx_call, eq_self, Nat.reduceEqDiff, if_true, AH.splice, AH.sliceElems, AH.bytesOf, List.replicate_succ, List.replicate_zero, List.flatten_cons, List.flatten_nil, List.range_succ, List.range_zero, Nat.zero_mul, Nat.mul_one, List.getD_cons_succ, Nat.reduceLeDiff, Nat.reduceSub, Nat.reduceMul, Int.toNat_natCast, AH.strOp, AH.eqAV, Option.map_none, hA]

end Go.Proofs.Ytdjcpmdjodhfeaa
