import Derived.Test.YtdjcpmdjodhfeaaDoorCeilBA12
open Go AH
set_option linter.unusedSimpArgs false
namespace Go.Proofs.YtdjcpmdjodhfeaaDoor.A12

theorem errA9 : errA 9 = .err 0 := rfl
theorem gl9 : gls.contains 0 = true := by decide
theorem kg9 : kindG 0 = 9 := by decide
theorem errA0 : errA 0 = .nili := rfl
theorem ceq : (ceilS.toList == (⟨#[99, 101, 105, 108]⟩ : ByteArray).toList) = true := beq_self_eq_true ceilS.toList
theorem eqV_self (x : V4) : eqV x x = true := (eqV_iff x x).2 rfl

abbrev tL12 : List (FuncId × RT) := [(25, topT), (26, excessT), (27, roomT), (28, rgood12T), (29, rtopT), (22, rmayT), (30, goodT), (12, goodT), (13, fitsT), (19, addT), (23, kindT)]
abbrev uL12 : List (FuncId × UT) := [(21, mayU), (24, asU)]
set_option maxRecDepth 100000 in
theorem okL12 : CtxOK S0 (ctxU S0 tL12 uL12) := ctxU_ok ⟨topT_ok, excessT_ok, roomT_ok, rgood12T_ok, rtopT_ok, rmayT_ok, rgoodT_ok, goodT_ok good_ok, fitsT_ok, addT_ok, kindT_ok, trivial⟩ ⟨mayU_ok, asU_ok, trivial⟩ mixed

set_option maxRecDepth 100000 in
theorem awake_ok : Pure S0 20 [] (.bool true) := by
  have x1 : mayX ⟨28, 0, 0, 0⟩ ⟨2, 0, 0, 0⟩ ⟨10, 10, 10, 10⟩ 3 = none := by decide
  have k1 : mayK ⟨28, 0, 0, 0⟩ ⟨2, 0, 0, 0⟩ ⟨10, 10, 10, 10⟩ 3 = 0 := by decide
  have x2 : mayX ⟨0, 28, 0, 0⟩ ⟨0, 3, 0, 0⟩ ⟨10, 10, 10, 10⟩ 3 = some 1 := by decide
  have t1 : topR ⟨10, 10, 10, 10⟩ 3 = ⟨30, 30, 30, 30⟩ := rfl
  have t2 : topK ⟨10, 10, 10, 10⟩ 3 = 0 := by decide
  refine fun_sound okL12 Tryd.func20 c20 ?_
  unfold wpF F20
  simp only [wpA_skip, wpA_reg, wpA_draw, wpA_seq, wpA_cond, wpA_block, wpA_exit, wpA_ret, thenQ_normal, thenQ_exit, thenQ_ret, inBlk_normal, inBlk_exit, inBlk_ret, wpOps_nil, wpOps_plain, wpOps_guard, wpG_tt, wpG_ff, wpG_tf, wpG_ft, wpG_tu, wpC_true, wpC_false, wpOp_call, AH.wpOp, wpEff_some, AOp.call?, bstep, AOp.map, Opd.ev, tget, argTm, evs, AV.cells, St.eff, St.put, applyWr, mset, terase, wpCall_fn, kCall_eq, pureE, unAV, intOp, binAV, fill, List.map_nil, List.map_cons, cond_true, cond_false, Nat.reduceBEq, List.length_cons, List.length_nil, List.append_nil, List.nil_append, List.cons_append, mget, AH.rowAt, true_and, Nat.reduceAdd, AH.part, List.drop_zero, List.take_succ_cons, List.take_zero, Nat.zero_add, Nat.lt_add_one, Nat.le_refl, and_self, List.getD_cons_zero, List.drop, List.take, beq_self_eq_true, Nat.reduceLT, Nat.lt_irrefl, Nat.zero_lt_one, Option.map_some, ↓reduceIte, retQ, rvs, retV, Bool.not_true, Bool.not_false, eq_self, Nat.reduceEqDiff, if_true, AH.splice, AH.sliceElems, AH.bytesOf, List.replicate_succ, List.replicate_zero, List.flatten_cons, List.flatten_nil, List.range_succ, List.range_zero, Nat.zero_mul, Nat.mul_one, List.getD_cons_succ, Nat.reduceLeDiff, Nat.reduceSub, Nat.reduceMul, Int.toNat_natCast, AH.strOp, eqAV_bool, eqAV_flat, eqAV_p0, eqAV_p1, eqAV_p2, eqAV_p3, eqAV_s0, eqAV_s1, eqAV_s2, eqAV_s3, eqAV_s4, eqAV_m0, eqAV_m1, eqAV_m2, eqAV_f0, eqAV_f1, eqAV_f2, eqAV_i0, eqAV_i1, eqAV_i2, eqAV_i3, eqAV_i4, Option.map_none, Int.reduceSub, Int.reduceToNat, AH.bound, List.set_cons_zero, List.set_cons_succ, List.length_set, AH.addLog, ctxU_call, callR_read, callR_new, callR_none, lookT_cons, lookT_nil, appT_some, appT_none, lookU_cons, lookU_nil, appU_some, appU_none, wpEffX_false, AH.missQ, rowE_hit, rowE_next, wpEffX_true, nbz, Int.cast_ofNat_Int, Int.reduceBEq, Int.reduceBNe, Int.reduceLT, Int.reduceGT, Int.reduceLE, Int.reduceGE, Int.reduceNeg, decide_true, decide_false, beq_tt, beq_tf, beq_ft, beq_ff, bne_tt, bne_tf, bne_ft, bne_ff, rowW_hit, rowW_next, AH.minmaxAV, Int.reduceAdd, wr1, wr2, wr3, wr4, wr5, wr6, wr7, wr8, wr9, wr10, wr11, wr12, wr13, wr14, wr15, wr16, wpDs_nil, wpDs_plain, wpDs_guard, wpGD_tt, wpGD_ff, wpGD_tf, wpGD_ft, wpGD_tu, wpEffD_some, wpRead_some, AH.wpOpD, AH.readOf, ctxU_read, List.map, wpEffD_quiet, okLog_quiet, topT_eq, excessT_eq, roomT_eq, rgood12T_eq, rtopT_eq, rmayT_eq, goodT_eq, fitsT_eq, addT_eq, mayU_eq, V4.eta, vecE, V4.av, errA_nil, errA0, errA9, kindT_nil, kindT_fault, kindQ_some, asU_of, asQ_some, gl9, kg9, faultC, eqFlat_vec, eqV_self, ceq, bne_self_eq_false, kindT_err, x1, k1, x2, t1, t2, mayA, mayM]

def awakeT : RT := rtP c0 fun _ => .bool true
theorem awakeT_ok : ReadF S0 20 awakeT := rtP_ok (fun _ => awake_ok) fun _ => rfl
theorem awakeT_eq (M : Nat → Option Blk) : awakeT [] M = some (.bool true, []) := rfl

set_option maxRecDepth 100000 in
theorem okE12 : CtxOK S0 (ctxU S0 ((20, awakeT) :: tL12) uL12) := ctxU_ok ⟨awakeT_ok, topT_ok, excessT_ok, roomT_ok, rgood12T_ok, rtopT_ok, rmayT_ok, rgoodT_ok, goodT_ok good_ok, fitsT_ok, addT_ok, kindT_ok, trivial⟩ ⟨mayU_ok, asU_ok, trivial⟩ mixed

theorem topK_cases (c : V4) (r : Int) : (topK c r = 0 ∧ topR c r = topV c r) ∨ (topK c r = 1 ∧ topR c r = .zero) := by
  unfold topR
  cases h : topK c r == 0 with
  | true => left; exact ⟨by simpa using h, rfl⟩
  | false =>
    right
    refine ⟨?_, rfl⟩
    unfold topK at h ⊢
    cases hq : (good c && (!decide (r < 1) && !decide (r > 16))) with
    | true => rw [hq] at h; cases h
    | false => rfl

theorem addK_cases (i m : V4) : (good i = true ∧ good m = true ∧ (addK i m = 0 ∨ addK i m = 4)) ∨ ((good i && good m) = false ∧ addK i m = 1) := by
  unfold addK madeK
  cases gi : good i
  · right; exact ⟨rfl, rfl⟩
  · cases gm : good m
    · right; exact ⟨rfl, rfl⟩
    · left
      refine ⟨rfl, rfl, ?_⟩
      cases good (addV i m)
      · right; rfl
      · left; rfl

/-- The program's 'May' and the reference's. -/
theorem rmay_eq (i m c : V4) (r : Int) : rmayA i m c r = match mayX i m c r with
    | some j => .tup [.int .i64 9, .int .i64 j]
    | none => .tup [.int .i64 (mayK i m c r : Nat), .int .i64 0] := by
  rcases topK_cases c r with ⟨h1, h2⟩ | ⟨h1, h2⟩
  · rcases addK_cases i m with ⟨g1, g2, g3⟩ | ⟨g1, g2⟩
    · rcases g3 with g3 | g3
      · simp only [rmayA, mayX, mayK, h1, h2, g1, g2, g3, beq_self_eq_true, Bool.and_self, cond_true]
        cases mayI m (addR i m) (topV c r) <;> rfl
      · simp [rmayA, mayX, mayK, h1, g1, g2, g3]
    · simp [rmayA, mayX, mayK, h1, g1, g2]
  · simp [rmayA, mayX, mayK, h1]

theorem mayK_some {i m c : V4} {r : Int} {j : Nat} (h : mayX i m c r = some j) : mayK i m c r = 9 ∧ topK c r = 0 ∧ addK i m = 0 := by
  unfold mayX at h
  cases hc : (topK c r == 0 && addK i m == 0) with
  | false => rw [hc] at h; cases h
  | true =>
    rw [hc] at h
    simp only [Bool.and_eq_true, beq_iff_eq] at hc
    simp only [cond_true] at h
    refine ⟨?_, hc⟩
    simp only [mayK, hc.1, hc.2, h, beq_self_eq_true, cond_true]

theorem mayK_none {i m c : V4} {r : Int} (h : mayX i m c r = none) : mayK i m c r = 0 ∨ mayK i m c r = 1 ∨ mayK i m c r = 4 := by
  rcases topK_cases c r with ⟨h1, _⟩ | ⟨h1, _⟩
  · rcases addK_cases i m with ⟨_, _, g3⟩ | ⟨_, g3⟩
    · rcases g3 with g3 | g3
      · simp only [mayX, h1, g3, beq_self_eq_true, Bool.and_self, cond_true] at h
        left
        simp only [mayK, h1, g3, beq_self_eq_true, cond_true, h]
      · right; right
        simp [mayK, h1, g3]
    · right; left
      simp [mayK, h1, g3]
  · right; left
    simp [mayK, h1]

theorem exK_cases (i c : V4) (r : Int) : (topK c r = 0 ∧ good i = true ∧ exK i c r = 0 ∧ exR i c r = aboveV i (topR c r) ∧ roomR i c r = aboveV (topR c r) i) ∨ ((topK c r = 1 ∨ good i = false) ∧ exK i c r = 1 ∧ exR i c r = .zero ∧ roomR i c r = .zero) := by
  unfold exR roomR
  rcases topK_cases c r with ⟨h1, _⟩ | ⟨h1, _⟩
  · cases gi : good i
    · right; refine ⟨.inr rfl, ?_, ?_, ?_⟩ <;> simp [exK, h1, gi]
    · left; refine ⟨h1, rfl, ?_, ?_, ?_⟩ <;> simp [exK, h1, gi]
  · right; refine ⟨.inl h1, ?_, ?_, ?_⟩ <;> simp [exK, h1]

end Go.Proofs.YtdjcpmdjodhfeaaDoor.A12
