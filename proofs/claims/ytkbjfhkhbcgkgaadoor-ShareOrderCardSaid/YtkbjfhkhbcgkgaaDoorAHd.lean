import Derived.Test.YtkbjfhkhbcgkgaaDoorAHc
namespace AH
open Go
theorem wr1 : IntKind.i64.wrap 1 = 1:=by decide
theorem wr2 : IntKind.i64.wrap 2 = 2:=by decide
theorem wr3 : IntKind.i64.wrap 3 = 3:=by decide
theorem wr4 : IntKind.i64.wrap 4 = 4:=by decide
theorem wr5 : IntKind.i64.wrap 5 = 5:=by decide
theorem wr6 : IntKind.i64.wrap 6 = 6:=by decide
theorem wr7 : IntKind.i64.wrap 7 = 7:=by decide
theorem wr8 : IntKind.i64.wrap 8 = 8:=by decide
theorem wr9 : IntKind.i64.wrap 9 = 9:=by decide
theorem wr10 : IntKind.i64.wrap 10 = 10:=by decide
theorem wr11 : IntKind.i64.wrap 11 = 11:=by decide
theorem wr12 : IntKind.i64.wrap 12 = 12:=by decide
theorem wr13 : IntKind.i64.wrap 13 = 13:=by decide
theorem wr14 : IntKind.i64.wrap 14 = 14:=by decide
theorem wr15 : IntKind.i64.wrap 15 = 15:=by decide
theorem wr16 : IntKind.i64.wrap 16 = 16:=by decide
theorem SD : type_of% (And.intro @AH.newsB_s (And.intro @AH.newsB_0 (And.intro @AH.lookE_nil (And.intro @AH.lookE_cons (And.intro @AH.appE_none (And.intro @AH.appE_some (And.intro @AH.callE_none (And.intro @AH.callE_eff (And.intro @AH.callE_new (And.intro @AH.callE_read (And.intro @AH.ctxU_eff (And.intro @AH.ctxE_eff (And.intro @AH.ctxE_read (And.intro @AH.ctxE_call (And.intro @AH.wpEffC_some (And.intro @AH.wpRead_none (And.intro Nat.sub_zero (And.intro @AH.wpA_skip (And.intro @AH.wpA_reg (And.intro @AH.wpA_draw (And.intro @AH.wpA_seq (And.intro @AH.wpA_cond (And.intro @AH.wpA_block (And.intro @AH.wpA_exit (And.intro @AH.wpA_ret (And.intro @AH.thenQ_normal (And.intro @AH.thenQ_exit (And.intro @AH.thenQ_ret (And.intro @AH.inBlk_normal (And.intro @AH.inBlk_exit (And.intro @AH.inBlk_ret (And.intro @AH.wpOps_nil (And.intro @AH.wpOps_plain (And.intro @AH.wpOps_guard (And.intro @AH.wpG_tt (And.intro @AH.wpG_ff (And.intro @AH.wpG_tf (And.intro @AH.wpG_ft (And.intro @AH.wpG_tu (And.intro @AH.wpC_true (And.intro @AH.wpC_false (And.intro @AH.wpOp_call (And.intro @AH.wpEff_some (And.intro @AH.wpCall_fn (And.intro @AH.kCall_eq (And.intro @List.map_nil.{0,0} (And.intro @List.map_cons.{0,0} (And.intro @cond_true.{0} (And.intro @cond_true.{1} (And.intro @cond_false.{0} (And.intro @cond_false.{1} (And.intro @List.length_cons.{0} (And.intro @List.length_nil.{0} (And.intro @List.append_nil.{0} (And.intro @List.nil_append.{0} (And.intro @List.cons_append.{0} (And.intro @true_and (And.intro @List.drop_zero.{0} (And.intro @List.take_succ_cons.{0} (And.intro @List.take_zero.{0} (And.intro @Nat.zero_add (And.intro @Nat.lt_add_one (And.intro @Nat.le_refl (And.intro @and_self (And.intro @List.getD_cons_zero.{0} (And.intro @beq_self_eq_true.{0} (And.intro @Nat.lt_irrefl (And.intro @Nat.zero_lt_one (And.intro @Option.map_some.{0,0} (And.intro @Bool.not_true (And.intro @Bool.not_false (And.intro @eq_self.{0} (And.intro @eq_self.{1} (And.intro @if_true.{0} (And.intro @if_true.{1} (And.intro @List.replicate_succ.{0} (And.intro @List.replicate_zero.{0} (And.intro @List.flatten_cons.{0} (And.intro @List.flatten_nil.{0} (And.intro @List.range_succ (And.intro @List.range_zero (And.intro @Nat.zero_mul (And.intro @Nat.mul_one (And.intro @List.getD_cons_succ.{0} (And.intro @Int.toNat_natCast (And.intro @AH.eqAV_bool (And.intro @AH.eqAV_flat (And.intro @AH.eqAV_p0 (And.intro @AH.eqAV_p1 (And.intro @AH.eqAV_p2 (And.intro @AH.eqAV_p3 (And.intro @AH.eqAV_s0 (And.intro @AH.eqAV_s1 (And.intro @AH.eqAV_s2 (And.intro @AH.eqAV_s3 (And.intro @AH.eqAV_s4 (And.intro @AH.eqAV_m0 (And.intro @AH.eqAV_m1 (And.intro @AH.eqAV_m2 (And.intro @AH.eqAV_f0 (And.intro @AH.eqAV_f1 (And.intro @AH.eqAV_f2 (And.intro @AH.eqAV_i0 (And.intro @AH.eqAV_i1 (And.intro @AH.eqAV_i2 (And.intro @AH.eqAV_i3 (And.intro @AH.eqAV_i4 (And.intro @Option.map_none.{0,0} (And.intro @List.set_cons_zero.{0} (And.intro @List.set_cons_succ.{0} (And.intro @List.length_set.{0} (And.intro @AH.ctxU_call (And.intro @AH.callR_read (And.intro @AH.callR_new (And.intro @AH.callR_none (And.intro @AH.lookT_cons (And.intro @AH.lookT_nil (And.intro @AH.appT_some (And.intro @AH.appT_none (And.intro @AH.lookU_cons (And.intro @AH.lookU_nil (And.intro @AH.appU_some (And.intro @AH.appU_none (And.intro @AH.wpEffX_false (And.intro @AH.rowE_hit (And.intro @AH.rowE_next (And.intro @AH.wpEffX_true (And.intro @AH.nbz (And.intro @Int.cast_ofNat_Int (And.intro @decide_true (And.intro @decide_false (And.intro @AH.beq_tt (And.intro @AH.beq_tf (And.intro @AH.beq_ft (And.intro @AH.beq_ff (And.intro @AH.bne_tt (And.intro @AH.bne_tf (And.intro @AH.bne_ft (And.intro @AH.bne_ff (And.intro @AH.rowW_hit (And.intro @AH.rowW_next (And.intro @AH.wr1 (And.intro @AH.wr2 (And.intro @AH.wr3 (And.intro @AH.wr4 (And.intro @AH.wr5 (And.intro @AH.wr6 (And.intro @AH.wr7 (And.intro @AH.wr8 (And.intro @AH.wr9 (And.intro @AH.wr10 (And.intro @AH.wr11 (And.intro @AH.wr12 (And.intro @AH.wr13 (And.intro @AH.wr14 (And.intro @AH.wr15 (And.intro @AH.wr16 (And.intro @AH.wpDs_nil (And.intro @AH.wpDs_plain (And.intro @AH.wpDs_guard (And.intro @AH.wpGD_tt (And.intro @AH.wpGD_ff (And.intro @AH.wpGD_tf (And.intro @AH.wpGD_ft (And.intro @AH.wpGD_tu (And.intro @AH.wpEffD_some (And.intro @AH.wpRead_some (And.intro @AH.ctxU_read (And.intro @AH.wpEffD_quiet (And.intro @AH.okLog_quiet (And.intro @List.take_nil.{0} (And.intro @List.drop_nil.{0} (@List.drop_succ_cons.{0}))))))))))))))))))))))))))))))))))))))))))))))))))))))))))))))))))))))))))))))))))))))))))))))))))))))))))))))))))))))))))))))))))))))))))))))))))))))))))))))))))))))))))))):=And.intro @AH.newsB_s (And.intro @AH.newsB_0 (And.intro @AH.lookE_nil (And.intro @AH.lookE_cons (And.intro @AH.appE_none (And.intro @AH.appE_some (And.intro @AH.callE_none (And.intro @AH.callE_eff (And.intro @AH.callE_new (And.intro @AH.callE_read (And.intro @AH.ctxU_eff (And.intro @AH.ctxE_eff (And.intro @AH.ctxE_read (And.intro @AH.ctxE_call (And.intro @AH.wpEffC_some (And.intro @AH.wpRead_none (And.intro Nat.sub_zero (And.intro @AH.wpA_skip (And.intro @AH.wpA_reg (And.intro @AH.wpA_draw (And.intro @AH.wpA_seq (And.intro @AH.wpA_cond (And.intro @AH.wpA_block (And.intro @AH.wpA_exit (And.intro @AH.wpA_ret (And.intro @AH.thenQ_normal (And.intro @AH.thenQ_exit (And.intro @AH.thenQ_ret (And.intro @AH.inBlk_normal (And.intro @AH.inBlk_exit (And.intro @AH.inBlk_ret (And.intro @AH.wpOps_nil (And.intro @AH.wpOps_plain (And.intro @AH.wpOps_guard (And.intro @AH.wpG_tt (And.intro @AH.wpG_ff (And.intro @AH.wpG_tf (And.intro @AH.wpG_ft (And.intro @AH.wpG_tu (And.intro @AH.wpC_true (And.intro @AH.wpC_false (And.intro @AH.wpOp_call (And.intro @AH.wpEff_some (And.intro @AH.wpCall_fn (And.intro @AH.kCall_eq (And.intro @List.map_nil.{0,0} (And.intro @List.map_cons.{0,0} (And.intro @cond_true.{0} (And.intro @cond_true.{1} (And.intro @cond_false.{0} (And.intro @cond_false.{1} (And.intro @List.length_cons.{0} (And.intro @List.length_nil.{0} (And.intro @List.append_nil.{0} (And.intro @List.nil_append.{0} (And.intro @List.cons_append.{0} (And.intro @true_and (And.intro @List.drop_zero.{0} (And.intro @List.take_succ_cons.{0} (And.intro @List.take_zero.{0} (And.intro @Nat.zero_add (And.intro @Nat.lt_add_one (And.intro @Nat.le_refl (And.intro @and_self (And.intro @List.getD_cons_zero.{0} (And.intro @beq_self_eq_true.{0} (And.intro @Nat.lt_irrefl (And.intro @Nat.zero_lt_one (And.intro @Option.map_some.{0,0} (And.intro @Bool.not_true (And.intro @Bool.not_false (And.intro @eq_self.{0} (And.intro @eq_self.{1} (And.intro @if_true.{0} (And.intro @if_true.{1} (And.intro @List.replicate_succ.{0} (And.intro @List.replicate_zero.{0} (And.intro @List.flatten_cons.{0} (And.intro @List.flatten_nil.{0} (And.intro @List.range_succ (And.intro @List.range_zero (And.intro @Nat.zero_mul (And.intro @Nat.mul_one (And.intro @List.getD_cons_succ.{0} (And.intro @Int.toNat_natCast (And.intro @AH.eqAV_bool (And.intro @AH.eqAV_flat (And.intro @AH.eqAV_p0 (And.intro @AH.eqAV_p1 (And.intro @AH.eqAV_p2 (And.intro @AH.eqAV_p3 (And.intro @AH.eqAV_s0 (And.intro @AH.eqAV_s1 (And.intro @AH.eqAV_s2 (And.intro @AH.eqAV_s3 (And.intro @AH.eqAV_s4 (And.intro @AH.eqAV_m0 (And.intro @AH.eqAV_m1 (And.intro @AH.eqAV_m2 (And.intro @AH.eqAV_f0 (And.intro @AH.eqAV_f1 (And.intro @AH.eqAV_f2 (And.intro @AH.eqAV_i0 (And.intro @AH.eqAV_i1 (And.intro @AH.eqAV_i2 (And.intro @AH.eqAV_i3 (And.intro @AH.eqAV_i4 (And.intro @Option.map_none.{0,0} (And.intro @List.set_cons_zero.{0} (And.intro @List.set_cons_succ.{0} (And.intro @List.length_set.{0} (And.intro @AH.ctxU_call (And.intro @AH.callR_read (And.intro @AH.callR_new (And.intro @AH.callR_none (And.intro @AH.lookT_cons (And.intro @AH.lookT_nil (And.intro @AH.appT_some (And.intro @AH.appT_none (And.intro @AH.lookU_cons (And.intro @AH.lookU_nil (And.intro @AH.appU_some (And.intro @AH.appU_none (And.intro @AH.wpEffX_false (And.intro @AH.rowE_hit (And.intro @AH.rowE_next (And.intro @AH.wpEffX_true (And.intro @AH.nbz (And.intro @Int.cast_ofNat_Int (And.intro @decide_true (And.intro @decide_false (And.intro @AH.beq_tt (And.intro @AH.beq_tf (And.intro @AH.beq_ft (And.intro @AH.beq_ff (And.intro @AH.bne_tt (And.intro @AH.bne_tf (And.intro @AH.bne_ft (And.intro @AH.bne_ff (And.intro @AH.rowW_hit (And.intro @AH.rowW_next (And.intro @AH.wr1 (And.intro @AH.wr2 (And.intro @AH.wr3 (And.intro @AH.wr4 (And.intro @AH.wr5 (And.intro @AH.wr6 (And.intro @AH.wr7 (And.intro @AH.wr8 (And.intro @AH.wr9 (And.intro @AH.wr10 (And.intro @AH.wr11 (And.intro @AH.wr12 (And.intro @AH.wr13 (And.intro @AH.wr14 (And.intro @AH.wr15 (And.intro @AH.wr16 (And.intro @AH.wpDs_nil (And.intro @AH.wpDs_plain (And.intro @AH.wpDs_guard (And.intro @AH.wpGD_tt (And.intro @AH.wpGD_ff (And.intro @AH.wpGD_tf (And.intro @AH.wpGD_ft (And.intro @AH.wpGD_tu (And.intro @AH.wpEffD_some (And.intro @AH.wpRead_some (And.intro @AH.ctxU_read (And.intro @AH.wpEffD_quiet (And.intro @AH.okLog_quiet (And.intro @List.take_nil.{0} (And.intro @List.drop_nil.{0} (@List.drop_succ_cons.{0}))))))))))))))))))))))))))))))))))))))))))))))))))))))))))))))))))))))))))))))))))))))))))))))))))))))))))))))))))))))))))))))))))))))))))))))))))))))))))))))))))))))))))))
theorem SE : type_of% (And.intro @AH.wpOp.eq_1 (And.intro @AH.AOp.map.eq_1 (And.intro @AH.AOp.map.eq_2 (And.intro @AH.AOp.map.eq_3 (And.intro @AH.AOp.map.eq_4 (And.intro @AH.AOp.map.eq_5 (And.intro @AH.AOp.map.eq_6 (And.intro @AH.AOp.map.eq_7 (And.intro @AH.AOp.map.eq_8 (And.intro @AH.AOp.map.eq_9 (And.intro @AH.AOp.map.eq_10 (And.intro @AH.AOp.map.eq_11 (And.intro @AH.AOp.map.eq_12 (And.intro @AH.AOp.map.eq_13 (And.intro @AH.AOp.map.eq_14 (And.intro @AH.AOp.map.eq_15 (And.intro @AH.AOp.map.eq_16 (And.intro @AH.AOp.map.eq_17 (And.intro @AH.AOp.map.eq_18 (And.intro @AH.AOp.map.eq_19 (And.intro @AH.AOp.map.eq_20 (And.intro @AH.AOp.map.eq_21 (And.intro @AH.AOp.map.eq_22 (And.intro @AH.AOp.map.eq_23 (And.intro @AH.AOp.map.eq_24 (And.intro @AH.AOp.map.eq_25 (And.intro @AH.AOp.map.eq_26 (And.intro @AH.AOp.map.eq_27 (And.intro @AH.AOp.map.eq_28 (And.intro @AH.AOp.map.eq_29 (And.intro @AH.AOp.map.eq_30 (And.intro @AH.AOp.map.eq_31 (And.intro @AH.AOp.map.eq_32 (And.intro @AH.AOp.map.eq_33 (And.intro @AH.AOp.map.eq_34 (And.intro @AH.AOp.map.eq_35 (And.intro @AH.AOp.map.eq_36 (And.intro @AH.AOp.map.eq_37 (And.intro @AH.AOp.map.eq_38 (And.intro @AH.AOp.map.eq_39 (And.intro @AH.AOp.map.eq_40 (And.intro @AH.AOp.map.eq_41 (And.intro @AH.AOp.map.eq_42 (And.intro @AH.AOp.map.eq_43 (And.intro @AH.AOp.map.eq_44 (And.intro @AH.AOp.map.eq_45 (And.intro @AH.AOp.map.eq_46 (And.intro @AH.Opd.ev.eq_1 (And.intro @AH.Opd.ev.eq_2 (And.intro @AH.tget.eq_1 (And.intro @AH.tget.eq_2 (And.intro @AH.argTm.eq_1 (And.intro @AH.argTm.eq_2 (And.intro @AH.evs.eq_1 (And.intro @AH.evs.eq_2 (And.intro @AH.St.eff.eq_1 (And.intro @AH.St.put.eq_1 (And.intro @AH.St.put.eq_2 (And.intro @AH.applyWr.eq_1 (And.intro @AH.applyWr.eq_2 (And.intro @AH.mset.eq_1 (And.intro @AH.mset.eq_2 (And.intro @AH.mset.eq_3 (And.intro @AH.mset.eq_4 (And.intro @AH.terase.eq_1 (And.intro @AH.terase.eq_2 (And.intro @AH.pureE.eq_1 (And.intro @AH.intOp.eq_1 (And.intro @AH.intOp.eq_2 (And.intro @AH.intOp.eq_3 (And.intro @AH.intOp.eq_4 (And.intro @AH.intOp.eq_5 (And.intro @AH.intOp.eq_6 (And.intro @AH.intOp.eq_7 (And.intro @AH.intOp.eq_8 (And.intro @AH.intOp.eq_9 (And.intro @AH.intOp.eq_10 (And.intro @AH.intOp.eq_11 (And.intro @AH.intOp.eq_12 (And.intro @AH.intOp.eq_13 (And.intro @AH.intOp.eq_14 (And.intro @AH.intOp.eq_15 (And.intro @AH.intOp.eq_16 (And.intro @AH.intOp.eq_17 (And.intro @AH.fill.eq_1 (And.intro @AH.fill.eq_2 (And.intro @AH.mget.eq_1 (And.intro @AH.mget.eq_2 (And.intro @AH.mget.eq_3 (And.intro @AH.rowAt.eq_1 (And.intro @AH.part.eq_1 (And.intro @AH.part.eq_2 (And.intro @AH.rvs.eq_1 (And.intro @AH.rvs.eq_2 (And.intro @AH.rvs.eq_3 (And.intro @AH.splice.eq_1 (And.intro @AH.splice.eq_2 (And.intro @AH.splice.eq_3 (And.intro @AH.addLog.eq_1 (And.intro @AH.addLog.eq_2 (And.intro @AH.wpOpD.eq_1 (And.intro @AH.mapAt.eq_1 (And.intro @AH.iterAt.eq_1 True.intro))))))))))))))))))))))))))))))))))))))))))))))))))))))))))))))))))))))))))))))))))))))))))))))))))))))):=And.intro @AH.wpOp.eq_1 (And.intro @AH.AOp.map.eq_1 (And.intro @AH.AOp.map.eq_2 (And.intro @AH.AOp.map.eq_3 (And.intro @AH.AOp.map.eq_4 (And.intro @AH.AOp.map.eq_5 (And.intro @AH.AOp.map.eq_6 (And.intro @AH.AOp.map.eq_7 (And.intro @AH.AOp.map.eq_8 (And.intro @AH.AOp.map.eq_9 (And.intro @AH.AOp.map.eq_10 (And.intro @AH.AOp.map.eq_11 (And.intro @AH.AOp.map.eq_12 (And.intro @AH.AOp.map.eq_13 (And.intro @AH.AOp.map.eq_14 (And.intro @AH.AOp.map.eq_15 (And.intro @AH.AOp.map.eq_16 (And.intro @AH.AOp.map.eq_17 (And.intro @AH.AOp.map.eq_18 (And.intro @AH.AOp.map.eq_19 (And.intro @AH.AOp.map.eq_20 (And.intro @AH.AOp.map.eq_21 (And.intro @AH.AOp.map.eq_22 (And.intro @AH.AOp.map.eq_23 (And.intro @AH.AOp.map.eq_24 (And.intro @AH.AOp.map.eq_25 (And.intro @AH.AOp.map.eq_26 (And.intro @AH.AOp.map.eq_27 (And.intro @AH.AOp.map.eq_28 (And.intro @AH.AOp.map.eq_29 (And.intro @AH.AOp.map.eq_30 (And.intro @AH.AOp.map.eq_31 (And.intro @AH.AOp.map.eq_32 (And.intro @AH.AOp.map.eq_33 (And.intro @AH.AOp.map.eq_34 (And.intro @AH.AOp.map.eq_35 (And.intro @AH.AOp.map.eq_36 (And.intro @AH.AOp.map.eq_37 (And.intro @AH.AOp.map.eq_38 (And.intro @AH.AOp.map.eq_39 (And.intro @AH.AOp.map.eq_40 (And.intro @AH.AOp.map.eq_41 (And.intro @AH.AOp.map.eq_42 (And.intro @AH.AOp.map.eq_43 (And.intro @AH.AOp.map.eq_44 (And.intro @AH.AOp.map.eq_45 (And.intro @AH.AOp.map.eq_46 (And.intro @AH.Opd.ev.eq_1 (And.intro @AH.Opd.ev.eq_2 (And.intro @AH.tget.eq_1 (And.intro @AH.tget.eq_2 (And.intro @AH.argTm.eq_1 (And.intro @AH.argTm.eq_2 (And.intro @AH.evs.eq_1 (And.intro @AH.evs.eq_2 (And.intro @AH.St.eff.eq_1 (And.intro @AH.St.put.eq_1 (And.intro @AH.St.put.eq_2 (And.intro @AH.applyWr.eq_1 (And.intro @AH.applyWr.eq_2 (And.intro @AH.mset.eq_1 (And.intro @AH.mset.eq_2 (And.intro @AH.mset.eq_3 (And.intro @AH.mset.eq_4 (And.intro @AH.terase.eq_1 (And.intro @AH.terase.eq_2 (And.intro @AH.pureE.eq_1 (And.intro @AH.intOp.eq_1 (And.intro @AH.intOp.eq_2 (And.intro @AH.intOp.eq_3 (And.intro @AH.intOp.eq_4 (And.intro @AH.intOp.eq_5 (And.intro @AH.intOp.eq_6 (And.intro @AH.intOp.eq_7 (And.intro @AH.intOp.eq_8 (And.intro @AH.intOp.eq_9 (And.intro @AH.intOp.eq_10 (And.intro @AH.intOp.eq_11 (And.intro @AH.intOp.eq_12 (And.intro @AH.intOp.eq_13 (And.intro @AH.intOp.eq_14 (And.intro @AH.intOp.eq_15 (And.intro @AH.intOp.eq_16 (And.intro @AH.intOp.eq_17 (And.intro @AH.fill.eq_1 (And.intro @AH.fill.eq_2 (And.intro @AH.mget.eq_1 (And.intro @AH.mget.eq_2 (And.intro @AH.mget.eq_3 (And.intro @AH.rowAt.eq_1 (And.intro @AH.part.eq_1 (And.intro @AH.part.eq_2 (And.intro @AH.rvs.eq_1 (And.intro @AH.rvs.eq_2 (And.intro @AH.rvs.eq_3 (And.intro @AH.splice.eq_1 (And.intro @AH.splice.eq_2 (And.intro @AH.splice.eq_3 (And.intro @AH.addLog.eq_1 (And.intro @AH.addLog.eq_2 (And.intro @AH.wpOpD.eq_1 (And.intro @AH.mapAt.eq_1 (And.intro @AH.iterAt.eq_1 True.intro))))))))))))))))))))))))))))))))))))))))))))))))))))))))))))))))))))))))))))))))))))))))))))))))))))))
end AH
set_option linter.unusedSimpArgs false
namespace AH
open Go
variable {S : Sys}
end AH
set_option linter.unusedSimpArgs false
namespace AH
open Go
variable {S : Sys} {C : Ctx} {Q : Exit → St → Prop}
class FlatE {α : Type} (enc : α → List AV) : Prop where
  flat : ∀ a,AV.lts 0 (enc a) = true
section
variable {α : Type} {enc : α → List AV} [FlatE enc]
theorem flatE_in (p : Nat → Bool) (a : α) : AV.insB p (enc a) = true:=flats_inB (FlatE.flat a)
theorem flatE_ren (ρ : Nat → Nat) (a : α) : AV.rens ρ (enc a) = enc a:=flats_rens (FlatE.flat a)
theorem flat_ins (p : Nat → Bool) : ∀ l : List α,(l.map enc).all (AV.insB p) = true
  | [] =>rfl
  | a :: r =>by simp only [List.map_cons,List.all_cons,flatE_in,flat_ins p r,Bool.and_self]
theorem flat_rens (ρ : Nat → Nat) : ∀ l : List α,(l.map enc).map (AV.rens ρ) = l.map enc
  | [] =>rfl
  | a :: r =>by simp only [List.map_cons,flatE_ren,flat_rens ρ r]
theorem flat_lts (n : Nat) : ∀ l : List α,(l.map enc).all (AV.lts n) = true
  | [] =>rfl
  | a :: r =>by simp only [List.map_cons,List.all_cons,lts_of_flat (FlatE.flat (enc:=enc) a),flat_lts n r,Bool.and_self]
end
section
variable {α : Type} {enc : α → List AV}
theorem getD_enc {l : List α} {i : Nat} (h : i < l.length) : (l.map enc).getD i [] = enc l[i]:=getD_map_lt _ _ _ _ h
theorem take_all {l : List α} : (l.map enc).take l.length = l.map enc:=by rw [List.take_of_length_le]; simp
theorem take_enc {l : List α} {n : Nat} : (l.map enc).take n = (l.take n).map enc:=List.map_take.symm
theorem drop_enc {l : List α} {n : Nat} : (l.map enc).drop n = (l.drop n).map enc:=List.map_drop.symm
end
theorem getD_set_ne {α : Type} {l : List α} {k j : Nat} {a d : α} (h : k ≠ j) : (l.set k a).getD j d = l.getD j d:=by rw [List.getD_eq_getElem?_getD,List.getElem?_set_ne h,← List.getD_eq_getElem?_getD]
inductive VStep where
  | tm (t k : Nat)
  | tup (t j k : Nat)
  | cell (id i j k : Nat)
  | cap (t : Nat)
  | tcap (t j : Nat)
  | ccap (id i j : Nat)
def tput (t : Nat) (v : AV) : Tm → Tm
  | [] => []
  | (s,u) :: r =>bif s == t then (s,v) :: r else (s,u) :: tput t v r
def vstep (s : St) : VStep → Option St
  | .tm t k =>match tget s.tm t,k with
    | .nils,k + 1 =>some ⟨tput t (.slc s.mem.length 0 0 none) s.tm,s.mem ++ [some (.row false (k + 1) [])]⟩
    | _,_ =>none
  | .tup t j k =>match tget s.tm t,k with
    | .tup l,k + 1 =>match l.getD j .undef with
      | .nils =>some ⟨tput t (.tup (l.set j (.slc s.mem.length 0 0 none))) s.tm,s.mem ++ [some (.row false (k + 1) [])]⟩
      | _ =>none
    | _,_ =>none
  | .cell id i j k =>match mget s.mem id,k with
    | some (.row ro k' es),k + 1 =>match (es.getD i []).getD j .undef with
      | .nils =>some ⟨s.tm,mset (s.mem ++ [some (.row false (k + 1) [])]) id (some (.row ro k' (es.set i ((es.getD i []).set j (.slc s.mem.length 0 0 none)))))⟩
      | _ =>none
    | _,_ =>none
  | .cap t =>match tget s.tm t with
    | .slc id ix len (some _) =>match mget s.mem id with
      | some _ =>some ⟨tput t (.slc id ix len none) s.tm,s.mem⟩
      | none =>none
    | _ =>none
  | .tcap t j =>match tget s.tm t with
    | .tup l =>match l.getD j .undef with
      | .slc id ix len (some _) =>match mget s.mem id with
        | some _ =>some ⟨tput t (.tup (l.set j (.slc id ix len none))) s.tm,s.mem⟩
        | none =>none
      | _ =>none
    | _ =>none
  | .ccap id i j =>match mget s.mem id with
    | some (.row ro k es) =>match (es.getD i []).getD j .undef with
      | .slc id' ix len (some _) =>match mget s.mem id' with
        | some _ =>some ⟨s.tm,mset s.mem id (some (.row ro k (es.set i ((es.getD i []).set j (.slc id' ix len none)))))⟩
        | none =>none
      | _ =>none
    | _ =>none
def wpV (X : St → Prop) : List VStep → Option St → Prop
  | [],some s =>X s
  | v :: r,some s =>wpV X r (vstep s v)
  | _,none =>False
theorem tput_spec {n t : Nat} {v : AV} : ∀ {l : Tm},voV n (tget l t) v → (∃ u,tget l t = u ∧ u ≠ .undef) → ∀ x,voV n (tget l x) (tget (tput t v l) x)
  | [],h,⟨u,h1,h2⟩,x =>by simp [tget] at h1; exact absurd h1.symm h2
  | (s,u) :: r,h,hu,x =>by
    simp only [tget] at h hu
    simp only [tput]
    by_cases hs : s = t
    · subst hs
      simp only [beq_self_eq_true,cond_true] at h ⊢
      simp only [tget]
      by_cases hx : s = x
      · subst hx; simp only [beq_self_eq_true,cond_true]; exact h
      · have : (s == x) = false:=by simp [hx]
        simp only [this,cond_false]; exact voV_refl
    · have e : (s == t) = false:=by simp [hs]
      simp only [e,cond_false] at h hu ⊢
      simp only [tget]
      by_cases hx : s = x
      · subst hx; simp only [beq_self_eq_true,cond_true]; exact voV_refl
      · have : (s == x) = false:=by simp [hx]
        simp only [this,cond_false]; exact tput_spec h hu x
theorem voL_refl {n : Nat} : ∀ l,voL n l l
  | [] =>trivial
  | _ :: r =>⟨.inl rfl,voL_refl r⟩
theorem voL_set {n : Nat} {v' : AV} : ∀ {l : List AV} {j : Nat},voE n (l.getD j .undef) v' → voL n l (l.set j v')
  | [],_,_ =>trivial
  | _ :: r,0,h =>⟨h,voL_refl r⟩
  | _ :: r,_ + 1,h =>⟨.inl rfl,voL_set (l:=r) h⟩
theorem getD_some {α : Type} {l : List α} {i : Nat} {d x : α} (h : l.getD i d = x) (hx : x ≠ d) : l[i]? = some x:=by
  rw [List.getD_eq_getElem?_getD] at h
  cases hq : l[i]? with
  | none =>rw [hq] at h; exact absurd h.symm hx
  | some y =>rw [hq] at h; simpa using h
theorem cell_there {es : List (List AV)} {i j : Nat} {v : AV} (h : (es.getD i []).getD j .undef = v) (hv : v ≠ .undef) : es[i]? = some (es.getD i []) ∧ (es.getD i [])[j]? = some v:=by
  have h2:=getD_some h hv
  refine ⟨?_,h2⟩
  have hne : es.getD i [] ≠ []:=fun q =>by rw [q] at h2; simp at h2
  exact getD_some rfl hne
theorem vstep_ok {s s' : St} {v : VStep} (h : vstep s v = some s') : Voids s s':=by
  unfold vstep at h
  split at h
  · split at h
    · rename_i k e
      simp only [Option.some.injEq] at h
      subst h
      exact .void (k + 1) _ _ (by omega) (.turn1 (n:=s.mem.length) ⟨by simp [mget_app,mget],tput_spec (by rw [e]; exact .inl (.inr (.inl ⟨rfl,rfl⟩))) ⟨_,e,by simp⟩,rfl,fun _ _ =>voB_refl⟩)
    · cases h
  · split at h
    · rename_i l k e
      split at h
      · rename_i e2
        simp only [Option.some.injEq] at h
        subst h
        exact .void (k + 1) _ _ (by omega) (.turn1 (n:=s.mem.length) ⟨by simp [mget_app,mget],tput_spec (by rw [e]; exact .inr ⟨_,_,rfl,rfl,voL_set (by rw [e2]; exact .inr (.inl ⟨rfl,rfl⟩))⟩) ⟨_,e,by simp⟩,rfl,fun _ _ =>voB_refl⟩)
      · cases h
    · cases h
  · split at h
    · rename_i ro k' es k e
      split at h
      · rename_i e2
        simp only [Option.some.injEq] at h
        subst h
        obtain ⟨h1,h2⟩:=cell_there e2 (by simp)
        exact voids_cell _ _ (k + 1) (by omega) e h1 h2
      · cases h
    · cases h
  · split at h
    · rename_i id ix len c e
      split at h
      · rename_i b e2
        simp only [Option.some.injEq] at h
        subst h
        exact .turn1 (n:=id) ⟨by rw [e2]; rfl,tput_spec (by rw [e]; exact .inl (.inr (.inr ⟨_,_,_,_,rfl,rfl⟩))) ⟨_,e,by simp⟩,rfl,fun _ _ =>voB_refl⟩
      · cases h
    · cases h
  · split at h
    · rename_i l e
      split at h
      · rename_i id ix len c e3
        split at h
        · rename_i b e2
          simp only [Option.some.injEq] at h
          subst h
          exact .turn1 (n:=id) ⟨by rw [e2]; rfl,tput_spec (by rw [e]; exact .inr ⟨_,_,rfl,rfl,voL_set (by rw [e3]; exact .inr (.inr ⟨_,_,_,_,rfl,rfl⟩))⟩) ⟨_,e,by simp⟩,rfl,fun _ _ =>voB_refl⟩
        · cases h
      · cases h
    · cases h
  · split at h
    · rename_i ro k es e
      split at h
      · rename_i id' ix len c e3
        split at h
        · rename_i b e2
          simp only [Option.some.injEq] at h
          subst h
          obtain ⟨h1,h2⟩:=cell_there e3 (by simp)
          exact .turn1 (n:=id') (turn_cell _ _ (by rw [e2]; rfl) e h1 h2 (.inr (.inr ⟨_,_,_,_,rfl,rfl⟩)))
        · cases h
      · cases h
    · cases h
theorem wpV_ok {X : St → Prop} : ∀ {vs : List VStep} {s : St},wpV X vs (some s) → ∃ s',Voids s s' ∧ X s'
  | [],s,h =>⟨s,.refl s,h⟩
  | v :: r,s,h =>by
    simp only [wpV] at h
    cases hq : vstep s v with
    | none =>rw [hq] at h; cases r <;> exact h.elim
    | some s1 =>
      rw [hq] at h
      obtain ⟨s',h1,h2⟩:=wpV_ok h
      exact ⟨s',(vstep_ok hq).trans h1,h2⟩
def packTm (l : List Nat) (tm : Tm) : List Nat → Tm
  | [] => []
  | t :: r =>(t,(tget tm t).ren (posN l)) :: packTm l tm r
def liveB (l : List Nat) (tm : Tm) : List Nat → Bool
  | [] =>true
  | t :: r =>(tget tm t).inB (inN l) && liveB l tm r
theorem packTm_spec {l : List Nat} {tm : Tm} : ∀ {live : List Nat},liveB l tm live = true → ∀ t,tget (packTm l tm live) t = .undef ∨ ((tget tm t).inB (inN l) = true ∧ tget (packTm l tm live) t = (tget tm t).ren (posN l))
  | [],_,_ => .inl rfl
  | x :: r,h,t =>by
    simp only [liveB,Bool.and_eq_true] at h
    simp only [packTm,tget]
    by_cases hx : x = t
    · subst hx; simp only [beq_self_eq_true,cond_true]; exact .inr ⟨h.1,trivial⟩
    · have : (x == t) = false:=by simp [hx]
      simp only [this,cond_false]
      exact packTm_spec h.2 t
theorem gc_auto {base : Nat} {X : St → Prop} {s : St} (l live : List Nat) (vs : List VStep)
    (h : (heads base 0 l = true ∧ distN l = true) ∧ packB l s.mem l = true ∧ liveB l s.tm live = true ∧ wpV X vs (some ⟨packTm l s.tm live,packM l s.mem l⟩)) : gcX base X s:=by
  obtain ⟨⟨h1,h2⟩,h3,h4,h5⟩:=h
  obtain ⟨s',h6,h7⟩:=wpV_ok h5
  exact ⟨s',⟨_,.inr ⟨l,h1,h2,h3,rfl,packTm_spec h4⟩,h6⟩,h7⟩
theorem CallA1.fin {g : FuncId} {args : List AV} {m : Mem} {K : AV → Mem → Prop}
    (h : CallA1 S g args m fun v m' => ∃ (l : List Nat) (vs : List VStep),(heads m.length 0 l = true ∧ distN l = true) ∧ packB l m' l = true ∧ v.inB (inN l) = true ∧ wpV (fun s =>K (tget s.tm 0) s.mem) vs (some ⟨[(0,v.ren (posN l))],packM l m' l⟩)) : CallA1 S g args m K:=by
  refine CallA1.voids (CallA1.pack (h.mono ?_))
  rintro v m' ⟨l,vs,⟨h1,h2⟩,h3,h4,h5⟩
  obtain ⟨⟨tm',m''⟩,h6,h7⟩:=wpV_ok h5
  exact ⟨l,h1,h2,h3,h4,tm',m'',h6,h7⟩
theorem loop_do {α : Type} {st : St} (l live : List Nat) (vs : List VStep) (μ : α → Nat) (f : α → St) (P : α → Prop) {b : ACode} (x0 : α) (hp : P x0)
    (h0 : (heads C.base 0 l = true ∧ distN l = true) ∧ packB l st.mem l = true ∧ liveB l st.tm live = true ∧ wpV (fun s =>s = f x0) vs (some ⟨packTm l st.tm live,packM l st.mem l⟩))
    (hstep : ∀ (X : St → Prop) x,P x → (∀ y,P y → μ y < μ x → X (f y)) → wpA C b (thenQ (gcX C.base X) Q) (f x)) : wpA C (.loop b) Q st :=
  loop_rule μ f P x0 hp (gc_auto l live vs h0) hstep
theorem wpV_nil {X : St → Prop} {s : St} : wpV X [] (some s) = X s:=rfl
theorem wpV_cons {X : St → Prop} {v : VStep} {r : List VStep} {s : St} : wpV X (v :: r) (some s) = wpV X r (vstep s v):=rfl
theorem lt_of_dec {i n : Nat} (h : decide ((i : Int) < (n : Int)) = true) : i < n:=by simpa using h
theorem ge_of_dec {i n : Nat} (h : decide ((i : Int) < (n : Int)) = false) : n ≤ i:=by simpa using h
theorem wrapS {i : Nat} (h : i < 4611686018427387904) : IntKind.i64.wrap ((i : Int) + 1) = ((i + 1 : Nat) : Int):=by rw [IntKind.wrap_i64]; omega
theorem CallA1.of {g : FuncId} {args : List AV} {m : Mem} {K K' : AV → Mem → Prop} (h : CallA1 S g args m K) (hk : ∀ v m',K v m' → K' v m') : CallA1 S g args m K':=h.mono hk
theorem PD : type_of% (And.intro @flat_ins (And.intro @flat_rens (And.intro @flatE_in (And.intro @flatE_ren (And.intro @wpV_nil (And.intro @wpV_cons (And.intro Bool.and_self (And.intro @Bool.and_true (And.intro @Bool.true_and (And.intro @and_true (And.intro @List.all_cons.{0} (And.intro @List.all_nil.{0} (And.intro @List.all_append.{0} (And.intro @List.map_append.{0,0} (And.intro @Bool.or_true (And.intro @Bool.true_or (And.intro @Bool.or_false (And.intro @Bool.false_or (And.intro Bool.not_true (And.intro Bool.not_false (And.intro @true_and (And.intro @List.length_append.{0} (And.intro @List.length_map.{0,0} (@take_all)))))))))))))))))))))))):=And.intro @flat_ins (And.intro @flat_rens (And.intro @flatE_in (And.intro @flatE_ren (And.intro @wpV_nil (And.intro @wpV_cons (And.intro Bool.and_self (And.intro @Bool.and_true (And.intro @Bool.true_and (And.intro @and_true (And.intro @List.all_cons.{0} (And.intro @List.all_nil.{0} (And.intro @List.all_append.{0} (And.intro @List.map_append.{0,0} (And.intro @Bool.or_true (And.intro @Bool.true_or (And.intro @Bool.or_false (And.intro @Bool.false_or (And.intro Bool.not_true (And.intro Bool.not_false (And.intro @true_and (And.intro @List.length_append.{0} (And.intro @List.length_map.{0,0} (@take_all)))))))))))))))))))))))
theorem SP : type_of% (And.intro @AH.heads.eq_1 (And.intro @AH.heads.eq_2 (And.intro @AH.heads.eq_3 (And.intro @AH.distN.eq_1 (And.intro @AH.distN.eq_2 (And.intro @AH.inN.eq_1 (And.intro @AH.inN.eq_2 (And.intro @AH.posN.eq_1 (And.intro @AH.posN.eq_2 (And.intro @AH.packM.eq_1 (And.intro @AH.packM.eq_2 (And.intro @AH.packB.eq_1 (And.intro @AH.packB.eq_2 (And.intro @AH.packTm.eq_1 (And.intro @AH.packTm.eq_2 (And.intro @AH.liveB.eq_1 (And.intro @AH.liveB.eq_2 (And.intro @AH.AV.insB.eq_1 (And.intro @AH.AV.insB.eq_2 (And.intro @AH.AV.ren.eq_1 (And.intro @AH.AV.ren.eq_2 (And.intro @AH.AV.ren.eq_3 (And.intro @AH.AV.ren.eq_4 (And.intro @AH.AV.ren.eq_5 (And.intro @AH.AV.ren.eq_6 (And.intro @AH.AV.ren.eq_7 (And.intro @AH.AV.ren.eq_8 (And.intro @AH.AV.ren.eq_9 (And.intro @AH.AV.ren.eq_10 (And.intro @AH.AV.ren.eq_11 (And.intro @AH.AV.ren.eq_12 (And.intro @AH.AV.ren.eq_13 (And.intro @AH.AV.ren.eq_14 (And.intro @AH.AV.ren.eq_15 (And.intro @AH.AV.ren.eq_16 (And.intro @AH.AV.ren.eq_17 (And.intro @AH.AV.ren.eq_18 (And.intro @AH.AV.rens.eq_1 (And.intro @AH.AV.rens.eq_2 (And.intro @AH.Blk.ren.eq_1 (And.intro @AH.Blk.ren.eq_2 (And.intro @AH.Blk.ren.eq_3 (And.intro @AH.Blk.inB.eq_1 (And.intro @AH.Blk.inB.eq_2 (And.intro @AH.Blk.inB.eq_3 (And.intro @AH.tput.eq_1 (And.intro @AH.tput.eq_2 True.intro))))))))))))))))))))))))))))))))))))))))))))))):=And.intro @AH.heads.eq_1 (And.intro @AH.heads.eq_2 (And.intro @AH.heads.eq_3 (And.intro @AH.distN.eq_1 (And.intro @AH.distN.eq_2 (And.intro @AH.inN.eq_1 (And.intro @AH.inN.eq_2 (And.intro @AH.posN.eq_1 (And.intro @AH.posN.eq_2 (And.intro @AH.packM.eq_1 (And.intro @AH.packM.eq_2 (And.intro @AH.packB.eq_1 (And.intro @AH.packB.eq_2 (And.intro @AH.packTm.eq_1 (And.intro @AH.packTm.eq_2 (And.intro @AH.liveB.eq_1 (And.intro @AH.liveB.eq_2 (And.intro @AH.AV.insB.eq_1 (And.intro @AH.AV.insB.eq_2 (And.intro @AH.AV.ren.eq_1 (And.intro @AH.AV.ren.eq_2 (And.intro @AH.AV.ren.eq_3 (And.intro @AH.AV.ren.eq_4 (And.intro @AH.AV.ren.eq_5 (And.intro @AH.AV.ren.eq_6 (And.intro @AH.AV.ren.eq_7 (And.intro @AH.AV.ren.eq_8 (And.intro @AH.AV.ren.eq_9 (And.intro @AH.AV.ren.eq_10 (And.intro @AH.AV.ren.eq_11 (And.intro @AH.AV.ren.eq_12 (And.intro @AH.AV.ren.eq_13 (And.intro @AH.AV.ren.eq_14 (And.intro @AH.AV.ren.eq_15 (And.intro @AH.AV.ren.eq_16 (And.intro @AH.AV.ren.eq_17 (And.intro @AH.AV.ren.eq_18 (And.intro @AH.AV.rens.eq_1 (And.intro @AH.AV.rens.eq_2 (And.intro @AH.Blk.ren.eq_1 (And.intro @AH.Blk.ren.eq_2 (And.intro @AH.Blk.ren.eq_3 (And.intro @AH.Blk.inB.eq_1 (And.intro @AH.Blk.inB.eq_2 (And.intro @AH.Blk.inB.eq_3 (And.intro @AH.tput.eq_1 (And.intro @AH.tput.eq_2 True.intro))))))))))))))))))))))))))))))))))))))))))))))
end AH
set_option linter.unusedSimpArgs false
namespace AH
open Go
variable {S : Sys}
open Classical in
theorem CallA1.view {g : FuncId} {A args : List AV} {R : List (Nat × List (List AV))} {v : AV} {news : Mem} (he : S.errs ≠ []) (h : CallA1 S g A (rowsM R) fun r m' =>r = v ∧ m' = rowsM R ++ news) (ws : List Nat) {m : Mem} {foot : List Nat}
    (hv : (v.inB (fun j =>decide (R.length ≤ j)) = true ∧ news.all (blkIn fun j =>decide (R.length ≤ j)) = true ∧ news.all rwB = true) ∧ vw (mget m) ws args 0 = some (A,R,foot)) :
    CallA1 S g args m fun r m' =>r = v.ren (shift m.length R.length) ∧ m' = m ++ newOnes (shift m.length R.length) news:=by
  obtain ⟨⟨h1,h2,h3⟩,h4⟩:=hv
  have key : CallF S g (utN ws fun a rows =>if a = A ∧ rows = R then some (v,news) else none):=by
    refine utN_ok he fun a rows v' news' e => ?_
    split at e
    · rename_i q
      obtain ⟨rfl,rfl⟩:=q
      simp only [Option.some.injEq,Prod.mk.injEq] at e
      obtain ⟨rfl,rfl⟩:=e
      exact ⟨h1,h2,h3,h⟩
    · cases e
  refine key args m _ _ ?_
  simp only [utN,h4,useN,and_self,if_true,Option.map_some]
end AH
