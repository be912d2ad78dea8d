import Derived.Test.YthapdikdeoeplaaGreatDoorAHc
import Derived.Maps.Own
import Derived.Lib.SlKeysI
namespace AH
open Go
theorem wr1 : IntKind.i64.wrap 1 = 1:=by decide
theorem wr2 : IntKind.i64.wrap 2 = 2:=by decide
theorem wr3 : IntKind.i64.wrap 3 = 3:=by decide
theorem wr4 : IntKind.i64.wrap 4 = 4:=by decide
theorem wr5 : IntKind.i64.wrap 5 = 5:=by decide
theorem wr6 : IntKind.i64.wrap 6 = 6:=by decide
theorem wr7 : IntKind.i64.wrap 7 = 7:=by decide
theorem wr8 : IntKind.i64.wrap 8 = 8:=by decide
theorem wr9 : IntKind.i64.wrap 9 = 9:=by decide
theorem wr10 : IntKind.i64.wrap 10 = 10:=by decide
theorem wr11 : IntKind.i64.wrap 11 = 11:=by decide
theorem wr12 : IntKind.i64.wrap 12 = 12:=by decide
theorem wr13 : IntKind.i64.wrap 13 = 13:=by decide
theorem wr14 : IntKind.i64.wrap 14 = 14:=by decide
theorem wr15 : IntKind.i64.wrap 15 = 15:=by decide
theorem wr16 : IntKind.i64.wrap 16 = 16:=by decide
theorem SD : type_of% (And.intro @AH.newsB_s (And.intro @AH.newsB_0 (And.intro @AH.lookE_nil (And.intro @AH.lookE_cons (And.intro @AH.appE_none (And.intro @AH.appE_some (And.intro @AH.callE_none (And.intro @AH.callE_eff (And.intro @AH.callE_new (And.intro @AH.callE_read (And.intro @AH.ctxU_eff (And.intro @AH.ctxE_eff (And.intro @AH.ctxE_read (And.intro @AH.ctxE_call (And.intro @AH.wpEffC_some (And.intro @AH.wpRead_none (And.intro Nat.sub_zero (And.intro @AH.wpA_skip (And.intro @AH.wpA_reg (And.intro @AH.wpA_draw (And.intro @AH.wpA_seq (And.intro @AH.wpA_cond (And.intro @AH.wpA_block (And.intro @AH.wpA_exit (And.intro @AH.wpA_ret (And.intro @AH.thenQ_normal (And.intro @AH.thenQ_exit (And.intro @AH.thenQ_ret (And.intro @AH.inBlk_normal (And.intro @AH.inBlk_exit (And.intro @AH.inBlk_ret (And.intro @AH.wpOps_nil (And.intro @AH.wpOps_plain (And.intro @AH.wpOps_guard (And.intro @AH.wpG_tt (And.intro @AH.wpG_ff (And.intro @AH.wpG_tf (And.intro @AH.wpG_ft (And.intro @AH.wpG_tu (And.intro @AH.wpC_true (And.intro @AH.wpC_false (And.intro @AH.wpOp_call (And.intro @AH.wpEff_some (And.intro @AH.wpCall_fn (And.intro @AH.kCall_eq (And.intro @List.map_nil.{0,0} (And.intro @List.map_cons.{0,0} (And.intro @cond_true.{0} (And.intro @cond_true.{1} (And.intro @cond_false.{0} (And.intro @cond_false.{1} (And.intro @List.length_cons.{0} (And.intro @List.length_nil.{0} (And.intro @List.append_nil.{0} (And.intro @List.nil_append.{0} (And.intro @List.cons_append.{0} (And.intro @true_and (And.intro @List.drop_zero.{0} (And.intro @List.take_succ_cons.{0} (And.intro @List.take_zero.{0} (And.intro @Nat.zero_add (And.intro @Nat.lt_add_one (And.intro @Nat.le_refl (And.intro @and_self (And.intro @List.getD_cons_zero.{0} (And.intro @beq_self_eq_true.{0} (And.intro @Nat.lt_irrefl (And.intro @Nat.zero_lt_one (And.intro @Option.map_some.{0,0} (And.intro @Bool.not_true (And.intro @Bool.not_false (And.intro @eq_self.{0} (And.intro @eq_self.{1} (And.intro @if_true.{0} (And.intro @if_true.{1} (And.intro @List.replicate_succ.{0} (And.intro @List.replicate_zero.{0} (And.intro @List.flatten_cons.{0} (And.intro @List.flatten_nil.{0} (And.intro @List.range_succ (And.intro @List.range_zero (And.intro @Nat.zero_mul (And.intro @Nat.mul_one (And.intro @List.getD_cons_succ.{0} (And.intro @Int.toNat_natCast (And.intro @AH.eqAV_bool (And.intro @AH.eqAV_flat (And.intro @AH.eqAV_p0 (And.intro @AH.eqAV_p1 (And.intro @AH.eqAV_p2 (And.intro @AH.eqAV_p3 (And.intro @AH.eqAV_s0 (And.intro @AH.eqAV_s1 (And.intro @AH.eqAV_s2 (And.intro @AH.eqAV_s3 (And.intro @AH.eqAV_s4 (And.intro @AH.eqAV_m0 (And.intro @AH.eqAV_m1 (And.intro @AH.eqAV_m2 (And.intro @AH.eqAV_f0 (And.intro @AH.eqAV_f1 (And.intro @AH.eqAV_f2 (And.intro @AH.eqAV_i0 (And.intro @AH.eqAV_i1 (And.intro @AH.eqAV_i2 (And.intro @AH.eqAV_i3 (And.intro @AH.eqAV_i4 (And.intro @Option.map_none.{0,0} (And.intro @List.set_cons_zero.{0} (And.intro @List.set_cons_succ.{0} (And.intro @List.length_set.{0} (And.intro @AH.ctxU_call (And.intro @AH.callR_read (And.intro @AH.callR_new (And.intro @AH.callR_none (And.intro @AH.lookT_cons (And.intro @AH.lookT_nil (And.intro @AH.appT_some (And.intro @AH.appT_none (And.intro @AH.lookU_cons (And.intro @AH.lookU_nil (And.intro @AH.appU_some (And.intro @AH.appU_none (And.intro @AH.wpEffX_false (And.intro @AH.rowE_hit (And.intro @AH.rowE_next (And.intro @AH.wpEffX_true (And.intro @AH.nbz (And.intro @Int.cast_ofNat_Int (And.intro @decide_true (And.intro @decide_false (And.intro @AH.beq_tt (And.intro @AH.beq_tf (And.intro @AH.beq_ft (And.intro @AH.beq_ff (And.intro @AH.bne_tt (And.intro @AH.bne_tf (And.intro @AH.bne_ft (And.intro @AH.bne_ff (And.intro @AH.rowW_hit (And.intro @AH.rowW_next (And.intro @AH.wr1 (And.intro @AH.wr2 (And.intro @AH.wr3 (And.intro @AH.wr4 (And.intro @AH.wr5 (And.intro @AH.wr6 (And.intro @AH.wr7 (And.intro @AH.wr8 (And.intro @AH.wr9 (And.intro @AH.wr10 (And.intro @AH.wr11 (And.intro @AH.wr12 (And.intro @AH.wr13 (And.intro @AH.wr14 (And.intro @AH.wr15 (And.intro @AH.wr16 (And.intro @AH.wpDs_nil (And.intro @AH.wpDs_plain (And.intro @AH.wpDs_guard (And.intro @AH.wpGD_tt (And.intro @AH.wpGD_ff (And.intro @AH.wpGD_tf (And.intro @AH.wpGD_ft (And.intro @AH.wpGD_tu (And.intro @AH.wpEffD_some (And.intro @AH.wpRead_some (And.intro @AH.ctxU_read (And.intro @AH.wpEffD_quiet (And.intro @AH.okLog_quiet (And.intro @List.take_nil.{0} (And.intro @List.drop_nil.{0} (@List.drop_succ_cons.{0}))))))))))))))))))))))))))))))))))))))))))))))))))))))))))))))))))))))))))))))))))))))))))))))))))))))))))))))))))))))))))))))))))))))))))))))))))))))))))))))))))))))))))))):=And.intro @AH.newsB_s (And.intro @AH.newsB_0 (And.intro @AH.lookE_nil (And.intro @AH.lookE_cons (And.intro @AH.appE_none (And.intro @AH.appE_some (And.intro @AH.callE_none (And.intro @AH.callE_eff (And.intro @AH.callE_new (And.intro @AH.callE_read (And.intro @AH.ctxU_eff (And.intro @AH.ctxE_eff (And.intro @AH.ctxE_read (And.intro @AH.ctxE_call (And.intro @AH.wpEffC_some (And.intro @AH.wpRead_none (And.intro Nat.sub_zero (And.intro @AH.wpA_skip (And.intro @AH.wpA_reg (And.intro @AH.wpA_draw (And.intro @AH.wpA_seq (And.intro @AH.wpA_cond (And.intro @AH.wpA_block (And.intro @AH.wpA_exit (And.intro @AH.wpA_ret (And.intro @AH.thenQ_normal (And.intro @AH.thenQ_exit (And.intro @AH.thenQ_ret (And.intro @AH.inBlk_normal (And.intro @AH.inBlk_exit (And.intro @AH.inBlk_ret (And.intro @AH.wpOps_nil (And.intro @AH.wpOps_plain (And.intro @AH.wpOps_guard (And.intro @AH.wpG_tt (And.intro @AH.wpG_ff (And.intro @AH.wpG_tf (And.intro @AH.wpG_ft (And.intro @AH.wpG_tu (And.intro @AH.wpC_true (And.intro @AH.wpC_false (And.intro @AH.wpOp_call (And.intro @AH.wpEff_some (And.intro @AH.wpCall_fn (And.intro @AH.kCall_eq (And.intro @List.map_nil.{0,0} (And.intro @List.map_cons.{0,0} (And.intro @cond_true.{0} (And.intro @cond_true.{1} (And.intro @cond_false.{0} (And.intro @cond_false.{1} (And.intro @List.length_cons.{0} (And.intro @List.length_nil.{0} (And.intro @List.append_nil.{0} (And.intro @List.nil_append.{0} (And.intro @List.cons_append.{0} (And.intro @true_and (And.intro @List.drop_zero.{0} (And.intro @List.take_succ_cons.{0} (And.intro @List.take_zero.{0} (And.intro @Nat.zero_add (And.intro @Nat.lt_add_one (And.intro @Nat.le_refl (And.intro @and_self (And.intro @List.getD_cons_zero.{0} (And.intro @beq_self_eq_true.{0} (And.intro @Nat.lt_irrefl (And.intro @Nat.zero_lt_one (And.intro @Option.map_some.{0,0} (And.intro @Bool.not_true (And.intro @Bool.not_false (And.intro @eq_self.{0} (And.intro @eq_self.{1} (And.intro @if_true.{0} (And.intro @if_true.{1} (And.intro @List.replicate_succ.{0} (And.intro @List.replicate_zero.{0} (And.intro @List.flatten_cons.{0} (And.intro @List.flatten_nil.{0} (And.intro @List.range_succ (And.intro @List.range_zero (And.intro @Nat.zero_mul (And.intro @Nat.mul_one (And.intro @List.getD_cons_succ.{0} (And.intro @Int.toNat_natCast (And.intro @AH.eqAV_bool (And.intro @AH.eqAV_flat (And.intro @AH.eqAV_p0 (And.intro @AH.eqAV_p1 (And.intro @AH.eqAV_p2 (And.intro @AH.eqAV_p3 (And.intro @AH.eqAV_s0 (And.intro @AH.eqAV_s1 (And.intro @AH.eqAV_s2 (And.intro @AH.eqAV_s3 (And.intro @AH.eqAV_s4 (And.intro @AH.eqAV_m0 (And.intro @AH.eqAV_m1 (And.intro @AH.eqAV_m2 (And.intro @AH.eqAV_f0 (And.intro @AH.eqAV_f1 (And.intro @AH.eqAV_f2 (And.intro @AH.eqAV_i0 (And.intro @AH.eqAV_i1 (And.intro @AH.eqAV_i2 (And.intro @AH.eqAV_i3 (And.intro @AH.eqAV_i4 (And.intro @Option.map_none.{0,0} (And.intro @List.set_cons_zero.{0} (And.intro @List.set_cons_succ.{0} (And.intro @List.length_set.{0} (And.intro @AH.ctxU_call (And.intro @AH.callR_read (And.intro @AH.callR_new (And.intro @AH.callR_none (And.intro @AH.lookT_cons (And.intro @AH.lookT_nil (And.intro @AH.appT_some (And.intro @AH.appT_none (And.intro @AH.lookU_cons (And.intro @AH.lookU_nil (And.intro @AH.appU_some (And.intro @AH.appU_none (And.intro @AH.wpEffX_false (And.intro @AH.rowE_hit (And.intro @AH.rowE_next (And.intro @AH.wpEffX_true (And.intro @AH.nbz (And.intro @Int.cast_ofNat_Int (And.intro @decide_true (And.intro @decide_false (And.intro @AH.beq_tt (And.intro @AH.beq_tf (And.intro @AH.beq_ft (And.intro @AH.beq_ff (And.intro @AH.bne_tt (And.intro @AH.bne_tf (And.intro @AH.bne_ft (And.intro @AH.bne_ff (And.intro @AH.rowW_hit (And.intro @AH.rowW_next (And.intro @AH.wr1 (And.intro @AH.wr2 (And.intro @AH.wr3 (And.intro @AH.wr4 (And.intro @AH.wr5 (And.intro @AH.wr6 (And.intro @AH.wr7 (And.intro @AH.wr8 (And.intro @AH.wr9 (And.intro @AH.wr10 (And.intro @AH.wr11 (And.intro @AH.wr12 (And.intro @AH.wr13 (And.intro @AH.wr14 (And.intro @AH.wr15 (And.intro @AH.wr16 (And.intro @AH.wpDs_nil (And.intro @AH.wpDs_plain (And.intro @AH.wpDs_guard (And.intro @AH.wpGD_tt (And.intro @AH.wpGD_ff (And.intro @AH.wpGD_tf (And.intro @AH.wpGD_ft (And.intro @AH.wpGD_tu (And.intro @AH.wpEffD_some (And.intro @AH.wpRead_some (And.intro @AH.ctxU_read (And.intro @AH.wpEffD_quiet (And.intro @AH.okLog_quiet (And.intro @List.take_nil.{0} (And.intro @List.drop_nil.{0} (@List.drop_succ_cons.{0}))))))))))))))))))))))))))))))))))))))))))))))))))))))))))))))))))))))))))))))))))))))))))))))))))))))))))))))))))))))))))))))))))))))))))))))))))))))))))))))))))))))))))))
theorem SE : type_of% (And.intro @AH.wpOp.eq_1 (And.intro @AH.AOp.map.eq_1 (And.intro @AH.AOp.map.eq_2 (And.intro @AH.AOp.map.eq_3 (And.intro @AH.AOp.map.eq_4 (And.intro @AH.AOp.map.eq_5 (And.intro @AH.AOp.map.eq_6 (And.intro @AH.AOp.map.eq_7 (And.intro @AH.AOp.map.eq_8 (And.intro @AH.AOp.map.eq_9 (And.intro @AH.AOp.map.eq_10 (And.intro @AH.AOp.map.eq_11 (And.intro @AH.AOp.map.eq_12 (And.intro @AH.AOp.map.eq_13 (And.intro @AH.AOp.map.eq_14 (And.intro @AH.AOp.map.eq_15 (And.intro @AH.AOp.map.eq_16 (And.intro @AH.AOp.map.eq_17 (And.intro @AH.AOp.map.eq_18 (And.intro @AH.AOp.map.eq_19 (And.intro @AH.AOp.map.eq_20 (And.intro @AH.AOp.map.eq_21 (And.intro @AH.AOp.map.eq_22 (And.intro @AH.AOp.map.eq_23 (And.intro @AH.AOp.map.eq_24 (And.intro @AH.AOp.map.eq_25 (And.intro @AH.AOp.map.eq_26 (And.intro @AH.AOp.map.eq_27 (And.intro @AH.AOp.map.eq_28 (And.intro @AH.AOp.map.eq_29 (And.intro @AH.AOp.map.eq_30 (And.intro @AH.AOp.map.eq_31 (And.intro @AH.AOp.map.eq_32 (And.intro @AH.AOp.map.eq_33 (And.intro @AH.AOp.map.eq_34 (And.intro @AH.AOp.map.eq_35 (And.intro @AH.AOp.map.eq_36 (And.intro @AH.AOp.map.eq_37 (And.intro @AH.AOp.map.eq_38 (And.intro @AH.AOp.map.eq_39 (And.intro @AH.AOp.map.eq_40 (And.intro @AH.AOp.map.eq_41 (And.intro @AH.AOp.map.eq_42 (And.intro @AH.AOp.map.eq_43 (And.intro @AH.AOp.map.eq_44 (And.intro @AH.AOp.map.eq_45 (And.intro @AH.AOp.map.eq_46 (And.intro @AH.Opd.ev.eq_1 (And.intro @AH.Opd.ev.eq_2 (And.intro @AH.tget.eq_1 (And.intro @AH.tget.eq_2 (And.intro @AH.argTm.eq_1 (And.intro @AH.argTm.eq_2 (And.intro @AH.evs.eq_1 (And.intro @AH.evs.eq_2 (And.intro @AH.St.eff.eq_1 (And.intro @AH.St.put.eq_1 (And.intro @AH.St.put.eq_2 (And.intro @AH.applyWr.eq_1 (And.intro @AH.applyWr.eq_2 (And.intro @AH.mset.eq_1 (And.intro @AH.mset.eq_2 (And.intro @AH.mset.eq_3 (And.intro @AH.mset.eq_4 (And.intro @AH.terase.eq_1 (And.intro @AH.terase.eq_2 (And.intro @AH.pureE.eq_1 (And.intro @AH.intOp.eq_1 (And.intro @AH.intOp.eq_2 (And.intro @AH.intOp.eq_3 (And.intro @AH.intOp.eq_4 (And.intro @AH.intOp.eq_5 (And.intro @AH.intOp.eq_6 (And.intro @AH.intOp.eq_7 (And.intro @AH.intOp.eq_8 (And.intro @AH.intOp.eq_9 (And.intro @AH.intOp.eq_10 (And.intro @AH.intOp.eq_11 (And.intro @AH.intOp.eq_12 (And.intro @AH.intOp.eq_13 (And.intro @AH.intOp.eq_14 (And.intro @AH.intOp.eq_15 (And.intro @AH.intOp.eq_16 (And.intro @AH.intOp.eq_17 (And.intro @AH.fill.eq_1 (And.intro @AH.fill.eq_2 (And.intro @AH.mget.eq_1 (And.intro @AH.mget.eq_2 (And.intro @AH.mget.eq_3 (And.intro @AH.rowAt.eq_1 (And.intro @AH.part.eq_1 (And.intro @AH.part.eq_2 (And.intro @AH.rvs.eq_1 (And.intro @AH.rvs.eq_2 (And.intro @AH.rvs.eq_3 (And.intro @AH.splice.eq_1 (And.intro @AH.splice.eq_2 (And.intro @AH.splice.eq_3 (And.intro @AH.addLog.eq_1 (And.intro @AH.addLog.eq_2 (And.intro @AH.wpOpD.eq_1 (And.intro @AH.mapAt.eq_1 (And.intro @AH.iterAt.eq_1 True.intro))))))))))))))))))))))))))))))))))))))))))))))))))))))))))))))))))))))))))))))))))))))))))))))))))))))):=And.intro @AH.wpOp.eq_1 (And.intro @AH.AOp.map.eq_1 (And.intro @AH.AOp.map.eq_2 (And.intro @AH.AOp.map.eq_3 (And.intro @AH.AOp.map.eq_4 (And.intro @AH.AOp.map.eq_5 (And.intro @AH.AOp.map.eq_6 (And.intro @AH.AOp.map.eq_7 (And.intro @AH.AOp.map.eq_8 (And.intro @AH.AOp.map.eq_9 (And.intro @AH.AOp.map.eq_10 (And.intro @AH.AOp.map.eq_11 (And.intro @AH.AOp.map.eq_12 (And.intro @AH.AOp.map.eq_13 (And.intro @AH.AOp.map.eq_14 (And.intro @AH.AOp.map.eq_15 (And.intro @AH.AOp.map.eq_16 (And.intro @AH.AOp.map.eq_17 (And.intro @AH.AOp.map.eq_18 (And.intro @AH.AOp.map.eq_19 (And.intro @AH.AOp.map.eq_20 (And.intro @AH.AOp.map.eq_21 (And.intro @AH.AOp.map.eq_22 (And.intro @AH.AOp.map.eq_23 (And.intro @AH.AOp.map.eq_24 (And.intro @AH.AOp.map.eq_25 (And.intro @AH.AOp.map.eq_26 (And.intro @AH.AOp.map.eq_27 (And.intro @AH.AOp.map.eq_28 (And.intro @AH.AOp.map.eq_29 (And.intro @AH.AOp.map.eq_30 (And.intro @AH.AOp.map.eq_31 (And.intro @AH.AOp.map.eq_32 (And.intro @AH.AOp.map.eq_33 (And.intro @AH.AOp.map.eq_34 (And.intro @AH.AOp.map.eq_35 (And.intro @AH.AOp.map.eq_36 (And.intro @AH.AOp.map.eq_37 (And.intro @AH.AOp.map.eq_38 (And.intro @AH.AOp.map.eq_39 (And.intro @AH.AOp.map.eq_40 (And.intro @AH.AOp.map.eq_41 (And.intro @AH.AOp.map.eq_42 (And.intro @AH.AOp.map.eq_43 (And.intro @AH.AOp.map.eq_44 (And.intro @AH.AOp.map.eq_45 (And.intro @AH.AOp.map.eq_46 (And.intro @AH.Opd.ev.eq_1 (And.intro @AH.Opd.ev.eq_2 (And.intro @AH.tget.eq_1 (And.intro @AH.tget.eq_2 (And.intro @AH.argTm.eq_1 (And.intro @AH.argTm.eq_2 (And.intro @AH.evs.eq_1 (And.intro @AH.evs.eq_2 (And.intro @AH.St.eff.eq_1 (And.intro @AH.St.put.eq_1 (And.intro @AH.St.put.eq_2 (And.intro @AH.applyWr.eq_1 (And.intro @AH.applyWr.eq_2 (And.intro @AH.mset.eq_1 (And.intro @AH.mset.eq_2 (And.intro @AH.mset.eq_3 (And.intro @AH.mset.eq_4 (And.intro @AH.terase.eq_1 (And.intro @AH.terase.eq_2 (And.intro @AH.pureE.eq_1 (And.intro @AH.intOp.eq_1 (And.intro @AH.intOp.eq_2 (And.intro @AH.intOp.eq_3 (And.intro @AH.intOp.eq_4 (And.intro @AH.intOp.eq_5 (And.intro @AH.intOp.eq_6 (And.intro @AH.intOp.eq_7 (And.intro @AH.intOp.eq_8 (And.intro @AH.intOp.eq_9 (And.intro @AH.intOp.eq_10 (And.intro @AH.intOp.eq_11 (And.intro @AH.intOp.eq_12 (And.intro @AH.intOp.eq_13 (And.intro @AH.intOp.eq_14 (And.intro @AH.intOp.eq_15 (And.intro @AH.intOp.eq_16 (And.intro @AH.intOp.eq_17 (And.intro @AH.fill.eq_1 (And.intro @AH.fill.eq_2 (And.intro @AH.mget.eq_1 (And.intro @AH.mget.eq_2 (And.intro @AH.mget.eq_3 (And.intro @AH.rowAt.eq_1 (And.intro @AH.part.eq_1 (And.intro @AH.part.eq_2 (And.intro @AH.rvs.eq_1 (And.intro @AH.rvs.eq_2 (And.intro @AH.rvs.eq_3 (And.intro @AH.splice.eq_1 (And.intro @AH.splice.eq_2 (And.intro @AH.splice.eq_3 (And.intro @AH.addLog.eq_1 (And.intro @AH.addLog.eq_2 (And.intro @AH.wpOpD.eq_1 (And.intro @AH.mapAt.eq_1 (And.intro @AH.iterAt.eq_1 True.intro))))))))))))))))))))))))))))))))))))))))))))))))))))))))))))))))))))))))))))))))))))))))))))))))))))))
theorem SO : type_of% (And.intro @AH.effS.eq_1 (And.intro @AH.wrS.eq_1 (And.intro @AH.wrS.eq_2 (And.intro @AH.wrS.eq_3 (And.intro @AH.newS.eq_1 (And.intro @AH.newS.eq_2 (And.intro @AH.backNo.eq_1 (And.intro @AH.isIn.eq_1 (And.intro @AH.isIn.eq_2 (And.intro @AH.posOf.eq_1 (And.intro @AH.posOf.eq_2 (And.intro @AH.rtO_eq (And.intro @AH.rtO2_eq (And.intro @AH.rtO2_none (And.intro @AH.etO_eq (And.intro @AH.etO2_eq (And.intro @AH.etO2_none (And.intro @AH.useO_some (And.intro @AH.rtElse_eq (And.intro @AH.elseO_some (And.intro @AH.elseO_none (And.intro @AH.etN_eq (And.intro @Option.bind_some.{0,0} (And.intro @Option.bind_none.{0,0} (And.intro @AH.pairO_some (And.intro @AH.pairO_none (And.intro @AH.cC_dec (And.intro @AH.cC_nil (And.intro @AH.c0_dec (And.intro @AH.c0_dec1 (And.intro @AH.aI_dec (And.intro @AH.aS_dec (And.intro @AH.aB_dec (And.intro @AH.aNil_dec (And.intro @AH.aNil_ptr (And.intro @Option.map_none.{0,0} (And.intro @List.all_cons.{0} (And.intro @List.all_nil.{0} (And.intro @List.getElem?_cons_zero.{0} (And.intro @List.getElem?_cons_succ.{0} (And.intro @List.getElem?_nil.{0} (And.intro @AH.appE_some (And.intro @List.contains_cons.{0} (And.intro @List.contains_nil.{0} (And.intro @Nat.add_zero True.intro))))))))))))))))))))))))))))))))))))))))))))):=And.intro @AH.effS.eq_1 (And.intro @AH.wrS.eq_1 (And.intro @AH.wrS.eq_2 (And.intro @AH.wrS.eq_3 (And.intro @AH.newS.eq_1 (And.intro @AH.newS.eq_2 (And.intro @AH.backNo.eq_1 (And.intro @AH.isIn.eq_1 (And.intro @AH.isIn.eq_2 (And.intro @AH.posOf.eq_1 (And.intro @AH.posOf.eq_2 (And.intro @AH.rtO_eq (And.intro @AH.rtO2_eq (And.intro @AH.rtO2_none (And.intro @AH.etO_eq (And.intro @AH.etO2_eq (And.intro @AH.etO2_none (And.intro @AH.useO_some (And.intro @AH.rtElse_eq (And.intro @AH.elseO_some (And.intro @AH.elseO_none (And.intro @AH.etN_eq (And.intro @Option.bind_some.{0,0} (And.intro @Option.bind_none.{0,0} (And.intro @AH.pairO_some (And.intro @AH.pairO_none (And.intro @AH.cC_dec (And.intro @AH.cC_nil (And.intro @AH.c0_dec (And.intro @AH.c0_dec1 (And.intro @AH.aI_dec (And.intro @AH.aS_dec (And.intro @AH.aB_dec (And.intro @AH.aNil_dec (And.intro @AH.aNil_ptr (And.intro @Option.map_none.{0,0} (And.intro @List.all_cons.{0} (And.intro @List.all_nil.{0} (And.intro @List.getElem?_cons_zero.{0} (And.intro @List.getElem?_cons_succ.{0} (And.intro @List.getElem?_nil.{0} (And.intro @AH.appE_some (And.intro @List.contains_cons.{0} (And.intro @List.contains_nil.{0} (And.intro @Nat.add_zero True.intro))))))))))))))))))))))))))))))))))))))))))))
end AH
set_option linter.unusedSimpArgs false
namespace AH
open Go
variable {S : Sys}
theorem mset_end : ∀ {m : Mem} {b : Option Blk},mset m m.length b = m ++ [b]
  | [],_ =>rfl
  | _ :: m,b =>by simp only [List.length_cons,mset,List.cons_append,mset_end (m:=m)]
theorem mget_end : ∀ {m : Mem} {b : Option Blk},mget (m ++ [b]) m.length = b
  | [],_ =>rfl
  | _ :: m,b =>by simp only [List.length_cons,mget,List.cons_append,mget_end (m:=m)]
theorem mset_last : ∀ {m : Mem} {b b' : Option Blk},mset (m ++ [b]) m.length b' = m ++ [b']
  | [],_,_ =>rfl
  | _ :: m,b,b' =>by simp only [List.length_cons,mset,List.cons_append,mset_last (m:=m)]
def cloneF (k bytes : Nat) (z : List AV) : AFun:=⟨8,1,[.tmp 2],
  (.seq
   (.reg [
     ⟨(some 2),none,.mov (.c .nils)⟩])
   (.seq
    (.seq
     (.reg [
       ⟨(some 3),none,.mov (.t 0)⟩,
       ⟨(some 4),none,.eq false .slice true (.t 3) (.c .nils)⟩])
     (.cond (.t 4)
      (.seq
       (.reg [
         ⟨(some 2),none,.mov (.c .nils)⟩])
       .ret)
      .skip))
    (.seq
     (.reg [
       ⟨(some 5),none,.bslice k 0 z []⟩,
       ⟨(some 6),none,.mov (.t 0)⟩,
       ⟨(some 7),none,.append k bytes z (.t 5) (.t 6)⟩,
       ⟨(some 2),none,.mov (.t 7)⟩])
     .ret)))⟩
def cloneU (k : Nat) : UT:=fun args m =>match args with
  | [.nils] =>some (.slc m.length 0 0 none,m ++ [some (.row false k [])])
  | [.slc id ix n _] =>match rowE (mget m) id with
    | some (k',es) =>bif k' == k && (decide (ix + n ≤ es.length) && (decide (n ≤ 1048576) && ((es.drop ix).take n).all (AV.lts 0))) then some (.slc m.length 0 n none,m ++ [some (.row false k ((es.drop ix).take n))]) else none
    | none =>none
  | _ =>none
theorem all_rens {ρ : Nat → Nat} : ∀ {es : List (List AV)},es.all (AV.lts 0) = true → es.map (AV.rens ρ) = es
  | [],_ =>rfl
  | e :: r,h =>by
    simp only [List.all_cons,Bool.and_eq_true] at h
    simp only [List.map_cons,flats_rens h.1,all_rens h.2]
theorem all_inB {p : Nat → Bool} : ∀ {es : List (List AV)},es.all (AV.lts 0) = true → es.all (AV.insB p) = true
  | [],_ =>rfl
  | e :: r,h =>by
    simp only [List.all_cons,Bool.and_eq_true] at h
    simp only [List.all_cons,flats_inB h.1,all_inB h.2,Bool.and_self]
theorem clone_ok {g : FuncId} {fn : Func} {k bytes : Nat} {z : List AV} (he : S.errs ≠ []) (hm : S.P.follows .mixedOrders = true) (hf : S.P.funcs[g]? = some fn) (hF : cFun S.P S.errs fn = some (cloneF k bytes z)) (hz : z.length = k) (hk : 0 < k) (hb : 1048576 * bytes ≤ 140737488355328) :
    CallF S g (cloneU k):=by
  have okC : CtxOK S (ctxU S [] []):=ctxU_ok trivial trivial hm
  intro args m v m' e
  unfold cloneU at e
  split at e
  · simp only [Option.some.injEq,Prod.mk.injEq] at e
    obtain ⟨rfl,rfl⟩:=e
    refine CallA1.voids ?_
    refine fun_sound okC hf hF ?_
    unfold wpF cloneF
    simp only [AH.SD,AH.SE,AOp.call?,AOp.next?,bstep,AV.cells,unAV,binAV,retQ,retV,AH.sliceElems,AH.bytesOf,AH.strOp,AH.bound,AH.missQ,AH.minmaxAV,AH.readOf,AH.effOf,Nat.reduceBEq,Nat.reduceAdd,Nat.reduceLT,↓reduceIte,Nat.reduceEqDiff,Nat.reduceLeDiff,Nat.reduceSub,Nat.reduceMul,Int.reduceSub,Int.reduceToNat,Int.reduceBEq,Int.reduceBNe,Int.reduceLT,Int.reduceGT,Int.reduceLE,Int.reduceGE,Int.reduceNeg,Int.reduceAdd]
    exact ⟨_,_,voids_tm 0 k hk rfl,rfl,rfl⟩
  · rename_i id ix n cap
    split at e
    · rename_i k' es hrow
      cases hc : (k' == k && (decide (ix + n ≤ es.length) && (decide (n ≤ 1048576) && ((es.drop ix).take n).all (AV.lts 0)))) with
      | false =>rw [hc] at e; cases e
      | true =>
        rw [hc] at e
        simp only [cond_true,Option.some.injEq,Prod.mk.injEq] at e
        obtain ⟨rfl,rfl⟩:=e
        simp only [Bool.and_eq_true,beq_iff_eq,decide_eq_true_eq] at hc
        obtain ⟨rfl,hle,hn,hfl⟩:=hc
        obtain ⟨ro,hid⟩:=rowE_some hrow
        have hlt:=(mget_some hid).1
        have key : CallF S g (utN [k'] fun args rows =>match args,rows with
          | [.slc i j nn cp],[(k2,es')] =>bif i == 0 && (j == 0 && (cp.isNone && (k2 == k' && (nn == es'.length && (decide (nn ≤ 1048576) && es'.all (AV.lts 0)))))) then some (.slc 1 0 nn none,[some (.row false k' es')]) else none
          | _,_ =>none):=by
          refine utN_ok he fun args rows v news e => ?_
          split at e
          · rename_i i j nn cp k2 es'
            cases hc : (i == 0 && (j == 0 && (cp.isNone && (k2 == k' && (nn == es'.length && (decide (nn ≤ 1048576) && es'.all (AV.lts 0))))))) with
            | false =>rw [hc] at e; cases e
            | true =>
              rw [hc] at e
              simp only [cond_true,Option.some.injEq,Prod.mk.injEq] at e
              obtain ⟨rfl,rfl⟩:=e
              simp only [Bool.and_eq_true,beq_iff_eq,decide_eq_true_eq] at hc
              obtain ⟨rfl,rfl,hcp,rfl,rfl,h1,h2⟩:=hc
              have : cp = none:=by simpa using hcp
              subst this
              refine ⟨rfl,?_,rfl,?_⟩
              · simp only [List.all_cons,List.all_nil,blkIn,Blk.inB,all_inB h2,Bool.and_self]
              · refine CallA1.voids (CallA1.pack ?_)
                refine fun_sound okC hf hF ?_
                unfold wpF cloneF
                have hfr : ∀ p,es'.all (AV.insB p) = true:=fun p =>all_inB h2
                have hfm : ∀ ρ,es'.map (AV.rens ρ) = es':=fun ρ =>all_rens h2
                have e1 : es'.take es'.length = es':=List.take_length
                have hb2:=Nat.mul_le_mul_right bytes h1
                have fin : ∃ l : List Nat,heads 1 0 l = true ∧ distN l = true ∧ packB l [some (.row true k2 es'),some (.row false k2 []),some (.row false k2 es')] l = true ∧ (AV.slc 2 0 es'.length none).inB (inN l) = true ∧
                    ∃ tm' m'',Voids ⟨[(0,(AV.slc 2 0 es'.length none).ren (posN l))],packM l [some (.row true k2 es'),some (.row false k2 []),some (.row false k2 es')] l⟩ ⟨tm',m''⟩ ∧ tget tm' 0 = .slc 1 0 es'.length none ∧ m'' = [some (.row true k2 es'),some (.row false k2 es')]:=by
                  refine ⟨[0,2],rfl,rfl,?_,rfl,_,_,.refl _,rfl,?_⟩
                  · simp only [packB,mget,Blk.inB,hfr,Bool.and_self]
                  · simp only [packM,mget,Option.map_some,Blk.ren,hfm]
                cases hn0 : es'.length with
                | zero =>
                  obtain rfl : es' = []:=List.eq_nil_of_length_eq_zero hn0
                  simp only [AH.SD,AH.SE,AOp.call?,AOp.next?,bstep,AV.cells,unAV,binAV,retQ,retV,AH.sliceElems,AH.bytesOf,AH.strOp,AH.bound,AH.missQ,AH.minmaxAV,AH.readOf,AH.effOf,Nat.reduceBEq,Nat.reduceAdd,Nat.reduceLT,↓reduceIte,Nat.reduceEqDiff,Nat.reduceLeDiff,Nat.reduceSub,Nat.reduceMul,Int.reduceSub,Int.reduceToNat,Int.reduceBEq,Int.reduceBNe,Int.reduceLT,Int.reduceGT,Int.reduceLE,Int.reduceGE,Int.reduceNeg,Int.reduceAdd,rowsM]
                  refine ⟨⟨[0],rfl,rfl,rfl,rfl,_,_,voids_tm 0 k2 hk rfl,rfl,rfl⟩,hz,?_⟩
                  exact ⟨⟨hz,hk,trivial⟩,fin⟩
                | succ n' =>
                  rw [hn0] at e1 fin h1 hb2
                  simp only [AH.SD,AH.SE,AOp.call?,AOp.next?,bstep,AV.cells,unAV,binAV,retQ,retV,AH.sliceElems,AH.bytesOf,AH.strOp,AH.bound,AH.missQ,AH.minmaxAV,AH.readOf,AH.effOf,Nat.reduceBEq,Nat.reduceAdd,Nat.reduceLT,↓reduceIte,Nat.reduceEqDiff,Nat.reduceLeDiff,Nat.reduceSub,Nat.reduceMul,Int.reduceSub,Int.reduceToNat,Int.reduceBEq,Int.reduceBNe,Int.reduceLT,Int.reduceGT,Int.reduceLE,Int.reduceGE,Int.reduceNeg,Int.reduceAdd,rowsM,e1,hn0]
                  refine ⟨by omega,hz,?_⟩
                  exact ⟨⟨hz,hk,by omega,by omega⟩,fin⟩
          · cases e
        refine key _ _ _ _ ?_
        have hv : vw (mget m) [k'] [.slc id ix n cap] 0 = some ([.slc 0 0 n none],[(k',(es.drop ix).take n)],[id]):=by
          simp only [vw,hid,beq_self_eq_true,hle,decide_true,hfl,Bool.and_self,cond_true,Option.map_some]
        have hlen : ((es.drop ix).take n).length = n:=by rw [List.length_take,List.length_drop]; omega
        have hsn : shift m.length 1 1 = m.length:=by simp [shift]
        have hb1 : decide (n ≤ 1048576) = true:=by simpa using hn
        simp only [utN,hv,useN,hlen,hfl,hb1,beq_self_eq_true,Option.isNone_none,Bool.and_self,cond_true,Option.map_some,List.length_cons,List.length_nil,Nat.zero_add,AV.ren,hsn,newOnes,Blk.ren,all_rens hfl]
    · cases e
  · cases e
end AH
set_option linter.unusedSimpArgs false
namespace AH
open Go
variable {S : Sys} {C : Ctx} {Q : Exit → St → Prop}
class FlatE {α : Type} (enc : α → List AV) : Prop where
  flat : ∀ a,AV.lts 0 (enc a) = true
section
variable {α : Type} {enc : α → List AV} [FlatE enc]
theorem flatE_in (p : Nat → Bool) (a : α) : AV.insB p (enc a) = true:=flats_inB (FlatE.flat a)
theorem flatE_ren (ρ : Nat → Nat) (a : α) : AV.rens ρ (enc a) = enc a:=flats_rens (FlatE.flat a)
theorem flat_ins (p : Nat → Bool) : ∀ l : List α,(l.map enc).all (AV.insB p) = true
  | [] =>rfl
  | a :: r =>by simp only [List.map_cons,List.all_cons,flatE_in,flat_ins p r,Bool.and_self]
theorem flat_rens (ρ : Nat → Nat) : ∀ l : List α,(l.map enc).map (AV.rens ρ) = l.map enc
  | [] =>rfl
  | a :: r =>by simp only [List.map_cons,flatE_ren,flat_rens ρ r]
theorem flat_lts (n : Nat) : ∀ l : List α,(l.map enc).all (AV.lts n) = true
  | [] =>rfl
  | a :: r =>by simp only [List.map_cons,List.all_cons,lts_of_flat (FlatE.flat (enc:=enc) a),flat_lts n r,Bool.and_self]
end
section
variable {α : Type} {enc : α → List AV}
theorem getD_enc {l : List α} {i : Nat} (h : i < l.length) : (l.map enc).getD i [] = enc l[i]:=getD_map_lt _ _ _ _ h
theorem take_all {l : List α} : (l.map enc).take l.length = l.map enc:=by rw [List.take_of_length_le]; simp
end
theorem getD_set_ne {α : Type} {l : List α} {k j : Nat} {a d : α} (h : k ≠ j) : (l.set k a).getD j d = l.getD j d:=by rw [List.getD_eq_getElem?_getD,List.getElem?_set_ne h,← List.getD_eq_getElem?_getD]
inductive VStep where
  | tm (t k : Nat)
  | tup (t j k : Nat)
  | cell (id i j k : Nat)
  | cap (t : Nat)
  | tcap (t j : Nat)
  | ccap (id i j : Nat)
def tput (t : Nat) (v : AV) : Tm → Tm
  | [] => []
  | (s,u) :: r =>bif s == t then (s,v) :: r else (s,u) :: tput t v r
def vstep (s : St) : VStep → Option St
  | .tm t k =>match tget s.tm t,k with
    | .nils,k + 1 =>some ⟨tput t (.slc s.mem.length 0 0 none) s.tm,s.mem ++ [some (.row false (k + 1) [])]⟩
    | _,_ =>none
  | .tup t j k =>match tget s.tm t,k with
    | .tup l,k + 1 =>match l.getD j .undef with
      | .nils =>some ⟨tput t (.tup (l.set j (.slc s.mem.length 0 0 none))) s.tm,s.mem ++ [some (.row false (k + 1) [])]⟩
      | _ =>none
    | _,_ =>none
  | .cell id i j k =>match mget s.mem id,k with
    | some (.row ro k' es),k + 1 =>match (es.getD i []).getD j .undef with
      | .nils =>some ⟨s.tm,mset (s.mem ++ [some (.row false (k + 1) [])]) id (some (.row ro k' (es.set i ((es.getD i []).set j (.slc s.mem.length 0 0 none)))))⟩
      | _ =>none
    | _,_ =>none
  | .cap t =>match tget s.tm t with
    | .slc id ix len (some _) =>match mget s.mem id with
      | some _ =>some ⟨tput t (.slc id ix len none) s.tm,s.mem⟩
      | none =>none
    | _ =>none
  | .tcap t j =>match tget s.tm t with
    | .tup l =>match l.getD j .undef with
      | .slc id ix len (some _) =>match mget s.mem id with
        | some _ =>some ⟨tput t (.tup (l.set j (.slc id ix len none))) s.tm,s.mem⟩
        | none =>none
      | _ =>none
    | _ =>none
  | .ccap id i j =>match mget s.mem id with
    | some (.row ro k es) =>match (es.getD i []).getD j .undef with
      | .slc id' ix len (some _) =>match mget s.mem id' with
        | some _ =>some ⟨s.tm,mset s.mem id (some (.row ro k (es.set i ((es.getD i []).set j (.slc id' ix len none)))))⟩
        | none =>none
      | _ =>none
    | _ =>none
def wpV (X : St → Prop) : List VStep → Option St → Prop
  | [],some s =>X s
  | v :: r,some s =>wpV X r (vstep s v)
  | _,none =>False
theorem tput_spec {n t : Nat} {v : AV} : ∀ {l : Tm},voV n (tget l t) v → (∃ u,tget l t = u ∧ u ≠ .undef) → ∀ x,voV n (tget l x) (tget (tput t v l) x)
  | [],h,⟨u,h1,h2⟩,x =>by simp [tget] at h1; exact absurd h1.symm h2
  | (s,u) :: r,h,hu,x =>by
    simp only [tget] at h hu
    simp only [tput]
    by_cases hs : s = t
    · subst hs
      simp only [beq_self_eq_true,cond_true] at h ⊢
      simp only [tget]
      by_cases hx : s = x
      · subst hx; simp only [beq_self_eq_true,cond_true]; exact h
      · have : (s == x) = false:=by simp [hx]
        simp only [this,cond_false]; exact voV_refl
    · have e : (s == t) = false:=by simp [hs]
      simp only [e,cond_false] at h hu ⊢
      simp only [tget]
      by_cases hx : s = x
      · subst hx; simp only [beq_self_eq_true,cond_true]; exact voV_refl
      · have : (s == x) = false:=by simp [hx]
        simp only [this,cond_false]; exact tput_spec h hu x
theorem voL_refl {n : Nat} : ∀ l,voL n l l
  | [] =>trivial
  | _ :: r =>⟨.inl rfl,voL_refl r⟩
theorem voL_set {n : Nat} {v' : AV} : ∀ {l : List AV} {j : Nat},voE n (l.getD j .undef) v' → voL n l (l.set j v')
  | [],_,_ =>trivial
  | _ :: r,0,h =>⟨h,voL_refl r⟩
  | _ :: r,_ + 1,h =>⟨.inl rfl,voL_set (l:=r) h⟩
theorem getD_some {α : Type} {l : List α} {i : Nat} {d x : α} (h : l.getD i d = x) (hx : x ≠ d) : l[i]? = some x:=by
  rw [List.getD_eq_getElem?_getD] at h
  cases hq : l[i]? with
  | none =>rw [hq] at h; exact absurd h.symm hx
  | some y =>rw [hq] at h; simpa using h
theorem cell_there {es : List (List AV)} {i j : Nat} {v : AV} (h : (es.getD i []).getD j .undef = v) (hv : v ≠ .undef) : es[i]? = some (es.getD i []) ∧ (es.getD i [])[j]? = some v:=by
  have h2:=getD_some h hv
  refine ⟨?_,h2⟩
  have hne : es.getD i [] ≠ []:=fun q =>by rw [q] at h2; simp at h2
  exact getD_some rfl hne
theorem vstep_ok {s s' : St} {v : VStep} (h : vstep s v = some s') : Voids s s':=by
  unfold vstep at h
  split at h
  · split at h
    · rename_i k e
      simp only [Option.some.injEq] at h
      subst h
      exact .void (k + 1) _ _ (by omega) (.turn1 (n:=s.mem.length) ⟨by simp [mget_app,mget],tput_spec (by rw [e]; exact .inl (.inr (.inl ⟨rfl,rfl⟩))) ⟨_,e,by simp⟩,rfl,fun _ _ =>voB_refl⟩)
    · cases h
  · split at h
    · rename_i l k e
      split at h
      · rename_i e2
        simp only [Option.some.injEq] at h
        subst h
        exact .void (k + 1) _ _ (by omega) (.turn1 (n:=s.mem.length) ⟨by simp [mget_app,mget],tput_spec (by rw [e]; exact .inr ⟨_,_,rfl,rfl,voL_set (by rw [e2]; exact .inr (.inl ⟨rfl,rfl⟩))⟩) ⟨_,e,by simp⟩,rfl,fun _ _ =>voB_refl⟩)
      · cases h
    · cases h
  · split at h
    · rename_i ro k' es k e
      split at h
      · rename_i e2
        simp only [Option.some.injEq] at h
        subst h
        obtain ⟨h1,h2⟩:=cell_there e2 (by simp)
        exact voids_cell _ _ (k + 1) (by omega) e h1 h2
      · cases h
    · cases h
  · split at h
    · rename_i id ix len c e
      split at h
      · rename_i b e2
        simp only [Option.some.injEq] at h
        subst h
        exact .turn1 (n:=id) ⟨by rw [e2]; rfl,tput_spec (by rw [e]; exact .inl (.inr (.inr ⟨_,_,_,_,rfl,rfl⟩))) ⟨_,e,by simp⟩,rfl,fun _ _ =>voB_refl⟩
      · cases h
    · cases h
  · split at h
    · rename_i l e
      split at h
      · rename_i id ix len c e3
        split at h
        · rename_i b e2
          simp only [Option.some.injEq] at h
          subst h
          exact .turn1 (n:=id) ⟨by rw [e2]; rfl,tput_spec (by rw [e]; exact .inr ⟨_,_,rfl,rfl,voL_set (by rw [e3]; exact .inr (.inr ⟨_,_,_,_,rfl,rfl⟩))⟩) ⟨_,e,by simp⟩,rfl,fun _ _ =>voB_refl⟩
        · cases h
      · cases h
    · cases h
  · split at h
    · rename_i ro k es e
      split at h
      · rename_i id' ix len c e3
        split at h
        · rename_i b e2
          simp only [Option.some.injEq] at h
          subst h
          obtain ⟨h1,h2⟩:=cell_there e3 (by simp)
          exact .turn1 (n:=id') (turn_cell _ _ (by rw [e2]; rfl) e h1 h2 (.inr (.inr ⟨_,_,_,_,rfl,rfl⟩)))
        · cases h
      · cases h
    · cases h
theorem wpV_ok {X : St → Prop} : ∀ {vs : List VStep} {s : St},wpV X vs (some s) → ∃ s',Voids s s' ∧ X s'
  | [],s,h =>⟨s,.refl s,h⟩
  | v :: r,s,h =>by
    simp only [wpV] at h
    cases hq : vstep s v with
    | none =>rw [hq] at h; cases r <;> exact h.elim
    | some s1 =>
      rw [hq] at h
      obtain ⟨s',h1,h2⟩:=wpV_ok h
      exact ⟨s',(vstep_ok hq).trans h1,h2⟩
def packTm (l : List Nat) (tm : Tm) : List Nat → Tm
  | [] => []
  | t :: r =>(t,(tget tm t).ren (posN l)) :: packTm l tm r
def liveB (l : List Nat) (tm : Tm) : List Nat → Bool
  | [] =>true
  | t :: r =>(tget tm t).inB (inN l) && liveB l tm r
theorem packTm_spec {l : List Nat} {tm : Tm} : ∀ {live : List Nat},liveB l tm live = true → ∀ t,tget (packTm l tm live) t = .undef ∨ ((tget tm t).inB (inN l) = true ∧ tget (packTm l tm live) t = (tget tm t).ren (posN l))
  | [],_,_ => .inl rfl
  | x :: r,h,t =>by
    simp only [liveB,Bool.and_eq_true] at h
    simp only [packTm,tget]
    by_cases hx : x = t
    · subst hx; simp only [beq_self_eq_true,cond_true]; exact .inr ⟨h.1,trivial⟩
    · have : (x == t) = false:=by simp [hx]
      simp only [this,cond_false]
      exact packTm_spec h.2 t
theorem gc_auto {base : Nat} {X : St → Prop} {s : St} (l live : List Nat) (vs : List VStep)
    (h : (heads base 0 l = true ∧ distN l = true) ∧ packB l s.mem l = true ∧ liveB l s.tm live = true ∧ wpV X vs (some ⟨packTm l s.tm live,packM l s.mem l⟩)) : gcX base X s:=by
  obtain ⟨⟨h1,h2⟩,h3,h4,h5⟩:=h
  obtain ⟨s',h6,h7⟩:=wpV_ok h5
  exact ⟨s',⟨_,.inr ⟨l,h1,h2,h3,rfl,packTm_spec h4⟩,h6⟩,h7⟩
theorem CallA1.fin {g : FuncId} {args : List AV} {m : Mem} {K : AV → Mem → Prop}
    (h : CallA1 S g args m fun v m' => ∃ (l : List Nat) (vs : List VStep),(heads m.length 0 l = true ∧ distN l = true) ∧ packB l m' l = true ∧ v.inB (inN l) = true ∧ wpV (fun s =>K (tget s.tm 0) s.mem) vs (some ⟨[(0,v.ren (posN l))],packM l m' l⟩)) : CallA1 S g args m K:=by
  refine CallA1.voids (CallA1.pack (h.mono ?_))
  rintro v m' ⟨l,vs,⟨h1,h2⟩,h3,h4,h5⟩
  obtain ⟨⟨tm',m''⟩,h6,h7⟩:=wpV_ok h5
  exact ⟨l,h1,h2,h3,h4,tm',m'',h6,h7⟩
theorem loop_do {α : Type} {st : St} (l live : List Nat) (vs : List VStep) (μ : α → Nat) (f : α → St) (P : α → Prop) {b : ACode} (x0 : α) (hp : P x0)
    (h0 : (heads C.base 0 l = true ∧ distN l = true) ∧ packB l st.mem l = true ∧ liveB l st.tm live = true ∧ wpV (fun s =>s = f x0) vs (some ⟨packTm l st.tm live,packM l st.mem l⟩))
    (hstep : ∀ (X : St → Prop) x,P x → (∀ y,P y → μ y < μ x → X (f y)) → wpA C b (thenQ (gcX C.base X) Q) (f x)) : wpA C (.loop b) Q st :=
  loop_rule μ f P x0 hp (gc_auto l live vs h0) hstep
theorem wpV_nil {X : St → Prop} {s : St} : wpV X [] (some s) = X s:=rfl
theorem wpV_cons {X : St → Prop} {v : VStep} {r : List VStep} {s : St} : wpV X (v :: r) (some s) = wpV X r (vstep s v):=rfl
theorem lt_of_dec {i n : Nat} (h : decide ((i : Int) < (n : Int)) = true) : i < n:=by simpa using h
theorem ge_of_dec {i n : Nat} (h : decide ((i : Int) < (n : Int)) = false) : n ≤ i:=by simpa using h
theorem wrapS {i : Nat} (h : i < 4611686018427387904) : IntKind.i64.wrap ((i : Int) + 1) = ((i + 1 : Nat) : Int):=by rw [IntKind.wrap_i64]; omega
theorem CallA1.of {g : FuncId} {args : List AV} {m : Mem} {K K' : AV → Mem → Prop} (h : CallA1 S g args m K) (hk : ∀ v m',K v m' → K' v m') : CallA1 S g args m K':=h.mono hk
theorem PD : type_of% (And.intro @flat_ins (And.intro @flat_rens (And.intro @flatE_in (And.intro @flatE_ren (And.intro @wpV_nil (And.intro @wpV_cons (And.intro Bool.and_self (And.intro @Bool.and_true (And.intro @Bool.true_and (And.intro @and_true (And.intro @List.all_cons.{0} (And.intro @List.all_nil.{0} (And.intro @List.all_append.{0} (And.intro @List.map_append.{0,0} (And.intro @Bool.or_true (And.intro @Bool.true_or (And.intro @Bool.or_false (And.intro @Bool.false_or (And.intro Bool.not_true (And.intro Bool.not_false (And.intro @true_and (And.intro @List.length_append.{0} (And.intro @List.length_map.{0,0} (@take_all)))))))))))))))))))))))):=And.intro @flat_ins (And.intro @flat_rens (And.intro @flatE_in (And.intro @flatE_ren (And.intro @wpV_nil (And.intro @wpV_cons (And.intro Bool.and_self (And.intro @Bool.and_true (And.intro @Bool.true_and (And.intro @and_true (And.intro @List.all_cons.{0} (And.intro @List.all_nil.{0} (And.intro @List.all_append.{0} (And.intro @List.map_append.{0,0} (And.intro @Bool.or_true (And.intro @Bool.true_or (And.intro @Bool.or_false (And.intro @Bool.false_or (And.intro Bool.not_true (And.intro Bool.not_false (And.intro @true_and (And.intro @List.length_append.{0} (And.intro @List.length_map.{0,0} (@take_all)))))))))))))))))))))))
theorem SP : type_of% (And.intro @AH.heads.eq_1 (And.intro @AH.heads.eq_2 (And.intro @AH.heads.eq_3 (And.intro @AH.distN.eq_1 (And.intro @AH.distN.eq_2 (And.intro @AH.inN.eq_1 (And.intro @AH.inN.eq_2 (And.intro @AH.posN.eq_1 (And.intro @AH.posN.eq_2 (And.intro @AH.packM.eq_1 (And.intro @AH.packM.eq_2 (And.intro @AH.packB.eq_1 (And.intro @AH.packB.eq_2 (And.intro @AH.packTm.eq_1 (And.intro @AH.packTm.eq_2 (And.intro @AH.liveB.eq_1 (And.intro @AH.liveB.eq_2 (And.intro @AH.AV.insB.eq_1 (And.intro @AH.AV.insB.eq_2 (And.intro @AH.AV.ren.eq_1 (And.intro @AH.AV.ren.eq_2 (And.intro @AH.AV.ren.eq_3 (And.intro @AH.AV.ren.eq_4 (And.intro @AH.AV.ren.eq_5 (And.intro @AH.AV.ren.eq_6 (And.intro @AH.AV.ren.eq_7 (And.intro @AH.AV.ren.eq_8 (And.intro @AH.AV.ren.eq_9 (And.intro @AH.AV.ren.eq_10 (And.intro @AH.AV.ren.eq_11 (And.intro @AH.AV.ren.eq_12 (And.intro @AH.AV.ren.eq_13 (And.intro @AH.AV.ren.eq_14 (And.intro @AH.AV.ren.eq_15 (And.intro @AH.AV.ren.eq_16 (And.intro @AH.AV.ren.eq_17 (And.intro @AH.AV.ren.eq_18 (And.intro @AH.AV.rens.eq_1 (And.intro @AH.AV.rens.eq_2 (And.intro @AH.Blk.ren.eq_1 (And.intro @AH.Blk.ren.eq_2 (And.intro @AH.Blk.ren.eq_3 (And.intro @AH.Blk.inB.eq_1 (And.intro @AH.Blk.inB.eq_2 (And.intro @AH.Blk.inB.eq_3 (And.intro @AH.tput.eq_1 (And.intro @AH.tput.eq_2 True.intro))))))))))))))))))))))))))))))))))))))))))))))):=And.intro @AH.heads.eq_1 (And.intro @AH.heads.eq_2 (And.intro @AH.heads.eq_3 (And.intro @AH.distN.eq_1 (And.intro @AH.distN.eq_2 (And.intro @AH.inN.eq_1 (And.intro @AH.inN.eq_2 (And.intro @AH.posN.eq_1 (And.intro @AH.posN.eq_2 (And.intro @AH.packM.eq_1 (And.intro @AH.packM.eq_2 (And.intro @AH.packB.eq_1 (And.intro @AH.packB.eq_2 (And.intro @AH.packTm.eq_1 (And.intro @AH.packTm.eq_2 (And.intro @AH.liveB.eq_1 (And.intro @AH.liveB.eq_2 (And.intro @AH.AV.insB.eq_1 (And.intro @AH.AV.insB.eq_2 (And.intro @AH.AV.ren.eq_1 (And.intro @AH.AV.ren.eq_2 (And.intro @AH.AV.ren.eq_3 (And.intro @AH.AV.ren.eq_4 (And.intro @AH.AV.ren.eq_5 (And.intro @AH.AV.ren.eq_6 (And.intro @AH.AV.ren.eq_7 (And.intro @AH.AV.ren.eq_8 (And.intro @AH.AV.ren.eq_9 (And.intro @AH.AV.ren.eq_10 (And.intro @AH.AV.ren.eq_11 (And.intro @AH.AV.ren.eq_12 (And.intro @AH.AV.ren.eq_13 (And.intro @AH.AV.ren.eq_14 (And.intro @AH.AV.ren.eq_15 (And.intro @AH.AV.ren.eq_16 (And.intro @AH.AV.ren.eq_17 (And.intro @AH.AV.ren.eq_18 (And.intro @AH.AV.rens.eq_1 (And.intro @AH.AV.rens.eq_2 (And.intro @AH.Blk.ren.eq_1 (And.intro @AH.Blk.ren.eq_2 (And.intro @AH.Blk.ren.eq_3 (And.intro @AH.Blk.inB.eq_1 (And.intro @AH.Blk.inB.eq_2 (And.intro @AH.Blk.inB.eq_3 (And.intro @AH.tput.eq_1 (And.intro @AH.tput.eq_2 True.intro))))))))))))))))))))))))))))))))))))))))))))))
end AH
set_option linter.unusedSimpArgs false
namespace AH
open Go
variable {S : Sys}
end AH
namespace AH
open Go Go.RowKit Go.ChangeMaps
variable {S : Sys} {eb : Nat → Addr} {own : Nat → Prop} {w0 w w' : World} {φ φ' : Emb} {M : Nat → Option Blk}
theorem MR.below {T : TypeId} (hM : MR T eb φ M own w) (h : Below w.heap.size w w') : MR T eb φ M own w' :=
  ⟨hM.dom,hM.kk,fun id b hi hs =>by
    obtain ⟨o,ho,hb⟩:=hM.blk id b hi hs
    exact ⟨o,by rw [h.block _ (Array.getElem?_eq_some_iff.1 ho).1]; exact ho,hb⟩,hM.own,hM.inj⟩
theorem Keeps.below (hk : Keeps own w0 w) (h : Below w.heap.size w w') : Keeps own w0 w' :=
  ⟨h.os.trans hk.os,h.output.trans hk.output,Nat.le_trans hk.size h.size,fun b hb ho =>(h.block b (Nat.lt_of_lt_of_le hb hk.size)).trans (hk.kept b hb ho),hk.new⟩
end AH
set_option linter.unusedSimpArgs false
namespace AH
open Go
variable {S : Sys} {eb : Nat → Addr} {own : Nat → Prop} {w0 w : World} {φ φ' : Emb} {C : Ctx}
structure En (β : Type) where
  k : Int
  v : β
  s : Nat
section
variable {β : Type}
def enF (k : Int) : List (En β) → Nat → Option (Nat × En β)
  | [],_ =>none
  | e :: r,i =>bif k == e.k then some (i,e) else enF k r (i + 1)
theorem enF_some {k : Int} : ∀ {L : List (En β)} {i j : Nat} {e : En β},enF k L i = some (j,e) → i ≤ j ∧ L[j - i]? = some e ∧ e.k = k ∧ ∀ e' ∈ L.take (j - i),e'.k ≠ k
  | [],i,j,e,h =>by cases h
  | x :: r,i,j,e,h =>by
    unfold enF at h
    cases hq : k == x.k with
    | true =>
      rw [hq] at h
      simp only [cond_true,Option.some.injEq,Prod.mk.injEq] at h
      obtain ⟨rfl,rfl⟩:=h
      refine ⟨Nat.le_refl _,by simp,(beq_iff_eq.1 hq).symm,by simp⟩
    | false =>
      rw [hq] at h
      simp only [cond_false] at h
      obtain ⟨h1,h2,h3,h4⟩:=enF_some h
      have e1 : j - i = (j - (i + 1)) + 1:=by omega
      refine ⟨by omega,by rw [e1,List.getElem?_cons_succ]; exact h2,h3,fun e' he' => ?_⟩
      rw [e1,List.take_succ_cons] at he'
      rcases List.mem_cons.1 he' with rfl | he'
      · intro q; rw [q] at hq; simp at hq
      · exact h4 e' he'
theorem enF_none {k : Int} : ∀ {L : List (En β)} {i : Nat},enF k L i = none ↔ k ∉ L.map (·.k)
  | [],i =>by simp [enF]
  | x :: r,i =>by
    unfold enF
    cases hq : k == x.k with
    | true =>simp at hq; simp [hq]
    | false =>simp at hq; simp [hq,enF_none]
end
def vf2 {α β γ : Type} (k1 k2 : Nat) (c1 : Cod α) (c2 : Cod β) (x : Cod γ) (f : List α → List β → γ → AV) : VF:=fun args rows =>match args,rows with
  | .slc i1 j1 n1 q1 :: .slc i2 j2 n2 q2 :: r,[(w1,es1),(w2,es2)] =>match c1.decL es1,c2.decL es2,x.dec r with
    | some l1,some l2,some b =>bif (i1 == 0 && (j1 == 0 && (q1.isNone && (w1 == k1 && (n1 == l1.length && decide (n1 ≤ 1048576)))))) && (i2 == 1 && (j2 == 0 && (q2.isNone && (w2 == k2 && (n2 == l2.length && decide (n2 ≤ 1048576)))))) then some (f l1 l2 b) else none
    | _,_,_ =>none
  | _,_ =>none
theorem vf2_ok {α β γ : Type} {g : FuncId} {k1 k2 : Nat} {c1 : Cod α} {c2 : Cod β} {x : Cod γ} {f : List α → List β → γ → AV} (he : S.errs ≠ [])
    (H : ∀ l1 l2 b,l1.length ≤ 1048576 → l2.length ≤ 1048576 → (f l1 l2 b).lt 0 = true ∧
      CallA1 S g (.slc 0 0 l1.length none :: .slc 1 0 l2.length none :: x.enc b) [some (.row true k1 (l1.map c1.enc)),some (.row true k2 (l2.map c2.enc))] fun r _ =>r = f l1 l2 b) :
    ReadF S g (rtV [k1,k2] (vf2 k1 k2 c1 c2 x f)):=by
  refine rtV_ok he fun args rows v e => ?_
  unfold vf2 at e
  split at e
  · rename_i i1 j1 n1 q1 i2 j2 n2 q2 r w1 es1 w2 es2
    split at e
    · rename_i l1 l2 b h1 h2 h3
      cases hc : (i1 == 0 && (j1 == 0 && (q1.isNone && (w1 == k1 && (n1 == l1.length && decide (n1 ≤ 1048576)))))) && (i2 == 1 && (j2 == 0 && (q2.isNone && (w2 == k2 && (n2 == l2.length && decide (n2 ≤ 1048576)))))) with
      | false =>rw [hc] at e; cases e
      | true =>
        rw [hc] at e
        simp only [cond_true,Option.some.injEq] at e
        subst e
        simp only [Bool.and_eq_true,beq_iff_eq,decide_eq_true_eq] at hc
        obtain ⟨⟨rfl,rfl,hp1,rfl,rfl,hb1⟩,rfl,rfl,hp2,rfl,rfl,hb2⟩:=hc
        have : q1 = none:=by simpa using hp1
        subst this
        have : q2 = none:=by simpa using hp2
        subst this
        rw [c1.decL_ok h1,c2.decL_ok h2,x.ok _ _ h3]
        exact H l1 l2 b hb1 hb2
    · cases e
  · cases e
theorem vf2_eq {α β γ : Type} {k1 k2 : Nat} {c1 : Cod α} {c2 : Cod β} {x : Cod γ} {f : List α → List β → γ → AV} {id1 ix1 n1 id2 ix2 n2 : Nat} {p1 p2 : Option Nat} {r : List AV} {M : Nat → Option Blk} {es1 es2 : List (List AV)} {l1 : List α} {l2 : List β} {b : γ}
    (hM1 : rowE M id1 = some (k1,es1)) (hM2 : rowE M id2 = some (k2,es2)) (hs1 : (es1.drop ix1).take n1 = l1.map c1.enc) (hs2 : (es2.drop ix2).take n2 = l2.map c2.enc) (hle1 : ix1 + n1 ≤ es1.length) (hle2 : ix2 + n2 ≤ es2.length) (hb1 : n1 ≤ 1048576) (hb2 : n2 ≤ 1048576) (hr : x.dec r = some b) :
    rtV [k1,k2] (vf2 k1 k2 c1 c2 x f) (.slc id1 ix1 n1 p1 :: .slc id2 ix2 n2 p2 :: r) M = some (f l1 l2 b,[id1,id2]):=by
  obtain ⟨ro1,hM1⟩:=rowE_some hM1
  obtain ⟨ro2,hM2⟩:=rowE_some hM2
  have hn1 : n1 = l1.length:=by
    have:=congrArg List.length hs1
    rw [List.length_take,List.length_drop,List.length_map] at this
    omega
  have hn2 : n2 = l2.length:=by
    have:=congrArg List.length hs2
    rw [List.length_take,List.length_drop,List.length_map] at this
    omega
  have hrf:=x.ok _ _ hr
  have hfl : AV.lts 0 r = true:=by rw [hrf]; exact x.flat b
  have hv : vw M [k1,k2] (.slc id1 ix1 n1 p1 :: .slc id2 ix2 n2 p2 :: r) 0 = some (.slc 0 0 n1 none :: .slc 1 0 n2 none :: r,[(k1,l1.map c1.enc),(k2,l2.map c2.enc)],[id1,id2]):=by
    simp only [vw,hM1,hM2,beq_self_eq_true,hle1,hle2,decide_true,hs1,hs2,c1.all_flat,c2.all_flat,Bool.and_self,cond_true,vw_flat hfl,Option.map_some]
  simp only [rtV,hv,useV,vf2,c1.decL_map,c2.decL_map,hr]
  subst hn1 hn2
  simp [hb1,hb2]
def rt1Q {α β : Type} (k : Nat) (c : Cod α) (f : List α → β → AV) (n id : Nat) : Option Blk → Option β → Option (AV × List Nat)
  | some (.row _ k' es),some b =>if k' = k then (c.decL es).bind fun l =>if n = l.length ∧ n ≤ 1048576 then some (f l b,[id]) else none else none
  | _,_ =>none
def rt1 {α β : Type} (k : Nat) (c : Cod α) (x : Cod β) (f : List α → β → AV) : RT:=fun args M =>match args with
  | .slc id 0 n _ :: r =>rt1Q k c f n id (M id) (x.dec r)
  | _ =>none
theorem rt1Q_eq {α β : Type} {k : Nat} {c : Cod α} {f : List α → β → AV} {id : Nat} {ro : Bool} {l : List α} {b : β} (h : l.length ≤ 1048576) : rt1Q k c f l.length id (some (.row ro k (l.map c.enc))) (some b) = some (f l b,[id]):=by
  simp only [rt1Q,if_true,c.decL_map,Option.bind_some,h,and_self]
theorem rt1Q_inv {α β : Type} {k : Nat} {c : Cod α} {f : List α → β → AV} {n id : Nat} {o : Option Blk} {q : Option β} {v : AV} {foot : List Nat} (h : rt1Q k c f n id o q = some (v,foot)) :
    ∃ ro l b,o = some (.row ro k (l.map c.enc)) ∧ q = some b ∧ n = l.length ∧ n ≤ 1048576 ∧ v = f l b ∧ foot = [id]:=by
  unfold rt1Q at h
  split at h
  · rename_i ro k' es b
    split at h
    · rename_i hk
      subst hk
      simp only [Option.bind_eq_some_iff] at h
      obtain ⟨l,h1,h2⟩:=h
      split at h2
      · rename_i hn
        simp only [Option.some.injEq,Prod.mk.injEq] at h2
        obtain ⟨rfl,rfl⟩:=h2
        exact ⟨ro,l,b,by rw [c.decL_ok h1],rfl,hn.1,hn.2,rfl,rfl⟩
      · cases h2
    · cases h
  · cases h
theorem rowE_of {M : Nat → Option Blk} {id k : Nat} {ro : Bool} {es : List (List AV)} (h : M id = some (.row ro k es)) : rowE M id = some (k,es):=by unfold rowE; rw [h]
theorem rt1_ok {α β : Type} {g : FuncId} {k : Nat} {c : Cod α} {x : Cod β} {f : List α → β → AV} (he : S.errs ≠ []) (h : ∀ l b,l.length ≤ 1048576 → (f l b).lt 0 = true ∧ CallA1 S g (.slc 0 0 l.length none :: x.enc b) [some (.row true k (l.map c.enc))] fun r _ =>r = f l b) :
    ReadF S g (rt1 k c x f):=by
  intro args M v foot e
  unfold rt1 at e
  split at e
  · rename_i id n cp r
    obtain ⟨ro,l,b,h1,h2,rfl,h4,rfl,rfl⟩:=rt1Q_inv e
    have:=vf1_ok he h (.slc id 0 l.length cp :: r) M (f l b) [id] (vf1_eq (c:=c) (x:=x) (f:=f) (rowE_of h1) (by rw [List.drop_zero,List.take_of_length_le (by simp)]) (by simp) h4 h2)
    refine ⟨fun M' hM' => ?_,this.2⟩
    have h5 : M' id = M id:=hM' id (by simp)
    simp only [rt1,h5,h1,h2,rt1Q_eq h4]
  · cases e
def rt2Q {α β γ : Type} (k1 k2 : Nat) (c1 : Cod α) (c2 : Cod β) (f : List α → List β → γ → AV) (n1 id1 n2 id2 : Nat) : Option Blk → Option Blk → Option γ → Option (AV × List Nat)
  | some (.row _ j1 es1),some (.row _ j2 es2),some b =>if j1 = k1 ∧ j2 = k2 then (c1.decL es1).bind fun l1 =>(c2.decL es2).bind fun l2 =>if (n1 = l1.length ∧ n1 ≤ 1048576) ∧ n2 = l2.length ∧ n2 ≤ 1048576 then some (f l1 l2 b,[id1,id2]) else none else none
  | _,_,_ =>none
def rt2 {α β γ : Type} (k1 k2 : Nat) (c1 : Cod α) (c2 : Cod β) (x : Cod γ) (f : List α → List β → γ → AV) : RT:=fun args M =>match args with
  | .slc id1 0 n1 _ :: .slc id2 0 n2 _ :: r =>rt2Q k1 k2 c1 c2 f n1 id1 n2 id2 (M id1) (M id2) (x.dec r)
  | _ =>none
theorem rt2Q_eq {α β γ : Type} {k1 k2 : Nat} {c1 : Cod α} {c2 : Cod β} {f : List α → List β → γ → AV} {id1 id2 : Nat} {ro1 ro2 : Bool} {l1 : List α} {l2 : List β} {b : γ} (h1 : l1.length ≤ 1048576) (h2 : l2.length ≤ 1048576) :
    rt2Q k1 k2 c1 c2 f l1.length id1 l2.length id2 (some (.row ro1 k1 (l1.map c1.enc))) (some (.row ro2 k2 (l2.map c2.enc))) (some b) = some (f l1 l2 b,[id1,id2]):=by
  simp only [rt2Q,and_self,if_true,c1.decL_map,c2.decL_map,Option.bind_some,h1,h2]
theorem rt2Q_inv {α β γ : Type} {k1 k2 : Nat} {c1 : Cod α} {c2 : Cod β} {f : List α → List β → γ → AV} {n1 id1 n2 id2 : Nat} {o1 o2 : Option Blk} {q : Option γ} {v : AV} {foot : List Nat} (h : rt2Q k1 k2 c1 c2 f n1 id1 n2 id2 o1 o2 q = some (v,foot)) :
    ∃ ro1 ro2 l1 l2 b,o1 = some (.row ro1 k1 (l1.map c1.enc)) ∧ o2 = some (.row ro2 k2 (l2.map c2.enc)) ∧ q = some b ∧ (n1 = l1.length ∧ n1 ≤ 1048576) ∧ (n2 = l2.length ∧ n2 ≤ 1048576) ∧ v = f l1 l2 b ∧ foot = [id1,id2]:=by
  unfold rt2Q at h
  split at h
  · rename_i ro1 j1 es1 ro2 j2 es2 b
    split at h
    · rename_i hk
      obtain ⟨rfl,rfl⟩:=hk
      simp only [Option.bind_eq_some_iff] at h
      obtain ⟨l1,h1,l2,h2,h3⟩:=h
      split at h3
      · rename_i hn
        simp only [Option.some.injEq,Prod.mk.injEq] at h3
        obtain ⟨rfl,rfl⟩:=h3
        exact ⟨ro1,ro2,l1,l2,b,by rw [c1.decL_ok h1],by rw [c2.decL_ok h2],rfl,hn.1,hn.2,rfl,rfl⟩
      · cases h3
    · cases h
  · cases h
theorem rt2_ok {α β γ : Type} {g : FuncId} {k1 k2 : Nat} {c1 : Cod α} {c2 : Cod β} {x : Cod γ} {f : List α → List β → γ → AV} (he : S.errs ≠ [])
    (H : ∀ l1 l2 b,l1.length ≤ 1048576 → l2.length ≤ 1048576 → (f l1 l2 b).lt 0 = true ∧
      CallA1 S g (.slc 0 0 l1.length none :: .slc 1 0 l2.length none :: x.enc b) [some (.row true k1 (l1.map c1.enc)),some (.row true k2 (l2.map c2.enc))] fun r _ =>r = f l1 l2 b) :
    ReadF S g (rt2 k1 k2 c1 c2 x f):=by
  intro args M v foot e
  unfold rt2 at e
  split at e
  · rename_i id1 n1 p1 id2 n2 p2 r
    obtain ⟨ro1,ro2,l1,l2,b,h1,h2,h3,⟨rfl,h4⟩,⟨rfl,h5⟩,rfl,rfl⟩:=rt2Q_inv e
    have:=vf2_ok he H (.slc id1 0 l1.length p1 :: .slc id2 0 l2.length p2 :: r) M (f l1 l2 b) [id1,id2] (vf2_eq (c1:=c1) (c2:=c2) (x:=x) (f:=f) (rowE_of h1) (rowE_of h2) (by rw [List.drop_zero,List.take_of_length_le (by simp)]) (by rw [List.drop_zero,List.take_of_length_le (by simp)]) (by simp) (by simp) h4 h5 h3)
    refine ⟨fun M' hM' => ?_,this.2⟩
    have h6 : M' id1 = M id1:=hM' id1 (by simp)
    have h7 : M' id2 = M id2:=hM' id2 (by simp)
    simp only [rt2,h6,h7,h1,h2,h3,rt2Q_eq h4 h5]
  · cases e
end AH
set_option linter.unusedSimpArgs false
namespace AH
open Go
variable {β : Type}
def stamps (S : List (En β)) : List Nat:=S.map (·.s)
structure Part (L S : List (En β)) : Prop where
  sub : ∀ x ∈ S,x ∈ L
  nd : (stamps S).Nodup
theorem Part.snoc {L S : List (En β)} (h : Part L S) {x : En β} (hx : x ∈ L) (hn : x.s ∉ stamps S) : Part L (S ++ [x]):=by
  refine ⟨fun y hy => ?_,?_⟩
  · rcases List.mem_append.1 hy with q | q
    · exact h.sub y q
    · simp only [List.mem_singleton] at q; subst q; exact hx
  · unfold stamps
    rw [List.map_append]
    refine List.nodup_append.2 ⟨h.nd,by simp,fun a ha b hb q => ?_⟩
    simp only [List.map_cons,List.map_nil,List.mem_singleton] at hb
    rw [q,hb] at ha; exact hn ha
theorem nodup_of_map {γ : Type} (f : β → γ) : ∀ {l : List β},(l.map f).Nodup → l.Nodup
  | [],_ =>List.nodup_nil
  | a :: r,h =>by
    rw [List.map_cons,List.nodup_cons] at h
    exact List.nodup_cons.2 ⟨fun q =>h.1 (List.mem_map_of_mem q),nodup_of_map f h.2⟩
theorem stamp_inj {L : List (En β)} (hn : (stamps L).Nodup) {x y : En β} (hx : x ∈ L) (hy : y ∈ L) (h : x.s = y.s) : x = y:=by
  obtain ⟨i,hi⟩:=List.getElem?_of_mem hx
  obtain ⟨j,hj⟩:=List.getElem?_of_mem hy
  have a1 : (stamps L)[i]? = some x.s:=by rw [stamps,List.getElem?_map,hi]; rfl
  have a2 : (stamps L)[j]? = some x.s:=by rw [stamps,List.getElem?_map,hj,h]; rfl
  have : i = j:=(List.getElem?_inj (List.getElem?_eq_some_iff.1 a1).1 hn).1 (a1.trans a2.symm)
  subst this
  rw [hi] at hj
  exact Option.some.inj hj
theorem Part.all {L S : List (En β)} (h : Part L S) (hn : (stamps L).Nodup) (ha : ∀ x ∈ L,x.s ∈ stamps S) : S.Perm L:=by
  refine (List.perm_ext_iff_of_nodup (nodup_of_map _ h.nd) (nodup_of_map _ hn)).2 fun x =>⟨h.sub x,fun hx => ?_⟩
  obtain ⟨y,hy,hs⟩:=List.mem_map.1 (ha x hx)
  have : y = x:=stamp_inj hn (h.sub y hy) hx hs
  rw [← this]; exact hy
theorem Part.len {L S : List (En β)} (h : Part L S) : S.length ≤ L.length:=by
  have hnd : S.Nodup:=nodup_of_map _ h.nd
  exact hnd.length_le_of_subset h.sub
theorem Part.lt {L S : List (En β)} (h : Part L S) {x : En β} (hx : x ∈ L) (hn : x.s ∉ stamps S) : S.length < L.length:=by
  have:=(h.snoc hx hn).len
  rw [List.length_append,List.length_singleton] at this
  omega
def rtC1 {α : Type} (p : α → Prop) [DecidablePred p] (f : α → AV) : Option α → Option (AV × List Nat)
  | some a =>if p a then some (f a,[]) else none
  | none =>none
def rtC {α : Type} (c : Cod α) (p : α → Prop) [DecidablePred p] (f : α → AV) : RT:=fun args _ =>rtC1 p f (c.dec args)
theorem rtC_p {α : Type} {c : Cod α} {p : α → Prop} [DecidablePred p] {f : α → AV} {args : List AV} {M : Nat → Option Blk} : rtC c p f args M = rtC1 p f (c.dec args):=rfl
theorem rtC1_eq {α : Type} {p : α → Prop} [DecidablePred p] {f : α → AV} {a : α} (h : p a) : rtC1 p f (some a) = some (f a,[]):=by simp only [rtC1,h,if_true]
theorem rtC_ok {α : Type} {S : AH.Sys} {g : FuncId} {c : Cod α} {p : α → Prop} [DecidablePred p] {f : α → AV} (h : ∀ a,p a → AH.Pure S g (c.enc a) (f a)) (hf : ∀ a,(f a).lt 0 = true) : ReadF S g (rtC c p f):=by
  refine ReadF.pure fun args M v foot e => ?_
  unfold rtC rtC1 at e
  split at e
  · rename_i a ha
    split at e
    · rename_i hp
      simp only [Option.some.injEq,Prod.mk.injEq] at e
      obtain ⟨rfl,rfl⟩:=e
      refine ⟨rfl,fun M' =>by simp only [rtC,ha,rtC1,hp,if_true],?_,hf a,?_⟩
      · rw [c.ok _ _ ha]; exact c.flat a
      · rw [c.ok _ _ ha]; exact h a hp
    · cases e
  · cases e
end AH
set_option linter.unusedSimpArgs false
namespace AH
open Go
variable {β : Type}
structure Mp (β : Type) where
  L : List (En β)
  c : Nat
theorem Mp.eta (t : Mp β) : (⟨t.L,t.c⟩ : Mp β) = t:=rfl
structure Mp.wf (t : Mp β) : Prop where
  keys : (t.L.map (·.k)).Nodup
  stamps : (t.L.map (·.s)).Nodup
  lt : ∀ e ∈ t.L,e.s < t.c
theorem Mp.wf.snoc {t : Mp β} (h : t.wf) {k : Int} (hk : enF k t.L 0 = none) (v : β) : (⟨t.L ++ [⟨k,v,t.c⟩],t.c + 1⟩ : Mp β).wf:=by
  refine ⟨?_,?_,fun e he => ?_⟩
  · simp only [List.map_append,List.map_cons,List.map_nil]
    refine List.nodup_append.2 ⟨h.keys,by simp,fun a ha b hb q => ?_⟩
    simp only [List.mem_singleton] at hb
    rw [q,hb] at ha
    exact enF_none.1 hk ha
  · simp only [List.map_append,List.map_cons,List.map_nil]
    refine List.nodup_append.2 ⟨h.stamps,by simp,fun a ha b hb q => ?_⟩
    simp only [List.mem_singleton] at hb
    rw [q,hb] at ha
    obtain ⟨e,he,hs⟩:=List.mem_map.1 ha
    have:=h.lt e he
    omega
  · simp only [List.mem_append,List.mem_singleton] at he
    rcases he with he | rfl
    · exact Nat.lt_succ_of_lt (h.lt e he)
    · exact Nat.lt_succ_self _
theorem Mp.wf.set {t : Mp β} (h : t.wf) {k : Int} {i : Nat} {e : En β} (hk : enF k t.L 0 = some (i,e)) (v : β) : (⟨t.L.set i ⟨k,v,e.s⟩,t.c⟩ : Mp β).wf:=by
  obtain ⟨_,h2,h3,_⟩:=enF_some hk
  rw [Nat.sub_zero] at h2
  have hi:=(List.getElem?_eq_some_iff.1 h2).1
  have m1 : (t.L.set i ⟨k,v,e.s⟩).map (·.k) = t.L.map (·.k):=by
    rw [List.map_set]
    refine List.ext_getElem? fun j => ?_
    by_cases q : i = j
    · subst q; rw [List.getElem?_set_self (by simpa using hi),List.getElem?_map,h2]; simp [h3]
    · rw [List.getElem?_set_ne q]
  have m2 : (t.L.set i ⟨k,v,e.s⟩).map (·.s) = t.L.map (·.s):=by
    rw [List.map_set]
    refine List.ext_getElem? fun j => ?_
    by_cases q : i = j
    · subst q; rw [List.getElem?_set_self (by simpa using hi),List.getElem?_map,h2]; simp
    · rw [List.getElem?_set_ne q]
  refine ⟨by rw [m1]; exact h.keys,by rw [m2]; exact h.stamps,fun x hx => ?_⟩
  rcases List.mem_or_eq_of_mem_set hx with q | q
  · exact h.lt x q
  · subst q; exact h.lt e (List.mem_of_getElem? h2)
def rtPQ {α γ : Type} (k : Nat) (c : Cod α) (f : List α → γ → AV) (n id : Nat) : Option Blk → Option γ → Option (AV × List Nat)
  | some (.row _ k' es),some b =>if k' = k ∧ n ≤ es.length then (c.decL (es.take n)).bind fun l =>if n ≤ 1048576 then some (f l b,[id]) else none else none
  | _,_ =>none
def rtPre {α γ : Type} (k : Nat) (c : Cod α) (x : Cod γ) (f : List α → γ → AV) : RT:=fun args M =>match args with
  | .slc id 0 n _ :: r =>rtPQ k c f n id (M id) (x.dec r)
  | _ =>none
section
variable {α γ : Type} {k n id : Nat} {c : Cod α} {x : Cod γ} {f : List α → γ → AV} {ro : Bool} {b : γ}
theorem rtPre_p {cp : Option Nat} {r : List AV} {M : Nat → Option Blk} : rtPre k c x f (.slc id 0 n cp :: r) M = rtPQ k c f n id (M id) (x.dec r):=rfl
theorem rtPQ_eq {l z : List α} (h : l.length ≤ 1048576) : rtPQ k c f l.length id (some (.row ro k ((l ++ z).map c.enc))) (some b) = some (f l b,[id]):=by
  have e : ((l ++ z).map c.enc).take l.length = l.map c.enc:=by rw [← List.map_take,List.take_left]
  simp only [rtPQ,e,c.decL_map,Option.bind_some,h,if_true,true_and,List.length_map,List.length_append,Nat.le_add_right]
theorem rtPQ_eq1 {l : List α} (h : l.length ≤ 1048576) : rtPQ k c f l.length id (some (.row ro k (l.map c.enc))) (some b) = some (f l b,[id]):=by
  have:=rtPQ_eq (k:=k) (c:=c) (f:=f) (id:=id) (ro:=ro) (b:=b) (l:=l) (z:=[]) h
  rwa [List.append_nil] at this
theorem rtPQ_inv {o : Option Blk} {q : Option γ} {v : AV} {foot : List Nat} (h : rtPQ k c f n id o q = some (v,foot)) :
    ∃ ro es l b,o = some (.row ro k es) ∧ es.take n = l.map c.enc ∧ n ≤ es.length ∧ q = some b ∧ n = l.length ∧ n ≤ 1048576 ∧ v = f l b ∧ foot = [id]:=by
  unfold rtPQ at h
  split at h
  · rename_i ro k' es b
    split at h
    · rename_i hk
      obtain ⟨rfl,hle⟩:=hk
      simp only [Option.bind_eq_some_iff] at h
      obtain ⟨l,h1,h2⟩:=h
      split at h2
      · rename_i hn
        simp only [Option.some.injEq,Prod.mk.injEq] at h2
        obtain ⟨rfl,rfl⟩:=h2
        have e:=c.decL_ok h1
        refine ⟨ro,es,l,b,rfl,e,hle,rfl,?_,hn,rfl,rfl⟩
        have:=congrArg List.length e
        rw [List.length_take,List.length_map] at this
        omega
      · cases h2
    · cases h
  · cases h
theorem rtPre_ok {S : AH.Sys} {g : FuncId} (he : S.errs ≠ []) (h : ∀ l b,l.length ≤ 1048576 → (f l b).lt 0 = true ∧ CallA1 S g (.slc 0 0 l.length none :: x.enc b) [some (.row true k (l.map c.enc))] fun r _ =>r = f l b) : ReadF S g (rtPre k c x f):=by
  intro args M v foot e
  unfold rtPre at e
  split at e
  · rename_i id n cp r
    obtain ⟨ro,es,l,b,h1,h2,h3,h4,h5,h6,rfl,rfl⟩:=rtPQ_inv e
    have:=vf1_ok he h (.slc id 0 n cp :: r) M (f l b) [id] (vf1_eq (c:=c) (x:=x) (f:=f) (rowE_of h1) (by rw [List.drop_zero]; exact h2) (by omega) h6 h4)
    refine ⟨fun M' hM' => ?_,this.2⟩
    have h7 : M' id = M id:=hM' id (by simp)
    simp only [rtPre,h7]
    exact e
  · cases e
end
end AH
namespace AH
open Go
def ACode.at : ACode → List Bool → ACode
  | c,[] =>c
  | .seq a _,false :: r =>a.at r
  | .seq _ b,true :: r =>b.at r
  | .cond _ a _,false :: r =>a.at r
  | .cond _ _ b,true :: r =>b.at r
  | .block _ b,_ :: r =>b.at r
  | .loop b,_ :: r =>b.at r
  | c,_ =>c
end AH
namespace AH
open Go
def sxR {α : Type} (c : Cod α) (k n id : Nat) : Option Blk → Option (List α × List (Nat × Bool))
  | some (.row _ k' es) =>if k' = k then (c.decL es).bind fun L =>if L.length = n then some (L,[(id,true)]) else none else none
  | _ =>none
def sxD {α : Type} (c : Cod α) (k : Nat) (M : Nat → Option Blk) : AV → Option (List α × List (Nat × Bool))
  | .slc id 0 n none =>sxR c k n id (M id)
  | _ =>none
theorem sxD_inv {α : Type} {c : Cod α} {k : Nat} {M : Nat → Option Blk} {v : AV} {L : List α} {sel : List (Nat × Bool)} (h : sxD c k M v = some (L,sel)) :
    ∃ id ro,v = .slc id 0 L.length none ∧ sel = [(id,true)] ∧ M id = some (.row ro k (L.map c.enc)):=by
  unfold sxD at h
  split at h
  · rename_i id n
    unfold sxR at h
    split at h
    · rename_i ro k' es hm
      split at h
      · rename_i hk
        subst hk
        simp only [Option.bind_eq_some_iff] at h
        obtain ⟨L',h1,h2⟩:=h
        split at h2
        · rename_i hn
          simp only [Option.some.injEq,Prod.mk.injEq] at h2
          obtain ⟨rfl,rfl⟩:=h2
          subst hn
          exact ⟨id,ro,rfl,rfl,by rw [hm,c.decL_ok h1]⟩
        · cases h2
      · cases h
    · cases h
  · cases h
theorem sxR_eq {α : Type} {c : Cod α} {k id : Nat} {ro : Bool} {L : List α} : sxR c k L.length id (some (.row ro k (L.map c.enc))) = some (L,[(id,true)]):=by
  simp only [sxR,if_true,c.decL_map,Option.bind_some]
def sxO {α : Type} (c : Cod α) (k : Nat) : AH.Obj (List α) where
  dec:=sxD c k
  mem:=fun L => [some (.row true k (L.map c.enc))]
  self:=fun L => .slc 0 0 L.length none
  ok:=by
    intro M v L sel h
    obtain ⟨id,ro,rfl,rfl,hm⟩:=sxD_inv h
    refine ⟨⟨?_,?_⟩,?_,?_,?_⟩
    · simp only [selF,hm,Blk.inB,c.all_in]; rfl
    · simp only [distinct,isIn]; rfl
    · simp only [subF,hm,Option.map_some,Blk.ren,Blk.asRo,List.map_map]
      congr 4
      funext a
      exact flats_rens (c.flat a)
    · simp [AV.inB,isIn]
    · simp [AV.ren,posOf]
  loc:=by
    intro M v L sel h M' hM'
    obtain ⟨id,ro,rfl,rfl,hm⟩:=sxD_inv h
    have h1 : M' id = M id:=hM' id (by simp)
    simp only [sxD,h1,hm,sxR_eq]
theorem sxO_dec {α : Type} {c : Cod α} {k id n : Nat} {M : Nat → Option Blk} : (sxO c k).dec M (.slc id 0 n none) = sxR c k n id (M id):=rfl
end AH
namespace AH
open Go
def cSub1 {α : Type} (c : Cod α) (p : α → Prop) [DecidablePred p] : Cod {a // p a} where
  enc a:=c.enc a.1
  dec l:=match c.dec l with
    | some a =>if h : p a then some ⟨a,h⟩ else none
    | none =>none
  ok l a h:=by
    split at h
    · rename_i b hb
      split at h
      · simp only [Option.some.injEq] at h
        subst h
        exact c.ok l b hb
      · cases h
    · cases h
  de a:=by
    rw [c.de a.1]
    simp only [dif_pos a.2]
  flat a:=c.flat a.1
theorem cSub1_dec {α : Type} {c : Cod α} {p : α → Prop} [DecidablePred p] {args : List AV} {a : α} (h : p a) (hd : c.dec args = some a) : (cSub1 c p).dec args = some ⟨a,h⟩:=by
  simp only [cSub1,hd,dif_pos h]
end AH
set_option linter.unusedSimpArgs false
namespace AH
open Go Go.ChangeShapes Go.WideShapes Go.RowKit
section
variable {H : Type} {enc : TypeId × Value → H} {P : Program} {W : World} {held : Bool}
theorem slice_core {t e : TypeId} {ks : List SH} {fuel : Nat} {cs : List Value} {x : DataW H × List MemPlace} (T : TypeId) (eb : Nat → Addr) (ht : P.underlying t = some (.slice e)) (hk : shapeT P 8 e = some ks) (hc : P.cellsOf e = ks.length) (hpos : 0 < ks.length)
    (hany : ∃ (b : Nat) (arr : Array Value) (et : TypeId) (fr : Nat × Nat),W.heap[b]? = some (Obj.cells arr et fr)) (hf : DataW.trod enc P W 0 (fun _ =>true) held fuel t cs = some x) :
    ∃ v es b off size,cs = [v] ∧ v.oneCell' = true ∧ SliceAt W T eb ks v es b off size:=by
  have empty : ∀ (ad : Option Addr) (b : Nat) (arr : Array Value) (et : TypeId) (fr : Nat × Nat),W.heap[b]? = some (Obj.cells arr et fr) → SliceAt W T eb ks (.slice ad 0 0) [] b 0 arr.size:=fun ad b arr et fr hb =>
    ⟨by simp,by simp,_,hb,fun φ id h1 h2 h3 h4 h5 =>⟨.slc0 id 0 none ad h1 (by simp),arr,et,fr,rfl,h4,h5.symm,by simp [h3],by simp,by simp⟩⟩
  rcases DataW.trod_slice ht hf with ⟨hcs,_⟩ | ⟨a,len,cap,elems,rest,n,_,hcs,_,_,hlc,hcm,hel,heach,hsp,_⟩
  · obtain ⟨b,arr,et,fr,hb⟩:=hany
    exact ⟨_,[],b,0,arr.size,hcs,rfl,empty none b arr et fr hb⟩
  · obtain ⟨hrl,hrest⟩:=hsp rfl
    by_cases hcap : cap = 0
    · subst hcap
      have hl0 : len = 0:=by omega
      subst hl0
      obtain ⟨b,arr,et,fr,hb⟩:=hany
      exact ⟨_,[],b,0,arr.size,hcs,rfl,empty (some a) b arr et fr hb⟩
    · -- every element is there
      have get : ∀ i,i < cap → ∃ cs,W.cells? 0 (a.add (i * P.cellsOf e)) (P.cellsOf e) = some cs ∧ shsV ks cs:=by
        intro i hi
        by_cases hil : i < len
        · have h1:=heach i hil
          rw [List.getElem?_eq_getElem (show i < elems.length by omega),Option.bind_eq_some_iff] at h1
          obtain ⟨cs,h2,h3⟩:=h1
          exact ⟨cs,h2,trod_shape 8 e ks hk h3⟩
        · have h1:=hrest (i - len) (by omega)
          rw [show len + (i - len) = i by omega,List.getElem?_eq_getElem (show i - len < rest.length by omega),Option.bind_eq_some_iff] at h1
          obtain ⟨cs,h2,h3⟩:=h1
          exact ⟨cs,h2,trod_shape 8 e ks hk h3⟩
      obtain ⟨spot,arr,et,fr,hb⟩ : a.spot = none ∧ ∃ arr et fr,W.heap[a.block]? = some (Obj.cells arr et fr):=by
        obtain ⟨cs,h1,h2⟩:=get 0 (by omega)
        have h3:=(World.cells?_some h1).2.2 0 (by have:=shsV_len h2; omega)
        simp only [Nat.zero_mul,Addr.add,if_true] at h3
        rw [List.getElem?_eq_getElem (show 0 < cs.length by have:=shsV_len h2; omega)] at h3
        obtain ⟨c,et,fr,h5,h4,_⟩:=cell_some h3
        exact ⟨h4,c,et,fr,h5⟩
      obtain ⟨bl,off,sp'⟩:=a
      simp only at spot hb
      subst spot
      have at_ : ∀ i j : Nat,i < cap → j < ks.length → ∃ cs : List Value,shsV ks cs ∧ W.cells? 0 (⟨bl,off + i * ks.length,none⟩) ks.length = some cs:=by
        intro i j hi hj
        obtain ⟨cs,h1,h2⟩:=get i hi
        rw [hc,add_lit] at h1
        exact ⟨cs,h2,h1⟩
      have cellsAt : ∀ i,i < cap → ∃ cs : List Value,shsV ks cs ∧ cs.length = ks.length ∧ ∀ j u,cs[j]? = some u → arr[off + i * ks.length + j]? = some u:=by
        intro i hi
        obtain ⟨cs,h1,h2⟩:=at_ i 0 hi hpos
        refine ⟨cs,h1,(shsV_len h1).symm,fun j u hj => ?_⟩
        have hjl:=(List.getElem?_eq_some_iff.1 hj).1
        have h3:=(World.cells?_some h2).2.2 j (by have:=shsV_len h1; omega)
        rw [add_lit,List.getElem?_eq_getElem hjl] at h3
        obtain ⟨arr',et',fr',g1,_,g2⟩:=cell_some h3
        simp only at g1 g2
        rw [hb] at g1; cases g1
        rw [g2,← hj,List.getElem?_eq_getElem hjl]
      have hfit : off + cap * ks.length ≤ arr.size:=by
        obtain ⟨cs,h1,h2,h3⟩:=cellsAt (cap - 1) (by omega)
        have hu : cs[ks.length - 1]? = some (cs[ks.length - 1]'(by omega)):=List.getElem?_eq_getElem _
        have:=(Array.getElem?_eq_some_iff.1 (h3 _ _ hu)).1
        have e1 : cap * ks.length = (cap - 1) * ks.length + ks.length:=by rw [← Nat.succ_mul]; congr 1; omega
        omega
      -- the abstract elements
      have build : ∀ m,m ≤ cap → ∃ es : List (List AV),es.length = m ∧ (∀ el ∈ es,shsOK ks el) ∧ ∀ (i : Nat) el,es[i]? = some el → el.length = ks.length ∧ ∀ φ,CellsAt T eb φ arr (off + i * ks.length) el:=by
        intro m
        induction m with
        | zero =>intro _; exact ⟨[],rfl,by simp,by simp⟩
        | succ m ih =>
          intro hm
          obtain ⟨es,h1,h2,h3⟩:=ih (by omega)
          obtain ⟨cs,g1,g2,g3⟩:=cellsAt m (by omega)
          obtain ⟨as,k1,k2,k3⟩:=shsV_av g1
          refine ⟨es ++ [as],by simp [h1],?_,?_⟩
          · intro el hel'
            rcases List.mem_append.1 hel' with q | q
            · exact h2 el q
            · simp only [List.mem_singleton] at q; subst q; exact k1
          · intro i el hi
            by_cases him : i < es.length
            · rw [List.getElem?_append_left him] at hi
              exact h3 i el hi
            · rw [List.getElem?_append_right (by omega)] at hi
              have hi0 : i = m:=by
                have:=(List.getElem?_eq_some_iff.1 hi).1
                simp at this; omega
              subst hi0
              rw [h1,Nat.sub_self] at hi
              simp at hi
              subst hi
              exact ⟨(shsOK_len k1).symm,fun φ =>cellsAt_of_list (k2 T eb φ) k3 g3⟩
      obtain ⟨es,h1,h2,h3⟩:=build len hlc
      refine ⟨_,es,bl,off,arr.size,hcs,rfl,h2,by omega,_,hb,fun φ id d1 d2 d3 d4 d5 =>⟨?_,arr,et,fr,rfl,d4,d5.symm,?_,by simp,fun i el hi => ?_⟩⟩
      · have:=VR.slc (T:=T) (eb:=eb) (φ:=φ) id 0 es.length none cap d1 (by omega) (by simp) (by rw [d3,d4,d5,Nat.zero_add]; exact hfit)
        rw [d2,d3,d4,Nat.zero_mul,Nat.add_zero,h1] at this
        rw [h1]
        exact this
      · have : es.length * ks.length ≤ cap * ks.length:=Nat.mul_le_mul_right _ (by omega)
        rw [d3]; omega
      · obtain ⟨g1,g2⟩:=h3 i el hi
        exact ⟨g1,by rw [d3]; exact g2 φ⟩
inductive NK where
  | f (k : SH)
  | s (ks : List SH)
inductive NV where
  | a (v : AV)
  | r (x : InRow)
def nkOK : NK → NV → Prop
  | .f k,.a v =>shOK k v
  | .s ks,.r x =>x.k = ks.length ∧ (∀ el ∈ x.es,shsOK ks el) ∧ x.es.length ≤ maxLen
  | _,_ =>False
def nksOK : List NK → List NV → Prop
  | [],[] =>True
  | k :: ks,v :: vs =>nkOK k v ∧ nksOK ks vs
  | _,_ =>False
def PlAt (φ : Emb) (id : Nat) (x : InRow) : Prop:=φ.dom id ∧ φ.blk id = x.b ∧ φ.base id = x.off ∧ φ.k id = x.k ∧ φ.size id = x.size
def nvAt (W : World) (T : TypeId) (eb : Nat → Addr) : NV → Value → Prop
  | .a v,u =>(∀ φ,VR T eb φ v u) ∧ u.oneCell' = true
  | .r x,u =>u.oneCell' = true ∧ ∃ o,W.heap[x.b]? = some o ∧ ∀ φ id,PlAt φ id x → VR T eb φ (.slc id 0 x.es.length none) u ∧ BR T eb φ id (.row true x.k x.es) o
def nvsAt (W : World) (T : TypeId) (eb : Nat → Addr) : List NV → List Value → Prop
  | [],[] =>True
  | v :: vs,u :: us =>nvAt W T eb v u ∧ nvsAt W T eb vs us
  | _,_ =>False
theorem nksOK_len : ∀ {ks : List NK} {vs : List NV},nksOK ks vs → ks.length = vs.length
  | [],[],_ =>rfl
  | [],_ :: _,h =>h.elim
  | _ :: _,[],h =>h.elim
  | _ :: _,_ :: _,h =>by simp [nksOK_len h.2]
theorem nvsAt_len {T : TypeId} {eb : Nat → Addr} : ∀ {vs : List NV} {us : List Value},nvsAt W T eb vs us → vs.length = us.length
  | [],[],_ =>rfl
  | [],_ :: _,h =>h.elim
  | _ :: _,[],h =>h.elim
  | _ :: _,_ :: _,h =>by simp [nvsAt_len h.2]
theorem nksOK_append : ∀ {k1 k2 : List NK} {v1 v2 : List NV},nksOK k1 v1 → nksOK k2 v2 → nksOK (k1 ++ k2) (v1 ++ v2)
  | [],_,[],_,_,h =>h
  | [],_,_ :: _,_,h,_ =>h.elim
  | _ :: _,_,[],_,h,_ =>h.elim
  | _ :: _,_,_ :: _,_,h,g =>⟨h.1,nksOK_append h.2 g⟩
theorem nvsAt_append {T : TypeId} {eb : Nat → Addr} : ∀ {k1 k2 : List NV} {v1 v2 : List Value},nvsAt W T eb k1 v1 → nvsAt W T eb k2 v2 → nvsAt W T eb (k1 ++ k2) (v1 ++ v2)
  | [],_,[],_,_,h =>h
  | [],_,_ :: _,_,h,_ =>h.elim
  | _ :: _,_,[],_,h,_ =>h.elim
  | _ :: _,_,_ :: _,_,h,g =>⟨h.1,nvsAt_append h.2 g⟩
theorem flat_nv {T : TypeId} {eb : Nat → Addr} : ∀ {ks : List SH} {vs : List Value},shsV ks vs → ∃ as : List NV,nksOK (ks.map .f) as ∧ nvsAt W T eb as vs
  | [],[],_ =>⟨[],trivial,trivial⟩
  | [],_ :: _,h =>h.elim
  | _ :: _,[],h =>h.elim
  | k :: ks,v :: vs,h =>by
    obtain ⟨as,h1,h2⟩:=flat_nv h.2
    have hk:=h.1
    cases k with
    | bool =>obtain ⟨b,rfl⟩:=hk; exact ⟨.a (.bool b) :: as,⟨⟨b,rfl⟩,h1⟩,⟨⟨fun _ => .bool b,rfl⟩,h2⟩⟩
    | int k =>obtain ⟨n,rfl,hw⟩:=hk; exact ⟨.a (.int k n) :: as,⟨⟨n,rfl,hw⟩,h1⟩,⟨⟨fun _ => .int k n,rfl⟩,h2⟩⟩
    | str =>obtain ⟨s,rfl,hw⟩:=hk; exact ⟨.a (.str s) :: as,⟨⟨s,rfl,hw⟩,h1⟩,⟨⟨fun _ => .str s,rfl⟩,h2⟩⟩
def nfield (P : Program) (t : TypeId) : Option (List NK):=match shapeT P 8 t with
  | some ks =>if P.cellsOf t = ks.length then some (ks.map .f) else none
  | none =>match P.underlying t with
    | some (.slice e) =>match shapeT P 8 e with
      | some ks =>if P.cellsOf e = ks.length ∧ 0 < ks.length ∧ P.cellsOf t = 1 then some [.s ks] else none
      | none =>none
    | _ =>none
def nfields (g : TypeId → Option (List NK)) : List Field → Nat → Option (List NK)
  | [],_ =>some []
  | f :: r,off =>if f.offset ≠ off then none else match g f.type with
    | some ks =>(nfields g r (off + ks.length)).map (ks ++ ·)
    | none =>none
def nshape (P : Program) (t : TypeId) : Option (List NK):=match P.underlying t with
  | some (.slice _) =>nfield P t
  | some (.struct fs) =>match nfields (nfield P) fs.toList 0 with
    | some ks =>if P.cellsOf t = ks.length then some ks else none
    | none =>none
  | _ =>none
theorem nfield_cells {t : TypeId} {nks : List NK} (h : nfield P t = some nks) : P.cellsOf t = nks.length:=by
  unfold nfield at h
  split at h
  · split at h
    · rename_i hc; simp only [Option.some.injEq] at h; subst h; simpa using hc
    · cases h
  · split at h
    · split at h
      · split at h
        · rename_i hc; simp only [Option.some.injEq] at h; subst h; exact hc.2.2
        · cases h
      · cases h
    · cases h
theorem trod_nfield {t : TypeId} {nks : List NK} {fuel : Nat} {cs : List Value} {x : DataW H × List MemPlace} (T : TypeId) (eb : Nat → Addr) (hn : nfield P t = some nks)
    (hany : ∃ (b : Nat) (arr : Array Value) (et : TypeId) (fr : Nat × Nat),W.heap[b]? = some (Obj.cells arr et fr)) (hf : DataW.trod enc P W 0 (fun _ =>true) held fuel t cs = some x) : ∃ nvs,nksOK nks nvs ∧ nvsAt W T eb nvs cs:=by
  unfold nfield at hn
  split at hn
  · rename_i ks hk
    split at hn
    · simp only [Option.some.injEq] at hn; subst hn
      exact flat_nv (trod_shape 8 t ks hk hf)
    · cases hn
  · split at hn
    · rename_i e ht
      split at hn
      · rename_i ks hk
        split at hn
        · rename_i hc
          simp only [Option.some.injEq] at hn; subst hn
          obtain ⟨v,es,b,off,size,rfl,h1,h2⟩:=slice_core T eb ht hk hc.1 hc.2.1 hany hf
          obtain ⟨o,g1,g2⟩:=h2.there
          exact ⟨[.r ⟨b,off,size,ks.length,es⟩],⟨⟨rfl,h2.each,h2.len⟩,trivial⟩,⟨⟨h1,o,g1,fun φ id hp =>g2 φ id hp.1 hp.2.1 hp.2.2.1 hp.2.2.2.1 hp.2.2.2.2⟩,trivial⟩⟩
        · cases hn
      · cases hn
    · cases hn
theorem trod_nshape {t : TypeId} {nks : List NK} {fuel : Nat} {cs : List Value} {x : DataW H × List MemPlace} (T : TypeId) (eb : Nat → Addr) (hn : nshape P t = some nks)
    (hany : ∃ (b : Nat) (arr : Array Value) (et : TypeId) (fr : Nat × Nat),W.heap[b]? = some (Obj.cells arr et fr)) (hf : DataW.trod enc P W 0 (fun _ =>true) held fuel t cs = some x) : ∃ nvs,nksOK nks nvs ∧ nvsAt W T eb nvs cs:=by
  unfold nshape at hn
  split at hn
  · exact trod_nfield T eb hn hany hf
  · rename_i fs hu
    split at hn
    · rename_i ks hfs
      split at hn
      · rename_i hc
        simp only [Option.some.injEq] at hn; subst hn
        obtain ⟨xs,n,_,_,hl,hlen,hff⟩:=DataW.trod_struct hu hf
        have key : ∀ (l : List Field) (off i : Nat) (ks : List NK),nfields (nfield P) l off = some ks → (∀ j : Nat,l[j]? = fs[i + j]?) → off + ks.length ≤ cs.length → ∃ nvs,nksOK ks nvs ∧ nvsAt W T eb nvs ((cs.drop off).take ks.length):=by
          intro l
          induction l with
          | nil =>
            intro off i ks h _ _
            simp only [nfields,Option.some.injEq] at h
            subst h
            exact ⟨[],trivial,by simp; trivial⟩
          | cons fl l ihl =>
            intro off i ks h hg hle
            simp only [nfields] at h
            split at h
            · cases h
            rename_i hoff
            simp only [ne_eq,Decidable.not_not] at hoff
            subst hoff
            split at h
            · rename_i k1 hk1
              simp only [Option.map_eq_some_iff] at h
              obtain ⟨k2,hk2,rfl⟩:=h
              simp only [List.length_append] at hle
              have hce:=nfield_cells hk1
              have h0 : fs[i]? = some fl:=by have:=hg 0; simpa using this.symm
              have hr:=hff i fl h0
              have hi : i < xs.length:=by rw [hlen]; exact (Array.getElem?_eq_some_iff.1 h0).1
              rw [List.getElem?_eq_getElem hi] at hr
              obtain ⟨n1,a1,a2⟩:=trod_nfield T eb hk1 hany hr
              rw [hce] at a2
              obtain ⟨n2,b1,b2⟩:=ihl (fl.offset + k1.length) (i + 1) k2 hk2 (fun j =>by have:=hg (j + 1); rw [List.getElem?_cons_succ] at this; rw [this]; congr 1; omega) (by omega)
              have:=nvsAt_append a2 b2
              refine ⟨n1 ++ n2,nksOK_append a1 b1,?_⟩
              rw [List.length_append,List.take_add,List.drop_drop]
              exact this
            · cases h
        have:=key fs.toList 0 0 ks hfs (by simp) (by omega)
        rw [List.drop_zero,List.take_of_length_le (by omega)] at this
        exact this
      · cases hn
    · cases hn
  · cases hn
end
def cellN (o : Nat) : List NV → List AV
  | [] => []
  | .a v :: r =>v :: cellN o r
  | .r x :: r => .slc o 0 x.es.length none :: cellN (o + 1) r
def rowsN : List NV → List InRow
  | [] => []
  | .a _ :: r =>rowsN r
  | .r x :: r =>x :: rowsN r
def cellsN (o : Nat) : List (List NV) → List (List AV)
  | [] => []
  | e :: r =>cellN o e :: cellsN (o + (rowsN e).length) r
def rowsNN : List (List NV) → List InRow
  | [] => []
  | e :: r =>rowsN e ++ rowsNN r
def PlAll (φ : Emb) (o : Nat) (l : List InRow) : Prop:=∀ (i : Nat) (x : InRow),l[i]? = some x → PlAt φ (o + i) x
theorem PlAll.left {φ : Emb} {o : Nat} {a b : List InRow} (h : PlAll φ o (a ++ b)) : PlAll φ o a:=fun i x hx =>h i x (by
  have:=(List.getElem?_eq_some_iff.1 hx).1
  rw [List.getElem?_append_left this]; exact hx)
theorem PlAll.right {φ : Emb} {o : Nat} {a b : List InRow} (h : PlAll φ o (a ++ b)) : PlAll φ (o + a.length) b:=fun i x hx =>by
  have:=h (a.length + i) x (by rw [List.getElem?_append_right (by omega),Nat.add_sub_cancel_left]; exact hx)
  rw [Nat.add_assoc]; exact this
theorem cellN_len : ∀ {o : Nat} {l : List NV},(cellN o l).length = l.length
  | _,[] =>rfl
  | _,.a _ :: r =>by simp [cellN,cellN_len (l:=r)]
  | _,.r _ :: r =>by simp [cellN,cellN_len (l:=r)]
theorem cellsN_len : ∀ {o : Nat} {l : List (List NV)},(cellsN o l).length = l.length
  | _,[] =>rfl
  | _,_ :: r =>by simp [cellsN,cellsN_len (l:=r)]
section
variable {W : World} {T : TypeId} {eb : Nat → Addr} {φ : Emb}
theorem cellN_at : ∀ {o : Nat} {l : List NV} {us : List Value},nvsAt W T eb l us → PlAll φ o (rowsN l) → ∀ (j : Nat) v,(cellN o l)[j]? = some v → ∃ u,us[j]? = some u ∧ VR T eb φ v u ∧ u.oneCell' = true
  | _,[],_,_,_,j,v,h =>by simp [cellN] at h
  | _,_ :: _,[],h,_,_,_,_ =>h.elim
  | o,.a x :: r,u :: us,h,hp,0,v,hv =>by
    simp [cellN] at hv; subst hv
    exact ⟨u,rfl,h.1.1 φ,h.1.2⟩
  | o,.a x :: r,u :: us,h,hp,j + 1,v,hv =>by
    simp only [cellN,List.getElem?_cons_succ] at hv ⊢
    exact cellN_at h.2 hp j v hv
  | o,.r x :: r,u :: us,h,hp,0,v,hv =>by
    simp [cellN] at hv; subst hv
    obtain ⟨h1,o',_,h3⟩:=h.1
    exact ⟨u,rfl,(h3 φ o (hp 0 x rfl)).1,h1⟩
  | o,.r x :: r,u :: us,h,hp,j + 1,v,hv =>by
    simp only [cellN,List.getElem?_cons_succ] at hv ⊢
    exact cellN_at h.2 (PlAll.right (a:=[x]) hp) j v hv
theorem rowsN_at : ∀ {l : List NV} {us : List Value},nvsAt W T eb l us → ∀ x ∈ rowsN l,∃ o,W.heap[x.b]? = some o ∧ ∀ φ id,PlAt φ id x → BR T eb φ id (.row true x.k x.es) o
  | [],_,_,x,h =>by cases h
  | _ :: _,[],h,_,_ =>h.elim
  | .a _ :: r,u :: us,h,x,hx =>rowsN_at h.2 x hx
  | .r y :: r,u :: us,h,x,hx =>by
    rcases List.mem_cons.1 hx with rfl | hx
    · obtain ⟨_,o,h2,h3⟩:=h.1
      exact ⟨o,h2,fun φ id hp =>(h3 φ id hp).2⟩
    · exact rowsN_at h.2 x hx
end
theorem cellsN_get {φ : Emb} : ∀ {o : Nat} {l : List (List NV)} {i : Nat} {e : List AV},(cellsN o l)[i]? = some e → ∃ el o',l[i]? = some el ∧ e = cellN o' el ∧ (PlAll φ o (rowsNN l) → PlAll φ o' (rowsN el))
  | _,[],i,e,h =>by simp [cellsN] at h
  | o,x :: r,0,e,h =>by
    simp [cellsN] at h
    exact ⟨x,o,rfl,h.symm,fun hp =>PlAll.left hp⟩
  | o,x :: r,i + 1,e,h =>by
    simp only [cellsN,List.getElem?_cons_succ] at h ⊢
    obtain ⟨el,o',h1,h2,h3⟩:=cellsN_get h
    exact ⟨el,o',h1,h2,fun hp =>h3 (PlAll.right hp)⟩
theorem rowsNN_mem : ∀ {l : List (List NV)} {i : Nat} {x : InRow},(rowsNN l)[i]? = some x → ∃ (m : Nat) (el : List NV),l[m]? = some el ∧ x ∈ rowsN el
  | [],i,x,h =>by simp [rowsNN] at h
  | e :: r,i,x,h =>by
    simp only [rowsNN] at h
    rcases Nat.lt_or_ge i (rowsN e).length with g | g
    · rw [List.getElem?_append_left g] at h
      exact ⟨0,e,rfl,List.mem_of_getElem? h⟩
    · rw [List.getElem?_append_right g] at h
      obtain ⟨m,el,h1,h2⟩:=rowsNN_mem h
      exact ⟨m + 1,el,h1,h2⟩
structure NestAt (W : World) (T : TypeId) (eb : Nat → Addr) (ks : List NK) (v : Value) (es : List (List NV)) (b off size : Nat) : Prop where
  each : ∀ el ∈ es,nksOK ks el
  len : es.length ≤ maxLen
  inner : ∀ (i : Nat) (x : InRow),(rowsNN es)[i]? = some x → ∃ o,W.heap[x.b]? = some o ∧ ∀ φ id,PlAt φ id x → BR T eb φ id (.row true x.k x.es) o
  there : ∃ o,W.heap[b]? = some o ∧ ∀ (φ : Emb) (id o0 : Nat),φ.dom id → φ.blk id = b → φ.base id = off → φ.k id = ks.length → φ.size id = size → PlAll φ o0 (rowsNN es) →
    VR T eb φ (.slc id 0 es.length none) v ∧ BR T eb φ id (.row true ks.length (cellsN o0 es)) o
section
variable {H : Type} {enc : TypeId × Value → H} {P : Program} {W : World} {held : Bool}
def NvS (W : World) (T : TypeId) (eb : Nat → Addr) (ks : List NK) (cs : List Value) : Prop:=∃ nvs,nksOK ks nvs ∧ nvsAt W T eb nvs cs
theorem nvS_len {T : TypeId} {eb : Nat → Addr} {ks : List NK} {cs : List Value} (h : NvS W T eb ks cs) : ks.length = cs.length:=by
  obtain ⟨n,h1,h2⟩:=h
  rw [nksOK_len h1,nvsAt_len h2]
theorem open_nest {t e : TypeId} {ks : List NK} {r : Reach} {b0 : Nat} {v : Value} {d : DataW H} {ps : List MemPlace} (T : TypeId) (eb : Nat → Addr) (ht : P.underlying t = some (.slice e)) (hk : nshape P e = some ks) (hc : P.cellsOf e = ks.length) (hpos : 0 < ks.length)
    (hany : ∃ (b : Nat) (arr : Array Value) (et : TypeId) (fr : Nat × Nat),W.heap[b]? = some (Obj.cells arr et fr)) (hval : Value.okWide P W r b0 t v) (hd : DataW.Trod enc P W 0 (fun _ =>true) held t v d ps) :
    ∃ es b off size,NestAt W T eb ks v es b off size:=by
  obtain ⟨fuel,hf⟩:=hd
  have empty : ∀ (ad : Option Addr) (b : Nat) (arr : Array Value) (et : TypeId) (fr : Nat × Nat),W.heap[b]? = some (Obj.cells arr et fr) → NestAt W T eb ks (.slice ad 0 0) [] b 0 arr.size:=fun ad b arr et fr hb =>
    ⟨by simp,by simp,by simp [rowsNN],_,hb,fun φ id o0 h1 h2 h3 h4 h5 _ =>⟨.slc0 id 0 none ad h1 (by simp),arr,et,fr,rfl,h4,h5.symm,by simp [h3,cellsN],by simp,by simp [cellsN]⟩⟩
  rcases DataW.trod_slice ht hf with ⟨hcs,_⟩ | ⟨a,len,cap,elems,rest,n,_,hcs,_,_,hlc,hcm,hel,heach,hsp,_⟩
  · obtain ⟨b,arr,et,fr,hb⟩:=hany
    have hv : v = .slice none 0 0:=by
      cases v with
      | agg cs =>simp [Value.okWide,ht,Cell.okWide,Cell.ok] at hval
      | _ =>simp_all [Value.cells]
    subst hv
    exact ⟨[],b,0,arr.size,empty none b arr et fr hb⟩
  · have hv : v = .slice (some a) len cap:=by
      cases v with
      | agg cs =>simp [Value.okWide,ht,Cell.okWide,Cell.ok] at hval
      | _ =>simp_all [Value.cells]
    subst hv
    obtain ⟨arr,et,fr,hb⟩:=okWide_slice ht hval
    obtain ⟨hrl,hrest⟩:=hsp rfl
    by_cases hcap : cap = 0
    · subst hcap
      have hl0 : len = 0:=by omega
      subst hl0
      exact ⟨[],a.block,0,arr.size,empty (some a) a.block arr et fr hb⟩
    · -- every element is there
      have get : ∀ i,i < cap → ∃ cs,W.cells? 0 (a.add (i * P.cellsOf e)) (P.cellsOf e) = some cs ∧ NvS W T eb ks cs:=by
        intro i hi
        by_cases hil : i < len
        · have h1:=heach i hil
          rw [List.getElem?_eq_getElem (show i < elems.length by omega),Option.bind_eq_some_iff] at h1
          obtain ⟨cs,h2,h3⟩:=h1
          exact ⟨cs,h2,trod_nshape T eb hk hany h3⟩
        · have h1:=hrest (i - len) (by omega)
          rw [show len + (i - len) = i by omega,List.getElem?_eq_getElem (show i - len < rest.length by omega),Option.bind_eq_some_iff] at h1
          obtain ⟨cs,h2,h3⟩:=h1
          exact ⟨cs,h2,trod_nshape T eb hk hany h3⟩
      have spot : a.spot = none:=by
        obtain ⟨cs,h1,h2⟩:=get 0 (by omega)
        have h3:=(World.cells?_some h1).2.2 0 (by have:=nvS_len h2; omega)
        simp only [Nat.zero_mul,Addr.add,if_true] at h3
        rw [List.getElem?_eq_getElem (show 0 < cs.length by have:=nvS_len h2; omega)] at h3
        obtain ⟨_,_,_,_,h4,_⟩:=cell_some h3
        exact h4
      obtain ⟨bl,off,sp'⟩:=a
      simp only at spot hb
      subst spot
      have at_ : ∀ i j : Nat,i < cap → j < ks.length → ∃ cs : List Value,NvS W T eb ks cs ∧ W.cells? 0 (⟨bl,off + i * ks.length,none⟩) ks.length = some cs:=by
        intro i j hi hj
        obtain ⟨cs,h1,h2⟩:=get i hi
        rw [hc,add_lit] at h1
        exact ⟨cs,h2,h1⟩
      have cellsAt : ∀ i,i < cap → ∃ cs : List Value,NvS W T eb ks cs ∧ cs.length = ks.length ∧ ∀ j u,cs[j]? = some u → arr[off + i * ks.length + j]? = some u:=by
        intro i hi
        obtain ⟨cs,h1,h2⟩:=at_ i 0 hi hpos
        refine ⟨cs,h1,(nvS_len h1).symm,fun j u hj => ?_⟩
        have hjl:=(List.getElem?_eq_some_iff.1 hj).1
        have h3:=(World.cells?_some h2).2.2 j (by have:=nvS_len h1; omega)
        rw [add_lit,List.getElem?_eq_getElem hjl] at h3
        obtain ⟨arr',et',fr',g1,_,g2⟩:=cell_some h3
        simp only at g1 g2
        rw [hb] at g1; cases g1
        rw [g2,← hj,List.getElem?_eq_getElem hjl]
      have hfit : off + cap * ks.length ≤ arr.size:=by
        obtain ⟨cs,h1,h2,h3⟩:=cellsAt (cap - 1) (by omega)
        have hu : cs[ks.length - 1]? = some (cs[ks.length - 1]'(by omega)):=List.getElem?_eq_getElem _
        have:=(Array.getElem?_eq_some_iff.1 (h3 _ _ hu)).1
        have e1 : cap * ks.length = (cap - 1) * ks.length + ks.length:=by rw [← Nat.succ_mul]; congr 1; omega
        omega
      -- the elements
      have build : ∀ m,m ≤ cap → ∃ es : List (List NV),es.length = m ∧ (∀ el ∈ es,nksOK ks el) ∧ ∀ (i : Nat) el,es[i]? = some el → ∃ us,nvsAt W T eb el us ∧ us.length = ks.length ∧ ∀ j u,us[j]? = some u → arr[off + i * ks.length + j]? = some u:=by
        intro m
        induction m with
        | zero =>intro _; exact ⟨[],rfl,by simp,by simp⟩
        | succ m ih =>
          intro hm
          obtain ⟨es,h1,h2,h3⟩:=ih (by omega)
          obtain ⟨cs,⟨as,k1,k2⟩,g2,g3⟩:=cellsAt m (by omega)
          refine ⟨es ++ [as],by simp [h1],?_,?_⟩
          · intro el hel'
            rcases List.mem_append.1 hel' with q | q
            · exact h2 el q
            · simp only [List.mem_singleton] at q; subst q; exact k1
          · intro i el hi
            by_cases him : i < es.length
            · rw [List.getElem?_append_left him] at hi
              exact h3 i el hi
            · rw [List.getElem?_append_right (by omega)] at hi
              have hi0 : i = m:=by
                have:=(List.getElem?_eq_some_iff.1 hi).1
                simp at this; omega
              subst hi0
              rw [h1,Nat.sub_self] at hi
              simp at hi
              subst hi
              exact ⟨cs,k2,g2,g3⟩
      obtain ⟨es,h1,h2,h3⟩:=build len hlc
      refine ⟨es,bl,off,arr.size,h2,by omega,?_,_,hb,fun φ id o0 d1 d2 d3 d4 d5 hpl =>⟨?_,arr,et,fr,rfl,d4,d5.symm,?_,by simp,fun i el hi => ?_⟩⟩
      · intro i x hi
        obtain ⟨m,el,hm,hx⟩:=rowsNN_mem hi
        obtain ⟨us,g1,_⟩:=h3 m el hm
        exact rowsN_at g1 x hx
      · have:=VR.slc (T:=T) (eb:=eb) (φ:=φ) id 0 es.length none cap d1 (by omega) (by simp) (by rw [d3,d4,d5,Nat.zero_add]; exact hfit)
        rw [d2,d3,d4,Nat.zero_mul,Nat.add_zero,h1] at this
        rw [h1]
        exact this
      · have : es.length * ks.length ≤ cap * ks.length:=Nat.mul_le_mul_right _ (by omega)
        rw [d3,cellsN_len]; omega
      · obtain ⟨nv,o',q1,rfl,q3⟩:=cellsN_get hi
        obtain ⟨us,g1,g2,g3⟩:=h3 i nv q1
        refine ⟨by rw [cellN_len,nvsAt_len g1,g2],?_⟩
        rw [d3]
        intro j v hj
        obtain ⟨u,u1,u2,u3⟩:=cellN_at g1 (q3 hpl) j v hj
        exact ⟨u,g3 j u u1,u2,u3⟩
theorem NestAt.at {T : TypeId} {eb : Nat → Addr} {ks : List NK} {v : Value} {es : List (List NV)} {b off size : Nat} (h : NestAt W T eb ks v es b off size) {ls : List InRow} {i o0 : Nat} (hi : ls[i]? = some ⟨b,off,size,ks.length,cellsN o0 es⟩)
    (ho : ∀ (j : Nat) (x : InRow),(rowsNN es)[j]? = some x → ls[o0 + j]? = some x) :
    VR T eb (embOf ls) (.slc i 0 es.length none) v ∧ (∃ o,W.heap[b]? = some o ∧ BR T eb (embOf ls) i (.row true ks.length (cellsN o0 es)) o) ∧ ∀ (j : Nat) (x : InRow),(rowsNN es)[j]? = some x → ∃ o,W.heap[x.b]? = some o ∧ BR T eb (embOf ls) (o0 + j) (.row true x.k x.es) o:=by
  have pl : ∀ {n : Nat} {x : InRow},ls[n]? = some x → PlAt (embOf ls) n x:=fun {n x} hn =>
    ⟨(List.getElem?_eq_some_iff.1 hn).1,by simp [embOf,List.getD,hn],by simp [embOf,List.getD,hn],by simp [embOf,List.getD,hn],by simp [embOf,List.getD,hn]⟩
  obtain ⟨o,h1,h2⟩:=h.there
  obtain ⟨p1,p2,p3,p4,p5⟩:=pl hi
  obtain ⟨g1,g2⟩:=h2 (embOf ls) i o0 p1 p2 p3 p4 p5 fun j x hx =>pl (ho j x hx)
  refine ⟨g1,⟨o,h1,g2⟩,fun j x hx => ?_⟩
  obtain ⟨o',q1,q2⟩:=h.inner j x hx
  exact ⟨o',q1,q2 _ _ (pl (ho j x hx))⟩
end
theorem nlist_of {α : Type} {enc : α → List NV} {ks : List NK} (h : ∀ el,nksOK ks el → ∃ a,el = enc a) : ∀ {es : List (List NV)},(∀ el ∈ es,nksOK ks el) → ∃ l : List α,es = l.map enc
  | [],_ =>⟨[],rfl⟩
  | e :: r,hs =>by
    obtain ⟨a,ha⟩:=h e (hs e (by simp))
    obtain ⟨l,hl⟩:=nlist_of h (es:=r) fun el hel =>hs el (by simp [hel])
    exact ⟨a :: l,by rw [ha,hl]; rfl⟩
theorem tops_get {α : Type} {tops rows pads : List α} {j : Nat} {x : α} (h : rows[j]? = some x) : (tops ++ (rows ++ pads))[tops.length + j]? = some x:=by
  have hl:=(List.getElem?_eq_some_iff.1 h).1
  rw [List.getElem?_append_right (by omega),Nat.add_sub_cancel_left,List.getElem?_append_left hl]
  exact h
theorem embOf_pl {ls : List InRow} {n : Nat} {x : InRow} (hn : ls[n]? = some x) : PlAt (embOf ls) n x :=
  ⟨(List.getElem?_eq_some_iff.1 hn).1,by simp [embOf,List.getD,hn],by simp [embOf,List.getD,hn],by simp [embOf,List.getD,hn],by simp [embOf,List.getD,hn]⟩
theorem mr_nest {T : TypeId} {eb : Nat → Addr} {W : World} {own : Nat → Prop} {tops rows pads : List InRow}
    (h1 : ∀ (i : Nat) (x : InRow),tops[i]? = some x → ∃ o,W.heap[x.b]? = some o ∧ BR T eb (embOf (tops ++ (rows ++ pads))) i (.row true x.k x.es) o)
    (h2 : ∀ (j : Nat) (x : InRow),rows[j]? = some x → ∃ o,W.heap[x.b]? = some o ∧ BR T eb (embOf (tops ++ (rows ++ pads))) (tops.length + j) (.row true x.k x.es) o)
    (h3 : ∀ x ∈ pads,∃ o,W.heap[x.b]? = some o ∧ ∀ φ id,PlAt φ id x → BR T eb φ id (.row true x.k x.es) o) : MR T eb (embOf (tops ++ (rows ++ pads))) (mget (memOf (tops ++ (rows ++ pads)))) own W:=by
  refine mr_of fun i x hx => ?_
  rcases Nat.lt_or_ge i tops.length with g | g
  · exact h1 i x (by rw [List.getElem?_append_left g] at hx; exact hx)
  · have hx2:=hx
    rw [List.getElem?_append_right g] at hx
    rcases Nat.lt_or_ge (i - tops.length) rows.length with q | q
    · rw [List.getElem?_append_left q] at hx
      have:=h2 _ x hx
      rw [show tops.length + (i - tops.length) = i by omega] at this
      exact this
    · rw [List.getElem?_append_right q] at hx
      obtain ⟨o,p1,p2⟩:=h3 x (List.mem_of_getElem? hx)
      exact ⟨o,p1,p2 _ _ (embOf_pl hx2)⟩
theorem pad_at {T : TypeId} {eb : Nat → Addr} {W : World} {b : Nat} {arr : Array Value} {et : TypeId} {fr : Nat × Nat} (h : W.heap[b]? = some (.cells arr et fr)) {n k : Nat} : ∀ x ∈ List.replicate n (⟨b,0,arr.size,k,[]⟩ : InRow),∃ o,W.heap[x.b]? = some o ∧ ∀ φ id,PlAt φ id x → BR T eb φ id (.row true x.k x.es) o:=fun x hx =>by
  obtain ⟨_,rfl⟩:=List.mem_replicate.1 hx
  exact ⟨_,h,fun φ id hp =>⟨arr,et,fr,rfl,hp.2.2.2.1,hp.2.2.2.2.symm,by simp [hp.2.2.1],by simp,by simp⟩⟩
end AH
