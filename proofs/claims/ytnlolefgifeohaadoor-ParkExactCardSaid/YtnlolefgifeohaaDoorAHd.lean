import Derived.Test.YtnlolefgifeohaaDoorAHc
import Derived.Maps.Own
import Derived.Lib.SlKeysI
namespace AH
open Go
theorem wr1 : IntKind.i64.wrap 1 = 1:=by decide
theorem wr2 : IntKind.i64.wrap 2 = 2:=by decide
theorem wr3 : IntKind.i64.wrap 3 = 3:=by decide
theorem wr4 : IntKind.i64.wrap 4 = 4:=by decide
theorem wr5 : IntKind.i64.wrap 5 = 5:=by decide
theorem wr6 : IntKind.i64.wrap 6 = 6:=by decide
theorem wr7 : IntKind.i64.wrap 7 = 7:=by decide
theorem wr8 : IntKind.i64.wrap 8 = 8:=by decide
theorem wr9 : IntKind.i64.wrap 9 = 9:=by decide
theorem wr10 : IntKind.i64.wrap 10 = 10:=by decide
theorem wr11 : IntKind.i64.wrap 11 = 11:=by decide
theorem wr12 : IntKind.i64.wrap 12 = 12:=by decide
theorem wr13 : IntKind.i64.wrap 13 = 13:=by decide
theorem wr14 : IntKind.i64.wrap 14 = 14:=by decide
theorem wr15 : IntKind.i64.wrap 15 = 15:=by decide
theorem wr16 : IntKind.i64.wrap 16 = 16:=by decide
theorem SD : type_of% (And.intro @AH.newsB_s (And.intro @AH.newsB_0 (And.intro @AH.lookE_nil (And.intro @AH.lookE_cons (And.intro @AH.appE_none (And.intro @AH.appE_some (And.intro @AH.callE_none (And.intro @AH.callE_eff (And.intro @AH.callE_new (And.intro @AH.callE_read (And.intro @AH.ctxU_eff (And.intro @AH.ctxE_eff (And.intro @AH.ctxE_read (And.intro @AH.ctxE_call (And.intro @AH.wpEffC_some (And.intro @AH.wpRead_none (And.intro Nat.sub_zero (And.intro @AH.wpA_skip (And.intro @AH.wpA_reg (And.intro @AH.wpA_draw (And.intro @AH.wpA_seq (And.intro @AH.wpA_cond (And.intro @AH.wpA_block (And.intro @AH.wpA_exit (And.intro @AH.wpA_ret (And.intro @AH.thenQ_normal (And.intro @AH.thenQ_exit (And.intro @AH.thenQ_ret (And.intro @AH.inBlk_normal (And.intro @AH.inBlk_exit (And.intro @AH.inBlk_ret (And.intro @AH.wpOps_nil (And.intro @AH.wpOps_plain (And.intro @AH.wpOps_guard (And.intro @AH.wpG_tt (And.intro @AH.wpG_ff (And.intro @AH.wpG_tf (And.intro @AH.wpG_ft (And.intro @AH.wpG_tu (And.intro @AH.wpC_true (And.intro @AH.wpC_false (And.intro @AH.wpOp_call (And.intro @AH.wpEff_some (And.intro @AH.wpCall_fn (And.intro @AH.kCall_eq (And.intro @List.map_nil.{0,0} (And.intro @List.map_cons.{0,0} (And.intro @cond_true.{0} (And.intro @cond_true.{1} (And.intro @cond_false.{0} (And.intro @cond_false.{1} (And.intro @List.length_cons.{0} (And.intro @List.length_nil.{0} (And.intro @List.append_nil.{0} (And.intro @List.nil_append.{0} (And.intro @List.cons_append.{0} (And.intro @true_and (And.intro @List.drop_zero.{0} (And.intro @List.take_succ_cons.{0} (And.intro @List.take_zero.{0} (And.intro @Nat.zero_add (And.intro @Nat.lt_add_one (And.intro @Nat.le_refl (And.intro @and_self (And.intro @List.getD_cons_zero.{0} (And.intro @beq_self_eq_true.{0} (And.intro @Nat.lt_irrefl (And.intro @Nat.zero_lt_one (And.intro @Option.map_some.{0,0} (And.intro @Bool.not_true (And.intro @Bool.not_false (And.intro @eq_self.{0} (And.intro @eq_self.{1} (And.intro @if_true.{0} (And.intro @if_true.{1} (And.intro @List.replicate_succ.{0} (And.intro @List.replicate_zero.{0} (And.intro @List.flatten_cons.{0} (And.intro @List.flatten_nil.{0} (And.intro @List.range_succ (And.intro @List.range_zero (And.intro @Nat.zero_mul (And.intro @Nat.mul_one (And.intro @List.getD_cons_succ.{0} (And.intro @Int.toNat_natCast (And.intro @AH.eqAV_bool (And.intro @AH.eqAV_flat (And.intro @AH.eqAV_p0 (And.intro @AH.eqAV_p1 (And.intro @AH.eqAV_p2 (And.intro @AH.eqAV_p3 (And.intro @AH.eqAV_s0 (And.intro @AH.eqAV_s1 (And.intro @AH.eqAV_s2 (And.intro @AH.eqAV_s3 (And.intro @AH.eqAV_s4 (And.intro @AH.eqAV_m0 (And.intro @AH.eqAV_m1 (And.intro @AH.eqAV_m2 (And.intro @AH.eqAV_f0 (And.intro @AH.eqAV_f1 (And.intro @AH.eqAV_f2 (And.intro @AH.eqAV_i0 (And.intro @AH.eqAV_i1 (And.intro @AH.eqAV_i2 (And.intro @AH.eqAV_i3 (And.intro @AH.eqAV_i4 (And.intro @Option.map_none.{0,0} (And.intro @List.set_cons_zero.{0} (And.intro @List.set_cons_succ.{0} (And.intro @List.length_set.{0} (And.intro @AH.ctxU_call (And.intro @AH.callR_read (And.intro @AH.callR_new (And.intro @AH.callR_none (And.intro @AH.lookT_cons (And.intro @AH.lookT_nil (And.intro @AH.appT_some (And.intro @AH.appT_none (And.intro @AH.lookU_cons (And.intro @AH.lookU_nil (And.intro @AH.appU_some (And.intro @AH.appU_none (And.intro @AH.wpEffX_false (And.intro @AH.rowE_hit (And.intro @AH.rowE_next (And.intro @AH.wpEffX_true (And.intro @AH.nbz (And.intro @Int.cast_ofNat_Int (And.intro @decide_true (And.intro @decide_false (And.intro @AH.beq_tt (And.intro @AH.beq_tf (And.intro @AH.beq_ft (And.intro @AH.beq_ff (And.intro @AH.bne_tt (And.intro @AH.bne_tf (And.intro @AH.bne_ft (And.intro @AH.bne_ff (And.intro @AH.rowW_hit (And.intro @AH.rowW_next (And.intro @AH.wr1 (And.intro @AH.wr2 (And.intro @AH.wr3 (And.intro @AH.wr4 (And.intro @AH.wr5 (And.intro @AH.wr6 (And.intro @AH.wr7 (And.intro @AH.wr8 (And.intro @AH.wr9 (And.intro @AH.wr10 (And.intro @AH.wr11 (And.intro @AH.wr12 (And.intro @AH.wr13 (And.intro @AH.wr14 (And.intro @AH.wr15 (And.intro @AH.wr16 (And.intro @AH.wpDs_nil (And.intro @AH.wpDs_plain (And.intro @AH.wpDs_guard (And.intro @AH.wpGD_tt (And.intro @AH.wpGD_ff (And.intro @AH.wpGD_tf (And.intro @AH.wpGD_ft (And.intro @AH.wpGD_tu (And.intro @AH.wpEffD_some (And.intro @AH.wpRead_some (And.intro @AH.ctxU_read (And.intro @AH.wpEffD_quiet (And.intro @AH.okLog_quiet (And.intro @List.take_nil.{0} (And.intro @List.drop_nil.{0} (@List.drop_succ_cons.{0}))))))))))))))))))))))))))))))))))))))))))))))))))))))))))))))))))))))))))))))))))))))))))))))))))))))))))))))))))))))))))))))))))))))))))))))))))))))))))))))))))))))))))))):=And.intro @AH.newsB_s (And.intro @AH.newsB_0 (And.intro @AH.lookE_nil (And.intro @AH.lookE_cons (And.intro @AH.appE_none (And.intro @AH.appE_some (And.intro @AH.callE_none (And.intro @AH.callE_eff (And.intro @AH.callE_new (And.intro @AH.callE_read (And.intro @AH.ctxU_eff (And.intro @AH.ctxE_eff (And.intro @AH.ctxE_read (And.intro @AH.ctxE_call (And.intro @AH.wpEffC_some (And.intro @AH.wpRead_none (And.intro Nat.sub_zero (And.intro @AH.wpA_skip (And.intro @AH.wpA_reg (And.intro @AH.wpA_draw (And.intro @AH.wpA_seq (And.intro @AH.wpA_cond (And.intro @AH.wpA_block (And.intro @AH.wpA_exit (And.intro @AH.wpA_ret (And.intro @AH.thenQ_normal (And.intro @AH.thenQ_exit (And.intro @AH.thenQ_ret (And.intro @AH.inBlk_normal (And.intro @AH.inBlk_exit (And.intro @AH.inBlk_ret (And.intro @AH.wpOps_nil (And.intro @AH.wpOps_plain (And.intro @AH.wpOps_guard (And.intro @AH.wpG_tt (And.intro @AH.wpG_ff (And.intro @AH.wpG_tf (And.intro @AH.wpG_ft (And.intro @AH.wpG_tu (And.intro @AH.wpC_true (And.intro @AH.wpC_false (And.intro @AH.wpOp_call (And.intro @AH.wpEff_some (And.intro @AH.wpCall_fn (And.intro @AH.kCall_eq (And.intro @List.map_nil.{0,0} (And.intro @List.map_cons.{0,0} (And.intro @cond_true.{0} (And.intro @cond_true.{1} (And.intro @cond_false.{0} (And.intro @cond_false.{1} (And.intro @List.length_cons.{0} (And.intro @List.length_nil.{0} (And.intro @List.append_nil.{0} (And.intro @List.nil_append.{0} (And.intro @List.cons_append.{0} (And.intro @true_and (And.intro @List.drop_zero.{0} (And.intro @List.take_succ_cons.{0} (And.intro @List.take_zero.{0} (And.intro @Nat.zero_add (And.intro @Nat.lt_add_one (And.intro @Nat.le_refl (And.intro @and_self (And.intro @List.getD_cons_zero.{0} (And.intro @beq_self_eq_true.{0} (And.intro @Nat.lt_irrefl (And.intro @Nat.zero_lt_one (And.intro @Option.map_some.{0,0} (And.intro @Bool.not_true (And.intro @Bool.not_false (And.intro @eq_self.{0} (And.intro @eq_self.{1} (And.intro @if_true.{0} (And.intro @if_true.{1} (And.intro @List.replicate_succ.{0} (And.intro @List.replicate_zero.{0} (And.intro @List.flatten_cons.{0} (And.intro @List.flatten_nil.{0} (And.intro @List.range_succ (And.intro @List.range_zero (And.intro @Nat.zero_mul (And.intro @Nat.mul_one (And.intro @List.getD_cons_succ.{0} (And.intro @Int.toNat_natCast (And.intro @AH.eqAV_bool (And.intro @AH.eqAV_flat (And.intro @AH.eqAV_p0 (And.intro @AH.eqAV_p1 (And.intro @AH.eqAV_p2 (And.intro @AH.eqAV_p3 (And.intro @AH.eqAV_s0 (And.intro @AH.eqAV_s1 (And.intro @AH.eqAV_s2 (And.intro @AH.eqAV_s3 (And.intro @AH.eqAV_s4 (And.intro @AH.eqAV_m0 (And.intro @AH.eqAV_m1 (And.intro @AH.eqAV_m2 (And.intro @AH.eqAV_f0 (And.intro @AH.eqAV_f1 (And.intro @AH.eqAV_f2 (And.intro @AH.eqAV_i0 (And.intro @AH.eqAV_i1 (And.intro @AH.eqAV_i2 (And.intro @AH.eqAV_i3 (And.intro @AH.eqAV_i4 (And.intro @Option.map_none.{0,0} (And.intro @List.set_cons_zero.{0} (And.intro @List.set_cons_succ.{0} (And.intro @List.length_set.{0} (And.intro @AH.ctxU_call (And.intro @AH.callR_read (And.intro @AH.callR_new (And.intro @AH.callR_none (And.intro @AH.lookT_cons (And.intro @AH.lookT_nil (And.intro @AH.appT_some (And.intro @AH.appT_none (And.intro @AH.lookU_cons (And.intro @AH.lookU_nil (And.intro @AH.appU_some (And.intro @AH.appU_none (And.intro @AH.wpEffX_false (And.intro @AH.rowE_hit (And.intro @AH.rowE_next (And.intro @AH.wpEffX_true (And.intro @AH.nbz (And.intro @Int.cast_ofNat_Int (And.intro @decide_true (And.intro @decide_false (And.intro @AH.beq_tt (And.intro @AH.beq_tf (And.intro @AH.beq_ft (And.intro @AH.beq_ff (And.intro @AH.bne_tt (And.intro @AH.bne_tf (And.intro @AH.bne_ft (And.intro @AH.bne_ff (And.intro @AH.rowW_hit (And.intro @AH.rowW_next (And.intro @AH.wr1 (And.intro @AH.wr2 (And.intro @AH.wr3 (And.intro @AH.wr4 (And.intro @AH.wr5 (And.intro @AH.wr6 (And.intro @AH.wr7 (And.intro @AH.wr8 (And.intro @AH.wr9 (And.intro @AH.wr10 (And.intro @AH.wr11 (And.intro @AH.wr12 (And.intro @AH.wr13 (And.intro @AH.wr14 (And.intro @AH.wr15 (And.intro @AH.wr16 (And.intro @AH.wpDs_nil (And.intro @AH.wpDs_plain (And.intro @AH.wpDs_guard (And.intro @AH.wpGD_tt (And.intro @AH.wpGD_ff (And.intro @AH.wpGD_tf (And.intro @AH.wpGD_ft (And.intro @AH.wpGD_tu (And.intro @AH.wpEffD_some (And.intro @AH.wpRead_some (And.intro @AH.ctxU_read (And.intro @AH.wpEffD_quiet (And.intro @AH.okLog_quiet (And.intro @List.take_nil.{0} (And.intro @List.drop_nil.{0} (@List.drop_succ_cons.{0}))))))))))))))))))))))))))))))))))))))))))))))))))))))))))))))))))))))))))))))))))))))))))))))))))))))))))))))))))))))))))))))))))))))))))))))))))))))))))))))))))))))))))))
theorem SE : type_of% (And.intro @AH.wpOp.eq_1 (And.intro @AH.AOp.map.eq_1 (And.intro @AH.AOp.map.eq_2 (And.intro @AH.AOp.map.eq_3 (And.intro @AH.AOp.map.eq_4 (And.intro @AH.AOp.map.eq_5 (And.intro @AH.AOp.map.eq_6 (And.intro @AH.AOp.map.eq_7 (And.intro @AH.AOp.map.eq_8 (And.intro @AH.AOp.map.eq_9 (And.intro @AH.AOp.map.eq_10 (And.intro @AH.AOp.map.eq_11 (And.intro @AH.AOp.map.eq_12 (And.intro @AH.AOp.map.eq_13 (And.intro @AH.AOp.map.eq_14 (And.intro @AH.AOp.map.eq_15 (And.intro @AH.AOp.map.eq_16 (And.intro @AH.AOp.map.eq_17 (And.intro @AH.AOp.map.eq_18 (And.intro @AH.AOp.map.eq_19 (And.intro @AH.AOp.map.eq_20 (And.intro @AH.AOp.map.eq_21 (And.intro @AH.AOp.map.eq_22 (And.intro @AH.AOp.map.eq_23 (And.intro @AH.AOp.map.eq_24 (And.intro @AH.AOp.map.eq_25 (And.intro @AH.AOp.map.eq_26 (And.intro @AH.AOp.map.eq_27 (And.intro @AH.AOp.map.eq_28 (And.intro @AH.AOp.map.eq_29 (And.intro @AH.AOp.map.eq_30 (And.intro @AH.AOp.map.eq_31 (And.intro @AH.AOp.map.eq_32 (And.intro @AH.AOp.map.eq_33 (And.intro @AH.AOp.map.eq_34 (And.intro @AH.AOp.map.eq_35 (And.intro @AH.AOp.map.eq_36 (And.intro @AH.AOp.map.eq_37 (And.intro @AH.AOp.map.eq_38 (And.intro @AH.AOp.map.eq_39 (And.intro @AH.AOp.map.eq_40 (And.intro @AH.AOp.map.eq_41 (And.intro @AH.AOp.map.eq_42 (And.intro @AH.AOp.map.eq_43 (And.intro @AH.AOp.map.eq_44 (And.intro @AH.AOp.map.eq_45 (And.intro @AH.AOp.map.eq_46 (And.intro @AH.Opd.ev.eq_1 (And.intro @AH.Opd.ev.eq_2 (And.intro @AH.tget.eq_1 (And.intro @AH.tget.eq_2 (And.intro @AH.argTm.eq_1 (And.intro @AH.argTm.eq_2 (And.intro @AH.evs.eq_1 (And.intro @AH.evs.eq_2 (And.intro @AH.St.eff.eq_1 (And.intro @AH.St.put.eq_1 (And.intro @AH.St.put.eq_2 (And.intro @AH.applyWr.eq_1 (And.intro @AH.applyWr.eq_2 (And.intro @AH.mset.eq_1 (And.intro @AH.mset.eq_2 (And.intro @AH.mset.eq_3 (And.intro @AH.mset.eq_4 (And.intro @AH.terase.eq_1 (And.intro @AH.terase.eq_2 (And.intro @AH.pureE.eq_1 (And.intro @AH.intOp.eq_1 (And.intro @AH.intOp.eq_2 (And.intro @AH.intOp.eq_3 (And.intro @AH.intOp.eq_4 (And.intro @AH.intOp.eq_5 (And.intro @AH.intOp.eq_6 (And.intro @AH.intOp.eq_7 (And.intro @AH.intOp.eq_8 (And.intro @AH.intOp.eq_9 (And.intro @AH.intOp.eq_10 (And.intro @AH.intOp.eq_11 (And.intro @AH.intOp.eq_12 (And.intro @AH.intOp.eq_13 (And.intro @AH.intOp.eq_14 (And.intro @AH.intOp.eq_15 (And.intro @AH.intOp.eq_16 (And.intro @AH.intOp.eq_17 (And.intro @AH.fill.eq_1 (And.intro @AH.fill.eq_2 (And.intro @AH.mget.eq_1 (And.intro @AH.mget.eq_2 (And.intro @AH.mget.eq_3 (And.intro @AH.rowAt.eq_1 (And.intro @AH.part.eq_1 (And.intro @AH.part.eq_2 (And.intro @AH.rvs.eq_1 (And.intro @AH.rvs.eq_2 (And.intro @AH.rvs.eq_3 (And.intro @AH.splice.eq_1 (And.intro @AH.splice.eq_2 (And.intro @AH.splice.eq_3 (And.intro @AH.addLog.eq_1 (And.intro @AH.addLog.eq_2 (And.intro @AH.wpOpD.eq_1 (And.intro @AH.mapAt.eq_1 (And.intro @AH.iterAt.eq_1 True.intro))))))))))))))))))))))))))))))))))))))))))))))))))))))))))))))))))))))))))))))))))))))))))))))))))))))):=And.intro @AH.wpOp.eq_1 (And.intro @AH.AOp.map.eq_1 (And.intro @AH.AOp.map.eq_2 (And.intro @AH.AOp.map.eq_3 (And.intro @AH.AOp.map.eq_4 (And.intro @AH.AOp.map.eq_5 (And.intro @AH.AOp.map.eq_6 (And.intro @AH.AOp.map.eq_7 (And.intro @AH.AOp.map.eq_8 (And.intro @AH.AOp.map.eq_9 (And.intro @AH.AOp.map.eq_10 (And.intro @AH.AOp.map.eq_11 (And.intro @AH.AOp.map.eq_12 (And.intro @AH.AOp.map.eq_13 (And.intro @AH.AOp.map.eq_14 (And.intro @AH.AOp.map.eq_15 (And.intro @AH.AOp.map.eq_16 (And.intro @AH.AOp.map.eq_17 (And.intro @AH.AOp.map.eq_18 (And.intro @AH.AOp.map.eq_19 (And.intro @AH.AOp.map.eq_20 (And.intro @AH.AOp.map.eq_21 (And.intro @AH.AOp.map.eq_22 (And.intro @AH.AOp.map.eq_23 (And.intro @AH.AOp.map.eq_24 (And.intro @AH.AOp.map.eq_25 (And.intro @AH.AOp.map.eq_26 (And.intro @AH.AOp.map.eq_27 (And.intro @AH.AOp.map.eq_28 (And.intro @AH.AOp.map.eq_29 (And.intro @AH.AOp.map.eq_30 (And.intro @AH.AOp.map.eq_31 (And.intro @AH.AOp.map.eq_32 (And.intro @AH.AOp.map.eq_33 (And.intro @AH.AOp.map.eq_34 (And.intro @AH.AOp.map.eq_35 (And.intro @AH.AOp.map.eq_36 (And.intro @AH.AOp.map.eq_37 (And.intro @AH.AOp.map.eq_38 (And.intro @AH.AOp.map.eq_39 (And.intro @AH.AOp.map.eq_40 (And.intro @AH.AOp.map.eq_41 (And.intro @AH.AOp.map.eq_42 (And.intro @AH.AOp.map.eq_43 (And.intro @AH.AOp.map.eq_44 (And.intro @AH.AOp.map.eq_45 (And.intro @AH.AOp.map.eq_46 (And.intro @AH.Opd.ev.eq_1 (And.intro @AH.Opd.ev.eq_2 (And.intro @AH.tget.eq_1 (And.intro @AH.tget.eq_2 (And.intro @AH.argTm.eq_1 (And.intro @AH.argTm.eq_2 (And.intro @AH.evs.eq_1 (And.intro @AH.evs.eq_2 (And.intro @AH.St.eff.eq_1 (And.intro @AH.St.put.eq_1 (And.intro @AH.St.put.eq_2 (And.intro @AH.applyWr.eq_1 (And.intro @AH.applyWr.eq_2 (And.intro @AH.mset.eq_1 (And.intro @AH.mset.eq_2 (And.intro @AH.mset.eq_3 (And.intro @AH.mset.eq_4 (And.intro @AH.terase.eq_1 (And.intro @AH.terase.eq_2 (And.intro @AH.pureE.eq_1 (And.intro @AH.intOp.eq_1 (And.intro @AH.intOp.eq_2 (And.intro @AH.intOp.eq_3 (And.intro @AH.intOp.eq_4 (And.intro @AH.intOp.eq_5 (And.intro @AH.intOp.eq_6 (And.intro @AH.intOp.eq_7 (And.intro @AH.intOp.eq_8 (And.intro @AH.intOp.eq_9 (And.intro @AH.intOp.eq_10 (And.intro @AH.intOp.eq_11 (And.intro @AH.intOp.eq_12 (And.intro @AH.intOp.eq_13 (And.intro @AH.intOp.eq_14 (And.intro @AH.intOp.eq_15 (And.intro @AH.intOp.eq_16 (And.intro @AH.intOp.eq_17 (And.intro @AH.fill.eq_1 (And.intro @AH.fill.eq_2 (And.intro @AH.mget.eq_1 (And.intro @AH.mget.eq_2 (And.intro @AH.mget.eq_3 (And.intro @AH.rowAt.eq_1 (And.intro @AH.part.eq_1 (And.intro @AH.part.eq_2 (And.intro @AH.rvs.eq_1 (And.intro @AH.rvs.eq_2 (And.intro @AH.rvs.eq_3 (And.intro @AH.splice.eq_1 (And.intro @AH.splice.eq_2 (And.intro @AH.splice.eq_3 (And.intro @AH.addLog.eq_1 (And.intro @AH.addLog.eq_2 (And.intro @AH.wpOpD.eq_1 (And.intro @AH.mapAt.eq_1 (And.intro @AH.iterAt.eq_1 True.intro))))))))))))))))))))))))))))))))))))))))))))))))))))))))))))))))))))))))))))))))))))))))))))))))))))))
theorem SO : type_of% (And.intro @AH.effS.eq_1 (And.intro @AH.wrS.eq_1 (And.intro @AH.wrS.eq_2 (And.intro @AH.wrS.eq_3 (And.intro @AH.newS.eq_1 (And.intro @AH.newS.eq_2 (And.intro @AH.backNo.eq_1 (And.intro @AH.isIn.eq_1 (And.intro @AH.isIn.eq_2 (And.intro @AH.posOf.eq_1 (And.intro @AH.posOf.eq_2 (And.intro @AH.rtO_eq (And.intro @AH.rtO2_eq (And.intro @AH.rtO2_none (And.intro @AH.etO_eq (And.intro @AH.etO2_eq (And.intro @AH.etO2_none (And.intro @AH.useO_some (And.intro @AH.rtElse_eq (And.intro @AH.elseO_some (And.intro @AH.elseO_none (And.intro @AH.etN_eq (And.intro @Option.bind_some.{0,0} (And.intro @Option.bind_none.{0,0} (And.intro @AH.pairO_some (And.intro @AH.pairO_none (And.intro @AH.cC_dec (And.intro @AH.cC_nil (And.intro @AH.c0_dec (And.intro @AH.c0_dec1 (And.intro @AH.aI_dec (And.intro @AH.aS_dec (And.intro @AH.aB_dec (And.intro @AH.aNil_dec (And.intro @AH.aNil_ptr (And.intro @Option.map_none.{0,0} (And.intro @List.all_cons.{0} (And.intro @List.all_nil.{0} (And.intro @List.getElem?_cons_zero.{0} (And.intro @List.getElem?_cons_succ.{0} (And.intro @List.getElem?_nil.{0} (And.intro @AH.appE_some (And.intro @List.contains_cons.{0} (And.intro @List.contains_nil.{0} (And.intro @Nat.add_zero True.intro))))))))))))))))))))))))))))))))))))))))))))):=And.intro @AH.effS.eq_1 (And.intro @AH.wrS.eq_1 (And.intro @AH.wrS.eq_2 (And.intro @AH.wrS.eq_3 (And.intro @AH.newS.eq_1 (And.intro @AH.newS.eq_2 (And.intro @AH.backNo.eq_1 (And.intro @AH.isIn.eq_1 (And.intro @AH.isIn.eq_2 (And.intro @AH.posOf.eq_1 (And.intro @AH.posOf.eq_2 (And.intro @AH.rtO_eq (And.intro @AH.rtO2_eq (And.intro @AH.rtO2_none (And.intro @AH.etO_eq (And.intro @AH.etO2_eq (And.intro @AH.etO2_none (And.intro @AH.useO_some (And.intro @AH.rtElse_eq (And.intro @AH.elseO_some (And.intro @AH.elseO_none (And.intro @AH.etN_eq (And.intro @Option.bind_some.{0,0} (And.intro @Option.bind_none.{0,0} (And.intro @AH.pairO_some (And.intro @AH.pairO_none (And.intro @AH.cC_dec (And.intro @AH.cC_nil (And.intro @AH.c0_dec (And.intro @AH.c0_dec1 (And.intro @AH.aI_dec (And.intro @AH.aS_dec (And.intro @AH.aB_dec (And.intro @AH.aNil_dec (And.intro @AH.aNil_ptr (And.intro @Option.map_none.{0,0} (And.intro @List.all_cons.{0} (And.intro @List.all_nil.{0} (And.intro @List.getElem?_cons_zero.{0} (And.intro @List.getElem?_cons_succ.{0} (And.intro @List.getElem?_nil.{0} (And.intro @AH.appE_some (And.intro @List.contains_cons.{0} (And.intro @List.contains_nil.{0} (And.intro @Nat.add_zero True.intro))))))))))))))))))))))))))))))))))))))))))))
end AH
set_option linter.unusedSimpArgs false
namespace AH
open Go
variable {S : Sys}
theorem mset_end : ∀ {m : Mem} {b : Option Blk},mset m m.length b = m ++ [b]
  | [],_ =>rfl
  | _ :: m,b =>by simp only [List.length_cons,mset,List.cons_append,mset_end (m:=m)]
theorem mget_end : ∀ {m : Mem} {b : Option Blk},mget (m ++ [b]) m.length = b
  | [],_ =>rfl
  | _ :: m,b =>by simp only [List.length_cons,mget,List.cons_append,mget_end (m:=m)]
theorem mset_last : ∀ {m : Mem} {b b' : Option Blk},mset (m ++ [b]) m.length b' = m ++ [b']
  | [],_,_ =>rfl
  | _ :: m,b,b' =>by simp only [List.length_cons,mset,List.cons_append,mset_last (m:=m)]
end AH
set_option linter.unusedSimpArgs false
namespace AH
open Go
variable {S : Sys} {C : Ctx} {Q : Exit → St → Prop}
class FlatE {α : Type} (enc : α → List AV) : Prop where
  flat : ∀ a,AV.lts 0 (enc a) = true
section
variable {α : Type} {enc : α → List AV} [FlatE enc]
theorem flatE_in (p : Nat → Bool) (a : α) : AV.insB p (enc a) = true:=flats_inB (FlatE.flat a)
theorem flatE_ren (ρ : Nat → Nat) (a : α) : AV.rens ρ (enc a) = enc a:=flats_rens (FlatE.flat a)
theorem flat_ins (p : Nat → Bool) : ∀ l : List α,(l.map enc).all (AV.insB p) = true
  | [] =>rfl
  | a :: r =>by simp only [List.map_cons,List.all_cons,flatE_in,flat_ins p r,Bool.and_self]
theorem flat_rens (ρ : Nat → Nat) : ∀ l : List α,(l.map enc).map (AV.rens ρ) = l.map enc
  | [] =>rfl
  | a :: r =>by simp only [List.map_cons,flatE_ren,flat_rens ρ r]
theorem flat_lts (n : Nat) : ∀ l : List α,(l.map enc).all (AV.lts n) = true
  | [] =>rfl
  | a :: r =>by simp only [List.map_cons,List.all_cons,lts_of_flat (FlatE.flat (enc:=enc) a),flat_lts n r,Bool.and_self]
end
section
variable {α : Type} {enc : α → List AV}
theorem getD_enc {l : List α} {i : Nat} (h : i < l.length) : (l.map enc).getD i [] = enc l[i]:=getD_map_lt _ _ _ _ h
theorem take_all {l : List α} : (l.map enc).take l.length = l.map enc:=by rw [List.take_of_length_le]; simp
end
theorem getD_set_ne {α : Type} {l : List α} {k j : Nat} {a d : α} (h : k ≠ j) : (l.set k a).getD j d = l.getD j d:=by rw [List.getD_eq_getElem?_getD,List.getElem?_set_ne h,← List.getD_eq_getElem?_getD]
inductive VStep where
  | tm (t k : Nat)
  | tup (t j k : Nat)
  | cell (id i j k : Nat)
  | cap (t : Nat)
  | tcap (t j : Nat)
  | ccap (id i j : Nat)
def tput (t : Nat) (v : AV) : Tm → Tm
  | [] => []
  | (s,u) :: r =>bif s == t then (s,v) :: r else (s,u) :: tput t v r
def vstep (s : St) : VStep → Option St
  | .tm t k =>match tget s.tm t,k with
    | .nils,k + 1 =>some ⟨tput t (.slc s.mem.length 0 0 none) s.tm,s.mem ++ [some (.row false (k + 1) [])]⟩
    | _,_ =>none
  | .tup t j k =>match tget s.tm t,k with
    | .tup l,k + 1 =>match l.getD j .undef with
      | .nils =>some ⟨tput t (.tup (l.set j (.slc s.mem.length 0 0 none))) s.tm,s.mem ++ [some (.row false (k + 1) [])]⟩
      | _ =>none
    | _,_ =>none
  | .cell id i j k =>match mget s.mem id,k with
    | some (.row ro k' es),k + 1 =>match (es.getD i []).getD j .undef with
      | .nils =>some ⟨s.tm,mset (s.mem ++ [some (.row false (k + 1) [])]) id (some (.row ro k' (es.set i ((es.getD i []).set j (.slc s.mem.length 0 0 none)))))⟩
      | _ =>none
    | _,_ =>none
  | .cap t =>match tget s.tm t with
    | .slc id ix len (some _) =>match mget s.mem id with
      | some _ =>some ⟨tput t (.slc id ix len none) s.tm,s.mem⟩
      | none =>none
    | _ =>none
  | .tcap t j =>match tget s.tm t with
    | .tup l =>match l.getD j .undef with
      | .slc id ix len (some _) =>match mget s.mem id with
        | some _ =>some ⟨tput t (.tup (l.set j (.slc id ix len none))) s.tm,s.mem⟩
        | none =>none
      | _ =>none
    | _ =>none
  | .ccap id i j =>match mget s.mem id with
    | some (.row ro k es) =>match (es.getD i []).getD j .undef with
      | .slc id' ix len (some _) =>match mget s.mem id' with
        | some _ =>some ⟨s.tm,mset s.mem id (some (.row ro k (es.set i ((es.getD i []).set j (.slc id' ix len none)))))⟩
        | none =>none
      | _ =>none
    | _ =>none
def wpV (X : St → Prop) : List VStep → Option St → Prop
  | [],some s =>X s
  | v :: r,some s =>wpV X r (vstep s v)
  | _,none =>False
theorem tput_spec {n t : Nat} {v : AV} : ∀ {l : Tm},voV n (tget l t) v → (∃ u,tget l t = u ∧ u ≠ .undef) → ∀ x,voV n (tget l x) (tget (tput t v l) x)
  | [],h,⟨u,h1,h2⟩,x =>by simp [tget] at h1; exact absurd h1.symm h2
  | (s,u) :: r,h,hu,x =>by
    simp only [tget] at h hu
    simp only [tput]
    by_cases hs : s = t
    · subst hs
      simp only [beq_self_eq_true,cond_true] at h ⊢
      simp only [tget]
      by_cases hx : s = x
      · subst hx; simp only [beq_self_eq_true,cond_true]; exact h
      · have : (s == x) = false:=by simp [hx]
        simp only [this,cond_false]; exact voV_refl
    · have e : (s == t) = false:=by simp [hs]
      simp only [e,cond_false] at h hu ⊢
      simp only [tget]
      by_cases hx : s = x
      · subst hx; simp only [beq_self_eq_true,cond_true]; exact voV_refl
      · have : (s == x) = false:=by simp [hx]
        simp only [this,cond_false]; exact tput_spec h hu x
theorem voL_refl {n : Nat} : ∀ l,voL n l l
  | [] =>trivial
  | _ :: r =>⟨.inl rfl,voL_refl r⟩
theorem voL_set {n : Nat} {v' : AV} : ∀ {l : List AV} {j : Nat},voE n (l.getD j .undef) v' → voL n l (l.set j v')
  | [],_,_ =>trivial
  | _ :: r,0,h =>⟨h,voL_refl r⟩
  | _ :: r,_ + 1,h =>⟨.inl rfl,voL_set (l:=r) h⟩
theorem getD_some {α : Type} {l : List α} {i : Nat} {d x : α} (h : l.getD i d = x) (hx : x ≠ d) : l[i]? = some x:=by
  rw [List.getD_eq_getElem?_getD] at h
  cases hq : l[i]? with
  | none =>rw [hq] at h; exact absurd h.symm hx
  | some y =>rw [hq] at h; simpa using h
theorem cell_there {es : List (List AV)} {i j : Nat} {v : AV} (h : (es.getD i []).getD j .undef = v) (hv : v ≠ .undef) : es[i]? = some (es.getD i []) ∧ (es.getD i [])[j]? = some v:=by
  have h2:=getD_some h hv
  refine ⟨?_,h2⟩
  have hne : es.getD i [] ≠ []:=fun q =>by rw [q] at h2; simp at h2
  exact getD_some rfl hne
theorem vstep_ok {s s' : St} {v : VStep} (h : vstep s v = some s') : Voids s s':=by
  unfold vstep at h
  split at h
  · split at h
    · rename_i k e
      simp only [Option.some.injEq] at h
      subst h
      exact .void (k + 1) _ _ (by omega) (.turn1 (n:=s.mem.length) ⟨by simp [mget_app,mget],tput_spec (by rw [e]; exact .inl (.inr (.inl ⟨rfl,rfl⟩))) ⟨_,e,by simp⟩,rfl,fun _ _ =>voB_refl⟩)
    · cases h
  · split at h
    · rename_i l k e
      split at h
      · rename_i e2
        simp only [Option.some.injEq] at h
        subst h
        exact .void (k + 1) _ _ (by omega) (.turn1 (n:=s.mem.length) ⟨by simp [mget_app,mget],tput_spec (by rw [e]; exact .inr ⟨_,_,rfl,rfl,voL_set (by rw [e2]; exact .inr (.inl ⟨rfl,rfl⟩))⟩) ⟨_,e,by simp⟩,rfl,fun _ _ =>voB_refl⟩)
      · cases h
    · cases h
  · split at h
    · rename_i ro k' es k e
      split at h
      · rename_i e2
        simp only [Option.some.injEq] at h
        subst h
        obtain ⟨h1,h2⟩:=cell_there e2 (by simp)
        exact voids_cell _ _ (k + 1) (by omega) e h1 h2
      · cases h
    · cases h
  · split at h
    · rename_i id ix len c e
      split at h
      · rename_i b e2
        simp only [Option.some.injEq] at h
        subst h
        exact .turn1 (n:=id) ⟨by rw [e2]; rfl,tput_spec (by rw [e]; exact .inl (.inr (.inr ⟨_,_,_,_,rfl,rfl⟩))) ⟨_,e,by simp⟩,rfl,fun _ _ =>voB_refl⟩
      · cases h
    · cases h
  · split at h
    · rename_i l e
      split at h
      · rename_i id ix len c e3
        split at h
        · rename_i b e2
          simp only [Option.some.injEq] at h
          subst h
          exact .turn1 (n:=id) ⟨by rw [e2]; rfl,tput_spec (by rw [e]; exact .inr ⟨_,_,rfl,rfl,voL_set (by rw [e3]; exact .inr (.inr ⟨_,_,_,_,rfl,rfl⟩))⟩) ⟨_,e,by simp⟩,rfl,fun _ _ =>voB_refl⟩
        · cases h
      · cases h
    · cases h
  · split at h
    · rename_i ro k es e
      split at h
      · rename_i id' ix len c e3
        split at h
        · rename_i b e2
          simp only [Option.some.injEq] at h
          subst h
          obtain ⟨h1,h2⟩:=cell_there e3 (by simp)
          exact .turn1 (n:=id') (turn_cell _ _ (by rw [e2]; rfl) e h1 h2 (.inr (.inr ⟨_,_,_,_,rfl,rfl⟩)))
        · cases h
      · cases h
    · cases h
theorem wpV_ok {X : St → Prop} : ∀ {vs : List VStep} {s : St},wpV X vs (some s) → ∃ s',Voids s s' ∧ X s'
  | [],s,h =>⟨s,.refl s,h⟩
  | v :: r,s,h =>by
    simp only [wpV] at h
    cases hq : vstep s v with
    | none =>rw [hq] at h; cases r <;> exact h.elim
    | some s1 =>
      rw [hq] at h
      obtain ⟨s',h1,h2⟩:=wpV_ok h
      exact ⟨s',(vstep_ok hq).trans h1,h2⟩
def packTm (l : List Nat) (tm : Tm) : List Nat → Tm
  | [] => []
  | t :: r =>(t,(tget tm t).ren (posN l)) :: packTm l tm r
def liveB (l : List Nat) (tm : Tm) : List Nat → Bool
  | [] =>true
  | t :: r =>(tget tm t).inB (inN l) && liveB l tm r
theorem packTm_spec {l : List Nat} {tm : Tm} : ∀ {live : List Nat},liveB l tm live = true → ∀ t,tget (packTm l tm live) t = .undef ∨ ((tget tm t).inB (inN l) = true ∧ tget (packTm l tm live) t = (tget tm t).ren (posN l))
  | [],_,_ => .inl rfl
  | x :: r,h,t =>by
    simp only [liveB,Bool.and_eq_true] at h
    simp only [packTm,tget]
    by_cases hx : x = t
    · subst hx; simp only [beq_self_eq_true,cond_true]; exact .inr ⟨h.1,trivial⟩
    · have : (x == t) = false:=by simp [hx]
      simp only [this,cond_false]
      exact packTm_spec h.2 t
theorem gc_auto {base : Nat} {X : St → Prop} {s : St} (l live : List Nat) (vs : List VStep)
    (h : (heads base 0 l = true ∧ distN l = true) ∧ packB l s.mem l = true ∧ liveB l s.tm live = true ∧ wpV X vs (some ⟨packTm l s.tm live,packM l s.mem l⟩)) : gcX base X s:=by
  obtain ⟨⟨h1,h2⟩,h3,h4,h5⟩:=h
  obtain ⟨s',h6,h7⟩:=wpV_ok h5
  exact ⟨s',⟨_,.inr ⟨l,h1,h2,h3,rfl,packTm_spec h4⟩,h6⟩,h7⟩
theorem CallA1.fin {g : FuncId} {args : List AV} {m : Mem} {K : AV → Mem → Prop}
    (h : CallA1 S g args m fun v m' => ∃ (l : List Nat) (vs : List VStep),(heads m.length 0 l = true ∧ distN l = true) ∧ packB l m' l = true ∧ v.inB (inN l) = true ∧ wpV (fun s =>K (tget s.tm 0) s.mem) vs (some ⟨[(0,v.ren (posN l))],packM l m' l⟩)) : CallA1 S g args m K:=by
  refine CallA1.voids (CallA1.pack (h.mono ?_))
  rintro v m' ⟨l,vs,⟨h1,h2⟩,h3,h4,h5⟩
  obtain ⟨⟨tm',m''⟩,h6,h7⟩:=wpV_ok h5
  exact ⟨l,h1,h2,h3,h4,tm',m'',h6,h7⟩
theorem loop_do {α : Type} {st : St} (l live : List Nat) (vs : List VStep) (μ : α → Nat) (f : α → St) (P : α → Prop) {b : ACode} (x0 : α) (hp : P x0)
    (h0 : (heads C.base 0 l = true ∧ distN l = true) ∧ packB l st.mem l = true ∧ liveB l st.tm live = true ∧ wpV (fun s =>s = f x0) vs (some ⟨packTm l st.tm live,packM l st.mem l⟩))
    (hstep : ∀ (X : St → Prop) x,P x → (∀ y,P y → μ y < μ x → X (f y)) → wpA C b (thenQ (gcX C.base X) Q) (f x)) : wpA C (.loop b) Q st :=
  loop_rule μ f P x0 hp (gc_auto l live vs h0) hstep
theorem wpV_nil {X : St → Prop} {s : St} : wpV X [] (some s) = X s:=rfl
theorem wpV_cons {X : St → Prop} {v : VStep} {r : List VStep} {s : St} : wpV X (v :: r) (some s) = wpV X r (vstep s v):=rfl
theorem lt_of_dec {i n : Nat} (h : decide ((i : Int) < (n : Int)) = true) : i < n:=by simpa using h
theorem ge_of_dec {i n : Nat} (h : decide ((i : Int) < (n : Int)) = false) : n ≤ i:=by simpa using h
theorem wrapS {i : Nat} (h : i < 4611686018427387904) : IntKind.i64.wrap ((i : Int) + 1) = ((i + 1 : Nat) : Int):=by rw [IntKind.wrap_i64]; omega
theorem CallA1.of {g : FuncId} {args : List AV} {m : Mem} {K K' : AV → Mem → Prop} (h : CallA1 S g args m K) (hk : ∀ v m',K v m' → K' v m') : CallA1 S g args m K':=h.mono hk
theorem PD : type_of% (And.intro @flat_ins (And.intro @flat_rens (And.intro @flatE_in (And.intro @flatE_ren (And.intro @wpV_nil (And.intro @wpV_cons (And.intro Bool.and_self (And.intro @Bool.and_true (And.intro @Bool.true_and (And.intro @and_true (And.intro @List.all_cons.{0} (And.intro @List.all_nil.{0} (And.intro @List.all_append.{0} (And.intro @List.map_append.{0,0} (And.intro @Bool.or_true (And.intro @Bool.true_or (And.intro @Bool.or_false (And.intro @Bool.false_or (And.intro Bool.not_true (And.intro Bool.not_false (And.intro @true_and (And.intro @List.length_append.{0} (And.intro @List.length_map.{0,0} (@take_all)))))))))))))))))))))))):=And.intro @flat_ins (And.intro @flat_rens (And.intro @flatE_in (And.intro @flatE_ren (And.intro @wpV_nil (And.intro @wpV_cons (And.intro Bool.and_self (And.intro @Bool.and_true (And.intro @Bool.true_and (And.intro @and_true (And.intro @List.all_cons.{0} (And.intro @List.all_nil.{0} (And.intro @List.all_append.{0} (And.intro @List.map_append.{0,0} (And.intro @Bool.or_true (And.intro @Bool.true_or (And.intro @Bool.or_false (And.intro @Bool.false_or (And.intro Bool.not_true (And.intro Bool.not_false (And.intro @true_and (And.intro @List.length_append.{0} (And.intro @List.length_map.{0,0} (@take_all)))))))))))))))))))))))
theorem SP : type_of% (And.intro @AH.heads.eq_1 (And.intro @AH.heads.eq_2 (And.intro @AH.heads.eq_3 (And.intro @AH.distN.eq_1 (And.intro @AH.distN.eq_2 (And.intro @AH.inN.eq_1 (And.intro @AH.inN.eq_2 (And.intro @AH.posN.eq_1 (And.intro @AH.posN.eq_2 (And.intro @AH.packM.eq_1 (And.intro @AH.packM.eq_2 (And.intro @AH.packB.eq_1 (And.intro @AH.packB.eq_2 (And.intro @AH.packTm.eq_1 (And.intro @AH.packTm.eq_2 (And.intro @AH.liveB.eq_1 (And.intro @AH.liveB.eq_2 (And.intro @AH.AV.insB.eq_1 (And.intro @AH.AV.insB.eq_2 (And.intro @AH.AV.ren.eq_1 (And.intro @AH.AV.ren.eq_2 (And.intro @AH.AV.ren.eq_3 (And.intro @AH.AV.ren.eq_4 (And.intro @AH.AV.ren.eq_5 (And.intro @AH.AV.ren.eq_6 (And.intro @AH.AV.ren.eq_7 (And.intro @AH.AV.ren.eq_8 (And.intro @AH.AV.ren.eq_9 (And.intro @AH.AV.ren.eq_10 (And.intro @AH.AV.ren.eq_11 (And.intro @AH.AV.ren.eq_12 (And.intro @AH.AV.ren.eq_13 (And.intro @AH.AV.ren.eq_14 (And.intro @AH.AV.ren.eq_15 (And.intro @AH.AV.ren.eq_16 (And.intro @AH.AV.ren.eq_17 (And.intro @AH.AV.ren.eq_18 (And.intro @AH.AV.rens.eq_1 (And.intro @AH.AV.rens.eq_2 (And.intro @AH.Blk.ren.eq_1 (And.intro @AH.Blk.ren.eq_2 (And.intro @AH.Blk.ren.eq_3 (And.intro @AH.Blk.inB.eq_1 (And.intro @AH.Blk.inB.eq_2 (And.intro @AH.Blk.inB.eq_3 (And.intro @AH.tput.eq_1 (And.intro @AH.tput.eq_2 True.intro))))))))))))))))))))))))))))))))))))))))))))))):=And.intro @AH.heads.eq_1 (And.intro @AH.heads.eq_2 (And.intro @AH.heads.eq_3 (And.intro @AH.distN.eq_1 (And.intro @AH.distN.eq_2 (And.intro @AH.inN.eq_1 (And.intro @AH.inN.eq_2 (And.intro @AH.posN.eq_1 (And.intro @AH.posN.eq_2 (And.intro @AH.packM.eq_1 (And.intro @AH.packM.eq_2 (And.intro @AH.packB.eq_1 (And.intro @AH.packB.eq_2 (And.intro @AH.packTm.eq_1 (And.intro @AH.packTm.eq_2 (And.intro @AH.liveB.eq_1 (And.intro @AH.liveB.eq_2 (And.intro @AH.AV.insB.eq_1 (And.intro @AH.AV.insB.eq_2 (And.intro @AH.AV.ren.eq_1 (And.intro @AH.AV.ren.eq_2 (And.intro @AH.AV.ren.eq_3 (And.intro @AH.AV.ren.eq_4 (And.intro @AH.AV.ren.eq_5 (And.intro @AH.AV.ren.eq_6 (And.intro @AH.AV.ren.eq_7 (And.intro @AH.AV.ren.eq_8 (And.intro @AH.AV.ren.eq_9 (And.intro @AH.AV.ren.eq_10 (And.intro @AH.AV.ren.eq_11 (And.intro @AH.AV.ren.eq_12 (And.intro @AH.AV.ren.eq_13 (And.intro @AH.AV.ren.eq_14 (And.intro @AH.AV.ren.eq_15 (And.intro @AH.AV.ren.eq_16 (And.intro @AH.AV.ren.eq_17 (And.intro @AH.AV.ren.eq_18 (And.intro @AH.AV.rens.eq_1 (And.intro @AH.AV.rens.eq_2 (And.intro @AH.Blk.ren.eq_1 (And.intro @AH.Blk.ren.eq_2 (And.intro @AH.Blk.ren.eq_3 (And.intro @AH.Blk.inB.eq_1 (And.intro @AH.Blk.inB.eq_2 (And.intro @AH.Blk.inB.eq_3 (And.intro @AH.tput.eq_1 (And.intro @AH.tput.eq_2 True.intro))))))))))))))))))))))))))))))))))))))))))))))
end AH
set_option linter.unusedSimpArgs false
namespace AH
open Go
variable {S : Sys}
end AH
namespace AH
open Go Go.RowKit Go.ChangeMaps
variable {S : Sys} {eb : Nat → Addr} {own : Nat → Prop} {w0 w w' : World} {φ φ' : Emb} {M : Nat → Option Blk}
theorem MR.addB {T : TypeId} (h : MR T eb φ M own w) (hw : Below w.heap.size w w') (hk : ∀ b,w.heap.size ≤ b → own b) {n : Nat} (hn : ¬ φ.dom n) {g base k size : Nat} (hg : w.heap.size ≤ g) {o : Go.Obj} (ho : w'.heap[g]? = some o) {b : Blk}
    (hb : BR T eb (φ.add n g base k size) n b o) : MR T eb (φ.add n g base k size) (upd M n (some b)) own w':=by
  have ext:=Emb.add_ext (φ:=φ) (b:=g) (base:=base) (k:=k) (size:=size) hn
  have sol : ∀ id x,M id = some x → x.solid (φ.add n g base k size) id → x.solid φ id:=fun id x hx hs =>(Blk.solid_ext ext (h.dom id x hx)).1 hs
  have lt : ∀ id x,M id = some x → x.solid φ id → φ.blk id < w.heap.size:=fun id x hx hs =>by
    obtain ⟨o,ho,_⟩:=h.blk id x hx hs
    exact (Array.getElem?_eq_some_iff.1 ho).1
  refine ⟨?_,?_,?_,?_,?_⟩
  · intro id x hx
    by_cases e : id = n
    · exact .inr e
    · simp [upd,e] at hx; exact .inl (h.dom id x hx)
  · intro id ro k' es hx
    by_cases e : id = n
    · subst e
      simp [upd] at hx
      subst hx
      obtain ⟨_,_,_,_,hk',_⟩:=hb
      exact hk'
    · simp [upd,e] at hx
      simp only [Emb.add,if_neg e]
      exact h.kk id ro k' es hx
  · intro id x hx hs
    by_cases e : id = n
    · subst e
      simp [upd] at hx
      subst hx
      refine ⟨o,?_,hb⟩
      simp only [Emb.add,if_true]
      exact ho
    · simp [upd,e] at hx
      have hs':=sol id x hx hs
      obtain ⟨y,hy,hr⟩:=h.blk id x hx hs'
      refine ⟨y,?_,hr.mono ext (h.dom id x hx)⟩
      have:=lt id x hx hs'
      simp only [Emb.add,if_neg e]
      rw [hw.block _ this]
      exact hy
  · intro id x hx hr hs
    by_cases e : id = n
    · subst e; simp [Emb.add]; exact hk _ hg
    · simp [upd,e] at hx; have hs':=sol id x hx hs; simp only [Emb.add,if_neg e]; exact h.own id x hx hr hs'
  · intro id id' x x' hx hx' hne hr hs hs2
    by_cases e : id = n
    · subst e
      have e' : id' ≠ id:=fun h =>hne h.symm
      simp [upd,e'] at hx'
      have:=lt id' x' hx' (sol id' x' hx' hs2)
      simp only [Emb.add,if_neg e',if_true]
      omega
    · simp [upd,e] at hx
      have hs':=sol id x hx hs
      by_cases e' : id' = n
      · subst e'
        have:=lt id x hx hs'
        simp only [Emb.add,if_neg e,if_true]
        omega
      · simp [upd,e'] at hx'
        have hs2':=sol id' x' hx' hs2
        simp only [Emb.add,if_neg e,if_neg e']
        exact h.inj id id' x x' hx hx' hne hr hs' hs2'
theorem MR.below {T : TypeId} (hM : MR T eb φ M own w) (h : Below w.heap.size w w') : MR T eb φ M own w' :=
  ⟨hM.dom,hM.kk,fun id b hi hs =>by
    obtain ⟨o,ho,hb⟩:=hM.blk id b hi hs
    exact ⟨o,by rw [h.block _ (Array.getElem?_eq_some_iff.1 ho).1]; exact ho,hb⟩,hM.own,hM.inj⟩
theorem Keeps.below (hk : Keeps own w0 w) (h : Below w.heap.size w w') : Keeps own w0 w' :=
  ⟨h.os.trans hk.os,h.output.trans hk.output,Nat.le_trans hk.size h.size,fun b hb ho =>(h.block b (Nat.lt_of_lt_of_le hb hk.size)).trans (hk.kept b hb ho),hk.new⟩
def keyI : AV → Option Int
  | .int .i64 k =>some k
  | _ =>none
def keysI : List (AV × AV × Nat) → Option (List Int)
  | [] =>some []
  | e :: r =>match keyI e.1,keysI r with
    | some k,some l =>some (k :: l)
    | _,_ =>none
def mapG (es : List (AV × AV × Nat)) (c : Nat) (ks : List Int) : Prop :=
  ks.Nodup ∧ (es.map fun e =>e.2.2).Nodup ∧ (∀ e ∈ es,e.2.2 < c) ∧ es.length ≤ 1048576 ∧ ∀ k ∈ ks,-9223372036854775808 ≤ k ∧ k ≤ 9223372036854775807
instance (es : List (AV × AV × Nat)) (c : Nat) (ks : List Int) : Decidable (mapG es c ks):=by unfold mapG; infer_instance
theorem er_keys {T : TypeId} : ∀ {es : List (AV × AV × Nat)} {us : List MapEntry} {ks : List Int},ER T eb φ es us → keysI es = some ks → us.map (·.key) = ks.map encZ ∧ us.map (·.born) = es.map fun e =>e.2.2
  | _,_,ks,.nil,h =>by simp [keysI] at h; subst h; exact ⟨rfl,rfl⟩
  | _,_,ks,.cons k v s x y es us hk hv hr,h =>by
    unfold keysI at h
    split at h
    · rename_i k' l h1 h2
      simp only [Option.some.injEq] at h
      subst h
      obtain ⟨g1,g2⟩:=er_keys hr h2
      unfold keyI at h1
      split at h1
      · rename_i n e
        simp only at e
        subst e
        simp only [Option.some.injEq] at h1
        subst h1
        cases hk
        exact ⟨by simp only [List.map_cons,g1],by simp only [List.map_cons,g2]⟩
      · cases h1
    · cases h
theorem insert_perm {H : Type} (x : Lit × DataW H) : ∀ l : List (Lit × DataW H),(DataW.insert x l).Perm (x :: l)
  | [] => .refl _
  | y :: r =>by
    unfold DataW.insert
    split
    · exact .refl _
    · exact ((insert_perm x r).cons y).trans (.swap x y r)
theorem foldr_perm {H : Type} : ∀ l : List (Lit × DataW H),(l.foldr DataW.insert []).Perm l
  | [] => .refl _
  | x :: r =>(insert_perm x _).trans ((foldr_perm r).cons x)
theorem owns_map {P : Program} {kt : TypeId} (hkt : P.underlying kt = some (.int .i64)) {es : List (AV × AV × Nat)} {c : Nat} {ks : List Int} (hg : mapG es c ks) (hks : keysI es = some ks) {T : TypeId} {us : Array MapEntry} (hr : ER T eb φ es us.toList) {bm : Nat} (hw : w.heap[bm]? = some (.map us c)) :
    ∃ D0 : DataW Unit,w.ownsMap P kt (fun _ =>some (.nil,[])) bm us.size D0 ∧ (intKeys D0).Perm ks ∧ Maps.size D0 = es.length:=by
  obtain ⟨g1,g2,g3,g4,g5⟩:=hg
  obtain ⟨h1,h2⟩:=er_keys hr hks
  have hlen : us.size = es.length:=by
    have:=congrArg List.length h2
    simpa using this
  have hkey : ∀ x ∈ us.toList,∃ k ∈ ks,x.key = encZ k:=fun x hx =>by
    have : x.key ∈ us.toList.map (·.key):=List.mem_map_of_mem hx
    rw [h1] at this
    obtain ⟨k,hk,e⟩:=List.mem_map.1 this
    exact ⟨k,hk,e.symm⟩
  have hko : ∀ k ∈ ks,Go.keyOf P kt (encZ k) = some (.int .i64 k):=fun k hk =>by
    obtain ⟨q1,q2⟩:=g5 k hk
    refine Go.Maps.keyOf_int_mk hkt ?_
    simp [Lit.wf,IntKind.min,IntKind.max,IntKind.bits,IntKind.signed]
    omega
  refine ⟨.map ((us.toList.map (Go.WideElems.rg P kt fun _ =>some (.nil,[]))).foldr DataW.insert []),⟨us,c,hw,⟨?_,⟨?_,?_,?_⟩,?_⟩,Nat.le_refl _,rfl⟩,?_,?_⟩
  · rw [hlen]; exact Nat.le_trans g4 (by decide)
  · intro x hx
    have : x.born ∈ us.toList.map (·.born):=List.mem_map_of_mem hx
    rw [h2] at this
    obtain ⟨e,he,q⟩:=List.mem_map.1 this
    rw [← q]; exact g3 e he
  · rw [h2]; exact g2
  · rw [h1]
    exact List.pairwise_map.2 (g1.imp fun hne e =>hne (encZ_inj e))
  · intro x hx
    obtain ⟨k,hk,e⟩:=hkey x hx
    refine ⟨_,Go.WideElems.rd_mk (key:=x.key) (val:=x.val) (born:=x.born) (by rw [e]; exact hko k hk) rfl⟩
  · show (List.map (fun p : Lit × DataW Unit =>Go.intOf p.1) _).Perm ks
    refine ((foldr_perm _).map _).trans ?_
    rw [List.map_map]
    have : us.toList.map ((fun p : Lit × DataW Unit =>Go.intOf p.1) ∘ Go.WideElems.rg P kt fun _ =>some (.nil,[])) = (us.toList.map (·.key)).map fun v =>match v with | .int _ k =>k | _ => 0:=by
      rw [List.map_map]
      refine List.map_congr_left fun x hx => ?_
      obtain ⟨k,hk,e⟩:=hkey x hx
      have hrd:=Go.WideElems.rd_mk (P:=P) (k:=kt) (R:=fun _ =>some ((.nil : DataW Unit),[])) (key:=x.key) (val:=x.val) (born:=x.born) (by rw [e]; exact hko k hk) rfl
      have:=Go.WideElems.rg_of hrd
      simp only [Function.comp]
      rw [show x = ⟨x.key,x.val,x.born⟩ from rfl,this,e]
      rfl
    rw [this,h1,List.map_map]
    have : ((fun v =>match v with | .int _ k =>k | _ => 0) ∘ encZ : Int → Int) = id:=rfl
    rw [this,List.map_id]
  · show (List.foldr DataW.insert [] _).length = _
    rw [(foldr_perm _).length_eq,List.length_map,Array.length_toList,hlen]
theorem row_new {T : TypeId} {xs : List Int} {v : Value} {e : TypeId} {base : Nat} (h : w'.ownsRow base e 1 v xs.length (xs.map encZ)) (hne : xs ≠ []) :
    ∃ g cap cur,v = .slice (some ⟨g,0,none⟩) xs.length cap ∧ base ≤ g ∧ w'.heap[g]? = some (.cells cur e (0,0)) ∧ xs.length ≤ cap ∧ cur.size = cap ∧
      ∀ (φ' : Emb) (n : Nat),φ'.k n = 1 → φ'.base n = 0 → φ'.size n = cap → BR T eb φ' n (.row false 1 (xs.map fun k => [.int .i64 k])) (.cells cur e (0,0)):=by
  obtain ⟨_,h | ⟨g,cap,cur,rfl,h1,h2,h3,_,h5,h6⟩⟩:=h
  · exact absurd (List.eq_nil_of_length_eq_zero h.2) hne
  · refine ⟨g,cap,cur,rfl,h1,h2,h3,by rw [h5,Nat.mul_one],fun φ' n k1 k2 k3 =>⟨cur,e,(0,0),rfl,k1,by rw [k3,h5,Nat.mul_one],by rw [k2,h5,List.length_map]; omega,fun _ p _ =>by simp,fun i el hi => ?_⟩⟩
    rw [List.getElem?_map] at hi
    cases hx : xs[i]? with
    | none =>rw [hx] at hi; cases hi
    | some x =>
      rw [hx] at hi
      simp only [Option.map_some,Option.some.injEq] at hi
      subst hi
      refine ⟨rfl,fun j v hv => ?_⟩
      cases j with
      | succ j =>simp at hv
      | zero =>
        simp only [List.getElem?_cons_zero,Option.some.injEq] at hv
        subst hv
        refine ⟨encZ x,?_,.int _ _,rfl⟩
        have hil : i < xs.length:=(List.getElem?_eq_some_iff.1 hx).1
        have : (cur.toList.take (xs.length * 1))[i]? = some (encZ x):=by rw [h6,List.getElem?_map,hx]; rfl
        rw [List.getElem?_take_of_lt (by omega)] at this
        rw [k2,Nat.zero_add,Nat.mul_one,Nat.add_zero,← Array.getElem?_toList]
        exact this
end AH
set_option linter.unusedSimpArgs false
namespace AH
open Go
variable {S : Sys} {eb : Nat → Addr} {own : Nat → Prop} {w0 w : World} {φ φ' : Emb} {C : Ctx}
structure En (β : Type) where
  k : Int
  v : β
  s : Nat
section
variable {β : Type}
def enA (f : β → AV) (e : En β) : AV × AV × Nat:=(.int .i64 e.k,f e.v,e.s)
def enF (k : Int) : List (En β) → Nat → Option (Nat × En β)
  | [],_ =>none
  | e :: r,i =>bif k == e.k then some (i,e) else enF k r (i + 1)
def enV (f : β → AV) (x : Nat × En β) : Nat × AV × Nat:=(x.1,f x.2.v,x.2.s)
theorem findK_en (f : β → AV) (k : Int) : ∀ (L : List (En β)) (i : Nat),findK (.sc .int) (.int .i64 k) (L.map (enA f)) i = some ((enF k L i).map (enV f))
  | [],_ =>rfl
  | e :: r,i =>by
    simp only [List.map_cons,enA,findK,keyEq,eqScalar,and_self,if_true,enF]
    cases h : k == e.k
    · simp only [cond_false]; exact findK_en f k r (i + 1)
    · rfl
theorem keysI_en (f : β → AV) : ∀ L : List (En β),keysI (L.map (enA f)) = some (L.map (·.k))
  | [] =>rfl
  | e :: r =>by simp only [List.map_cons,keysI,enA,keyI,keysI_en f r]
theorem enF_some {k : Int} : ∀ {L : List (En β)} {i j : Nat} {e : En β},enF k L i = some (j,e) → i ≤ j ∧ L[j - i]? = some e ∧ e.k = k ∧ ∀ e' ∈ L.take (j - i),e'.k ≠ k
  | [],i,j,e,h =>by cases h
  | x :: r,i,j,e,h =>by
    unfold enF at h
    cases hq : k == x.k with
    | true =>
      rw [hq] at h
      simp only [cond_true,Option.some.injEq,Prod.mk.injEq] at h
      obtain ⟨rfl,rfl⟩:=h
      refine ⟨Nat.le_refl _,by simp,(beq_iff_eq.1 hq).symm,by simp⟩
    | false =>
      rw [hq] at h
      simp only [cond_false] at h
      obtain ⟨h1,h2,h3,h4⟩:=enF_some h
      have e1 : j - i = (j - (i + 1)) + 1:=by omega
      refine ⟨by omega,by rw [e1,List.getElem?_cons_succ]; exact h2,h3,fun e' he' => ?_⟩
      rw [e1,List.take_succ_cons] at he'
      rcases List.mem_cons.1 he' with rfl | he'
      · intro q; rw [q] at hq; simp at hq
      · exact h4 e' he'
theorem enF_none {k : Int} : ∀ {L : List (En β)} {i : Nat},enF k L i = none ↔ k ∉ L.map (·.k)
  | [],i =>by simp [enF]
  | x :: r,i =>by
    unfold enF
    cases hq : k == x.k with
    | true =>simp at hq; simp [hq]
    | false =>simp at hq; simp [hq,enF_none]
theorem enF_isSome {k : Int} {L : List (En β)} {i : Nat} : (enF k L i).isSome = true ↔ k ∈ L.map (·.k):=by
  cases h : enF k L i with
  | none =>have:=enF_none.1 h; simp only [Option.isSome_none,Bool.false_eq_true,false_iff]; exact this
  | some x =>
    obtain ⟨j,e⟩:=x
    obtain ⟨h1,h2,h3,_⟩:=enF_some h
    simp only [Option.isSome_some,true_iff]
    rw [← h3]; exact List.mem_map_of_mem (List.mem_of_getElem? h2)
theorem enF_at {k : Int} {L : List (En β)} (hn : (L.map (·.k)).Nodup) {i : Nat} {e : En β} (he : L[i]? = some e) (hk : e.k = k) : enF k L 0 = some (i,e):=by
  cases h : enF k L 0 with
  | none =>exact absurd (hk ▸ List.mem_map_of_mem (List.mem_of_getElem? he)) (enF_none.1 h)
  | some x =>
    obtain ⟨j,e'⟩:=x
    obtain ⟨_,h2,h3,_⟩:=enF_some h
    rw [Nat.sub_zero] at h2
    have : i = j:=by
      have a1 : (L.map (·.k))[i]? = some k:=by rw [List.getElem?_map,he,Option.map_some,hk]
      have a2 : (L.map (·.k))[j]? = some k:=by rw [List.getElem?_map,h2,Option.map_some,h3]
      exact (List.getElem?_inj (List.getElem?_eq_some_iff.1 a1).1 hn).1 (a1.trans a2.symm)
    subst this
    rw [he] at h2
    simp only [Option.some.injEq] at h2
    rw [h2]
def decEn (x : Arg β) : List (AV × AV × Nat) → Option (List (En β))
  | [] =>some []
  | (a,b,s) :: r =>match keyI a,x.dec b,decEn x r with
    | some k,some v,some l =>some (⟨k,v,s⟩ :: l)
    | _,_,_ =>none
theorem decEn_map (x : Arg β) : ∀ L : List (En β),decEn x (L.map (enA x.enc)) = some L
  | [] =>rfl
  | e :: r =>by simp only [List.map_cons,enA,decEn,keyI,x.de,decEn_map x r]
theorem decEn_ok {x : Arg β} : ∀ {es : List (AV × AV × Nat)} {L : List (En β)},decEn x es = some L → es = L.map (enA x.enc)
  | [],L,h =>by simp [decEn] at h; subst h; rfl
  | (a,b,s) :: r,L,h =>by
    unfold decEn at h
    split at h
    · rename_i k v l h1 h2 h3
      simp only [Option.some.injEq] at h
      subst h
      rw [decEn_ok h3,x.ok _ _ h2]
      unfold keyI at h1
      split at h1
      · simp only [Option.some.injEq] at h1
        subst h1
        rfl
      · cases h1
    · cases h
end
theorem rowE_of {M : Nat → Option Blk} {id k : Nat} {ro : Bool} {es : List (List AV)} (h : M id = some (.row ro k es)) : rowE M id = some (k,es):=by unfold rowE; rw [h]
end AH
set_option linter.unusedSimpArgs false
namespace AH
open Go
variable {β : Type}
def stamps (S : List (En β)) : List Nat:=S.map (·.s)
structure Part (L S : List (En β)) : Prop where
  sub : ∀ x ∈ S,x ∈ L
  nd : (stamps S).Nodup
theorem Part.snoc {L S : List (En β)} (h : Part L S) {x : En β} (hx : x ∈ L) (hn : x.s ∉ stamps S) : Part L (S ++ [x]):=by
  refine ⟨fun y hy => ?_,?_⟩
  · rcases List.mem_append.1 hy with q | q
    · exact h.sub y q
    · simp only [List.mem_singleton] at q; subst q; exact hx
  · unfold stamps
    rw [List.map_append]
    refine List.nodup_append.2 ⟨h.nd,by simp,fun a ha b hb q => ?_⟩
    simp only [List.map_cons,List.map_nil,List.mem_singleton] at hb
    rw [q,hb] at ha; exact hn ha
theorem nodup_of_map {γ : Type} (f : β → γ) : ∀ {l : List β},(l.map f).Nodup → l.Nodup
  | [],_ =>List.nodup_nil
  | a :: r,h =>by
    rw [List.map_cons,List.nodup_cons] at h
    exact List.nodup_cons.2 ⟨fun q =>h.1 (List.mem_map_of_mem q),nodup_of_map f h.2⟩
theorem stamp_inj {L : List (En β)} (hn : (stamps L).Nodup) {x y : En β} (hx : x ∈ L) (hy : y ∈ L) (h : x.s = y.s) : x = y:=by
  obtain ⟨i,hi⟩:=List.getElem?_of_mem hx
  obtain ⟨j,hj⟩:=List.getElem?_of_mem hy
  have a1 : (stamps L)[i]? = some x.s:=by rw [stamps,List.getElem?_map,hi]; rfl
  have a2 : (stamps L)[j]? = some x.s:=by rw [stamps,List.getElem?_map,hj,h]; rfl
  have : i = j:=(List.getElem?_inj (List.getElem?_eq_some_iff.1 a1).1 hn).1 (a1.trans a2.symm)
  subst this
  rw [hi] at hj
  exact Option.some.inj hj
theorem Part.all {L S : List (En β)} (h : Part L S) (hn : (stamps L).Nodup) (ha : ∀ x ∈ L,x.s ∈ stamps S) : S.Perm L:=by
  refine (List.perm_ext_iff_of_nodup (nodup_of_map _ h.nd) (nodup_of_map _ hn)).2 fun x =>⟨h.sub x,fun hx => ?_⟩
  obtain ⟨y,hy,hs⟩:=List.mem_map.1 (ha x hx)
  have : y = x:=stamp_inj hn (h.sub y hy) hx hs
  rw [← this]; exact hy
theorem Part.len {L S : List (En β)} (h : Part L S) : S.length ≤ L.length:=by
  have hnd : S.Nodup:=nodup_of_map _ h.nd
  exact hnd.length_le_of_subset h.sub
theorem Part.lt {L S : List (En β)} (h : Part L S) {x : En β} (hx : x ∈ L) (hn : x.s ∉ stamps S) : S.length < L.length:=by
  have:=(h.snoc hx hn).len
  rw [List.length_append,List.length_singleton] at this
  omega
end AH
set_option linter.unusedSimpArgs false
namespace AH
open Go
variable {β : Type}
structure Mp (β : Type) where
  L : List (En β)
  c : Nat
def mpM (x : Arg β) (t : Mp β) : Mem:=[some (.row false 1 [[.map 1]]),some (.map (t.L.map (enA x.enc)) t.c)]
def mpL (p b c : Nat) : Option (List (En β)) → Option (Mp β × List (Nat × Bool))
  | some L =>if p ≠ b then some (⟨L,c⟩,[(p,false),(b,false)]) else none
  | none =>none
def mpB (x : Arg β) (p b : Nat) : Option Blk → Option (Mp β × List (Nat × Bool))
  | some (.map es c) =>mpL p b c (decEn x es)
  | _ =>none
def mpR (x : Arg β) (M : Nat → Option Blk) (p : Nat) : Option Blk → Option (Mp β × List (Nat × Bool))
  | some (.row false 1 [[.map b]]) =>mpB x p b (M b)
  | _ =>none
def mpD (x : Arg β) (M : Nat → Option Blk) : AV → Option (Mp β × List (Nat × Bool))
  | .ptr p 0 0 =>mpR x M p (M p)
  | _ =>none
theorem enX_in (x : Arg β) (p : Nat → Bool) (L : List (En β)) : ((L.map (enA x.enc)).all fun e =>AV.inB p e.1 && AV.inB p e.2.1) = true:=by
  simp only [List.all_map,List.all_eq_true]
  intro e _
  simp only [Function.comp,enA,AV.inB,flat_inB (x.flat e.v),Bool.and_self]
theorem enX_ren (x : Arg β) (ρ : Nat → Nat) (L : List (En β)) : (L.map (enA x.enc)).map (fun e =>(AV.ren ρ e.1,AV.ren ρ e.2.1,e.2.2)) = L.map (enA x.enc):=by
  rw [List.map_map]
  refine List.map_congr_left fun e _ => ?_
  simp only [Function.comp,enA,AV.ren,flat_ren (x.flat e.v)]
theorem mpD_inv {x : Arg β} {M : Nat → Option Blk} {v : AV} {t : Mp β} {sel : List (Nat × Bool)} (h : mpD x M v = some (t,sel)) :
    ∃ p b,v = .ptr p 0 0 ∧ sel = [(p,false),(b,false)] ∧ p ≠ b ∧ M p = some (.row false 1 [[.map b]]) ∧ M b = some (.map (t.L.map (enA x.enc)) t.c):=by
  unfold mpD at h
  split at h
  · rename_i p
    unfold mpR at h
    split at h
    · rename_i b hp
      unfold mpB at h
      split at h
      · rename_i es c hb
        unfold mpL at h
        split at h
        · rename_i L hL
          split at h
          · rename_i hne
            simp only [Option.some.injEq,Prod.mk.injEq] at h
            obtain ⟨rfl,rfl⟩:=h
            exact ⟨p,b,rfl,rfl,hne,hp,by rw [hb,decEn_ok hL]⟩
          · cases h
        · cases h
      · cases h
    · cases h
  · cases h
theorem mpD_of {x : Arg β} {M : Nat → Option Blk} {p b : Nat} (t : Mp β) (hne : p ≠ b) (hp : M p = some (.row false 1 [[.map b]])) (hb : M b = some (.map (t.L.map (enA x.enc)) t.c)) :
    mpD x M (.ptr p 0 0) = some (t,[(p,false),(b,false)]):=by
  simp only [mpD,hp,mpR,hb,mpB,decEn_map,mpL,hne,ne_eq,not_false_eq_true,if_true]
def mpO (x : Arg β) : AH.Obj (Mp β) where
  dec:=mpD x
  mem:=mpM x
  self:=fun _ => .ptr 0 0 0
  ok:=by
    intro M v t sel h
    obtain ⟨p,b,rfl,rfl,hne,hp,hb⟩:=mpD_inv h
    have h1 : (p == b) = false:=by simpa using hne
    have h2 : (b == p) = false:=by simpa using Ne.symm hne
    refine ⟨⟨?_,?_⟩,?_,?_,?_⟩
    · simp only [selF,hp,hb,Blk.inB,enX_in,List.all_cons,List.all_nil,AV.insB,AV.inB,AH.isIn,beq_self_eq_true,h1,h2,Bool.true_or,Bool.or_true,Bool.and_true,Bool.and_self]
      rfl
    · simp [AH.distinct,AH.isIn,h2]
    · simp only [subF,hp,hb,Option.map_some,Blk.ren,enX_ren,Blk.asRo,List.map_cons,List.map_nil,AV.rens,AV.ren,AH.posOf,beq_self_eq_true,h1,cond_true,cond_false,mpM,Nat.zero_add]
    · simp [AV.inB,AH.isIn]
    · simp [AV.ren,AH.posOf]
  loc:=by
    intro M v t sel h M' hM'
    obtain ⟨p,b,rfl,rfl,hne,hp,hb⟩:=mpD_inv h
    exact mpD_of t hne ((hM' p (by simp)).trans hp) ((hM' b (by simp)).trans hb)
theorem mpB_eq {x : Arg β} {p b c : Nat} {L : List (En β)} (hne : p ≠ b) : mpB x p b (some (.map (L.map (enA x.enc)) c)) = some (⟨L,c⟩,[(p,false),(b,false)]):=by
  simp only [mpB,decEn_map,mpL,hne,ne_eq,not_false_eq_true,if_true]
theorem Mp.eta (t : Mp β) : (⟨t.L,t.c⟩ : Mp β) = t:=rfl
theorem enA_mk (f : β → AV) (k : Int) (v : β) (s : Nat) : enA f ⟨k,v,s⟩ = (.int .i64 k,f v,s):=rfl
theorem set_en (f : β → AV) (L : List (En β)) (i : Nat) (k : Int) (v : β) (s : Nat) : (L.map (enA f)).set i (.int .i64 k,f v,s) = (L.set i ⟨k,v,s⟩).map (enA f):=by rw [List.map_set]; rfl
theorem erase_en (f : β → AV) (L : List (En β)) (i : Nat) : (L.map (enA f)).eraseIdx i = (L.eraseIdx i).map (enA f):=by
  induction L generalizing i with
  | nil =>rfl
  | cons x r ih =>
    cases i with
    | zero =>rfl
    | succ i =>simp only [List.map_cons,List.eraseIdx_cons_succ,ih]
structure Mp.wf (t : Mp β) : Prop where
  keys : (t.L.map (·.k)).Nodup
  stamps : (t.L.map (·.s)).Nodup
  lt : ∀ e ∈ t.L,e.s < t.c
theorem wf_new : (⟨[],0⟩ : Mp β).wf:=⟨List.nodup_nil,List.nodup_nil,fun e h =>by cases h⟩
theorem Mp.wf.snoc {t : Mp β} (h : t.wf) {k : Int} (hk : enF k t.L 0 = none) (v : β) : (⟨t.L ++ [⟨k,v,t.c⟩],t.c + 1⟩ : Mp β).wf:=by
  refine ⟨?_,?_,fun e he => ?_⟩
  · simp only [List.map_append,List.map_cons,List.map_nil]
    refine List.nodup_append.2 ⟨h.keys,by simp,fun a ha b hb q => ?_⟩
    simp only [List.mem_singleton] at hb
    rw [q,hb] at ha
    exact enF_none.1 hk ha
  · simp only [List.map_append,List.map_cons,List.map_nil]
    refine List.nodup_append.2 ⟨h.stamps,by simp,fun a ha b hb q => ?_⟩
    simp only [List.mem_singleton] at hb
    rw [q,hb] at ha
    obtain ⟨e,he,hs⟩:=List.mem_map.1 ha
    have:=h.lt e he
    omega
  · simp only [List.mem_append,List.mem_singleton] at he
    rcases he with he | rfl
    · exact Nat.lt_succ_of_lt (h.lt e he)
    · exact Nat.lt_succ_self _
theorem Mp.wf.set {t : Mp β} (h : t.wf) {k : Int} {i : Nat} {e : En β} (hk : enF k t.L 0 = some (i,e)) (v : β) : (⟨t.L.set i ⟨k,v,e.s⟩,t.c⟩ : Mp β).wf:=by
  obtain ⟨_,h2,h3,_⟩:=enF_some hk
  rw [Nat.sub_zero] at h2
  have hi:=(List.getElem?_eq_some_iff.1 h2).1
  have m1 : (t.L.set i ⟨k,v,e.s⟩).map (·.k) = t.L.map (·.k):=by
    rw [List.map_set]
    refine List.ext_getElem? fun j => ?_
    by_cases q : i = j
    · subst q; rw [List.getElem?_set_self (by simpa using hi),List.getElem?_map,h2]; simp [h3]
    · rw [List.getElem?_set_ne q]
  have m2 : (t.L.set i ⟨k,v,e.s⟩).map (·.s) = t.L.map (·.s):=by
    rw [List.map_set]
    refine List.ext_getElem? fun j => ?_
    by_cases q : i = j
    · subst q; rw [List.getElem?_set_self (by simpa using hi),List.getElem?_map,h2]; simp
    · rw [List.getElem?_set_ne q]
  refine ⟨by rw [m1]; exact h.keys,by rw [m2]; exact h.stamps,fun x hx => ?_⟩
  rcases List.mem_or_eq_of_mem_set hx with q | q
  · exact h.lt x q
  · subst q; exact h.lt e (List.mem_of_getElem? h2)
theorem Mp.wf.erase {t : Mp β} (h : t.wf) (i : Nat) : (⟨t.L.eraseIdx i,t.c⟩ : Mp β).wf:=by
  refine ⟨?_,?_,fun x hx =>h.lt x (List.mem_of_mem_eraseIdx hx)⟩
  · exact ((List.eraseIdx_sublist t.L i).map _).nodup h.keys
  · exact ((List.eraseIdx_sublist t.L i).map _).nodup h.stamps
theorem Mp.wf.good {f : β → AV} {t : Mp β} (h : t.wf) (hl : t.L.length ≤ 1048576) (hk : ∀ e ∈ t.L,-9223372036854775808 ≤ e.k ∧ e.k ≤ 9223372036854775807) : mapG (t.L.map (enA f)) t.c (t.L.map (·.k)):=by
  refine ⟨h.keys,by rw [List.map_map]; exact h.stamps,?_,by rw [List.length_map]; exact hl,?_⟩
  · intro e he
    obtain ⟨x,hx,rfl⟩:=List.mem_map.1 he
    exact h.lt x hx
  · intro k hk'
    obtain ⟨x,hx,rfl⟩:=List.mem_map.1 hk'
    exact hk x hx
theorem enF_set {L : List (En β)} {k : Int} {i : Nat} {e : En β} (h : enF k L 0 = some (i,e)) (v : β) (s : Nat) (k' : Int) : (enF k' (L.set i ⟨k,v,s⟩) 0).map (·.2.v) = if k' = k then some v else (enF k' L 0).map (·.2.v):=by
  have gen : ∀ (L : List (En β)) (a j : Nat) (i : Nat),enF k L a = some (i + a,e) → (enF k' (L.set i ⟨k,v,s⟩) j).map (·.2.v) = if k' = k then some v else (enF k' L j).map (·.2.v):=by
    intro L
    induction L with
    | nil =>intro a j i h; cases h
    | cons x r ih =>
      intro a j i h
      unfold enF at h
      cases hq : k == x.k with
      | true =>
        rw [hq] at h
        simp only [cond_true,Option.some.injEq,Prod.mk.injEq] at h
        obtain ⟨h1,rfl⟩:=h
        obtain rfl : i = 0:=by omega
        have hk : k = x.k:=by simpa using hq
        simp only [List.set_cons_zero,enF]
        by_cases q : k' = k
        · have : (k' == k) = true:=by simpa using q
          simp only [q,beq_self_eq_true,cond_true,if_true,Option.map_some]
        · have h1 : (k' == k) = false:=by simpa using q
          have h2 : (k' == x.k) = false:=by rw [← hk]; exact h1
          simp only [h1,h2,cond_false,q,if_false]
      | false =>
        rw [hq] at h
        simp only [cond_false] at h
        have hi : 0 < i:=by
          obtain ⟨q,_⟩:=enF_some h
          omega
        obtain ⟨i,rfl⟩ : ∃ i',i = i' + 1:=⟨i - 1,by omega⟩
        rw [show i + 1 + a = i + (a + 1) by omega] at h
        have:=ih (a + 1) (j + 1) i h
        simp only [List.set_cons_succ,enF]
        by_cases q : k' = k
        · have h1 : (k' == x.k) = false:=by rw [q]; exact hq
          rw [h1]
          simp only [cond_false,q,if_true] at this ⊢
          exact this
        · cases h1 : k' == x.k
          · simp only [cond_false,q,if_false] at this ⊢
            exact this
          · simp only [cond_true,q,if_false]
  exact gen L 0 0 i (by simpa using h)
theorem enF_app (L : List (En β)) (k : Int) (v : β) (s : Nat) (hk : enF k L 0 = none) (k' : Int) : (enF k' (L ++ [⟨k,v,s⟩]) 0).map (·.2.v) = if k' = k then some v else (enF k' L 0).map (·.2.v):=by
  have gen : ∀ (L : List (En β)) (j : Nat),k ∉ L.map (·.k) → (enF k' (L ++ [⟨k,v,s⟩]) j).map (·.2.v) = if k' = k then some v else (enF k' L j).map (·.2.v):=by
    intro L
    induction L with
    | nil =>
      intro j _
      simp only [List.nil_append,enF]
      by_cases q : k' = k
      · have : (k' == k) = true:=by simpa using q
        simp only [q,beq_self_eq_true,cond_true,if_true,Option.map_some]
      · have : (k' == k) = false:=by simpa using q
        simp only [this,cond_false,q,if_false]
    | cons x r ih =>
      intro j hn
      simp only [List.map_cons,List.mem_cons,not_or] at hn
      have:=ih (j + 1) hn.2
      simp only [List.cons_append,enF]
      cases h1 : k' == x.k
      · simp only [cond_false]; exact this
      · have q : ¬ k' = k:=fun q =>by
          have : k' = x.k:=by simpa using h1
          exact hn.1 (q ▸ this)
        simp only [cond_true,q,if_false]
  exact gen L 0 (enF_none.1 hk)
theorem enF_key {L : List (En β)} (hn : (L.map (·.k)).Nodup) {e : En β} (he : e ∈ L) : ∃ i,enF e.k L 0 = some (i,e):=by
  obtain ⟨i,hi⟩:=List.getElem?_of_mem he
  exact ⟨i,enF_at hn hi rfl⟩
def rtPQ {α γ : Type} (k : Nat) (c : Cod α) (f : List α → γ → AV) (n id : Nat) : Option Blk → Option γ → Option (AV × List Nat)
  | some (.row _ k' es),some b =>if k' = k ∧ n ≤ es.length then (c.decL (es.take n)).bind fun l =>if n ≤ 1048576 then some (f l b,[id]) else none else none
  | _,_ =>none
def rtPre {α γ : Type} (k : Nat) (c : Cod α) (x : Cod γ) (f : List α → γ → AV) : RT:=fun args M =>match args with
  | .slc id 0 n _ :: r =>rtPQ k c f n id (M id) (x.dec r)
  | _ =>none
section
variable {α γ : Type} {k n id : Nat} {c : Cod α} {x : Cod γ} {f : List α → γ → AV} {ro : Bool} {b : γ}
theorem rtPQ_eq {l z : List α} (h : l.length ≤ 1048576) : rtPQ k c f l.length id (some (.row ro k ((l ++ z).map c.enc))) (some b) = some (f l b,[id]):=by
  have e : ((l ++ z).map c.enc).take l.length = l.map c.enc:=by rw [← List.map_take,List.take_left]
  simp only [rtPQ,e,c.decL_map,Option.bind_some,h,if_true,true_and,List.length_map,List.length_append,Nat.le_add_right]
theorem rtPQ_inv {o : Option Blk} {q : Option γ} {v : AV} {foot : List Nat} (h : rtPQ k c f n id o q = some (v,foot)) :
    ∃ ro es l b,o = some (.row ro k es) ∧ es.take n = l.map c.enc ∧ n ≤ es.length ∧ q = some b ∧ n = l.length ∧ n ≤ 1048576 ∧ v = f l b ∧ foot = [id]:=by
  unfold rtPQ at h
  split at h
  · rename_i ro k' es b
    split at h
    · rename_i hk
      obtain ⟨rfl,hle⟩:=hk
      simp only [Option.bind_eq_some_iff] at h
      obtain ⟨l,h1,h2⟩:=h
      split at h2
      · rename_i hn
        simp only [Option.some.injEq,Prod.mk.injEq] at h2
        obtain ⟨rfl,rfl⟩:=h2
        have e:=c.decL_ok h1
        refine ⟨ro,es,l,b,rfl,e,hle,rfl,?_,hn,rfl,rfl⟩
        have:=congrArg List.length e
        rw [List.length_take,List.length_map] at this
        omega
      · cases h2
    · cases h
  · cases h
theorem rtPre_ok {S : AH.Sys} {g : FuncId} (he : S.errs ≠ []) (h : ∀ l b,l.length ≤ 1048576 → (f l b).lt 0 = true ∧ CallA1 S g (.slc 0 0 l.length none :: x.enc b) [some (.row true k (l.map c.enc))] fun r _ =>r = f l b) : ReadF S g (rtPre k c x f):=by
  intro args M v foot e
  unfold rtPre at e
  split at e
  · rename_i id n cp r
    obtain ⟨ro,es,l,b,h1,h2,h3,h4,h5,h6,rfl,rfl⟩:=rtPQ_inv e
    have:=vf1_ok he h (.slc id 0 n cp :: r) M (f l b) [id] (vf1_eq (c:=c) (x:=x) (f:=f) (rowE_of h1) (by rw [List.drop_zero]; exact h2) (by omega) h6 h4)
    refine ⟨fun M' hM' => ?_,this.2⟩
    have h7 : M' id = M id:=hM' id (by simp)
    simp only [rtPre,h7]
    exact e
  · cases e
end
end AH
namespace AH
open Go
def ACode.at : ACode → List Bool → ACode
  | c,[] =>c
  | .seq a _,false :: r =>a.at r
  | .seq _ b,true :: r =>b.at r
  | .cond _ a _,false :: r =>a.at r
  | .cond _ _ b,true :: r =>b.at r
  | .block _ b,_ :: r =>b.at r
  | .loop b,_ :: r =>b.at r
  | c,_ =>c
end AH
namespace AH
open Go
end AH
namespace AH
open Go
end AH
