import Derived.Test.YtamkjgiemconbaaDoorAHc
import Derived.Maps.Own
import Derived.Lib.SlKeysI
import Derived.RangeFuncNested
import Derived.RangeFuncBound
import Derived.RangeFuncCalls
import Derived.RangeFuncLeaves
import Derived.Shelf.Abstract
import Derived.WalkKit
import Derived.OwnWalkIn
import Derived.TacticsInMore
import Derived.LoopNIn
import Derived.LoopIn
import Derived.Maps.AppendAt
import Derived.Sort.MapsRangeIn
import Derived.Laws.IdiomRangeMap
import Derived.Deep.Draws
namespace AH
open Go
theorem wr1 : IntKind.i64.wrap 1 = 1:=by decide
theorem wr2 : IntKind.i64.wrap 2 = 2:=by decide
theorem wr3 : IntKind.i64.wrap 3 = 3:=by decide
theorem wr4 : IntKind.i64.wrap 4 = 4:=by decide
theorem wr5 : IntKind.i64.wrap 5 = 5:=by decide
theorem wr6 : IntKind.i64.wrap 6 = 6:=by decide
theorem wr7 : IntKind.i64.wrap 7 = 7:=by decide
theorem wr8 : IntKind.i64.wrap 8 = 8:=by decide
theorem wr9 : IntKind.i64.wrap 9 = 9:=by decide
theorem wr10 : IntKind.i64.wrap 10 = 10:=by decide
theorem wr11 : IntKind.i64.wrap 11 = 11:=by decide
theorem wr12 : IntKind.i64.wrap 12 = 12:=by decide
theorem wr13 : IntKind.i64.wrap 13 = 13:=by decide
theorem wr14 : IntKind.i64.wrap 14 = 14:=by decide
theorem wr15 : IntKind.i64.wrap 15 = 15:=by decide
theorem wr16 : IntKind.i64.wrap 16 = 16:=by decide
theorem SD : type_of% (And.intro @AH.newsB_s (And.intro @AH.newsB_0 (And.intro @AH.lookE_nil (And.intro @AH.lookE_cons (And.intro @AH.appE_none (And.intro @AH.appE_some (And.intro @AH.callE_none (And.intro @AH.callE_eff (And.intro @AH.callE_new (And.intro @AH.callE_read (And.intro @AH.ctxU_eff (And.intro @AH.ctxE_eff (And.intro @AH.ctxE_read (And.intro @AH.ctxE_call (And.intro @AH.wpEffC_some (And.intro @AH.wpRead_none (And.intro Nat.sub_zero (And.intro @AH.wpA_skip (And.intro @AH.wpA_reg (And.intro @AH.wpA_draw (And.intro @AH.wpA_seq (And.intro @AH.wpA_cond (And.intro @AH.wpA_block (And.intro @AH.wpA_exit (And.intro @AH.wpA_ret (And.intro @AH.thenQ_normal (And.intro @AH.thenQ_exit (And.intro @AH.thenQ_ret (And.intro @AH.inBlk_normal (And.intro @AH.inBlk_exit (And.intro @AH.inBlk_ret (And.intro @AH.wpOps_nil (And.intro @AH.wpOps_plain (And.intro @AH.wpOps_guard (And.intro @AH.wpG_tt (And.intro @AH.wpG_ff (And.intro @AH.wpG_tf (And.intro @AH.wpG_ft (And.intro @AH.wpG_tu (And.intro @AH.wpC_true (And.intro @AH.wpC_false (And.intro @AH.wpOp_call (And.intro @AH.wpEff_some (And.intro @AH.wpCall_fn (And.intro @AH.kCall_eq (And.intro @List.map_nil.{0,0} (And.intro @List.map_cons.{0,0} (And.intro @cond_true.{0} (And.intro @cond_true.{1} (And.intro @cond_false.{0} (And.intro @cond_false.{1} (And.intro @List.length_cons.{0} (And.intro @List.length_nil.{0} (And.intro @List.append_nil.{0} (And.intro @List.nil_append.{0} (And.intro @List.cons_append.{0} (And.intro @true_and (And.intro @List.drop_zero.{0} (And.intro @List.take_succ_cons.{0} (And.intro @List.take_zero.{0} (And.intro @Nat.zero_add (And.intro @Nat.lt_add_one (And.intro @Nat.le_refl (And.intro @and_self (And.intro @List.getD_cons_zero.{0} (And.intro @beq_self_eq_true.{0} (And.intro @Nat.lt_irrefl (And.intro @Nat.zero_lt_one (And.intro @Option.map_some.{0,0} (And.intro @Bool.not_true (And.intro @Bool.not_false (And.intro @eq_self.{0} (And.intro @eq_self.{1} (And.intro @if_true.{0} (And.intro @if_true.{1} (And.intro @List.replicate_succ.{0} (And.intro @List.replicate_zero.{0} (And.intro @List.flatten_cons.{0} (And.intro @List.flatten_nil.{0} (And.intro @List.range_succ (And.intro @List.range_zero (And.intro @Nat.zero_mul (And.intro @Nat.mul_one (And.intro @List.getD_cons_succ.{0} (And.intro @Int.toNat_natCast (And.intro @AH.eqAV_bool (And.intro @AH.eqAV_flat (And.intro @AH.eqAV_p0 (And.intro @AH.eqAV_p1 (And.intro @AH.eqAV_p2 (And.intro @AH.eqAV_p3 (And.intro @AH.eqAV_s0 (And.intro @AH.eqAV_s1 (And.intro @AH.eqAV_s2 (And.intro @AH.eqAV_s3 (And.intro @AH.eqAV_s4 (And.intro @AH.eqAV_m0 (And.intro @AH.eqAV_m1 (And.intro @AH.eqAV_m2 (And.intro @AH.eqAV_f0 (And.intro @AH.eqAV_f1 (And.intro @AH.eqAV_f2 (And.intro @AH.eqAV_i0 (And.intro @AH.eqAV_i1 (And.intro @AH.eqAV_i2 (And.intro @AH.eqAV_i3 (And.intro @AH.eqAV_i4 (And.intro @Option.map_none.{0,0} (And.intro @List.set_cons_zero.{0} (And.intro @List.set_cons_succ.{0} (And.intro @List.length_set.{0} (And.intro @AH.ctxU_call (And.intro @AH.callR_read (And.intro @AH.callR_new (And.intro @AH.callR_none (And.intro @AH.lookT_cons (And.intro @AH.lookT_nil (And.intro @AH.appT_some (And.intro @AH.appT_none (And.intro @AH.lookU_cons (And.intro @AH.lookU_nil (And.intro @AH.appU_some (And.intro @AH.appU_none (And.intro @AH.wpEffX_false (And.intro @AH.rowE_hit (And.intro @AH.rowE_next (And.intro @AH.wpEffX_true (And.intro @AH.nbz (And.intro @Int.cast_ofNat_Int (And.intro @decide_true (And.intro @decide_false (And.intro @AH.beq_tt (And.intro @AH.beq_tf (And.intro @AH.beq_ft (And.intro @AH.beq_ff (And.intro @AH.bne_tt (And.intro @AH.bne_tf (And.intro @AH.bne_ft (And.intro @AH.bne_ff (And.intro @AH.rowW_hit (And.intro @AH.rowW_next (And.intro @AH.wr1 (And.intro @AH.wr2 (And.intro @AH.wr3 (And.intro @AH.wr4 (And.intro @AH.wr5 (And.intro @AH.wr6 (And.intro @AH.wr7 (And.intro @AH.wr8 (And.intro @AH.wr9 (And.intro @AH.wr10 (And.intro @AH.wr11 (And.intro @AH.wr12 (And.intro @AH.wr13 (And.intro @AH.wr14 (And.intro @AH.wr15 (And.intro @AH.wr16 (And.intro @AH.wpDs_nil (And.intro @AH.wpDs_plain (And.intro @AH.wpDs_guard (And.intro @AH.wpGD_tt (And.intro @AH.wpGD_ff (And.intro @AH.wpGD_tf (And.intro @AH.wpGD_ft (And.intro @AH.wpGD_tu (And.intro @AH.wpEffD_some (And.intro @AH.wpRead_some (And.intro @AH.ctxU_read (And.intro @AH.wpEffD_quiet (And.intro @AH.okLog_quiet (And.intro @List.take_nil.{0} (And.intro @List.drop_nil.{0} (@List.drop_succ_cons.{0}))))))))))))))))))))))))))))))))))))))))))))))))))))))))))))))))))))))))))))))))))))))))))))))))))))))))))))))))))))))))))))))))))))))))))))))))))))))))))))))))))))))))))))):=And.intro @AH.newsB_s (And.intro @AH.newsB_0 (And.intro @AH.lookE_nil (And.intro @AH.lookE_cons (And.intro @AH.appE_none (And.intro @AH.appE_some (And.intro @AH.callE_none (And.intro @AH.callE_eff (And.intro @AH.callE_new (And.intro @AH.callE_read (And.intro @AH.ctxU_eff (And.intro @AH.ctxE_eff (And.intro @AH.ctxE_read (And.intro @AH.ctxE_call (And.intro @AH.wpEffC_some (And.intro @AH.wpRead_none (And.intro Nat.sub_zero (And.intro @AH.wpA_skip (And.intro @AH.wpA_reg (And.intro @AH.wpA_draw (And.intro @AH.wpA_seq (And.intro @AH.wpA_cond (And.intro @AH.wpA_block (And.intro @AH.wpA_exit (And.intro @AH.wpA_ret (And.intro @AH.thenQ_normal (And.intro @AH.thenQ_exit (And.intro @AH.thenQ_ret (And.intro @AH.inBlk_normal (And.intro @AH.inBlk_exit (And.intro @AH.inBlk_ret (And.intro @AH.wpOps_nil (And.intro @AH.wpOps_plain (And.intro @AH.wpOps_guard (And.intro @AH.wpG_tt (And.intro @AH.wpG_ff (And.intro @AH.wpG_tf (And.intro @AH.wpG_ft (And.intro @AH.wpG_tu (And.intro @AH.wpC_true (And.intro @AH.wpC_false (And.intro @AH.wpOp_call (And.intro @AH.wpEff_some (And.intro @AH.wpCall_fn (And.intro @AH.kCall_eq (And.intro @List.map_nil.{0,0} (And.intro @List.map_cons.{0,0} (And.intro @cond_true.{0} (And.intro @cond_true.{1} (And.intro @cond_false.{0} (And.intro @cond_false.{1} (And.intro @List.length_cons.{0} (And.intro @List.length_nil.{0} (And.intro @List.append_nil.{0} (And.intro @List.nil_append.{0} (And.intro @List.cons_append.{0} (And.intro @true_and (And.intro @List.drop_zero.{0} (And.intro @List.take_succ_cons.{0} (And.intro @List.take_zero.{0} (And.intro @Nat.zero_add (And.intro @Nat.lt_add_one (And.intro @Nat.le_refl (And.intro @and_self (And.intro @List.getD_cons_zero.{0} (And.intro @beq_self_eq_true.{0} (And.intro @Nat.lt_irrefl (And.intro @Nat.zero_lt_one (And.intro @Option.map_some.{0,0} (And.intro @Bool.not_true (And.intro @Bool.not_false (And.intro @eq_self.{0} (And.intro @eq_self.{1} (And.intro @if_true.{0} (And.intro @if_true.{1} (And.intro @List.replicate_succ.{0} (And.intro @List.replicate_zero.{0} (And.intro @List.flatten_cons.{0} (And.intro @List.flatten_nil.{0} (And.intro @List.range_succ (And.intro @List.range_zero (And.intro @Nat.zero_mul (And.intro @Nat.mul_one (And.intro @List.getD_cons_succ.{0} (And.intro @Int.toNat_natCast (And.intro @AH.eqAV_bool (And.intro @AH.eqAV_flat (And.intro @AH.eqAV_p0 (And.intro @AH.eqAV_p1 (And.intro @AH.eqAV_p2 (And.intro @AH.eqAV_p3 (And.intro @AH.eqAV_s0 (And.intro @AH.eqAV_s1 (And.intro @AH.eqAV_s2 (And.intro @AH.eqAV_s3 (And.intro @AH.eqAV_s4 (And.intro @AH.eqAV_m0 (And.intro @AH.eqAV_m1 (And.intro @AH.eqAV_m2 (And.intro @AH.eqAV_f0 (And.intro @AH.eqAV_f1 (And.intro @AH.eqAV_f2 (And.intro @AH.eqAV_i0 (And.intro @AH.eqAV_i1 (And.intro @AH.eqAV_i2 (And.intro @AH.eqAV_i3 (And.intro @AH.eqAV_i4 (And.intro @Option.map_none.{0,0} (And.intro @List.set_cons_zero.{0} (And.intro @List.set_cons_succ.{0} (And.intro @List.length_set.{0} (And.intro @AH.ctxU_call (And.intro @AH.callR_read (And.intro @AH.callR_new (And.intro @AH.callR_none (And.intro @AH.lookT_cons (And.intro @AH.lookT_nil (And.intro @AH.appT_some (And.intro @AH.appT_none (And.intro @AH.lookU_cons (And.intro @AH.lookU_nil (And.intro @AH.appU_some (And.intro @AH.appU_none (And.intro @AH.wpEffX_false (And.intro @AH.rowE_hit (And.intro @AH.rowE_next (And.intro @AH.wpEffX_true (And.intro @AH.nbz (And.intro @Int.cast_ofNat_Int (And.intro @decide_true (And.intro @decide_false (And.intro @AH.beq_tt (And.intro @AH.beq_tf (And.intro @AH.beq_ft (And.intro @AH.beq_ff (And.intro @AH.bne_tt (And.intro @AH.bne_tf (And.intro @AH.bne_ft (And.intro @AH.bne_ff (And.intro @AH.rowW_hit (And.intro @AH.rowW_next (And.intro @AH.wr1 (And.intro @AH.wr2 (And.intro @AH.wr3 (And.intro @AH.wr4 (And.intro @AH.wr5 (And.intro @AH.wr6 (And.intro @AH.wr7 (And.intro @AH.wr8 (And.intro @AH.wr9 (And.intro @AH.wr10 (And.intro @AH.wr11 (And.intro @AH.wr12 (And.intro @AH.wr13 (And.intro @AH.wr14 (And.intro @AH.wr15 (And.intro @AH.wr16 (And.intro @AH.wpDs_nil (And.intro @AH.wpDs_plain (And.intro @AH.wpDs_guard (And.intro @AH.wpGD_tt (And.intro @AH.wpGD_ff (And.intro @AH.wpGD_tf (And.intro @AH.wpGD_ft (And.intro @AH.wpGD_tu (And.intro @AH.wpEffD_some (And.intro @AH.wpRead_some (And.intro @AH.ctxU_read (And.intro @AH.wpEffD_quiet (And.intro @AH.okLog_quiet (And.intro @List.take_nil.{0} (And.intro @List.drop_nil.{0} (@List.drop_succ_cons.{0}))))))))))))))))))))))))))))))))))))))))))))))))))))))))))))))))))))))))))))))))))))))))))))))))))))))))))))))))))))))))))))))))))))))))))))))))))))))))))))))))))))))))))))
theorem SE : type_of% (And.intro @AH.wpOp.eq_1 (And.intro @AH.AOp.map.eq_1 (And.intro @AH.AOp.map.eq_2 (And.intro @AH.AOp.map.eq_3 (And.intro @AH.AOp.map.eq_4 (And.intro @AH.AOp.map.eq_5 (And.intro @AH.AOp.map.eq_6 (And.intro @AH.AOp.map.eq_7 (And.intro @AH.AOp.map.eq_8 (And.intro @AH.AOp.map.eq_9 (And.intro @AH.AOp.map.eq_10 (And.intro @AH.AOp.map.eq_11 (And.intro @AH.AOp.map.eq_12 (And.intro @AH.AOp.map.eq_13 (And.intro @AH.AOp.map.eq_14 (And.intro @AH.AOp.map.eq_15 (And.intro @AH.AOp.map.eq_16 (And.intro @AH.AOp.map.eq_17 (And.intro @AH.AOp.map.eq_18 (And.intro @AH.AOp.map.eq_19 (And.intro @AH.AOp.map.eq_20 (And.intro @AH.AOp.map.eq_21 (And.intro @AH.AOp.map.eq_22 (And.intro @AH.AOp.map.eq_23 (And.intro @AH.AOp.map.eq_24 (And.intro @AH.AOp.map.eq_25 (And.intro @AH.AOp.map.eq_26 (And.intro @AH.AOp.map.eq_27 (And.intro @AH.AOp.map.eq_28 (And.intro @AH.AOp.map.eq_29 (And.intro @AH.AOp.map.eq_30 (And.intro @AH.AOp.map.eq_31 (And.intro @AH.AOp.map.eq_32 (And.intro @AH.AOp.map.eq_33 (And.intro @AH.AOp.map.eq_34 (And.intro @AH.AOp.map.eq_35 (And.intro @AH.AOp.map.eq_36 (And.intro @AH.AOp.map.eq_37 (And.intro @AH.AOp.map.eq_38 (And.intro @AH.AOp.map.eq_39 (And.intro @AH.AOp.map.eq_40 (And.intro @AH.AOp.map.eq_41 (And.intro @AH.AOp.map.eq_42 (And.intro @AH.AOp.map.eq_43 (And.intro @AH.AOp.map.eq_44 (And.intro @AH.AOp.map.eq_45 (And.intro @AH.AOp.map.eq_46 (And.intro @AH.Opd.ev.eq_1 (And.intro @AH.Opd.ev.eq_2 (And.intro @AH.tget.eq_1 (And.intro @AH.tget.eq_2 (And.intro @AH.argTm.eq_1 (And.intro @AH.argTm.eq_2 (And.intro @AH.evs.eq_1 (And.intro @AH.evs.eq_2 (And.intro @AH.St.eff.eq_1 (And.intro @AH.St.put.eq_1 (And.intro @AH.St.put.eq_2 (And.intro @AH.applyWr.eq_1 (And.intro @AH.applyWr.eq_2 (And.intro @AH.mset.eq_1 (And.intro @AH.mset.eq_2 (And.intro @AH.mset.eq_3 (And.intro @AH.mset.eq_4 (And.intro @AH.terase.eq_1 (And.intro @AH.terase.eq_2 (And.intro @AH.pureE.eq_1 (And.intro @AH.intOp.eq_1 (And.intro @AH.intOp.eq_2 (And.intro @AH.intOp.eq_3 (And.intro @AH.intOp.eq_4 (And.intro @AH.intOp.eq_5 (And.intro @AH.intOp.eq_6 (And.intro @AH.intOp.eq_7 (And.intro @AH.intOp.eq_8 (And.intro @AH.intOp.eq_9 (And.intro @AH.intOp.eq_10 (And.intro @AH.intOp.eq_11 (And.intro @AH.intOp.eq_12 (And.intro @AH.intOp.eq_13 (And.intro @AH.intOp.eq_14 (And.intro @AH.intOp.eq_15 (And.intro @AH.intOp.eq_16 (And.intro @AH.intOp.eq_17 (And.intro @AH.fill.eq_1 (And.intro @AH.fill.eq_2 (And.intro @AH.mget.eq_1 (And.intro @AH.mget.eq_2 (And.intro @AH.mget.eq_3 (And.intro @AH.rowAt.eq_1 (And.intro @AH.part.eq_1 (And.intro @AH.part.eq_2 (And.intro @AH.rvs.eq_1 (And.intro @AH.rvs.eq_2 (And.intro @AH.rvs.eq_3 (And.intro @AH.splice.eq_1 (And.intro @AH.splice.eq_2 (And.intro @AH.splice.eq_3 (And.intro @AH.addLog.eq_1 (And.intro @AH.addLog.eq_2 (And.intro @AH.wpOpD.eq_1 (And.intro @AH.mapAt.eq_1 (And.intro @AH.iterAt.eq_1 True.intro))))))))))))))))))))))))))))))))))))))))))))))))))))))))))))))))))))))))))))))))))))))))))))))))))))))):=And.intro @AH.wpOp.eq_1 (And.intro @AH.AOp.map.eq_1 (And.intro @AH.AOp.map.eq_2 (And.intro @AH.AOp.map.eq_3 (And.intro @AH.AOp.map.eq_4 (And.intro @AH.AOp.map.eq_5 (And.intro @AH.AOp.map.eq_6 (And.intro @AH.AOp.map.eq_7 (And.intro @AH.AOp.map.eq_8 (And.intro @AH.AOp.map.eq_9 (And.intro @AH.AOp.map.eq_10 (And.intro @AH.AOp.map.eq_11 (And.intro @AH.AOp.map.eq_12 (And.intro @AH.AOp.map.eq_13 (And.intro @AH.AOp.map.eq_14 (And.intro @AH.AOp.map.eq_15 (And.intro @AH.AOp.map.eq_16 (And.intro @AH.AOp.map.eq_17 (And.intro @AH.AOp.map.eq_18 (And.intro @AH.AOp.map.eq_19 (And.intro @AH.AOp.map.eq_20 (And.intro @AH.AOp.map.eq_21 (And.intro @AH.AOp.map.eq_22 (And.intro @AH.AOp.map.eq_23 (And.intro @AH.AOp.map.eq_24 (And.intro @AH.AOp.map.eq_25 (And.intro @AH.AOp.map.eq_26 (And.intro @AH.AOp.map.eq_27 (And.intro @AH.AOp.map.eq_28 (And.intro @AH.AOp.map.eq_29 (And.intro @AH.AOp.map.eq_30 (And.intro @AH.AOp.map.eq_31 (And.intro @AH.AOp.map.eq_32 (And.intro @AH.AOp.map.eq_33 (And.intro @AH.AOp.map.eq_34 (And.intro @AH.AOp.map.eq_35 (And.intro @AH.AOp.map.eq_36 (And.intro @AH.AOp.map.eq_37 (And.intro @AH.AOp.map.eq_38 (And.intro @AH.AOp.map.eq_39 (And.intro @AH.AOp.map.eq_40 (And.intro @AH.AOp.map.eq_41 (And.intro @AH.AOp.map.eq_42 (And.intro @AH.AOp.map.eq_43 (And.intro @AH.AOp.map.eq_44 (And.intro @AH.AOp.map.eq_45 (And.intro @AH.AOp.map.eq_46 (And.intro @AH.Opd.ev.eq_1 (And.intro @AH.Opd.ev.eq_2 (And.intro @AH.tget.eq_1 (And.intro @AH.tget.eq_2 (And.intro @AH.argTm.eq_1 (And.intro @AH.argTm.eq_2 (And.intro @AH.evs.eq_1 (And.intro @AH.evs.eq_2 (And.intro @AH.St.eff.eq_1 (And.intro @AH.St.put.eq_1 (And.intro @AH.St.put.eq_2 (And.intro @AH.applyWr.eq_1 (And.intro @AH.applyWr.eq_2 (And.intro @AH.mset.eq_1 (And.intro @AH.mset.eq_2 (And.intro @AH.mset.eq_3 (And.intro @AH.mset.eq_4 (And.intro @AH.terase.eq_1 (And.intro @AH.terase.eq_2 (And.intro @AH.pureE.eq_1 (And.intro @AH.intOp.eq_1 (And.intro @AH.intOp.eq_2 (And.intro @AH.intOp.eq_3 (And.intro @AH.intOp.eq_4 (And.intro @AH.intOp.eq_5 (And.intro @AH.intOp.eq_6 (And.intro @AH.intOp.eq_7 (And.intro @AH.intOp.eq_8 (And.intro @AH.intOp.eq_9 (And.intro @AH.intOp.eq_10 (And.intro @AH.intOp.eq_11 (And.intro @AH.intOp.eq_12 (And.intro @AH.intOp.eq_13 (And.intro @AH.intOp.eq_14 (And.intro @AH.intOp.eq_15 (And.intro @AH.intOp.eq_16 (And.intro @AH.intOp.eq_17 (And.intro @AH.fill.eq_1 (And.intro @AH.fill.eq_2 (And.intro @AH.mget.eq_1 (And.intro @AH.mget.eq_2 (And.intro @AH.mget.eq_3 (And.intro @AH.rowAt.eq_1 (And.intro @AH.part.eq_1 (And.intro @AH.part.eq_2 (And.intro @AH.rvs.eq_1 (And.intro @AH.rvs.eq_2 (And.intro @AH.rvs.eq_3 (And.intro @AH.splice.eq_1 (And.intro @AH.splice.eq_2 (And.intro @AH.splice.eq_3 (And.intro @AH.addLog.eq_1 (And.intro @AH.addLog.eq_2 (And.intro @AH.wpOpD.eq_1 (And.intro @AH.mapAt.eq_1 (And.intro @AH.iterAt.eq_1 True.intro))))))))))))))))))))))))))))))))))))))))))))))))))))))))))))))))))))))))))))))))))))))))))))))))))))))
theorem SO : type_of% (And.intro @AH.effS.eq_1 (And.intro @AH.wrS.eq_1 (And.intro @AH.wrS.eq_2 (And.intro @AH.wrS.eq_3 (And.intro @AH.newS.eq_1 (And.intro @AH.newS.eq_2 (And.intro @AH.backNo.eq_1 (And.intro @AH.isIn.eq_1 (And.intro @AH.isIn.eq_2 (And.intro @AH.posOf.eq_1 (And.intro @AH.posOf.eq_2 (And.intro @AH.rtO_eq (And.intro @AH.rtO2_eq (And.intro @AH.rtO2_none (And.intro @AH.etO_eq (And.intro @AH.etO2_eq (And.intro @AH.etO2_none (And.intro @AH.useO_some (And.intro @AH.rtElse_eq (And.intro @AH.elseO_some (And.intro @AH.elseO_none (And.intro @AH.etN_eq (And.intro @Option.bind_some.{0,0} (And.intro @Option.bind_none.{0,0} (And.intro @AH.pairO_some (And.intro @AH.pairO_none (And.intro @AH.cC_dec (And.intro @AH.cC_nil (And.intro @AH.c0_dec (And.intro @AH.c0_dec1 (And.intro @AH.aI_dec (And.intro @AH.aS_dec (And.intro @AH.aB_dec (And.intro @AH.aNil_dec (And.intro @AH.aNil_ptr (And.intro @Option.map_none.{0,0} (And.intro @List.all_cons.{0} (And.intro @List.all_nil.{0} (And.intro @List.getElem?_cons_zero.{0} (And.intro @List.getElem?_cons_succ.{0} (And.intro @List.getElem?_nil.{0} (And.intro @AH.appE_some (And.intro @List.contains_cons.{0} (And.intro @List.contains_nil.{0} (And.intro @Nat.add_zero True.intro))))))))))))))))))))))))))))))))))))))))))))):=And.intro @AH.effS.eq_1 (And.intro @AH.wrS.eq_1 (And.intro @AH.wrS.eq_2 (And.intro @AH.wrS.eq_3 (And.intro @AH.newS.eq_1 (And.intro @AH.newS.eq_2 (And.intro @AH.backNo.eq_1 (And.intro @AH.isIn.eq_1 (And.intro @AH.isIn.eq_2 (And.intro @AH.posOf.eq_1 (And.intro @AH.posOf.eq_2 (And.intro @AH.rtO_eq (And.intro @AH.rtO2_eq (And.intro @AH.rtO2_none (And.intro @AH.etO_eq (And.intro @AH.etO2_eq (And.intro @AH.etO2_none (And.intro @AH.useO_some (And.intro @AH.rtElse_eq (And.intro @AH.elseO_some (And.intro @AH.elseO_none (And.intro @AH.etN_eq (And.intro @Option.bind_some.{0,0} (And.intro @Option.bind_none.{0,0} (And.intro @AH.pairO_some (And.intro @AH.pairO_none (And.intro @AH.cC_dec (And.intro @AH.cC_nil (And.intro @AH.c0_dec (And.intro @AH.c0_dec1 (And.intro @AH.aI_dec (And.intro @AH.aS_dec (And.intro @AH.aB_dec (And.intro @AH.aNil_dec (And.intro @AH.aNil_ptr (And.intro @Option.map_none.{0,0} (And.intro @List.all_cons.{0} (And.intro @List.all_nil.{0} (And.intro @List.getElem?_cons_zero.{0} (And.intro @List.getElem?_cons_succ.{0} (And.intro @List.getElem?_nil.{0} (And.intro @AH.appE_some (And.intro @List.contains_cons.{0} (And.intro @List.contains_nil.{0} (And.intro @Nat.add_zero True.intro))))))))))))))))))))))))))))))))))))))))))))
end AH
set_option linter.unusedSimpArgs false
namespace AH
open Go
variable {S : Sys}
end AH
set_option linter.unusedSimpArgs false
namespace AH
open Go
variable {S : Sys} {C : Ctx} {Q : Exit → St → Prop}
class FlatE {α : Type} (enc : α → List AV) : Prop where
  flat : ∀ a,AV.lts 0 (enc a) = true
section
variable {α : Type} {enc : α → List AV} [FlatE enc]
theorem flatE_in (p : Nat → Bool) (a : α) : AV.insB p (enc a) = true:=flats_inB (FlatE.flat a)
theorem flatE_ren (ρ : Nat → Nat) (a : α) : AV.rens ρ (enc a) = enc a:=flats_rens (FlatE.flat a)
theorem flat_ins (p : Nat → Bool) : ∀ l : List α,(l.map enc).all (AV.insB p) = true
  | [] =>rfl
  | a :: r =>by simp only [List.map_cons,List.all_cons,flatE_in,flat_ins p r,Bool.and_self]
theorem flat_rens (ρ : Nat → Nat) : ∀ l : List α,(l.map enc).map (AV.rens ρ) = l.map enc
  | [] =>rfl
  | a :: r =>by simp only [List.map_cons,flatE_ren,flat_rens ρ r]
theorem flat_lts (n : Nat) : ∀ l : List α,(l.map enc).all (AV.lts n) = true
  | [] =>rfl
  | a :: r =>by simp only [List.map_cons,List.all_cons,lts_of_flat (FlatE.flat (enc:=enc) a),flat_lts n r,Bool.and_self]
end
section
variable {α : Type} {enc : α → List AV}
theorem getD_enc {l : List α} {i : Nat} (h : i < l.length) : (l.map enc).getD i [] = enc l[i]:=getD_map_lt _ _ _ _ h
theorem take_all {l : List α} : (l.map enc).take l.length = l.map enc:=by rw [List.take_of_length_le]; simp
end
theorem getD_set_ne {α : Type} {l : List α} {k j : Nat} {a d : α} (h : k ≠ j) : (l.set k a).getD j d = l.getD j d:=by rw [List.getD_eq_getElem?_getD,List.getElem?_set_ne h,← List.getD_eq_getElem?_getD]
inductive VStep where
  | tm (t k : Nat)
  | tup (t j k : Nat)
  | cell (id i j k : Nat)
  | cap (t : Nat)
  | tcap (t j : Nat)
  | ccap (id i j : Nat)
def tput (t : Nat) (v : AV) : Tm → Tm
  | [] => []
  | (s,u) :: r =>bif s == t then (s,v) :: r else (s,u) :: tput t v r
def vstep (s : St) : VStep → Option St
  | .tm t k =>match tget s.tm t,k with
    | .nils,k + 1 =>some ⟨tput t (.slc s.mem.length 0 0 none) s.tm,s.mem ++ [some (.row false (k + 1) [])]⟩
    | _,_ =>none
  | .tup t j k =>match tget s.tm t,k with
    | .tup l,k + 1 =>match l.getD j .undef with
      | .nils =>some ⟨tput t (.tup (l.set j (.slc s.mem.length 0 0 none))) s.tm,s.mem ++ [some (.row false (k + 1) [])]⟩
      | _ =>none
    | _,_ =>none
  | .cell id i j k =>match mget s.mem id,k with
    | some (.row ro k' es),k + 1 =>match (es.getD i []).getD j .undef with
      | .nils =>some ⟨s.tm,mset (s.mem ++ [some (.row false (k + 1) [])]) id (some (.row ro k' (es.set i ((es.getD i []).set j (.slc s.mem.length 0 0 none)))))⟩
      | _ =>none
    | _,_ =>none
  | .cap t =>match tget s.tm t with
    | .slc id ix len (some _) =>match mget s.mem id with
      | some _ =>some ⟨tput t (.slc id ix len none) s.tm,s.mem⟩
      | none =>none
    | _ =>none
  | .tcap t j =>match tget s.tm t with
    | .tup l =>match l.getD j .undef with
      | .slc id ix len (some _) =>match mget s.mem id with
        | some _ =>some ⟨tput t (.tup (l.set j (.slc id ix len none))) s.tm,s.mem⟩
        | none =>none
      | _ =>none
    | _ =>none
  | .ccap id i j =>match mget s.mem id with
    | some (.row ro k es) =>match (es.getD i []).getD j .undef with
      | .slc id' ix len (some _) =>match mget s.mem id' with
        | some _ =>some ⟨s.tm,mset s.mem id (some (.row ro k (es.set i ((es.getD i []).set j (.slc id' ix len none)))))⟩
        | none =>none
      | _ =>none
    | _ =>none
def wpV (X : St → Prop) : List VStep → Option St → Prop
  | [],some s =>X s
  | v :: r,some s =>wpV X r (vstep s v)
  | _,none =>False
theorem tput_spec {n t : Nat} {v : AV} : ∀ {l : Tm},voV n (tget l t) v → (∃ u,tget l t = u ∧ u ≠ .undef) → ∀ x,voV n (tget l x) (tget (tput t v l) x)
  | [],h,⟨u,h1,h2⟩,x =>by simp [tget] at h1; exact absurd h1.symm h2
  | (s,u) :: r,h,hu,x =>by
    simp only [tget] at h hu
    simp only [tput]
    by_cases hs : s = t
    · subst hs
      simp only [beq_self_eq_true,cond_true] at h ⊢
      simp only [tget]
      by_cases hx : s = x
      · subst hx; simp only [beq_self_eq_true,cond_true]; exact h
      · have : (s == x) = false:=by simp [hx]
        simp only [this,cond_false]; exact voV_refl
    · have e : (s == t) = false:=by simp [hs]
      simp only [e,cond_false] at h hu ⊢
      simp only [tget]
      by_cases hx : s = x
      · subst hx; simp only [beq_self_eq_true,cond_true]; exact voV_refl
      · have : (s == x) = false:=by simp [hx]
        simp only [this,cond_false]; exact tput_spec h hu x
theorem voL_refl {n : Nat} : ∀ l,voL n l l
  | [] =>trivial
  | _ :: r =>⟨.inl rfl,voL_refl r⟩
theorem voL_set {n : Nat} {v' : AV} : ∀ {l : List AV} {j : Nat},voE n (l.getD j .undef) v' → voL n l (l.set j v')
  | [],_,_ =>trivial
  | _ :: r,0,h =>⟨h,voL_refl r⟩
  | _ :: r,_ + 1,h =>⟨.inl rfl,voL_set (l:=r) h⟩
theorem getD_some {α : Type} {l : List α} {i : Nat} {d x : α} (h : l.getD i d = x) (hx : x ≠ d) : l[i]? = some x:=by
  rw [List.getD_eq_getElem?_getD] at h
  cases hq : l[i]? with
  | none =>rw [hq] at h; exact absurd h.symm hx
  | some y =>rw [hq] at h; simpa using h
theorem cell_there {es : List (List AV)} {i j : Nat} {v : AV} (h : (es.getD i []).getD j .undef = v) (hv : v ≠ .undef) : es[i]? = some (es.getD i []) ∧ (es.getD i [])[j]? = some v:=by
  have h2:=getD_some h hv
  refine ⟨?_,h2⟩
  have hne : es.getD i [] ≠ []:=fun q =>by rw [q] at h2; simp at h2
  exact getD_some rfl hne
theorem vstep_ok {s s' : St} {v : VStep} (h : vstep s v = some s') : Voids s s':=by
  unfold vstep at h
  split at h
  · split at h
    · rename_i k e
      simp only [Option.some.injEq] at h
      subst h
      exact .void (k + 1) _ _ (by omega) (.turn1 (n:=s.mem.length) ⟨by simp [mget_app,mget],tput_spec (by rw [e]; exact .inl (.inr (.inl ⟨rfl,rfl⟩))) ⟨_,e,by simp⟩,rfl,fun _ _ =>voB_refl⟩)
    · cases h
  · split at h
    · rename_i l k e
      split at h
      · rename_i e2
        simp only [Option.some.injEq] at h
        subst h
        exact .void (k + 1) _ _ (by omega) (.turn1 (n:=s.mem.length) ⟨by simp [mget_app,mget],tput_spec (by rw [e]; exact .inr ⟨_,_,rfl,rfl,voL_set (by rw [e2]; exact .inr (.inl ⟨rfl,rfl⟩))⟩) ⟨_,e,by simp⟩,rfl,fun _ _ =>voB_refl⟩)
      · cases h
    · cases h
  · split at h
    · rename_i ro k' es k e
      split at h
      · rename_i e2
        simp only [Option.some.injEq] at h
        subst h
        obtain ⟨h1,h2⟩:=cell_there e2 (by simp)
        exact voids_cell _ _ (k + 1) (by omega) e h1 h2
      · cases h
    · cases h
  · split at h
    · rename_i id ix len c e
      split at h
      · rename_i b e2
        simp only [Option.some.injEq] at h
        subst h
        exact .turn1 (n:=id) ⟨by rw [e2]; rfl,tput_spec (by rw [e]; exact .inl (.inr (.inr ⟨_,_,_,_,rfl,rfl⟩))) ⟨_,e,by simp⟩,rfl,fun _ _ =>voB_refl⟩
      · cases h
    · cases h
  · split at h
    · rename_i l e
      split at h
      · rename_i id ix len c e3
        split at h
        · rename_i b e2
          simp only [Option.some.injEq] at h
          subst h
          exact .turn1 (n:=id) ⟨by rw [e2]; rfl,tput_spec (by rw [e]; exact .inr ⟨_,_,rfl,rfl,voL_set (by rw [e3]; exact .inr (.inr ⟨_,_,_,_,rfl,rfl⟩))⟩) ⟨_,e,by simp⟩,rfl,fun _ _ =>voB_refl⟩
        · cases h
      · cases h
    · cases h
  · split at h
    · rename_i ro k es e
      split at h
      · rename_i id' ix len c e3
        split at h
        · rename_i b e2
          simp only [Option.some.injEq] at h
          subst h
          obtain ⟨h1,h2⟩:=cell_there e3 (by simp)
          exact .turn1 (n:=id') (turn_cell _ _ (by rw [e2]; rfl) e h1 h2 (.inr (.inr ⟨_,_,_,_,rfl,rfl⟩)))
        · cases h
      · cases h
    · cases h
theorem wpV_ok {X : St → Prop} : ∀ {vs : List VStep} {s : St},wpV X vs (some s) → ∃ s',Voids s s' ∧ X s'
  | [],s,h =>⟨s,.refl s,h⟩
  | v :: r,s,h =>by
    simp only [wpV] at h
    cases hq : vstep s v with
    | none =>rw [hq] at h; cases r <;> exact h.elim
    | some s1 =>
      rw [hq] at h
      obtain ⟨s',h1,h2⟩:=wpV_ok h
      exact ⟨s',(vstep_ok hq).trans h1,h2⟩
def packTm (l : List Nat) (tm : Tm) : List Nat → Tm
  | [] => []
  | t :: r =>(t,(tget tm t).ren (posN l)) :: packTm l tm r
def liveB (l : List Nat) (tm : Tm) : List Nat → Bool
  | [] =>true
  | t :: r =>(tget tm t).inB (inN l) && liveB l tm r
theorem packTm_spec {l : List Nat} {tm : Tm} : ∀ {live : List Nat},liveB l tm live = true → ∀ t,tget (packTm l tm live) t = .undef ∨ ((tget tm t).inB (inN l) = true ∧ tget (packTm l tm live) t = (tget tm t).ren (posN l))
  | [],_,_ => .inl rfl
  | x :: r,h,t =>by
    simp only [liveB,Bool.and_eq_true] at h
    simp only [packTm,tget]
    by_cases hx : x = t
    · subst hx; simp only [beq_self_eq_true,cond_true]; exact .inr ⟨h.1,trivial⟩
    · have : (x == t) = false:=by simp [hx]
      simp only [this,cond_false]
      exact packTm_spec h.2 t
theorem gc_auto {base : Nat} {X : St → Prop} {s : St} (l live : List Nat) (vs : List VStep)
    (h : (heads base 0 l = true ∧ distN l = true) ∧ packB l s.mem l = true ∧ liveB l s.tm live = true ∧ wpV X vs (some ⟨packTm l s.tm live,packM l s.mem l⟩)) : gcX base X s:=by
  obtain ⟨⟨h1,h2⟩,h3,h4,h5⟩:=h
  obtain ⟨s',h6,h7⟩:=wpV_ok h5
  exact ⟨s',⟨_,.inr ⟨l,h1,h2,h3,rfl,packTm_spec h4⟩,h6⟩,h7⟩
theorem CallA1.fin {g : FuncId} {args : List AV} {m : Mem} {K : AV → Mem → Prop}
    (h : CallA1 S g args m fun v m' => ∃ (l : List Nat) (vs : List VStep),(heads m.length 0 l = true ∧ distN l = true) ∧ packB l m' l = true ∧ v.inB (inN l) = true ∧ wpV (fun s =>K (tget s.tm 0) s.mem) vs (some ⟨[(0,v.ren (posN l))],packM l m' l⟩)) : CallA1 S g args m K:=by
  refine CallA1.voids (CallA1.pack (h.mono ?_))
  rintro v m' ⟨l,vs,⟨h1,h2⟩,h3,h4,h5⟩
  obtain ⟨⟨tm',m''⟩,h6,h7⟩:=wpV_ok h5
  exact ⟨l,h1,h2,h3,h4,tm',m'',h6,h7⟩
theorem loop_do {α : Type} {st : St} (l live : List Nat) (vs : List VStep) (μ : α → Nat) (f : α → St) (P : α → Prop) {b : ACode} (x0 : α) (hp : P x0)
    (h0 : (heads C.base 0 l = true ∧ distN l = true) ∧ packB l st.mem l = true ∧ liveB l st.tm live = true ∧ wpV (fun s =>s = f x0) vs (some ⟨packTm l st.tm live,packM l st.mem l⟩))
    (hstep : ∀ (X : St → Prop) x,P x → (∀ y,P y → μ y < μ x → X (f y)) → wpA C b (thenQ (gcX C.base X) Q) (f x)) : wpA C (.loop b) Q st :=
  loop_rule μ f P x0 hp (gc_auto l live vs h0) hstep
theorem wpV_nil {X : St → Prop} {s : St} : wpV X [] (some s) = X s:=rfl
theorem wpV_cons {X : St → Prop} {v : VStep} {r : List VStep} {s : St} : wpV X (v :: r) (some s) = wpV X r (vstep s v):=rfl
theorem lt_of_dec {i n : Nat} (h : decide ((i : Int) < (n : Int)) = true) : i < n:=by simpa using h
theorem ge_of_dec {i n : Nat} (h : decide ((i : Int) < (n : Int)) = false) : n ≤ i:=by simpa using h
theorem wrapS {i : Nat} (h : i < 4611686018427387904) : IntKind.i64.wrap ((i : Int) + 1) = ((i + 1 : Nat) : Int):=by rw [IntKind.wrap_i64]; omega
theorem CallA1.of {g : FuncId} {args : List AV} {m : Mem} {K K' : AV → Mem → Prop} (h : CallA1 S g args m K) (hk : ∀ v m',K v m' → K' v m') : CallA1 S g args m K':=h.mono hk
theorem PD : type_of% (And.intro @flat_ins (And.intro @flat_rens (And.intro @flatE_in (And.intro @flatE_ren (And.intro @wpV_nil (And.intro @wpV_cons (And.intro Bool.and_self (And.intro @Bool.and_true (And.intro @Bool.true_and (And.intro @and_true (And.intro @List.all_cons.{0} (And.intro @List.all_nil.{0} (And.intro @List.all_append.{0} (And.intro @List.map_append.{0,0} (And.intro @Bool.or_true (And.intro @Bool.true_or (And.intro @Bool.or_false (And.intro @Bool.false_or (And.intro Bool.not_true (And.intro Bool.not_false (And.intro @true_and (And.intro @List.length_append.{0} (And.intro @List.length_map.{0,0} (@take_all)))))))))))))))))))))))):=And.intro @flat_ins (And.intro @flat_rens (And.intro @flatE_in (And.intro @flatE_ren (And.intro @wpV_nil (And.intro @wpV_cons (And.intro Bool.and_self (And.intro @Bool.and_true (And.intro @Bool.true_and (And.intro @and_true (And.intro @List.all_cons.{0} (And.intro @List.all_nil.{0} (And.intro @List.all_append.{0} (And.intro @List.map_append.{0,0} (And.intro @Bool.or_true (And.intro @Bool.true_or (And.intro @Bool.or_false (And.intro @Bool.false_or (And.intro Bool.not_true (And.intro Bool.not_false (And.intro @true_and (And.intro @List.length_append.{0} (And.intro @List.length_map.{0,0} (@take_all)))))))))))))))))))))))
theorem SP : type_of% (And.intro @AH.heads.eq_1 (And.intro @AH.heads.eq_2 (And.intro @AH.heads.eq_3 (And.intro @AH.distN.eq_1 (And.intro @AH.distN.eq_2 (And.intro @AH.inN.eq_1 (And.intro @AH.inN.eq_2 (And.intro @AH.posN.eq_1 (And.intro @AH.posN.eq_2 (And.intro @AH.packM.eq_1 (And.intro @AH.packM.eq_2 (And.intro @AH.packB.eq_1 (And.intro @AH.packB.eq_2 (And.intro @AH.packTm.eq_1 (And.intro @AH.packTm.eq_2 (And.intro @AH.liveB.eq_1 (And.intro @AH.liveB.eq_2 (And.intro @AH.AV.insB.eq_1 (And.intro @AH.AV.insB.eq_2 (And.intro @AH.AV.ren.eq_1 (And.intro @AH.AV.ren.eq_2 (And.intro @AH.AV.ren.eq_3 (And.intro @AH.AV.ren.eq_4 (And.intro @AH.AV.ren.eq_5 (And.intro @AH.AV.ren.eq_6 (And.intro @AH.AV.ren.eq_7 (And.intro @AH.AV.ren.eq_8 (And.intro @AH.AV.ren.eq_9 (And.intro @AH.AV.ren.eq_10 (And.intro @AH.AV.ren.eq_11 (And.intro @AH.AV.ren.eq_12 (And.intro @AH.AV.ren.eq_13 (And.intro @AH.AV.ren.eq_14 (And.intro @AH.AV.ren.eq_15 (And.intro @AH.AV.ren.eq_16 (And.intro @AH.AV.ren.eq_17 (And.intro @AH.AV.ren.eq_18 (And.intro @AH.AV.rens.eq_1 (And.intro @AH.AV.rens.eq_2 (And.intro @AH.Blk.ren.eq_1 (And.intro @AH.Blk.ren.eq_2 (And.intro @AH.Blk.ren.eq_3 (And.intro @AH.Blk.inB.eq_1 (And.intro @AH.Blk.inB.eq_2 (And.intro @AH.Blk.inB.eq_3 (And.intro @AH.tput.eq_1 (And.intro @AH.tput.eq_2 True.intro))))))))))))))))))))))))))))))))))))))))))))))):=And.intro @AH.heads.eq_1 (And.intro @AH.heads.eq_2 (And.intro @AH.heads.eq_3 (And.intro @AH.distN.eq_1 (And.intro @AH.distN.eq_2 (And.intro @AH.inN.eq_1 (And.intro @AH.inN.eq_2 (And.intro @AH.posN.eq_1 (And.intro @AH.posN.eq_2 (And.intro @AH.packM.eq_1 (And.intro @AH.packM.eq_2 (And.intro @AH.packB.eq_1 (And.intro @AH.packB.eq_2 (And.intro @AH.packTm.eq_1 (And.intro @AH.packTm.eq_2 (And.intro @AH.liveB.eq_1 (And.intro @AH.liveB.eq_2 (And.intro @AH.AV.insB.eq_1 (And.intro @AH.AV.insB.eq_2 (And.intro @AH.AV.ren.eq_1 (And.intro @AH.AV.ren.eq_2 (And.intro @AH.AV.ren.eq_3 (And.intro @AH.AV.ren.eq_4 (And.intro @AH.AV.ren.eq_5 (And.intro @AH.AV.ren.eq_6 (And.intro @AH.AV.ren.eq_7 (And.intro @AH.AV.ren.eq_8 (And.intro @AH.AV.ren.eq_9 (And.intro @AH.AV.ren.eq_10 (And.intro @AH.AV.ren.eq_11 (And.intro @AH.AV.ren.eq_12 (And.intro @AH.AV.ren.eq_13 (And.intro @AH.AV.ren.eq_14 (And.intro @AH.AV.ren.eq_15 (And.intro @AH.AV.ren.eq_16 (And.intro @AH.AV.ren.eq_17 (And.intro @AH.AV.ren.eq_18 (And.intro @AH.AV.rens.eq_1 (And.intro @AH.AV.rens.eq_2 (And.intro @AH.Blk.ren.eq_1 (And.intro @AH.Blk.ren.eq_2 (And.intro @AH.Blk.ren.eq_3 (And.intro @AH.Blk.inB.eq_1 (And.intro @AH.Blk.inB.eq_2 (And.intro @AH.Blk.inB.eq_3 (And.intro @AH.tput.eq_1 (And.intro @AH.tput.eq_2 True.intro))))))))))))))))))))))))))))))))))))))))))))))
end AH
set_option linter.unusedSimpArgs false
namespace AH
open Go
variable {S : Sys}
end AH
namespace AH
open Go Go.RowKit Go.ChangeMaps
variable {S : Sys} {eb : Nat → Addr} {own : Nat → Prop} {w0 w w' : World} {φ φ' : Emb} {M : Nat → Option Blk}
theorem MR.addB {T : TypeId} (h : MR T eb φ M own w) (hw : Below w.heap.size w w') (hk : ∀ b,w.heap.size ≤ b → own b) {n : Nat} (hn : ¬ φ.dom n) {g base k size : Nat} (hg : w.heap.size ≤ g) {o : Go.Obj} (ho : w'.heap[g]? = some o) {b : Blk}
    (hb : BR T eb (φ.add n g base k size) n b o) : MR T eb (φ.add n g base k size) (upd M n (some b)) own w':=by
  have ext:=Emb.add_ext (φ:=φ) (b:=g) (base:=base) (k:=k) (size:=size) hn
  have sol : ∀ id x,M id = some x → x.solid (φ.add n g base k size) id → x.solid φ id:=fun id x hx hs =>(Blk.solid_ext ext (h.dom id x hx)).1 hs
  have lt : ∀ id x,M id = some x → x.solid φ id → φ.blk id < w.heap.size:=fun id x hx hs =>by
    obtain ⟨o,ho,_⟩:=h.blk id x hx hs
    exact (Array.getElem?_eq_some_iff.1 ho).1
  refine ⟨?_,?_,?_,?_,?_⟩
  · intro id x hx
    by_cases e : id = n
    · exact .inr e
    · simp [upd,e] at hx; exact .inl (h.dom id x hx)
  · intro id ro k' es hx
    by_cases e : id = n
    · subst e
      simp [upd] at hx
      subst hx
      obtain ⟨_,_,_,_,hk',_⟩:=hb
      exact hk'
    · simp [upd,e] at hx
      simp only [Emb.add,if_neg e]
      exact h.kk id ro k' es hx
  · intro id x hx hs
    by_cases e : id = n
    · subst e
      simp [upd] at hx
      subst hx
      refine ⟨o,?_,hb⟩
      simp only [Emb.add,if_true]
      exact ho
    · simp [upd,e] at hx
      have hs':=sol id x hx hs
      obtain ⟨y,hy,hr⟩:=h.blk id x hx hs'
      refine ⟨y,?_,hr.mono ext (h.dom id x hx)⟩
      have:=lt id x hx hs'
      simp only [Emb.add,if_neg e]
      rw [hw.block _ this]
      exact hy
  · intro id x hx hr hs
    by_cases e : id = n
    · subst e; simp [Emb.add]; exact hk _ hg
    · simp [upd,e] at hx; have hs':=sol id x hx hs; simp only [Emb.add,if_neg e]; exact h.own id x hx hr hs'
  · intro id id' x x' hx hx' hne hr hs hs2
    by_cases e : id = n
    · subst e
      have e' : id' ≠ id:=fun h =>hne h.symm
      simp [upd,e'] at hx'
      have:=lt id' x' hx' (sol id' x' hx' hs2)
      simp only [Emb.add,if_neg e',if_true]
      omega
    · simp [upd,e] at hx
      have hs':=sol id x hx hs
      by_cases e' : id' = n
      · subst e'
        have:=lt id x hx hs'
        simp only [Emb.add,if_neg e,if_true]
        omega
      · simp [upd,e'] at hx'
        have hs2':=sol id' x' hx' hs2
        simp only [Emb.add,if_neg e,if_neg e']
        exact h.inj id id' x x' hx hx' hne hr hs' hs2'
theorem MR.below {T : TypeId} (hM : MR T eb φ M own w) (h : Below w.heap.size w w') : MR T eb φ M own w' :=
  ⟨hM.dom,hM.kk,fun id b hi hs =>by
    obtain ⟨o,ho,hb⟩:=hM.blk id b hi hs
    exact ⟨o,by rw [h.block _ (Array.getElem?_eq_some_iff.1 ho).1]; exact ho,hb⟩,hM.own,hM.inj⟩
theorem Keeps.below (hk : Keeps own w0 w) (h : Below w.heap.size w w') : Keeps own w0 w' :=
  ⟨h.os.trans hk.os,h.output.trans hk.output,Nat.le_trans hk.size h.size,fun b hb ho =>(h.block b (Nat.lt_of_lt_of_le hb hk.size)).trans (hk.kept b hb ho),hk.new⟩
def keyI : AV → Option Int
  | .int .i64 k =>some k
  | _ =>none
end AH
set_option linter.unusedSimpArgs false
namespace AH
open Go
variable {S : Sys} {eb : Nat → Addr} {own : Nat → Prop} {w0 w : World} {φ φ' : Emb} {C : Ctx}
structure En (β : Type) where
  k : Int
  v : β
  s : Nat
section
variable {β : Type}
def enA (f : β → AV) (e : En β) : AV × AV × Nat:=(.int .i64 e.k,f e.v,e.s)
def enF (k : Int) : List (En β) → Nat → Option (Nat × En β)
  | [],_ =>none
  | e :: r,i =>bif k == e.k then some (i,e) else enF k r (i + 1)
def enV (f : β → AV) (x : Nat × En β) : Nat × AV × Nat:=(x.1,f x.2.v,x.2.s)
theorem findK_en (f : β → AV) (k : Int) : ∀ (L : List (En β)) (i : Nat),findK (.sc .int) (.int .i64 k) (L.map (enA f)) i = some ((enF k L i).map (enV f))
  | [],_ =>rfl
  | e :: r,i =>by
    simp only [List.map_cons,enA,findK,keyEq,eqScalar,and_self,if_true,enF]
    cases h : k == e.k
    · simp only [cond_false]; exact findK_en f k r (i + 1)
    · rfl
theorem enF_some {k : Int} : ∀ {L : List (En β)} {i j : Nat} {e : En β},enF k L i = some (j,e) → i ≤ j ∧ L[j - i]? = some e ∧ e.k = k ∧ ∀ e' ∈ L.take (j - i),e'.k ≠ k
  | [],i,j,e,h =>by cases h
  | x :: r,i,j,e,h =>by
    unfold enF at h
    cases hq : k == x.k with
    | true =>
      rw [hq] at h
      simp only [cond_true,Option.some.injEq,Prod.mk.injEq] at h
      obtain ⟨rfl,rfl⟩:=h
      refine ⟨Nat.le_refl _,by simp,(beq_iff_eq.1 hq).symm,by simp⟩
    | false =>
      rw [hq] at h
      simp only [cond_false] at h
      obtain ⟨h1,h2,h3,h4⟩:=enF_some h
      have e1 : j - i = (j - (i + 1)) + 1:=by omega
      refine ⟨by omega,by rw [e1,List.getElem?_cons_succ]; exact h2,h3,fun e' he' => ?_⟩
      rw [e1,List.take_succ_cons] at he'
      rcases List.mem_cons.1 he' with rfl | he'
      · intro q; rw [q] at hq; simp at hq
      · exact h4 e' he'
theorem enF_none {k : Int} : ∀ {L : List (En β)} {i : Nat},enF k L i = none ↔ k ∉ L.map (·.k)
  | [],i =>by simp [enF]
  | x :: r,i =>by
    unfold enF
    cases hq : k == x.k with
    | true =>simp at hq; simp [hq]
    | false =>simp at hq; simp [hq,enF_none]
theorem enF_at {k : Int} {L : List (En β)} (hn : (L.map (·.k)).Nodup) {i : Nat} {e : En β} (he : L[i]? = some e) (hk : e.k = k) : enF k L 0 = some (i,e):=by
  cases h : enF k L 0 with
  | none =>exact absurd (hk ▸ List.mem_map_of_mem (List.mem_of_getElem? he)) (enF_none.1 h)
  | some x =>
    obtain ⟨j,e'⟩:=x
    obtain ⟨_,h2,h3,_⟩:=enF_some h
    rw [Nat.sub_zero] at h2
    have : i = j:=by
      have a1 : (L.map (·.k))[i]? = some k:=by rw [List.getElem?_map,he,Option.map_some,hk]
      have a2 : (L.map (·.k))[j]? = some k:=by rw [List.getElem?_map,h2,Option.map_some,h3]
      exact (List.getElem?_inj (List.getElem?_eq_some_iff.1 a1).1 hn).1 (a1.trans a2.symm)
    subst this
    rw [he] at h2
    simp only [Option.some.injEq] at h2
    rw [h2]
def decEn (x : Arg β) : List (AV × AV × Nat) → Option (List (En β))
  | [] =>some []
  | (a,b,s) :: r =>match keyI a,x.dec b,decEn x r with
    | some k,some v,some l =>some (⟨k,v,s⟩ :: l)
    | _,_,_ =>none
theorem decEn_map (x : Arg β) : ∀ L : List (En β),decEn x (L.map (enA x.enc)) = some L
  | [] =>rfl
  | e :: r =>by simp only [List.map_cons,enA,decEn,keyI,x.de,decEn_map x r]
theorem decEn_ok {x : Arg β} : ∀ {es : List (AV × AV × Nat)} {L : List (En β)},decEn x es = some L → es = L.map (enA x.enc)
  | [],L,h =>by simp [decEn] at h; subst h; rfl
  | (a,b,s) :: r,L,h =>by
    unfold decEn at h
    split at h
    · rename_i k v l h1 h2 h3
      simp only [Option.some.injEq] at h
      subst h
      rw [decEn_ok h3,x.ok _ _ h2]
      unfold keyI at h1
      split at h1
      · simp only [Option.some.injEq] at h1
        subst h1
        rfl
      · cases h1
    · cases h
end
end AH
set_option linter.unusedSimpArgs false
namespace AH
open Go
variable {β : Type}
def stamps (S : List (En β)) : List Nat:=S.map (·.s)
theorem left_mem {f : β → AV} {L S : List (En β)} {e : AV × AV × Nat} (h : e ∈ leftE (L.map (enA f)) (stamps S)) : ∃ x ∈ L,e = enA f x ∧ x.s ∉ stamps S:=by
  unfold leftE at h
  rw [List.mem_filter] at h
  obtain ⟨h1,h2⟩:=h
  obtain ⟨x,hx,rfl⟩:=List.mem_map.1 h1
  refine ⟨x,hx,rfl,fun q => ?_⟩
  have : (stamps S).contains (enA f x).2.2 = true:=List.contains_iff_mem.2 q
  rw [this] at h2; cases h2
theorem left_nil {f : β → AV} {L S : List (En β)} (h : leftE (L.map (enA f)) (stamps S) = []) : ∀ x ∈ L,x.s ∈ stamps S:=by
  intro x hx
  cases hc : (stamps S).contains x.s with
  | true =>exact List.contains_iff_mem.1 hc
  | false =>
    have : enA f x ∈ leftE (L.map (enA f)) (stamps S):=by
      unfold leftE
      rw [List.mem_filter]
      refine ⟨List.mem_map_of_mem hx,?_⟩
      have : (stamps S).contains (enA f x).2.2 = false:=hc
      rw [this]; rfl
    rw [h] at this; cases this
structure Part (L S : List (En β)) : Prop where
  sub : ∀ x ∈ S,x ∈ L
  nd : (stamps S).Nodup
theorem part_nil (L : List (En β)) : Part L []:=⟨fun x h =>by (cases h),List.nodup_nil⟩
theorem Part.snoc {L S : List (En β)} (h : Part L S) {x : En β} (hx : x ∈ L) (hn : x.s ∉ stamps S) : Part L (S ++ [x]):=by
  refine ⟨fun y hy => ?_,?_⟩
  · rcases List.mem_append.1 hy with q | q
    · exact h.sub y q
    · simp only [List.mem_singleton] at q; subst q; exact hx
  · unfold stamps
    rw [List.map_append]
    refine List.nodup_append.2 ⟨h.nd,by simp,fun a ha b hb q => ?_⟩
    simp only [List.map_cons,List.map_nil,List.mem_singleton] at hb
    rw [q,hb] at ha; exact hn ha
theorem nodup_of_map {γ : Type} (f : β → γ) : ∀ {l : List β},(l.map f).Nodup → l.Nodup
  | [],_ =>List.nodup_nil
  | a :: r,h =>by
    rw [List.map_cons,List.nodup_cons] at h
    exact List.nodup_cons.2 ⟨fun q =>h.1 (List.mem_map_of_mem q),nodup_of_map f h.2⟩
theorem stamp_inj {L : List (En β)} (hn : (stamps L).Nodup) {x y : En β} (hx : x ∈ L) (hy : y ∈ L) (h : x.s = y.s) : x = y:=by
  obtain ⟨i,hi⟩:=List.getElem?_of_mem hx
  obtain ⟨j,hj⟩:=List.getElem?_of_mem hy
  have a1 : (stamps L)[i]? = some x.s:=by rw [stamps,List.getElem?_map,hi]; rfl
  have a2 : (stamps L)[j]? = some x.s:=by rw [stamps,List.getElem?_map,hj,h]; rfl
  have : i = j:=(List.getElem?_inj (List.getElem?_eq_some_iff.1 a1).1 hn).1 (a1.trans a2.symm)
  subst this
  rw [hi] at hj
  exact Option.some.inj hj
theorem Part.all {L S : List (En β)} (h : Part L S) (hn : (stamps L).Nodup) (ha : ∀ x ∈ L,x.s ∈ stamps S) : S.Perm L:=by
  refine (List.perm_ext_iff_of_nodup (nodup_of_map _ h.nd) (nodup_of_map _ hn)).2 fun x =>⟨h.sub x,fun hx => ?_⟩
  obtain ⟨y,hy,hs⟩:=List.mem_map.1 (ha x hx)
  have : y = x:=stamp_inj hn (h.sub y hy) hx hs
  rw [← this]; exact hy
theorem Part.len {L S : List (En β)} (h : Part L S) : S.length ≤ L.length:=by
  have hnd : S.Nodup:=nodup_of_map _ h.nd
  exact hnd.length_le_of_subset h.sub
theorem Part.lt {L S : List (En β)} (h : Part L S) {x : En β} (hx : x ∈ L) (hn : x.s ∉ stamps S) : S.length < L.length:=by
  have:=(h.snoc hx hn).len
  rw [List.length_append,List.length_singleton] at this
  omega
end AH
set_option linter.unusedSimpArgs false
namespace AH
open Go
variable {β : Type}
structure Mp (β : Type) where
  L : List (En β)
  c : Nat
def mpM (x : Arg β) (t : Mp β) : Mem:=[some (.row false 1 [[.map 1]]),some (.map (t.L.map (enA x.enc)) t.c)]
def mpL (p b c : Nat) : Option (List (En β)) → Option (Mp β × List (Nat × Bool))
  | some L =>if p ≠ b then some (⟨L,c⟩,[(p,false),(b,false)]) else none
  | none =>none
def mpB (x : Arg β) (p b : Nat) : Option Blk → Option (Mp β × List (Nat × Bool))
  | some (.map es c) =>mpL p b c (decEn x es)
  | _ =>none
def mpR (x : Arg β) (M : Nat → Option Blk) (p : Nat) : Option Blk → Option (Mp β × List (Nat × Bool))
  | some (.row false 1 [[.map b]]) =>mpB x p b (M b)
  | _ =>none
def mpD (x : Arg β) (M : Nat → Option Blk) : AV → Option (Mp β × List (Nat × Bool))
  | .ptr p 0 0 =>mpR x M p (M p)
  | _ =>none
theorem enX_in (x : Arg β) (p : Nat → Bool) (L : List (En β)) : ((L.map (enA x.enc)).all fun e =>AV.inB p e.1 && AV.inB p e.2.1) = true:=by
  simp only [List.all_map,List.all_eq_true]
  intro e _
  simp only [Function.comp,enA,AV.inB,flat_inB (x.flat e.v),Bool.and_self]
theorem enX_ren (x : Arg β) (ρ : Nat → Nat) (L : List (En β)) : (L.map (enA x.enc)).map (fun e =>(AV.ren ρ e.1,AV.ren ρ e.2.1,e.2.2)) = L.map (enA x.enc):=by
  rw [List.map_map]
  refine List.map_congr_left fun e _ => ?_
  simp only [Function.comp,enA,AV.ren,flat_ren (x.flat e.v)]
theorem mpD_inv {x : Arg β} {M : Nat → Option Blk} {v : AV} {t : Mp β} {sel : List (Nat × Bool)} (h : mpD x M v = some (t,sel)) :
    ∃ p b,v = .ptr p 0 0 ∧ sel = [(p,false),(b,false)] ∧ p ≠ b ∧ M p = some (.row false 1 [[.map b]]) ∧ M b = some (.map (t.L.map (enA x.enc)) t.c):=by
  unfold mpD at h
  split at h
  · rename_i p
    unfold mpR at h
    split at h
    · rename_i b hp
      unfold mpB at h
      split at h
      · rename_i es c hb
        unfold mpL at h
        split at h
        · rename_i L hL
          split at h
          · rename_i hne
            simp only [Option.some.injEq,Prod.mk.injEq] at h
            obtain ⟨rfl,rfl⟩:=h
            exact ⟨p,b,rfl,rfl,hne,hp,by rw [hb,decEn_ok hL]⟩
          · cases h
        · cases h
      · cases h
    · cases h
  · cases h
theorem mpD_of {x : Arg β} {M : Nat → Option Blk} {p b : Nat} (t : Mp β) (hne : p ≠ b) (hp : M p = some (.row false 1 [[.map b]])) (hb : M b = some (.map (t.L.map (enA x.enc)) t.c)) :
    mpD x M (.ptr p 0 0) = some (t,[(p,false),(b,false)]):=by
  simp only [mpD,hp,mpR,hb,mpB,decEn_map,mpL,hne,ne_eq,not_false_eq_true,if_true]
def mpO (x : Arg β) : AH.Obj (Mp β) where
  dec:=mpD x
  mem:=mpM x
  self:=fun _ => .ptr 0 0 0
  ok:=by
    intro M v t sel h
    obtain ⟨p,b,rfl,rfl,hne,hp,hb⟩:=mpD_inv h
    have h1 : (p == b) = false:=by simpa using hne
    have h2 : (b == p) = false:=by simpa using Ne.symm hne
    refine ⟨⟨?_,?_⟩,?_,?_,?_⟩
    · simp only [selF,hp,hb,Blk.inB,enX_in,List.all_cons,List.all_nil,AV.insB,AV.inB,AH.isIn,beq_self_eq_true,h1,h2,Bool.true_or,Bool.or_true,Bool.and_true,Bool.and_self]
      rfl
    · simp [AH.distinct,AH.isIn,h2]
    · simp only [subF,hp,hb,Option.map_some,Blk.ren,enX_ren,Blk.asRo,List.map_cons,List.map_nil,AV.rens,AV.ren,AH.posOf,beq_self_eq_true,h1,cond_true,cond_false,mpM,Nat.zero_add]
    · simp [AV.inB,AH.isIn]
    · simp [AV.ren,AH.posOf]
  loc:=by
    intro M v t sel h M' hM'
    obtain ⟨p,b,rfl,rfl,hne,hp,hb⟩:=mpD_inv h
    exact mpD_of t hne ((hM' p (by simp)).trans hp) ((hM' b (by simp)).trans hb)
theorem mpB_eq {x : Arg β} {p b c : Nat} {L : List (En β)} (hne : p ≠ b) : mpB x p b (some (.map (L.map (enA x.enc)) c)) = some (⟨L,c⟩,[(p,false),(b,false)]):=by
  simp only [mpB,decEn_map,mpL,hne,ne_eq,not_false_eq_true,if_true]
theorem Mp.eta (t : Mp β) : (⟨t.L,t.c⟩ : Mp β) = t:=rfl
theorem enA_mk (f : β → AV) (k : Int) (v : β) (s : Nat) : enA f ⟨k,v,s⟩ = (.int .i64 k,f v,s):=rfl
theorem set_en (f : β → AV) (L : List (En β)) (i : Nat) (k : Int) (v : β) (s : Nat) : (L.map (enA f)).set i (.int .i64 k,f v,s) = (L.set i ⟨k,v,s⟩).map (enA f):=by rw [List.map_set]; rfl
theorem erase_en (f : β → AV) (L : List (En β)) (i : Nat) : (L.map (enA f)).eraseIdx i = (L.eraseIdx i).map (enA f):=by
  induction L generalizing i with
  | nil =>rfl
  | cons x r ih =>
    cases i with
    | zero =>rfl
    | succ i =>simp only [List.map_cons,List.eraseIdx_cons_succ,ih]
structure Mp.wf (t : Mp β) : Prop where
  keys : (t.L.map (·.k)).Nodup
  stamps : (t.L.map (·.s)).Nodup
  lt : ∀ e ∈ t.L,e.s < t.c
theorem wf_new : (⟨[],0⟩ : Mp β).wf:=⟨List.nodup_nil,List.nodup_nil,fun e h =>by cases h⟩
theorem Mp.wf.snoc {t : Mp β} (h : t.wf) {k : Int} (hk : enF k t.L 0 = none) (v : β) : (⟨t.L ++ [⟨k,v,t.c⟩],t.c + 1⟩ : Mp β).wf:=by
  refine ⟨?_,?_,fun e he => ?_⟩
  · simp only [List.map_append,List.map_cons,List.map_nil]
    refine List.nodup_append.2 ⟨h.keys,by simp,fun a ha b hb q => ?_⟩
    simp only [List.mem_singleton] at hb
    rw [q,hb] at ha
    exact enF_none.1 hk ha
  · simp only [List.map_append,List.map_cons,List.map_nil]
    refine List.nodup_append.2 ⟨h.stamps,by simp,fun a ha b hb q => ?_⟩
    simp only [List.mem_singleton] at hb
    rw [q,hb] at ha
    obtain ⟨e,he,hs⟩:=List.mem_map.1 ha
    have:=h.lt e he
    omega
  · simp only [List.mem_append,List.mem_singleton] at he
    rcases he with he | rfl
    · exact Nat.lt_succ_of_lt (h.lt e he)
    · exact Nat.lt_succ_self _
theorem Mp.wf.set {t : Mp β} (h : t.wf) {k : Int} {i : Nat} {e : En β} (hk : enF k t.L 0 = some (i,e)) (v : β) : (⟨t.L.set i ⟨k,v,e.s⟩,t.c⟩ : Mp β).wf:=by
  obtain ⟨_,h2,h3,_⟩:=enF_some hk
  rw [Nat.sub_zero] at h2
  have hi:=(List.getElem?_eq_some_iff.1 h2).1
  have m1 : (t.L.set i ⟨k,v,e.s⟩).map (·.k) = t.L.map (·.k):=by
    rw [List.map_set]
    refine List.ext_getElem? fun j => ?_
    by_cases q : i = j
    · subst q; rw [List.getElem?_set_self (by simpa using hi),List.getElem?_map,h2]; simp [h3]
    · rw [List.getElem?_set_ne q]
  have m2 : (t.L.set i ⟨k,v,e.s⟩).map (·.s) = t.L.map (·.s):=by
    rw [List.map_set]
    refine List.ext_getElem? fun j => ?_
    by_cases q : i = j
    · subst q; rw [List.getElem?_set_self (by simpa using hi),List.getElem?_map,h2]; simp
    · rw [List.getElem?_set_ne q]
  refine ⟨by rw [m1]; exact h.keys,by rw [m2]; exact h.stamps,fun x hx => ?_⟩
  rcases List.mem_or_eq_of_mem_set hx with q | q
  · exact h.lt x q
  · subst q; exact h.lt e (List.mem_of_getElem? h2)
theorem enF_set {L : List (En β)} {k : Int} {i : Nat} {e : En β} (h : enF k L 0 = some (i,e)) (v : β) (s : Nat) (k' : Int) : (enF k' (L.set i ⟨k,v,s⟩) 0).map (·.2.v) = if k' = k then some v else (enF k' L 0).map (·.2.v):=by
  have gen : ∀ (L : List (En β)) (a j : Nat) (i : Nat),enF k L a = some (i + a,e) → (enF k' (L.set i ⟨k,v,s⟩) j).map (·.2.v) = if k' = k then some v else (enF k' L j).map (·.2.v):=by
    intro L
    induction L with
    | nil =>intro a j i h; cases h
    | cons x r ih =>
      intro a j i h
      unfold enF at h
      cases hq : k == x.k with
      | true =>
        rw [hq] at h
        simp only [cond_true,Option.some.injEq,Prod.mk.injEq] at h
        obtain ⟨h1,rfl⟩:=h
        obtain rfl : i = 0:=by omega
        have hk : k = x.k:=by simpa using hq
        simp only [List.set_cons_zero,enF]
        by_cases q : k' = k
        · have : (k' == k) = true:=by simpa using q
          simp only [q,beq_self_eq_true,cond_true,if_true,Option.map_some]
        · have h1 : (k' == k) = false:=by simpa using q
          have h2 : (k' == x.k) = false:=by rw [← hk]; exact h1
          simp only [h1,h2,cond_false,q,if_false]
      | false =>
        rw [hq] at h
        simp only [cond_false] at h
        have hi : 0 < i:=by
          obtain ⟨q,_⟩:=enF_some h
          omega
        obtain ⟨i,rfl⟩ : ∃ i',i = i' + 1:=⟨i - 1,by omega⟩
        rw [show i + 1 + a = i + (a + 1) by omega] at h
        have:=ih (a + 1) (j + 1) i h
        simp only [List.set_cons_succ,enF]
        by_cases q : k' = k
        · have h1 : (k' == x.k) = false:=by rw [q]; exact hq
          rw [h1]
          simp only [cond_false,q,if_true] at this ⊢
          exact this
        · cases h1 : k' == x.k
          · simp only [cond_false,q,if_false] at this ⊢
            exact this
          · simp only [cond_true,q,if_false]
  exact gen L 0 0 i (by simpa using h)
theorem enF_app (L : List (En β)) (k : Int) (v : β) (s : Nat) (hk : enF k L 0 = none) (k' : Int) : (enF k' (L ++ [⟨k,v,s⟩]) 0).map (·.2.v) = if k' = k then some v else (enF k' L 0).map (·.2.v):=by
  have gen : ∀ (L : List (En β)) (j : Nat),k ∉ L.map (·.k) → (enF k' (L ++ [⟨k,v,s⟩]) j).map (·.2.v) = if k' = k then some v else (enF k' L j).map (·.2.v):=by
    intro L
    induction L with
    | nil =>
      intro j _
      simp only [List.nil_append,enF]
      by_cases q : k' = k
      · have : (k' == k) = true:=by simpa using q
        simp only [q,beq_self_eq_true,cond_true,if_true,Option.map_some]
      · have : (k' == k) = false:=by simpa using q
        simp only [this,cond_false,q,if_false]
    | cons x r ih =>
      intro j hn
      simp only [List.map_cons,List.mem_cons,not_or] at hn
      have:=ih (j + 1) hn.2
      simp only [List.cons_append,enF]
      cases h1 : k' == x.k
      · simp only [cond_false]; exact this
      · have q : ¬ k' = k:=fun q =>by
          have : k' = x.k:=by simpa using h1
          exact hn.1 (q ▸ this)
        simp only [cond_true,q,if_false]
  exact gen L 0 (enF_none.1 hk)
theorem enF_key {L : List (En β)} (hn : (L.map (·.k)).Nodup) {e : En β} (he : e ∈ L) : ∃ i,enF e.k L 0 = some (i,e):=by
  obtain ⟨i,hi⟩:=List.getElem?_of_mem he
  exact ⟨i,enF_at hn hi rfl⟩
theorem stamps_last {S : List (En β)} {e : En β} : (stamps (S ++ [e])).getLast? = some e.s:=by
  unfold stamps; rw [List.map_append]; simp
theorem find_en {f : β → AV} {t : Mp β} (ht : t.wf) {e : En β} (he : e ∈ t.L) : (t.L.map (enA f)).find? (fun x =>x.2.2 == e.s) = some (enA f e):=by
  cases h : (t.L.map (enA f)).find? (fun x =>x.2.2 == e.s) with
  | none =>
    have:=List.find?_eq_none.1 h (enA f e) (List.mem_map_of_mem he)
    exact absurd (beq_self_eq_true e.s) this
  | some y =>
    have h1:=List.find?_some h
    have h2:=List.mem_of_find?_eq_some h
    obtain ⟨x,hx,rfl⟩:=List.mem_map.1 h2
    have h3 : x.s = e.s:=by simpa [enA] using h1
    have:=stamp_inj ht.stamps hx he h3
    rw [this]
theorem stamps_nil : stamps ([] : List (En β)) = []:=rfl
section
variable {α γ : Type} {k n id : Nat} {c : Cod α} {x : Cod γ} {f : List α → γ → AV} {ro : Bool} {b : γ}
end
end AH
namespace AH
open Go
def ACode.at : ACode → List Bool → ACode
  | c,[] =>c
  | .seq a _,false :: r =>a.at r
  | .seq _ b,true :: r =>b.at r
  | .cond _ a _,false :: r =>a.at r
  | .cond _ _ b,true :: r =>b.at r
  | .block _ b,_ :: r =>b.at r
  | .loop b,_ :: r =>b.at r
  | c,_ =>c
end AH
namespace AH
open Go
end AH
namespace AH
open Go
end AH
set_option linter.unusedSimpArgs false
set_option linter.unusedSectionVars false
namespace AH.MS
open Go
structure En (κ β : Type) where
  k : κ
  v : β
  s : Nat
section
variable {κ β : Type} [DecidableEq κ]
def enA (g : κ → AV) (f : β → AV) (e : En κ β) : AV × AV × Nat:=(g e.k,f e.v,e.s)
def KeyOK (kk : KK) (g : κ → AV) : Prop:=∀ a b,keyEq kk (g a) (g b) = some (a == b)
def enF (k : κ) : List (En κ β) → Nat → Option (Nat × En κ β)
  | [],_ =>none
  | e :: r,i =>bif k == e.k then some (i,e) else enF k r (i + 1)
def enV (f : β → AV) (x : Nat × En κ β) : Nat × AV × Nat:=(x.1,f x.2.v,x.2.s)
theorem findK_en {kk : KK} {g : κ → AV} (hg : KeyOK kk g) (f : β → AV) (k : κ) : ∀ (L : List (En κ β)) (i : Nat),findK kk (g k) (L.map (enA g f)) i = some ((enF k L i).map (enV f))
  | [],_ =>rfl
  | e :: r,i =>by
    simp only [List.map_cons,enA,findK,hg k e.k,enF]
    cases h : k == e.k
    · simp only [cond_false]; exact findK_en hg f k r (i + 1)
    · rfl
theorem enF_some {k : κ} : ∀ {L : List (En κ β)} {i j : Nat} {e : En κ β},enF k L i = some (j,e) → i ≤ j ∧ L[j - i]? = some e ∧ e.k = k ∧ ∀ e' ∈ L.take (j - i),e'.k ≠ k
  | [],i,j,e,h =>by cases h
  | x :: r,i,j,e,h =>by
    unfold enF at h
    cases hq : k == x.k with
    | true =>
      rw [hq] at h
      simp only [cond_true,Option.some.injEq,Prod.mk.injEq] at h
      obtain ⟨rfl,rfl⟩:=h
      refine ⟨Nat.le_refl _,by simp,(beq_iff_eq.1 hq).symm,by simp⟩
    | false =>
      rw [hq] at h
      simp only [cond_false] at h
      obtain ⟨h1,h2,h3,h4⟩:=enF_some h
      have e1 : j - i = (j - (i + 1)) + 1:=by omega
      refine ⟨by omega,by rw [e1,List.getElem?_cons_succ]; exact h2,h3,fun e' he' => ?_⟩
      rw [e1,List.take_succ_cons] at he'
      rcases List.mem_cons.1 he' with rfl | he'
      · intro q; rw [q] at hq; simp at hq
      · exact h4 e' he'
theorem enF_none {k : κ} : ∀ {L : List (En κ β)} {i : Nat},enF k L i = none ↔ k ∉ L.map (·.k)
  | [],i =>by simp [enF]
  | x :: r,i =>by
    unfold enF
    cases hq : k == x.k with
    | true =>simp at hq; simp [hq]
    | false =>simp at hq; simp [hq,enF_none]
theorem enF_at {k : κ} {L : List (En κ β)} (hn : (L.map (·.k)).Nodup) {i : Nat} {e : En κ β} (he : L[i]? = some e) (hk : e.k = k) : enF k L 0 = some (i,e):=by
  cases h : enF k L 0 with
  | none =>exact absurd (hk ▸ List.mem_map_of_mem (List.mem_of_getElem? he)) (enF_none.1 h)
  | some x =>
    obtain ⟨j,e'⟩:=x
    obtain ⟨_,h2,h3,_⟩:=enF_some h
    rw [Nat.sub_zero] at h2
    have : i = j:=by
      have a1 : (L.map (·.k))[i]? = some k:=by rw [List.getElem?_map,he,Option.map_some,hk]
      have a2 : (L.map (·.k))[j]? = some k:=by rw [List.getElem?_map,h2,Option.map_some,h3]
      exact (List.getElem?_inj (List.getElem?_eq_some_iff.1 a1).1 hn).1 (a1.trans a2.symm)
    subst this
    rw [he] at h2
    simp only [Option.some.injEq] at h2
    rw [h2]
def decEn (y : Arg κ) (x : Arg β) : List (AV × AV × Nat) → Option (List (En κ β))
  | [] =>some []
  | (a,b,s) :: r =>match y.dec a,x.dec b,decEn y x r with
    | some k,some v,some l =>some (⟨k,v,s⟩ :: l)
    | _,_,_ =>none
theorem decEn_map (y : Arg κ) (x : Arg β) : ∀ L : List (En κ β),decEn y x (L.map (enA y.enc x.enc)) = some L
  | [] =>rfl
  | e :: r =>by simp only [List.map_cons,enA,decEn,y.de,x.de,decEn_map y x r]
theorem decEn_ok {y : Arg κ} {x : Arg β} : ∀ {es : List (AV × AV × Nat)} {L : List (En κ β)},decEn y x es = some L → es = L.map (enA y.enc x.enc)
  | [],L,h =>by simp [decEn] at h; subst h; rfl
  | (a,b,s) :: r,L,h =>by
    unfold decEn at h
    split at h
    · rename_i k v l h1 h2 h3
      simp only [Option.some.injEq] at h
      subst h
      rw [decEn_ok h3,x.ok _ _ h2,y.ok _ _ h1]
      rfl
    · cases h
def stamps (S : List (En κ β)) : List Nat:=S.map (·.s)
theorem left_mem {g : κ → AV} {f : β → AV} {L S : List (En κ β)} {e : AV × AV × Nat} (h : e ∈ leftE (L.map (enA g f)) (stamps S)) : ∃ x ∈ L,e = enA g f x ∧ x.s ∉ stamps S:=by
  unfold leftE at h
  rw [List.mem_filter] at h
  obtain ⟨h1,h2⟩:=h
  obtain ⟨x,hx,rfl⟩:=List.mem_map.1 h1
  refine ⟨x,hx,rfl,fun q => ?_⟩
  have : (stamps S).contains (enA g f x).2.2 = true:=List.contains_iff_mem.2 q
  rw [this] at h2; cases h2
theorem left_nil {g : κ → AV} {f : β → AV} {L S : List (En κ β)} (h : leftE (L.map (enA g f)) (stamps S) = []) : ∀ x ∈ L,x.s ∈ stamps S:=by
  intro x hx
  cases hc : (stamps S).contains x.s with
  | true =>exact List.contains_iff_mem.1 hc
  | false =>
    have : enA g f x ∈ leftE (L.map (enA g f)) (stamps S):=by
      unfold leftE
      rw [List.mem_filter]
      refine ⟨List.mem_map_of_mem hx,?_⟩
      have : (stamps S).contains (enA g f x).2.2 = false:=hc
      rw [this]; rfl
    rw [h] at this; cases this
structure Part (L S : List (En κ β)) : Prop where
  sub : ∀ x ∈ S,x ∈ L
  nd : (stamps S).Nodup
theorem part_nil (L : List (En κ β)) : Part L []:=⟨fun x h =>by (cases h),List.nodup_nil⟩
theorem Part.snoc {L S : List (En κ β)} (h : Part L S) {x : En κ β} (hx : x ∈ L) (hn : x.s ∉ stamps S) : Part L (S ++ [x]):=by
  refine ⟨fun y hy => ?_,?_⟩
  · rcases List.mem_append.1 hy with q | q
    · exact h.sub y q
    · simp only [List.mem_singleton] at q; subst q; exact hx
  · unfold stamps
    rw [List.map_append]
    refine List.nodup_append.2 ⟨h.nd,by simp,fun a ha b hb q => ?_⟩
    simp only [List.map_cons,List.map_nil,List.mem_singleton] at hb
    rw [q,hb] at ha; exact hn ha
theorem stamp_inj {L : List (En κ β)} (hn : (stamps L).Nodup) {x y : En κ β} (hx : x ∈ L) (hy : y ∈ L) (h : x.s = y.s) : x = y:=by
  obtain ⟨i,hi⟩:=List.getElem?_of_mem hx
  obtain ⟨j,hj⟩:=List.getElem?_of_mem hy
  have a1 : (stamps L)[i]? = some x.s:=by rw [stamps,List.getElem?_map,hi]; rfl
  have a2 : (stamps L)[j]? = some x.s:=by rw [stamps,List.getElem?_map,hj,h]; rfl
  have : i = j:=(List.getElem?_inj (List.getElem?_eq_some_iff.1 a1).1 hn).1 (a1.trans a2.symm)
  subst this
  rw [hi] at hj
  exact Option.some.inj hj
theorem Part.all {L S : List (En κ β)} (h : Part L S) (hn : (stamps L).Nodup) (ha : ∀ x ∈ L,x.s ∈ stamps S) : S.Perm L:=by
  refine (List.perm_ext_iff_of_nodup (nodup_of_map _ h.nd) (nodup_of_map _ hn)).2 fun x =>⟨h.sub x,fun hx => ?_⟩
  obtain ⟨y,hy,hs⟩:=List.mem_map.1 (ha x hx)
  have : y = x:=stamp_inj hn (h.sub y hy) hx hs
  rw [← this]; exact hy
theorem Part.len {L S : List (En κ β)} (h : Part L S) : S.length ≤ L.length:=by
  have hnd : S.Nodup:=nodup_of_map _ h.nd
  exact hnd.length_le_of_subset h.sub
theorem Part.lt {L S : List (En κ β)} (h : Part L S) {x : En κ β} (hx : x ∈ L) (hn : x.s ∉ stamps S) : S.length < L.length:=by
  have:=(h.snoc hx hn).len
  rw [List.length_append,List.length_singleton] at this
  omega
structure Mp (κ β : Type) where
  L : List (En κ β)
  c : Nat
def mpM (y : Arg κ) (x : Arg β) (t : Mp κ β) : Mem:=[some (.row false 1 [[.map 1]]),some (.map (t.L.map (enA y.enc x.enc)) t.c)]
def mpL (p b c : Nat) : Option (List (En κ β)) → Option (Mp κ β × List (Nat × Bool))
  | some L =>if p ≠ b then some (⟨L,c⟩,[(p,false),(b,false)]) else none
  | none =>none
def mpB (y : Arg κ) (x : Arg β) (p b : Nat) : Option Blk → Option (Mp κ β × List (Nat × Bool))
  | some (.map es c) =>mpL p b c (decEn y x es)
  | _ =>none
def mpR (y : Arg κ) (x : Arg β) (M : Nat → Option Blk) (p : Nat) : Option Blk → Option (Mp κ β × List (Nat × Bool))
  | some (.row false 1 [[.map b]]) =>mpB y x p b (M b)
  | _ =>none
def mpD (y : Arg κ) (x : Arg β) (M : Nat → Option Blk) : AV → Option (Mp κ β × List (Nat × Bool))
  | .ptr p 0 0 =>mpR y x M p (M p)
  | _ =>none
theorem enX_in (y : Arg κ) (x : Arg β) (p : Nat → Bool) (L : List (En κ β)) : ((L.map (enA y.enc x.enc)).all fun e =>AV.inB p e.1 && AV.inB p e.2.1) = true:=by
  simp only [List.all_map,List.all_eq_true]
  intro e _
  simp only [Function.comp,enA,AV.inB,flat_inB (x.flat e.v),flat_inB (y.flat e.k),Bool.and_self]
theorem enX_ren (y : Arg κ) (x : Arg β) (ρ : Nat → Nat) (L : List (En κ β)) : (L.map (enA y.enc x.enc)).map (fun e =>(AV.ren ρ e.1,AV.ren ρ e.2.1,e.2.2)) = L.map (enA y.enc x.enc):=by
  rw [List.map_map]
  refine List.map_congr_left fun e _ => ?_
  simp only [Function.comp,enA,AV.ren,flat_ren (x.flat e.v),flat_ren (y.flat e.k)]
theorem mpD_inv {y : Arg κ} {x : Arg β} {M : Nat → Option Blk} {v : AV} {t : Mp κ β} {sel : List (Nat × Bool)} (h : mpD y x M v = some (t,sel)) :
    ∃ p b,v = .ptr p 0 0 ∧ sel = [(p,false),(b,false)] ∧ p ≠ b ∧ M p = some (.row false 1 [[.map b]]) ∧ M b = some (.map (t.L.map (enA y.enc x.enc)) t.c):=by
  unfold mpD at h
  split at h
  · rename_i p
    unfold mpR at h
    split at h
    · rename_i b hp
      unfold mpB at h
      split at h
      · rename_i es c hb
        unfold mpL at h
        split at h
        · rename_i L hL
          split at h
          · rename_i hne
            simp only [Option.some.injEq,Prod.mk.injEq] at h
            obtain ⟨rfl,rfl⟩:=h
            exact ⟨p,b,rfl,rfl,hne,hp,by rw [hb,decEn_ok hL]⟩
          · cases h
        · cases h
      · cases h
    · cases h
  · cases h
theorem mpD_of {y : Arg κ} {x : Arg β} {M : Nat → Option Blk} {p b : Nat} (t : Mp κ β) (hne : p ≠ b) (hp : M p = some (.row false 1 [[.map b]])) (hb : M b = some (.map (t.L.map (enA y.enc x.enc)) t.c)) :
    mpD y x M (.ptr p 0 0) = some (t,[(p,false),(b,false)]):=by
  simp only [mpD,hp,mpR,hb,mpB,decEn_map,mpL,hne,ne_eq,not_false_eq_true,if_true]
def mpO (y : Arg κ) (x : Arg β) : AH.Obj (Mp κ β) where
  dec:=mpD y x
  mem:=mpM y x
  self:=fun _ => .ptr 0 0 0
  ok:=by
    intro M v t sel h
    obtain ⟨p,b,rfl,rfl,hne,hp,hb⟩:=mpD_inv h
    have h1 : (p == b) = false:=by simpa using hne
    have h2 : (b == p) = false:=by simpa using Ne.symm hne
    refine ⟨⟨?_,?_⟩,?_,?_,?_⟩
    · simp only [selF,hp,hb,Blk.inB,enX_in,List.all_cons,List.all_nil,AV.insB,AV.inB,AH.isIn,beq_self_eq_true,h1,h2,Bool.true_or,Bool.or_true,Bool.and_true,Bool.and_self]
      rfl
    · simp [AH.distinct,AH.isIn,h2]
    · simp only [subF,hp,hb,Option.map_some,Blk.ren,enX_ren,Blk.asRo,List.map_cons,List.map_nil,AV.rens,AV.ren,AH.posOf,beq_self_eq_true,h1,cond_true,cond_false,mpM,Nat.zero_add]
    · simp [AV.inB,AH.isIn]
    · simp [AV.ren,AH.posOf]
  loc:=by
    intro M v t sel h M' hM'
    obtain ⟨p,b,rfl,rfl,hne,hp,hb⟩:=mpD_inv h
    exact mpD_of t hne ((hM' p (by simp)).trans hp) ((hM' b (by simp)).trans hb)
theorem mpB_eq {y : Arg κ} {x : Arg β} {p b c : Nat} {L : List (En κ β)} (hne : p ≠ b) : mpB y x p b (some (.map (L.map (enA y.enc x.enc)) c)) = some (⟨L,c⟩,[(p,false),(b,false)]):=by
  simp only [mpB,decEn_map,mpL,hne,ne_eq,not_false_eq_true,if_true]
theorem Mp.eta (t : Mp κ β) : (⟨t.L,t.c⟩ : Mp κ β) = t:=rfl
theorem enA_mk (g : κ → AV) (f : β → AV) (k : κ) (v : β) (s : Nat) : enA g f ⟨k,v,s⟩ = (g k,f v,s):=rfl
theorem set_en (g : κ → AV) (f : β → AV) (L : List (En κ β)) (i : Nat) (k : κ) (v : β) (s : Nat) : (L.map (enA g f)).set i (g k,f v,s) = (L.set i ⟨k,v,s⟩).map (enA g f):=by rw [List.map_set]; rfl
theorem erase_en (g : κ → AV) (f : β → AV) (L : List (En κ β)) (i : Nat) : (L.map (enA g f)).eraseIdx i = (L.eraseIdx i).map (enA g f):=by
  induction L generalizing i with
  | nil =>rfl
  | cons x r ih =>
    cases i with
    | zero =>rfl
    | succ i =>simp only [List.map_cons,List.eraseIdx_cons_succ,ih]
structure Mp.wf (t : Mp κ β) : Prop where
  keys : (t.L.map (·.k)).Nodup
  stamps : (t.L.map (·.s)).Nodup
  lt : ∀ e ∈ t.L,e.s < t.c
theorem wf_new : (⟨[],0⟩ : Mp κ β).wf:=⟨List.nodup_nil,List.nodup_nil,fun e h =>by cases h⟩
theorem Mp.wf.snoc {t : Mp κ β} (h : t.wf) {k : κ} (hk : enF k t.L 0 = none) (v : β) : (⟨t.L ++ [⟨k,v,t.c⟩],t.c + 1⟩ : Mp κ β).wf:=by
  refine ⟨?_,?_,fun e he => ?_⟩
  · simp only [List.map_append,List.map_cons,List.map_nil]
    refine List.nodup_append.2 ⟨h.keys,by simp,fun a ha b hb q => ?_⟩
    simp only [List.mem_singleton] at hb
    rw [q,hb] at ha
    exact enF_none.1 hk ha
  · simp only [List.map_append,List.map_cons,List.map_nil]
    refine List.nodup_append.2 ⟨h.stamps,by simp,fun a ha b hb q => ?_⟩
    simp only [List.mem_singleton] at hb
    rw [q,hb] at ha
    obtain ⟨e,he,hs⟩:=List.mem_map.1 ha
    have:=h.lt e he
    omega
  · simp only [List.mem_append,List.mem_singleton] at he
    rcases he with he | rfl
    · exact Nat.lt_succ_of_lt (h.lt e he)
    · exact Nat.lt_succ_self _
theorem Mp.wf.set {t : Mp κ β} (h : t.wf) {k : κ} {i : Nat} {e : En κ β} (hk : enF k t.L 0 = some (i,e)) (v : β) : (⟨t.L.set i ⟨k,v,e.s⟩,t.c⟩ : Mp κ β).wf:=by
  obtain ⟨_,h2,h3,_⟩:=enF_some hk
  rw [Nat.sub_zero] at h2
  have hi:=(List.getElem?_eq_some_iff.1 h2).1
  have m1 : (t.L.set i ⟨k,v,e.s⟩).map (·.k) = t.L.map (·.k):=by
    rw [List.map_set]
    refine List.ext_getElem? fun j => ?_
    by_cases q : i = j
    · subst q; rw [List.getElem?_set_self (by simpa using hi),List.getElem?_map,h2]; simp [h3]
    · rw [List.getElem?_set_ne q]
  have m2 : (t.L.set i ⟨k,v,e.s⟩).map (·.s) = t.L.map (·.s):=by
    rw [List.map_set]
    refine List.ext_getElem? fun j => ?_
    by_cases q : i = j
    · subst q; rw [List.getElem?_set_self (by simpa using hi),List.getElem?_map,h2]; simp
    · rw [List.getElem?_set_ne q]
  refine ⟨by rw [m1]; exact h.keys,by rw [m2]; exact h.stamps,fun x hx => ?_⟩
  rcases List.mem_or_eq_of_mem_set hx with q | q
  · exact h.lt x q
  · subst q; exact h.lt e (List.mem_of_getElem? h2)
theorem enF_set {L : List (En κ β)} {k : κ} {i : Nat} {e : En κ β} (h : enF k L 0 = some (i,e)) (v : β) (s : Nat) (k' : κ) : (enF k' (L.set i ⟨k,v,s⟩) 0).map (·.2.v) = if k' = k then some v else (enF k' L 0).map (·.2.v):=by
  have gen : ∀ (L : List (En κ β)) (a j : Nat) (i : Nat),enF k L a = some (i + a,e) → (enF k' (L.set i ⟨k,v,s⟩) j).map (·.2.v) = if k' = k then some v else (enF k' L j).map (·.2.v):=by
    intro L
    induction L with
    | nil =>intro a j i h; cases h
    | cons x r ih =>
      intro a j i h
      unfold enF at h
      cases hq : k == x.k with
      | true =>
        rw [hq] at h
        simp only [cond_true,Option.some.injEq,Prod.mk.injEq] at h
        obtain ⟨h1,rfl⟩:=h
        obtain rfl : i = 0:=by omega
        have hk : k = x.k:=by simpa using hq
        simp only [List.set_cons_zero,enF]
        by_cases q : k' = k
        · have : (k' == k) = true:=by simpa using q
          simp only [q,beq_self_eq_true,cond_true,if_true,Option.map_some]
        · have h1 : (k' == k) = false:=by simpa using q
          have h2 : (k' == x.k) = false:=by rw [← hk]; exact h1
          simp only [h1,h2,cond_false,q,if_false]
      | false =>
        rw [hq] at h
        simp only [cond_false] at h
        have hi : 0 < i:=by
          obtain ⟨q,_⟩:=enF_some h
          omega
        obtain ⟨i,rfl⟩ : ∃ i',i = i' + 1:=⟨i - 1,by omega⟩
        rw [show i + 1 + a = i + (a + 1) by omega] at h
        have:=ih (a + 1) (j + 1) i h
        simp only [List.set_cons_succ,enF]
        by_cases q : k' = k
        · have h1 : (k' == x.k) = false:=by rw [q]; exact hq
          rw [h1]
          simp only [cond_false,q,if_true] at this ⊢
          exact this
        · cases h1 : k' == x.k
          · simp only [cond_false,q,if_false] at this ⊢
            exact this
          · simp only [cond_true,q,if_false]
  exact gen L 0 0 i (by simpa using h)
theorem enF_app (L : List (En κ β)) (k : κ) (v : β) (s : Nat) (hk : enF k L 0 = none) (k' : κ) : (enF k' (L ++ [⟨k,v,s⟩]) 0).map (·.2.v) = if k' = k then some v else (enF k' L 0).map (·.2.v):=by
  have gen : ∀ (L : List (En κ β)) (j : Nat),k ∉ L.map (·.k) → (enF k' (L ++ [⟨k,v,s⟩]) j).map (·.2.v) = if k' = k then some v else (enF k' L j).map (·.2.v):=by
    intro L
    induction L with
    | nil =>
      intro j _
      simp only [List.nil_append,enF]
      by_cases q : k' = k
      · have : (k' == k) = true:=by simpa using q
        simp only [q,beq_self_eq_true,cond_true,if_true,Option.map_some]
      · have : (k' == k) = false:=by simpa using q
        simp only [this,cond_false,q,if_false]
    | cons x r ih =>
      intro j hn
      simp only [List.map_cons,List.mem_cons,not_or] at hn
      have:=ih (j + 1) hn.2
      simp only [List.cons_append,enF]
      cases h1 : k' == x.k
      · simp only [cond_false]; exact this
      · have q : ¬ k' = k:=fun q =>by
          have : k' = x.k:=by simpa using h1
          exact hn.1 (q ▸ this)
        simp only [cond_true,q,if_false]
  exact gen L 0 (enF_none.1 hk)
theorem enF_key {L : List (En κ β)} (hn : (L.map (·.k)).Nodup) {e : En κ β} (he : e ∈ L) : ∃ i,enF e.k L 0 = some (i,e):=by
  obtain ⟨i,hi⟩:=List.getElem?_of_mem he
  exact ⟨i,enF_at hn hi rfl⟩
theorem stamps_last {S : List (En κ β)} {e : En κ β} : (stamps (S ++ [e])).getLast? = some e.s:=by
  unfold stamps; rw [List.map_append]; simp
theorem find_en {g : κ → AV} {f : β → AV} {t : Mp κ β} (ht : t.wf) {e : En κ β} (he : e ∈ t.L) : (t.L.map (enA g f)).find? (fun x =>x.2.2 == e.s) = some (enA g f e):=by
  cases h : (t.L.map (enA g f)).find? (fun x =>x.2.2 == e.s) with
  | none =>
    have:=List.find?_eq_none.1 h (enA g f e) (List.mem_map_of_mem he)
    exact absurd (beq_self_eq_true e.s) this
  | some y =>
    have h1:=List.find?_some h
    have h2:=List.mem_of_find?_eq_some h
    obtain ⟨x,hx,rfl⟩:=List.mem_map.1 h2
    have h3 : x.s = e.s:=by simpa [enA] using h1
    have:=stamp_inj ht.stamps hx he h3
    rw [this]
theorem stamps_nil : stamps ([] : List (En κ β)) = []:=rfl
def kept (pd : En κ β → Bool) (L S : List (En κ β)) : List (En κ β):=L.filter fun e => !(stamps S).contains e.s || !pd e
theorem kept_0 (pd : En κ β → Bool) (L : List (En κ β)) : kept pd L [] = L:=by
  unfold kept stamps
  rw [List.filter_eq_self]
  intro e _
  rfl
theorem kept_all {pd : En κ β → Bool} {L S : List (En κ β)} (h : ∀ x ∈ L,x.s ∈ stamps S) : kept pd L S = L.filter fun e => !pd e:=by
  unfold kept
  refine List.filter_congr fun e he => ?_
  rw [List.contains_iff_mem.2 (h e he)]; rfl
theorem kept_sub {pd : En κ β → Bool} {L S : List (En κ β)} {e : En κ β} (h : e ∈ kept pd L S) : e ∈ L:=(List.mem_filter.1 h).1
theorem kept_in {pd : En κ β → Bool} {L S : List (En κ β)} {e : En κ β} (h : e ∈ L) (hn : e.s ∉ stamps S) : e ∈ kept pd L S:=by
  unfold kept
  refine List.mem_filter.2 ⟨h,?_⟩
  have : (stamps S).contains e.s = false:=by
    cases q : (stamps S).contains e.s
    · rfl
    · exact absurd (List.contains_iff_mem.1 q) hn
  rw [this]; rfl
theorem kept_stay {pd : En κ β → Bool} {L S : List (En κ β)} (hn : (stamps L).Nodup) {e : En κ β} (he : e ∈ L) (hp : pd e = false) : kept pd L (S ++ [e]) = kept pd L S:=by
  unfold kept
  refine List.filter_congr fun x hx => ?_
  unfold stamps
  rw [List.map_append,List.map_cons,List.map_nil,List.contains_append]
  by_cases q : x.s = e.s
  · have : x = e:=stamp_inj hn hx he q
    subst this
    rw [hp]; simp
  · have : [e.s].contains x.s = false:=by simp [q]
    rw [this,Bool.or_false]
theorem kept_strike {pd : En κ β → Bool} {L S : List (En κ β)} (hn : (stamps L).Nodup) {e : En κ β} (he : e ∈ L) (hS : e.s ∉ stamps S) (hp : pd e = true) {i : Nat} (hi : (kept pd L S)[i]? = some e) : (kept pd L S).eraseIdx i = kept pd L (S ++ [e]):=by
  have h2 : kept pd L (S ++ [e]) = (kept pd L S).filter fun x =>x.s != e.s:=by
    unfold kept
    rw [List.filter_filter]
    refine List.filter_congr fun x hx => ?_
    unfold stamps
    rw [List.map_append,List.map_cons,List.map_nil,List.contains_append]
    by_cases q : x.s = e.s
    · have : x = e:=stamp_inj hn hx he q
      subst this
      rw [hp]; simp
    · have : [e.s].contains x.s = false:=by simp [q]
      have h3 : (x.s != e.s) = true:=by simpa using q
      rw [this,h3,Bool.or_false,Bool.true_and]
  have hnd : ((kept pd L S).map (·.s)).Nodup:=((List.filter_sublist).map _).nodup hn
  rw [h2]
  clear h2
  generalize kept pd L S = M at *
  induction M generalizing i with
  | nil =>cases hi
  | cons y r ih =>
    rw [List.map_cons,List.nodup_cons] at hnd
    cases i with
    | zero =>
      simp only [List.getElem?_cons_zero,Option.some.injEq] at hi
      subst hi
      rw [List.eraseIdx_cons_zero,List.filter_cons]
      have : (y.s != y.s) = false:=by simp
      rw [this]
      refine (List.filter_eq_self.2 fun x hx => ?_).symm
      have : x.s ≠ y.s:=fun q =>hnd.1 (q ▸ List.mem_map_of_mem hx)
      simpa using this
    | succ i =>
      rw [List.getElem?_cons_succ] at hi
      have : y.s ≠ e.s:=fun q =>hnd.1 (q ▸ List.mem_map_of_mem (List.mem_of_getElem? hi))
      have h3 : (y.s != e.s) = true:=by simpa using this
      rw [List.eraseIdx_cons_succ,List.filter_cons,h3,ih hi hnd.2]
      rfl
theorem next_df {g : κ → AV} {f : β → AV} {t : Mp κ β} (ht : t.wf) {pd : En κ β → Bool} {S : List (En κ β)} {m : Mem} {K : AV → Mem → Prop} {id mid : Nat} (hi : mget m id = some (.iter (some mid) t.c t.c (stamps S))) (hm : mget m mid = some (.map ((kept pd t.L S).map (enA g f)) t.c))
    (hend : (∀ x ∈ t.L,x.s ∈ stamps S) → K (.tup [.bool false]) m) (hstep : ∀ e ∈ t.L,e ∈ kept pd t.L S → e.s ∉ stamps S → K (.tup [.bool true,g e.k,f e.v]) (mset m id (some (.iter (some mid) t.c t.c (stamps (S ++ [e])))))) : wpNext m K (.ptr id 0 0):=by
  show wpNextB m K id (mget m id)
  rw [hi]
  show wpNextM m K id mid t.c t.c (stamps S) (mapAt (mget m) mid)
  have : mapAt (mget m) mid = some ((kept pd t.L S).map (enA g f),t.c):=by unfold mapAt; rw [hm]
  rw [this]
  refine ⟨fun e he => ?_,Nat.le_refl _,Nat.le_refl _,fun h =>hend fun x hx => ?_,fun e he => ?_⟩
  · obtain ⟨x,hx,rfl⟩:=List.mem_map.1 he
    exact ht.lt x (kept_sub hx)
  · by_cases q : x.s ∈ stamps S
    · exact q
    · exact left_nil h x (kept_in hx q)
  · obtain ⟨x,hx,rfl,hn⟩:=left_mem he
    have:=hstep x (kept_sub hx) hx hn
    unfold stamps at this
    rw [List.map_append] at this
    exact this
end
end AH.MS
set_option linter.unusedSimpArgs false
namespace AH
open Go
end AH
set_option linter.unusedSimpArgs false
namespace AH
open Go
variable {S : Sys} {eb : Nat → Addr} {own : Nat → Prop} {w0 w : World} {φ φ' : Emb} {C : Ctx}
end AH
set_option linter.unusedSimpArgs false
namespace AH
open Go
variable {S : Sys} {eb : Nat → Addr} {own : Nat → Prop} {w0 w : World} {φ φ' : Emb}
def maskM (F : List Nat) (M : Nat → Option Blk) : Nat → Mem
  | 0 => []
  | L + 1 =>maskM F M L ++ [if inN F L then M L else none]
theorem maskM_len (F : List Nat) (M : Nat → Option Blk) : ∀ L,(maskM F M L).length = L
  | 0 =>rfl
  | L + 1 =>by rw [maskM,List.length_append,maskM_len F M L]; rfl
theorem maskM_get (F : List Nat) (M : Nat → Option Blk) : ∀ L i,mget (maskM F M L) i = if i < L ∧ inN F i = true then M i else none
  | 0,i =>by rw [maskM,mget_nil,if_neg (by omega)]
  | L + 1,i =>by
    rw [maskM,mget_append,maskM_len,maskM_get F M L]
    by_cases h1 : i < L
    · rw [if_pos h1]
      by_cases h2 : inN F i = true
      · rw [if_pos ⟨h1,h2⟩,if_pos ⟨by omega,h2⟩]
      · rw [if_neg (fun q =>h2 q.2),if_neg (fun q =>h2 q.2)]
    · rw [if_neg h1]
      by_cases h3 : i = L
      · subst h3
        rw [Nat.sub_self,mget]
        by_cases h2 : inN F i = true
        · rw [if_pos h2,if_pos ⟨by omega,h2⟩]
        · rw [if_neg h2,if_neg (fun q =>h2 q.2)]
      · obtain ⟨j,hj⟩ : ∃ j,i - L = j + 1:=⟨i - L - 1,by omega⟩
        rw [hj,mget,mget_nil,if_neg (fun q =>by omega)]
mutual
theorem ren_same : ∀ v : AV,v.ren (fun i =>i) = v
  | .ptr .. | .slc .. | .isl .. | .map _ | .undef | .bool _ | .int .. | .str _ | .nilp | .nils | .nilm | .nilf | .nili | .err _ =>rfl
  | .fn _ a b =>by simp only [AV.ren,rens_same a,rens_same b]
  | .ifc _ v =>by simp only [AV.ren,ren_same v]
  | .agg cs =>by simp only [AV.ren,rens_same cs]
  | .tup cs =>by simp only [AV.ren,rens_same cs]
theorem rens_same : ∀ l : List AV,AV.rens (fun i =>i) l = l
  | [] =>rfl
  | v :: r =>by simp only [AV.rens,ren_same v,rens_same r]
end
theorem blk_ren_same (b : Blk) : b.ren (fun i =>i) = b:=by
  cases b with
  | row ro k es =>
    simp only [Blk.ren,Blk.row.injEq,true_and]
    conv =>rhs; rw [← List.map_id es]
    exact List.map_congr_left fun e _ =>rens_same e
  | map es c =>
    simp only [Blk.ren,Blk.map.injEq,and_true]
    conv =>rhs; rw [← List.map_id es]
    exact List.map_congr_left fun e _ =>by simp only [ren_same,id_eq]
  | iter m s l seen =>cases m <;> rfl
theorem asRo_f (b : Blk) : b.asRo false = b:=by cases b <;> rfl
def sh (L n i : Nat) : Nat:=if i < L then i else n + (i - L)
def okF (F : List Nat) (L j : Nat) : Bool:=inN F j || decide (L ≤ j)
def backM (F : List Nat) (L n k : Nat) (m' : Mem) (M : Nat → Option Blk) (i : Nat) : Option Blk :=
  if n ≤ i ∧ i < n + k then (mget m' (L + (i - n))).map (Blk.ren (sh L n)) else if inN F i = true then (mget m' i).map (Blk.ren (sh L n)) else M i
theorem frameM {g : FuncId} {args : List AV} {M : Nat → Option Blk} {v : AV} {m' : Mem} {k L n : Nat} (F : List Nat) (hF : ∀ id,inN F id = true → id < L ∧ ∃ b,M id = some b ∧ b.inB (inN F) = true) (hargs : AV.insB (inN F) args = true)
    (h : CallA1 S g args (maskM F M L) fun r m1 =>r = v ∧ m1 = m') (hlen : m'.length = L + k) (hrwB : ∀ i b,L ≤ i → mget m' i = some b → b.rw) (hv : v.inB (okF F L) = true) (hm : ∀ i b,mget m' i = some b → okF F L i = true ∧ b.inB (okF F L) = true)
    (hA : Amb S eb own w0) {us : Array Value} (hus : VRs S.errT eb φ args us.toList) (hM : MR S.errT eb φ M own w) (hk : Keeps own w0 w) (hnd : ∀ j,j < k → ¬ φ.dom (n + j)) :
    CallRes S.P g us w fun r w' => ∃ φ',φ.Ext φ' ∧ VR S.errT eb φ' (v.ren (sh L n)) r ∧ MR S.errT eb φ' (backM F L n k m' M) own w' ∧ Keeps own w0 w' ∧ ∀ id,φ'.dom id → φ.dom id ∨ (n ≤ id ∧ id < n + k):=by
  have hlt : ∀ b,¬ own b → b < w0.heap.size:=fun b hb' =>by
    rcases Nat.lt_or_ge b w0.heap.size with h | h
    · exact h
    · exact absurd (hk.new b h) hb'
  have hsz:=hk.size
  have hnew : ∀ b,w.heap.size ≤ b → own b:=fun b hb' =>hk.new b (Nat.le_trans hsz hb')
  have hnr : ∀ i,φ.dom i → ¬ (n ≤ i ∧ i < n + k):=fun i hi q =>hnd (i - n) (by omega) (by rw [show n + (i - n) = i by omega]; exact hi)
  have hdomF : ∀ {id : Nat},inN F id = true → φ.dom id:=fun h =>by
    obtain ⟨_,b,h1,_⟩:=hF _ h
    exact hM.dom _ b h1
  let φ0 : Emb:={ φ with dom:=fun i => φ.dom i ∧ inN F i = true }
  have mv0 : Moves (inN F) (fun i =>i) φ φ0:=fun id hid hd =>⟨⟨hd,hid⟩,rfl,rfl,rfl,rfl⟩
  have sol0 : ∀ {j : Nat} {c : Blk},c.solid φ0 j ↔ c.solid φ j:=fun {j c} =>by cases c <;> exact Iff.rfl
  have hsub : ∀ {j : Nat} {c : Blk},mget (maskM F M L) j = some c → inN F j = true ∧ M j = some c:=fun {j c} hj =>by
    rw [maskM_get] at hj
    split at hj
    · rename_i q; exact ⟨q.2,hj⟩
    · cases hj
  -- what the callee may turn
  let own0 : Nat → Prop:=fun b =>w.heap.size ≤ b ∨ ∃ j c,inN F j = true ∧ M j = some c ∧ c.rw ∧ c.solid φ j ∧ φ.blk j = b
  have hown : ∀ b,own0 b → own b:=by
    rintro b (h1 | ⟨j,c,h0,h1,h2,h2s,rfl⟩)
    · exact hnew b h1
    · exact hM.own j c h1 h2 h2s
  have hA0 : Amb S eb own0 w:=by
    have hin : ∀ g ∈ S.errs,g < w0.heap.size:=fun g hg =>by
      obtain ⟨et,fr,h⟩:=hA.at_ g hg
      exact (Array.getElem?_eq_some_iff.1 h).1
    refine ⟨fun g hg => ?_,fun g hg q =>hA.out g hg (hown _ q),hA.inj,fun g hg q =>hA.eout g hg (hown _ q),fun g hg => ?_,fun x hx => ?_⟩
    · obtain ⟨et,fr,h⟩:=hA.at_ g hg
      exact ⟨et,fr,by rw [hk.kept g (hin g hg) (hA.out g hg)]; exact h⟩
    · obtain ⟨c,t,h⟩:=hA.txt g hg
      exact ⟨c,t,by rw [hk.kept _ (hlt _ (hA.eout g hg)) (hA.eout g hg)]; exact h⟩
    · obtain ⟨⟨et,fr,h⟩,ho⟩:=hA.hand x hx
      exact ⟨⟨et,fr,by rw [hk.kept _ (hlt _ ho) ho]; exact h⟩,fun q =>ho (hown _ q)⟩
  have hM0 : MR S.errT eb φ0 (mget (maskM F M L)) own0 w:=by
    refine ⟨fun j c hj => ?_,fun j ro k es hj => ?_,fun j c hj hcs => ?_,fun j c hj hc hcs => ?_,fun j j' c c' hj hj' hne hc hcs hcs2 => ?_⟩
    · obtain ⟨q1,q2⟩:=hsub hj
      exact ⟨hM.dom _ _ q2,q1⟩
    · obtain ⟨q1,q2⟩:=hsub hj
      exact hM.kk j _ _ _ q2
    · obtain ⟨q1,q2⟩:=hsub hj
      obtain ⟨o,ho,hbr⟩:=hM.blk j c q2 (sol0.1 hcs)
      obtain ⟨_,b2,h1,h2⟩:=hF j q1
      rw [q2] at h1; cases h1
      refine ⟨o,ho,?_⟩
      have:=br_ren mv0 (hM.dom j c q2) q1 h2 hbr false
      rw [blk_ren_same,asRo_f] at this
      exact this
    · obtain ⟨q1,q2⟩:=hsub hj
      exact .inr ⟨j,c,q1,q2,hc,sol0.1 hcs,rfl⟩
    · obtain ⟨q1,q2⟩:=hsub hj
      obtain ⟨q3,q4⟩:=hsub hj'
      exact hM.inj j j' c c' q2 q4 hne hc (sol0.1 hcs) (sol0.1 hcs2)
  have hb0 : ∀ j,φ0.dom j → j < (maskM F M L).length:=by
    rintro j ⟨_,hp⟩
    rw [maskM_len]
    exact (hF j hp).1
  have hus0 : VRs S.errT eb φ0 args us.toList:=by
    have:=vrs_ren mv0 hus hargs
    rw [rens_same] at this
    exact this
  have hcall:=h eb φ0 own0 w w us hA0 hus0 hM0 (.refl fun b hb' => .inl hb') hb0
  refine UponV.mono ?_ hcall
  rintro r w' ⟨φ1,v1,m1,⟨rfl,rfl⟩,hext,hvr,hM1,hk1,hb1⟩
  have hmv : Moves (okF F L) (sh L n) φ1 (φ.glueF φ1 n L k):=by
    intro j hj hd
    by_cases hjL : j < L
    · have hjF : inN F j = true:=by
        simp only [okF,Bool.or_eq_true,decide_eq_true_eq] at hj
        rcases hj with q | q
        · exact q
        · omega
      have h1:=hdomF hjF
      have h2:=hnr j h1
      have hsd : φ0.dom j:=⟨h1,hjF⟩
      have e1:=hext.blk j hsd
      have e2:=hext.base j hsd
      have e3:=hext.k j hsd
      have e4:=hext.size j hsd
      simp only [sh,if_pos hjL,Emb.glueF,if_neg h2]
      exact ⟨.inl h1,e1.symm,e2.symm,e3.symm,e4.symm⟩
    · have hj2:=hb1 j hd
      have e : L + (n + (j - L) - n) = j:=by omega
      have hn : n ≤ n + (j - L) ∧ n + (j - L) < n + k:=by omega
      simp only [sh,if_neg hjL,Emb.glueF,if_pos hn,e]
      exact ⟨.inr ⟨hn.1,hn.2,hd⟩,trivial,trivial,trivial,trivial⟩
  have hE : φ.Ext (φ.glueF φ1 n L k):=by
    refine ⟨fun i hi => .inl hi,fun i hi => ?_,fun i hi => ?_,fun i hi => ?_,fun i hi => ?_⟩ <;> simp only [Emb.glueF,if_neg (hnr i hi)]
  have hget : ∀ i b,backM F L n k m1 M i = some b →
      (∃ (j : Nat) (c : Blk),mget m1 j = some c ∧ b = c.ren (sh L n) ∧ i = sh L n j ∧ ((inN F j = true ∧ j < L ∧ i = j) ∨ L ≤ j)) ∨
      (M i = some b ∧ φ.dom i ∧ inN F i = false):=by
    intro i b hi
    unfold backM at hi
    split at hi
    · rename_i hil
      rw [Option.map_eq_some_iff] at hi
      obtain ⟨c,hc,rfl⟩:=hi
      refine .inl ⟨L + (i - n),c,hc,rfl,?_,.inr (by omega)⟩
      simp only [sh,if_neg (show ¬ L + (i - n) < L by omega)]
      omega
    · split at hi
      · rename_i hiF
        rw [Option.map_eq_some_iff] at hi
        obtain ⟨c,hc,rfl⟩:=hi
        have:=(hF i hiF).1
        exact .inl ⟨i,c,hc,rfl,by simp only [sh,if_pos this],.inl ⟨hiF,this,rfl⟩⟩
      · rename_i hiF
        exact .inr ⟨hi,hM.dom i b hi,by simpa using hiF⟩
  have hblk1 : ∀ {j : Nat} {c : Blk},mget m1 j = some c → (φ.glueF φ1 n L k).blk (sh L n j) = φ1.blk j:=fun {j c} hj =>(hmv j (hm j c hj).1 (hM1.dom _ _ hj)).2.1
  have hfar : ∀ {i : Nat} {b : Blk},M i = some b → b.solid φ i → inN F i = false → ¬ own0 (φ.blk i):=by
    rintro i b hi his hmiss (q | ⟨j,c,h0,h1,h2,h2s,h3⟩)
    · obtain ⟨o,ho,_⟩:=hM.blk i b hi his
      have:=(Array.getElem?_eq_some_iff.1 ho).1
      omega
    · refine hM.inj j i c b h1 hi (fun q => ?_) h2 h2s his h3
      subst q
      rw [h0] at hmiss; cases hmiss
  have hrw2 : ∀ (j' : Nat) (c' : Blk) (b2 : Blk),inN F j' = true → mget m1 j' = some c' → M j' = some b2 → ¬ c'.rw → ¬ b2.solid φ j' → c'.solid φ1 j' → False:=by
    intro j' c' b2 hs2 hc' hb2 hcr hb2s hsj'
    have hsd : φ0.dom j':=⟨hdomF hs2,hs2⟩
    cases c' with
    | row ro k es =>
      obtain ⟨o,ho,arr,et,fr,rfl,q1,q2,q3,_⟩:=hM1.blk j' _ hc' hsj'
      have e4 : φ1.k j' = φ.k j':=hext.k j' hsd
      have e5 : φ1.size j' = φ.size j':=hext.size j' hsd
      cases b2 with
      | row ro2 k2 es2 =>
        have hk2:=hM.kk j' _ _ _ hb2
        simp only [Blk.solid,not_or,Nat.not_lt,Nat.le_zero_eq] at hb2s
        obtain ⟨z1,z2,z3⟩:=hb2s
        have : es.length * k = 0:=by omega
        rcases Nat.mul_eq_zero.1 this with z | z
        · rcases hsj' with y | y | y
          · exact y (List.eq_nil_of_length_eq_zero z)
          · omega
          · omega
        · omega
      | _ =>exact hb2s trivial
    | _ =>exact hcr trivial
  refine ⟨φ.glueF φ1 n L k,hE,vr_ren hmv hvr hv,?_,?_,?_⟩
  · have solN : ∀ {j : Nat} {c : Blk},mget m1 j = some c → (c.ren (sh L n)).solid (φ.glueF φ1 n L k) (sh L n j) → c.solid φ1 j:=fun {j c} hj hs =>(Blk.solid_ren hmv (hM1.dom _ _ hj) (hm j c hj).1).1 hs
    have solO : ∀ {i : Nat} {b : Blk},M i = some b → b.solid (φ.glueF φ1 n L k) i → b.solid φ i:=fun hi hs =>(Blk.solid_ext hE (hM.dom _ _ hi)).1 hs
    refine ⟨fun i b hi => ?_,fun i ro k' es hi => ?_,fun i b hi hs => ?_,fun i b hi hr hs => ?_,fun i i' b b' hi hi' hne hr hs hs' => ?_⟩
    · rcases hget i b hi with ⟨j,c,h1,rfl,rfl,_⟩ | ⟨h1,_,_⟩
      · exact (hmv j (hm j c h1).1 (hM1.dom j c h1)).1
      · exact .inl (hM.dom i b h1)
    · rcases hget i _ hi with ⟨j,c,h1,h3,rfl,_⟩ | ⟨h1,h2,_⟩
      · cases c with
        | row ro' k'' es' =>
          simp only [Blk.ren,Blk.row.injEq] at h3
          obtain ⟨rfl,rfl,rfl⟩:=h3
          exact Blk.kk_ren hmv (hM1.dom j _ h1) (hm j _ h1).1 (hM1.kk j _ _ _ h1)
        | _ =>simp only [Blk.ren,reduceCtorEq] at h3
      · simp only [Emb.glueF,if_neg (hnr i h2)]
        exact hM.kk i _ _ _ h1
    · rcases hget i b hi with ⟨j,c,h1,rfl,rfl,_⟩ | ⟨h1,h2,h3⟩
      · obtain ⟨o,ho,hbr⟩:=hM1.blk j c h1 (solN h1 hs)
        refine ⟨o,by rw [hblk1 h1]; exact ho,?_⟩
        have:=br_ren hmv (hM1.dom j c h1) (hm j c h1).1 (hm j c h1).2 hbr false
        rw [asRo_f] at this
        exact this
      · obtain ⟨o,ho,hbr⟩:=hM.blk i b h1 (solO h1 hs)
        refine ⟨o,?_,hbr.mono hE (hM.dom i b h1)⟩
        have hf:=hfar h1 (solO h1 hs) h3
        simp only [Emb.glueF,if_neg (hnr i h2)]
        rw [hk1.kept _ (Array.getElem?_eq_some_iff.1 ho).1 hf]
        exact ho
    · rcases hget i b hi with ⟨j,c,h1,rfl,rfl,_⟩ | ⟨h1,h2,h3⟩
      · rw [hblk1 h1]
        exact hown _ (hM1.own j c h1 (blk_ren_rw.1 hr) (solN h1 hs))
      · have hs0:=solO h1 hs
        simp only [Emb.glueF,if_neg (hnr i h2)]
        exact hM.own i b h1 hr hs0
    · rcases hget i b hi with ⟨j,c,h1,rfl,rfl,h2⟩ | ⟨h1,h2,h3⟩
      · have hsj:=solN h1 hs
        rcases hget i' b' hi' with ⟨j',c',g1,rfl,rfl,g2⟩ | ⟨g1,g2,g3⟩
        · rw [hblk1 h1,hblk1 g1]
          exact hM1.inj j j' c c' h1 g1 (fun q =>hne (by rw [q])) (blk_ren_rw.1 hr) hsj (solN g1 hs')
        · have hsi':=solO g1 hs'
          rw [hblk1 h1]
          simp only [Emb.glueF,if_neg (hnr i' g2)]
          intro q
          have:=hM1.own j c h1 (blk_ren_rw.1 hr) hsj
          rw [q] at this
          exact hfar g1 hsi' g3 this
      · have hsi:=solO h1 hs
        rcases hget i' b' hi' with ⟨j',c',g1,rfl,rfl,g2⟩ | ⟨g1,g2,g3⟩
        · have hsj':=solN g1 hs'
          rw [hblk1 g1]
          simp only [Emb.glueF,if_neg (hnr i h2)]
          intro q
          rcases g2 with ⟨hs2,_,_⟩ | hj
          · have hsd : φ0.dom j':=⟨hdomF hs2,hs2⟩
            have e : φ1.blk j' = φ.blk j':=hext.blk j' hsd
            rw [e] at q
            obtain ⟨_,b2,hb2,_⟩:=hF j' hs2
            by_cases hb2s : b2.solid φ j'
            · exact hM.inj i j' b b2 h1 hb2 (fun z =>by rw [z,hs2] at h3; cases h3) hr hsi hb2s q
            · have hc':=hM1.own j' c' g1
              by_cases hcr : c'.rw
              · have:=hc' hcr hsj'
                rw [e,← q] at this
                exact hfar h1 hsi h3 this
              · exact (hrw2 j' c' b2 hs2 g1 hb2 hcr hb2s hsj').elim
          · have:=hM1.own j' c' g1 (hrwB j' c' hj g1) hsj'
            rw [← q] at this
            exact hfar h1 hsi h3 this
        · have hsi':=solO g1 hs'
          simp only [Emb.glueF,if_neg (hnr i h2),if_neg (hnr i' g2)]
          exact hM.inj i i' b b' h1 g1 hne hr hsi hsi'
  · refine ⟨hk1.os.trans hk.os,hk1.output.trans hk.output,Nat.le_trans hk.size hk1.size,fun b hb' ho => ?_,hk.new⟩
    rw [hk1.kept b (by omega) (fun q =>ho (hown b q)),hk.kept b hb' ho]
  · rintro i (hi | ⟨h1,h2,_⟩)
    · exact .inl hi
    · exact .inr ⟨h1,h2⟩
structure NE where
  val : Nat → AV
  wr : Nat → List (Nat × Blk):=fun _ => []
  new : Nat → List Blk:=fun _ => []
def numE : Nat → List Blk → List (Nat × Option Blk)
  | _,[] => []
  | n,b :: r =>(n,some b) :: numE (n + 1) r
def oldE : List (Nat × Blk) → List (Nat × Option Blk)
  | [] => []
  | (i,b) :: r =>(i,some b) :: oldE r
def NE.eff (x : NE) (F : List Nat) (n : Nat) : Eff:={ val:=x.val n,foot:=F,wr:=oldE (x.wr n) ++ numE n (x.new n) }
theorem applyF_num : ∀ (B : List Blk) (n : Nat) (M : Nat → Option Blk) (i : Nat),applyF M (numE n B) i = if n ≤ i ∧ i < n + B.length then B[i - n]? else M i
  | [],n,M,i =>by rw [numE,applyF,if_neg (by simp only [List.length_nil]; omega)]
  | b :: r,n,M,i =>by
    rw [numE,applyF,applyF_num r (n + 1)]
    by_cases h : i = n
    · subst h
      rw [if_neg (fun q =>by omega),if_pos rfl,if_pos ⟨Nat.le_refl _,by simp only [List.length_cons]; omega⟩,Nat.sub_self,List.getElem?_cons_zero]
    · by_cases h2 : n + 1 ≤ i ∧ i < n + 1 + r.length
      · rw [if_pos h2,if_pos ⟨by omega,by simp only [List.length_cons]; omega⟩]
        obtain ⟨j,hj⟩ : ∃ j,i - n = j + 1:=⟨i - n - 1,by omega⟩
        rw [hj,List.getElem?_cons_succ,show i - (n + 1) = j by omega]
      · have h3 : ¬ (n ≤ i ∧ i < n + (b :: r).length):=by simp only [List.length_cons]; omega
        rw [if_neg h2,if_neg h3,if_neg h]
theorem old_same : ∀ (W : List (Nat × Blk)) {M1 M2 : Nat → Option Blk} {ρ : Nat → Nat} {i : Nat},M1 i = (M2 i).map (Blk.ren ρ) → applyF M1 (oldE (W.map fun x =>(x.1,x.2.ren ρ))) i = (applyF M2 (oldE W) i).map (Blk.ren ρ)
  | [],M1,M2,ρ,i,h =>h
  | (j,b) :: r,M1,M2,ρ,i,h =>by
    simp only [List.map_cons,oldE,applyF]
    refine old_same r ?_
    by_cases q : i = j
    · simp only [q,if_true,Option.map_some]
    · simp only [if_neg q]; exact h
theorem old_miss : ∀ (W : List (Nat × Blk)) {M : Nat → Option Blk} {i : Nat},(∀ x ∈ W,x.1 ≠ i) → applyF M (oldE W) i = M i
  | [],M,i,h =>rfl
  | (j,b) :: r,M,i,h =>by
    simp only [oldE,applyF]
    rw [old_miss r fun x hx =>h x (List.mem_cons_of_mem _ hx),if_neg (fun q =>h (j,b) (List.mem_cons_self ..) q.symm)]
theorem old_from : ∀ (W : List (Nat × Blk)) {M : Nat → Option Blk} {i : Nat} {b : Blk},applyF M (oldE W) i = some b → (∃ x ∈ W,x.1 = i ∧ x.2 = b) ∨ M i = some b
  | [],M,i,b,h => .inr h
  | (j,c) :: r,M,i,b,h =>by
    simp only [oldE,applyF] at h
    rcases old_from r h with ⟨x,hx,q⟩ | q
    · exact .inl ⟨x,List.mem_cons_of_mem _ hx,q⟩
    · by_cases e : i = j
      · rw [if_pos e] at q
        exact .inl ⟨(j,c),List.mem_cons_self ..,e.symm,Option.some.inj q⟩
      · rw [if_neg e] at q; exact .inr q
theorem mset_len2 {m : Mem} {i : Nat} {b : Option Blk} (h : i < m.length) : (mset m i b).length = m.length:=by
  induction m generalizing i with
  | nil =>simp at h
  | cons x r ih =>
    cases i with
    | zero =>rfl
    | succ i =>simp only [mset,List.length_cons]; rw [ih (by simpa using h)]
theorem old_len : ∀ (W : List (Nat × Blk)) (m : Mem),(∀ x ∈ W,x.1 < m.length) → (applyWr m (oldE W)).length = m.length
  | [],m,_ =>rfl
  | (i,b) :: r,m,h =>by
    have hi:=h (i,b) (List.mem_cons_self ..)
    rw [oldE,applyWr,old_len r,mset_len2 hi]
    intro x hx
    rw [mset_len2 hi]
    exact h x (List.mem_cons_of_mem _ hx)
theorem mset_snoc : ∀ (m : Mem) (b : Option Blk),mset m m.length b = m ++ [b]
  | [],_ =>rfl
  | _ :: m,b =>by simp only [List.length_cons,mset,List.cons_append,mset_snoc m]
theorem num_len : ∀ (B : List Blk) (m : Mem),applyWr m (numE m.length B) = m ++ B.map some
  | [],m =>by simp [numE,applyWr]
  | b :: r,m =>by
    rw [numE,applyWr,mset_snoc]
    have:=num_len r (m ++ [some b])
    rw [List.length_append,List.length_cons,List.length_nil,Nat.zero_add] at this
    rw [this]
    simp
theorem applyWr_app : ∀ (a b : List (Nat × Option Blk)) (m : Mem),applyWr m (a ++ b) = applyWr (applyWr m a) b
  | [],b,m =>rfl
  | (i,x) :: a,b,m =>by simp only [List.cons_append,applyWr,applyWr_app a b]
theorem NE.mem {x : NE} {F : List Nat} {m : Mem} (h : ∀ y ∈ x.wr m.length,y.1 < m.length) : applyWr m (x.eff F m.length).wr = applyWr m (oldE (x.wr m.length)) ++ (x.new m.length).map some:=by
  simp only [NE.eff]
  rw [applyWr_app]
  have:=num_len (x.new m.length) (applyWr m (oldE (x.wr m.length)))
  rw [old_len _ _ h] at this
  exact this
def clM (m : Mem) : Prop:=∀ i b,mget m i = some b → b.inB (fun j =>decide (j < m.length)) = true
mutual
theorem inB_mono {p q : Nat → Bool} (h : ∀ i,p i = true → q i = true) : ∀ v : AV,v.inB p = true → v.inB q = true
  | .ptr id _ _,hv =>by simp only [AV.inB] at hv ⊢; exact h id hv
  | .slc id _ _ _,hv =>by simp only [AV.inB] at hv ⊢; exact h id hv
  | .isl id _ _ _,hv =>by simp only [AV.inB] at hv ⊢; exact h id hv
  | .map id,hv =>by simp only [AV.inB] at hv ⊢; exact h id hv
  | .undef,_ | .bool _,_ | .int ..,_ | .str _,_ | .nilp,_ | .nils,_ | .nilm,_ | .nilf,_ | .nili,_ | .err _,_ =>rfl
  | .fn f a b,hv =>by
    simp only [AV.inB,Bool.and_eq_true] at hv ⊢
    exact ⟨insB_mono h a hv.1,insB_mono h b hv.2⟩
  | .ifc t v,hv =>by simp only [AV.inB] at hv ⊢; exact inB_mono h v hv
  | .agg cs,hv =>by simp only [AV.inB] at hv ⊢; exact insB_mono h cs hv
  | .tup cs,hv =>by simp only [AV.inB] at hv ⊢; exact insB_mono h cs hv
theorem insB_mono {p q : Nat → Bool} (h : ∀ i,p i = true → q i = true) : ∀ l : List AV,AV.insB p l = true → AV.insB q l = true
  | [],_ =>rfl
  | v :: r,hv =>by
    simp only [AV.insB,Bool.and_eq_true] at hv ⊢
    exact ⟨inB_mono h v hv.1,insB_mono h r hv.2⟩
end
theorem blk_inB_mono {p q : Nat → Bool} (h : ∀ i,p i = true → q i = true) : ∀ b : Blk,b.inB p = true → b.inB q = true
  | .row _ _ es,hb =>by
    simp only [Blk.inB,List.all_eq_true] at hb ⊢
    exact fun e he =>insB_mono h e (hb e he)
  | .map es _,hb =>by
    simp only [Blk.inB,List.all_eq_true,Bool.and_eq_true] at hb ⊢
    exact fun e he =>⟨inB_mono h _ (hb e he).1,inB_mono h _ (hb e he).2⟩
  | .iter m _ _ _,hb =>by
    cases m with
    | none =>rfl
    | some i =>simp only [Blk.inB,Option.all_some] at hb ⊢; exact h i hb
mutual
theorem ren_on {p : Nat → Bool} {ρ : Nat → Nat} (h : ∀ i,p i = true → ρ i = i) : ∀ v : AV,v.inB p = true → v.ren ρ = v
  | .ptr id _ _,hv =>by simp only [AV.inB] at hv; simp only [AV.ren,h id hv]
  | .slc id _ _ _,hv =>by simp only [AV.inB] at hv; simp only [AV.ren,h id hv]
  | .isl id _ _ _,hv =>by simp only [AV.inB] at hv; simp only [AV.ren,h id hv]
  | .map id,hv =>by simp only [AV.inB] at hv; simp only [AV.ren,h id hv]
  | .undef,_ | .bool _,_ | .int ..,_ | .str _,_ | .nilp,_ | .nils,_ | .nilm,_ | .nilf,_ | .nili,_ | .err _,_ =>rfl
  | .fn f a b,hv =>by
    simp only [AV.inB,Bool.and_eq_true] at hv
    simp only [AV.ren,rens_on h a hv.1,rens_on h b hv.2]
  | .ifc t v,hv =>by simp only [AV.inB] at hv; simp only [AV.ren,ren_on h v hv]
  | .agg cs,hv =>by simp only [AV.inB] at hv; simp only [AV.ren,rens_on h cs hv]
  | .tup cs,hv =>by simp only [AV.inB] at hv; simp only [AV.ren,rens_on h cs hv]
theorem rens_on {p : Nat → Bool} {ρ : Nat → Nat} (h : ∀ i,p i = true → ρ i = i) : ∀ l : List AV,AV.insB p l = true → AV.rens ρ l = l
  | [],_ =>rfl
  | v :: r,hv =>by
    simp only [AV.insB,Bool.and_eq_true] at hv
    simp only [AV.rens,ren_on h v hv.1,rens_on h r hv.2]
end
theorem blk_ren_on {p : Nat → Bool} {ρ : Nat → Nat} (h : ∀ i,p i = true → ρ i = i) : ∀ b : Blk,b.inB p = true → b.ren ρ = b
  | .row ro k es,hb =>by
    simp only [Blk.inB,List.all_eq_true] at hb
    simp only [Blk.ren,Blk.row.injEq,true_and]
    conv =>rhs; rw [← List.map_id es]
    exact List.map_congr_left fun e he =>rens_on h e (hb e he)
  | .map es c,hb =>by
    simp only [Blk.inB,List.all_eq_true,Bool.and_eq_true] at hb
    simp only [Blk.ren,Blk.map.injEq,and_true]
    conv =>rhs; rw [← List.map_id es]
    refine List.map_congr_left fun e he => ?_
    obtain ⟨a,b,s⟩:=e
    have:=hb _ he
    simp only [id_eq,Prod.mk.injEq,and_true]
    exact ⟨ren_on h a this.1,ren_on h b this.2⟩
  | .iter m s la se,hb =>by
    cases m with
    | none =>rfl
    | some i =>
      simp only [Blk.inB,Option.all_some] at hb
      simp only [Blk.ren,Option.map_some,h i hb]
structure NE.fit (x : NE) (F : List Nat) : Prop where
  at_ : ∀ L n,(∀ id ∈ F,id < L) → x.val n = (x.val L).ren (sh L n) ∧ x.wr n = (x.wr L).map (fun y =>(y.1,y.2.ren (sh L n))) ∧ x.new n = (x.new L).map (Blk.ren (sh L n))
  in_ : ∀ L,(x.val L).inB (okF F L) = true ∧ (∀ y ∈ x.wr L,y.1 ∈ F ∧ y.2.inB (okF F L) = true) ∧ ∀ b ∈ x.new L,b.rw ∧ b.inB (okF F L) = true
def maxN : List Nat → Nat
  | [] => 0
  | a :: r =>max (a + 1) (maxN r)
theorem maxN_lt : ∀ {l : List Nat} {i : Nat},i ∈ l → i < maxN l
  | a :: r,i,h =>by
    simp only [maxN]
    rcases List.mem_cons.1 h with rfl | h
    · omega
    · have:=maxN_lt h; omega
open Classical in
noncomputable def etU {τ : Type} (R : (Nat → Option Blk) → List AV → τ → Prop) (ids : τ → List Nat) (f : τ → Option NE) : ET:=fun args M n =>
  if h : ∃ t,R M args t then (f (choose h)).map fun x =>(x.eff (ids (choose h)) n,(x.new n).length) else none
structure RelU {τ : Type} (R : (Nat → Option Blk) → List AV → τ → Prop) (ids : τ → List Nat) : Prop where
  uniq : ∀ {M args t t'},R M args t → R M args t' → t = t'
  loc : ∀ {M M' args t},R M args t → (∀ id ∈ ids t,M' id = M id) → R M' args t
  cl : ∀ {M args t},R M args t → AV.insB (inN (ids t)) args = true ∧ ∀ id ∈ ids t,∃ b,M id = some b ∧ b.inB (inN (ids t)) = true
theorem etU_eq {τ : Type} {R : (Nat → Option Blk) → List AV → τ → Prop} {ids : τ → List Nat} {f : τ → Option NE} (hR : RelU R ids) {M : Nat → Option Blk} {args : List AV} {t : τ} (h : R M args t) (n : Nat) :
    etU R ids f args M n = (f t).map fun x =>(x.eff (ids t) n,(x.new n).length):=by
  have hex : ∃ t,R M args t:=⟨t,h⟩
  have : Classical.choose hex = t:=hR.uniq (Classical.choose_spec hex) h
  unfold etU
  rw [dif_pos hex,this]
theorem etU_ok {τ : Type} {R : (Nat → Option Blk) → List AV → τ → Prop} {ids : τ → List Nat} {f : τ → Option NE} {g : FuncId} (hR : RelU R ids)
    (hf : ∀ {M args t x},R M args t → f t = some x → x.fit (ids t))
    (hc : ∀ {m : Mem} {args t x},R (mget m) args t → clM m → f t = some x → CallA1 S g args m fun r m' =>r = x.val m.length ∧ m' = applyWr m (oldE (x.wr m.length)) ++ (x.new m.length).map some) : EffF S g (etU R ids f):=by
  intro args M n e k q
  have q0:=q
  unfold etU at q
  split at q
  · rename_i hex
    obtain ⟨t,ht⟩ : ∃ t,R M args t:=hex
    clear q
    rw [etU_eq hR ht] at q0
    cases hx : f t with
    | none =>rw [hx] at q0; cases q0
    | some x =>
      rw [hx] at q0
      simp only [Option.map_some,Option.some.injEq,Prod.mk.injEq] at q0
      obtain ⟨rfl,rfl⟩:=q0
      have fit:=hf ht hx
      obtain ⟨cl1,cl2⟩:=hR.cl ht
      refine ⟨fun M' hM' => ?_,fun eb φ own w0 w us hA hus hM hk hnd => ?_⟩
      · have:=hR.loc ht fun id hid =>hM' id (by simp only [NE.eff,List.mem_append]; exact .inr hid)
        rw [etU_eq hR this,hx]; rfl
      · have hlt : ∀ id ∈ ids t,id < maxN (ids t):=fun id h =>maxN_lt h
        obtain ⟨L,hL⟩ : ∃ L,L = maxN (ids t):=⟨_,rfl⟩
        rw [← hL] at hlt
        obtain ⟨e1,e2,e3⟩:=fit.at_ L n hlt
        obtain ⟨i1,i2,i3⟩:=fit.in_ L
        have hmg : ∀ id ∈ ids t,mget (maskM (ids t) M L) id = M id:=fun id hid =>by rw [maskM_get,if_pos ⟨hlt id hid,inN_iff.2 hid⟩]
        have hcl : clM (maskM (ids t) M L):=fun i b hb =>by
          rw [maskM_get] at hb
          split at hb
          · rename_i hi
            obtain ⟨b',h1,h2⟩:=cl2 i (inN_iff.1 hi.2)
            rw [hb] at h1; cases h1
            rw [maskM_len]
            exact blk_inB_mono (fun j hj =>decide_eq_true (hlt j (inN_iff.1 hj))) b h2
          · cases hb
        have call:=hc (hR.loc ht hmg) hcl hx
        rw [maskM_len] at call
        have hwl : ∀ y ∈ x.wr L,y.1 < (maskM (ids t) M L).length:=fun y hy =>by rw [maskM_len]; exact hlt _ (i2 y hy).1
        have lenO : (applyWr (maskM (ids t) M L) (oldE (x.wr L))).length = L:=by rw [old_len _ _ hwl,maskM_len]
        have getN : ∀ i,mget (applyWr (maskM (ids t) M L) (oldE (x.wr L)) ++ (x.new L).map some) i = if i < L then applyF (mget (maskM (ids t) M L)) (oldE (x.wr L)) i else (x.new L)[i - L]?:=fun i =>by
          rw [mget_append,lenO,mget_applyWr]
          by_cases h : i < L
          · rw [if_pos h,if_pos h]
          · rw [if_neg h,if_neg h]
            have gen : ∀ (l : List Blk) (j : Nat),mget (l.map some) j = l[j]?:=fun l =>by
              induction l with
              | nil =>intro j; rw [List.map_nil,mget_nil]; rfl
              | cons a r ih =>intro j; cases j with
                | zero =>rfl
                | succ j =>simp only [List.map_cons,mget,ih,List.getElem?_cons_succ]
            exact gen _ _
        have hget : ∀ i b,mget (applyWr (maskM (ids t) M L) (oldE (x.wr L)) ++ (x.new L).map some) i = some b → okF (ids t) L i = true ∧ b.inB (okF (ids t) L) = true:=fun i b hb =>by
          rw [getN] at hb
          split at hb
          · rename_i hi
            rcases old_from _ hb with ⟨y,hy,rfl,rfl⟩ | hb
            · exact ⟨by simp only [okF,inN_iff.2 (i2 y hy).1,Bool.true_or],(i2 y hy).2⟩
            · rw [maskM_get] at hb
              split at hb
              · rename_i hi
                obtain ⟨b',h1,h2⟩:=cl2 i (inN_iff.1 hi.2)
                rw [hb] at h1; cases h1
                exact ⟨by simp only [okF,hi.2,Bool.true_or],blk_inB_mono (fun j hj =>by simp only [okF,hj,Bool.true_or]) b h2⟩
              · cases hb
          · rename_i hi
            exact ⟨by simp only [okF,decide_eq_true (Nat.not_lt.1 hi),Bool.or_true],(i3 b (List.mem_of_getElem? hb)).2⟩
        have hlen3 : (x.new n).length = (x.new L).length:=by rw [e3,List.length_map]
        have key:=frameM (S:=S) (g:=g) (k:=(x.new n).length) (L:=L) (n:=n) (ids t) (fun id hid =>⟨hlt id (inN_iff.1 hid),cl2 id (inN_iff.1 hid)⟩) cl1 call
          (by rw [List.length_append,lenO,List.length_map,hlen3]) (fun i b hi hb =>by
            rw [getN,if_neg (by omega)] at hb
            exact (i3 b (List.mem_of_getElem? hb)).1) i1 hget hA hus hM hk hnd
        refine UponV.mono ?_ key
        rintro r w' ⟨φ',k0,k1,k2,k3,k4⟩
        refine ⟨φ',k0,by simp only [NE.eff,e1]; exact k1,?_,k3,k4⟩
        have hfun : applyF M (x.eff (ids t) n).wr = backM (ids t) L n (x.new n).length (applyWr (maskM (ids t) M L) (oldE (x.wr L)) ++ (x.new L).map some) M:=by
          funext i
          simp only [NE.eff,backM]
          rw [applyF_app,applyF_num]
          by_cases hn : n ≤ i ∧ i < n + (x.new n).length
          · rw [if_pos hn,if_pos hn,getN,if_neg (by omega),show L + (i - n) - L = i - n by omega,e3,List.getElem?_map]
          · rw [if_neg hn,if_neg hn]
            by_cases hi : inN (ids t) i = true
            · rw [if_pos hi,getN,if_pos (hlt i (inN_iff.1 hi)),e2]
              refine old_same _ ?_
              rw [hmg i (inN_iff.1 hi)]
              obtain ⟨b,h1,h2⟩:=cl2 i (inN_iff.1 hi)
              rw [h1,Option.map_some,blk_ren_on (p:=inN (ids t)) (fun j hj =>by simp only [sh,if_pos (hlt j (inN_iff.1 hj))]) b h2]
            · rw [if_neg hi,old_miss]
              intro y hy q
              rw [e2] at hy
              obtain ⟨z,hz,rfl⟩:=List.mem_map.1 hy
              simp only at q
              exact hi (inN_iff.2 (q ▸ (i2 z hz).1))
        rw [hfun]
        exact k2
  · cases q
open Classical in
noncomputable def rtU {τ : Type} (R : (Nat → Option Blk) → List AV → τ → Prop) (ids : τ → List Nat) (f : τ → Option AV) : RT:=fun args M =>
  if h : ∃ t,R M args t then (f (choose h)).map fun v =>(v,ids (choose h)) else none
theorem rtU_eq {τ : Type} {R : (Nat → Option Blk) → List AV → τ → Prop} {ids : τ → List Nat} {f : τ → Option AV} (hR : RelU R ids) {M : Nat → Option Blk} {args : List AV} {t : τ} (h : R M args t) :
    rtU R ids f args M = (f t).map fun v =>(v,ids t):=by
  have hex : ∃ t,R M args t:=⟨t,h⟩
  have : Classical.choose hex = t:=hR.uniq (Classical.choose_spec hex) h
  unfold rtU
  rw [dif_pos hex,this]
theorem rtU_ok {τ : Type} {R : (Nat → Option Blk) → List AV → τ → Prop} {ids : τ → List Nat} {f : τ → Option AV} {g : FuncId} (hR : RelU R ids)
    (hf : ∀ {M args t v},R M args t → f t = some v → v.inB (inN (ids t)) = true)
    (hc : ∀ {m : Mem} {args t v},R (mget m) args t → clM m → f t = some v → CallA1 S g args m fun r m' =>r = v ∧ m' = m) : ReadF S g (rtU R ids f):=by
  intro args M v foot q
  have q0:=q
  unfold rtU at q
  split at q
  · rename_i hex
    obtain ⟨t,ht⟩ : ∃ t,R M args t:=hex
    clear q
    rw [rtU_eq hR ht] at q0
    cases hx : f t with
    | none =>rw [hx] at q0; cases q0
    | some x =>
      rw [hx] at q0
      simp only [Option.map_some,Option.some.injEq,Prod.mk.injEq] at q0
      obtain ⟨rfl,rfl⟩:=q0
      refine ⟨fun M' hM' =>by rw [rtU_eq hR (hR.loc ht hM'),hx]; rfl,fun eb φ own w0 w us hA hus hM hk => ?_⟩
      have e : EffF S g (etU R ids fun t =>(f t).map fun v =>({ val:=fun _ =>v } : NE)):=by
        refine etU_ok hR (fun {M args t x} ht hx => ?_) (fun {m args t x} ht hm hx => ?_)
        · rw [Option.map_eq_some_iff] at hx
          obtain ⟨v,hv,rfl⟩:=hx
          have h1:=hf ht hv
          refine ⟨fun L n hL =>⟨?_,rfl,rfl⟩,fun L =>⟨inB_mono (fun j hj =>by simp only [okF,hj,Bool.true_or]) _ h1,fun y hy =>absurd hy (List.not_mem_nil),fun b hb =>absurd hb (List.not_mem_nil)⟩⟩
          simp only
          rw [ren_on (p:=inN (ids t)) (fun j hj =>by simp only [sh,if_pos (hL j (inN_iff.1 hj))]) _ h1]
        · rw [Option.map_eq_some_iff] at hx
          obtain ⟨v,hv,rfl⟩:=hx
          refine (hc ht hm hv).mono ?_
          rintro r m' ⟨rfl,rfl⟩
          exact ⟨rfl,by simp [oldE,applyWr]⟩
      have q1 : etU R ids (fun t =>(f t).map fun v =>({ val:=fun _ =>v } : NE)) args M (0) = some (({ val:=fun _ =>x } : NE).eff (ids t) 0,0):=by
        rw [etU_eq hR ht,hx]; rfl
      refine UponV.mono ?_ ((e args M 0 _ 0 q1).2 eb φ own w0 w us hA hus hM hk fun j hj =>absurd hj (Nat.not_lt_zero _))
      rintro u w' ⟨φ',k0,k1,k2,k3,k4⟩
      have hback : φ'.Ext φ:=by
        have hd : ∀ id,φ'.dom id → φ.dom id:=fun id hid =>by
          rcases k4 id hid with z | z
          · exact z
          · omega
        exact ⟨hd,fun id hid =>(k0.blk id (hd id hid)).symm,fun id hid =>(k0.base id (hd id hid)).symm,fun id hid =>(k0.k id (hd id hid)).symm,fun id hid =>(k0.size id (hd id hid)).symm⟩
      exact ⟨k1.mono hback,k2.mono hback,k3⟩
  · cases q
def ranK (N : Nat) (keep : List Nat) : List Nat:=List.range N ++ keep.map (N + ·)
def kp (N : Nat) (keep : List Nat) : Nat → Nat:=posN (ranK N keep)
def inK (N : Nat) (keep : List Nat) : Nat → Bool:=inN (ranK N keep)
theorem inK_iff {N : Nat} {keep : List Nat} {i : Nat} : inK N keep i = true ↔ i < N ∨ (N ≤ i ∧ i - N ∈ keep):=by
  rw [inK,inN_iff,ranK,List.mem_append,List.mem_range,List.mem_map]
  constructor
  · rintro (h | ⟨j,hj,rfl⟩)
    · exact .inl h
    · exact .inr ⟨by omega,by rw [show N + j - N = j by omega]; exact hj⟩
  · rintro (h | ⟨h1,h2⟩)
    · exact .inl h
    · exact .inr ⟨i - N,h2,by omega⟩
theorem inK_old {N : Nat} {keep : List Nat} {i : Nat} (h : i < N) : inK N keep i = true:=inK_iff.2 (.inl h)
theorem ranK_len {N : Nat} {keep : List Nat} : (ranK N keep).length = N + keep.length:=by simp [ranK]
theorem ranK_get {N : Nat} {keep : List Nat} {i : Nat} : (ranK N keep)[i]? = if i < N then some i else (keep[i - N]?).map (N + ·):=by
  rw [ranK]
  by_cases h : i < N
  · rw [if_pos h,List.getElem?_append_left (by simpa using h),List.getElem?_range h]
  · rw [if_neg h,List.getElem?_append_right (by simpa using h),List.length_range,List.getElem?_map]
theorem distN_nodup : ∀ {l : List Nat},distN l = true ↔ l.Nodup
  | [] =>by simp [distN]
  | a :: r =>by
    rw [distN,Bool.and_eq_true,distN_nodup (l:=r),List.nodup_cons,Bool.not_eq_true',← Bool.not_eq_true,inN_iff]
theorem ranK_dist {N : Nat} {keep : List Nat} (h : distN keep = true) : distN (ranK N keep) = true:=by
  rw [distN_nodup,ranK,List.nodup_append]
  refine ⟨List.nodup_range,?_,fun a ha b hb q => ?_⟩
  · rw [List.nodup_iff_pairwise_ne,List.pairwise_map]
    exact (List.nodup_iff_pairwise_ne.1 (distN_nodup.1 h)).imp fun q e =>q (by omega)
  · obtain ⟨j,_,rfl⟩:=List.mem_map.1 hb
    have:=List.mem_range.1 ha
    omega
theorem kp_old {N : Nat} {keep : List Nat} (hd : distN keep = true) {i : Nat} (h : i < N) : kp N keep i = i:=by
  have h1:=posN_spec (inK_old (keep:=keep) h)
  have h2 : (ranK N keep)[i]? = some i:=by rw [ranK_get,if_pos h]
  exact distN_inj (ranK_dist hd) h1 h2
theorem heads_range : ∀ (n i : Nat) (r : List Nat),heads n i (List.range' i n ++ r) = true
  | 0,i,r =>rfl
  | n + 1,i,r =>by simp only [List.range'_succ,List.cons_append,heads,beq_self_eq_true,Bool.true_and]; exact heads_range n (i + 1) r
theorem heads_ranK {N : Nat} {keep : List Nat} : heads N 0 (ranK N keep) = true:=by
  rw [ranK,List.range_eq_range']; exact heads_range N 0 _
def keepM (N : Nat) (keep : List Nat) (R : Mem) : List Nat → Mem
  | [] => []
  | i :: r =>(mget R i).map (Blk.ren (kp N keep)) :: keepM N keep R r
theorem memX {a b : Mem} (hl : a.length = b.length) (h : ∀ i,mget a i = mget b i) : a = b:=by
  refine List.ext_getElem? fun i => ?_
  have gen : ∀ (l : Mem) (i : Nat),i < l.length → l[i]? = some (mget l i):=fun l =>by
    induction l with
    | nil =>intro i hi; simp at hi
    | cons x r ih =>intro i hi; cases i with
      | zero =>rfl
      | succ i =>simp only [List.getElem?_cons_succ,mget]; exact ih i (by simpa using hi)
  by_cases hi : i < a.length
  · rw [gen a i hi,gen b i (hl ▸ hi),h i]
  · rw [List.getElem?_eq_none (by omega),List.getElem?_eq_none (by omega)]
theorem keepM_get {N : Nat} {keep : List Nat} {R : Mem} : ∀ (l : List Nat) (j : Nat),mget (keepM N keep R l) j = match l[j]? with
    | some i =>(mget R i).map (Blk.ren (kp N keep))
    | none =>none
  | [],j =>by cases j <;> rfl
  | a :: l,0 =>by simp [keepM,mget]
  | a :: l,j + 1 =>by simp only [keepM,mget,keepM_get l j,List.getElem?_cons_succ]
theorem keepM_len {N : Nat} {keep : List Nat} {R : Mem} : ∀ l : List Nat,(keepM N keep R l).length = l.length
  | [] =>rfl
  | a :: l =>by simp [keepM,keepM_len l]
def renW (ρ : Nat → Nat) (W : List (Nat × Blk)) : List (Nat × Blk):=W.map fun x =>(x.1,x.2.ren ρ)
theorem pack_keep {m : Mem} {W : List (Nat × Blk)} {R : Mem} {keep : List Nat} (hm : clM m) (hd : distN keep = true) (hW : ∀ y ∈ W,y.1 < m.length ∧ y.2.inB (inK m.length keep) = true) (hR : ∀ i ∈ keep,∀ b,mget R i = some b → b.inB (inK m.length keep) = true) :
    packB (ranK m.length keep) (applyWr m (oldE W) ++ R) (ranK m.length keep) = true ∧ packM (ranK m.length keep) (applyWr m (oldE W) ++ R) (ranK m.length keep) = applyWr m (oldE (renW (kp m.length keep) W)) ++ keepM m.length keep R keep:=by
  have hl1 : (applyWr m (oldE W)).length = m.length:=old_len _ _ fun y hy =>(hW y hy).1
  have hl2 : (applyWr m (oldE (renW (kp m.length keep) W))).length = m.length:=old_len _ _ fun y hy =>by
    obtain ⟨z,hz,rfl⟩:=List.mem_map.1 hy
    exact (hW z hz).1
  have get : ∀ i,mget (applyWr m (oldE W) ++ R) i = if i < m.length then applyF (mget m) (oldE W) i else mget R (i - m.length):=fun i =>by
    rw [mget_append,hl1,mget_applyWr]
  have mono : ∀ b : Blk,b.inB (fun j =>decide (j < m.length)) = true → b.inB (inK m.length keep) = true:=fun b =>blk_inB_mono (fun j hj =>inK_old (of_decide_eq_true hj)) b
  refine ⟨?_,memX (by rw [packM_len,List.length_append,hl2,keepM_len,ranK_len]) fun i => ?_⟩
  · have gen : ∀ l : List Nat,(∀ id ∈ l,id ∈ ranK m.length keep) → packB (ranK m.length keep) (applyWr m (oldE W) ++ R) l = true:=fun l =>by
      induction l with
      | nil =>intro _; rfl
      | cons a r ih =>
        intro h
        rw [packB,Bool.and_eq_true]
        refine ⟨?_,ih fun id hid =>h id (List.mem_cons_of_mem _ hid)⟩
        have ha:=h a (List.mem_cons_self ..)
        split
        · rename_i b hb
          rw [get] at hb
          show b.inB (inK m.length keep) = true
          split at hb
          · rcases old_from _ hb with ⟨y,hy,rfl,rfl⟩ | hb
            · exact (hW y hy).2
            · exact mono b (hm _ _ hb)
          · rename_i hn
            rcases inK_iff.1 (inN_iff.2 ha) with q | q
            · exact absurd q hn
            · exact hR _ q.2 _ hb
        · rfl
    exact gen _ fun _ h =>h
  · rw [packM_get,ranK_get,mget_append,hl2,mget_applyWr]
    by_cases hi : i < m.length
    · rw [if_pos hi,if_pos hi]
      show Option.map (Blk.ren (kp m.length keep)) (mget (applyWr m (oldE W) ++ R) i) = _
      rw [get,if_pos hi]
      refine (old_same W ?_).symm
      cases hq : mget m i with
      | none =>rfl
      | some b =>rw [Option.map_some,blk_ren_on (p:=fun j =>decide (j < m.length)) (fun j hj =>kp_old hd (of_decide_eq_true hj)) b (hm i b hq)]
    · rw [if_neg hi,if_neg hi,keepM_get]
      cases hq : keep[i - m.length]? with
      | none =>rfl
      | some j =>
        show Option.map (Blk.ren (kp m.length keep)) (mget (applyWr m (oldE W) ++ R) (m.length + j)) = _
        rw [get,if_neg (by omega),show m.length + j - m.length = j by omega]
theorem CallA1.finU {g : FuncId} {args : List AV} {m : Mem} {K : AV → Mem → Prop} (hm : clM m) (keep : List Nat) (hd : distN keep = true)
    (h : CallA1 S g args m fun v m' => ∃ (W : List (Nat × Blk)) (R : Mem),m' = applyWr m (oldE W) ++ R ∧ (∀ y ∈ W,y.1 < m.length ∧ y.2.inB (inK m.length keep) = true) ∧ (∀ i ∈ keep,∀ b,mget R i = some b → b.inB (inK m.length keep) = true) ∧ v.inB (inK m.length keep) = true ∧
      K (v.ren (kp m.length keep)) (applyWr m (oldE (renW (kp m.length keep) W)) ++ keepM m.length keep R keep)) : CallA1 S g args m K:=by
  refine CallA1.pack (h.mono ?_)
  rintro v m' ⟨W,R,rfl,h1,h2,h3,h4⟩
  obtain ⟨p1,p2⟩:=pack_keep hm hd h1 h2
  exact ⟨ranK m.length keep,heads_ranK,ranK_dist hd,p1,h3,by rw [p2]; exact h4⟩
theorem gm_len {m : Mem} {i : Nat} {b : Option Blk} (h : i < m.length) : (mset m i b).length = m.length:=mset_len2 h
theorem gm_get_k {a r : Mem} {n j : Nat} (h : a.length = n) : mget (a ++ r) (n + j) = mget r j:=by
  subst h
  rw [mget_append,if_neg (by omega),show a.length + j - a.length = j by omega]
theorem gm_get_0 {a r : Mem} {n : Nat} (h : a.length = n) : mget (a ++ r) n = mget r 0:=gm_get_k (j:=0) h
theorem gm_get_old {a r : Mem} {p : Nat} (h : p < a.length) : mget (a ++ r) p = mget a p:=by rw [mget_append,if_pos h]
theorem gm_set_old : ∀ {a r : Mem} {p : Nat} {b : Option Blk},p < a.length → mset (a ++ r) p b = mset a p b ++ r
  | [],r,p,b,h =>by simp at h
  | x :: a,r,0,b,h =>rfl
  | x :: a,r,p + 1,b,h =>by simp only [List.cons_append,mset]; rw [gm_set_old (by simpa using h)]
theorem gm_set_k : ∀ {a r : Mem} {n j : Nat} {b : Option Blk},a.length = n → mset (a ++ r) (n + j) b = a ++ mset r j b
  | [],r,n,j,b,h =>by subst h; simp
  | x :: a,r,n,j,b,h =>by
    subst h
    simp only [List.length_cons,List.cons_append]
    rw [show a.length + 1 + j = (a.length + j) + 1 by omega,mset,gm_set_k rfl]
theorem gm_set_0 {a r : Mem} {n : Nat} {b : Option Blk} (h : a.length = n) : mset (a ++ r) n b = a ++ mset r 0 b:=gm_set_k (j:=0) h
theorem gm_set_new {a : Mem} {n : Nat} {b : Option Blk} (h : a.length = n) : mset a n b = a ++ [b]:=by
  subst h; exact mset_snoc a b
theorem gm_get_set : ∀ {a : Mem} {p q : Nat} {b : Option Blk},mget (mset a p b) q = bif p == q then b else mget a q
  | [],0,0,b =>rfl
  | [],0,q + 1,b =>rfl
  | [],p + 1,0,b =>rfl
  | [],p + 1,q + 1,b =>by
    simp only [mset,mget]
    rw [gm_get_set (a:=[]),mget_nil]
    simp
  | x :: a,0,0,b =>rfl
  | x :: a,0,q + 1,b =>rfl
  | x :: a,p + 1,0,b =>rfl
  | x :: a,p + 1,q + 1,b =>by
    simp only [mset,mget]
    rw [gm_get_set (a:=a)]
    simp
theorem gm_app {a r s : Mem} : (a ++ r) ++ s = a ++ (r ++ s):=List.append_assoc ..
theorem gm_applen {a r : Mem} : (a ++ r).length = a.length + r.length:=List.length_append
theorem kp_id {N : Nat} {keep : List Nat} (hd : distN keep = true) {v : AV} (h : v.inB (fun j =>decide (j < N)) = true) : v.ren (kp N keep) = v:=ren_on (p:=fun j =>decide (j < N)) (fun j hj =>kp_old hd (of_decide_eq_true hj)) v h
theorem GM : type_of% (And.intro @gm_len (And.intro @gm_get_k (And.intro @gm_get_0 (And.intro @gm_get_old (And.intro @gm_set_old (And.intro @gm_set_k (And.intro @gm_set_0 (And.intro @gm_set_new (And.intro @gm_get_set (And.intro @gm_app @gm_applen)))))))))):=And.intro @gm_len (And.intro @gm_get_k (And.intro @gm_get_0 (And.intro @gm_get_old (And.intro @gm_set_old (And.intro @gm_set_k (And.intro @gm_set_0 (And.intro @gm_set_new (And.intro @gm_get_set (And.intro @gm_app @gm_applen)))))))))
theorem CallA1.finR {g : FuncId} {args : List AV} {m : Mem} {K : AV → Mem → Prop} (hm : clM m)
    (h : CallA1 S g args m fun v m' => ∃ R : Mem,m' = m ++ R ∧ v.inB (fun j =>decide (j < m.length)) = true ∧ K v m) : CallA1 S g args m K:=by
  refine CallA1.finU hm [] rfl (h.mono ?_)
  rintro v m' ⟨R,rfl,h1,h2⟩
  refine ⟨[],R,rfl,fun y hy =>by (cases hy),fun i hi =>by (cases hi),inB_mono (fun j hj =>inK_old (of_decide_eq_true hj)) v h1,?_⟩
  rw [kp_id rfl h1]
  simpa [renW,oldE,applyWr,keepM] using h2
end AH
set_option linter.unusedSimpArgs false
namespace AH.Seq
open Go
section
variable {F : Fence} {n : Nat} {P : Program} (w : World) {ops : Array Oper} {rest : List Oper} {o : Oper} {a : Act} {Q : Exit → Act → World → Prop}
theorem wpListIn_range_raw (hg : o.guard = none) (m : Operand) (t : TypeId) (hop : o.op = Op.range t m) (k e : TypeId) (ht : P.underlying t = some (.map k e)) (bm : Nat) (us : Array MapEntry) (c : Nat) (hm : a.eval m = .map (some bm)) (hb : w.heap[bm]? = some (.map us c))
    (hK : wpListIn F n P ops Q rest (a.put o.dst (.pointer (some ⟨w.heap.size,0,none⟩))) (w.alloc (.mapIter (some bm) c #[] c))) : wpListIn F n P ops Q (o :: rest) a w:=by
  refine wpListIn_plain hg fun K' hK' => ?_
  unfold Oper.wpIn
  refine ⟨?_,?_⟩
  · simp [Oper.about,hop]
  · rw [Oper.semAt_plain F _ _ (by rw [hop]; intro c hc'; cases hc')]
    simp [execOp,hop,hm,run_range_map w t k e bm us c ht hb,Result.andThen]
    exact hK' _ _ hK
theorem wpListIn_next_raw (hg : o.guard = none) (it : Operand) (hop : o.op = Op.next it false) (r bm since last : Nat) (seen : Array Nat) (us : Array MapEntry) (c : Nat) (hit : a.eval it = .pointer (some ⟨r,0,none⟩)) (h1 : w.heap[r]? = some (.mapIter (some bm) since seen last)) (h2 : w.heap[bm]? = some (.map us c))
    (hne : r ≠ bm) (hold : ∀ x ∈ us.toList,x.born < since) (hsl : since ≤ last) (hnd : ∀ x ∈ us.toList,∀ y ∈ us.toList,x.born = y.born → x = y)
    (hDone : (leftOf us seen).size = 0 → wpListIn F n P ops Q rest (a.put o.dst (.tuple #[.bool false])) w)
    (hMore : ∀ e ∈ (leftOf us seen).toList,∀ w' : World,w.grownBy w' (some r) → w'.heap.size = w.heap.size → w'.heap[r]? = some (.mapIter (some bm) since (seen.push e.born) c) → w'.heap[bm]? = some (.map us c) →
      (Instr.entry (.pointer (some ⟨r,0,none⟩))).run P w' = .ok (.tuple #[e.key,e.val]) w' → wpListIn F n P ops Q rest (a.put o.dst (.tuple #[.bool true,e.key,e.val])) w') :
    wpListIn F n P ops Q (o :: rest) a w:=by
  refine wpListIn_plain hg fun K' hK' => ?_
  unfold Oper.wpIn
  refine ⟨by simp [Oper.about,hop],?_⟩
  rw [Oper.semAt_plain F _ _ (by rw [hop]; intro c hc'; cases hc')]
  have hrb:=(Array.getElem?_eq_some_iff.1 h1).1
  simp only [execOp,hop,hit,Instr.next,getObj,Sem.run_bind,Sem.run,h1,h2,Result.andThen,next_test_false seen us since last hold hsl,Bool.false_eq_true,if_false]
  unfold leftOf at hDone hMore
  have hmem : ∀ x ∈ (Array.filter (fun e => !seen.contains e.born) us).toList,x.born < since:=fun x hx =>hold x (by simp at hx ⊢; exact hx.1)
  have hsub : ∀ x ∈ (Array.filter (fun e => !seen.contains e.born) us).toList,x ∈ us.toList:=fun x hx =>by simp at hx ⊢; exact hx.1
  generalize Array.filter (fun e => !seen.contains e.born) us = L at hmem hsub hDone hMore ⊢
  have e1 : L.filter (fun x =>decide (x.born < since)) = L:=Array.filter_eq_self.2 (fun x hx =>by simpa using hmem x (by simpa using hx))
  have e2 : L.filter (fun x =>decide (x.born ≥ since)) = #[]:=by
    rw [Array.filter_eq_empty_iff]
    intro x hx
    have:=hmem x (by simpa using hx)
    simp
    omega
  simp only [e1,e2,Array.append_empty]
  by_cases h0 : L.size = 0
  · have : L = #[]:=Array.eq_empty_of_size_eq_zero h0
    subst this
    simp [choose,Sem.run,Question.forced]
    exact hK' _ _ (hDone rfl)
  · have hne' : L.isEmpty = false:=by simp [Array.isEmpty,h0]
    simp only [hne',Bool.false_eq_true,if_false,Array.empty_append,Array.size_map]
    have hch : ∃ (j q : Nat),j < L.size ∧ (choose (Question.mapNext L.size)).run P w = .ok j (w.drewN q):=by
      by_cases hf : L.size ≤ 1
      · exact ⟨0,0,by omega,by simp [choose,Sem.run,Question.forced,hf,World.drewN]⟩
      · exact ⟨_,1,Nat.mod_lt _ (by omega),by
          simp only [choose,Sem.run,Question.forced,decide_eq_true_eq,hf,if_false,Question.cut]
          rfl⟩
    obtain ⟨j,q,hj,hrun⟩:=hch
    have hm:=hsub L[j] (by simp)
    have h1' : (w.drewN q).heap[r]? = some (.mapIter (some bm) since seen last):=h1
    let w' : World:={ w.drewN q with heap:=w.heap.setIfInBounds r (.mapIter (some bm) since (seen.push L[j].born) c) }
    have hg' : w.grownBy w' (some r):=⟨rfl,rfl,rfl,by simp [w'],fun k hk hkr =>by
      show (w.heap.setIfInBounds r _)[k]? = _
      rw [Array.getElem?_setIfInBounds_ne (fun q =>hkr (by rw [q]))]⟩
    have hr' : w'.heap[r]? = some (.mapIter (some bm) since (seen.push L[j].born) c):=by
      show (w.heap.setIfInBounds r _)[r]? = _
      rw [Array.getElem?_setIfInBounds_self_of_lt hrb]
    have hb' : w'.heap[bm]? = some (.map us c):=by
      show (w.heap.setIfInBounds r _)[bm]? = _
      rw [Array.getElem?_setIfInBounds_ne hne]; exact h2
    have hfind : us.find? (fun u =>u.born == L[j].born) = some L[j]:=by
      rw [← Array.find?_toList]
      cases hq : us.toList.find? (fun u =>u.born == L[j].born) with
      | none =>exact absurd (List.find?_eq_none.1 hq L[j] hm) (by simp)
      | some y =>
        have h3:=List.find?_some hq
        have h4:=List.mem_of_find?_eq_some hq
        simp only [beq_iff_eq] at h3
        rw [hnd y h4 L[j] hm h3]
    have hen : (Instr.entry (.pointer (some ⟨r,0,none⟩))).run P w' = .ok (.tuple #[L[j].key,L[j].val]) w':=by
      have hback : (seen.push L[j].born).back? = some L[j].born:=by simp
      simp only [Instr.entry,getObj,Sem.run_bind,Sem.run,hr',Result.andThen,hback,hb',bne_self_eq_false,Bool.false_eq_true,if_false,hfind]
      rfl
    have done:=hMore L[j] (by simp) w' hg' (by simp [w',World.drewN]) hr' hb' hen
    simp only [hrun,Array.getElem?_map,Array.getElem?_eq_getElem hj,Option.map_some,Sem.run_bind,setObj,Sem.run,h1',h1,Result.andThen]
    exact hK' _ _ done
end
structure PartR (us : Array MapEntry) (S : List MapEntry) : Prop where
  sub : ∀ e ∈ S,e ∈ us.toList
  nd : (S.map (·.born)).Nodup
theorem part_0 (us : Array MapEntry) : PartR us []:=⟨fun e h =>by (cases h),List.nodup_nil⟩
theorem left_in {us : Array MapEntry} {S : List MapEntry} {e : MapEntry} (h : e ∈ (leftOf us (S.map (·.born)).toArray).toList) : e ∈ us.toList ∧ e.born ∉ S.map (·.born):=by
  unfold leftOf at h
  simp at h
  refine ⟨by simpa using h.1,fun q => ?_⟩
  obtain ⟨x,hx,hb⟩:=List.mem_map.1 q
  exact h.2 x hx hb
theorem PartR.snoc {us : Array MapEntry} {S : List MapEntry} {e : MapEntry} (h : PartR us S) (he : e ∈ us.toList) (hn : e.born ∉ S.map (·.born)) : PartR us (S ++ [e]):=by
  refine ⟨fun x hx => ?_,?_⟩
  · rcases List.mem_append.1 hx with q | q
    · exact h.sub x q
    · rw [List.mem_singleton.1 q]; exact he
  · rw [List.map_append,List.map_cons,List.map_nil]
    refine List.nodup_append.2 ⟨h.nd,by simp,fun a ha b hb q => ?_⟩
    rw [List.mem_singleton] at hb
    exact hn (by rw [← hb,← q]; exact ha)
theorem nodup_of {α β : Type} (f : α → β) : ∀ {l : List α},(l.map f).Nodup → l.Nodup
  | [],_ =>List.nodup_nil
  | x :: r,h =>by
    rw [List.map_cons,List.nodup_cons] at h
    exact List.nodup_cons.2 ⟨fun q =>h.1 (List.mem_map_of_mem q),nodup_of f h.2⟩
theorem born_inj {us : Array MapEntry} (hnd : (us.toList.map (·.born)).Nodup) : ∀ x ∈ us.toList,∀ y ∈ us.toList,x.born = y.born → x = y:=by
  have gen : ∀ l : List MapEntry,(l.map (·.born)).Nodup → ∀ x ∈ l,∀ y ∈ l,x.born = y.born → x = y:=fun l =>by
    induction l with
    | nil =>intro _ x hx; cases hx
    | cons z r ih =>
      intro h x hx y hy hb
      rw [List.map_cons,List.nodup_cons] at h
      rcases List.mem_cons.1 hx with rfl | hx2 <;> rcases List.mem_cons.1 hy with rfl | hy2
      · rfl
      · exact absurd (by rw [hb]; exact List.mem_map_of_mem (f:=(·.born)) hy2) h.1
      · exact absurd (by rw [← hb]; exact List.mem_map_of_mem (f:=(·.born)) hx2) h.1
      · exact ih h.2 x hx2 y hy2 hb
  exact gen _ hnd
theorem PartR.all {us : Array MapEntry} {S : List MapEntry} (h : PartR us S) (hnd : (us.toList.map (·.born)).Nodup) (h0 : (leftOf us (S.map (·.born)).toArray).size = 0) : S.Perm us.toList:=by
  refine (List.perm_ext_iff_of_nodup (nodup_of _ h.nd) (nodup_of _ hnd)).2 fun e =>⟨h.sub e,fun he => ?_⟩
  by_cases q : e.born ∈ S.map (·.born)
  · obtain ⟨x,hx,hb⟩:=List.mem_map.1 q
    rw [← born_inj hnd x (h.sub x hx) e he hb]; exact hx
  · have : e ∈ (leftOf us (S.map (·.born)).toArray).toList:=by
      unfold leftOf
      simp
      exact ⟨by simpa using he,fun x hx hb =>q (hb ▸ List.mem_map_of_mem hx)⟩
    rw [Array.size_eq_zero_iff] at h0
    rw [h0] at this
    simp at this
theorem PartR.len {us : Array MapEntry} {S : List MapEntry} (h : PartR us S) : S.length ≤ us.size:=by
  have : S.length ≤ us.toList.length:=(nodup_of _ h.nd).length_le_of_subset h.sub
  simpa using this
def leftW (us : Array MapEntry) (r : Nat) (w : World) : Nat:=match w.heap[r]? with
  | some (.mapIter _ _ seen _) =>us.size - seen.size
  | _ => 0
theorem leftW_eq {us : Array MapEntry} {r since last : Nat} {m : Option Nat} {seen : Array Nat} {w : World} (h : w.heap[r]? = some (.mapIter m since seen last)) : leftW us r w = us.size - seen.size:=by
  unfold leftW; rw [h]
structure C4 where
  a : Value
  b : Value
  c : Value
  d : Value
  h : a.oneCell' = true ∧ b.oneCell' = true ∧ c.oneCell' = true ∧ d.oneCell' = true
def C4.cells (x : C4) : List Value:=[x.a,x.b,x.c,x.d]
def C4.av (x : C4) : Value:=.agg #[x.a,x.b,x.c,x.d]
theorem run_store_top {P : Program} (W : World) (n : Nat) (hn : n = W.heap.size) (t : TypeId) (arr : Array Value) (i : Nat) (hi : i < arr.size) (v : Value) (hv : v.oneCell' = true) :
    (store ⟨n,i,none⟩ v).run P (W.alloc (.cells arr t)) = .ok () (W.alloc (.cells (arr.setIfInBounds i v) t)):=by
  subst hn
  have hb : (W.alloc (.cells arr t)).heap[W.heap.size]? = some (.cells arr t (0,0)):=World.alloc_heap_new W _
  have hc : (W.alloc (.cells arr t)).cell? ⟨W.heap.size,i,none⟩ = some arr[i]:=by
    unfold World.cell?
    simp only [hb,Option.isSome_none,Bool.false_eq_true,if_false]
    exact Array.getElem?_eq_getElem hi
  have hf : (W.alloc (.cells arr t)).frozen? ⟨W.heap.size,i,none⟩ = false:=by
    unfold World.frozen?
    simp only [hb]
    simp
  rw [run_store _ _ _ _ _ hv,hc,hf]
  simp only [Bool.false_eq_true,if_false,Result.ok.injEq,true_and]
  simp only [World.setCell,World.alloc,World.mk.injEq,and_true]
  refine Array.ext (by simp) fun j h1 h2 => ?_
  rw [Array.getElem_modify]
  by_cases q : W.heap.size = j
  · subst q
    simp
  · simp only [if_neg q]
    simp only [Array.size_push] at h2
    rw [Array.getElem_push_lt (by omega),Array.getElem_push_lt (by omega)]
theorem run_store4 {P : Program} {β : Type} (W : World) (n : Nat) (hn : W.heap.size = n) (t : TypeId) (z1 z2 z3 z4 a b c d : Value) (h : a.oneCell' = true ∧ b.oneCell' = true ∧ c.oneCell' = true ∧ d.oneCell' = true) (K : Unit → World → Result β) :
    (((Sem.run P (store ⟨n,0,none⟩ a) (W.alloc (.cells #[z1,z2,z3,z4] t))).andThen fun _ w' =>(Sem.run P (store ⟨n,1,none⟩ b) w').andThen fun _ w' =>(Sem.run P (store ⟨n,2,none⟩ c) w').andThen fun _ w' =>Sem.run P (store ⟨n,3,none⟩ d) w').andThen K) = K () (W.alloc (.cells #[a,b,c,d] t)):=by
  rw [run_store_top W n hn.symm t #[z1,z2,z3,z4] 0 (by simp) a h.1,Result.andThen_ok]
  show (((Sem.run P (store ⟨n,1,none⟩ b) (W.alloc (.cells #[a,z2,z3,z4] t))).andThen _).andThen K) = _
  rw [run_store_top W n hn.symm t #[a,z2,z3,z4] 1 (by simp) b h.2.1,Result.andThen_ok]
  show (((Sem.run P (store ⟨n,2,none⟩ c) (W.alloc (.cells #[a,b,z3,z4] t))).andThen _).andThen K) = _
  rw [run_store_top W n hn.symm t #[a,b,z3,z4] 2 (by simp) c h.2.2.1,Result.andThen_ok]
  show ((Sem.run P (store ⟨n,3,none⟩ d) (W.alloc (.cells #[a,b,c,z4] t))).andThen K) = _
  rw [run_store_top W n hn.symm t #[a,b,c,z4] 3 (by simp) d h.2.2.2,Result.andThen_ok]
  rfl
theorem cell_new (W : World) (t : TypeId) (arr : List Value) : ∀ (j : Nat) (u : Value),arr[j]? = some u → (W.alloc (.cells arr.toArray t)).cell? ((⟨W.heap.size,0,none⟩ : Addr).add j) = some u:=fun j u h =>by
  have hb : (W.alloc (.cells arr.toArray t)).heap[W.heap.size]? = some (.cells arr.toArray t (0,0)):=World.alloc_heap_new W _
  rw [AH.add_lit]
  unfold World.cell?
  simp only [hb,Option.isSome_none,Bool.false_eq_true,if_false,Nat.zero_add]
  simpa using h
theorem keepsWalks_of {W W' : World} (h : KeepsOthers W W') : KeepsWalks W W':=⟨h.size,fun k o hk ho =>h.same k o hk (Obj.not_cells_of_walk ho)⟩
section
open AH
variable {T : TypeId} {eb : Nat → Addr} {φ : Emb}
theorem er_perm {us S : List MapEntry} (h : S.Perm us) : ∀ {es : List (AV × AV × Nat)},ER T eb φ es us → ∃ es',es'.Perm es ∧ ER T eb φ es' S:=by
  have h':=h.symm
  clear h
  induction h' with
  | nil =>intro es he; exact ⟨es,.refl _,he⟩
  | cons x _ ih =>
    intro es he
    cases he with
    | cons k v s a b es us hk hv hr =>
      obtain ⟨es',p,q⟩:=ih hr
      exact ⟨(k,v,s) :: es',p.cons _,.cons _ _ _ _ _ _ _ hk hv q⟩
  | swap x y l =>
    intro es he
    cases he with
    | cons k v s a b es us hk hv hr =>
      cases hr with
      | cons k2 v2 s2 a2 b2 es us hk2 hv2 hr =>
        exact ⟨_,.swap _ _ _,.cons _ _ _ _ _ _ _ hk2 hv2 (.cons _ _ _ _ _ _ _ hk hv hr)⟩
  | trans _ _ h1 h2 =>
    intro es he
    obtain ⟨e1,p1,q1⟩:=h1 he
    obtain ⟨e2,p2,q2⟩:=h2 q1
    exact ⟨e2,p2.trans p1,q2⟩
theorem er_born {es : List (AV × AV × Nat)} {us : List MapEntry} (h : ER T eb φ es us) : us.map (·.born) = es.map (·.2.2):=by
  induction h with
  | nil =>rfl
  | cons _ _ _ _ _ _ _ _ _ _ ih =>simp only [List.map_cons,ih]
theorem er_len {es : List (AV × AV × Nat)} {us : List MapEntry} (h : ER T eb φ es us) : us.length = es.length:=by
  have:=congrArg List.length (er_born h)
  simpa using this
def cellsOf : AV → List AV
  | .agg cs =>cs
  | _ => []
theorem c4_of {cs : List AV} {u : Value} (h : VR T eb φ (.agg cs) u) (h4 : cs.length = 4) : ∃ x : C4,u = x.av ∧ VRs T eb φ cs x.cells:=by
  cases h with
  | agg _ us h h1 =>
    obtain ⟨us⟩:=us
    have hl:=h.length
    match us,h,h1,hl with
    | [a,b,c,d],h,h1,_ =>exact ⟨⟨a,b,c,d,h1 a (by simp),h1 b (by simp),h1 c (by simp),h1 d (by simp)⟩,rfl,h⟩
    | [],_,_,hl =>simp only [List.length_nil] at hl; omega
    | [_],_,_,hl =>simp at hl; omega
    | [_,_],_,_,hl =>simp at hl; omega
    | [_,_,_],_,_,hl =>simp at hl; omega
    | _ :: _ :: _ :: _ :: _ :: _,_,_,hl =>simp at hl; omega
open Classical in
noncomputable def c4 (u : Value) : C4:=if h : ∃ x : C4,u = x.av then choose h else ⟨.int .i64 0,.int .i64 0,.int .i64 0,.int .i64 0,by decide⟩
theorem c4_eq {u : Value} (h : ∃ x : C4,u = x.av) : u = (c4 u).av:=by
  unfold c4
  rw [dif_pos h]
  exact Classical.choose_spec h
theorem C4.av_inj {x y : C4} (h : x.av = y.av) : x = y:=by
  obtain ⟨a,b,c,d,_⟩:=x
  obtain ⟨a',b',c',d',_⟩:=y
  simp only [C4.av,Value.agg.injEq,Array.mk.injEq,List.cons.injEq,and_true] at h
  obtain ⟨rfl,rfl,rfl,rfl⟩:=h
  rfl
theorem row_new4 {w' : World} {xs : List C4} {L : List (List AV)} (hL : L.length = xs.length) (hx : ∀ (i : Nat) cs x,L[i]? = some cs → xs[i]? = some x → VRs T eb φ cs x.cells) {v : Value} {e : TypeId} {base : Nat} (h : w'.ownsRow base e 4 v xs.length (xs.flatMap C4.cells)) (hne : xs ≠ []) :
    ∃ g cap cur,v = .slice (some ⟨g,0,none⟩) xs.length cap ∧ base ≤ g ∧ w'.heap[g]? = some (.cells cur e (0,0)) ∧ xs.length ≤ cap ∧ cur.size = cap * 4 ∧
      ∀ (φ' : Emb) (n : Nat),φ.Ext φ' → φ'.k n = 4 → φ'.base n = 0 → φ'.size n = cap * 4 → BR T eb φ' n (.row false 4 L) (.cells cur e (0,0)):=by
  obtain ⟨_,h | ⟨g,cap,cur,rfl,h1,h2,h3,_,h5,h6⟩⟩:=h
  · exact absurd (List.eq_nil_of_length_eq_zero h.2) hne
  · refine ⟨g,cap,cur,rfl,h1,h2,h3,h5,fun φ' n ext k1 k2 k3 =>⟨cur,e,(0,0),rfl,k1,by rw [k3,h5],by rw [k2,h5,hL]; omega,fun _ p _ =>by simp,fun i el hi => ?_⟩⟩
    have hil : i < xs.length:=by have:=(List.getElem?_eq_some_iff.1 hi).1; omega
    have hxi : xs[i]? = some xs[i]:=List.getElem?_eq_getElem hil
    have hr:=hx i el xs[i] hi hxi
    have hlen : el.length = 4:=by rw [hr.length]; rfl
    refine ⟨hlen,fun j v hv => ?_⟩
    obtain ⟨u,hu,hru⟩:=(hr.mono ext).get j v hv
    have hj : j < 4:=by have:=(List.getElem?_eq_some_iff.1 hv).1; omega
    have hfl : ∀ (l : List C4) (i j : Nat) (hi : i < l.length),j < 4 → (l.flatMap C4.cells)[i * 4 + j]? = (l[i]).cells[j]?:=fun l =>by
      induction l with
      | nil =>intro i j hi; simp at hi
      | cons y r ih =>
        intro i j hi hj
        have e : (y :: r).flatMap C4.cells = y.cells ++ r.flatMap C4.cells:=rfl
        have e4 : y.cells.length = 4:=rfl
        rw [e]
        cases i with
        | zero =>rw [List.getElem?_append_left (by omega),Nat.zero_mul,Nat.zero_add]; rfl
        | succ i =>rw [List.getElem?_append_right (by omega),e4,show (i + 1) * 4 + j - 4 = i * 4 + j by omega,ih i j (by simpa using hi) hj]; rfl
    have h7 : (cur.toList.take (xs.length * 4))[i * 4 + j]? = some u:=by rw [h6,hfl xs i j hil hj,hu]
    rw [List.getElem?_take_of_lt (by omega)] at h7
    have hone : u.oneCell' = true:=by
      have gen : ∀ x : C4,u ∈ x.cells → u.oneCell' = true:=fun x hx =>by
        obtain ⟨a,b,c,d,⟨ha,hb,hc,hd⟩⟩:=x
        simp only [C4.cells,List.mem_cons,List.not_mem_nil,or_false] at hx
        rcases hx with rfl | rfl | rfl | rfl <;> assumption
      exact gen _ (List.mem_of_getElem? hu)
    refine ⟨u,?_,hru,hone⟩
    rw [k2,Nat.zero_add,← Array.getElem?_toList]
    exact h7
end
theorem callRes_of {S : AH.Sys} {g : FuncId} {fn : Func} {us : Array Value} {w : World} {R : Value → World → Prop} (hf : S.P.funcs[g]? = some fn) (hb : fn.body.isSome = true) (hn : (fn.name == "runtime.NumGoroutine") = false)
    (h : Calls S.P g us w fun e w' => ∃ v,e = .returned v ∧ R v w') : AH.CallRes S.P g us w R:=by
  unfold CallRes
  have : (callFunc g us).run S.P w = .ok (.enter g us) w:=by
    have hb' : fn.body ≠ none:=by intro q; rw [q] at hb; cases hb
    have hn' : ¬ fn.name = "runtime.NumGoroutine" := by simpa using hn
    simp [callFunc,hf,hn',hb']
  rw [this]
  exact h
theorem perm_map_inv {α β : Type} {f : α → β} : ∀ (L : List α) {l : List β},l.Perm (L.map f) → ∃ L' : List α,L'.Perm L ∧ l = L'.map f
  | [],l,h =>⟨[],.refl _,h.eq_nil⟩
  | x :: r,l,h =>by
    have hx : f x ∈ l:=h.mem_iff.2 (by simp)
    obtain ⟨a,b,rfl⟩:=List.append_of_mem hx
    have h2 : (a ++ b).Perm (r.map f):=(List.perm_middle.symm.trans h).cons_inv
    obtain ⟨L',p,q⟩:=perm_map_inv r h2
    obtain ⟨A,B,rfl,rfl,rfl⟩:=List.append_eq_map_iff.1 q
    exact ⟨A ++ x :: B,List.perm_middle.trans (p.cons x),by simp⟩
end AH.Seq
