import Derived.Test.YtcmnchmkoghfdaaDoorFrmEC05h
open Go AH
set_option linter.unusedSimpArgs false
set_option maxRecDepth 100000
namespace Go.Proofs.YtcmnchmkoghfdaaDoor.C05h
/-- The fault that tells of a block. -/
def frmS : ByteArray := ⟨#[102, 114, 97, 109, 101]⟩
def wrM (i : Int) : Mem := [some (.row false 3 [[.str frmS, .int .i64 i, .err 2]])]
def wrA : AV := .ifc 88 (.ptr 0 0 0)
theorem wrong_ok (i : Int) : CallA1 S0 45 [.int .i64 i] [] fun r m => r = wrA ∧ m = wrM i := by
  refine fun_sound okF0 Tryd.func45 c45 ?_
  unfold wpF F45
  simp only [AH.SD, AH.wpOp, AOp.call?, AOp.next?, bstep, AOp.map, Opd.ev, tget, argTm, evs, AV.cells, St.eff, St.put, applyWr, mset, terase, pureE, unAV, intOp, binAV, fill, mget, AH.rowAt, AH.part, retQ, rvs, retV, AH.splice, AH.sliceElems, AH.bytesOf, AH.strOp, AH.bound, AH.addLog, AH.missQ, AH.minmaxAV, AH.wpOpD, AH.readOf, AH.effOf, AH.mapAt, AH.iterAt, Nat.reduceBEq, Nat.reduceAdd, Nat.reduceLT, ↓reduceIte, Nat.reduceEqDiff, Nat.reduceLeDiff, Nat.reduceSub, Nat.reduceMul, Int.reduceSub, Int.reduceToNat, Int.reduceBEq, Int.reduceBNe, Int.reduceLT, Int.reduceGT, Int.reduceLE, Int.reduceGE, Int.reduceNeg, Int.reduceAdd, AH.PD, heads, distN, AH.inN, posN, packM, packB, packTm, liveB, AV.inB, AV.insB, AV.ren, AV.rens, Blk.ren, Blk.inB, vstep, tput, vw, shift, newOnes, rowsM, blkIn, rwB, @flat_lts, AV.lt, AV.lts, Nat.sub_self, AH.rtO_eq, AH.rtO2_eq, AH.rtO2_none, AH.etO_eq, AH.etO2_eq, AH.etO2_none, AH.useO_some, AH.rtElse_eq, AH.elseO_some, AH.elseO_none, AH.etN_eq, Option.bind_some, Option.bind_none, AH.pairO_some, AH.pairO_none, AH.cC_dec, AH.cC_nil, AH.c0_dec, AH.c0_dec1, AH.aI_dec, AH.aS_dec, AH.aB_dec, AH.aNil_dec, AH.aNil_ptr, Option.map_none, effS, wrS, newS, backNo, AH.isIn, AH.posOf, AH.rwB, List.all_cons, List.all_nil, List.getElem?_cons_zero, List.getElem?_cons_succ, List.getElem?_nil, AH.appE_some, List.contains_cons, List.contains_nil, Nat.add_zero, wrM, wrA, frmS]
def wrT : ET := etN (cC (aI .i64) c0) fun x => some (wrA, wrM x.1)
theorem wrT_ok : EffF S0 45 wrT := etN_ok fun x v m' h => by
  simp only [Option.some.injEq, Prod.mk.injEq] at h
  obtain ⟨rfl, rfl⟩ := h
  exact ⟨rfl, wrong_ok x.1⟩
theorem wrT_eq {i : Int} {M : Nat → Option Blk} {n : Nat} : wrT [.int .i64 i] M n = some (effS [] n wrA (wrM i), 1) := by
  simp only [wrT, etN_eq, cC_dec, aI_dec, c0_dec, pairO_some, Option.bind_some, useO_some]; rfl
end Go.Proofs.YtcmnchmkoghfdaaDoor.C05h
