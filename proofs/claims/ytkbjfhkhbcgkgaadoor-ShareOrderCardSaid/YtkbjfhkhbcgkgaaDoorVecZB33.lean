import Derived.Test.YtkbjfhkhbcgkgaaDoorVGB33
open Go AH
set_option linter.unusedSimpArgs false
set_option maxRecDepth 100000
namespace Go.Proofs.YtkbjfhkhbcgkgaaDoor.B33
theorem isNaN_ok (x : Int) : Pure S0 67 [.int .i64 x] (.bool false):=by
  refine fun_sound okZ Tryd.func67 c67 ?_
  unfold wpF F67
  simp only [AH.SD,AH.SE,AOp.call?,AOp.next?,bstep,AV.cells,unAV,binAV,retQ,retV,AH.sliceElems,AH.bytesOf,AH.strOp,AH.bound,AH.missQ,AH.minmaxAV,AH.readOf,AH.effOf,Nat.reduceBEq,Nat.reduceAdd,Nat.reduceLT,↓reduceIte,Nat.reduceEqDiff,Nat.reduceLeDiff,Nat.reduceSub,Nat.reduceMul,Int.reduceSub,Int.reduceToNat,Int.reduceBEq,Int.reduceBNe,Int.reduceLT,Int.reduceGT,Int.reduceLE,Int.reduceGE,Int.reduceNeg,Int.reduceAdd,bne_self_eq_false]
def isNaNT : RT:=rtP (cC (aI .i64) c0) fun _ => .bool false
theorem isNaNT_ok : ReadF S0 67 isNaNT:=rtP_ok (fun x =>isNaN_ok x.1) fun _ =>rfl
theorem isNaNT_eq (n : Int) (M : Nat → Option Blk) : isNaNT [.int .i64 n] M = some (.bool false,[]):=rfl
def cmpZ (x y : Int) : Int:=if x < y then -1 else if x > y then 1 else 0
theorem cmp_ok (x y : Int) : Pure S0 54 [.int .i64 x,.int .i64 y] (.int .i64 (cmpZ x y)):=by
  have ok : CtxOK S0 (ctxU S0 [(67,isNaNT)] []):=ctxU_ok ⟨isNaNT_ok,trivial⟩ trivial mixed
  refine fun_sound ok Tryd.func54 c54 ?_
  unfold wpF F54
  simp only [AH.SD,AH.SE,AOp.call?,AOp.next?,bstep,AV.cells,unAV,binAV,retQ,retV,AH.sliceElems,AH.bytesOf,AH.strOp,AH.bound,AH.missQ,AH.minmaxAV,AH.readOf,AH.effOf,Nat.reduceBEq,Nat.reduceAdd,Nat.reduceLT,↓reduceIte,Nat.reduceEqDiff,Nat.reduceLeDiff,Nat.reduceSub,Nat.reduceMul,Int.reduceSub,Int.reduceToNat,Int.reduceBEq,Int.reduceBNe,Int.reduceLT,Int.reduceGT,Int.reduceLE,Int.reduceGE,Int.reduceNeg,Int.reduceAdd,isNaNT_eq]
  refine ⟨fun h => ?_,fun h => ?_⟩
  · simp only [decide_eq_true_eq] at h
    simp only [AH.SD,AH.SE,AOp.call?,AOp.next?,bstep,AV.cells,unAV,binAV,retQ,retV,AH.sliceElems,AH.bytesOf,AH.strOp,AH.bound,AH.missQ,AH.minmaxAV,AH.readOf,AH.effOf,Nat.reduceBEq,Nat.reduceAdd,Nat.reduceLT,↓reduceIte,Nat.reduceEqDiff,Nat.reduceLeDiff,Nat.reduceSub,Nat.reduceMul,Int.reduceSub,Int.reduceToNat,Int.reduceBEq,Int.reduceBNe,Int.reduceLT,Int.reduceGT,Int.reduceLE,Int.reduceGE,Int.reduceNeg,Int.reduceAdd,cmpZ,h]
  · simp only [decide_eq_false_iff_not] at h
    simp only [AH.SD,AH.SE,AOp.call?,AOp.next?,bstep,AV.cells,unAV,binAV,retQ,retV,AH.sliceElems,AH.bytesOf,AH.strOp,AH.bound,AH.missQ,AH.minmaxAV,AH.readOf,AH.effOf,Nat.reduceBEq,Nat.reduceAdd,Nat.reduceLT,↓reduceIte,Nat.reduceEqDiff,Nat.reduceLeDiff,Nat.reduceSub,Nat.reduceMul,Int.reduceSub,Int.reduceToNat,Int.reduceBEq,Int.reduceBNe,Int.reduceLT,Int.reduceGT,Int.reduceLE,Int.reduceGE,Int.reduceNeg,Int.reduceAdd]
    refine ⟨fun g => ?_,fun g => ?_⟩
    · simp only [decide_eq_true_eq] at g
      simp only [AH.SD,AH.SE,AOp.call?,AOp.next?,bstep,AV.cells,unAV,binAV,retQ,retV,AH.sliceElems,AH.bytesOf,AH.strOp,AH.bound,AH.missQ,AH.minmaxAV,AH.readOf,AH.effOf,Nat.reduceBEq,Nat.reduceAdd,Nat.reduceLT,↓reduceIte,Nat.reduceEqDiff,Nat.reduceLeDiff,Nat.reduceSub,Nat.reduceMul,Int.reduceSub,Int.reduceToNat,Int.reduceBEq,Int.reduceBNe,Int.reduceLT,Int.reduceGT,Int.reduceLE,Int.reduceGE,Int.reduceNeg,Int.reduceAdd,cmpZ,h,if_false,g]
    · simp only [decide_eq_false_iff_not] at g
      simp only [AH.SD,AH.SE,AOp.call?,AOp.next?,bstep,AV.cells,unAV,binAV,retQ,retV,AH.sliceElems,AH.bytesOf,AH.strOp,AH.bound,AH.missQ,AH.minmaxAV,AH.readOf,AH.effOf,Nat.reduceBEq,Nat.reduceAdd,Nat.reduceLT,↓reduceIte,Nat.reduceEqDiff,Nat.reduceLeDiff,Nat.reduceSub,Nat.reduceMul,Int.reduceSub,Int.reduceToNat,Int.reduceBEq,Int.reduceBNe,Int.reduceLT,Int.reduceGT,Int.reduceLE,Int.reduceGE,Int.reduceNeg,Int.reduceAdd,cmpZ,h,if_false,g]
def cmpT : RT:=rtP (cC (aI .i64) (cC (aI .i64) c0)) fun x => .int .i64 (cmpZ x.1 x.2.1)
theorem cmpT_ok : ReadF S0 54 cmpT:=rtP_ok (fun x =>cmp_ok x.1 x.2.1) fun _ =>rfl
theorem cmpT_eq (x y : Int) (M : Nat → Option Blk) : cmpT [.int .i64 x,.int .i64 y] M = some (.int .i64 (cmpZ x y),[]):=rfl
end Go.Proofs.YtkbjfhkhbcgkgaaDoor.B33
