import Derived.Test.YtkbjfhkhbcgkgaaDoorVecZB33
open Go AH
set_option linter.unusedSimpArgs false
set_option maxRecDepth 100000
namespace Go.Proofs.YtkbjfhkhbcgkgaaDoor.B33
theorem good_of (v : V4) : good v = !((decide (v.a < 0) || decide (v.a > 1099511627776)) || ((decide (v.b < 0) || decide (v.b > 1099511627776)) || ((decide (v.c < 0) || decide (v.c > 1099511627776)) || (decide (v.d < 0) || decide (v.d > 1099511627776))))):=by
  simp only [good,V4.l,List.any_cons,List.any_nil,Bool.or_false,bad]
set_option maxRecDepth 100000 in
theorem rgood_ok (v : V4) : Pure S0 25 [v.av] (.bool (good v)):=by
  refine fun_sound okZ Tryd.func25 c25 ?_
  unfold wpF F25
  simp only [AH.SD,AH.SE,AOp.call?,AOp.next?,bstep,AV.cells,unAV,binAV,retQ,retV,AH.sliceElems,AH.bytesOf,AH.strOp,AH.bound,AH.missQ,AH.minmaxAV,AH.readOf,AH.effOf,Nat.reduceBEq,Nat.reduceAdd,Nat.reduceLT,↓reduceIte,Nat.reduceEqDiff,Nat.reduceLeDiff,Nat.reduceSub,Nat.reduceMul,Int.reduceSub,Int.reduceToNat,Int.reduceBEq,Int.reduceBNe,Int.reduceLT,Int.reduceGT,Int.reduceLE,Int.reduceGE,Int.reduceNeg,Int.reduceAdd,V4.av]
  refine loop_unroll ctxU_monoB ?_
  simp only [AH.SD,AH.SE,AOp.call?,AOp.next?,bstep,AV.cells,unAV,binAV,retQ,retV,AH.sliceElems,AH.bytesOf,AH.strOp,AH.bound,AH.missQ,AH.minmaxAV,AH.readOf,AH.effOf,Nat.reduceBEq,Nat.reduceAdd,Nat.reduceLT,↓reduceIte,Nat.reduceEqDiff,Nat.reduceLeDiff,Nat.reduceSub,Nat.reduceMul,Int.reduceSub,Int.reduceToNat,Int.reduceBEq,Int.reduceBNe,Int.reduceLT,Int.reduceGT,Int.reduceLE,Int.reduceGE,Int.reduceNeg,Int.reduceAdd]
  repeat (refine ⟨by first | rfl | decide | omega | (simp only [List.length_map,List.length_set,and_true]; omega),?_⟩)
  cases a1 : decide (v.a < 0)
  rotate_left
  · simp only [AH.SD,AH.SE,AOp.call?,AOp.next?,bstep,AV.cells,unAV,binAV,retQ,retV,AH.sliceElems,AH.bytesOf,AH.strOp,AH.bound,AH.missQ,AH.minmaxAV,AH.readOf,AH.effOf,Nat.reduceBEq,Nat.reduceAdd,Nat.reduceLT,↓reduceIte,Nat.reduceEqDiff,Nat.reduceLeDiff,Nat.reduceSub,Nat.reduceMul,Int.reduceSub,Int.reduceToNat,Int.reduceBEq,Int.reduceBNe,Int.reduceLT,Int.reduceGT,Int.reduceLE,Int.reduceGE,Int.reduceNeg,Int.reduceAdd,good_of,a1,Bool.true_or,Bool.not_true]
  cases a2 : decide (v.a > 1099511627776)
  rotate_left
  · simp only [AH.SD,AH.SE,AOp.call?,AOp.next?,bstep,AV.cells,unAV,binAV,retQ,retV,AH.sliceElems,AH.bytesOf,AH.strOp,AH.bound,AH.missQ,AH.minmaxAV,AH.readOf,AH.effOf,Nat.reduceBEq,Nat.reduceAdd,Nat.reduceLT,↓reduceIte,Nat.reduceEqDiff,Nat.reduceLeDiff,Nat.reduceSub,Nat.reduceMul,Int.reduceSub,Int.reduceToNat,Int.reduceBEq,Int.reduceBNe,Int.reduceLT,Int.reduceGT,Int.reduceLE,Int.reduceGE,Int.reduceNeg,Int.reduceAdd,good_of,a1,a2,Bool.true_or,Bool.or_true,Bool.not_true]
  simp only [AH.SD,AH.SE,AOp.call?,AOp.next?,bstep,AV.cells,unAV,binAV,retQ,retV,AH.sliceElems,AH.bytesOf,AH.strOp,AH.bound,AH.missQ,AH.minmaxAV,AH.readOf,AH.effOf,Nat.reduceBEq,Nat.reduceAdd,Nat.reduceLT,↓reduceIte,Nat.reduceEqDiff,Nat.reduceLeDiff,Nat.reduceSub,Nat.reduceMul,Int.reduceSub,Int.reduceToNat,Int.reduceBEq,Int.reduceBNe,Int.reduceLT,Int.reduceGT,Int.reduceLE,Int.reduceGE,Int.reduceNeg,Int.reduceAdd,a1,a2]
  repeat (refine ⟨by first | rfl | decide | omega | (simp only [List.length_map,List.length_set,and_true]; omega),?_⟩)
  refine loop_unroll ctxU_monoB ?_
  simp only [AH.SD,AH.SE,AOp.call?,AOp.next?,bstep,AV.cells,unAV,binAV,retQ,retV,AH.sliceElems,AH.bytesOf,AH.strOp,AH.bound,AH.missQ,AH.minmaxAV,AH.readOf,AH.effOf,Nat.reduceBEq,Nat.reduceAdd,Nat.reduceLT,↓reduceIte,Nat.reduceEqDiff,Nat.reduceLeDiff,Nat.reduceSub,Nat.reduceMul,Int.reduceSub,Int.reduceToNat,Int.reduceBEq,Int.reduceBNe,Int.reduceLT,Int.reduceGT,Int.reduceLE,Int.reduceGE,Int.reduceNeg,Int.reduceAdd]
  repeat (refine ⟨by first | rfl | decide | omega | (simp only [List.length_map,List.length_set,and_true]; omega),?_⟩)
  cases b1 : decide (v.b < 0)
  rotate_left
  · simp only [AH.SD,AH.SE,AOp.call?,AOp.next?,bstep,AV.cells,unAV,binAV,retQ,retV,AH.sliceElems,AH.bytesOf,AH.strOp,AH.bound,AH.missQ,AH.minmaxAV,AH.readOf,AH.effOf,Nat.reduceBEq,Nat.reduceAdd,Nat.reduceLT,↓reduceIte,Nat.reduceEqDiff,Nat.reduceLeDiff,Nat.reduceSub,Nat.reduceMul,Int.reduceSub,Int.reduceToNat,Int.reduceBEq,Int.reduceBNe,Int.reduceLT,Int.reduceGT,Int.reduceLE,Int.reduceGE,Int.reduceNeg,Int.reduceAdd,good_of,a1,a2,b1,Bool.true_or,Bool.or_true,Bool.not_true]
  cases b2 : decide (v.b > 1099511627776)
  rotate_left
  · simp only [AH.SD,AH.SE,AOp.call?,AOp.next?,bstep,AV.cells,unAV,binAV,retQ,retV,AH.sliceElems,AH.bytesOf,AH.strOp,AH.bound,AH.missQ,AH.minmaxAV,AH.readOf,AH.effOf,Nat.reduceBEq,Nat.reduceAdd,Nat.reduceLT,↓reduceIte,Nat.reduceEqDiff,Nat.reduceLeDiff,Nat.reduceSub,Nat.reduceMul,Int.reduceSub,Int.reduceToNat,Int.reduceBEq,Int.reduceBNe,Int.reduceLT,Int.reduceGT,Int.reduceLE,Int.reduceGE,Int.reduceNeg,Int.reduceAdd,good_of,a1,a2,b1,b2,Bool.true_or,Bool.or_true,Bool.not_true]
  simp only [AH.SD,AH.SE,AOp.call?,AOp.next?,bstep,AV.cells,unAV,binAV,retQ,retV,AH.sliceElems,AH.bytesOf,AH.strOp,AH.bound,AH.missQ,AH.minmaxAV,AH.readOf,AH.effOf,Nat.reduceBEq,Nat.reduceAdd,Nat.reduceLT,↓reduceIte,Nat.reduceEqDiff,Nat.reduceLeDiff,Nat.reduceSub,Nat.reduceMul,Int.reduceSub,Int.reduceToNat,Int.reduceBEq,Int.reduceBNe,Int.reduceLT,Int.reduceGT,Int.reduceLE,Int.reduceGE,Int.reduceNeg,Int.reduceAdd,b1,b2]
  repeat (refine ⟨by first | rfl | decide | omega | (simp only [List.length_map,List.length_set,and_true]; omega),?_⟩)
  refine loop_unroll ctxU_monoB ?_
  simp only [AH.SD,AH.SE,AOp.call?,AOp.next?,bstep,AV.cells,unAV,binAV,retQ,retV,AH.sliceElems,AH.bytesOf,AH.strOp,AH.bound,AH.missQ,AH.minmaxAV,AH.readOf,AH.effOf,Nat.reduceBEq,Nat.reduceAdd,Nat.reduceLT,↓reduceIte,Nat.reduceEqDiff,Nat.reduceLeDiff,Nat.reduceSub,Nat.reduceMul,Int.reduceSub,Int.reduceToNat,Int.reduceBEq,Int.reduceBNe,Int.reduceLT,Int.reduceGT,Int.reduceLE,Int.reduceGE,Int.reduceNeg,Int.reduceAdd]
  repeat (refine ⟨by first | rfl | decide | omega | (simp only [List.length_map,List.length_set,and_true]; omega),?_⟩)
  cases c1 : decide (v.c < 0)
  rotate_left
  · simp only [AH.SD,AH.SE,AOp.call?,AOp.next?,bstep,AV.cells,unAV,binAV,retQ,retV,AH.sliceElems,AH.bytesOf,AH.strOp,AH.bound,AH.missQ,AH.minmaxAV,AH.readOf,AH.effOf,Nat.reduceBEq,Nat.reduceAdd,Nat.reduceLT,↓reduceIte,Nat.reduceEqDiff,Nat.reduceLeDiff,Nat.reduceSub,Nat.reduceMul,Int.reduceSub,Int.reduceToNat,Int.reduceBEq,Int.reduceBNe,Int.reduceLT,Int.reduceGT,Int.reduceLE,Int.reduceGE,Int.reduceNeg,Int.reduceAdd,good_of,a1,a2,b1,b2,c1,Bool.true_or,Bool.or_true,Bool.not_true]
  cases c2 : decide (v.c > 1099511627776)
  rotate_left
  · simp only [AH.SD,AH.SE,AOp.call?,AOp.next?,bstep,AV.cells,unAV,binAV,retQ,retV,AH.sliceElems,AH.bytesOf,AH.strOp,AH.bound,AH.missQ,AH.minmaxAV,AH.readOf,AH.effOf,Nat.reduceBEq,Nat.reduceAdd,Nat.reduceLT,↓reduceIte,Nat.reduceEqDiff,Nat.reduceLeDiff,Nat.reduceSub,Nat.reduceMul,Int.reduceSub,Int.reduceToNat,Int.reduceBEq,Int.reduceBNe,Int.reduceLT,Int.reduceGT,Int.reduceLE,Int.reduceGE,Int.reduceNeg,Int.reduceAdd,good_of,a1,a2,b1,b2,c1,c2,Bool.true_or,Bool.or_true,Bool.not_true]
  simp only [AH.SD,AH.SE,AOp.call?,AOp.next?,bstep,AV.cells,unAV,binAV,retQ,retV,AH.sliceElems,AH.bytesOf,AH.strOp,AH.bound,AH.missQ,AH.minmaxAV,AH.readOf,AH.effOf,Nat.reduceBEq,Nat.reduceAdd,Nat.reduceLT,↓reduceIte,Nat.reduceEqDiff,Nat.reduceLeDiff,Nat.reduceSub,Nat.reduceMul,Int.reduceSub,Int.reduceToNat,Int.reduceBEq,Int.reduceBNe,Int.reduceLT,Int.reduceGT,Int.reduceLE,Int.reduceGE,Int.reduceNeg,Int.reduceAdd,c1,c2]
  repeat (refine ⟨by first | rfl | decide | omega | (simp only [List.length_map,List.length_set,and_true]; omega),?_⟩)
  refine loop_unroll ctxU_monoB ?_
  simp only [AH.SD,AH.SE,AOp.call?,AOp.next?,bstep,AV.cells,unAV,binAV,retQ,retV,AH.sliceElems,AH.bytesOf,AH.strOp,AH.bound,AH.missQ,AH.minmaxAV,AH.readOf,AH.effOf,Nat.reduceBEq,Nat.reduceAdd,Nat.reduceLT,↓reduceIte,Nat.reduceEqDiff,Nat.reduceLeDiff,Nat.reduceSub,Nat.reduceMul,Int.reduceSub,Int.reduceToNat,Int.reduceBEq,Int.reduceBNe,Int.reduceLT,Int.reduceGT,Int.reduceLE,Int.reduceGE,Int.reduceNeg,Int.reduceAdd]
  repeat (refine ⟨by first | rfl | decide | omega | (simp only [List.length_map,List.length_set,and_true]; omega),?_⟩)
  cases d1 : decide (v.d < 0)
  rotate_left
  · simp only [AH.SD,AH.SE,AOp.call?,AOp.next?,bstep,AV.cells,unAV,binAV,retQ,retV,AH.sliceElems,AH.bytesOf,AH.strOp,AH.bound,AH.missQ,AH.minmaxAV,AH.readOf,AH.effOf,Nat.reduceBEq,Nat.reduceAdd,Nat.reduceLT,↓reduceIte,Nat.reduceEqDiff,Nat.reduceLeDiff,Nat.reduceSub,Nat.reduceMul,Int.reduceSub,Int.reduceToNat,Int.reduceBEq,Int.reduceBNe,Int.reduceLT,Int.reduceGT,Int.reduceLE,Int.reduceGE,Int.reduceNeg,Int.reduceAdd,good_of,a1,a2,b1,b2,c1,c2,d1,Bool.true_or,Bool.or_true,Bool.not_true]
  cases d2 : decide (v.d > 1099511627776)
  rotate_left
  · simp only [AH.SD,AH.SE,AOp.call?,AOp.next?,bstep,AV.cells,unAV,binAV,retQ,retV,AH.sliceElems,AH.bytesOf,AH.strOp,AH.bound,AH.missQ,AH.minmaxAV,AH.readOf,AH.effOf,Nat.reduceBEq,Nat.reduceAdd,Nat.reduceLT,↓reduceIte,Nat.reduceEqDiff,Nat.reduceLeDiff,Nat.reduceSub,Nat.reduceMul,Int.reduceSub,Int.reduceToNat,Int.reduceBEq,Int.reduceBNe,Int.reduceLT,Int.reduceGT,Int.reduceLE,Int.reduceGE,Int.reduceNeg,Int.reduceAdd,good_of,a1,a2,b1,b2,c1,c2,d1,d2,Bool.true_or,Bool.or_true,Bool.not_true]
  simp only [AH.SD,AH.SE,AOp.call?,AOp.next?,bstep,AV.cells,unAV,binAV,retQ,retV,AH.sliceElems,AH.bytesOf,AH.strOp,AH.bound,AH.missQ,AH.minmaxAV,AH.readOf,AH.effOf,Nat.reduceBEq,Nat.reduceAdd,Nat.reduceLT,↓reduceIte,Nat.reduceEqDiff,Nat.reduceLeDiff,Nat.reduceSub,Nat.reduceMul,Int.reduceSub,Int.reduceToNat,Int.reduceBEq,Int.reduceBNe,Int.reduceLT,Int.reduceGT,Int.reduceLE,Int.reduceGE,Int.reduceNeg,Int.reduceAdd,d1,d2]
  repeat (refine ⟨by first | rfl | decide | omega | (simp only [List.length_map,List.length_set,and_true]; omega),?_⟩)
  refine loop_unroll ctxU_monoB ?_
  simp only [AH.SD,AH.SE,AOp.call?,AOp.next?,bstep,AV.cells,unAV,binAV,retQ,retV,AH.sliceElems,AH.bytesOf,AH.strOp,AH.bound,AH.missQ,AH.minmaxAV,AH.readOf,AH.effOf,Nat.reduceBEq,Nat.reduceAdd,Nat.reduceLT,↓reduceIte,Nat.reduceEqDiff,Nat.reduceLeDiff,Nat.reduceSub,Nat.reduceMul,Int.reduceSub,Int.reduceToNat,Int.reduceBEq,Int.reduceBNe,Int.reduceLT,Int.reduceGT,Int.reduceLE,Int.reduceGE,Int.reduceNeg,Int.reduceAdd,good_of,a1,a2,b1,b2,c1,c2,d1,d2,Bool.or_self,Bool.not_false]
theorem rgoodT_ok : ReadF S0 25 goodT:=goodT_ok rgood_ok
end Go.Proofs.YtkbjfhkhbcgkgaaDoor.B33
