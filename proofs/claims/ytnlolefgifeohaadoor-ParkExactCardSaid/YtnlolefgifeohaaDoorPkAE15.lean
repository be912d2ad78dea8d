import Derived.Test.YtnlolefgifeohaaDoorRkQE15
import Derived.Test.YtnlolefgifeohaaDoorRkWE15
import Derived.Test.YtnlolefgifeohaaDoorPrkV0E15
import Derived.Test.YtnlolefgifeohaaDoorFPkExE15
open Go AH
set_option linter.unusedSimpArgs false
set_option maxRecDepth 100000
namespace Go.Proofs.YtnlolefgifeohaaDoor.E15
theorem okPk0 : CtxOK S0 (ctxE S0 [] [] []):=ctxE_ok trivial trivial trivial mixed
theorem ofN_ok (id : Int) : Pure S0 30 [.nilp,.int .i64 id] (.tup [maZ.av,.bool false]):=by
  refine fun_sound okPk0 Tryd.func30 c30 ?_
  unfold wpF F30
  simp only [AH.SD,AH.SE,AOp.call?,AOp.next?,bstep,AV.cells,unAV,binAV,retQ,retV,AH.sliceElems,AH.bytesOf,AH.strOp,AH.bound,AH.missQ,AH.minmaxAV,AH.readOf,AH.effOf,Nat.reduceBEq,Nat.reduceAdd,Nat.reduceLT,↓reduceIte,Nat.reduceEqDiff,Nat.reduceLeDiff,Nat.reduceSub,Nat.reduceMul,Int.reduceSub,Int.reduceToNat,Int.reduceBEq,Int.reduceBNe,Int.reduceLT,Int.reduceGT,Int.reduceLE,Int.reduceGE,Int.reduceNeg,Int.reduceAdd,AH.SP,AH.PD,AV.inB,vstep,vw,shift,newOnes,rowsM,blkIn,rwB,@flat_lts,AV.lt,AV.lts,Nat.sub_self,AH.SO,Ma.av,maZ,V4.zero]
  try trivial
theorem adN_ok (id c : Int) (v : V4) : Pure S0 28 [.nilp,.int .i64 id,.int .i64 c,v.av] (errA 2):=by
  refine fun_sound okPk0 Tryd.func28 c28 ?_
  unfold wpF F28
  simp only [AH.SD,AH.SE,AOp.call?,AOp.next?,bstep,AV.cells,unAV,binAV,retQ,retV,AH.sliceElems,AH.bytesOf,AH.strOp,AH.bound,AH.missQ,AH.minmaxAV,AH.readOf,AH.effOf,Nat.reduceBEq,Nat.reduceAdd,Nat.reduceLT,↓reduceIte,Nat.reduceEqDiff,Nat.reduceLeDiff,Nat.reduceSub,Nat.reduceMul,Int.reduceSub,Int.reduceToNat,Int.reduceBEq,Int.reduceBNe,Int.reduceLT,Int.reduceGT,Int.reduceLE,Int.reduceGE,Int.reduceNeg,Int.reduceAdd,AH.SP,AH.PD,AV.inB,vstep,vw,shift,newOnes,rowsM,blkIn,rwB,@flat_lts,AV.lt,AV.lts,Nat.sub_self,AH.SO,V4.av,eA2]
  try trivial
theorem drN_ok (id : Int) : Pure S0 24 [.nilp,.int .i64 id] (errA 2):=by
  refine fun_sound okPk0 Tryd.func24 c24 ?_
  unfold wpF F24
  simp only [AH.SD,AH.SE,AOp.call?,AOp.next?,bstep,AV.cells,unAV,binAV,retQ,retV,AH.sliceElems,AH.bytesOf,AH.strOp,AH.bound,AH.missQ,AH.minmaxAV,AH.readOf,AH.effOf,Nat.reduceBEq,Nat.reduceAdd,Nat.reduceLT,↓reduceIte,Nat.reduceEqDiff,Nat.reduceLeDiff,Nat.reduceSub,Nat.reduceMul,Int.reduceSub,Int.reduceToNat,Int.reduceBEq,Int.reduceBNe,Int.reduceLT,Int.reduceGT,Int.reduceLE,Int.reduceGE,Int.reduceNeg,Int.reduceAdd,AH.SP,AH.PD,AV.inB,vstep,vw,shift,newOnes,rowsM,blkIn,rwB,@flat_lts,AV.lt,AV.lts,Nat.sub_self,AH.SO,eA2]
  try trivial
theorem seN_ok (id s : Int) : Pure S0 26 [.nilp,.int .i64 id,.int .i64 s] (errA 2):=by
  refine fun_sound okPk0 Tryd.func26 c26 ?_
  unfold wpF F26
  simp only [AH.SD,AH.SE,AOp.call?,AOp.next?,bstep,AV.cells,unAV,binAV,retQ,retV,AH.sliceElems,AH.bytesOf,AH.strOp,AH.bound,AH.missQ,AH.minmaxAV,AH.readOf,AH.effOf,Nat.reduceBEq,Nat.reduceAdd,Nat.reduceLT,↓reduceIte,Nat.reduceEqDiff,Nat.reduceLeDiff,Nat.reduceSub,Nat.reduceMul,Int.reduceSub,Int.reduceToNat,Int.reduceBEq,Int.reduceBNe,Int.reduceLT,Int.reduceGT,Int.reduceLE,Int.reduceGE,Int.reduceNeg,Int.reduceAdd,AH.SP,AH.PD,AV.inB,vstep,vw,shift,newOnes,rowsM,blkIn,rwB,@flat_lts,AV.lt,AV.lts,Nat.sub_self,AH.SO,eA2]
  try trivial
theorem alN_ok : Pure S0 35 [.nilp] .nils:=by
  refine fun_sound okPk0 Tryd.func35 c35 ?_
  unfold wpF F35
  simp only [AH.SD,AH.SE,AOp.call?,AOp.next?,bstep,AV.cells,unAV,binAV,retQ,retV,AH.sliceElems,AH.bytesOf,AH.strOp,AH.bound,AH.missQ,AH.minmaxAV,AH.readOf,AH.effOf,Nat.reduceBEq,Nat.reduceAdd,Nat.reduceLT,↓reduceIte,Nat.reduceEqDiff,Nat.reduceLeDiff,Nat.reduceSub,Nat.reduceMul,Int.reduceSub,Int.reduceToNat,Int.reduceBEq,Int.reduceBNe,Int.reduceLT,Int.reduceGT,Int.reduceLE,Int.reduceGE,Int.reduceNeg,Int.reduceAdd,AH.SP,AH.PD,AV.inB,vstep,vw,shift,newOnes,rowsM,blkIn,rwB,@flat_lts,AV.lt,AV.lts,Nat.sub_self,AH.SO]
  try trivial
theorem idxN_ok (c : Int) : CallA1 S0 89 [.nils,.fn 68 [] [.ptr 0 0 0]] [some (.row false 1 [[.int .i64 c]])] fun r m =>r = .int .i64 (-1) ∧ m = [some (.row false 1 [[.int .i64 c]])]:=by
  refine fun_sound okPk0 Tryd.func89 c89 ?_
  unfold wpF F89
  simp only [AH.SD,AH.SE,AOp.call?,AOp.next?,bstep,AV.cells,unAV,binAV,retQ,retV,AH.sliceElems,AH.bytesOf,AH.strOp,AH.bound,AH.missQ,AH.minmaxAV,AH.readOf,AH.effOf,Nat.reduceBEq,Nat.reduceAdd,Nat.reduceLT,↓reduceIte,Nat.reduceEqDiff,Nat.reduceLeDiff,Nat.reduceSub,Nat.reduceMul,Int.reduceSub,Int.reduceToNat,Int.reduceBEq,Int.reduceBNe,Int.reduceLT,Int.reduceGT,Int.reduceLE,Int.reduceGE,Int.reduceNeg,Int.reduceAdd,AH.SP,AH.PD,AV.inB,vstep,vw,shift,newOnes,rowsM,blkIn,rwB,@flat_lts,AV.lt,AV.lts,Nat.sub_self,AH.SO]
  refine loop_unroll ctxE_monoB ?_
  simp only [AH.SD,AH.SE,AOp.call?,AOp.next?,bstep,AV.cells,unAV,binAV,retQ,retV,AH.sliceElems,AH.bytesOf,AH.strOp,AH.bound,AH.missQ,AH.minmaxAV,AH.readOf,AH.effOf,Nat.reduceBEq,Nat.reduceAdd,Nat.reduceLT,↓reduceIte,Nat.reduceEqDiff,Nat.reduceLeDiff,Nat.reduceSub,Nat.reduceMul,Int.reduceSub,Int.reduceToNat,Int.reduceBEq,Int.reduceBNe,Int.reduceLT,Int.reduceGT,Int.reduceLE,Int.reduceGE,Int.reduceNeg,Int.reduceAdd,AH.SP,AH.PD,AV.inB,vstep,vw,shift,newOnes,rowsM,blkIn,rwB,@flat_lts,AV.lt,AV.lts,Nat.sub_self,AH.SO]
  try trivial
theorem delN_ok (c : Int) : CallA1 S0 67 [.nils,.fn 68 [] [.ptr 0 0 0]] [some (.row false 1 [[.int .i64 c]])] fun r m =>r = .nils:=by
  refine fun_sound okPk0 Tryd.func67 c67 ?_
  unfold wpF F67
  simp only [AH.SD,AH.SE,AOp.call?,AOp.next?,bstep,AV.cells,unAV,binAV,retQ,retV,AH.sliceElems,AH.bytesOf,AH.strOp,AH.bound,AH.missQ,AH.minmaxAV,AH.readOf,AH.effOf,Nat.reduceBEq,Nat.reduceAdd,Nat.reduceLT,↓reduceIte,Nat.reduceEqDiff,Nat.reduceLeDiff,Nat.reduceSub,Nat.reduceMul,Int.reduceSub,Int.reduceToNat,Int.reduceBEq,Int.reduceBNe,Int.reduceLT,Int.reduceGT,Int.reduceLE,Int.reduceGE,Int.reduceNeg,Int.reduceAdd,AH.SP,AH.PD,AV.inB,vstep,vw,shift,newOnes,rowsM,blkIn,rwB,@flat_lts,AV.lt,AV.lts,Nat.sub_self,AH.SO]
  refine (idxN_ok c).mono ?_
  rintro _ _ ⟨rfl,rfl⟩
  simp only [AH.SD,AH.SE,AOp.call?,AOp.next?,bstep,AV.cells,unAV,binAV,retQ,retV,AH.sliceElems,AH.bytesOf,AH.strOp,AH.bound,AH.missQ,AH.minmaxAV,AH.readOf,AH.effOf,Nat.reduceBEq,Nat.reduceAdd,Nat.reduceLT,↓reduceIte,Nat.reduceEqDiff,Nat.reduceLeDiff,Nat.reduceSub,Nat.reduceMul,Int.reduceSub,Int.reduceToNat,Int.reduceBEq,Int.reduceBNe,Int.reduceLT,Int.reduceGT,Int.reduceLE,Int.reduceGE,Int.reduceNeg,Int.reduceAdd,AH.SP,AH.PD,AV.inB,vstep,vw,shift,newOnes,rowsM,blkIn,rwB,@flat_lts,AV.lt,AV.lts,Nat.sub_self,AH.SO]
  try trivial
def alN : RT:=rtP (cC aNil c0) fun _ => .nils
theorem alNT_ok : ReadF S0 35 alN:=rtP_ok (fun _ =>alN_ok) fun _ =>rfl
theorem alN_n {M : Nat → Option Blk} : alN [.nilp] M = some (.nils,[]):=by simp only [alN,rtP,cC_dec,aNil_dec,c0_dec,pairO_some,Option.map_some]
theorem alN_p {p : Nat} {M : Nat → Option Blk} : alN [.ptr p 0 0] M = none:=by simp only [alN,rtP,cC_dec,aNil_ptr,pairO_none,Option.map_none]
theorem okPk1 : CtxOK S0 (ctxE S0 [(35,alN)] [] []):=ctxE_ok ⟨alNT_ok,trivial⟩ trivial trivial mixed
theorem liN_ok (c : Int) : Pure S0 34 [.nilp,.int .i64 c] .nils:=by
  refine fun_sound okPk1 Tryd.func34 c34 ?_
  unfold wpF F34
  simp only [AH.SD,AH.SE,AOp.call?,AOp.next?,bstep,AV.cells,unAV,binAV,retQ,retV,AH.sliceElems,AH.bytesOf,AH.strOp,AH.bound,AH.missQ,AH.minmaxAV,AH.readOf,AH.effOf,Nat.reduceBEq,Nat.reduceAdd,Nat.reduceLT,↓reduceIte,Nat.reduceEqDiff,Nat.reduceLeDiff,Nat.reduceSub,Nat.reduceMul,Int.reduceSub,Int.reduceToNat,Int.reduceBEq,Int.reduceBNe,Int.reduceLT,Int.reduceGT,Int.reduceLE,Int.reduceGE,Int.reduceNeg,Int.reduceAdd,AH.SP,AH.PD,AV.inB,vstep,vw,shift,newOnes,rowsM,blkIn,rwB,@flat_lts,AV.lt,AV.lts,Nat.sub_self,AH.SO,alN_n]
  refine (delN_ok c).mono ?_
  rintro _ _ rfl
  simp only [AH.SD,AH.SE,AOp.call?,AOp.next?,bstep,AV.cells,unAV,binAV,retQ,retV,AH.sliceElems,AH.bytesOf,AH.strOp,AH.bound,AH.missQ,AH.minmaxAV,AH.readOf,AH.effOf,Nat.reduceBEq,Nat.reduceAdd,Nat.reduceLT,↓reduceIte,Nat.reduceEqDiff,Nat.reduceLeDiff,Nat.reduceSub,Nat.reduceMul,Int.reduceSub,Int.reduceToNat,Int.reduceBEq,Int.reduceBNe,Int.reduceLT,Int.reduceGT,Int.reduceLE,Int.reduceGE,Int.reduceNeg,Int.reduceAdd,AH.SP,AH.PD,AV.inB,vstep,vw,shift,newOnes,rowsM,blkIn,rwB,@flat_lts,AV.lt,AV.lts,Nat.sub_self,AH.SO]
  try trivial
def liN : RT:=rtP (cC aNil (cC (aI .i64) c0)) fun _ => .nils
theorem liNT_ok : ReadF S0 34 liN:=rtP_ok (fun x =>liN_ok x.2.1) fun _ =>rfl
theorem liN_n {c : Int} {M : Nat → Option Blk} : liN [.nilp,.int .i64 c] M = some (.nils,[]):=by simp only [liN,rtP,cC_dec,aNil_dec,aI_dec,c0_dec,pairO_some,Option.map_some]
theorem liN_p {p : Nat} {c : Int} {M : Nat → Option Blk} : liN [.ptr p 0 0,.int .i64 c] M = none:=by simp only [liN,rtP,cC_dec,aNil_ptr,pairO_none,Option.map_none]
theorem tgN_ok : CallA1 S0 60 [.nils,.fn 66 [] []] [some (.row false 4 [[.int .i64 0,.int .i64 0,.int .i64 0,.int .i64 0]])] fun r m =>r = .agg [.int .i64 0,.int .i64 0,.int .i64 0,.int .i64 0] ∧ m = [some (.row false 4 [[.int .i64 0,.int .i64 0,.int .i64 0,.int .i64 0]])]:=by
  refine CallA1.fin ?_
  refine fun_sound okPk0 Tryd.func60 c60 ?_
  unfold wpF F60
  simp only [AH.SD,AH.SE,AOp.call?,AOp.next?,bstep,AV.cells,unAV,binAV,retQ,retV,AH.sliceElems,AH.bytesOf,AH.strOp,AH.bound,AH.missQ,AH.minmaxAV,AH.readOf,AH.effOf,Nat.reduceBEq,Nat.reduceAdd,Nat.reduceLT,↓reduceIte,Nat.reduceEqDiff,Nat.reduceLeDiff,Nat.reduceSub,Nat.reduceMul,Int.reduceSub,Int.reduceToNat,Int.reduceBEq,Int.reduceBNe,Int.reduceLT,Int.reduceGT,Int.reduceLE,Int.reduceGE,Int.reduceNeg,Int.reduceAdd,AH.SP,AH.PD,AV.inB,vstep,vw,shift,newOnes,rowsM,blkIn,rwB,@flat_lts,AV.lt,AV.lts,Nat.sub_self,AH.SO]
  refine loop_unroll ctxE_monoB ?_
  iterate 2 ((try simp only [AH.SD,AH.SE,AOp.call?,AOp.next?,bstep,AV.cells,unAV,binAV,retQ,retV,AH.sliceElems,AH.bytesOf,AH.strOp,AH.bound,AH.missQ,AH.minmaxAV,AH.readOf,AH.effOf,Nat.reduceBEq,Nat.reduceAdd,Nat.reduceLT,↓reduceIte,Nat.reduceEqDiff,Nat.reduceLeDiff,Nat.reduceSub,Nat.reduceMul,Int.reduceSub,Int.reduceToNat,Int.reduceBEq,Int.reduceBNe,Int.reduceLT,Int.reduceGT,Int.reduceLE,Int.reduceGE,Int.reduceNeg,Int.reduceAdd,AH.SP,AH.PD,AV.inB,vstep,vw,shift,newOnes,rowsM,blkIn,rwB,@flat_lts,AV.lt,AV.lts,Nat.sub_self,AH.SO]); repeat (refine ⟨by first | rfl | decide | omega | (simp only [List.length_map,List.length_set,and_true]; omega),?_⟩))
  refine ⟨[0],[],?_⟩
  simp only [AH.SD,AH.SE,AOp.call?,AOp.next?,bstep,AV.cells,unAV,binAV,retQ,retV,AH.sliceElems,AH.bytesOf,AH.strOp,AH.bound,AH.missQ,AH.minmaxAV,AH.readOf,AH.effOf,Nat.reduceBEq,Nat.reduceAdd,Nat.reduceLT,↓reduceIte,Nat.reduceEqDiff,Nat.reduceLeDiff,Nat.reduceSub,Nat.reduceMul,Int.reduceSub,Int.reduceToNat,Int.reduceBEq,Int.reduceBNe,Int.reduceLT,Int.reduceGT,Int.reduceLE,Int.reduceGE,Int.reduceNeg,Int.reduceAdd,AH.SP,AH.PD,AV.inB,vstep]
theorem okPk2 : CtxOK S0 (ctxE S0 [(34,liN)] [] []):=ctxE_ok ⟨liNT_ok,trivial⟩ trivial trivial mixed
theorem lvN_ok (c : Int) : Pure S0 32 [.nilp,.int .i64 c] (.agg [.int .i64 0,.int .i64 0,.int .i64 0,.int .i64 0]):=by
  refine fun_sound okPk2 Tryd.func32 c32 ?_
  unfold wpF F32
  simp only [AH.SD,AH.SE,AOp.call?,AOp.next?,bstep,AV.cells,unAV,binAV,retQ,retV,AH.sliceElems,AH.bytesOf,AH.strOp,AH.bound,AH.missQ,AH.minmaxAV,AH.readOf,AH.effOf,Nat.reduceBEq,Nat.reduceAdd,Nat.reduceLT,↓reduceIte,Nat.reduceEqDiff,Nat.reduceLeDiff,Nat.reduceSub,Nat.reduceMul,Int.reduceSub,Int.reduceToNat,Int.reduceBEq,Int.reduceBNe,Int.reduceLT,Int.reduceGT,Int.reduceLE,Int.reduceGE,Int.reduceNeg,Int.reduceAdd,AH.SP,AH.PD,AV.inB,vstep,vw,shift,newOnes,rowsM,blkIn,rwB,@flat_lts,AV.lt,AV.lts,Nat.sub_self,AH.SO,liN_n]
  refine tgN_ok.mono ?_
  rintro _ _ ⟨rfl,rfl⟩
  simp only [AH.SD,AH.SE,AOp.call?,AOp.next?,bstep,AV.cells,unAV,binAV,retQ,retV,AH.sliceElems,AH.bytesOf,AH.strOp,AH.bound,AH.missQ,AH.minmaxAV,AH.readOf,AH.effOf,Nat.reduceBEq,Nat.reduceAdd,Nat.reduceLT,↓reduceIte,Nat.reduceEqDiff,Nat.reduceLeDiff,Nat.reduceSub,Nat.reduceMul,Int.reduceSub,Int.reduceToNat,Int.reduceBEq,Int.reduceBNe,Int.reduceLT,Int.reduceGT,Int.reduceLE,Int.reduceGE,Int.reduceNeg,Int.reduceAdd,AH.SP,AH.PD,AV.inB,vstep,vw,shift,newOnes,rowsM,blkIn,rwB,@flat_lts,AV.lt,AV.lts,Nat.sub_self,AH.SO]
  try trivial
def ofE : RT:=rtElse (cC aNil (cC (aI .i64) c0)) (fun _ => .tup [maZ.av,.bool false]) ofT
theorem ofE_ok : ReadF S0 30 ofE:=rtElse_ok (fun x =>ofN_ok x.2.1) (fun _ =>rfl) ofT_ok
theorem ofE_n {id : Int} {M : Nat → Option Blk} : ofE [.nilp,.int .i64 id] M = some (.tup [maZ.av,.bool false],[]):=by simp only [ofE,rtElse_eq,cC_dec,aNil_dec,aI_dec,c0_dec,pairO_some,Option.map_some,elseO_some]
theorem ofE_p {p : Nat} {id : Int} {M : Nat → Option Blk} : ofE [.ptr p 0 0,.int .i64 id] M = ofT [.ptr p 0 0,.int .i64 id] M:=by simp only [ofE,rtElse_eq,cC_dec,aNil_ptr,pairO_none,Option.map_none,elseO_none]
noncomputable def lvE : RT:=rtElse (cC aNil (cC (aI .i64) c0)) (fun _ => .agg [.int .i64 0,.int .i64 0,.int .i64 0,.int .i64 0]) lvT
theorem lvE_ok : ReadF S0 32 lvE:=rtElse_ok (fun x =>lvN_ok x.2.1) (fun _ =>rfl) lvT_ok
theorem lvE_n {id : Int} {M : Nat → Option Blk} : lvE [.nilp,.int .i64 id] M = some (.agg [.int .i64 0,.int .i64 0,.int .i64 0,.int .i64 0],[]):=by simp only [lvE,rtElse_eq,cC_dec,aNil_dec,aI_dec,c0_dec,pairO_some,Option.map_some,elseO_some]
theorem lvE_p {p : Nat} {id : Int} {M : Nat → Option Blk} : lvE [.ptr p 0 0,.int .i64 id] M = lvT [.ptr p 0 0,.int .i64 id] M:=by simp only [lvE,rtElse_eq,cC_dec,aNil_ptr,pairO_none,Option.map_none,elseO_none]
def adN : RT:=rtP (cC aNil (cC (aI .i64) (cC (aI .i64) (cC (aA cV) c0)))) fun _ =>errA 2
theorem adNT_ok : ReadF S0 28 adN:=rtP_ok (fun x =>adN_ok x.2.1 x.2.2.1 x.2.2.2.1) fun _ =>errA_flat 2
theorem adN_n {a b x y z u : Int} {M : Nat → Option Blk} : adN [.nilp,.int .i64 a,.int .i64 b,.agg [.int .i64 x,.int .i64 y,.int .i64 z,.int .i64 u]] M = some (errA 2,[]):=by
  simp only [adN,rtP,cC_dec,aNil_dec,aI_dec,c0_dec,pairO_some,Option.map_some]
  rfl
theorem adN_p {p : Nat} {l : List AV} {M : Nat → Option Blk} : adN (.ptr p 0 0 :: l) M = none:=by simp only [adN,rtP,cC_dec,aNil_ptr,pairO_none,Option.map_none]
def drN : RT:=rtP (cC aNil (cC (aI .i64) c0)) fun _ =>errA 2
theorem drNT_ok : ReadF S0 24 drN:=rtP_ok (fun x =>drN_ok x.2.1) fun _ =>errA_flat 2
theorem drN_n {a : Int} {M : Nat → Option Blk} : drN [.nilp,.int .i64 a] M = some (errA 2,[]):=by simp only [drN,rtP,cC_dec,aNil_dec,aI_dec,c0_dec,pairO_some,Option.map_some]
theorem drN_p {p : Nat} {l : List AV} {M : Nat → Option Blk} : drN (.ptr p 0 0 :: l) M = none:=by simp only [drN,rtP,cC_dec,aNil_ptr,pairO_none,Option.map_none]
def seN : RT:=rtP (cC aNil (cC (aI .i64) (cC (aI .i64) c0))) fun _ =>errA 2
theorem seNT_ok : ReadF S0 26 seN:=rtP_ok (fun x =>seN_ok x.2.1 x.2.2.1) fun _ =>errA_flat 2
theorem seN_n {a b : Int} {M : Nat → Option Blk} : seN [.nilp,.int .i64 a,.int .i64 b] M = some (errA 2,[]):=by simp only [seN,rtP,cC_dec,aNil_dec,aI_dec,c0_dec,pairO_some,Option.map_some]
theorem seN_p {p : Nat} {l : List AV} {M : Nat → Option Blk} : seN (.ptr p 0 0 :: l) M = none:=by simp only [seN,rtP,cC_dec,aNil_ptr,pairO_none,Option.map_none]
noncomputable abbrev tPx : List (FuncId × RT):=[(21,awakeT),(31,rIsT),(33,rLvT),(30,ofE),(32,lvE),(23,kindT),(28,adN),(24,drN),(26,seN),(34,liN),(35,alN)]
noncomputable abbrev ePx : List (FuncId × ET):=(29,rAdT) :: (25,rDrT) :: (27,rSeT) :: eK
theorem okPx : CtxOK S0 (ctxE S0 tPx [] ePx):=ctxE_ok ⟨awakeT_ok,rIsT_ok,rLvT_ok,ofE_ok,lvE_ok,kindT_ok,adNT_ok,drNT_ok,seNT_ok,liNT_ok,alNT_ok,trivial⟩ trivial ⟨rAdT_ok,rDrT_ok,rSeT_ok,eK_ok⟩ mixed
end Go.Proofs.YtnlolefgifeohaaDoor.E15
