import Derived.Test.YtamkjgiemconbaaDoorFSprD19
import Derived.Test.YtamkjgiemconbaaDoorSpPD19
open Go AH
set_option linter.unusedSimpArgs false
set_option maxRecDepth 100000
namespace Go.Proofs.YtamkjgiemconbaaDoor.D19
theorem okS0 : CtxOK S0 (ctxE S0 [] [] []):=ctxE_ok trivial trivial trivial mixed
theorem spNew_ok : CallA1 S0 17 [] [] fun r m =>r = .ptr 0 0 0 ∧ m = spM S0B:=by
  refine CallA1.fin ?_
  refine fun_sound okS0 Tryd.func17 c17 ?_
  unfold wpF F17
  simp only [AH.SD,AH.SE,AOp.call?,AOp.next?,bstep,AV.cells,unAV,binAV,retQ,retV,AH.sliceElems,AH.bytesOf,AH.strOp,AH.bound,AH.missQ,AH.minmaxAV,AH.readOf,AH.effOf,Nat.reduceBEq,Nat.reduceAdd,Nat.reduceLT,↓reduceIte,Nat.reduceEqDiff,Nat.reduceLeDiff,Nat.reduceSub,Nat.reduceMul,Int.reduceSub,Int.reduceToNat,Int.reduceBEq,Int.reduceBNe,Int.reduceLT,Int.reduceGT,Int.reduceLE,Int.reduceGE,Int.reduceNeg,Int.reduceAdd,AH.SP,AH.PD,AV.inB,vstep,vw,shift,newOnes,rowsM,blkIn,rwB,@flat_lts,AV.lt,AV.lts,Nat.sub_self,AH.SO]
  refine ⟨[1,0],[],?_⟩
  simp only [AH.SD,AH.SE,AOp.call?,AOp.next?,bstep,AV.cells,unAV,binAV,retQ,retV,AH.sliceElems,AH.bytesOf,AH.strOp,AH.bound,AH.missQ,AH.minmaxAV,AH.readOf,AH.effOf,Nat.reduceBEq,Nat.reduceAdd,Nat.reduceLT,↓reduceIte,Nat.reduceEqDiff,Nat.reduceLeDiff,Nat.reduceSub,Nat.reduceMul,Int.reduceSub,Int.reduceToNat,Int.reduceBEq,Int.reduceBNe,Int.reduceLT,Int.reduceGT,Int.reduceLE,Int.reduceGE,Int.reduceNeg,Int.reduceAdd,AH.SP,AH.PD,AV.inB,vstep,spM,S0B]
def nwT : ET:=etN c0 fun _ =>some (.ptr 0 0 0,spM S0B)
theorem nwT_ok : EffF S0 17 nwT:=etN_ok fun a v m' h =>by
  simp only [Option.some.injEq,Prod.mk.injEq] at h
  obtain ⟨rfl,rfl⟩:=h
  exact ⟨rfl,spNew_ok⟩
theorem spOf_ok (t : SpB) (k : SK) : CallA1 S0 21 [.ptr 0 0 0,.int .i64 k.j,.int .i64 k.w] (spM t) fun r m =>r = (ofB t k).av ∧ m = spM t:=by
  refine CallA1.fin ?_
  refine fun_sound okS0 Tryd.func21 c21 ?_
  unfold wpF F21
  have hk:=keyS
  cases hq : AH.MS.enF k t.L 0 with
  | none =>
    have hf:=AH.MS.findK_en keyS SC.av k t.L 0
    rw [hq] at hf
    simp only [SK.av] at hf
    simp only [AH.SD,AH.SE,AOp.call?,AOp.next?,bstep,AV.cells,unAV,binAV,retQ,retV,AH.sliceElems,AH.bytesOf,AH.strOp,AH.bound,AH.missQ,AH.minmaxAV,AH.readOf,AH.effOf,Nat.reduceBEq,Nat.reduceAdd,Nat.reduceLT,↓reduceIte,Nat.reduceEqDiff,Nat.reduceLeDiff,Nat.reduceSub,Nat.reduceMul,Int.reduceSub,Int.reduceToNat,Int.reduceBEq,Int.reduceBNe,Int.reduceLT,Int.reduceGT,Int.reduceLE,Int.reduceGE,Int.reduceNeg,Int.reduceAdd,AH.SP,AH.PD,AV.inB,vstep,vw,shift,newOnes,rowsM,blkIn,rwB,@flat_lts,AV.lt,AV.lts,Nat.sub_self,AH.SO,spM,hf,keyIs]
    refine ⟨[0,1],[],?_⟩
    simp only [AH.SD,AH.SE,AOp.call?,AOp.next?,bstep,AV.cells,unAV,binAV,retQ,retV,AH.sliceElems,AH.bytesOf,AH.strOp,AH.bound,AH.missQ,AH.minmaxAV,AH.readOf,AH.effOf,Nat.reduceBEq,Nat.reduceAdd,Nat.reduceLT,↓reduceIte,Nat.reduceEqDiff,Nat.reduceLeDiff,Nat.reduceSub,Nat.reduceMul,Int.reduceSub,Int.reduceToNat,Int.reduceBEq,Int.reduceBNe,Int.reduceLT,Int.reduceGT,Int.reduceLE,Int.reduceGE,Int.reduceNeg,Int.reduceAdd,AH.SP,AH.PD,AV.inB,vstep,sp_in,sp_ren,ofB,hq,ofQ,SC.av]
  | some x =>
    obtain ⟨i,e⟩:=x
    have hf:=AH.MS.findK_en keyS SC.av k t.L 0
    rw [hq] at hf
    simp only [SK.av,Option.map_some,AH.MS.enV,SC.av] at hf
    simp only [AH.SD,AH.SE,AOp.call?,AOp.next?,bstep,AV.cells,unAV,binAV,retQ,retV,AH.sliceElems,AH.bytesOf,AH.strOp,AH.bound,AH.missQ,AH.minmaxAV,AH.readOf,AH.effOf,Nat.reduceBEq,Nat.reduceAdd,Nat.reduceLT,↓reduceIte,Nat.reduceEqDiff,Nat.reduceLeDiff,Nat.reduceSub,Nat.reduceMul,Int.reduceSub,Int.reduceToNat,Int.reduceBEq,Int.reduceBNe,Int.reduceLT,Int.reduceGT,Int.reduceLE,Int.reduceGE,Int.reduceNeg,Int.reduceAdd,AH.SP,AH.PD,AV.inB,vstep,vw,shift,newOnes,rowsM,blkIn,rwB,@flat_lts,AV.lt,AV.lts,Nat.sub_self,AH.SO,spM,hf,keyIs]
    repeat (refine ⟨by first | rfl | decide | omega | (simp only [List.length_map,List.length_set,and_true]; omega),?_⟩)
    refine ⟨[0,1],[],?_⟩
    simp only [AH.SD,AH.SE,AOp.call?,AOp.next?,bstep,AV.cells,unAV,binAV,retQ,retV,AH.sliceElems,AH.bytesOf,AH.strOp,AH.bound,AH.missQ,AH.minmaxAV,AH.readOf,AH.effOf,Nat.reduceBEq,Nat.reduceAdd,Nat.reduceLT,↓reduceIte,Nat.reduceEqDiff,Nat.reduceLeDiff,Nat.reduceSub,Nat.reduceMul,Int.reduceSub,Int.reduceToNat,Int.reduceBEq,Int.reduceBNe,Int.reduceLT,Int.reduceGT,Int.reduceLE,Int.reduceGE,Int.reduceNeg,Int.reduceAdd,AH.SP,AH.PD,AV.inB,vstep,sp_in,sp_ren,ofB,hq,ofQ,SC.av]
theorem spOfN_ok (k : SK) : Pure S0 21 [.nilp,.int .i64 k.j,.int .i64 k.w] (.agg [.int .i64 k.j,.int .i64 k.w,.int .i64 0,.int .i64 0]):=by
  refine fun_sound okS0 Tryd.func21 c21 ?_
  unfold wpF F21
  simp only [AH.SD,AH.SE,AOp.call?,AOp.next?,bstep,AV.cells,unAV,binAV,retQ,retV,AH.sliceElems,AH.bytesOf,AH.strOp,AH.bound,AH.missQ,AH.minmaxAV,AH.readOf,AH.effOf,Nat.reduceBEq,Nat.reduceAdd,Nat.reduceLT,↓reduceIte,Nat.reduceEqDiff,Nat.reduceLeDiff,Nat.reduceSub,Nat.reduceMul,Int.reduceSub,Int.reduceToNat,Int.reduceBEq,Int.reduceBNe,Int.reduceLT,Int.reduceGT,Int.reduceLE,Int.reduceGE,Int.reduceNeg,Int.reduceAdd,AH.SP,AH.PD,AV.inB,vstep,vw,shift,newOnes,rowsM,blkIn,rwB,@flat_lts,AV.lt,AV.lts,Nat.sub_self,AH.SO]
  try trivial
def cII : Cod (Int × Int × Unit):=cC (aI .i64) (cC (aI .i64) c0)
def ofT : RT:=rtElse (cC aNil cII) (fun x => .agg [.int .i64 x.2.1,.int .i64 x.2.2.1,.int .i64 0,.int .i64 0]) (rtO spO cII fun t x =>some (ofB t ⟨x.1,x.2.1⟩).av)
theorem ofT_ok : ReadF S0 21 ofT:=rtElse_ok (fun x =>spOfN_ok ⟨x.2.1,x.2.2.1⟩) (fun _ =>rfl) (rtO_ok fun t x v h =>by
  simp only [Option.some.injEq] at h; subst h
  exact ⟨rfl,spOf_ok t ⟨x.1,x.2.1⟩⟩)
theorem ofT_p {p : Nat} {a b : Int} {M : Nat → Option Blk} : ofT [.ptr p 0 0,.int .i64 a,.int .i64 b] M = rtO2 (fun (t : SpB) (x : Int × Int × Unit) =>some (ofB t ⟨x.1,x.2.1⟩).av) (spR M p (M p)) (some (a,b,())):=by
  simp only [ofT,cII,rtElse_eq,rtO_eq,cC_dec,aI_dec,aNil_ptr,c0_dec,pairO_some,pairO_none,spO_dec,Option.map_none,elseO_none]
theorem ofT_n {a b : Int} {M : Nat → Option Blk} : ofT [.nilp,.int .i64 a,.int .i64 b] M = some (.agg [.int .i64 a,.int .i64 b,.int .i64 0,.int .i64 0],[]):=by
  simp only [ofT,cII,rtElse_eq,cC_dec,aI_dec,aNil_dec,c0_dec,pairO_some,Option.map_some,elseO_some]
theorem okS1 : CtxOK S0 (ctxE S0 [(21,ofT)] [] []):=ctxE_ok ⟨ofT_ok,trivial⟩ trivial trivial mixed
theorem mx0_eq (n : Int) : (if 0 > n then (0 : Int) else n) = mx0 n:=rfl
theorem spLeft_ok (t : SpB) (k : SK) (n : Int) : CallA1 S0 19 [.ptr 0 0 0,.int .i64 k.j,.int .i64 k.w,.int .i64 n] (spM t) fun r m =>r = .int .i64 (leftB t k n) ∧ m = spM t:=by
  refine CallA1.fin ?_
  refine fun_sound okS1 Tryd.func19 c19 ?_
  unfold wpF F19
  simp only [AH.SD,AH.SE,AOp.call?,AOp.next?,bstep,AV.cells,unAV,binAV,retQ,retV,AH.sliceElems,AH.bytesOf,AH.strOp,AH.bound,AH.missQ,AH.minmaxAV,AH.readOf,AH.effOf,Nat.reduceBEq,Nat.reduceAdd,Nat.reduceLT,↓reduceIte,Nat.reduceEqDiff,Nat.reduceLeDiff,Nat.reduceSub,Nat.reduceMul,Int.reduceSub,Int.reduceToNat,Int.reduceBEq,Int.reduceBNe,Int.reduceLT,Int.reduceGT,Int.reduceLE,Int.reduceGE,Int.reduceNeg,Int.reduceAdd,AH.SP,AH.PD,AV.inB,vstep,vw,shift,newOnes,rowsM,blkIn,rwB,@flat_lts,AV.lt,AV.lts,Nat.sub_self,AH.SO,spM,ofT_p,sp_in,sp_ren,spR_eq,spB_eq,AH.MS.Mp.eta,ne_eq,Nat.reduceEqDiff,Nat.zero_ne_one,not_false_eq_true,SC.av,mx0_eq]
  repeat (refine ⟨by first | rfl | decide | omega | (simp only [List.length_map,List.length_set,and_true]; omega),?_⟩)
  refine ⟨[0,1],[],?_⟩
  simp only [AH.SD,AH.SE,AOp.call?,AOp.next?,bstep,AV.cells,unAV,binAV,retQ,retV,AH.sliceElems,AH.bytesOf,AH.strOp,AH.bound,AH.missQ,AH.minmaxAV,AH.readOf,AH.effOf,Nat.reduceBEq,Nat.reduceAdd,Nat.reduceLT,↓reduceIte,Nat.reduceEqDiff,Nat.reduceLeDiff,Nat.reduceSub,Nat.reduceMul,Int.reduceSub,Int.reduceToNat,Int.reduceBEq,Int.reduceBNe,Int.reduceLT,Int.reduceGT,Int.reduceLE,Int.reduceGE,Int.reduceNeg,Int.reduceAdd,AH.SP,AH.PD,AV.inB,vstep,sp_in,sp_ren,leftB,mx0_eq]
theorem spLeftN_ok (k : SK) (n : Int) : Pure S0 19 [.nilp,.int .i64 k.j,.int .i64 k.w,.int .i64 n] (.int .i64 (mx0 (IntKind.i64.wrap (mx0 n - 0)))):=by
  refine fun_sound okS1 Tryd.func19 c19 ?_
  unfold wpF F19
  simp only [AH.SD,AH.SE,AOp.call?,AOp.next?,bstep,AV.cells,unAV,binAV,retQ,retV,AH.sliceElems,AH.bytesOf,AH.strOp,AH.bound,AH.missQ,AH.minmaxAV,AH.readOf,AH.effOf,Nat.reduceBEq,Nat.reduceAdd,Nat.reduceLT,↓reduceIte,Nat.reduceEqDiff,Nat.reduceLeDiff,Nat.reduceSub,Nat.reduceMul,Int.reduceSub,Int.reduceToNat,Int.reduceBEq,Int.reduceBNe,Int.reduceLT,Int.reduceGT,Int.reduceLE,Int.reduceGE,Int.reduceNeg,Int.reduceAdd,AH.SP,AH.PD,AV.inB,vstep,vw,shift,newOnes,rowsM,blkIn,rwB,@flat_lts,AV.lt,AV.lts,Nat.sub_self,AH.SO,ofT_n,mx0_eq]
  repeat (refine ⟨by first | rfl | decide | omega | (simp only [List.length_map,List.length_set,and_true]; omega),?_⟩)
  try trivial
def cIII : Cod (Int × Int × Int × Unit):=cC (aI .i64) cII
def lfT : RT:=rtElse (cC aNil cIII) (fun x => .int .i64 (mx0 (IntKind.i64.wrap (mx0 x.2.2.2.1 - 0)))) (rtO spO cIII fun t x =>some (.int .i64 (leftB t ⟨x.1,x.2.1⟩ x.2.2.1)))
theorem lfT_ok : ReadF S0 19 lfT:=rtElse_ok (fun x =>spLeftN_ok ⟨x.2.1,x.2.2.1⟩ x.2.2.2.1) (fun _ =>rfl) (rtO_ok fun t x v h =>by
  simp only [Option.some.injEq] at h; subst h
  exact ⟨rfl,spLeft_ok t ⟨x.1,x.2.1⟩ x.2.2.1⟩)
theorem lfT_p {p : Nat} {a b n : Int} {M : Nat → Option Blk} : lfT [.ptr p 0 0,.int .i64 a,.int .i64 b,.int .i64 n] M = rtO2 (fun (t : SpB) (x : Int × Int × Int × Unit) =>some (.int .i64 (leftB t ⟨x.1,x.2.1⟩ x.2.2.1))) (spR M p (M p)) (some (a,b,n,())):=by
  simp only [lfT,cIII,cII,rtElse_eq,rtO_eq,cC_dec,aI_dec,aNil_ptr,c0_dec,pairO_some,pairO_none,spO_dec,Option.map_none,elseO_none]
theorem lfT_n {a b n : Int} {M : Nat → Option Blk} : lfT [.nilp,.int .i64 a,.int .i64 b,.int .i64 n] M = some (.int .i64 (mx0 (IntKind.i64.wrap (mx0 n - 0))),[]):=by
  simp only [lfT,cIII,cII,rtElse_eq,cC_dec,aI_dec,aNil_dec,c0_dec,pairO_some,Option.map_some,elseO_some]
theorem spAdd_ok (t : SpB) (k : SK) (b : Bool) : CallA1 S0 18 [.ptr 0 0 0,.int .i64 k.j,.int .i64 k.w,.bool b] (spM t) fun r m =>r = .nili ∧ m = spM (addB t k b):=by
  refine CallA1.fin ?_
  refine fun_sound okS1 Tryd.func18 c18 ?_
  unfold wpF F18
  have hf:=AH.MS.findK_en keyS SC.av k t.L 0
  cases hq : AH.MS.enF k t.L 0 with
  | none =>
    rw [hq] at hf
    simp only [SK.av,Option.map_none] at hf
    cases b
    · simp only [AH.SD,AH.SE,AOp.call?,AOp.next?,bstep,AV.cells,unAV,binAV,retQ,retV,AH.sliceElems,AH.bytesOf,AH.strOp,AH.bound,AH.missQ,AH.minmaxAV,AH.readOf,AH.effOf,Nat.reduceBEq,Nat.reduceAdd,Nat.reduceLT,↓reduceIte,Nat.reduceEqDiff,Nat.reduceLeDiff,Nat.reduceSub,Nat.reduceMul,Int.reduceSub,Int.reduceToNat,Int.reduceBEq,Int.reduceBNe,Int.reduceLT,Int.reduceGT,Int.reduceLE,Int.reduceGE,Int.reduceNeg,Int.reduceAdd,AH.SP,AH.PD,AV.inB,vstep,vw,shift,newOnes,rowsM,blkIn,rwB,@flat_lts,AV.lt,AV.lts,Nat.sub_self,AH.SO,spM,ofT_p,sp_in,sp_ren,spR_eq,spB_eq,AH.MS.Mp.eta,ne_eq,Nat.reduceEqDiff,Nat.zero_ne_one,not_false_eq_true,ofB,hq,ofQ,SC.av,hf,keyIs]
      repeat (refine ⟨by first | rfl | decide | omega | (simp only [List.length_map,List.length_set,and_true]; omega),?_⟩)
      refine ⟨[0,1],[],?_⟩
      simp only [AH.SD,AH.SE,AOp.call?,AOp.next?,bstep,AV.cells,unAV,binAV,retQ,retV,AH.sliceElems,AH.bytesOf,AH.strOp,AH.bound,AH.missQ,AH.minmaxAV,AH.readOf,AH.effOf,Nat.reduceBEq,Nat.reduceAdd,Nat.reduceLT,↓reduceIte,Nat.reduceEqDiff,Nat.reduceLeDiff,Nat.reduceSub,Nat.reduceMul,Int.reduceSub,Int.reduceToNat,Int.reduceBEq,Int.reduceBNe,Int.reduceLT,Int.reduceGT,Int.reduceLE,Int.reduceGE,Int.reduceNeg,Int.reduceAdd,AH.SP,AH.PD,AV.inB,vstep,sp_in,sp_ren,addB,hq,addQ,bump,List.map_append,AH.MS.enA_mk,SK.av,SC.av]
    · simp only [AH.SD,AH.SE,AOp.call?,AOp.next?,bstep,AV.cells,unAV,binAV,retQ,retV,AH.sliceElems,AH.bytesOf,AH.strOp,AH.bound,AH.missQ,AH.minmaxAV,AH.readOf,AH.effOf,Nat.reduceBEq,Nat.reduceAdd,Nat.reduceLT,↓reduceIte,Nat.reduceEqDiff,Nat.reduceLeDiff,Nat.reduceSub,Nat.reduceMul,Int.reduceSub,Int.reduceToNat,Int.reduceBEq,Int.reduceBNe,Int.reduceLT,Int.reduceGT,Int.reduceLE,Int.reduceGE,Int.reduceNeg,Int.reduceAdd,AH.SP,AH.PD,AV.inB,vstep,vw,shift,newOnes,rowsM,blkIn,rwB,@flat_lts,AV.lt,AV.lts,Nat.sub_self,AH.SO,spM,ofT_p,sp_in,sp_ren,spR_eq,spB_eq,AH.MS.Mp.eta,ne_eq,Nat.reduceEqDiff,Nat.zero_ne_one,not_false_eq_true,ofB,hq,ofQ,SC.av,hf,keyIs]
      repeat (refine ⟨by first | rfl | decide | omega | (simp only [List.length_map,List.length_set,and_true]; omega),?_⟩)
      refine ⟨[0,1],[],?_⟩
      simp only [AH.SD,AH.SE,AOp.call?,AOp.next?,bstep,AV.cells,unAV,binAV,retQ,retV,AH.sliceElems,AH.bytesOf,AH.strOp,AH.bound,AH.missQ,AH.minmaxAV,AH.readOf,AH.effOf,Nat.reduceBEq,Nat.reduceAdd,Nat.reduceLT,↓reduceIte,Nat.reduceEqDiff,Nat.reduceLeDiff,Nat.reduceSub,Nat.reduceMul,Int.reduceSub,Int.reduceToNat,Int.reduceBEq,Int.reduceBNe,Int.reduceLT,Int.reduceGT,Int.reduceLE,Int.reduceGE,Int.reduceNeg,Int.reduceAdd,AH.SP,AH.PD,AV.inB,vstep,sp_in,sp_ren,addB,hq,addQ,bump,List.map_append,AH.MS.enA_mk,SK.av,SC.av]
  | some x =>
    obtain ⟨i,e⟩:=x
    rw [hq] at hf
    simp only [SK.av,Option.map_some,AH.MS.enV,SC.av] at hf
    have hs:=fun c =>AH.MS.set_en SK.av SC.av t.L i k c e.s
    simp only [SK.av,SC.av] at hs
    cases b
    · have hs2:=hs (bump e.v false)
      simp only [AH.SD,AH.SE,AOp.call?,AOp.next?,bstep,AV.cells,unAV,binAV,retQ,retV,AH.sliceElems,AH.bytesOf,AH.strOp,AH.bound,AH.missQ,AH.minmaxAV,AH.readOf,AH.effOf,Nat.reduceBEq,Nat.reduceAdd,Nat.reduceLT,↓reduceIte,Nat.reduceEqDiff,Nat.reduceLeDiff,Nat.reduceSub,Nat.reduceMul,Int.reduceSub,Int.reduceToNat,Int.reduceBEq,Int.reduceBNe,Int.reduceLT,Int.reduceGT,Int.reduceLE,Int.reduceGE,Int.reduceNeg,Int.reduceAdd,AH.SP,AH.PD,AV.inB,vstep,vw,shift,newOnes,rowsM,blkIn,rwB,@flat_lts,AV.lt,AV.lts,Nat.sub_self,AH.SO,spM,ofT_p,sp_in,sp_ren,spR_eq,spB_eq,AH.MS.Mp.eta,ne_eq,Nat.reduceEqDiff,Nat.zero_ne_one,not_false_eq_true,ofB,hq,ofQ,SC.av,hf,keyIs]
      repeat (refine ⟨by first | rfl | decide | omega | (simp only [List.length_map,List.length_set,and_true]; omega),?_⟩)
      refine ⟨[0,1],[],?_⟩
      simp only [bump] at hs2
      simp only [AH.SD,AH.SE,AOp.call?,AOp.next?,bstep,AV.cells,unAV,binAV,retQ,retV,AH.sliceElems,AH.bytesOf,AH.strOp,AH.bound,AH.missQ,AH.minmaxAV,AH.readOf,AH.effOf,Nat.reduceBEq,Nat.reduceAdd,Nat.reduceLT,↓reduceIte,Nat.reduceEqDiff,Nat.reduceLeDiff,Nat.reduceSub,Nat.reduceMul,Int.reduceSub,Int.reduceToNat,Int.reduceBEq,Int.reduceBNe,Int.reduceLT,Int.reduceGT,Int.reduceLE,Int.reduceGE,Int.reduceNeg,Int.reduceAdd,AH.SP,AH.PD,AV.inB,vstep,sp_in,sp_ren,addB,hq,addQ,bump,hs2]
    · have hs2:=hs (bump e.v true)
      simp only [AH.SD,AH.SE,AOp.call?,AOp.next?,bstep,AV.cells,unAV,binAV,retQ,retV,AH.sliceElems,AH.bytesOf,AH.strOp,AH.bound,AH.missQ,AH.minmaxAV,AH.readOf,AH.effOf,Nat.reduceBEq,Nat.reduceAdd,Nat.reduceLT,↓reduceIte,Nat.reduceEqDiff,Nat.reduceLeDiff,Nat.reduceSub,Nat.reduceMul,Int.reduceSub,Int.reduceToNat,Int.reduceBEq,Int.reduceBNe,Int.reduceLT,Int.reduceGT,Int.reduceLE,Int.reduceGE,Int.reduceNeg,Int.reduceAdd,AH.SP,AH.PD,AV.inB,vstep,vw,shift,newOnes,rowsM,blkIn,rwB,@flat_lts,AV.lt,AV.lts,Nat.sub_self,AH.SO,spM,ofT_p,sp_in,sp_ren,spR_eq,spB_eq,AH.MS.Mp.eta,ne_eq,Nat.reduceEqDiff,Nat.zero_ne_one,not_false_eq_true,ofB,hq,ofQ,SC.av,hf,keyIs]
      repeat (refine ⟨by first | rfl | decide | omega | (simp only [List.length_map,List.length_set,and_true]; omega),?_⟩)
      refine ⟨[0,1],[],?_⟩
      simp only [bump] at hs2
      simp only [AH.SD,AH.SE,AOp.call?,AOp.next?,bstep,AV.cells,unAV,binAV,retQ,retV,AH.sliceElems,AH.bytesOf,AH.strOp,AH.bound,AH.missQ,AH.minmaxAV,AH.readOf,AH.effOf,Nat.reduceBEq,Nat.reduceAdd,Nat.reduceLT,↓reduceIte,Nat.reduceEqDiff,Nat.reduceLeDiff,Nat.reduceSub,Nat.reduceMul,Int.reduceSub,Int.reduceToNat,Int.reduceBEq,Int.reduceBNe,Int.reduceLT,Int.reduceGT,Int.reduceLE,Int.reduceGE,Int.reduceNeg,Int.reduceAdd,AH.SP,AH.PD,AV.inB,vstep,sp_in,sp_ren,addB,hq,addQ,bump,hs2]
def adT : ET:=etO spO (cC (aI .i64) (cC (aI .i64) (cC aB c0))) fun t x =>some (.nili,spM (addB t ⟨x.1,x.2.1⟩ x.2.2.1))
theorem adT_ok : EffF S0 18 adT:=etO_ok fun t x v m' h =>by
  simp only [Option.some.injEq,Prod.mk.injEq] at h
  obtain ⟨rfl,rfl⟩:=h
  exact ⟨⟨Nat.le_refl _,rfl⟩,spAdd_ok t ⟨x.1,x.2.1⟩ x.2.2.1⟩
theorem adT_p {p n : Nat} {a b : Int} {c : Bool} {M : Nat → Option Blk} : adT [.ptr p 0 0,.int .i64 a,.int .i64 b,.bool c] M n = etO2 n (fun (t : SpB) (x : Int × Int × Bool × Unit) =>some (.nili,spM (addB t ⟨x.1,x.2.1⟩ x.2.2.1))) (spR M p (M p)) (some (a,b,c,())):=by
  simp only [adT,etO_eq,c0_dec,spO_dec,cC_dec,aI_dec,aB_dec,pairO_some]
end Go.Proofs.YtamkjgiemconbaaDoor.D19
