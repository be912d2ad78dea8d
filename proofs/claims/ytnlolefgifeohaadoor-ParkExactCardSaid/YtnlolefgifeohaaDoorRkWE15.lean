import Derived.Test.YtnlolefgifeohaaDoorRkPE15
open Go AH
set_option linter.unusedSimpArgs false
set_option maxRecDepth 100000
namespace Go.Proofs.YtnlolefgifeohaaDoor.E15
theorem v4c (v : V4) : v.cells = [.int .i64 v.a,.int .i64 v.b,.int .i64 v.c,.int .i64 v.d]:=rfl
theorem okRk0 : CtxOK S0 (ctxE S0 [] [] []):=ctxE_ok trivial trivial trivial mixed
theorem rIs_ok (R : List Rm) (hR : R.length = 1000) (id : Int) : CallA1 S0 31 [.ptr 0 0 0,.int .i64 id] (rpM R) fun r m =>r = .bool (rIs R id) ∧ m = rpM R:=by
  refine fun_sound okRk0 Tryd.func31 c31 ?_
  unfold wpF F31
  cases h1 : decide (id ≥ 1)
  · simp only [AH.SD,AH.SE,AOp.call?,AOp.next?,bstep,AV.cells,unAV,binAV,retQ,retV,AH.sliceElems,AH.bytesOf,AH.strOp,AH.bound,AH.missQ,AH.minmaxAV,AH.readOf,AH.effOf,Nat.reduceBEq,Nat.reduceAdd,Nat.reduceLT,↓reduceIte,Nat.reduceEqDiff,Nat.reduceLeDiff,Nat.reduceSub,Nat.reduceMul,Int.reduceSub,Int.reduceToNat,Int.reduceBEq,Int.reduceBNe,Int.reduceLT,Int.reduceGT,Int.reduceLE,Int.reduceGE,Int.reduceNeg,Int.reduceAdd,AH.SP,AH.PD,AV.inB,vstep,vw,shift,newOnes,rowsM,blkIn,rwB,@flat_lts,AV.lt,AV.lts,Nat.sub_self,AH.SO,rpM,h1,rIs]
  · cases h2 : decide (id ≤ 999)
    · simp only [AH.SD,AH.SE,AOp.call?,AOp.next?,bstep,AV.cells,unAV,binAV,retQ,retV,AH.sliceElems,AH.bytesOf,AH.strOp,AH.bound,AH.missQ,AH.minmaxAV,AH.readOf,AH.effOf,Nat.reduceBEq,Nat.reduceAdd,Nat.reduceLT,↓reduceIte,Nat.reduceEqDiff,Nat.reduceLeDiff,Nat.reduceSub,Nat.reduceMul,Int.reduceSub,Int.reduceToNat,Int.reduceBEq,Int.reduceBNe,Int.reduceLT,Int.reduceGT,Int.reduceLE,Int.reduceGE,Int.reduceNeg,Int.reduceAdd,AH.SP,AH.PD,AV.inB,vstep,vw,shift,newOnes,rowsM,blkIn,rwB,@flat_lts,AV.lt,AV.lts,Nat.sub_self,AH.SO,rpM,h1,h2,rIs]
    · simp only [decide_eq_true_eq] at h1 h2
      obtain ⟨i,rfl⟩:=Int.eq_ofNat_of_zero_le (by omega : 0 ≤ id)
      have h3 : decide ((i : Int) ≥ 1) = true:=by simpa using h1
      have h4 : decide ((i : Int) ≤ 999) = true:=by simpa using h2
      have h5 : i < R.length:=by omega
      simp only [AH.SD,AH.SE,AOp.call?,AOp.next?,bstep,AV.cells,unAV,binAV,retQ,retV,AH.sliceElems,AH.bytesOf,AH.strOp,AH.bound,AH.missQ,AH.minmaxAV,AH.readOf,AH.effOf,Nat.reduceBEq,Nat.reduceAdd,Nat.reduceLT,↓reduceIte,Nat.reduceEqDiff,Nat.reduceLeDiff,Nat.reduceSub,Nat.reduceMul,Int.reduceSub,Int.reduceToNat,Int.reduceBEq,Int.reduceBNe,Int.reduceLT,Int.reduceGT,Int.reduceLE,Int.reduceGE,Int.reduceNeg,Int.reduceAdd,AH.SP,AH.PD,AV.inB,vstep,vw,shift,newOnes,rowsM,blkIn,rwB,@flat_lts,AV.lt,AV.lts,Nat.sub_self,AH.SO,rpM,h3,h4,rIs,getR_i h5,fl0 h5,Int.toNat_natCast,flR_len,hR]
      omega
noncomputable def rIsT : RT:=rtO rpO (cC (aI .i64) c0) fun R x =>if R.length = 1000 then some (.bool (rIs R x.1)) else none
theorem rIsT_ok : ReadF S0 31 rIsT:=rtO_ok fun R x v h =>by
  split at h
  · rename_i hR
    simp only [Option.some.injEq] at h; subst h
    exact ⟨rfl,rIs_ok R hR x.1⟩
  · cases h
theorem rIsT_p {p : Nat} {id : Int} {M : Nat → Option Blk} : rIsT [.ptr p 0 0,.int .i64 id] M = rtO2 (fun (R : List Rm) (x : Int × Unit) =>if R.length = 1000 then some (.bool (rIs R x.1)) else none) (rpR p (M p)) (some (id,())):=by
  simp only [rIsT,rtO_eq,cC_dec,aI_dec,c0_dec,pairO_some,rpO_dec]
theorem rCnA_next (R : List Rm) (m : Nat) : rCnA R (m + 1) = rCnA R m ++ bif decide ((getR R ((m + 1 : Nat) : Int)).c > 0) then [m + 1] else []:=by
  unfold rCnA
  rw [List.range'_1_concat,List.filter_append,Nat.add_comm 1 m]
  simp only [List.filter_cons,List.filter_nil]
  cases decide ((getR R ((m + 1 : Nat) : Int)).c > 0) <;> rfl
theorem rCnA_le (R : List Rm) (m : Nat) : (rCnA R m).length ≤ m:=Nat.le_trans (List.length_filter_le _ _) (by simp)
def rCnSt (R : List Rm) (m : Nat) : St:=⟨[(4,.int .i64 ((m + 1 : Nat) : Int)),(3,.int .i64 (rCnA R m).length),(0,.ptr 0 0 0)],rpM R⟩
theorem rCn_ok (R : List Rm) (hR : R.length = 1000) : CallA1 S0 64 [.ptr 0 0 0] (rpM R) fun r m =>r = .int .i64 (rCn R) ∧ m = rpM R:=by
  refine fun_sound okRk0 Tryd.func64 c64 ?_
  unfold wpF F64
  simp only [AH.SD,AH.SE,AOp.call?,AOp.next?,bstep,AV.cells,unAV,binAV,retQ,retV,AH.sliceElems,AH.bytesOf,AH.strOp,AH.bound,AH.missQ,AH.minmaxAV,AH.readOf,AH.effOf,Nat.reduceBEq,Nat.reduceAdd,Nat.reduceLT,↓reduceIte,Nat.reduceEqDiff,Nat.reduceLeDiff,Nat.reduceSub,Nat.reduceMul,Int.reduceSub,Int.reduceToNat,Int.reduceBEq,Int.reduceBNe,Int.reduceLT,Int.reduceGT,Int.reduceLE,Int.reduceGE,Int.reduceNeg,Int.reduceAdd,AH.SP,AH.PD,AV.inB,vstep,vw,shift,newOnes,rowsM,blkIn,rwB,@flat_lts,AV.lt,AV.lts,Nat.sub_self,AH.SO]
  refine loop_do [0] [4,3,0] [] (α:=Nat) (fun m => 999 - m) (rCnSt R) (fun m =>m ≤ 999) 0 (Nat.zero_le _) (by simp only [AH.SD,AH.SE,AOp.call?,AOp.next?,bstep,AV.cells,unAV,binAV,retQ,retV,AH.sliceElems,AH.bytesOf,AH.strOp,AH.bound,AH.missQ,AH.minmaxAV,AH.readOf,AH.effOf,Nat.reduceBEq,Nat.reduceAdd,Nat.reduceLT,↓reduceIte,Nat.reduceEqDiff,Nat.reduceLeDiff,Nat.reduceSub,Nat.reduceMul,Int.reduceSub,Int.reduceToNat,Int.reduceBEq,Int.reduceBNe,Int.reduceLT,Int.reduceGT,Int.reduceLE,Int.reduceGE,Int.reduceNeg,Int.reduceAdd,AH.SP,AH.PD,AV.inB,vstep,rCnSt,rpM,flR_in,flR_ren,show ((rCnA R 0).length : Int) = 0 from rfl]) ?_
  intro X m hm ih
  simp only [AH.SD,AH.SE,AOp.call?,AOp.next?,bstep,AV.cells,unAV,binAV,retQ,retV,AH.sliceElems,AH.bytesOf,AH.strOp,AH.bound,AH.missQ,AH.minmaxAV,AH.readOf,AH.effOf,Nat.reduceBEq,Nat.reduceAdd,Nat.reduceLT,↓reduceIte,Nat.reduceEqDiff,Nat.reduceLeDiff,Nat.reduceSub,Nat.reduceMul,Int.reduceSub,Int.reduceToNat,Int.reduceBEq,Int.reduceBNe,Int.reduceLT,Int.reduceGT,Int.reduceLE,Int.reduceGE,Int.reduceNeg,Int.reduceAdd,AH.SP,AH.PD,AV.inB,vstep,vw,shift,newOnes,rowsM,blkIn,rwB,@flat_lts,AV.lt,AV.lts,Nat.sub_self,AH.SO,rCnSt,rpM]
  refine ⟨fun hlt => ?_,fun hlt => ?_⟩
  · have hi1 : m + 1 < 1000:=by simp only [decide_eq_true_eq] at hlt; omega
    have wi:=wrapS (i:=m + 1) (by omega)
    have hle:=rCnA_le R m
    have wn:=wrapS (i:=(rCnA R m).length) (by omega)
    have done:=ih (m + 1) (by omega) (by omega)
    have h5 : m + 1 < R.length:=by omega
    simp only [rCnSt,rpM,rCnA_next,getR_i h5] at done
    cases hc : decide (R[m + 1].c > 0)
    · rw [hc,cond_false,List.append_nil] at done
      simp only [AH.SD,AH.SE,AOp.call?,AOp.next?,bstep,AV.cells,unAV,binAV,retQ,retV,AH.sliceElems,AH.bytesOf,AH.strOp,AH.bound,AH.missQ,AH.minmaxAV,AH.readOf,AH.effOf,Nat.reduceBEq,Nat.reduceAdd,Nat.reduceLT,↓reduceIte,Nat.reduceEqDiff,Nat.reduceLeDiff,Nat.reduceSub,Nat.reduceMul,Int.reduceSub,Int.reduceToNat,Int.reduceBEq,Int.reduceBNe,Int.reduceLT,Int.reduceGT,Int.reduceLE,Int.reduceGE,Int.reduceNeg,Int.reduceAdd,AH.SP,AH.PD,AV.inB,vstep,vw,shift,newOnes,rowsM,blkIn,rwB,@flat_lts,AV.lt,AV.lts,Nat.sub_self,AH.SO,fl0 h5,Int.toNat_natCast,hc,wi]
      repeat (refine ⟨by first | rfl | decide | omega | (simp only [List.length_map,List.length_set,and_true]; omega),?_⟩)
      refine gc_auto [0] [4,3,0] [] ?_
      simp only [AH.SD,AH.SE,AOp.call?,AOp.next?,bstep,AV.cells,unAV,binAV,retQ,retV,AH.sliceElems,AH.bytesOf,AH.strOp,AH.bound,AH.missQ,AH.minmaxAV,AH.readOf,AH.effOf,Nat.reduceBEq,Nat.reduceAdd,Nat.reduceLT,↓reduceIte,Nat.reduceEqDiff,Nat.reduceLeDiff,Nat.reduceSub,Nat.reduceMul,Int.reduceSub,Int.reduceToNat,Int.reduceBEq,Int.reduceBNe,Int.reduceLT,Int.reduceGT,Int.reduceLE,Int.reduceGE,Int.reduceNeg,Int.reduceAdd,AH.SP,AH.PD,AV.inB,vstep,flR_in,flR_ren]
      exact done
    · rw [hc,cond_true,List.length_append,List.length_singleton] at done
      simp only [AH.SD,AH.SE,AOp.call?,AOp.next?,bstep,AV.cells,unAV,binAV,retQ,retV,AH.sliceElems,AH.bytesOf,AH.strOp,AH.bound,AH.missQ,AH.minmaxAV,AH.readOf,AH.effOf,Nat.reduceBEq,Nat.reduceAdd,Nat.reduceLT,↓reduceIte,Nat.reduceEqDiff,Nat.reduceLeDiff,Nat.reduceSub,Nat.reduceMul,Int.reduceSub,Int.reduceToNat,Int.reduceBEq,Int.reduceBNe,Int.reduceLT,Int.reduceGT,Int.reduceLE,Int.reduceGE,Int.reduceNeg,Int.reduceAdd,AH.SP,AH.PD,AV.inB,vstep,vw,shift,newOnes,rowsM,blkIn,rwB,@flat_lts,AV.lt,AV.lts,Nat.sub_self,AH.SO,fl0 h5,Int.toNat_natCast,hc,wi,wn]
      repeat (refine ⟨by first | rfl | decide | omega | (simp only [List.length_map,List.length_set,and_true]; omega),?_⟩)
      refine gc_auto [0] [4,3,0] [] ?_
      simp only [AH.SD,AH.SE,AOp.call?,AOp.next?,bstep,AV.cells,unAV,binAV,retQ,retV,AH.sliceElems,AH.bytesOf,AH.strOp,AH.bound,AH.missQ,AH.minmaxAV,AH.readOf,AH.effOf,Nat.reduceBEq,Nat.reduceAdd,Nat.reduceLT,↓reduceIte,Nat.reduceEqDiff,Nat.reduceLeDiff,Nat.reduceSub,Nat.reduceMul,Int.reduceSub,Int.reduceToNat,Int.reduceBEq,Int.reduceBNe,Int.reduceLT,Int.reduceGT,Int.reduceLE,Int.reduceGE,Int.reduceNeg,Int.reduceAdd,AH.SP,AH.PD,AV.inB,vstep,flR_in,flR_ren]
      exact done
  · have hi1 : ¬ m + 1 < 1000:=by simp only [decide_eq_false_iff_not] at hlt; omega
    obtain rfl : m = 999:=by omega
    simp only [AH.SD,AH.SE,AOp.call?,AOp.next?,bstep,AV.cells,unAV,binAV,retQ,retV,AH.sliceElems,AH.bytesOf,AH.strOp,AH.bound,AH.missQ,AH.minmaxAV,AH.readOf,AH.effOf,Nat.reduceBEq,Nat.reduceAdd,Nat.reduceLT,↓reduceIte,Nat.reduceEqDiff,Nat.reduceLeDiff,Nat.reduceSub,Nat.reduceMul,Int.reduceSub,Int.reduceToNat,Int.reduceBEq,Int.reduceBNe,Int.reduceLT,Int.reduceGT,Int.reduceLE,Int.reduceGE,Int.reduceNeg,Int.reduceAdd,AH.SP,AH.PD,AV.inB,vstep,vw,shift,newOnes,rowsM,blkIn,rwB,@flat_lts,AV.lt,AV.lts,Nat.sub_self,AH.SO,rCn]
noncomputable def rCnT : RT:=rtO rpO c0 fun R _ =>if R.length = 1000 then some (.int .i64 (rCn R)) else none
theorem rCnT_ok : ReadF S0 64 rCnT:=rtO_ok fun R x v h =>by
  split at h
  · rename_i hR
    simp only [Option.some.injEq] at h; subst h
    exact ⟨rfl,rCn_ok R hR⟩
  · cases h
theorem rCnT_p {p : Nat} {M : Nat → Option Blk} : rCnT [.ptr p 0 0] M = rtO2 (fun (R : List Rm) (_ : Unit) =>if R.length = 1000 then some (.int .i64 (rCn R)) else none) (rpR p (M p)) (some ()):=by
  simp only [rCnT,rtO_eq,c0_dec,rpO_dec]
theorem rLvA_next (R : List Rm) (c : Int) (all : Bool) (m : Nat) : rLvA R c all (m + 1) = bif rLvP R c all (m + 1) then addV (rLvA R c all m) (getR R ((m + 1 : Nat) : Int)).h else rLvA R c all m:=by
  unfold rLvA
  rw [List.range'_1_concat,List.foldl_append,Nat.add_comm 1 m]
  rfl
def rLvSt (R : List Rm) (c : Int) (all : Bool) (m : Nat) : St:=⟨[(8,.int .i64 ((m + 1 : Nat) : Int)),(7,.ptr 2 0 0),(6,.ptr 1 0 0),(2,.bool all),(1,.int .i64 c),(0,.ptr 0 0 0)],rpM R ++ [some (.row false 4 [V4.zero.cells]),some (.row false 4 [(rLvA R c all m).cells])]⟩
set_option maxHeartbeats 8000000 in
theorem rLv_ok (R : List Rm) (hR : R.length = 1000) (c : Int) (all : Bool) : CallA1 S0 33 [.ptr 0 0 0,.int .i64 c,.bool all] (rpM R) fun r m =>r = .agg (rLv R c all).cells ∧ m = rpM R:=by
  refine CallA1.fin ?_
  refine fun_sound okRk0 Tryd.func33 c33 ?_
  unfold wpF F33
  simp only [AH.SD,AH.SE,AOp.call?,AOp.next?,bstep,AV.cells,unAV,binAV,retQ,retV,AH.sliceElems,AH.bytesOf,AH.strOp,AH.bound,AH.missQ,AH.minmaxAV,AH.readOf,AH.effOf,Nat.reduceBEq,Nat.reduceAdd,Nat.reduceLT,↓reduceIte,Nat.reduceEqDiff,Nat.reduceLeDiff,Nat.reduceSub,Nat.reduceMul,Int.reduceSub,Int.reduceToNat,Int.reduceBEq,Int.reduceBNe,Int.reduceLT,Int.reduceGT,Int.reduceLE,Int.reduceGE,Int.reduceNeg,Int.reduceAdd,AH.SP,AH.PD,AV.inB,vstep,vw,shift,newOnes,rowsM,blkIn,rwB,@flat_lts,AV.lt,AV.lts,Nat.sub_self,AH.SO,rpM]
  refine loop_do [0,1,2] [8,7,6,2,1,0] [] (α:=Nat) (fun m => 999 - m) (rLvSt R c all) (fun m =>m ≤ 999) 0 (Nat.zero_le _) (by simp only [AH.SD,AH.SE,AOp.call?,AOp.next?,bstep,AV.cells,unAV,binAV,retQ,retV,AH.sliceElems,AH.bytesOf,AH.strOp,AH.bound,AH.missQ,AH.minmaxAV,AH.readOf,AH.effOf,Nat.reduceBEq,Nat.reduceAdd,Nat.reduceLT,↓reduceIte,Nat.reduceEqDiff,Nat.reduceLeDiff,Nat.reduceSub,Nat.reduceMul,Int.reduceSub,Int.reduceToNat,Int.reduceBEq,Int.reduceBNe,Int.reduceLT,Int.reduceGT,Int.reduceLE,Int.reduceGE,Int.reduceNeg,Int.reduceAdd,AH.SP,AH.PD,AV.inB,vstep,rLvSt,rpM,flR_in,flR_ren,show rLvA R c all 0 = V4.zero from rfl,v4c,V4.zero]; try rfl) ?_
  intro X m hm ih
  simp only [AH.SD,AH.SE,AOp.call?,AOp.next?,bstep,AV.cells,unAV,binAV,retQ,retV,AH.sliceElems,AH.bytesOf,AH.strOp,AH.bound,AH.missQ,AH.minmaxAV,AH.readOf,AH.effOf,Nat.reduceBEq,Nat.reduceAdd,Nat.reduceLT,↓reduceIte,Nat.reduceEqDiff,Nat.reduceLeDiff,Nat.reduceSub,Nat.reduceMul,Int.reduceSub,Int.reduceToNat,Int.reduceBEq,Int.reduceBNe,Int.reduceLT,Int.reduceGT,Int.reduceLE,Int.reduceGE,Int.reduceNeg,Int.reduceAdd,AH.SP,AH.PD,AV.inB,vstep,vw,shift,newOnes,rowsM,blkIn,rwB,@flat_lts,AV.lt,AV.lts,Nat.sub_self,AH.SO,rLvSt,rpM,List.cons_append,List.nil_append]
  refine ⟨fun hlt => ?_,fun hlt => ?_⟩
  · have hi1 : m + 1 < 1000:=by simp only [decide_eq_true_eq] at hlt; omega
    have wi:=wrapS (i:=m + 1) (by omega)
    have done:=ih (m + 1) (by omega) (by omega)
    have h5 : m + 1 < R.length:=by omega
    simp only [rLvSt,rpM,rLvA_next,rLvP,getR_i h5,List.cons_append,List.nil_append] at done
    cases h1 : (R[m + 1].c == c)
    · rw [h1,cond_false,cond_false] at done
      iterate 2 ((try simp only [AH.SD,AH.SE,AOp.call?,AOp.next?,bstep,AV.cells,unAV,binAV,retQ,retV,AH.sliceElems,AH.bytesOf,AH.strOp,AH.bound,AH.missQ,AH.minmaxAV,AH.readOf,AH.effOf,Nat.reduceBEq,Nat.reduceAdd,Nat.reduceLT,↓reduceIte,Nat.reduceEqDiff,Nat.reduceLeDiff,Nat.reduceSub,Nat.reduceMul,Int.reduceSub,Int.reduceToNat,Int.reduceBEq,Int.reduceBNe,Int.reduceLT,Int.reduceGT,Int.reduceLE,Int.reduceGE,Int.reduceNeg,Int.reduceAdd,AH.SP,AH.PD,AV.inB,vstep,vw,shift,newOnes,rowsM,blkIn,rwB,@flat_lts,AV.lt,AV.lts,Nat.sub_self,AH.SO,fl0 h5,Int.toNat_natCast,h1,wi]); repeat (refine ⟨by first | rfl | decide | omega | (simp only [List.length_map,List.length_set,and_true]; omega),?_⟩))
      refine gc_auto [0,1,2] [8,7,6,2,1,0] [] ?_
      simp only [AH.SD,AH.SE,AOp.call?,AOp.next?,bstep,AV.cells,unAV,binAV,retQ,retV,AH.sliceElems,AH.bytesOf,AH.strOp,AH.bound,AH.missQ,AH.minmaxAV,AH.readOf,AH.effOf,Nat.reduceBEq,Nat.reduceAdd,Nat.reduceLT,↓reduceIte,Nat.reduceEqDiff,Nat.reduceLeDiff,Nat.reduceSub,Nat.reduceMul,Int.reduceSub,Int.reduceToNat,Int.reduceBEq,Int.reduceBNe,Int.reduceLT,Int.reduceGT,Int.reduceLE,Int.reduceGE,Int.reduceNeg,Int.reduceAdd,AH.SP,AH.PD,AV.inB,vstep,flR_in,flR_ren,v4c,V4.zero]
      exact done
    cases h2 : decide (c > 0)
    · rw [h1,cond_true,h2,cond_false,cond_false] at done
      iterate 2 ((try simp only [AH.SD,AH.SE,AOp.call?,AOp.next?,bstep,AV.cells,unAV,binAV,retQ,retV,AH.sliceElems,AH.bytesOf,AH.strOp,AH.bound,AH.missQ,AH.minmaxAV,AH.readOf,AH.effOf,Nat.reduceBEq,Nat.reduceAdd,Nat.reduceLT,↓reduceIte,Nat.reduceEqDiff,Nat.reduceLeDiff,Nat.reduceSub,Nat.reduceMul,Int.reduceSub,Int.reduceToNat,Int.reduceBEq,Int.reduceBNe,Int.reduceLT,Int.reduceGT,Int.reduceLE,Int.reduceGE,Int.reduceNeg,Int.reduceAdd,AH.SP,AH.PD,AV.inB,vstep,vw,shift,newOnes,rowsM,blkIn,rwB,@flat_lts,AV.lt,AV.lts,Nat.sub_self,AH.SO,fl0 h5,Int.toNat_natCast,h1,h2,wi]); repeat (refine ⟨by first | rfl | decide | omega | (simp only [List.length_map,List.length_set,and_true]; omega),?_⟩))
      refine gc_auto [0,1,2] [8,7,6,2,1,0] [] ?_
      simp only [AH.SD,AH.SE,AOp.call?,AOp.next?,bstep,AV.cells,unAV,binAV,retQ,retV,AH.sliceElems,AH.bytesOf,AH.strOp,AH.bound,AH.missQ,AH.minmaxAV,AH.readOf,AH.effOf,Nat.reduceBEq,Nat.reduceAdd,Nat.reduceLT,↓reduceIte,Nat.reduceEqDiff,Nat.reduceLeDiff,Nat.reduceSub,Nat.reduceMul,Int.reduceSub,Int.reduceToNat,Int.reduceBEq,Int.reduceBNe,Int.reduceLT,Int.reduceGT,Int.reduceLE,Int.reduceGE,Int.reduceNeg,Int.reduceAdd,AH.SP,AH.PD,AV.inB,vstep,flR_in,flR_ren,v4c,V4.zero]
      exact done
    have hcs : (all = true) ∨ (all = false ∧ (R[m + 1].s == 0) = false) ∨ (all = false ∧ (R[m + 1].s == 0) = true):=by
      cases all
      · cases (R[m + 1].s == 0)
        · exact .inr (.inl ⟨rfl,rfl⟩)
        · exact .inr (.inr ⟨rfl,rfl⟩)
      · exact .inl rfl
    rw [h1,cond_true,h2,cond_true] at done
    generalize rLvA R c all m = o at *
    rcases hcs with rfl | ⟨rfl,h3⟩ | ⟨rfl,h3⟩
    · rw [cond_true,cond_true] at done
      iterate 2 ((try simp only [AH.SD,AH.SE,AOp.call?,AOp.next?,bstep,AV.cells,unAV,binAV,retQ,retV,AH.sliceElems,AH.bytesOf,AH.strOp,AH.bound,AH.missQ,AH.minmaxAV,AH.readOf,AH.effOf,Nat.reduceBEq,Nat.reduceAdd,Nat.reduceLT,↓reduceIte,Nat.reduceEqDiff,Nat.reduceLeDiff,Nat.reduceSub,Nat.reduceMul,Int.reduceSub,Int.reduceToNat,Int.reduceBEq,Int.reduceBNe,Int.reduceLT,Int.reduceGT,Int.reduceLE,Int.reduceGE,Int.reduceNeg,Int.reduceAdd,AH.SP,AH.PD,AV.inB,vstep,vw,shift,newOnes,rowsM,blkIn,rwB,@flat_lts,AV.lt,AV.lts,Nat.sub_self,AH.SO,fl0 h5,fl1 h5,fl2 h5,fl3 h5,fl4 h5,fl5 h5,Int.toNat_natCast,h1,h2,wi,v4c]); repeat (refine ⟨by first | rfl | decide | omega | (simp only [List.length_map,List.length_set,and_true]; omega),?_⟩))
      iterate 4 (refine loop_unroll ctxE_monoB ?_; iterate 2 ((try simp only [AH.SD,AH.SE,AOp.call?,AOp.next?,bstep,AV.cells,unAV,binAV,retQ,retV,AH.sliceElems,AH.bytesOf,AH.strOp,AH.bound,AH.missQ,AH.minmaxAV,AH.readOf,AH.effOf,Nat.reduceBEq,Nat.reduceAdd,Nat.reduceLT,↓reduceIte,Nat.reduceEqDiff,Nat.reduceLeDiff,Nat.reduceSub,Nat.reduceMul,Int.reduceSub,Int.reduceToNat,Int.reduceBEq,Int.reduceBNe,Int.reduceLT,Int.reduceGT,Int.reduceLE,Int.reduceGE,Int.reduceNeg,Int.reduceAdd,AH.SP,AH.PD,AV.inB,vstep,vw,shift,newOnes,rowsM,blkIn,rwB,@flat_lts,AV.lt,AV.lts,Nat.sub_self,AH.SO,fl0 h5,fl1 h5,fl2 h5,fl3 h5,fl4 h5,fl5 h5,Int.toNat_natCast,h1,h2,wi,v4c]); repeat (refine ⟨by first | rfl | decide | omega | (simp only [List.length_map,List.length_set,and_true]; omega),?_⟩)))
      refine loop_unroll ctxE_monoB ?_
      iterate 2 ((try simp only [AH.SD,AH.SE,AOp.call?,AOp.next?,bstep,AV.cells,unAV,binAV,retQ,retV,AH.sliceElems,AH.bytesOf,AH.strOp,AH.bound,AH.missQ,AH.minmaxAV,AH.readOf,AH.effOf,Nat.reduceBEq,Nat.reduceAdd,Nat.reduceLT,↓reduceIte,Nat.reduceEqDiff,Nat.reduceLeDiff,Nat.reduceSub,Nat.reduceMul,Int.reduceSub,Int.reduceToNat,Int.reduceBEq,Int.reduceBNe,Int.reduceLT,Int.reduceGT,Int.reduceLE,Int.reduceGE,Int.reduceNeg,Int.reduceAdd,AH.SP,AH.PD,AV.inB,vstep,vw,shift,newOnes,rowsM,blkIn,rwB,@flat_lts,AV.lt,AV.lts,Nat.sub_self,AH.SO,fl0 h5,fl1 h5,fl2 h5,fl3 h5,fl4 h5,fl5 h5,Int.toNat_natCast,h1,h2,wi,v4c]); repeat (refine ⟨by first | rfl | decide | omega | (simp only [List.length_map,List.length_set,and_true]; omega),?_⟩))
      refine gc_auto [0,1,2] [8,7,6,2,1,0] [] ?_
      simp only [AH.SD,AH.SE,AOp.call?,AOp.next?,bstep,AV.cells,unAV,binAV,retQ,retV,AH.sliceElems,AH.bytesOf,AH.strOp,AH.bound,AH.missQ,AH.minmaxAV,AH.readOf,AH.effOf,Nat.reduceBEq,Nat.reduceAdd,Nat.reduceLT,↓reduceIte,Nat.reduceEqDiff,Nat.reduceLeDiff,Nat.reduceSub,Nat.reduceMul,Int.reduceSub,Int.reduceToNat,Int.reduceBEq,Int.reduceBNe,Int.reduceLT,Int.reduceGT,Int.reduceLE,Int.reduceGE,Int.reduceNeg,Int.reduceAdd,AH.SP,AH.PD,AV.inB,vstep,flR_in,flR_ren,v4c]
      exact done
    · rw [cond_false,h3,cond_false] at done
      iterate 2 ((try simp only [AH.SD,AH.SE,AOp.call?,AOp.next?,bstep,AV.cells,unAV,binAV,retQ,retV,AH.sliceElems,AH.bytesOf,AH.strOp,AH.bound,AH.missQ,AH.minmaxAV,AH.readOf,AH.effOf,Nat.reduceBEq,Nat.reduceAdd,Nat.reduceLT,↓reduceIte,Nat.reduceEqDiff,Nat.reduceLeDiff,Nat.reduceSub,Nat.reduceMul,Int.reduceSub,Int.reduceToNat,Int.reduceBEq,Int.reduceBNe,Int.reduceLT,Int.reduceGT,Int.reduceLE,Int.reduceGE,Int.reduceNeg,Int.reduceAdd,AH.SP,AH.PD,AV.inB,vstep,vw,shift,newOnes,rowsM,blkIn,rwB,@flat_lts,AV.lt,AV.lts,Nat.sub_self,AH.SO,fl0 h5,fl1 h5,fl2 h5,fl3 h5,fl4 h5,fl5 h5,Int.toNat_natCast,h1,h2,wi,v4c,h3]); repeat (refine ⟨by first | rfl | decide | omega | (simp only [List.length_map,List.length_set,and_true]; omega),?_⟩))
      refine gc_auto [0,1,2] [8,7,6,2,1,0] [] ?_
      simp only [AH.SD,AH.SE,AOp.call?,AOp.next?,bstep,AV.cells,unAV,binAV,retQ,retV,AH.sliceElems,AH.bytesOf,AH.strOp,AH.bound,AH.missQ,AH.minmaxAV,AH.readOf,AH.effOf,Nat.reduceBEq,Nat.reduceAdd,Nat.reduceLT,↓reduceIte,Nat.reduceEqDiff,Nat.reduceLeDiff,Nat.reduceSub,Nat.reduceMul,Int.reduceSub,Int.reduceToNat,Int.reduceBEq,Int.reduceBNe,Int.reduceLT,Int.reduceGT,Int.reduceLE,Int.reduceGE,Int.reduceNeg,Int.reduceAdd,AH.SP,AH.PD,AV.inB,vstep,flR_in,flR_ren,v4c,V4.zero]
      exact done
    · rw [cond_false,h3,cond_true] at done
      iterate 2 ((try simp only [AH.SD,AH.SE,AOp.call?,AOp.next?,bstep,AV.cells,unAV,binAV,retQ,retV,AH.sliceElems,AH.bytesOf,AH.strOp,AH.bound,AH.missQ,AH.minmaxAV,AH.readOf,AH.effOf,Nat.reduceBEq,Nat.reduceAdd,Nat.reduceLT,↓reduceIte,Nat.reduceEqDiff,Nat.reduceLeDiff,Nat.reduceSub,Nat.reduceMul,Int.reduceSub,Int.reduceToNat,Int.reduceBEq,Int.reduceBNe,Int.reduceLT,Int.reduceGT,Int.reduceLE,Int.reduceGE,Int.reduceNeg,Int.reduceAdd,AH.SP,AH.PD,AV.inB,vstep,vw,shift,newOnes,rowsM,blkIn,rwB,@flat_lts,AV.lt,AV.lts,Nat.sub_self,AH.SO,fl0 h5,fl1 h5,fl2 h5,fl3 h5,fl4 h5,fl5 h5,Int.toNat_natCast,h1,h2,wi,v4c,h3]); repeat (refine ⟨by first | rfl | decide | omega | (simp only [List.length_map,List.length_set,and_true]; omega),?_⟩))
      iterate 4 (refine loop_unroll ctxE_monoB ?_; iterate 2 ((try simp only [AH.SD,AH.SE,AOp.call?,AOp.next?,bstep,AV.cells,unAV,binAV,retQ,retV,AH.sliceElems,AH.bytesOf,AH.strOp,AH.bound,AH.missQ,AH.minmaxAV,AH.readOf,AH.effOf,Nat.reduceBEq,Nat.reduceAdd,Nat.reduceLT,↓reduceIte,Nat.reduceEqDiff,Nat.reduceLeDiff,Nat.reduceSub,Nat.reduceMul,Int.reduceSub,Int.reduceToNat,Int.reduceBEq,Int.reduceBNe,Int.reduceLT,Int.reduceGT,Int.reduceLE,Int.reduceGE,Int.reduceNeg,Int.reduceAdd,AH.SP,AH.PD,AV.inB,vstep,vw,shift,newOnes,rowsM,blkIn,rwB,@flat_lts,AV.lt,AV.lts,Nat.sub_self,AH.SO,fl0 h5,fl1 h5,fl2 h5,fl3 h5,fl4 h5,fl5 h5,Int.toNat_natCast,h1,h2,wi,v4c,h3]); repeat (refine ⟨by first | rfl | decide | omega | (simp only [List.length_map,List.length_set,and_true]; omega),?_⟩)))
      refine loop_unroll ctxE_monoB ?_
      iterate 2 ((try simp only [AH.SD,AH.SE,AOp.call?,AOp.next?,bstep,AV.cells,unAV,binAV,retQ,retV,AH.sliceElems,AH.bytesOf,AH.strOp,AH.bound,AH.missQ,AH.minmaxAV,AH.readOf,AH.effOf,Nat.reduceBEq,Nat.reduceAdd,Nat.reduceLT,↓reduceIte,Nat.reduceEqDiff,Nat.reduceLeDiff,Nat.reduceSub,Nat.reduceMul,Int.reduceSub,Int.reduceToNat,Int.reduceBEq,Int.reduceBNe,Int.reduceLT,Int.reduceGT,Int.reduceLE,Int.reduceGE,Int.reduceNeg,Int.reduceAdd,AH.SP,AH.PD,AV.inB,vstep,vw,shift,newOnes,rowsM,blkIn,rwB,@flat_lts,AV.lt,AV.lts,Nat.sub_self,AH.SO,fl0 h5,fl1 h5,fl2 h5,fl3 h5,fl4 h5,fl5 h5,Int.toNat_natCast,h1,h2,wi,v4c,h3]); repeat (refine ⟨by first | rfl | decide | omega | (simp only [List.length_map,List.length_set,and_true]; omega),?_⟩))
      refine gc_auto [0,1,2] [8,7,6,2,1,0] [] ?_
      simp only [AH.SD,AH.SE,AOp.call?,AOp.next?,bstep,AV.cells,unAV,binAV,retQ,retV,AH.sliceElems,AH.bytesOf,AH.strOp,AH.bound,AH.missQ,AH.minmaxAV,AH.readOf,AH.effOf,Nat.reduceBEq,Nat.reduceAdd,Nat.reduceLT,↓reduceIte,Nat.reduceEqDiff,Nat.reduceLeDiff,Nat.reduceSub,Nat.reduceMul,Int.reduceSub,Int.reduceToNat,Int.reduceBEq,Int.reduceBNe,Int.reduceLT,Int.reduceGT,Int.reduceLE,Int.reduceGE,Int.reduceNeg,Int.reduceAdd,AH.SP,AH.PD,AV.inB,vstep,flR_in,flR_ren,v4c]
      exact done
  · have hi1 : ¬ m + 1 < 1000:=by simp only [decide_eq_false_iff_not] at hlt; omega
    obtain rfl : m = 999:=by omega
    simp only [AH.SD,AH.SE,AOp.call?,AOp.next?,bstep,AV.cells,unAV,binAV,retQ,retV,AH.sliceElems,AH.bytesOf,AH.strOp,AH.bound,AH.missQ,AH.minmaxAV,AH.readOf,AH.effOf,Nat.reduceBEq,Nat.reduceAdd,Nat.reduceLT,↓reduceIte,Nat.reduceEqDiff,Nat.reduceLeDiff,Nat.reduceSub,Nat.reduceMul,Int.reduceSub,Int.reduceToNat,Int.reduceBEq,Int.reduceBNe,Int.reduceLT,Int.reduceGT,Int.reduceLE,Int.reduceGE,Int.reduceNeg,Int.reduceAdd,AH.SP,AH.PD,AV.inB,vstep,vw,shift,newOnes,rowsM,blkIn,rwB,@flat_lts,AV.lt,AV.lts,Nat.sub_self,AH.SO,v4c]
    repeat (refine ⟨by first | rfl | decide | omega | (simp only [List.length_map,List.length_set,and_true]; omega),?_⟩)
    try simp only [AH.SD,AH.SE,AOp.call?,AOp.next?,bstep,AV.cells,unAV,binAV,retQ,retV,AH.sliceElems,AH.bytesOf,AH.strOp,AH.bound,AH.missQ,AH.minmaxAV,AH.readOf,AH.effOf,Nat.reduceBEq,Nat.reduceAdd,Nat.reduceLT,↓reduceIte,Nat.reduceEqDiff,Nat.reduceLeDiff,Nat.reduceSub,Nat.reduceMul,Int.reduceSub,Int.reduceToNat,Int.reduceBEq,Int.reduceBNe,Int.reduceLT,Int.reduceGT,Int.reduceLE,Int.reduceGE,Int.reduceNeg,Int.reduceAdd,AH.SP,AH.PD,AV.inB,vstep,vw,shift,newOnes,rowsM,blkIn,rwB,@flat_lts,AV.lt,AV.lts,Nat.sub_self,AH.SO,v4c]
    refine ⟨[0],[],?_⟩
    simp only [AH.SD,AH.SE,AOp.call?,AOp.next?,bstep,AV.cells,unAV,binAV,retQ,retV,AH.sliceElems,AH.bytesOf,AH.strOp,AH.bound,AH.missQ,AH.minmaxAV,AH.readOf,AH.effOf,Nat.reduceBEq,Nat.reduceAdd,Nat.reduceLT,↓reduceIte,Nat.reduceEqDiff,Nat.reduceLeDiff,Nat.reduceSub,Nat.reduceMul,Int.reduceSub,Int.reduceToNat,Int.reduceBEq,Int.reduceBNe,Int.reduceLT,Int.reduceGT,Int.reduceLE,Int.reduceGE,Int.reduceNeg,Int.reduceAdd,AH.SP,AH.PD,AV.inB,vstep,flR_in,flR_ren,v4c,rLv]
    try rfl
noncomputable def rLvT : RT:=rtO rpO (cC (aI .i64) (cC aB c0)) fun R x =>if R.length = 1000 then some (.agg (rLv R x.1 x.2.1).cells) else none
theorem rLvT_ok : ReadF S0 33 rLvT:=rtO_ok fun R x v h =>by
  split at h
  · rename_i hR
    simp only [Option.some.injEq] at h; subst h
    exact ⟨rfl,rLv_ok R hR x.1 x.2.1⟩
  · cases h
theorem rLvT_p {p : Nat} {c : Int} {all : Bool} {M : Nat → Option Blk} : rLvT [.ptr p 0 0,.int .i64 c,.bool all] M = rtO2 (fun (R : List Rm) (x : Int × Bool × Unit) =>if R.length = 1000 then some (.agg (rLv R x.1 x.2.1).cells) else none) (rpR p (M p)) (some (c,all,())):=by
  simp only [rLvT,rtO_eq,cC_dec,aI_dec,aB_dec,c0_dec,pairO_some,rpO_dec]
theorem okRk1 : CtxOK S0 (ctxE S0 [(31,rIsT),(64,rCnT),(33,rLvT),(63,goodT),(65,raddT)] [] []):=ctxE_ok ⟨rIsT_ok,rCnT_ok,rLvT_ok,rgoodT_ok,raddT_ok,trivial⟩ trivial trivial mixed
theorem rIs_nat {R : List Rm} {id : Int} (h : rIs R id = true) : ∃ i : Nat,id = i ∧ 1 ≤ i ∧ i ≤ 999:=by
  unfold rIs at h
  cases h1 : decide (id ≥ 1)
  · rw [h1] at h; cases h
  · rw [h1,cond_true] at h
    cases h2 : decide (id ≤ 999)
    · rw [h2] at h; cases h
    · simp only [decide_eq_true_eq] at h1 h2
      obtain ⟨i,rfl⟩:=Int.eq_ofNat_of_zero_le (by omega : 0 ≤ id)
      exact ⟨i,rfl,by omega,by omega⟩
theorem flsZ {R : List Rm} {i : Nat} (h : i < R.length) : splice (flR R) (i * 6) [.int .i64 0,.int .i64 0,.int .i64 0,.int .i64 0,.int .i64 0,.int .i64 0] = flR (R.set i rmZ):=fls R i rmZ h
theorem flsM {R : List Rm} {i : Nat} {c x y z u : Int} (h : i < R.length) : splice (flR R) (i * 6) [.int .i64 c,.int .i64 x,.int .i64 y,.int .i64 z,.int .i64 u,.int .i64 0] = flR (R.set i ⟨c,⟨x,y,z,u⟩,0⟩):=fls R i ⟨c,⟨x,y,z,u⟩,0⟩ h
theorem rDr_ok (R : List Rm) (hR : R.length = 1000) (id : Int) : CallA1 S0 25 [.ptr 0 0 0,.int .i64 id] (rpM R) fun r m =>r = .int .i64 (rDr R id).1 ∧ m = rpM (rDr R id).2:=by
  refine fun_sound okRk1 Tryd.func25 c25 ?_
  unfold wpF F25
  cases h : rIs R id
  · iterate 2 ((try simp only [AH.SD,AH.SE,AOp.call?,AOp.next?,bstep,AV.cells,unAV,binAV,retQ,retV,AH.sliceElems,AH.bytesOf,AH.strOp,AH.bound,AH.missQ,AH.minmaxAV,AH.readOf,AH.effOf,Nat.reduceBEq,Nat.reduceAdd,Nat.reduceLT,↓reduceIte,Nat.reduceEqDiff,Nat.reduceLeDiff,Nat.reduceSub,Nat.reduceMul,Int.reduceSub,Int.reduceToNat,Int.reduceBEq,Int.reduceBNe,Int.reduceLT,Int.reduceGT,Int.reduceLE,Int.reduceGE,Int.reduceNeg,Int.reduceAdd,AH.SP,AH.PD,AV.inB,vstep,vw,shift,newOnes,rowsM,blkIn,rwB,@flat_lts,AV.lt,AV.lts,Nat.sub_self,AH.SO,rpM,rIsT_p,rpR_eq hR,hR,if_true,h,rDr]); repeat (refine ⟨by first | rfl | decide | omega | (simp only [List.length_map,List.length_set,and_true]; omega),?_⟩))
    try rfl
  · obtain ⟨i,rfl,h1,h2⟩:=rIs_nat h
    have h5 : i < R.length:=by omega
    iterate 2 ((try simp only [AH.SD,AH.SE,AOp.call?,AOp.next?,bstep,AV.cells,unAV,binAV,retQ,retV,AH.sliceElems,AH.bytesOf,AH.strOp,AH.bound,AH.missQ,AH.minmaxAV,AH.readOf,AH.effOf,Nat.reduceBEq,Nat.reduceAdd,Nat.reduceLT,↓reduceIte,Nat.reduceEqDiff,Nat.reduceLeDiff,Nat.reduceSub,Nat.reduceMul,Int.reduceSub,Int.reduceToNat,Int.reduceBEq,Int.reduceBNe,Int.reduceLT,Int.reduceGT,Int.reduceLE,Int.reduceGE,Int.reduceNeg,Int.reduceAdd,AH.SP,AH.PD,AV.inB,vstep,vw,shift,newOnes,rowsM,blkIn,rwB,@flat_lts,AV.lt,AV.lts,Nat.sub_self,AH.SO,rpM,rIsT_p,rpR_eq hR,hR,if_true,h,rDr,Int.toNat_natCast,flR_len,flsZ h5]); repeat (refine ⟨by first | rfl | decide | omega | (simp only [List.length_map,List.length_set,and_true]; omega),?_⟩))
    omega
def rDrT : ET:=etO rpO (cC (aI .i64) c0) fun R x =>if R.length = 1000 then some (.int .i64 (rDr R x.1).1,rpM (rDr R x.1).2) else none
theorem rDrT_ok : EffF S0 25 rDrT:=etO_ok fun R x v m' h =>by
  split at h
  · rename_i hR
    simp only [Option.some.injEq,Prod.mk.injEq] at h
    obtain ⟨rfl,rfl⟩:=h
    exact ⟨⟨Nat.le_refl _,rfl⟩,rDr_ok R hR x.1⟩
  · cases h
theorem rDrT_p {p n : Nat} {c : Int} {M : Nat → Option Blk} : rDrT [.ptr p 0 0,.int .i64 c] M n = etO2 n (fun (R : List Rm) (x : Int × Unit) =>if R.length = 1000 then some (.int .i64 (rDr R x.1).1,rpM (rDr R x.1).2) else none) (rpR p (M p)) (some (c,())):=by
  simp only [rDrT,etO_eq,c0_dec,rpO_dec,cC_dec,aI_dec,pairO_some]
theorem rSe_ok (R : List Rm) (hR : R.length = 1000) (id s : Int) : CallA1 S0 27 [.ptr 0 0 0,.int .i64 id,.int .i64 s] (rpM R) fun r m =>r = .int .i64 (rSe R id s).1 ∧ m = rpM (rSe R id s).2:=by
  refine fun_sound okRk1 Tryd.func27 c27 ?_
  unfold wpF F27
  cases h : rIs R id
  · iterate 2 ((try simp only [AH.SD,AH.SE,AOp.call?,AOp.next?,bstep,AV.cells,unAV,binAV,retQ,retV,AH.sliceElems,AH.bytesOf,AH.strOp,AH.bound,AH.missQ,AH.minmaxAV,AH.readOf,AH.effOf,Nat.reduceBEq,Nat.reduceAdd,Nat.reduceLT,↓reduceIte,Nat.reduceEqDiff,Nat.reduceLeDiff,Nat.reduceSub,Nat.reduceMul,Int.reduceSub,Int.reduceToNat,Int.reduceBEq,Int.reduceBNe,Int.reduceLT,Int.reduceGT,Int.reduceLE,Int.reduceGE,Int.reduceNeg,Int.reduceAdd,AH.SP,AH.PD,AV.inB,vstep,vw,shift,newOnes,rowsM,blkIn,rwB,@flat_lts,AV.lt,AV.lts,Nat.sub_self,AH.SO,rpM,rIsT_p,rpR_eq hR,hR,if_true,h,rSe]); repeat (refine ⟨by first | rfl | decide | omega | (simp only [List.length_map,List.length_set,and_true]; omega),?_⟩))
    try rfl
  · obtain ⟨i,rfl,h1,h2⟩:=rIs_nat h
    have h5 : i < R.length:=by omega
    cases c1 : decide (s < 0)
    · cases c2 : decide (s > 2)
      · cases c3 : (R[i].s == s)
        · iterate 2 ((try simp only [AH.SD,AH.SE,AOp.call?,AOp.next?,bstep,AV.cells,unAV,binAV,retQ,retV,AH.sliceElems,AH.bytesOf,AH.strOp,AH.bound,AH.missQ,AH.minmaxAV,AH.readOf,AH.effOf,Nat.reduceBEq,Nat.reduceAdd,Nat.reduceLT,↓reduceIte,Nat.reduceEqDiff,Nat.reduceLeDiff,Nat.reduceSub,Nat.reduceMul,Int.reduceSub,Int.reduceToNat,Int.reduceBEq,Int.reduceBNe,Int.reduceLT,Int.reduceGT,Int.reduceLE,Int.reduceGE,Int.reduceNeg,Int.reduceAdd,AH.SP,AH.PD,AV.inB,vstep,vw,shift,newOnes,rowsM,blkIn,rwB,@flat_lts,AV.lt,AV.lts,Nat.sub_self,AH.SO,rpM,rIsT_p,rpR_eq hR,hR,if_true,h,rSe,c1,c2,c3,getR_i h5,Int.toNat_natCast,flR_len,fl5 h5,fls5 R i s h5]); repeat (refine ⟨by first | rfl | decide | omega | (simp only [List.length_map,List.length_set,and_true]; omega),?_⟩))
          try omega
        · iterate 2 ((try simp only [AH.SD,AH.SE,AOp.call?,AOp.next?,bstep,AV.cells,unAV,binAV,retQ,retV,AH.sliceElems,AH.bytesOf,AH.strOp,AH.bound,AH.missQ,AH.minmaxAV,AH.readOf,AH.effOf,Nat.reduceBEq,Nat.reduceAdd,Nat.reduceLT,↓reduceIte,Nat.reduceEqDiff,Nat.reduceLeDiff,Nat.reduceSub,Nat.reduceMul,Int.reduceSub,Int.reduceToNat,Int.reduceBEq,Int.reduceBNe,Int.reduceLT,Int.reduceGT,Int.reduceLE,Int.reduceGE,Int.reduceNeg,Int.reduceAdd,AH.SP,AH.PD,AV.inB,vstep,vw,shift,newOnes,rowsM,blkIn,rwB,@flat_lts,AV.lt,AV.lts,Nat.sub_self,AH.SO,rpM,rIsT_p,rpR_eq hR,hR,if_true,h,rSe,c1,c2,c3,getR_i h5,Int.toNat_natCast,flR_len,fl5 h5]); repeat (refine ⟨by first | rfl | decide | omega | (simp only [List.length_map,List.length_set,and_true]; omega),?_⟩))
          try omega
      · iterate 2 ((try simp only [AH.SD,AH.SE,AOp.call?,AOp.next?,bstep,AV.cells,unAV,binAV,retQ,retV,AH.sliceElems,AH.bytesOf,AH.strOp,AH.bound,AH.missQ,AH.minmaxAV,AH.readOf,AH.effOf,Nat.reduceBEq,Nat.reduceAdd,Nat.reduceLT,↓reduceIte,Nat.reduceEqDiff,Nat.reduceLeDiff,Nat.reduceSub,Nat.reduceMul,Int.reduceSub,Int.reduceToNat,Int.reduceBEq,Int.reduceBNe,Int.reduceLT,Int.reduceGT,Int.reduceLE,Int.reduceGE,Int.reduceNeg,Int.reduceAdd,AH.SP,AH.PD,AV.inB,vstep,vw,shift,newOnes,rowsM,blkIn,rwB,@flat_lts,AV.lt,AV.lts,Nat.sub_self,AH.SO,rpM,rIsT_p,rpR_eq hR,hR,if_true,h,rSe,c1,c2]); repeat (refine ⟨by first | rfl | decide | omega | (simp only [List.length_map,List.length_set,and_true]; omega),?_⟩))
        try rfl
    · iterate 2 ((try simp only [AH.SD,AH.SE,AOp.call?,AOp.next?,bstep,AV.cells,unAV,binAV,retQ,retV,AH.sliceElems,AH.bytesOf,AH.strOp,AH.bound,AH.missQ,AH.minmaxAV,AH.readOf,AH.effOf,Nat.reduceBEq,Nat.reduceAdd,Nat.reduceLT,↓reduceIte,Nat.reduceEqDiff,Nat.reduceLeDiff,Nat.reduceSub,Nat.reduceMul,Int.reduceSub,Int.reduceToNat,Int.reduceBEq,Int.reduceBNe,Int.reduceLT,Int.reduceGT,Int.reduceLE,Int.reduceGE,Int.reduceNeg,Int.reduceAdd,AH.SP,AH.PD,AV.inB,vstep,vw,shift,newOnes,rowsM,blkIn,rwB,@flat_lts,AV.lt,AV.lts,Nat.sub_self,AH.SO,rpM,rIsT_p,rpR_eq hR,hR,if_true,h,rSe,c1]); repeat (refine ⟨by first | rfl | decide | omega | (simp only [List.length_map,List.length_set,and_true]; omega),?_⟩))
      try rfl
def rSeT : ET:=etO rpO (cC (aI .i64) (cC (aI .i64) c0)) fun R x =>if R.length = 1000 then some (.int .i64 (rSe R x.1 x.2.1).1,rpM (rSe R x.1 x.2.1).2) else none
theorem rSeT_ok : EffF S0 27 rSeT:=etO_ok fun R x v m' h =>by
  split at h
  · rename_i hR
    simp only [Option.some.injEq,Prod.mk.injEq] at h
    obtain ⟨rfl,rfl⟩:=h
    exact ⟨⟨Nat.le_refl _,rfl⟩,rSe_ok R hR x.1 x.2.1⟩
  · cases h
theorem rSeT_p {p n : Nat} {c s : Int} {M : Nat → Option Blk} : rSeT [.ptr p 0 0,.int .i64 c,.int .i64 s] M n = etO2 n (fun (R : List Rm) (x : Int × Int × Unit) =>if R.length = 1000 then some (.int .i64 (rSe R x.1 x.2.1).1,rpM (rSe R x.1 x.2.1).2) else none) (rpR p (M p)) (some (c,s,())):=by
  simp only [rSeT,etO_eq,c0_dec,rpO_dec,cC_dec,aI_dec,pairO_some]
theorem rAd_ok (R : List Rm) (hR : R.length = 1000) (id c : Int) (v : V4) : CallA1 S0 29 [.ptr 0 0 0,.int .i64 id,.int .i64 c,v.av] (rpM R) fun r m =>r = .int .i64 (rAd R id c v).1 ∧ m = rpM (rAd R id c v).2:=by
  refine CallA1.fin ?_
  refine fun_sound okRk1 Tryd.func29 c29 ?_
  unfold wpF F29
  cases c1 : decide (id < 1)
  rotate_left
  · iterate 2 ((try simp only [AH.SD,AH.SE,AOp.call?,AOp.next?,bstep,AV.cells,unAV,binAV,retQ,retV,AH.sliceElems,AH.bytesOf,AH.strOp,AH.bound,AH.missQ,AH.minmaxAV,AH.readOf,AH.effOf,Nat.reduceBEq,Nat.reduceAdd,Nat.reduceLT,↓reduceIte,Nat.reduceEqDiff,Nat.reduceLeDiff,Nat.reduceSub,Nat.reduceMul,Int.reduceSub,Int.reduceToNat,Int.reduceBEq,Int.reduceBNe,Int.reduceLT,Int.reduceGT,Int.reduceLE,Int.reduceGE,Int.reduceNeg,Int.reduceAdd,AH.SP,AH.PD,AV.inB,vstep,vw,shift,newOnes,rowsM,blkIn,rwB,@flat_lts,AV.lt,AV.lts,Nat.sub_self,AH.SO,rpM,rIsT_p,rCnT_p,rLvT_p,rpR_eq hR,hR,if_true,rAd,V4.av,v4c,goodT_eq,V4.eta,raddT_eq,vecK,Int.toNat_natCast,flR_len,c1]); repeat (refine ⟨by first | rfl | decide | omega | (simp only [List.length_map,List.length_set,and_true]; omega),?_⟩))
    refine ⟨[0],[],?_⟩
    simp only [AH.SD,AH.SE,AOp.call?,AOp.next?,bstep,AV.cells,unAV,binAV,retQ,retV,AH.sliceElems,AH.bytesOf,AH.strOp,AH.bound,AH.missQ,AH.minmaxAV,AH.readOf,AH.effOf,Nat.reduceBEq,Nat.reduceAdd,Nat.reduceLT,↓reduceIte,Nat.reduceEqDiff,Nat.reduceLeDiff,Nat.reduceSub,Nat.reduceMul,Int.reduceSub,Int.reduceToNat,Int.reduceBEq,Int.reduceBNe,Int.reduceLT,Int.reduceGT,Int.reduceLE,Int.reduceGE,Int.reduceNeg,Int.reduceAdd,AH.SP,AH.PD,AV.inB,vstep,flR_in,flR_ren,rpM,rAd,c1]
  cases c2 : decide (id > 999)
  rotate_left
  · iterate 2 ((try simp only [AH.SD,AH.SE,AOp.call?,AOp.next?,bstep,AV.cells,unAV,binAV,retQ,retV,AH.sliceElems,AH.bytesOf,AH.strOp,AH.bound,AH.missQ,AH.minmaxAV,AH.readOf,AH.effOf,Nat.reduceBEq,Nat.reduceAdd,Nat.reduceLT,↓reduceIte,Nat.reduceEqDiff,Nat.reduceLeDiff,Nat.reduceSub,Nat.reduceMul,Int.reduceSub,Int.reduceToNat,Int.reduceBEq,Int.reduceBNe,Int.reduceLT,Int.reduceGT,Int.reduceLE,Int.reduceGE,Int.reduceNeg,Int.reduceAdd,AH.SP,AH.PD,AV.inB,vstep,vw,shift,newOnes,rowsM,blkIn,rwB,@flat_lts,AV.lt,AV.lts,Nat.sub_self,AH.SO,rpM,rIsT_p,rCnT_p,rLvT_p,rpR_eq hR,hR,if_true,rAd,V4.av,v4c,goodT_eq,V4.eta,raddT_eq,vecK,Int.toNat_natCast,flR_len,c1,c2]); repeat (refine ⟨by first | rfl | decide | omega | (simp only [List.length_map,List.length_set,and_true]; omega),?_⟩))
    refine ⟨[0],[],?_⟩
    simp only [AH.SD,AH.SE,AOp.call?,AOp.next?,bstep,AV.cells,unAV,binAV,retQ,retV,AH.sliceElems,AH.bytesOf,AH.strOp,AH.bound,AH.missQ,AH.minmaxAV,AH.readOf,AH.effOf,Nat.reduceBEq,Nat.reduceAdd,Nat.reduceLT,↓reduceIte,Nat.reduceEqDiff,Nat.reduceLeDiff,Nat.reduceSub,Nat.reduceMul,Int.reduceSub,Int.reduceToNat,Int.reduceBEq,Int.reduceBNe,Int.reduceLT,Int.reduceGT,Int.reduceLE,Int.reduceGE,Int.reduceNeg,Int.reduceAdd,AH.SP,AH.PD,AV.inB,vstep,flR_in,flR_ren,rpM,rAd,c1,c2]
  cases c3 : decide (c < 1)
  rotate_left
  · iterate 2 ((try simp only [AH.SD,AH.SE,AOp.call?,AOp.next?,bstep,AV.cells,unAV,binAV,retQ,retV,AH.sliceElems,AH.bytesOf,AH.strOp,AH.bound,AH.missQ,AH.minmaxAV,AH.readOf,AH.effOf,Nat.reduceBEq,Nat.reduceAdd,Nat.reduceLT,↓reduceIte,Nat.reduceEqDiff,Nat.reduceLeDiff,Nat.reduceSub,Nat.reduceMul,Int.reduceSub,Int.reduceToNat,Int.reduceBEq,Int.reduceBNe,Int.reduceLT,Int.reduceGT,Int.reduceLE,Int.reduceGE,Int.reduceNeg,Int.reduceAdd,AH.SP,AH.PD,AV.inB,vstep,vw,shift,newOnes,rowsM,blkIn,rwB,@flat_lts,AV.lt,AV.lts,Nat.sub_self,AH.SO,rpM,rIsT_p,rCnT_p,rLvT_p,rpR_eq hR,hR,if_true,rAd,V4.av,v4c,goodT_eq,V4.eta,raddT_eq,vecK,Int.toNat_natCast,flR_len,c1,c2,c3]); repeat (refine ⟨by first | rfl | decide | omega | (simp only [List.length_map,List.length_set,and_true]; omega),?_⟩))
    refine ⟨[0],[],?_⟩
    simp only [AH.SD,AH.SE,AOp.call?,AOp.next?,bstep,AV.cells,unAV,binAV,retQ,retV,AH.sliceElems,AH.bytesOf,AH.strOp,AH.bound,AH.missQ,AH.minmaxAV,AH.readOf,AH.effOf,Nat.reduceBEq,Nat.reduceAdd,Nat.reduceLT,↓reduceIte,Nat.reduceEqDiff,Nat.reduceLeDiff,Nat.reduceSub,Nat.reduceMul,Int.reduceSub,Int.reduceToNat,Int.reduceBEq,Int.reduceBNe,Int.reduceLT,Int.reduceGT,Int.reduceLE,Int.reduceGE,Int.reduceNeg,Int.reduceAdd,AH.SP,AH.PD,AV.inB,vstep,flR_in,flR_ren,rpM,rAd,c1,c2,c3]
  cases c4 : decide (c > 4)
  rotate_left
  · iterate 2 ((try simp only [AH.SD,AH.SE,AOp.call?,AOp.next?,bstep,AV.cells,unAV,binAV,retQ,retV,AH.sliceElems,AH.bytesOf,AH.strOp,AH.bound,AH.missQ,AH.minmaxAV,AH.readOf,AH.effOf,Nat.reduceBEq,Nat.reduceAdd,Nat.reduceLT,↓reduceIte,Nat.reduceEqDiff,Nat.reduceLeDiff,Nat.reduceSub,Nat.reduceMul,Int.reduceSub,Int.reduceToNat,Int.reduceBEq,Int.reduceBNe,Int.reduceLT,Int.reduceGT,Int.reduceLE,Int.reduceGE,Int.reduceNeg,Int.reduceAdd,AH.SP,AH.PD,AV.inB,vstep,vw,shift,newOnes,rowsM,blkIn,rwB,@flat_lts,AV.lt,AV.lts,Nat.sub_self,AH.SO,rpM,rIsT_p,rCnT_p,rLvT_p,rpR_eq hR,hR,if_true,rAd,V4.av,v4c,goodT_eq,V4.eta,raddT_eq,vecK,Int.toNat_natCast,flR_len,c1,c2,c3,c4]); repeat (refine ⟨by first | rfl | decide | omega | (simp only [List.length_map,List.length_set,and_true]; omega),?_⟩))
    refine ⟨[0],[],?_⟩
    simp only [AH.SD,AH.SE,AOp.call?,AOp.next?,bstep,AV.cells,unAV,binAV,retQ,retV,AH.sliceElems,AH.bytesOf,AH.strOp,AH.bound,AH.missQ,AH.minmaxAV,AH.readOf,AH.effOf,Nat.reduceBEq,Nat.reduceAdd,Nat.reduceLT,↓reduceIte,Nat.reduceEqDiff,Nat.reduceLeDiff,Nat.reduceSub,Nat.reduceMul,Int.reduceSub,Int.reduceToNat,Int.reduceBEq,Int.reduceBNe,Int.reduceLT,Int.reduceGT,Int.reduceLE,Int.reduceGE,Int.reduceNeg,Int.reduceAdd,AH.SP,AH.PD,AV.inB,vstep,flR_in,flR_ren,rpM,rAd,c1,c2,c3,c4]
  cases c5 : good v
  · iterate 2 ((try simp only [AH.SD,AH.SE,AOp.call?,AOp.next?,bstep,AV.cells,unAV,binAV,retQ,retV,AH.sliceElems,AH.bytesOf,AH.strOp,AH.bound,AH.missQ,AH.minmaxAV,AH.readOf,AH.effOf,Nat.reduceBEq,Nat.reduceAdd,Nat.reduceLT,↓reduceIte,Nat.reduceEqDiff,Nat.reduceLeDiff,Nat.reduceSub,Nat.reduceMul,Int.reduceSub,Int.reduceToNat,Int.reduceBEq,Int.reduceBNe,Int.reduceLT,Int.reduceGT,Int.reduceLE,Int.reduceGE,Int.reduceNeg,Int.reduceAdd,AH.SP,AH.PD,AV.inB,vstep,vw,shift,newOnes,rowsM,blkIn,rwB,@flat_lts,AV.lt,AV.lts,Nat.sub_self,AH.SO,rpM,rIsT_p,rCnT_p,rLvT_p,rpR_eq hR,hR,if_true,rAd,V4.av,v4c,goodT_eq,V4.eta,raddT_eq,vecK,Int.toNat_natCast,flR_len,c1,c2,c3,c4,c5]); repeat (refine ⟨by first | rfl | decide | omega | (simp only [List.length_map,List.length_set,and_true]; omega),?_⟩))
    refine ⟨[0],[],?_⟩
    simp only [AH.SD,AH.SE,AOp.call?,AOp.next?,bstep,AV.cells,unAV,binAV,retQ,retV,AH.sliceElems,AH.bytesOf,AH.strOp,AH.bound,AH.missQ,AH.minmaxAV,AH.readOf,AH.effOf,Nat.reduceBEq,Nat.reduceAdd,Nat.reduceLT,↓reduceIte,Nat.reduceEqDiff,Nat.reduceLeDiff,Nat.reduceSub,Nat.reduceMul,Int.reduceSub,Int.reduceToNat,Int.reduceBEq,Int.reduceBNe,Int.reduceLT,Int.reduceGT,Int.reduceLE,Int.reduceGE,Int.reduceNeg,Int.reduceAdd,AH.SP,AH.PD,AV.inB,vstep,flR_in,flR_ren,rpM,rAd,c1,c2,c3,c4,c5]
  cases h : rIs R id
  rotate_left
  · iterate 2 ((try simp only [AH.SD,AH.SE,AOp.call?,AOp.next?,bstep,AV.cells,unAV,binAV,retQ,retV,AH.sliceElems,AH.bytesOf,AH.strOp,AH.bound,AH.missQ,AH.minmaxAV,AH.readOf,AH.effOf,Nat.reduceBEq,Nat.reduceAdd,Nat.reduceLT,↓reduceIte,Nat.reduceEqDiff,Nat.reduceLeDiff,Nat.reduceSub,Nat.reduceMul,Int.reduceSub,Int.reduceToNat,Int.reduceBEq,Int.reduceBNe,Int.reduceLT,Int.reduceGT,Int.reduceLE,Int.reduceGE,Int.reduceNeg,Int.reduceAdd,AH.SP,AH.PD,AV.inB,vstep,vw,shift,newOnes,rowsM,blkIn,rwB,@flat_lts,AV.lt,AV.lts,Nat.sub_self,AH.SO,rpM,rIsT_p,rCnT_p,rLvT_p,rpR_eq hR,hR,if_true,rAd,V4.av,v4c,goodT_eq,V4.eta,raddT_eq,vecK,Int.toNat_natCast,flR_len,c1,c2,c3,c4,c5,h]); repeat (refine ⟨by first | rfl | decide | omega | (simp only [List.length_map,List.length_set,and_true]; omega),?_⟩))
    refine ⟨[0],[],?_⟩
    simp only [AH.SD,AH.SE,AOp.call?,AOp.next?,bstep,AV.cells,unAV,binAV,retQ,retV,AH.sliceElems,AH.bytesOf,AH.strOp,AH.bound,AH.missQ,AH.minmaxAV,AH.readOf,AH.effOf,Nat.reduceBEq,Nat.reduceAdd,Nat.reduceLT,↓reduceIte,Nat.reduceEqDiff,Nat.reduceLeDiff,Nat.reduceSub,Nat.reduceMul,Int.reduceSub,Int.reduceToNat,Int.reduceBEq,Int.reduceBNe,Int.reduceLT,Int.reduceGT,Int.reduceLE,Int.reduceGE,Int.reduceNeg,Int.reduceAdd,AH.SP,AH.PD,AV.inB,vstep,flR_in,flR_ren,rpM,rAd,c1,c2,c3,c4,c5,h]
  cases c6 : decide ((rCn R : Int) ≥ 24)
  rotate_left
  · iterate 2 ((try simp only [AH.SD,AH.SE,AOp.call?,AOp.next?,bstep,AV.cells,unAV,binAV,retQ,retV,AH.sliceElems,AH.bytesOf,AH.strOp,AH.bound,AH.missQ,AH.minmaxAV,AH.readOf,AH.effOf,Nat.reduceBEq,Nat.reduceAdd,Nat.reduceLT,↓reduceIte,Nat.reduceEqDiff,Nat.reduceLeDiff,Nat.reduceSub,Nat.reduceMul,Int.reduceSub,Int.reduceToNat,Int.reduceBEq,Int.reduceBNe,Int.reduceLT,Int.reduceGT,Int.reduceLE,Int.reduceGE,Int.reduceNeg,Int.reduceAdd,AH.SP,AH.PD,AV.inB,vstep,vw,shift,newOnes,rowsM,blkIn,rwB,@flat_lts,AV.lt,AV.lts,Nat.sub_self,AH.SO,rpM,rIsT_p,rCnT_p,rLvT_p,rpR_eq hR,hR,if_true,rAd,V4.av,v4c,goodT_eq,V4.eta,raddT_eq,vecK,Int.toNat_natCast,flR_len,c1,c2,c3,c4,c5,h,c6]); repeat (refine ⟨by first | rfl | decide | omega | (simp only [List.length_map,List.length_set,and_true]; omega),?_⟩))
    refine ⟨[0],[],?_⟩
    simp only [AH.SD,AH.SE,AOp.call?,AOp.next?,bstep,AV.cells,unAV,binAV,retQ,retV,AH.sliceElems,AH.bytesOf,AH.strOp,AH.bound,AH.missQ,AH.minmaxAV,AH.readOf,AH.effOf,Nat.reduceBEq,Nat.reduceAdd,Nat.reduceLT,↓reduceIte,Nat.reduceEqDiff,Nat.reduceLeDiff,Nat.reduceSub,Nat.reduceMul,Int.reduceSub,Int.reduceToNat,Int.reduceBEq,Int.reduceBNe,Int.reduceLT,Int.reduceGT,Int.reduceLE,Int.reduceGE,Int.reduceNeg,Int.reduceAdd,AH.SP,AH.PD,AV.inB,vstep,flR_in,flR_ren,rpM,rAd,c1,c2,c3,c4,c5,h,c6]
  obtain ⟨i,hi⟩:=Int.eq_ofNat_of_zero_le (by simp only [decide_eq_false_iff_not] at c1; omega : 0 ≤ id)
  subst hi
  have h5 : i < R.length:=by simp only [decide_eq_false_iff_not] at c2; omega
  cases c7 : (addK (rLv R c true) v == 0)
  · have c8 : ((addK (rLv R c true) v : Int) != 0) = true:=by
      simp only [beq_eq_false_iff_ne,ne_eq] at c7
      simp only [bne_iff_ne,ne_eq]; omega
    iterate 2 ((try simp only [AH.SD,AH.SE,AOp.call?,AOp.next?,bstep,AV.cells,unAV,binAV,retQ,retV,AH.sliceElems,AH.bytesOf,AH.strOp,AH.bound,AH.missQ,AH.minmaxAV,AH.readOf,AH.effOf,Nat.reduceBEq,Nat.reduceAdd,Nat.reduceLT,↓reduceIte,Nat.reduceEqDiff,Nat.reduceLeDiff,Nat.reduceSub,Nat.reduceMul,Int.reduceSub,Int.reduceToNat,Int.reduceBEq,Int.reduceBNe,Int.reduceLT,Int.reduceGT,Int.reduceLE,Int.reduceGE,Int.reduceNeg,Int.reduceAdd,AH.SP,AH.PD,AV.inB,vstep,vw,shift,newOnes,rowsM,blkIn,rwB,@flat_lts,AV.lt,AV.lts,Nat.sub_self,AH.SO,rpM,rIsT_p,rCnT_p,rLvT_p,rpR_eq hR,hR,if_true,rAd,V4.av,v4c,goodT_eq,V4.eta,raddT_eq,vecK,Int.toNat_natCast,flR_len,c1,c2,c3,c4,c5,h,c6,c8]); repeat (refine ⟨by first | rfl | decide | omega | (simp only [List.length_map,List.length_set,and_true]; omega),?_⟩))
    refine ⟨[0],[],?_⟩
    simp only [AH.SD,AH.SE,AOp.call?,AOp.next?,bstep,AV.cells,unAV,binAV,retQ,retV,AH.sliceElems,AH.bytesOf,AH.strOp,AH.bound,AH.missQ,AH.minmaxAV,AH.readOf,AH.effOf,Nat.reduceBEq,Nat.reduceAdd,Nat.reduceLT,↓reduceIte,Nat.reduceEqDiff,Nat.reduceLeDiff,Nat.reduceSub,Nat.reduceMul,Int.reduceSub,Int.reduceToNat,Int.reduceBEq,Int.reduceBNe,Int.reduceLT,Int.reduceGT,Int.reduceLE,Int.reduceGE,Int.reduceNeg,Int.reduceAdd,AH.SP,AH.PD,AV.inB,vstep,flR_in,flR_ren,rpM,rAd,c1,c2,c3,c4,c5,h,c6,c7]
  · have c8 : ((addK (rLv R c true) v : Int) != 0) = false:=by
      have:=eq_of_beq c7
      rw [this]; rfl
    iterate 3 ((try simp only [AH.SD,AH.SE,AOp.call?,AOp.next?,bstep,AV.cells,unAV,binAV,retQ,retV,AH.sliceElems,AH.bytesOf,AH.strOp,AH.bound,AH.missQ,AH.minmaxAV,AH.readOf,AH.effOf,Nat.reduceBEq,Nat.reduceAdd,Nat.reduceLT,↓reduceIte,Nat.reduceEqDiff,Nat.reduceLeDiff,Nat.reduceSub,Nat.reduceMul,Int.reduceSub,Int.reduceToNat,Int.reduceBEq,Int.reduceBNe,Int.reduceLT,Int.reduceGT,Int.reduceLE,Int.reduceGE,Int.reduceNeg,Int.reduceAdd,AH.SP,AH.PD,AV.inB,vstep,vw,shift,newOnes,rowsM,blkIn,rwB,@flat_lts,AV.lt,AV.lts,Nat.sub_self,AH.SO,rpM,rIsT_p,rCnT_p,rLvT_p,rpR_eq hR,hR,if_true,rAd,V4.av,v4c,goodT_eq,V4.eta,raddT_eq,vecK,Int.toNat_natCast,flR_len,c1,c2,c3,c4,c5,h,c6,c8,flsM h5]); repeat (refine ⟨by first | rfl | decide | omega | (simp only [List.length_map,List.length_set,and_true]; omega),?_⟩))
    refine ⟨[0],[],?_⟩
    simp only [AH.SD,AH.SE,AOp.call?,AOp.next?,bstep,AV.cells,unAV,binAV,retQ,retV,AH.sliceElems,AH.bytesOf,AH.strOp,AH.bound,AH.missQ,AH.minmaxAV,AH.readOf,AH.effOf,Nat.reduceBEq,Nat.reduceAdd,Nat.reduceLT,↓reduceIte,Nat.reduceEqDiff,Nat.reduceLeDiff,Nat.reduceSub,Nat.reduceMul,Int.reduceSub,Int.reduceToNat,Int.reduceBEq,Int.reduceBNe,Int.reduceLT,Int.reduceGT,Int.reduceLE,Int.reduceGE,Int.reduceNeg,Int.reduceAdd,AH.SP,AH.PD,AV.inB,vstep,flR_in,flR_ren,rpM,rAd,c1,c2,c3,c4,c5,h,c6,c7,Int.toNat_natCast]
def rAdT : ET:=etO rpO (cC (aI .i64) (cC (aI .i64) (cC (aA cV) c0))) fun R x =>if R.length = 1000 then some (.int .i64 (rAd R x.1 x.2.1 x.2.2.1).1,rpM (rAd R x.1 x.2.1 x.2.2.1).2) else none
theorem rAdT_ok : EffF S0 29 rAdT:=etO_ok fun R x v m' h =>by
  split at h
  · rename_i hR
    simp only [Option.some.injEq,Prod.mk.injEq] at h
    obtain ⟨rfl,rfl⟩:=h
    exact ⟨⟨Nat.le_refl _,rfl⟩,rAd_ok R hR x.1 x.2.1 x.2.2.1⟩
  · cases h
theorem rAdT_p {p n : Nat} {id c x y z w : Int} {M : Nat → Option Blk} : rAdT [.ptr p 0 0,.int .i64 id,.int .i64 c,.agg [.int .i64 x,.int .i64 y,.int .i64 z,.int .i64 w]] M n = etO2 n (fun (R : List Rm) (x : Int × Int × V4 × Unit) =>if R.length = 1000 then some (.int .i64 (rAd R x.1 x.2.1 x.2.2.1).1,rpM (rAd R x.1 x.2.1 x.2.2.1).2) else none) (rpR p (M p)) (some (id,c,⟨x,y,z,w⟩,())):=by
  simp only [rAdT,etO_eq,c0_dec,rpO_dec,cC_dec,aI_dec,pairO_some]
  rfl
end Go.Proofs.YtnlolefgifeohaaDoor.E15
