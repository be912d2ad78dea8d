import Derived.Test.YtnlolefgifeohaaDoorFPrkE15
import Derived.Test.YtnlolefgifeohaaDoorPrkPE15
import Derived.Test.YtnlolefgifeohaaDoorRGE15
open Go AH
set_option linter.unusedSimpArgs false
set_option maxRecDepth 100000
namespace Go.Proofs.YtnlolefgifeohaaDoor.E15
theorem eA0 : errA 0 = .nili:=rfl
theorem eA1 : errA 1 = .err 2:=rfl
theorem eA2 : errA 2 = .err 3:=rfl
theorem eA5 : errA 5 = .err 5:=rfl
theorem eA6 : errA 6 = .err 6:=rfl
theorem eA7 : errA 7 = .err 7:=rfl
theorem eA13 : errA 13 = .err 1:=rfl
theorem errA_ren {k : Nat} {ρ : Nat → Nat} : (errA k).ren ρ = errA k:=flat_ren (errA_flat k)
theorem okC0 : CtxOK S0 (ctxU S0 [] []):=ctxU_ok trivial trivial mixed
theorem pkNew_ok : CallA1 S0 22 [] [] fun r m =>r = .ptr 0 0 0 ∧ m = pkM K0:=by
  refine CallA1.fin ?_
  refine fun_sound okC0 Tryd.func22 c22 ?_
  unfold wpF F22
  simp only [AH.SD,AH.SE,AOp.call?,AOp.next?,bstep,AV.cells,unAV,binAV,retQ,retV,AH.sliceElems,AH.bytesOf,AH.strOp,AH.bound,AH.missQ,AH.minmaxAV,AH.readOf,AH.effOf,Nat.reduceBEq,Nat.reduceAdd,Nat.reduceLT,↓reduceIte,Nat.reduceEqDiff,Nat.reduceLeDiff,Nat.reduceSub,Nat.reduceMul,Int.reduceSub,Int.reduceToNat,Int.reduceBEq,Int.reduceBNe,Int.reduceLT,Int.reduceGT,Int.reduceLE,Int.reduceGE,Int.reduceNeg,Int.reduceAdd,AH.SP,AH.PD,AV.inB,vstep,vw,shift,newOnes,rowsM,blkIn,rwB,@flat_lts,AV.lt,AV.lts,Nat.sub_self,AH.SO,keyIs,findK]
  refine ⟨[1,0],[],?_⟩
  simp only [AH.SD,AH.SE,AOp.call?,AOp.next?,bstep,AV.cells,unAV,binAV,retQ,retV,AH.sliceElems,AH.bytesOf,AH.strOp,AH.bound,AH.missQ,AH.minmaxAV,AH.readOf,AH.effOf,Nat.reduceBEq,Nat.reduceAdd,Nat.reduceLT,↓reduceIte,Nat.reduceEqDiff,Nat.reduceLeDiff,Nat.reduceSub,Nat.reduceMul,Int.reduceSub,Int.reduceToNat,Int.reduceBEq,Int.reduceBNe,Int.reduceLT,Int.reduceGT,Int.reduceLE,Int.reduceGE,Int.reduceNeg,Int.reduceAdd,AH.SP,AH.PD,AV.inB,vstep,pkM,K0,enA]
def nwT : ET:=etN c0 fun _ =>some (.ptr 0 0 0,pkM K0)
theorem nwT_ok : EffF S0 22 nwT:=etN_ok fun x v m' h =>by
  simp only [Option.some.injEq,Prod.mk.injEq] at h
  obtain ⟨rfl,rfl⟩:=h
  exact ⟨rfl,pkNew_ok⟩
theorem nwT_eq {M : Nat → Option Blk} {n : Nat} : nwT [] M n = some (effS [] n (.ptr 0 0 0) (pkM K0),2):=by
  simp only [nwT,etN_eq,c0_dec,Option.bind_some,useO_some]; rfl
theorem sortedT_p {b n : Nat} {M : Nat → Option Blk} : sortedT [.fn 90 [] [.ptr b 0 0]] M n = sortedI M n b (M b):=by simp only [sortedT,if_true]
theorem sortedI_p {b n id : Nat} {M : Nat → Option Blk} : sortedI M n b (some (.iter (some id) 1 0 [])) = sortedE n b id (AH.mapAt M id):=rfl
theorem sortedE_p {b n id c : Nat} {L : List (En Ma)} (h : mapG (L.map (enA Ma.av)) c (L.map (·.k))) : sortedE n b id (some (L.map (enA Ma.av),c)) = some (sortedR n b id (L.map (·.k))):=by
  simp only [sortedE,keysI_en,sortedM,h,if_true]
theorem sortedR_ne {b n id : Nat} {ks : List Int} (h : ks ≠ []) : sortedR n b id ks = ({ val:=.slc n 0 ks.length none,foot:=[b,id],wr:=[(n,some (.row false 1 ((sortI ks).map intC)))] },1):=by
  simp only [sortedR,h,if_false]; rfl
theorem sortedR_nil {b n id : Nat} : sortedR n b id [] = ({ val:=.nils,foot:=[b,id] },0):=rfl
theorem okAl : CtxOK S0 (ctxE S0 [] [] [(69,keysT),(53,sortedT)]):=ctxE_ok trivial trivial ⟨keysT_ok,sortedT_ok,trivial⟩ mixed
def preM (t : Mp Ma) (i : Nat) : List Ma:=((idsM t).take i).map (ofM t)
theorem preM_0 (t : Mp Ma) : preM t 0 = []:=rfl
theorem preM_s {t : Mp Ma} {i : Nat} (h : i < (idsM t).length) : preM t (i + 1) = preM t i ++ [ofM t ((idsM t)[i])]:=by
  rw [preM,List.take_succ_eq_append_getElem h,List.map_append]; rfl
theorem preM_all (t : Mp Ma) : preM t (idsM t).length = allM t:=by rw [preM,List.take_length]; rfl
theorem preM_len (t : Mp Ma) (i : Nat) : (preM t i).length ≤ (idsM t).length:=by rw [preM,List.length_map,List.length_take]; omega
def alSt (t : Mp Ma) (i : Nat) : St:=⟨[(14,.int .i64 i),(13,.int .i64 (idsM t).length),(12,.slc 2 0 (idsM t).length none),(2,.slc 3 0 (preM t i).length none),(0,.ptr 0 0 0)],pkM t ++ [some (.row false 1 ((idsM t).map intC)),rowM (preM t i)]⟩
theorem pkAll_ok (t : Mp Ma) (ht : Fw t) : CallA1 S0 35 [.ptr 0 0 0] (pkM t) fun r m =>r = .slc 2 0 (allM t).length none ∧ m = pkM t ++ [rowM (allM t)]:=by
  refine CallA1.fin ?_
  refine fun_sound okAl Tryd.func35 c35 ?_
  unfold wpF F35
  have hg:=ht.wf.good (f:=Ma.av) (Nat.le_trans ht.len (by decide)) ht.key
  have hl:=ht.len
  by_cases hne : t.L.map (·.k) = []
  · have hL : t.L = []:=List.map_eq_nil_iff.1 hne
    have ho : allM t = []:=by rw [allM,idsM,hne,sortI,List.mergeSort_nil]; rfl
    simp only [AH.SD,AH.SE,AOp.call?,AOp.next?,bstep,AV.cells,unAV,binAV,retQ,retV,AH.sliceElems,AH.bytesOf,AH.strOp,AH.bound,AH.missQ,AH.minmaxAV,AH.readOf,AH.effOf,Nat.reduceBEq,Nat.reduceAdd,Nat.reduceLT,↓reduceIte,Nat.reduceEqDiff,Nat.reduceLeDiff,Nat.reduceSub,Nat.reduceMul,Int.reduceSub,Int.reduceToNat,Int.reduceBEq,Int.reduceBNe,Int.reduceLT,Int.reduceGT,Int.reduceLE,Int.reduceGE,Int.reduceNeg,Int.reduceAdd,AH.SP,AH.PD,AV.inB,vstep,vw,shift,newOnes,rowsM,blkIn,rwB,@flat_lts,AV.lt,AV.lts,Nat.sub_self,AH.SO,pkM,keysT,sortedT_p,sortedI_p,sortedE_p hg,hne,sortedR_nil]
    refine loop_unroll ctxE_monoB ?_
    simp only [AH.SD,AH.SE,AOp.call?,AOp.next?,bstep,AV.cells,unAV,binAV,retQ,retV,AH.sliceElems,AH.bytesOf,AH.strOp,AH.bound,AH.missQ,AH.minmaxAV,AH.readOf,AH.effOf,Nat.reduceBEq,Nat.reduceAdd,Nat.reduceLT,↓reduceIte,Nat.reduceEqDiff,Nat.reduceLeDiff,Nat.reduceSub,Nat.reduceMul,Int.reduceSub,Int.reduceToNat,Int.reduceBEq,Int.reduceBNe,Int.reduceLT,Int.reduceGT,Int.reduceLE,Int.reduceGE,Int.reduceNeg,Int.reduceAdd,AH.SP,AH.PD,AV.inB,vstep,vw,shift,newOnes,rowsM,blkIn,rwB,@flat_lts,AV.lt,AV.lts,Nat.sub_self,AH.SO]
    refine ⟨[0,1],[.tm 0 7],?_⟩
    simp only [AH.SD,AH.SE,AOp.call?,AOp.next?,bstep,AV.cells,unAV,binAV,retQ,retV,AH.sliceElems,AH.bytesOf,AH.strOp,AH.bound,AH.missQ,AH.minmaxAV,AH.readOf,AH.effOf,Nat.reduceBEq,Nat.reduceAdd,Nat.reduceLT,↓reduceIte,Nat.reduceEqDiff,Nat.reduceLeDiff,Nat.reduceSub,Nat.reduceMul,Int.reduceSub,Int.reduceToNat,Int.reduceBEq,Int.reduceBNe,Int.reduceLT,Int.reduceGT,Int.reduceLE,Int.reduceGE,Int.reduceNeg,Int.reduceAdd,AH.SP,AH.PD,AV.inB,vstep,rowM,ma_in,ma_ren,ho]
  · simp only [AH.SD,AH.SE,AOp.call?,AOp.next?,bstep,AV.cells,unAV,binAV,retQ,retV,AH.sliceElems,AH.bytesOf,AH.strOp,AH.bound,AH.missQ,AH.minmaxAV,AH.readOf,AH.effOf,Nat.reduceBEq,Nat.reduceAdd,Nat.reduceLT,↓reduceIte,Nat.reduceEqDiff,Nat.reduceLeDiff,Nat.reduceSub,Nat.reduceMul,Int.reduceSub,Int.reduceToNat,Int.reduceBEq,Int.reduceBNe,Int.reduceLT,Int.reduceGT,Int.reduceLE,Int.reduceGE,Int.reduceNeg,Int.reduceAdd,AH.SP,AH.PD,AV.inB,vstep,vw,shift,newOnes,rowsM,blkIn,rwB,@flat_lts,AV.lt,AV.lts,Nat.sub_self,AH.SO,pkM,keysT,sortedT_p,sortedI_p,sortedE_p hg,sortedR_ne hne]
    have hal : (idsM t).length ≤ 1000:=by rw [idsM_len]; exact hl
    rw [← idsM_len t]
    refine loop_do [0,1,3] [14,13,12,2,0] [.tm 2 7] (α:=Nat) (fun i =>(idsM t).length - i) (alSt t) (fun i =>i ≤ (idsM t).length) 0 (Nat.zero_le _) (by simp only [AH.SD,AH.SE,AOp.call?,AOp.next?,bstep,AV.cells,unAV,binAV,retQ,retV,AH.sliceElems,AH.bytesOf,AH.strOp,AH.bound,AH.missQ,AH.minmaxAV,AH.readOf,AH.effOf,Nat.reduceBEq,Nat.reduceAdd,Nat.reduceLT,↓reduceIte,Nat.reduceEqDiff,Nat.reduceLeDiff,Nat.reduceSub,Nat.reduceMul,Int.reduceSub,Int.reduceToNat,Int.reduceBEq,Int.reduceBNe,Int.reduceLT,Int.reduceGT,Int.reduceLE,Int.reduceGE,Int.reduceNeg,Int.reduceAdd,AH.SP,AH.PD,AV.inB,vstep,alSt,pkM,rowM,ma_in,ma_ren,preM_0,idsM]) ?_
    intro X i hi ih
    simp only [AH.SD,AH.SE,AOp.call?,AOp.next?,bstep,AV.cells,unAV,binAV,retQ,retV,AH.sliceElems,AH.bytesOf,AH.strOp,AH.bound,AH.missQ,AH.minmaxAV,AH.readOf,AH.effOf,Nat.reduceBEq,Nat.reduceAdd,Nat.reduceLT,↓reduceIte,Nat.reduceEqDiff,Nat.reduceLeDiff,Nat.reduceSub,Nat.reduceMul,Int.reduceSub,Int.reduceToNat,Int.reduceBEq,Int.reduceBNe,Int.reduceLT,Int.reduceGT,Int.reduceLE,Int.reduceGE,Int.reduceNeg,Int.reduceAdd,AH.SP,AH.PD,AV.inB,vstep,vw,shift,newOnes,rowsM,blkIn,rwB,@flat_lts,AV.lt,AV.lts,Nat.sub_self,AH.SO,alSt,pkM,rowM]
    refine ⟨fun hlt => ?_,fun hlt => ?_⟩
    · have hi1:=lt_of_dec hlt
      have wi:=wrapS (i:=i) (by omega)
      have done:=ih (i + 1) hi1 (by omega)
      simp only [alSt,pkM,rowM,preM_s hi1,List.map_append,List.map_cons,List.map_nil,List.length_append,List.length_cons,List.length_nil,Nat.zero_add,Ma.cells_eq] at done
      simp only [AH.SD,AH.SE,AOp.call?,AOp.next?,bstep,AV.cells,unAV,binAV,retQ,retV,AH.sliceElems,AH.bytesOf,AH.strOp,AH.bound,AH.missQ,AH.minmaxAV,AH.readOf,AH.effOf,Nat.reduceBEq,Nat.reduceAdd,Nat.reduceLT,↓reduceIte,Nat.reduceEqDiff,Nat.reduceLeDiff,Nat.reduceSub,Nat.reduceMul,Int.reduceSub,Int.reduceToNat,Int.reduceBEq,Int.reduceBNe,Int.reduceLT,Int.reduceGT,Int.reduceLE,Int.reduceGE,Int.reduceNeg,Int.reduceAdd,AH.SP,AH.PD,AV.inB,vstep,vw,shift,newOnes,rowsM,blkIn,rwB,@flat_lts,AV.lt,AV.lts,Nat.sub_self,AH.SO,getD_enc,hi1,intC_eq]
      repeat (refine ⟨by first | rfl | decide | omega | (simp only [List.length_map,List.length_set,and_true]; omega),?_⟩)
      have hout : (preM t i).length ≤ 1000:=Nat.le_trans (preM_len t i) hal
      generalize (idsM t)[i] = o at *
      generalize preM t i = out at *
      have e3 : (out.map Ma.cells).take out.length = out.map Ma.cells:=List.take_of_length_le (by simp)
      cases hq : enF o t.L 0 with
      | none =>
        have hv : ofM t o = maZ:=by rw [ofM,hq]; rfl
        simp only [hv,maZ,V4.zero] at done
        simp only [AH.SD,AH.SE,AOp.call?,AOp.next?,bstep,AV.cells,unAV,binAV,retQ,retV,AH.sliceElems,AH.bytesOf,AH.strOp,AH.bound,AH.missQ,AH.minmaxAV,AH.readOf,AH.effOf,Nat.reduceBEq,Nat.reduceAdd,Nat.reduceLT,↓reduceIte,Nat.reduceEqDiff,Nat.reduceLeDiff,Nat.reduceSub,Nat.reduceMul,Int.reduceSub,Int.reduceToNat,Int.reduceBEq,Int.reduceBNe,Int.reduceLT,Int.reduceGT,Int.reduceLE,Int.reduceGE,Int.reduceNeg,Int.reduceAdd,AH.SP,AH.PD,AV.inB,vstep,vw,shift,newOnes,rowsM,blkIn,rwB,@flat_lts,AV.lt,AV.lts,Nat.sub_self,AH.SO,findK_en,hq,keyIs,e3,List.length_map]
        repeat (refine ⟨by first | rfl | decide | omega | (simp only [List.length_map,List.length_set,and_true]; omega),?_⟩)
        simp only [AH.SD,AH.SE,AOp.call?,AOp.next?,bstep,AV.cells,unAV,binAV,retQ,retV,AH.sliceElems,AH.bytesOf,AH.strOp,AH.bound,AH.missQ,AH.minmaxAV,AH.readOf,AH.effOf,Nat.reduceBEq,Nat.reduceAdd,Nat.reduceLT,↓reduceIte,Nat.reduceEqDiff,Nat.reduceLeDiff,Nat.reduceSub,Nat.reduceMul,Int.reduceSub,Int.reduceToNat,Int.reduceBEq,Int.reduceBNe,Int.reduceLT,Int.reduceGT,Int.reduceLE,Int.reduceGE,Int.reduceNeg,Int.reduceAdd,AH.SP,AH.PD,AV.inB,vstep,vw,shift,newOnes,rowsM,blkIn,rwB,@flat_lts,AV.lt,AV.lts,Nat.sub_self,AH.SO,wi]
        refine gc_auto [0,1,2,5] [14,13,12,2,0] [] ?_
        simp only [AH.SD,AH.SE,AOp.call?,AOp.next?,bstep,AV.cells,unAV,binAV,retQ,retV,AH.sliceElems,AH.bytesOf,AH.strOp,AH.bound,AH.missQ,AH.minmaxAV,AH.readOf,AH.effOf,Nat.reduceBEq,Nat.reduceAdd,Nat.reduceLT,↓reduceIte,Nat.reduceEqDiff,Nat.reduceLeDiff,Nat.reduceSub,Nat.reduceMul,Int.reduceSub,Int.reduceToNat,Int.reduceBEq,Int.reduceBNe,Int.reduceLT,Int.reduceGT,Int.reduceLE,Int.reduceGE,Int.reduceNeg,Int.reduceAdd,AH.SP,AH.PD,AV.inB,vstep,ma_in,ma_ren]
        exact done
      | some y =>
        obtain ⟨j,e⟩:=y
        have hv : ofM t o = e.v:=by rw [ofM,hq]; rfl
        simp only [hv] at done
        simp only [AH.SD,AH.SE,AOp.call?,AOp.next?,bstep,AV.cells,unAV,binAV,retQ,retV,AH.sliceElems,AH.bytesOf,AH.strOp,AH.bound,AH.missQ,AH.minmaxAV,AH.readOf,AH.effOf,Nat.reduceBEq,Nat.reduceAdd,Nat.reduceLT,↓reduceIte,Nat.reduceEqDiff,Nat.reduceLeDiff,Nat.reduceSub,Nat.reduceMul,Int.reduceSub,Int.reduceToNat,Int.reduceBEq,Int.reduceBNe,Int.reduceLT,Int.reduceGT,Int.reduceLE,Int.reduceGE,Int.reduceNeg,Int.reduceAdd,AH.SP,AH.PD,AV.inB,vstep,vw,shift,newOnes,rowsM,blkIn,rwB,@flat_lts,AV.lt,AV.lts,Nat.sub_self,AH.SO,findK_en,hq,maV_eq,keyIs,e3,List.length_map]
        repeat (refine ⟨by first | rfl | decide | omega | (simp only [List.length_map,List.length_set,and_true]; omega),?_⟩)
        simp only [AH.SD,AH.SE,AOp.call?,AOp.next?,bstep,AV.cells,unAV,binAV,retQ,retV,AH.sliceElems,AH.bytesOf,AH.strOp,AH.bound,AH.missQ,AH.minmaxAV,AH.readOf,AH.effOf,Nat.reduceBEq,Nat.reduceAdd,Nat.reduceLT,↓reduceIte,Nat.reduceEqDiff,Nat.reduceLeDiff,Nat.reduceSub,Nat.reduceMul,Int.reduceSub,Int.reduceToNat,Int.reduceBEq,Int.reduceBNe,Int.reduceLT,Int.reduceGT,Int.reduceLE,Int.reduceGE,Int.reduceNeg,Int.reduceAdd,AH.SP,AH.PD,AV.inB,vstep,vw,shift,newOnes,rowsM,blkIn,rwB,@flat_lts,AV.lt,AV.lts,Nat.sub_self,AH.SO,wi]
        refine gc_auto [0,1,2,5] [14,13,12,2,0] [] ?_
        simp only [AH.SD,AH.SE,AOp.call?,AOp.next?,bstep,AV.cells,unAV,binAV,retQ,retV,AH.sliceElems,AH.bytesOf,AH.strOp,AH.bound,AH.missQ,AH.minmaxAV,AH.readOf,AH.effOf,Nat.reduceBEq,Nat.reduceAdd,Nat.reduceLT,↓reduceIte,Nat.reduceEqDiff,Nat.reduceLeDiff,Nat.reduceSub,Nat.reduceMul,Int.reduceSub,Int.reduceToNat,Int.reduceBEq,Int.reduceBNe,Int.reduceLT,Int.reduceGT,Int.reduceLE,Int.reduceGE,Int.reduceNeg,Int.reduceAdd,AH.SP,AH.PD,AV.inB,vstep,ma_in,ma_ren]
        exact done
    · have hi1:=ge_of_dec hlt
      obtain rfl : i = (idsM t).length:=by omega
      rw [preM_all]
      simp only [AH.SD,AH.SE,AOp.call?,AOp.next?,bstep,AV.cells,unAV,binAV,retQ,retV,AH.sliceElems,AH.bytesOf,AH.strOp,AH.bound,AH.missQ,AH.minmaxAV,AH.readOf,AH.effOf,Nat.reduceBEq,Nat.reduceAdd,Nat.reduceLT,↓reduceIte,Nat.reduceEqDiff,Nat.reduceLeDiff,Nat.reduceSub,Nat.reduceMul,Int.reduceSub,Int.reduceToNat,Int.reduceBEq,Int.reduceBNe,Int.reduceLT,Int.reduceGT,Int.reduceLE,Int.reduceGE,Int.reduceNeg,Int.reduceAdd,AH.SP,AH.PD,AV.inB,vstep,vw,shift,newOnes,rowsM,blkIn,rwB,@flat_lts,AV.lt,AV.lts,Nat.sub_self,AH.SO]
      refine ⟨[0,1,3],[],?_⟩
      simp only [AH.SD,AH.SE,AOp.call?,AOp.next?,bstep,AV.cells,unAV,binAV,retQ,retV,AH.sliceElems,AH.bytesOf,AH.strOp,AH.bound,AH.missQ,AH.minmaxAV,AH.readOf,AH.effOf,Nat.reduceBEq,Nat.reduceAdd,Nat.reduceLT,↓reduceIte,Nat.reduceEqDiff,Nat.reduceLeDiff,Nat.reduceSub,Nat.reduceMul,Int.reduceSub,Int.reduceToNat,Int.reduceBEq,Int.reduceBNe,Int.reduceLT,Int.reduceGT,Int.reduceLE,Int.reduceGE,Int.reduceNeg,Int.reduceAdd,AH.SP,AH.PD,AV.inB,vstep,ma_in,ma_ren,allM]
noncomputable def alT : ET:=etO pkO c0 fun t _ =>if Fw t then some (.slc 2 0 (allM t).length none,pkM t ++ [rowM (allM t)]) else none
theorem alT_ok : EffF S0 35 alT:=etO_ok fun t x v m' h =>by
  split at h
  · rename_i ht
    simp only [Option.some.injEq,Prod.mk.injEq] at h
    obtain ⟨rfl,rfl⟩:=h
    exact ⟨⟨by simp [pkO,mpO,mpM,pkM],rfl⟩,pkAll_ok t ht⟩
  · cases h
theorem alT_p {p n : Nat} {M : Nat → Option Blk} : alT [.ptr p 0 0] M n = etO2 n (fun (t : Mp Ma) (_ : Unit) =>if Fw t then some (.slc 2 0 (allM t).length none,pkM t ++ [rowM (allM t)]) else none) (pkR M p (M p)) (some ()):=by
  simp only [alT,etO_eq,c0_dec,pkO_dec]
end Go.Proofs.YtnlolefgifeohaaDoor.E15
