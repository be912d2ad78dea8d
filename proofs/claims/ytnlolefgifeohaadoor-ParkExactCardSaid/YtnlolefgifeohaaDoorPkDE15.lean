import Derived.Test.YtnlolefgifeohaaDoorPkCE15
open Go AH
set_option linter.unusedSimpArgs false
set_option maxRecDepth 100000
namespace Go.Proofs.YtnlolefgifeohaaDoor.E15
theorem loop_atD {C : Ctx} {c d : ACode} {Q : Exit → St → Prop} {st : St} (h : wpA C c Q st) (e : c = d) : wpA C d Q st:=e ▸ h
theorem gap_pre (c : Int) (l : List Ma) {k : Nat} (hk : k < (keepC c l).length) : (gapM c l)[k]? = (keepC c l)[k]?:=by
  unfold gapM
  rw [List.getElem?_append_left hk]
def plS (l : List Ac) (t : Mp Ma) (R : List Rm) (c : Nat) : St:=⟨[(10,.int .i64 c),(4,.ptr 3 0 0),(3,.ptr 1 0 0)],
  [some (.row true 7 (l.map Ac.cells)),some (.row false 1 [[.map 2]]),some (.map (t.L.map (enA Ma.av)) t.c),some (.row false 6000 [flR R])]⟩
set_option maxHeartbeats 16000000 in
theorem px_lists (l : List Ac) (t : Mp Ma) (R : List Rm) (ht : Pk t) (hr : RelP t R) {L : List Nat} {Q0 : Exit → St → Prop} {st : St} {base : Nat} (hbase : base = 1)
    (h0 : (heads 1 0 L = true ∧ distN L = true) ∧ packB L st.mem L = true ∧ liveB L st.tm [10,4,3] = true ∧ wpV (fun s =>s = plS l t R 0) [] (some ⟨packTm L st.tm [10,4,3],packM L st.mem L⟩))
    (hE : ∀ s : St,s.mem = (plS l t R 0).mem → Q0 (.exit 5) s) :
    wpA { call:=(ctxE S0 tPx [] ePx).call,read:=(ctxE S0 tPx [] ePx).read,eff:=(ctxE S0 tPx [] ePx).eff,base:=base } (F5.body.at [true,true,true,true,true,false,true,true]) Q0 st:=by
  subst hbase
  have hfw:=ht.fw
  have hR:=hr.len
  unfold F5
  simp only [ACode.at]
  refine loop_do L [10,4,3] [] (α:=Nat) (fun c => 6 - c) (plS l t R) (fun c =>c ≤ 6) 0 (Nat.zero_le _) h0 ?_
  clear h0
  intro X c hc ih
  simp only [AH.SD,AH.SE,AOp.call?,AOp.next?,bstep,AV.cells,unAV,binAV,retQ,retV,AH.sliceElems,AH.bytesOf,AH.strOp,AH.bound,AH.missQ,AH.minmaxAV,AH.readOf,AH.effOf,Nat.reduceBEq,Nat.reduceAdd,Nat.reduceLT,↓reduceIte,Nat.reduceEqDiff,Nat.reduceLeDiff,Nat.reduceSub,Nat.reduceMul,Int.reduceSub,Int.reduceToNat,Int.reduceBEq,Int.reduceBNe,Int.reduceLT,Int.reduceGT,Int.reduceLE,Int.reduceGE,Int.reduceNeg,Int.reduceAdd,AH.SP,AH.PD,AV.inB,vstep,vw,shift,newOnes,rowsM,blkIn,rwB,@flat_lts,AV.lt,AV.lts,Nat.sub_self,AH.SO,plS]
  refine ⟨fun hlt => ?_,fun hlt => ?_⟩
  rotate_left
  · simp only [AH.SD,AH.SE,AOp.call?,AOp.next?,bstep,AV.cells,unAV,binAV,retQ,retV,AH.sliceElems,AH.bytesOf,AH.strOp,AH.bound,AH.missQ,AH.minmaxAV,AH.readOf,AH.effOf,Nat.reduceBEq,Nat.reduceAdd,Nat.reduceLT,↓reduceIte,Nat.reduceEqDiff,Nat.reduceLeDiff,Nat.reduceSub,Nat.reduceMul,Int.reduceSub,Int.reduceToNat,Int.reduceBEq,Int.reduceBNe,Int.reduceLT,Int.reduceGT,Int.reduceLE,Int.reduceGE,Int.reduceNeg,Int.reduceAdd,AH.SP,AH.PD,AV.inB,vstep,vw,shift,newOnes,rowsM,blkIn,rwB,@flat_lts,AV.lt,AV.lts,Nat.sub_self,AH.SO]
    exact hE _ rfl
  have h1 : c ≤ 5:=by simp only [decide_eq_true_eq] at hlt; omega
  have wi:=wrapS (i:=c) (by omega)
  have done:=ih (c + 1) (by omega) (by omega)
  simp only [plS] at done
  cases c with
  | zero =>
    iterate 2 ((try simp only [AH.SD,AH.SE,AOp.call?,AOp.next?,bstep,AV.cells,unAV,binAV,retQ,retV,AH.sliceElems,AH.bytesOf,AH.strOp,AH.bound,AH.missQ,AH.minmaxAV,AH.readOf,AH.effOf,Nat.reduceBEq,Nat.reduceAdd,Nat.reduceLT,↓reduceIte,Nat.reduceEqDiff,Nat.reduceLeDiff,Nat.reduceSub,Nat.reduceMul,Int.reduceSub,Int.reduceToNat,Int.reduceBEq,Int.reduceBNe,Int.reduceLT,Int.reduceGT,Int.reduceLE,Int.reduceGE,Int.reduceNeg,Int.reduceAdd,AH.SP,AH.PD,AV.inB,vstep,vw,shift,newOnes,rowsM,blkIn,rwB,@flat_lts,AV.lt,AV.lts,Nat.sub_self,AH.SO,flR_in,flR_ren,ma_in,ma_ren,pkR_eq,pkB_eq,Mp.eta,ne_eq,Nat.reduceEqDiff,Nat.zero_ne_one,not_false_eq_true,errA_ren,errA_nil,pkM,rowM,Ma.av,v4c,V4.eta,AH.eqAV_flat,eqFlat_vec,eqMa7,lvE_p,lvT_p,rLvT_p,rpM,liN_p,alN_p,liT_p,alT_p,hfw,Int.natCast_zero,beq_self_eq_true,if_true]); repeat ((with_reducible refine And.intro ?_ ?_); focus (first | rfl | decide | omega | (simp only [List.length_map,List.length_set,and_true]; omega))))
    have hn : (allM t).length = (xL R 0 999).length:=by rw [x_all ht hr]
    have hG : ∀ k,k < (allM t).length → (allM t)[k]? = (xL R 0 999)[k]?:=fun k _ =>by rw [x_all ht hr]
    have hGl : (allM t).length ≤ (allM t).length:=Nat.le_refl _
    refine loop_atD (px_inner l t R hR (allM t) (allM t).length 0 hn hG hGl (L:=[0,1,2,3,5]) rfl (by
      simp only [AH.SD,AH.SE,AOp.call?,AOp.next?,bstep,AV.cells,unAV,binAV,retQ,retV,AH.sliceElems,AH.bytesOf,AH.strOp,AH.bound,AH.missQ,AH.minmaxAV,AH.readOf,AH.effOf,Nat.reduceBEq,Nat.reduceAdd,Nat.reduceLT,↓reduceIte,Nat.reduceEqDiff,Nat.reduceLeDiff,Nat.reduceSub,Nat.reduceMul,Int.reduceSub,Int.reduceToNat,Int.reduceBEq,Int.reduceBNe,Int.reduceLT,Int.reduceGT,Int.reduceLE,Int.reduceGE,Int.reduceNeg,Int.reduceAdd,AH.SP,AH.PD,AV.inB,vstep,piSt,flR_in,flR_ren,ma_in,ma_ren,errA_ren,errA_nil,show xL R 0 0 = [] from rfl,List.length_nil,Int.natCast_zero]
      try rfl) ?_) (by unfold F5; rfl)
    intro s n3 n4 n10 n11 n12 nm
    simp only [piSt] at nm
    iterate 2 ((try simp only [AH.SD,AH.SE,AOp.call?,AOp.next?,bstep,AV.cells,unAV,binAV,retQ,retV,AH.sliceElems,AH.bytesOf,AH.strOp,AH.bound,AH.missQ,AH.minmaxAV,AH.readOf,AH.effOf,Nat.reduceBEq,Nat.reduceAdd,Nat.reduceLT,↓reduceIte,Nat.reduceEqDiff,Nat.reduceLeDiff,Nat.reduceSub,Nat.reduceMul,Int.reduceSub,Int.reduceToNat,Int.reduceBEq,Int.reduceBNe,Int.reduceLT,Int.reduceGT,Int.reduceLE,Int.reduceGE,Int.reduceNeg,Int.reduceAdd,AH.SP,AH.PD,AV.inB,vstep,vw,shift,newOnes,rowsM,blkIn,rwB,@flat_lts,AV.lt,AV.lts,Nat.sub_self,AH.SO,n3,n4,n10,n11,n12,nm,tget_terase_ne,ne_eq,Nat.reduceEqDiff,not_false_eq_true,wi,bne_self_eq_false]); repeat ((with_reducible refine And.intro ?_ ?_); focus (first | rfl | decide | omega | (simp only [List.length_map,List.length_set,and_true]; omega))))
    refine gc_auto [0,1,2,3] [10,4,3] [] ?_
    simp only [AH.SD,AH.SE,AOp.call?,AOp.next?,bstep,AV.cells,unAV,binAV,retQ,retV,AH.sliceElems,AH.bytesOf,AH.strOp,AH.bound,AH.missQ,AH.minmaxAV,AH.readOf,AH.effOf,Nat.reduceBEq,Nat.reduceAdd,Nat.reduceLT,↓reduceIte,Nat.reduceEqDiff,Nat.reduceLeDiff,Nat.reduceSub,Nat.reduceMul,Int.reduceSub,Int.reduceToNat,Int.reduceBEq,Int.reduceBNe,Int.reduceLT,Int.reduceGT,Int.reduceLE,Int.reduceGE,Int.reduceNeg,Int.reduceAdd,AH.SP,AH.PD,AV.inB,vstep,flR_in,flR_ren,ma_in,ma_ren,n3,n4,n10,n11,n12,nm,tget_terase_ne,ne_eq,Nat.reduceEqDiff,not_false_eq_true]
    exact done
  | succ c =>
    have k1 : (((c + 1 : Nat) : Int) == 0) = false:=beq_eq_false_iff_ne.2 (by omega)
    iterate 2 ((try simp only [AH.SD,AH.SE,AOp.call?,AOp.next?,bstep,AV.cells,unAV,binAV,retQ,retV,AH.sliceElems,AH.bytesOf,AH.strOp,AH.bound,AH.missQ,AH.minmaxAV,AH.readOf,AH.effOf,Nat.reduceBEq,Nat.reduceAdd,Nat.reduceLT,↓reduceIte,Nat.reduceEqDiff,Nat.reduceLeDiff,Nat.reduceSub,Nat.reduceMul,Int.reduceSub,Int.reduceToNat,Int.reduceBEq,Int.reduceBNe,Int.reduceLT,Int.reduceGT,Int.reduceLE,Int.reduceGE,Int.reduceNeg,Int.reduceAdd,AH.SP,AH.PD,AV.inB,vstep,vw,shift,newOnes,rowsM,blkIn,rwB,@flat_lts,AV.lt,AV.lts,Nat.sub_self,AH.SO,flR_in,flR_ren,ma_in,ma_ren,pkR_eq,pkB_eq,Mp.eta,ne_eq,Nat.reduceEqDiff,Nat.zero_ne_one,not_false_eq_true,errA_ren,errA_nil,pkM,rowM,Ma.av,v4c,V4.eta,AH.eqAV_flat,eqFlat_vec,eqMa7,lvE_p,lvT_p,rLvT_p,rpM,liN_p,alN_p,liT_p,alT_p,hfw,k1,if_true]); repeat ((with_reducible refine And.intro ?_ ?_); focus (first | rfl | decide | omega | (simp only [List.length_map,List.length_set,and_true]; omega))))
    have hn : (listM t ((c + 1 : Nat) : Int)).length = (xL R ((c + 1 : Nat) : Int) 999).length:=by rw [x_list ht hr (by omega)]
    have hG : ∀ k,k < (listM t ((c + 1 : Nat) : Int)).length → (gapM ((c + 1 : Nat) : Int) (allM t))[k]? = (xL R ((c + 1 : Nat) : Int) 999)[k]?:=fun k hk =>by rw [← x_list ht hr (by omega : ((c + 1 : Nat) : Int) > 0)]; exact gap_pre _ _ hk
    have hGl : (listM t ((c + 1 : Nat) : Int)).length ≤ (gapM ((c + 1 : Nat) : Int) (allM t)).length:=by rw [gapM,List.length_append]; exact Nat.le_add_right _ _
    refine loop_atD (px_inner l t R hR (gapM ((c + 1 : Nat) : Int) (allM t)) (listM t ((c + 1 : Nat) : Int)).length ((c + 1 : Nat) : Int) hn hG hGl (L:=[0,1,2,3,4]) rfl (by
      simp only [AH.SD,AH.SE,AOp.call?,AOp.next?,bstep,AV.cells,unAV,binAV,retQ,retV,AH.sliceElems,AH.bytesOf,AH.strOp,AH.bound,AH.missQ,AH.minmaxAV,AH.readOf,AH.effOf,Nat.reduceBEq,Nat.reduceAdd,Nat.reduceLT,↓reduceIte,Nat.reduceEqDiff,Nat.reduceLeDiff,Nat.reduceSub,Nat.reduceMul,Int.reduceSub,Int.reduceToNat,Int.reduceBEq,Int.reduceBNe,Int.reduceLT,Int.reduceGT,Int.reduceLE,Int.reduceGE,Int.reduceNeg,Int.reduceAdd,AH.SP,AH.PD,AV.inB,vstep,piSt,flR_in,flR_ren,ma_in,ma_ren,errA_ren,errA_nil,show xL R ((c + 1 : Nat) : Int) 0 = [] from rfl,List.length_nil,Int.natCast_zero]
      try rfl) ?_) (by unfold F5; rfl)
    intro s n3 n4 n10 n11 n12 nm
    simp only [piSt] at nm
    iterate 2 ((try simp only [AH.SD,AH.SE,AOp.call?,AOp.next?,bstep,AV.cells,unAV,binAV,retQ,retV,AH.sliceElems,AH.bytesOf,AH.strOp,AH.bound,AH.missQ,AH.minmaxAV,AH.readOf,AH.effOf,Nat.reduceBEq,Nat.reduceAdd,Nat.reduceLT,↓reduceIte,Nat.reduceEqDiff,Nat.reduceLeDiff,Nat.reduceSub,Nat.reduceMul,Int.reduceSub,Int.reduceToNat,Int.reduceBEq,Int.reduceBNe,Int.reduceLT,Int.reduceGT,Int.reduceLE,Int.reduceGE,Int.reduceNeg,Int.reduceAdd,AH.SP,AH.PD,AV.inB,vstep,vw,shift,newOnes,rowsM,blkIn,rwB,@flat_lts,AV.lt,AV.lts,Nat.sub_self,AH.SO,n3,n4,n10,n11,n12,nm,tget_terase_ne,ne_eq,Nat.reduceEqDiff,not_false_eq_true,wi,bne_self_eq_false]); repeat ((with_reducible refine And.intro ?_ ?_); focus (first | rfl | decide | omega | (simp only [List.length_map,List.length_set,and_true]; omega))))
    refine gc_auto [0,1,2,3] [10,4,3] [] ?_
    simp only [AH.SD,AH.SE,AOp.call?,AOp.next?,bstep,AV.cells,unAV,binAV,retQ,retV,AH.sliceElems,AH.bytesOf,AH.strOp,AH.bound,AH.missQ,AH.minmaxAV,AH.readOf,AH.effOf,Nat.reduceBEq,Nat.reduceAdd,Nat.reduceLT,↓reduceIte,Nat.reduceEqDiff,Nat.reduceLeDiff,Nat.reduceSub,Nat.reduceMul,Int.reduceSub,Int.reduceToNat,Int.reduceBEq,Int.reduceBNe,Int.reduceLT,Int.reduceGT,Int.reduceLE,Int.reduceGE,Int.reduceNeg,Int.reduceAdd,AH.SP,AH.PD,AV.inB,vstep,flR_in,flR_ren,ma_in,ma_ren,n3,n4,n10,n11,n12,nm,tget_terase_ne,ne_eq,Nat.reduceEqDiff,not_false_eq_true]
    exact done
end Go.Proofs.YtnlolefgifeohaaDoor.E15
