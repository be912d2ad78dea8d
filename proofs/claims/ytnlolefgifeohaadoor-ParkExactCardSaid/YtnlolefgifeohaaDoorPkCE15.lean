import Derived.Test.YtnlolefgifeohaaDoorPkBE15
open Go AH
set_option linter.unusedSimpArgs false
set_option maxRecDepth 100000
namespace Go.Proofs.YtnlolefgifeohaaDoor.E15
def pcS (l : List Ac) (t : Mp Ma) (R : List Rm) (i : Nat) (c : Nat) : St:=⟨[(9,.int .i64 c),(5,.int .i64 i),(4,.ptr 3 0 0),(3,.ptr 1 0 0),(0,.slc 0 0 l.length none)],
  [some (.row true 7 (l.map Ac.cells)),some (.row false 1 [[.map 2]]),some (.map (t.L.map (enA Ma.av)) t.c),some (.row false 6000 [flR R])]⟩
set_option maxHeartbeats 16000000 in
theorem px_live (l : List Ac) (t : Mp Ma) (R : List Rm) (i : Nat) (hfw : Fw t) (hR : R.length = 1000) (hlv : ∀ c,rLv R c false = liveM t c) {L : List Nat} {Q0 : Exit → St → Prop} {st : St} {base : Nat} (hbase : base = 1)
    (h0 : (heads 1 0 L = true ∧ distN L = true) ∧ packB L st.mem L = true ∧ liveB L st.tm [9,5,4,3,0] = true ∧ wpV (fun s =>s = pcS l t R i 0) [] (some ⟨packTm L st.tm [9,5,4,3,0],packM L st.mem L⟩))
    (hE : ∀ s : St,tget s.tm 0 = .slc 0 0 l.length none → tget s.tm 3 = .ptr 1 0 0 → tget s.tm 4 = .ptr 3 0 0 → tget s.tm 5 = .int .i64 i → s.mem = (pcS l t R i 0).mem → Q0 (.exit 3) s) :
    wpA { call:=(ctxE S0 tPx [] ePx).call,read:=(ctxE S0 tPx [] ePx).read,eff:=(ctxE S0 tPx [] ePx).eff,base:=base } (F5.body.at [true,true,true,true,false,true,true,true,true,false,true,true,true,true,true,true,true]) Q0 st:=by
  subst hbase
  unfold F5
  simp only [ACode.at]
  refine loop_do L [9,5,4,3,0] [] (α:=Nat) (fun c => 6 - c) (pcS l t R i) (fun c =>c ≤ 6) 0 (Nat.zero_le _) h0 ?_
  clear h0
  intro X c hc ih
  simp only [AH.SD,AH.SE,AOp.call?,AOp.next?,bstep,AV.cells,unAV,binAV,retQ,retV,AH.sliceElems,AH.bytesOf,AH.strOp,AH.bound,AH.missQ,AH.minmaxAV,AH.readOf,AH.effOf,Nat.reduceBEq,Nat.reduceAdd,Nat.reduceLT,↓reduceIte,Nat.reduceEqDiff,Nat.reduceLeDiff,Nat.reduceSub,Nat.reduceMul,Int.reduceSub,Int.reduceToNat,Int.reduceBEq,Int.reduceBNe,Int.reduceLT,Int.reduceGT,Int.reduceLE,Int.reduceGE,Int.reduceNeg,Int.reduceAdd,AH.SP,AH.PD,AV.inB,vstep,vw,shift,newOnes,rowsM,blkIn,rwB,@flat_lts,AV.lt,AV.lts,Nat.sub_self,AH.SO,pcS]
  refine ⟨fun hlt => ?_,fun hlt => ?_⟩
  rotate_left
  · have h1 : ¬ c ≤ 5:=by simp only [decide_eq_false_iff_not] at hlt; omega
    obtain rfl : c = 6:=by omega
    simp only [AH.SD,AH.SE,AOp.call?,AOp.next?,bstep,AV.cells,unAV,binAV,retQ,retV,AH.sliceElems,AH.bytesOf,AH.strOp,AH.bound,AH.missQ,AH.minmaxAV,AH.readOf,AH.effOf,Nat.reduceBEq,Nat.reduceAdd,Nat.reduceLT,↓reduceIte,Nat.reduceEqDiff,Nat.reduceLeDiff,Nat.reduceSub,Nat.reduceMul,Int.reduceSub,Int.reduceToNat,Int.reduceBEq,Int.reduceBNe,Int.reduceLT,Int.reduceGT,Int.reduceLE,Int.reduceGE,Int.reduceNeg,Int.reduceAdd,AH.SP,AH.PD,AV.inB,vstep,vw,shift,newOnes,rowsM,blkIn,rwB,@flat_lts,AV.lt,AV.lts,Nat.sub_self,AH.SO]
    exact hE _ rfl rfl rfl rfl rfl
  have h1 : c ≤ 5:=by simp only [decide_eq_true_eq] at hlt; omega
  have wi:=wrapS (i:=c) (by omega)
  have done:=ih (c + 1) (by omega) (by omega)
  simp only [pcS] at done
  iterate 2 ((try simp only [AH.SD,AH.SE,AOp.call?,AOp.next?,bstep,AV.cells,unAV,binAV,retQ,retV,AH.sliceElems,AH.bytesOf,AH.strOp,AH.bound,AH.missQ,AH.minmaxAV,AH.readOf,AH.effOf,Nat.reduceBEq,Nat.reduceAdd,Nat.reduceLT,↓reduceIte,Nat.reduceEqDiff,Nat.reduceLeDiff,Nat.reduceSub,Nat.reduceMul,Int.reduceSub,Int.reduceToNat,Int.reduceBEq,Int.reduceBNe,Int.reduceLT,Int.reduceGT,Int.reduceLE,Int.reduceGE,Int.reduceNeg,Int.reduceAdd,AH.SP,AH.PD,AV.inB,vstep,vw,shift,newOnes,rowsM,blkIn,rwB,@flat_lts,AV.lt,AV.lts,Nat.sub_self,AH.SO,flR_in,flR_ren,ma_in,ma_ren,pkR_eq,pkB_eq,Mp.eta,ne_eq,Nat.reduceEqDiff,Nat.zero_ne_one,not_false_eq_true,errA_ren,errA_nil,pkM,rowM,Ma.av,v4c,V4.eta,AH.eqAV_flat,eqFlat_vec,eqMa7,lvE_p,lvT_p,rLvT_p,rpM,hfw,hR,rpR_eq hR,hlv,wi,flR_len,eqv_self,bne_self_eq_false,Bool.not_true,if_true]); repeat ((with_reducible refine And.intro ?_ ?_); focus (first | rfl | decide | omega | (simp only [List.length_map,List.length_set,and_true]; omega))))
  refine gc_auto [0,1,2,3] [9,5,4,3,0] [] ?_
  simp only [AH.SD,AH.SE,AOp.call?,AOp.next?,bstep,AV.cells,unAV,binAV,retQ,retV,AH.sliceElems,AH.bytesOf,AH.strOp,AH.bound,AH.missQ,AH.minmaxAV,AH.readOf,AH.effOf,Nat.reduceBEq,Nat.reduceAdd,Nat.reduceLT,↓reduceIte,Nat.reduceEqDiff,Nat.reduceLeDiff,Nat.reduceSub,Nat.reduceMul,Int.reduceSub,Int.reduceToNat,Int.reduceBEq,Int.reduceBNe,Int.reduceLT,Int.reduceGT,Int.reduceLE,Int.reduceGE,Int.reduceNeg,Int.reduceAdd,AH.SP,AH.PD,AV.inB,vstep,flR_in,flR_ren,ma_in,ma_ren]
  exact done
end Go.Proofs.YtnlolefgifeohaaDoor.E15
