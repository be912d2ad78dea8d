import Derived.Test.YtnlolefgifeohaaDoorPkAE15
open Go AH
set_option linter.unusedSimpArgs false
set_option maxRecDepth 100000
namespace Go.Proofs.YtnlolefgifeohaaDoor.E15
def skipP (R : List Rm) (c : Int) (j : Nat) : Bool:=bif (getR R j).c == 0 then true else (bif decide (c > 0) then ((getR R j).c != c) else false)
def xL (R : List Rm) (c : Int) (m : Nat) : List Ma:=((List.range' 1 m).filter fun j => !skipP R c j).map (rMa R)
theorem xL_next (R : List Rm) (c : Int) (m : Nat) : xL R c (m + 1) = xL R c m ++ bif skipP R c (m + 1) then [] else [rMa R (m + 1)]:=by
  unfold xL
  rw [List.range'_1_concat,List.filter_append,List.map_append,Nat.add_comm 1 m]
  simp only [List.filter_cons,List.filter_nil]
  cases skipP R c (m + 1) <;> rfl
theorem xL_le (R : List Rm) (c : Int) (m : Nat) : (xL R c m).length ≤ m:=by
  unfold xL
  rw [List.length_map]
  exact Nat.le_trans (List.length_filter_le _ _) (by simp)
theorem xL_pre (R : List Rm) (c : Int) (m : Nat) : ∀ n,∃ r,xL R c (m + n) = xL R c m ++ r
  | 0 =>⟨[],by simp⟩
  | n + 1 =>by
    obtain ⟨r,h⟩:=xL_pre R c m n
    exact ⟨_,by rw [show m + (n + 1) = (m + n) + 1 by omega,xL_next,h,List.append_assoc]⟩
theorem xL_at {R : List Rm} {c : Int} {m : Nat} (hm : m + 1 ≤ 999) (hs : skipP R c (m + 1) = false) : (xL R c 999)[(xL R c m).length]? = some (rMa R (m + 1)):=by
  obtain ⟨r,h⟩:=xL_pre R c (m + 1) (999 - (m + 1))
  rw [show m + 1 + (999 - (m + 1)) = 999 by omega,xL_next R c m,hs,cond_false,List.append_assoc] at h
  rw [h,List.getElem?_append_right (Nat.le_refl _),Nat.sub_self]; rfl
variable {t : Mp Ma} {R : List Rm}
theorem cj_pos (h : Pk t) (hr : RelP t R) {j : Nat} (hj : j < 1000) : decide ((getR R j).c > 0) = !((getR R j).c == 0):=by
  rw [hr.at_ j hj]
  cases q : vK t (j : Int) with
  | none =>rfl
  | some v =>
    have:=(vK_in h q).2.2.2.1
    show decide (v.c > 0) = !(v.c == 0)
    rw [decide_eq_true (by omega),beq_eq_false_iff_ne.2 (by omega : v.c ≠ 0)]; rfl
theorem x_all (h : Pk t) (hr : RelP t R) : allM t = xL R 0 999:=by
  rw [all_eq h hr,xL,rCnA]
  congr 1
  refine List.filter_congr fun j hj => ?_
  rw [rng_memP] at hj
  rw [cj_pos h hr hj.2,skipP]
  cases ((getR R j).c == 0) <;> rfl
theorem x_list (h : Pk t) (hr : RelP t R) {c : Int} (hc : c > 0) : listM t c = xL R c 999:=by
  rw [listM,keepC,all_eq h hr,xL,rCnA,List.filter_map,List.filter_filter]
  congr 1
  refine List.filter_congr fun j hj => ?_
  rw [rng_memP] at hj
  simp only [Function.comp,rMa]
  rw [cj_pos h hr hj.2,skipP,decide_eq_true hc]
  cases ((getR R j).c == 0) <;> cases ((getR R j).c != c) <;> rfl
def piSt (l : List Ac) (t : Mp Ma) (R : List Rm) (G : List Ma) (n : Nat) (c : Int) (m : Nat) : St:=⟨[(13,.int .i64 ((m + 1 : Nat) : Int)),(12,.int .i64 (xL R c m).length),(11,.slc 4 0 n none),(10,.int .i64 c),(4,.ptr 3 0 0),(3,.ptr 1 0 0)],
  [some (.row true 7 (l.map Ac.cells)),some (.row false 1 [[.map 2]]),some (.map (t.L.map (enA Ma.av)) t.c),some (.row false 6000 [flR R]),some (.row false 7 (G.map Ma.cells))]⟩
set_option maxHeartbeats 16000000 in
theorem px_inner (l : List Ac) (t : Mp Ma) (R : List Rm) (hR : R.length = 1000) (G : List Ma) (n : Nat) (c : Int) (hn : n = (xL R c 999).length) (hG : ∀ k,k < n → G[k]? = (xL R c 999)[k]?) (hGl : n ≤ G.length) {L : List Nat} {Q0 : Exit → St → Prop} {st : St} {base : Nat} (hbase : base = 1)
    (h0 : (heads 1 0 L = true ∧ distN L = true) ∧ packB L st.mem L = true ∧ liveB L st.tm [13,12,11,10,4,3] = true ∧ wpV (fun s =>s = piSt l t R G n c 0) [] (some ⟨packTm L st.tm [13,12,11,10,4,3],packM L st.mem L⟩))
    (hE : ∀ s : St,tget s.tm 3 = .ptr 1 0 0 → tget s.tm 4 = .ptr 3 0 0 → tget s.tm 10 = .int .i64 c → tget s.tm 11 = .slc 4 0 n none → tget s.tm 12 = .int .i64 n → s.mem = (piSt l t R G n c 0).mem → Q0 (.exit 7) s) :
    wpA { call:=(ctxE S0 tPx [] ePx).call,read:=(ctxE S0 tPx [] ePx).read,eff:=(ctxE S0 tPx [] ePx).eff,base:=base } (F5.body.at [true,true,true,true,true,false,true,true,true,true,false,true,true,true,true,false,true,true]) Q0 st:=by
  subst hbase
  unfold F5
  simp only [ACode.at]
  refine loop_do L [13,12,11,10,4,3] [] (α:=Nat) (fun m => 999 - m) (piSt l t R G n c) (fun m =>m ≤ 999) 0 (Nat.zero_le _) h0 ?_
  clear h0
  intro X m hm ih
  simp only [AH.SD,AH.SE,AOp.call?,AOp.next?,bstep,AV.cells,unAV,binAV,retQ,retV,AH.sliceElems,AH.bytesOf,AH.strOp,AH.bound,AH.missQ,AH.minmaxAV,AH.readOf,AH.effOf,Nat.reduceBEq,Nat.reduceAdd,Nat.reduceLT,↓reduceIte,Nat.reduceEqDiff,Nat.reduceLeDiff,Nat.reduceSub,Nat.reduceMul,Int.reduceSub,Int.reduceToNat,Int.reduceBEq,Int.reduceBNe,Int.reduceLT,Int.reduceGT,Int.reduceLE,Int.reduceGE,Int.reduceNeg,Int.reduceAdd,AH.SP,AH.PD,AV.inB,vstep,vw,shift,newOnes,rowsM,blkIn,rwB,@flat_lts,AV.lt,AV.lts,Nat.sub_self,AH.SO,piSt]
  refine ⟨fun hlt => ?_,fun hlt => ?_⟩
  rotate_left
  · have hi1 : ¬ m + 1 < 1000:=by simp only [decide_eq_false_iff_not] at hlt; omega
    obtain rfl : m = 999:=by omega
    simp only [AH.SD,AH.SE,AOp.call?,AOp.next?,bstep,AV.cells,unAV,binAV,retQ,retV,AH.sliceElems,AH.bytesOf,AH.strOp,AH.bound,AH.missQ,AH.minmaxAV,AH.readOf,AH.effOf,Nat.reduceBEq,Nat.reduceAdd,Nat.reduceLT,↓reduceIte,Nat.reduceEqDiff,Nat.reduceLeDiff,Nat.reduceSub,Nat.reduceMul,Int.reduceSub,Int.reduceToNat,Int.reduceBEq,Int.reduceBNe,Int.reduceLT,Int.reduceGT,Int.reduceLE,Int.reduceGE,Int.reduceNeg,Int.reduceAdd,AH.SP,AH.PD,AV.inB,vstep,vw,shift,newOnes,rowsM,blkIn,rwB,@flat_lts,AV.lt,AV.lts,Nat.sub_self,AH.SO]
    exact hE _ rfl rfl rfl rfl (by rw [hn]; rfl) rfl
  have hi1 : m + 1 < 1000:=by simp only [decide_eq_true_eq] at hlt; omega
  have wi:=wrapS (i:=m + 1) (by omega)
  have hle:=xL_le R c m
  have wk:=wrapS (i:=(xL R c m).length) (by omega)
  have done:=ih (m + 1) (by omega) (by omega)
  have h5 : m + 1 < R.length:=by omega
  simp only [piSt,xL_next] at done
  have hsk : skipP R c (m + 1) = (bif R[m + 1].c == 0 then true else (bif decide (c > 0) then (R[m + 1].c != c) else false)):=by rw [skipP,getR_i h5]
  have hat:=fun h =>xL_at (R:=R) (c:=c) (m:=m) (by omega) h
  rw [hsk] at done hat
  have hrm : rMa R (m + 1) = ⟨((m + 1 : Nat) : Int),R[m + 1].c,R[m + 1].h,R[m + 1].s⟩:=by rw [rMa,getR_i h5]
  have hwf : xL R c m = xL R c m:=rfl
  generalize xL R c m = Xm at *
  cases k1 : (R[m + 1].c == 0)
  rotate_left
  · rw [k1,cond_true,cond_true,List.append_nil] at done
    iterate 2 ((try simp only [AH.SD,AH.SE,AOp.call?,AOp.next?,bstep,AV.cells,unAV,binAV,retQ,retV,AH.sliceElems,AH.bytesOf,AH.strOp,AH.bound,AH.missQ,AH.minmaxAV,AH.readOf,AH.effOf,Nat.reduceBEq,Nat.reduceAdd,Nat.reduceLT,↓reduceIte,Nat.reduceEqDiff,Nat.reduceLeDiff,Nat.reduceSub,Nat.reduceMul,Int.reduceSub,Int.reduceToNat,Int.reduceBEq,Int.reduceBNe,Int.reduceLT,Int.reduceGT,Int.reduceLE,Int.reduceGE,Int.reduceNeg,Int.reduceAdd,AH.SP,AH.PD,AV.inB,vstep,vw,shift,newOnes,rowsM,blkIn,rwB,@flat_lts,AV.lt,AV.lts,Nat.sub_self,AH.SO,fl0 h5,flh h5,fl5 h5,Int.toNat_natCast,wi,wk,flR_len,hR,List.length_map,k1]); repeat ((with_reducible refine And.intro ?_ ?_); focus (first | rfl | decide | omega | (simp only [List.length_map,List.length_set,and_true]; omega))))
    refine gc_auto [0,1,2,3,4] [13,12,11,10,4,3] [] ?_
    simp only [AH.SD,AH.SE,AOp.call?,AOp.next?,bstep,AV.cells,unAV,binAV,retQ,retV,AH.sliceElems,AH.bytesOf,AH.strOp,AH.bound,AH.missQ,AH.minmaxAV,AH.readOf,AH.effOf,Nat.reduceBEq,Nat.reduceAdd,Nat.reduceLT,↓reduceIte,Nat.reduceEqDiff,Nat.reduceLeDiff,Nat.reduceSub,Nat.reduceMul,Int.reduceSub,Int.reduceToNat,Int.reduceBEq,Int.reduceBNe,Int.reduceLT,Int.reduceGT,Int.reduceLE,Int.reduceGE,Int.reduceNeg,Int.reduceAdd,AH.SP,AH.PD,AV.inB,vstep,flR_in,flR_ren,ma_in,ma_ren]
    exact done
  rw [k1,cond_false] at done hat
  have step : ∀ (hs : (bif decide (c > 0) then (R[m + 1].c != c) else false) = false),Xm.length < n ∧ ∃ h : Xm.length < G.length,G[Xm.length] = ⟨((m + 1 : Nat) : Int),R[m + 1].c,R[m + 1].h,R[m + 1].s⟩:=fun hs =>by
    have h1:=hat hs
    have h2 : Xm.length < n:=by rw [hn]; exact (List.getElem?_eq_some_iff.1 h1).1
    have h3:=hG _ h2
    rw [h1] at h3
    obtain ⟨h4,h6⟩:=List.getElem?_eq_some_iff.1 h3
    exact ⟨h2,h4,h6.trans hrm⟩
  cases k2 : decide (c > 0)
  · rw [k2,cond_false] at step done
    obtain ⟨g1,g2,g3⟩:=step rfl
    have hgk : (G.map Ma.cells).getD Xm.length [] = Ma.cells G[Xm.length]:=getD_enc g2
    rw [g3] at hgk
    have d1 : decide ((Xm.length : Int) ≥ (n : Int)) = false:=decide_eq_false (by omega)
    rw [cond_false,List.length_append,List.length_singleton] at done
    iterate 3 ((try simp only [AH.SD,AH.SE,AOp.call?,AOp.next?,bstep,AV.cells,unAV,binAV,retQ,retV,AH.sliceElems,AH.bytesOf,AH.strOp,AH.bound,AH.missQ,AH.minmaxAV,AH.readOf,AH.effOf,Nat.reduceBEq,Nat.reduceAdd,Nat.reduceLT,↓reduceIte,Nat.reduceEqDiff,Nat.reduceLeDiff,Nat.reduceSub,Nat.reduceMul,Int.reduceSub,Int.reduceToNat,Int.reduceBEq,Int.reduceBNe,Int.reduceLT,Int.reduceGT,Int.reduceLE,Int.reduceGE,Int.reduceNeg,Int.reduceAdd,AH.SP,AH.PD,AV.inB,vstep,vw,shift,newOnes,rowsM,blkIn,rwB,@flat_lts,AV.lt,AV.lts,Nat.sub_self,AH.SO,fl0 h5,flh h5,fl5 h5,Int.toNat_natCast,wi,wk,flR_len,hR,List.length_map,ma_in,ma_ren,pkR_eq,pkB_eq,Mp.eta,ne_eq,Nat.reduceEqDiff,Nat.zero_ne_one,not_false_eq_true,errA_ren,errA_nil,pkM,rowM,Ma.av,v4c,V4.eta,AH.eqAV_flat,eqFlat_vec,eqMa7,k1,k2,d1,hgk,Ma.cells,ma7_self,beq_self_eq_true,bne_self_eq_false,Bool.and_self,Bool.not_true]); repeat ((with_reducible refine And.intro ?_ ?_); focus (first | rfl | decide | omega | (simp only [List.length_map,List.length_set,and_true]; omega))))
    refine gc_auto [0,1,2,3,4] [13,12,11,10,4,3] [] ?_
    simp only [AH.SD,AH.SE,AOp.call?,AOp.next?,bstep,AV.cells,unAV,binAV,retQ,retV,AH.sliceElems,AH.bytesOf,AH.strOp,AH.bound,AH.missQ,AH.minmaxAV,AH.readOf,AH.effOf,Nat.reduceBEq,Nat.reduceAdd,Nat.reduceLT,↓reduceIte,Nat.reduceEqDiff,Nat.reduceLeDiff,Nat.reduceSub,Nat.reduceMul,Int.reduceSub,Int.reduceToNat,Int.reduceBEq,Int.reduceBNe,Int.reduceLT,Int.reduceGT,Int.reduceLE,Int.reduceGE,Int.reduceNeg,Int.reduceAdd,AH.SP,AH.PD,AV.inB,vstep,flR_in,flR_ren,ma_in,ma_ren]
    exact done
  rw [k2,cond_true] at step done
  cases k3 : (R[m + 1].c != c)
  rotate_left
  · rw [k3,cond_true,List.append_nil] at done
    iterate 2 ((try simp only [AH.SD,AH.SE,AOp.call?,AOp.next?,bstep,AV.cells,unAV,binAV,retQ,retV,AH.sliceElems,AH.bytesOf,AH.strOp,AH.bound,AH.missQ,AH.minmaxAV,AH.readOf,AH.effOf,Nat.reduceBEq,Nat.reduceAdd,Nat.reduceLT,↓reduceIte,Nat.reduceEqDiff,Nat.reduceLeDiff,Nat.reduceSub,Nat.reduceMul,Int.reduceSub,Int.reduceToNat,Int.reduceBEq,Int.reduceBNe,Int.reduceLT,Int.reduceGT,Int.reduceLE,Int.reduceGE,Int.reduceNeg,Int.reduceAdd,AH.SP,AH.PD,AV.inB,vstep,vw,shift,newOnes,rowsM,blkIn,rwB,@flat_lts,AV.lt,AV.lts,Nat.sub_self,AH.SO,fl0 h5,flh h5,fl5 h5,Int.toNat_natCast,wi,wk,flR_len,hR,List.length_map,k1,k2,k3]); repeat ((with_reducible refine And.intro ?_ ?_); focus (first | rfl | decide | omega | (simp only [List.length_map,List.length_set,and_true]; omega))))
    refine gc_auto [0,1,2,3,4] [13,12,11,10,4,3] [] ?_
    simp only [AH.SD,AH.SE,AOp.call?,AOp.next?,bstep,AV.cells,unAV,binAV,retQ,retV,AH.sliceElems,AH.bytesOf,AH.strOp,AH.bound,AH.missQ,AH.minmaxAV,AH.readOf,AH.effOf,Nat.reduceBEq,Nat.reduceAdd,Nat.reduceLT,↓reduceIte,Nat.reduceEqDiff,Nat.reduceLeDiff,Nat.reduceSub,Nat.reduceMul,Int.reduceSub,Int.reduceToNat,Int.reduceBEq,Int.reduceBNe,Int.reduceLT,Int.reduceGT,Int.reduceLE,Int.reduceGE,Int.reduceNeg,Int.reduceAdd,AH.SP,AH.PD,AV.inB,vstep,flR_in,flR_ren,ma_in,ma_ren]
    exact done
  · obtain ⟨g1,g2,g3⟩:=step k3
    have hgk : (G.map Ma.cells).getD Xm.length [] = Ma.cells G[Xm.length]:=getD_enc g2
    rw [g3] at hgk
    have d1 : decide ((Xm.length : Int) ≥ (n : Int)) = false:=decide_eq_false (by omega)
    rw [k3,cond_false,List.length_append,List.length_singleton] at done
    iterate 3 ((try simp only [AH.SD,AH.SE,AOp.call?,AOp.next?,bstep,AV.cells,unAV,binAV,retQ,retV,AH.sliceElems,AH.bytesOf,AH.strOp,AH.bound,AH.missQ,AH.minmaxAV,AH.readOf,AH.effOf,Nat.reduceBEq,Nat.reduceAdd,Nat.reduceLT,↓reduceIte,Nat.reduceEqDiff,Nat.reduceLeDiff,Nat.reduceSub,Nat.reduceMul,Int.reduceSub,Int.reduceToNat,Int.reduceBEq,Int.reduceBNe,Int.reduceLT,Int.reduceGT,Int.reduceLE,Int.reduceGE,Int.reduceNeg,Int.reduceAdd,AH.SP,AH.PD,AV.inB,vstep,vw,shift,newOnes,rowsM,blkIn,rwB,@flat_lts,AV.lt,AV.lts,Nat.sub_self,AH.SO,fl0 h5,flh h5,fl5 h5,Int.toNat_natCast,wi,wk,flR_len,hR,List.length_map,ma_in,ma_ren,pkR_eq,pkB_eq,Mp.eta,ne_eq,Nat.reduceEqDiff,Nat.zero_ne_one,not_false_eq_true,errA_ren,errA_nil,pkM,rowM,Ma.av,v4c,V4.eta,AH.eqAV_flat,eqFlat_vec,eqMa7,k1,k2,k3,d1,hgk,Ma.cells,ma7_self,beq_self_eq_true,bne_self_eq_false,Bool.and_self,Bool.not_true]); repeat ((with_reducible refine And.intro ?_ ?_); focus (first | rfl | decide | omega | (simp only [List.length_map,List.length_set,and_true]; omega))))
    refine gc_auto [0,1,2,3,4] [13,12,11,10,4,3] [] ?_
    simp only [AH.SD,AH.SE,AOp.call?,AOp.next?,bstep,AV.cells,unAV,binAV,retQ,retV,AH.sliceElems,AH.bytesOf,AH.strOp,AH.bound,AH.missQ,AH.minmaxAV,AH.readOf,AH.effOf,Nat.reduceBEq,Nat.reduceAdd,Nat.reduceLT,↓reduceIte,Nat.reduceEqDiff,Nat.reduceLeDiff,Nat.reduceSub,Nat.reduceMul,Int.reduceSub,Int.reduceToNat,Int.reduceBEq,Int.reduceBNe,Int.reduceLT,Int.reduceGT,Int.reduceLE,Int.reduceGE,Int.reduceNeg,Int.reduceAdd,AH.SP,AH.PD,AV.inB,vstep,flR_in,flR_ren,ma_in,ma_ren]
    exact done
end Go.Proofs.YtnlolefgifeohaaDoor.E15
