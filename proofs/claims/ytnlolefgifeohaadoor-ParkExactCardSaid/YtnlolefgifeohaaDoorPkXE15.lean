import Derived.Test.YtnlolefgifeohaaDoorPkDE15
open Go AH
set_option linter.unusedSimpArgs false
set_option maxRecDepth 100000
namespace Go.Proofs.YtnlolefgifeohaaDoor.E15
theorem loop_atP {C : Ctx} {c d : ACode} {Q : Exit → St → Prop} {st : St} (h : wpA C c Q st) (e : c = d) : wpA C d Q st:=e ▸ h
structure PX where
  i : Nat
  t : Mp Ma
  R : List Rm
def pxSt (l : List Ac) (x : PX) : St:=⟨[(5,.int .i64 x.i),(4,.ptr 3 0 0),(3,.ptr 1 0 0),(0,.slc 0 0 l.length none)],[some (.row true 7 (l.map Ac.cells)),some (.row false 1 [[.map 2]]),some (.map (x.t.L.map (enA Ma.av)) x.t.c),some (.row false 6000 [flR x.R])]⟩
theorem flR_rep : ∀ n,flR (List.replicate n rmZ) = List.replicate (6 * n) (.int .i64 0)
  | 0 =>rfl
  | n + 1 =>by
    rw [List.replicate_succ,flR,flR_rep n,show 6 * (n + 1) = 6 * n + 1 + 1 + 1 + 1 + 1 + 1 by omega]
    simp only [List.replicate_succ]; rfl
set_option maxHeartbeats 16000000 in
theorem pexact_ok (l : List Ac) : CallA1 S0 5 [.slc 0 0 l.length none] [some (.row true 7 (l.map Ac.cells))] fun r _ =>r = .bool true:=by
  refine fun_sound okPx Tryd.func5 c5 ?_
  unfold wpF F5
  have hZ0 : List.replicate 6000 (AV.int .i64 0) = flR (List.replicate 1000 rmZ):=(flR_rep 1000).symm
  generalize hZ : List.replicate 6000 (AV.int .i64 0) = Z at *
  have hZl : Z.length = 6000:=by rw [← hZ,List.length_replicate]
  clear hZ
  simp only [AH.SD,AH.SE,AOp.call?,AOp.next?,bstep,AV.cells,unAV,binAV,retQ,retV,AH.sliceElems,AH.bytesOf,AH.strOp,AH.bound,AH.missQ,AH.minmaxAV,AH.readOf,AH.effOf,Nat.reduceBEq,Nat.reduceAdd,Nat.reduceLT,↓reduceIte,Nat.reduceEqDiff,Nat.reduceLeDiff,Nat.reduceSub,Nat.reduceMul,Int.reduceSub,Int.reduceToNat,Int.reduceBEq,Int.reduceBNe,Int.reduceLT,Int.reduceGT,Int.reduceLE,Int.reduceGE,Int.reduceNeg,Int.reduceAdd,AH.SP,AH.PD,AV.inB,vstep,vw,shift,newOnes,rowsM,blkIn,rwB,@flat_lts,AV.lt,AV.lts,Nat.sub_self,AH.SO,awakeT_eq,flR_in,flR_ren,ma_in,ma_ren,pkR_eq,pkB_eq,Mp.eta,ne_eq,Nat.reduceEqDiff,Nat.zero_ne_one,not_false_eq_true,errA_ren,errA_nil,pkM,rowM,Ma.av,v4c,V4.eta,AH.eqAV_flat,eqFlat_vec,eqMa7,nwT_eq,adT_p,drT_p,seT_p,liT_p,alT_p,lvT_p,ofT_p,ofE_p,lvE_p,adN_p,drN_p,seN_p,liN_p,alN_p,rIsT_p,rLvT_p,rAdT_p,rDrT_p,rSeT_p,rpM,hZl]
  refine loop_do [0,1,2,3] [5,4,3,0] [] (α:=PX) (fun x =>l.length - x.i) (pxSt l) (fun x =>x.i ≤ l.length ∧ x.i ≤ 60 ∧ Pk x.t ∧ RelP x.t x.R) ⟨0,K0,List.replicate 1000 rmZ⟩ ⟨Nat.zero_le _,Nat.zero_le _,pk0,rel_0⟩ (by
    rw [hZ0]
    simp only [AH.SD,AH.SE,AOp.call?,AOp.next?,bstep,AV.cells,unAV,binAV,retQ,retV,AH.sliceElems,AH.bytesOf,AH.strOp,AH.bound,AH.missQ,AH.minmaxAV,AH.readOf,AH.effOf,Nat.reduceBEq,Nat.reduceAdd,Nat.reduceLT,↓reduceIte,Nat.reduceEqDiff,Nat.reduceLeDiff,Nat.reduceSub,Nat.reduceMul,Int.reduceSub,Int.reduceToNat,Int.reduceBEq,Int.reduceBNe,Int.reduceLT,Int.reduceGT,Int.reduceLE,Int.reduceGE,Int.reduceNeg,Int.reduceAdd,AH.SP,AH.PD,AV.inB,vstep,pxSt,ma_in,ma_ren,flR_in,flR_ren]
    try rfl) ?_
  clear hZ0 hZl Z
  rintro X ⟨i,t,R⟩ ⟨hi,hi60,ht,hr⟩ ih
  simp only at hi hi60 ht hr
  have hfw:=ht.fw
  have hR:=hr.len
  simp only [AH.SD,AH.SE,AOp.call?,AOp.next?,bstep,AV.cells,unAV,binAV,retQ,retV,AH.sliceElems,AH.bytesOf,AH.strOp,AH.bound,AH.missQ,AH.minmaxAV,AH.readOf,AH.effOf,Nat.reduceBEq,Nat.reduceAdd,Nat.reduceLT,↓reduceIte,Nat.reduceEqDiff,Nat.reduceLeDiff,Nat.reduceSub,Nat.reduceMul,Int.reduceSub,Int.reduceToNat,Int.reduceBEq,Int.reduceBNe,Int.reduceLT,Int.reduceGT,Int.reduceLE,Int.reduceGE,Int.reduceNeg,Int.reduceAdd,AH.SP,AH.PD,AV.inB,vstep,vw,shift,newOnes,rowsM,blkIn,rwB,@flat_lts,AV.lt,AV.lts,Nat.sub_self,AH.SO,pxSt]
  by_cases hc : i < l.length ∧ i < 60
  rotate_left
  · have hx : decide ((i : Int) < (l.length : Int)) = false ∨ decide ((i : Int) < (l.length : Int)) = true ∧ decide ((i : Int) < 60) = false:=by
      simp only [decide_eq_false_iff_not,decide_eq_true_eq]; omega
    clear ih
    rcases hx with hd1 | ⟨hd1,hd2⟩
    all_goals
      first
      | simp only [AH.SD,AH.SE,AOp.call?,AOp.next?,bstep,AV.cells,unAV,binAV,retQ,retV,AH.sliceElems,AH.bytesOf,AH.strOp,AH.bound,AH.missQ,AH.minmaxAV,AH.readOf,AH.effOf,Nat.reduceBEq,Nat.reduceAdd,Nat.reduceLT,↓reduceIte,Nat.reduceEqDiff,Nat.reduceLeDiff,Nat.reduceSub,Nat.reduceMul,Int.reduceSub,Int.reduceToNat,Int.reduceBEq,Int.reduceBNe,Int.reduceLT,Int.reduceGT,Int.reduceLE,Int.reduceGE,Int.reduceNeg,Int.reduceAdd,AH.SP,AH.PD,AV.inB,vstep,vw,shift,newOnes,rowsM,blkIn,rwB,@flat_lts,AV.lt,AV.lts,Nat.sub_self,AH.SO,hd1,hd2]
      | simp only [AH.SD,AH.SE,AOp.call?,AOp.next?,bstep,AV.cells,unAV,binAV,retQ,retV,AH.sliceElems,AH.bytesOf,AH.strOp,AH.bound,AH.missQ,AH.minmaxAV,AH.readOf,AH.effOf,Nat.reduceBEq,Nat.reduceAdd,Nat.reduceLT,↓reduceIte,Nat.reduceEqDiff,Nat.reduceLeDiff,Nat.reduceSub,Nat.reduceMul,Int.reduceSub,Int.reduceToNat,Int.reduceBEq,Int.reduceBNe,Int.reduceLT,Int.reduceGT,Int.reduceLE,Int.reduceGE,Int.reduceNeg,Int.reduceAdd,AH.SP,AH.PD,AV.inB,vstep,vw,shift,newOnes,rowsM,blkIn,rwB,@flat_lts,AV.lt,AV.lts,Nat.sub_self,AH.SO,hd1]
    all_goals
      refine loop_atP (px_lists l t R ht hr (L:=[0,1,2,3]) rfl (by
        simp only [AH.SD,AH.SE,AOp.call?,AOp.next?,bstep,AV.cells,unAV,binAV,retQ,retV,AH.sliceElems,AH.bytesOf,AH.strOp,AH.bound,AH.missQ,AH.minmaxAV,AH.readOf,AH.effOf,Nat.reduceBEq,Nat.reduceAdd,Nat.reduceLT,↓reduceIte,Nat.reduceEqDiff,Nat.reduceLeDiff,Nat.reduceSub,Nat.reduceMul,Int.reduceSub,Int.reduceToNat,Int.reduceBEq,Int.reduceBNe,Int.reduceLT,Int.reduceGT,Int.reduceLE,Int.reduceGE,Int.reduceNeg,Int.reduceAdd,AH.SP,AH.PD,AV.inB,vstep,plS,flR_in,flR_ren,ma_in,ma_ren,errA_ren,errA_nil,Int.natCast_zero]
        try rfl) ?_) (by unfold F5; rfl)
      intro s nm
      simp only [plS] at nm
      iterate 3 ((try simp only [AH.SD,AH.SE,AOp.call?,AOp.next?,bstep,AV.cells,unAV,binAV,retQ,retV,AH.sliceElems,AH.bytesOf,AH.strOp,AH.bound,AH.missQ,AH.minmaxAV,AH.readOf,AH.effOf,Nat.reduceBEq,Nat.reduceAdd,Nat.reduceLT,↓reduceIte,Nat.reduceEqDiff,Nat.reduceLeDiff,Nat.reduceSub,Nat.reduceMul,Int.reduceSub,Int.reduceToNat,Int.reduceBEq,Int.reduceBNe,Int.reduceLT,Int.reduceGT,Int.reduceLE,Int.reduceGE,Int.reduceNeg,Int.reduceAdd,AH.SP,AH.PD,AV.inB,vstep,vw,shift,newOnes,rowsM,blkIn,rwB,@flat_lts,AV.lt,AV.lts,Nat.sub_self,AH.SO,nm,ofE_n,adN_n,drN_n,seN_n,liN_n,alN_n,lvE_n,kindT_err,show (2 : Nat) ≤ 14 by decide,Ma.av,maZ,V4.zero,v4c,AH.eqAV_flat,eqFlat_vec,beq_self_eq_true,Bool.not_false,show IntKind.i64.wrap 0 = 0 from rfl]); repeat ((with_reducible refine And.intro ?_ ?_); focus (first | rfl | decide | omega | (simp only [List.length_map,List.length_set,and_true]; omega))))
      try rfl
  obtain ⟨hil,h60⟩:=hc
  have d1 : decide ((i : Int) < (l.length : Int)) = true:=decide_eq_true (by omega)
  have d2 : decide ((i : Int) < 60) = true:=decide_eq_true (by omega)
  have wi:=wrapS (i:=i) (by omega)
  have hgi : (l.map Ac.cells).getD i [] = Ac.cells l[i]:=getD_enc hil
  generalize l[i] = x at *
  obtain ⟨xk,xid,xn,xv⟩:=x
  have done:=fun (t' : Mp Ma) (R' : List Rm) (h1 : Pk t') (h2 : RelP t' R') =>ih ⟨i + 1,t',R'⟩ ⟨hil,h60,h1,h2⟩ (by simp only; omega)
  simp only [pxSt] at done
  clear ih
  -- what is behind a deed
  have after : ∀ (t' : Mp Ma) (R' : List Rm),Pk t' → RelP t' R' → (rIs R' xid = isM t' xid ∧ R'.length = 1000 ∧ (∀ c,rLv R' c false = liveM t' c) ∧ Fw t') ∧ (isM t' xid = false ∨ (isM t' xid = true ∧ ∃ j : Nat,xid = j ∧ ∃ h : j < R'.length,ofM t' xid = ⟨(j : Int),R'[j].c,R'[j].h,R'[j].s⟩)):=by
    intro t' R' h1 h2
    refine ⟨⟨is_eq h1 h2 _,h2.len,live_eq h1 h2,h1.fw⟩,?_⟩
    cases hq : isM t' xid
    · exact .inl rfl
    · right
      obtain ⟨j,hj,j1,j2⟩:=rIs_nat ((is_eq h1 h2 xid).trans hq)
      have hl : j < R'.length:=by rw [h2.len]; omega
      refine ⟨rfl,j,hj,hl,?_⟩
      rw [hj] at hq ⊢
      rw [of_eq h1 h2 (by omega) hq,rMa,getR_i hl]
  cases k3 : (xk == 3)
  rotate_left
  · obtain ⟨e1,e2⟩:=rel_dr ht hr xid
    have hA:=dr_after ht xid
    have hle:=hA.le
    have hpk:=hA.pk
    obtain ⟨⟨a1,a2,a3,a4⟩,a5⟩:=after _ _ hpk e2
    have dn:=done _ _ hpk e2
    clear after done hpk e2 hA
    generalize hK : (drM t xid).1 = n at *
    generalize hT : (drM t xid).2 = t' at *
    generalize hQ : (rDr R xid).2 = R' at *
    have e1':=e1.symm
    rcases a5 with b1 | ⟨b1,j,hj,hl,b2⟩
    · iterate 3 ((try simp only [AH.SD,AH.SE,AOp.call?,AOp.next?,bstep,AV.cells,unAV,binAV,retQ,retV,AH.sliceElems,AH.bytesOf,AH.strOp,AH.bound,AH.missQ,AH.minmaxAV,AH.readOf,AH.effOf,Nat.reduceBEq,Nat.reduceAdd,Nat.reduceLT,↓reduceIte,Nat.reduceEqDiff,Nat.reduceLeDiff,Nat.reduceSub,Nat.reduceMul,Int.reduceSub,Int.reduceToNat,Int.reduceBEq,Int.reduceBNe,Int.reduceLT,Int.reduceGT,Int.reduceLE,Int.reduceGE,Int.reduceNeg,Int.reduceAdd,AH.SP,AH.PD,AV.inB,vstep,vw,shift,newOnes,rowsM,blkIn,rwB,@flat_lts,AV.lt,AV.lts,Nat.sub_self,AH.SO,flR_in,flR_ren,ma_in,ma_ren,pkR_eq,pkB_eq,Mp.eta,ne_eq,Nat.reduceEqDiff,Nat.zero_ne_one,not_false_eq_true,errA_ren,errA_nil,pkM,rowM,Ma.av,v4c,V4.eta,AH.eqAV_flat,eqFlat_vec,eqMa7,nwT_eq,adT_p,drT_p,seT_p,liT_p,alT_p,lvT_p,ofT_p,ofE_p,lvE_p,adN_p,drN_p,seN_p,liN_p,alN_p,rIsT_p,rLvT_p,rAdT_p,rDrT_p,rSeT_p,rpM,d1,d2,hgi,Ac.cells,hR,hfw,if_true,rpR_eq hR,Int.toNat_natCast,List.length_map,k3,k4,hK,hT,hQ,e1',kindT_err,hle,bne_self_eq_false,beq_self_eq_true,a1,a2,a3,a4,rpR_eq a2,eqv_self,Bool.not_true,wi,flR_len,b1]); repeat ((with_reducible refine And.intro ?_ ?_); focus (first | rfl | decide | omega | (simp only [List.length_map,List.length_set,and_true]; omega))))
      refine loop_atP (px_live l t' R' i a4 a2 a3 (L:=[0,1,2,3]) rfl (by
        simp only [AH.SD,AH.SE,AOp.call?,AOp.next?,bstep,AV.cells,unAV,binAV,retQ,retV,AH.sliceElems,AH.bytesOf,AH.strOp,AH.bound,AH.missQ,AH.minmaxAV,AH.readOf,AH.effOf,Nat.reduceBEq,Nat.reduceAdd,Nat.reduceLT,↓reduceIte,Nat.reduceEqDiff,Nat.reduceLeDiff,Nat.reduceSub,Nat.reduceMul,Int.reduceSub,Int.reduceToNat,Int.reduceBEq,Int.reduceBNe,Int.reduceLT,Int.reduceGT,Int.reduceLE,Int.reduceGE,Int.reduceNeg,Int.reduceAdd,AH.SP,AH.PD,AV.inB,vstep,pcS,flR_in,flR_ren,ma_in,ma_ren,errA_ren,errA_nil]
        try rfl) ?_) (by unfold F5; rfl)
      intro s n0 n3 n4 n5 nm
      simp only [pcS] at nm
      iterate 2 ((try simp only [AH.SD,AH.SE,AOp.call?,AOp.next?,bstep,AV.cells,unAV,binAV,retQ,retV,AH.sliceElems,AH.bytesOf,AH.strOp,AH.bound,AH.missQ,AH.minmaxAV,AH.readOf,AH.effOf,Nat.reduceBEq,Nat.reduceAdd,Nat.reduceLT,↓reduceIte,Nat.reduceEqDiff,Nat.reduceLeDiff,Nat.reduceSub,Nat.reduceMul,Int.reduceSub,Int.reduceToNat,Int.reduceBEq,Int.reduceBNe,Int.reduceLT,Int.reduceGT,Int.reduceLE,Int.reduceGE,Int.reduceNeg,Int.reduceAdd,AH.SP,AH.PD,AV.inB,vstep,vw,shift,newOnes,rowsM,blkIn,rwB,@flat_lts,AV.lt,AV.lts,Nat.sub_self,AH.SO,n0,n3,n4,n5,nm,tget_terase_ne,ne_eq,Nat.reduceEqDiff,not_false_eq_true,wi]); repeat ((with_reducible refine And.intro ?_ ?_); focus (first | rfl | decide | omega | (simp only [List.length_map,List.length_set,and_true]; omega))))
      refine gc_auto [0,1,2,3] [5,4,3,0] [] ?_
      simp only [AH.SD,AH.SE,AOp.call?,AOp.next?,bstep,AV.cells,unAV,binAV,retQ,retV,AH.sliceElems,AH.bytesOf,AH.strOp,AH.bound,AH.missQ,AH.minmaxAV,AH.readOf,AH.effOf,Nat.reduceBEq,Nat.reduceAdd,Nat.reduceLT,↓reduceIte,Nat.reduceEqDiff,Nat.reduceLeDiff,Nat.reduceSub,Nat.reduceMul,Int.reduceSub,Int.reduceToNat,Int.reduceBEq,Int.reduceBNe,Int.reduceLT,Int.reduceGT,Int.reduceLE,Int.reduceGE,Int.reduceNeg,Int.reduceAdd,AH.SP,AH.PD,AV.inB,vstep,flR_in,flR_ren,ma_in,ma_ren,n0,n3,n4,n5,nm,tget_terase_ne,ne_eq,Nat.reduceEqDiff,not_false_eq_true]
      exact dn
    · have m7:=ma7_self (ofM t' xid)
      rw [b2] at m7
      simp only at m7
      have bi:=b2.symm
      subst hj
      iterate 4 ((try simp only [AH.SD,AH.SE,AOp.call?,AOp.next?,bstep,AV.cells,unAV,binAV,retQ,retV,AH.sliceElems,AH.bytesOf,AH.strOp,AH.bound,AH.missQ,AH.minmaxAV,AH.readOf,AH.effOf,Nat.reduceBEq,Nat.reduceAdd,Nat.reduceLT,↓reduceIte,Nat.reduceEqDiff,Nat.reduceLeDiff,Nat.reduceSub,Nat.reduceMul,Int.reduceSub,Int.reduceToNat,Int.reduceBEq,Int.reduceBNe,Int.reduceLT,Int.reduceGT,Int.reduceLE,Int.reduceGE,Int.reduceNeg,Int.reduceAdd,AH.SP,AH.PD,AV.inB,vstep,vw,shift,newOnes,rowsM,blkIn,rwB,@flat_lts,AV.lt,AV.lts,Nat.sub_self,AH.SO,flR_in,flR_ren,ma_in,ma_ren,pkR_eq,pkB_eq,Mp.eta,ne_eq,Nat.reduceEqDiff,Nat.zero_ne_one,not_false_eq_true,errA_ren,errA_nil,pkM,rowM,Ma.av,v4c,V4.eta,AH.eqAV_flat,eqFlat_vec,eqMa7,nwT_eq,adT_p,drT_p,seT_p,liT_p,alT_p,lvT_p,ofT_p,ofE_p,lvE_p,adN_p,drN_p,seN_p,liN_p,alN_p,rIsT_p,rLvT_p,rAdT_p,rDrT_p,rSeT_p,rpM,d1,d2,hgi,Ac.cells,hR,hfw,if_true,rpR_eq hR,Int.toNat_natCast,List.length_map,k3,k4,hK,hT,hQ,e1',kindT_err,hle,bne_self_eq_false,beq_self_eq_true,a1,a2,a3,a4,rpR_eq a2,eqv_self,Bool.not_true,wi,flR_len,b1,b2,fl0 hl,flh hl,fl5 hl,ma7_self,m7]); repeat ((with_reducible refine And.intro ?_ ?_); focus (first | rfl | decide | omega | (simp only [List.length_map,List.length_set,and_true]; omega))))
      refine loop_atP (px_live l t' R' i a4 a2 a3 (L:=[0,1,2,3]) rfl (by
        simp only [AH.SD,AH.SE,AOp.call?,AOp.next?,bstep,AV.cells,unAV,binAV,retQ,retV,AH.sliceElems,AH.bytesOf,AH.strOp,AH.bound,AH.missQ,AH.minmaxAV,AH.readOf,AH.effOf,Nat.reduceBEq,Nat.reduceAdd,Nat.reduceLT,↓reduceIte,Nat.reduceEqDiff,Nat.reduceLeDiff,Nat.reduceSub,Nat.reduceMul,Int.reduceSub,Int.reduceToNat,Int.reduceBEq,Int.reduceBNe,Int.reduceLT,Int.reduceGT,Int.reduceLE,Int.reduceGE,Int.reduceNeg,Int.reduceAdd,AH.SP,AH.PD,AV.inB,vstep,pcS,flR_in,flR_ren,ma_in,ma_ren,errA_ren,errA_nil]
        try rfl) ?_) (by unfold F5; rfl)
      intro s n0 n3 n4 n5 nm
      simp only [pcS] at nm
      iterate 2 ((try simp only [AH.SD,AH.SE,AOp.call?,AOp.next?,bstep,AV.cells,unAV,binAV,retQ,retV,AH.sliceElems,AH.bytesOf,AH.strOp,AH.bound,AH.missQ,AH.minmaxAV,AH.readOf,AH.effOf,Nat.reduceBEq,Nat.reduceAdd,Nat.reduceLT,↓reduceIte,Nat.reduceEqDiff,Nat.reduceLeDiff,Nat.reduceSub,Nat.reduceMul,Int.reduceSub,Int.reduceToNat,Int.reduceBEq,Int.reduceBNe,Int.reduceLT,Int.reduceGT,Int.reduceLE,Int.reduceGE,Int.reduceNeg,Int.reduceAdd,AH.SP,AH.PD,AV.inB,vstep,vw,shift,newOnes,rowsM,blkIn,rwB,@flat_lts,AV.lt,AV.lts,Nat.sub_self,AH.SO,n0,n3,n4,n5,nm,tget_terase_ne,ne_eq,Nat.reduceEqDiff,not_false_eq_true,wi]); repeat ((with_reducible refine And.intro ?_ ?_); focus (first | rfl | decide | omega | (simp only [List.length_map,List.length_set,and_true]; omega))))
      refine gc_auto [0,1,2,3] [5,4,3,0] [] ?_
      simp only [AH.SD,AH.SE,AOp.call?,AOp.next?,bstep,AV.cells,unAV,binAV,retQ,retV,AH.sliceElems,AH.bytesOf,AH.strOp,AH.bound,AH.missQ,AH.minmaxAV,AH.readOf,AH.effOf,Nat.reduceBEq,Nat.reduceAdd,Nat.reduceLT,↓reduceIte,Nat.reduceEqDiff,Nat.reduceLeDiff,Nat.reduceSub,Nat.reduceMul,Int.reduceSub,Int.reduceToNat,Int.reduceBEq,Int.reduceBNe,Int.reduceLT,Int.reduceGT,Int.reduceLE,Int.reduceGE,Int.reduceNeg,Int.reduceAdd,AH.SP,AH.PD,AV.inB,vstep,flR_in,flR_ren,ma_in,ma_ren,n0,n3,n4,n5,nm,tget_terase_ne,ne_eq,Nat.reduceEqDiff,not_false_eq_true]
      exact dn
  cases k4 : (xk == 4)
  rotate_left
  · obtain ⟨e1,e2⟩:=rel_se ht hr xid xn
    have hA:=se_after ht xid xn
    have hle:=hA.le
    have hpk:=hA.pk
    obtain ⟨⟨a1,a2,a3,a4⟩,a5⟩:=after _ _ hpk e2
    have dn:=done _ _ hpk e2
    clear after done hpk e2 hA
    generalize hK : (seM t xid xn).1 = n at *
    generalize hT : (seM t xid xn).2 = t' at *
    generalize hQ : (rSe R xid xn).2 = R' at *
    have e1':=e1.symm
    rcases a5 with b1 | ⟨b1,j,hj,hl,b2⟩
    · iterate 3 ((try simp only [AH.SD,AH.SE,AOp.call?,AOp.next?,bstep,AV.cells,unAV,binAV,retQ,retV,AH.sliceElems,AH.bytesOf,AH.strOp,AH.bound,AH.missQ,AH.minmaxAV,AH.readOf,AH.effOf,Nat.reduceBEq,Nat.reduceAdd,Nat.reduceLT,↓reduceIte,Nat.reduceEqDiff,Nat.reduceLeDiff,Nat.reduceSub,Nat.reduceMul,Int.reduceSub,Int.reduceToNat,Int.reduceBEq,Int.reduceBNe,Int.reduceLT,Int.reduceGT,Int.reduceLE,Int.reduceGE,Int.reduceNeg,Int.reduceAdd,AH.SP,AH.PD,AV.inB,vstep,vw,shift,newOnes,rowsM,blkIn,rwB,@flat_lts,AV.lt,AV.lts,Nat.sub_self,AH.SO,flR_in,flR_ren,ma_in,ma_ren,pkR_eq,pkB_eq,Mp.eta,ne_eq,Nat.reduceEqDiff,Nat.zero_ne_one,not_false_eq_true,errA_ren,errA_nil,pkM,rowM,Ma.av,v4c,V4.eta,AH.eqAV_flat,eqFlat_vec,eqMa7,nwT_eq,adT_p,drT_p,seT_p,liT_p,alT_p,lvT_p,ofT_p,ofE_p,lvE_p,adN_p,drN_p,seN_p,liN_p,alN_p,rIsT_p,rLvT_p,rAdT_p,rDrT_p,rSeT_p,rpM,d1,d2,hgi,Ac.cells,hR,hfw,if_true,rpR_eq hR,Int.toNat_natCast,List.length_map,k3,k4,hK,hT,hQ,e1',kindT_err,hle,bne_self_eq_false,beq_self_eq_true,a1,a2,a3,a4,rpR_eq a2,eqv_self,Bool.not_true,wi,flR_len,b1]); repeat ((with_reducible refine And.intro ?_ ?_); focus (first | rfl | decide | omega | (simp only [List.length_map,List.length_set,and_true]; omega))))
      refine loop_atP (px_live l t' R' i a4 a2 a3 (L:=[0,1,2,3]) rfl (by
        simp only [AH.SD,AH.SE,AOp.call?,AOp.next?,bstep,AV.cells,unAV,binAV,retQ,retV,AH.sliceElems,AH.bytesOf,AH.strOp,AH.bound,AH.missQ,AH.minmaxAV,AH.readOf,AH.effOf,Nat.reduceBEq,Nat.reduceAdd,Nat.reduceLT,↓reduceIte,Nat.reduceEqDiff,Nat.reduceLeDiff,Nat.reduceSub,Nat.reduceMul,Int.reduceSub,Int.reduceToNat,Int.reduceBEq,Int.reduceBNe,Int.reduceLT,Int.reduceGT,Int.reduceLE,Int.reduceGE,Int.reduceNeg,Int.reduceAdd,AH.SP,AH.PD,AV.inB,vstep,pcS,flR_in,flR_ren,ma_in,ma_ren,errA_ren,errA_nil]
        try rfl) ?_) (by unfold F5; rfl)
      intro s n0 n3 n4 n5 nm
      simp only [pcS] at nm
      iterate 2 ((try simp only [AH.SD,AH.SE,AOp.call?,AOp.next?,bstep,AV.cells,unAV,binAV,retQ,retV,AH.sliceElems,AH.bytesOf,AH.strOp,AH.bound,AH.missQ,AH.minmaxAV,AH.readOf,AH.effOf,Nat.reduceBEq,Nat.reduceAdd,Nat.reduceLT,↓reduceIte,Nat.reduceEqDiff,Nat.reduceLeDiff,Nat.reduceSub,Nat.reduceMul,Int.reduceSub,Int.reduceToNat,Int.reduceBEq,Int.reduceBNe,Int.reduceLT,Int.reduceGT,Int.reduceLE,Int.reduceGE,Int.reduceNeg,Int.reduceAdd,AH.SP,AH.PD,AV.inB,vstep,vw,shift,newOnes,rowsM,blkIn,rwB,@flat_lts,AV.lt,AV.lts,Nat.sub_self,AH.SO,n0,n3,n4,n5,nm,tget_terase_ne,ne_eq,Nat.reduceEqDiff,not_false_eq_true,wi]); repeat ((with_reducible refine And.intro ?_ ?_); focus (first | rfl | decide | omega | (simp only [List.length_map,List.length_set,and_true]; omega))))
      refine gc_auto [0,1,2,3] [5,4,3,0] [] ?_
      simp only [AH.SD,AH.SE,AOp.call?,AOp.next?,bstep,AV.cells,unAV,binAV,retQ,retV,AH.sliceElems,AH.bytesOf,AH.strOp,AH.bound,AH.missQ,AH.minmaxAV,AH.readOf,AH.effOf,Nat.reduceBEq,Nat.reduceAdd,Nat.reduceLT,↓reduceIte,Nat.reduceEqDiff,Nat.reduceLeDiff,Nat.reduceSub,Nat.reduceMul,Int.reduceSub,Int.reduceToNat,Int.reduceBEq,Int.reduceBNe,Int.reduceLT,Int.reduceGT,Int.reduceLE,Int.reduceGE,Int.reduceNeg,Int.reduceAdd,AH.SP,AH.PD,AV.inB,vstep,flR_in,flR_ren,ma_in,ma_ren,n0,n3,n4,n5,nm,tget_terase_ne,ne_eq,Nat.reduceEqDiff,not_false_eq_true]
      exact dn
    · have m7:=ma7_self (ofM t' xid)
      rw [b2] at m7
      simp only at m7
      have bi:=b2.symm
      subst hj
      iterate 4 ((try simp only [AH.SD,AH.SE,AOp.call?,AOp.next?,bstep,AV.cells,unAV,binAV,retQ,retV,AH.sliceElems,AH.bytesOf,AH.strOp,AH.bound,AH.missQ,AH.minmaxAV,AH.readOf,AH.effOf,Nat.reduceBEq,Nat.reduceAdd,Nat.reduceLT,↓reduceIte,Nat.reduceEqDiff,Nat.reduceLeDiff,Nat.reduceSub,Nat.reduceMul,Int.reduceSub,Int.reduceToNat,Int.reduceBEq,Int.reduceBNe,Int.reduceLT,Int.reduceGT,Int.reduceLE,Int.reduceGE,Int.reduceNeg,Int.reduceAdd,AH.SP,AH.PD,AV.inB,vstep,vw,shift,newOnes,rowsM,blkIn,rwB,@flat_lts,AV.lt,AV.lts,Nat.sub_self,AH.SO,flR_in,flR_ren,ma_in,ma_ren,pkR_eq,pkB_eq,Mp.eta,ne_eq,Nat.reduceEqDiff,Nat.zero_ne_one,not_false_eq_true,errA_ren,errA_nil,pkM,rowM,Ma.av,v4c,V4.eta,AH.eqAV_flat,eqFlat_vec,eqMa7,nwT_eq,adT_p,drT_p,seT_p,liT_p,alT_p,lvT_p,ofT_p,ofE_p,lvE_p,adN_p,drN_p,seN_p,liN_p,alN_p,rIsT_p,rLvT_p,rAdT_p,rDrT_p,rSeT_p,rpM,d1,d2,hgi,Ac.cells,hR,hfw,if_true,rpR_eq hR,Int.toNat_natCast,List.length_map,k3,k4,hK,hT,hQ,e1',kindT_err,hle,bne_self_eq_false,beq_self_eq_true,a1,a2,a3,a4,rpR_eq a2,eqv_self,Bool.not_true,wi,flR_len,b1,b2,fl0 hl,flh hl,fl5 hl,ma7_self,m7]); repeat ((with_reducible refine And.intro ?_ ?_); focus (first | rfl | decide | omega | (simp only [List.length_map,List.length_set,and_true]; omega))))
      refine loop_atP (px_live l t' R' i a4 a2 a3 (L:=[0,1,2,3]) rfl (by
        simp only [AH.SD,AH.SE,AOp.call?,AOp.next?,bstep,AV.cells,unAV,binAV,retQ,retV,AH.sliceElems,AH.bytesOf,AH.strOp,AH.bound,AH.missQ,AH.minmaxAV,AH.readOf,AH.effOf,Nat.reduceBEq,Nat.reduceAdd,Nat.reduceLT,↓reduceIte,Nat.reduceEqDiff,Nat.reduceLeDiff,Nat.reduceSub,Nat.reduceMul,Int.reduceSub,Int.reduceToNat,Int.reduceBEq,Int.reduceBNe,Int.reduceLT,Int.reduceGT,Int.reduceLE,Int.reduceGE,Int.reduceNeg,Int.reduceAdd,AH.SP,AH.PD,AV.inB,vstep,pcS,flR_in,flR_ren,ma_in,ma_ren,errA_ren,errA_nil]
        try rfl) ?_) (by unfold F5; rfl)
      intro s n0 n3 n4 n5 nm
      simp only [pcS] at nm
      iterate 2 ((try simp only [AH.SD,AH.SE,AOp.call?,AOp.next?,bstep,AV.cells,unAV,binAV,retQ,retV,AH.sliceElems,AH.bytesOf,AH.strOp,AH.bound,AH.missQ,AH.minmaxAV,AH.readOf,AH.effOf,Nat.reduceBEq,Nat.reduceAdd,Nat.reduceLT,↓reduceIte,Nat.reduceEqDiff,Nat.reduceLeDiff,Nat.reduceSub,Nat.reduceMul,Int.reduceSub,Int.reduceToNat,Int.reduceBEq,Int.reduceBNe,Int.reduceLT,Int.reduceGT,Int.reduceLE,Int.reduceGE,Int.reduceNeg,Int.reduceAdd,AH.SP,AH.PD,AV.inB,vstep,vw,shift,newOnes,rowsM,blkIn,rwB,@flat_lts,AV.lt,AV.lts,Nat.sub_self,AH.SO,n0,n3,n4,n5,nm,tget_terase_ne,ne_eq,Nat.reduceEqDiff,not_false_eq_true,wi]); repeat ((with_reducible refine And.intro ?_ ?_); focus (first | rfl | decide | omega | (simp only [List.length_map,List.length_set,and_true]; omega))))
      refine gc_auto [0,1,2,3] [5,4,3,0] [] ?_
      simp only [AH.SD,AH.SE,AOp.call?,AOp.next?,bstep,AV.cells,unAV,binAV,retQ,retV,AH.sliceElems,AH.bytesOf,AH.strOp,AH.bound,AH.missQ,AH.minmaxAV,AH.readOf,AH.effOf,Nat.reduceBEq,Nat.reduceAdd,Nat.reduceLT,↓reduceIte,Nat.reduceEqDiff,Nat.reduceLeDiff,Nat.reduceSub,Nat.reduceMul,Int.reduceSub,Int.reduceToNat,Int.reduceBEq,Int.reduceBNe,Int.reduceLT,Int.reduceGT,Int.reduceLE,Int.reduceGE,Int.reduceNeg,Int.reduceAdd,AH.SP,AH.PD,AV.inB,vstep,flR_in,flR_ren,ma_in,ma_ren,n0,n3,n4,n5,nm,tget_terase_ne,ne_eq,Nat.reduceEqDiff,not_false_eq_true]
      exact dn
  · obtain ⟨e1,e2⟩:=rel_ad ht hr xid xn xv
    have hA:=ad_after ht xid xn xv
    have hle:=hA.le
    have hpk:=hA.pk
    obtain ⟨⟨a1,a2,a3,a4⟩,a5⟩:=after _ _ hpk e2
    have dn:=done _ _ hpk e2
    clear after done hpk e2 hA
    generalize hK : (adM t xid xn xv).1 = n at *
    generalize hT : (adM t xid xn xv).2 = t' at *
    generalize hQ : (rAd R xid xn xv).2 = R' at *
    have e1':=e1.symm
    rcases a5 with b1 | ⟨b1,j,hj,hl,b2⟩
    · iterate 3 ((try simp only [AH.SD,AH.SE,AOp.call?,AOp.next?,bstep,AV.cells,unAV,binAV,retQ,retV,AH.sliceElems,AH.bytesOf,AH.strOp,AH.bound,AH.missQ,AH.minmaxAV,AH.readOf,AH.effOf,Nat.reduceBEq,Nat.reduceAdd,Nat.reduceLT,↓reduceIte,Nat.reduceEqDiff,Nat.reduceLeDiff,Nat.reduceSub,Nat.reduceMul,Int.reduceSub,Int.reduceToNat,Int.reduceBEq,Int.reduceBNe,Int.reduceLT,Int.reduceGT,Int.reduceLE,Int.reduceGE,Int.reduceNeg,Int.reduceAdd,AH.SP,AH.PD,AV.inB,vstep,vw,shift,newOnes,rowsM,blkIn,rwB,@flat_lts,AV.lt,AV.lts,Nat.sub_self,AH.SO,flR_in,flR_ren,ma_in,ma_ren,pkR_eq,pkB_eq,Mp.eta,ne_eq,Nat.reduceEqDiff,Nat.zero_ne_one,not_false_eq_true,errA_ren,errA_nil,pkM,rowM,Ma.av,v4c,V4.eta,AH.eqAV_flat,eqFlat_vec,eqMa7,nwT_eq,adT_p,drT_p,seT_p,liT_p,alT_p,lvT_p,ofT_p,ofE_p,lvE_p,adN_p,drN_p,seN_p,liN_p,alN_p,rIsT_p,rLvT_p,rAdT_p,rDrT_p,rSeT_p,rpM,d1,d2,hgi,Ac.cells,hR,hfw,if_true,rpR_eq hR,Int.toNat_natCast,List.length_map,k3,k4,hK,hT,hQ,e1',kindT_err,hle,bne_self_eq_false,beq_self_eq_true,a1,a2,a3,a4,rpR_eq a2,eqv_self,Bool.not_true,wi,flR_len,b1]); repeat ((with_reducible refine And.intro ?_ ?_); focus (first | rfl | decide | omega | (simp only [List.length_map,List.length_set,and_true]; omega))))
      refine loop_atP (px_live l t' R' i a4 a2 a3 (L:=[0,1,2,3]) rfl (by
        simp only [AH.SD,AH.SE,AOp.call?,AOp.next?,bstep,AV.cells,unAV,binAV,retQ,retV,AH.sliceElems,AH.bytesOf,AH.strOp,AH.bound,AH.missQ,AH.minmaxAV,AH.readOf,AH.effOf,Nat.reduceBEq,Nat.reduceAdd,Nat.reduceLT,↓reduceIte,Nat.reduceEqDiff,Nat.reduceLeDiff,Nat.reduceSub,Nat.reduceMul,Int.reduceSub,Int.reduceToNat,Int.reduceBEq,Int.reduceBNe,Int.reduceLT,Int.reduceGT,Int.reduceLE,Int.reduceGE,Int.reduceNeg,Int.reduceAdd,AH.SP,AH.PD,AV.inB,vstep,pcS,flR_in,flR_ren,ma_in,ma_ren,errA_ren,errA_nil]
        try rfl) ?_) (by unfold F5; rfl)
      intro s n0 n3 n4 n5 nm
      simp only [pcS] at nm
      iterate 2 ((try simp only [AH.SD,AH.SE,AOp.call?,AOp.next?,bstep,AV.cells,unAV,binAV,retQ,retV,AH.sliceElems,AH.bytesOf,AH.strOp,AH.bound,AH.missQ,AH.minmaxAV,AH.readOf,AH.effOf,Nat.reduceBEq,Nat.reduceAdd,Nat.reduceLT,↓reduceIte,Nat.reduceEqDiff,Nat.reduceLeDiff,Nat.reduceSub,Nat.reduceMul,Int.reduceSub,Int.reduceToNat,Int.reduceBEq,Int.reduceBNe,Int.reduceLT,Int.reduceGT,Int.reduceLE,Int.reduceGE,Int.reduceNeg,Int.reduceAdd,AH.SP,AH.PD,AV.inB,vstep,vw,shift,newOnes,rowsM,blkIn,rwB,@flat_lts,AV.lt,AV.lts,Nat.sub_self,AH.SO,n0,n3,n4,n5,nm,tget_terase_ne,ne_eq,Nat.reduceEqDiff,not_false_eq_true,wi]); repeat ((with_reducible refine And.intro ?_ ?_); focus (first | rfl | decide | omega | (simp only [List.length_map,List.length_set,and_true]; omega))))
      refine gc_auto [0,1,2,3] [5,4,3,0] [] ?_
      simp only [AH.SD,AH.SE,AOp.call?,AOp.next?,bstep,AV.cells,unAV,binAV,retQ,retV,AH.sliceElems,AH.bytesOf,AH.strOp,AH.bound,AH.missQ,AH.minmaxAV,AH.readOf,AH.effOf,Nat.reduceBEq,Nat.reduceAdd,Nat.reduceLT,↓reduceIte,Nat.reduceEqDiff,Nat.reduceLeDiff,Nat.reduceSub,Nat.reduceMul,Int.reduceSub,Int.reduceToNat,Int.reduceBEq,Int.reduceBNe,Int.reduceLT,Int.reduceGT,Int.reduceLE,Int.reduceGE,Int.reduceNeg,Int.reduceAdd,AH.SP,AH.PD,AV.inB,vstep,flR_in,flR_ren,ma_in,ma_ren,n0,n3,n4,n5,nm,tget_terase_ne,ne_eq,Nat.reduceEqDiff,not_false_eq_true]
      exact dn
    · have m7:=ma7_self (ofM t' xid)
      rw [b2] at m7
      simp only at m7
      have bi:=b2.symm
      subst hj
      iterate 4 ((try simp only [AH.SD,AH.SE,AOp.call?,AOp.next?,bstep,AV.cells,unAV,binAV,retQ,retV,AH.sliceElems,AH.bytesOf,AH.strOp,AH.bound,AH.missQ,AH.minmaxAV,AH.readOf,AH.effOf,Nat.reduceBEq,Nat.reduceAdd,Nat.reduceLT,↓reduceIte,Nat.reduceEqDiff,Nat.reduceLeDiff,Nat.reduceSub,Nat.reduceMul,Int.reduceSub,Int.reduceToNat,Int.reduceBEq,Int.reduceBNe,Int.reduceLT,Int.reduceGT,Int.reduceLE,Int.reduceGE,Int.reduceNeg,Int.reduceAdd,AH.SP,AH.PD,AV.inB,vstep,vw,shift,newOnes,rowsM,blkIn,rwB,@flat_lts,AV.lt,AV.lts,Nat.sub_self,AH.SO,flR_in,flR_ren,ma_in,ma_ren,pkR_eq,pkB_eq,Mp.eta,ne_eq,Nat.reduceEqDiff,Nat.zero_ne_one,not_false_eq_true,errA_ren,errA_nil,pkM,rowM,Ma.av,v4c,V4.eta,AH.eqAV_flat,eqFlat_vec,eqMa7,nwT_eq,adT_p,drT_p,seT_p,liT_p,alT_p,lvT_p,ofT_p,ofE_p,lvE_p,adN_p,drN_p,seN_p,liN_p,alN_p,rIsT_p,rLvT_p,rAdT_p,rDrT_p,rSeT_p,rpM,d1,d2,hgi,Ac.cells,hR,hfw,if_true,rpR_eq hR,Int.toNat_natCast,List.length_map,k3,k4,hK,hT,hQ,e1',kindT_err,hle,bne_self_eq_false,beq_self_eq_true,a1,a2,a3,a4,rpR_eq a2,eqv_self,Bool.not_true,wi,flR_len,b1,b2,fl0 hl,flh hl,fl5 hl,ma7_self,m7]); repeat ((with_reducible refine And.intro ?_ ?_); focus (first | rfl | decide | omega | (simp only [List.length_map,List.length_set,and_true]; omega))))
      refine loop_atP (px_live l t' R' i a4 a2 a3 (L:=[0,1,2,3]) rfl (by
        simp only [AH.SD,AH.SE,AOp.call?,AOp.next?,bstep,AV.cells,unAV,binAV,retQ,retV,AH.sliceElems,AH.bytesOf,AH.strOp,AH.bound,AH.missQ,AH.minmaxAV,AH.readOf,AH.effOf,Nat.reduceBEq,Nat.reduceAdd,Nat.reduceLT,↓reduceIte,Nat.reduceEqDiff,Nat.reduceLeDiff,Nat.reduceSub,Nat.reduceMul,Int.reduceSub,Int.reduceToNat,Int.reduceBEq,Int.reduceBNe,Int.reduceLT,Int.reduceGT,Int.reduceLE,Int.reduceGE,Int.reduceNeg,Int.reduceAdd,AH.SP,AH.PD,AV.inB,vstep,pcS,flR_in,flR_ren,ma_in,ma_ren,errA_ren,errA_nil]
        try rfl) ?_) (by unfold F5; rfl)
      intro s n0 n3 n4 n5 nm
      simp only [pcS] at nm
      iterate 2 ((try simp only [AH.SD,AH.SE,AOp.call?,AOp.next?,bstep,AV.cells,unAV,binAV,retQ,retV,AH.sliceElems,AH.bytesOf,AH.strOp,AH.bound,AH.missQ,AH.minmaxAV,AH.readOf,AH.effOf,Nat.reduceBEq,Nat.reduceAdd,Nat.reduceLT,↓reduceIte,Nat.reduceEqDiff,Nat.reduceLeDiff,Nat.reduceSub,Nat.reduceMul,Int.reduceSub,Int.reduceToNat,Int.reduceBEq,Int.reduceBNe,Int.reduceLT,Int.reduceGT,Int.reduceLE,Int.reduceGE,Int.reduceNeg,Int.reduceAdd,AH.SP,AH.PD,AV.inB,vstep,vw,shift,newOnes,rowsM,blkIn,rwB,@flat_lts,AV.lt,AV.lts,Nat.sub_self,AH.SO,n0,n3,n4,n5,nm,tget_terase_ne,ne_eq,Nat.reduceEqDiff,not_false_eq_true,wi]); repeat ((with_reducible refine And.intro ?_ ?_); focus (first | rfl | decide | omega | (simp only [List.length_map,List.length_set,and_true]; omega))))
      refine gc_auto [0,1,2,3] [5,4,3,0] [] ?_
      simp only [AH.SD,AH.SE,AOp.call?,AOp.next?,bstep,AV.cells,unAV,binAV,retQ,retV,AH.sliceElems,AH.bytesOf,AH.strOp,AH.bound,AH.missQ,AH.minmaxAV,AH.readOf,AH.effOf,Nat.reduceBEq,Nat.reduceAdd,Nat.reduceLT,↓reduceIte,Nat.reduceEqDiff,Nat.reduceLeDiff,Nat.reduceSub,Nat.reduceMul,Int.reduceSub,Int.reduceToNat,Int.reduceBEq,Int.reduceBNe,Int.reduceLT,Int.reduceGT,Int.reduceLE,Int.reduceGE,Int.reduceNeg,Int.reduceAdd,AH.SP,AH.PD,AV.inB,vstep,flR_in,flR_ren,ma_in,ma_ren,n0,n3,n4,n5,nm,tget_terase_ne,ne_eq,Nat.reduceEqDiff,not_false_eq_true]
      exact dn
end Go.Proofs.YtnlolefgifeohaaDoor.E15
