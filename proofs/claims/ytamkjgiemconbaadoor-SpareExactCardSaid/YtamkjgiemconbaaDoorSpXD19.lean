import Derived.Test.YtamkjgiemconbaaDoorSpQD19
import Derived.Test.YtamkjgiemconbaaDoorIsTD19
open Go AH
set_option linter.unusedSimpArgs false
set_option maxRecDepth 100000
namespace Go.Proofs.YtamkjgiemconbaaDoor.D19
theorem UB.l_nil : UB.nil.l = []:=rfl
theorem UB.l_sl (c : Option Nat) (l : List Ev) : (UB.sl c l).l = l:=rfl
theorem keepU_nil (w j : Int) (b : Bool) : keepU .nil w j b = [some (.row false 1 [[.slc 1 0 0 (some 0)]]),some (.row false 3 [])]:=rfl
theorem keepU_sl (c : Option Nat) (l : List Ev) (w j : Int) (b : Bool) : keepU (.sl c l) w j b = [some (.row false 1 [[.slc 2 0 (kpL l w j b).length (capO (kpL l w j b).length)]]),some (.row false 3 (l.map Ev.cells)),some (.row false 3 ((kpL l w j b).map Ev.cells))]:=rfl
theorem uB_emp {p q : Nat} {c : Option Nat} (hne : p ≠ q) : uB p q 0 c (some (.row false 3 [])) = some (.sl c [],[(p,false),(q,false)]):=uB_eq (l:=[]) hne
theorem uB_one {p q : Nat} {c : Option Nat} {j w : Int} {f : Bool} (hne : p ≠ q) : uB p q 1 c (some (.row false 3 [[.int .i64 j,.int .i64 w,.bool f]])) = some (.sl c [⟨j,w,f⟩],[(p,false),(q,false)]):=uB_eq (l:=[⟨j,w,f⟩]) hne
structure Ac where
  k : Int
  j : Int
  w : Int
def Ac.cells (a : Ac) : List AV:=[.int .i64 a.k,.int .i64 a.j,.int .i64 a.w]
def decAc : List AV → Option Ac
  | [.int .i64 k,.int .i64 a,.int .i64 n] =>some ⟨k,a,n⟩
  | _ =>none
theorem decAc_ok (l : List AV) (v : Ac) (h : decAc l = some v) : l = v.cells:=by
  unfold decAc at h
  split at h
  · simp only [Option.some.injEq] at h; subst h; rfl
  · cases h
def cAc : Cod Ac:=⟨Ac.cells,decAc,decAc_ok,fun _ =>rfl,fun _ =>rfl⟩
instance : FlatE Ac.cells:=⟨cAc.flat⟩
theorem Ac.cells_eq (a : Ac) : a.cells = [.int .i64 a.k,.int .i64 a.j,.int .i64 a.w]:=rfl
theorem spAddN_ok (k : SK) (b : Bool) : Pure S0 18 [.nilp,.int .i64 k.j,.int .i64 k.w,.bool b] (.err 0):=by
  refine fun_sound okS1 Tryd.func18 c18 ?_
  unfold wpF F18
  simp only [AH.SD,AH.SE,AOp.call?,AOp.next?,bstep,AV.cells,unAV,binAV,retQ,retV,AH.sliceElems,AH.bytesOf,AH.strOp,AH.bound,AH.missQ,AH.minmaxAV,AH.readOf,AH.effOf,Nat.reduceBEq,Nat.reduceAdd,Nat.reduceLT,↓reduceIte,Nat.reduceEqDiff,Nat.reduceLeDiff,Nat.reduceSub,Nat.reduceMul,Int.reduceSub,Int.reduceToNat,Int.reduceBEq,Int.reduceBNe,Int.reduceLT,Int.reduceGT,Int.reduceLE,Int.reduceGE,Int.reduceNeg,Int.reduceAdd,AH.SP,AH.PD,AV.inB,vstep,vw,shift,newOnes,rowsM,blkIn,rwB,@flat_lts,AV.lt,AV.lts,Nat.sub_self,AH.SO]
  try trivial
def adN : RT:=rtP (cC aNil cIIB) fun _ => .err 0
theorem adN_ok : ReadF S0 18 adN:=rtP_ok (fun x =>spAddN_ok ⟨x.2.1,x.2.2.1⟩ x.2.2.2.1) fun _ =>rfl
theorem adN_n {a b : Int} {c : Bool} {M : Nat → Option Blk} : adN [.nilp,.int .i64 a,.int .i64 b,.bool c] M = some (.err 0,[]):=rfl
theorem adN_p {p : Nat} {a b : Int} {c : Bool} {M : Nat → Option Blk} : adN [.ptr p 0 0,.int .i64 a,.int .i64 b,.bool c] M = none:=rfl
def exN : RT:=rtP (cC aNil (cC (aI .i64) c0)) fun _ => .tup []
theorem exN_ok : ReadF S0 20 exN:=rtP_ok (fun x =>spExN_ok x.2.1) fun _ =>rfl
theorem exN_n {a : Int} {M : Nat → Option Blk} : exN [.nilp,.int .i64 a] M = some (.tup [],[]):=rfl
theorem exN_p {p : Nat} {a : Int} {M : Nat → Option Blk} : exN [.ptr p 0 0,.int .i64 a] M = none:=rfl
def drN : RT:=rtP (cC aNil (cC (aI .i64) c0)) fun _ => .tup []
theorem drN_ok : ReadF S0 24 drN:=rtP_ok (fun x =>spDrN_ok x.2.1) fun _ =>rfl
theorem drN_n {a : Int} {M : Nat → Option Blk} : drN [.nilp,.int .i64 a] M = some (.tup [],[]):=rfl
theorem drN_p {p : Nat} {a : Int} {M : Nat → Option Blk} : drN [.ptr p 0 0,.int .i64 a] M = none:=rfl
def liN : RT:=rtP (cC aNil c0) fun _ => .nils
theorem liN_ok : ReadF S0 22 liN:=rtP_ok (fun _ =>spListN_ok) fun _ =>rfl
theorem liN_n {M : Nat → Option Blk} : liN [.nilp] M = some (.nils,[]):=rfl
theorem liN_p {p : Nat} {M : Nat → Option Blk} : liN [.ptr p 0 0] M = none:=rfl
theorem lfT_5 {M : Nat → Option Blk} : lfT [.nilp,.int .i64 1,.int .i64 2,.int .i64 5] M = some (.int .i64 5,[]):=by rw [lfT_n]; rfl
theorem lfT_5n {M : Nat → Option Blk} : lfT [.nilp,.int .i64 1,.int .i64 2,.int .i64 (-5)] M = some (.int .i64 0,[]):=by rw [lfT_n]; rfl
theorem isT_nn {M : Nat → Option Blk} : isT [.err 0,.err 0] M = some (.bool true,[]):=rfl
abbrev tSx : List (FuncId × RT):=[(16,awT),(21,ofT),(19,lfT),(25,ctT),(26,isT),(18,adN),(20,exN),(24,drN),(22,liN)]
noncomputable abbrev eSx : List (FuncId × ET):=[(17,nwT),(18,adT),(20,exE),(24,drE),(22,liE),(23,kpT)]
theorem okSx : CtxOK S0 (ctxE S0 tSx [] eSx):=ctxE_ok ⟨awT_ok,ofT_ok,lfT_ok,ctT_ok,isT_ok,adN_ok,exN_ok,drN_ok,liN_ok,trivial⟩ trivial ⟨nwT_ok,adT_ok,exE_ok,drE_ok,liE_ok,kpT_ok,trivial⟩ mixed
def exSt (acts : List Ac) (bud : Int) (x : Nat × SpB × UB) : St:=match x.2.2 with
  | .nil =>⟨[(7,.int .i64 x.1),(6,.ptr 3 0 0),(5,.ptr 1 0 0),(1,.int .i64 bud),(0,.slc 0 0 acts.length none)],[some (.row true 3 (acts.map Ac.cells)),some (.row false 1 [[.map 2]]),some (.map (x.2.1.L.map (AH.MS.enA SK.av SC.av)) x.2.1.c),some (.row false 1 [[.nils]])]⟩
  | .sl c l =>⟨[(7,.int .i64 x.1),(6,.ptr 3 0 0),(5,.ptr 1 0 0),(1,.int .i64 bud),(0,.slc 0 0 acts.length none)],[some (.row true 3 (acts.map Ac.cells)),some (.row false 1 [[.map 2]]),some (.map (x.2.1.L.map (AH.MS.enA SK.av SC.av)) x.2.1.c),some (.row false 1 [[.slc 4 0 l.length c]]),some (.row false 3 (l.map Ev.cells))]⟩
theorem exSt_nil (acts : List Ac) (bud : Int) (i : Nat) (t : SpB) : exSt acts bud (i,t,.nil) = ⟨[(7,.int .i64 i),(6,.ptr 3 0 0),(5,.ptr 1 0 0),(1,.int .i64 bud),(0,.slc 0 0 acts.length none)],[some (.row true 3 (acts.map Ac.cells)),some (.row false 1 [[.map 2]]),some (.map (t.L.map (AH.MS.enA SK.av SC.av)) t.c),some (.row false 1 [[.nils]])]⟩:=rfl
theorem exSt_sl (acts : List Ac) (bud : Int) (i : Nat) (t : SpB) (c : Option Nat) (l : List Ev) : exSt acts bud (i,t,.sl c l) = ⟨[(7,.int .i64 i),(6,.ptr 3 0 0),(5,.ptr 1 0 0),(1,.int .i64 bud),(0,.slc 0 0 acts.length none)],[some (.row true 3 (acts.map Ac.cells)),some (.row false 1 [[.map 2]]),some (.map (t.L.map (AH.MS.enA SK.av SC.av)) t.c),some (.row false 1 [[.slc 4 0 l.length c]]),some (.row false 3 (l.map Ev.cells))]⟩:=rfl
def capP : UB → Prop
  | .nil =>True
  | .sl c l =>c = capO l.length
def nilP (t : SpB) : UB → Prop
  | .nil =>t.L = []
  | .sl _ _ =>True
def spP (acts : List Ac) (x : Nat × SpB × UB) : Prop:=x.1 ≤ acts.length ∧ x.1 ≤ 60 ∧ RelS x.2.1 x.2.2.l ∧ x.2.2.l.length ≤ x.1 ∧ x.2.1.L.length ≤ x.1 ∧ capP x.2.2 ∧ nilP x.2.1 x.2.2
def liSt (m0 : Option Blk) (l : List Ev) (c : Option Nat) (L : List SC) (i : Nat) : St:=⟨[(13,.int .i64 i),(12,.int .i64 (smL l (L.take i) : Nat)),(11,.slc 3 0 L.length none),(6,.ptr 1 0 0)],[m0,some (.row false 1 [[.slc 2 0 l.length c]]),some (.row false 3 (l.map Ev.cells)),some (.row false 4 (L.map SC.cells))]⟩
theorem SC.cells_eq (c : SC) : c.cells = [.int .i64 c.j,.int .i64 c.w,.int .i64 c.f,.int .i64 c.g]:=rfl
theorem i_bne {a b : Int} (h : a = b) : (a != b) = false:=by simp [h]
set_option maxHeartbeats 4000000 in
theorem spexact_ok (acts : List Ac) (bud : Int) (hbud : bud ≤ 9223372036854775807) : CallA1 S0 6 [.slc 0 0 acts.length none,.int .i64 bud] [some (.row true 3 (acts.map Ac.cells))] fun r _ =>r = .bool true:=by
  refine fun_sound okSx Tryd.func6 c6 ?_
  unfold wpF F6
  simp only [AH.SD,AH.SE,AOp.call?,AOp.next?,bstep,AV.cells,unAV,binAV,retQ,retV,AH.sliceElems,AH.bytesOf,AH.strOp,AH.bound,AH.missQ,AH.minmaxAV,AH.readOf,AH.effOf,Nat.reduceBEq,Nat.reduceAdd,Nat.reduceLT,↓reduceIte,Nat.reduceEqDiff,Nat.reduceLeDiff,Nat.reduceSub,Nat.reduceMul,Int.reduceSub,Int.reduceToNat,Int.reduceBEq,Int.reduceBNe,Int.reduceLT,Int.reduceGT,Int.reduceLE,Int.reduceGE,Int.reduceNeg,Int.reduceAdd,AH.SP,AH.PD,AV.inB,vstep,vw,shift,newOnes,rowsM,blkIn,rwB,@flat_lts,AV.lt,AV.lts,Nat.sub_self,AH.SO,awT_eq,nwT_e,spM]
  repeat (refine ⟨by first | rfl | decide | omega | (simp only [List.length_map,List.length_set,and_true]; omega),?_⟩)
  refine loop_do [0,1,2,3] [7,6,5,1,0] [] (α:=Nat × SpB × UB) (fun x =>acts.length - x.1) (exSt acts bud) (spP acts) (0,S0B,.nil) ⟨Nat.zero_le _,Nat.zero_le _,rel_0,Nat.le_refl _,Nat.le_refl _,trivial,rfl⟩ (by simp only [AH.SD,AH.SE,AOp.call?,AOp.next?,bstep,AV.cells,unAV,binAV,retQ,retV,AH.sliceElems,AH.bytesOf,AH.strOp,AH.bound,AH.missQ,AH.minmaxAV,AH.readOf,AH.effOf,Nat.reduceBEq,Nat.reduceAdd,Nat.reduceLT,↓reduceIte,Nat.reduceEqDiff,Nat.reduceLeDiff,Nat.reduceSub,Nat.reduceMul,Int.reduceSub,Int.reduceToNat,Int.reduceBEq,Int.reduceBNe,Int.reduceLT,Int.reduceGT,Int.reduceLE,Int.reduceGE,Int.reduceNeg,Int.reduceAdd,AH.SP,AH.PD,AV.inB,vstep,exSt_nil,sp_in,sp_ren,S0B]) ?_
  rintro X ⟨i,t,u⟩ ⟨hi,h60,hr,hll,htl,hcp,hnp⟩ ih
  simp only at hi h60 hr hll htl hcp hnp ih
  have hwf:=hr.bk.wf
  by_cases hc : i < acts.length ∧ i < 60
  · obtain ⟨hil,h6⟩:=hc
    have hd1 : decide ((i : Int) < (acts.length : Int)) = true:=by simp only [decide_eq_true_eq]; omega
    have hd2 : decide ((i : Int) < 60) = true:=by simp only [decide_eq_true_eq]; omega
    have hw:=wrapS (i:=i) (by omega)
    have hgl : ∀ (X' : St → Prop),X' = X → True:=fun _ _ =>trivial
    generalize ha : acts[i] = a at *
    obtain ⟨ak,aj,aw⟩:=a
    cases u with
    | nil =>
      simp only [UB.l_nil,List.length_nil] at hr hll
      cases h4 : (ak == 4)
      · cases h5 : (ak == 5)
        · generalize hf : (ak == 3) = f at *
          obtain ⟨t',ht'⟩ : ∃ t',addB t ⟨aj,aw⟩ f = t':=⟨_,rfl⟩
          have hr':=rel_add hr (Nat.zero_le _) ⟨aj,aw⟩ f
          have htl':=add_len t ⟨aj,aw⟩ f
          rw [ht'] at hr' htl'
          simp only [List.nil_append] at hr'
          have o:=hr'.eq ⟨aj,aw⟩
          have hl'm : [(⟨aj,aw,f⟩ : Ev)].length ≤ 1048576:=by show 1 ≤ 1048576; decide
          have done:=ih (i + 1,t',.sl none [⟨aj,aw,f⟩]) ⟨hil,h6,hr',by show 1 ≤ i + 1; omega,by show t'.L.length ≤ i + 1; omega,rfl,trivial⟩ (by show _ - _ < _ - _; simp only; omega)
          simp only [exSt_sl,List.map_cons,List.map_nil,Ev.cells_eq,List.length_singleton] at done
          cases hg : decide ((cnt [(⟨aj,aw,f⟩ : Ev)] aj aw false : Int) < bud)
          · have lf:=left_eq hr' hl'm ⟨aj,aw⟩ hbud
            simp only [gt_iff_lt] at lf
            rw [if_neg (of_decide_eq_false hg)] at lf
            simp only [AH.SD,AH.SE,AOp.call?,AOp.next?,bstep,AV.cells,unAV,binAV,retQ,retV,AH.sliceElems,AH.bytesOf,AH.strOp,AH.bound,AH.missQ,AH.minmaxAV,AH.readOf,AH.effOf,Nat.reduceBEq,Nat.reduceAdd,Nat.reduceLT,↓reduceIte,Nat.reduceEqDiff,Nat.reduceLeDiff,Nat.reduceSub,Nat.reduceMul,Int.reduceSub,Int.reduceToNat,Int.reduceBEq,Int.reduceBNe,Int.reduceLT,Int.reduceGT,Int.reduceLE,Int.reduceGE,Int.reduceNeg,Int.reduceAdd,AH.SP,AH.PD,AV.inB,vstep,vw,shift,newOnes,rowsM,blkIn,rwB,@flat_lts,AV.lt,AV.lts,Nat.sub_self,AH.SO,exSt_nil,exSt_sl,hd1,hd2,getD_enc,hil,ha,Ac.cells_eq,List.length_map,h4,h5,hf,ofT_p,lfT_p,ctT_p,adN_p,exN_p,drN_p,liN_p,sp_in,sp_ren,spR_eq,spB_eq,AH.MS.Mp.eta,ne_eq,Nat.reduceEqDiff,Nat.zero_ne_one,not_false_eq_true,uR_nil,uR_sl,uB_eq,UB.l_nil,UB.l_sl,ev_in,ev_ren,adT_p,ht',spM,uB_one,hl'm,gt_iff_lt,o,lf,hg,SC.av,AH.eqAV_flat,eqFlat,eqScalar,and_self,Bool.and_self,beq_self_eq_true,bne_self_eq_false,hw]
            repeat (refine ⟨by first | rfl | decide | omega | (simp only [List.length_map,List.length_set,and_true]; omega),?_⟩)
            refine gc_auto [0,1,2,3,6] [7,6,5,1,0] [] ?_
            simp only [AH.SD,AH.SE,AOp.call?,AOp.next?,bstep,AV.cells,unAV,binAV,retQ,retV,AH.sliceElems,AH.bytesOf,AH.strOp,AH.bound,AH.missQ,AH.minmaxAV,AH.readOf,AH.effOf,Nat.reduceBEq,Nat.reduceAdd,Nat.reduceLT,↓reduceIte,Nat.reduceEqDiff,Nat.reduceLeDiff,Nat.reduceSub,Nat.reduceMul,Int.reduceSub,Int.reduceToNat,Int.reduceBEq,Int.reduceBNe,Int.reduceLT,Int.reduceGT,Int.reduceLE,Int.reduceGE,Int.reduceNeg,Int.reduceAdd,AH.SP,AH.PD,AV.inB,vstep,sp_in,sp_ren,ev_in,ev_ren]
            exact done
          · have lf:=left_eq hr' hl'm ⟨aj,aw⟩ hbud
            simp only [gt_iff_lt] at lf
            rw [if_pos (of_decide_eq_true hg)] at lf
            simp only [AH.SD,AH.SE,AOp.call?,AOp.next?,bstep,AV.cells,unAV,binAV,retQ,retV,AH.sliceElems,AH.bytesOf,AH.strOp,AH.bound,AH.missQ,AH.minmaxAV,AH.readOf,AH.effOf,Nat.reduceBEq,Nat.reduceAdd,Nat.reduceLT,↓reduceIte,Nat.reduceEqDiff,Nat.reduceLeDiff,Nat.reduceSub,Nat.reduceMul,Int.reduceSub,Int.reduceToNat,Int.reduceBEq,Int.reduceBNe,Int.reduceLT,Int.reduceGT,Int.reduceLE,Int.reduceGE,Int.reduceNeg,Int.reduceAdd,AH.SP,AH.PD,AV.inB,vstep,vw,shift,newOnes,rowsM,blkIn,rwB,@flat_lts,AV.lt,AV.lts,Nat.sub_self,AH.SO,exSt_nil,exSt_sl,hd1,hd2,getD_enc,hil,ha,Ac.cells_eq,List.length_map,h4,h5,hf,ofT_p,lfT_p,ctT_p,adN_p,exN_p,drN_p,liN_p,sp_in,sp_ren,spR_eq,spB_eq,AH.MS.Mp.eta,ne_eq,Nat.reduceEqDiff,Nat.zero_ne_one,not_false_eq_true,uR_nil,uR_sl,uB_eq,UB.l_nil,UB.l_sl,ev_in,ev_ren,adT_p,ht',spM,uB_one,hl'm,gt_iff_lt,o,lf,hg,SC.av,AH.eqAV_flat,eqFlat,eqScalar,and_self,Bool.and_self,beq_self_eq_true,bne_self_eq_false,hw]
            repeat (refine ⟨by first | rfl | decide | omega | (simp only [List.length_map,List.length_set,and_true]; omega),?_⟩)
            refine gc_auto [0,1,2,3,6] [7,6,5,1,0] [] ?_
            simp only [AH.SD,AH.SE,AOp.call?,AOp.next?,bstep,AV.cells,unAV,binAV,retQ,retV,AH.sliceElems,AH.bytesOf,AH.strOp,AH.bound,AH.missQ,AH.minmaxAV,AH.readOf,AH.effOf,Nat.reduceBEq,Nat.reduceAdd,Nat.reduceLT,↓reduceIte,Nat.reduceEqDiff,Nat.reduceLeDiff,Nat.reduceSub,Nat.reduceMul,Int.reduceSub,Int.reduceToNat,Int.reduceBEq,Int.reduceBNe,Int.reduceLT,Int.reduceGT,Int.reduceLE,Int.reduceGE,Int.reduceNeg,Int.reduceAdd,AH.SP,AH.PD,AV.inB,vstep,sp_in,sp_ren,ev_in,ev_ren]
            exact done
        · obtain ⟨t',ht'⟩ : ∃ t',delDr t aj = t':=⟨_,rfl⟩
          have hr':=rel_dr hr aj
          have htl':=(del_len t aj).2
          rw [ht'] at hr' htl'
          replace hr' : RelS t' []:=hr'
          have o:=hr'.eq ⟨aj,aw⟩
          have hl'm : ([] : List Ev).length ≤ 1048576:=by decide
          have done:=ih (i + 1,t',.sl (some 0) []) ⟨hil,h6,hr',by show 0 ≤ i + 1; omega,by show t'.L.length ≤ i + 1; omega,rfl,trivial⟩ (by show _ - _ < _ - _; simp only; omega)
          simp only [exSt_sl,List.map_nil,List.length_nil] at done
          cases hg : decide ((cnt [] aj aw false : Int) < bud)
          · have lf:=left_eq hr' hl'm ⟨aj,aw⟩ hbud
            simp only [gt_iff_lt] at lf
            rw [if_neg (of_decide_eq_false hg)] at lf
            simp only [AH.SD,AH.SE,AOp.call?,AOp.next?,bstep,AV.cells,unAV,binAV,retQ,retV,AH.sliceElems,AH.bytesOf,AH.strOp,AH.bound,AH.missQ,AH.minmaxAV,AH.readOf,AH.effOf,Nat.reduceBEq,Nat.reduceAdd,Nat.reduceLT,↓reduceIte,Nat.reduceEqDiff,Nat.reduceLeDiff,Nat.reduceSub,Nat.reduceMul,Int.reduceSub,Int.reduceToNat,Int.reduceBEq,Int.reduceBNe,Int.reduceLT,Int.reduceGT,Int.reduceLE,Int.reduceGE,Int.reduceNeg,Int.reduceAdd,AH.SP,AH.PD,AV.inB,vstep,vw,shift,newOnes,rowsM,blkIn,rwB,@flat_lts,AV.lt,AV.lts,Nat.sub_self,AH.SO,exSt_nil,exSt_sl,hd1,hd2,getD_enc,hil,ha,Ac.cells_eq,List.length_map,h4,h5,ofT_p,lfT_p,ctT_p,adN_p,exN_p,drN_p,liN_p,sp_in,sp_ren,spR_eq,spB_eq,AH.MS.Mp.eta,ne_eq,Nat.reduceEqDiff,Nat.zero_ne_one,not_false_eq_true,uR_nil,uR_sl,uB_eq,UB.l_nil,UB.l_sl,ev_in,ev_ren,drE_p,ht',hwf,spM,kpT_p,keepU_nil,uB_emp,List.length_nil,Nat.zero_le,hl'm,gt_iff_lt,o,lf,hg,SC.av,AH.eqAV_flat,eqFlat,eqScalar,and_self,Bool.and_self,beq_self_eq_true,bne_self_eq_false,hw]
            repeat (refine ⟨by first | rfl | decide | omega | (simp only [List.length_map,List.length_set,and_true]; omega),?_⟩)
            refine gc_auto [0,1,2,3,5] [7,6,5,1,0] [] ?_
            simp only [AH.SD,AH.SE,AOp.call?,AOp.next?,bstep,AV.cells,unAV,binAV,retQ,retV,AH.sliceElems,AH.bytesOf,AH.strOp,AH.bound,AH.missQ,AH.minmaxAV,AH.readOf,AH.effOf,Nat.reduceBEq,Nat.reduceAdd,Nat.reduceLT,↓reduceIte,Nat.reduceEqDiff,Nat.reduceLeDiff,Nat.reduceSub,Nat.reduceMul,Int.reduceSub,Int.reduceToNat,Int.reduceBEq,Int.reduceBNe,Int.reduceLT,Int.reduceGT,Int.reduceLE,Int.reduceGE,Int.reduceNeg,Int.reduceAdd,AH.SP,AH.PD,AV.inB,vstep,sp_in,sp_ren,ev_in,ev_ren]
            exact done
          · have lf:=left_eq hr' hl'm ⟨aj,aw⟩ hbud
            simp only [gt_iff_lt] at lf
            rw [if_pos (of_decide_eq_true hg)] at lf
            simp only [AH.SD,AH.SE,AOp.call?,AOp.next?,bstep,AV.cells,unAV,binAV,retQ,retV,AH.sliceElems,AH.bytesOf,AH.strOp,AH.bound,AH.missQ,AH.minmaxAV,AH.readOf,AH.effOf,Nat.reduceBEq,Nat.reduceAdd,Nat.reduceLT,↓reduceIte,Nat.reduceEqDiff,Nat.reduceLeDiff,Nat.reduceSub,Nat.reduceMul,Int.reduceSub,Int.reduceToNat,Int.reduceBEq,Int.reduceBNe,Int.reduceLT,Int.reduceGT,Int.reduceLE,Int.reduceGE,Int.reduceNeg,Int.reduceAdd,AH.SP,AH.PD,AV.inB,vstep,vw,shift,newOnes,rowsM,blkIn,rwB,@flat_lts,AV.lt,AV.lts,Nat.sub_self,AH.SO,exSt_nil,exSt_sl,hd1,hd2,getD_enc,hil,ha,Ac.cells_eq,List.length_map,h4,h5,ofT_p,lfT_p,ctT_p,adN_p,exN_p,drN_p,liN_p,sp_in,sp_ren,spR_eq,spB_eq,AH.MS.Mp.eta,ne_eq,Nat.reduceEqDiff,Nat.zero_ne_one,not_false_eq_true,uR_nil,uR_sl,uB_eq,UB.l_nil,UB.l_sl,ev_in,ev_ren,drE_p,ht',hwf,spM,kpT_p,keepU_nil,uB_emp,List.length_nil,Nat.zero_le,hl'm,gt_iff_lt,o,lf,hg,SC.av,AH.eqAV_flat,eqFlat,eqScalar,and_self,Bool.and_self,beq_self_eq_true,bne_self_eq_false,hw]
            repeat (refine ⟨by first | rfl | decide | omega | (simp only [List.length_map,List.length_set,and_true]; omega),?_⟩)
            refine gc_auto [0,1,2,3,5] [7,6,5,1,0] [] ?_
            simp only [AH.SD,AH.SE,AOp.call?,AOp.next?,bstep,AV.cells,unAV,binAV,retQ,retV,AH.sliceElems,AH.bytesOf,AH.strOp,AH.bound,AH.missQ,AH.minmaxAV,AH.readOf,AH.effOf,Nat.reduceBEq,Nat.reduceAdd,Nat.reduceLT,↓reduceIte,Nat.reduceEqDiff,Nat.reduceLeDiff,Nat.reduceSub,Nat.reduceMul,Int.reduceSub,Int.reduceToNat,Int.reduceBEq,Int.reduceBNe,Int.reduceLT,Int.reduceGT,Int.reduceLE,Int.reduceGE,Int.reduceNeg,Int.reduceAdd,AH.SP,AH.PD,AV.inB,vstep,sp_in,sp_ren,ev_in,ev_ren]
            exact done
      · obtain ⟨t',ht'⟩ : ∃ t',delEx t aw = t':=⟨_,rfl⟩
        have hr':=rel_ex hr aw
        have htl':=(del_len t aw).1
        rw [ht'] at hr' htl'
        replace hr' : RelS t' []:=hr'
        have o:=hr'.eq ⟨aj,aw⟩
        have hl'm : ([] : List Ev).length ≤ 1048576:=by decide
        have done:=ih (i + 1,t',.sl (some 0) []) ⟨hil,h6,hr',by show 0 ≤ i + 1; omega,by show t'.L.length ≤ i + 1; omega,rfl,trivial⟩ (by show _ - _ < _ - _; simp only; omega)
        simp only [exSt_sl,List.map_nil,List.length_nil] at done
        cases hg : decide ((cnt [] aj aw false : Int) < bud)
        · have lf:=left_eq hr' hl'm ⟨aj,aw⟩ hbud
          simp only [gt_iff_lt] at lf
          rw [if_neg (of_decide_eq_false hg)] at lf
          simp only [AH.SD,AH.SE,AOp.call?,AOp.next?,bstep,AV.cells,unAV,binAV,retQ,retV,AH.sliceElems,AH.bytesOf,AH.strOp,AH.bound,AH.missQ,AH.minmaxAV,AH.readOf,AH.effOf,Nat.reduceBEq,Nat.reduceAdd,Nat.reduceLT,↓reduceIte,Nat.reduceEqDiff,Nat.reduceLeDiff,Nat.reduceSub,Nat.reduceMul,Int.reduceSub,Int.reduceToNat,Int.reduceBEq,Int.reduceBNe,Int.reduceLT,Int.reduceGT,Int.reduceLE,Int.reduceGE,Int.reduceNeg,Int.reduceAdd,AH.SP,AH.PD,AV.inB,vstep,vw,shift,newOnes,rowsM,blkIn,rwB,@flat_lts,AV.lt,AV.lts,Nat.sub_self,AH.SO,exSt_nil,exSt_sl,hd1,hd2,getD_enc,hil,ha,Ac.cells_eq,List.length_map,h4,ofT_p,lfT_p,ctT_p,adN_p,exN_p,drN_p,liN_p,sp_in,sp_ren,spR_eq,spB_eq,AH.MS.Mp.eta,ne_eq,Nat.reduceEqDiff,Nat.zero_ne_one,not_false_eq_true,uR_nil,uR_sl,uB_eq,UB.l_nil,UB.l_sl,ev_in,ev_ren,exE_p,ht',hwf,spM,kpT_p,keepU_nil,uB_emp,List.length_nil,Nat.zero_le,hl'm,gt_iff_lt,o,lf,hg,SC.av,AH.eqAV_flat,eqFlat,eqScalar,and_self,Bool.and_self,beq_self_eq_true,bne_self_eq_false,hw]
          repeat (refine ⟨by first | rfl | decide | omega | (simp only [List.length_map,List.length_set,and_true]; omega),?_⟩)
          refine gc_auto [0,1,2,3,5] [7,6,5,1,0] [] ?_
          simp only [AH.SD,AH.SE,AOp.call?,AOp.next?,bstep,AV.cells,unAV,binAV,retQ,retV,AH.sliceElems,AH.bytesOf,AH.strOp,AH.bound,AH.missQ,AH.minmaxAV,AH.readOf,AH.effOf,Nat.reduceBEq,Nat.reduceAdd,Nat.reduceLT,↓reduceIte,Nat.reduceEqDiff,Nat.reduceLeDiff,Nat.reduceSub,Nat.reduceMul,Int.reduceSub,Int.reduceToNat,Int.reduceBEq,Int.reduceBNe,Int.reduceLT,Int.reduceGT,Int.reduceLE,Int.reduceGE,Int.reduceNeg,Int.reduceAdd,AH.SP,AH.PD,AV.inB,vstep,sp_in,sp_ren,ev_in,ev_ren]
          exact done
        · have lf:=left_eq hr' hl'm ⟨aj,aw⟩ hbud
          simp only [gt_iff_lt] at lf
          rw [if_pos (of_decide_eq_true hg)] at lf
          simp only [AH.SD,AH.SE,AOp.call?,AOp.next?,bstep,AV.cells,unAV,binAV,retQ,retV,AH.sliceElems,AH.bytesOf,AH.strOp,AH.bound,AH.missQ,AH.minmaxAV,AH.readOf,AH.effOf,Nat.reduceBEq,Nat.reduceAdd,Nat.reduceLT,↓reduceIte,Nat.reduceEqDiff,Nat.reduceLeDiff,Nat.reduceSub,Nat.reduceMul,Int.reduceSub,Int.reduceToNat,Int.reduceBEq,Int.reduceBNe,Int.reduceLT,Int.reduceGT,Int.reduceLE,Int.reduceGE,Int.reduceNeg,Int.reduceAdd,AH.SP,AH.PD,AV.inB,vstep,vw,shift,newOnes,rowsM,blkIn,rwB,@flat_lts,AV.lt,AV.lts,Nat.sub_self,AH.SO,exSt_nil,exSt_sl,hd1,hd2,getD_enc,hil,ha,Ac.cells_eq,List.length_map,h4,ofT_p,lfT_p,ctT_p,adN_p,exN_p,drN_p,liN_p,sp_in,sp_ren,spR_eq,spB_eq,AH.MS.Mp.eta,ne_eq,Nat.reduceEqDiff,Nat.zero_ne_one,not_false_eq_true,uR_nil,uR_sl,uB_eq,UB.l_nil,UB.l_sl,ev_in,ev_ren,exE_p,ht',hwf,spM,kpT_p,keepU_nil,uB_emp,List.length_nil,Nat.zero_le,hl'm,gt_iff_lt,o,lf,hg,SC.av,AH.eqAV_flat,eqFlat,eqScalar,and_self,Bool.and_self,beq_self_eq_true,bne_self_eq_false,hw]
          repeat (refine ⟨by first | rfl | decide | omega | (simp only [List.length_map,List.length_set,and_true]; omega),?_⟩)
          refine gc_auto [0,1,2,3,5] [7,6,5,1,0] [] ?_
          simp only [AH.SD,AH.SE,AOp.call?,AOp.next?,bstep,AV.cells,unAV,binAV,retQ,retV,AH.sliceElems,AH.bytesOf,AH.strOp,AH.bound,AH.missQ,AH.minmaxAV,AH.readOf,AH.effOf,Nat.reduceBEq,Nat.reduceAdd,Nat.reduceLT,↓reduceIte,Nat.reduceEqDiff,Nat.reduceLeDiff,Nat.reduceSub,Nat.reduceMul,Int.reduceSub,Int.reduceToNat,Int.reduceBEq,Int.reduceBNe,Int.reduceLT,Int.reduceGT,Int.reduceLE,Int.reduceGE,Int.reduceNeg,Int.reduceAdd,AH.SP,AH.PD,AV.inB,vstep,sp_in,sp_ren,ev_in,ev_ren]
          exact done
    | sl c l =>
      simp only [UB.l_sl] at hr hll
      cases h4 : (ak == 4)
      · cases h5 : (ak == 5)
        · generalize hf : (ak == 3) = f at *
          obtain ⟨t',ht'⟩ : ∃ t',addB t ⟨aj,aw⟩ f = t':=⟨_,rfl⟩
          have hr':=rel_add hr (by omega) ⟨aj,aw⟩ f
          have htl':=add_len t ⟨aj,aw⟩ f
          rw [ht'] at hr' htl'
          by_cases hl0 : l = []
          · subst hl0
            obtain rfl : c = some 0:=hcp
            simp only [List.nil_append] at hr'
            have o:=hr'.eq ⟨aj,aw⟩
            have hl'm : [(⟨aj,aw,f⟩ : Ev)].length ≤ 1048576:=by show 1 ≤ 1048576; decide
            have done:=ih (i + 1,t',.sl none [⟨aj,aw,f⟩]) ⟨hil,h6,hr',by show 1 ≤ i + 1; omega,by show t'.L.length ≤ i + 1; omega,rfl,trivial⟩ (by show _ - _ < _ - _; simp only; omega)
            simp only [exSt_sl,List.map_cons,List.map_nil,Ev.cells_eq,List.length_singleton] at done
            cases hg : decide ((cnt [(⟨aj,aw,f⟩ : Ev)] aj aw false : Int) < bud)
            · have lf:=left_eq hr' hl'm ⟨aj,aw⟩ hbud
              simp only [gt_iff_lt] at lf
              rw [if_neg (of_decide_eq_false hg)] at lf
              simp only [AH.SD,AH.SE,AOp.call?,AOp.next?,bstep,AV.cells,unAV,binAV,retQ,retV,AH.sliceElems,AH.bytesOf,AH.strOp,AH.bound,AH.missQ,AH.minmaxAV,AH.readOf,AH.effOf,Nat.reduceBEq,Nat.reduceAdd,Nat.reduceLT,↓reduceIte,Nat.reduceEqDiff,Nat.reduceLeDiff,Nat.reduceSub,Nat.reduceMul,Int.reduceSub,Int.reduceToNat,Int.reduceBEq,Int.reduceBNe,Int.reduceLT,Int.reduceGT,Int.reduceLE,Int.reduceGE,Int.reduceNeg,Int.reduceAdd,AH.SP,AH.PD,AV.inB,vstep,vw,shift,newOnes,rowsM,blkIn,rwB,@flat_lts,AV.lt,AV.lts,Nat.sub_self,AH.SO,exSt_nil,exSt_sl,hd1,hd2,getD_enc,hil,ha,Ac.cells_eq,List.length_map,h4,h5,hf,ofT_p,lfT_p,ctT_p,adN_p,exN_p,drN_p,liN_p,sp_in,sp_ren,spR_eq,spB_eq,AH.MS.Mp.eta,ne_eq,Nat.reduceEqDiff,Nat.zero_ne_one,not_false_eq_true,uR_nil,uR_sl,uB_eq,UB.l_nil,UB.l_sl,ev_in,ev_ren,adT_p,ht',spM,uB_one,hl'm,gt_iff_lt,List.length_nil,List.map_nil,o,lf,hg,SC.av,AH.eqAV_flat,eqFlat,eqScalar,and_self,Bool.and_self,beq_self_eq_true,bne_self_eq_false,hw]
              repeat (refine ⟨by first | rfl | decide | omega | (simp only [List.length_map,List.length_set,and_true]; omega),?_⟩)
              refine gc_auto [0,1,2,3,7] [7,6,5,1,0] [] ?_
              simp only [AH.SD,AH.SE,AOp.call?,AOp.next?,bstep,AV.cells,unAV,binAV,retQ,retV,AH.sliceElems,AH.bytesOf,AH.strOp,AH.bound,AH.missQ,AH.minmaxAV,AH.readOf,AH.effOf,Nat.reduceBEq,Nat.reduceAdd,Nat.reduceLT,↓reduceIte,Nat.reduceEqDiff,Nat.reduceLeDiff,Nat.reduceSub,Nat.reduceMul,Int.reduceSub,Int.reduceToNat,Int.reduceBEq,Int.reduceBNe,Int.reduceLT,Int.reduceGT,Int.reduceLE,Int.reduceGE,Int.reduceNeg,Int.reduceAdd,AH.SP,AH.PD,AV.inB,vstep,sp_in,sp_ren,ev_in,ev_ren]
              exact done
            · have lf:=left_eq hr' hl'm ⟨aj,aw⟩ hbud
              simp only [gt_iff_lt] at lf
              rw [if_pos (of_decide_eq_true hg)] at lf
              simp only [AH.SD,AH.SE,AOp.call?,AOp.next?,bstep,AV.cells,unAV,binAV,retQ,retV,AH.sliceElems,AH.bytesOf,AH.strOp,AH.bound,AH.missQ,AH.minmaxAV,AH.readOf,AH.effOf,Nat.reduceBEq,Nat.reduceAdd,Nat.reduceLT,↓reduceIte,Nat.reduceEqDiff,Nat.reduceLeDiff,Nat.reduceSub,Nat.reduceMul,Int.reduceSub,Int.reduceToNat,Int.reduceBEq,Int.reduceBNe,Int.reduceLT,Int.reduceGT,Int.reduceLE,Int.reduceGE,Int.reduceNeg,Int.reduceAdd,AH.SP,AH.PD,AV.inB,vstep,vw,shift,newOnes,rowsM,blkIn,rwB,@flat_lts,AV.lt,AV.lts,Nat.sub_self,AH.SO,exSt_nil,exSt_sl,hd1,hd2,getD_enc,hil,ha,Ac.cells_eq,List.length_map,h4,h5,hf,ofT_p,lfT_p,ctT_p,adN_p,exN_p,drN_p,liN_p,sp_in,sp_ren,spR_eq,spB_eq,AH.MS.Mp.eta,ne_eq,Nat.reduceEqDiff,Nat.zero_ne_one,not_false_eq_true,uR_nil,uR_sl,uB_eq,UB.l_nil,UB.l_sl,ev_in,ev_ren,adT_p,ht',spM,uB_one,hl'm,gt_iff_lt,List.length_nil,List.map_nil,o,lf,hg,SC.av,AH.eqAV_flat,eqFlat,eqScalar,and_self,Bool.and_self,beq_self_eq_true,bne_self_eq_false,hw]
              repeat (refine ⟨by first | rfl | decide | omega | (simp only [List.length_map,List.length_set,and_true]; omega),?_⟩)
              refine gc_auto [0,1,2,3,7] [7,6,5,1,0] [] ?_
              simp only [AH.SD,AH.SE,AOp.call?,AOp.next?,bstep,AV.cells,unAV,binAV,retQ,retV,AH.sliceElems,AH.bytesOf,AH.strOp,AH.bound,AH.missQ,AH.minmaxAV,AH.readOf,AH.effOf,Nat.reduceBEq,Nat.reduceAdd,Nat.reduceLT,↓reduceIte,Nat.reduceEqDiff,Nat.reduceLeDiff,Nat.reduceSub,Nat.reduceMul,Int.reduceSub,Int.reduceToNat,Int.reduceBEq,Int.reduceBNe,Int.reduceLT,Int.reduceGT,Int.reduceLE,Int.reduceGE,Int.reduceNeg,Int.reduceAdd,AH.SP,AH.PD,AV.inB,vstep,sp_in,sp_ren,ev_in,ev_ren]
              exact done
          · obtain rfl : c = none:=by cases l with
              | nil =>exact absurd rfl hl0
              | cons _ _ =>exact hcp
            obtain ⟨l',hl'⟩ : ∃ l',l ++ [⟨aj,aw,f⟩] = l':=⟨_,rfl⟩
            have hlen : l.length + 1 = l'.length:=by rw [← hl',List.length_append]; rfl
            have hrow : l.map Ev.cells ++ [[.int .i64 aj,.int .i64 aw,.bool f]] = l'.map Ev.cells:=by rw [← hl',List.map_append]; rfl
            rw [hl'] at hr'
            have o:=hr'.eq ⟨aj,aw⟩
            have hl'm : l'.length ≤ 1048576:=by omega
            have hlb : l.length ≤ 60:=by omega
            have done:=ih (i + 1,t',.sl none l') ⟨hil,h6,hr',by show l'.length ≤ i + 1; omega,by show t'.L.length ≤ i + 1; omega,by show none = capO l'.length; rw [← hlen]; rfl,trivial⟩ (by show _ - _ < _ - _; simp only; omega)
            simp only [exSt_sl] at done
            cases hg : decide ((cnt l' aj aw false : Int) < bud)
            · have lf:=left_eq hr' hl'm ⟨aj,aw⟩ hbud
              simp only [gt_iff_lt] at lf
              rw [if_neg (of_decide_eq_false hg)] at lf
              simp only [AH.SD,AH.SE,AOp.call?,AOp.next?,bstep,AV.cells,unAV,binAV,retQ,retV,AH.sliceElems,AH.bytesOf,AH.strOp,AH.bound,AH.missQ,AH.minmaxAV,AH.readOf,AH.effOf,Nat.reduceBEq,Nat.reduceAdd,Nat.reduceLT,↓reduceIte,Nat.reduceEqDiff,Nat.reduceLeDiff,Nat.reduceSub,Nat.reduceMul,Int.reduceSub,Int.reduceToNat,Int.reduceBEq,Int.reduceBNe,Int.reduceLT,Int.reduceGT,Int.reduceLE,Int.reduceGE,Int.reduceNeg,Int.reduceAdd,AH.SP,AH.PD,AV.inB,vstep,vw,shift,newOnes,rowsM,blkIn,rwB,@flat_lts,AV.lt,AV.lts,Nat.sub_self,AH.SO,exSt_nil,exSt_sl,hd1,hd2,getD_enc,hil,ha,Ac.cells_eq,List.length_map,h4,h5,hf,ofT_p,lfT_p,ctT_p,adN_p,exN_p,drN_p,liN_p,sp_in,sp_ren,spR_eq,spB_eq,AH.MS.Mp.eta,ne_eq,Nat.reduceEqDiff,Nat.zero_ne_one,not_false_eq_true,uR_nil,uR_sl,uB_eq,UB.l_nil,UB.l_sl,ev_in,ev_ren,adT_p,ht',spM,hlen,hrow,hl'm,gt_iff_lt,o,lf,hg,SC.av,AH.eqAV_flat,eqFlat,eqScalar,and_self,Bool.and_self,beq_self_eq_true,bne_self_eq_false,hw]
              repeat (refine ⟨by first | rfl | decide | omega | (simp only [List.length_map,List.length_set,and_true]; omega),?_⟩)
              refine gc_auto [0,1,2,3,7] [7,6,5,1,0] [] ?_
              simp only [AH.SD,AH.SE,AOp.call?,AOp.next?,bstep,AV.cells,unAV,binAV,retQ,retV,AH.sliceElems,AH.bytesOf,AH.strOp,AH.bound,AH.missQ,AH.minmaxAV,AH.readOf,AH.effOf,Nat.reduceBEq,Nat.reduceAdd,Nat.reduceLT,↓reduceIte,Nat.reduceEqDiff,Nat.reduceLeDiff,Nat.reduceSub,Nat.reduceMul,Int.reduceSub,Int.reduceToNat,Int.reduceBEq,Int.reduceBNe,Int.reduceLT,Int.reduceGT,Int.reduceLE,Int.reduceGE,Int.reduceNeg,Int.reduceAdd,AH.SP,AH.PD,AV.inB,vstep,sp_in,sp_ren,ev_in,ev_ren]
              exact done
            · have lf:=left_eq hr' hl'm ⟨aj,aw⟩ hbud
              simp only [gt_iff_lt] at lf
              rw [if_pos (of_decide_eq_true hg)] at lf
              simp only [AH.SD,AH.SE,AOp.call?,AOp.next?,bstep,AV.cells,unAV,binAV,retQ,retV,AH.sliceElems,AH.bytesOf,AH.strOp,AH.bound,AH.missQ,AH.minmaxAV,AH.readOf,AH.effOf,Nat.reduceBEq,Nat.reduceAdd,Nat.reduceLT,↓reduceIte,Nat.reduceEqDiff,Nat.reduceLeDiff,Nat.reduceSub,Nat.reduceMul,Int.reduceSub,Int.reduceToNat,Int.reduceBEq,Int.reduceBNe,Int.reduceLT,Int.reduceGT,Int.reduceLE,Int.reduceGE,Int.reduceNeg,Int.reduceAdd,AH.SP,AH.PD,AV.inB,vstep,vw,shift,newOnes,rowsM,blkIn,rwB,@flat_lts,AV.lt,AV.lts,Nat.sub_self,AH.SO,exSt_nil,exSt_sl,hd1,hd2,getD_enc,hil,ha,Ac.cells_eq,List.length_map,h4,h5,hf,ofT_p,lfT_p,ctT_p,adN_p,exN_p,drN_p,liN_p,sp_in,sp_ren,spR_eq,spB_eq,AH.MS.Mp.eta,ne_eq,Nat.reduceEqDiff,Nat.zero_ne_one,not_false_eq_true,uR_nil,uR_sl,uB_eq,UB.l_nil,UB.l_sl,ev_in,ev_ren,adT_p,ht',spM,hlen,hrow,hl'm,gt_iff_lt,o,lf,hg,SC.av,AH.eqAV_flat,eqFlat,eqScalar,and_self,Bool.and_self,beq_self_eq_true,bne_self_eq_false,hw]
              repeat (refine ⟨by first | rfl | decide | omega | (simp only [List.length_map,List.length_set,and_true]; omega),?_⟩)
              refine gc_auto [0,1,2,3,7] [7,6,5,1,0] [] ?_
              simp only [AH.SD,AH.SE,AOp.call?,AOp.next?,bstep,AV.cells,unAV,binAV,retQ,retV,AH.sliceElems,AH.bytesOf,AH.strOp,AH.bound,AH.missQ,AH.minmaxAV,AH.readOf,AH.effOf,Nat.reduceBEq,Nat.reduceAdd,Nat.reduceLT,↓reduceIte,Nat.reduceEqDiff,Nat.reduceLeDiff,Nat.reduceSub,Nat.reduceMul,Int.reduceSub,Int.reduceToNat,Int.reduceBEq,Int.reduceBNe,Int.reduceLT,Int.reduceGT,Int.reduceLE,Int.reduceGE,Int.reduceNeg,Int.reduceAdd,AH.SP,AH.PD,AV.inB,vstep,sp_in,sp_ren,ev_in,ev_ren]
              exact done
        · obtain ⟨t',ht'⟩ : ∃ t',delDr t aj = t':=⟨_,rfl⟩
          have hr':=rel_dr hr aj
          have htl':=(del_len t aj).2
          rw [ht'] at hr' htl'
          have hlen:=kpL_len l 0 aj true
          obtain ⟨l',hl'⟩ : ∃ l',kpL l 0 aj true = l':=⟨_,rfl⟩
          rw [hl'] at hr' hlen
          have o:=hr'.eq ⟨aj,aw⟩
          have hl'm : l'.length ≤ 1048576:=by omega
          have hlm : l.length ≤ 1048576:=by omega
          have done:=ih (i + 1,t',.sl (capO l'.length) l') ⟨hil,h6,hr',by show l'.length ≤ i + 1; omega,by show t'.L.length ≤ i + 1; omega,rfl,trivial⟩ (by show _ - _ < _ - _; simp only; omega)
          simp only [exSt_sl] at done
          cases hg : decide ((cnt l' aj aw false : Int) < bud)
          · have lf:=left_eq hr' hl'm ⟨aj,aw⟩ hbud
            simp only [gt_iff_lt] at lf
            rw [if_neg (of_decide_eq_false hg)] at lf
            simp only [AH.SD,AH.SE,AOp.call?,AOp.next?,bstep,AV.cells,unAV,binAV,retQ,retV,AH.sliceElems,AH.bytesOf,AH.strOp,AH.bound,AH.missQ,AH.minmaxAV,AH.readOf,AH.effOf,Nat.reduceBEq,Nat.reduceAdd,Nat.reduceLT,↓reduceIte,Nat.reduceEqDiff,Nat.reduceLeDiff,Nat.reduceSub,Nat.reduceMul,Int.reduceSub,Int.reduceToNat,Int.reduceBEq,Int.reduceBNe,Int.reduceLT,Int.reduceGT,Int.reduceLE,Int.reduceGE,Int.reduceNeg,Int.reduceAdd,AH.SP,AH.PD,AV.inB,vstep,vw,shift,newOnes,rowsM,blkIn,rwB,@flat_lts,AV.lt,AV.lts,Nat.sub_self,AH.SO,exSt_nil,exSt_sl,hd1,hd2,getD_enc,hil,ha,Ac.cells_eq,List.length_map,h4,h5,ofT_p,lfT_p,ctT_p,adN_p,exN_p,drN_p,liN_p,sp_in,sp_ren,spR_eq,spB_eq,AH.MS.Mp.eta,ne_eq,Nat.reduceEqDiff,Nat.zero_ne_one,not_false_eq_true,uR_nil,uR_sl,uB_eq,UB.l_nil,UB.l_sl,ev_in,ev_ren,drE_p,ht',hwf,spM,kpT_p,keepU_sl,hl',hl'm,hlm,gt_iff_lt,o,lf,hg,SC.av,AH.eqAV_flat,eqFlat,eqScalar,and_self,Bool.and_self,beq_self_eq_true,bne_self_eq_false,hw]
            repeat (refine ⟨by first | rfl | decide | omega | (simp only [List.length_map,List.length_set,and_true]; omega),?_⟩)
            refine gc_auto [0,1,2,3,6] [7,6,5,1,0] [] ?_
            simp only [AH.SD,AH.SE,AOp.call?,AOp.next?,bstep,AV.cells,unAV,binAV,retQ,retV,AH.sliceElems,AH.bytesOf,AH.strOp,AH.bound,AH.missQ,AH.minmaxAV,AH.readOf,AH.effOf,Nat.reduceBEq,Nat.reduceAdd,Nat.reduceLT,↓reduceIte,Nat.reduceEqDiff,Nat.reduceLeDiff,Nat.reduceSub,Nat.reduceMul,Int.reduceSub,Int.reduceToNat,Int.reduceBEq,Int.reduceBNe,Int.reduceLT,Int.reduceGT,Int.reduceLE,Int.reduceGE,Int.reduceNeg,Int.reduceAdd,AH.SP,AH.PD,AV.inB,vstep,sp_in,sp_ren,ev_in,ev_ren]
            exact done
          · have lf:=left_eq hr' hl'm ⟨aj,aw⟩ hbud
            simp only [gt_iff_lt] at lf
            rw [if_pos (of_decide_eq_true hg)] at lf
            simp only [AH.SD,AH.SE,AOp.call?,AOp.next?,bstep,AV.cells,unAV,binAV,retQ,retV,AH.sliceElems,AH.bytesOf,AH.strOp,AH.bound,AH.missQ,AH.minmaxAV,AH.readOf,AH.effOf,Nat.reduceBEq,Nat.reduceAdd,Nat.reduceLT,↓reduceIte,Nat.reduceEqDiff,Nat.reduceLeDiff,Nat.reduceSub,Nat.reduceMul,Int.reduceSub,Int.reduceToNat,Int.reduceBEq,Int.reduceBNe,Int.reduceLT,Int.reduceGT,Int.reduceLE,Int.reduceGE,Int.reduceNeg,Int.reduceAdd,AH.SP,AH.PD,AV.inB,vstep,vw,shift,newOnes,rowsM,blkIn,rwB,@flat_lts,AV.lt,AV.lts,Nat.sub_self,AH.SO,exSt_nil,exSt_sl,hd1,hd2,getD_enc,hil,ha,Ac.cells_eq,List.length_map,h4,h5,ofT_p,lfT_p,ctT_p,adN_p,exN_p,drN_p,liN_p,sp_in,sp_ren,spR_eq,spB_eq,AH.MS.Mp.eta,ne_eq,Nat.reduceEqDiff,Nat.zero_ne_one,not_false_eq_true,uR_nil,uR_sl,uB_eq,UB.l_nil,UB.l_sl,ev_in,ev_ren,drE_p,ht',hwf,spM,kpT_p,keepU_sl,hl',hl'm,hlm,gt_iff_lt,o,lf,hg,SC.av,AH.eqAV_flat,eqFlat,eqScalar,and_self,Bool.and_self,beq_self_eq_true,bne_self_eq_false,hw]
            repeat (refine ⟨by first | rfl | decide | omega | (simp only [List.length_map,List.length_set,and_true]; omega),?_⟩)
            refine gc_auto [0,1,2,3,6] [7,6,5,1,0] [] ?_
            simp only [AH.SD,AH.SE,AOp.call?,AOp.next?,bstep,AV.cells,unAV,binAV,retQ,retV,AH.sliceElems,AH.bytesOf,AH.strOp,AH.bound,AH.missQ,AH.minmaxAV,AH.readOf,AH.effOf,Nat.reduceBEq,Nat.reduceAdd,Nat.reduceLT,↓reduceIte,Nat.reduceEqDiff,Nat.reduceLeDiff,Nat.reduceSub,Nat.reduceMul,Int.reduceSub,Int.reduceToNat,Int.reduceBEq,Int.reduceBNe,Int.reduceLT,Int.reduceGT,Int.reduceLE,Int.reduceGE,Int.reduceNeg,Int.reduceAdd,AH.SP,AH.PD,AV.inB,vstep,sp_in,sp_ren,ev_in,ev_ren]
            exact done
      · obtain ⟨t',ht'⟩ : ∃ t',delEx t aw = t':=⟨_,rfl⟩
        have hr':=rel_ex hr aw
        have htl':=(del_len t aw).1
        rw [ht'] at hr' htl'
        have hlen:=kpL_len l aw 0 false
        obtain ⟨l',hl'⟩ : ∃ l',kpL l aw 0 false = l':=⟨_,rfl⟩
        rw [hl'] at hr' hlen
        have o:=hr'.eq ⟨aj,aw⟩
        have hl'm : l'.length ≤ 1048576:=by omega
        have hlm : l.length ≤ 1048576:=by omega
        have done:=ih (i + 1,t',.sl (capO l'.length) l') ⟨hil,h6,hr',by show l'.length ≤ i + 1; omega,by show t'.L.length ≤ i + 1; omega,rfl,trivial⟩ (by show _ - _ < _ - _; simp only; omega)
        simp only [exSt_sl] at done
        cases hg : decide ((cnt l' aj aw false : Int) < bud)
        · have lf:=left_eq hr' hl'm ⟨aj,aw⟩ hbud
          simp only [gt_iff_lt] at lf
          rw [if_neg (of_decide_eq_false hg)] at lf
          simp only [AH.SD,AH.SE,AOp.call?,AOp.next?,bstep,AV.cells,unAV,binAV,retQ,retV,AH.sliceElems,AH.bytesOf,AH.strOp,AH.bound,AH.missQ,AH.minmaxAV,AH.readOf,AH.effOf,Nat.reduceBEq,Nat.reduceAdd,Nat.reduceLT,↓reduceIte,Nat.reduceEqDiff,Nat.reduceLeDiff,Nat.reduceSub,Nat.reduceMul,Int.reduceSub,Int.reduceToNat,Int.reduceBEq,Int.reduceBNe,Int.reduceLT,Int.reduceGT,Int.reduceLE,Int.reduceGE,Int.reduceNeg,Int.reduceAdd,AH.SP,AH.PD,AV.inB,vstep,vw,shift,newOnes,rowsM,blkIn,rwB,@flat_lts,AV.lt,AV.lts,Nat.sub_self,AH.SO,exSt_nil,exSt_sl,hd1,hd2,getD_enc,hil,ha,Ac.cells_eq,List.length_map,h4,ofT_p,lfT_p,ctT_p,adN_p,exN_p,drN_p,liN_p,sp_in,sp_ren,spR_eq,spB_eq,AH.MS.Mp.eta,ne_eq,Nat.reduceEqDiff,Nat.zero_ne_one,not_false_eq_true,uR_nil,uR_sl,uB_eq,UB.l_nil,UB.l_sl,ev_in,ev_ren,exE_p,ht',hwf,spM,kpT_p,keepU_sl,hl',hl'm,hlm,gt_iff_lt,o,lf,hg,SC.av,AH.eqAV_flat,eqFlat,eqScalar,and_self,Bool.and_self,beq_self_eq_true,bne_self_eq_false,hw]
          repeat (refine ⟨by first | rfl | decide | omega | (simp only [List.length_map,List.length_set,and_true]; omega),?_⟩)
          refine gc_auto [0,1,2,3,6] [7,6,5,1,0] [] ?_
          simp only [AH.SD,AH.SE,AOp.call?,AOp.next?,bstep,AV.cells,unAV,binAV,retQ,retV,AH.sliceElems,AH.bytesOf,AH.strOp,AH.bound,AH.missQ,AH.minmaxAV,AH.readOf,AH.effOf,Nat.reduceBEq,Nat.reduceAdd,Nat.reduceLT,↓reduceIte,Nat.reduceEqDiff,Nat.reduceLeDiff,Nat.reduceSub,Nat.reduceMul,Int.reduceSub,Int.reduceToNat,Int.reduceBEq,Int.reduceBNe,Int.reduceLT,Int.reduceGT,Int.reduceLE,Int.reduceGE,Int.reduceNeg,Int.reduceAdd,AH.SP,AH.PD,AV.inB,vstep,sp_in,sp_ren,ev_in,ev_ren]
          exact done
        · have lf:=left_eq hr' hl'm ⟨aj,aw⟩ hbud
          simp only [gt_iff_lt] at lf
          rw [if_pos (of_decide_eq_true hg)] at lf
          simp only [AH.SD,AH.SE,AOp.call?,AOp.next?,bstep,AV.cells,unAV,binAV,retQ,retV,AH.sliceElems,AH.bytesOf,AH.strOp,AH.bound,AH.missQ,AH.minmaxAV,AH.readOf,AH.effOf,Nat.reduceBEq,Nat.reduceAdd,Nat.reduceLT,↓reduceIte,Nat.reduceEqDiff,Nat.reduceLeDiff,Nat.reduceSub,Nat.reduceMul,Int.reduceSub,Int.reduceToNat,Int.reduceBEq,Int.reduceBNe,Int.reduceLT,Int.reduceGT,Int.reduceLE,Int.reduceGE,Int.reduceNeg,Int.reduceAdd,AH.SP,AH.PD,AV.inB,vstep,vw,shift,newOnes,rowsM,blkIn,rwB,@flat_lts,AV.lt,AV.lts,Nat.sub_self,AH.SO,exSt_nil,exSt_sl,hd1,hd2,getD_enc,hil,ha,Ac.cells_eq,List.length_map,h4,ofT_p,lfT_p,ctT_p,adN_p,exN_p,drN_p,liN_p,sp_in,sp_ren,spR_eq,spB_eq,AH.MS.Mp.eta,ne_eq,Nat.reduceEqDiff,Nat.zero_ne_one,not_false_eq_true,uR_nil,uR_sl,uB_eq,UB.l_nil,UB.l_sl,ev_in,ev_ren,exE_p,ht',hwf,spM,kpT_p,keepU_sl,hl',hl'm,hlm,gt_iff_lt,o,lf,hg,SC.av,AH.eqAV_flat,eqFlat,eqScalar,and_self,Bool.and_self,beq_self_eq_true,bne_self_eq_false,hw]
          repeat (refine ⟨by first | rfl | decide | omega | (simp only [List.length_map,List.length_set,and_true]; omega),?_⟩)
          refine gc_auto [0,1,2,3,6] [7,6,5,1,0] [] ?_
          simp only [AH.SD,AH.SE,AOp.call?,AOp.next?,bstep,AV.cells,unAV,binAV,retQ,retV,AH.sliceElems,AH.bytesOf,AH.strOp,AH.bound,AH.missQ,AH.minmaxAV,AH.readOf,AH.effOf,Nat.reduceBEq,Nat.reduceAdd,Nat.reduceLT,↓reduceIte,Nat.reduceEqDiff,Nat.reduceLeDiff,Nat.reduceSub,Nat.reduceMul,Int.reduceSub,Int.reduceToNat,Int.reduceBEq,Int.reduceBNe,Int.reduceLT,Int.reduceGT,Int.reduceLE,Int.reduceGE,Int.reduceNeg,Int.reduceAdd,AH.SP,AH.PD,AV.inB,vstep,sp_in,sp_ren,ev_in,ev_ren]
          exact done
  · have hx : decide ((i : Int) < (acts.length : Int)) = false ∨ decide ((i : Int) < (acts.length : Int)) = true ∧ decide ((i : Int) < 60) = false:=by
      simp only [decide_eq_false_iff_not,decide_eq_true_eq]; omega
    clear ih
    have htm : t.L.length ≤ 1048576:=by omega
    have hbk:=hr.bk
    have hlv : (t.L = [] ∧ liV t = (.nils,spM t)) ∨ (t.L ≠ [] ∧ liV t = (.slc 2 0 (listB t).length none,spM t ++ [some (.row false 4 ((listB t).map SC.cells))])):=by
      unfold liV
      by_cases q : t.L = []
      · exact .inl ⟨q,if_pos q⟩
      · exact .inr ⟨q,if_neg q⟩
    have hsm:=li_sum hr
    have hll0 : t.L = [] → u.l.length = 0:=fun q =>by rw [← hsm]; simp [listB,q,smL]
    rcases hlv with ⟨hz,hv⟩ | ⟨hz,hv⟩
    · have h0:=hll0 hz
      cases u with
      | nil =>
        rcases hx with hd1 | ⟨hd1,hd2⟩
        all_goals
          first
          | simp only [AH.SD,AH.SE,AOp.call?,AOp.next?,bstep,AV.cells,unAV,binAV,retQ,retV,AH.sliceElems,AH.bytesOf,AH.strOp,AH.bound,AH.missQ,AH.minmaxAV,AH.readOf,AH.effOf,Nat.reduceBEq,Nat.reduceAdd,Nat.reduceLT,↓reduceIte,Nat.reduceEqDiff,Nat.reduceLeDiff,Nat.reduceSub,Nat.reduceMul,Int.reduceSub,Int.reduceToNat,Int.reduceBEq,Int.reduceBNe,Int.reduceLT,Int.reduceGT,Int.reduceLE,Int.reduceGE,Int.reduceNeg,Int.reduceAdd,AH.SP,AH.PD,AV.inB,vstep,vw,shift,newOnes,rowsM,blkIn,rwB,@flat_lts,AV.lt,AV.lts,Nat.sub_self,AH.SO,exSt_nil,hd1,hd2,ofT_p,lfT_p,ctT_p,adN_p,exN_p,drN_p,liN_p,sp_in,sp_ren,spR_eq,spB_eq,AH.MS.Mp.eta,ne_eq,Nat.reduceEqDiff,Nat.zero_ne_one,not_false_eq_true,uR_nil,uR_sl,uB_eq,UB.l_nil,UB.l_sl,ev_in,ev_ren,spM,liE_p,hbk,htm,hv,and_self]
          | simp only [AH.SD,AH.SE,AOp.call?,AOp.next?,bstep,AV.cells,unAV,binAV,retQ,retV,AH.sliceElems,AH.bytesOf,AH.strOp,AH.bound,AH.missQ,AH.minmaxAV,AH.readOf,AH.effOf,Nat.reduceBEq,Nat.reduceAdd,Nat.reduceLT,↓reduceIte,Nat.reduceEqDiff,Nat.reduceLeDiff,Nat.reduceSub,Nat.reduceMul,Int.reduceSub,Int.reduceToNat,Int.reduceBEq,Int.reduceBNe,Int.reduceLT,Int.reduceGT,Int.reduceLE,Int.reduceGE,Int.reduceNeg,Int.reduceAdd,AH.SP,AH.PD,AV.inB,vstep,vw,shift,newOnes,rowsM,blkIn,rwB,@flat_lts,AV.lt,AV.lts,Nat.sub_self,AH.SO,exSt_nil,hd1,ofT_p,lfT_p,ctT_p,adN_p,exN_p,drN_p,liN_p,sp_in,sp_ren,spR_eq,spB_eq,AH.MS.Mp.eta,ne_eq,Nat.reduceEqDiff,Nat.zero_ne_one,not_false_eq_true,uR_nil,uR_sl,uB_eq,UB.l_nil,UB.l_sl,ev_in,ev_ren,spM,liE_p,hbk,htm,hv,and_self]
        all_goals
          refine loop_unroll ctxE_monoB ?_
          simp only [AH.SD,AH.SE,AOp.call?,AOp.next?,bstep,AV.cells,unAV,binAV,retQ,retV,AH.sliceElems,AH.bytesOf,AH.strOp,AH.bound,AH.missQ,AH.minmaxAV,AH.readOf,AH.effOf,Nat.reduceBEq,Nat.reduceAdd,Nat.reduceLT,↓reduceIte,Nat.reduceEqDiff,Nat.reduceLeDiff,Nat.reduceSub,Nat.reduceMul,Int.reduceSub,Int.reduceToNat,Int.reduceBEq,Int.reduceBNe,Int.reduceLT,Int.reduceGT,Int.reduceLE,Int.reduceGE,Int.reduceNeg,Int.reduceAdd,AH.SP,AH.PD,AV.inB,vstep,vw,shift,newOnes,rowsM,blkIn,rwB,@flat_lts,AV.lt,AV.lts,Nat.sub_self,AH.SO,exN_n,drN_n,adN_n,isT_nn,ofT_n,lfT_5,lfT_5n,liN_n,AH.eqAV_flat,eqFlat,eqScalar]
          try trivial
      | sl c l =>
        have h0' : l.length = 0:=h0
        obtain rfl : l = []:=List.eq_nil_of_length_eq_zero h0'
        rcases hx with hd1 | ⟨hd1,hd2⟩
        all_goals
          first
          | simp only [AH.SD,AH.SE,AOp.call?,AOp.next?,bstep,AV.cells,unAV,binAV,retQ,retV,AH.sliceElems,AH.bytesOf,AH.strOp,AH.bound,AH.missQ,AH.minmaxAV,AH.readOf,AH.effOf,Nat.reduceBEq,Nat.reduceAdd,Nat.reduceLT,↓reduceIte,Nat.reduceEqDiff,Nat.reduceLeDiff,Nat.reduceSub,Nat.reduceMul,Int.reduceSub,Int.reduceToNat,Int.reduceBEq,Int.reduceBNe,Int.reduceLT,Int.reduceGT,Int.reduceLE,Int.reduceGE,Int.reduceNeg,Int.reduceAdd,AH.SP,AH.PD,AV.inB,vstep,vw,shift,newOnes,rowsM,blkIn,rwB,@flat_lts,AV.lt,AV.lts,Nat.sub_self,AH.SO,exSt_sl,hd1,hd2,ofT_p,lfT_p,ctT_p,adN_p,exN_p,drN_p,liN_p,sp_in,sp_ren,spR_eq,spB_eq,AH.MS.Mp.eta,ne_eq,Nat.reduceEqDiff,Nat.zero_ne_one,not_false_eq_true,uR_nil,uR_sl,uB_eq,UB.l_nil,UB.l_sl,ev_in,ev_ren,spM,liE_p,hbk,htm,hv,and_self]
          | simp only [AH.SD,AH.SE,AOp.call?,AOp.next?,bstep,AV.cells,unAV,binAV,retQ,retV,AH.sliceElems,AH.bytesOf,AH.strOp,AH.bound,AH.missQ,AH.minmaxAV,AH.readOf,AH.effOf,Nat.reduceBEq,Nat.reduceAdd,Nat.reduceLT,↓reduceIte,Nat.reduceEqDiff,Nat.reduceLeDiff,Nat.reduceSub,Nat.reduceMul,Int.reduceSub,Int.reduceToNat,Int.reduceBEq,Int.reduceBNe,Int.reduceLT,Int.reduceGT,Int.reduceLE,Int.reduceGE,Int.reduceNeg,Int.reduceAdd,AH.SP,AH.PD,AV.inB,vstep,vw,shift,newOnes,rowsM,blkIn,rwB,@flat_lts,AV.lt,AV.lts,Nat.sub_self,AH.SO,exSt_sl,hd1,ofT_p,lfT_p,ctT_p,adN_p,exN_p,drN_p,liN_p,sp_in,sp_ren,spR_eq,spB_eq,AH.MS.Mp.eta,ne_eq,Nat.reduceEqDiff,Nat.zero_ne_one,not_false_eq_true,uR_nil,uR_sl,uB_eq,UB.l_nil,UB.l_sl,ev_in,ev_ren,spM,liE_p,hbk,htm,hv,and_self]
        all_goals
          refine loop_unroll ctxE_monoB ?_
          simp only [AH.SD,AH.SE,AOp.call?,AOp.next?,bstep,AV.cells,unAV,binAV,retQ,retV,AH.sliceElems,AH.bytesOf,AH.strOp,AH.bound,AH.missQ,AH.minmaxAV,AH.readOf,AH.effOf,Nat.reduceBEq,Nat.reduceAdd,Nat.reduceLT,↓reduceIte,Nat.reduceEqDiff,Nat.reduceLeDiff,Nat.reduceSub,Nat.reduceMul,Int.reduceSub,Int.reduceToNat,Int.reduceBEq,Int.reduceBNe,Int.reduceLT,Int.reduceGT,Int.reduceLE,Int.reduceGE,Int.reduceNeg,Int.reduceAdd,AH.SP,AH.PD,AV.inB,vstep,vw,shift,newOnes,rowsM,blkIn,rwB,@flat_lts,AV.lt,AV.lts,Nat.sub_self,AH.SO,exN_n,drN_n,adN_n,isT_nn,ofT_n,lfT_5,lfT_5n,liN_n,AH.eqAV_flat,eqFlat,eqScalar,List.length_nil]
          try trivial
    · cases u with
      | nil =>
        exact absurd hnp hz
      | sl c l =>
        have hlm : l.length ≤ 1048576:=by simp only [UB.l_sl] at hll; omega
        have hl60 : l.length ≤ 60:=by simp only [UB.l_sl] at hll; omega
        simp only [UB.l_sl] at hsm hr
        have hlen : (listB t).length ≤ 60:=by unfold listB; rw [List.length_mergeSort,List.length_map]; omega
        rcases hx with hd1 | ⟨hd1,hd2⟩
        all_goals
          first
          | simp only [AH.SD,AH.SE,AOp.call?,AOp.next?,bstep,AV.cells,unAV,binAV,retQ,retV,AH.sliceElems,AH.bytesOf,AH.strOp,AH.bound,AH.missQ,AH.minmaxAV,AH.readOf,AH.effOf,Nat.reduceBEq,Nat.reduceAdd,Nat.reduceLT,↓reduceIte,Nat.reduceEqDiff,Nat.reduceLeDiff,Nat.reduceSub,Nat.reduceMul,Int.reduceSub,Int.reduceToNat,Int.reduceBEq,Int.reduceBNe,Int.reduceLT,Int.reduceGT,Int.reduceLE,Int.reduceGE,Int.reduceNeg,Int.reduceAdd,AH.SP,AH.PD,AV.inB,vstep,vw,shift,newOnes,rowsM,blkIn,rwB,@flat_lts,AV.lt,AV.lts,Nat.sub_self,AH.SO,exSt_sl,hd1,hd2,ofT_p,lfT_p,ctT_p,adN_p,exN_p,drN_p,liN_p,sp_in,sp_ren,spR_eq,spB_eq,AH.MS.Mp.eta,ne_eq,Nat.reduceEqDiff,Nat.zero_ne_one,not_false_eq_true,uR_nil,uR_sl,uB_eq,UB.l_nil,UB.l_sl,ev_in,ev_ren,spM,liE_p,hbk,htm,hv,and_self]
          | simp only [AH.SD,AH.SE,AOp.call?,AOp.next?,bstep,AV.cells,unAV,binAV,retQ,retV,AH.sliceElems,AH.bytesOf,AH.strOp,AH.bound,AH.missQ,AH.minmaxAV,AH.readOf,AH.effOf,Nat.reduceBEq,Nat.reduceAdd,Nat.reduceLT,↓reduceIte,Nat.reduceEqDiff,Nat.reduceLeDiff,Nat.reduceSub,Nat.reduceMul,Int.reduceSub,Int.reduceToNat,Int.reduceBEq,Int.reduceBNe,Int.reduceLT,Int.reduceGT,Int.reduceLE,Int.reduceGE,Int.reduceNeg,Int.reduceAdd,AH.SP,AH.PD,AV.inB,vstep,vw,shift,newOnes,rowsM,blkIn,rwB,@flat_lts,AV.lt,AV.lts,Nat.sub_self,AH.SO,exSt_sl,hd1,ofT_p,lfT_p,ctT_p,adN_p,exN_p,drN_p,liN_p,sp_in,sp_ren,spR_eq,spB_eq,AH.MS.Mp.eta,ne_eq,Nat.reduceEqDiff,Nat.zero_ne_one,not_false_eq_true,uR_nil,uR_sl,uB_eq,UB.l_nil,UB.l_sl,ev_in,ev_ren,spM,liE_p,hbk,htm,hv,and_self]
        all_goals
          refine loop_do [0,3,4,5] [13,12,11,6] [] (α:=Nat) (fun j =>(listB t).length - j) (liSt (some (.row true 3 (acts.map Ac.cells))) l c (listB t)) (fun j =>j ≤ (listB t).length) 0 (Nat.zero_le _) (by simp only [AH.SD,AH.SE,AOp.call?,AOp.next?,bstep,AV.cells,unAV,binAV,retQ,retV,AH.sliceElems,AH.bytesOf,AH.strOp,AH.bound,AH.missQ,AH.minmaxAV,AH.readOf,AH.effOf,Nat.reduceBEq,Nat.reduceAdd,Nat.reduceLT,↓reduceIte,Nat.reduceEqDiff,Nat.reduceLeDiff,Nat.reduceSub,Nat.reduceMul,Int.reduceSub,Int.reduceToNat,Int.reduceBEq,Int.reduceBNe,Int.reduceLT,Int.reduceGT,Int.reduceLE,Int.reduceGE,Int.reduceNeg,Int.reduceAdd,AH.SP,AH.PD,AV.inB,vstep,liSt,ev_in,ev_ren,List.take_zero] <;> rfl) ?_
          intro Y j hj ih
          simp only [AH.SD,AH.SE,AOp.call?,AOp.next?,bstep,AV.cells,unAV,binAV,retQ,retV,AH.sliceElems,AH.bytesOf,AH.strOp,AH.bound,AH.missQ,AH.minmaxAV,AH.readOf,AH.effOf,Nat.reduceBEq,Nat.reduceAdd,Nat.reduceLT,↓reduceIte,Nat.reduceEqDiff,Nat.reduceLeDiff,Nat.reduceSub,Nat.reduceMul,Int.reduceSub,Int.reduceToNat,Int.reduceBEq,Int.reduceBNe,Int.reduceLT,Int.reduceGT,Int.reduceLE,Int.reduceGE,Int.reduceNeg,Int.reduceAdd,AH.SP,AH.PD,AV.inB,vstep,vw,shift,newOnes,rowsM,blkIn,rwB,@flat_lts,AV.lt,AV.lts,Nat.sub_self,AH.SO,liSt]
          refine ⟨fun hlt => ?_,fun hlt => ?_⟩
          · have hjl:=lt_of_dec hlt
            have hw:=wrapS (i:=j) (by omega)
            have done:=ih (j + 1) hjl (by omega)
            simp only [liSt] at done
            have hle:=smL_le l (listB t) (j + 1)
            rw [smL_s hjl] at hle done
            rw [hsm] at hle
            have hq:=li_eq hr (List.getElem_mem hjl)
            have hlo:=li_le hbk (i:=j)
            have hls:=li_lt hbk (i:=j)
            generalize smL l ((listB t).take j) = sm at *
            have hm : 0 < j → IntKind.i64.wrap ((j : Int) - 1) = ((j - 1 : Nat) : Int):=fun q =>by rw [IntKind.wrap_i64]; omega
            have hjl1 : j - 1 < (listB t).length:=by omega
            unfold ckE at hle done
            have f1:=i_bne hq.1
            have f2:=i_bne hq.2
            generalize hc1 : cnt l (listB t)[j].j (listB t)[j].w false = c1 at *
            generalize hc2 : cnt l (listB t)[j].j (listB t)[j].w true = c2 at *
            have s1 : IntKind.i64.wrap ((sm : Int) + (c1 : Int)) = ((sm + c1 : Nat) : Int):=by rw [IntKind.wrap_i64]; omega
            have s2 : IntKind.i64.wrap (((sm + c1 : Nat) : Int) + (c2 : Int)) = ((sm + (c1 + c2) : Nat) : Int):=by rw [IntKind.wrap_i64]; omega
            rcases Nat.eq_zero_or_pos j with hj0 | hj0
            · have hg : decide ((j : Int) > 0) = false:=by simp only [decide_eq_false_iff_not]; omega
              simp only [AH.SD,AH.SE,AOp.call?,AOp.next?,bstep,AV.cells,unAV,binAV,retQ,retV,AH.sliceElems,AH.bytesOf,AH.strOp,AH.bound,AH.missQ,AH.minmaxAV,AH.readOf,AH.effOf,Nat.reduceBEq,Nat.reduceAdd,Nat.reduceLT,↓reduceIte,Nat.reduceEqDiff,Nat.reduceLeDiff,Nat.reduceSub,Nat.reduceMul,Int.reduceSub,Int.reduceToNat,Int.reduceBEq,Int.reduceBNe,Int.reduceLT,Int.reduceGT,Int.reduceLE,Int.reduceGE,Int.reduceNeg,Int.reduceAdd,AH.SP,AH.PD,AV.inB,vstep,vw,shift,newOnes,rowsM,blkIn,rwB,@flat_lts,AV.lt,AV.lts,Nat.sub_self,AH.SO,getD_enc,hjl,SC.cells_eq,List.length_map,ofT_p,lfT_p,ctT_p,adN_p,exN_p,drN_p,liN_p,sp_in,sp_ren,spR_eq,spB_eq,AH.MS.Mp.eta,ne_eq,Nat.reduceEqDiff,Nat.zero_ne_one,not_false_eq_true,uR_nil,uR_sl,uB_eq,UB.l_nil,UB.l_sl,ev_in,ev_ren,hlm,hc1,hc2,f1,f2,hg,hq.1,hq.2,bne_self_eq_false,s1,s2,hw]
              repeat (refine ⟨by first | rfl | decide | omega | (simp only [List.length_map,List.length_set,and_true]; omega),?_⟩)
              refine gc_auto [0,1,2,3] [13,12,11,6] [] ?_
              simp only [AH.SD,AH.SE,AOp.call?,AOp.next?,bstep,AV.cells,unAV,binAV,retQ,retV,AH.sliceElems,AH.bytesOf,AH.strOp,AH.bound,AH.missQ,AH.minmaxAV,AH.readOf,AH.effOf,Nat.reduceBEq,Nat.reduceAdd,Nat.reduceLT,↓reduceIte,Nat.reduceEqDiff,Nat.reduceLeDiff,Nat.reduceSub,Nat.reduceMul,Int.reduceSub,Int.reduceToNat,Int.reduceBEq,Int.reduceBNe,Int.reduceLT,Int.reduceGT,Int.reduceLE,Int.reduceGE,Int.reduceNeg,Int.reduceAdd,AH.SP,AH.PD,AV.inB,vstep,ev_in,ev_ren]
              exact done
            · have hg : decide ((j : Int) > 0) = true:=by simp only [decide_eq_true_eq]; omega
              have hm':=hm hj0
              have g1:=hlo hj0 hjl
              cases g2 : ((listB t)[j - 1].j == (listB t)[j].j)
              · simp only [AH.SD,AH.SE,AOp.call?,AOp.next?,bstep,AV.cells,unAV,binAV,retQ,retV,AH.sliceElems,AH.bytesOf,AH.strOp,AH.bound,AH.missQ,AH.minmaxAV,AH.readOf,AH.effOf,Nat.reduceBEq,Nat.reduceAdd,Nat.reduceLT,↓reduceIte,Nat.reduceEqDiff,Nat.reduceLeDiff,Nat.reduceSub,Nat.reduceMul,Int.reduceSub,Int.reduceToNat,Int.reduceBEq,Int.reduceBNe,Int.reduceLT,Int.reduceGT,Int.reduceLE,Int.reduceGE,Int.reduceNeg,Int.reduceAdd,AH.SP,AH.PD,AV.inB,vstep,vw,shift,newOnes,rowsM,blkIn,rwB,@flat_lts,AV.lt,AV.lts,Nat.sub_self,AH.SO,getD_enc,hjl,hjl1,SC.cells_eq,List.length_map,ofT_p,lfT_p,ctT_p,adN_p,exN_p,drN_p,liN_p,sp_in,sp_ren,spR_eq,spB_eq,AH.MS.Mp.eta,ne_eq,Nat.reduceEqDiff,Nat.zero_ne_one,not_false_eq_true,uR_nil,uR_sl,uB_eq,UB.l_nil,UB.l_sl,ev_in,ev_ren,hlm,hc1,hc2,f1,f2,hg,hm',g1,g2,hq.1,hq.2,bne_self_eq_false,s1,s2,hw]
                repeat (refine ⟨by first | rfl | decide | omega | (simp only [List.length_map,List.length_set,and_true]; omega),?_⟩)
                refine gc_auto [0,1,2,3] [13,12,11,6] [] ?_
                simp only [AH.SD,AH.SE,AOp.call?,AOp.next?,bstep,AV.cells,unAV,binAV,retQ,retV,AH.sliceElems,AH.bytesOf,AH.strOp,AH.bound,AH.missQ,AH.minmaxAV,AH.readOf,AH.effOf,Nat.reduceBEq,Nat.reduceAdd,Nat.reduceLT,↓reduceIte,Nat.reduceEqDiff,Nat.reduceLeDiff,Nat.reduceSub,Nat.reduceMul,Int.reduceSub,Int.reduceToNat,Int.reduceBEq,Int.reduceBNe,Int.reduceLT,Int.reduceGT,Int.reduceLE,Int.reduceGE,Int.reduceNeg,Int.reduceAdd,AH.SP,AH.PD,AV.inB,vstep,ev_in,ev_ren]
                exact done
              · have g3:=hls hj0 hjl ⟨g1,g2⟩
                simp only [AH.SD,AH.SE,AOp.call?,AOp.next?,bstep,AV.cells,unAV,binAV,retQ,retV,AH.sliceElems,AH.bytesOf,AH.strOp,AH.bound,AH.missQ,AH.minmaxAV,AH.readOf,AH.effOf,Nat.reduceBEq,Nat.reduceAdd,Nat.reduceLT,↓reduceIte,Nat.reduceEqDiff,Nat.reduceLeDiff,Nat.reduceSub,Nat.reduceMul,Int.reduceSub,Int.reduceToNat,Int.reduceBEq,Int.reduceBNe,Int.reduceLT,Int.reduceGT,Int.reduceLE,Int.reduceGE,Int.reduceNeg,Int.reduceAdd,AH.SP,AH.PD,AV.inB,vstep,vw,shift,newOnes,rowsM,blkIn,rwB,@flat_lts,AV.lt,AV.lts,Nat.sub_self,AH.SO,getD_enc,hjl,hjl1,SC.cells_eq,List.length_map,ofT_p,lfT_p,ctT_p,adN_p,exN_p,drN_p,liN_p,sp_in,sp_ren,spR_eq,spB_eq,AH.MS.Mp.eta,ne_eq,Nat.reduceEqDiff,Nat.zero_ne_one,not_false_eq_true,uR_nil,uR_sl,uB_eq,UB.l_nil,UB.l_sl,ev_in,ev_ren,hlm,hc1,hc2,f1,f2,hg,hm',g1,g2,g3,hq.1,hq.2,bne_self_eq_false,s1,s2,hw]
                repeat (refine ⟨by first | rfl | decide | omega | (simp only [List.length_map,List.length_set,and_true]; omega),?_⟩)
                refine gc_auto [0,1,2,3] [13,12,11,6] [] ?_
                simp only [AH.SD,AH.SE,AOp.call?,AOp.next?,bstep,AV.cells,unAV,binAV,retQ,retV,AH.sliceElems,AH.bytesOf,AH.strOp,AH.bound,AH.missQ,AH.minmaxAV,AH.readOf,AH.effOf,Nat.reduceBEq,Nat.reduceAdd,Nat.reduceLT,↓reduceIte,Nat.reduceEqDiff,Nat.reduceLeDiff,Nat.reduceSub,Nat.reduceMul,Int.reduceSub,Int.reduceToNat,Int.reduceBEq,Int.reduceBNe,Int.reduceLT,Int.reduceGT,Int.reduceLE,Int.reduceGE,Int.reduceNeg,Int.reduceAdd,AH.SP,AH.PD,AV.inB,vstep,ev_in,ev_ren]
                exact done
          · have hjl:=ge_of_dec hlt
            obtain rfl : j = (listB t).length:=by omega
            simp only [AH.SD,AH.SE,AOp.call?,AOp.next?,bstep,AV.cells,unAV,binAV,retQ,retV,AH.sliceElems,AH.bytesOf,AH.strOp,AH.bound,AH.missQ,AH.minmaxAV,AH.readOf,AH.effOf,Nat.reduceBEq,Nat.reduceAdd,Nat.reduceLT,↓reduceIte,Nat.reduceEqDiff,Nat.reduceLeDiff,Nat.reduceSub,Nat.reduceMul,Int.reduceSub,Int.reduceToNat,Int.reduceBEq,Int.reduceBNe,Int.reduceLT,Int.reduceGT,Int.reduceLE,Int.reduceGE,Int.reduceNeg,Int.reduceAdd,AH.SP,AH.PD,AV.inB,vstep,vw,shift,newOnes,rowsM,blkIn,rwB,@flat_lts,AV.lt,AV.lts,Nat.sub_self,AH.SO,List.take_length,hsm,beq_self_eq_true,exN_n,drN_n,adN_n,isT_nn,ofT_n,lfT_5,lfT_5n,liN_n,AH.eqAV_flat,eqFlat,eqScalar]
            try trivial
end Go.Proofs.YtamkjgiemconbaaDoor.D19
