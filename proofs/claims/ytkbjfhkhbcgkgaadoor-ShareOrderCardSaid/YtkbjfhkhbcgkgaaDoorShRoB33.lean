import Derived.Test.YtkbjfhkhbcgkgaaDoorFShOB33
import Derived.Test.YtkbjfhkhbcgkgaaDoorShOB33
import Derived.Test.YtkbjfhkhbcgkgaaDoorSrtTB33
import Derived.Test.YtkbjfhkhbcgkgaaDoorShAB33
import Derived.Test.YtkbjfhkhbcgkgaaDoorSrtQB33
open Go AH
set_option linter.unusedSimpArgs false
set_option maxRecDepth 100000
namespace Go.Proofs.YtkbjfhkhbcgkgaaDoor.B33
theorem okG33 : CtxOK S0 (ctxU S0 [(25,goodT)] []):=ctxU_ok ⟨rgoodT_ok,trivial⟩ trivial mixed
def good33 (l : List V4) (w : V4) : Bool:=l.all good && (good w && decide (l.length ≤ 1000))
set_option maxRecDepth 100000 in
theorem good33_ok (l : List V4) (w : V4) (hl : l.length ≤ 1048576) : CallA1 S0 38 [.slc 0 0 l.length none,.agg w.cells] [some (.row true 4 (l.map V4.cells))] fun r _ =>r = .bool (good33 l w):=by
  refine fun_sound okG33 Tryd.func38 c38 ?_
  unfold wpF F38
  simp only [AH.SD,AH.SE,AOp.call?,AOp.next?,bstep,AV.cells,unAV,binAV,retQ,retV,AH.sliceElems,AH.bytesOf,AH.strOp,AH.bound,AH.missQ,AH.minmaxAV,AH.readOf,AH.effOf,Nat.reduceBEq,Nat.reduceAdd,Nat.reduceLT,↓reduceIte,Nat.reduceEqDiff,Nat.reduceLeDiff,Nat.reduceSub,Nat.reduceMul,Int.reduceSub,Int.reduceToNat,Int.reduceBEq,Int.reduceBNe,Int.reduceLT,Int.reduceGT,Int.reduceLE,Int.reduceGE,Int.reduceNeg,Int.reduceAdd,V4.cells_eq]
  refine loop_do [0,1] [5,3,0] [] (α:=Nat) (fun i =>l.length - i) (fun i =>⟨[(5,.int .i64 i),(3,.ptr 1 0 0),(0,.slc 0 0 l.length none)],[some (.row true 4 (l.map V4.cells)),some (.row false 4 [w.cells])]⟩) (fun i =>i ≤ l.length ∧ (l.take i).all good = true) 0 ⟨Nat.zero_le _,rfl⟩ (by simp only [AH.SD,AH.SE,AOp.call?,AOp.next?,bstep,AV.cells,unAV,binAV,retQ,retV,AH.sliceElems,AH.bytesOf,AH.strOp,AH.bound,AH.missQ,AH.minmaxAV,AH.readOf,AH.effOf,Nat.reduceBEq,Nat.reduceAdd,Nat.reduceLT,↓reduceIte,Nat.reduceEqDiff,Nat.reduceLeDiff,Nat.reduceSub,Nat.reduceMul,Int.reduceSub,Int.reduceToNat,Int.reduceBEq,Int.reduceBNe,Int.reduceLT,Int.reduceGT,Int.reduceLE,Int.reduceGE,Int.reduceNeg,Int.reduceAdd,AH.SP,AH.PD,AV.inB,vstep,V4.cells_eq]) ?_
  rintro X i ⟨hi,hal⟩ ih
  simp only [AH.SD,AH.SE,AOp.call?,AOp.next?,bstep,AV.cells,unAV,binAV,retQ,retV,AH.sliceElems,AH.bytesOf,AH.strOp,AH.bound,AH.missQ,AH.minmaxAV,AH.readOf,AH.effOf,Nat.reduceBEq,Nat.reduceAdd,Nat.reduceLT,↓reduceIte,Nat.reduceEqDiff,Nat.reduceLeDiff,Nat.reduceSub,Nat.reduceMul,Int.reduceSub,Int.reduceToNat,Int.reduceBEq,Int.reduceBNe,Int.reduceLT,Int.reduceGT,Int.reduceLE,Int.reduceGE,Int.reduceNeg,Int.reduceAdd,V4.cells_eq]
  refine ⟨fun hlt => ?_,fun hlt => ?_⟩
  · have hil:=lt_of_dec hlt
    have hwi:=wrapS (i:=i) (by omega)
    cases hq : good l[i]
    · have hz : good33 l w = false:=by
        have : l.all good = false:=by rw [List.all_eq_false]; exact ⟨l[i],List.getElem_mem hil,by rw [hq]; exact Bool.false_ne_true⟩
        rw [good33,this]; rfl
      simp only [AH.SD,AH.SE,AOp.call?,AOp.next?,bstep,AV.cells,unAV,binAV,retQ,retV,AH.sliceElems,AH.bytesOf,AH.strOp,AH.bound,AH.missQ,AH.minmaxAV,AH.readOf,AH.effOf,Nat.reduceBEq,Nat.reduceAdd,Nat.reduceLT,↓reduceIte,Nat.reduceEqDiff,Nat.reduceLeDiff,Nat.reduceSub,Nat.reduceMul,Int.reduceSub,Int.reduceToNat,Int.reduceBEq,Int.reduceBNe,Int.reduceLT,Int.reduceGT,Int.reduceLE,Int.reduceGE,Int.reduceNeg,Int.reduceAdd,getD_enc,hil,V4.cells_eq,goodT_eq,V4.eta,hq,take_all,List.length_map,hwi,hz]
      repeat (refine ⟨by first | rfl | decide | omega | (simp only [List.length_map,List.length_set,and_true]; omega),?_⟩)
      try trivial
    · have done:=ih (i + 1) ⟨hil,by rw [List.take_succ_eq_append_getElem hil,List.all_append,hal,List.all_cons,hq]; rfl⟩ (by omega)
      simp only [V4.cells_eq] at done
      simp only [AH.SD,AH.SE,AOp.call?,AOp.next?,bstep,AV.cells,unAV,binAV,retQ,retV,AH.sliceElems,AH.bytesOf,AH.strOp,AH.bound,AH.missQ,AH.minmaxAV,AH.readOf,AH.effOf,Nat.reduceBEq,Nat.reduceAdd,Nat.reduceLT,↓reduceIte,Nat.reduceEqDiff,Nat.reduceLeDiff,Nat.reduceSub,Nat.reduceMul,Int.reduceSub,Int.reduceToNat,Int.reduceBEq,Int.reduceBNe,Int.reduceLT,Int.reduceGT,Int.reduceLE,Int.reduceGE,Int.reduceNeg,Int.reduceAdd,getD_enc,hil,V4.cells_eq,goodT_eq,V4.eta,hq,take_all,List.length_map,hwi]
      repeat (refine ⟨by first | rfl | decide | omega | (simp only [List.length_map,List.length_set,and_true]; omega),?_⟩)
      refine gc_auto [0,1] [5,3,0] [] ?_
      simp only [AH.SD,AH.SE,AOp.call?,AOp.next?,bstep,AV.cells,unAV,binAV,retQ,retV,AH.sliceElems,AH.bytesOf,AH.strOp,AH.bound,AH.missQ,AH.minmaxAV,AH.readOf,AH.effOf,Nat.reduceBEq,Nat.reduceAdd,Nat.reduceLT,↓reduceIte,Nat.reduceEqDiff,Nat.reduceLeDiff,Nat.reduceSub,Nat.reduceMul,Int.reduceSub,Int.reduceToNat,Int.reduceBEq,Int.reduceBNe,Int.reduceLT,Int.reduceGT,Int.reduceLE,Int.reduceGE,Int.reduceNeg,Int.reduceAdd,AH.SP,AH.PD,AV.inB,vstep]
      exact done
  · have hil:=ge_of_dec hlt
    obtain rfl : i = l.length:=by omega
    rw [List.take_length] at hal
    have e : ((l.length : Int) ≤ 1000) = (l.length ≤ 1000):=by rw [eq_iff_iff]; omega
    cases hw : good w
    · simp only [AH.SD,AH.SE,AOp.call?,AOp.next?,bstep,AV.cells,unAV,binAV,retQ,retV,AH.sliceElems,AH.bytesOf,AH.strOp,AH.bound,AH.missQ,AH.minmaxAV,AH.readOf,AH.effOf,Nat.reduceBEq,Nat.reduceAdd,Nat.reduceLT,↓reduceIte,Nat.reduceEqDiff,Nat.reduceLeDiff,Nat.reduceSub,Nat.reduceMul,Int.reduceSub,Int.reduceToNat,Int.reduceBEq,Int.reduceBNe,Int.reduceLT,Int.reduceGT,Int.reduceLE,Int.reduceGE,Int.reduceNeg,Int.reduceAdd,goodT_eq,V4.eta,hw,good33,hal,Bool.true_and,Bool.false_and]
      try trivial
    · simp only [AH.SD,AH.SE,AOp.call?,AOp.next?,bstep,AV.cells,unAV,binAV,retQ,retV,AH.sliceElems,AH.bytesOf,AH.strOp,AH.bound,AH.missQ,AH.minmaxAV,AH.readOf,AH.effOf,Nat.reduceBEq,Nat.reduceAdd,Nat.reduceLT,↓reduceIte,Nat.reduceEqDiff,Nat.reduceLeDiff,Nat.reduceSub,Nat.reduceMul,Int.reduceSub,Int.reduceToNat,Int.reduceBEq,Int.reduceBNe,Int.reduceLT,Int.reduceGT,Int.reduceLE,Int.reduceGE,Int.reduceNeg,Int.reduceAdd,goodT_eq,V4.eta,hw,good33,hal,Bool.true_and,e]
      try trivial
def good33T : RT:=rtV [4] (vf1 4 cV (cC (aA cV) c0) fun l x => .bool (good33 l x.1))
theorem good33T_ok : ReadF S0 38 good33T:=vf1_ok errs0 fun l x hl =>⟨rfl,good33_ok l x.1 hl⟩
theorem good33T_eq {l : List V4} {id : Nat} {a b c d : Int} {M : Nat → Option Blk} (hM : rowE M id = some (4,l.map V4.cells)) (hl : l.length ≤ 1048576) : good33T [.slc id 0 l.length none,.agg [.int .i64 a,.int .i64 b,.int .i64 c,.int .i64 d]] M = some (.bool (good33 l ⟨a,b,c,d⟩),[id]) :=
  vf1_eq (k:=4) (c:=cV) (x:=cC (aA cV) c0) (f:=fun l x => .bool (good33 l x.1)) (l:=l) (b:=(⟨a,b,c,d⟩,())) hM (by rw [List.drop_zero]; exact take_map_len _ _) (by simp) hl rfl
theorem okRof : CtxOK S0 (ctxU S0 [(32,rcompareT)] []):=ctxU_ok ⟨rcompareT_ok,trivial⟩ trivial mixed
def rofSt (v w : V4) (i : Nat) : St:=⟨[(8,.int .i64 i),(7,.int .i64 (ofN v w i).d),(6,.int .i64 (ofN v w i).n),(3,.ptr 1 0 0),(2,.ptr 0 0 0)],
  [some (.row false 4 [v.cells]),some (.row false 4 [w.cells])]⟩
theorem ofN_one (v w : V4) : ofN v w 1 = ⟨v.a,w.a⟩:=by
  show stepS ⟨v.a,w.a⟩ ⟨v.a,w.a⟩ = _
  rw [stepS,cmpS_self]; rfl
set_option maxRecDepth 100000 in
theorem rof_ok (v w : V4) (hv : good v = true) (hw : good w = true) : Pure S0 41 [.agg v.cells,.agg w.cells] (.tup [.int .i64 (ofS v w).n,.int .i64 (ofS v w).d]):=by
  refine fun_sound okRof Tryd.func41 c41 ?_
  unfold wpF F41
  simp only [AH.SD,AH.SE,AOp.call?,AOp.next?,bstep,AV.cells,unAV,binAV,retQ,retV,AH.sliceElems,AH.bytesOf,AH.strOp,AH.bound,AH.missQ,AH.minmaxAV,AH.readOf,AH.effOf,Nat.reduceBEq,Nat.reduceAdd,Nat.reduceLT,↓reduceIte,Nat.reduceEqDiff,Nat.reduceLeDiff,Nat.reduceSub,Nat.reduceMul,Int.reduceSub,Int.reduceToNat,Int.reduceBEq,Int.reduceBNe,Int.reduceLT,Int.reduceGT,Int.reduceLE,Int.reduceGE,Int.reduceNeg,Int.reduceAdd,V4.cells_eq]
  refine loop_do [0,1] [8,7,6,3,2] [] (α:=Nat) (fun i => 4 - i) (rofSt v w) (fun i => 1 ≤ i ∧ i ≤ 4) 1 ⟨Nat.le_refl _,by omega⟩ (by simp only [AH.SD,AH.SE,AOp.call?,AOp.next?,bstep,AV.cells,unAV,binAV,retQ,retV,AH.sliceElems,AH.bytesOf,AH.strOp,AH.bound,AH.missQ,AH.minmaxAV,AH.readOf,AH.effOf,Nat.reduceBEq,Nat.reduceAdd,Nat.reduceLT,↓reduceIte,Nat.reduceEqDiff,Nat.reduceLeDiff,Nat.reduceSub,Nat.reduceMul,Int.reduceSub,Int.reduceToNat,Int.reduceBEq,Int.reduceBNe,Int.reduceLT,Int.reduceGT,Int.reduceLE,Int.reduceGE,Int.reduceNeg,Int.reduceAdd,AH.SP,AH.PD,AV.inB,vstep,rofSt,V4.cells_eq,ofN_one]) ?_
  rintro X i ⟨hi1,hi⟩ ih
  simp only [AH.SD,AH.SE,AOp.call?,AOp.next?,bstep,AV.cells,unAV,binAV,retQ,retV,AH.sliceElems,AH.bytesOf,AH.strOp,AH.bound,AH.missQ,AH.minmaxAV,AH.readOf,AH.effOf,Nat.reduceBEq,Nat.reduceAdd,Nat.reduceLT,↓reduceIte,Nat.reduceEqDiff,Nat.reduceLeDiff,Nat.reduceSub,Nat.reduceMul,Int.reduceSub,Int.reduceToNat,Int.reduceBEq,Int.reduceBNe,Int.reduceLT,Int.reduceGT,Int.reduceLE,Int.reduceGE,Int.reduceNeg,Int.reduceAdd,rofSt,V4.cells_eq]
  refine ⟨fun hlt => ?_,fun hlt => ?_⟩
  · have hi4 : i < 4:=lt_of_dec (n:=4) hlt
    have hwi:=wrapS (i:=i) (by omega)
    have done:=ih (i + 1) ⟨by omega,hi4⟩ (by omega)
    simp only [rofSt,ofN,stepS,V4.cells_eq] at done
    simp only [AH.SD,AH.SE,AOp.call?,AOp.next?,bstep,AV.cells,unAV,binAV,retQ,retV,AH.sliceElems,AH.bytesOf,AH.strOp,AH.bound,AH.missQ,AH.minmaxAV,AH.readOf,AH.effOf,Nat.reduceBEq,Nat.reduceAdd,Nat.reduceLT,↓reduceIte,Nat.reduceEqDiff,Nat.reduceLeDiff,Nat.reduceSub,Nat.reduceMul,Int.reduceSub,Int.reduceToNat,Int.reduceBEq,Int.reduceBNe,Int.reduceLT,Int.reduceGT,Int.reduceLE,Int.reduceGE,Int.reduceNeg,Int.reduceAdd,at_v hi4,rcompareT_eq _ _ _ _ _ (good_sh hv hw i) (ofN_ok hv hw i),Sh.eta]
    repeat (refine ⟨by first | rfl | decide | omega | (simp only [List.length_map,List.length_set,and_true]; omega),?_⟩)
    cases hc : decide (cmpS ⟨v.at i,w.at i⟩ (ofN v w i) > 0)
    · rw [hc] at done
      simp only [AH.SD,AH.SE,AOp.call?,AOp.next?,bstep,AV.cells,unAV,binAV,retQ,retV,AH.sliceElems,AH.bytesOf,AH.strOp,AH.bound,AH.missQ,AH.minmaxAV,AH.readOf,AH.effOf,Nat.reduceBEq,Nat.reduceAdd,Nat.reduceLT,↓reduceIte,Nat.reduceEqDiff,Nat.reduceLeDiff,Nat.reduceSub,Nat.reduceMul,Int.reduceSub,Int.reduceToNat,Int.reduceBEq,Int.reduceBNe,Int.reduceLT,Int.reduceGT,Int.reduceLE,Int.reduceGE,Int.reduceNeg,Int.reduceAdd,at_v hi4,rcompareT_eq _ _ _ _ _ (good_sh hv hw i) (ofN_ok hv hw i),Sh.eta,hc,hwi]
      refine gc_auto [0,1] [8,7,6,3,2] [] ?_
      simp only [AH.SD,AH.SE,AOp.call?,AOp.next?,bstep,AV.cells,unAV,binAV,retQ,retV,AH.sliceElems,AH.bytesOf,AH.strOp,AH.bound,AH.missQ,AH.minmaxAV,AH.readOf,AH.effOf,Nat.reduceBEq,Nat.reduceAdd,Nat.reduceLT,↓reduceIte,Nat.reduceEqDiff,Nat.reduceLeDiff,Nat.reduceSub,Nat.reduceMul,Int.reduceSub,Int.reduceToNat,Int.reduceBEq,Int.reduceBNe,Int.reduceLT,Int.reduceGT,Int.reduceLE,Int.reduceGE,Int.reduceNeg,Int.reduceAdd,AH.SP,AH.PD,AV.inB,vstep]
      exact done
    · rw [hc] at done
      simp only [AH.SD,AH.SE,AOp.call?,AOp.next?,bstep,AV.cells,unAV,binAV,retQ,retV,AH.sliceElems,AH.bytesOf,AH.strOp,AH.bound,AH.missQ,AH.minmaxAV,AH.readOf,AH.effOf,Nat.reduceBEq,Nat.reduceAdd,Nat.reduceLT,↓reduceIte,Nat.reduceEqDiff,Nat.reduceLeDiff,Nat.reduceSub,Nat.reduceMul,Int.reduceSub,Int.reduceToNat,Int.reduceBEq,Int.reduceBNe,Int.reduceLT,Int.reduceGT,Int.reduceLE,Int.reduceGE,Int.reduceNeg,Int.reduceAdd,at_v hi4,rcompareT_eq _ _ _ _ _ (good_sh hv hw i) (ofN_ok hv hw i),Sh.eta,hc,hwi]
      repeat (refine ⟨by first | rfl | decide | omega | (simp only [List.length_map,List.length_set,and_true]; omega),?_⟩)
      refine gc_auto [0,1] [8,7,6,3,2] [] ?_
      simp only [AH.SD,AH.SE,AOp.call?,AOp.next?,bstep,AV.cells,unAV,binAV,retQ,retV,AH.sliceElems,AH.bytesOf,AH.strOp,AH.bound,AH.missQ,AH.minmaxAV,AH.readOf,AH.effOf,Nat.reduceBEq,Nat.reduceAdd,Nat.reduceLT,↓reduceIte,Nat.reduceEqDiff,Nat.reduceLeDiff,Nat.reduceSub,Nat.reduceMul,Int.reduceSub,Int.reduceToNat,Int.reduceBEq,Int.reduceBNe,Int.reduceLT,Int.reduceGT,Int.reduceLE,Int.reduceGE,Int.reduceNeg,Int.reduceAdd,AH.SP,AH.PD,AV.inB,vstep]
      exact done
  · have hi4 : 4 ≤ i:=ge_of_dec (n:=4) hlt
    have : i = 4:=by omega
    subst this
    simp only [AH.SD,AH.SE,AOp.call?,AOp.next?,bstep,AV.cells,unAV,binAV,retQ,retV,AH.sliceElems,AH.bytesOf,AH.strOp,AH.bound,AH.missQ,AH.minmaxAV,AH.readOf,AH.effOf,Nat.reduceBEq,Nat.reduceAdd,Nat.reduceLT,↓reduceIte,Nat.reduceEqDiff,Nat.reduceLeDiff,Nat.reduceSub,Nat.reduceMul,Int.reduceSub,Int.reduceToNat,Int.reduceBEq,Int.reduceBNe,Int.reduceLT,Int.reduceGT,Int.reduceLE,Int.reduceGE,Int.reduceNeg,Int.reduceAdd,ofS]
    try trivial
def okV2 (x : V4 × V4 × Unit) : Prop:=good x.1 = true ∧ good x.2.1 = true
instance : DecidablePred okV2:=fun x =>by unfold okV2; infer_instance
def rofT : RT:=rtP (cSub (cC (aA cV) (cC (aA cV) c0)) okV2) fun x => .tup [.int .i64 (ofS x.1.1 x.1.2.1).n,.int .i64 (ofS x.1.1 x.1.2.1).d]
theorem rofT_ok : ReadF S0 41 rofT:=rtP_ok (fun ⟨⟨v,w,_⟩,hv,hw⟩ =>rof_ok v w hv hw) fun _ =>rfl
theorem rofT_eq (a b c d x y z u : Int) (M : Nat → Option Blk) (hv : good ⟨a,b,c,d⟩ = true) (hw : good ⟨x,y,z,u⟩ = true) : rofT [.agg [.int .i64 a,.int .i64 b,.int .i64 c,.int .i64 d],.agg [.int .i64 x,.int .i64 y,.int .i64 z,.int .i64 u]] M = some (.tup [.int .i64 (ofS ⟨a,b,c,d⟩ ⟨x,y,z,u⟩).n,.int .i64 (ofS ⟨a,b,c,d⟩ ⟨x,y,z,u⟩).d],[]):=by
  have h : okV2 (⟨a,b,c,d⟩,⟨x,y,z,u⟩,()):=⟨hv,hw⟩
  unfold rofT
  rw [rtS_eq h rfl]
theorem rofT_at {v w : V4} {M : Nat → Option Blk} (hv : good v = true) (hw : good w = true) : rofT [.agg [.int .i64 v.a,.int .i64 v.b,.int .i64 v.c,.int .i64 v.d],.agg [.int .i64 w.a,.int .i64 w.b,.int .i64 w.c,.int .i64 w.d]] M = some (.tup [.int .i64 (ofS v w).n,.int .i64 (ofS v w).d],[]) :=
  rofT_eq v.a v.b v.c v.d w.a w.b w.c w.d M hv hw
theorem rcompareT_at {s t : Sh} {M : Nat → Option Blk} (hs : s.ok) (ht : t.ok) : rcompareT [.int .i64 s.n,.int .i64 s.d,.int .i64 t.n,.int .i64 t.d] M = some (.int .i64 (cmpS s t),[]):=rcompareT_eq s.n s.d t.n t.d M hs ht
theorem ofS_ok {v w : V4} (h : good v = true) (g : good w = true) : (ofS v w).ok:=ofN_ok h g 4
theorem okRo : CtxOK S0 (ctxU S0 [(41,rofT),(32,rcompareT)] []):=ctxU_ok ⟨rofT_ok,rcompareT_ok,trivial⟩ trivial mixed
def cOrd (l : List V4) (w : V4) (x y : Int) : Int:=cmpS (shAt (shs l w) x) (shAt (shs l w) y)
theorem ord_cOrd (l : List V4) (w : V4) : Ord (cOrd l w):=ord_sh (shs l w)
theorem cOrd_nat {l : List V4} {w : V4} {i j : Nat} (hi : i < l.length) (hj : j < l.length) : cOrd l w i j = cmpS (ofS l[i] w) (ofS l[j] w):=by
  have hs : (shs l w).length = l.length:=by rw [shs,List.length_map]
  rw [cOrd,shAt_nat _ (hs ▸ hi),shAt_nat _ (hs ▸ hj)]
  simp only [shs,List.getElem_map]
theorem refO_get {c : Int → Int → Int} {n k : Nat} (hk : k < n) : ∃ j : Nat,(refO c n).getD k 0 = (j : Int) ∧ j < n:=by
  have hl : k < (refO c n).length:=by rw [refO_len]; exact hk
  have hm : (refO c n).getD k 0 ∈ refO c n:=by
    rw [List.getD_eq_getElem?_getD,List.getElem?_eq_getElem hl]; exact List.getElem_mem hl
  obtain ⟨h1,h2⟩:=(refO_mem c _ n).1 hm
  obtain ⟨j,e⟩:=Int.eq_ofNat_of_zero_le h1
  exact ⟨j,e,by omega⟩
def roSt (l : List V4) (w : V4) (i : Nat) : St:=⟨[(6,.int .i64 i),(5,.slc 2 0 i none),(3,.ptr 1 0 0),(0,.slc 0 0 l.length none)],
  [some (.row true 4 (l.map V4.cells)),some (.row false 4 [w.cells]),some (.row false 1 ((refO (cOrd l w) i).map intC))]⟩
def roStI (l : List V4) (w : V4) (i : Nat) (s : Sh) (k : Nat) : St:=⟨[(9,.int .i64 k),(8,.int .i64 s.d),(7,.int .i64 s.n),(6,.int .i64 i),(5,.slc 2 0 i none),(3,.ptr 1 0 0),(0,.slc 0 0 l.length none)],
  [some (.row true 4 (l.map V4.cells)),some (.row false 4 [w.cells]),some (.row false 1 ((refO (cOrd l w) i).map intC))]⟩
set_option maxRecDepth 100000 in
theorem rorder_ok (l : List V4) (w : V4) (hl : l.length < 40) (hg : ∀ v ∈ l,good v = true) (hw : good w = true) : CallA1 S0 40 [.slc 0 0 l.length none,.agg w.cells] [some (.row true 4 (l.map V4.cells))]
    fun r m =>r = .slc 1 0 l.length none ∧ m = [some (.row true 4 (l.map V4.cells)),some (.row false 1 ((refO (cOrd l w) l.length).map intC))]:=by
  refine CallA1.fin ?_
  refine fun_sound okRo Tryd.func40 c40 ?_
  unfold wpF F40
  simp only [AH.SD,AH.SE,AOp.call?,AOp.next?,bstep,AV.cells,unAV,binAV,retQ,retV,AH.sliceElems,AH.bytesOf,AH.strOp,AH.bound,AH.missQ,AH.minmaxAV,AH.readOf,AH.effOf,Nat.reduceBEq,Nat.reduceAdd,Nat.reduceLT,↓reduceIte,Nat.reduceEqDiff,Nat.reduceLeDiff,Nat.reduceSub,Nat.reduceMul,Int.reduceSub,Int.reduceToNat,Int.reduceBEq,Int.reduceBNe,Int.reduceLT,Int.reduceGT,Int.reduceLE,Int.reduceGE,Int.reduceNeg,Int.reduceAdd,V4.cells_eq]
  refine loop_do [0,1,2] [6,5,3,0] [.cap 5] (α:=Nat) (fun i =>l.length - i) (roSt l w) (fun i =>i ≤ l.length) 0 (Nat.zero_le _) (by simp only [AH.SD,AH.SE,AOp.call?,AOp.next?,bstep,AV.cells,unAV,binAV,retQ,retV,AH.sliceElems,AH.bytesOf,AH.strOp,AH.bound,AH.missQ,AH.minmaxAV,AH.readOf,AH.effOf,Nat.reduceBEq,Nat.reduceAdd,Nat.reduceLT,↓reduceIte,Nat.reduceEqDiff,Nat.reduceLeDiff,Nat.reduceSub,Nat.reduceMul,Int.reduceSub,Int.reduceToNat,Int.reduceBEq,Int.reduceBNe,Int.reduceLT,Int.reduceGT,Int.reduceLE,Int.reduceGE,Int.reduceNeg,Int.reduceAdd,AH.SP,AH.PD,AV.inB,vstep,roSt,V4.cells_eq,refO]) ?_
  rintro X i hi ih
  simp only [AH.SD,AH.SE,AOp.call?,AOp.next?,bstep,AV.cells,unAV,binAV,retQ,retV,AH.sliceElems,AH.bytesOf,AH.strOp,AH.bound,AH.missQ,AH.minmaxAV,AH.readOf,AH.effOf,Nat.reduceBEq,Nat.reduceAdd,Nat.reduceLT,↓reduceIte,Nat.reduceEqDiff,Nat.reduceLeDiff,Nat.reduceSub,Nat.reduceMul,Int.reduceSub,Int.reduceToNat,Int.reduceBEq,Int.reduceBNe,Int.reduceLT,Int.reduceGT,Int.reduceLE,Int.reduceGE,Int.reduceNeg,Int.reduceAdd,roSt,V4.cells_eq]
  refine ⟨fun hlt => ?_,fun hlt => ?_⟩
  · have hil:=lt_of_dec hlt
    have hwi:=wrapS (i:=i) (by omega)
    have hgi : good l[i] = true:=hg _ (List.getElem_mem hil)
    simp only [AH.SD,AH.SE,AOp.call?,AOp.next?,bstep,AV.cells,unAV,binAV,retQ,retV,AH.sliceElems,AH.bytesOf,AH.strOp,AH.bound,AH.missQ,AH.minmaxAV,AH.readOf,AH.effOf,Nat.reduceBEq,Nat.reduceAdd,Nat.reduceLT,↓reduceIte,Nat.reduceEqDiff,Nat.reduceLeDiff,Nat.reduceSub,Nat.reduceMul,Int.reduceSub,Int.reduceToNat,Int.reduceBEq,Int.reduceBNe,Int.reduceLT,Int.reduceGT,Int.reduceLE,Int.reduceGE,Int.reduceNeg,Int.reduceAdd,getD_enc,hil,V4.cells_eq,rofT_at hgi hw,V4.eta,take_all,List.length_map,hwi]
    repeat (refine ⟨by first | rfl | decide | omega | (simp only [List.length_map,List.length_set,and_true]; omega),?_⟩)
    have last : ∀ {k : Nat},k ≤ i → (∀ k',k' < k → ¬ cOrd l w ((refO (cOrd l w) i).getD k' 0) (i : Int) > 0) → (k = i ∨ cOrd l w ((refO (cOrd l w) i).getD k 0) (i : Int) > 0) →
        ((refO (cOrd l w) i).take k).length = k ∧ ((refO (cOrd l w) i).drop k).length = i - k ∧ ((refO (cOrd l w) i).take k).take k = (refO (cOrd l w) i).take k ∧ ((refO (cOrd l w) i).drop k).take (i - k) = (refO (cOrd l w) i).drop k ∧
        List.take (k + 1) (((refO (cOrd l w) i).take k).map intC ++ [[AV.int .i64 i]]) = ((refO (cOrd l w) i).take k).map intC ++ [[AV.int .i64 i]] ∧
        X ⟨[(6,.int .i64 (i + 1 : Nat)),(5,.slc 2 0 (i + 1) none),(3,.ptr 1 0 0),(0,.slc 0 0 l.length none)],
          [some (.row true 4 (l.map V4.cells)),some (.row false 4 [[.int .i64 w.a,.int .i64 w.b,.int .i64 w.c,.int .i64 w.d]]),some (.row false 1 (((refO (cOrd l w) i).take k).map intC ++ [[AV.int .i64 i]] ++ ((refO (cOrd l w) i).drop k).map intC))]⟩:=by
      intro k hk hbef hlast
      have lA : ((refO (cOrd l w) i).take k).length = k:=by rw [List.length_take,refO_len]; omega
      have lB : ((refO (cOrd l w) i).drop k).length = i - k:=by rw [List.length_drop,refO_len]
      have done:=ih (i + 1) hil (by omega)
      simp only [roSt,V4.cells_eq] at done
      rw [refO_step (ord_cOrd l w) hk hbef hlast,List.map_append,List.map_cons,intC_eq] at done
      refine ⟨lA,lB,by rw [List.take_take,Nat.min_self],by rw [List.take_of_length_le (by omega)],by rw [List.take_of_length_le (by rw [List.length_append,List.length_map,lA]; exact Nat.le_refl _)],?_⟩
      rw [List.append_assoc]
      exact done
    refine loop_do [0,1,2] [9,8,7,6,5,3,0] [] (α:=Nat) (fun k =>i - k) (roStI l w i (ofS l[i] w)) (fun k =>k ≤ i ∧ ∀ k',k' < k → ¬ cOrd l w ((refO (cOrd l w) i).getD k' 0) (i : Int) > 0) 0 ⟨Nat.zero_le _,fun k h =>absurd h (Nat.not_lt_zero k)⟩ (by simp only [AH.SD,AH.SE,AOp.call?,AOp.next?,bstep,AV.cells,unAV,binAV,retQ,retV,AH.sliceElems,AH.bytesOf,AH.strOp,AH.bound,AH.missQ,AH.minmaxAV,AH.readOf,AH.effOf,Nat.reduceBEq,Nat.reduceAdd,Nat.reduceLT,↓reduceIte,Nat.reduceEqDiff,Nat.reduceLeDiff,Nat.reduceSub,Nat.reduceMul,Int.reduceSub,Int.reduceToNat,Int.reduceBEq,Int.reduceBNe,Int.reduceLT,Int.reduceGT,Int.reduceLE,Int.reduceGE,Int.reduceNeg,Int.reduceAdd,AH.SP,AH.PD,AV.inB,vstep,roStI,V4.cells_eq]) ?_
    rintro Y k ⟨hk,hbef⟩ ihk
    simp only [AH.SD,AH.SE,AOp.call?,AOp.next?,bstep,AV.cells,unAV,binAV,retQ,retV,AH.sliceElems,AH.bytesOf,AH.strOp,AH.bound,AH.missQ,AH.minmaxAV,AH.readOf,AH.effOf,Nat.reduceBEq,Nat.reduceAdd,Nat.reduceLT,↓reduceIte,Nat.reduceEqDiff,Nat.reduceLeDiff,Nat.reduceSub,Nat.reduceMul,Int.reduceSub,Int.reduceToNat,Int.reduceBEq,Int.reduceBNe,Int.reduceLT,Int.reduceGT,Int.reduceLE,Int.reduceGE,Int.reduceNeg,Int.reduceAdd,roStI,V4.cells_eq]
    refine ⟨fun hlt => ?_,fun hlt => ?_⟩
    · have hki:=lt_of_dec hlt
      have hwk:=wrapS (i:=k) (by omega)
      obtain ⟨j,ej,hj⟩:=refO_get (c:=cOrd l w) hki
      have hjl : j < l.length:=by omega
      have hgj : good l[j] = true:=hg _ (List.getElem_mem hjl)
      have hgk : ((refO (cOrd l w) i).map intC).getD k [] = intC j:=by
        rw [getD_map_lt _ _ _ _ (by rw [refO_len]; exact hki),← ej,List.getD_eq_getElem?_getD,List.getElem?_eq_getElem (by rw [refO_len]; exact hki)]; rfl
      have hc:=cOrd_nat (w:=w) hjl hil
      rw [← ej] at hc
      simp only [AH.SD,AH.SE,AOp.call?,AOp.next?,bstep,AV.cells,unAV,binAV,retQ,retV,AH.sliceElems,AH.bytesOf,AH.strOp,AH.bound,AH.missQ,AH.minmaxAV,AH.readOf,AH.effOf,Nat.reduceBEq,Nat.reduceAdd,Nat.reduceLT,↓reduceIte,Nat.reduceEqDiff,Nat.reduceLeDiff,Nat.reduceSub,Nat.reduceMul,Int.reduceSub,Int.reduceToNat,Int.reduceBEq,Int.reduceBNe,Int.reduceLT,Int.reduceGT,Int.reduceLE,Int.reduceGE,Int.reduceNeg,Int.reduceAdd,hgk,hjl,getD_enc,V4.cells_eq,intC_eq,rofT_at hgj hw,V4.eta,take_all,List.length_map,hwk,Int.toNat_natCast,refO_len]
      repeat (refine ⟨by first | rfl | decide | omega | (simp only [List.length_map,List.length_set,and_true]; omega),?_⟩)
      simp only [AH.SD,AH.SE,AOp.call?,AOp.next?,bstep,AV.cells,unAV,binAV,retQ,retV,AH.sliceElems,AH.bytesOf,AH.strOp,AH.bound,AH.missQ,AH.minmaxAV,AH.readOf,AH.effOf,Nat.reduceBEq,Nat.reduceAdd,Nat.reduceLT,↓reduceIte,Nat.reduceEqDiff,Nat.reduceLeDiff,Nat.reduceSub,Nat.reduceMul,Int.reduceSub,Int.reduceToNat,Int.reduceBEq,Int.reduceBNe,Int.reduceLT,Int.reduceGT,Int.reduceLE,Int.reduceGE,Int.reduceNeg,Int.reduceAdd,rcompareT_at (ofS_ok hgj hw) (ofS_ok hgi hw),← hc]
      repeat (refine ⟨by first | rfl | decide | omega | (simp only [List.length_map,List.length_set,and_true]; omega),?_⟩)
      refine ⟨fun hgt => ?_,fun hgt => ?_⟩
      · have done:=last hk hbef (.inr (by simpa using hgt))
        obtain ⟨lA,lB,hA2,hB,hA3,done⟩:=done
        simp only [AH.SD,AH.SE,AOp.call?,AOp.next?,bstep,AV.cells,unAV,binAV,retQ,retV,AH.sliceElems,AH.bytesOf,AH.strOp,AH.bound,AH.missQ,AH.minmaxAV,AH.readOf,AH.effOf,Nat.reduceBEq,Nat.reduceAdd,Nat.reduceLT,↓reduceIte,Nat.reduceEqDiff,Nat.reduceLeDiff,Nat.reduceSub,Nat.reduceMul,Int.reduceSub,Int.reduceToNat,Int.reduceBEq,Int.reduceBNe,Int.reduceLT,Int.reduceGT,Int.reduceLE,Int.reduceGE,Int.reduceNeg,Int.reduceAdd,hwi,take_enc,drop_enc,hB,hA2,hA3,List.take_length,List.length_map,List.length_append,List.length_cons,List.length_nil,lA,lB,refO_len]
        repeat (refine ⟨by first | rfl | decide | omega | (simp only [List.length_map,List.length_set,and_true]; omega),?_⟩)
        refine gc_auto [0,1,7] [6,5,3,0] [] ?_
        simp only [AH.SD,AH.SE,AOp.call?,AOp.next?,bstep,AV.cells,unAV,binAV,retQ,retV,AH.sliceElems,AH.bytesOf,AH.strOp,AH.bound,AH.missQ,AH.minmaxAV,AH.readOf,AH.effOf,Nat.reduceBEq,Nat.reduceAdd,Nat.reduceLT,↓reduceIte,Nat.reduceEqDiff,Nat.reduceLeDiff,Nat.reduceSub,Nat.reduceMul,Int.reduceSub,Int.reduceToNat,Int.reduceBEq,Int.reduceBNe,Int.reduceLT,Int.reduceGT,Int.reduceLE,Int.reduceGE,Int.reduceNeg,Int.reduceAdd,AH.SP,AH.PD,AV.inB,vstep]
        rw [show k + 1 + (i - k) = i + 1 by omega]
        exact done
      · have done:=ihk (k + 1) ⟨hki,fun k' hk' => ?_⟩ (by omega)
        · simp only [roStI,V4.cells_eq] at done
          simp only [AH.SD,AH.SE,AOp.call?,AOp.next?,bstep,AV.cells,unAV,binAV,retQ,retV,AH.sliceElems,AH.bytesOf,AH.strOp,AH.bound,AH.missQ,AH.minmaxAV,AH.readOf,AH.effOf,Nat.reduceBEq,Nat.reduceAdd,Nat.reduceLT,↓reduceIte,Nat.reduceEqDiff,Nat.reduceLeDiff,Nat.reduceSub,Nat.reduceMul,Int.reduceSub,Int.reduceToNat,Int.reduceBEq,Int.reduceBNe,Int.reduceLT,Int.reduceGT,Int.reduceLE,Int.reduceGE,Int.reduceNeg,Int.reduceAdd,hwk]
          refine gc_auto [0,1,2] [9,8,7,6,5,3,0] [] ?_
          simp only [AH.SD,AH.SE,AOp.call?,AOp.next?,bstep,AV.cells,unAV,binAV,retQ,retV,AH.sliceElems,AH.bytesOf,AH.strOp,AH.bound,AH.missQ,AH.minmaxAV,AH.readOf,AH.effOf,Nat.reduceBEq,Nat.reduceAdd,Nat.reduceLT,↓reduceIte,Nat.reduceEqDiff,Nat.reduceLeDiff,Nat.reduceSub,Nat.reduceMul,Int.reduceSub,Int.reduceToNat,Int.reduceBEq,Int.reduceBNe,Int.reduceLT,Int.reduceGT,Int.reduceLE,Int.reduceGE,Int.reduceNeg,Int.reduceAdd,AH.SP,AH.PD,AV.inB,vstep]
          exact done
        · rcases Nat.lt_succ_iff_lt_or_eq.1 hk' with q | rfl
          · exact hbef k' q
          · simpa using hgt
    · have hki:=ge_of_dec hlt
      have hke : k = i:=by omega
      have done:=last hk hbef (.inl hke)
      obtain ⟨lA,lB,hA2,hB,hA3,done⟩:=done
      simp only [AH.SD,AH.SE,AOp.call?,AOp.next?,bstep,AV.cells,unAV,binAV,retQ,retV,AH.sliceElems,AH.bytesOf,AH.strOp,AH.bound,AH.missQ,AH.minmaxAV,AH.readOf,AH.effOf,Nat.reduceBEq,Nat.reduceAdd,Nat.reduceLT,↓reduceIte,Nat.reduceEqDiff,Nat.reduceLeDiff,Nat.reduceSub,Nat.reduceMul,Int.reduceSub,Int.reduceToNat,Int.reduceBEq,Int.reduceBNe,Int.reduceLT,Int.reduceGT,Int.reduceLE,Int.reduceGE,Int.reduceNeg,Int.reduceAdd,hwi,take_enc,drop_enc,hB,hA2,hA3,List.take_length,List.length_map,List.length_append,List.length_cons,List.length_nil,lA,lB,refO_len]
      repeat (refine ⟨by first | rfl | decide | omega | (simp only [List.length_map,List.length_set,and_true]; omega),?_⟩)
      refine gc_auto [0,1,7] [6,5,3,0] [] ?_
      simp only [AH.SD,AH.SE,AOp.call?,AOp.next?,bstep,AV.cells,unAV,binAV,retQ,retV,AH.sliceElems,AH.bytesOf,AH.strOp,AH.bound,AH.missQ,AH.minmaxAV,AH.readOf,AH.effOf,Nat.reduceBEq,Nat.reduceAdd,Nat.reduceLT,↓reduceIte,Nat.reduceEqDiff,Nat.reduceLeDiff,Nat.reduceSub,Nat.reduceMul,Int.reduceSub,Int.reduceToNat,Int.reduceBEq,Int.reduceBNe,Int.reduceLT,Int.reduceGT,Int.reduceLE,Int.reduceGE,Int.reduceNeg,Int.reduceAdd,AH.SP,AH.PD,AV.inB,vstep]
      rw [show k + 1 + (i - k) = i + 1 by omega]
      exact done
  · have hil:=ge_of_dec hlt
    obtain rfl : i = l.length:=by omega
    simp only [AH.SD,AH.SE,AOp.call?,AOp.next?,bstep,AV.cells,unAV,binAV,retQ,retV,AH.sliceElems,AH.bytesOf,AH.strOp,AH.bound,AH.missQ,AH.minmaxAV,AH.readOf,AH.effOf,Nat.reduceBEq,Nat.reduceAdd,Nat.reduceLT,↓reduceIte,Nat.reduceEqDiff,Nat.reduceLeDiff,Nat.reduceSub,Nat.reduceMul,Int.reduceSub,Int.reduceToNat,Int.reduceBEq,Int.reduceBNe,Int.reduceLT,Int.reduceGT,Int.reduceLE,Int.reduceGE,Int.reduceNeg,Int.reduceAdd]
    refine ⟨[0,2],[],?_⟩
    simp only [AH.SD,AH.SE,AOp.call?,AOp.next?,bstep,AV.cells,unAV,binAV,retQ,retV,AH.sliceElems,AH.bytesOf,AH.strOp,AH.bound,AH.missQ,AH.minmaxAV,AH.readOf,AH.effOf,Nat.reduceBEq,Nat.reduceAdd,Nat.reduceLT,↓reduceIte,Nat.reduceEqDiff,Nat.reduceLeDiff,Nat.reduceSub,Nat.reduceMul,Int.reduceSub,Int.reduceToNat,Int.reduceBEq,Int.reduceBNe,Int.reduceLT,Int.reduceGT,Int.reduceLE,Int.reduceGE,Int.reduceNeg,Int.reduceAdd,AH.SP,AH.PD,AV.inB,vstep]
end Go.Proofs.YtkbjfhkhbcgkgaaDoor.B33
