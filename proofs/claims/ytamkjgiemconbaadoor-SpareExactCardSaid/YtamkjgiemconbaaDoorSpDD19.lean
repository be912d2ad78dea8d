import Derived.Test.YtamkjgiemconbaaDoorSpKD19
import Derived.Test.YtamkjgiemconbaaDoorAHd
open Go AH
set_option linter.unusedSimpArgs false
set_option maxRecDepth 100000
namespace Go.Proofs.YtamkjgiemconbaaDoor.D19
structure Cl where
  k : SK
  v : SC
  c : Nat
  n : Int
  ro : Bool
def clR (M : Nat → Option Blk) (args : List AV) (x : Cl) : Prop:=args = [x.k.av,x.v.av,.ptr x.c 0 0] ∧ M x.c = some (.row x.ro 1 [[.int .i64 x.n]])
theorem clR_ok : RelU clR (fun x => [x.c]):=by
  refine ⟨?_,?_,?_⟩
  · rintro M args ⟨⟨a,b⟩,⟨c,d,e,f⟩,p,n,r⟩ ⟨⟨a',b'⟩,⟨c',d',e',f'⟩,p',n',r'⟩ ⟨rfl,h2⟩ ⟨h3,h4⟩
    simp only [SK.av,SC.av,List.cons.injEq,AV.agg.injEq,AV.int.injEq,AV.ptr.injEq,true_and,and_true] at h3
    obtain ⟨⟨rfl,rfl⟩,⟨rfl,rfl,rfl,rfl⟩,rfl⟩:=h3
    simp only at h2 h4
    rw [h2] at h4
    simp only [Option.some.injEq,Blk.row.injEq,List.cons.injEq,AV.int.injEq,true_and,and_true] at h4
    obtain ⟨rfl,rfl⟩:=h4
    rfl
  · rintro M M' args x ⟨h1,h2⟩ h
    exact ⟨h1,(h _ (List.mem_singleton.2 rfl)).trans h2⟩
  · rintro M args x ⟨rfl,h2⟩
    refine ⟨by simp [SK.av,SC.av,AV.insB,AV.inB,inN],fun id hid => ?_⟩
    rw [List.mem_singleton.1 hid]
    exact ⟨_,h2,rfl⟩
theorem exC_ok {m : Mem} {args : List AV} {x : Cl} (h : clR (mget m) args x) (hm : clM m) : CallA1 S0 53 args m fun r m' =>r = .bool (decide (x.k.w < x.n)) ∧ m' = m:=by
  obtain ⟨rfl,h2⟩:=h
  refine CallA1.finR hm ?_
  refine fun_sound okS0 Tryd.func53 c53 ?_
  unfold wpF F53
  have hc:=(mget_some h2).1
  simp only [AH.SD,AH.SE,AOp.call?,AOp.next?,bstep,AV.cells,unAV,binAV,retQ,retV,AH.sliceElems,AH.bytesOf,AH.strOp,AH.bound,AH.missQ,AH.minmaxAV,AH.readOf,AH.effOf,Nat.reduceBEq,Nat.reduceAdd,Nat.reduceLT,↓reduceIte,Nat.reduceEqDiff,Nat.reduceLeDiff,Nat.reduceSub,Nat.reduceMul,Int.reduceSub,Int.reduceToNat,Int.reduceBEq,Int.reduceBNe,Int.reduceLT,Int.reduceGT,Int.reduceLE,Int.reduceGE,Int.reduceNeg,Int.reduceAdd,AH.SP,AH.PD,AV.inB,vstep,vw,shift,newOnes,rowsM,blkIn,rwB,@flat_lts,AV.lt,AV.lts,Nat.sub_self,AH.SO,SK.av,SC.av,AH.GM,hc,h2]
  exact ⟨_,rfl⟩
theorem drC_ok {m : Mem} {args : List AV} {x : Cl} (h : clR (mget m) args x) (hm : clM m) : CallA1 S0 59 args m fun r m' =>r = .bool (x.k.j == x.n) ∧ m' = m:=by
  obtain ⟨rfl,h2⟩:=h
  refine CallA1.finR hm ?_
  refine fun_sound okS0 Tryd.func59 c59 ?_
  unfold wpF F59
  have hc:=(mget_some h2).1
  simp only [AH.SD,AH.SE,AOp.call?,AOp.next?,bstep,AV.cells,unAV,binAV,retQ,retV,AH.sliceElems,AH.bytesOf,AH.strOp,AH.bound,AH.missQ,AH.minmaxAV,AH.readOf,AH.effOf,Nat.reduceBEq,Nat.reduceAdd,Nat.reduceLT,↓reduceIte,Nat.reduceEqDiff,Nat.reduceLeDiff,Nat.reduceSub,Nat.reduceMul,Int.reduceSub,Int.reduceToNat,Int.reduceBEq,Int.reduceBNe,Int.reduceLT,Int.reduceGT,Int.reduceLE,Int.reduceGE,Int.reduceNeg,Int.reduceAdd,AH.SP,AH.PD,AV.inB,vstep,vw,shift,newOnes,rowsM,blkIn,rwB,@flat_lts,AV.lt,AV.lts,Nat.sub_self,AH.SO,SK.av,SC.av,AH.GM,hc,h2]
  exact ⟨_,rfl⟩
noncomputable def exT : RT:=rtU clR (fun x => [x.c]) fun x =>some (.bool (decide (x.k.w < x.n)))
noncomputable def drT : RT:=rtU clR (fun x => [x.c]) fun x =>some (.bool (x.k.j == x.n))
theorem exT_ok : ReadF S0 53 exT:=rtU_ok clR_ok (fun h e =>by simp only [Option.some.injEq] at e; subst e; rfl) fun h hm e =>by simp only [Option.some.injEq] at e; subst e; exact exC_ok h hm
theorem drT_ok : ReadF S0 59 drT:=rtU_ok clR_ok (fun h e =>by simp only [Option.some.injEq] at e; subst e; rfl) fun h hm e =>by simp only [Option.some.injEq] at e; subst e; exact drC_ok h hm
theorem exT_eq {k : SK} {v : SC} {c : Nat} {n : Int} {ro : Bool} {M : Nat → Option Blk} (h : M c = some (.row ro 1 [[.int .i64 n]])) : exT [.agg [.int .i64 k.j,.int .i64 k.w],.agg [.int .i64 v.j,.int .i64 v.w,.int .i64 v.f,.int .i64 v.g],.ptr c 0 0] M = some (.bool (decide (k.w < n)),[c]) :=
  (rtU_eq clR_ok (M:=M) (args:=[k.av,v.av,.ptr c 0 0]) (t:=⟨k,v,c,n,ro⟩) ⟨rfl,h⟩).trans rfl
theorem exT_l {k : SK} {v : SC} {n : Int} {b0 b1 : Option Blk} {r : Mem} : exT [.agg [.int .i64 k.j,.int .i64 k.w],.agg [.int .i64 v.j,.int .i64 v.w,.int .i64 v.f,.int .i64 v.g],.ptr 2 0 0] (mget (b0 :: b1 :: some (.row false 1 [[.int .i64 n]]) :: r)) = some (.bool (decide (k.w < n)),[2]):=exT_eq (ro:=false) rfl
theorem drT_eq {k : SK} {v : SC} {c : Nat} {n : Int} {ro : Bool} {M : Nat → Option Blk} (h : M c = some (.row ro 1 [[.int .i64 n]])) : drT [.agg [.int .i64 k.j,.int .i64 k.w],.agg [.int .i64 v.j,.int .i64 v.w,.int .i64 v.f,.int .i64 v.g],.ptr c 0 0] M = some (.bool (k.j == n),[c]) :=
  (rtU_eq clR_ok (M:=M) (args:=[k.av,v.av,.ptr c 0 0]) (t:=⟨k,v,c,n,ro⟩) ⟨rfl,h⟩).trans rfl
theorem drT_l {k : SK} {v : SC} {n : Int} {b0 b1 : Option Blk} {r : Mem} : drT [.agg [.int .i64 k.j,.int .i64 k.w],.agg [.int .i64 v.j,.int .i64 v.w,.int .i64 v.f,.int .i64 v.g],.ptr 2 0 0] (mget (b0 :: b1 :: some (.row false 1 [[.int .i64 n]]) :: r)) = some (.bool (k.j == n),[2]):=drT_eq (ro:=false) rfl
theorem kept_wf {pd : SpE → Bool} {t : SpB} (ht : t.wf) (S : List SpE) : (⟨AH.MS.kept pd t.L S,t.c⟩ : SpB).wf :=
  ⟨ht.keys.sublist (List.Sublist.map _ (List.filter_sublist ..)),ht.stamps.sublist (List.Sublist.map _ (List.filter_sublist ..)),fun e he =>ht.lt e (AH.MS.kept_sub he)⟩
theorem okEx : CtxOK S0 (ctxE S0 [(53,exT)] [] []):=ctxE_ok ⟨exT_ok,trivial⟩ trivial trivial mixed
def pdEx (n : Int) (e : SpE) : Bool:=decide (e.k.w < n)
def stEx (t : SpB) (n : Int) (S : List SpE) : St:=⟨[(7,.ptr 3 0 0),(1,.fn 53 [] [.ptr 2 0 0]),(0,.map 1)],[some (.row false 1 [[.map 1]]),some (.map ((AH.MS.kept (pdEx n) t.L S).map (AH.MS.enA SK.av SC.av)) t.c),some (.row false 1 [[.int .i64 n]]),some (.iter (some 1) t.c t.c (AH.MS.stamps S))]⟩
def delEx (t : SpB) (n : Int) : SpB:=⟨t.L.filter fun e => !pdEx n e,t.c⟩
theorem dlEx_ok (t : SpB) (ht : t.wf) (n : Int) : CallA1 S0 52 [.map 1,.fn 53 [] [.ptr 2 0 0]] (spM t ++ [some (.row false 1 [[.int .i64 n]])]) fun r m =>r = .tup [] ∧ m = spM (delEx t n) ++ [some (.row false 1 [[.int .i64 n]])]:=by
  refine CallA1.fin ?_
  refine fun_sound okEx Tryd.func52 c52 ?_
  unfold wpF F52
  simp only [AH.SD,AH.SE,AOp.call?,AOp.next?,bstep,AV.cells,unAV,binAV,retQ,retV,AH.sliceElems,AH.bytesOf,AH.strOp,AH.bound,AH.missQ,AH.minmaxAV,AH.readOf,AH.effOf,Nat.reduceBEq,Nat.reduceAdd,Nat.reduceLT,↓reduceIte,Nat.reduceEqDiff,Nat.reduceLeDiff,Nat.reduceSub,Nat.reduceMul,Int.reduceSub,Int.reduceToNat,Int.reduceBEq,Int.reduceBNe,Int.reduceLT,Int.reduceGT,Int.reduceLE,Int.reduceGE,Int.reduceNeg,Int.reduceAdd,AH.SP,AH.PD,AV.inB,vstep,vw,shift,newOnes,rowsM,blkIn,rwB,@flat_lts,AV.lt,AV.lts,Nat.sub_self,AH.SO,spM]
  refine loop_do [0,1,2,3] [7,1,0] [] (α:=List SpE) (fun S =>t.L.length - S.length) (stEx t n) (fun S =>AH.MS.Part t.L S) [] (AH.MS.part_nil _) (by simp only [AH.SD,AH.SE,AOp.call?,AOp.next?,bstep,AV.cells,unAV,binAV,retQ,retV,AH.sliceElems,AH.bytesOf,AH.strOp,AH.bound,AH.missQ,AH.minmaxAV,AH.readOf,AH.effOf,Nat.reduceBEq,Nat.reduceAdd,Nat.reduceLT,↓reduceIte,Nat.reduceEqDiff,Nat.reduceLeDiff,Nat.reduceSub,Nat.reduceMul,Int.reduceSub,Int.reduceToNat,Int.reduceBEq,Int.reduceBNe,Int.reduceLT,Int.reduceGT,Int.reduceLE,Int.reduceGE,Int.reduceNeg,Int.reduceAdd,AH.SP,AH.PD,AV.inB,vstep,stEx,sp_in,sp_ren,AH.MS.kept_0,AH.MS.stamps_nil,Option.all_some,Bool.or_true,Option.map_some]) ?_
  intro X S hS ih
  simp only [AH.SD,AH.SE,AOp.call?,AOp.next?,bstep,AV.cells,unAV,binAV,retQ,retV,AH.sliceElems,AH.bytesOf,AH.strOp,AH.bound,AH.missQ,AH.minmaxAV,AH.readOf,AH.effOf,Nat.reduceBEq,Nat.reduceAdd,Nat.reduceLT,↓reduceIte,Nat.reduceEqDiff,Nat.reduceLeDiff,Nat.reduceSub,Nat.reduceMul,Int.reduceSub,Int.reduceToNat,Int.reduceBEq,Int.reduceBNe,Int.reduceLT,Int.reduceGT,Int.reduceLE,Int.reduceGE,Int.reduceNeg,Int.reduceAdd,AH.SP,AH.PD,AV.inB,vstep,vw,shift,newOnes,rowsM,blkIn,rwB,@flat_lts,AV.lt,AV.lts,Nat.sub_self,AH.SO,stEx]
  refine AH.MS.next_df ht rfl rfl (fun hall => ?_) (fun e he hke hn => ?_)
  · have hk:=AH.MS.kept_all (pd:=pdEx n) hall
    simp only [AH.SD,AH.SE,AOp.call?,AOp.next?,bstep,AV.cells,unAV,binAV,retQ,retV,AH.sliceElems,AH.bytesOf,AH.strOp,AH.bound,AH.missQ,AH.minmaxAV,AH.readOf,AH.effOf,Nat.reduceBEq,Nat.reduceAdd,Nat.reduceLT,↓reduceIte,Nat.reduceEqDiff,Nat.reduceLeDiff,Nat.reduceSub,Nat.reduceMul,Int.reduceSub,Int.reduceToNat,Int.reduceBEq,Int.reduceBNe,Int.reduceLT,Int.reduceGT,Int.reduceLE,Int.reduceGE,Int.reduceNeg,Int.reduceAdd,AH.SP,AH.PD,AV.inB,vstep,vw,shift,newOnes,rowsM,blkIn,rwB,@flat_lts,AV.lt,AV.lts,Nat.sub_self,AH.SO,hk]
    refine ⟨[0,1,2],[],?_⟩
    simp only [AH.SD,AH.SE,AOp.call?,AOp.next?,bstep,AV.cells,unAV,binAV,retQ,retV,AH.sliceElems,AH.bytesOf,AH.strOp,AH.bound,AH.missQ,AH.minmaxAV,AH.readOf,AH.effOf,Nat.reduceBEq,Nat.reduceAdd,Nat.reduceLT,↓reduceIte,Nat.reduceEqDiff,Nat.reduceLeDiff,Nat.reduceSub,Nat.reduceMul,Int.reduceSub,Int.reduceToNat,Int.reduceBEq,Int.reduceBNe,Int.reduceLT,Int.reduceGT,Int.reduceLE,Int.reduceGE,Int.reduceNeg,Int.reduceAdd,AH.SP,AH.PD,AV.inB,vstep,sp_in,sp_ren,delEx]
  · have hS':=hS.snoc he hn
    have hlt:=hS'.len
    have done:=ih (S ++ [e]) hS' (by rw [List.length_append,List.length_singleton] at *; omega)
    simp only [stEx] at done
    have hf:=AH.MS.find_en (g:=SK.av) (f:=SC.av) (kept_wf (pd:=pdEx n) ht S) hke
    simp only [AH.MS.enA,SK.av,SC.av] at hf
    obtain ⟨i,hi⟩:=AH.MS.enF_key (kept_wf (pd:=pdEx n) ht S).keys hke
    simp only at hi
    have hfk:=AH.MS.findK_en keyS SC.av e.k (AH.MS.kept (pdEx n) t.L S) 0
    rw [hi] at hfk
    simp only [SK.av,Option.map_some,AH.MS.enV,SC.av] at hfk
    have hx:=AH.MS.erase_en SK.av SC.av (AH.MS.kept (pdEx n) t.L S) i
    have hii : (AH.MS.kept (pdEx n) t.L S)[i]? = some e:=by have:=(AH.MS.enF_some hi).2.1; simpa using this
    cases hp : pdEx n e
    · rw [AH.MS.kept_stay ht.stamps he hp] at done
      have hp' : (decide (e.k.w < n)) = false:=hp
      simp only [AH.SD,AH.SE,AOp.call?,AOp.next?,bstep,AV.cells,unAV,binAV,retQ,retV,AH.sliceElems,AH.bytesOf,AH.strOp,AH.bound,AH.missQ,AH.minmaxAV,AH.readOf,AH.effOf,Nat.reduceBEq,Nat.reduceAdd,Nat.reduceLT,↓reduceIte,Nat.reduceEqDiff,Nat.reduceLeDiff,Nat.reduceSub,Nat.reduceMul,Int.reduceSub,Int.reduceToNat,Int.reduceBEq,Int.reduceBNe,Int.reduceLT,Int.reduceGT,Int.reduceLE,Int.reduceGE,Int.reduceNeg,Int.reduceAdd,AH.SP,AH.PD,AV.inB,vstep,vw,shift,newOnes,rowsM,blkIn,rwB,@flat_lts,AV.lt,AV.lts,Nat.sub_self,AH.SO,AH.MS.stamps_last,hf,SK.av,SC.av,exT_l,hp']
      repeat (refine ⟨by first | rfl | decide | omega | (simp only [List.length_map,List.length_set,and_true]; omega),?_⟩)
      refine gc_auto [0,1,2,3] [7,1,0] [] ?_
      simp only [AH.SD,AH.SE,AOp.call?,AOp.next?,bstep,AV.cells,unAV,binAV,retQ,retV,AH.sliceElems,AH.bytesOf,AH.strOp,AH.bound,AH.missQ,AH.minmaxAV,AH.readOf,AH.effOf,Nat.reduceBEq,Nat.reduceAdd,Nat.reduceLT,↓reduceIte,Nat.reduceEqDiff,Nat.reduceLeDiff,Nat.reduceSub,Nat.reduceMul,Int.reduceSub,Int.reduceToNat,Int.reduceBEq,Int.reduceBNe,Int.reduceLT,Int.reduceGT,Int.reduceLE,Int.reduceGE,Int.reduceNeg,Int.reduceAdd,AH.SP,AH.PD,AV.inB,vstep,sp_in,sp_ren,Option.all_some,Bool.or_true,Option.map_some]
      exact done
    · rw [AH.MS.kept_strike ht.stamps he hn hp hii] at hx
      have hp' : (decide (e.k.w < n)) = true:=hp
      simp only [AH.SD,AH.SE,AOp.call?,AOp.next?,bstep,AV.cells,unAV,binAV,retQ,retV,AH.sliceElems,AH.bytesOf,AH.strOp,AH.bound,AH.missQ,AH.minmaxAV,AH.readOf,AH.effOf,Nat.reduceBEq,Nat.reduceAdd,Nat.reduceLT,↓reduceIte,Nat.reduceEqDiff,Nat.reduceLeDiff,Nat.reduceSub,Nat.reduceMul,Int.reduceSub,Int.reduceToNat,Int.reduceBEq,Int.reduceBNe,Int.reduceLT,Int.reduceGT,Int.reduceLE,Int.reduceGE,Int.reduceNeg,Int.reduceAdd,AH.SP,AH.PD,AV.inB,vstep,vw,shift,newOnes,rowsM,blkIn,rwB,@flat_lts,AV.lt,AV.lts,Nat.sub_self,AH.SO,AH.MS.stamps_last,hf,SK.av,SC.av,exT_l,hp',hfk,keyIs,hx]
      repeat (refine ⟨by first | rfl | decide | omega | (simp only [List.length_map,List.length_set,and_true]; omega),?_⟩)
      refine gc_auto [0,1,2,3] [7,1,0] [] ?_
      simp only [AH.SD,AH.SE,AOp.call?,AOp.next?,bstep,AV.cells,unAV,binAV,retQ,retV,AH.sliceElems,AH.bytesOf,AH.strOp,AH.bound,AH.missQ,AH.minmaxAV,AH.readOf,AH.effOf,Nat.reduceBEq,Nat.reduceAdd,Nat.reduceLT,↓reduceIte,Nat.reduceEqDiff,Nat.reduceLeDiff,Nat.reduceSub,Nat.reduceMul,Int.reduceSub,Int.reduceToNat,Int.reduceBEq,Int.reduceBNe,Int.reduceLT,Int.reduceGT,Int.reduceLE,Int.reduceGE,Int.reduceNeg,Int.reduceAdd,AH.SP,AH.PD,AV.inB,vstep,sp_in,sp_ren,Option.all_some,Bool.or_true,Option.map_some]
      exact done
theorem okDr : CtxOK S0 (ctxE S0 [(59,drT)] [] []):=ctxE_ok ⟨drT_ok,trivial⟩ trivial trivial mixed
def pdDr (n : Int) (e : SpE) : Bool:=e.k.j == n
def stDr (t : SpB) (n : Int) (S : List SpE) : St:=⟨[(7,.ptr 3 0 0),(1,.fn 59 [] [.ptr 2 0 0]),(0,.map 1)],[some (.row false 1 [[.map 1]]),some (.map ((AH.MS.kept (pdDr n) t.L S).map (AH.MS.enA SK.av SC.av)) t.c),some (.row false 1 [[.int .i64 n]]),some (.iter (some 1) t.c t.c (AH.MS.stamps S))]⟩
def delDr (t : SpB) (n : Int) : SpB:=⟨t.L.filter fun e => !pdDr n e,t.c⟩
theorem dlDr_ok (t : SpB) (ht : t.wf) (n : Int) : CallA1 S0 52 [.map 1,.fn 59 [] [.ptr 2 0 0]] (spM t ++ [some (.row false 1 [[.int .i64 n]])]) fun r m =>r = .tup [] ∧ m = spM (delDr t n) ++ [some (.row false 1 [[.int .i64 n]])]:=by
  refine CallA1.fin ?_
  refine fun_sound okDr Tryd.func52 c52 ?_
  unfold wpF F52
  simp only [AH.SD,AH.SE,AOp.call?,AOp.next?,bstep,AV.cells,unAV,binAV,retQ,retV,AH.sliceElems,AH.bytesOf,AH.strOp,AH.bound,AH.missQ,AH.minmaxAV,AH.readOf,AH.effOf,Nat.reduceBEq,Nat.reduceAdd,Nat.reduceLT,↓reduceIte,Nat.reduceEqDiff,Nat.reduceLeDiff,Nat.reduceSub,Nat.reduceMul,Int.reduceSub,Int.reduceToNat,Int.reduceBEq,Int.reduceBNe,Int.reduceLT,Int.reduceGT,Int.reduceLE,Int.reduceGE,Int.reduceNeg,Int.reduceAdd,AH.SP,AH.PD,AV.inB,vstep,vw,shift,newOnes,rowsM,blkIn,rwB,@flat_lts,AV.lt,AV.lts,Nat.sub_self,AH.SO,spM]
  refine loop_do [0,1,2,3] [7,1,0] [] (α:=List SpE) (fun S =>t.L.length - S.length) (stDr t n) (fun S =>AH.MS.Part t.L S) [] (AH.MS.part_nil _) (by simp only [AH.SD,AH.SE,AOp.call?,AOp.next?,bstep,AV.cells,unAV,binAV,retQ,retV,AH.sliceElems,AH.bytesOf,AH.strOp,AH.bound,AH.missQ,AH.minmaxAV,AH.readOf,AH.effOf,Nat.reduceBEq,Nat.reduceAdd,Nat.reduceLT,↓reduceIte,Nat.reduceEqDiff,Nat.reduceLeDiff,Nat.reduceSub,Nat.reduceMul,Int.reduceSub,Int.reduceToNat,Int.reduceBEq,Int.reduceBNe,Int.reduceLT,Int.reduceGT,Int.reduceLE,Int.reduceGE,Int.reduceNeg,Int.reduceAdd,AH.SP,AH.PD,AV.inB,vstep,stDr,sp_in,sp_ren,AH.MS.kept_0,AH.MS.stamps_nil,Option.all_some,Bool.or_true,Option.map_some]) ?_
  intro X S hS ih
  simp only [AH.SD,AH.SE,AOp.call?,AOp.next?,bstep,AV.cells,unAV,binAV,retQ,retV,AH.sliceElems,AH.bytesOf,AH.strOp,AH.bound,AH.missQ,AH.minmaxAV,AH.readOf,AH.effOf,Nat.reduceBEq,Nat.reduceAdd,Nat.reduceLT,↓reduceIte,Nat.reduceEqDiff,Nat.reduceLeDiff,Nat.reduceSub,Nat.reduceMul,Int.reduceSub,Int.reduceToNat,Int.reduceBEq,Int.reduceBNe,Int.reduceLT,Int.reduceGT,Int.reduceLE,Int.reduceGE,Int.reduceNeg,Int.reduceAdd,AH.SP,AH.PD,AV.inB,vstep,vw,shift,newOnes,rowsM,blkIn,rwB,@flat_lts,AV.lt,AV.lts,Nat.sub_self,AH.SO,stDr]
  refine AH.MS.next_df ht rfl rfl (fun hall => ?_) (fun e he hke hn => ?_)
  · have hk:=AH.MS.kept_all (pd:=pdDr n) hall
    simp only [AH.SD,AH.SE,AOp.call?,AOp.next?,bstep,AV.cells,unAV,binAV,retQ,retV,AH.sliceElems,AH.bytesOf,AH.strOp,AH.bound,AH.missQ,AH.minmaxAV,AH.readOf,AH.effOf,Nat.reduceBEq,Nat.reduceAdd,Nat.reduceLT,↓reduceIte,Nat.reduceEqDiff,Nat.reduceLeDiff,Nat.reduceSub,Nat.reduceMul,Int.reduceSub,Int.reduceToNat,Int.reduceBEq,Int.reduceBNe,Int.reduceLT,Int.reduceGT,Int.reduceLE,Int.reduceGE,Int.reduceNeg,Int.reduceAdd,AH.SP,AH.PD,AV.inB,vstep,vw,shift,newOnes,rowsM,blkIn,rwB,@flat_lts,AV.lt,AV.lts,Nat.sub_self,AH.SO,hk]
    refine ⟨[0,1,2],[],?_⟩
    simp only [AH.SD,AH.SE,AOp.call?,AOp.next?,bstep,AV.cells,unAV,binAV,retQ,retV,AH.sliceElems,AH.bytesOf,AH.strOp,AH.bound,AH.missQ,AH.minmaxAV,AH.readOf,AH.effOf,Nat.reduceBEq,Nat.reduceAdd,Nat.reduceLT,↓reduceIte,Nat.reduceEqDiff,Nat.reduceLeDiff,Nat.reduceSub,Nat.reduceMul,Int.reduceSub,Int.reduceToNat,Int.reduceBEq,Int.reduceBNe,Int.reduceLT,Int.reduceGT,Int.reduceLE,Int.reduceGE,Int.reduceNeg,Int.reduceAdd,AH.SP,AH.PD,AV.inB,vstep,sp_in,sp_ren,delDr]
  · have hS':=hS.snoc he hn
    have hlt:=hS'.len
    have done:=ih (S ++ [e]) hS' (by rw [List.length_append,List.length_singleton] at *; omega)
    simp only [stDr] at done
    have hf:=AH.MS.find_en (g:=SK.av) (f:=SC.av) (kept_wf (pd:=pdDr n) ht S) hke
    simp only [AH.MS.enA,SK.av,SC.av] at hf
    obtain ⟨i,hi⟩:=AH.MS.enF_key (kept_wf (pd:=pdDr n) ht S).keys hke
    simp only at hi
    have hfk:=AH.MS.findK_en keyS SC.av e.k (AH.MS.kept (pdDr n) t.L S) 0
    rw [hi] at hfk
    simp only [SK.av,Option.map_some,AH.MS.enV,SC.av] at hfk
    have hx:=AH.MS.erase_en SK.av SC.av (AH.MS.kept (pdDr n) t.L S) i
    have hii : (AH.MS.kept (pdDr n) t.L S)[i]? = some e:=by have:=(AH.MS.enF_some hi).2.1; simpa using this
    cases hp : pdDr n e
    · rw [AH.MS.kept_stay ht.stamps he hp] at done
      have hp' : (e.k.j == n) = false:=hp
      simp only [AH.SD,AH.SE,AOp.call?,AOp.next?,bstep,AV.cells,unAV,binAV,retQ,retV,AH.sliceElems,AH.bytesOf,AH.strOp,AH.bound,AH.missQ,AH.minmaxAV,AH.readOf,AH.effOf,Nat.reduceBEq,Nat.reduceAdd,Nat.reduceLT,↓reduceIte,Nat.reduceEqDiff,Nat.reduceLeDiff,Nat.reduceSub,Nat.reduceMul,Int.reduceSub,Int.reduceToNat,Int.reduceBEq,Int.reduceBNe,Int.reduceLT,Int.reduceGT,Int.reduceLE,Int.reduceGE,Int.reduceNeg,Int.reduceAdd,AH.SP,AH.PD,AV.inB,vstep,vw,shift,newOnes,rowsM,blkIn,rwB,@flat_lts,AV.lt,AV.lts,Nat.sub_self,AH.SO,AH.MS.stamps_last,hf,SK.av,SC.av,drT_l,hp']
      repeat (refine ⟨by first | rfl | decide | omega | (simp only [List.length_map,List.length_set,and_true]; omega),?_⟩)
      refine gc_auto [0,1,2,3] [7,1,0] [] ?_
      simp only [AH.SD,AH.SE,AOp.call?,AOp.next?,bstep,AV.cells,unAV,binAV,retQ,retV,AH.sliceElems,AH.bytesOf,AH.strOp,AH.bound,AH.missQ,AH.minmaxAV,AH.readOf,AH.effOf,Nat.reduceBEq,Nat.reduceAdd,Nat.reduceLT,↓reduceIte,Nat.reduceEqDiff,Nat.reduceLeDiff,Nat.reduceSub,Nat.reduceMul,Int.reduceSub,Int.reduceToNat,Int.reduceBEq,Int.reduceBNe,Int.reduceLT,Int.reduceGT,Int.reduceLE,Int.reduceGE,Int.reduceNeg,Int.reduceAdd,AH.SP,AH.PD,AV.inB,vstep,sp_in,sp_ren,Option.all_some,Bool.or_true,Option.map_some]
      exact done
    · rw [AH.MS.kept_strike ht.stamps he hn hp hii] at hx
      have hp' : (e.k.j == n) = true:=hp
      simp only [AH.SD,AH.SE,AOp.call?,AOp.next?,bstep,AV.cells,unAV,binAV,retQ,retV,AH.sliceElems,AH.bytesOf,AH.strOp,AH.bound,AH.missQ,AH.minmaxAV,AH.readOf,AH.effOf,Nat.reduceBEq,Nat.reduceAdd,Nat.reduceLT,↓reduceIte,Nat.reduceEqDiff,Nat.reduceLeDiff,Nat.reduceSub,Nat.reduceMul,Int.reduceSub,Int.reduceToNat,Int.reduceBEq,Int.reduceBNe,Int.reduceLT,Int.reduceGT,Int.reduceLE,Int.reduceGE,Int.reduceNeg,Int.reduceAdd,AH.SP,AH.PD,AV.inB,vstep,vw,shift,newOnes,rowsM,blkIn,rwB,@flat_lts,AV.lt,AV.lts,Nat.sub_self,AH.SO,AH.MS.stamps_last,hf,SK.av,SC.av,drT_l,hp',hfk,keyIs,hx]
      repeat (refine ⟨by first | rfl | decide | omega | (simp only [List.length_map,List.length_set,and_true]; omega),?_⟩)
      refine gc_auto [0,1,2,3] [7,1,0] [] ?_
      simp only [AH.SD,AH.SE,AOp.call?,AOp.next?,bstep,AV.cells,unAV,binAV,retQ,retV,AH.sliceElems,AH.bytesOf,AH.strOp,AH.bound,AH.missQ,AH.minmaxAV,AH.readOf,AH.effOf,Nat.reduceBEq,Nat.reduceAdd,Nat.reduceLT,↓reduceIte,Nat.reduceEqDiff,Nat.reduceLeDiff,Nat.reduceSub,Nat.reduceMul,Int.reduceSub,Int.reduceToNat,Int.reduceBEq,Int.reduceBNe,Int.reduceLT,Int.reduceGT,Int.reduceLE,Int.reduceGE,Int.reduceNeg,Int.reduceAdd,AH.SP,AH.PD,AV.inB,vstep,sp_in,sp_ren,Option.all_some,Bool.or_true,Option.map_some]
      exact done
theorem spEx_ok (t : SpB) (ht : t.wf) (n : Int) : CallA1 S0 20 [.ptr 0 0 0,.int .i64 n] (spM t) fun r m =>r = .tup [] ∧ m = spM (delEx t n):=by
  refine CallA1.fin ?_
  refine fun_sound okS0 Tryd.func20 c20 ?_
  unfold wpF F20
  simp only [AH.SD,AH.SE,AOp.call?,AOp.next?,bstep,AV.cells,unAV,binAV,retQ,retV,AH.sliceElems,AH.bytesOf,AH.strOp,AH.bound,AH.missQ,AH.minmaxAV,AH.readOf,AH.effOf,Nat.reduceBEq,Nat.reduceAdd,Nat.reduceLT,↓reduceIte,Nat.reduceEqDiff,Nat.reduceLeDiff,Nat.reduceSub,Nat.reduceMul,Int.reduceSub,Int.reduceToNat,Int.reduceBEq,Int.reduceBNe,Int.reduceLT,Int.reduceGT,Int.reduceLE,Int.reduceGE,Int.reduceNeg,Int.reduceAdd,AH.SP,AH.PD,AV.inB,vstep,vw,shift,newOnes,rowsM,blkIn,rwB,@flat_lts,AV.lt,AV.lts,Nat.sub_self,AH.SO,spM]
  refine (dlEx_ok t ht n).mono ?_
  rintro r m ⟨rfl,rfl⟩
  simp only [AH.SD,AH.SE,AOp.call?,AOp.next?,bstep,AV.cells,unAV,binAV,retQ,retV,AH.sliceElems,AH.bytesOf,AH.strOp,AH.bound,AH.missQ,AH.minmaxAV,AH.readOf,AH.effOf,Nat.reduceBEq,Nat.reduceAdd,Nat.reduceLT,↓reduceIte,Nat.reduceEqDiff,Nat.reduceLeDiff,Nat.reduceSub,Nat.reduceMul,Int.reduceSub,Int.reduceToNat,Int.reduceBEq,Int.reduceBNe,Int.reduceLT,Int.reduceGT,Int.reduceLE,Int.reduceGE,Int.reduceNeg,Int.reduceAdd,AH.SP,AH.PD,AV.inB,vstep,vw,shift,newOnes,rowsM,blkIn,rwB,@flat_lts,AV.lt,AV.lts,Nat.sub_self,AH.SO,spM]
  refine ⟨[0,1],[],?_⟩
  simp only [AH.SD,AH.SE,AOp.call?,AOp.next?,bstep,AV.cells,unAV,binAV,retQ,retV,AH.sliceElems,AH.bytesOf,AH.strOp,AH.bound,AH.missQ,AH.minmaxAV,AH.readOf,AH.effOf,Nat.reduceBEq,Nat.reduceAdd,Nat.reduceLT,↓reduceIte,Nat.reduceEqDiff,Nat.reduceLeDiff,Nat.reduceSub,Nat.reduceMul,Int.reduceSub,Int.reduceToNat,Int.reduceBEq,Int.reduceBNe,Int.reduceLT,Int.reduceGT,Int.reduceLE,Int.reduceGE,Int.reduceNeg,Int.reduceAdd,AH.SP,AH.PD,AV.inB,vstep,sp_in,sp_ren]
theorem spExN_ok (n : Int) : Pure S0 20 [.nilp,.int .i64 n] (.tup []):=by
  refine fun_sound okS0 Tryd.func20 c20 ?_
  unfold wpF F20
  simp only [AH.SD,AH.SE,AOp.call?,AOp.next?,bstep,AV.cells,unAV,binAV,retQ,retV,AH.sliceElems,AH.bytesOf,AH.strOp,AH.bound,AH.missQ,AH.minmaxAV,AH.readOf,AH.effOf,Nat.reduceBEq,Nat.reduceAdd,Nat.reduceLT,↓reduceIte,Nat.reduceEqDiff,Nat.reduceLeDiff,Nat.reduceSub,Nat.reduceMul,Int.reduceSub,Int.reduceToNat,Int.reduceBEq,Int.reduceBNe,Int.reduceLT,Int.reduceGT,Int.reduceLE,Int.reduceGE,Int.reduceNeg,Int.reduceAdd,AH.SP,AH.PD,AV.inB,vstep,vw,shift,newOnes,rowsM,blkIn,rwB,@flat_lts,AV.lt,AV.lts,Nat.sub_self,AH.SO]
  try trivial
theorem spDr_ok (t : SpB) (ht : t.wf) (n : Int) : CallA1 S0 24 [.ptr 0 0 0,.int .i64 n] (spM t) fun r m =>r = .tup [] ∧ m = spM (delDr t n):=by
  refine CallA1.fin ?_
  refine fun_sound okS0 Tryd.func24 c24 ?_
  unfold wpF F24
  simp only [AH.SD,AH.SE,AOp.call?,AOp.next?,bstep,AV.cells,unAV,binAV,retQ,retV,AH.sliceElems,AH.bytesOf,AH.strOp,AH.bound,AH.missQ,AH.minmaxAV,AH.readOf,AH.effOf,Nat.reduceBEq,Nat.reduceAdd,Nat.reduceLT,↓reduceIte,Nat.reduceEqDiff,Nat.reduceLeDiff,Nat.reduceSub,Nat.reduceMul,Int.reduceSub,Int.reduceToNat,Int.reduceBEq,Int.reduceBNe,Int.reduceLT,Int.reduceGT,Int.reduceLE,Int.reduceGE,Int.reduceNeg,Int.reduceAdd,AH.SP,AH.PD,AV.inB,vstep,vw,shift,newOnes,rowsM,blkIn,rwB,@flat_lts,AV.lt,AV.lts,Nat.sub_self,AH.SO,spM]
  refine (dlDr_ok t ht n).mono ?_
  rintro r m ⟨rfl,rfl⟩
  simp only [AH.SD,AH.SE,AOp.call?,AOp.next?,bstep,AV.cells,unAV,binAV,retQ,retV,AH.sliceElems,AH.bytesOf,AH.strOp,AH.bound,AH.missQ,AH.minmaxAV,AH.readOf,AH.effOf,Nat.reduceBEq,Nat.reduceAdd,Nat.reduceLT,↓reduceIte,Nat.reduceEqDiff,Nat.reduceLeDiff,Nat.reduceSub,Nat.reduceMul,Int.reduceSub,Int.reduceToNat,Int.reduceBEq,Int.reduceBNe,Int.reduceLT,Int.reduceGT,Int.reduceLE,Int.reduceGE,Int.reduceNeg,Int.reduceAdd,AH.SP,AH.PD,AV.inB,vstep,vw,shift,newOnes,rowsM,blkIn,rwB,@flat_lts,AV.lt,AV.lts,Nat.sub_self,AH.SO,spM]
  refine ⟨[0,1],[],?_⟩
  simp only [AH.SD,AH.SE,AOp.call?,AOp.next?,bstep,AV.cells,unAV,binAV,retQ,retV,AH.sliceElems,AH.bytesOf,AH.strOp,AH.bound,AH.missQ,AH.minmaxAV,AH.readOf,AH.effOf,Nat.reduceBEq,Nat.reduceAdd,Nat.reduceLT,↓reduceIte,Nat.reduceEqDiff,Nat.reduceLeDiff,Nat.reduceSub,Nat.reduceMul,Int.reduceSub,Int.reduceToNat,Int.reduceBEq,Int.reduceBNe,Int.reduceLT,Int.reduceGT,Int.reduceLE,Int.reduceGE,Int.reduceNeg,Int.reduceAdd,AH.SP,AH.PD,AV.inB,vstep,sp_in,sp_ren]
theorem spDrN_ok (n : Int) : Pure S0 24 [.nilp,.int .i64 n] (.tup []):=by
  refine fun_sound okS0 Tryd.func24 c24 ?_
  unfold wpF F24
  simp only [AH.SD,AH.SE,AOp.call?,AOp.next?,bstep,AV.cells,unAV,binAV,retQ,retV,AH.sliceElems,AH.bytesOf,AH.strOp,AH.bound,AH.missQ,AH.minmaxAV,AH.readOf,AH.effOf,Nat.reduceBEq,Nat.reduceAdd,Nat.reduceLT,↓reduceIte,Nat.reduceEqDiff,Nat.reduceLeDiff,Nat.reduceSub,Nat.reduceMul,Int.reduceSub,Int.reduceToNat,Int.reduceBEq,Int.reduceBNe,Int.reduceLT,Int.reduceGT,Int.reduceLE,Int.reduceGE,Int.reduceNeg,Int.reduceAdd,AH.SP,AH.PD,AV.inB,vstep,vw,shift,newOnes,rowsM,blkIn,rwB,@flat_lts,AV.lt,AV.lts,Nat.sub_self,AH.SO]
  try trivial
end Go.Proofs.YtamkjgiemconbaaDoor.D19
