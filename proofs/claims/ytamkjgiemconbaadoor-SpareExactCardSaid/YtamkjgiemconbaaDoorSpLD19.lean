import Derived.Test.YtamkjgiemconbaaDoorSpDD19
import Derived.Test.YtamkjgiemconbaaDoorSeqAD19
import Derived.Test.YtamkjgiemconbaaDoorSortAD19
open Go AH
set_option linter.unusedSimpArgs false
set_option maxRecDepth 100000
namespace Go.Proofs.YtamkjgiemconbaaDoor.D19
theorem vals_ah {m : Mem} {id : Nat} : CallA1 S0 58 [.map id] m fun r m' =>r = .fn 76 [] [.ptr m.length 0 0] ∧ m' = m ++ [some (.row false 1 [[.map id]])]:=by
  refine fun_sound okS0 Tryd.func58 c58 ?_
  unfold wpF F58
  simp only [AH.SD,AH.SE,AOp.call?,AOp.next?,bstep,AV.cells,unAV,binAV,retQ,retV,AH.sliceElems,AH.bytesOf,AH.strOp,AH.bound,AH.missQ,AH.minmaxAV,AH.readOf,AH.effOf,Nat.reduceBEq,Nat.reduceAdd,Nat.reduceLT,↓reduceIte,Nat.reduceEqDiff,Nat.reduceLeDiff,Nat.reduceSub,Nat.reduceMul,Int.reduceSub,Int.reduceToNat,Int.reduceBEq,Int.reduceBNe,Int.reduceLT,Int.reduceGT,Int.reduceLE,Int.reduceGE,Int.reduceNeg,Int.reduceAdd,AH.SP,AH.PD,AV.inB,vstep,vw,shift,newOnes,rowsM,blkIn,rwB,@flat_lts,AV.lt,AV.lts,Nat.sub_self,AH.SO,AH.GM]
  try trivial
theorem coll_ah {m : Mem} {b id : Nat} {ro : Bool} {L : List SpE} {c : Nat} (hb : mget m b = some (.row ro 1 [[.map id]])) (hm : mget m id = some (.map (L.map (AH.MS.enA SK.av SC.av)) c)) (ht : (⟨L,c⟩ : SpB).wf) (hl : L.length ≤ 1048576) {K : AV → Mem → Prop} (h0 : L = [] → K .nils m)
    (h1 : ∀ L' : List SC,L'.Perm (L.map (·.v)) → L' ≠ [] → K (.slc m.length 0 L'.length none) (m ++ [some (.row false 4 (L'.map SC.cells))])) : CallA1 S0 74 [.fn 76 [] [.ptr b 0 0]] m K:=by
  refine fun_sound okS0 Tryd.func74 c74 ?_
  unfold wpF F74
  simp only [AH.SD,AH.SE,AOp.call?,AOp.next?,bstep,AV.cells,unAV,binAV,retQ,retV,AH.sliceElems,AH.bytesOf,AH.strOp,AH.bound,AH.missQ,AH.minmaxAV,AH.readOf,AH.effOf,Nat.reduceBEq,Nat.reduceAdd,Nat.reduceLT,↓reduceIte,Nat.reduceEqDiff,Nat.reduceLeDiff,Nat.reduceSub,Nat.reduceMul,Int.reduceSub,Int.reduceToNat,Int.reduceBEq,Int.reduceBNe,Int.reduceLT,Int.reduceGT,Int.reduceLE,Int.reduceGE,Int.reduceNeg,Int.reduceAdd,AH.SP,AH.PD,AV.inB,vstep,vw,shift,newOnes,rowsM,blkIn,rwB,@flat_lts,AV.lt,AV.lts,Nat.sub_self,AH.SO]
  refine app_ah hb hm (fun e he => ?_) (by rw [List.map_map]; exact ht.stamps) (fun e he => ?_) (by rw [List.length_map]; exact hl) (fun q => ?_) (fun es' hp hne => ?_)
  · obtain ⟨x,hx,rfl⟩:=List.mem_map.1 he
    exact ⟨x.v.cells,rfl,rfl⟩
  · obtain ⟨x,hx,rfl⟩:=List.mem_map.1 he
    exact ht.lt x hx
  · have:=h0 (List.map_eq_nil_iff.1 q)
    simp only [AH.SD,AH.SE,AOp.call?,AOp.next?,bstep,AV.cells,unAV,binAV,retQ,retV,AH.sliceElems,AH.bytesOf,AH.strOp,AH.bound,AH.missQ,AH.minmaxAV,AH.readOf,AH.effOf,Nat.reduceBEq,Nat.reduceAdd,Nat.reduceLT,↓reduceIte,Nat.reduceEqDiff,Nat.reduceLeDiff,Nat.reduceSub,Nat.reduceMul,Int.reduceSub,Int.reduceToNat,Int.reduceBEq,Int.reduceBNe,Int.reduceLT,Int.reduceGT,Int.reduceLE,Int.reduceGE,Int.reduceNeg,Int.reduceAdd,AH.SP,AH.PD,AV.inB,vstep,vw,shift,newOnes,rowsM,blkIn,rwB,@flat_lts,AV.lt,AV.lts,Nat.sub_self,AH.SO]
    exact this
  · obtain ⟨L',p,rfl⟩:=AH.Seq.perm_map_inv L hp
    have hne' : L'.map (·.v) ≠ []:=fun q =>hne (by rw [List.map_eq_nil_iff.1 q]; rfl)
    have:=h1 (L'.map (·.v)) (p.map _) hne'
    rw [List.length_map,List.map_map] at this
    simp only [AH.SD,AH.SE,AOp.call?,AOp.next?,bstep,AV.cells,unAV,binAV,retQ,retV,AH.sliceElems,AH.bytesOf,AH.strOp,AH.bound,AH.missQ,AH.minmaxAV,AH.readOf,AH.effOf,Nat.reduceBEq,Nat.reduceAdd,Nat.reduceLT,↓reduceIte,Nat.reduceEqDiff,Nat.reduceLeDiff,Nat.reduceSub,Nat.reduceMul,Int.reduceSub,Int.reduceToNat,Int.reduceBEq,Int.reduceBNe,Int.reduceLT,Int.reduceGT,Int.reduceLE,Int.reduceGE,Int.reduceNeg,Int.reduceAdd,AH.SP,AH.PD,AV.inB,vstep,vw,shift,newOnes,rowsM,blkIn,rwB,@flat_lts,AV.lt,AV.lts,Nat.sub_self,AH.SO,List.length_map]
    rw [List.map_map]
    exact this
def leC (x y : SC) : Prop:=¬ cfC y x < 0
theorem sf_ah {m : Mem} {b id : Nat} {ro : Bool} {L : List SpE} {c : Nat} (hb : mget m b = some (.row ro 1 [[.map id]])) (hm : mget m id = some (.map (L.map (AH.MS.enA SK.av SC.av)) c)) (ht : (⟨L,c⟩ : SpB).wf) (hl : L.length ≤ 1048576) {K : AV → Mem → Prop} (h0 : L = [] → K .nils m)
    (h1 : ∀ L' : List SC,L'.Perm (L.map (·.v)) → L'.Pairwise leC → L' ≠ [] → K (.slc m.length 0 L'.length none) (m ++ [some (.row false 4 (L'.map SC.cells))])) : CallA1 S0 57 [.fn 76 [] [.ptr b 0 0],.fn 54 [] []] m K:=by
  refine fun_sound okS0 Tryd.func57 c57 ?_
  unfold wpF F57
  simp only [AH.SD,AH.SE,AOp.call?,AOp.next?,bstep,AV.cells,unAV,binAV,retQ,retV,AH.sliceElems,AH.bytesOf,AH.strOp,AH.bound,AH.missQ,AH.minmaxAV,AH.readOf,AH.effOf,Nat.reduceBEq,Nat.reduceAdd,Nat.reduceLT,↓reduceIte,Nat.reduceEqDiff,Nat.reduceLeDiff,Nat.reduceSub,Nat.reduceMul,Int.reduceSub,Int.reduceToNat,Int.reduceBEq,Int.reduceBNe,Int.reduceLT,Int.reduceGT,Int.reduceLE,Int.reduceGE,Int.reduceNeg,Int.reduceAdd,AH.SP,AH.PD,AV.inB,vstep,vw,shift,newOnes,rowsM,blkIn,rwB,@flat_lts,AV.lt,AV.lts,Nat.sub_self,AH.SO]
  refine coll_ah hb hm ht hl (fun q => ?_) (fun L' hp hne => ?_)
  · simp only [AH.SD,AH.SE,AOp.call?,AOp.next?,bstep,AV.cells,unAV,binAV,retQ,retV,AH.sliceElems,AH.bytesOf,AH.strOp,AH.bound,AH.missQ,AH.minmaxAV,AH.readOf,AH.effOf,Nat.reduceBEq,Nat.reduceAdd,Nat.reduceLT,↓reduceIte,Nat.reduceEqDiff,Nat.reduceLeDiff,Nat.reduceSub,Nat.reduceMul,Int.reduceSub,Int.reduceToNat,Int.reduceBEq,Int.reduceBNe,Int.reduceLT,Int.reduceGT,Int.reduceLE,Int.reduceGE,Int.reduceNeg,Int.reduceAdd,AH.SP,AH.PD,AV.inB,vstep,vw,shift,newOnes,rowsM,blkIn,rwB,@flat_lts,AV.lt,AV.lts,Nat.sub_self,AH.SO]
    refine sortN_ah ?_
    simp only [AH.SD,AH.SE,AOp.call?,AOp.next?,bstep,AV.cells,unAV,binAV,retQ,retV,AH.sliceElems,AH.bytesOf,AH.strOp,AH.bound,AH.missQ,AH.minmaxAV,AH.readOf,AH.effOf,Nat.reduceBEq,Nat.reduceAdd,Nat.reduceLT,↓reduceIte,Nat.reduceEqDiff,Nat.reduceLeDiff,Nat.reduceSub,Nat.reduceMul,Int.reduceSub,Int.reduceToNat,Int.reduceBEq,Int.reduceBNe,Int.reduceLT,Int.reduceGT,Int.reduceLE,Int.reduceGE,Int.reduceNeg,Int.reduceAdd,AH.SP,AH.PD,AV.inB,vstep,vw,shift,newOnes,rowsM,blkIn,rwB,@flat_lts,AV.lt,AV.lts,Nat.sub_self,AH.SO]
    exact h0 q
  · simp only [AH.SD,AH.SE,AOp.call?,AOp.next?,bstep,AV.cells,unAV,binAV,retQ,retV,AH.sliceElems,AH.bytesOf,AH.strOp,AH.bound,AH.missQ,AH.minmaxAV,AH.readOf,AH.effOf,Nat.reduceBEq,Nat.reduceAdd,Nat.reduceLT,↓reduceIte,Nat.reduceEqDiff,Nat.reduceLeDiff,Nat.reduceSub,Nat.reduceMul,Int.reduceSub,Int.reduceToNat,Int.reduceBEq,Int.reduceBNe,Int.reduceLT,Int.reduceGT,Int.reduceLE,Int.reduceGE,Int.reduceNeg,Int.reduceAdd,AH.SP,AH.PD,AV.inB,vstep,vw,shift,newOnes,rowsM,blkIn,rwB,@flat_lts,AV.lt,AV.lts,Nat.sub_self,AH.SO]
    refine sort_ah (L:=L') (gm_get_0 rfl) hne (by rw [hp.length_eq,List.length_map]; exact hl) (fun L2 p2 s2 => ?_)
    have:=h1 L2 (p2.trans hp) s2 (fun q =>hne (by rw [q] at p2; exact p2.symm.eq_nil))
    simp only [AH.SD,AH.SE,AOp.call?,AOp.next?,bstep,AV.cells,unAV,binAV,retQ,retV,AH.sliceElems,AH.bytesOf,AH.strOp,AH.bound,AH.missQ,AH.minmaxAV,AH.readOf,AH.effOf,Nat.reduceBEq,Nat.reduceAdd,Nat.reduceLT,↓reduceIte,Nat.reduceEqDiff,Nat.reduceLeDiff,Nat.reduceSub,Nat.reduceMul,Int.reduceSub,Int.reduceToNat,Int.reduceBEq,Int.reduceBNe,Int.reduceLT,Int.reduceGT,Int.reduceLE,Int.reduceGE,Int.reduceNeg,Int.reduceAdd,AH.SP,AH.PD,AV.inB,vstep,vw,shift,newOnes,rowsM,blkIn,rwB,@flat_lts,AV.lt,AV.lts,Nat.sub_self,AH.SO,AH.GM]
    rw [← p2.length_eq]
    exact this
instance (x y : SC) : Decidable (leC x y):=by unfold leC; infer_instance
instance : FlatE SC.cells:=⟨cSC.flat⟩
def listB (t : SpB) : List SC:=(t.L.map fun e : SpE =>e.v).mergeSort fun x y =>decide (leC x y)
structure Bk (t : SpB) : Prop where
  wf : t.wf
  key : ∀ e ∈ t.L,e.v.j = e.k.j ∧ e.v.w = e.k.w
theorem leC_iff (x y : SC) : leC x y ↔ x.j < y.j ∨ (x.j = y.j ∧ x.w ≤ y.w):=by
  unfold leC; rw [cfC_lt]; omega
theorem vals_key {t : SpB} (h : Bk t) {a b : SC} (ha : a ∈ t.L.map (·.v)) (hb : b ∈ t.L.map (·.v)) (hj : a.j = b.j) (hw : a.w = b.w) : a = b:=by
  obtain ⟨x,hx,rfl⟩:=List.mem_map.1 ha
  obtain ⟨y,hy,rfl⟩:=List.mem_map.1 hb
  have k1:=h.key x hx
  have k2:=h.key y hy
  have : x.k = y.k:=by
    obtain ⟨⟨_,_⟩,_,_⟩:=x
    obtain ⟨⟨_,_⟩,_,_⟩:=y
    simp only at *
    rw [← k1.1,← k1.2,hj,hw,k2.1,k2.2]
  obtain ⟨i,hi⟩:=AH.MS.enF_key h.wf.keys hx
  obtain ⟨j,hj2⟩:=AH.MS.enF_key h.wf.keys hy
  rw [this,hj2] at hi
  simp only [Option.some.injEq,Prod.mk.injEq] at hi
  rw [hi.2]
theorem list_eq {t : SpB} (h : Bk t) {L : List SC} (hp : L.Perm (t.L.map (·.v))) (hs : L.Pairwise leC) : L = listB t:=by
  have tr : ∀ a b c : SC,decide (leC a b) = true → decide (leC b c) = true → decide (leC a c) = true:=fun a b c h1 h2 =>by
    simp only [decide_eq_true_eq,leC_iff] at *; omega
  have tot : ∀ a b : SC,(decide (leC a b) || decide (leC b a)) = true:=fun a b =>by
    simp only [Bool.or_eq_true,decide_eq_true_eq,leC_iff]; omega
  have hm : (listB t).Pairwise leC:=(List.pairwise_mergeSort (le:=fun x y =>decide (leC x y)) tr tot (t.L.map fun e : SpE =>e.v)).imp fun q =>of_decide_eq_true q
  have hp2 : (listB t).Perm (t.L.map (·.v)):=List.mergeSort_perm _ _
  refine List.Perm.eq_of_pairwise (le:=leC) (fun a b ha hb h1 h2 => ?_) hs hm (hp.trans hp2.symm)
  rw [leC_iff] at h1 h2
  exact vals_key h (hp.mem_iff.1 ha) (hp2.mem_iff.1 hb) (by omega) (by omega)
theorem spList_ok (t : SpB) (h : Bk t) (hl : t.L.length ≤ 1048576) (hne : t.L ≠ []) : CallA1 S0 22 [.ptr 0 0 0] (spM t) fun r m =>r = .slc 2 0 (listB t).length none ∧ m = spM t ++ [some (.row false 4 ((listB t).map SC.cells))]:=by
  refine CallA1.fin ?_
  refine fun_sound okS0 Tryd.func22 c22 ?_
  unfold wpF F22
  simp only [AH.SD,AH.SE,AOp.call?,AOp.next?,bstep,AV.cells,unAV,binAV,retQ,retV,AH.sliceElems,AH.bytesOf,AH.strOp,AH.bound,AH.missQ,AH.minmaxAV,AH.readOf,AH.effOf,Nat.reduceBEq,Nat.reduceAdd,Nat.reduceLT,↓reduceIte,Nat.reduceEqDiff,Nat.reduceLeDiff,Nat.reduceSub,Nat.reduceMul,Int.reduceSub,Int.reduceToNat,Int.reduceBEq,Int.reduceBNe,Int.reduceLT,Int.reduceGT,Int.reduceLE,Int.reduceGE,Int.reduceNeg,Int.reduceAdd,AH.SP,AH.PD,AV.inB,vstep,vw,shift,newOnes,rowsM,blkIn,rwB,@flat_lts,AV.lt,AV.lts,Nat.sub_self,AH.SO,spM]
  refine (vals_ah).mono ?_
  rintro r m ⟨rfl,rfl⟩
  simp only [AH.SD,AH.SE,AOp.call?,AOp.next?,bstep,AV.cells,unAV,binAV,retQ,retV,AH.sliceElems,AH.bytesOf,AH.strOp,AH.bound,AH.missQ,AH.minmaxAV,AH.readOf,AH.effOf,Nat.reduceBEq,Nat.reduceAdd,Nat.reduceLT,↓reduceIte,Nat.reduceEqDiff,Nat.reduceLeDiff,Nat.reduceSub,Nat.reduceMul,Int.reduceSub,Int.reduceToNat,Int.reduceBEq,Int.reduceBNe,Int.reduceLT,Int.reduceGT,Int.reduceLE,Int.reduceGE,Int.reduceNeg,Int.reduceAdd,AH.SP,AH.PD,AV.inB,vstep,vw,shift,newOnes,rowsM,blkIn,rwB,@flat_lts,AV.lt,AV.lts,Nat.sub_self,AH.SO]
  refine sf_ah (L:=t.L) (c:=t.c) (b:=2) (id:=1) rfl rfl h.wf hl (fun q =>absurd q hne) (fun L hp hs _ => ?_)
  rw [list_eq h hp hs]
  simp only [AH.SD,AH.SE,AOp.call?,AOp.next?,bstep,AV.cells,unAV,binAV,retQ,retV,AH.sliceElems,AH.bytesOf,AH.strOp,AH.bound,AH.missQ,AH.minmaxAV,AH.readOf,AH.effOf,Nat.reduceBEq,Nat.reduceAdd,Nat.reduceLT,↓reduceIte,Nat.reduceEqDiff,Nat.reduceLeDiff,Nat.reduceSub,Nat.reduceMul,Int.reduceSub,Int.reduceToNat,Int.reduceBEq,Int.reduceBNe,Int.reduceLT,Int.reduceGT,Int.reduceLE,Int.reduceGE,Int.reduceNeg,Int.reduceAdd,AH.SP,AH.PD,AV.inB,vstep,vw,shift,newOnes,rowsM,blkIn,rwB,@flat_lts,AV.lt,AV.lts,Nat.sub_self,AH.SO]
  refine ⟨[0,1,3],[],?_⟩
  simp only [AH.SD,AH.SE,AOp.call?,AOp.next?,bstep,AV.cells,unAV,binAV,retQ,retV,AH.sliceElems,AH.bytesOf,AH.strOp,AH.bound,AH.missQ,AH.minmaxAV,AH.readOf,AH.effOf,Nat.reduceBEq,Nat.reduceAdd,Nat.reduceLT,↓reduceIte,Nat.reduceEqDiff,Nat.reduceLeDiff,Nat.reduceSub,Nat.reduceMul,Int.reduceSub,Int.reduceToNat,Int.reduceBEq,Int.reduceBNe,Int.reduceLT,Int.reduceGT,Int.reduceLE,Int.reduceGE,Int.reduceNeg,Int.reduceAdd,AH.SP,AH.PD,AV.inB,vstep,sp_in,sp_ren]
theorem spList0_ok (t : SpB) (h : Bk t) (hne : t.L = []) : CallA1 S0 22 [.ptr 0 0 0] (spM t) fun r m =>r = .nils ∧ m = spM t:=by
  refine CallA1.fin ?_
  refine fun_sound okS0 Tryd.func22 c22 ?_
  unfold wpF F22
  simp only [AH.SD,AH.SE,AOp.call?,AOp.next?,bstep,AV.cells,unAV,binAV,retQ,retV,AH.sliceElems,AH.bytesOf,AH.strOp,AH.bound,AH.missQ,AH.minmaxAV,AH.readOf,AH.effOf,Nat.reduceBEq,Nat.reduceAdd,Nat.reduceLT,↓reduceIte,Nat.reduceEqDiff,Nat.reduceLeDiff,Nat.reduceSub,Nat.reduceMul,Int.reduceSub,Int.reduceToNat,Int.reduceBEq,Int.reduceBNe,Int.reduceLT,Int.reduceGT,Int.reduceLE,Int.reduceGE,Int.reduceNeg,Int.reduceAdd,AH.SP,AH.PD,AV.inB,vstep,vw,shift,newOnes,rowsM,blkIn,rwB,@flat_lts,AV.lt,AV.lts,Nat.sub_self,AH.SO,spM]
  refine (vals_ah).mono ?_
  rintro r m ⟨rfl,rfl⟩
  simp only [AH.SD,AH.SE,AOp.call?,AOp.next?,bstep,AV.cells,unAV,binAV,retQ,retV,AH.sliceElems,AH.bytesOf,AH.strOp,AH.bound,AH.missQ,AH.minmaxAV,AH.readOf,AH.effOf,Nat.reduceBEq,Nat.reduceAdd,Nat.reduceLT,↓reduceIte,Nat.reduceEqDiff,Nat.reduceLeDiff,Nat.reduceSub,Nat.reduceMul,Int.reduceSub,Int.reduceToNat,Int.reduceBEq,Int.reduceBNe,Int.reduceLT,Int.reduceGT,Int.reduceLE,Int.reduceGE,Int.reduceNeg,Int.reduceAdd,AH.SP,AH.PD,AV.inB,vstep,vw,shift,newOnes,rowsM,blkIn,rwB,@flat_lts,AV.lt,AV.lts,Nat.sub_self,AH.SO]
  refine sf_ah (L:=t.L) (c:=t.c) (b:=2) (id:=1) rfl rfl h.wf (by rw [hne]; exact Nat.zero_le _) (fun _ => ?_) (fun L hp hs q =>absurd (by rw [hne] at hp; exact hp.eq_nil) q)
  simp only [AH.SD,AH.SE,AOp.call?,AOp.next?,bstep,AV.cells,unAV,binAV,retQ,retV,AH.sliceElems,AH.bytesOf,AH.strOp,AH.bound,AH.missQ,AH.minmaxAV,AH.readOf,AH.effOf,Nat.reduceBEq,Nat.reduceAdd,Nat.reduceLT,↓reduceIte,Nat.reduceEqDiff,Nat.reduceLeDiff,Nat.reduceSub,Nat.reduceMul,Int.reduceSub,Int.reduceToNat,Int.reduceBEq,Int.reduceBNe,Int.reduceLT,Int.reduceGT,Int.reduceLE,Int.reduceGE,Int.reduceNeg,Int.reduceAdd,AH.SP,AH.PD,AV.inB,vstep,vw,shift,newOnes,rowsM,blkIn,rwB,@flat_lts,AV.lt,AV.lts,Nat.sub_self,AH.SO]
  refine ⟨[0,1],[],?_⟩
  simp only [AH.SD,AH.SE,AOp.call?,AOp.next?,bstep,AV.cells,unAV,binAV,retQ,retV,AH.sliceElems,AH.bytesOf,AH.strOp,AH.bound,AH.missQ,AH.minmaxAV,AH.readOf,AH.effOf,Nat.reduceBEq,Nat.reduceAdd,Nat.reduceLT,↓reduceIte,Nat.reduceEqDiff,Nat.reduceLeDiff,Nat.reduceSub,Nat.reduceMul,Int.reduceSub,Int.reduceToNat,Int.reduceBEq,Int.reduceBNe,Int.reduceLT,Int.reduceGT,Int.reduceLE,Int.reduceGE,Int.reduceNeg,Int.reduceAdd,AH.SP,AH.PD,AV.inB,vstep,sp_in,sp_ren]
theorem spListN_ok : Pure S0 22 [.nilp] .nils:=by
  refine fun_sound okS0 Tryd.func22 c22 ?_
  unfold wpF F22
  simp only [AH.SD,AH.SE,AOp.call?,AOp.next?,bstep,AV.cells,unAV,binAV,retQ,retV,AH.sliceElems,AH.bytesOf,AH.strOp,AH.bound,AH.missQ,AH.minmaxAV,AH.readOf,AH.effOf,Nat.reduceBEq,Nat.reduceAdd,Nat.reduceLT,↓reduceIte,Nat.reduceEqDiff,Nat.reduceLeDiff,Nat.reduceSub,Nat.reduceMul,Int.reduceSub,Int.reduceToNat,Int.reduceBEq,Int.reduceBNe,Int.reduceLT,Int.reduceGT,Int.reduceLE,Int.reduceGE,Int.reduceNeg,Int.reduceAdd,AH.SP,AH.PD,AV.inB,vstep,vw,shift,newOnes,rowsM,blkIn,rwB,@flat_lts,AV.lt,AV.lts,Nat.sub_self,AH.SO]
  try trivial
end Go.Proofs.YtamkjgiemconbaaDoor.D19
