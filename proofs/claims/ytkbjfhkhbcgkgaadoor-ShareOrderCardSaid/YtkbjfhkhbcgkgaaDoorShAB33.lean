import Derived.Test.YtkbjfhkhbcgkgaaDoorSrtB33
open Go AH
set_option linter.unusedSimpArgs false
set_option maxRecDepth 100000
namespace Go.Proofs.YtkbjfhkhbcgkgaaDoor.B33
def shAt (l : List Sh) (x : Int) : Sh:=l.getD x.toNat ⟨0,0⟩
def okIx (l : List Sh) (n : Nat) (p s : Nat) (i k : Int) : Prop:=p ≠ s ∧ n = l.length ∧ (∀ x ∈ l,x.ok) ∧ (0 ≤ i ∧ i < l.length) ∧ (0 ≤ k ∧ k < l.length)
instance (l : List Sh) (n p s : Nat) (i k : Int) : Decidable (okIx l n p s i k):=by unfold okIx; infer_instance
def ordT : RT:=fun args M =>match args with
  | [.int .i64 i,.int .i64 k,.ptr p 0 0] =>match M p with
    | some (.row _ 1 [[.slc s 0 n none]]) =>match M s with
      | some (.row _ 2 es) =>match cSh.decL es with
        | some l =>if okIx l n p s i k then some (.int .i64 (cmpS (shAt l i) (shAt l k)),[p,s]) else none
        | none =>none
      | _ =>none
    | _ =>none
  | _ =>none
theorem ordT_eq {l : List Sh} {i k : Int} {p s : Nat} {r1 r2 : Bool} {M : Nat → Option Blk} (hp : M p = some (.row r1 1 [[.slc s 0 l.length none]])) (hs : M s = some (.row r2 2 (l.map Sh.cells))) (h : okIx l l.length p s i k) :
    ordT [.int .i64 i,.int .i64 k,.ptr p 0 0] M = some (.int .i64 (cmpS (shAt l i) (shAt l k)),[p,s]):=by
  have hd : cSh.decL (l.map Sh.cells) = some l:=cSh.decL_map l
  simp only [ordT,hp,hs,hd,h,if_true]
theorem okOrd : CtxOK S0 (ctxU S0 [(31,shcmpT)] []):=ctxU_ok ⟨shcmpT_ok,trivial⟩ trivial mixed
set_option maxRecDepth 100000 in
theorem ord_ok (l : List Sh) (hl : ∀ x ∈ l,x.ok) (i k : Nat) (hi : i < l.length) (hk : k < l.length) : CallA1 S0 61 [.int .i64 i,.int .i64 k,.ptr 0 0 0] [some (.row true 1 [[.slc 1 0 l.length none]]),some (.row true 2 (l.map Sh.cells))] fun r _ =>r = .int .i64 (cmpS l[i] l[k]):=by
  refine fun_sound okOrd Tryd.func61 c61 ?_
  unfold wpF F61
  simp only [AH.SD,AH.SE,AOp.call?,AOp.next?,bstep,AV.cells,unAV,binAV,retQ,retV,AH.sliceElems,AH.bytesOf,AH.strOp,AH.bound,AH.missQ,AH.minmaxAV,AH.readOf,AH.effOf,Nat.reduceBEq,Nat.reduceAdd,Nat.reduceLT,↓reduceIte,Nat.reduceEqDiff,Nat.reduceLeDiff,Nat.reduceSub,Nat.reduceMul,Int.reduceSub,Int.reduceToNat,Int.reduceBEq,Int.reduceBNe,Int.reduceLT,Int.reduceGT,Int.reduceLE,Int.reduceGE,Int.reduceNeg,Int.reduceAdd,getD_enc,hi,hk,Sh.cells_eq,shcmpT_eq l[i].n l[i].d l[k].n l[k].d _ (hl _ (List.getElem_mem hi)) (hl _ (List.getElem_mem hk)),Sh.eta]
  repeat (refine ⟨by first | rfl | decide | omega | (simp only [List.length_map,List.length_set,and_true]; omega),?_⟩)
  try trivial
theorem shAt_nat (l : List Sh) {i : Nat} (h : i < l.length) : shAt l (i : Int) = l[i]:=by
  rw [shAt,Int.toNat_natCast,List.getD_eq_getElem?_getD,List.getElem?_eq_getElem h]; rfl
theorem ordT_ok : ReadF S0 61 ordT:=by
  refine readG fun args M v foot e => ?_
  unfold ordT at e
  split at e
  · rename_i i k p
    split at e
    · rename_i r1 s n hp
      split at e
      · rename_i r2 es hs
        split at e
        · rename_i l hl
          split at e
          · rename_i hok
            simp only [Option.some.injEq,Prod.mk.injEq] at e
            obtain ⟨rfl,rfl⟩:=e
            have hes:=cSh.decL_ok hl
            subst hes
            obtain ⟨h1,rfl,h3,h4,h5⟩:=hok
            refine ⟨fun M' hM' => ?_,rfl,[p,s],?_,?_,?_,?_⟩
            · exact ordT_eq ((hM' p (by simp)).trans hp) ((hM' s (by simp)).trans hs) ⟨h1,rfl,h3,h4,h5⟩
            · have : (s == p) = false:=by simpa using Ne.symm h1
              simp [distN,inN,this]
            · simp only [rowsB,hp,hs,List.all_cons,List.all_nil,AV.insB,AV.inB,inN]
              simp
              exact fun x _ =>flats_inB (cSh.flat x)
            · simp [AV.insB,AV.inB,inN]
            · obtain ⟨I,rfl⟩:=Int.eq_ofNat_of_zero_le h4.1
              obtain ⟨K,rfl⟩:=Int.eq_ofNat_of_zero_le h5.1
              have hI : I < l.length:=by have:=h4.2; omega
              have hK : K < l.length:=by have:=h5.2; omega
              have hps : (p == s) = false:=by simpa using h1
              have:=ord_ok l h3 I K hI hK
              rw [shAt_nat l hI,shAt_nat l hK]
              simp only [roM,hp,hs,Option.map_some,Blk.ren,Blk.asRo,List.map_cons,List.map_nil,AV.rens,AV.ren,posN,beq_self_eq_true,cond_true,hps,cond_false,Nat.zero_add]
              rw [cSh.map_rens]
              exact this
          · cases e
        · cases e
      · cases e
    · cases e
  · cases e
def outI (n : Nat) : List Int:=(List.range n).map fun (j : Nat) =>(j : Int)
theorem outI_len (n : Nat) : (outI n).length = n:=by simp [outI]
theorem outI_succ (n : Nat) : outI (n + 1) = outI n ++ [(n : Int)]:=by simp [outI,List.range_succ]
def shs (l : List V4) (w : V4) : List Sh:=l.map fun v =>ofS v w
def ordR (l : List V4) (w : V4) : List Int:=insL (fun x y =>cmpS (shAt (shs l w) x) (shAt (shs l w) y)) 0 (outI l.length) 1 (l.length - 1)
def ordSt (l : List V4) (w : V4) (x : Nat × List Sh × List Int) : St:=⟨[(18,.int .i64 x.1),(17,.int .i64 l.length),(16,.slc 0 0 l.length none),(7,.slc 4 0 x.2.2.length none),(6,.ptr 2 0 0),(3,.ptr 1 0 0)],
  [some (.row true 4 (l.map V4.cells)),some (.row false 4 [w.cells]),some (.row false 1 [[.slc 3 0 x.2.1.length none]]),some (.row false 2 (x.2.1.map Sh.cells)),some (.row false 1 (x.2.2.map intC))]⟩
abbrev tOrd : List (FuncId × RT):=[(16,goodT),(36,ofT),(61,ordT)]
theorem okOrder : CtxOK S0 (ctxU S0 tOrd []):=ctxU_ok ⟨goodT_ok good_ok,ofT_ok,ordT_ok,trivial⟩ trivial mixed
set_option maxRecDepth 100000 in
theorem order_ok (l : List V4) (w : V4) (hl : l.length ≤ 20) (hg : ∀ v ∈ l,good v = true) (hw : good w = true) : CallA1 S0 37 [.slc 0 0 l.length none,.agg w.cells] [some (.row true 4 (l.map V4.cells))]
    fun r m =>r = .tup [.slc 1 0 l.length none,.nili] ∧ m = [some (.row true 4 (l.map V4.cells)),some (.row false 1 ((ordR l w).map intC))]:=by
  refine CallA1.fin ?_
  have hn : decide ((l.length : Int) > 1000) = false:=decide_eq_false (by omega)
  refine fun_sound okOrder Tryd.func37 c37 ?_
  unfold wpF F37
  simp only [AH.SD,AH.SE,AOp.call?,AOp.next?,bstep,AV.cells,unAV,binAV,retQ,retV,AH.sliceElems,AH.bytesOf,AH.strOp,AH.bound,AH.missQ,AH.minmaxAV,AH.readOf,AH.effOf,Nat.reduceBEq,Nat.reduceAdd,Nat.reduceLT,↓reduceIte,Nat.reduceEqDiff,Nat.reduceLeDiff,Nat.reduceSub,Nat.reduceMul,Int.reduceSub,Int.reduceToNat,Int.reduceBEq,Int.reduceBNe,Int.reduceLT,Int.reduceGT,Int.reduceLE,Int.reduceGE,Int.reduceNeg,Int.reduceAdd,hn,V4.cells_eq]
  refine loop_do [0,1,2] [18,17,16,7,6,3] [.cell 2 0 0 2,.tm 7 1] (α:=Nat × List Sh × List Int) (fun x =>l.length - x.1) (ordSt l w) (fun x =>x.1 ≤ l.length ∧ x.2.1 = shs (l.take x.1) w ∧ x.2.2 = outI x.1) (0,[],[]) ⟨Nat.zero_le _,rfl,rfl⟩ (by simp only [AH.SD,AH.SE,AOp.call?,AOp.next?,bstep,AV.cells,unAV,binAV,retQ,retV,AH.sliceElems,AH.bytesOf,AH.strOp,AH.bound,AH.missQ,AH.minmaxAV,AH.readOf,AH.effOf,Nat.reduceBEq,Nat.reduceAdd,Nat.reduceLT,↓reduceIte,Nat.reduceEqDiff,Nat.reduceLeDiff,Nat.reduceSub,Nat.reduceMul,Int.reduceSub,Int.reduceToNat,Int.reduceBEq,Int.reduceBNe,Int.reduceLT,Int.reduceGT,Int.reduceLE,Int.reduceGE,Int.reduceNeg,Int.reduceAdd,AH.SP,AH.PD,AV.inB,vstep,ordSt,V4.cells_eq]) ?_
  rintro X ⟨i,sh,out⟩ ⟨hi,hsh,hout⟩ ih
  simp only at hi hsh hout
  have l1 : sh.length = i:=by rw [hsh,shs,List.length_map,List.length_take]; omega
  have l2 : out.length = i:=by rw [hout,outI_len]
  simp only [AH.SD,AH.SE,AOp.call?,AOp.next?,bstep,AV.cells,unAV,binAV,retQ,retV,AH.sliceElems,AH.bytesOf,AH.strOp,AH.bound,AH.missQ,AH.minmaxAV,AH.readOf,AH.effOf,Nat.reduceBEq,Nat.reduceAdd,Nat.reduceLT,↓reduceIte,Nat.reduceEqDiff,Nat.reduceLeDiff,Nat.reduceSub,Nat.reduceMul,Int.reduceSub,Int.reduceToNat,Int.reduceBEq,Int.reduceBNe,Int.reduceLT,Int.reduceGT,Int.reduceLE,Int.reduceGE,Int.reduceNeg,Int.reduceAdd,ordSt,V4.cells_eq]
  refine ⟨fun hlt => ?_,fun hlt => ?_⟩
  · have hil:=lt_of_dec hlt
    have hwi:=wrapS (i:=i) (by omega)
    have hgi : good l[i] = true:=hg _ (List.getElem_mem hil)
    have hof : ofA l[i] w = .tup [.agg [.int .i64 (ofS l[i] w).n,.int .i64 (ofS l[i] w).d],.nili]:=by rw [ofA,hgi,hw]; rfl
    have done:=ih (i + 1,sh ++ [ofS l[i] w],out ++ [(i : Int)]) ⟨hil,by simp only [hsh,shs]; rw [List.take_succ_eq_append_getElem hil,List.map_append]; rfl,by simp only [hout,outI_succ]⟩ (by simp only; omega)
    simp only [ordSt,List.map_append,List.map_cons,List.map_nil,List.length_append,List.length_cons,List.length_nil,Nat.zero_add,Sh.cells_eq,intC_eq,V4.cells_eq] at done
    simp only [AH.SD,AH.SE,AOp.call?,AOp.next?,bstep,AV.cells,unAV,binAV,retQ,retV,AH.sliceElems,AH.bytesOf,AH.strOp,AH.bound,AH.missQ,AH.minmaxAV,AH.readOf,AH.effOf,Nat.reduceBEq,Nat.reduceAdd,Nat.reduceLT,↓reduceIte,Nat.reduceEqDiff,Nat.reduceLeDiff,Nat.reduceSub,Nat.reduceMul,Int.reduceSub,Int.reduceToNat,Int.reduceBEq,Int.reduceBNe,Int.reduceLT,Int.reduceGT,Int.reduceLE,Int.reduceGE,Int.reduceNeg,Int.reduceAdd,getD_enc,hil,V4.cells_eq,ofT_eq,V4.eta,hof,take_all,List.length_map,hwi]
    repeat (refine ⟨by first | rfl | decide | omega | (simp only [List.length_map,List.length_set,and_true]; omega),?_⟩)
    refine gc_auto [0,1,2,8,10] [18,17,16,7,6,3] [] ?_
    simp only [AH.SD,AH.SE,AOp.call?,AOp.next?,bstep,AV.cells,unAV,binAV,retQ,retV,AH.sliceElems,AH.bytesOf,AH.strOp,AH.bound,AH.missQ,AH.minmaxAV,AH.readOf,AH.effOf,Nat.reduceBEq,Nat.reduceAdd,Nat.reduceLT,↓reduceIte,Nat.reduceEqDiff,Nat.reduceLeDiff,Nat.reduceSub,Nat.reduceMul,Int.reduceSub,Int.reduceToNat,Int.reduceBEq,Int.reduceBNe,Int.reduceLT,Int.reduceGT,Int.reduceLE,Int.reduceGE,Int.reduceNeg,Int.reduceAdd,AH.SP,AH.PD,AV.inB,vstep]
    exact done
  · have hil:=ge_of_dec hlt
    obtain rfl : i = l.length:=by omega
    rw [List.take_length] at hsh
    simp only [AH.SD,AH.SE,AOp.call?,AOp.next?,bstep,AV.cells,unAV,binAV,retQ,retV,AH.sliceElems,AH.bytesOf,AH.strOp,AH.bound,AH.missQ,AH.minmaxAV,AH.readOf,AH.effOf,Nat.reduceBEq,Nat.reduceAdd,Nat.reduceLT,↓reduceIte,Nat.reduceEqDiff,Nat.reduceLeDiff,Nat.reduceSub,Nat.reduceMul,Int.reduceSub,Int.reduceToNat,Int.reduceBEq,Int.reduceBNe,Int.reduceLT,Int.reduceGT,Int.reduceLE,Int.reduceGE,Int.reduceNeg,Int.reduceAdd,goodT_eq,V4.eta,hw]
    have hPs : ∀ x ∈ out,0 ≤ x ∧ x < (sh.length : Int):=fun x hx =>by
      rw [hout,outI] at hx
      obtain ⟨j,hj,rfl⟩:=List.mem_map.1 hx
      have:=List.mem_range.1 hj
      omega
    have hso : ∀ x ∈ sh,x.ok:=fun x hx =>by
      rw [hsh,shs] at hx
      obtain ⟨v,hv,rfl⟩:=List.mem_map.1 hx
      exact ofN_ok (hg v hv) hw 4
    have srt:=sorts_ok okOrder rfl rfl rfl rfl (fg:=61) (capd:=[.ptr 2 0 0]) (fun x y =>cmpS (shAt sh x) (shAt sh y)) (fun x => 0 ≤ x ∧ x < (sh.length : Int))
      (m:=[some (.row true 4 (l.map V4.cells)),some (.row false 4 [w.cells]),some (.row false 1 [[.slc 3 0 sh.length none]]),some (.row false 2 (sh.map Sh.cells)),none]) (id:=4) (by simp) (ft:=[2,3])
      (fun l' x y hx hy =>by
        simp only [AH.SD,Nat.reduceBEq]
        exact ordT_eq (l:=sh) (p:=2) (s:=3) (r1:=false) (r2:=false) rfl rfl ⟨by decide,rfl,hso,hx,hy⟩) out hPs (by omega)
    refine CallA1.mono srt ?_
    rintro r m' ⟨rfl,rfl⟩
    simp only [AH.SD,AH.SE,AOp.call?,AOp.next?,bstep,AV.cells,unAV,binAV,retQ,retV,AH.sliceElems,AH.bytesOf,AH.strOp,AH.bound,AH.missQ,AH.minmaxAV,AH.readOf,AH.effOf,Nat.reduceBEq,Nat.reduceAdd,Nat.reduceLT,↓reduceIte,Nat.reduceEqDiff,Nat.reduceLeDiff,Nat.reduceSub,Nat.reduceMul,Int.reduceSub,Int.reduceToNat,Int.reduceBEq,Int.reduceBNe,Int.reduceLT,Int.reduceGT,Int.reduceLE,Int.reduceGE,Int.reduceNeg,Int.reduceAdd,MI]
    refine ⟨[0,4],[],?_⟩
    simp only [AH.SD,AH.SE,AOp.call?,AOp.next?,bstep,AV.cells,unAV,binAV,retQ,retV,AH.sliceElems,AH.bytesOf,AH.strOp,AH.bound,AH.missQ,AH.minmaxAV,AH.readOf,AH.effOf,Nat.reduceBEq,Nat.reduceAdd,Nat.reduceLT,↓reduceIte,Nat.reduceEqDiff,Nat.reduceLeDiff,Nat.reduceSub,Nat.reduceMul,Int.reduceSub,Int.reduceToNat,Int.reduceBEq,Int.reduceBNe,Int.reduceLT,Int.reduceGT,Int.reduceLE,Int.reduceGE,Int.reduceNeg,Int.reduceAdd,AH.SP,AH.PD,AV.inB,vstep,l2,ordR,← hsh,← hout]
end Go.Proofs.YtkbjfhkhbcgkgaaDoor.B33
