import Derived.Test.YtkbjfhkhbcgkgaaDoorSrtOB33
open Go AH
set_option linter.unusedSimpArgs false
set_option maxRecDepth 100000
namespace Go.Proofs.YtkbjfhkhbcgkgaaDoor.B33
def refR (l : List V4) (w : V4) : List Int:=refO (fun x y =>cmpS (shAt (shs l w) x) (shAt (shs l w) y)) l.length
set_option maxRecDepth 100000 in
theorem order2_ok (l : List V4) (w : V4) (hl0 : 20 < l.length) (hl : l.length < 40) (hg : ∀ v ∈ l,good v = true) (hw : good w = true) : CallA1 S0 37 [.slc 0 0 l.length none,.agg w.cells] [some (.row true 4 (l.map V4.cells))]
    fun r m =>r = .tup [.slc 1 0 l.length none,.nili] ∧ m = [some (.row true 4 (l.map V4.cells)),some (.row false 1 ((refR l w).map intC))]:=by
  refine CallA1.fin ?_
  have hn : decide ((l.length : Int) > 1000) = false:=decide_eq_false (by omega)
  refine fun_sound okOrder Tryd.func37 c37 ?_
  unfold wpF F37
  simp only [AH.SD,AH.SE,AOp.call?,AOp.next?,bstep,AV.cells,unAV,binAV,retQ,retV,AH.sliceElems,AH.bytesOf,AH.strOp,AH.bound,AH.missQ,AH.minmaxAV,AH.readOf,AH.effOf,Nat.reduceBEq,Nat.reduceAdd,Nat.reduceLT,↓reduceIte,Nat.reduceEqDiff,Nat.reduceLeDiff,Nat.reduceSub,Nat.reduceMul,Int.reduceSub,Int.reduceToNat,Int.reduceBEq,Int.reduceBNe,Int.reduceLT,Int.reduceGT,Int.reduceLE,Int.reduceGE,Int.reduceNeg,Int.reduceAdd,hn,V4.cells_eq]
  refine loop_do [0,1,2] [18,17,16,7,6,3] [.cell 2 0 0 2,.tm 7 1] (α:=Nat × List Sh × List Int) (fun x =>l.length - x.1) (ordSt l w) (fun x =>x.1 ≤ l.length ∧ x.2.1 = shs (l.take x.1) w ∧ x.2.2 = outI x.1) (0,[],[]) ⟨Nat.zero_le _,rfl,rfl⟩ (by simp only [AH.SD,AH.SE,AOp.call?,AOp.next?,bstep,AV.cells,unAV,binAV,retQ,retV,AH.sliceElems,AH.bytesOf,AH.strOp,AH.bound,AH.missQ,AH.minmaxAV,AH.readOf,AH.effOf,Nat.reduceBEq,Nat.reduceAdd,Nat.reduceLT,↓reduceIte,Nat.reduceEqDiff,Nat.reduceLeDiff,Nat.reduceSub,Nat.reduceMul,Int.reduceSub,Int.reduceToNat,Int.reduceBEq,Int.reduceBNe,Int.reduceLT,Int.reduceGT,Int.reduceLE,Int.reduceGE,Int.reduceNeg,Int.reduceAdd,AH.SP,AH.PD,AV.inB,vstep,ordSt,V4.cells_eq]) ?_
  rintro X ⟨i,sh,out⟩ ⟨hi,hsh,hout⟩ ih
  simp only at hi hsh hout
  have l1 : sh.length = i:=by rw [hsh,shs,List.length_map,List.length_take]; omega
  have l2 : out.length = i:=by rw [hout,outI_len]
  simp only [AH.SD,AH.SE,AOp.call?,AOp.next?,bstep,AV.cells,unAV,binAV,retQ,retV,AH.sliceElems,AH.bytesOf,AH.strOp,AH.bound,AH.missQ,AH.minmaxAV,AH.readOf,AH.effOf,Nat.reduceBEq,Nat.reduceAdd,Nat.reduceLT,↓reduceIte,Nat.reduceEqDiff,Nat.reduceLeDiff,Nat.reduceSub,Nat.reduceMul,Int.reduceSub,Int.reduceToNat,Int.reduceBEq,Int.reduceBNe,Int.reduceLT,Int.reduceGT,Int.reduceLE,Int.reduceGE,Int.reduceNeg,Int.reduceAdd,ordSt,V4.cells_eq]
  refine ⟨fun hlt => ?_,fun hlt => ?_⟩
  · have hil:=lt_of_dec hlt
    have hwi:=wrapS (i:=i) (by omega)
    have hgi : good l[i] = true:=hg _ (List.getElem_mem hil)
    have hof : ofA l[i] w = .tup [.agg [.int .i64 (ofS l[i] w).n,.int .i64 (ofS l[i] w).d],.nili]:=by rw [ofA,hgi,hw]; rfl
    have done:=ih (i + 1,sh ++ [ofS l[i] w],out ++ [(i : Int)]) ⟨hil,by simp only [hsh,shs]; rw [List.take_succ_eq_append_getElem hil,List.map_append]; rfl,by simp only [hout,outI_succ]⟩ (by simp only; omega)
    simp only [ordSt,List.map_append,List.map_cons,List.map_nil,List.length_append,List.length_cons,List.length_nil,Nat.zero_add,Sh.cells_eq,intC_eq,V4.cells_eq] at done
    simp only [AH.SD,AH.SE,AOp.call?,AOp.next?,bstep,AV.cells,unAV,binAV,retQ,retV,AH.sliceElems,AH.bytesOf,AH.strOp,AH.bound,AH.missQ,AH.minmaxAV,AH.readOf,AH.effOf,Nat.reduceBEq,Nat.reduceAdd,Nat.reduceLT,↓reduceIte,Nat.reduceEqDiff,Nat.reduceLeDiff,Nat.reduceSub,Nat.reduceMul,Int.reduceSub,Int.reduceToNat,Int.reduceBEq,Int.reduceBNe,Int.reduceLT,Int.reduceGT,Int.reduceLE,Int.reduceGE,Int.reduceNeg,Int.reduceAdd,getD_enc,hil,V4.cells_eq,ofT_eq,V4.eta,hof,take_all,List.length_map,hwi]
    repeat (refine ⟨by first | rfl | decide | omega | (simp only [List.length_map,List.length_set,and_true]; omega),?_⟩)
    refine gc_auto [0,1,2,8,10] [18,17,16,7,6,3] [] ?_
    simp only [AH.SD,AH.SE,AOp.call?,AOp.next?,bstep,AV.cells,unAV,binAV,retQ,retV,AH.sliceElems,AH.bytesOf,AH.strOp,AH.bound,AH.missQ,AH.minmaxAV,AH.readOf,AH.effOf,Nat.reduceBEq,Nat.reduceAdd,Nat.reduceLT,↓reduceIte,Nat.reduceEqDiff,Nat.reduceLeDiff,Nat.reduceSub,Nat.reduceMul,Int.reduceSub,Int.reduceToNat,Int.reduceBEq,Int.reduceBNe,Int.reduceLT,Int.reduceGT,Int.reduceLE,Int.reduceGE,Int.reduceNeg,Int.reduceAdd,AH.SP,AH.PD,AV.inB,vstep]
    exact done
  · have hil:=ge_of_dec hlt
    obtain rfl : i = l.length:=by omega
    rw [List.take_length] at hsh
    simp only [AH.SD,AH.SE,AOp.call?,AOp.next?,bstep,AV.cells,unAV,binAV,retQ,retV,AH.sliceElems,AH.bytesOf,AH.strOp,AH.bound,AH.missQ,AH.minmaxAV,AH.readOf,AH.effOf,Nat.reduceBEq,Nat.reduceAdd,Nat.reduceLT,↓reduceIte,Nat.reduceEqDiff,Nat.reduceLeDiff,Nat.reduceSub,Nat.reduceMul,Int.reduceSub,Int.reduceToNat,Int.reduceBEq,Int.reduceBNe,Int.reduceLT,Int.reduceGT,Int.reduceLE,Int.reduceGE,Int.reduceNeg,Int.reduceAdd,goodT_eq,V4.eta,hw]
    have hPs : ∀ x ∈ out,0 ≤ x ∧ x < (sh.length : Int):=fun x hx =>by
      rw [hout,outI] at hx
      obtain ⟨j,hj,rfl⟩:=List.mem_map.1 hx
      have:=List.mem_range.1 hj
      omega
    have hso : ∀ x ∈ sh,x.ok:=fun x hx =>by
      rw [hsh,shs] at hx
      obtain ⟨v,hv,rfl⟩:=List.mem_map.1 hx
      exact ofN_ok (hg v hv) hw 4
    have lsh : sh.length = l.length:=by rw [hsh,shs,List.length_map]
    have srt:=sorts2_ok okOrder rfl rfl rfl rfl rfl rfl rfl rfl rfl rfl (fg:=61) (capd:=[.ptr 2 0 0]) (ord_sh sh) (fun x => 0 ≤ x ∧ x < (sh.length : Int))
      (m:=[some (.row true 4 (l.map V4.cells)),some (.row false 4 [w.cells]),some (.row false 1 [[.slc 3 0 sh.length none]]),some (.row false 2 (sh.map Sh.cells)),none]) (id:=4) (by simp) (ft:=[2,3])
      (fun l' x y hx hy =>by
        simp only [AH.SD,Nat.reduceBEq]
        exact ordT_eq (l:=sh) (p:=2) (s:=3) (r1:=false) (r2:=false) rfl rfl ⟨by decide,rfl,hso,hx,hy⟩) (n:=l.length) hl0 hl (fun y h1 h2 =>⟨h1,by rw [lsh]; exact h2⟩)
    rw [← hout,← l2] at srt
    refine CallA1.mono srt ?_
    rintro r m' ⟨rfl,rfl⟩
    simp only [AH.SD,AH.SE,AOp.call?,AOp.next?,bstep,AV.cells,unAV,binAV,retQ,retV,AH.sliceElems,AH.bytesOf,AH.strOp,AH.bound,AH.missQ,AH.minmaxAV,AH.readOf,AH.effOf,Nat.reduceBEq,Nat.reduceAdd,Nat.reduceLT,↓reduceIte,Nat.reduceEqDiff,Nat.reduceLeDiff,Nat.reduceSub,Nat.reduceMul,Int.reduceSub,Int.reduceToNat,Int.reduceBEq,Int.reduceBNe,Int.reduceLT,Int.reduceGT,Int.reduceLE,Int.reduceGE,Int.reduceNeg,Int.reduceAdd,MI]
    refine ⟨[0,4],[],?_⟩
    simp only [AH.SD,AH.SE,AOp.call?,AOp.next?,bstep,AV.cells,unAV,binAV,retQ,retV,AH.sliceElems,AH.bytesOf,AH.strOp,AH.bound,AH.missQ,AH.minmaxAV,AH.readOf,AH.effOf,Nat.reduceBEq,Nat.reduceAdd,Nat.reduceLT,↓reduceIte,Nat.reduceEqDiff,Nat.reduceLeDiff,Nat.reduceSub,Nat.reduceMul,Int.reduceSub,Int.reduceToNat,Int.reduceBEq,Int.reduceBNe,Int.reduceLT,Int.reduceGT,Int.reduceLE,Int.reduceGE,Int.reduceNeg,Int.reduceAdd,AH.SP,AH.PD,AV.inB,vstep,l2,refR,← hsh,← hout]
theorem ordR_eq (l : List V4) (w : V4) : ordR l w = refR l w:=by
  unfold ordR refR
  by_cases h0 : l.length = 0
  · rw [h0]; rfl
  · obtain ⟨p,q⟩:=insI_ss (ord_sh (shs l w)) (n:=l.length) (by omega)
    exact refO_eq (ord_sh (shs l w)) p q
theorem order_g (l : List V4) (w : V4) (hl : l.length < 40) (hg : ∀ v ∈ l,good v = true) (hw : good w = true) : CallA1 S0 37 [.slc 0 0 l.length none,.agg w.cells] [some (.row true 4 (l.map V4.cells))]
    fun r m =>r = .tup [.slc 1 0 l.length none,.nili] ∧ m = [some (.row true 4 (l.map V4.cells)),some (.row false 1 ((refR l w).map intC))]:=by
  by_cases h : l.length ≤ 20
  · rw [← ordR_eq]; exact order_ok l w h hg hw
  · exact order2_ok l w (by omega) hl hg hw
end Go.Proofs.YtkbjfhkhbcgkgaaDoor.B33
