import Derived.Test.YtamkjgiemconbaaDoorSpED19
open Go AH
set_option linter.unusedSimpArgs false
set_option maxRecDepth 100000
namespace Go.Proofs.YtamkjgiemconbaaDoor.D19
def boolC (b : Bool) : List AV:=[.bool b]
theorem boolC_eq (b : Bool) : boolC b = [.bool b]:=rfl
instance : FlatE boolC:=⟨fun _ =>rfl⟩
theorem mod_20 (x : Int) : ∃ k : Int,IntKind.i64.wrap ((IntKind.u64.wrap x).tmod 20) = k ∧ 0 ≤ k ∧ k < 20:=by
  have h0 : 0 ≤ IntKind.u64.wrap x:=by rw [IntKind.wrap_u64]; omega
  have h3 : (IntKind.u64.wrap x).tmod 20 = IntKind.u64.wrap x % 20:=Int.tmod_eq_emod_of_nonneg h0
  refine ⟨_,rfl,?_⟩
  rw [h3]
  generalize IntKind.u64.wrap x = r at *
  rw [IntKind.wrap_i64]
  omega
def frN (l : List Bool) (i : Nat) : Nat:=((l.take i).filter (!·)).length
def foN (l : List Bool) (i : Nat) : Nat:=((l.take i).filter id).length
def tI (l : List Bool) (i : Nat) : SpB:=match i with
  | 0 =>S0B
  | i + 1 =>TB ⟨7,3⟩ (frN l (i + 1)) (foN l (i + 1))
theorem fr_fo (l : List Bool) (i : Nat) (hi : i ≤ l.length) : frN l i + foN l i = i:=by
  unfold frN foN
  have h : (l.take i).length = i:=by rw [List.length_take]; omega
  generalize l.take i = x at *
  subst h
  induction x with
  | nil =>rfl
  | cons b r ih =>cases b <;> simp_all <;> omega
theorem fr_s {l : List Bool} {i : Nat} (hi : i < l.length) : frN l (i + 1) = frN l i + (bif l[i] then 0 else 1) ∧ foN l (i + 1) = foN l i + (bif l[i] then 1 else 0):=by
  unfold frN foN
  rw [List.take_succ_eq_append_getElem hi]
  cases h : l[i] <;> simp
theorem tI_add {l : List Bool} {i : Nat} (hi : i < l.length) (h40 : i < 40) : addB (tI l i) ⟨7,3⟩ l[i] = tI l (i + 1):=by
  obtain ⟨h1,h2⟩:=fr_s hi
  cases i with
  | zero =>
    rw [tI,add_0,tI,h1,h2]
    have e1 : frN l 0 = 0:=rfl
    have e2 : foN l 0 = 0:=rfl
    rw [e1,e2]
    cases l[0] <;> rfl
  | succ i =>
    rw [tI,add_TB,tI,h1,h2]
    have:=fr_fo l (i + 1) (by omega)
    have w1 : IntKind.i64.wrap ((frN l (i + 1) : Int) + 1) = ((frN l (i + 1) + 1 : Nat) : Int):=by rw [IntKind.wrap_i64]; omega
    have w2 : IntKind.i64.wrap ((foN l (i + 1) : Int) + 1) = ((foN l (i + 1) + 1 : Nat) : Int):=by rw [IntKind.wrap_i64]; omega
    rw [w1,w2]
    cases l[i + 1] <;> rfl
theorem tI_of (l : List Bool) (i : Nat) (k : SK) : ofB (tI l i) k = if k = ⟨7,3⟩ then ⟨7,3,frN l i,foN l i⟩ else ⟨k.j,k.w,0,0⟩:=by
  cases i with
  | zero =>
    by_cases h : k = ⟨7,3⟩
    · subst h; rfl
    · rw [if_neg h]; rfl
  | succ i =>rw [tI,of_TB]
def lfI (N : Int) (l : List Bool) (i : Nat) : Int:=if (frN l i : Int) < N then N - frN l i else 0
theorem mx0_of (n : Int) : mx0 n = if n < 0 then 0 else n:=rfl
theorem tI_left (l : List Bool) (i : Nat) (hi : i ≤ l.length) (h40 : i ≤ 40) {N : Int} (h0 : 0 ≤ N) (h1 : N < 20) (k : SK) : leftB (tI l i) k N = if k = ⟨7,3⟩ then lfI N l i else N:=by
  have:=fr_fo l i hi
  rw [leftB,tI_of]
  have m : mx0 N = N:=by rw [mx0_of,if_neg (by omega)]
  rw [m]
  split
  · simp only [lfI]
    rw [IntKind.wrap_i64,mx0_of]
    split <;> split <;> omega
  · simp only
    rw [IntKind.wrap_i64,mx0_of]
    split <;> omega
theorem tI_bk (l : List Bool) (i : Nat) : Bk (tI l i):=by
  cases i with
  | zero =>exact ⟨AH.MS.wf_new,fun e he =>by (cases he)⟩
  | succ i =>exact TB_bk _ _ _
theorem tI_ex3 (l : List Bool) (i : Nat) : delEx (tI l i) 3 = tI l i:=by cases i <;> rfl
theorem tI_ex4 (l : List Bool) (i : Nat) : ∃ c,delEx (tI l i) 4 = ⟨[],c⟩:=by cases i <;> exact ⟨_,rfl⟩
def sfSt (l : List Bool) (N : Int) (i : Nat) : St:=⟨[(8,.int .i64 i),(7,.int .i64 (lfI N l i)),(6,.int .i64 N),(5,.ptr 1 0 0),(0,.slc 0 0 l.length none)],[some (.row true 1 (l.map boolC)),some (.row false 1 [[.map 2]]),some (.map ((tI l i).L.map (AH.MS.enA SK.av SC.av)) (tI l i).c)]⟩
theorem okSf : CtxOK S0 (ctxE S0 ((16,awT) :: tSp) [] eSp):=ctxE_ok ⟨awT_ok,ofT_ok,lfT_ok,trivial⟩ trivial ⟨nwT_ok,adT_ok,exE_ok,drE_ok,liE_ok,trivial⟩ mixed
theorem forced_ok (l : List Bool) (bud : Int) : CallA1 S0 5 [.slc 0 0 l.length none,.int .i64 bud] [some (.row true 1 (l.map boolC))] fun r _ =>r = .bool true:=by
  refine fun_sound okSf Tryd.func5 c5 ?_
  unfold wpF F5
  obtain ⟨N,hN,hN0,hN1⟩:=mod_20 bud
  have t0 : S0B = tI l 0:=rfl
  have hl0 : lfI N l 0 = N:=by unfold lfI; have : frN l 0 = 0:=rfl; rw [this]; split <;> omega
  simp only [AH.SD,AH.SE,AOp.call?,AOp.next?,bstep,AV.cells,unAV,binAV,retQ,retV,AH.sliceElems,AH.bytesOf,AH.strOp,AH.bound,AH.missQ,AH.minmaxAV,AH.readOf,AH.effOf,Nat.reduceBEq,Nat.reduceAdd,Nat.reduceLT,↓reduceIte,Nat.reduceEqDiff,Nat.reduceLeDiff,Nat.reduceSub,Nat.reduceMul,Int.reduceSub,Int.reduceToNat,Int.reduceBEq,Int.reduceBNe,Int.reduceLT,Int.reduceGT,Int.reduceLE,Int.reduceGE,Int.reduceNeg,Int.reduceAdd,AH.SP,AH.PD,AV.inB,vstep,vw,shift,newOnes,rowsM,blkIn,rwB,@flat_lts,AV.lt,AV.lts,Nat.sub_self,AH.SO,awT_eq,nwT_e,spM,hN,t0]
  repeat (refine ⟨by first | rfl | decide | omega | (simp only [List.length_map,List.length_set,and_true]; omega),?_⟩)
  refine loop_do [0,1,2] [8,7,6,5,0] [] (α:=Nat) (fun i =>l.length - i) (sfSt l N) (fun i =>i ≤ l.length ∧ i ≤ 40) 0 ⟨Nat.zero_le _,Nat.zero_le _⟩ (by simp only [AH.SD,AH.SE,AOp.call?,AOp.next?,bstep,AV.cells,unAV,binAV,retQ,retV,AH.sliceElems,AH.bytesOf,AH.strOp,AH.bound,AH.missQ,AH.minmaxAV,AH.readOf,AH.effOf,Nat.reduceBEq,Nat.reduceAdd,Nat.reduceLT,↓reduceIte,Nat.reduceEqDiff,Nat.reduceLeDiff,Nat.reduceSub,Nat.reduceMul,Int.reduceSub,Int.reduceToNat,Int.reduceBEq,Int.reduceBNe,Int.reduceLT,Int.reduceGT,Int.reduceLE,Int.reduceGE,Int.reduceNeg,Int.reduceAdd,AH.SP,AH.PD,AV.inB,vstep,sfSt,sp_in,sp_ren,hl0]) ?_
  rintro X i ⟨hi,h40⟩ ih
  by_cases hc : i < l.length ∧ i < 40
  · obtain ⟨hil,h4⟩:=hc
    have hd1 : decide ((i : Int) < (l.length : Int)) = true:=by simp only [decide_eq_true_eq]; omega
    have hd2 : decide ((i : Int) < 40) = true:=by simp only [decide_eq_true_eq]; omega
    have hw:=wrapS (i:=i) (by omega)
    have done:=ih (i + 1) ⟨hil,h4⟩ (by omega)
    simp only [sfSt] at done
    obtain ⟨f1,f2⟩:=fr_s hil
    have ff:=fr_fo l i hi
    have lA : leftB (tI l (i + 1)) ⟨7,3⟩ N = lfI N l (i + 1):=by rw [tI_left l (i + 1) hil h4 hN0 hN1,if_pos rfl]
    have lB : leftB (tI l (i + 1)) ⟨7,4⟩ N = N:=by rw [tI_left l (i + 1) hil h4 hN0 hN1,if_neg (by decide)]
    have lC : leftB (tI l (i + 1)) ⟨8,3⟩ N = N:=by rw [tI_left l (i + 1) hil h4 hN0 hN1,if_neg (by decide)]
    have ad:=tI_add hil h4
    cases hb : l[i]
    · rw [hb] at f1 f2 ad
      simp only [cond_false,Nat.add_zero] at f1 f2
      cases hg : decide (lfI N l i > 0)
      · have hf : ¬ ((frN l i : Int) < N):=fun h =>by
          simp only [decide_eq_false_iff_not,lfI,if_pos h] at hg; omega
        have e : lfI N l (i + 1) = lfI N l i:=by
          unfold lfI
          rw [f1,if_neg hf,if_neg (by omega)]
        simp only [AH.SD,AH.SE,AOp.call?,AOp.next?,bstep,AV.cells,unAV,binAV,retQ,retV,AH.sliceElems,AH.bytesOf,AH.strOp,AH.bound,AH.missQ,AH.minmaxAV,AH.readOf,AH.effOf,Nat.reduceBEq,Nat.reduceAdd,Nat.reduceLT,↓reduceIte,Nat.reduceEqDiff,Nat.reduceLeDiff,Nat.reduceSub,Nat.reduceMul,Int.reduceSub,Int.reduceToNat,Int.reduceBEq,Int.reduceBNe,Int.reduceLT,Int.reduceGT,Int.reduceLE,Int.reduceGE,Int.reduceNeg,Int.reduceAdd,AH.SP,AH.PD,AV.inB,vstep,vw,shift,newOnes,rowsM,blkIn,rwB,@flat_lts,AV.lt,AV.lts,Nat.sub_self,AH.SO,sfSt,hd1,hd2,getD_enc,hil,boolC_eq,List.length_map,adT_p,sp_in,sp_ren,spR_eq,spB_eq,AH.MS.Mp.eta,ne_eq,Nat.reduceEqDiff,Nat.zero_ne_one,not_false_eq_true,hb,ad,spM,hg,lfT_p,lA,lB,lC,e,bne_self_eq_false,hw]
        repeat (refine ⟨by first | rfl | decide | omega | (simp only [List.length_map,List.length_set,and_true]; omega),?_⟩)
        refine gc_auto [0,1,2] [8,7,6,5,0] [] ?_
        simp only [AH.SD,AH.SE,AOp.call?,AOp.next?,bstep,AV.cells,unAV,binAV,retQ,retV,AH.sliceElems,AH.bytesOf,AH.strOp,AH.bound,AH.missQ,AH.minmaxAV,AH.readOf,AH.effOf,Nat.reduceBEq,Nat.reduceAdd,Nat.reduceLT,↓reduceIte,Nat.reduceEqDiff,Nat.reduceLeDiff,Nat.reduceSub,Nat.reduceMul,Int.reduceSub,Int.reduceToNat,Int.reduceBEq,Int.reduceBNe,Int.reduceLT,Int.reduceGT,Int.reduceLE,Int.reduceGE,Int.reduceNeg,Int.reduceAdd,AH.SP,AH.PD,AV.inB,vstep,sp_in,sp_ren]
        rw [e] at done
        exact done
      · have hf : (frN l i : Int) < N:=by
          by_cases h : (frN l i : Int) < N
          · exact h
          · simp only [decide_eq_true_eq,lfI,if_neg h] at hg; omega
        have e : IntKind.i64.wrap (lfI N l i - 1) = lfI N l (i + 1):=by
          unfold lfI
          rw [f1,if_pos hf,IntKind.wrap_i64]
          split <;> omega
        simp only [AH.SD,AH.SE,AOp.call?,AOp.next?,bstep,AV.cells,unAV,binAV,retQ,retV,AH.sliceElems,AH.bytesOf,AH.strOp,AH.bound,AH.missQ,AH.minmaxAV,AH.readOf,AH.effOf,Nat.reduceBEq,Nat.reduceAdd,Nat.reduceLT,↓reduceIte,Nat.reduceEqDiff,Nat.reduceLeDiff,Nat.reduceSub,Nat.reduceMul,Int.reduceSub,Int.reduceToNat,Int.reduceBEq,Int.reduceBNe,Int.reduceLT,Int.reduceGT,Int.reduceLE,Int.reduceGE,Int.reduceNeg,Int.reduceAdd,AH.SP,AH.PD,AV.inB,vstep,vw,shift,newOnes,rowsM,blkIn,rwB,@flat_lts,AV.lt,AV.lts,Nat.sub_self,AH.SO,sfSt,hd1,hd2,getD_enc,hil,boolC_eq,List.length_map,adT_p,sp_in,sp_ren,spR_eq,spB_eq,AH.MS.Mp.eta,ne_eq,Nat.reduceEqDiff,Nat.zero_ne_one,not_false_eq_true,hb,ad,spM,hg,lfT_p,lA,lB,lC,e,bne_self_eq_false,hw]
        repeat (refine ⟨by first | rfl | decide | omega | (simp only [List.length_map,List.length_set,and_true]; omega),?_⟩)
        refine gc_auto [0,1,2] [8,7,6,5,0] [] ?_
        simp only [AH.SD,AH.SE,AOp.call?,AOp.next?,bstep,AV.cells,unAV,binAV,retQ,retV,AH.sliceElems,AH.bytesOf,AH.strOp,AH.bound,AH.missQ,AH.minmaxAV,AH.readOf,AH.effOf,Nat.reduceBEq,Nat.reduceAdd,Nat.reduceLT,↓reduceIte,Nat.reduceEqDiff,Nat.reduceLeDiff,Nat.reduceSub,Nat.reduceMul,Int.reduceSub,Int.reduceToNat,Int.reduceBEq,Int.reduceBNe,Int.reduceLT,Int.reduceGT,Int.reduceLE,Int.reduceGE,Int.reduceNeg,Int.reduceAdd,AH.SP,AH.PD,AV.inB,vstep,sp_in,sp_ren]
        exact done
    · rw [hb] at f1 f2 ad
      have e : lfI N l (i + 1) = lfI N l i:=by
        simp only [lfI]; rw [f1]; simp only [cond_true,Nat.add_zero]
      simp only [AH.SD,AH.SE,AOp.call?,AOp.next?,bstep,AV.cells,unAV,binAV,retQ,retV,AH.sliceElems,AH.bytesOf,AH.strOp,AH.bound,AH.missQ,AH.minmaxAV,AH.readOf,AH.effOf,Nat.reduceBEq,Nat.reduceAdd,Nat.reduceLT,↓reduceIte,Nat.reduceEqDiff,Nat.reduceLeDiff,Nat.reduceSub,Nat.reduceMul,Int.reduceSub,Int.reduceToNat,Int.reduceBEq,Int.reduceBNe,Int.reduceLT,Int.reduceGT,Int.reduceLE,Int.reduceGE,Int.reduceNeg,Int.reduceAdd,AH.SP,AH.PD,AV.inB,vstep,vw,shift,newOnes,rowsM,blkIn,rwB,@flat_lts,AV.lt,AV.lts,Nat.sub_self,AH.SO,sfSt,hd1,hd2,getD_enc,hil,boolC_eq,List.length_map,adT_p,sp_in,sp_ren,spR_eq,spB_eq,AH.MS.Mp.eta,ne_eq,Nat.reduceEqDiff,Nat.zero_ne_one,not_false_eq_true,hb,ad,spM,lfT_p,lA,lB,lC,e,bne_self_eq_false,hw]
      repeat (refine ⟨by first | rfl | decide | omega | (simp only [List.length_map,List.length_set,and_true]; omega),?_⟩)
      refine gc_auto [0,1,2] [8,7,6,5,0] [] ?_
      simp only [AH.SD,AH.SE,AOp.call?,AOp.next?,bstep,AV.cells,unAV,binAV,retQ,retV,AH.sliceElems,AH.bytesOf,AH.strOp,AH.bound,AH.missQ,AH.minmaxAV,AH.readOf,AH.effOf,Nat.reduceBEq,Nat.reduceAdd,Nat.reduceLT,↓reduceIte,Nat.reduceEqDiff,Nat.reduceLeDiff,Nat.reduceSub,Nat.reduceMul,Int.reduceSub,Int.reduceToNat,Int.reduceBEq,Int.reduceBNe,Int.reduceLT,Int.reduceGT,Int.reduceLE,Int.reduceGE,Int.reduceNeg,Int.reduceAdd,AH.SP,AH.PD,AV.inB,vstep,sp_in,sp_ren]
      rw [e] at done
      exact done
  · have hx : decide ((i : Int) < (l.length : Int)) = false ∨ decide ((i : Int) < (l.length : Int)) = true ∧ decide ((i : Int) < 40) = false:=by
      simp only [decide_eq_false_iff_not,decide_eq_true_eq]; omega
    clear ih
    have wf:=(tI_bk l i).wf
    have e3:=tI_ex3 l i
    obtain ⟨c,e4⟩:=tI_ex4 l i
    have o : ofB (tI l i) ⟨7,3⟩ = ⟨7,3,frN l i,foN l i⟩:=by rw [tI_of,if_pos rfl]
    have ff:=fr_fo l i hi
    have ws : IntKind.i64.wrap ((frN l i : Int) + (foN l i : Int)) = (i : Int):=by rw [IntKind.wrap_i64]; omega
    have lE : leftB (delEx (tI l i) 4) ⟨7,3⟩ N = N:=by
      have : ofB (delEx (tI l i) 4) ⟨7,3⟩ = ⟨7,3,0,0⟩:=by rw [e4]; rfl
      rw [leftB,this,mx0_of,mx0_of,IntKind.wrap_i64]
      simp only
      split <;> split <;> omega
    have bE : Bk (delEx (tI l i) 4):=by rw [e4]; exact ⟨⟨List.nodup_nil,List.nodup_nil,fun e he =>by (cases he)⟩,fun e he =>by (cases he)⟩
    have lV : liV (delEx (tI l i) 4) = (.nils,spM (delEx (tI l i) 4)):=by rw [e4]; rfl
    have lL : (delEx (tI l i) 4).L.length ≤ 1048576:=by rw [e4]; exact Nat.zero_le _
    have mn : (if (40 : Int) < (l.length : Int) then (40 : Int) else (l.length : Int)) = (i : Int):=by
      simp only [decide_eq_false_iff_not,decide_eq_true_eq] at hx
      split <;> omega
    rcases hx with hd1 | ⟨hd1,hd2⟩
    all_goals
      first
      | simp only [AH.SD,AH.SE,AOp.call?,AOp.next?,bstep,AV.cells,unAV,binAV,retQ,retV,AH.sliceElems,AH.bytesOf,AH.strOp,AH.bound,AH.missQ,AH.minmaxAV,AH.readOf,AH.effOf,Nat.reduceBEq,Nat.reduceAdd,Nat.reduceLT,↓reduceIte,Nat.reduceEqDiff,Nat.reduceLeDiff,Nat.reduceSub,Nat.reduceMul,Int.reduceSub,Int.reduceToNat,Int.reduceBEq,Int.reduceBNe,Int.reduceLT,Int.reduceGT,Int.reduceLE,Int.reduceGE,Int.reduceNeg,Int.reduceAdd,AH.SP,AH.PD,AV.inB,vstep,vw,shift,newOnes,rowsM,blkIn,rwB,@flat_lts,AV.lt,AV.lts,Nat.sub_self,AH.SO,sfSt,hd1,hd2,sp_in,sp_ren,spR_eq,spB_eq,AH.MS.Mp.eta,ne_eq,Nat.reduceEqDiff,Nat.zero_ne_one,not_false_eq_true,exE_p,wf,e3,spM,ofT_p,o,SC.av,ws,mn,beq_self_eq_true,lfT_p,lE,liE_p,bE,lL,lV,and_self]
      | simp only [AH.SD,AH.SE,AOp.call?,AOp.next?,bstep,AV.cells,unAV,binAV,retQ,retV,AH.sliceElems,AH.bytesOf,AH.strOp,AH.bound,AH.missQ,AH.minmaxAV,AH.readOf,AH.effOf,Nat.reduceBEq,Nat.reduceAdd,Nat.reduceLT,↓reduceIte,Nat.reduceEqDiff,Nat.reduceLeDiff,Nat.reduceSub,Nat.reduceMul,Int.reduceSub,Int.reduceToNat,Int.reduceBEq,Int.reduceBNe,Int.reduceLT,Int.reduceGT,Int.reduceLE,Int.reduceGE,Int.reduceNeg,Int.reduceAdd,AH.SP,AH.PD,AV.inB,vstep,vw,shift,newOnes,rowsM,blkIn,rwB,@flat_lts,AV.lt,AV.lts,Nat.sub_self,AH.SO,sfSt,hd1,sp_in,sp_ren,spR_eq,spB_eq,AH.MS.Mp.eta,ne_eq,Nat.reduceEqDiff,Nat.zero_ne_one,not_false_eq_true,exE_p,wf,e3,spM,ofT_p,o,SC.av,ws,mn,beq_self_eq_true,lfT_p,lE,liE_p,bE,lL,lV,and_self]
    all_goals try trivial
end Go.Proofs.YtamkjgiemconbaaDoor.D19
