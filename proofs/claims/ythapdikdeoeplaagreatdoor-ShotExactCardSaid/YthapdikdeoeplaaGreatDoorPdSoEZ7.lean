import Derived.Test.YthapdikdeoeplaaGreatDoorPcSoAZ7
import Derived.Test.YthapdikdeoeplaaGreatDoorPaFKindZ7
import Derived.Test.YthapdikdeoeplaaGreatDoorAHd
import Derived.Test.YthapdikdeoeplaaGreatDoorPbLgRZ7
section
set_option linter.unusedVariables false
set_option linter.unnecessarySimpa false
open Go AH
set_option linter.unusedSimpArgs false
set_option maxRecDepth 100000
namespace Go.Proofs.YthapdikdeoeplaaGreatDoor.Z7
structure Ls where
  s : ByteArray
  b : Int
  a : Int
def stepL (u : Ls) (x : Rd) (at_ : Int) : Ls:=if x.bad = -1 ∧ (u.a = -1 ∨ x.q > u.b) then ⟨x.t,x.q,at_⟩ else u
def lastZ (L : List ByteArray) (Z : Nat) : Ls:=stepL (stepL ⟨⟨#[]⟩,0,-1⟩ (rdZ (L.take Z)) 0) (rdZ ((L.drop Z).take Z)) 1
theorem lastZ_b (L : List ByteArray) (Z : Nat) : 0 ≤ (lastZ L Z).b ∧ (lastZ L Z).b ≤ 2147483647:=by
  have h0 : 0 ≤ (stepL ⟨⟨#[]⟩,0,-1⟩ (rdZ (L.take Z)) 0).b ∧ (stepL ⟨⟨#[]⟩,0,-1⟩ (rdZ (L.take Z)) 0).b ≤ 2147483647:=by
    unfold stepL
    split
    · rename_i h
      have:=rdZ_good h.1
      exact ⟨by simp only; omega,this.2.2.2.2⟩
    · exact ⟨Int.le_refl 0,by decide⟩
  unfold lastZ
  generalize stepL ⟨⟨#[]⟩,0,-1⟩ (rdZ (L.take Z)) 0 = u at *
  unfold stepL
  split
  · rename_i h
    have:=rdZ_good h.1
    exact ⟨by simp only; omega,this.2.2.2.2⟩
  · exact h0
def slM (d : Dk) (z : Int) (u : Ls) (lg : AV) : Mem:=[some (.row false 5 [[.slc 1 0 d.L.length none,.bool d.away,.int .i64 d.fuse,.int .i64 d.torn,.int .i64 d.writes]]),some (.row false 1 (d.L.map strC)),
  some (.row false 7 [[.ptr 0 0 0,.int .i64 z,.str u.s,.int .i64 u.b,.int .i64 u.a,lg,.bool false]])]
noncomputable abbrev eLs : List (FuncId × ET):=[(75,areaT),(60,rdT)]
theorem okLs : CtxOK S0 (ctxE S0 [] [] eLs):=ctxE_ok trivial trivial ⟨areaT_ok,rdT_ok,trivial⟩ mixed
theorem sxR_s {id n : Nat} {ro : Bool} {L : List ByteArray} (h : n = L.length) : sxR cStr 1 n id (some (.row ro 1 (L.map strC))) = some (L,[(id,true)]):=by rw [h]; exact sxR_eq (c:=cStr)
theorem rdA_g' {x : Rd} (h : x.bad = -1) : rdA x = .tup [.str x.t,.int .i64 x.q,.int .i64 x.n,.nili]:=by rw [rdA,h]; rfl
theorem rdM_g' {l : List ByteArray} {x : Rd} (h : x.bad = -1) : rdM l x = [some (.row true 1 (l.map strC))]:=by rw [rdM,h]; rfl
theorem rdA_b' {x : Rd} (h : x.bad ≠ -1) : rdA x = .tup [.str x.t,.int .i64 x.q,.int .i64 x.n,.ifc 131 (.ptr 1 0 0)]:=by
  have : (x.bad == -1) = false:=by simpa using h
  rw [rdA,this]; rfl
theorem rdM_b' {l : List ByteArray} {x : Rd} (h : x.bad ≠ -1) : rdM l x = some (.row true 1 (l.map strC)) :: wrM x.bad:=by
  have : (x.bad == -1) = false:=by simpa using h
  rw [rdM,this]; rfl
theorem errA3 : errA 3 = .err 2:=rfl
def lsE (u : Ls) : Nat:=if u.b > 1073741824 then 3 else 0
set_option maxHeartbeats 16000000 in
theorem last_on (d : Dk) (hd : d.ok) (ha : d.away = false) (Z : Nat) (h1 : 1 ≤ Z) (h2 : 2 * Z ≤ d.L.length) : CallA1 S0 56 [.ptr 2 0 0] (slM d Z ⟨⟨#[]⟩,0,-1⟩ .nilp)
    fun r m =>r = errA (lsE (lastZ d.L Z)) ∧ m = slM d Z (lastZ d.L Z) .nilp:=by
  obtain ⟨L,aw,fu,tr,wr⟩:=d
  simp only at ha h2
  subst ha
  have hL:=hd.2.2.2
  simp only at hL
  have ok0 : okArea ⟨L,false,fu,tr,wr⟩ ((Z : Int),0,()):=⟨hd,by show (1 : Int) ≤ (Z : Int); omega,.inl rfl,by show (0 : Int) * (Z : Int) + (Z : Int) ≤ (L.length : Int); omega⟩
  have ok1 : okArea ⟨L,false,fu,tr,wr⟩ ((Z : Int),1,()):=⟨hd,by show (1 : Int) ≤ (Z : Int); omega,.inr rfl,by show (1 : Int) * (Z : Int) + (Z : Int) ≤ (L.length : Int); omega⟩
  have t0 : (((0 : Int) * (Z : Int)).toNat) = 0:=by simp
  have t1 : (((1 : Int) * (Z : Int)).toNat) = Z:=by simp
  have l0 : (L.take Z).length = Z:=by rw [List.length_take]; omega
  have l1 : ((L.drop Z).take Z).length = Z:=by rw [List.length_take,List.length_drop]; omega
  have m0 : (L.take Z).length ≤ 1048576:=by omega
  have m1 : ((L.drop Z).take Z).length ≤ 1048576:=by omega
  have s0 : ∀ id ro,sxR cStr 1 Z id (some (.row ro 1 ((L.take Z).map strC))) = some (L.take Z,[(id,true)]):=fun id ro =>sxR_s l0.symm
  have s1 : ∀ id ro,sxR cStr 1 Z id (some (.row ro 1 (((L.drop Z).take Z).map strC))) = some ((L.drop Z).take Z,[(id,true)]):=fun id ro =>sxR_s l1.symm
  have hz : lastZ L Z = stepL (stepL ⟨⟨#[]⟩,0,-1⟩ (rdZ (L.take Z)) 0) (rdZ ((L.drop Z).take Z)) 1:=rfl
  generalize hP : L.take Z = P at *
  generalize hQ : (L.drop Z).take Z = Q at *
  refine CallA1.fin ?_
  refine fun_sound okLs Tryz.func56 c56 ?_
  unfold wpF F56
  simp only [AH.SD,AH.SE,AOp.call?,AOp.next?,bstep,AV.cells,unAV,binAV,retQ,retV,AH.sliceElems,AH.bytesOf,AH.strOp,AH.bound,AH.missQ,AH.minmaxAV,AH.readOf,AH.effOf,simprocAttr,AH.SP,AH.PD,AV.inB,vstep,vw,shift,newOnes,rowsM,blkIn,rwB,@flat_lts,AV.lt,AV.lts,Nat.sub_self,AH.SO,slM]
  refine loop_unroll ctxE_monoB ?_
  iterate 2 ((try simp only [AH.SD,AH.SE,AOp.call?,AOp.next?,bstep,AV.cells,unAV,binAV,retQ,retV,AH.sliceElems,AH.bytesOf,AH.strOp,AH.bound,AH.missQ,AH.minmaxAV,AH.readOf,AH.effOf,simprocAttr,AH.SP,AH.PD,AV.inB,vstep,vw,shift,newOnes,rowsM,blkIn,rwB,@flat_lts,AV.lt,AV.lts,Nat.sub_self,AH.SO,lgR_eq,lgU_eq,Lg.eta,ne4,no4,soR_eq,soS_eq,So.eta,Bool.not_false,Bool.and_self,if_true,dkR_eq,dkB_eq,Dk.eta,ne_eq,Nat.reduceEqDiff,Nat.zero_ne_one,not_false_eq_true,areaT_p,ok0,ok1,Bool.false_eq_true,if_false,dkM,List.cons_append,List.nil_append,Int.toNat_natCast,t0,t1,List.drop_zero,hP,hQ,errA_nil,errA0,rdT_p,s0,s1,m0,m1]); repeat ((with_reducible refine And.intro ?_ ?_); focus (first | rfl | decide | omega | (simp only [List.length_map,List.length_set,and_true]; omega))))
  by_cases g0 : (rdZ P).bad = -1
  · have e0 : stepL ⟨⟨#[]⟩,0,-1⟩ (rdZ P) 0 = ⟨(rdZ P).t,(rdZ P).q,0⟩:=by unfold stepL; rw [if_pos ⟨g0,.inl rfl⟩]
    rw [e0] at hz
    simp only [AH.SD,AH.SE,AOp.call?,AOp.next?,bstep,AV.cells,unAV,binAV,retQ,retV,AH.sliceElems,AH.bytesOf,AH.strOp,AH.bound,AH.missQ,AH.minmaxAV,AH.readOf,AH.effOf,simprocAttr,AH.SP,AH.PD,AV.inB,vstep,vw,shift,newOnes,rowsM,blkIn,rwB,@flat_lts,AV.lt,AV.lts,Nat.sub_self,AH.SO,lgR_eq,lgU_eq,Lg.eta,ne4,no4,soR_eq,soS_eq,So.eta,Bool.not_false,Bool.and_self,if_true,dkR_eq,dkB_eq,Dk.eta,ne_eq,Nat.reduceEqDiff,Nat.zero_ne_one,not_false_eq_true,areaT_p,ok0,ok1,Bool.false_eq_true,if_false,dkM,List.cons_append,List.nil_append,Int.toNat_natCast,t0,t1,List.drop_zero,hP,hQ,errA_nil,errA0,rdT_p,s0,s1,m0,m1,rdA_g' g0,rdM_g' g0]
    by_cases g1 : (rdZ Q).bad = -1
    · cases hq : decide ((rdZ Q).q > (rdZ P).q)
      · have hq' : ¬ (rdZ Q).q > (rdZ P).q:=by simpa using hq
        have ez : lastZ L Z = ⟨(rdZ P).t,(rdZ P).q,0⟩:=by rw [hz]; unfold stepL; rw [if_neg (fun q =>q.2.elim (fun z =>by simp at z) hq')]
        refine loop_unroll ctxE_monoB ?_
        iterate 2 ((try simp only [AH.SD,AH.SE,AOp.call?,AOp.next?,bstep,AV.cells,unAV,binAV,retQ,retV,AH.sliceElems,AH.bytesOf,AH.strOp,AH.bound,AH.missQ,AH.minmaxAV,AH.readOf,AH.effOf,simprocAttr,AH.SP,AH.PD,AV.inB,vstep,vw,shift,newOnes,rowsM,blkIn,rwB,@flat_lts,AV.lt,AV.lts,Nat.sub_self,AH.SO,lgR_eq,lgU_eq,Lg.eta,ne4,no4,soR_eq,soS_eq,So.eta,Bool.not_false,Bool.and_self,if_true,dkR_eq,dkB_eq,Dk.eta,ne_eq,Nat.reduceEqDiff,Nat.zero_ne_one,not_false_eq_true,areaT_p,ok0,ok1,Bool.false_eq_true,if_false,dkM,List.cons_append,List.nil_append,Int.toNat_natCast,t0,t1,List.drop_zero,hP,hQ,errA_nil,errA0,rdT_p,s0,s1,m0,m1,rdA_g' g1,rdM_g' g1,hq]); repeat ((with_reducible refine And.intro ?_ ?_); focus (first | rfl | decide | omega | (simp only [List.length_map,List.length_set,and_true]; omega))))
        refine loop_unroll ctxE_monoB ?_
        cases hb : decide ((rdZ P).q > 1073741824)
        · have hb' : ¬ ((rdZ P).q > 1073741824):=by simpa using hb
          simp only [AH.SD,AH.SE,AOp.call?,AOp.next?,bstep,AV.cells,unAV,binAV,retQ,retV,AH.sliceElems,AH.bytesOf,AH.strOp,AH.bound,AH.missQ,AH.minmaxAV,AH.readOf,AH.effOf,simprocAttr,AH.SP,AH.PD,AV.inB,vstep,vw,shift,newOnes,rowsM,blkIn,rwB,@flat_lts,AV.lt,AV.lts,Nat.sub_self,AH.SO,hb]
          refine ⟨[0,1,2],[],?_⟩
          simp only [AH.SD,AH.SE,AOp.call?,AOp.next?,bstep,AV.cells,unAV,binAV,retQ,retV,AH.sliceElems,AH.bytesOf,AH.strOp,AH.bound,AH.missQ,AH.minmaxAV,AH.readOf,AH.effOf,simprocAttr,AH.SP,AH.PD,AV.inB,vstep,ez,slM,lsE,hb',if_false,errA0]
          try simp
        · have hb' : ((rdZ P).q > 1073741824):=by simpa using hb
          simp only [AH.SD,AH.SE,AOp.call?,AOp.next?,bstep,AV.cells,unAV,binAV,retQ,retV,AH.sliceElems,AH.bytesOf,AH.strOp,AH.bound,AH.missQ,AH.minmaxAV,AH.readOf,AH.effOf,simprocAttr,AH.SP,AH.PD,AV.inB,vstep,vw,shift,newOnes,rowsM,blkIn,rwB,@flat_lts,AV.lt,AV.lts,Nat.sub_self,AH.SO,hb]
          refine ⟨[0,1,2],[],?_⟩
          simp only [AH.SD,AH.SE,AOp.call?,AOp.next?,bstep,AV.cells,unAV,binAV,retQ,retV,AH.sliceElems,AH.bytesOf,AH.strOp,AH.bound,AH.missQ,AH.minmaxAV,AH.readOf,AH.effOf,simprocAttr,AH.SP,AH.PD,AV.inB,vstep,ez,slM,lsE,hb',if_true,errA3]
          try simp
      · have hq' : (rdZ Q).q > (rdZ P).q:=by simpa using hq
        have ez : lastZ L Z = ⟨(rdZ Q).t,(rdZ Q).q,1⟩:=by rw [hz]; unfold stepL; rw [if_pos ⟨g1,.inr hq'⟩]
        refine loop_unroll ctxE_monoB ?_
        iterate 2 ((try simp only [AH.SD,AH.SE,AOp.call?,AOp.next?,bstep,AV.cells,unAV,binAV,retQ,retV,AH.sliceElems,AH.bytesOf,AH.strOp,AH.bound,AH.missQ,AH.minmaxAV,AH.readOf,AH.effOf,simprocAttr,AH.SP,AH.PD,AV.inB,vstep,vw,shift,newOnes,rowsM,blkIn,rwB,@flat_lts,AV.lt,AV.lts,Nat.sub_self,AH.SO,lgR_eq,lgU_eq,Lg.eta,ne4,no4,soR_eq,soS_eq,So.eta,Bool.not_false,Bool.and_self,if_true,dkR_eq,dkB_eq,Dk.eta,ne_eq,Nat.reduceEqDiff,Nat.zero_ne_one,not_false_eq_true,areaT_p,ok0,ok1,Bool.false_eq_true,if_false,dkM,List.cons_append,List.nil_append,Int.toNat_natCast,t0,t1,List.drop_zero,hP,hQ,errA_nil,errA0,rdT_p,s0,s1,m0,m1,rdA_g' g1,rdM_g' g1,hq]); repeat ((with_reducible refine And.intro ?_ ?_); focus (first | rfl | decide | omega | (simp only [List.length_map,List.length_set,and_true]; omega))))
        refine loop_unroll ctxE_monoB ?_
        cases hb : decide ((rdZ Q).q > 1073741824)
        · have hb' : ¬ ((rdZ Q).q > 1073741824):=by simpa using hb
          simp only [AH.SD,AH.SE,AOp.call?,AOp.next?,bstep,AV.cells,unAV,binAV,retQ,retV,AH.sliceElems,AH.bytesOf,AH.strOp,AH.bound,AH.missQ,AH.minmaxAV,AH.readOf,AH.effOf,simprocAttr,AH.SP,AH.PD,AV.inB,vstep,vw,shift,newOnes,rowsM,blkIn,rwB,@flat_lts,AV.lt,AV.lts,Nat.sub_self,AH.SO,hb]
          refine ⟨[0,1,2],[],?_⟩
          simp only [AH.SD,AH.SE,AOp.call?,AOp.next?,bstep,AV.cells,unAV,binAV,retQ,retV,AH.sliceElems,AH.bytesOf,AH.strOp,AH.bound,AH.missQ,AH.minmaxAV,AH.readOf,AH.effOf,simprocAttr,AH.SP,AH.PD,AV.inB,vstep,ez,slM,lsE,hb',if_false,errA0]
          try simp
        · have hb' : ((rdZ Q).q > 1073741824):=by simpa using hb
          simp only [AH.SD,AH.SE,AOp.call?,AOp.next?,bstep,AV.cells,unAV,binAV,retQ,retV,AH.sliceElems,AH.bytesOf,AH.strOp,AH.bound,AH.missQ,AH.minmaxAV,AH.readOf,AH.effOf,simprocAttr,AH.SP,AH.PD,AV.inB,vstep,vw,shift,newOnes,rowsM,blkIn,rwB,@flat_lts,AV.lt,AV.lts,Nat.sub_self,AH.SO,hb]
          refine ⟨[0,1,2],[],?_⟩
          simp only [AH.SD,AH.SE,AOp.call?,AOp.next?,bstep,AV.cells,unAV,binAV,retQ,retV,AH.sliceElems,AH.bytesOf,AH.strOp,AH.bound,AH.missQ,AH.minmaxAV,AH.readOf,AH.effOf,simprocAttr,AH.SP,AH.PD,AV.inB,vstep,ez,slM,lsE,hb',if_true,errA3]
          try simp
    · skip
      have ez : lastZ L Z = ⟨(rdZ P).t,(rdZ P).q,0⟩:=by rw [hz]; unfold stepL; rw [if_neg (fun q =>g1 q.1)]
      refine loop_unroll ctxE_monoB ?_
      iterate 2 ((try simp only [AH.SD,AH.SE,AOp.call?,AOp.next?,bstep,AV.cells,unAV,binAV,retQ,retV,AH.sliceElems,AH.bytesOf,AH.strOp,AH.bound,AH.missQ,AH.minmaxAV,AH.readOf,AH.effOf,simprocAttr,AH.SP,AH.PD,AV.inB,vstep,vw,shift,newOnes,rowsM,blkIn,rwB,@flat_lts,AV.lt,AV.lts,Nat.sub_self,AH.SO,lgR_eq,lgU_eq,Lg.eta,ne4,no4,soR_eq,soS_eq,So.eta,Bool.not_false,Bool.and_self,if_true,dkR_eq,dkB_eq,Dk.eta,ne_eq,Nat.reduceEqDiff,Nat.zero_ne_one,not_false_eq_true,areaT_p,ok0,ok1,Bool.false_eq_true,if_false,dkM,List.cons_append,List.nil_append,Int.toNat_natCast,t0,t1,List.drop_zero,hP,hQ,errA_nil,errA0,rdT_p,s0,s1,m0,m1,rdA_b' g1,rdM_b' g1,wrM]); repeat ((with_reducible refine And.intro ?_ ?_); focus (first | rfl | decide | omega | (simp only [List.length_map,List.length_set,and_true]; omega))))
      refine loop_unroll ctxE_monoB ?_
      cases hb : decide ((rdZ P).q > 1073741824)
      · have hb' : ¬ ((rdZ P).q > 1073741824):=by simpa using hb
        simp only [AH.SD,AH.SE,AOp.call?,AOp.next?,bstep,AV.cells,unAV,binAV,retQ,retV,AH.sliceElems,AH.bytesOf,AH.strOp,AH.bound,AH.missQ,AH.minmaxAV,AH.readOf,AH.effOf,simprocAttr,AH.SP,AH.PD,AV.inB,vstep,vw,shift,newOnes,rowsM,blkIn,rwB,@flat_lts,AV.lt,AV.lts,Nat.sub_self,AH.SO,hb]
        refine ⟨[0,1,2],[],?_⟩
        simp only [AH.SD,AH.SE,AOp.call?,AOp.next?,bstep,AV.cells,unAV,binAV,retQ,retV,AH.sliceElems,AH.bytesOf,AH.strOp,AH.bound,AH.missQ,AH.minmaxAV,AH.readOf,AH.effOf,simprocAttr,AH.SP,AH.PD,AV.inB,vstep,ez,slM,lsE,hb',if_false,errA0]
        try simp
      · have hb' : ((rdZ P).q > 1073741824):=by simpa using hb
        simp only [AH.SD,AH.SE,AOp.call?,AOp.next?,bstep,AV.cells,unAV,binAV,retQ,retV,AH.sliceElems,AH.bytesOf,AH.strOp,AH.bound,AH.missQ,AH.minmaxAV,AH.readOf,AH.effOf,simprocAttr,AH.SP,AH.PD,AV.inB,vstep,vw,shift,newOnes,rowsM,blkIn,rwB,@flat_lts,AV.lt,AV.lts,Nat.sub_self,AH.SO,hb]
        refine ⟨[0,1,2],[],?_⟩
        simp only [AH.SD,AH.SE,AOp.call?,AOp.next?,bstep,AV.cells,unAV,binAV,retQ,retV,AH.sliceElems,AH.bytesOf,AH.strOp,AH.bound,AH.missQ,AH.minmaxAV,AH.readOf,AH.effOf,simprocAttr,AH.SP,AH.PD,AV.inB,vstep,ez,slM,lsE,hb',if_true,errA3]
        try simp
  · have e0 : stepL ⟨⟨#[]⟩,0,-1⟩ (rdZ P) 0 = ⟨⟨#[]⟩,0,-1⟩:=by unfold stepL; rw [if_neg fun q =>g0 q.1]
    rw [e0] at hz
    simp only [AH.SD,AH.SE,AOp.call?,AOp.next?,bstep,AV.cells,unAV,binAV,retQ,retV,AH.sliceElems,AH.bytesOf,AH.strOp,AH.bound,AH.missQ,AH.minmaxAV,AH.readOf,AH.effOf,simprocAttr,AH.SP,AH.PD,AV.inB,vstep,vw,shift,newOnes,rowsM,blkIn,rwB,@flat_lts,AV.lt,AV.lts,Nat.sub_self,AH.SO,lgR_eq,lgU_eq,Lg.eta,ne4,no4,soR_eq,soS_eq,So.eta,Bool.not_false,Bool.and_self,if_true,dkR_eq,dkB_eq,Dk.eta,ne_eq,Nat.reduceEqDiff,Nat.zero_ne_one,not_false_eq_true,areaT_p,ok0,ok1,Bool.false_eq_true,if_false,dkM,List.cons_append,List.nil_append,Int.toNat_natCast,t0,t1,List.drop_zero,hP,hQ,errA_nil,errA0,rdT_p,s0,s1,m0,m1,rdA_b' g0,rdM_b' g0,wrM]
    by_cases g1 : (rdZ Q).bad = -1
    · skip
      have ez : lastZ L Z = ⟨(rdZ Q).t,(rdZ Q).q,1⟩:=by rw [hz]; unfold stepL; rw [if_pos ⟨g1,.inl rfl⟩]
      refine loop_unroll ctxE_monoB ?_
      iterate 2 ((try simp only [AH.SD,AH.SE,AOp.call?,AOp.next?,bstep,AV.cells,unAV,binAV,retQ,retV,AH.sliceElems,AH.bytesOf,AH.strOp,AH.bound,AH.missQ,AH.minmaxAV,AH.readOf,AH.effOf,simprocAttr,AH.SP,AH.PD,AV.inB,vstep,vw,shift,newOnes,rowsM,blkIn,rwB,@flat_lts,AV.lt,AV.lts,Nat.sub_self,AH.SO,lgR_eq,lgU_eq,Lg.eta,ne4,no4,soR_eq,soS_eq,So.eta,Bool.not_false,Bool.and_self,if_true,dkR_eq,dkB_eq,Dk.eta,ne_eq,Nat.reduceEqDiff,Nat.zero_ne_one,not_false_eq_true,areaT_p,ok0,ok1,Bool.false_eq_true,if_false,dkM,List.cons_append,List.nil_append,Int.toNat_natCast,t0,t1,List.drop_zero,hP,hQ,errA_nil,errA0,rdT_p,s0,s1,m0,m1,rdA_g' g1,rdM_g' g1]); repeat ((with_reducible refine And.intro ?_ ?_); focus (first | rfl | decide | omega | (simp only [List.length_map,List.length_set,and_true]; omega))))
      refine loop_unroll ctxE_monoB ?_
      cases hb : decide ((rdZ Q).q > 1073741824)
      · have hb' : ¬ ((rdZ Q).q > 1073741824):=by simpa using hb
        simp only [AH.SD,AH.SE,AOp.call?,AOp.next?,bstep,AV.cells,unAV,binAV,retQ,retV,AH.sliceElems,AH.bytesOf,AH.strOp,AH.bound,AH.missQ,AH.minmaxAV,AH.readOf,AH.effOf,simprocAttr,AH.SP,AH.PD,AV.inB,vstep,vw,shift,newOnes,rowsM,blkIn,rwB,@flat_lts,AV.lt,AV.lts,Nat.sub_self,AH.SO,hb]
        refine ⟨[0,1,2],[],?_⟩
        simp only [AH.SD,AH.SE,AOp.call?,AOp.next?,bstep,AV.cells,unAV,binAV,retQ,retV,AH.sliceElems,AH.bytesOf,AH.strOp,AH.bound,AH.missQ,AH.minmaxAV,AH.readOf,AH.effOf,simprocAttr,AH.SP,AH.PD,AV.inB,vstep,ez,slM,lsE,hb',if_false,errA0]
        try simp
      · have hb' : ((rdZ Q).q > 1073741824):=by simpa using hb
        simp only [AH.SD,AH.SE,AOp.call?,AOp.next?,bstep,AV.cells,unAV,binAV,retQ,retV,AH.sliceElems,AH.bytesOf,AH.strOp,AH.bound,AH.missQ,AH.minmaxAV,AH.readOf,AH.effOf,simprocAttr,AH.SP,AH.PD,AV.inB,vstep,vw,shift,newOnes,rowsM,blkIn,rwB,@flat_lts,AV.lt,AV.lts,Nat.sub_self,AH.SO,hb]
        refine ⟨[0,1,2],[],?_⟩
        simp only [AH.SD,AH.SE,AOp.call?,AOp.next?,bstep,AV.cells,unAV,binAV,retQ,retV,AH.sliceElems,AH.bytesOf,AH.strOp,AH.bound,AH.missQ,AH.minmaxAV,AH.readOf,AH.effOf,simprocAttr,AH.SP,AH.PD,AV.inB,vstep,ez,slM,lsE,hb',if_true,errA3]
        try simp
    · skip
      have ez : lastZ L Z = ⟨⟨#[]⟩,0,-1⟩:=by rw [hz]; unfold stepL; rw [if_neg (fun q =>g1 q.1)]
      refine loop_unroll ctxE_monoB ?_
      iterate 2 ((try simp only [AH.SD,AH.SE,AOp.call?,AOp.next?,bstep,AV.cells,unAV,binAV,retQ,retV,AH.sliceElems,AH.bytesOf,AH.strOp,AH.bound,AH.missQ,AH.minmaxAV,AH.readOf,AH.effOf,simprocAttr,AH.SP,AH.PD,AV.inB,vstep,vw,shift,newOnes,rowsM,blkIn,rwB,@flat_lts,AV.lt,AV.lts,Nat.sub_self,AH.SO,lgR_eq,lgU_eq,Lg.eta,ne4,no4,soR_eq,soS_eq,So.eta,Bool.not_false,Bool.and_self,if_true,dkR_eq,dkB_eq,Dk.eta,ne_eq,Nat.reduceEqDiff,Nat.zero_ne_one,not_false_eq_true,areaT_p,ok0,ok1,Bool.false_eq_true,if_false,dkM,List.cons_append,List.nil_append,Int.toNat_natCast,t0,t1,List.drop_zero,hP,hQ,errA_nil,errA0,rdT_p,s0,s1,m0,m1,rdA_b' g1,rdM_b' g1,wrM]); repeat ((with_reducible refine And.intro ?_ ?_); focus (first | rfl | decide | omega | (simp only [List.length_map,List.length_set,and_true]; omega))))
      refine loop_unroll ctxE_monoB ?_
      cases hb : decide ((0 : Int) > 1073741824)
      · have hb' : ¬ ((0 : Int) > 1073741824):=by simpa using hb
        simp only [AH.SD,AH.SE,AOp.call?,AOp.next?,bstep,AV.cells,unAV,binAV,retQ,retV,AH.sliceElems,AH.bytesOf,AH.strOp,AH.bound,AH.missQ,AH.minmaxAV,AH.readOf,AH.effOf,simprocAttr,AH.SP,AH.PD,AV.inB,vstep,vw,shift,newOnes,rowsM,blkIn,rwB,@flat_lts,AV.lt,AV.lts,Nat.sub_self,AH.SO,hb]
        refine ⟨[0,1,2],[],?_⟩
        simp only [AH.SD,AH.SE,AOp.call?,AOp.next?,bstep,AV.cells,unAV,binAV,retQ,retV,AH.sliceElems,AH.bytesOf,AH.strOp,AH.bound,AH.missQ,AH.minmaxAV,AH.readOf,AH.effOf,simprocAttr,AH.SP,AH.PD,AV.inB,vstep,ez,slM,lsE,hb',if_false,errA0]
        try simp
      · exact absurd hb (by decide)
theorem last_off (d : Dk) (hd : d.ok) (ha : d.away = true) (Z : Nat) (h1 : 1 ≤ Z) (h2 : 2 * Z ≤ d.L.length) : CallA1 S0 56 [.ptr 2 0 0] (slM d Z ⟨⟨#[]⟩,0,-1⟩ .nilp)
    fun r m =>r = errA 14 ∧ m = slM d Z ⟨⟨#[]⟩,0,-1⟩ .nilp:=by
  obtain ⟨L,aw,fu,tr,wr⟩:=d
  simp only at ha h2
  subst ha
  have ok0 : okArea ⟨L,true,fu,tr,wr⟩ ((Z : Int),0,()):=⟨hd,by show (1 : Int) ≤ (Z : Int); omega,.inl rfl,by show (0 : Int) * (Z : Int) + (Z : Int) ≤ (L.length : Int); omega⟩
  refine CallA1.fin ?_
  refine fun_sound okLs Tryz.func56 c56 ?_
  unfold wpF F56
  simp only [AH.SD,AH.SE,AOp.call?,AOp.next?,bstep,AV.cells,unAV,binAV,retQ,retV,AH.sliceElems,AH.bytesOf,AH.strOp,AH.bound,AH.missQ,AH.minmaxAV,AH.readOf,AH.effOf,simprocAttr,AH.SP,AH.PD,AV.inB,vstep,vw,shift,newOnes,rowsM,blkIn,rwB,@flat_lts,AV.lt,AV.lts,Nat.sub_self,AH.SO,slM]
  refine loop_unroll ctxE_monoB ?_
  iterate 2 ((try simp only [AH.SD,AH.SE,AOp.call?,AOp.next?,bstep,AV.cells,unAV,binAV,retQ,retV,AH.sliceElems,AH.bytesOf,AH.strOp,AH.bound,AH.missQ,AH.minmaxAV,AH.readOf,AH.effOf,simprocAttr,AH.SP,AH.PD,AV.inB,vstep,vw,shift,newOnes,rowsM,blkIn,rwB,@flat_lts,AV.lt,AV.lts,Nat.sub_self,AH.SO,lgR_eq,lgU_eq,Lg.eta,ne4,no4,soR_eq,soS_eq,So.eta,Bool.not_false,Bool.and_self,if_true,dkR_eq,dkB_eq,Dk.eta,ne_eq,Nat.reduceEqDiff,Nat.zero_ne_one,not_false_eq_true,areaT_p,ok0,dkM,errA_nil,errA14]); repeat ((with_reducible refine And.intro ?_ ?_); focus (first | rfl | decide | omega | (simp only [List.length_map,List.length_set,and_true]; omega))))
  refine ⟨[0,1,2],[],?_⟩
  simp only [AH.SD,AH.SE,AOp.call?,AOp.next?,bstep,AV.cells,unAV,binAV,retQ,retV,AH.sliceElems,AH.bytesOf,AH.strOp,AH.bound,AH.missQ,AH.minmaxAV,AH.readOf,AH.effOf,simprocAttr,AH.SP,AH.PD,AV.inB,vstep,slM]
  try simp
def sopZ (d : Dk) (z : Int) : Nat × So :=
  if z < 1 ∨ z > 108 ∨ (d.L.length : Int) ≤ 2 * z then (1,⟨⟨d,0,0,0,0,[],false⟩,z,⟨#[]⟩,0,0,false⟩) else
  if d.away = true then (14,⟨⟨d,0,0,0,0,[],false⟩,z,⟨#[]⟩,0,0,false⟩) else
  if (lastZ d.L z.toNat).b > 1073741824 then (3,⟨⟨d,0,0,0,0,[],false⟩,z,⟨#[]⟩,0,0,false⟩) else
  ((opnZ d (2 * z) d.L.length (lastZ d.L z.toNat).b).1,⟨(opnZ d (2 * z) d.L.length (lastZ d.L z.toNat).b).2,z,(lastZ d.L z.toNat).s,(lastZ d.L z.toNat).b,(lastZ d.L z.toNat).a,false⟩)
def sopA (x : Nat × So) : AV:=if x.1 = 0 then .tup [.ptr 2 0 0,.nili] else .tup [.nilp,errA x.1]
def sopM (x : Nat × So) : Mem:=if x.1 = 0 then [some (.row false 5 [[.slc 1 0 x.2.g.d.L.length none,.bool x.2.g.d.away,.int .i64 x.2.g.d.fuse,.int .i64 x.2.g.d.torn,.int .i64 x.2.g.d.writes]]),some (.row false 1 (x.2.g.d.L.map strC)),
  some (.row false 7 [[.ptr 0 0 0,.int .i64 x.2.z,.str x.2.s,.int .i64 x.2.b,.int .i64 x.2.a,.ptr 3 0 0,.bool x.2.down]]),
  some (.row false 7 [[.ptr 0 0 0,.int .i64 x.2.g.f,.int .i64 x.2.g.t,.int .i64 x.2.g.b,.int .i64 x.2.g.a,.slc 4 0 x.2.g.R.length none,.bool false]]),some (.row false 1 (x.2.g.R.map strC))] else dkM x.2.g.d
noncomputable abbrev tSo : List (FuncId × RT):=[(40,lenT),(9,opnN)]
theorem okSop : CtxOK S0 (ctxE S0 tSo [] [(9,opnT)]):=ctxE_ok ⟨lenT_ok,opnN_ok,trivial⟩ trivial ⟨opnT_ok,trivial⟩ mixed
set_option maxHeartbeats 8000000 in
theorem sopen_ok (d : Dk) (hd : d.ok) (z : Int) (hLs : d.L.length ≤ 4096) : CallA1 S0 25 [.ptr 0 0 0,.int .i64 z] (dkM d) fun r m =>r = sopA (sopZ d z) ∧ m = sopM (sopZ d z):=by
  refine CallA1.fin ?_
  refine fun_sound okSop Tryz.func25 c25 ?_
  unfold wpF F25
  have bad : (z < 1 ∨ z > 108 ∨ (d.L.length : Int) ≤ 2 * z) → sopA (sopZ d z) = .tup [.nilp,.err 1] ∧ sopM (sopZ d z) = dkM d:=fun h =>by
    have e : sopZ d z = (1,⟨⟨d,0,0,0,0,[],false⟩,z,⟨#[]⟩,0,0,false⟩):=by unfold sopZ; rw [if_pos h]
    rw [e]; exact ⟨rfl,rfl⟩
  cases c1 : decide (z < 1)
  rotate_left
  · obtain ⟨e1,e2⟩:=bad (.inl (by simpa using c1))
    simp only [AH.SD,AH.SE,AOp.call?,AOp.next?,bstep,AV.cells,unAV,binAV,retQ,retV,AH.sliceElems,AH.bytesOf,AH.strOp,AH.bound,AH.missQ,AH.minmaxAV,AH.readOf,AH.effOf,simprocAttr,AH.SP,AH.PD,AV.inB,vstep,vw,shift,newOnes,rowsM,blkIn,rwB,@flat_lts,AV.lt,AV.lts,Nat.sub_self,AH.SO,dkM,c1]
    repeat ((with_reducible refine And.intro ?_ ?_); focus (first | rfl | decide | omega | (simp only [List.length_map,List.length_set,and_true]; omega)))
    refine ⟨[0,1],[],?_⟩
    simp only [AH.SD,AH.SE,AOp.call?,AOp.next?,bstep,AV.cells,unAV,binAV,retQ,retV,AH.sliceElems,AH.bytesOf,AH.strOp,AH.bound,AH.missQ,AH.minmaxAV,AH.readOf,AH.effOf,simprocAttr,AH.SP,AH.PD,AV.inB,vstep,e1,e2,dkM]
    try simp
  cases c2 : decide (z > 108)
  rotate_left
  · obtain ⟨e1,e2⟩:=bad (.inr (.inl (by simpa using c2)))
    simp only [AH.SD,AH.SE,AOp.call?,AOp.next?,bstep,AV.cells,unAV,binAV,retQ,retV,AH.sliceElems,AH.bytesOf,AH.strOp,AH.bound,AH.missQ,AH.minmaxAV,AH.readOf,AH.effOf,simprocAttr,AH.SP,AH.PD,AV.inB,vstep,vw,shift,newOnes,rowsM,blkIn,rwB,@flat_lts,AV.lt,AV.lts,Nat.sub_self,AH.SO,dkM,c1,c2]
    repeat ((with_reducible refine And.intro ?_ ?_); focus (first | rfl | decide | omega | (simp only [List.length_map,List.length_set,and_true]; omega)))
    refine ⟨[0,1],[],?_⟩
    simp only [AH.SD,AH.SE,AOp.call?,AOp.next?,bstep,AV.cells,unAV,binAV,retQ,retV,AH.sliceElems,AH.bytesOf,AH.strOp,AH.bound,AH.missQ,AH.minmaxAV,AH.readOf,AH.effOf,simprocAttr,AH.SP,AH.PD,AV.inB,vstep,e1,e2,dkM]
    try simp
  have z1 : 1 ≤ z:=by simp only [decide_eq_false_iff_not] at c1; omega
  have z2 : z ≤ 108:=by simp only [decide_eq_false_iff_not] at c2; omega
  have wz : IntKind.i64.wrap (2 * z) = 2 * z:=by rw [IntKind.wrap_i64]; omega
  cases c3 : decide ((d.L.length : Int) ≤ 2 * z)
  rotate_left
  · obtain ⟨e1,e2⟩:=bad (.inr (.inr (by simpa using c3)))
    simp only [AH.SD,AH.SE,AOp.call?,AOp.next?,bstep,AV.cells,unAV,binAV,retQ,retV,AH.sliceElems,AH.bytesOf,AH.strOp,AH.bound,AH.missQ,AH.minmaxAV,AH.readOf,AH.effOf,simprocAttr,AH.SP,AH.PD,AV.inB,vstep,vw,shift,newOnes,rowsM,blkIn,rwB,@flat_lts,AV.lt,AV.lts,Nat.sub_self,AH.SO,dkM,c1,c2,lenT_p,lgR_eq,lgU_eq,Lg.eta,ne4,no4,soR_eq,soS_eq,So.eta,Bool.not_false,Bool.and_self,if_true,dkR_eq,dkB_eq,Dk.eta,ne_eq,Nat.reduceEqDiff,Nat.zero_ne_one,not_false_eq_true,wz,c3]
    repeat ((with_reducible refine And.intro ?_ ?_); focus (first | rfl | decide | omega | (simp only [List.length_map,List.length_set,and_true]; omega)))
    refine ⟨[0,1],[],?_⟩
    simp only [AH.SD,AH.SE,AOp.call?,AOp.next?,bstep,AV.cells,unAV,binAV,retQ,retV,AH.sliceElems,AH.bytesOf,AH.strOp,AH.bound,AH.missQ,AH.minmaxAV,AH.readOf,AH.effOf,simprocAttr,AH.SP,AH.PD,AV.inB,vstep,e1,e2,dkM]
    try simp
  clear bad
  have z3 : 2 * z < (d.L.length : Int):=by simp only [decide_eq_false_iff_not] at c3; omega
  have hno : ¬ (z < 1 ∨ z > 108 ∨ (d.L.length : Int) ≤ 2 * z):=by omega
  obtain ⟨Z,rfl⟩:=Int.eq_ofNat_of_zero_le (show 0 ≤ z by omega)
  have eM : slM d Z ⟨⟨#[]⟩,0,-1⟩ .nilp = [some (.row false 5 [[.slc 1 0 d.L.length none,.bool d.away,.int .i64 d.fuse,.int .i64 d.torn,.int .i64 d.writes]]),some (.row false 1 (d.L.map strC)),
    some (.row false 7 [[.ptr 0 0 0,.int .i64 Z,.str ⟨#[]⟩,.int .i64 0,.int .i64 (-1),.nilp,.bool false]])]:=rfl
  simp only [AH.SD,AH.SE,AOp.call?,AOp.next?,bstep,AV.cells,unAV,binAV,retQ,retV,AH.sliceElems,AH.bytesOf,AH.strOp,AH.bound,AH.missQ,AH.minmaxAV,AH.readOf,AH.effOf,simprocAttr,AH.SP,AH.PD,AV.inB,vstep,vw,shift,newOnes,rowsM,blkIn,rwB,@flat_lts,AV.lt,AV.lts,Nat.sub_self,AH.SO,dkM,c1,c2,lenT_p,lgR_eq,lgU_eq,Lg.eta,ne4,no4,soR_eq,soS_eq,So.eta,Bool.not_false,Bool.and_self,if_true,dkR_eq,dkB_eq,Dk.eta,ne_eq,Nat.reduceEqDiff,Nat.zero_ne_one,not_false_eq_true,wz,c3]
  rw [← eM]
  by_cases ha : d.away = true
  · have e : sopZ d Z = (14,⟨⟨d,0,0,0,0,[],false⟩,Z,⟨#[]⟩,0,0,false⟩):=by unfold sopZ; rw [if_neg hno,if_pos ha]
    refine (last_off d hd ha Z (by omega) (by omega)).mono ?_
    rintro r m ⟨rfl,rfl⟩
    simp only [AH.SD,AH.SE,AOp.call?,AOp.next?,bstep,AV.cells,unAV,binAV,retQ,retV,AH.sliceElems,AH.bytesOf,AH.strOp,AH.bound,AH.missQ,AH.minmaxAV,AH.readOf,AH.effOf,simprocAttr,AH.SP,AH.PD,AV.inB,vstep,vw,shift,newOnes,rowsM,blkIn,rwB,@flat_lts,AV.lt,AV.lts,Nat.sub_self,AH.SO,slM,errA_nil,errA14]
    refine ⟨[0,1],[],?_⟩
    simp only [AH.SD,AH.SE,AOp.call?,AOp.next?,bstep,AV.cells,unAV,binAV,retQ,retV,AH.sliceElems,AH.bytesOf,AH.strOp,AH.bound,AH.missQ,AH.minmaxAV,AH.readOf,AH.effOf,simprocAttr,AH.SP,AH.PD,AV.inB,vstep,e,sopA,sopM,errA14,dkM,show ¬ ((14 : Nat) = 0) by decide,if_false]
    try simp
  · have ha' : d.away = false:=by simpa using ha
    refine (last_on d hd ha' Z (by omega) (by omega)).mono ?_
    rintro r m ⟨rfl,rfl⟩
    obtain ⟨b1,b2⟩:=lastZ_b d.L Z
    by_cases hb : (lastZ d.L Z).b > 1073741824
    · have e : sopZ d Z = (3,⟨⟨d,0,0,0,0,[],false⟩,Z,⟨#[]⟩,0,0,false⟩):=by
        unfold sopZ; rw [if_neg hno,if_neg ha,if_pos (by simpa using hb)]
      simp only [AH.SD,AH.SE,AOp.call?,AOp.next?,bstep,AV.cells,unAV,binAV,retQ,retV,AH.sliceElems,AH.bytesOf,AH.strOp,AH.bound,AH.missQ,AH.minmaxAV,AH.readOf,AH.effOf,simprocAttr,AH.SP,AH.PD,AV.inB,vstep,vw,shift,newOnes,rowsM,blkIn,rwB,@flat_lts,AV.lt,AV.lts,Nat.sub_self,AH.SO,slM,lsE,hb,errA_nil,errA3]
      refine ⟨[0,1],[],?_⟩
      simp only [AH.SD,AH.SE,AOp.call?,AOp.next?,bstep,AV.cells,unAV,binAV,retQ,retV,AH.sliceElems,AH.bytesOf,AH.strOp,AH.bound,AH.missQ,AH.minmaxAV,AH.readOf,AH.effOf,simprocAttr,AH.SP,AH.PD,AV.inB,vstep,e,sopA,sopM,errA3,dkM,show ¬ ((3 : Nat) = 0) by decide,if_false]
      try simp
    · have e : sopZ d Z = ((opnZ d (2 * (Z : Int)) d.L.length (lastZ d.L Z).b).1,⟨(opnZ d (2 * (Z : Int)) d.L.length (lastZ d.L Z).b).2,Z,(lastZ d.L Z).s,(lastZ d.L Z).b,(lastZ d.L Z).a,false⟩):=by
        unfold sopZ; rw [if_neg hno,if_neg ha,if_neg (by simpa using hb)]; simp only [Int.toNat_natCast]
      generalize lastZ d.L Z = u at *
      obtain ⟨us,ub,ua⟩:=u
      simp only at hb b1 b2 e
      generalize hO : opnZ d (2 * (Z : Int)) d.L.length ub = O at *
      by_cases h0 : O.1 = 0
      · simp only [AH.SD,AH.SE,AOp.call?,AOp.next?,bstep,AV.cells,unAV,binAV,retQ,retV,AH.sliceElems,AH.bytesOf,AH.strOp,AH.bound,AH.missQ,AH.minmaxAV,AH.readOf,AH.effOf,simprocAttr,AH.SP,AH.PD,AV.inB,vstep,vw,shift,newOnes,rowsM,blkIn,rwB,@flat_lts,AV.lt,AV.lts,Nat.sub_self,AH.SO,slM,lsE,hb,if_false,errA_nil,errA0,lenT_p,lgR_eq,lgU_eq,Lg.eta,ne4,no4,soR_eq,soS_eq,So.eta,Bool.not_false,Bool.and_self,if_true,dkR_eq,dkB_eq,Dk.eta,ne_eq,Nat.reduceEqDiff,Nat.zero_ne_one,not_false_eq_true,wz,opnN_p,opnT_p,hd,hO,opnA,opnM,h0,opM,List.cons_append,List.nil_append]
        iterate 2 (try (repeat ((with_reducible refine And.intro ?_ ?_); focus (first | rfl | decide | omega | (simp only [List.length_map,List.length_set,and_true]; omega))); try simp only [AH.SD,AH.SE,AOp.call?,AOp.next?,bstep,AV.cells,unAV,binAV,retQ,retV,AH.sliceElems,AH.bytesOf,AH.strOp,AH.bound,AH.missQ,AH.minmaxAV,AH.readOf,AH.effOf,simprocAttr,AH.SP,AH.PD,AV.inB,vstep,vw,shift,newOnes,rowsM,blkIn,rwB,@flat_lts,AV.lt,AV.lts,Nat.sub_self,AH.SO,slM,lsE,hb,if_false,errA_nil,errA0,lenT_p,lgR_eq,lgU_eq,Lg.eta,ne4,no4,soR_eq,soS_eq,So.eta,Bool.not_false,Bool.and_self,if_true,dkR_eq,dkB_eq,Dk.eta,ne_eq,Nat.reduceEqDiff,Nat.zero_ne_one,not_false_eq_true,wz,opnN_p,opnT_p,hd,hO,opnA,opnM,h0,opM,List.cons_append,List.nil_append]))
        refine ⟨[0,1,2,3,4],[],?_⟩
        simp only [AH.SD,AH.SE,AOp.call?,AOp.next?,bstep,AV.cells,unAV,binAV,retQ,retV,AH.sliceElems,AH.bytesOf,AH.strOp,AH.bound,AH.missQ,AH.minmaxAV,AH.readOf,AH.effOf,simprocAttr,AH.SP,AH.PD,AV.inB,vstep,e,h0,sopA,sopM]
        try simp
      · have h0b : (O.1 == 0) = false:=by simpa using h0
        simp only [AH.SD,AH.SE,AOp.call?,AOp.next?,bstep,AV.cells,unAV,binAV,retQ,retV,AH.sliceElems,AH.bytesOf,AH.strOp,AH.bound,AH.missQ,AH.minmaxAV,AH.readOf,AH.effOf,simprocAttr,AH.SP,AH.PD,AV.inB,vstep,vw,shift,newOnes,rowsM,blkIn,rwB,@flat_lts,AV.lt,AV.lts,Nat.sub_self,AH.SO,slM,lsE,hb,if_false,errA_nil,errA0,lenT_p,lgR_eq,lgU_eq,Lg.eta,ne4,no4,soR_eq,soS_eq,So.eta,Bool.not_false,Bool.and_self,if_true,dkR_eq,dkB_eq,Dk.eta,ne_eq,Nat.reduceEqDiff,Nat.zero_ne_one,not_false_eq_true,wz,opnN_p,opnT_p,hd,hO,opnA,opnM,h0,h0b,dkM,errA_ren]
        iterate 2 (try (repeat ((with_reducible refine And.intro ?_ ?_); focus (first | rfl | decide | omega | (simp only [List.length_map,List.length_set,and_true]; omega))); try simp only [AH.SD,AH.SE,AOp.call?,AOp.next?,bstep,AV.cells,unAV,binAV,retQ,retV,AH.sliceElems,AH.bytesOf,AH.strOp,AH.bound,AH.missQ,AH.minmaxAV,AH.readOf,AH.effOf,simprocAttr,AH.SP,AH.PD,AV.inB,vstep,vw,shift,newOnes,rowsM,blkIn,rwB,@flat_lts,AV.lt,AV.lts,Nat.sub_self,AH.SO,slM,lsE,hb,if_false,errA_nil,errA0,lenT_p,lgR_eq,lgU_eq,Lg.eta,ne4,no4,soR_eq,soS_eq,So.eta,Bool.not_false,Bool.and_self,if_true,dkR_eq,dkB_eq,Dk.eta,ne_eq,Nat.reduceEqDiff,Nat.zero_ne_one,not_false_eq_true,wz,opnN_p,opnT_p,hd,hO,opnA,opnM,h0,h0b,dkM,errA_ren]))
        refine ⟨[0,1],[],?_⟩
        simp only [AH.SD,AH.SE,AOp.call?,AOp.next?,bstep,AV.cells,unAV,binAV,retQ,retV,AH.sliceElems,AH.bytesOf,AH.strOp,AH.bound,AH.missQ,AH.minmaxAV,AH.readOf,AH.effOf,simprocAttr,AH.SP,AH.PD,AV.inB,vstep,e,h0,sopA,sopM,dkM,if_false,flat_inB (errA_flat _),errA_ren]
        try simp
theorem sopM_len (x : Nat × So) : 2 ≤ (sopM x).length ∧ ((sopM x).drop 2).all rwB = true:=by
  unfold sopM
  split
  · exact ⟨by simp,rfl⟩
  · exact ⟨by simp [dkM],rfl⟩
def sopT : ET:=etO dkO (cC (aI .i64) c0) fun d x =>if d.ok then some (sopA (sopZ d x.1),sopM (sopZ d x.1)) else none
theorem sopT_ok : EffF S0 25 sopT:=etO_ok fun d x v m' h =>by
  split at h
  · rename_i hd
    simp only [Option.some.injEq,Prod.mk.injEq] at h
    obtain ⟨rfl,rfl⟩:=h
    exact ⟨sopM_len _,sopen_ok d hd x.1 hd.2.2.2⟩
  · cases h
theorem sopT_p {p n : Nat} {z : Int} {M : Nat → Option Blk} : sopT [.ptr p 0 0,.int .i64 z] M n = etO2 n (fun d (x : Int × Unit) =>if d.ok then some (sopA (sopZ d x.1),sopM (sopZ d x.1)) else none) (dkR M p (M p)) (some (z,())):=by
  simp only [sopT,etO_eq,cC_dec,aI_dec,c0_dec,pairO_some,dkO_dec]
theorem sopen_nil (z : Int) : Pure S0 25 [.nilp,.int .i64 z] (.tup [.nilp,errA 2]):=by
  refine fun_sound okSop Tryz.func25 c25 ?_
  unfold wpF F25
  simp only [AH.SD,AH.SE,AOp.call?,AOp.next?,bstep,AV.cells,unAV,binAV,retQ,retV,AH.sliceElems,AH.bytesOf,AH.strOp,AH.bound,AH.missQ,AH.minmaxAV,AH.readOf,AH.effOf,simprocAttr,errA2]
  repeat ((with_reducible refine And.intro ?_ ?_); focus (first | rfl | decide | omega | (simp only [List.length_map,List.length_set,and_true]; omega)))
  try trivial
def sopN : RT:=rtP (cC aNil (cC (aI .i64) c0)) fun _ => .tup [.nilp,errA 2]
theorem sopN_ok : ReadF S0 25 sopN:=rtP_ok (fun x =>sopen_nil x.2.1) fun _ =>rfl
theorem sopN_n {z : Int} {M : Nat → Option Blk} : sopN [.nilp,.int .i64 z] M = some (.tup [.nilp,errA 2],[]):=by
  simp only [sopN,rtP,cC_dec,aNil_dec,aI_dec,c0_dec,pairO_some,Option.map_some]
theorem sopN_p {p : Nat} {z : Int} {M : Nat → Option Blk} : sopN [.ptr p 0 0,.int .i64 z] M = none:=by
  simp only [sopN,rtP,cC_dec,aNil_ptr,pairO_none,Option.map_none]
end Go.Proofs.YthapdikdeoeplaaGreatDoor.Z7
end
section
set_option linter.unusedVariables false
set_option linter.unnecessarySimpa false
open Go AH
namespace Go.Proofs.YthapdikdeoeplaaGreatDoor.Z7
-- quitrent/quitrentref07.Read
def F35 : AFun:=⟨64,2,[.cell 4 true 5],(.seq (.reg [⟨some 4,none,.box 5 (.c (.agg [(.str ⟨#[]⟩),(.int .i64 0),(.int .i64 0),.nils,(.int .i64 0)]))⟩]) (.seq (.reg [⟨some 11,none,.build [(.str ⟨#[]⟩),(.int .i64 0),(.int .i64 0),.nils,(.int .i64 0)] [(2,1,(.c (.int .i64 (-1))))]⟩,⟨some 5,none,.box 5 (.c (.agg [(.str ⟨#[]⟩),(.int .i64 0),(.int .i64 0),.nils,(.int .i64 0)]))⟩,⟨none,none,.store 5 (.t 5) (.t 11)⟩]) (.seq (.seq (.reg [⟨some 6,none,.mov (.c (.int .i64 0))⟩]) (.block 0 (.loop (.seq (.seq (.reg [⟨some 12,none,.mov (.t 6)⟩,⟨some 13,none,.ibin .lss (.t 12) (.c (.int .i64 2))⟩]) (.cond (.t 13) .skip (.exit 0))) (.seq (.block 1 (.seq (.reg [⟨some 17,none,.mov (.t 0)⟩,⟨some 18,none,.mov (.t 1)⟩,⟨some 19,none,.mov (.t 6)⟩,⟨some 20,none,.ibin .mul (.t 18) (.t 19)⟩,⟨some 21,none,.mov (.t 1)⟩,⟨some 22,none,.mov (.t 6)⟩,⟨some 23,none,.ibin .mul (.t 21) (.t 22)⟩,⟨some 24,none,.mov (.t 1)⟩,⟨some 25,none,.ibin .add (.t 23) (.t 24)⟩,⟨some 26,none,.slice 1 (.t 17) (some (.t 20)) (some (.t 25)) none⟩,⟨some 27,none,.call (.c (.fn 46 [] [])) [(.t 26)]⟩,⟨some 16,none,.mov (.t 27)⟩,⟨some 28,none,.extract (.t 16) 0⟩,⟨some 29,none,.extract (.t 16) 1⟩,⟨some 30,none,.extract (.t 16) 2⟩,⟨some 31,none,.extract (.t 16) 3⟩,⟨some 7,none,.mov (.t 28)⟩,⟨some 8,none,.mov (.t 29)⟩,⟨some 9,none,.mov (.t 30)⟩,⟨some 10,none,.mov (.t 31)⟩]) (.seq (.reg [⟨some 32,none,.mov (.t 10)⟩,⟨some 33,none,.ibin .lss (.t 32) (.c (.int .i64 0))⟩,⟨some 34,none,.mov (.t 33)⟩,⟨some 35,(some (34,true)),.faddr 2 (.t 5)⟩,⟨some 36,(some (34,true)),.load false 1 (.t 35)⟩,⟨some 37,(some (34,true)),.ibin .lss (.t 36) (.c (.int .i64 0))⟩,⟨some 38,(some (34,true)),.mov (.t 37)⟩,⟨some 39,(some (38,false)),.mov (.t 8)⟩,⟨some 40,(some (38,false)),.faddr 1 (.t 5)⟩,⟨some 41,(some (38,false)),.load false 1 (.t 40)⟩,⟨some 42,(some (38,false)),.ibin .gtr (.t 39) (.t 41)⟩,⟨some 43,(some (34,true)),.pick (.t 38) (.c (.bool true)) (.t 42)⟩,⟨some 44,none,.pick (.t 34) (.t 43) (.c (.bool false))⟩]) (.cond (.t 44) (.seq (.reg [⟨some 45,none,.mov (.t 7)⟩,⟨some 46,none,.faddr 0 (.t 5)⟩,⟨none,none,.store 1 (.t 46) (.t 45)⟩]) (.seq (.reg [⟨some 47,none,.mov (.t 8)⟩,⟨some 48,none,.faddr 1 (.t 5)⟩,⟨none,none,.store 1 (.t 48) (.t 47)⟩]) (.reg [⟨some 49,none,.mov (.t 6)⟩,⟨some 50,none,.faddr 2 (.t 5)⟩,⟨none,none,.store 1 (.t 50) (.t 49)⟩]))) .skip)))) (.reg [⟨some 14,none,.mov (.t 6)⟩,⟨some 15,none,.ibin .add (.t 14) (.c (.int .i64 1))⟩,⟨some 6,none,.mov (.t 15)⟩])))))) (.seq (.draw [⟨some 52,none,.mov (.t 0)⟩,⟨some 53,none,.mov (.t 1)⟩,⟨some 54,none,.ibin .mul (.c (.int .i64 2)) (.t 53)⟩,⟨some 55,none,.slice 1 (.t 52) (some (.t 54)) none none⟩,⟨some 56,none,.faddr 1 (.t 5)⟩,⟨some 57,none,.load false 1 (.t 56)⟩,⟨some 58,none,.call (.c (.fn 11 [] [])) [(.t 55),(.t 57)]⟩,⟨some 51,none,.mov (.t 58)⟩,⟨some 59,none,.extract (.t 51) 0⟩,⟨some 60,none,.extract (.t 51) 1⟩,⟨some 61,none,.faddr 3 (.t 5)⟩,⟨none,none,.store 1 (.t 61) (.t 59)⟩,⟨some 62,none,.faddr 4 (.t 5)⟩,⟨none,none,.store 1 (.t 62) (.t 60)⟩] [[],[],[1],[0,2,1],[],[4],[3,5,0,2,1,4],[6,3,5,0,2,1,4],[7,6,3,5,0,2,1,4],[7,6,3,5,0,2,1,4],[0,1,2,3,4,5,6,7,8],[10,8,6,0,1,2,3,4,5,7],[0,1,2,3,4,5,6,7,8,9,10,11],[12,9,11,0,1,2,3,4,5,6,7,8,10]]) (.seq (.reg [⟨some 63,none,.load true 5 (.t 5)⟩,⟨none,none,.store 5 (.t 4) (.t 63)⟩]) .ret)))))⟩
-- (quitrent/quitrentref07.Store).Image
def F36 : AFun:=⟨37,3,[.tmp 6],(.seq (.reg [⟨some 3,none,.box 5 (.t 0)⟩,⟨some 6,none,.mov (.c .nils)⟩]) (.seq (.reg [⟨some 10,none,.mkslice 1 1 [(.int .u8 0)] (.c (.int .i64 64)) (.c (.int .i64 64))⟩,⟨some 11,none,.b2s (.t 10)⟩,⟨some 7,none,.mov (.t 11)⟩]) (.seq (.reg [⟨some 12,none,.bslice 1 0 [(.str ⟨#[]⟩)] []⟩,⟨some 13,none,.mov (.t 1)⟩,⟨some 14,none,.mov (.t 2)⟩,⟨some 15,none,.ibin .mul (.c (.int .i64 2)) (.t 14)⟩,⟨some 16,none,.faddr 4 (.t 3)⟩,⟨some 17,none,.load false 1 (.t 16)⟩,⟨some 18,none,.ibin .add (.t 15) (.t 17)⟩,⟨some 19,none,.slice 1 (.t 13) none (some (.t 18)) none⟩,⟨some 20,none,.append 1 16 [(.str ⟨#[]⟩)] (.t 12) (.t 19)⟩,⟨some 8,none,.mov (.t 20)⟩]) (.seq (.seq (.reg [⟨some 21,none,.mov (.t 2)⟩,⟨some 22,none,.ibin .mul (.c (.int .i64 2)) (.t 21)⟩,⟨some 23,none,.faddr 4 (.t 3)⟩,⟨some 24,none,.load false 1 (.t 23)⟩,⟨some 25,none,.ibin .add (.t 22) (.t 24)⟩,⟨some 9,none,.mov (.t 25)⟩]) (.block 0 (.loop (.seq (.seq (.reg [⟨some 26,none,.mov (.t 9)⟩,⟨some 27,none,.mov (.t 1)⟩,⟨some 28,none,.len .sl (.t 27)⟩,⟨some 29,none,.ibin .lss (.t 26) (.t 28)⟩]) (.cond (.t 29) .skip (.exit 0))) (.seq (.block 1 (.reg [⟨some 32,none,.mov (.t 8)⟩,⟨some 33,none,.mov (.t 7)⟩,⟨some 34,none,.bslice 1 1 [(.str ⟨#[]⟩)] [(0,1,(.t 33))]⟩,⟨some 35,none,.append 1 16 [(.str ⟨#[]⟩)] (.t 32) (.t 34)⟩,⟨some 8,none,.mov (.t 35)⟩])) (.reg [⟨some 30,none,.mov (.t 9)⟩,⟨some 31,none,.ibin .add (.t 30) (.c (.int .i64 1))⟩,⟨some 9,none,.mov (.t 31)⟩])))))) (.seq (.reg [⟨some 36,none,.mov (.t 8)⟩,⟨some 6,none,.mov (.t 36)⟩]) .ret)))))⟩
-- (quitrent/quitrentref07.Store).Keep
def F39 : AFun:=⟨90,4,[.tmp 8],(.seq (.reg [⟨some 4,none,.box 5 (.t 0)⟩,⟨some 8,none,.mov (.c .nils)⟩]) (.seq (.reg [⟨some 16,none,.mkslice 1 1 [(.int .u8 0)] (.c (.int .i64 64)) (.c (.int .i64 64))⟩,⟨some 17,none,.b2s (.t 16)⟩,⟨some 9,none,.mov (.t 17)⟩]) (.seq (.reg [⟨some 10,none,.mov (.c (.int .i64 0))⟩]) (.seq (.seq (.reg [⟨some 18,none,.faddr 2 (.t 4)⟩,⟨some 19,none,.load false 1 (.t 18)⟩,⟨some 20,none,.ibin .eql (.t 19) (.c (.int .i64 0))⟩]) (.cond (.t 20) (.reg [⟨some 10,none,.mov (.c (.int .i64 1))⟩]) .skip)) (.seq (.reg [⟨some 22,none,.faddr 1 (.t 4)⟩,⟨some 23,none,.load false 1 (.t 22)⟩,⟨some 24,none,.faddr 3 (.t 4)⟩,⟨some 25,none,.load false 1 (.t 24)⟩,⟨some 26,none,.len .sl (.t 25)⟩,⟨some 27,none,.ibin .add (.t 23) (.t 26)⟩,⟨some 28,none,.ibin .add (.t 27) (.c (.int .i64 1))⟩,⟨some 29,none,.mov (.t 3)⟩,⟨some 30,none,.call (.c (.fn 22 [] [])) [(.t 28),(.t 29)]⟩,⟨some 21,none,.mov (.t 30)⟩,⟨some 31,none,.extract (.t 21) 0⟩,⟨some 32,none,.extract (.t 21) 1⟩,⟨some 11,none,.mov (.t 31)⟩,⟨some 12,none,.mov (.t 32)⟩]) (.seq (.reg [⟨some 33,none,.bslice 1 0 [(.str ⟨#[]⟩)] []⟩,⟨some 13,none,.mov (.t 33)⟩]) (.seq (.seq (.reg [⟨some 14,none,.mov (.c (.int .i64 0))⟩]) (.block 0 (.loop (.seq (.seq (.reg [⟨some 34,none,.mov (.t 14)⟩,⟨some 35,none,.mov (.t 1)⟩,⟨some 36,none,.len .sl (.t 35)⟩,⟨some 37,none,.ibin .lss (.t 34) (.t 36)⟩]) (.cond (.t 37) .skip (.exit 0))) (.seq (.block 1 (.seq (.reg [⟨some 40,none,.mov (.t 14)⟩,⟨some 41,none,.mov (.t 10)⟩,⟨some 42,none,.mov (.t 2)⟩,⟨some 43,none,.ibin .mul (.t 41) (.t 42)⟩,⟨some 44,none,.ibin .sub (.t 40) (.t 43)⟩,⟨some 15,none,.mov (.t 44)⟩]) (.seq (.reg [⟨some 45,none,.mov (.t 14)⟩,⟨some 46,none,.mov (.t 2)⟩,⟨some 47,none,.ibin .mul (.c (.int .i64 2)) (.t 46)⟩,⟨some 48,none,.ibin .geq (.t 45) (.t 47)⟩,⟨some 49,none,.mov (.t 48)⟩,⟨some 50,(some (49,false)),.mov (.t 15)⟩,⟨some 51,(some (49,false)),.ibin .geq (.t 50) (.c (.int .i64 0))⟩,⟨some 52,(some (49,false)),.mov (.t 51)⟩,⟨some 53,(some (52,true)),.mov (.t 15)⟩,⟨some 54,(some (52,true)),.mov (.t 2)⟩,⟨some 55,(some (52,true)),.ibin .lss (.t 53) (.t 54)⟩,⟨some 56,(some (49,false)),.pick (.t 52) (.t 55) (.c (.bool false))⟩,⟨some 57,(some (49,false)),.mov (.t 56)⟩,⟨some 58,(some (57,true)),.mov (.t 15)⟩,⟨some 59,(some (57,true)),.mov (.t 11)⟩,⟨some 60,(some (57,true)),.len .sl (.t 59)⟩,⟨some 61,(some (57,true)),.ibin .geq (.t 58) (.t 60)⟩,⟨some 62,(some (49,false)),.pick (.t 57) (.t 61) (.c (.bool false))⟩,⟨some 63,none,.pick (.t 49) (.c (.bool true)) (.t 62)⟩]) (.cond (.t 63) (.reg [⟨some 64,none,.mov (.t 13)⟩,⟨some 65,none,.mov (.t 9)⟩,⟨some 66,none,.bslice 1 1 [(.str ⟨#[]⟩)] [(0,1,(.t 65))]⟩,⟨some 67,none,.append 1 16 [(.str ⟨#[]⟩)] (.t 64) (.t 66)⟩,⟨some 13,none,.mov (.t 67)⟩]) (.seq (.reg [⟨some 68,none,.mov (.t 15)⟩,⟨some 69,none,.ibin .geq (.t 68) (.c (.int .i64 0))⟩,⟨some 70,none,.mov (.t 69)⟩,⟨some 71,(some (70,true)),.mov (.t 15)⟩,⟨some 72,(some (70,true)),.mov (.t 2)⟩,⟨some 73,(some (70,true)),.ibin .lss (.t 71) (.t 72)⟩,⟨some 74,none,.pick (.t 70) (.t 73) (.c (.bool false))⟩]) (.cond (.t 74) (.reg [⟨some 75,none,.mov (.t 13)⟩,⟨some 76,none,.mov (.t 11)⟩,⟨some 77,none,.mov (.t 15)⟩,⟨some 78,none,.iaddrSl 1 (.t 76) (.t 77)⟩,⟨some 79,none,.load false 1 (.t 78)⟩,⟨some 80,none,.bslice 1 1 [(.str ⟨#[]⟩)] [(0,1,(.t 79))]⟩,⟨some 81,none,.append 1 16 [(.str ⟨#[]⟩)] (.t 75) (.t 80)⟩,⟨some 13,none,.mov (.t 81)⟩]) (.reg [⟨some 82,none,.mov (.t 13)⟩,⟨some 83,none,.mov (.t 1)⟩,⟨some 84,none,.mov (.t 14)⟩,⟨some 85,none,.iaddrSl 1 (.t 83) (.t 84)⟩,⟨some 86,none,.load false 1 (.t 85)⟩,⟨some 87,none,.bslice 1 1 [(.str ⟨#[]⟩)] [(0,1,(.t 86))]⟩,⟨some 88,none,.append 1 16 [(.str ⟨#[]⟩)] (.t 82) (.t 87)⟩,⟨some 13,none,.mov (.t 88)⟩]))))))) (.reg [⟨some 38,none,.mov (.t 14)⟩,⟨some 39,none,.ibin .add (.t 38) (.c (.int .i64 1))⟩,⟨some 14,none,.mov (.t 39)⟩])))))) (.seq (.reg [⟨some 89,none,.mov (.t 13)⟩,⟨some 8,none,.mov (.t 89)⟩]) .ret))))))))⟩
theorem c35 : cFun Tryz.prog [1,0,2,3,4,5,6,7,8,9,10,11,12,13] Tryz.f35 = some F35:=by kernel_rfl
theorem c36 : cFun Tryz.prog [1,0,2,3,4,5,6,7,8,9,10,11,12,13] Tryz.f36 = some F36:=by kernel_rfl
theorem c39 : cFun Tryz.prog [1,0,2,3,4,5,6,7,8,9,10,11,12,13] Tryz.f39 = some F39:=by kernel_rfl
end Go.Proofs.YthapdikdeoeplaaGreatDoor.Z7
end
section
set_option linter.unusedVariables false
set_option linter.unnecessarySimpa false
open Go AH
set_option linter.unusedSimpArgs false
set_option maxRecDepth 100000
namespace Go.Proofs.YthapdikdeoeplaaGreatDoor.Z7
def rlgL (y : Sy ByteArray) (b : Int) : List ByteArray × Nat:=logR ((y.W.drop y.ix).take y.n).length ((y.W.drop y.ix).take y.n) (b + 1)
def rlgE : ET:=etO (syO cStr 1) (cC (aI .i64) c0) fun y x =>if y.ix + y.n ≤ y.W.length ∧ y.n ≤ 1048576 ∧ okB2 x.1 then some (.tup [.slc 1 0 (rlgL y x.1).1.length none,.int .i64 (rlgL y x.1).2],[some (.row true 1 (y.W.map strC)),some (.row false 1 ((rlgL y x.1).1.map strC))]) else none
theorem rlgE_ok : EffF S0 11 rlgE:=etO_ok fun y x v m' h =>by
  split at h
  · rename_i hl
    simp only [Option.some.injEq,Prod.mk.injEq] at h
    obtain ⟨rfl,rfl⟩:=h
    have hs : ((y.W.map strC).drop y.ix).take y.n = ((y.W.drop y.ix).take y.n).map strC:=by rw [List.map_take,List.map_drop]
    have e:=rlgU_eq2 (id:=0) (ix:=y.ix) (n:=y.n) (p:=none) (b:=x.1) (m:=[some (.row true 1 (y.W.map strC))]) rowE0 hs (by rw [List.length_map]; exact hl.1) hl.2.1 hl.2.2
    exact ⟨⟨by simp [syO],rfl⟩,rlgU_ok _ _ _ _ e⟩
  · cases h
theorem rlgE_p {i ix k n : Nat} {b : Int} {M : Nat → Option Blk} : rlgE [.slc i ix k none,.int .i64 b] M n = etO2 n (fun (y : Sy ByteArray) (x : Int × Unit) =>if y.ix + y.n ≤ y.W.length ∧ y.n ≤ 1048576 ∧ okB2 x.1 then some (.tup [.slc 1 0 (rlgL y x.1).1.length none,.int .i64 (rlgL y x.1).2],[some (.row true 1 (y.W.map strC)),some (.row false 1 ((rlgL y x.1).1.map strC))]) else none) (syR cStr 1 ix k i (M i)) (some (b,())):=by
  simp only [rlgE,etO_eq,cC_dec,aI_dec,c0_dec,pairO_some,syO_dec]
theorem syR_s {id ix n : Nat} {ro : Bool} {L : List ByteArray} : syR cStr 1 ix n id (some (.row ro 1 (L.map strC))) = some (⟨L,ix,n⟩,[(id,true)]):=syR_eq (c:=cStr)
theorem okSr : CtxOK S0 (ctxE S0 [(46,rrdV)] [] [(11,rlgE)]):=ctxE_ok ⟨rrdV_ok,trivial⟩ trivial ⟨rlgE_ok,trivial⟩ mixed
set_option maxHeartbeats 8000000 in
theorem rsread_ok (L : List ByteArray) (Z : Nat) (h1 : 1 ≤ Z) (h2 : 2 * Z ≤ L.length) (hL : L.length ≤ 4096) : CallA1 S0 35 [.slc 0 0 L.length none,.int .i64 Z] [some (.row true 1 (L.map strC))]
    fun r m =>r = .agg [.str (lastZ L Z).s,.int .i64 (lastZ L Z).b,.int .i64 (lastZ L Z).a,.slc 1 0 (logR (L.drop (2 * Z)).length (L.drop (2 * Z)) ((lastZ L Z).b + 1)).1.length none,.int .i64 (logR (L.drop (2 * Z)).length (L.drop (2 * Z)) ((lastZ L Z).b + 1)).2] ∧
      m = [some (.row true 1 (L.map strC)),some (.row false 1 ((logR (L.drop (2 * Z)).length (L.drop (2 * Z)) ((lastZ L Z).b + 1)).1.map strC))]:=by
  have l0 : (L.take Z).length = Z:=by rw [List.length_take]; omega
  have l1 : ((L.drop Z).take Z).length = Z:=by rw [List.length_take,List.length_drop]; omega
  have s0 : ((L.map strC).drop 0).take Z = (L.take Z).map strC:=by rw [List.drop_zero,List.map_take]
  have s1 : ((L.map strC).drop Z).take Z = ((L.drop Z).take Z).map strC:=by rw [List.map_take,List.map_drop]
  have s2 : ((L.map strC).drop (2 * Z)).take (L.length - 2 * Z) = (L.drop (2 * Z)).map strC:=by
    rw [← List.map_drop]; exact List.take_of_length_le (by simp)
  have hm : (L.map strC).length = L.length:=List.length_map ..
  have f0:=fun (M : Nat → Option Blk) (cap : Option Nat) (hM : rowE M 0 = some (1,L.map strC)) =>rrdV_eq (cap:=cap) (ix:=0) (n:=Z) hM s0 (by omega) (by omega)
  have f1:=fun (M : Nat → Option Blk) (cap : Option Nat) (hM : rowE M 0 = some (1,L.map strC)) =>rrdV_eq (cap:=cap) (ix:=Z) (n:=Z) hM s1 (by omega) (by omega)
  have wz0 : IntKind.i64.wrap ((Z : Int) * 0) = 0:=by rw [Int.mul_zero]; rfl
  have wz1 : IntKind.i64.wrap ((Z : Int) * 1) = (Z : Int):=by rw [Int.mul_one,IntKind.wrap_i64]; omega
  have wz2 : IntKind.i64.wrap (2 * (Z : Int)) = ((2 * Z : Nat) : Int):=by rw [IntKind.wrap_i64]; omega
  have wa0 : IntKind.i64.wrap (0 + (Z : Int)) = (Z : Int):=by rw [IntKind.wrap_i64]; omega
  have wa1 : IntKind.i64.wrap ((Z : Int) + (Z : Int)) = ((2 * Z : Nat) : Int):=by rw [IntKind.wrap_i64]; omega
  have hb2:=lastZ_b L Z
  have z2z : 2 * Z - Z = Z:=by omega
  have hz : lastZ L Z = stepL (stepL ⟨⟨#[]⟩,0,-1⟩ (rdZ (L.take Z)) 0) (rdZ ((L.drop Z).take Z)) 1:=rfl
  have e5 : 2 * Z + (L.length - 2 * Z) ≤ L.length:=by omega
  have e6 : L.length - 2 * Z ≤ 1048576:=by omega
  have e7 : ∀ b,rlgL ⟨L,2 * Z,L.length - 2 * Z⟩ b = logR (L.drop (2 * Z)).length (L.drop (2 * Z)) (b + 1):=fun b =>by
    have : (L.drop (2 * Z)).take (L.length - 2 * Z) = L.drop (2 * Z):=List.take_of_length_le (by simp)
    unfold rlgL; simp only [this]
  have hd2 : (L.drop (2 * Z)).length = L.length - 2 * Z:=List.length_drop ..
  generalize hP : rdZ (L.take Z) = P at *
  generalize hQ : rdZ ((L.drop Z).take Z) = Q at *
  have hPp : P.bad ≠ -1 → 0 ≤ P.bad:=fun h =>by rw [← hP] at h ⊢; exact rdZ_pos h
  have hQp : Q.bad ≠ -1 → 0 ≤ Q.bad:=fun h =>by rw [← hQ] at h ⊢; exact rdZ_pos h
  have cPd : (decide (P.bad < 0) = true ∧ P.bad = -1) ∨ (decide (P.bad < 0) = false ∧ P.bad ≠ -1):=by
    by_cases h : P.bad = -1
    · exact .inl ⟨by rw [h]; rfl,h⟩
    · exact .inr ⟨decide_eq_false (by have:=hPp h; omega),h⟩
  have cQd : (decide (Q.bad < 0) = true ∧ Q.bad = -1) ∨ (decide (Q.bad < 0) = false ∧ Q.bad ≠ -1):=by
    by_cases h : Q.bad = -1
    · exact .inl ⟨by rw [h]; rfl,h⟩
    · exact .inr ⟨decide_eq_false (by have:=hQp h; omega),h⟩
  refine CallA1.fin ?_
  refine fun_sound okSr Tryz.func35 c35 ?_
  unfold wpF F35
  simp only [AH.SD,AH.SE,AOp.call?,AOp.next?,bstep,AV.cells,unAV,binAV,retQ,retV,AH.sliceElems,AH.bytesOf,AH.strOp,AH.bound,AH.missQ,AH.minmaxAV,AH.readOf,AH.effOf,simprocAttr,AH.SP,AH.PD,AV.inB,vstep,vw,shift,newOnes,rowsM,blkIn,rwB,@flat_lts,AV.lt,AV.lts,Nat.sub_self,AH.SO]
  refine loop_unroll ctxE_monoB ?_
  rcases cPd with ⟨cP,gP⟩ | ⟨cP,gP⟩
  · rw [show stepL ⟨⟨#[]⟩,0,-1⟩ P 0 = ⟨P.t,P.q,0⟩ by unfold stepL; rw [if_pos ⟨gP,.inl rfl⟩]] at hz
    iterate 3 ((try simp only [AH.SD,AH.SE,AOp.call?,AOp.next?,bstep,AV.cells,unAV,binAV,retQ,retV,AH.sliceElems,AH.bytesOf,AH.strOp,AH.bound,AH.missQ,AH.minmaxAV,AH.readOf,AH.effOf,simprocAttr,AH.SP,AH.PD,AV.inB,vstep,vw,shift,newOnes,rowsM,blkIn,rwB,@flat_lts,AV.lt,AV.lts,Nat.sub_self,AH.SO,z2z,wz0,wz1,wz2,wa0,wa1,f0 _ _ rowE0,f1 _ _ rowE0,rrA,hm,List.length_map,Int.toNat_natCast,Int.toNat_zero,Nat.sub_zero,cP]); repeat ((with_reducible refine And.intro ?_ ?_); focus (first | rfl | decide | omega | (simp only [List.length_map,List.length_set,and_true]; omega))))
    refine loop_unroll ctxE_monoB ?_
    rcases cQd with ⟨cQ,gQ⟩ | ⟨cQ,gQ⟩
    · cases cq : decide (Q.q > P.q)
      · rw [show stepL ⟨P.t,P.q,0⟩ Q 1 = ⟨P.t,P.q,0⟩ by unfold stepL; rw [if_neg (fun q =>q.2.elim (fun y =>by simp at y) fun y =>by simp only [decide_eq_false_iff_not] at cq; exact cq y)]] at hz
        have hB : okB2 (P.q):=by rw [hz] at hb2; exact hb2
        iterate 3 ((try simp only [AH.SD,AH.SE,AOp.call?,AOp.next?,bstep,AV.cells,unAV,binAV,retQ,retV,AH.sliceElems,AH.bytesOf,AH.strOp,AH.bound,AH.missQ,AH.minmaxAV,AH.readOf,AH.effOf,simprocAttr,AH.SP,AH.PD,AV.inB,vstep,vw,shift,newOnes,rowsM,blkIn,rwB,@flat_lts,AV.lt,AV.lts,Nat.sub_self,AH.SO,z2z,wz0,wz1,wz2,wa0,wa1,f0 _ _ rowE0,f1 _ _ rowE0,rrA,hm,List.length_map,Int.toNat_natCast,Int.toNat_zero,Nat.sub_zero,cP,cQ,cq,rlgE_p,syR_s,hB,if_true,and_self,e5,e6,e7]); repeat ((with_reducible refine And.intro ?_ ?_); focus (first | rfl | decide | omega | (simp only [List.length_map,List.length_set,and_true]; omega))))
        refine loop_unroll ctxE_monoB ?_
        iterate 4 ((try simp only [AH.SD,AH.SE,AOp.call?,AOp.next?,bstep,AV.cells,unAV,binAV,retQ,retV,AH.sliceElems,AH.bytesOf,AH.strOp,AH.bound,AH.missQ,AH.minmaxAV,AH.readOf,AH.effOf,simprocAttr,AH.SP,AH.PD,AV.inB,vstep,vw,shift,newOnes,rowsM,blkIn,rwB,@flat_lts,AV.lt,AV.lts,Nat.sub_self,AH.SO,z2z,wz0,wz1,wz2,wa0,wa1,f0 _ _ rowE0,f1 _ _ rowE0,rrA,hm,List.length_map,Int.toNat_natCast,Int.toNat_zero,Nat.sub_zero,cP,cQ,cq,rlgE_p,syR_s,hB,if_true,and_self,e5,e6,e7]); repeat ((with_reducible refine And.intro ?_ ?_); focus (first | rfl | decide | omega | (simp only [List.length_map,List.length_set,and_true]; omega))))
        refine ⟨[0,3],[],?_⟩
        simp only [AH.SD,AH.SE,AOp.call?,AOp.next?,bstep,AV.cells,unAV,binAV,retQ,retV,AH.sliceElems,AH.bytesOf,AH.strOp,AH.bound,AH.missQ,AH.minmaxAV,AH.readOf,AH.effOf,simprocAttr,AH.SP,AH.PD,AV.inB,vstep,hz]
        try simp
      · rw [show stepL ⟨P.t,P.q,0⟩ Q 1 = ⟨Q.t,Q.q,1⟩ by unfold stepL; rw [if_pos ⟨gQ,.inr (by simpa using cq)⟩]] at hz
        have hB : okB2 (Q.q):=by rw [hz] at hb2; exact hb2
        iterate 3 ((try simp only [AH.SD,AH.SE,AOp.call?,AOp.next?,bstep,AV.cells,unAV,binAV,retQ,retV,AH.sliceElems,AH.bytesOf,AH.strOp,AH.bound,AH.missQ,AH.minmaxAV,AH.readOf,AH.effOf,simprocAttr,AH.SP,AH.PD,AV.inB,vstep,vw,shift,newOnes,rowsM,blkIn,rwB,@flat_lts,AV.lt,AV.lts,Nat.sub_self,AH.SO,z2z,wz0,wz1,wz2,wa0,wa1,f0 _ _ rowE0,f1 _ _ rowE0,rrA,hm,List.length_map,Int.toNat_natCast,Int.toNat_zero,Nat.sub_zero,cP,cQ,cq,rlgE_p,syR_s,hB,if_true,and_self,e5,e6,e7]); repeat ((with_reducible refine And.intro ?_ ?_); focus (first | rfl | decide | omega | (simp only [List.length_map,List.length_set,and_true]; omega))))
        refine loop_unroll ctxE_monoB ?_
        iterate 4 ((try simp only [AH.SD,AH.SE,AOp.call?,AOp.next?,bstep,AV.cells,unAV,binAV,retQ,retV,AH.sliceElems,AH.bytesOf,AH.strOp,AH.bound,AH.missQ,AH.minmaxAV,AH.readOf,AH.effOf,simprocAttr,AH.SP,AH.PD,AV.inB,vstep,vw,shift,newOnes,rowsM,blkIn,rwB,@flat_lts,AV.lt,AV.lts,Nat.sub_self,AH.SO,z2z,wz0,wz1,wz2,wa0,wa1,f0 _ _ rowE0,f1 _ _ rowE0,rrA,hm,List.length_map,Int.toNat_natCast,Int.toNat_zero,Nat.sub_zero,cP,cQ,cq,rlgE_p,syR_s,hB,if_true,and_self,e5,e6,e7]); repeat ((with_reducible refine And.intro ?_ ?_); focus (first | rfl | decide | omega | (simp only [List.length_map,List.length_set,and_true]; omega))))
        refine ⟨[0,3],[],?_⟩
        simp only [AH.SD,AH.SE,AOp.call?,AOp.next?,bstep,AV.cells,unAV,binAV,retQ,retV,AH.sliceElems,AH.bytesOf,AH.strOp,AH.bound,AH.missQ,AH.minmaxAV,AH.readOf,AH.effOf,simprocAttr,AH.SP,AH.PD,AV.inB,vstep,hz]
        try simp
    · rw [show stepL ⟨P.t,P.q,0⟩ Q 1 = ⟨P.t,P.q,0⟩ by unfold stepL; rw [if_neg (fun q =>gQ q.1)]] at hz
      have hB : okB2 (P.q):=by rw [hz] at hb2; exact hb2
      iterate 3 ((try simp only [AH.SD,AH.SE,AOp.call?,AOp.next?,bstep,AV.cells,unAV,binAV,retQ,retV,AH.sliceElems,AH.bytesOf,AH.strOp,AH.bound,AH.missQ,AH.minmaxAV,AH.readOf,AH.effOf,simprocAttr,AH.SP,AH.PD,AV.inB,vstep,vw,shift,newOnes,rowsM,blkIn,rwB,@flat_lts,AV.lt,AV.lts,Nat.sub_self,AH.SO,z2z,wz0,wz1,wz2,wa0,wa1,f0 _ _ rowE0,f1 _ _ rowE0,rrA,hm,List.length_map,Int.toNat_natCast,Int.toNat_zero,Nat.sub_zero,cP,cQ,rlgE_p,syR_s,hB,if_true,and_self,e5,e6,e7]); repeat ((with_reducible refine And.intro ?_ ?_); focus (first | rfl | decide | omega | (simp only [List.length_map,List.length_set,and_true]; omega))))
      refine loop_unroll ctxE_monoB ?_
      iterate 4 ((try simp only [AH.SD,AH.SE,AOp.call?,AOp.next?,bstep,AV.cells,unAV,binAV,retQ,retV,AH.sliceElems,AH.bytesOf,AH.strOp,AH.bound,AH.missQ,AH.minmaxAV,AH.readOf,AH.effOf,simprocAttr,AH.SP,AH.PD,AV.inB,vstep,vw,shift,newOnes,rowsM,blkIn,rwB,@flat_lts,AV.lt,AV.lts,Nat.sub_self,AH.SO,z2z,wz0,wz1,wz2,wa0,wa1,f0 _ _ rowE0,f1 _ _ rowE0,rrA,hm,List.length_map,Int.toNat_natCast,Int.toNat_zero,Nat.sub_zero,cP,cQ,rlgE_p,syR_s,hB,if_true,and_self,e5,e6,e7]); repeat ((with_reducible refine And.intro ?_ ?_); focus (first | rfl | decide | omega | (simp only [List.length_map,List.length_set,and_true]; omega))))
      refine ⟨[0,3],[],?_⟩
      simp only [AH.SD,AH.SE,AOp.call?,AOp.next?,bstep,AV.cells,unAV,binAV,retQ,retV,AH.sliceElems,AH.bytesOf,AH.strOp,AH.bound,AH.missQ,AH.minmaxAV,AH.readOf,AH.effOf,simprocAttr,AH.SP,AH.PD,AV.inB,vstep,hz]
      try simp
  · rw [show stepL ⟨⟨#[]⟩,0,-1⟩ P 0 = ⟨⟨#[]⟩,0,-1⟩ by unfold stepL; rw [if_neg (fun q =>gP q.1)]] at hz
    iterate 3 ((try simp only [AH.SD,AH.SE,AOp.call?,AOp.next?,bstep,AV.cells,unAV,binAV,retQ,retV,AH.sliceElems,AH.bytesOf,AH.strOp,AH.bound,AH.missQ,AH.minmaxAV,AH.readOf,AH.effOf,simprocAttr,AH.SP,AH.PD,AV.inB,vstep,vw,shift,newOnes,rowsM,blkIn,rwB,@flat_lts,AV.lt,AV.lts,Nat.sub_self,AH.SO,z2z,wz0,wz1,wz2,wa0,wa1,f0 _ _ rowE0,f1 _ _ rowE0,rrA,hm,List.length_map,Int.toNat_natCast,Int.toNat_zero,Nat.sub_zero,cP]); repeat ((with_reducible refine And.intro ?_ ?_); focus (first | rfl | decide | omega | (simp only [List.length_map,List.length_set,and_true]; omega))))
    refine loop_unroll ctxE_monoB ?_
    rcases cQd with ⟨cQ,gQ⟩ | ⟨cQ,gQ⟩
    · rw [show stepL ⟨⟨#[]⟩,0,-1⟩ Q 1 = ⟨Q.t,Q.q,1⟩ by unfold stepL; rw [if_pos ⟨gQ,.inl rfl⟩]] at hz
      have hB : okB2 (Q.q):=by rw [hz] at hb2; exact hb2
      iterate 3 ((try simp only [AH.SD,AH.SE,AOp.call?,AOp.next?,bstep,AV.cells,unAV,binAV,retQ,retV,AH.sliceElems,AH.bytesOf,AH.strOp,AH.bound,AH.missQ,AH.minmaxAV,AH.readOf,AH.effOf,simprocAttr,AH.SP,AH.PD,AV.inB,vstep,vw,shift,newOnes,rowsM,blkIn,rwB,@flat_lts,AV.lt,AV.lts,Nat.sub_self,AH.SO,z2z,wz0,wz1,wz2,wa0,wa1,f0 _ _ rowE0,f1 _ _ rowE0,rrA,hm,List.length_map,Int.toNat_natCast,Int.toNat_zero,Nat.sub_zero,cP,cQ,rlgE_p,syR_s,hB,if_true,and_self,e5,e6,e7]); repeat ((with_reducible refine And.intro ?_ ?_); focus (first | rfl | decide | omega | (simp only [List.length_map,List.length_set,and_true]; omega))))
      refine loop_unroll ctxE_monoB ?_
      iterate 4 ((try simp only [AH.SD,AH.SE,AOp.call?,AOp.next?,bstep,AV.cells,unAV,binAV,retQ,retV,AH.sliceElems,AH.bytesOf,AH.strOp,AH.bound,AH.missQ,AH.minmaxAV,AH.readOf,AH.effOf,simprocAttr,AH.SP,AH.PD,AV.inB,vstep,vw,shift,newOnes,rowsM,blkIn,rwB,@flat_lts,AV.lt,AV.lts,Nat.sub_self,AH.SO,z2z,wz0,wz1,wz2,wa0,wa1,f0 _ _ rowE0,f1 _ _ rowE0,rrA,hm,List.length_map,Int.toNat_natCast,Int.toNat_zero,Nat.sub_zero,cP,cQ,rlgE_p,syR_s,hB,if_true,and_self,e5,e6,e7]); repeat ((with_reducible refine And.intro ?_ ?_); focus (first | rfl | decide | omega | (simp only [List.length_map,List.length_set,and_true]; omega))))
      refine ⟨[0,3],[],?_⟩
      simp only [AH.SD,AH.SE,AOp.call?,AOp.next?,bstep,AV.cells,unAV,binAV,retQ,retV,AH.sliceElems,AH.bytesOf,AH.strOp,AH.bound,AH.missQ,AH.minmaxAV,AH.readOf,AH.effOf,simprocAttr,AH.SP,AH.PD,AV.inB,vstep,hz]
      try simp
    · rw [show stepL ⟨⟨#[]⟩,0,-1⟩ Q 1 = ⟨⟨#[]⟩,0,-1⟩ by unfold stepL; rw [if_neg (fun q =>gQ q.1)]] at hz
      have hB : okB2 (0):=by rw [hz] at hb2; exact hb2
      iterate 3 ((try simp only [AH.SD,AH.SE,AOp.call?,AOp.next?,bstep,AV.cells,unAV,binAV,retQ,retV,AH.sliceElems,AH.bytesOf,AH.strOp,AH.bound,AH.missQ,AH.minmaxAV,AH.readOf,AH.effOf,simprocAttr,AH.SP,AH.PD,AV.inB,vstep,vw,shift,newOnes,rowsM,blkIn,rwB,@flat_lts,AV.lt,AV.lts,Nat.sub_self,AH.SO,z2z,wz0,wz1,wz2,wa0,wa1,f0 _ _ rowE0,f1 _ _ rowE0,rrA,hm,List.length_map,Int.toNat_natCast,Int.toNat_zero,Nat.sub_zero,cP,cQ,rlgE_p,syR_s,hB,if_true,and_self,e5,e6,e7]); repeat ((with_reducible refine And.intro ?_ ?_); focus (first | rfl | decide | omega | (simp only [List.length_map,List.length_set,and_true]; omega))))
      refine loop_unroll ctxE_monoB ?_
      iterate 4 ((try simp only [AH.SD,AH.SE,AOp.call?,AOp.next?,bstep,AV.cells,unAV,binAV,retQ,retV,AH.sliceElems,AH.bytesOf,AH.strOp,AH.bound,AH.missQ,AH.minmaxAV,AH.readOf,AH.effOf,simprocAttr,AH.SP,AH.PD,AV.inB,vstep,vw,shift,newOnes,rowsM,blkIn,rwB,@flat_lts,AV.lt,AV.lts,Nat.sub_self,AH.SO,z2z,wz0,wz1,wz2,wa0,wa1,f0 _ _ rowE0,f1 _ _ rowE0,rrA,hm,List.length_map,Int.toNat_natCast,Int.toNat_zero,Nat.sub_zero,cP,cQ,rlgE_p,syR_s,hB,if_true,and_self,e5,e6,e7]); repeat ((with_reducible refine And.intro ?_ ?_); focus (first | rfl | decide | omega | (simp only [List.length_map,List.length_set,and_true]; omega))))
      refine ⟨[0,3],[],?_⟩
      simp only [AH.SD,AH.SE,AOp.call?,AOp.next?,bstep,AV.cells,unAV,binAV,retQ,retV,AH.sliceElems,AH.bytesOf,AH.strOp,AH.bound,AH.missQ,AH.minmaxAV,AH.readOf,AH.effOf,simprocAttr,AH.SP,AH.PD,AV.inB,vstep,hz]
      try simp
end Go.Proofs.YthapdikdeoeplaaGreatDoor.Z7
end
section
set_option linter.unusedVariables false
set_option linter.unnecessarySimpa false
open Go AH
set_option linter.unusedSimpArgs false
set_option maxRecDepth 100000
namespace Go.Proofs.YthapdikdeoeplaaGreatDoor.Z7
def areaZ (d : Dk) (Z o : Nat) (B : List ByteArray) : Nat × Dk:=if (wipeD d Z o).1 = 0 then layD (wipeD d Z o).2 o B else wipeD d Z o
noncomputable abbrev tLy : List (FuncId × RT):=[(55,repT),(59,drdT),(52,writeNT)]
noncomputable abbrev eLy : List (FuncId × ET):=[(52,writeT)]
theorem okLy : CtxOK S0 (ctxE S0 tLy [] eLy):=ctxE_ok ⟨repT_ok,drdT_ok,writeNT_ok,trivial⟩ trivial ⟨writeT_ok,trivial⟩ mixed
def kpM (x : So) (d : Dk) (B : List ByteArray) : Mem:=soM { x with g:={ x.g with d:=d } } ++ [some (.row false 1 (B.map strC))]
def ly1 (x : So) (at_ : Int) (Z : Nat) (B : List ByteArray) (y : Nat × Dk) : St:=⟨[(19,.int .i64 y.1),(18,.int .i64 Z),(7,.str zeB),(2,.slc 5 0 B.length none),(1,.int .i64 at_),(0,.ptr 0 0 0)],kpM x y.2 B⟩
def ly2 (x : So) (at_ : Int) (B : List ByteArray) (y : Nat × Dk) : St:=⟨[(65,.int .i64 y.1),(64,.int .i64 B.length),(63,.slc 5 0 B.length none),(1,.int .i64 at_),(0,.ptr 0 0 0)],kpM x y.2 B⟩
set_option maxHeartbeats 16000000 in
theorem lay_walk (x : So) (hx : x.g.d.ok) (at_ : Int) (Z o : Nat) (B : List ByteArray) (hz : x.z = Z) (hw : IntKind.i64.wrap (at_ * (Z : Int)) = (o : Int)) (hB : ∀ s ∈ B,s.size = 64) (hBl : B.length ≤ Z) (h2 : o + Z ≤ x.g.d.L.length) :
    CallA1 S0 57 [.ptr 0 0 0,.int .i64 at_,.slc 5 0 B.length none] (soM x ++ [some (.row false 1 (B.map strC))]) fun r m =>r = errA (areaZ x.g.d Z o B).1 ∧ m = kpM x (areaZ x.g.d Z o B).2 B:=by
  obtain ⟨⟨d,f,t,b0,a0,R,down0⟩,z,st,b,a,down⟩:=x
  simp only at hx hz h2
  subst hz
  have hL:=hx.2.2.2
  refine CallA1.fin ?_
  refine fun_sound okLy Tryz.func57 c57 ?_
  unfold wpF F57
  simp only [AH.SD,AH.SE,AOp.call?,AOp.next?,bstep,AV.cells,unAV,binAV,retQ,retV,AH.sliceElems,AH.bytesOf,AH.strOp,AH.bound,AH.missQ,AH.minmaxAV,AH.readOf,AH.effOf,simprocAttr,AH.SP,AH.PD,AV.inB,vstep,vw,shift,newOnes,rowsM,blkIn,rwB,@flat_lts,AV.lt,AV.lts,Nat.sub_self,AH.SO,soM,List.cons_append,List.nil_append,repT_64]
  refine loop_do [0,1,2,3,4,5] [19,18,7,2,1,0] [] (α:=Nat × Dk) (fun y =>Z - y.1) (ly1 ⟨⟨d,f,t,b0,a0,R,down0⟩,Z,st,b,a,down⟩ at_ Z B) (fun y =>y.1 ≤ Z ∧ y.2.ok ∧ y.2.L.length = d.L.length ∧ wipeD y.2 (Z - y.1) (o + y.1) = wipeD d Z o) (0,d) ⟨Nat.zero_le _,hx,rfl,rfl⟩ (by simp only [AH.SD,AH.SE,AOp.call?,AOp.next?,bstep,AV.cells,unAV,binAV,retQ,retV,AH.sliceElems,AH.bytesOf,AH.strOp,AH.bound,AH.missQ,AH.minmaxAV,AH.readOf,AH.effOf,simprocAttr,AH.SP,AH.PD,AV.inB,vstep,ly1,kpM,soM,List.cons_append,List.nil_append]) ?_
  rintro X ⟨i,d1⟩ ⟨hi,hd1,hl,hy⟩ ih
  simp only at hi hd1 hl hy
  simp only [AH.SD,AH.SE,AOp.call?,AOp.next?,bstep,AV.cells,unAV,binAV,retQ,retV,AH.sliceElems,AH.bytesOf,AH.strOp,AH.bound,AH.missQ,AH.minmaxAV,AH.readOf,AH.effOf,simprocAttr,AH.SP,AH.PD,AV.inB,vstep,vw,shift,newOnes,rowsM,blkIn,rwB,@flat_lts,AV.lt,AV.lts,Nat.sub_self,AH.SO,ly1,kpM,soM,List.cons_append,List.nil_append]
  refine ⟨fun hlt => ?_,fun hlt => ?_⟩
  · have hiZ:=lt_of_dec hlt
    have wi:=wrapS (i:=i) (by omega)
    have hiL : o + i < d1.L.length:=by omega
    have wo : IntKind.i64.wrap ((o : Int) + (i : Int)) = ((o + i : Nat) : Int):=by rw [IntKind.wrap_i64]; omega
    obtain ⟨k,hk⟩ : ∃ k,Z - i = k + 1:=⟨Z - i - 1,by omega⟩
    have hk2 : Z - (i + 1) = k:=by omega
    have hck:=chk_at hiL
    by_cases haw' : d1.away = true
    · have haw : d1.away = true:=haw'
      rw [haw] at hck
      simp only [if_true] at hck
      have e3 : wipeD d Z o = (14,d1):=by rw [← hy,hk,wipeD,haw]; rfl
      have e4 : areaZ d Z o B = (14,d1):=by unfold areaZ; rw [e3]; rfl
      iterate 2 ((try simp only [AH.SD,AH.SE,AOp.call?,AOp.next?,bstep,AV.cells,unAV,binAV,retQ,retV,AH.sliceElems,AH.bytesOf,AH.strOp,AH.bound,AH.missQ,AH.minmaxAV,AH.readOf,AH.effOf,simprocAttr,AH.SP,AH.PD,AV.inB,vstep,vw,shift,newOnes,rowsM,blkIn,rwB,@flat_lts,AV.lt,AV.lts,Nat.sub_self,AH.SO,lgR_eq,lgU_eq,Lg.eta,ne4,no4,soR_eq,soS_eq,So.eta,Bool.not_false,Bool.and_self,if_true,dkR_eq,dkB_eq,Dk.eta,ne_eq,Nat.reduceEqDiff,Nat.zero_ne_one,not_false_eq_true,hw,wo,drdT_p,drdA,hck,errA_nil,errA14]); repeat ((with_reducible refine And.intro ?_ ?_); focus (first | rfl | decide | omega | (simp only [List.length_map,List.length_set,and_true]; omega))))
      refine ⟨[0,1,2,3,4,5],[],?_⟩
      simp only [AH.SD,AH.SE,AOp.call?,AOp.next?,bstep,AV.cells,unAV,binAV,retQ,retV,AH.sliceElems,AH.bytesOf,AH.strOp,AH.bound,AH.missQ,AH.minmaxAV,AH.readOf,AH.effOf,simprocAttr,AH.SP,AH.PD,AV.inB,vstep,e4,kpM,soM,errA14,List.cons_append,List.nil_append]
      try simp
    · have haw : d1.away = false:=by simpa using haw'
      rw [haw] at hck
      simp only [Bool.false_eq_true,if_false] at hck
      have hg : d1.L.getD (o + i) ⟨#[]⟩ = d1.L[o + i]:=by rw [List.getD_eq_getElem?_getD,List.getElem?_eq_getElem hiL]; rfl
      have hrd : rdS d1 ((o + i : Nat) : Int) = d1.L[o + i]:=by rw [rdS,hck,Int.toNat_natCast,hg]; rfl
      by_cases hz : d1.L[o + i] = zeB
      · have e1 : wipeD d1 (Z - (i + 1)) (o + (i + 1)) = wipeD d Z o:=by
          rw [← hy,hk,hk2,wipeD,haw,hg]; simp [hz,Nat.add_assoc]
        have done:=ih (i + 1,d1) ⟨hiZ,hd1,hl,e1⟩ (by simp only; omega)
        simp only [ly1,kpM,soM,List.cons_append,List.nil_append] at done
        iterate 2 ((try simp only [AH.SD,AH.SE,AOp.call?,AOp.next?,bstep,AV.cells,unAV,binAV,retQ,retV,AH.sliceElems,AH.bytesOf,AH.strOp,AH.bound,AH.missQ,AH.minmaxAV,AH.readOf,AH.effOf,simprocAttr,AH.SP,AH.PD,AV.inB,vstep,vw,shift,newOnes,rowsM,blkIn,rwB,@flat_lts,AV.lt,AV.lts,Nat.sub_self,AH.SO,lgR_eq,lgU_eq,Lg.eta,ne4,no4,soR_eq,soS_eq,So.eta,Bool.not_false,Bool.and_self,if_true,dkR_eq,dkB_eq,Dk.eta,ne_eq,Nat.reduceEqDiff,Nat.zero_ne_one,not_false_eq_true,hw,wo,drdT_p,drdA,hck,hrd,hz,errA_nil,tl_self,Bool.not_true,wi]); repeat ((with_reducible refine And.intro ?_ ?_); focus (first | rfl | decide | omega | (simp only [List.length_map,List.length_set,and_true]; omega))))
        refine gc_auto [0,1,2,3,4,5] [19,18,7,2,1,0] [] ?_
        simp only [AH.SD,AH.SE,AOp.call?,AOp.next?,bstep,AV.cells,unAV,binAV,retQ,retV,AH.sliceElems,AH.bytesOf,AH.strOp,AH.bound,AH.missQ,AH.minmaxAV,AH.readOf,AH.effOf,simprocAttr,AH.SP,AH.PD,AV.inB,vstep]
        exact done
      · have e2:=tl_ne hz
        have hkd:=wrD_kinds (s:=zeB) hiL zeB_sz
        have hok:=wr_ok hd1 ((o + i : Nat) : Int) zeB
        have hln:=wr_len d1 ((o + i : Nat) : Int) zeB
        have e3 : wipeD d1 (Z - i) (o + i) = if (wrD d1 ((o + i : Nat) : Int) zeB).1 = 0 then wipeD (wrD d1 ((o + i : Nat) : Int) zeB).2 k (o + (i + 1)) else wrD d1 ((o + i : Nat) : Int) zeB:=by
          rw [hk,wipeD,haw,hg]; simp [hz,Nat.add_assoc]
        rcases hkd with hkd | hkd
        · rw [if_pos hkd,← hk2] at e3
          have done:=ih (i + 1,(wrD d1 ((o + i : Nat) : Int) zeB).2) ⟨hiZ,hok,by simp only; omega,by simp only; rw [← hy,e3]⟩ (by simp only; omega)
          simp only [ly1,kpM,soM,List.cons_append,List.nil_append] at done
          iterate 3 ((try simp only [AH.SD,AH.SE,AOp.call?,AOp.next?,bstep,AV.cells,unAV,binAV,retQ,retV,AH.sliceElems,AH.bytesOf,AH.strOp,AH.bound,AH.missQ,AH.minmaxAV,AH.readOf,AH.effOf,simprocAttr,AH.SP,AH.PD,AV.inB,vstep,vw,shift,newOnes,rowsM,blkIn,rwB,@flat_lts,AV.lt,AV.lts,Nat.sub_self,AH.SO,lgR_eq,lgU_eq,Lg.eta,ne4,no4,soR_eq,soS_eq,So.eta,Bool.not_false,Bool.and_self,if_true,dkR_eq,dkB_eq,Dk.eta,ne_eq,Nat.reduceEqDiff,Nat.zero_ne_one,not_false_eq_true,hw,wo,drdT_p,drdA,hck,hrd,e2,errA_nil,Bool.not_false,writeNT_p,writeT_p,hd1,if_true,dkM,hkd,errA0,wi,errA_ren]); repeat ((with_reducible refine And.intro ?_ ?_); focus (first | rfl | decide | omega | (simp only [List.length_map,List.length_set,and_true]; omega))))
          refine gc_auto [0,1,2,3,4,5] [19,18,7,2,1,0] [] ?_
          simp only [AH.SD,AH.SE,AOp.call?,AOp.next?,bstep,AV.cells,unAV,binAV,retQ,retV,AH.sliceElems,AH.bytesOf,AH.strOp,AH.bound,AH.missQ,AH.minmaxAV,AH.readOf,AH.effOf,simprocAttr,AH.SP,AH.PD,AV.inB,vstep]
          exact done
        · rw [hkd,if_neg (by decide)] at e3
          have e4 : areaZ d Z o B = wrD d1 ((o + i : Nat) : Int) zeB:=by unfold areaZ; rw [← hy,e3,if_neg (by rw [hkd]; decide)]
          iterate 3 ((try simp only [AH.SD,AH.SE,AOp.call?,AOp.next?,bstep,AV.cells,unAV,binAV,retQ,retV,AH.sliceElems,AH.bytesOf,AH.strOp,AH.bound,AH.missQ,AH.minmaxAV,AH.readOf,AH.effOf,simprocAttr,AH.SP,AH.PD,AV.inB,vstep,vw,shift,newOnes,rowsM,blkIn,rwB,@flat_lts,AV.lt,AV.lts,Nat.sub_self,AH.SO,lgR_eq,lgU_eq,Lg.eta,ne4,no4,soR_eq,soS_eq,So.eta,Bool.not_false,Bool.and_self,if_true,dkR_eq,dkB_eq,Dk.eta,ne_eq,Nat.reduceEqDiff,Nat.zero_ne_one,not_false_eq_true,hw,wo,drdT_p,drdA,hck,hrd,e2,errA_nil,Bool.not_false,writeNT_p,writeT_p,hd1,if_true,dkM,hkd,errA14,errA_ren]); repeat ((with_reducible refine And.intro ?_ ?_); focus (first | rfl | decide | omega | (simp only [List.length_map,List.length_set,and_true]; omega))))
          refine ⟨[0,1,2,3,4,5],[],?_⟩
          simp only [AH.SD,AH.SE,AOp.call?,AOp.next?,bstep,AV.cells,unAV,binAV,retQ,retV,AH.sliceElems,AH.bytesOf,AH.strOp,AH.bound,AH.missQ,AH.minmaxAV,AH.readOf,AH.effOf,simprocAttr,AH.SP,AH.PD,AV.inB,vstep,e4,hkd,kpM,soM,errA14,List.cons_append,List.nil_append]
          try simp
  · have hiz : i = Z:=by
      have:=ge_of_dec hlt
      omega
    subst hiz
    rw [Nat.sub_self,wipeD] at hy
    have ew : areaZ d i o B = layD d1 o B:=by unfold areaZ; rw [← hy,if_pos rfl]
    clear ih hi
    simp only [AH.SD,AH.SE,AOp.call?,AOp.next?,bstep,AV.cells,unAV,binAV,retQ,retV,AH.sliceElems,AH.bytesOf,AH.strOp,AH.bound,AH.missQ,AH.minmaxAV,AH.readOf,AH.effOf,simprocAttr,AH.SP,AH.PD,AV.inB,vstep,vw,shift,newOnes,rowsM,blkIn,rwB,@flat_lts,AV.lt,AV.lts,Nat.sub_self,AH.SO]
    refine loop_do [0,1,2,3,4,5] [65,64,63,1,0] [] (α:=Nat × Dk) (fun y =>B.length - y.1) (ly2 ⟨⟨d,f,t,b0,a0,R,down0⟩,i,st,b,a,down⟩ at_ B) (fun y =>y.1 ≤ B.length ∧ y.2.ok ∧ y.2.L.length = d.L.length ∧ layD y.2 (o + y.1) (B.drop y.1) = layD d1 o B) (0,d1) ⟨Nat.zero_le _,hd1,hl,rfl⟩ (by simp only [AH.SD,AH.SE,AOp.call?,AOp.next?,bstep,AV.cells,unAV,binAV,retQ,retV,AH.sliceElems,AH.bytesOf,AH.strOp,AH.bound,AH.missQ,AH.minmaxAV,AH.readOf,AH.effOf,simprocAttr,AH.SP,AH.PD,AV.inB,vstep,ly2,kpM,soM,List.cons_append,List.nil_append]) ?_
    clear hd1 hy hl
    rintro Y ⟨j,d2⟩ ⟨hj,hd2,hl,hy⟩ ih
    simp only at hj hd2 hl hy
    simp only [AH.SD,AH.SE,AOp.call?,AOp.next?,bstep,AV.cells,unAV,binAV,retQ,retV,AH.sliceElems,AH.bytesOf,AH.strOp,AH.bound,AH.missQ,AH.minmaxAV,AH.readOf,AH.effOf,simprocAttr,AH.SP,AH.PD,AV.inB,vstep,vw,shift,newOnes,rowsM,blkIn,rwB,@flat_lts,AV.lt,AV.lts,Nat.sub_self,AH.SO,ly2,kpM,soM,List.cons_append,List.nil_append]
    refine ⟨fun hlt => ?_,fun hlt => ?_⟩
    · have hjB:=lt_of_dec hlt
      have wi:=wrapS (i:=j) (by omega)
      have hjL : o + j < d2.L.length:=by omega
      have wo : IntKind.i64.wrap ((o : Int) + (j : Int)) = ((o + j : Nat) : Int):=by rw [IntKind.wrap_i64]; omega
      have hgj : (B.map strC).getD j [] = strC B[j]:=getD_enc hjB
      have hBj : B[j].size = 64:=hB _ (List.getElem_mem hjB)
      have hkd:=wrD_kinds (s:=B[j]) hjL hBj
      have hok:=wr_ok hd2 ((o + j : Nat) : Int) B[j]
      have hln:=wr_len d2 ((o + j : Nat) : Int) B[j]
      rw [List.drop_eq_getElem_cons hjB,layD] at hy
      rcases hkd with hkd | hkd
      · rw [if_pos hkd] at hy
        have done:=ih (j + 1,(wrD d2 ((o + j : Nat) : Int) B[j]).2) ⟨hjB,hok,by simp only; omega,hy⟩ (by simp only; omega)
        simp only [ly2,kpM,soM,List.cons_append,List.nil_append] at done
        iterate 3 ((try simp only [AH.SD,AH.SE,AOp.call?,AOp.next?,bstep,AV.cells,unAV,binAV,retQ,retV,AH.sliceElems,AH.bytesOf,AH.strOp,AH.bound,AH.missQ,AH.minmaxAV,AH.readOf,AH.effOf,simprocAttr,AH.SP,AH.PD,AV.inB,vstep,vw,shift,newOnes,rowsM,blkIn,rwB,@flat_lts,AV.lt,AV.lts,Nat.sub_self,AH.SO,lgR_eq,lgU_eq,Lg.eta,ne4,no4,soR_eq,soS_eq,So.eta,Bool.not_false,Bool.and_self,if_true,dkR_eq,dkB_eq,Dk.eta,ne_eq,Nat.reduceEqDiff,Nat.zero_ne_one,not_false_eq_true,hgj,strC_eq,hw,wo,writeNT_p,writeT_p,hd2,dkM,hkd,errA_nil,errA0,errA_ren,wi,List.length_map,Int.toNat_natCast]); repeat ((with_reducible refine And.intro ?_ ?_); focus (first | rfl | decide | omega | (simp only [List.length_map,List.length_set,and_true]; omega))))
        refine gc_auto [0,1,2,3,4,5] [65,64,63,1,0] [] ?_
        simp only [AH.SD,AH.SE,AOp.call?,AOp.next?,bstep,AV.cells,unAV,binAV,retQ,retV,AH.sliceElems,AH.bytesOf,AH.strOp,AH.bound,AH.missQ,AH.minmaxAV,AH.readOf,AH.effOf,simprocAttr,AH.SP,AH.PD,AV.inB,vstep]
        exact done
      · rw [hkd,if_neg (by decide)] at hy
        have e4 : areaZ d i o B = wrD d2 ((o + j : Nat) : Int) B[j]:=by rw [ew,← hy]
        iterate 3 ((try simp only [AH.SD,AH.SE,AOp.call?,AOp.next?,bstep,AV.cells,unAV,binAV,retQ,retV,AH.sliceElems,AH.bytesOf,AH.strOp,AH.bound,AH.missQ,AH.minmaxAV,AH.readOf,AH.effOf,simprocAttr,AH.SP,AH.PD,AV.inB,vstep,vw,shift,newOnes,rowsM,blkIn,rwB,@flat_lts,AV.lt,AV.lts,Nat.sub_self,AH.SO,lgR_eq,lgU_eq,Lg.eta,ne4,no4,soR_eq,soS_eq,So.eta,Bool.not_false,Bool.and_self,if_true,dkR_eq,dkB_eq,Dk.eta,ne_eq,Nat.reduceEqDiff,Nat.zero_ne_one,not_false_eq_true,hgj,strC_eq,hw,wo,writeNT_p,writeT_p,hd2,dkM,hkd,errA_nil,errA14,errA_ren,wi,List.length_map,Int.toNat_natCast]); repeat ((with_reducible refine And.intro ?_ ?_); focus (first | rfl | decide | omega | (simp only [List.length_map,List.length_set,and_true]; omega))))
        refine ⟨[0,1,2,3,4,5],[],?_⟩
        simp only [AH.SD,AH.SE,AOp.call?,AOp.next?,bstep,AV.cells,unAV,binAV,retQ,retV,AH.sliceElems,AH.bytesOf,AH.strOp,AH.bound,AH.missQ,AH.minmaxAV,AH.readOf,AH.effOf,simprocAttr,AH.SP,AH.PD,AV.inB,vstep,e4,hkd,kpM,soM,errA14,List.cons_append,List.nil_append]
        try simp
    · have hjz : j = B.length:=by
        have:=ge_of_dec hlt
        omega
      subst hjz
      rw [List.drop_eq_nil_of_le (Nat.le_refl _),layD] at hy
      have e4 : areaZ d i o B = (0,d2):=by rw [ew,← hy]
      simp only [AH.SD,AH.SE,AOp.call?,AOp.next?,bstep,AV.cells,unAV,binAV,retQ,retV,AH.sliceElems,AH.bytesOf,AH.strOp,AH.bound,AH.missQ,AH.minmaxAV,AH.readOf,AH.effOf,simprocAttr,AH.SP,AH.PD,AV.inB,vstep,vw,shift,newOnes,rowsM,blkIn,rwB,@flat_lts,AV.lt,AV.lts,Nat.sub_self,AH.SO]
      refine ⟨[0,1,2,3,4,5],[],?_⟩
      simp only [AH.SD,AH.SE,AOp.call?,AOp.next?,bstep,AV.cells,unAV,binAV,retQ,retV,AH.sliceElems,AH.bytesOf,AH.strOp,AH.bound,AH.missQ,AH.minmaxAV,AH.readOf,AH.effOf,simprocAttr,AH.SP,AH.PD,AV.inB,vstep,e4,kpM,soM,errA0,List.cons_append,List.nil_append]
      try simp
end Go.Proofs.YthapdikdeoeplaaGreatDoor.Z7
end
section
set_option linter.unusedVariables false
set_option linter.unnecessarySimpa false
open Go AH
set_option linter.unusedSimpArgs false
set_option maxRecDepth 100000
namespace Go.Proofs.YthapdikdeoeplaaGreatDoor.Z7
def keepY (x : So) (s : ByteArray) : Nat × Dk:=areaZ x.g.d x.z.toNat (if x.a = 0 then x.z.toNat else 0) (blkL (x.seq + 1) s (sizeN s.size))
def keepR (x : So) (s : ByteArray) : Nat × Lg:=rstL { x.g with d:=(keepY x s).2 } (x.seq + 1)
def keepZ (x : So) (s : ByteArray) : Nat × So :=
  if (sizeN s.size : Int) > x.z ∨ x.seq ≥ 1073741824 then (1,x) else
  if x.down = true then (14,x) else
  if (keepY x s).1 ≠ 0 then ((keepY x s).1,{ x with g:={ x.g with d:=(keepY x s).2 },down:=true }) else
  if (keepR x s).1 ≠ 0 then ((keepR x s).1,{ x with g:=(keepR x s).2,down:=true }) else
  (0,{ x with g:=(keepR x s).2,s:=s,b:=x.seq + 1,a:=if x.a = 0 then 1 else 0 })
def keepM (x : So) (s : ByteArray) : Mem:=if (keepZ x s).1 = 0 then soM2 (some (.row false 1 (x.g.R.map strC))) (keepZ x s).2 else soM (keepZ x s).2
theorem area_kind {d : Dk} {Z o : Nat} {B : List ByteArray} (h : o + Z ≤ d.L.length) (hd : d.ok) (hB : ∀ s ∈ B,s.size = 64) (hBl : B.length ≤ Z) : ((areaZ d Z o B).1 = 0 ∨ (areaZ d Z o B).1 = 14) ∧ (areaZ d Z o B).2.ok ∧ (areaZ d Z o B).2.L.length = d.L.length:=by
  obtain ⟨w1,w2⟩:=wipe_ok Z o hd
  unfold areaZ
  split
  · obtain ⟨l1,l2⟩:=lay_ok B o w1
    exact ⟨lay_kind B o (by omega) hB,l1,l2.trans w2⟩
  · exact ⟨wipe_kind Z o h,w1,w2⟩
theorem rst_kind {l : Lg} (h : l.ok) {b : Int} (hb : isBase b) : (rstL l b).1 = 0 ∨ (rstL l b).1 = 14:=by
  unfold rstL
  rw [if_neg (by simpa using hb)]
  split
  · exact .inr rfl
  · split
    · exact .inl rfl
    · exact wipe_kind (l.t - l.f).toNat l.f.toNat (by have:=h.2.2.2.2.2.1; have:=h.2.2.1; have:=h.2.2.2.1; have:=h.2.2.2.2.1; omega)
noncomputable abbrev tKp : List (FuncId × RT):=[(50,sizeT),(38,seqT),(19,rsN)]
noncomputable abbrev eKp : List (FuncId × ET):=[(51,bksT),(19,rsT),(58,slostT)]
theorem okKp : CtxOK S0 (ctxE S0 tKp [] eKp):=ctxE_ok ⟨sizeT_ok,seqT_ok,rsN_ok,trivial⟩ trivial ⟨bksT_ok,rsT_ok,slostT_ok,trivial⟩ mixed
set_option maxHeartbeats 16000000 in
theorem keep_ok (x : So) (hx : x.ok) (s : ByteArray) (hs : okSz s) : CallA1 S0 27 [.ptr 0 0 0,.str s] (soM x) fun r m =>r = errA (keepZ x s).1 ∧ m = keepM x s:=by
  obtain ⟨hg,z1,z2,hf,ht⟩:=hx
  have hd:=hg.1
  have hL:=hd.2.2.2
  obtain ⟨hb1,hb2⟩:=hg.2.1
  have hR:=hg.2.2.2.2.2.2
  have hat:=hg.2.2.2.2.1
  have hfa:=hg.2.2.2.1
  refine CallA1.fin ?_
  refine fun_sound okKp Tryz.func27 c27 ?_
  unfold wpF F27
  cases c1 : decide ((sizeN s.size : Int) > x.z)
  rotate_left
  · have e : keepZ x s = (1,x):=by unfold keepZ; rw [if_pos (.inl (by simpa using c1))]
    iterate 2 ((try simp only [AH.SD,AH.SE,AOp.call?,AOp.next?,bstep,AV.cells,unAV,binAV,retQ,retV,AH.sliceElems,AH.bytesOf,AH.strOp,AH.bound,AH.missQ,AH.minmaxAV,AH.readOf,AH.effOf,simprocAttr,AH.SP,AH.PD,AV.inB,vstep,vw,shift,newOnes,rowsM,blkIn,rwB,@flat_lts,AV.lt,AV.lts,Nat.sub_self,AH.SO,soM,sizeT_q hs,c1,lgR_eq,lgU_eq,Lg.eta,ne4,no4,soR_eq,soS_eq,So.eta,Bool.not_false,Bool.and_self,if_true,dkR_eq,dkB_eq,Dk.eta,ne_eq,Nat.reduceEqDiff,Nat.zero_ne_one,not_false_eq_true,seqT_p,hg]); repeat ((with_reducible refine And.intro ?_ ?_); focus (first | rfl | decide | omega | (simp only [List.length_map,List.length_set,and_true]; omega))))
    refine ⟨[0,1,2,3,4],[],?_⟩
    simp only [AH.SD,AH.SE,AOp.call?,AOp.next?,bstep,AV.cells,unAV,binAV,retQ,retV,AH.sliceElems,AH.bytesOf,AH.strOp,AH.bound,AH.missQ,AH.minmaxAV,AH.readOf,AH.effOf,simprocAttr,AH.SP,AH.PD,AV.inB,vstep,e,keepM,soM,errA1,show ¬ ((1 : Nat) = 0) by decide,if_false]
    try simp
  cases c2 : decide (x.seq ≥ 1073741824)
  rotate_left
  · have e : keepZ x s = (1,x):=by unfold keepZ; rw [if_pos (.inr (by simpa using c2))]
    iterate 2 ((try simp only [AH.SD,AH.SE,AOp.call?,AOp.next?,bstep,AV.cells,unAV,binAV,retQ,retV,AH.sliceElems,AH.bytesOf,AH.strOp,AH.bound,AH.missQ,AH.minmaxAV,AH.readOf,AH.effOf,simprocAttr,AH.SP,AH.PD,AV.inB,vstep,vw,shift,newOnes,rowsM,blkIn,rwB,@flat_lts,AV.lt,AV.lts,Nat.sub_self,AH.SO,soM,sizeT_q hs,c1,c2,lgR_eq,lgU_eq,Lg.eta,ne4,no4,soR_eq,soS_eq,So.eta,Bool.not_false,Bool.and_self,if_true,dkR_eq,dkB_eq,Dk.eta,ne_eq,Nat.reduceEqDiff,Nat.zero_ne_one,not_false_eq_true,seqT_p,hg]); repeat ((with_reducible refine And.intro ?_ ?_); focus (first | rfl | decide | omega | (simp only [List.length_map,List.length_set,and_true]; omega))))
    refine ⟨[0,1,2,3,4],[],?_⟩
    simp only [AH.SD,AH.SE,AOp.call?,AOp.next?,bstep,AV.cells,unAV,binAV,retQ,retV,AH.sliceElems,AH.bytesOf,AH.strOp,AH.bound,AH.missQ,AH.minmaxAV,AH.readOf,AH.effOf,simprocAttr,AH.SP,AH.PD,AV.inB,vstep,e,keepM,soM,errA1,show ¬ ((1 : Nat) = 0) by decide,if_false]
    try simp
  have h12 : ¬ ((sizeN s.size : Int) > x.z ∨ x.seq ≥ 1073741824):=by
    simp only [decide_eq_false_iff_not] at c1 c2
    exact fun q =>q.elim c1 c2
  have hn : (sizeN s.size : Int) ≤ x.z:=by simp only [decide_eq_false_iff_not] at c1; omega
  have hq : x.seq < 1073741824:=by simp only [decide_eq_false_iff_not] at c2; omega
  have hq0 : 0 ≤ x.seq:=by unfold So.seq; omega
  have hs6 : s.size ≤ 6000:=by unfold sizeN at hn; omega
  have hbl : okBl (x.seq + 1,s,()):=⟨by show 1 ≤ x.seq + 1; omega,by show x.seq + 1 ≤ 2147483647; omega,hs6⟩
  have hib : isBase (x.seq + 1):=⟨by omega,by omega⟩
  have wq : IntKind.i64.wrap (x.seq + 1) = x.seq + 1:=by rw [IntKind.wrap_i64]; omega
  obtain ⟨Z,hZ⟩:=Int.eq_ofNat_of_zero_le (show 0 ≤ x.z by omega)
  have hBl:=blkL_len (x.seq + 1) s (sizeN s.size)
  have hBz:=blkL_sz (q:=x.seq + 1) (s:=s) (n:=sizeN s.size) (Nat.le_refl _)
  obtain ⟨g,z,st,b,a,down⟩:=x
  simp only at hd hL hb1 hb2 hR hat hfa hf ht z1 z2 hn hZ hg
  subst hZ
  cases down
  rotate_left
  · have e : keepZ ⟨g,Z,st,b,a,true⟩ s = (14,⟨g,Z,st,b,a,true⟩):=by unfold keepZ; rw [if_neg h12,if_pos rfl]
    iterate 2 ((try simp only [AH.SD,AH.SE,AOp.call?,AOp.next?,bstep,AV.cells,unAV,binAV,retQ,retV,AH.sliceElems,AH.bytesOf,AH.strOp,AH.bound,AH.missQ,AH.minmaxAV,AH.readOf,AH.effOf,simprocAttr,AH.SP,AH.PD,AV.inB,vstep,vw,shift,newOnes,rowsM,blkIn,rwB,@flat_lts,AV.lt,AV.lts,Nat.sub_self,AH.SO,soM,sizeT_q hs,c1,c2,lgR_eq,lgU_eq,Lg.eta,ne4,no4,soR_eq,soS_eq,So.eta,Bool.not_false,Bool.and_self,if_true,dkR_eq,dkB_eq,Dk.eta,ne_eq,Nat.reduceEqDiff,Nat.zero_ne_one,not_false_eq_true,seqT_p,hg]); repeat ((with_reducible refine And.intro ?_ ?_); focus (first | rfl | decide | omega | (simp only [List.length_map,List.length_set,and_true]; omega))))
    refine ⟨[0,1,2,3,4],[],?_⟩
    simp only [AH.SD,AH.SE,AOp.call?,AOp.next?,bstep,AV.cells,unAV,binAV,retQ,retV,AH.sliceElems,AH.bytesOf,AH.strOp,AH.bound,AH.missQ,AH.minmaxAV,AH.readOf,AH.effOf,simprocAttr,AH.SP,AH.PD,AV.inB,vstep,e,keepM,soM,errA14,show ¬ ((14 : Nat) = 0) by decide,if_false]
    try simp
  have e0 : keepZ ⟨g,Z,st,b,a,false⟩ s = if (keepY ⟨g,Z,st,b,a,false⟩ s).1 ≠ 0 then ((keepY ⟨g,Z,st,b,a,false⟩ s).1,⟨{ g with d:=(keepY ⟨g,Z,st,b,a,false⟩ s).2 },Z,st,b,a,true⟩) else
      if (keepR ⟨g,Z,st,b,a,false⟩ s).1 ≠ 0 then ((keepR ⟨g,Z,st,b,a,false⟩ s).1,⟨(keepR ⟨g,Z,st,b,a,false⟩ s).2,Z,st,b,a,true⟩) else
      (0,⟨(keepR ⟨g,Z,st,b,a,false⟩ s).2,Z,s,So.seq ⟨g,Z,st,b,a,false⟩ + 1,if a = 0 then 1 else 0,false⟩):=by
    unfold keepZ; rw [if_neg h12,if_neg (by simp)]
  have eY : keepY ⟨g,Z,st,b,a,false⟩ s = areaZ g.d Z (if a = 0 then Z else 0) (blkL (So.seq ⟨g,Z,st,b,a,false⟩ + 1) s (sizeN s.size)):=by unfold keepY; simp only [Int.toNat_natCast]
  have eR : keepR ⟨g,Z,st,b,a,false⟩ s = rstL { g with d:=(keepY ⟨g,Z,st,b,a,false⟩ s).2 } (So.seq ⟨g,Z,st,b,a,false⟩ + 1):=rfl
  have hsz:=fun M =>sizeT_q (M:=M) hs
  have hbk : ∀ (M : Nat → Option Blk) (n : Nat),bksT [.int .i64 (So.seq ⟨g,Z,st,b,a,false⟩ + 1),.str s] M n = useO [] n (some (.tup [.slc 0 0 (sizeN s.size) none,.nili],[some (.row false 1 ((blkL (So.seq ⟨g,Z,st,b,a,false⟩ + 1) s (sizeN s.size)).map strC))])):=fun M n =>by rw [bksT_p,if_pos hbl]
  have hsq : ∀ (M : Nat → Option Blk),(if g.ok then some (AV.int .i64 (So.seq ⟨g,Z,st,b,a,false⟩)) else none) = some (AV.int .i64 (So.seq ⟨g,Z,st,b,a,false⟩)):=fun M =>if_pos hg
  generalize hqq : So.seq ⟨g,Z,st,b,a,false⟩ = q at *
  generalize hBB : blkL (q + 1) s (sizeN s.size) = B at *
  generalize sizeN s.size = N at *
  subst hBl
  clear h12 hBB hbl hsq
  obtain ⟨o,tw,h0w,htw,hoZ,hae⟩ : ∃ (o : Nat) (tw : Int),IntKind.i64.wrap (tw * (Z : Int)) = (o : Int) ∧ (if a = 0 then (1 : Int) else 0) = tw ∧ (if a = 0 then Z else 0) = o ∧ o + Z ≤ g.d.L.length:=by
    by_cases ha : a = 0
    · exact ⟨Z,1,by rw [IntKind.wrap_i64]; omega,by rw [if_pos ha],by rw [if_pos ha],by omega⟩
    · exact ⟨0,0,by rw [IntKind.wrap_i64]; omega,by rw [if_neg ha],by rw [if_neg ha],by omega⟩
  rw [hoZ] at eY
  rw [htw] at e0
  obtain ⟨ky,yok,yl⟩:=area_kind (d:=g.d) (Z:=Z) (o:=o) (B:=B) hae hd hBz (by omega)
  have step : ∀ (K : AV → Mem → Prop),K (errA (areaZ g.d Z o B).1) (kpM ⟨g,Z,st,b,a,false⟩ (areaZ g.d Z o B).2 B) → CallA1 S0 57 [.ptr 0 0 0,.int .i64 tw,.slc 5 0 B.length none] (soM ⟨g,Z,st,b,a,false⟩ ++ [some (.row false 1 (B.map strC))]) K:=fun K hK =>
    (lay_walk ⟨g,Z,st,b,a,false⟩ hd tw Z o B rfl h0w hBz (by omega) hae).mono fun r m ⟨h1,h2⟩ =>by rw [h1,h2]; exact hK
  cases ha : (a == 0)
  all_goals
    have htw' : tw = (bif a == 0 then 1 else 0):=by
      rw [← htw,ha]
      first
        | (have : a = 0:=by simpa using ha
           rw [if_pos this]; rfl)
        | (have : a ≠ 0:=by simpa using ha
           rw [if_neg this]; rfl)
    rw [ha] at htw'
    simp only [cond_true,cond_false] at htw'
    rw [htw'] at step
    iterate 2 ((try simp only [AH.SD,AH.SE,AOp.call?,AOp.next?,bstep,AV.cells,unAV,binAV,retQ,retV,AH.sliceElems,AH.bytesOf,AH.strOp,AH.bound,AH.missQ,AH.minmaxAV,AH.readOf,AH.effOf,simprocAttr,AH.SP,AH.PD,AV.inB,vstep,vw,shift,newOnes,rowsM,blkIn,rwB,@flat_lts,AV.lt,AV.lts,Nat.sub_self,AH.SO,soM,hsz,c1,c2,lgR_eq,lgU_eq,Lg.eta,ne4,no4,soR_eq,soS_eq,So.eta,Bool.not_false,Bool.and_self,if_true,dkR_eq,dkB_eq,Dk.eta,ne_eq,Nat.reduceEqDiff,Nat.zero_ne_one,not_false_eq_true,seqT_p,hg,hqq,wq,hbk,errA_nil,ha,List.cons_append,List.nil_append]); repeat ((with_reducible refine And.intro ?_ ?_); focus (first | rfl | decide | omega | (simp only [List.length_map,List.length_set,and_true]; omega))))
    refine step _ ?_
    clear step
    rcases ky with ky | ky
    rotate_left
    · have e : keepZ ⟨g,Z,st,b,a,false⟩ s = (14,⟨⟨(areaZ g.d Z o B).2,g.f,g.t,g.b,g.a,g.R,g.down⟩,Z,st,b,a,true⟩):=by
        rw [e0,eY,if_pos (by rw [ky]; decide),ky]
      generalize areaZ g.d Z o B = Y at *
      iterate 2 ((try simp only [AH.SD,AH.SE,AOp.call?,AOp.next?,bstep,AV.cells,unAV,binAV,retQ,retV,AH.sliceElems,AH.bytesOf,AH.strOp,AH.bound,AH.missQ,AH.minmaxAV,AH.readOf,AH.effOf,simprocAttr,AH.SP,AH.PD,AV.inB,vstep,vw,shift,newOnes,rowsM,blkIn,rwB,@flat_lts,AV.lt,AV.lts,Nat.sub_self,AH.SO,kpM,soM,lgR_eq,lgU_eq,Lg.eta,ne4,no4,soR_eq,soS_eq,So.eta,Bool.not_false,Bool.and_self,if_true,dkR_eq,dkB_eq,Dk.eta,ne_eq,Nat.reduceEqDiff,Nat.zero_ne_one,not_false_eq_true,ky,errA14,errA_nil,slostT_d,lostZ,Bool.false_or,List.cons_append,List.nil_append]); repeat ((with_reducible refine And.intro ?_ ?_); focus (first | rfl | decide | omega | (simp only [List.length_map,List.length_set,and_true]; omega))))
      refine ⟨[0,1,2,3,4],[],?_⟩
      simp only [AH.SD,AH.SE,AOp.call?,AOp.next?,bstep,AV.cells,unAV,binAV,retQ,retV,AH.sliceElems,AH.bytesOf,AH.strOp,AH.bound,AH.missQ,AH.minmaxAV,AH.readOf,AH.effOf,simprocAttr,AH.SP,AH.PD,AV.inB,vstep,e,keepM,soM,errA14,show ¬ ((14 : Nat) = 0) by decide,if_false,beq_self_eq_true,List.cons_append,List.nil_append]
      try simp
    · have hok2 : (⟨(areaZ g.d Z o B).2,g.f,g.t,g.b,g.a,g.R,g.down⟩ : Lg).ok:=⟨yok,hg.2.1,hg.2.2.1,hg.2.2.2.1,hg.2.2.2.2.1,by simp only [yl]; exact hg.2.2.2.2.2.1,hg.2.2.2.2.2.2⟩
      have hrk:=rst_kind hok2 hib
      have eR' : keepR ⟨g,Z,st,b,a,false⟩ s = rstL ⟨(areaZ g.d Z o B).2,g.f,g.t,g.b,g.a,g.R,g.down⟩ (q + 1):=by rw [eR,eY]
      have e1 : keepZ ⟨g,Z,st,b,a,false⟩ s = if (rstL ⟨(areaZ g.d Z o B).2,g.f,g.t,g.b,g.a,g.R,g.down⟩ (q + 1)).1 ≠ 0 then ((rstL ⟨(areaZ g.d Z o B).2,g.f,g.t,g.b,g.a,g.R,g.down⟩ (q + 1)).1,⟨(rstL ⟨(areaZ g.d Z o B).2,g.f,g.t,g.b,g.a,g.R,g.down⟩ (q + 1)).2,Z,st,b,a,true⟩) else
          (0,⟨(rstL ⟨(areaZ g.d Z o B).2,g.f,g.t,g.b,g.a,g.R,g.down⟩ (q + 1)).2,Z,s,q + 1,tw,false⟩):=by
        rw [e0,if_neg (by rw [eY,ky]; simp),eR']
      clear e0 eR eR' eY
      generalize areaZ g.d Z o B = Y at *
      generalize hRR : rstL ⟨Y.2,g.f,g.t,g.b,g.a,g.R,g.down⟩ (q + 1) = RR at *
      rcases hrk with hrk | hrk
      · rw [if_neg (by rw [hrk]; simp)] at e1
        iterate 2 ((try simp only [AH.SD,AH.SE,AOp.call?,AOp.next?,bstep,AV.cells,unAV,binAV,retQ,retV,AH.sliceElems,AH.bytesOf,AH.strOp,AH.bound,AH.missQ,AH.minmaxAV,AH.readOf,AH.effOf,simprocAttr,AH.SP,AH.PD,AV.inB,vstep,vw,shift,newOnes,rowsM,blkIn,rwB,@flat_lts,AV.lt,AV.lts,Nat.sub_self,AH.SO,kpM,soM,lgR_eq,lgU_eq,Lg.eta,ne4,no4,soR_eq,soS_eq,So.eta,Bool.not_false,Bool.and_self,if_true,dkR_eq,dkB_eq,Dk.eta,ne_eq,Nat.reduceEqDiff,Nat.zero_ne_one,not_false_eq_true,ky,errA0,errA_nil,rsN_p,rsT_p,hok2,hRR,rsM,hrk,lgM2,errA_ren,List.cons_append,List.nil_append]); repeat ((with_reducible refine And.intro ?_ ?_); focus (first | rfl | decide | omega | (simp only [List.length_map,List.length_set,and_true]; omega))))
        refine ⟨[0,1,2,3,4,6],[],?_⟩
        simp only [AH.SD,AH.SE,AOp.call?,AOp.next?,bstep,AV.cells,unAV,binAV,retQ,retV,AH.sliceElems,AH.bytesOf,AH.strOp,AH.bound,AH.missQ,AH.minmaxAV,AH.readOf,AH.effOf,simprocAttr,AH.SP,AH.PD,AV.inB,vstep,e1,htw',keepM,soM2,errA0,List.cons_append,List.nil_append]
        try simp
      · rw [if_pos (by rw [hrk]; simp)] at e1
        iterate 2 ((try simp only [AH.SD,AH.SE,AOp.call?,AOp.next?,bstep,AV.cells,unAV,binAV,retQ,retV,AH.sliceElems,AH.bytesOf,AH.strOp,AH.bound,AH.missQ,AH.minmaxAV,AH.readOf,AH.effOf,simprocAttr,AH.SP,AH.PD,AV.inB,vstep,vw,shift,newOnes,rowsM,blkIn,rwB,@flat_lts,AV.lt,AV.lts,Nat.sub_self,AH.SO,kpM,soM,lgR_eq,lgU_eq,Lg.eta,ne4,no4,soR_eq,soS_eq,So.eta,Bool.not_false,Bool.and_self,if_true,dkR_eq,dkB_eq,Dk.eta,ne_eq,Nat.reduceEqDiff,Nat.zero_ne_one,not_false_eq_true,ky,errA0,errA_nil,rsN_p,rsT_p,hok2,hRR,rsM,hrk,show ¬ ((14 : Nat) = 0) by decide,if_false,lgM,errA_ren,errA14,slostT_d,lostZ,Bool.false_or,List.cons_append,List.nil_append]); repeat ((with_reducible refine And.intro ?_ ?_); focus (first | rfl | decide | omega | (simp only [List.length_map,List.length_set,and_true]; omega))))
        refine ⟨[0,1,2,3,4],[],?_⟩
        simp only [AH.SD,AH.SE,AOp.call?,AOp.next?,bstep,AV.cells,unAV,binAV,retQ,retV,AH.sliceElems,AH.bytesOf,AH.strOp,AH.bound,AH.missQ,AH.minmaxAV,AH.readOf,AH.effOf,simprocAttr,AH.SP,AH.PD,AV.inB,vstep,e1,hrk,keepM,soM,errA14,show ¬ ((14 : Nat) = 0) by decide,if_false,beq_self_eq_true,List.cons_append,List.nil_append]
        try simp
theorem keepM_len (x : So) (s : ByteArray) : 5 ≤ (keepM x s).length ∧ ((keepM x s).drop 5).all rwB = true:=by
  unfold keepM
  split
  · exact ⟨by simp [soM2],rfl⟩
  · exact ⟨by simp [soM],rfl⟩
def keepT : ET:=etO soO (cC aS c0) fun x y =>if x.ok ∧ okSz y.1 then some (errA (keepZ x y.1).1,keepM x y.1) else none
theorem keepT_ok : EffF S0 27 keepT:=etO_ok fun x y v m' h =>by
  split at h
  · rename_i hl
    simp only [Option.some.injEq,Prod.mk.injEq] at h
    obtain ⟨rfl,rfl⟩:=h
    exact ⟨keepM_len x y.1,keep_ok x hl.1 y.1 hl.2⟩
  · cases h
theorem keepT_p {p n : Nat} {s : ByteArray} {M : Nat → Option Blk} : keepT [.ptr p 0 0,.str s] M n = etO2 n (fun (x : So) (y : ByteArray × Unit) =>if x.ok ∧ okSz y.1 then some (errA (keepZ x y.1).1,keepM x y.1) else none) (soR M p (M p)) (some (s,())):=by
  simp only [keepT,etO_eq,cC_dec,aS_dec,c0_dec,pairO_some,soO_dec]
end Go.Proofs.YthapdikdeoeplaaGreatDoor.Z7
end
section
set_option linter.unusedVariables false
set_option linter.unnecessarySimpa false
open Go AH
set_option linter.unusedSimpArgs false
set_option maxRecDepth 100000
namespace Go.Proofs.YthapdikdeoeplaaGreatDoor.Z7
def dOn (L : List ByteArray) (w : Int) : Dk:=⟨L,false,-1,0,w⟩
theorem dOn_ok {L : List ByteArray} {w : Int} (h : ∀ s ∈ L,s.size = 64) (hl : L.length ≤ 4096) : (dOn L w).ok:=⟨h,Int.le_refl 0,by show (0 : Int) ≤ 64; decide,hl⟩
theorem set_mid {α : Type} (P S : List α) (o s : α) : (P ++ o :: S).set P.length s = P ++ s :: S:=by
  rw [List.set_append_right _ _ (Nat.le_refl _),Nat.sub_self,List.set_cons_zero]
theorem wr_on {P S : List ByteArray} {o s : ByteArray} {w : Int} (hs : s.size = 64) : ∃ w',wrD (dOn (P ++ o :: S) w) ((P.length : Nat) : Int) s = (0,dOn (P ++ s :: S) w'):=by
  have hi : P.length < (dOn (P ++ o :: S) w).L.length:=by show P.length < (P ++ o :: S).length; simp
  rw [wrD_at hi hs]
  refine ⟨IntKind.i64.wrap (w + 1),?_⟩
  rw [if_neg (by simp [dOn]),if_neg (by simp [dOn])]
  simp only [dOn,set_mid,maxI,show IntKind.i64.wrap ((-1 : Int) - 1) = -2 by decide,show ((-1 : Int) > -2) = True by simp,if_true]
theorem lay_on : ∀ (B : List ByteArray) (P O S : List ByteArray) (w : Int),O.length = B.length → (∀ s ∈ B,s.size = 64) → ∃ w',layD (dOn (P ++ (O ++ S)) w) P.length B = (0,dOn (P ++ (B ++ S)) w')
  | [],P,O,S,w,h,_ =>by
    have : O = []:=List.eq_nil_of_length_eq_zero h
    subst this
    exact ⟨w,rfl⟩
  | s :: r,P,O,S,w,h,hs =>by
    cases O with
    | nil =>simp at h
    | cons o O =>
      obtain ⟨w1,h1⟩:=wr_on (P:=P) (S:=O ++ S) (o:=o) (s:=s) (w:=w) (hs s (List.mem_cons_self ..))
      obtain ⟨w2,h2⟩:=lay_on r (P ++ [s]) O S w1 (by simpa using h) fun x hx =>hs x (List.mem_cons_of_mem _ hx)
      refine ⟨w2,?_⟩
      rw [List.cons_append,layD,h1,if_pos rfl]
      simp only [List.append_assoc,List.singleton_append,List.length_append,List.length_cons,List.length_nil,Nat.zero_add] at h2
      exact h2
theorem getD_mid {α : Type} (P S : List α) (o d : α) : (P ++ o :: S).getD P.length d = o:=by
  rw [List.getD_eq_getElem?_getD,List.getElem?_append_right (Nat.le_refl _),Nat.sub_self]; rfl
theorem wipe_on : ∀ (k : Nat) (P O S : List ByteArray) (w : Int),O.length = k → ∃ w',wipeD (dOn (P ++ (O ++ S)) w) k P.length = (0,dOn (P ++ (List.replicate k zeB ++ S)) w')
  | 0,P,O,S,w,h =>by
    have : O = []:=List.eq_nil_of_length_eq_zero h
    subst this
    exact ⟨w,rfl⟩
  | k + 1,P,O,S,w,h =>by
    cases O with
    | nil =>simp at h
    | cons o O =>
      have hO : O.length = k:=by simpa using h
      rw [wipeD,if_neg (by simp [dOn])]
      have e : (dOn (P ++ (o :: O ++ S)) w).L.getD P.length ⟨#[]⟩ = o:=getD_mid P (O ++ S) o _
      rw [e]
      by_cases hz : o = zeB
      · obtain ⟨w2,h2⟩:=wipe_on k (P ++ [zeB]) O S w hO
        refine ⟨w2,?_⟩
        rw [if_pos hz,hz,List.replicate_succ]
        simp only [List.append_assoc,List.singleton_append,List.length_append,List.length_cons,List.length_nil,Nat.zero_add,List.cons_append] at h2 ⊢
        exact h2
      · obtain ⟨w1,h1⟩:=wr_on (P:=P) (S:=O ++ S) (o:=o) (s:=zeB) (w:=w) zeB_sz
        obtain ⟨w2,h2⟩:=wipe_on k (P ++ [zeB]) O S w1 hO
        refine ⟨w2,?_⟩
        have h1' : wrD (dOn (P ++ (o :: O ++ S)) w) ((P.length : Nat) : Int) zeB = (0,dOn (P ++ zeB :: (O ++ S)) w1):=h1
        rw [if_neg hz,h1',if_pos rfl,List.replicate_succ]
        simp only [List.append_assoc,List.singleton_append,List.length_append,List.length_cons,List.length_nil,Nat.zero_add,List.cons_append] at h2 ⊢
        exact h2
def lgL (A B C : List ByteArray) (n : Nat) : List ByteArray:=A ++ (B ++ (List.replicate (n - B.length) zeB ++ C))
theorem lgL_len {A B C : List ByteArray} {n : Nat} (h : B.length ≤ n) : (lgL A B C n).length = A.length + n + C.length:=by
  simp [lgL]; omega
theorem lgL_sz {A B C : List ByteArray} {n : Nat} (hA : ∀ s ∈ A,s.size = 64) (hB : ∀ s ∈ B,s.size = 64) (hC : ∀ s ∈ C,s.size = 64) : ∀ s ∈ lgL A B C n,s.size = 64:=by
  intro s hs
  simp only [lgL,List.mem_append,List.mem_replicate] at hs
  rcases hs with h | h | ⟨_,rfl⟩ | h
  · exact hA s h
  · exact hB s h
  · exact zeB_sz
  · exact hC s h
theorem add_on {A B C : List ByteArray} {n : Nat} {w b : Int} {W : List ByteArray} {s : ByteArray} (hs : s.size ≤ 6000) (hr : B.length + sizeN s.size ≤ n) (hn : b + (W.length : Int) + 1 < 1073741824) :
    ∃ w',addL ⟨dOn (lgL A B C n) w,A.length,((A.length + n : Nat) : Int),b,((A.length + B.length : Nat) : Int),W,false⟩ s =
      (0,⟨dOn (lgL A (B ++ blkL (b + (W.length : Int) + 1) s (sizeN s.size)) C n) w',A.length,((A.length + n : Nat) : Int),b,((A.length + (B.length + sizeN s.size) : Nat) : Int),W ++ [s],false⟩):=by
  have hbl:=blkL_len (b + (W.length : Int) + 1) s (sizeN s.size)
  obtain ⟨w',h⟩:=lay_on (blkL (b + (W.length : Int) + 1) s (sizeN s.size)) (A ++ B) (List.replicate (sizeN s.size) zeB) (List.replicate (n - B.length - sizeN s.size) zeB ++ C) w (by rw [List.length_replicate,hbl]) (blkL_sz (Nat.le_refl _))
  have e1 : lgL A B C n = (A ++ B) ++ (List.replicate (sizeN s.size) zeB ++ (List.replicate (n - B.length - sizeN s.size) zeB ++ C)):=by
    rw [lgL,← List.append_assoc (List.replicate _ _) (List.replicate _ _) C,List.replicate_append_replicate,List.append_assoc]
    congr 4; omega
  have e2 : lgL A (B ++ blkL (b + (W.length : Int) + 1) s (sizeN s.size)) C n = (A ++ B) ++ (blkL (b + (W.length : Int) + 1) s (sizeN s.size) ++ (List.replicate (n - B.length - sizeN s.size) zeB ++ C)):=by
    rw [lgL,List.length_append,hbl,Nat.sub_sub]
    simp only [List.append_assoc]
  refine ⟨w',?_⟩
  unfold addL
  rw [if_neg (by omega),if_neg (by
    rintro (q | q)
    · have : (Lg.room ⟨dOn (lgL A B C n) w,A.length,((A.length + n : Nat) : Int),b,((A.length + B.length : Nat) : Int),W,false⟩) = ((A.length + n : Nat) : Int) - ((A.length + B.length : Nat) : Int):=rfl
      omega
    · have : (Lg.next ⟨dOn (lgL A B C n) w,A.length,((A.length + n : Nat) : Int),b,((A.length + B.length : Nat) : Int),W,false⟩) = b + (W.length : Int) + 1:=rfl
      omega),if_neg (by simp)]
  have hnx : (Lg.next ⟨dOn (lgL A B C n) w,A.length,((A.length + n : Nat) : Int),b,((A.length + B.length : Nat) : Int),W,false⟩) = b + (W.length : Int) + 1:=rfl
  rw [List.length_append] at h
  simp only [hnx,Int.toNat_natCast]
  rw [e1,h,if_pos rfl,e2]
  simp only [Prod.mk.injEq,true_and]
  congr 1
  omega
theorem rst_on {A B C : List ByteArray} {n : Nat} {w b b' : Int} {W : List ByteArray} (hb : isBase b') (hB : B.length ≤ n) :
    ∃ w',rstL ⟨dOn (lgL A B C n) w,A.length,((A.length + n : Nat) : Int),b,((A.length + B.length : Nat) : Int),W,false⟩ b' =
      (0,⟨dOn (lgL A [] C n) w',A.length,((A.length + n : Nat) : Int),b',A.length,[],false⟩):=by
  obtain ⟨w',h⟩:=wipe_on n A (B ++ List.replicate (n - B.length) zeB) C w (by simp; omega)
  have e1 : lgL A B C n = A ++ (B ++ List.replicate (n - B.length) zeB ++ C):=by rw [lgL,List.append_assoc]
  have e2 : lgL A [] C n = A ++ (List.replicate n zeB ++ C):=by simp [lgL]
  refine ⟨w',?_⟩
  unfold rstL
  rw [if_neg (by simpa using hb),if_neg (by simp)]
  simp only [Int.toNat_natCast,show (((A.length + n : Nat) : Int) - (A.length : Int)).toNat = n by omega]
  rw [e1,h,if_pos rfl,e2]
end Go.Proofs.YthapdikdeoeplaaGreatDoor.Z7
end
section
set_option linter.unusedVariables false
set_option linter.unnecessarySimpa false
open Go AH
set_option linter.unusedSimpArgs false
set_option maxRecDepth 100000
namespace Go.Proofs.YthapdikdeoeplaaGreatDoor.Z7
def frs (q : Int) : List ByteArray → List ByteArray
  | [] => []
  | s :: r =>blkL q s (sizeN s.size) ++ frs (q + 1) r
theorem frs_snoc : ∀ (W : List ByteArray) (q : Int) (s : ByteArray),frs q (W ++ [s]) = frs q W ++ blkL (q + (W.length : Int)) s (sizeN s.size)
  | [],q,s =>by simp [frs]
  | a :: r,q,s =>by
    rw [List.cons_append,frs,frs,frs_snoc r (q + 1) s,List.append_assoc]
    rw [show q + 1 + (r.length : Int) = q + ((a :: r).length : Int) by rw [List.length_cons]; omega]
theorem frs_sz : ∀ (W : List ByteArray) (q : Int),∀ x ∈ frs q W,x.size = 64
  | [],_,_,h =>by cases h
  | a :: r,q,x,h =>by
    rcases List.mem_append.1 h with h | h
    · exact blkL_sz (Nat.le_refl _) x h
    · exact frs_sz r (q + 1) x h
theorem frs_le : ∀ (W : List ByteArray) (q : Int),W.length ≤ (frs q W).length
  | [],_ =>Nat.le_refl _
  | a :: r,q =>by
    have:=frs_le r (q + 1)
    have h1:=sizeN_pos a.size
    rw [frs,List.length_append,blkL_len,List.length_cons]; omega
theorem firS_ze : (firS zeB).2.2 = false:=by decide +kernel
theorem rdZ_no' {l : List ByteArray} (h : (firZ l).2.2 = false) : rdZ l = ⟨⟨#[]⟩,0,0,0⟩:=by rw [rdZ,h]; rfl
theorem rdZ_ze (r : List ByteArray) : (rdZ (zeB :: r)).bad ≠ -1:=by
  have h : (firZ (zeB :: r)).2.2 = false:=firS_ze
  rw [rdZ_no' h]; decide
theorem rdZ_zes (n : Nat) : (rdZ (List.replicate n zeB)).bad ≠ -1:=by
  cases n with
  | zero =>exact rdZ_nil
  | succ n =>rw [List.replicate_succ]; exact rdZ_ze _
theorem logR_stop {k : Nat} {Z : List ByteArray} {q : Int} (h : (rdZ Z).bad ≠ -1) : logR k Z q = ([],0):=by
  cases k with
  | zero =>rfl
  | succ k =>unfold logR; rw [if_neg (fun z =>h z.1)]
theorem logR_frs : ∀ (W : List ByteArray) (q : Int) (k : Nat) (Z : List ByteArray),1 ≤ q → q + (W.length : Int) ≤ 2147483647 → (∀ s ∈ W,s.size ≤ 6000) → W.length ≤ k → (rdZ Z).bad ≠ -1 → logR k (frs q W ++ Z) q = (W,(frs q W).length)
  | [],q,k,Z,_,_,_,_,hZ =>by rw [frs,List.nil_append,logR_stop hZ]; rfl
  | s :: r,q,k,Z,h1,h2,hs,hk,hZ =>by
    obtain ⟨k,rfl⟩ : ∃ k',k = k' + 1:=⟨k - 1,by rw [List.length_cons] at hk; omega⟩
    rw [List.length_cons] at h2 hk
    have hr:=read_back (seq:=q) (d:=s) h1 (by omega) (hs s (List.mem_cons_self ..)) (frs (q + 1) r ++ Z)
    have hd : (blkL q s (sizeN s.size) ++ (frs (q + 1) r ++ Z)).drop (sizeN s.size) = frs (q + 1) r ++ Z:=by
      have:=List.drop_left (l₁:=blkL q s (sizeN s.size)) (l₂:=frs (q + 1) r ++ Z)
      rwa [blkL_len] at this
    have ih:=logR_frs r (q + 1) k Z (by omega) (by omega) (fun x hx =>hs x (List.mem_cons_of_mem _ hx)) (by omega) hZ
    rw [frs,List.append_assoc]
    unfold logR
    rw [hr]
    simp only [and_self,if_true,Int.toNat_natCast,hd,ih,List.length_append,blkL_len]
theorem parts_cut {all : List ByteArray} {F T : Nat} (h : F ≤ T) : all = all.take F ++ ((all.drop F).take (T - F) ++ all.drop T):=by
  have e : all.drop T = (all.drop F).drop (T - F):=by rw [List.drop_drop]; congr 1; omega
  rw [e,List.take_append_drop,List.take_append_drop]
theorem opn_on {all : List ByteArray} {F T : Nat} {b w : Int} (hFT : F < T) (hT : T ≤ all.length) (hb : isBase b) :
    ∃ w',opnZ (dOn all w) F T b = (0,⟨dOn (lgL (all.take F) ((all.drop F).take (logR (T - F) ((all.drop F).take (T - F)) (b + 1)).2) (all.drop T) (T - F)) w',F,T,b,((F + (logR (T - F) ((all.drop F).take (T - F)) (b + 1)).2 : Nat) : Int),(logR (T - F) ((all.drop F).take (T - F)) (b + 1)).1,false⟩):=by
  have hu:=(logR_le (T - F) ((all.drop F).take (T - F)) (b + 1)).1
  rw [List.length_take,List.length_drop] at hu
  generalize hx : logR (T - F) ((all.drop F).take (T - F)) (b + 1) = x at *
  obtain ⟨W,u⟩:=x
  simp only at hu
  have hu' : u ≤ T - F:=by omega
  have e1 : all = (all.take F ++ (all.drop F).take u) ++ ((all.drop (F + u)).take (T - F - u) ++ all.drop T):=by
    have:=parts_cut (all:=all) (F:=F) (T:=F + u) (by omega)
    have h2:=parts_cut (all:=all.drop F) (F:=u) (T:=T - F) hu'
    rw [List.drop_drop,List.drop_drop,show F + (T - F) = T by omega] at h2
    conv =>lhs; rw [← List.take_append_drop F all,h2]
    simp only [List.append_assoc]
  obtain ⟨w',h⟩:=wipe_on (T - F - u) (all.take F ++ (all.drop F).take u) ((all.drop (F + u)).take (T - F - u)) (all.drop T) w (by rw [List.length_take,List.length_drop]; omega)
  rw [← e1] at h
  have hlen : (all.take F ++ (all.drop F).take u).length = F + u:=by rw [List.length_append,List.length_take,List.length_take,List.length_drop]; omega
  rw [hlen] at h
  refine ⟨w',?_⟩
  unfold opnZ
  rw [if_neg (by rintro (q | q | q | q) <;> first | omega | exact q hb | (have : (dOn all w).L.length = all.length:=rfl; omega)),if_neg (by simp [dOn])]
  have e2 : (dOn all w).L = all:=rfl
  simp only [Int.toNat_natCast,show ((T : Int) - (F : Int)).toNat = T - F by omega,e2,hx,show T - (F + u) = T - F - u by omega]
  rw [h]
  simp only [lgL,List.length_take,List.length_drop,show min u (all.length - F) = u by omega,List.append_assoc]
theorem opn_frs {A C : List ByteArray} {n : Nat} {b w : Int} {W : List ByteArray} (hn : 0 < n) (hB : (frs (b + 1) W).length ≤ n) (hb : isBase b) (hW : ∀ s ∈ W,s.size ≤ 6000) (hl : W.length ≤ 4096) :
    ∃ w',opnZ (dOn (lgL A (frs (b + 1) W) C n) w) A.length ((A.length + n : Nat) : Int) b = (0,⟨dOn (lgL A (frs (b + 1) W) C n) w',A.length,((A.length + n : Nat) : Int),b,((A.length + (frs (b + 1) W).length : Nat) : Int),W,false⟩):=by
  obtain ⟨w',h⟩:=opn_on (all:=lgL A (frs (b + 1) W) C n) (F:=A.length) (T:=A.length + n) (b:=b) (w:=w) (by omega) (by rw [lgL_len hB]; omega) hb
  have e1 : (lgL A (frs (b + 1) W) C n).take A.length = A:=by rw [lgL,List.take_left]
  have e2 : (lgL A (frs (b + 1) W) C n).drop A.length = frs (b + 1) W ++ (List.replicate (n - (frs (b + 1) W).length) zeB ++ C):=by rw [lgL,List.drop_left]
  have e3 : (frs (b + 1) W ++ (List.replicate (n - (frs (b + 1) W).length) zeB ++ C)).take n = frs (b + 1) W ++ List.replicate (n - (frs (b + 1) W).length) zeB:=by
    rw [← List.append_assoc]
    exact List.take_left' (by simp; omega)
  have e4 : (lgL A (frs (b + 1) W) C n).drop (A.length + n) = C:=by
    rw [← List.drop_drop,e2,← List.append_assoc]
    exact List.drop_left' (by simp; omega)
  have hr:=logR_frs W (b + 1) n (List.replicate (n - (frs (b + 1) W).length) zeB) (by have:=hb.1; omega) (by have:=hb.2; omega) hW (by have:=frs_le W (b + 1); omega) (rdZ_zes _)
  rw [show A.length + n - A.length = n by omega,e1,e2,e3,e4,hr,List.take_left] at h
  exact ⟨w',h⟩
theorem rep_ex {k i j : Nat} (h : j ≤ k) (hij : i ≤ j) : (repS ⟨#[0]⟩ k).extract i j = repS ⟨#[0]⟩ (j - i):=by
  rw [← repS_list,← repS_list]
  apply ByteArray.ext
  rw [ByteArray.data_extract]
  apply Array.ext'
  simp [List.extract_eq_take_drop]
  omega
theorem newD_rep {n : Nat} (h : n ≤ 4096) : newD n = dOn (List.replicate n zeB) 0:=by
  have hn : newN (n : Int) = n:=by
    unfold newN minI maxI
    split <;> split <;> omega
  have hz : zeros (n : Int) = repS ⟨#[0]⟩ (64 * n):=by
    unfold zeros; rw [hn]; congr 1; omega
  have hs : (zeros (n : Int)).size = 64 * n:=by rw [hz,repS_sz]
  have hb : nb (zeros (n : Int)) = n:=by unfold nb; rw [hs]; omega
  have hL : blks (zeros (n : Int)) n = List.replicate n zeB:=by
    refine List.ext_getElem? fun i => ?_
    rw [blks,List.getElem?_map,List.getElem?_replicate]
    by_cases hi : i < n
    · rw [List.getElem?_range hi,if_pos hi,Option.map_some,hz,rep_ex (by omega) (by omega),show 64 * i + 64 - 64 * i = 64 by omega]; rfl
    · rw [List.getElem?_eq_none (by simpa using hi),if_neg hi]; rfl
  show ofD (zeros (n : Int)) = _
  rw [ofD,hb,hL]; rfl
end Go.Proofs.YthapdikdeoeplaaGreatDoor.Z7
end
section
set_option linter.unusedVariables false
set_option linter.unnecessarySimpa false
open Go AH
set_option linter.unusedSimpArgs false
set_option maxRecDepth 100000
namespace Go.Proofs.YthapdikdeoeplaaGreatDoor.Z7
def aI (P Q : List ByteArray) (s : ByteArray) (b a : Int) : Prop :=
  (a = -1 ∧ s = ⟨#[]⟩ ∧ b = 0 ∧ (rdZ P).bad ≠ -1 ∧ (rdZ Q).bad ≠ -1) ∨
  (a = 0 ∧ (rdZ P).bad = -1 ∧ (rdZ P).t = s ∧ (rdZ P).q = b ∧ ((rdZ Q).bad ≠ -1 ∨ (rdZ Q).q ≤ b)) ∨
  (a = 1 ∧ (rdZ Q).bad = -1 ∧ (rdZ Q).t = s ∧ (rdZ Q).q = b ∧ ((rdZ P).bad ≠ -1 ∨ (rdZ P).q < b))
theorem aI_b {P Q : List ByteArray} {s : ByteArray} {b a : Int} (h : aI P Q s b a) : 0 ≤ b:=by
  rcases h with ⟨_,_,h,_⟩ | ⟨_,h,_,h2,_⟩ | ⟨_,h,_,h2,_⟩
  · omega
  · have:=rdZ_good h; omega
  · have:=rdZ_good h; omega
theorem aI_last {P Q S : List ByteArray} {s : ByteArray} {b a : Int} {Z : Nat} (hP : P.length = Z) (hQ : Q.length = Z) (h : aI P Q s b a) : lastZ (P ++ Q ++ S) Z = ⟨s,b,a⟩:=by
  have e0 : (P ++ Q ++ S).take Z = P:=by rw [List.append_assoc,← hP,List.take_left]
  have e1 : ((P ++ Q ++ S).drop Z).take Z = Q:=by
    rw [List.append_assoc,← hP,List.drop_left,hP,← hQ,List.take_left]
  unfold lastZ
  rw [e0,e1]
  rcases h with ⟨rfl,rfl,rfl,h1,h2⟩ | ⟨rfl,h1,rfl,rfl,h2⟩ | ⟨rfl,h1,rfl,rfl,h2⟩
  · have f0 : stepL ⟨⟨#[]⟩,0,-1⟩ (rdZ P) 0 = ⟨⟨#[]⟩,0,-1⟩:=by unfold stepL; rw [if_neg fun q =>h1 q.1]
    rw [f0]; unfold stepL; rw [if_neg fun q =>h2 q.1]
  · have f0 : stepL ⟨⟨#[]⟩,0,-1⟩ (rdZ P) 0 = ⟨(rdZ P).t,(rdZ P).q,0⟩:=by unfold stepL; rw [if_pos ⟨h1,.inl rfl⟩]
    rw [f0]; unfold stepL
    rw [if_neg fun q =>h2.elim (fun z =>z q.1) fun z =>q.2.elim (fun y =>by simp at y) fun y =>by simp only at y; omega]
  · by_cases g : (rdZ P).bad = -1
    · have f0 : stepL ⟨⟨#[]⟩,0,-1⟩ (rdZ P) 0 = ⟨(rdZ P).t,(rdZ P).q,0⟩:=by unfold stepL; rw [if_pos ⟨g,.inl rfl⟩]
      rw [f0]; unfold stepL
      rw [if_pos ⟨h1,.inr (by simp only; exact h2.resolve_left fun z =>z g)⟩]
    · have f0 : stepL ⟨⟨#[]⟩,0,-1⟩ (rdZ P) 0 = ⟨⟨#[]⟩,0,-1⟩:=by unfold stepL; rw [if_neg fun q =>g q.1]
      rw [f0]; unfold stepL
      rw [if_pos ⟨h1,.inl rfl⟩]
def arL (q : Int) (s : ByteArray) (Z : Nat) : List ByteArray:=blkL q s (sizeN s.size) ++ List.replicate (Z - sizeN s.size) zeB
theorem arL_len {q : Int} {s : ByteArray} {Z : Nat} (h : sizeN s.size ≤ Z) : (arL q s Z).length = Z:=by simp [arL,blkL_len]; omega
theorem arL_sz {q : Int} {s : ByteArray} {Z : Nat} : ∀ x ∈ arL q s Z,x.size = 64:=by
  intro x hx
  simp only [arL,List.mem_append,List.mem_replicate] at hx
  rcases hx with h | ⟨_,rfl⟩
  · exact blkL_sz (Nat.le_refl _) x h
  · exact zeB_sz
theorem arL_rd {q : Int} {s : ByteArray} {Z : Nat} (h1 : 1 ≤ q) (h2 : q ≤ 2147483647) (h3 : s.size ≤ 6000) : rdZ (arL q s Z) = ⟨s,q,(sizeN s.size : Int),-1⟩:=read_back h1 h2 h3 _
theorem area_w {P O S : List ByteArray} {w : Int} {B : List ByteArray} (hB : ∀ s ∈ B,s.size = 64) (hl : B.length ≤ O.length) : ∃ w',areaZ (dOn (P ++ (O ++ S)) w) O.length P.length B = (0,dOn (P ++ ((B ++ List.replicate (O.length - B.length) zeB) ++ S)) w'):=by
  obtain ⟨w1,h1⟩:=wipe_on O.length P O S w rfl
  have e : List.replicate O.length zeB ++ S = List.replicate B.length zeB ++ (List.replicate (O.length - B.length) zeB ++ S):=by
    rw [← List.append_assoc,List.replicate_append_replicate]; congr 2; omega
  obtain ⟨w2,h2⟩:=lay_on B P (List.replicate B.length zeB) (List.replicate (O.length - B.length) zeB ++ S) w1 (by simp) hB
  refine ⟨w2,?_⟩
  unfold areaZ
  rw [h1,if_pos rfl,e,h2,List.append_assoc]
def stD (P Q : List ByteArray) (b : Int) (W : List ByteArray) (n : Nat) (w : Int) : Dk:=dOn (lgL (P ++ Q) (frs (b + 1) W) [] n) w
def stG (P Q : List ByteArray) (b : Int) (W : List ByteArray) (n : Nat) (w : Int) : Lg:=⟨stD P Q b W n w,((P ++ Q).length : Nat),(((P ++ Q).length + n : Nat) : Int),b,(((P ++ Q).length + (frs (b + 1) W).length : Nat) : Int),W,false⟩
def stX (P Q : List ByteArray) (s : ByteArray) (b a : Int) (W : List ByteArray) (n : Nat) (w : Int) : So:=⟨stG P Q b W n w,P.length,s,b,a,false⟩
structure stI (P Q : List ByteArray) (s : ByteArray) (b a : Int) (W : List ByteArray) (n Z : Nat) : Prop where
  p : P.length = Z
  q : Q.length = Z
  z : 1 ≤ Z
  z2 : Z ≤ 100
  n1 : 0 < n
  n2 : n ≤ 3000
  pz : ∀ x ∈ P,x.size = 64
  qz : ∀ x ∈ Q,x.size = 64
  bl : b ≤ 1073741824
  ar : aI P Q s b a
  fl : (frs (b + 1) W).length ≤ n
  wz : ∀ x ∈ W,x.size ≤ 6000
variable {P Q : List ByteArray} {s : ByteArray} {b a : Int} {W : List ByteArray} {n Z : Nat} {w : Int}
theorem stI.base (h : stI P Q s b a W n Z) : isBase b:=⟨aI_b h.ar,h.bl⟩
theorem stI.len (h : stI P Q s b a W n Z) : (P ++ Q).length = 2 * Z:=by rw [List.length_append,h.p,h.q]; omega
theorem stI.dlen (h : stI P Q s b a W n Z) : (lgL (P ++ Q) (frs (b + 1) W) [] n).length = 2 * Z + n:=by rw [lgL_len h.fl,h.len]; simp
theorem stI.dok (h : stI P Q s b a W n Z) : (stD P Q b W n w).ok:=by
  refine dOn_ok (lgL_sz (fun x hx =>(List.mem_append.1 hx).elim (h.pz x) (h.qz x)) (frs_sz W _) fun x hx =>by cases hx) ?_
  rw [h.dlen]; have:=h.z2; have:=h.n2; omega
theorem stI.gok (h : stI P Q s b a W n Z) : (stG P Q b W n w).ok:=by
  have h1:=frs_le W (b + 1)
  have h2:=h.dlen
  have h3:=h.len
  have h4:=h.fl
  refine ⟨h.dok,h.base,?_,?_,?_,?_,?_⟩
  · show (0 : Int) ≤ ((P ++ Q).length : Nat); omega
  · show (((P ++ Q).length : Nat) : Int) ≤ (((P ++ Q).length + (frs (b + 1) W).length : Nat) : Int); omega
  · show (((P ++ Q).length + (frs (b + 1) W).length : Nat) : Int) ≤ (((P ++ Q).length + n : Nat) : Int); omega
  · show (((P ++ Q).length + n : Nat) : Int) ≤ ((lgL (P ++ Q) (frs (b + 1) W) [] n).length : Int); omega
  · show (W.length : Int) ≤ (((P ++ Q).length + (frs (b + 1) W).length : Nat) : Int) - ((P ++ Q).length : Nat); omega
theorem stI.ok (h : stI P Q s b a W n Z) : (stX P Q s b a W n w).ok:=by
  have h2:=h.dlen
  have h3:=h.len
  refine ⟨h.gok,?_,?_,?_,?_⟩
  · show (1 : Int) ≤ (P.length : Int); have:=h.p; have:=h.z; omega
  · show (P.length : Int) ≤ 100; have:=h.p; have:=h.z2; omega
  · show (((P ++ Q).length : Nat) : Int) = 2 * (P.length : Int); have:=h.p; omega
  · show (((P ++ Q).length + n : Nat) : Int) = ((lgL (P ++ Q) (frs (b + 1) W) [] n).length : Int); omega
theorem stI.seq : (stX P Q s b a W n w).seq = b + (W.length : Int):=rfl
theorem stI.open (h : stI P Q s b a W n Z) : ∃ w',sopZ (stD P Q b W n w) Z = (0,stX P Q s b a W n w'):=by
  have hl : (lastZ (lgL (P ++ Q) (frs (b + 1) W) [] n) Z) = ⟨s,b,a⟩:=by
    unfold lgL; exact aI_last h.p h.q h.ar
  obtain ⟨w',ho⟩:=opn_frs (A:=P ++ Q) (C:=[]) (n:=n) (b:=b) (w:=w) (W:=W) h.n1 h.fl h.base h.wz (by have:=frs_le W (b + 1); have:=h.fl; have:=h.n2; omega)
  refine ⟨w',?_⟩
  have hd:=h.dlen
  have hL : (stD P Q b W n w).L = lgL (P ++ Q) (frs (b + 1) W) [] n:=rfl
  have h3:=h.len
  unfold sopZ
  rw [hL,Int.toNat_natCast,hl,hd]
  rw [if_neg (by have:=h.z; have:=h.z2; have:=h.n1; omega),if_neg (by show ¬ (false = true); simp),if_neg (by have:=h.bl; simp only; omega)]
  have e1 : 2 * (Z : Int) = ((P ++ Q).length : Nat):=by omega
  have e2 : ((2 * Z + n : Nat) : Int) = (((P ++ Q).length + n : Nat) : Int):=by omega
  simp only
  rw [e1,e2]
  have ho' : opnZ (stD P Q b W n w) ((P ++ Q).length : Nat) (((P ++ Q).length + n : Nat) : Int) b = (0,stG P Q b W n w'):=ho
  rw [ho']
  unfold stX
  rw [h.p]
theorem stI.add (h : stI P Q s b a W n Z) {r : ByteArray} (hr : r.size ≤ 6000) (hf : (frs (b + 1) W).length + sizeN r.size ≤ n) (hq : b + (W.length : Int) + 1 < 1073741824) : (∃ w',sadZ (stX P Q s b a W n w) r = (0,stX P Q s b a (W ++ [r]) n w') ∧ (addL (stX P Q s b a W n w).g r).1 = 0) ∧ stI P Q s b a (W ++ [r]) n Z:=by
  obtain ⟨w',e⟩:=add_on (A:=P ++ Q) (B:=frs (b + 1) W) (C:=[]) (n:=n) (w:=w) (b:=b) (W:=W) hr hf hq
  have e1 : frs (b + 1) (W ++ [r]) = frs (b + 1) W ++ blkL (b + (W.length : Int) + 1) r (sizeN r.size):=by
    rw [frs_snoc,show b + 1 + (W.length : Int) = b + (W.length : Int) + 1 by omega]
  have e2 : (frs (b + 1) W).length + sizeN r.size = (frs (b + 1) (W ++ [r])).length:=by rw [e1,List.length_append,blkL_len]
  rw [← e1,e2] at e
  have e' : addL (stG P Q b W n w) r = (0,stG P Q b (W ++ [r]) n w'):=e
  refine ⟨⟨w',?_,?_⟩,⟨h.p,h.q,h.z,h.z2,h.n1,h.n2,h.pz,h.qz,h.bl,h.ar,by omega,fun x hx =>(List.mem_append.1 hx).elim (h.wz x) fun q =>by rw [List.mem_singleton.1 q]; exact hr⟩⟩
  · unfold sadZ
    rw [if_neg (by simp [stX])]
    show ((addL (stG P Q b W n w) r).1,(⟨(addL (stG P Q b W n w) r).2,P.length,s,b,a,(addL (stG P Q b W n w) r).1 == 14⟩ : So)) = _
    rw [e']; rfl
  · show (addL (stG P Q b W n w) r).1 = 0
    rw [e']
theorem stI.keep (h : stI P Q s b a W n Z) {r : ByteArray} (hr : sizeN r.size ≤ Z) (hq : b + (W.length : Int) < 1073741824) :
    ∃ P' Q' w',keepZ (stX P Q s b a W n w) r = (0,stX P' Q' r (b + (W.length : Int) + 1) (if a = 0 then 1 else 0) [] n w') ∧ stI P' Q' r (b + (W.length : Int) + 1) (if a = 0 then 1 else 0) [] n Z ∧ ((a = 0 ∧ P' = P ∧ Q' = arL (b + (W.length : Int) + 1) r Z) ∨ (a ≠ 0 ∧ P' = arL (b + (W.length : Int) + 1) r Z ∧ Q' = Q)):=by
  have hb:=h.base
  have hr6 : r.size ≤ 6000:=by unfold sizeN at hr; have:=h.z2; omega
  have hbl:=blkL_len (b + (W.length : Int) + 1) r (sizeN r.size)
  have hbz:=blkL_sz (q:=b + (W.length : Int) + 1) (s:=r) (n:=sizeN r.size) (Nat.le_refl _)
  have hib : isBase (b + (W.length : Int) + 1):=⟨by have:=hb.1; omega,by omega⟩
  have hseq : (stX P Q s b a W n w).seq = b + (W.length : Int):=rfl
  have hrd:=arL_rd (q:=b + (W.length : Int) + 1) (s:=r) (Z:=Z) (by have:=hb.1; omega) (by omega) hr6
  have fin : ∀ {P' Q' : List ByteArray} {w1 : Int},P'.length = Z → Q'.length = Z → areaZ (stX P Q s b a W n w).g.d Z (if a = 0 then Z else 0) (blkL (b + (W.length : Int) + 1) r (sizeN r.size)) = (0,stD P' Q' b W n w1) → (∃ w2,rstL (stG P' Q' b W n w1) (b + (W.length : Int) + 1) = (0,stG P' Q' (b + (W.length : Int) + 1) [] n w2)) →
      ∃ w',keepZ (stX P Q s b a W n w) r = (0,stX P' Q' r (b + (W.length : Int) + 1) (if a = 0 then 1 else 0) [] n w'):=by
    intro P' Q' w1 hP' hQ' hA hR
    obtain ⟨w2,hR⟩:=hR
    have eZ : (stX P Q s b a W n w).z.toNat = Z:=by show ((P.length : Int)).toNat = Z; rw [h.p]; simp
    have eY : keepY (stX P Q s b a W n w) r = (0,stD P' Q' b W n w1):=by
      unfold keepY
      rw [hseq,eZ]
      exact hA
    have eL : (P' ++ Q').length = (P ++ Q).length:=by rw [List.length_append,hP',hQ',h.len]; omega
    have eR : keepR (stX P Q s b a W n w) r = (0,stG P' Q' (b + (W.length : Int) + 1) [] n w2):=by
      unfold keepR
      rw [hseq,eY]
      have : ({ (stX P Q s b a W n w).g with d:=stD P' Q' b W n w1 } : Lg) = stG P' Q' b W n w1:=by
        show (⟨stD P' Q' b W n w1,((P ++ Q).length : Nat),(((P ++ Q).length + n : Nat) : Int),b,(((P ++ Q).length + (frs (b + 1) W).length : Nat) : Int),W,false⟩ : Lg) = _
        rw [← eL]; rfl
      show rstL ({ (stX P Q s b a W n w).g with d:=stD P' Q' b W n w1 } : Lg) _ = _
      rw [this,hR]
    refine ⟨w2,?_⟩
    unfold keepZ
    rw [if_neg (by
      rintro (q | q)
      · have : (stX P Q s b a W n w).z = (P.length : Int):=rfl
        have:=h.p
        omega
      · rw [hseq] at q; omega),if_neg (by simp [stX]),eY,if_neg (by simp),eR,if_neg (by simp),hseq]
    unfold stX
    rw [h.p,hP']
  by_cases ha : a = 0
  · have hA : ∃ w1,areaZ (stX P Q s b a W n w).g.d Z Z (blkL (b + (W.length : Int) + 1) r (sizeN r.size)) = (0,stD P (arL (b + (W.length : Int) + 1) r Z) b W n w1):=by
      obtain ⟨w1,e⟩:=area_w (P:=P) (O:=Q) (S:=frs (b + 1) W ++ (List.replicate (n - (frs (b + 1) W).length) zeB ++ [])) (w:=w) hbz (by rw [hbl,h.q]; exact hr)
      rw [h.p,h.q,hbl] at e
      refine ⟨w1,?_⟩
      show areaZ (dOn (lgL (P ++ Q) (frs (b + 1) W) [] n) w) Z Z _ = _
      unfold lgL
      rw [List.append_assoc,e]
      show _ = (0,dOn (lgL (P ++ arL (b + (W.length : Int) + 1) r Z) (frs (b + 1) W) [] n) w1)
      unfold lgL arL
      simp only [List.append_assoc]
    obtain ⟨w1,hA⟩:=hA
    have hQl : (arL (b + (W.length : Int) + 1) r Z).length = Z:=arL_len hr
    have hR : ∃ w2,rstL (stG P (arL (b + (W.length : Int) + 1) r Z) b W n w1) (b + (W.length : Int) + 1) = (0,stG P (arL (b + (W.length : Int) + 1) r Z) (b + (W.length : Int) + 1) [] n w2):=by
      obtain ⟨w2,e⟩:=rst_on (A:=P ++ arL (b + (W.length : Int) + 1) r Z) (B:=frs (b + 1) W) (C:=[]) (n:=n) (w:=w1) (b:=b) (W:=W) hib h.fl
      exact ⟨w2,e⟩
    obtain ⟨w',e⟩:=fin h.p hQl (by rw [if_pos ha]; exact hA) hR
    refine ⟨P,arL (b + (W.length : Int) + 1) r Z,w',e,⟨h.p,hQl,h.z,h.z2,h.n1,h.n2,h.pz,arL_sz,hib.2,?_,Nat.zero_le _,fun x hx =>by cases hx⟩,.inl ⟨ha,rfl,rfl⟩⟩
    rw [if_pos ha]
    refine .inr (.inr ⟨rfl,by rw [hrd],by rw [hrd],by rw [hrd],?_⟩)
    rcases h.ar with ⟨h1,_⟩ | ⟨_,_,_,h2,_⟩ | ⟨h1,_⟩
    · rw [ha] at h1; cases h1
    · right; rw [h2]; omega
    · rw [ha] at h1; cases h1
  · have hA : ∃ w1,areaZ (stX P Q s b a W n w).g.d Z 0 (blkL (b + (W.length : Int) + 1) r (sizeN r.size)) = (0,stD (arL (b + (W.length : Int) + 1) r Z) Q b W n w1):=by
      obtain ⟨w1,e⟩:=area_w (P:=[]) (O:=P) (S:=Q ++ (frs (b + 1) W ++ (List.replicate (n - (frs (b + 1) W).length) zeB ++ []))) (w:=w) hbz (by rw [hbl,h.p]; exact hr)
      rw [h.p,hbl] at e
      refine ⟨w1,?_⟩
      show areaZ (dOn (lgL (P ++ Q) (frs (b + 1) W) [] n) w) Z 0 _ = _
      unfold lgL
      rw [List.append_assoc]
      refine e.trans ?_
      show _ = (0,dOn (lgL (arL (b + (W.length : Int) + 1) r Z ++ Q) (frs (b + 1) W) [] n) w1)
      unfold lgL arL
      simp only [List.append_assoc,List.nil_append]
    obtain ⟨w1,hA⟩:=hA
    have hPl : (arL (b + (W.length : Int) + 1) r Z).length = Z:=arL_len hr
    have hR : ∃ w2,rstL (stG (arL (b + (W.length : Int) + 1) r Z) Q b W n w1) (b + (W.length : Int) + 1) = (0,stG (arL (b + (W.length : Int) + 1) r Z) Q (b + (W.length : Int) + 1) [] n w2):=by
      obtain ⟨w2,e⟩:=rst_on (A:=arL (b + (W.length : Int) + 1) r Z ++ Q) (B:=frs (b + 1) W) (C:=[]) (n:=n) (w:=w1) (b:=b) (W:=W) hib h.fl
      exact ⟨w2,e⟩
    obtain ⟨w',e⟩:=fin hPl h.q (by rw [if_neg ha]; exact hA) hR
    refine ⟨arL (b + (W.length : Int) + 1) r Z,Q,w',e,⟨hPl,h.q,h.z,h.z2,h.n1,h.n2,arL_sz,h.qz,hib.2,?_,Nat.zero_le _,fun x hx =>by cases hx⟩,.inr ⟨ha,rfl,rfl⟩⟩
    rw [if_neg ha]
    refine .inr (.inl ⟨rfl,by rw [hrd],by rw [hrd],by rw [hrd],?_⟩)
    rcases h.ar with ⟨_,_,_,_,h2⟩ | ⟨h1,_⟩ | ⟨_,_,_,h2,_⟩
    · exact .inl h2
    · exact absurd h1 ha
    · right; rw [h2]; omega
end Go.Proofs.YthapdikdeoeplaaGreatDoor.Z7
end
section
set_option linter.unusedVariables false
set_option linter.unnecessarySimpa false
open Go AH
set_option linter.unusedSimpArgs false
set_option maxRecDepth 100000
namespace Go.Proofs.YthapdikdeoeplaaGreatDoor.Z7
theorem joinS_loc {L L' : List ByteArray} {q : Int} {n : Nat} : ∀ (m i : Nat) (a : ByteArray),(∀ j,i ≤ j → j < i + m → L'[j]? = L[j]?) → joinS L' q n m i a = joinS L q n m i a
  | 0,_,_,_ =>rfl
  | m + 1,i,a,h =>by
    have h0:=h i (Nat.le_refl _) (by omega)
    have hb : badJ L' q n i = badJ L q n i:=by unfold badJ; rw [h0]
    unfold joinS
    rw [hb,h0,joinS_loc m (i + 1) _ fun j h1 h2 =>h j (by omega) (by omega)]
theorem rdZ_n {L : List ByteArray} (h : (rdZ L).bad = -1) : (firZ L).2.2 = true ∧ (rdZ L).n = (firZ L).2.1:=by
  unfold rdZ at h ⊢
  cases h1 : (firZ L).2.2
  · rw [h1] at h; cases h
  · rw [h1,cond_true] at h
    rw [cond_true]
    cases h2 : decide ((jnZ L (firZ L).1 (firZ L).2.1.toNat).2 ≥ 0)
    · rw [h2,cond_false] at h
      rw [cond_false]
      cases h3 : (datZ (jnZ L (firZ L).1 (firZ L).2.1.toNat).1).2
      · rw [h3] at h; cases h
      · exact ⟨rfl,rfl⟩
    · rw [h2,cond_true] at h
      simp only at h
      rw [h] at h2; cases h2
theorem rdZ_loc {L L' : List ByteArray} (h : (rdZ L).bad = -1) (hl : ∀ j,j < (rdZ L).n.toNat → L'[j]? = L[j]?) : rdZ L' = rdZ L:=by
  obtain ⟨h1,h2⟩:=rdZ_n h
  obtain ⟨g1,g2,_⟩:=rdZ_good h
  have hf : firZ L' = firZ L:=by
    have h0:=hl 0 (by omega)
    cases L with
    | nil =>simp at g2; omega
    | cons x r =>
      cases L' with
      | nil =>simp at h0
      | cons y s =>
        simp only [List.getElem?_cons_zero,Option.some.injEq] at h0
        rw [h0]; rfl
  have hj : jnZ L' (firZ L).1 (firZ L).2.1.toNat = jnZ L (firZ L).1 (firZ L).2.1.toNat:=by
    unfold jnZ
    exact joinS_loc _ _ _ fun j _ h4 =>hl j (by rw [h2]; omega)
  unfold rdZ
  rw [hf,hj]
theorem logR_loc : ∀ (k : Nat) (L R : List ByteArray) (q : Int) (k' : Nat),(logR k L q).1.length ≤ k' →
    logR k' (L.take (logR k L q).2 ++ R) q = ((logR k L q).1 ++ (logR (k' - (logR k L q).1.length) R (q + ((logR k L q).1.length : Int))).1,(logR k L q).2 + (logR (k' - (logR k L q).1.length) R (q + ((logR k L q).1.length : Int))).2)
  | 0,L,R,q,k',_ =>by simp [logR]
  | k + 1,L,R,q,k',h =>by
    by_cases hg : (rdZ L).bad = -1 ∧ (rdZ L).q = q
    · obtain ⟨g1,g2,_⟩:=rdZ_good hg.1
      have e : logR (k + 1) L q = ((rdZ L).t :: (logR k (L.drop (rdZ L).n.toNat) (q + 1)).1,(rdZ L).n.toNat + (logR k (L.drop (rdZ L).n.toNat) (q + 1)).2):=by
        conv =>lhs; unfold logR
        rw [if_pos hg]
      obtain ⟨j,rfl⟩ : ∃ j,k' = j + 1:=⟨k' - 1,by rw [e] at h; simp only [List.length_cons] at h; omega⟩
      have ih:=logR_loc k (L.drop (rdZ L).n.toNat) R (q + 1) j (by rw [e] at h; simp only [List.length_cons] at h; omega)
      rw [e]
      generalize logR k (L.drop (rdZ L).n.toNat) (q + 1) = x at *
      obtain ⟨W,u⟩:=x
      simp only at ih ⊢
      have hr : rdZ (L.take ((rdZ L).n.toNat + u) ++ R) = rdZ L:=rdZ_loc hg.1 fun i hi =>by
        rw [List.getElem?_append_left (by rw [List.length_take]; omega),List.getElem?_take_of_lt (by omega)]
      have hd : (L.take ((rdZ L).n.toNat + u) ++ R).drop (rdZ L).n.toNat = (L.drop (rdZ L).n.toNat).take u ++ R:=by
        rw [List.drop_append_of_le_length (by rw [List.length_take]; omega),List.drop_take,Nat.add_sub_cancel_left]
      conv =>lhs; unfold logR
      rw [hr,if_pos hg,hd,ih]
      simp only [List.length_cons,List.cons_append,Prod.mk.injEq]
      rw [show q + 1 + (W.length : Int) = q + ((W.length + 1 : Nat) : Int) by omega,show j + 1 - (W.length + 1) = j - W.length by omega]
      exact ⟨rfl,by omega⟩
    · have e : logR (k + 1) L q = ([],0):=by
        conv =>lhs; unfold logR
        rw [if_neg hg]
      rw [e]; simp
def svD (P Q B : List ByteArray) (n : Nat) (w : Int) : Dk:=dOn (lgL (P ++ Q) B [] n) w
def svG (P Q B : List ByteArray) (b : Int) (W : List ByteArray) (n : Nat) (w : Int) : Lg:=⟨svD P Q B n w,((P ++ Q).length : Nat),(((P ++ Q).length + n : Nat) : Int),b,(((P ++ Q).length + B.length : Nat) : Int),W,false⟩
def svX (P Q B : List ByteArray) (s : ByteArray) (b a : Int) (W : List ByteArray) (n : Nat) (w : Int) : So:=⟨svG P Q B b W n w,P.length,s,b,a,false⟩
structure svI (P Q B : List ByteArray) (s : ByteArray) (b a : Int) (W : List ByteArray) (n Z : Nat) : Prop where
  p : P.length = Z
  q : Q.length = Z
  z : 1 ≤ Z
  z2 : Z ≤ 15
  n1 : 0 < n
  n2 : n ≤ 30
  pz : ∀ x ∈ P,x.size = 64
  qz : ∀ x ∈ Q,x.size = 64
  bz : ∀ x ∈ B,x.size = 64
  bl : b ≤ 1073741824
  ar : aI P Q s b a
  fl : B.length ≤ n
  wl : W.length ≤ B.length
  rd : ∀ (k : Nat) (R : List ByteArray),W.length ≤ k → logR k (B ++ R) (b + 1) = (W ++ (logR (k - W.length) R (b + 1 + (W.length : Int))).1,B.length + (logR (k - W.length) R (b + 1 + (W.length : Int))).2)
  wz : ∀ x ∈ W,x.size ≤ 6000
variable {P Q B : List ByteArray} {s : ByteArray} {b a : Int} {W : List ByteArray} {n Z : Nat} {w : Int}
theorem svI.base (h : svI P Q B s b a W n Z) : isBase b:=⟨aI_b h.ar,h.bl⟩
theorem svI.len (h : svI P Q B s b a W n Z) : (P ++ Q).length = 2 * Z:=by rw [List.length_append,h.p,h.q]; omega
theorem svI.dlen (h : svI P Q B s b a W n Z) : (lgL (P ++ Q) B [] n).length = 2 * Z + n:=by rw [lgL_len h.fl,h.len]; simp
theorem svI.sz (h : svI P Q B s b a W n Z) : ∀ x ∈ lgL (P ++ Q) B [] n,x.size = 64:=lgL_sz (fun x hx =>(List.mem_append.1 hx).elim (h.pz x) (h.qz x)) h.bz fun x hx =>by cases hx
theorem svI.dok (h : svI P Q B s b a W n Z) : (svD P Q B n w).ok:=by
  refine dOn_ok h.sz ?_
  rw [h.dlen]; have:=h.z2; have:=h.n2; omega
theorem svI.gok (h : svI P Q B s b a W n Z) : (svG P Q B b W n w).ok:=by
  have h1:=h.wl
  have h2:=h.dlen
  have h3:=h.len
  have h4:=h.fl
  refine ⟨h.dok,h.base,?_,?_,?_,?_,?_⟩
  · show (0 : Int) ≤ ((P ++ Q).length : Nat); omega
  · show (((P ++ Q).length : Nat) : Int) ≤ (((P ++ Q).length + B.length : Nat) : Int); omega
  · show (((P ++ Q).length + B.length : Nat) : Int) ≤ (((P ++ Q).length + n : Nat) : Int); omega
  · show (((P ++ Q).length + n : Nat) : Int) ≤ ((lgL (P ++ Q) B [] n).length : Int); omega
  · show (W.length : Int) ≤ (((P ++ Q).length + B.length : Nat) : Int) - ((P ++ Q).length : Nat); omega
theorem svI.ok (h : svI P Q B s b a W n Z) : (svX P Q B s b a W n w).ok:=by
  have h2:=h.dlen
  have h3:=h.len
  refine ⟨h.gok,?_,?_,?_,?_⟩
  · show (1 : Int) ≤ (P.length : Int); have:=h.p; have:=h.z; omega
  · show (P.length : Int) ≤ 100; have:=h.p; have:=h.z2; omega
  · show (((P ++ Q).length : Nat) : Int) = 2 * (P.length : Int); have:=h.p; omega
  · show (((P ++ Q).length + n : Nat) : Int) = ((lgL (P ++ Q) B [] n).length : Int); omega
theorem svI.seq : (svX P Q B s b a W n w).seq = b + (W.length : Int):=rfl
theorem svI.read (h : svI P Q B s b a W n Z) : lastZ (lgL (P ++ Q) B [] n) Z = ⟨s,b,a⟩ ∧ (lgL (P ++ Q) B [] n).drop (2 * Z) = B ++ List.replicate (n - B.length) zeB ∧ ∀ k,W.length ≤ k → logR k ((lgL (P ++ Q) B [] n).drop (2 * Z)) (b + 1) = (W,B.length):=by
  have e : (lgL (P ++ Q) B [] n).drop (2 * Z) = B ++ List.replicate (n - B.length) zeB:=by
    rw [← h.len,lgL,List.drop_left]; simp
  refine ⟨by unfold lgL; exact aI_last h.p h.q h.ar,e,fun k hk => ?_⟩
  rw [e,h.rd k _ hk,logR_stop (rdZ_zes _)]
  simp
theorem aI_of {P Q : List ByteArray} {s : ByteArray} {b a : Int} (h : stepL (stepL ⟨⟨#[]⟩,0,-1⟩ (rdZ P) 0) (rdZ Q) 1 = ⟨s,b,a⟩) : aI P Q s b a:=by
  by_cases hP : (rdZ P).bad = -1
  · have f0 : stepL ⟨⟨#[]⟩,0,-1⟩ (rdZ P) 0 = ⟨(rdZ P).t,(rdZ P).q,0⟩:=by unfold stepL; rw [if_pos ⟨hP,.inl rfl⟩]
    rw [f0] at h
    by_cases hQ : (rdZ Q).bad = -1 ∧ (rdZ Q).q > (rdZ P).q
    · have f1 : stepL ⟨(rdZ P).t,(rdZ P).q,0⟩ (rdZ Q) 1 = ⟨(rdZ Q).t,(rdZ Q).q,1⟩:=by unfold stepL; rw [if_pos ⟨hQ.1,.inr hQ.2⟩]
      rw [f1] at h
      simp only [Ls.mk.injEq] at h
      obtain ⟨rfl,rfl,rfl⟩:=h
      exact .inr (.inr ⟨rfl,hQ.1,rfl,rfl,.inr hQ.2⟩)
    · have f1 : stepL ⟨(rdZ P).t,(rdZ P).q,0⟩ (rdZ Q) 1 = ⟨(rdZ P).t,(rdZ P).q,0⟩:=by
        unfold stepL; rw [if_neg fun q =>q.2.elim (fun z =>by simp at z) fun z =>hQ ⟨q.1,z⟩]
      rw [f1] at h
      simp only [Ls.mk.injEq] at h
      obtain ⟨rfl,rfl,rfl⟩:=h
      refine .inr (.inl ⟨rfl,hP,rfl,rfl,?_⟩)
      by_cases h2 : (rdZ Q).bad = -1
      · right
        have:=fun z =>hQ ⟨h2,z⟩
        omega
      · exact .inl h2
  · have f0 : stepL ⟨⟨#[]⟩,0,-1⟩ (rdZ P) 0 = ⟨⟨#[]⟩,0,-1⟩:=by unfold stepL; rw [if_neg fun q =>hP q.1]
    rw [f0] at h
    by_cases hQ : (rdZ Q).bad = -1
    · have f1 : stepL ⟨⟨#[]⟩,0,-1⟩ (rdZ Q) 1 = ⟨(rdZ Q).t,(rdZ Q).q,1⟩:=by unfold stepL; rw [if_pos ⟨hQ,.inl rfl⟩]
      rw [f1] at h
      simp only [Ls.mk.injEq] at h
      obtain ⟨rfl,rfl,rfl⟩:=h
      exact .inr (.inr ⟨rfl,hQ,rfl,rfl,.inl hP⟩)
    · have f1 : stepL ⟨⟨#[]⟩,0,-1⟩ (rdZ Q) 1 = ⟨⟨#[]⟩,0,-1⟩:=by unfold stepL; rw [if_neg fun q =>hQ q.1]
      rw [f1] at h
      simp only [Ls.mk.injEq] at h
      obtain ⟨rfl,rfl,rfl⟩:=h
      exact .inl ⟨rfl,rfl,rfl,hP,hQ⟩
theorem sv_open {L : List ByteArray} {Z : Nat} {w : Int} (hz : ∀ x ∈ L,x.size = 64) (h1 : 1 ≤ Z) (h2 : 2 * Z < L.length) (h3 : L.length ≤ 30) (hb : (lastZ L Z).b ≤ 1073741824) :
    ∃ w' B,(sopZ (dOn L w) Z = (0,svX (L.take Z) ((L.drop Z).take Z) B (lastZ L Z).s (lastZ L Z).b (lastZ L Z).a (logR (L.drop (2 * Z)).length (L.drop (2 * Z)) ((lastZ L Z).b + 1)).1 (L.length - 2 * Z) w')) ∧
      svI (L.take Z) ((L.drop Z).take Z) B (lastZ L Z).s (lastZ L Z).b (lastZ L Z).a (logR (L.drop (2 * Z)).length (L.drop (2 * Z)) ((lastZ L Z).b + 1)).1 (L.length - 2 * Z) Z ∧
      B.length = (logR (L.drop (2 * Z)).length (L.drop (2 * Z)) ((lastZ L Z).b + 1)).2 ∧
      lgL (L.take Z ++ (L.drop Z).take Z) B [] (L.length - 2 * Z) = L.take (2 * Z + B.length) ++ List.replicate (L.length - (2 * Z + B.length)) zeB:=by
  have hb0:=(lastZ_b L Z).1
  have hlt : L.take Z ++ (L.drop Z).take Z = L.take (2 * Z):=by rw [show 2 * Z = Z + Z by omega,List.take_add]
  have hal : stepL (stepL ⟨⟨#[]⟩,0,-1⟩ (rdZ (L.take Z)) 0) (rdZ ((L.drop Z).take Z)) 1 = ⟨(lastZ L Z).s,(lastZ L Z).b,(lastZ L Z).a⟩:=rfl
  have har:=aI_of hal
  obtain ⟨u1,u2,u3⟩:=logR_le (L.drop (2 * Z)).length (L.drop (2 * Z)) ((lastZ L Z).b + 1)
  have hloc:=fun R k' =>logR_loc (L.drop (2 * Z)).length (L.drop (2 * Z)) R ((lastZ L Z).b + 1) k'
  obtain ⟨w',ho⟩:=opn_on (all:=L) (F:=2 * Z) (T:=L.length) (b:=(lastZ L Z).b) (w:=w) h2 (Nat.le_refl _) ⟨hb0,hb⟩
  have e1 : (L.drop (2 * Z)).take (L.length - 2 * Z) = L.drop (2 * Z):=List.take_of_length_le (by simp)
  have hdl : (L.drop (2 * Z)).length = L.length - 2 * Z:=List.length_drop ..
  rw [e1,← hdl] at ho
  generalize hx : logR (L.drop (2 * Z)).length (L.drop (2 * Z)) ((lastZ L Z).b + 1) = x at *
  obtain ⟨W,u⟩:=x
  simp only at u1 u2 u3 hloc ho ⊢
  have hBl : ((L.drop (2 * Z)).take u).length = u:=by rw [List.length_take]; omega
  refine ⟨w',(L.drop (2 * Z)).take u,?_,?_,hBl,?_⟩
  · unfold sopZ
    have hL : (dOn L w).L = L:=rfl
    rw [hL,Int.toNat_natCast,if_neg (by omega),if_neg (by show ¬ (false = true); simp),if_neg (by omega)]
    have c1 : 2 * (Z : Int) = ((2 * Z : Nat) : Int):=by omega
    rw [c1,ho]
    unfold svX svG svD
    have c2 : (L.take Z ++ (L.drop Z).take Z).length = 2 * Z:=by rw [hlt,List.length_take]; omega
    have c3 : (L.take Z).length = Z:=by rw [List.length_take]; omega
    rw [c2,c3,hBl,hlt,show 2 * Z + (L.length - 2 * Z) = L.length by omega,List.drop_length]
    simp only [hdl]
  · refine ⟨by rw [List.length_take]; omega,by rw [List.length_take,List.length_drop]; omega,h1,by omega,by omega,by omega,fun x hx =>hz x (List.mem_of_mem_take hx),fun x hx =>hz x (List.mem_of_mem_drop (List.mem_of_mem_take hx)),
      fun x hx =>hz x (List.mem_of_mem_drop (List.mem_of_mem_take hx)),hb,har,by omega,by omega,fun k R hk => ?_,u3⟩
    rw [hloc R k hk,hBl]
  · unfold lgL
    rw [hlt,hBl,List.append_nil,List.take_add,List.append_assoc,show L.length - 2 * Z - u = L.length - (2 * Z + u) by omega]
theorem sv_bad {L : List ByteArray} {Z : Nat} {w : Int} (h1 : 1 ≤ Z) (h2 : 2 * Z < L.length) (h3 : L.length ≤ 30) (hb : ¬ (lastZ L Z).b ≤ 1073741824) : ∃ y,sopZ (dOn L w) Z = (3,y) ∧ y.g.d = dOn L w:=by
  refine ⟨⟨⟨dOn L w,0,0,0,0,[],false⟩,Z,⟨#[]⟩,0,0,false⟩,?_,rfl⟩
  unfold sopZ
  have hL : (dOn L w).L = L:=rfl
  rw [hL,Int.toNat_natCast,if_neg (by omega),if_neg (by show ¬ (false = true); simp),if_pos (by omega)]
theorem svI.add (h : svI P Q B s b a W n Z) {r : ByteArray} (hr : r.size ≤ 6000) (hf : B.length + sizeN r.size ≤ n) (hq : b + (W.length : Int) + 1 < 1073741824) :
    (∃ w',sadZ (svX P Q B s b a W n w) r = (0,svX P Q (B ++ blkL (b + (W.length : Int) + 1) r (sizeN r.size)) s b a (W ++ [r]) n w') ∧ (addL (svX P Q B s b a W n w).g r).1 = 0) ∧ svI P Q (B ++ blkL (b + (W.length : Int) + 1) r (sizeN r.size)) s b a (W ++ [r]) n Z:=by
  have hbl:=blkL_len (b + (W.length : Int) + 1) r (sizeN r.size)
  obtain ⟨w',e⟩:=add_on (A:=P ++ Q) (B:=B) (C:=[]) (n:=n) (w:=w) (b:=b) (W:=W) hr hf hq
  have e2 : B.length + sizeN r.size = (B ++ blkL (b + (W.length : Int) + 1) r (sizeN r.size)).length:=by rw [List.length_append,hbl]
  rw [e2] at e
  have e' : addL (svG P Q B b W n w) r = (0,svG P Q (B ++ blkL (b + (W.length : Int) + 1) r (sizeN r.size)) b (W ++ [r]) n w'):=e
  have hs1:=sizeN_pos r.size
  refine ⟨⟨w',?_,?_⟩,⟨h.p,h.q,h.z,h.z2,h.n1,h.n2,h.pz,h.qz,fun x hx =>(List.mem_append.1 hx).elim (h.bz x) (blkL_sz (Nat.le_refl _) x),h.bl,h.ar,by omega,?_,fun k R hk => ?_,fun x hx =>(List.mem_append.1 hx).elim (h.wz x) fun q =>by rw [List.mem_singleton.1 q]; exact hr⟩⟩
  · unfold sadZ
    rw [if_neg (by simp [svX])]
    show ((addL (svG P Q B b W n w) r).1,(⟨(addL (svG P Q B b W n w) r).2,P.length,s,b,a,(addL (svG P Q B b W n w) r).1 == 14⟩ : So)) = _
    rw [e']; rfl
  · show (addL (svG P Q B b W n w) r).1 = 0
    rw [e']
  · have:=h.wl
    rw [← e2,List.length_append,List.length_singleton]; omega
  · rw [List.length_append,List.length_singleton] at hk
    have hb:=h.base
    have hg:=read_back (seq:=b + 1 + (W.length : Int)) (d:=r) (by have:=hb.1; omega) (by have:=hb.2; omega) hr R
    rw [List.append_assoc,show b + (W.length : Int) + 1 = b + 1 + (W.length : Int) by omega,h.rd k _ (by omega)]
    obtain ⟨j,hj⟩ : ∃ j,k - W.length = j + 1:=⟨k - W.length - 1,by omega⟩
    have hd : (blkL (b + 1 + (W.length : Int)) r (sizeN r.size) ++ R).drop (sizeN r.size) = R:=List.drop_left' (blkL_len _ _ _)
    have e4 : logR (j + 1) (blkL (b + 1 + (W.length : Int)) r (sizeN r.size) ++ R) (b + 1 + (W.length : Int)) = (r :: (logR j R (b + 1 + (W.length : Int) + 1)).1,sizeN r.size + (logR j R (b + 1 + (W.length : Int) + 1)).2):=by
      conv =>lhs; unfold logR
      rw [hg]
      simp only [and_self,if_true,Int.toNat_natCast,hd]
    rw [hj,e4]
    simp only [List.length_append,List.length_cons,List.length_nil,List.append_assoc,List.singleton_append,blkL_len,Nat.zero_add]
    rw [show b + 1 + ((W.length + 1 : Nat) : Int) = b + 1 + (W.length : Int) + 1 by omega,show k - (W.length + 1) = j by omega,Nat.add_assoc]
theorem svI.add1 (_h : svI P Q B s b a W n Z) {r : ByteArray} (hr : ¬ r.size ≤ 6000) : sadZ (svX P Q B s b a W n w) r = (1,svX P Q B s b a W n w) ∧ (addL (svX P Q B s b a W n w).g r).1 = 1:=by
  have e : addL (svG P Q B b W n w) r = (1,svG P Q B b W n w):=by unfold addL; rw [if_pos (by omega)]
  refine ⟨?_,by show (addL (svG P Q B b W n w) r).1 = 1; rw [e]⟩
  unfold sadZ
  rw [if_neg (by simp [svX])]
  show ((addL (svG P Q B b W n w) r).1,(⟨(addL (svG P Q B b W n w) r).2,P.length,s,b,a,(addL (svG P Q B b W n w) r).1 == 14⟩ : So)) = _
  rw [e]; rfl
theorem svI.add7 (_h : svI P Q B s b a W n Z) {r : ByteArray} (hr : r.size ≤ 6000) (hf : ¬ (B.length + sizeN r.size ≤ n ∧ b + (W.length : Int) + 1 < 1073741824)) : sadZ (svX P Q B s b a W n w) r = (7,svX P Q B s b a W n w) ∧ (addL (svX P Q B s b a W n w).g r).1 = 7:=by
  have e : addL (svG P Q B b W n w) r = (7,svG P Q B b W n w):=by
    unfold addL
    rw [if_neg (by omega),if_pos ?_]
    have c1 : (svG P Q B b W n w).room = (((P ++ Q).length + n : Nat) : Int) - (((P ++ Q).length + B.length : Nat) : Int):=rfl
    have c2 : (svG P Q B b W n w).next = b + (W.length : Int) + 1:=rfl
    rw [c1,c2]
    omega
  refine ⟨?_,by show (addL (svG P Q B b W n w) r).1 = 7; rw [e]⟩
  unfold sadZ
  rw [if_neg (by simp [svX])]
  show ((addL (svG P Q B b W n w) r).1,(⟨(addL (svG P Q B b W n w) r).2,P.length,s,b,a,(addL (svG P Q B b W n w) r).1 == 14⟩ : So)) = _
  rw [e]; rfl
theorem svI.keep1 (h : svI P Q B s b a W n Z) {r : ByteArray} (hr : sizeN r.size > Z ∨ b + (W.length : Int) ≥ 1073741824) : keepZ (svX P Q B s b a W n w) r = (1,svX P Q B s b a W n w):=by
  unfold keepZ
  rw [if_pos]
  have c1 : (svX P Q B s b a W n w).z = (P.length : Int):=rfl
  have c2 : (svX P Q B s b a W n w).seq = b + (W.length : Int):=rfl
  rw [c1,c2,h.p]
  omega
theorem svI.keep (h : svI P Q B s b a W n Z) {r : ByteArray} (hr : sizeN r.size ≤ Z) (hq : b + (W.length : Int) < 1073741824) :
    ∃ P' Q' w',keepZ (svX P Q B s b a W n w) r = (0,svX P' Q' [] r (b + (W.length : Int) + 1) (if a = 0 then 1 else 0) [] n w') ∧ svI P' Q' [] r (b + (W.length : Int) + 1) (if a = 0 then 1 else 0) [] n Z ∧ ((a = 0 ∧ P' = P ∧ Q' = arL (b + (W.length : Int) + 1) r Z) ∨ (a ≠ 0 ∧ P' = arL (b + (W.length : Int) + 1) r Z ∧ Q' = Q)):=by
  have hb:=h.base
  have hr6 : r.size ≤ 6000:=by unfold sizeN at hr; have:=h.z2; omega
  have hbl:=blkL_len (b + (W.length : Int) + 1) r (sizeN r.size)
  have hbz:=blkL_sz (q:=b + (W.length : Int) + 1) (s:=r) (n:=sizeN r.size) (Nat.le_refl _)
  have hib : isBase (b + (W.length : Int) + 1):=⟨by have:=hb.1; omega,by omega⟩
  have hseq : (svX P Q B s b a W n w).seq = b + (W.length : Int):=rfl
  have hrd:=arL_rd (q:=b + (W.length : Int) + 1) (s:=r) (Z:=Z) (by have:=hb.1; omega) (by omega) hr6
  have fin : ∀ {P' Q' : List ByteArray} {w1 : Int},P'.length = Z → Q'.length = Z → areaZ (svX P Q B s b a W n w).g.d Z (if a = 0 then Z else 0) (blkL (b + (W.length : Int) + 1) r (sizeN r.size)) = (0,svD P' Q' B n w1) → (∃ w2,rstL (svG P' Q' B b W n w1) (b + (W.length : Int) + 1) = (0,svG P' Q' [] (b + (W.length : Int) + 1) [] n w2)) →
      ∃ w',keepZ (svX P Q B s b a W n w) r = (0,svX P' Q' [] r (b + (W.length : Int) + 1) (if a = 0 then 1 else 0) [] n w'):=by
    intro P' Q' w1 hP' hQ' hA hR
    obtain ⟨w2,hR⟩:=hR
    have eZ : (svX P Q B s b a W n w).z.toNat = Z:=by show ((P.length : Int)).toNat = Z; rw [h.p]; simp
    have eY : keepY (svX P Q B s b a W n w) r = (0,svD P' Q' B n w1):=by
      unfold keepY
      rw [hseq,eZ]
      exact hA
    have eL : (P' ++ Q').length = (P ++ Q).length:=by rw [List.length_append,hP',hQ',h.len]; omega
    have eR : keepR (svX P Q B s b a W n w) r = (0,svG P' Q' [] (b + (W.length : Int) + 1) [] n w2):=by
      unfold keepR
      rw [hseq,eY]
      have : ({ (svX P Q B s b a W n w).g with d:=svD P' Q' B n w1 } : Lg) = svG P' Q' B b W n w1:=by
        show (⟨svD P' Q' B n w1,((P ++ Q).length : Nat),(((P ++ Q).length + n : Nat) : Int),b,(((P ++ Q).length + B.length : Nat) : Int),W,false⟩ : Lg) = _
        rw [← eL]; rfl
      show rstL ({ (svX P Q B s b a W n w).g with d:=svD P' Q' B n w1 } : Lg) _ = _
      rw [this,hR]
    refine ⟨w2,?_⟩
    unfold keepZ
    rw [if_neg (by
      rintro (q | q)
      · have : (svX P Q B s b a W n w).z = (P.length : Int):=rfl
        have:=h.p
        omega
      · rw [hseq] at q; omega),if_neg (by simp [svX]),eY,if_neg (by simp),eR,if_neg (by simp),hseq]
    unfold svX
    rw [h.p,hP']
  have nilrd : ∀ (k : Nat) (R : List ByteArray),([] : List ByteArray).length ≤ k → logR k ([] ++ R) (b + (W.length : Int) + 1 + 1) = ([] ++ (logR (k - ([] : List ByteArray).length) R (b + (W.length : Int) + 1 + 1 + (([] : List ByteArray).length : Int))).1,([] : List ByteArray).length + (logR (k - ([] : List ByteArray).length) R (b + (W.length : Int) + 1 + 1 + (([] : List ByteArray).length : Int))).2):=fun k R _ =>by simp
  by_cases ha : a = 0
  · have hA : ∃ w1,areaZ (svX P Q B s b a W n w).g.d Z Z (blkL (b + (W.length : Int) + 1) r (sizeN r.size)) = (0,svD P (arL (b + (W.length : Int) + 1) r Z) B n w1):=by
      obtain ⟨w1,e⟩:=area_w (P:=P) (O:=Q) (S:=B ++ (List.replicate (n - B.length) zeB ++ [])) (w:=w) hbz (by rw [hbl,h.q]; exact hr)
      rw [h.p,h.q,hbl] at e
      refine ⟨w1,?_⟩
      show areaZ (dOn (lgL (P ++ Q) B [] n) w) Z Z _ = _
      unfold lgL
      rw [List.append_assoc,e]
      show _ = (0,dOn (lgL (P ++ arL (b + (W.length : Int) + 1) r Z) B [] n) w1)
      unfold lgL arL
      simp only [List.append_assoc]
    obtain ⟨w1,hA⟩:=hA
    have hQl : (arL (b + (W.length : Int) + 1) r Z).length = Z:=arL_len hr
    have hR : ∃ w2,rstL (svG P (arL (b + (W.length : Int) + 1) r Z) B b W n w1) (b + (W.length : Int) + 1) = (0,svG P (arL (b + (W.length : Int) + 1) r Z) [] (b + (W.length : Int) + 1) [] n w2):=by
      obtain ⟨w2,e⟩:=rst_on (A:=P ++ arL (b + (W.length : Int) + 1) r Z) (B:=B) (C:=[]) (n:=n) (w:=w1) (b:=b) (W:=W) hib h.fl
      exact ⟨w2,e⟩
    obtain ⟨w',e⟩:=fin h.p hQl (by rw [if_pos ha]; exact hA) hR
    refine ⟨P,arL (b + (W.length : Int) + 1) r Z,w',e,⟨h.p,hQl,h.z,h.z2,h.n1,h.n2,h.pz,arL_sz,(fun x hx =>by cases hx),hib.2,?_,Nat.zero_le _,Nat.le_refl _,nilrd,fun x hx =>by cases hx⟩,.inl ⟨ha,rfl,rfl⟩⟩
    rw [if_pos ha]
    refine .inr (.inr ⟨rfl,by rw [hrd],by rw [hrd],by rw [hrd],?_⟩)
    rcases h.ar with ⟨h1,_⟩ | ⟨_,_,_,h2,_⟩ | ⟨h1,_⟩
    · rw [ha] at h1; cases h1
    · right; rw [h2]; omega
    · rw [ha] at h1; cases h1
  · have hA : ∃ w1,areaZ (svX P Q B s b a W n w).g.d Z 0 (blkL (b + (W.length : Int) + 1) r (sizeN r.size)) = (0,svD (arL (b + (W.length : Int) + 1) r Z) Q B n w1):=by
      obtain ⟨w1,e⟩:=area_w (P:=[]) (O:=P) (S:=Q ++ (B ++ (List.replicate (n - B.length) zeB ++ []))) (w:=w) hbz (by rw [hbl,h.p]; exact hr)
      rw [h.p,hbl] at e
      refine ⟨w1,?_⟩
      show areaZ (dOn (lgL (P ++ Q) B [] n) w) Z 0 _ = _
      unfold lgL
      rw [List.append_assoc]
      refine e.trans ?_
      show _ = (0,dOn (lgL (arL (b + (W.length : Int) + 1) r Z ++ Q) B [] n) w1)
      unfold lgL arL
      simp only [List.append_assoc,List.nil_append]
    obtain ⟨w1,hA⟩:=hA
    have hPl : (arL (b + (W.length : Int) + 1) r Z).length = Z:=arL_len hr
    have hR : ∃ w2,rstL (svG (arL (b + (W.length : Int) + 1) r Z) Q B b W n w1) (b + (W.length : Int) + 1) = (0,svG (arL (b + (W.length : Int) + 1) r Z) Q [] (b + (W.length : Int) + 1) [] n w2):=by
      obtain ⟨w2,e⟩:=rst_on (A:=arL (b + (W.length : Int) + 1) r Z ++ Q) (B:=B) (C:=[]) (n:=n) (w:=w1) (b:=b) (W:=W) hib h.fl
      exact ⟨w2,e⟩
    obtain ⟨w',e⟩:=fin hPl h.q (by rw [if_neg ha]; exact hA) hR
    refine ⟨arL (b + (W.length : Int) + 1) r Z,Q,w',e,⟨hPl,h.q,h.z,h.z2,h.n1,h.n2,arL_sz,h.qz,(fun x hx =>by cases hx),hib.2,?_,Nat.zero_le _,Nat.le_refl _,nilrd,fun x hx =>by cases hx⟩,.inr ⟨ha,rfl,rfl⟩⟩
    rw [if_neg ha]
    refine .inr (.inl ⟨rfl,by rw [hrd],by rw [hrd],by rw [hrd],?_⟩)
    rcases h.ar with ⟨_,_,_,_,h2⟩ | ⟨h1,_⟩ | ⟨_,_,_,h2,_⟩
    · exact .inl h2
    · exact absurd h1 ha
    · right; rw [h2]; omega
end Go.Proofs.YthapdikdeoeplaaGreatDoor.Z7
end
section
set_option linter.unusedVariables false
set_option linter.unnecessarySimpa false
open Go AH
set_option linter.unusedSimpArgs false
set_option maxRecDepth 100000
namespace Go.Proofs.YthapdikdeoeplaaGreatDoor.Z7
def rsO (L : List ByteArray) (Z : Nat) : List ByteArray × Nat:=logR (L.drop (2 * Z)).length (L.drop (2 * Z)) ((lastZ L Z).b + 1)
def srdA (L : List ByteArray) (Z : Nat) : AV:=.agg [.str (lastZ L Z).s,.int .i64 (lastZ L Z).b,.int .i64 (lastZ L Z).a,.slc 1 0 (rsO L Z).1.length none,.int .i64 (rsO L Z).2]
def srdM (L : List ByteArray) (Z : Nat) : Mem:=[some (.row true 1 (L.map strC)),some (.row false 1 ((rsO L Z).1.map strC))]
def srdE : ET:=etO (syO cStr 1) (cC (AH.aI .i64) c0) fun y x =>if y.ix = 0 ∧ y.n = y.W.length ∧ 1 ≤ x.1 ∧ 2 * x.1 ≤ (y.W.length : Int) ∧ y.W.length ≤ 4096 then some (srdA y.W x.1.toNat,srdM y.W x.1.toNat) else none
theorem srdE_ok : EffF S0 35 srdE:=etO_ok fun y x v m' h =>by
  split at h
  · rename_i hl
    obtain ⟨h1,h2,h3,h4,h5⟩:=hl
    simp only [Option.some.injEq,Prod.mk.injEq] at h
    obtain ⟨rfl,rfl⟩:=h
    obtain ⟨L,ix,n⟩:=y
    obtain ⟨z,u⟩:=x
    simp only at h1 h2 h3 h4 h5
    subst h1; subst h2
    obtain ⟨Z,rfl⟩:=Int.eq_ofNat_of_zero_le (show 0 ≤ z by omega)
    exact ⟨⟨by simp [syO,srdM],rfl⟩,rsread_ok L Z (by omega) (by omega) h5⟩
  · cases h
theorem srdE_p {i k n : Nat} {z : Int} {M : Nat → Option Blk} : srdE [.slc i 0 k none,.int .i64 z] M n = etO2 n (fun (y : Sy ByteArray) (x : Int × Unit) =>if y.ix = 0 ∧ y.n = y.W.length ∧ 1 ≤ x.1 ∧ 2 * x.1 ≤ (y.W.length : Int) ∧ y.W.length ≤ 4096 then some (srdA y.W x.1.toNat,srdM y.W x.1.toNat) else none) (syR cStr 1 0 k i (M i)) (some (z,())):=by
  simp only [srdE,etO_eq,cC_dec,aI_dec,c0_dec,pairO_some,syO_dec]
theorem loop_atL {C : Ctx} {c d : ACode} {Q : Exit → St → Prop} {st : St} (h : wpA C c Q st) (e : c = d) : wpA C d Q st:=e ▸ h
structure Si where
  s : ByteArray
  b : Int
  a : Int
  u : Int
  R : List ByteArray
  L : List ByteArray
def siM (x : Si) : Mem:=[some (.row true 1 (x.R.map strC)),some (.row true 1 (x.L.map strC))]
def siA (r l : Nat) (x : Si) (rest : List AV) : List AV:=.agg [.str x.s,.int .i64 x.b,.int .i64 x.a,.slc r 0 x.R.length none,.int .i64 x.u] :: .slc l 0 x.L.length none :: rest
def siS {β : Type} (s : ByteArray) (b a u : Int) (r rn l ln : Nat) : Option Blk → Option Blk → Option β → Option ((Si × β) × List (Nat × Bool))
  | some (.row _ 1 e1),some (.row _ 1 e2),some y =>match cStr.decL e1,cStr.decL e2 with
    | some R,some L =>if r ≠ l ∧ rn = R.length ∧ ln = L.length then some ((⟨s,b,a,u,R,L⟩,y),[(r,true),(l,true)]) else none
    | _,_ =>none
  | _,_,_ =>none
def siD {β : Type} (c : Cod β) (M : Nat → Option Blk) : List AV → Option ((Si × β) × List (Nat × Bool))
  | .agg [.str s,.int .i64 b,.int .i64 a,.slc r 0 rn none,.int .i64 u] :: .slc l 0 ln none :: rest =>siS s b a u r rn l ln (M r) (M l) (c.dec rest)
  | _ =>none
theorem siS_eq {β : Type} {s : ByteArray} {b a u : Int} {r l : Nat} {r1 r2 : Bool} {R L : List ByteArray} {y : β} (h : r ≠ l) : siS s b a u r R.length l L.length (some (.row r1 1 (R.map strC))) (some (.row r2 1 (L.map strC))) (some y) = some ((⟨s,b,a,u,R,L⟩,y),[(r,true),(l,true)]):=by
  have e1 : cStr.decL (R.map strC) = some R:=cStr.decL_map R
  have e2 : cStr.decL (L.map strC) = some L:=cStr.decL_map L
  simp only [siS,e1,e2,ne_eq,h,not_false_eq_true,and_self,if_true]
theorem siS_eq2 {β : Type} {s : ByteArray} {b a u : Int} {r l rn ln : Nat} {r1 r2 : Bool} {R L : List ByteArray} {y : β} (h : r ≠ l) (h1 : rn = R.length) (h2 : ln = L.length) : siS s b a u r rn l ln (some (.row r1 1 (R.map strC))) (some (.row r2 1 (L.map strC))) (some y) = some ((⟨s,b,a,u,R,L⟩,y),[(r,true),(l,true)]):=by
  subst h1; subst h2; exact siS_eq h
theorem siD_inv {β : Type} {c : Cod β} {M : Nat → Option Blk} {vs : List AV} {x : Si × β} {sel : List (Nat × Bool)} (h : siD c M vs = some (x,sel)) :
    ∃ r l r1 r2,r ≠ l ∧ vs = siA r l x.1 (c.enc x.2) ∧ sel = [(r,true),(l,true)] ∧ M r = some (.row r1 1 (x.1.R.map strC)) ∧ M l = some (.row r2 1 (x.1.L.map strC)):=by
  unfold siD at h
  split at h
  · rename_i s b a r rn u l ln rest
    unfold siS at h
    split at h
    · rename_i r1 e1 r2 e2 y hr hl hc
      split at h
      · rename_i R L d1 d2
        split at h
        · rename_i hq
          obtain ⟨q1,rfl,rfl⟩:=hq
          simp only [Option.some.injEq,Prod.mk.injEq] at h
          obtain ⟨rfl,rfl⟩:=h
          have e1':=cStr.decL_ok d1
          have e2':=cStr.decL_ok d2
          subst e1'; subst e2'
          exact ⟨r,l,r1,r2,q1,by rw [c.ok _ _ hc]; rfl,rfl,hr,hl⟩
        · cases h
      · cases h
    · cases h
  · cases h
def siO {β : Type} (c : Cod β) : AH.ObjL (Si × β) where
  dec:=siD c
  mem:=fun x =>siM x.1
  self:=fun x =>siA 0 1 x.1 (c.enc x.2)
  ok:=by
    intro M vs x sel h
    obtain ⟨r,l,r1,r2,hne,rfl,rfl,hr,hl⟩:=siD_inv h
    have h1 : (r == l) = false:=by simpa using hne
    have h2 : (l == r) = false:=by simpa using hne.symm
    refine ⟨⟨?_,?_⟩,?_,?_,?_⟩
    · simp [selF,hr,hl]
      exact ⟨fun x _ =>flatE_in _ x,fun x _ =>flatE_in _ x⟩
    · simp [AH.distinct,AH.isIn,h1,h2]
    · simp only [subF,hr,hl,Option.map_some,Blk.ren,Blk.asRo,flat_rens,siM]
    · simp only [siA,AV.insB,AV.inB,AH.isIn,beq_self_eq_true,Bool.true_or,Bool.or_true,Bool.or_false,Bool.and_true,Bool.true_and,flats_inB (c.flat x.2)]
    · simp only [siA,AV.rens,AV.ren,AH.posOf,beq_self_eq_true,h1,h2,cond_true,cond_false,flats_rens (c.flat x.2),Nat.zero_add]
  loc:=by
    intro M vs x sel h M' hM'
    obtain ⟨r,l,r1,r2,hne,rfl,rfl,hr,hl⟩:=siD_inv h
    obtain ⟨⟨s,b,a,u,R,L⟩,y⟩:=x
    have hd : c.dec (c.enc y) = some y:=c.de y
    simp only [siD,siA,hM' r (by simp),hM' l (by simp),hr,hl,hd]
    exact siS_eq hne
theorem siO_dec {β : Type} {c : Cod β} {M : Nat → Option Blk} {s : ByteArray} {b a u : Int} {r rn l ln : Nat} {rest : List AV} : (siO c).dec M (.agg [.str s,.int .i64 b,.int .i64 a,.slc r 0 rn none,.int .i64 u] :: .slc l 0 ln none :: rest) = siS s b a u r rn l ln (M r) (M l) (c.dec rest):=rfl
def z0L : List (List AV):=List.replicate 64 [.int .u8 0]
theorem z0L_len : z0L.length = 64:=rfl
theorem z0L_eq : List.replicate 64 [AV.int .u8 0] = z0L:=rfl
theorem z0L_take : z0L.take 64 = z0L:=rfl
theorem z0L_bytes : bytesOf z0L = some (List.replicate 64 0):=by decide +kernel
theorem z64L_eq : (⟨(List.replicate 64 (0 : UInt8)).toArray⟩ : ByteArray) = zeB:=by decide +kernel
theorem z64L_lit : (⟨#[UInt8.ofNat 0,UInt8.ofNat 0,UInt8.ofNat 0,UInt8.ofNat 0,UInt8.ofNat 0,UInt8.ofNat 0,UInt8.ofNat 0,UInt8.ofNat 0,UInt8.ofNat 0,UInt8.ofNat 0,UInt8.ofNat 0,UInt8.ofNat 0,UInt8.ofNat 0,UInt8.ofNat 0,UInt8.ofNat 0,UInt8.ofNat 0,UInt8.ofNat 0,UInt8.ofNat 0,UInt8.ofNat 0,UInt8.ofNat 0,UInt8.ofNat 0,UInt8.ofNat 0,UInt8.ofNat 0,UInt8.ofNat 0,UInt8.ofNat 0,UInt8.ofNat 0,UInt8.ofNat 0,UInt8.ofNat 0,UInt8.ofNat 0,UInt8.ofNat 0,UInt8.ofNat 0,UInt8.ofNat 0,UInt8.ofNat 0,UInt8.ofNat 0,UInt8.ofNat 0,UInt8.ofNat 0,UInt8.ofNat 0,UInt8.ofNat 0,UInt8.ofNat 0,UInt8.ofNat 0,UInt8.ofNat 0,UInt8.ofNat 0,UInt8.ofNat 0,UInt8.ofNat 0,UInt8.ofNat 0,UInt8.ofNat 0,UInt8.ofNat 0,UInt8.ofNat 0,UInt8.ofNat 0,UInt8.ofNat 0,UInt8.ofNat 0,UInt8.ofNat 0,UInt8.ofNat 0,UInt8.ofNat 0,UInt8.ofNat 0,UInt8.ofNat 0,UInt8.ofNat 0,UInt8.ofNat 0,UInt8.ofNat 0,UInt8.ofNat 0,UInt8.ofNat 0,UInt8.ofNat 0,UInt8.ofNat 0,UInt8.ofNat 0]⟩ : ByteArray) = zeB:=by decide +kernel
theorem z64L_lit2 : (⟨#[0,0,0,0,0,0,0,0,0,0,0,0,0,0,0,0,0,0,0,0,0,0,0,0,0,0,0,0,0,0,0,0,0,0,0,0,0,0,0,0,0,0,0,0,0,0,0,0,0,0,0,0,0,0,0,0,0,0,0,0,0,0,0,0]⟩ : ByteArray) = zeB:=by decide +kernel
def simL (x : Si) (k : Nat) (i : Nat) : List ByteArray:=x.L.take k ++ List.replicate (i - k) zeB
def simSt (x : Si) (k : Nat) (i : Nat) : St:=⟨[(9,.int .i64 i),(8,.slc 2 0 i none),(7,.str zeB),(1,.slc 1 0 x.L.length none)],siM x ++ [some (.row false 1 ((simL x k i).map strC))]⟩
theorem simL_len {x : Si} {k i : Nat} (h1 : k ≤ i) (h2 : k ≤ x.L.length) : (simL x k i).length = i:=by simp [simL]; omega
theorem simL_succ {x : Si} {k i : Nat} (h1 : k ≤ i) : simL x k (i + 1) = simL x k i ++ [zeB]:=by
  rw [simL,simL,show i + 1 - k = (i - k) + 1 by omega,List.replicate_succ',List.append_assoc]
set_option maxHeartbeats 4000000 in
theorem simg_ok (x : Si) (Z U : Nat) (hu : x.u = U) (h : 2 * Z + U ≤ x.L.length) (hL : x.L.length ≤ 4096) : CallA1 S0 36 (siA 0 1 x [.int .i64 Z]) (siM x)
    fun r m =>r = .slc 2 0 x.L.length none ∧ m = siM x ++ [some (.row false 1 ((simL x (2 * Z + U) x.L.length).map strC))]:=by
  obtain ⟨s,b,a,u,R,L⟩:=x
  simp only at hu h hL
  subst hu
  have w1 : IntKind.i64.wrap (2 * (Z : Int)) = ((2 * Z : Nat) : Int):=by rw [IntKind.wrap_i64]; omega
  have w2 : IntKind.i64.wrap (((2 * Z : Nat) : Int) + (U : Int)) = ((2 * Z + U : Nat) : Int):=by rw [IntKind.wrap_i64]; omega
  have ht : (L.map strC).take (2 * Z + U) = (L.take (2 * Z + U)).map strC:=by rw [List.map_take]
  have hl2 : min (2 * Z + U) L.length = 2 * Z + U:=by omega
  refine CallA1.fin ?_
  refine fun_sound okSr Tryz.func36 c36 ?_
  unfold wpF F36
  simp only [AH.SD,AH.SE,AOp.call?,AOp.next?,bstep,AV.cells,unAV,binAV,retQ,retV,AH.sliceElems,AH.bytesOf,AH.strOp,AH.bound,AH.missQ,AH.minmaxAV,AH.readOf,AH.effOf,simprocAttr,AH.SP,AH.PD,AV.inB,vstep,vw,shift,newOnes,rowsM,blkIn,rwB,@flat_lts,AV.lt,AV.lts,Nat.sub_self,AH.SO,siA,siM,w1,w2,z0L_eq,z0L_len,z0L_take,z0L_bytes,z64L_eq]
  iterate 4 (repeat ((with_reducible refine And.intro ?_ ?_); focus (first | rfl | decide | omega | (simp only [List.length_map,List.length_set,and_true]; omega))); try simp only [AH.SD,AH.SE,AOp.call?,AOp.next?,bstep,AV.cells,unAV,binAV,retQ,retV,AH.sliceElems,AH.bytesOf,AH.strOp,AH.bound,AH.missQ,AH.minmaxAV,AH.readOf,AH.effOf,simprocAttr,AH.SP,AH.PD,AV.inB,vstep,vw,shift,newOnes,rowsM,blkIn,rwB,@flat_lts,AV.lt,AV.lts,Nat.sub_self,AH.SO,w1,w2,z0L_eq,z0L_len,z0L_take,z0L_bytes,z64L_eq,ht,Int.toNat_natCast,List.length_map,List.length_take,hl2,List.nil_append,Nat.sub_zero,Nat.zero_add])
  refine loop_do [0,1,5] [9,8,7,1] [] (α:=Nat) (fun i =>L.length - i) (simSt ⟨s,b,a,U,R,L⟩ (2 * Z + U)) (fun i => 2 * Z + U ≤ i ∧ i ≤ L.length) (2 * Z + U) ⟨Nat.le_refl _,h⟩ (by simp only [AH.SD,AH.SE,AOp.call?,AOp.next?,bstep,AV.cells,unAV,binAV,retQ,retV,AH.sliceElems,AH.bytesOf,AH.strOp,AH.bound,AH.missQ,AH.minmaxAV,AH.readOf,AH.effOf,simprocAttr,AH.SP,AH.PD,AV.inB,vstep,simSt,siM,simL,Nat.sub_self,List.replicate_zero,List.append_nil,ht,z64L_lit,z64L_lit2]) ?_
  intro X i hi ih
  have hln:=simL_len (x:=⟨s,b,a,U,R,L⟩) hi.1 h
  simp only [AH.SD,AH.SE,AOp.call?,AOp.next?,bstep,AV.cells,unAV,binAV,retQ,retV,AH.sliceElems,AH.bytesOf,AH.strOp,AH.bound,AH.missQ,AH.minmaxAV,AH.readOf,AH.effOf,simprocAttr,AH.SP,AH.PD,AV.inB,vstep,vw,shift,newOnes,rowsM,blkIn,rwB,@flat_lts,AV.lt,AV.lts,Nat.sub_self,AH.SO,simSt,siM,List.cons_append,List.nil_append]
  refine ⟨fun hlt => ?_,fun hlt => ?_⟩
  · have hil:=lt_of_dec hlt
    have wi:=wrapS (i:=i) (by omega)
    have done:=ih (i + 1) ⟨by omega,hil⟩ (by omega)
    have htk : ((simL ⟨s,b,a,U,R,L⟩ (2 * Z + U) i).map strC).take i = (simL ⟨s,b,a,U,R,L⟩ (2 * Z + U) i).map strC:=List.take_of_length_le (by rw [List.length_map,hln]; exact Nat.le_refl _)
    simp only [simSt,siM,simL_succ hi.1,List.map_append,List.map_cons,List.map_nil,List.length_append,List.length_cons,List.length_nil,Nat.zero_add,strC_eq,List.cons_append,List.nil_append] at done
    simp only [AH.SD,AH.SE,AOp.call?,AOp.next?,bstep,AV.cells,unAV,binAV,retQ,retV,AH.sliceElems,AH.bytesOf,AH.strOp,AH.bound,AH.missQ,AH.minmaxAV,AH.readOf,AH.effOf,simprocAttr,AH.SP,AH.PD,AV.inB,vstep,vw,shift,newOnes,rowsM,blkIn,rwB,@flat_lts,AV.lt,AV.lts,Nat.sub_self,AH.SO,wi,Int.toNat_natCast,List.length_map,hln,htk,List.drop_zero]
    repeat ((with_reducible refine And.intro ?_ ?_); focus (first | rfl | decide | omega | (simp only [List.length_map,List.length_set,and_true]; omega)))
    try simp only [AH.SD,AH.SE,AOp.call?,AOp.next?,bstep,AV.cells,unAV,binAV,retQ,retV,AH.sliceElems,AH.bytesOf,AH.strOp,AH.bound,AH.missQ,AH.minmaxAV,AH.readOf,AH.effOf,simprocAttr,AH.SP,AH.PD,AV.inB,vstep,vw,shift,newOnes,rowsM,blkIn,rwB,@flat_lts,AV.lt,AV.lts,Nat.sub_self,AH.SO,wi,Int.toNat_natCast,List.length_map,hln,htk,List.drop_zero]
    repeat ((with_reducible refine And.intro ?_ ?_); focus (first | rfl | decide | omega | (simp only [List.length_map,List.length_set,and_true]; omega)))
    try simp only [AH.SD,AH.SE,AOp.call?,AOp.next?,bstep,AV.cells,unAV,binAV,retQ,retV,AH.sliceElems,AH.bytesOf,AH.strOp,AH.bound,AH.missQ,AH.minmaxAV,AH.readOf,AH.effOf,simprocAttr,AH.SP,AH.PD,AV.inB,vstep,vw,shift,newOnes,rowsM,blkIn,rwB,@flat_lts,AV.lt,AV.lts,Nat.sub_self,AH.SO,wi,Int.toNat_natCast,List.length_map,hln,htk,List.drop_zero]
    refine gc_auto [0,1,4] [9,8,7,1] [] ?_
    simp only [AH.SD,AH.SE,AOp.call?,AOp.next?,bstep,AV.cells,unAV,binAV,retQ,retV,AH.sliceElems,AH.bytesOf,AH.strOp,AH.bound,AH.missQ,AH.minmaxAV,AH.readOf,AH.effOf,simprocAttr,AH.SP,AH.PD,AV.inB,vstep,List.length_append,List.length_map,hln,List.length_cons,List.length_nil,Nat.zero_add]
    exact done
  · have : i = L.length:=by simp only [decide_eq_false_iff_not] at hlt; omega
    subst this
    simp only [AH.SD,AH.SE,AOp.call?,AOp.next?,bstep,AV.cells,unAV,binAV,retQ,retV,AH.sliceElems,AH.bytesOf,AH.strOp,AH.bound,AH.missQ,AH.minmaxAV,AH.readOf,AH.effOf,simprocAttr,AH.SP,AH.PD,AV.inB,vstep,vw,shift,newOnes,rowsM,blkIn,rwB,@flat_lts,AV.lt,AV.lts,Nat.sub_self,AH.SO]
    refine ⟨[0,1,2],[],?_⟩
    simp only [AH.SD,AH.SE,AOp.call?,AOp.next?,bstep,AV.cells,unAV,binAV,retQ,retV,AH.sliceElems,AH.bytesOf,AH.strOp,AH.bound,AH.missQ,AH.minmaxAV,AH.readOf,AH.effOf,simprocAttr,AH.SP,AH.PD,AV.inB,vstep]
    try simp
def kpE (Z to' : Nat) (B L : List ByteArray) (i : Nat) : ByteArray:=if 2 * Z ≤ i then zeB else if to' * Z ≤ i ∧ i < to' * Z + Z then (if B.length ≤ i - to' * Z then zeB else B.getD (i - to' * Z) ⟨#[]⟩) else L.getD i ⟨#[]⟩
def kpL (Z to' : Nat) (B L : List ByteArray) (i : Nat) : List ByteArray:=(List.range i).map (kpE Z to' B L)
theorem kpL_len {Z to' : Nat} {B L : List ByteArray} {i : Nat} : (kpL Z to' B L i).length = i:=by simp [kpL]
theorem kpL_succ {Z to' : Nat} {B L : List ByteArray} {i : Nat} : kpL Z to' B L (i + 1) = kpL Z to' B L i ++ [kpE Z to' B L i]:=by simp [kpL,List.range_succ]
theorem getD_l {l : List ByteArray} {i : Nat} (h : i < l.length) : l.getD i ⟨#[]⟩ = l[i]:=by simp [List.getD,h]
theorem kp_0 {Z : Nat} {B L : List ByteArray} (hB : B.length ≤ Z) (h2 : 2 * Z ≤ L.length) : kpL Z 0 B L L.length = (B ++ List.replicate (Z - B.length) zeB) ++ (L.drop Z).take Z ++ List.replicate (L.length - 2 * Z) zeB:=by
  refine List.ext_getElem (by simp [kpL]; omega) fun i g1 g2 => ?_
  rw [kpL_len] at g1
  simp only [kpL,List.getElem_map,List.getElem_range,kpE,Nat.zero_mul,Nat.zero_le,true_and,Nat.sub_zero,Nat.zero_add]
  by_cases c1 : 2 * Z ≤ i
  · rw [if_pos c1,List.getElem_append_right (by simp; omega),List.getElem_replicate]
  · rw [if_neg c1,List.getElem_append_left (by simp; omega)]
    by_cases c2 : i < Z
    · rw [if_pos c2,List.getElem_append_left (by simp; omega)]
      by_cases c3 : B.length ≤ i
      · rw [if_pos c3,List.getElem_append_right c3,List.getElem_replicate]
      · rw [if_neg c3,List.getElem_append_left (by omega),getD_l]
    · rw [if_neg c2,List.getElem_append_right (by simp; omega),List.getElem_take,List.getElem_drop,getD_l g1]
      congr 1
      simp; omega
theorem kp_1 {Z : Nat} {B L : List ByteArray} (hB : B.length ≤ Z) (h2 : 2 * Z ≤ L.length) : kpL Z 1 B L L.length = L.take Z ++ (B ++ List.replicate (Z - B.length) zeB) ++ List.replicate (L.length - 2 * Z) zeB:=by
  refine List.ext_getElem (by simp [kpL]; omega) fun i g1 g2 => ?_
  rw [kpL_len] at g1
  simp only [kpL,List.getElem_map,List.getElem_range,kpE,Nat.one_mul]
  by_cases c1 : 2 * Z ≤ i
  · rw [if_pos c1,List.getElem_append_right (by simp; omega),List.getElem_replicate]
  · rw [if_neg c1,List.getElem_append_left (by simp; omega)]
    by_cases c2 : i < Z
    · rw [if_neg (by omega),List.getElem_append_left (by simp; omega),List.getElem_take,getD_l g1]
    · rw [if_pos (by omega),List.getElem_append_right (by simp; omega)]
      have e : i - (L.take Z).length = i - Z:=by simp; omega
      by_cases c3 : B.length ≤ i - Z
      · rw [if_pos c3,List.getElem_append_right (by rw [e]; exact c3),List.getElem_replicate]
      · rw [if_neg c3,List.getElem_append_left (by rw [e]; omega),getD_l (by omega)]
        congr 1
        exact e.symm
def skSt (x : Si) (Z to' : Nat) (B : List ByteArray) (i : Nat) : St:=⟨[(14,.int .i64 i),(13,.slc 3 0 i none),(11,.slc 2 0 B.length none),(10,.int .i64 to'),(9,.str zeB),(2,.int .i64 Z),(1,.slc 1 0 x.L.length none)],siM x ++ [some (.row false 1 (B.map strC)),some (.row false 1 ((kpL Z to' B x.L i).map strC))]⟩
noncomputable abbrev okSk : CtxOK S0 (ctxE S0 [(22,rbksN)] [] [(22,rbksT)]):=ctxE_ok ⟨rbksN_ok,trivial⟩ trivial ⟨rbksT_ok,trivial⟩ mixed
def skI (x : Si) (Z : Nat) (t : ByteArray) : Prop:=okBl (x.b + (x.R.length : Int) + 1,t,()) ∧ sizeN t.size ≤ Z ∧ 2 * Z ≤ x.L.length ∧ x.L.length ≤ 4096 ∧ x.R.length ≤ 4096
instance (x : Si) (Z : Nat) (t : ByteArray) : Decidable (skI x Z t):=by unfold skI; infer_instance
set_option maxHeartbeats 8000000 in
theorem sk_loop (x : Si) (Z to' : Nat) (B : List ByteArray) (hto : to' ≤ 1) (hBZ : B.length ≤ Z) (h2 : 2 * Z ≤ x.L.length) (hL : x.L.length ≤ 4096) {Q : Exit → St → Prop} {st : St} {base : Nat} (hbase : base = 2)
    (h0 : (heads 2 0 [0,1,4,5] = true ∧ distN [0,1,4,5] = true) ∧ packB [0,1,4,5] st.mem [0,1,4,5] = true ∧ liveB [0,1,4,5] st.tm [14,13,11,10,9,2,1] = true ∧ wpV (fun s =>s = skSt x Z to' B 0) [.cap 13] (some ⟨packTm [0,1,4,5] st.tm [14,13,11,10,9,2,1],packM [0,1,4,5] st.mem [0,1,4,5]⟩))
    (hE : ∀ s : St,tget s.tm 13 = .slc 3 0 x.L.length none → s.mem = siM x ++ [some (.row false 1 (B.map strC)),some (.row false 1 ((kpL Z to' B x.L x.L.length).map strC))] → Q (.exit 0) s) :
    wpA { call:=(ctxE S0 [(22,rbksN)] [] [(22,rbksT)]).call,read:=(ctxE S0 [(22,rbksN)] [] [(22,rbksT)]).read,eff:=(ctxE S0 [(22,rbksN)] [] [(22,rbksT)]).eff,base:=base } (F39.body.at [true,true,true,true,true,true,false,true,true]) Q st:=by
  subst hbase
  obtain ⟨s,b,a,u,R,L⟩:=x
  simp only at h2 hL
  have wz2 : IntKind.i64.wrap (2 * (Z : Int)) = ((2 * Z : Nat) : Int):=by rw [IntKind.wrap_i64]; omega
  have wt : IntKind.i64.wrap ((to' : Int) * (Z : Int)) = ((to' * Z : Nat) : Int):=by
    obtain rfl | rfl : to' = 0 ∨ to' = 1:=by omega
    · rw [IntKind.wrap_i64]; omega
    · rw [IntKind.wrap_i64]; omega
  have htZ : to' * Z ≤ Z:=by
    obtain rfl | rfl : to' = 0 ∨ to' = 1:=by omega
    · omega
    · omega
  unfold F39
  simp only [ACode.at]
  refine loop_do [0,1,4,5] [14,13,11,10,9,2,1] [.cap 13] (α:=Nat) (fun i =>L.length - i) (skSt ⟨s,b,a,u,R,L⟩ Z to' B) (fun i =>i ≤ L.length) 0 (Nat.zero_le _) h0 ?_
  clear h0
  intro X i hi ih
  simp only [AH.SD,AH.SE,AOp.call?,AOp.next?,bstep,AV.cells,unAV,binAV,retQ,retV,AH.sliceElems,AH.bytesOf,AH.strOp,AH.bound,AH.missQ,AH.minmaxAV,AH.readOf,AH.effOf,simprocAttr,AH.SP,AH.PD,AV.inB,vstep,vw,shift,newOnes,rowsM,blkIn,rwB,@flat_lts,AV.lt,AV.lts,Nat.sub_self,AH.SO,skSt,siM,List.cons_append,List.nil_append]
  refine ⟨fun hlt => ?_,fun hlt => ?_⟩
  rotate_left
  · have : i = L.length:=by simp only [decide_eq_false_iff_not] at hlt; omega
    subst this
    exact hE _ rfl rfl
  have hil:=lt_of_dec hlt
  have wi:=wrapS (i:=i) (by omega)
  have wk : IntKind.i64.wrap ((i : Int) - ((to' * Z : Nat) : Int)) = (i : Int) - ((to' * Z : Nat) : Int):=by rw [IntKind.wrap_i64]; omega
  have done:=ih (i + 1) hil (by omega)
  have hln : (kpL Z to' B L i).length = i:=kpL_len
  have htk : ((kpL Z to' B L i).map strC).take i = (kpL Z to' B L i).map strC:=List.take_of_length_le (by rw [List.length_map,hln]; exact Nat.le_refl _)
  have hgi : (L.map strC).getD i [] = strC L[i]:=getD_enc hil
  simp only [skSt,siM,kpL_succ,List.map_append,List.map_cons,List.map_nil,List.length_append,List.length_cons,List.length_nil,Nat.zero_add,strC_eq,List.cons_append,List.nil_append] at done
  have hkp : kpE Z to' B L i = if 2 * Z ≤ i then zeB else if to' * Z ≤ i ∧ i < to' * Z + Z then (if B.length ≤ i - to' * Z then zeB else B.getD (i - to' * Z) ⟨#[]⟩) else L.getD i ⟨#[]⟩:=rfl
  generalize to' * Z = T at *
  cases c1 : decide ((i : Int) ≥ ((2 * Z : Nat) : Int))
  · have g1 : ¬ 2 * Z ≤ i:=by simp only [decide_eq_false_iff_not] at c1; omega
    rw [hkp,if_neg g1] at done
    by_cases g2 : T ≤ i ∧ i < T + Z
    · rw [if_pos g2] at done
      have c2 : decide ((i : Int) - (T : Int) ≥ 0) = true:=decide_eq_true (by omega)
      have c3 : decide ((i : Int) - (T : Int) < (Z : Int)) = true:=decide_eq_true (by omega)
      by_cases g3 : B.length ≤ i - T
      · rw [if_pos g3] at done
        have c4 : decide ((i : Int) - (T : Int) ≥ (B.length : Int)) = true:=decide_eq_true (by omega)
        simp only [AH.SD,AH.SE,AOp.call?,AOp.next?,bstep,AV.cells,unAV,binAV,retQ,retV,AH.sliceElems,AH.bytesOf,AH.strOp,AH.bound,AH.missQ,AH.minmaxAV,AH.readOf,AH.effOf,simprocAttr,AH.SP,AH.PD,AV.inB,vstep,vw,shift,newOnes,rowsM,blkIn,rwB,@flat_lts,AV.lt,AV.lts,Nat.sub_self,AH.SO,wz2,wt,wk,c1,wi,Int.toNat_natCast,List.length_map,hln,htk,List.drop_zero,c2,c3,c4]
        repeat ((with_reducible refine And.intro ?_ ?_); focus (first | rfl | decide | omega | (simp only [List.length_map,List.length_set,and_true]; omega)))
        try simp only [AH.SD,AH.SE,AOp.call?,AOp.next?,bstep,AV.cells,unAV,binAV,retQ,retV,AH.sliceElems,AH.bytesOf,AH.strOp,AH.bound,AH.missQ,AH.minmaxAV,AH.readOf,AH.effOf,simprocAttr,AH.SP,AH.PD,AV.inB,vstep,vw,shift,newOnes,rowsM,blkIn,rwB,@flat_lts,AV.lt,AV.lts,Nat.sub_self,AH.SO,wz2,wt,wk,c1,wi,Int.toNat_natCast,List.length_map,hln,htk,List.drop_zero,c2,c3,c4]
        repeat ((with_reducible refine And.intro ?_ ?_); focus (first | rfl | decide | omega | (simp only [List.length_map,List.length_set,and_true]; omega)))
        refine gc_auto [0,1,2,5] [14,13,11,10,9,2,1] [] ?_
        simp only [AH.SD,AH.SE,AOp.call?,AOp.next?,bstep,AV.cells,unAV,binAV,retQ,retV,AH.sliceElems,AH.bytesOf,AH.strOp,AH.bound,AH.missQ,AH.minmaxAV,AH.readOf,AH.effOf,simprocAttr,AH.SP,AH.PD,AV.inB,vstep,List.length_append,List.length_map,hln,List.length_cons,List.length_nil,Nat.zero_add]
        exact done
      · rw [if_neg g3,getD_l (by omega)] at done
        have c4 : decide ((i : Int) - (T : Int) ≥ (B.length : Int)) = false:=decide_eq_false (by omega)
        have hj : ((i : Int) - (T : Int)).toNat = i - T:=by omega
        have hgb : (B.map strC).getD (i - T) [] = strC B[i - T]:=getD_enc (by omega)
        simp only [AH.SD,AH.SE,AOp.call?,AOp.next?,bstep,AV.cells,unAV,binAV,retQ,retV,AH.sliceElems,AH.bytesOf,AH.strOp,AH.bound,AH.missQ,AH.minmaxAV,AH.readOf,AH.effOf,simprocAttr,AH.SP,AH.PD,AV.inB,vstep,vw,shift,newOnes,rowsM,blkIn,rwB,@flat_lts,AV.lt,AV.lts,Nat.sub_self,AH.SO,wz2,wt,wk,c1,wi,Int.toNat_natCast,List.length_map,hln,htk,List.drop_zero,c2,c3,c4,hj,hgb,strC_eq]
        iterate 3 (repeat ((with_reducible refine And.intro ?_ ?_); focus (first | rfl | decide | omega | (simp only [List.length_map,List.length_set,and_true]; omega))); try simp only [AH.SD,AH.SE,AOp.call?,AOp.next?,bstep,AV.cells,unAV,binAV,retQ,retV,AH.sliceElems,AH.bytesOf,AH.strOp,AH.bound,AH.missQ,AH.minmaxAV,AH.readOf,AH.effOf,simprocAttr,AH.SP,AH.PD,AV.inB,vstep,vw,shift,newOnes,rowsM,blkIn,rwB,@flat_lts,AV.lt,AV.lts,Nat.sub_self,AH.SO,wz2,wt,wk,c1,wi,Int.toNat_natCast,List.length_map,hln,htk,List.drop_zero,c2,c3,c4,hj,hgb,strC_eq])
        refine gc_auto [0,1,2,5] [14,13,11,10,9,2,1] [] ?_
        simp only [AH.SD,AH.SE,AOp.call?,AOp.next?,bstep,AV.cells,unAV,binAV,retQ,retV,AH.sliceElems,AH.bytesOf,AH.strOp,AH.bound,AH.missQ,AH.minmaxAV,AH.readOf,AH.effOf,simprocAttr,AH.SP,AH.PD,AV.inB,vstep,List.length_append,List.length_map,hln,List.length_cons,List.length_nil,Nat.zero_add]
        exact done
    · rw [if_neg g2,getD_l hil] at done
      by_cases g4 : T ≤ i
      · have c2 : decide ((i : Int) - (T : Int) ≥ 0) = true:=decide_eq_true (by omega)
        have c3 : decide ((i : Int) - (T : Int) < (Z : Int)) = false:=decide_eq_false (by omega)
        simp only [AH.SD,AH.SE,AOp.call?,AOp.next?,bstep,AV.cells,unAV,binAV,retQ,retV,AH.sliceElems,AH.bytesOf,AH.strOp,AH.bound,AH.missQ,AH.minmaxAV,AH.readOf,AH.effOf,simprocAttr,AH.SP,AH.PD,AV.inB,vstep,vw,shift,newOnes,rowsM,blkIn,rwB,@flat_lts,AV.lt,AV.lts,Nat.sub_self,AH.SO,wz2,wt,wk,c1,wi,Int.toNat_natCast,List.length_map,hln,htk,List.drop_zero,c2,c3,hgi,strC_eq]
        iterate 3 (repeat ((with_reducible refine And.intro ?_ ?_); focus (first | rfl | decide | omega | (simp only [List.length_map,List.length_set,and_true]; omega))); try simp only [AH.SD,AH.SE,AOp.call?,AOp.next?,bstep,AV.cells,unAV,binAV,retQ,retV,AH.sliceElems,AH.bytesOf,AH.strOp,AH.bound,AH.missQ,AH.minmaxAV,AH.readOf,AH.effOf,simprocAttr,AH.SP,AH.PD,AV.inB,vstep,vw,shift,newOnes,rowsM,blkIn,rwB,@flat_lts,AV.lt,AV.lts,Nat.sub_self,AH.SO,wz2,wt,wk,c1,wi,Int.toNat_natCast,List.length_map,hln,htk,List.drop_zero,c2,c3,hgi,strC_eq])
        refine gc_auto [0,1,2,5] [14,13,11,10,9,2,1] [] ?_
        simp only [AH.SD,AH.SE,AOp.call?,AOp.next?,bstep,AV.cells,unAV,binAV,retQ,retV,AH.sliceElems,AH.bytesOf,AH.strOp,AH.bound,AH.missQ,AH.minmaxAV,AH.readOf,AH.effOf,simprocAttr,AH.SP,AH.PD,AV.inB,vstep,List.length_append,List.length_map,hln,List.length_cons,List.length_nil,Nat.zero_add]
        exact done
      · have c2 : decide ((i : Int) - (T : Int) ≥ 0) = false:=decide_eq_false (by omega)
        simp only [AH.SD,AH.SE,AOp.call?,AOp.next?,bstep,AV.cells,unAV,binAV,retQ,retV,AH.sliceElems,AH.bytesOf,AH.strOp,AH.bound,AH.missQ,AH.minmaxAV,AH.readOf,AH.effOf,simprocAttr,AH.SP,AH.PD,AV.inB,vstep,vw,shift,newOnes,rowsM,blkIn,rwB,@flat_lts,AV.lt,AV.lts,Nat.sub_self,AH.SO,wz2,wt,wk,c1,wi,Int.toNat_natCast,List.length_map,hln,htk,List.drop_zero,c2,hgi,strC_eq]
        iterate 3 (repeat ((with_reducible refine And.intro ?_ ?_); focus (first | rfl | decide | omega | (simp only [List.length_map,List.length_set,and_true]; omega))); try simp only [AH.SD,AH.SE,AOp.call?,AOp.next?,bstep,AV.cells,unAV,binAV,retQ,retV,AH.sliceElems,AH.bytesOf,AH.strOp,AH.bound,AH.missQ,AH.minmaxAV,AH.readOf,AH.effOf,simprocAttr,AH.SP,AH.PD,AV.inB,vstep,vw,shift,newOnes,rowsM,blkIn,rwB,@flat_lts,AV.lt,AV.lts,Nat.sub_self,AH.SO,wz2,wt,wk,c1,wi,Int.toNat_natCast,List.length_map,hln,htk,List.drop_zero,c2,hgi,strC_eq])
        refine gc_auto [0,1,2,5] [14,13,11,10,9,2,1] [] ?_
        simp only [AH.SD,AH.SE,AOp.call?,AOp.next?,bstep,AV.cells,unAV,binAV,retQ,retV,AH.sliceElems,AH.bytesOf,AH.strOp,AH.bound,AH.missQ,AH.minmaxAV,AH.readOf,AH.effOf,simprocAttr,AH.SP,AH.PD,AV.inB,vstep,List.length_append,List.length_map,hln,List.length_cons,List.length_nil,Nat.zero_add]
        exact done
  · have g1 : 2 * Z ≤ i:=by simp only [decide_eq_true_eq] at c1; omega
    rw [hkp,if_pos g1] at done
    simp only [AH.SD,AH.SE,AOp.call?,AOp.next?,bstep,AV.cells,unAV,binAV,retQ,retV,AH.sliceElems,AH.bytesOf,AH.strOp,AH.bound,AH.missQ,AH.minmaxAV,AH.readOf,AH.effOf,simprocAttr,AH.SP,AH.PD,AV.inB,vstep,vw,shift,newOnes,rowsM,blkIn,rwB,@flat_lts,AV.lt,AV.lts,Nat.sub_self,AH.SO,wz2,wt,wk,c1,wi,Int.toNat_natCast,List.length_map,hln,htk,List.drop_zero]
    repeat ((with_reducible refine And.intro ?_ ?_); focus (first | rfl | decide | omega | (simp only [List.length_map,List.length_set,and_true]; omega)))
    try simp only [AH.SD,AH.SE,AOp.call?,AOp.next?,bstep,AV.cells,unAV,binAV,retQ,retV,AH.sliceElems,AH.bytesOf,AH.strOp,AH.bound,AH.missQ,AH.minmaxAV,AH.readOf,AH.effOf,simprocAttr,AH.SP,AH.PD,AV.inB,vstep,vw,shift,newOnes,rowsM,blkIn,rwB,@flat_lts,AV.lt,AV.lts,Nat.sub_self,AH.SO,wz2,wt,wk,c1,wi,Int.toNat_natCast,List.length_map,hln,htk,List.drop_zero]
    repeat ((with_reducible refine And.intro ?_ ?_); focus (first | rfl | decide | omega | (simp only [List.length_map,List.length_set,and_true]; omega)))
    refine gc_auto [0,1,2,5] [14,13,11,10,9,2,1] [] ?_
    simp only [AH.SD,AH.SE,AOp.call?,AOp.next?,bstep,AV.cells,unAV,binAV,retQ,retV,AH.sliceElems,AH.bytesOf,AH.strOp,AH.bound,AH.missQ,AH.minmaxAV,AH.readOf,AH.effOf,simprocAttr,AH.SP,AH.PD,AV.inB,vstep,List.length_append,List.length_map,hln,List.length_cons,List.length_nil,Nat.zero_add]
    exact done
set_option maxHeartbeats 8000000 in
theorem skp_ok (x : Si) (Z : Nat) (t : ByteArray) (h : skI x Z t) : CallA1 S0 39 (siA 0 1 x [.int .i64 Z,.str t]) (siM x)
    fun r m =>r = .slc 2 0 x.L.length none ∧ m = siM x ++ [some (.row false 1 ((kpL Z (if x.a = 0 then 1 else 0) (blkL (x.b + (x.R.length : Int) + 1) t (sizeN t.size)) x.L x.L.length).map strC))]:=by
  obtain ⟨s,b,a,u,R,L⟩:=x
  obtain ⟨ho,hZ,h2,hL,hR⟩:=h
  simp only at ho hZ h2 hL hR
  obtain ⟨o1,o2,o3⟩:=id ho
  simp only at o1 o2 o3
  have w1 : IntKind.i64.wrap (b + (R.length : Int)) = b + (R.length : Int):=by rw [IntKind.wrap_i64]; omega
  have w2 : IntKind.i64.wrap (b + (R.length : Int) + 1) = b + (R.length : Int) + 1:=by rw [IntKind.wrap_i64]; omega
  have hbl:=blkL_len (b + (R.length : Int) + 1) t (sizeN t.size)
  have hbk : okBl (b + (R.length : Int) + 1,t,()):=ho
  simp only
  generalize hB : blkL (b + (R.length : Int) + 1) t (sizeN t.size) = B at *
  have hs0:=fun (to' : Nat) =>show (skSt ⟨s,b,a,u,R,L⟩ Z to' B 0) = ⟨[(14,.int .i64 0),(13,.slc 3 0 0 none),(11,.slc 2 0 B.length none),(10,.int .i64 to'),(9,.str zeB),(2,.int .i64 Z),(1,.slc 1 0 L.length none)],[some (.row true 1 (R.map strC)),some (.row true 1 (L.map strC)),some (.row false 1 (B.map strC)),some (.row false 1 [])]⟩ from rfl
  refine CallA1.fin ?_
  refine fun_sound okSk Tryz.func39 c39 ?_
  unfold wpF F39
  by_cases ha : a = 0
  · have ca : (a == 0) = true:=by simp [ha]
    simp only [if_pos ha]
    simp only [AH.SD,AH.SE,AOp.call?,AOp.next?,bstep,AV.cells,unAV,binAV,retQ,retV,AH.sliceElems,AH.bytesOf,AH.strOp,AH.bound,AH.missQ,AH.minmaxAV,AH.readOf,AH.effOf,simprocAttr,AH.SP,AH.PD,AV.inB,vstep,vw,shift,newOnes,rowsM,blkIn,rwB,@flat_lts,AV.lt,AV.lts,Nat.sub_self,AH.SO,siA,siM,w1,w2,rbksN_p,rtC1,rbksT_p,hbk,not_true_eq_false,if_false,if_true,hB,z0L_eq,z0L_len,z0L_take,z0L_bytes,z64L_eq,Int.toNat_natCast,List.length_map,List.nil_append,List.cons_append,Nat.sub_zero,Nat.zero_add,ca]
    iterate 4 (repeat ((with_reducible refine And.intro ?_ ?_); focus (first | rfl | decide | omega | (simp only [List.length_map,List.length_set,and_true]; omega))); try simp only [AH.SD,AH.SE,AOp.call?,AOp.next?,bstep,AV.cells,unAV,binAV,retQ,retV,AH.sliceElems,AH.bytesOf,AH.strOp,AH.bound,AH.missQ,AH.minmaxAV,AH.readOf,AH.effOf,simprocAttr,AH.SP,AH.PD,AV.inB,vstep,vw,shift,newOnes,rowsM,blkIn,rwB,@flat_lts,AV.lt,AV.lts,Nat.sub_self,AH.SO,siA,siM,w1,w2,rbksN_p,rtC1,rbksT_p,hbk,not_true_eq_false,if_false,if_true,hB,z0L_eq,z0L_len,z0L_take,z0L_bytes,z64L_eq,Int.toNat_natCast,List.length_map,List.nil_append,List.cons_append,Nat.sub_zero,Nat.zero_add,ca])
    refine loop_atL (sk_loop ⟨s,b,a,u,R,L⟩ Z 1 B (Nat.le_refl _) (by omega) h2 hL rfl (by rw [hs0,hbl]; simp only [AH.SD,AH.SE,AOp.call?,AOp.next?,bstep,AV.cells,unAV,binAV,retQ,retV,AH.sliceElems,AH.bytesOf,AH.strOp,AH.bound,AH.missQ,AH.minmaxAV,AH.readOf,AH.effOf,simprocAttr,AH.SP,AH.PD,AV.inB,vstep,z64L_lit,z64L_lit2]) ?_) (by unfold F39; rfl)
    intro st h1 h2
    simp only [AH.SD,AH.SE,AOp.call?,AOp.next?,bstep,AV.cells,unAV,binAV,retQ,retV,AH.sliceElems,AH.bytesOf,AH.strOp,AH.bound,AH.missQ,AH.minmaxAV,AH.readOf,AH.effOf,simprocAttr,AH.SP,AH.PD,AV.inB,vstep,vw,shift,newOnes,rowsM,blkIn,rwB,@flat_lts,AV.lt,AV.lts,Nat.sub_self,AH.SO,h1,h2,siM,List.cons_append,List.nil_append]
    refine ⟨[0,1,3],[],?_⟩
    simp only [AH.SD,AH.SE,AOp.call?,AOp.next?,bstep,AV.cells,unAV,binAV,retQ,retV,AH.sliceElems,AH.bytesOf,AH.strOp,AH.bound,AH.missQ,AH.minmaxAV,AH.readOf,AH.effOf,simprocAttr,AH.SP,AH.PD,AV.inB,vstep]
    try simp
  · have ca : (a == 0) = false:=by simp [ha]
    simp only [if_neg ha]
    simp only [AH.SD,AH.SE,AOp.call?,AOp.next?,bstep,AV.cells,unAV,binAV,retQ,retV,AH.sliceElems,AH.bytesOf,AH.strOp,AH.bound,AH.missQ,AH.minmaxAV,AH.readOf,AH.effOf,simprocAttr,AH.SP,AH.PD,AV.inB,vstep,vw,shift,newOnes,rowsM,blkIn,rwB,@flat_lts,AV.lt,AV.lts,Nat.sub_self,AH.SO,siA,siM,w1,w2,rbksN_p,rtC1,rbksT_p,hbk,not_true_eq_false,if_false,if_true,hB,z0L_eq,z0L_len,z0L_take,z0L_bytes,z64L_eq,Int.toNat_natCast,List.length_map,List.nil_append,List.cons_append,Nat.sub_zero,Nat.zero_add,ca]
    iterate 4 (repeat ((with_reducible refine And.intro ?_ ?_); focus (first | rfl | decide | omega | (simp only [List.length_map,List.length_set,and_true]; omega))); try simp only [AH.SD,AH.SE,AOp.call?,AOp.next?,bstep,AV.cells,unAV,binAV,retQ,retV,AH.sliceElems,AH.bytesOf,AH.strOp,AH.bound,AH.missQ,AH.minmaxAV,AH.readOf,AH.effOf,simprocAttr,AH.SP,AH.PD,AV.inB,vstep,vw,shift,newOnes,rowsM,blkIn,rwB,@flat_lts,AV.lt,AV.lts,Nat.sub_self,AH.SO,siA,siM,w1,w2,rbksN_p,rtC1,rbksT_p,hbk,not_true_eq_false,if_false,if_true,hB,z0L_eq,z0L_len,z0L_take,z0L_bytes,z64L_eq,Int.toNat_natCast,List.length_map,List.nil_append,List.cons_append,Nat.sub_zero,Nat.zero_add,ca])
    refine loop_atL (sk_loop ⟨s,b,a,u,R,L⟩ Z 0 B (Nat.zero_le _) (by omega) h2 hL rfl (by rw [hs0,hbl]; simp only [AH.SD,AH.SE,AOp.call?,AOp.next?,bstep,AV.cells,unAV,binAV,retQ,retV,AH.sliceElems,AH.bytesOf,AH.strOp,AH.bound,AH.missQ,AH.minmaxAV,AH.readOf,AH.effOf,simprocAttr,AH.SP,AH.PD,AV.inB,vstep,z64L_lit,z64L_lit2]) ?_) (by unfold F39; rfl)
    intro st h1 h2
    simp only [AH.SD,AH.SE,AOp.call?,AOp.next?,bstep,AV.cells,unAV,binAV,retQ,retV,AH.sliceElems,AH.bytesOf,AH.strOp,AH.bound,AH.missQ,AH.minmaxAV,AH.readOf,AH.effOf,simprocAttr,AH.SP,AH.PD,AV.inB,vstep,vw,shift,newOnes,rowsM,blkIn,rwB,@flat_lts,AV.lt,AV.lts,Nat.sub_self,AH.SO,h1,h2,siM,List.cons_append,List.nil_append]
    refine ⟨[0,1,3],[],?_⟩
    simp only [AH.SD,AH.SE,AOp.call?,AOp.next?,bstep,AV.cells,unAV,binAV,retQ,retV,AH.sliceElems,AH.bytesOf,AH.strOp,AH.bound,AH.missQ,AH.minmaxAV,AH.readOf,AH.effOf,simprocAttr,AH.SP,AH.PD,AV.inB,vstep]
    try simp
def simC (x : Si × Int × Unit) : Prop:=0 ≤ x.1.u ∧ 0 ≤ x.2.1 ∧ 2 * x.2.1 + x.1.u ≤ (x.1.L.length : Int) ∧ x.1.L.length ≤ 4096
instance (x : Si × Int × Unit) : Decidable (simC x):=by unfold simC; infer_instance
def simE : ET:=etL (siO (cC (AH.aI .i64) c0)) fun x =>if simC x then some (.slc 2 0 x.1.L.length none,siM x.1 ++ [some (.row false 1 ((simL x.1 (2 * x.2.1.toNat + x.1.u.toNat) x.1.L.length).map strC))]) else none
theorem simE_ok : EffF S0 36 simE:=etL_ok fun x v m' h =>by
  split at h
  · rename_i hl
    obtain ⟨h1,h2,h3,h4⟩:=hl
    simp only [Option.some.injEq,Prod.mk.injEq] at h
    obtain ⟨rfl,rfl⟩:=h
    obtain ⟨⟨s,b,a,u,R,L⟩,z,e⟩:=x
    simp only at h1 h2 h3 h4
    obtain ⟨Z,rfl⟩:=Int.eq_ofNat_of_zero_le h2
    obtain ⟨U,rfl⟩:=Int.eq_ofNat_of_zero_le h1
    exact ⟨⟨by simp [siO,siM],rfl⟩,simg_ok ⟨s,b,a,U,R,L⟩ Z U rfl (by simp only; omega) h4⟩
  · cases h
theorem simE_p {s : ByteArray} {b a u z : Int} {r rn l ln n : Nat} {M : Nat → Option Blk} : simE [.agg [.str s,.int .i64 b,.int .i64 a,.slc r 0 rn none,.int .i64 u],.slc l 0 ln none,.int .i64 z] M n =
    etL2 n (fun (x : Si × Int × Unit) =>if simC x then some (.slc 2 0 x.1.L.length none,siM x.1 ++ [some (.row false 1 ((simL x.1 (2 * x.2.1.toNat + x.1.u.toNat) x.1.L.length).map strC))]) else none) (siS s b a u r rn l ln (M r) (M l) (some (z,()))):=by
  simp only [simE,etL_eq,siO_dec,cC_dec,aI_dec,c0_dec,pairO_some]
def skpC (x : Si × Int × ByteArray × Unit) : Prop:=0 ≤ x.2.1 ∧ skI x.1 x.2.1.toNat x.2.2.1
instance (x : Si × Int × ByteArray × Unit) : Decidable (skpC x):=by unfold skpC; infer_instance
def skpL (x : Si × Int × ByteArray × Unit) : List ByteArray:=kpL x.2.1.toNat (if x.1.a = 0 then 1 else 0) (blkL (x.1.b + (x.1.R.length : Int) + 1) x.2.2.1 (sizeN x.2.2.1.size)) x.1.L x.1.L.length
def skpE' : ET:=etL (siO (cC (AH.aI .i64) (cC aS c0))) fun x =>if skpC x then some (.slc 2 0 x.1.L.length none,siM x.1 ++ [some (.row false 1 ((skpL x).map strC))]) else none
theorem skpE_ok : EffF S0 39 skpE':=etL_ok fun x v m' h =>by
  split at h
  · rename_i hl
    obtain ⟨h1,h2⟩:=hl
    simp only [Option.some.injEq,Prod.mk.injEq] at h
    obtain ⟨rfl,rfl⟩:=h
    obtain ⟨⟨s,b,a,u,R,L⟩,z,t,e⟩:=x
    simp only at h1 h2
    obtain ⟨Z,rfl⟩:=Int.eq_ofNat_of_zero_le h1
    exact ⟨⟨by simp [siO,siM],rfl⟩,skp_ok ⟨s,b,a,u,R,L⟩ Z t h2⟩
  · cases h
theorem skpE_p {s t : ByteArray} {b a u z : Int} {r rn l ln n : Nat} {M : Nat → Option Blk} : skpE' [.agg [.str s,.int .i64 b,.int .i64 a,.slc r 0 rn none,.int .i64 u],.slc l 0 ln none,.int .i64 z,.str t] M n =
    etL2 n (fun (x : Si × Int × ByteArray × Unit) =>if skpC x then some (.slc 2 0 x.1.L.length none,siM x.1 ++ [some (.row false 1 ((skpL x).map strC))]) else none) (siS s b a u r rn l ln (M r) (M l) (some (z,t,()))):=by
  simp only [skpE',etL_eq,siO_dec,cC_dec,aI_dec,aS_dec,c0_dec,pairO_some]
end Go.Proofs.YthapdikdeoeplaaGreatDoor.Z7
end
section
set_option linter.unusedVariables false
set_option linter.unnecessarySimpa false
open Go AH
set_option linter.unusedSimpArgs false
set_option maxRecDepth 100000
namespace Go.Proofs.YthapdikdeoeplaaGreatDoor.Z7
noncomputable abbrev tSh : List (FuncId × RT):=[(25,sopN),(32,stateT),(38,seqT),(34,srecN),(29,sadN),(37,saT)]
noncomputable abbrev eSh : List (FuncId × ET):=[(24,newT),(25,sopT),(34,srecT),(29,sadT),(27,keepT)]
theorem tSh_ok : AllF S0 tSh:=⟨sopN_ok,stateT_ok,seqT_ok,srecN_ok,sadN_ok,saT_ok,trivial⟩
theorem eSh_ok : AllE S0 eSh:=⟨newT_ok,sopT_ok,srecT_ok,sadT_ok,keepT_ok,trivial⟩
theorem okSh0 : CtxOK S0 (ctxE S0 tSh [] eSh):=ctxE_ok tSh_ok trivial eSh_ok mixed
theorem rep3 (Z n : Nat) : List.replicate (2 * Z + n) zeB = lgL (List.replicate Z zeB ++ List.replicate Z zeB) (frs (0 + 1) []) [] n:=by
  simp only [lgL,frs,List.length_nil,Nat.sub_zero,List.nil_append,List.append_nil,List.replicate_append_replicate]
  congr 1; omega
theorem newSt {Z n : Nat} (h : 2 * Z + n ≤ 4096) : newD ((2 * Z + n : Nat) : Int) = stD (List.replicate Z zeB) (List.replicate Z zeB) 0 [] n 0:=by
  rw [newD_rep h,rep3]; rfl
theorem stI_0 {Z n : Nat} (h1 : 1 ≤ Z) (h2 : Z ≤ 100) (h3 : 0 < n) (h4 : n ≤ 3000) : stI (List.replicate Z zeB) (List.replicate Z zeB) ⟨#[]⟩ 0 (-1) [] n Z :=
  ⟨by simp,by simp,h1,h2,h3,h4,fun x hx =>by rw [(List.mem_replicate.1 hx).2]; exact zeB_sz,fun x hx =>by rw [(List.mem_replicate.1 hx).2]; exact zeB_sz,by decide,.inl ⟨rfl,rfl,rfl,rdZ_zes _,rdZ_zes _⟩,Nat.zero_le _,fun x hx =>by cases hx⟩
theorem stX_eta (P Q : List ByteArray) (s : ByteArray) (b a : Int) (W : List ByteArray) (n : Nat) (w : Int) : (⟨(stX P Q s b a W n w).g.d,(stX P Q s b a W n w).g.f,(stX P Q s b a W n w).g.t,(stX P Q s b a W n w).g.b,(stX P Q s b a W n w).g.a,(stX P Q s b a W n w).g.R,false⟩ : Lg) = (stX P Q s b a W n w).g:=rfl
def oneS : ByteArray:=⟨#[111,110,101]⟩
def twoS : ByteArray:=⟨#[116,119,111]⟩
def bothS : ByteArray:=⟨#[98,111,116,104]⟩
def threeS : ByteArray:=⟨#[116,104,114,101,101]⟩
theorem sm_1 {i j n1 : Nat} {r1 r2 : Bool} {L1 : List ByteArray} {x : ByteArray} (h1 : n1 = L1.length) (h3 : L1.length ≤ 1048576) (hL : L1 = [x]) : rt2Q 1 1 cStr cStr (fun L1 L2 (_ : Unit) => .bool (decide (L1 = L2))) n1 i 1 j (some (.row r1 1 (L1.map strC))) (some (.row r2 1 [[.str x]])) (some ()) = some (.bool true,[i,j]):=by
  have:=saQ_eq (i:=i) (j:=j) (r1:=r1) (r2:=r2) (L1:=L1) (L2:=[x]) h1 rfl h3 (by simp)
  rw [decide_eq_true hL] at this
  exact this
set_option maxHeartbeats 8000000 in
theorem sawake_ok : Pure S0 23 [] (.bool true):=by
  have n20 : newD 20 = stD (List.replicate 3 zeB) (List.replicate 3 zeB) 0 [] 14 0:=newSt (Z:=3) (n:=14) (by decide)
  have i0:=stI_0 (Z:=3) (n:=14) (by decide) (by decide) (by decide) (by decide)
  generalize List.replicate 3 zeB = P0 at *
  have d0:=i0.dok (w:=0)
  obtain ⟨w1,e1⟩:=i0.open (w:=0)
  have g1:=i0.gok (w:=w1)
  obtain ⟨⟨w2,e2,k2⟩,i2⟩:=i0.add (w:=w1) (r:=oneS) (by decide) (by decide) (by decide)
  have g2:=i2.gok (w:=w2)
  obtain ⟨⟨w3,e3,k3⟩,i3⟩:=i2.add (w:=w2) (r:=twoS) (by decide) (by decide) (by decide)
  have o3:=i3.ok (w:=w3)
  obtain ⟨P,Q,w4,e4,i4,_⟩:=i3.keep (w:=w3) (r:=bothS) (by decide) (by decide)
  have g4:=i4.gok (w:=w4)
  obtain ⟨⟨w5,e5,k5⟩,i5⟩:=i4.add (w:=w4) (r:=threeS) (by decide) (by decide) (by decide)
  have d5:=i5.dok (w:=w5)
  obtain ⟨w6,e6⟩:=i5.open (w:=w5)
  have g6:=i5.gok (w:=w6)
  have E1:=stX_eta P0 P0 ⟨#[]⟩ 0 (-1) [] 14 w1
  have E6:=stX_eta P Q bothS (0 + (([] ++ [oneS] ++ [twoS] : List ByteArray).length : Int) + 1) (if (-1 : Int) = 0 then 1 else 0) ([] ++ [threeS]) 14 w6
  have s6 : (stX P Q bothS (0 + (([] ++ [oneS] ++ [twoS] : List ByteArray).length : Int) + 1) (if (-1 : Int) = 0 then 1 else 0) ([] ++ [threeS]) 14 w6).s = bothS:=rfl
  have q6 : (stX P Q bothS (0 + (([] ++ [oneS] ++ [twoS] : List ByteArray).length : Int) + 1) (if (-1 : Int) = 0 then 1 else 0) ([] ++ [threeS]) 14 w6).seq = 4:=rfl
  have r6 : (stX P Q bothS (0 + (([] ++ [oneS] ++ [twoS] : List ByteArray).length : Int) + 1) (if (-1 : Int) = 0 then 1 else 0) ([] ++ [threeS]) 14 w6).g.R = [threeS]:=rfl
  have D0 : stD P0 P0 0 [] 14 0 = (stX P0 P0 ⟨#[]⟩ 0 (-1) [] 14 0).g.d:=rfl
  have f1 : (stX P0 P0 ⟨#[]⟩ 0 (-1) [] 14 w1).down = false:=rfl
  have f2 : (stX P0 P0 ⟨#[]⟩ 0 (-1) ([] ++ [oneS]) 14 w2).down = false:=rfl
  have f4 : (stX P Q bothS (0 + (([] ++ [oneS] ++ [twoS] : List ByteArray).length : Int) + 1) (if (-1 : Int) = 0 then 1 else 0) [] 14 w4).down = false:=rfl
  have D5 : stD P Q (0 + (([] ++ [oneS] ++ [twoS] : List ByteArray).length : Int) + 1) ([] ++ [threeS]) 14 w5 = (stX P Q bothS (0 + (([] ++ [oneS] ++ [twoS] : List ByteArray).length : Int) + 1) (if (-1 : Int) = 0 then 1 else 0) ([] ++ [threeS]) 14 w5).g.d:=rfl
  rw [D5] at e6 d5
  have c1 : stG P0 P0 0 [] 14 w1 = (stX P0 P0 ⟨#[]⟩ 0 (-1) [] 14 w1).g:=rfl
  have c2 : stG P0 P0 0 ([] ++ [oneS]) 14 w2 = (stX P0 P0 ⟨#[]⟩ 0 (-1) ([] ++ [oneS]) 14 w2).g:=rfl
  have c4 : stG P Q (0 + (([] ++ [oneS] ++ [twoS] : List ByteArray).length : Int) + 1) [] 14 w4 = (stX P Q bothS (0 + (([] ++ [oneS] ++ [twoS] : List ByteArray).length : Int) + 1) (if (-1 : Int) = 0 then 1 else 0) [] 14 w4).g:=rfl
  have c6 : stG P Q (0 + (([] ++ [oneS] ++ [twoS] : List ByteArray).length : Int) + 1) ([] ++ [threeS]) 14 w6 = (stX P Q bothS (0 + (([] ++ [oneS] ++ [twoS] : List ByteArray).length : Int) + 1) (if (-1 : Int) = 0 then 1 else 0) ([] ++ [threeS]) 14 w6).g:=rfl
  rw [c1] at g1; rw [c2] at g2; rw [c4] at g4; rw [c6] at g6
  generalize stX P0 P0 ⟨#[]⟩ 0 (-1) [] 14 w1 = X1 at *
  generalize stX P0 P0 ⟨#[]⟩ 0 (-1) ([] ++ [oneS]) 14 w2 = X2 at *
  generalize stX P0 P0 ⟨#[]⟩ 0 (-1) ([] ++ [oneS] ++ [twoS]) 14 w3 = X3 at *
  generalize stX P Q bothS (0 + (([] ++ [oneS] ++ [twoS] : List ByteArray).length : Int) + 1) (if (-1 : Int) = 0 then 1 else 0) [] 14 w4 = X4 at *
  generalize stX P Q bothS (0 + (([] ++ [oneS] ++ [twoS] : List ByteArray).length : Int) + 1) (if (-1 : Int) = 0 then 1 else 0) ([] ++ [threeS]) 14 w5 = X5 at *
  generalize stX P Q bothS (0 + (([] ++ [oneS] ++ [twoS] : List ByteArray).length : Int) + 1) (if (-1 : Int) = 0 then 1 else 0) ([] ++ [threeS]) 14 w6 = X6 at *
  generalize stD P0 P0 0 [] 14 0 = DD at *
  have m2 : sadM X1 oneS = soM2 none X2:=by unfold sadM; rw [if_pos ⟨f1,k2⟩,e2]
  have m3 : sadM X2 twoS = soM2 none X3:=by unfold sadM; rw [if_pos ⟨f2,k3⟩,e3]
  have m5 : sadM X4 threeS = soM2 none X5:=by unfold sadM; rw [if_pos ⟨f4,k5⟩,e5]
  clear f1 f2 f4 k2 k3 k5
  clear D0 D5 c1 c2 c4 c6 i0 i2 i3 i4 i5
  have hl6 : X6.g.R.length ≤ 1048576:=by rw [r6]; decide
  have hs6 : (X6.s.toList == bothS.toList) = true:=by rw [s6]; exact tl_self _
  have z1 : okSz oneS:=okSz_of (by decide)
  have z2 : okSz twoS:=okSz_of (by decide)
  have z3 : okSz bothS:=okSz_of (by decide)
  have z4 : okSz threeS:=okSz_of (by decide)
  have y1 : (⟨#[111,110,101]⟩ : ByteArray) = oneS:=rfl
  have y2 : (⟨#[116,119,111]⟩ : ByteArray) = twoS:=rfl
  have y3 : (⟨#[98,111,116,104]⟩ : ByteArray) = bothS:=rfl
  have y4 : (⟨#[116,104,114,101,101]⟩ : ByteArray) = threeS:=rfl
  have k3' : ((3 : Nat) : Int) = 3:=rfl
  rw [k3'] at e1 e6
  refine fun_sound okSh0 Tryz.func23 c23 ?_
  unfold wpF F23
  simp only [AH.SD,AH.SE,AOp.call?,AOp.next?,bstep,AV.cells,unAV,binAV,retQ,retV,AH.sliceElems,AH.bytesOf,AH.strOp,AH.bound,AH.missQ,AH.minmaxAV,AH.readOf,AH.effOf,Nat.reduceBEq,Nat.reduceAdd,Nat.reduceLT,↓reduceIte,Nat.reduceEqDiff,Nat.reduceLeDiff,Nat.reduceSub,Nat.reduceMul,Int.reduceSub,Int.reduceToNat,Int.reduceBEq,Int.reduceBNe,Int.reduceLT,Int.reduceGT,Int.reduceLE,Int.reduceGE,Int.reduceNeg,Int.reduceAdd,AH.SP,AH.PD,AV.inB,vstep,vw,shift,newOnes,rowsM,blkIn,rwB,@flat_lts,AV.lt,AV.lts,Nat.sub_self,AH.SO,newT_eq,n20,dkM,sopN_p,sopT_p,lgR_eq,lgU_eq,Lg.eta,ne4,no4,soR_eq,soS_eq,So.eta,Bool.not_false,Bool.and_self,if_true,dkR_eq,dkB_eq,Dk.eta,ne_eq,Nat.reduceEqDiff,Nat.zero_ne_one,not_false_eq_true,d0,e1,sopA,sopM,E1,y1,y2,y3,y4,sadN_p,sadT_p,g1,g2,g4,z1,z2,z3,z4,and_self,e2,e3,e4,e5,e6,m2,m3,m5,soM2,errA0,errA_ren,errA_nil,keepT_p,o3,keepM,d5,E6,stateT_p,hs6,srecN_p,srecT_p,hl6,soM,saT_p,sm_1 rfl hl6 r6,seqT_p,g6,q6,List.cons_append,List.nil_append,show ((4 : Int) == 4) = true from rfl]
  try trivial
def sawakeT : RT:=rtP c0 fun _ => .bool true
theorem sawakeT_ok : ReadF S0 23 sawakeT:=rtP_ok (fun _ =>sawake_ok) fun _ =>rfl
theorem sawakeT_eq (M : Nat → Option Blk) : sawakeT [] M = some (.bool true,[]):=rfl
end Go.Proofs.YthapdikdeoeplaaGreatDoor.Z7
end
