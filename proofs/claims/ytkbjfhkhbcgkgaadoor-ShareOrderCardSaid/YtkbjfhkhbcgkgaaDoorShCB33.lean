import Derived.Test.YtkbjfhkhbcgkgaaDoorShLB33
open Go AH
set_option linter.unusedSimpArgs false
set_option maxRecDepth 100000
namespace Go.Proofs.YtkbjfhkhbcgkgaaDoor.B33
structure CF where
  a : Nat
  b : Nat
  c : Nat
  d : Nat
  s : Int
  i : Nat
def CF.good (V : Int) (x : CF) : Prop:=0 < x.a ∧ 0 < x.b ∧ 0 < x.c ∧ 0 < x.d ∧ x.a ≤ 9223372036854775807 ∧ x.b ≤ 9223372036854775807 ∧ x.c ≤ 9223372036854775807 ∧ x.d ≤ 9223372036854775807 ∧ (x.s = 1 ∨ x.s = -1) ∧ x.i ≤ 199 ∧ V = x.s * cmpZ ((x.a : Int) * x.d) ((x.c : Int) * x.b) ∧ (x.i = 0 ∧ x.a * x.b < 2 ^ 198 ∨ x.b ≤ x.a ∧ x.a * x.b < 2 ^ (199 - x.i))
def cfSt (x : CF) : St:=⟨[(12,.int .i64 x.i),(11,.int .i64 x.s),(3,.int .i64 x.d),(2,.int .i64 x.c),(1,.int .i64 x.b),(0,.int .i64 x.a)],[]⟩
theorem cf_next {V : Int} {x : CF} (h : x.good V) (hq : x.a / x.b = x.c / x.d) (hr : 0 < x.a % x.b) (hs : 0 < x.c % x.d) : CF.good V ⟨x.b,x.a % x.b,x.d,x.c % x.d,-x.s,x.i + 1⟩ ∧ x.i ≤ 198:=by
  obtain ⟨a,b,c,d,s,i⟩:=x
  obtain ⟨h1,h2,h3,h4,h5,h6,h7,h8,h9,h10,h11,h12⟩:=h
  simp only at *
  have r1:=Nat.mod_lt a h2
  have r2:=Nat.mod_lt c h4
  have hi : i ≤ 198 ∧ (b * (a % b) < 2 ^ (198 - i)):=by
    rcases h12 with ⟨rfl,h12⟩ | ⟨h13,h14⟩
    · refine ⟨by omega,Nat.lt_of_le_of_lt ?_ h12⟩
      rw [Nat.mul_comm]
      exact Nat.mul_le_mul_right b (Nat.mod_le a b)
    · have hh:=step_half h2 h13
      have pos : 0 < a * b:=Nat.mul_pos h1 h2
      have hi : i ≤ 198:=by
        by_cases hi : i ≤ 198
        · exact hi
        · have : 199 - i = 0:=by omega
          rw [this,Nat.pow_zero] at h14
          omega
      refine ⟨hi,?_⟩
      have : 2 ^ (199 - i) = 2 * 2 ^ (198 - i):=by
        rw [show 199 - i = (198 - i) + 1 by omega,Nat.pow_succ,Nat.mul_comm]
      omega
  refine ⟨⟨h2,hr,h4,hs,h6,by simp only; omega,h8,by simp only; omega,by simp only; omega,by simp only; omega,?_,.inr ⟨by simp only; omega,?_⟩⟩,hi.1⟩
  · rw [h11,frac_eq hq]
    have e1 : ((b : Int) * ((c % d : Nat) : Int)) = ((c % d : Nat) : Int) * b:=Int.mul_comm _ _
    have e2 : ((d : Int) * ((a % b : Nat) : Int)) = ((a % b : Nat) : Int) * d:=Int.mul_comm _ _
    rw [e1,e2,cmpZ_neg (((a % b : Nat) : Int) * d),Int.neg_mul_neg]
  · show b * (a % b) < 2 ^ (199 - (i + 1))
    rw [show 199 - (i + 1) = 198 - i by omega]; exact hi.2
theorem cf_end {V : Int} {x : CF} (h : x.good V) :
    (x.a / x.b < x.c / x.d → V = -x.s) ∧ (x.c / x.d < x.a / x.b → V = x.s) ∧
    (x.a / x.b = x.c / x.d → (x.a % x.b = 0 → x.c % x.d = 0 → V = 0) ∧ (x.a % x.b = 0 → x.c % x.d ≠ 0 → V = -x.s) ∧ (x.a % x.b ≠ 0 → x.c % x.d = 0 → V = x.s)):=by
  obtain ⟨a,b,c,d,s,i⟩:=x
  obtain ⟨h1,h2,h3,h4,h5,h6,h7,h8,h9,h10,h11,h12⟩:=h
  simp only at *
  refine ⟨fun h => ?_,fun h => ?_,fun h =>⟨fun r t => ?_,fun r t => ?_,fun r t => ?_⟩⟩
  · have:=frac_lt (d:=d) (c:=c) h2 h
    rw [h11,(cmpZ_lt _ _).2 (by exact_mod_cast this)]; omega
  · have:=frac_lt (d:=b) (c:=a) h4 h
    rw [h11,(cmpZ_gt _ _).2 (by exact_mod_cast this)]; omega
  · rw [h11,frac_eq h,r,t,(cmpZ_eq _ _).2 (by simp)]; omega
  · have p : 0 < (c % d) * b:=Nat.mul_pos (Nat.pos_of_ne_zero t) h2
    rw [h11,frac_eq h,r,(cmpZ_lt _ _).2 (by simp only [Int.natCast_zero,Int.zero_mul]; exact_mod_cast p)]; omega
  · have p : 0 < (a % b) * d:=Nat.mul_pos (Nat.pos_of_ne_zero r) h4
    rw [h11,frac_eq h,t,(cmpZ_gt _ _).2 (by simp only [Int.natCast_zero,Int.zero_mul]; exact_mod_cast p)]; omega
set_option maxRecDepth 100000 in
theorem rcompare_ok (a b : Sh) (ha : a.ok) (hb : b.ok) : Pure S0 32 [.int .i64 a.n,.int .i64 a.d,.int .i64 b.n,.int .i64 b.d] (.int .i64 (cmpS a b)):=by
  refine fun_sound okRc Tryd.func32 c32 ?_
  unfold wpF F32
  simp only [AH.SD,AH.SE,AOp.call?,AOp.next?,bstep,AV.cells,unAV,binAV,retQ,retV,AH.sliceElems,AH.bytesOf,AH.strOp,AH.bound,AH.missQ,AH.minmaxAV,AH.readOf,AH.effOf,Nat.reduceBEq,Nat.reduceAdd,Nat.reduceLT,↓reduceIte,Nat.reduceEqDiff,Nat.reduceLeDiff,Nat.reduceSub,Nat.reduceMul,Int.reduceSub,Int.reduceToNat,Int.reduceBEq,Int.reduceBNe,Int.reduceLT,Int.reduceGT,Int.reduceLE,Int.reduceGE,Int.reduceNeg,Int.reduceAdd,rclassT_eq]
  rcases cmpS_of a b with ⟨p0,p⟩ | ⟨p0,p1,p⟩ | ⟨p0,p1,p⟩
  · have q0 : (clsZ a.n a.d != clsZ b.n b.d) = true:=by simpa using p0
    rw [p]
    cases hl : decide (clsZ a.n a.d < clsZ b.n b.d)
    · have : cmpZ (clsZ a.n a.d) (clsZ b.n b.d) = 1:=(cmpZ_gt _ _).2 (by simp only [decide_eq_false_iff_not] at hl; omega)
      simp only [AH.SD,AH.SE,AOp.call?,AOp.next?,bstep,AV.cells,unAV,binAV,retQ,retV,AH.sliceElems,AH.bytesOf,AH.strOp,AH.bound,AH.missQ,AH.minmaxAV,AH.readOf,AH.effOf,Nat.reduceBEq,Nat.reduceAdd,Nat.reduceLT,↓reduceIte,Nat.reduceEqDiff,Nat.reduceLeDiff,Nat.reduceSub,Nat.reduceMul,Int.reduceSub,Int.reduceToNat,Int.reduceBEq,Int.reduceBNe,Int.reduceLT,Int.reduceGT,Int.reduceLE,Int.reduceGE,Int.reduceNeg,Int.reduceAdd,q0,hl,this]
    · have : cmpZ (clsZ a.n a.d) (clsZ b.n b.d) = -1:=(cmpZ_lt _ _).2 (by simpa using hl)
      simp only [AH.SD,AH.SE,AOp.call?,AOp.next?,bstep,AV.cells,unAV,binAV,retQ,retV,AH.sliceElems,AH.bytesOf,AH.strOp,AH.bound,AH.missQ,AH.minmaxAV,AH.readOf,AH.effOf,Nat.reduceBEq,Nat.reduceAdd,Nat.reduceLT,↓reduceIte,Nat.reduceEqDiff,Nat.reduceLeDiff,Nat.reduceSub,Nat.reduceMul,Int.reduceSub,Int.reduceToNat,Int.reduceBEq,Int.reduceBNe,Int.reduceLT,Int.reduceGT,Int.reduceLE,Int.reduceGE,Int.reduceNeg,Int.reduceAdd,q0,hl,this]
  · have q1 : (clsZ b.n b.d != 1) = true:=by rw [← p0]; simpa using p1
    simp only [AH.SD,AH.SE,AOp.call?,AOp.next?,bstep,AV.cells,unAV,binAV,retQ,retV,AH.sliceElems,AH.bytesOf,AH.strOp,AH.bound,AH.missQ,AH.minmaxAV,AH.readOf,AH.effOf,Nat.reduceBEq,Nat.reduceAdd,Nat.reduceLT,↓reduceIte,Nat.reduceEqDiff,Nat.reduceLeDiff,Nat.reduceSub,Nat.reduceMul,Int.reduceSub,Int.reduceToNat,Int.reduceBEq,Int.reduceBNe,Int.reduceLT,Int.reduceGT,Int.reduceLE,Int.reduceGE,Int.reduceNeg,Int.reduceAdd,p0,bne_self_eq_false,q1,p]
  simp only [AH.SD,AH.SE,AOp.call?,AOp.next?,bstep,AV.cells,unAV,binAV,retQ,retV,AH.sliceElems,AH.bytesOf,AH.strOp,AH.bound,AH.missQ,AH.minmaxAV,AH.readOf,AH.effOf,Nat.reduceBEq,Nat.reduceAdd,Nat.reduceLT,↓reduceIte,Nat.reduceEqDiff,Nat.reduceLeDiff,Nat.reduceSub,Nat.reduceMul,Int.reduceSub,Int.reduceToNat,Int.reduceBEq,Int.reduceBNe,Int.reduceLT,Int.reduceGT,Int.reduceLE,Int.reduceGE,Int.reduceNeg,Int.reduceAdd,p0,p1,bne_self_eq_false]
  have pa:=clsZ_1 p0
  have pb:=clsZ_1 p1
  obtain ⟨⟨_,_⟩,⟨_,_⟩⟩:=ha
  obtain ⟨⟨_,_⟩,⟨_,_⟩⟩:=hb
  obtain ⟨A,eA⟩:=Int.eq_ofNat_of_zero_le (Int.le_of_lt pa.1)
  obtain ⟨B,eB⟩:=Int.eq_ofNat_of_zero_le (Int.le_of_lt pa.2)
  obtain ⟨C,eC⟩:=Int.eq_ofNat_of_zero_le (Int.le_of_lt pb.1)
  obtain ⟨D,eD⟩:=Int.eq_ofNat_of_zero_le (Int.le_of_lt pb.2)
  rw [eA,eB,eC,eD] at p
  rw [p,eA,eB,eC,eD]
  have hAB : A * B < 2 ^ 198:=by
    have:=Nat.mul_le_mul (by omega : A ≤ 9223372036854775807) (by omega : B ≤ 9223372036854775807)
    omega
  refine loop_do [] [12,11,3,2,1,0] [] (α:=CF) (fun x => 200 - x.i) cfSt (CF.good (cmpZ ((A : Int) * D) ((C : Int) * B))) ⟨A,B,C,D,1,0⟩ ⟨by simp only; omega,by simp only; omega,by simp only; omega,by simp only; omega,by simp only; omega,by simp only; omega,by simp only; omega,by simp only; omega,.inl rfl,by simp only; omega,by simp only [Int.one_mul],.inl ⟨rfl,hAB⟩⟩ (by simp only [AH.SD,AH.SE,AOp.call?,AOp.next?,bstep,AV.cells,unAV,binAV,retQ,retV,AH.sliceElems,AH.bytesOf,AH.strOp,AH.bound,AH.missQ,AH.minmaxAV,AH.readOf,AH.effOf,Nat.reduceBEq,Nat.reduceAdd,Nat.reduceLT,↓reduceIte,Nat.reduceEqDiff,Nat.reduceLeDiff,Nat.reduceSub,Nat.reduceMul,Int.reduceSub,Int.reduceToNat,Int.reduceBEq,Int.reduceBNe,Int.reduceLT,Int.reduceGT,Int.reduceLE,Int.reduceGE,Int.reduceNeg,Int.reduceAdd,AH.SP,AH.PD,AV.inB,vstep,cfSt]) ?_
  rintro X x hx ih
  have hn:=cf_next hx
  have he:=cf_end hx
  obtain ⟨a,b,c,d,s,i⟩:=x
  obtain ⟨h1,h2,h3,h4,h5,h6,h7,h8,h9,h10,h11,h12⟩:=hx
  simp only at hn he h1 h2 h3 h4 h5 h6 h7 h8 h9 h10 h11 h12
  have hws : IntKind.i64.wrap (0 - s) = -s:=by rw [IntKind.wrap_i64]; omega
  have hwi:=wrapS (i:=i) (by omega)
  have w1 : IntKind.i64.wrap ((a / b : Nat) : Int) = ((a / b : Nat) : Int):=wrap_small (Nat.le_trans (Nat.div_le_self _ _) h5)
  have w2 : IntKind.i64.wrap ((c / d : Nat) : Int) = ((c / d : Nat) : Int):=wrap_small (Nat.le_trans (Nat.div_le_self _ _) h7)
  have b0 : (b : Int) ≠ 0:=by omega
  have d0 : (d : Int) ≠ 0:=by omega
  have hi : decide ((i : Int) < 200) = true:=by simp; omega
  simp only [AH.SD,AH.SE,AOp.call?,AOp.next?,bstep,AV.cells,unAV,binAV,retQ,retV,AH.sliceElems,AH.bytesOf,AH.strOp,AH.bound,AH.missQ,AH.minmaxAV,AH.readOf,AH.effOf,Nat.reduceBEq,Nat.reduceAdd,Nat.reduceLT,↓reduceIte,Nat.reduceEqDiff,Nat.reduceLeDiff,Nat.reduceSub,Nat.reduceMul,Int.reduceSub,Int.reduceToNat,Int.reduceBEq,Int.reduceBNe,Int.reduceLT,Int.reduceGT,Int.reduceLE,Int.reduceGE,Int.reduceNeg,Int.reduceAdd,cfSt,hi,tdivN,tmodN,w1,w2]
  repeat (refine ⟨by first | rfl | decide | omega | (simp only [List.length_map,List.length_set,and_true]; omega),?_⟩)
  rcases Nat.lt_trichotomy (a / b) (c / d) with hq | hq | hq
  · have g1 : decide (((a / b : Nat) : Int) < ((c / d : Nat) : Int)) = true:=by simp only [decide_eq_true_eq]; omega
    simp only [AH.SD,AH.SE,AOp.call?,AOp.next?,bstep,AV.cells,unAV,binAV,retQ,retV,AH.sliceElems,AH.bytesOf,AH.strOp,AH.bound,AH.missQ,AH.minmaxAV,AH.readOf,AH.effOf,Nat.reduceBEq,Nat.reduceAdd,Nat.reduceLT,↓reduceIte,Nat.reduceEqDiff,Nat.reduceLeDiff,Nat.reduceSub,Nat.reduceMul,Int.reduceSub,Int.reduceToNat,Int.reduceBEq,Int.reduceBNe,Int.reduceLT,Int.reduceGT,Int.reduceLE,Int.reduceGE,Int.reduceNeg,Int.reduceAdd,g1,hws,he.1 hq]
  · have g1 : decide (((a / b : Nat) : Int) < ((c / d : Nat) : Int)) = false:=by simp only [decide_eq_false_iff_not]; omega
    have g2 : decide (((a / b : Nat) : Int) > ((c / d : Nat) : Int)) = false:=by simp only [decide_eq_false_iff_not]; omega
    have k:=he.2.2 hq
    simp only [AH.SD,AH.SE,AOp.call?,AOp.next?,bstep,AV.cells,unAV,binAV,retQ,retV,AH.sliceElems,AH.bytesOf,AH.strOp,AH.bound,AH.missQ,AH.minmaxAV,AH.readOf,AH.effOf,Nat.reduceBEq,Nat.reduceAdd,Nat.reduceLT,↓reduceIte,Nat.reduceEqDiff,Nat.reduceLeDiff,Nat.reduceSub,Nat.reduceMul,Int.reduceSub,Int.reduceToNat,Int.reduceBEq,Int.reduceBNe,Int.reduceLT,Int.reduceGT,Int.reduceLE,Int.reduceGE,Int.reduceNeg,Int.reduceAdd,g1,g2,tmodN]
    repeat (refine ⟨by first | rfl | decide | omega | (simp only [List.length_map,List.length_set,and_true]; omega),?_⟩)
    by_cases hr : a % b = 0
    · have z1 : (((a % b : Nat) : Int) == 0) = true:=by rw [hr]; rfl
      by_cases ht : c % d = 0
      · have z2 : (((c % d : Nat) : Int) == 0) = true:=by rw [ht]; rfl
        simp only [AH.SD,AH.SE,AOp.call?,AOp.next?,bstep,AV.cells,unAV,binAV,retQ,retV,AH.sliceElems,AH.bytesOf,AH.strOp,AH.bound,AH.missQ,AH.minmaxAV,AH.readOf,AH.effOf,Nat.reduceBEq,Nat.reduceAdd,Nat.reduceLT,↓reduceIte,Nat.reduceEqDiff,Nat.reduceLeDiff,Nat.reduceSub,Nat.reduceMul,Int.reduceSub,Int.reduceToNat,Int.reduceBEq,Int.reduceBNe,Int.reduceLT,Int.reduceGT,Int.reduceLE,Int.reduceGE,Int.reduceNeg,Int.reduceAdd,z1,z2,k.1 hr ht]
      · have z2 : (((c % d : Nat) : Int) == 0) = false:=by simp; omega
        simp only [AH.SD,AH.SE,AOp.call?,AOp.next?,bstep,AV.cells,unAV,binAV,retQ,retV,AH.sliceElems,AH.bytesOf,AH.strOp,AH.bound,AH.missQ,AH.minmaxAV,AH.readOf,AH.effOf,Nat.reduceBEq,Nat.reduceAdd,Nat.reduceLT,↓reduceIte,Nat.reduceEqDiff,Nat.reduceLeDiff,Nat.reduceSub,Nat.reduceMul,Int.reduceSub,Int.reduceToNat,Int.reduceBEq,Int.reduceBNe,Int.reduceLT,Int.reduceGT,Int.reduceLE,Int.reduceGE,Int.reduceNeg,Int.reduceAdd,z1,z2,k.2.1 hr ht,hws]
    · have z1 : (((a % b : Nat) : Int) == 0) = false:=by simp; omega
      by_cases ht : c % d = 0
      · have z2 : (((c % d : Nat) : Int) == 0) = true:=by rw [ht]; rfl
        simp only [AH.SD,AH.SE,AOp.call?,AOp.next?,bstep,AV.cells,unAV,binAV,retQ,retV,AH.sliceElems,AH.bytesOf,AH.strOp,AH.bound,AH.missQ,AH.minmaxAV,AH.readOf,AH.effOf,Nat.reduceBEq,Nat.reduceAdd,Nat.reduceLT,↓reduceIte,Nat.reduceEqDiff,Nat.reduceLeDiff,Nat.reduceSub,Nat.reduceMul,Int.reduceSub,Int.reduceToNat,Int.reduceBEq,Int.reduceBNe,Int.reduceLT,Int.reduceGT,Int.reduceLE,Int.reduceGE,Int.reduceNeg,Int.reduceAdd,z1,z2,k.2.2 hr ht]
      · have z2 : (((c % d : Nat) : Int) == 0) = false:=by simp; omega
        obtain ⟨n1,n2⟩:=hn hq (Nat.pos_of_ne_zero hr) (Nat.pos_of_ne_zero ht)
        have done:=ih _ n1 (by simp only; omega)
        simp only [cfSt] at done
        simp only [AH.SD,AH.SE,AOp.call?,AOp.next?,bstep,AV.cells,unAV,binAV,retQ,retV,AH.sliceElems,AH.bytesOf,AH.strOp,AH.bound,AH.missQ,AH.minmaxAV,AH.readOf,AH.effOf,Nat.reduceBEq,Nat.reduceAdd,Nat.reduceLT,↓reduceIte,Nat.reduceEqDiff,Nat.reduceLeDiff,Nat.reduceSub,Nat.reduceMul,Int.reduceSub,Int.reduceToNat,Int.reduceBEq,Int.reduceBNe,Int.reduceLT,Int.reduceGT,Int.reduceLE,Int.reduceGE,Int.reduceNeg,Int.reduceAdd,z1,z2,hws,hwi]
        refine gc_auto [] [12,11,3,2,1,0] [] ?_
        simp only [AH.SD,AH.SE,AOp.call?,AOp.next?,bstep,AV.cells,unAV,binAV,retQ,retV,AH.sliceElems,AH.bytesOf,AH.strOp,AH.bound,AH.missQ,AH.minmaxAV,AH.readOf,AH.effOf,Nat.reduceBEq,Nat.reduceAdd,Nat.reduceLT,↓reduceIte,Nat.reduceEqDiff,Nat.reduceLeDiff,Nat.reduceSub,Nat.reduceMul,Int.reduceSub,Int.reduceToNat,Int.reduceBEq,Int.reduceBNe,Int.reduceLT,Int.reduceGT,Int.reduceLE,Int.reduceGE,Int.reduceNeg,Int.reduceAdd,AH.SP,AH.PD,AV.inB,vstep]
        exact done
  · have g1 : decide (((a / b : Nat) : Int) < ((c / d : Nat) : Int)) = false:=by simp only [decide_eq_false_iff_not]; omega
    have g2 : decide (((a / b : Nat) : Int) > ((c / d : Nat) : Int)) = true:=by simp only [decide_eq_true_eq]; omega
    simp only [AH.SD,AH.SE,AOp.call?,AOp.next?,bstep,AV.cells,unAV,binAV,retQ,retV,AH.sliceElems,AH.bytesOf,AH.strOp,AH.bound,AH.missQ,AH.minmaxAV,AH.readOf,AH.effOf,Nat.reduceBEq,Nat.reduceAdd,Nat.reduceLT,↓reduceIte,Nat.reduceEqDiff,Nat.reduceLeDiff,Nat.reduceSub,Nat.reduceMul,Int.reduceSub,Int.reduceToNat,Int.reduceBEq,Int.reduceBNe,Int.reduceLT,Int.reduceGT,Int.reduceLE,Int.reduceGE,Int.reduceNeg,Int.reduceAdd,g1,g2,he.2.1 hq]
def okQ (x : Int × Int × Int × Int × Unit) : Prop:=Sh.ok ⟨x.1,x.2.1⟩ ∧ Sh.ok ⟨x.2.2.1,x.2.2.2.1⟩
instance : DecidablePred okQ:=fun x =>by unfold okQ; infer_instance
def rcompareT : RT:=rtP (cSub (cC (aI .i64) (cC (aI .i64) (cC (aI .i64) (cC (aI .i64) c0)))) okQ) fun x => .int .i64 (cmpS ⟨x.1.1,x.1.2.1⟩ ⟨x.1.2.2.1,x.1.2.2.2.1⟩)
theorem rcompareT_ok : ReadF S0 32 rcompareT:=rtP_ok (fun ⟨⟨a,b,c,d,_⟩,ha,hb⟩ =>rcompare_ok ⟨a,b⟩ ⟨c,d⟩ ha hb) fun _ =>rfl
theorem rcompareT_eq (a b c d : Int) (M : Nat → Option Blk) (ha : Sh.ok ⟨a,b⟩) (hb : Sh.ok ⟨c,d⟩) : rcompareT [.int .i64 a,.int .i64 b,.int .i64 c,.int .i64 d] M = some (.int .i64 (cmpS ⟨a,b⟩ ⟨c,d⟩),[]):=by
  have h : okQ (a,b,c,d,()):=⟨ha,hb⟩
  unfold rcompareT
  rw [rtS_eq h rfl]
end Go.Proofs.YtkbjfhkhbcgkgaaDoor.B33
