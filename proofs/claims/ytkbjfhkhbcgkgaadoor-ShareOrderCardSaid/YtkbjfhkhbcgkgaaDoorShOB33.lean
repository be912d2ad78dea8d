import Derived.Test.YtkbjfhkhbcgkgaaDoorShHB33
import Derived.Test.YtkbjfhkhbcgkgaaDoorShCB33
import Derived.Test.YtkbjfhkhbcgkgaaDoorRGB33
import Derived.Test.YtkbjfhkhbcgkgaaDoorErrSB33
open Go AH
set_option linter.unusedSimpArgs false
set_option maxRecDepth 100000
namespace Go.Proofs.YtkbjfhkhbcgkgaaDoor.B33
def V4.at (v : V4) : Nat → Int
  | 0 =>v.a
  | 1 =>v.b
  | 2 =>v.c
  | _ =>v.d
theorem k4 {P : Nat → Prop} {k : Nat} (h : k < 4) (h0 : P 0) (h1 : P 1) (h2 : P 2) (h3 : P 3) : P k:=by
  rcases (by omega : k = 0 ∨ k = 1 ∨ k = 2 ∨ k = 3) with rfl | rfl | rfl | rfl <;> assumption
theorem at_v {k : Nat} (h : k < 4) (v : V4) : [AV.int .i64 v.a,.int .i64 v.b,.int .i64 v.c,.int .i64 v.d].getD k .undef = .int .i64 (v.at k):=k4 (P:=fun k => [AV.int .i64 v.a,.int .i64 v.b,.int .i64 v.c,.int .i64 v.d].getD k .undef = .int .i64 (v.at k)) h rfl rfl rfl rfl
theorem V4.cells_eq (v : V4) : v.cells = [.int .i64 v.a,.int .i64 v.b,.int .i64 v.c,.int .i64 v.d]:=rfl
theorem good_at {v : V4} (h : good v = true) (k : Nat) : 0 ≤ v.at k ∧ v.at k ≤ 1099511627776:=by
  have : ∀ n : Int,bad n = false → 0 ≤ n ∧ n ≤ 1099511627776:=fun n h =>by
    simp only [bad,Bool.or_eq_false_iff,decide_eq_false_iff_not] at h; omega
  simp only [good,V4.l,List.any_cons,List.any_nil,Bool.or_false,Bool.not_eq_true',Bool.or_eq_false_iff] at h
  unfold V4.at
  split
  · exact this _ h.1
  · exact this _ h.2.1
  · exact this _ h.2.2.1
  · exact this _ h.2.2.2
theorem good_sh {v w : V4} (h : good v = true) (g : good w = true) (k : Nat) : Sh.ok ⟨v.at k,w.at k⟩:=by
  have:=good_at h k
  have:=good_at g k
  exact ⟨⟨by simp only; omega,by simp only; omega⟩,⟨by simp only; omega,by simp only; omega⟩⟩
def stepS (s t : Sh) : Sh:=bif decide (cmpS t s > 0) then t else s
def ofN (v w : V4) : Nat → Sh
  | 0 =>⟨v.a,w.a⟩
  | i + 1 =>stepS (ofN v w i) ⟨v.at i,w.at i⟩
def ofS (v w : V4) : Sh:=ofN v w 4
theorem ofN_ok {v w : V4} (h : good v = true) (g : good w = true) : ∀ i,(ofN v w i).ok
  | 0 =>good_sh h g 0
  | i + 1 =>by
    rw [ofN,stepS]
    cases decide (cmpS ⟨v.at i,w.at i⟩ (ofN v w i) > 0)
    · exact ofN_ok h g i
    · exact good_sh h g i
def ofA (v w : V4) : AV:=bif good v && good w then .tup [.agg [.int .i64 (ofS v w).n,.int .i64 (ofS v w).d],.nili] else .tup [.agg [.int .i64 0,.int .i64 0],errA 1]
abbrev tOf : List (FuncId × RT):=[(16,goodT),(31,shcmpT)]
theorem okOf : CtxOK S0 (ctxU S0 tOf []):=ctxU_ok ⟨goodT_ok good_ok,shcmpT_ok,trivial⟩ trivial mixed
def ofSt (v w : V4) (i : Nat) : St:=⟨[(26,.int .i64 i),(25,.agg v.cells),(6,.ptr 2 0 0),(4,.ptr 1 0 0),(3,.ptr 0 0 0)],
  [some (.row false 4 [w.cells]),some (.row false 2 [[.int .i64 0,.int .i64 0]]),some (.row false 2 [[.int .i64 (ofN v w i).n,.int .i64 (ofN v w i).d]])]⟩
set_option maxRecDepth 100000 in
theorem of_ok (v w : V4) : Pure S0 36 [.agg v.cells,.agg w.cells] (ofA v w):=by
  refine fun_sound okOf Tryd.func36 c36 ?_
  unfold wpF F36
  simp only [AH.SD,AH.SE,AOp.call?,AOp.next?,bstep,AV.cells,unAV,binAV,retQ,retV,AH.sliceElems,AH.bytesOf,AH.strOp,AH.bound,AH.missQ,AH.minmaxAV,AH.readOf,AH.effOf,Nat.reduceBEq,Nat.reduceAdd,Nat.reduceLT,↓reduceIte,Nat.reduceEqDiff,Nat.reduceLeDiff,Nat.reduceSub,Nat.reduceMul,Int.reduceSub,Int.reduceToNat,Int.reduceBEq,Int.reduceBNe,Int.reduceLT,Int.reduceGT,Int.reduceLE,Int.reduceGE,Int.reduceNeg,Int.reduceAdd,V4.cells_eq,goodT_eq,V4.eta]
  cases hv : good v
  · simp only [AH.SD,AH.SE,AOp.call?,AOp.next?,bstep,AV.cells,unAV,binAV,retQ,retV,AH.sliceElems,AH.bytesOf,AH.strOp,AH.bound,AH.missQ,AH.minmaxAV,AH.readOf,AH.effOf,Nat.reduceBEq,Nat.reduceAdd,Nat.reduceLT,↓reduceIte,Nat.reduceEqDiff,Nat.reduceLeDiff,Nat.reduceSub,Nat.reduceMul,Int.reduceSub,Int.reduceToNat,Int.reduceBEq,Int.reduceBNe,Int.reduceLT,Int.reduceGT,Int.reduceLE,Int.reduceGE,Int.reduceNeg,Int.reduceAdd,hv,ofA,Bool.false_and,cond_false]
    repeat (refine ⟨by first | rfl | decide | omega | (simp only [List.length_map,List.length_set,and_true]; omega),?_⟩)
    try rfl
  cases hw : good w
  · simp only [AH.SD,AH.SE,AOp.call?,AOp.next?,bstep,AV.cells,unAV,binAV,retQ,retV,AH.sliceElems,AH.bytesOf,AH.strOp,AH.bound,AH.missQ,AH.minmaxAV,AH.readOf,AH.effOf,Nat.reduceBEq,Nat.reduceAdd,Nat.reduceLT,↓reduceIte,Nat.reduceEqDiff,Nat.reduceLeDiff,Nat.reduceSub,Nat.reduceMul,Int.reduceSub,Int.reduceToNat,Int.reduceBEq,Int.reduceBNe,Int.reduceLT,Int.reduceGT,Int.reduceLE,Int.reduceGE,Int.reduceNeg,Int.reduceAdd,hv,hw,goodT_eq,V4.eta,ofA,Bool.and_false,cond_false]
    repeat (refine ⟨by first | rfl | decide | omega | (simp only [List.length_map,List.length_set,and_true]; omega),?_⟩)
    try rfl
  simp only [AH.SD,AH.SE,AOp.call?,AOp.next?,bstep,AV.cells,unAV,binAV,retQ,retV,AH.sliceElems,AH.bytesOf,AH.strOp,AH.bound,AH.missQ,AH.minmaxAV,AH.readOf,AH.effOf,Nat.reduceBEq,Nat.reduceAdd,Nat.reduceLT,↓reduceIte,Nat.reduceEqDiff,Nat.reduceLeDiff,Nat.reduceSub,Nat.reduceMul,Int.reduceSub,Int.reduceToNat,Int.reduceBEq,Int.reduceBNe,Int.reduceLT,Int.reduceGT,Int.reduceLE,Int.reduceGE,Int.reduceNeg,Int.reduceAdd,hv,hw,goodT_eq,V4.eta]
  refine loop_do [1,2,3] [26,25,6,4,3] [] (α:=Nat) (fun i => 4 - i) (ofSt v w) (fun i =>i ≤ 4) 0 (Nat.zero_le _) (by simp only [AH.SD,AH.SE,AOp.call?,AOp.next?,bstep,AV.cells,unAV,binAV,retQ,retV,AH.sliceElems,AH.bytesOf,AH.strOp,AH.bound,AH.missQ,AH.minmaxAV,AH.readOf,AH.effOf,Nat.reduceBEq,Nat.reduceAdd,Nat.reduceLT,↓reduceIte,Nat.reduceEqDiff,Nat.reduceLeDiff,Nat.reduceSub,Nat.reduceMul,Int.reduceSub,Int.reduceToNat,Int.reduceBEq,Int.reduceBNe,Int.reduceLT,Int.reduceGT,Int.reduceLE,Int.reduceGE,Int.reduceNeg,Int.reduceAdd,AH.SP,AH.PD,AV.inB,vstep,ofSt,V4.cells_eq,ofN]) ?_
  intro X i hi ih
  simp only [AH.SD,AH.SE,AOp.call?,AOp.next?,bstep,AV.cells,unAV,binAV,retQ,retV,AH.sliceElems,AH.bytesOf,AH.strOp,AH.bound,AH.missQ,AH.minmaxAV,AH.readOf,AH.effOf,Nat.reduceBEq,Nat.reduceAdd,Nat.reduceLT,↓reduceIte,Nat.reduceEqDiff,Nat.reduceLeDiff,Nat.reduceSub,Nat.reduceMul,Int.reduceSub,Int.reduceToNat,Int.reduceBEq,Int.reduceBNe,Int.reduceLT,Int.reduceGT,Int.reduceLE,Int.reduceGE,Int.reduceNeg,Int.reduceAdd,ofSt,V4.cells_eq]
  refine ⟨fun hlt => ?_,fun hlt => ?_⟩
  · have hi4 : i < 4:=lt_of_dec (n:=4) hlt
    have hwi:=wrapS (i:=i) (by omega)
    have done:=ih (i + 1) hi4 (by omega)
    simp only [ofSt,ofN,stepS,V4.cells_eq] at done
    simp only [AH.SD,AH.SE,AOp.call?,AOp.next?,bstep,AV.cells,unAV,binAV,retQ,retV,AH.sliceElems,AH.bytesOf,AH.strOp,AH.bound,AH.missQ,AH.minmaxAV,AH.readOf,AH.effOf,Nat.reduceBEq,Nat.reduceAdd,Nat.reduceLT,↓reduceIte,Nat.reduceEqDiff,Nat.reduceLeDiff,Nat.reduceSub,Nat.reduceMul,Int.reduceSub,Int.reduceToNat,Int.reduceBEq,Int.reduceBNe,Int.reduceLT,Int.reduceGT,Int.reduceLE,Int.reduceGE,Int.reduceNeg,Int.reduceAdd,at_v hi4,shcmpT_eq _ _ _ _ _ (good_sh hv hw i) (ofN_ok hv hw i),Sh.eta]
    repeat (refine ⟨by first | rfl | decide | omega | (simp only [List.length_map,List.length_set,and_true]; omega),?_⟩)
    cases hc : decide (cmpS ⟨v.at i,w.at i⟩ (ofN v w i) > 0)
    · rw [hc] at done
      simp only [AH.SD,AH.SE,AOp.call?,AOp.next?,bstep,AV.cells,unAV,binAV,retQ,retV,AH.sliceElems,AH.bytesOf,AH.strOp,AH.bound,AH.missQ,AH.minmaxAV,AH.readOf,AH.effOf,Nat.reduceBEq,Nat.reduceAdd,Nat.reduceLT,↓reduceIte,Nat.reduceEqDiff,Nat.reduceLeDiff,Nat.reduceSub,Nat.reduceMul,Int.reduceSub,Int.reduceToNat,Int.reduceBEq,Int.reduceBNe,Int.reduceLT,Int.reduceGT,Int.reduceLE,Int.reduceGE,Int.reduceNeg,Int.reduceAdd,at_v hi4,shcmpT_eq _ _ _ _ _ (good_sh hv hw i) (ofN_ok hv hw i),Sh.eta,hc,hwi]
      refine gc_auto [0,1,2] [26,25,6,4,3] [] ?_
      simp only [AH.SD,AH.SE,AOp.call?,AOp.next?,bstep,AV.cells,unAV,binAV,retQ,retV,AH.sliceElems,AH.bytesOf,AH.strOp,AH.bound,AH.missQ,AH.minmaxAV,AH.readOf,AH.effOf,Nat.reduceBEq,Nat.reduceAdd,Nat.reduceLT,↓reduceIte,Nat.reduceEqDiff,Nat.reduceLeDiff,Nat.reduceSub,Nat.reduceMul,Int.reduceSub,Int.reduceToNat,Int.reduceBEq,Int.reduceBNe,Int.reduceLT,Int.reduceGT,Int.reduceLE,Int.reduceGE,Int.reduceNeg,Int.reduceAdd,AH.SP,AH.PD,AV.inB,vstep]
      exact done
    · rw [hc] at done
      simp only [AH.SD,AH.SE,AOp.call?,AOp.next?,bstep,AV.cells,unAV,binAV,retQ,retV,AH.sliceElems,AH.bytesOf,AH.strOp,AH.bound,AH.missQ,AH.minmaxAV,AH.readOf,AH.effOf,Nat.reduceBEq,Nat.reduceAdd,Nat.reduceLT,↓reduceIte,Nat.reduceEqDiff,Nat.reduceLeDiff,Nat.reduceSub,Nat.reduceMul,Int.reduceSub,Int.reduceToNat,Int.reduceBEq,Int.reduceBNe,Int.reduceLT,Int.reduceGT,Int.reduceLE,Int.reduceGE,Int.reduceNeg,Int.reduceAdd,at_v hi4,shcmpT_eq _ _ _ _ _ (good_sh hv hw i) (ofN_ok hv hw i),Sh.eta,hc,hwi]
      refine gc_auto [0,1,2] [26,25,6,4,3] [] ?_
      simp only [AH.SD,AH.SE,AOp.call?,AOp.next?,bstep,AV.cells,unAV,binAV,retQ,retV,AH.sliceElems,AH.bytesOf,AH.strOp,AH.bound,AH.missQ,AH.minmaxAV,AH.readOf,AH.effOf,Nat.reduceBEq,Nat.reduceAdd,Nat.reduceLT,↓reduceIte,Nat.reduceEqDiff,Nat.reduceLeDiff,Nat.reduceSub,Nat.reduceMul,Int.reduceSub,Int.reduceToNat,Int.reduceBEq,Int.reduceBNe,Int.reduceLT,Int.reduceGT,Int.reduceLE,Int.reduceGE,Int.reduceNeg,Int.reduceAdd,AH.SP,AH.PD,AV.inB,vstep]
      exact done
  · have hi4 : 4 ≤ i:=ge_of_dec (n:=4) hlt
    have : i = 4:=by omega
    subst this
    simp only [AH.SD,AH.SE,AOp.call?,AOp.next?,bstep,AV.cells,unAV,binAV,retQ,retV,AH.sliceElems,AH.bytesOf,AH.strOp,AH.bound,AH.missQ,AH.minmaxAV,AH.readOf,AH.effOf,Nat.reduceBEq,Nat.reduceAdd,Nat.reduceLT,↓reduceIte,Nat.reduceEqDiff,Nat.reduceLeDiff,Nat.reduceSub,Nat.reduceMul,Int.reduceSub,Int.reduceToNat,Int.reduceBEq,Int.reduceBNe,Int.reduceLT,Int.reduceGT,Int.reduceLE,Int.reduceGE,Int.reduceNeg,Int.reduceAdd,ofA,hv,hw,ofS,Bool.and_self,cond_true]
    try rfl
def ofT : RT:=rtP (cC (aA cV) (cC (aA cV) c0)) fun x =>ofA x.1 x.2.1
theorem ofA_flat (v w : V4) : (ofA v w).lt 0 = true:=by
  unfold ofA
  cases good v && good w
  · simp only [cond_false,AV.lt,AV.lts,errA_flat,Bool.and_self]
  · rfl
theorem ofT_ok : ReadF S0 36 ofT:=rtP_ok (fun x =>of_ok x.1 x.2.1) fun _ =>ofA_flat _ _
theorem ofT_eq (a b c d x y z u : Int) (M : Nat → Option Blk) : ofT [.agg [.int .i64 a,.int .i64 b,.int .i64 c,.int .i64 d],.agg [.int .i64 x,.int .i64 y,.int .i64 z,.int .i64 u]] M = some (ofA ⟨a,b,c,d⟩ ⟨x,y,z,u⟩,[]):=rfl
end Go.Proofs.YtkbjfhkhbcgkgaaDoor.B33
