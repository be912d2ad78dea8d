import Derived.Test.YtkbjfhkhbcgkgaaDoorShAB33
open Go AH
set_option linter.unusedSimpArgs false
set_option maxRecDepth 100000
namespace Go.Proofs.YtkbjfhkhbcgkgaaDoor.B33
abbrev tLaw : List (FuncId × RT):=[(36,ofT),(33,leastT),(34,hunT),(31,shcmpT),(30,rleastT),(32,rcompareT),(35,rhunT)]
theorem okLaw : CtxOK S0 (ctxU S0 tLaw []):=ctxU_ok ⟨ofT_ok,leastT_ok,hunT_ok,shcmpT_ok,rleastT_ok,rcompareT_ok,rhunT_ok,trivial⟩ trivial mixed
theorem eqSh (a b c d : Int) : eqFlat [.int,.int] [.int .i64 a,.int .i64 b] [.int .i64 c,.int .i64 d] = some (a == c && (b == d && true)):=rfl
def aw3 : List V4:=[⟨3,0,0,0⟩,⟨1,0,0,0⟩,⟨2,0,0,0⟩]
set_option maxRecDepth 100000 in
theorem awake_ok : Pure S0 29 [] (.bool true):=by
  have o1 : ofA ⟨2,0,3,0⟩ ⟨10,1,9,1⟩ = .tup [.agg [.int .i64 3,.int .i64 9],.nili]:=by
    have g : (good ⟨2,0,3,0⟩ && good ⟨10,1,9,1⟩) = true:=by decide +kernel
    have n : (ofS ⟨2,0,3,0⟩ ⟨10,1,9,1⟩).n = 3:=by decide +kernel
    have d : (ofS ⟨2,0,3,0⟩ ⟨10,1,9,1⟩).d = 9:=by decide +kernel
    rw [ofA,g,n,d]; rfl
  have h39 : Sh.ok ⟨3,9⟩:=by decide
  have h13 : Sh.ok ⟨1,3⟩:=by decide
  have ln : (leastS ⟨3,9⟩).n = 1:=by decide +kernel
  have ld : (leastS ⟨3,9⟩).d = 3:=by decide +kernel
  have hh : hunS ⟨3,9⟩ = 33:=by decide +kernel
  have hc : cmpS ⟨3,9⟩ ⟨1,3⟩ = 0:=by decide +kernel
  have hr : ordR aw3 ⟨9,9,9,9⟩ = [1,2,0]:=by decide +kernel
  have oo:=order_ok aw3 ⟨9,9,9,9⟩ (by decide) (by decide +kernel) (by decide +kernel)
  rw [hr] at oo
  refine fun_sound okLaw Tryd.func29 c29 ?_
  unfold wpF F29
  simp only [AH.SD,AH.SE,AOp.call?,AOp.next?,bstep,AV.cells,unAV,binAV,retQ,retV,AH.sliceElems,AH.bytesOf,AH.strOp,AH.bound,AH.missQ,AH.minmaxAV,AH.readOf,AH.effOf,Nat.reduceBEq,Nat.reduceAdd,Nat.reduceLT,↓reduceIte,Nat.reduceEqDiff,Nat.reduceLeDiff,Nat.reduceSub,Nat.reduceMul,Int.reduceSub,Int.reduceToNat,Int.reduceBEq,Int.reduceBNe,Int.reduceLT,Int.reduceGT,Int.reduceLE,Int.reduceGE,Int.reduceNeg,Int.reduceAdd,ofT_eq,o1]
  refine (CallA1.view errs0 (R:=[(4,aw3.map V4.cells)]) (news:=[some (.row false 1 ([1,2,0].map intC))]) oo [4] (foot:=[1]) ?_).mono ?_
  · simp only [AH.SD,AH.SE,AOp.call?,AOp.next?,bstep,AV.cells,unAV,binAV,retQ,retV,AH.sliceElems,AH.bytesOf,AH.strOp,AH.bound,AH.missQ,AH.minmaxAV,AH.readOf,AH.effOf,Nat.reduceBEq,Nat.reduceAdd,Nat.reduceLT,↓reduceIte,Nat.reduceEqDiff,Nat.reduceLeDiff,Nat.reduceSub,Nat.reduceMul,Int.reduceSub,Int.reduceToNat,Int.reduceBEq,Int.reduceBNe,Int.reduceLT,Int.reduceGT,Int.reduceLE,Int.reduceGE,Int.reduceNeg,Int.reduceAdd,AH.SP,AH.PD,AV.inB,vstep,vw,shift,newOnes,rowsM,blkIn,rwB,@flat_lts,AV.lt,AV.lts,Nat.sub_self,aw3,V4.cells,intC_eq]
  rintro r m' ⟨rfl,rfl⟩
  simp only [AH.SD,AH.SE,AOp.call?,AOp.next?,bstep,AV.cells,unAV,binAV,retQ,retV,AH.sliceElems,AH.bytesOf,AH.strOp,AH.bound,AH.missQ,AH.minmaxAV,AH.readOf,AH.effOf,Nat.reduceBEq,Nat.reduceAdd,Nat.reduceLT,↓reduceIte,Nat.reduceEqDiff,Nat.reduceLeDiff,Nat.reduceSub,Nat.reduceMul,Int.reduceSub,Int.reduceToNat,Int.reduceBEq,Int.reduceBNe,Int.reduceLT,Int.reduceGT,Int.reduceLE,Int.reduceGE,Int.reduceNeg,Int.reduceAdd,AH.SP,AH.PD,AV.inB,vstep,vw,shift,newOnes,rowsM,blkIn,rwB,@flat_lts,AV.lt,AV.lts,Nat.sub_self,aw3,eqSh,intC_eq,leastT_eq _ _ _ h39,hunT_eq _ _ _ h39,shcmpT_eq _ _ _ _ _ h39 h13,ln,ld,hh,hc,Bool.and_self]
  try trivial
def awakeT : RT:=rtP c0 fun _ => .bool true
theorem awakeT_ok : ReadF S0 29 awakeT:=rtP_ok (fun _ =>awake_ok) fun _ =>rfl
theorem awakeT_eq (M : Nat → Option Blk) : awakeT [] M = some (.bool true,[]):=rfl
end Go.Proofs.YtkbjfhkhbcgkgaaDoor.B33
