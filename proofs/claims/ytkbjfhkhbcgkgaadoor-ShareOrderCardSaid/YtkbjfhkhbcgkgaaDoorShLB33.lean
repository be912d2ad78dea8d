import Derived.Test.YtkbjfhkhbcgkgaaDoorShPB33
open Go AH
set_option linter.unusedSimpArgs false
set_option maxRecDepth 100000
namespace Go.Proofs.YtkbjfhkhbcgkgaaDoor.B33
theorem tmodN (a b : Nat) : (a : Int).tmod (b : Int) = ((a % b : Nat) : Int):=by
  rw [Int.tmod_eq_emod_of_nonneg (Int.natCast_nonneg _)]; exact (Int.natCast_emod a b).symm
theorem tdivN (a b : Nat) : (a : Int).tdiv (b : Int) = ((a / b : Nat) : Int):=by
  rw [Int.tdiv_eq_ediv_of_nonneg (Int.natCast_nonneg _)]; exact (Int.natCast_ediv a b).symm
theorem gcd_step (a b : Nat) : Nat.gcd b (a % b) = Nat.gcd a b:=by
  rw [Nat.gcd_comm a b,Nat.gcd_rec b a,Nat.gcd_comm]
theorem wrap_small {n : Nat} (h : n ≤ 9223372036854775807) : IntKind.i64.wrap (n : Int) = (n : Int):=by rw [IntKind.wrap_i64]; omega
theorem bne_nat {b : Nat} (h : b ≠ 0) : ((b : Int) != 0) = true:=by
  have : (b : Int) ≠ 0:=by omega
  simpa using this
def okOne (x : Sh × Unit) : Prop:=x.1.ok
instance : DecidablePred okOne:=fun x =>by unfold okOne; infer_instance
def okTwo (x : Int × Int × Unit) : Prop:=Sh.ok ⟨x.1,x.2.1⟩
instance : DecidablePred okTwo:=fun x =>by unfold okTwo; infer_instance
abbrev tLe : List (FuncId × RT):=[(55,classT)]
theorem okLe : CtxOK S0 (ctxU S0 tLe []):=ctxU_ok ⟨classT_ok,trivial⟩ trivial mixed
def leSt (N D : Nat) (x : Nat × Nat) : St:=⟨[(4,.int .i64 x.2),(3,.int .i64 x.1),(2,.ptr 1 0 0),(1,.ptr 0 0 0)],[some (.row false 2 [[.int .i64 N,.int .i64 D]]),some (.row false 2 [[.int .i64 0,.int .i64 0]])]⟩
set_option maxRecDepth 100000 in
theorem least_ok (s : Sh) (hs : s.ok) : Pure S0 33 [.agg s.cells] (.agg (leastS s).cells):=by
  refine fun_sound okLe Tryd.func33 c33 ?_
  unfold wpF F33
  simp only [AH.SD,AH.SE,AOp.call?,AOp.next?,bstep,AV.cells,unAV,binAV,retQ,retV,AH.sliceElems,AH.bytesOf,AH.strOp,AH.bound,AH.missQ,AH.minmaxAV,AH.readOf,AH.effOf,Nat.reduceBEq,Nat.reduceAdd,Nat.reduceLT,↓reduceIte,Nat.reduceEqDiff,Nat.reduceLeDiff,Nat.reduceSub,Nat.reduceMul,Int.reduceSub,Int.reduceToNat,Int.reduceBEq,Int.reduceBNe,Int.reduceLT,Int.reduceGT,Int.reduceLE,Int.reduceGE,Int.reduceNeg,Int.reduceAdd,Sh.cells_eq,classT_eq]
  rcases clsZ_in s.n s.d with h | h | h
  · simp only [AH.SD,AH.SE,AOp.call?,AOp.next?,bstep,AV.cells,unAV,binAV,retQ,retV,AH.sliceElems,AH.bytesOf,AH.strOp,AH.bound,AH.missQ,AH.minmaxAV,AH.readOf,AH.effOf,Nat.reduceBEq,Nat.reduceAdd,Nat.reduceLT,↓reduceIte,Nat.reduceEqDiff,Nat.reduceLeDiff,Nat.reduceSub,Nat.reduceMul,Int.reduceSub,Int.reduceToNat,Int.reduceBEq,Int.reduceBNe,Int.reduceLT,Int.reduceGT,Int.reduceLE,Int.reduceGE,Int.reduceNeg,Int.reduceAdd,h,leastS]
  rotate_left
  · simp only [AH.SD,AH.SE,AOp.call?,AOp.next?,bstep,AV.cells,unAV,binAV,retQ,retV,AH.sliceElems,AH.bytesOf,AH.strOp,AH.bound,AH.missQ,AH.minmaxAV,AH.readOf,AH.effOf,Nat.reduceBEq,Nat.reduceAdd,Nat.reduceLT,↓reduceIte,Nat.reduceEqDiff,Nat.reduceLeDiff,Nat.reduceSub,Nat.reduceMul,Int.reduceSub,Int.reduceToNat,Int.reduceBEq,Int.reduceBNe,Int.reduceLT,Int.reduceGT,Int.reduceLE,Int.reduceGE,Int.reduceNeg,Int.reduceAdd,h,leastS]
  obtain ⟨N,D,e1,e2,h1,h2,e⟩:=leastS_1 h
  have k1 : N ≤ 9223372036854775807:=by have:=hs.1; omega
  have k2 : D ≤ 9223372036854775807:=by have:=hs.2; omega
  have h' : clsZ N D = 1:=by rw [← e1,← e2]; exact h
  simp only [AH.SD,AH.SE,AOp.call?,AOp.next?,bstep,AV.cells,unAV,binAV,retQ,retV,AH.sliceElems,AH.bytesOf,AH.strOp,AH.bound,AH.missQ,AH.minmaxAV,AH.readOf,AH.effOf,Nat.reduceBEq,Nat.reduceAdd,Nat.reduceLT,↓reduceIte,Nat.reduceEqDiff,Nat.reduceLeDiff,Nat.reduceSub,Nat.reduceMul,Int.reduceSub,Int.reduceToNat,Int.reduceBEq,Int.reduceBNe,Int.reduceLT,Int.reduceGT,Int.reduceLE,Int.reduceGE,Int.reduceNeg,Int.reduceAdd,h,e1,e2,h']
  repeat (refine ⟨by first | rfl | decide | omega | (simp only [List.length_map,List.length_set,and_true]; omega),?_⟩)
  refine loop_do [0,1] [4,3,2,1] [] (α:=Nat × Nat) (fun x =>x.2) (leSt N D) (fun x => 0 < x.1 ∧ Nat.gcd x.1 x.2 = Nat.gcd N D) (N,D) ⟨h1,rfl⟩ (by simp only [AH.SD,AH.SE,AOp.call?,AOp.next?,bstep,AV.cells,unAV,binAV,retQ,retV,AH.sliceElems,AH.bytesOf,AH.strOp,AH.bound,AH.missQ,AH.minmaxAV,AH.readOf,AH.effOf,Nat.reduceBEq,Nat.reduceAdd,Nat.reduceLT,↓reduceIte,Nat.reduceEqDiff,Nat.reduceLeDiff,Nat.reduceSub,Nat.reduceMul,Int.reduceSub,Int.reduceToNat,Int.reduceBEq,Int.reduceBNe,Int.reduceLT,Int.reduceGT,Int.reduceLE,Int.reduceGE,Int.reduceNeg,Int.reduceAdd,AH.SP,AH.PD,AV.inB,vstep,leSt]) ?_
  rintro X ⟨a,b⟩ ⟨ha,hg⟩ ih
  simp only at ha hg
  simp only [AH.SD,AH.SE,AOp.call?,AOp.next?,bstep,AV.cells,unAV,binAV,retQ,retV,AH.sliceElems,AH.bytesOf,AH.strOp,AH.bound,AH.missQ,AH.minmaxAV,AH.readOf,AH.effOf,Nat.reduceBEq,Nat.reduceAdd,Nat.reduceLT,↓reduceIte,Nat.reduceEqDiff,Nat.reduceLeDiff,Nat.reduceSub,Nat.reduceMul,Int.reduceSub,Int.reduceToNat,Int.reduceBEq,Int.reduceBNe,Int.reduceLT,Int.reduceGT,Int.reduceLE,Int.reduceGE,Int.reduceNeg,Int.reduceAdd,leSt]
  refine ⟨fun hlt => ?_,fun hlt => ?_⟩
  · have hb : b ≠ 0:=fun h =>by rw [h] at hlt; cases hlt
    have hbi : (b : Int) ≠ 0:=by omega
    have done:=ih (b,a % b) ⟨Nat.pos_of_ne_zero hb,by rw [gcd_step,hg]⟩ (Nat.mod_lt _ (Nat.pos_of_ne_zero hb))
    simp only [leSt] at done
    simp only [AH.SD,AH.SE,AOp.call?,AOp.next?,bstep,AV.cells,unAV,binAV,retQ,retV,AH.sliceElems,AH.bytesOf,AH.strOp,AH.bound,AH.missQ,AH.minmaxAV,AH.readOf,AH.effOf,Nat.reduceBEq,Nat.reduceAdd,Nat.reduceLT,↓reduceIte,Nat.reduceEqDiff,Nat.reduceLeDiff,Nat.reduceSub,Nat.reduceMul,Int.reduceSub,Int.reduceToNat,Int.reduceBEq,Int.reduceBNe,Int.reduceLT,Int.reduceGT,Int.reduceLE,Int.reduceGE,Int.reduceNeg,Int.reduceAdd,tmodN]
    repeat (refine ⟨by first | rfl | decide | omega | (simp only [List.length_map,List.length_set,and_true]; omega),?_⟩)
    refine gc_auto [0,1] [4,3,2,1] [] ?_
    simp only [AH.SD,AH.SE,AOp.call?,AOp.next?,bstep,AV.cells,unAV,binAV,retQ,retV,AH.sliceElems,AH.bytesOf,AH.strOp,AH.bound,AH.missQ,AH.minmaxAV,AH.readOf,AH.effOf,Nat.reduceBEq,Nat.reduceAdd,Nat.reduceLT,↓reduceIte,Nat.reduceEqDiff,Nat.reduceLeDiff,Nat.reduceSub,Nat.reduceMul,Int.reduceSub,Int.reduceToNat,Int.reduceBEq,Int.reduceBNe,Int.reduceLT,Int.reduceGT,Int.reduceLE,Int.reduceGE,Int.reduceNeg,Int.reduceAdd,AH.SP,AH.PD,AV.inB,vstep]
    exact done
  · have hb : b = 0:=by
      by_cases h : b = 0
      · exact h
      · rw [bne_nat h] at hlt; cases hlt
    rw [hb,Nat.gcd_zero_right] at hg
    have hai : (a : Int) ≠ 0:=by omega
    have q1 : N / a ≤ N:=Nat.div_le_self _ _
    have q2 : D / a ≤ D:=Nat.div_le_self _ _
    simp only [AH.SD,AH.SE,AOp.call?,AOp.next?,bstep,AV.cells,unAV,binAV,retQ,retV,AH.sliceElems,AH.bytesOf,AH.strOp,AH.bound,AH.missQ,AH.minmaxAV,AH.readOf,AH.effOf,Nat.reduceBEq,Nat.reduceAdd,Nat.reduceLT,↓reduceIte,Nat.reduceEqDiff,Nat.reduceLeDiff,Nat.reduceSub,Nat.reduceMul,Int.reduceSub,Int.reduceToNat,Int.reduceBEq,Int.reduceBNe,Int.reduceLT,Int.reduceGT,Int.reduceLE,Int.reduceGE,Int.reduceNeg,Int.reduceAdd,tdivN,wrap_small (Nat.le_trans q1 k1),wrap_small (Nat.le_trans q2 k2)]
    rw [e,← hg]
    repeat (refine ⟨by first | rfl | decide | omega | (simp only [List.length_map,List.length_set,and_true]; omega),?_⟩)
    try rfl
def leastT : RT:=rtP (cSub (cC (aA cSh) c0) okOne) fun x => .agg (leastS x.1.1).cells
theorem leastT_ok : ReadF S0 33 leastT:=rtP_ok (fun ⟨⟨a,_⟩,ha⟩ =>least_ok a ha) fun _ =>rfl
theorem leastT_eq (a b : Int) (M : Nat → Option Blk) (ha : Sh.ok ⟨a,b⟩) : leastT [.agg [.int .i64 a,.int .i64 b]] M = some (.agg [.int .i64 (leastS ⟨a,b⟩).n,.int .i64 (leastS ⟨a,b⟩).d],[]):=by
  have h : okOne (⟨a,b⟩,()):=ha
  unfold leastT
  rw [rtS_eq h rfl]
  rfl
theorem rclass_ok (n d : Int) : Pure S0 53 [.int .i64 n,.int .i64 d] (.int .i64 (clsZ n d)):=by
  refine fun_sound okZ Tryd.func53 c53 ?_
  unfold wpF F53
  simp only [AH.SD,AH.SE,AOp.call?,AOp.next?,bstep,AV.cells,unAV,binAV,retQ,retV,AH.sliceElems,AH.bytesOf,AH.strOp,AH.bound,AH.missQ,AH.minmaxAV,AH.readOf,AH.effOf,Nat.reduceBEq,Nat.reduceAdd,Nat.reduceLT,↓reduceIte,Nat.reduceEqDiff,Nat.reduceLeDiff,Nat.reduceSub,Nat.reduceMul,Int.reduceSub,Int.reduceToNat,Int.reduceBEq,Int.reduceBNe,Int.reduceLT,Int.reduceGT,Int.reduceLE,Int.reduceGE,Int.reduceNeg,Int.reduceAdd,clsZ]
  cases h1 : decide (n ≤ 0)
  · cases h2 : decide (d ≤ 0)
    · simp only [AH.SD,AH.SE,AOp.call?,AOp.next?,bstep,AV.cells,unAV,binAV,retQ,retV,AH.sliceElems,AH.bytesOf,AH.strOp,AH.bound,AH.missQ,AH.minmaxAV,AH.readOf,AH.effOf,Nat.reduceBEq,Nat.reduceAdd,Nat.reduceLT,↓reduceIte,Nat.reduceEqDiff,Nat.reduceLeDiff,Nat.reduceSub,Nat.reduceMul,Int.reduceSub,Int.reduceToNat,Int.reduceBEq,Int.reduceBNe,Int.reduceLT,Int.reduceGT,Int.reduceLE,Int.reduceGE,Int.reduceNeg,Int.reduceAdd,h1,h2]
    · simp only [AH.SD,AH.SE,AOp.call?,AOp.next?,bstep,AV.cells,unAV,binAV,retQ,retV,AH.sliceElems,AH.bytesOf,AH.strOp,AH.bound,AH.missQ,AH.minmaxAV,AH.readOf,AH.effOf,Nat.reduceBEq,Nat.reduceAdd,Nat.reduceLT,↓reduceIte,Nat.reduceEqDiff,Nat.reduceLeDiff,Nat.reduceSub,Nat.reduceMul,Int.reduceSub,Int.reduceToNat,Int.reduceBEq,Int.reduceBNe,Int.reduceLT,Int.reduceGT,Int.reduceLE,Int.reduceGE,Int.reduceNeg,Int.reduceAdd,h1,h2]
  · simp only [AH.SD,AH.SE,AOp.call?,AOp.next?,bstep,AV.cells,unAV,binAV,retQ,retV,AH.sliceElems,AH.bytesOf,AH.strOp,AH.bound,AH.missQ,AH.minmaxAV,AH.readOf,AH.effOf,Nat.reduceBEq,Nat.reduceAdd,Nat.reduceLT,↓reduceIte,Nat.reduceEqDiff,Nat.reduceLeDiff,Nat.reduceSub,Nat.reduceMul,Int.reduceSub,Int.reduceToNat,Int.reduceBEq,Int.reduceBNe,Int.reduceLT,Int.reduceGT,Int.reduceLE,Int.reduceGE,Int.reduceNeg,Int.reduceAdd,h1]
def rclassT : RT:=rtP (cC (aI .i64) (cC (aI .i64) c0)) fun x => .int .i64 (clsZ x.1 x.2.1)
theorem rclassT_ok : ReadF S0 53 rclassT:=rtP_ok (fun x =>rclass_ok x.1 x.2.1) fun _ =>rfl
theorem rclassT_eq (n d : Int) (M : Nat → Option Blk) : rclassT [.int .i64 n,.int .i64 d] M = some (.int .i64 (clsZ n d),[]):=rfl
abbrev tRc : List (FuncId × RT):=[(53,rclassT)]
theorem okRc : CtxOK S0 (ctxU S0 tRc []):=ctxU_ok ⟨rclassT_ok,trivial⟩ trivial mixed
def rleSt (N D : Nat) (x : Nat × Nat) : St:=⟨[(7,.int .i64 x.2),(6,.int .i64 x.1),(1,.int .i64 D),(0,.int .i64 N)],[]⟩
set_option maxRecDepth 100000 in
theorem rleast_ok (s : Sh) (hs : s.ok) : Pure S0 30 [.int .i64 s.n,.int .i64 s.d] (.tup [.int .i64 (leastS s).n,.int .i64 (leastS s).d]):=by
  refine fun_sound okRc Tryd.func30 c30 ?_
  unfold wpF F30
  simp only [AH.SD,AH.SE,AOp.call?,AOp.next?,bstep,AV.cells,unAV,binAV,retQ,retV,AH.sliceElems,AH.bytesOf,AH.strOp,AH.bound,AH.missQ,AH.minmaxAV,AH.readOf,AH.effOf,Nat.reduceBEq,Nat.reduceAdd,Nat.reduceLT,↓reduceIte,Nat.reduceEqDiff,Nat.reduceLeDiff,Nat.reduceSub,Nat.reduceMul,Int.reduceSub,Int.reduceToNat,Int.reduceBEq,Int.reduceBNe,Int.reduceLT,Int.reduceGT,Int.reduceLE,Int.reduceGE,Int.reduceNeg,Int.reduceAdd,rclassT_eq]
  rcases clsZ_in s.n s.d with h | h | h
  · simp only [AH.SD,AH.SE,AOp.call?,AOp.next?,bstep,AV.cells,unAV,binAV,retQ,retV,AH.sliceElems,AH.bytesOf,AH.strOp,AH.bound,AH.missQ,AH.minmaxAV,AH.readOf,AH.effOf,Nat.reduceBEq,Nat.reduceAdd,Nat.reduceLT,↓reduceIte,Nat.reduceEqDiff,Nat.reduceLeDiff,Nat.reduceSub,Nat.reduceMul,Int.reduceSub,Int.reduceToNat,Int.reduceBEq,Int.reduceBNe,Int.reduceLT,Int.reduceGT,Int.reduceLE,Int.reduceGE,Int.reduceNeg,Int.reduceAdd,h,leastS]
  rotate_left
  · simp only [AH.SD,AH.SE,AOp.call?,AOp.next?,bstep,AV.cells,unAV,binAV,retQ,retV,AH.sliceElems,AH.bytesOf,AH.strOp,AH.bound,AH.missQ,AH.minmaxAV,AH.readOf,AH.effOf,Nat.reduceBEq,Nat.reduceAdd,Nat.reduceLT,↓reduceIte,Nat.reduceEqDiff,Nat.reduceLeDiff,Nat.reduceSub,Nat.reduceMul,Int.reduceSub,Int.reduceToNat,Int.reduceBEq,Int.reduceBNe,Int.reduceLT,Int.reduceGT,Int.reduceLE,Int.reduceGE,Int.reduceNeg,Int.reduceAdd,h,leastS]
  obtain ⟨N,D,e1,e2,h1,h2,e⟩:=leastS_1 h
  have k1 : N ≤ 9223372036854775807:=by have:=hs.1; omega
  have k2 : D ≤ 9223372036854775807:=by have:=hs.2; omega
  have h' : clsZ N D = 1:=by rw [← e1,← e2]; exact h
  simp only [AH.SD,AH.SE,AOp.call?,AOp.next?,bstep,AV.cells,unAV,binAV,retQ,retV,AH.sliceElems,AH.bytesOf,AH.strOp,AH.bound,AH.missQ,AH.minmaxAV,AH.readOf,AH.effOf,Nat.reduceBEq,Nat.reduceAdd,Nat.reduceLT,↓reduceIte,Nat.reduceEqDiff,Nat.reduceLeDiff,Nat.reduceSub,Nat.reduceMul,Int.reduceSub,Int.reduceToNat,Int.reduceBEq,Int.reduceBNe,Int.reduceLT,Int.reduceGT,Int.reduceLE,Int.reduceGE,Int.reduceNeg,Int.reduceAdd,h,e1,e2,h']
  refine loop_do [] [7,6,1,0] [] (α:=Nat × Nat) (fun x =>x.2) (rleSt N D) (fun x => 0 < x.1 ∧ Nat.gcd x.1 x.2 = Nat.gcd N D) (N,D) ⟨h1,rfl⟩ (by simp only [AH.SD,AH.SE,AOp.call?,AOp.next?,bstep,AV.cells,unAV,binAV,retQ,retV,AH.sliceElems,AH.bytesOf,AH.strOp,AH.bound,AH.missQ,AH.minmaxAV,AH.readOf,AH.effOf,Nat.reduceBEq,Nat.reduceAdd,Nat.reduceLT,↓reduceIte,Nat.reduceEqDiff,Nat.reduceLeDiff,Nat.reduceSub,Nat.reduceMul,Int.reduceSub,Int.reduceToNat,Int.reduceBEq,Int.reduceBNe,Int.reduceLT,Int.reduceGT,Int.reduceLE,Int.reduceGE,Int.reduceNeg,Int.reduceAdd,AH.SP,AH.PD,AV.inB,vstep,rleSt]) ?_
  rintro X ⟨a,b⟩ ⟨ha,hg⟩ ih
  simp only at ha hg
  simp only [AH.SD,AH.SE,AOp.call?,AOp.next?,bstep,AV.cells,unAV,binAV,retQ,retV,AH.sliceElems,AH.bytesOf,AH.strOp,AH.bound,AH.missQ,AH.minmaxAV,AH.readOf,AH.effOf,Nat.reduceBEq,Nat.reduceAdd,Nat.reduceLT,↓reduceIte,Nat.reduceEqDiff,Nat.reduceLeDiff,Nat.reduceSub,Nat.reduceMul,Int.reduceSub,Int.reduceToNat,Int.reduceBEq,Int.reduceBNe,Int.reduceLT,Int.reduceGT,Int.reduceLE,Int.reduceGE,Int.reduceNeg,Int.reduceAdd,rleSt]
  refine ⟨fun hlt => ?_,fun hlt => ?_⟩
  · have hb : b ≠ 0:=fun h =>by rw [h] at hlt; cases hlt
    have hbi : (b : Int) ≠ 0:=by omega
    have done:=ih (b,a % b) ⟨Nat.pos_of_ne_zero hb,by rw [gcd_step,hg]⟩ (Nat.mod_lt _ (Nat.pos_of_ne_zero hb))
    simp only [rleSt] at done
    simp only [AH.SD,AH.SE,AOp.call?,AOp.next?,bstep,AV.cells,unAV,binAV,retQ,retV,AH.sliceElems,AH.bytesOf,AH.strOp,AH.bound,AH.missQ,AH.minmaxAV,AH.readOf,AH.effOf,Nat.reduceBEq,Nat.reduceAdd,Nat.reduceLT,↓reduceIte,Nat.reduceEqDiff,Nat.reduceLeDiff,Nat.reduceSub,Nat.reduceMul,Int.reduceSub,Int.reduceToNat,Int.reduceBEq,Int.reduceBNe,Int.reduceLT,Int.reduceGT,Int.reduceLE,Int.reduceGE,Int.reduceNeg,Int.reduceAdd,tmodN]
    repeat (refine ⟨by first | rfl | decide | omega | (simp only [List.length_map,List.length_set,and_true]; omega),?_⟩)
    refine gc_auto [] [7,6,1,0] [] ?_
    simp only [AH.SD,AH.SE,AOp.call?,AOp.next?,bstep,AV.cells,unAV,binAV,retQ,retV,AH.sliceElems,AH.bytesOf,AH.strOp,AH.bound,AH.missQ,AH.minmaxAV,AH.readOf,AH.effOf,Nat.reduceBEq,Nat.reduceAdd,Nat.reduceLT,↓reduceIte,Nat.reduceEqDiff,Nat.reduceLeDiff,Nat.reduceSub,Nat.reduceMul,Int.reduceSub,Int.reduceToNat,Int.reduceBEq,Int.reduceBNe,Int.reduceLT,Int.reduceGT,Int.reduceLE,Int.reduceGE,Int.reduceNeg,Int.reduceAdd,AH.SP,AH.PD,AV.inB,vstep]
    exact done
  · have hb : b = 0:=by
      by_cases h : b = 0
      · exact h
      · rw [bne_nat h] at hlt; cases hlt
    rw [hb,Nat.gcd_zero_right] at hg
    have hai : (a : Int) ≠ 0:=by omega
    have q1 : N / a ≤ N:=Nat.div_le_self _ _
    have q2 : D / a ≤ D:=Nat.div_le_self _ _
    simp only [AH.SD,AH.SE,AOp.call?,AOp.next?,bstep,AV.cells,unAV,binAV,retQ,retV,AH.sliceElems,AH.bytesOf,AH.strOp,AH.bound,AH.missQ,AH.minmaxAV,AH.readOf,AH.effOf,Nat.reduceBEq,Nat.reduceAdd,Nat.reduceLT,↓reduceIte,Nat.reduceEqDiff,Nat.reduceLeDiff,Nat.reduceSub,Nat.reduceMul,Int.reduceSub,Int.reduceToNat,Int.reduceBEq,Int.reduceBNe,Int.reduceLT,Int.reduceGT,Int.reduceLE,Int.reduceGE,Int.reduceNeg,Int.reduceAdd,tdivN,wrap_small (Nat.le_trans q1 k1),wrap_small (Nat.le_trans q2 k2)]
    rw [e,← hg]
    repeat (refine ⟨by first | rfl | decide | omega | (simp only [List.length_map,List.length_set,and_true]; omega),?_⟩)
    try rfl
def rleastT : RT:=rtP (cSub (cC (aI .i64) (cC (aI .i64) c0)) okTwo) fun x => .tup [.int .i64 (leastS ⟨x.1.1,x.1.2.1⟩).n,.int .i64 (leastS ⟨x.1.1,x.1.2.1⟩).d]
theorem rleastT_ok : ReadF S0 30 rleastT:=rtP_ok (fun ⟨⟨a,b,_⟩,ha⟩ =>rleast_ok ⟨a,b⟩ ha) fun _ =>rfl
theorem frac_lt {a b c d : Nat} (hb : 0 < b) (h : a / b < c / d) : a * d < c * b:=by
  have x1 : a < (a / b + 1) * b:=Nat.lt_mul_of_div_lt (Nat.lt_succ_self _) hb
  have hd : 0 < d:=by
    rcases Nat.eq_zero_or_pos d with hd | hd
    · rw [hd,Nat.div_zero] at h; exact absurd h (Nat.not_lt_zero _)
    · exact hd
  have x2 : a * d < (a / b + 1) * b * d:=Nat.mul_lt_mul_of_pos_right x1 hd
  have h : a / b + 1 ≤ c / d:=h
  have x3 : (a / b + 1) * b * d ≤ c / d * b * d:=Nat.mul_le_mul_right d (Nat.mul_le_mul_right b h)
  have x4 : c / d * b * d = c / d * d * b:=by rw [Nat.mul_assoc,Nat.mul_comm b d,← Nat.mul_assoc]
  have x5 : c / d * d * b ≤ c * b:=Nat.mul_le_mul_right b (Nat.div_mul_le_self c d)
  omega
theorem cmp_add (x y k : Int) : cmpZ (k + x) (k + y) = cmpZ x y:=by unfold cmpZ; split <;> (try split) <;> (try split) <;> (try split) <;> omega
theorem frac_eq {a b c d : Nat} (h : a / b = c / d) : cmpZ ((a : Int) * d) ((c : Int) * b) = cmpZ (((a % b : Nat) : Int) * d) (((c % d : Nat) : Int) * b):=by
  have e1 : (a : Int) * d = ((a / b * b * d : Nat) : Int) + ((a % b : Nat) : Int) * d:=by
    have : a * d = a / b * b * d + a % b * d:=by rw [← Nat.add_mul,Nat.mul_comm (a / b) b,Nat.div_add_mod]
    exact_mod_cast this
  have e2 : (c : Int) * b = ((a / b * b * d : Nat) : Int) + ((c % d : Nat) : Int) * b:=by
    have : c * b = a / b * b * d + c % d * b:=by
      rw [h,Nat.mul_assoc,Nat.mul_comm b d,← Nat.mul_assoc,← Nat.add_mul,Nat.mul_comm (c / d) d,Nat.div_add_mod]
    exact_mod_cast this
  rw [e1,e2,cmp_add]
theorem step_half {a b : Nat} (hb : 0 < b) (h : b ≤ a) : 2 * (b * (a % b)) < a * b:=by
  have h1 : a % b < b:=Nat.mod_lt _ hb
  have h2 : 1 ≤ a / b:=(Nat.one_le_div_iff hb).2 h
  have h3:=Nat.div_add_mod a b
  have h4 : b * 1 ≤ b * (a / b):=Nat.mul_le_mul_left b h2
  have h5 : 2 * (a % b) < a:=by omega
  have h6 : 2 * (a % b) * b < a * b:=Nat.mul_lt_mul_of_pos_right h5 hb
  rw [Nat.mul_comm b (a % b),← Nat.mul_assoc]; exact h6
end Go.Proofs.YtkbjfhkhbcgkgaaDoor.B33
