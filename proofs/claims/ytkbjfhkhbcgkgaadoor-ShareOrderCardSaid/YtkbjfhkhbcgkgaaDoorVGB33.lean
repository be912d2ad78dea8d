import Derived.Test.YtkbjfhkhbcgkgaaDoorFVGB33
open Go AH
set_option linter.unusedSimpArgs false
set_option maxRecDepth 100000
namespace Go.Proofs.YtkbjfhkhbcgkgaaDoor.B33
structure V4 where
  a : Int
  b : Int
  c : Int
  d : Int
def V4.cells (v : V4) : List AV:=[.int .i64 v.a,.int .i64 v.b,.int .i64 v.c,.int .i64 v.d]
def decV : List AV → Option V4
  | [.int .i64 a,.int .i64 b,.int .i64 c,.int .i64 d] =>some ⟨a,b,c,d⟩
  | _ =>none
theorem decV_ok (l : List AV) (v : V4) (h : decV l = some v) : l = v.cells:=by
  unfold decV at h
  split at h
  · simp only [Option.some.injEq] at h; subst h; rfl
  · cases h
def cV : Cod V4:=⟨V4.cells,decV,decV_ok,fun _ =>rfl,fun _ =>rfl⟩
def V4.l (v : V4) : List Int:=[v.a,v.b,v.c,v.d]
def V4.av (v : V4) : AV:=.agg [.int .i64 v.a,.int .i64 v.b,.int .i64 v.c,.int .i64 v.d]
theorem V4.eta (v : V4) : (⟨v.a,v.b,v.c,v.d⟩ : V4) = v:=rfl
def V4.zero : V4:=⟨0,0,0,0⟩
instance : FlatE V4.cells:=⟨cV.flat⟩
def bad (n : Int) : Bool:=decide (n < 0) || decide (n > 1099511627776)
def good (v : V4) : Bool:=!v.l.any bad
theorem okZ : CtxOK S0 (ctxU S0 [] []):=ctxU_ok trivial trivial mixed
theorem good1_ok (n : Int) : Pure S0 47 [.int .i64 n] (.bool (bad n)):=by
  refine fun_sound okZ Tryd.func47 c47 ?_
  unfold wpF F47
  simp only [AH.SD,AH.SE,AOp.call?,AOp.next?,bstep,AV.cells,unAV,binAV,retQ,retV,AH.sliceElems,AH.bytesOf,AH.strOp,AH.bound,AH.missQ,AH.minmaxAV,AH.readOf,AH.effOf,Nat.reduceBEq,Nat.reduceAdd,Nat.reduceLT,↓reduceIte,Nat.reduceEqDiff,Nat.reduceLeDiff,Nat.reduceSub,Nat.reduceMul,Int.reduceSub,Int.reduceToNat,Int.reduceBEq,Int.reduceBNe,Int.reduceLT,Int.reduceGT,Int.reduceLE,Int.reduceGE,Int.reduceNeg,Int.reduceAdd]
  cases h : decide (n < 0)
  · simp only [AH.SD,AH.SE,AOp.call?,AOp.next?,bstep,AV.cells,unAV,binAV,retQ,retV,AH.sliceElems,AH.bytesOf,AH.strOp,AH.bound,AH.missQ,AH.minmaxAV,AH.readOf,AH.effOf,Nat.reduceBEq,Nat.reduceAdd,Nat.reduceLT,↓reduceIte,Nat.reduceEqDiff,Nat.reduceLeDiff,Nat.reduceSub,Nat.reduceMul,Int.reduceSub,Int.reduceToNat,Int.reduceBEq,Int.reduceBNe,Int.reduceLT,Int.reduceGT,Int.reduceLE,Int.reduceGE,Int.reduceNeg,Int.reduceAdd,bad,h,Bool.false_or]
  · simp only [AH.SD,AH.SE,AOp.call?,AOp.next?,bstep,AV.cells,unAV,binAV,retQ,retV,AH.sliceElems,AH.bytesOf,AH.strOp,AH.bound,AH.missQ,AH.minmaxAV,AH.readOf,AH.effOf,Nat.reduceBEq,Nat.reduceAdd,Nat.reduceLT,↓reduceIte,Nat.reduceEqDiff,Nat.reduceLeDiff,Nat.reduceSub,Nat.reduceMul,Int.reduceSub,Int.reduceToNat,Int.reduceBEq,Int.reduceBNe,Int.reduceLT,Int.reduceGT,Int.reduceLE,Int.reduceGE,Int.reduceNeg,Int.reduceAdd,bad,h,Bool.true_or]
def good1T : RT:=rtP (cC (aI .i64) c0) fun x => .bool (bad x.1)
theorem good1T_ok : ReadF S0 47 good1T:=rtP_ok (fun x =>good1_ok x.1) fun _ =>rfl
theorem good1T_eq (n : Int) (M : Nat → Option Blk) : good1T [.int .i64 n] M = some (.bool (bad n),[]):=rfl
abbrev T1 : List (FuncId × RT):=[(47,good1T)]
theorem ok1 : CtxOK S0 (ctxU S0 T1 []):=ctxU_ok ⟨good1T_ok,trivial⟩ trivial mixed
def firstBad (l : List Int) : Int:=match l.findIdx? bad with
  | some i =>i
  | none => -1
theorem index_ok (l : List Int) (hl : l.length ≤ 1000) {K : AV → Mem → Prop} (h : ∀ m,K (.int .i64 (firstBad l)) m) : CallA1 S0 66 [.isl 0 0 0 l.length,.fn 47 [] []] [some (.row false l.length [l.map (AV.int .i64)])] K:=by
  refine fun_sound ok1 Tryd.func66 c66 ?_
  unfold wpF F66
  simp only [AH.SD,AH.SE,AOp.call?,AOp.next?,bstep,AV.cells,unAV,binAV,retQ,retV,AH.sliceElems,AH.bytesOf,AH.strOp,AH.bound,AH.missQ,AH.minmaxAV,AH.readOf,AH.effOf,Nat.reduceBEq,Nat.reduceAdd,Nat.reduceLT,↓reduceIte,Nat.reduceEqDiff,Nat.reduceLeDiff,Nat.reduceSub,Nat.reduceMul,Int.reduceSub,Int.reduceToNat,Int.reduceBEq,Int.reduceBNe,Int.reduceLT,Int.reduceGT,Int.reduceLE,Int.reduceGE,Int.reduceNeg,Int.reduceAdd]
  refine loop_rule (α:=Nat) (fun i =>l.length - i) (fun i =>⟨[(8,.int .i64 i),(7,.int .i64 l.length),(1,.fn 47 [] []),(0,.isl 0 0 0 l.length)],[some (.row false l.length [l.map (AV.int .i64)])]⟩) (fun i =>i ≤ l.length ∧ ∀ j (hj : j < l.length),j < i → bad l[j] = false) 0 ⟨Nat.zero_le _,fun j _ h =>absurd h (Nat.not_lt_zero _)⟩
    (gc_keep (l:=[(8,.int .i64 0),(7,.int .i64 l.length),(1,.fn 47 [] []),(0,.isl 0 0 0 l.length)]) ⟨rfl,rfl,rfl,rfl,trivial⟩ rfl) ?_
  rintro X i ⟨hi,hb⟩ ih
  simp only [AH.SD,AH.SE,AOp.call?,AOp.next?,bstep,AV.cells,unAV,binAV,retQ,retV,AH.sliceElems,AH.bytesOf,AH.strOp,AH.bound,AH.missQ,AH.minmaxAV,AH.readOf,AH.effOf,Nat.reduceBEq,Nat.reduceAdd,Nat.reduceLT,↓reduceIte,Nat.reduceEqDiff,Nat.reduceLeDiff,Nat.reduceSub,Nat.reduceMul,Int.reduceSub,Int.reduceToNat,Int.reduceBEq,Int.reduceBNe,Int.reduceLT,Int.reduceGT,Int.reduceLE,Int.reduceGE,Int.reduceNeg,Int.reduceAdd]
  refine ⟨fun hlt => ?_,fun hlt => ?_⟩
  · simp only [decide_eq_true_eq] at hlt
    have hil : i < l.length:=by omega
    have hg : (l.map (AV.int .i64)).getD i .undef = .int .i64 l[i]:=by
      rw [List.getD_eq_getElem?_getD,List.getElem?_map,List.getElem?_eq_getElem hil]; rfl
    have hw : IntKind.i64.wrap ((i : Int) + 1) = ((i + 1 : Nat) : Int):=by rw [IntKind.wrap_i64]; omega
    simp only [AH.SD,AH.SE,AOp.call?,AOp.next?,bstep,AV.cells,unAV,binAV,retQ,retV,AH.sliceElems,AH.bytesOf,AH.strOp,AH.bound,AH.missQ,AH.minmaxAV,AH.readOf,AH.effOf,Nat.reduceBEq,Nat.reduceAdd,Nat.reduceLT,↓reduceIte,Nat.reduceEqDiff,Nat.reduceLeDiff,Nat.reduceSub,Nat.reduceMul,Int.reduceSub,Int.reduceToNat,Int.reduceBEq,Int.reduceBNe,Int.reduceLT,Int.reduceGT,Int.reduceLE,Int.reduceGE,Int.reduceNeg,Int.reduceAdd,hg,good1T_eq]
    refine ⟨⟨by omega,by omega⟩,by omega,?_⟩
    refine ⟨fun hq => ?_,fun hq => ?_⟩
    · simp only [AH.SD,AH.SE,AOp.call?,AOp.next?,bstep,AV.cells,unAV,binAV,retQ,retV,AH.sliceElems,AH.bytesOf,AH.strOp,AH.bound,AH.missQ,AH.minmaxAV,AH.readOf,AH.effOf,Nat.reduceBEq,Nat.reduceAdd,Nat.reduceLT,↓reduceIte,Nat.reduceEqDiff,Nat.reduceLeDiff,Nat.reduceSub,Nat.reduceMul,Int.reduceSub,Int.reduceToNat,Int.reduceBEq,Int.reduceBNe,Int.reduceLT,Int.reduceGT,Int.reduceLE,Int.reduceGE,Int.reduceNeg,Int.reduceAdd]
      have e : firstBad l = i:=by
        have : l.findIdx? bad = some i:=List.findIdx?_eq_some_iff_getElem.2 ⟨hil,hq,fun j hj =>by have:=hb j (by omega) hj; simp [this]⟩
        simp [firstBad,this]
      rw [← e]
      exact h _
    · simp only [AH.SD,AH.SE,AOp.call?,AOp.next?,bstep,AV.cells,unAV,binAV,retQ,retV,AH.sliceElems,AH.bytesOf,AH.strOp,AH.bound,AH.missQ,AH.minmaxAV,AH.readOf,AH.effOf,Nat.reduceBEq,Nat.reduceAdd,Nat.reduceLT,↓reduceIte,Nat.reduceEqDiff,Nat.reduceLeDiff,Nat.reduceSub,Nat.reduceMul,Int.reduceSub,Int.reduceToNat,Int.reduceBEq,Int.reduceBNe,Int.reduceLT,Int.reduceGT,Int.reduceLE,Int.reduceGE,Int.reduceNeg,Int.reduceAdd,hw]
      refine gc_keep (l:=[(8,.int .i64 ((i + 1 : Nat) : Int)),(7,.int .i64 l.length),(1,.fn 47 [] []),(0,.isl 0 0 0 l.length)]) ⟨rfl,rfl,rfl,rfl,trivial⟩ ?_
      refine ih (i + 1) ⟨by omega,fun j hj hji => ?_⟩ (by omega)
      by_cases hji' : j = i
      · subst hji'; exact hq
      · exact hb j hj (by omega)
  · simp only [decide_eq_false_iff_not] at hlt
    simp only [AH.SD,AH.SE,AOp.call?,AOp.next?,bstep,AV.cells,unAV,binAV,retQ,retV,AH.sliceElems,AH.bytesOf,AH.strOp,AH.bound,AH.missQ,AH.minmaxAV,AH.readOf,AH.effOf,Nat.reduceBEq,Nat.reduceAdd,Nat.reduceLT,↓reduceIte,Nat.reduceEqDiff,Nat.reduceLeDiff,Nat.reduceSub,Nat.reduceMul,Int.reduceSub,Int.reduceToNat,Int.reduceBEq,Int.reduceBNe,Int.reduceLT,Int.reduceGT,Int.reduceLE,Int.reduceGE,Int.reduceNeg,Int.reduceAdd]
    have e : firstBad l = -1:=by
      have : l.findIdx? bad = none:=List.findIdx?_eq_none_iff.2 fun x hx =>by
        obtain ⟨j,hj,rfl⟩:=List.getElem_of_mem hx
        exact hb j hj (by omega)
      simp [firstBad,this]
    rw [← e]
    exact h _
theorem firstBad_ge (l : List Int) : decide (firstBad l ≥ 0) = l.any bad:=by
  unfold firstBad
  cases h : l.findIdx? bad with
  | none =>
    have:=List.findIdx?_eq_none_iff.1 h
    have e : l.any bad = false:=by
      rw [List.any_eq_false]
      intro x hx; simpa using this x hx
    rw [e]; decide
  | some i =>
    obtain ⟨hi,hb,_⟩:=List.findIdx?_eq_some_iff_getElem.1 h
    have e : l.any bad = true:=List.any_eq_true.2 ⟨l[i],List.getElem_mem _,hb⟩
    rw [e]
    simp
theorem contains_ok (l : List Int) (hl : l.length ≤ 1000) {K : AV → Mem → Prop} (h : ∀ m,K (.bool (l.any bad)) m) : CallA1 S0 46 [.isl 0 0 0 l.length,.fn 47 [] []] [some (.row false l.length [l.map (AV.int .i64)])] K:=by
  refine fun_sound okZ Tryd.func46 c46 ?_
  unfold wpF F46
  simp only [AH.SD,AH.SE,AOp.call?,AOp.next?,bstep,AV.cells,unAV,binAV,retQ,retV,AH.sliceElems,AH.bytesOf,AH.strOp,AH.bound,AH.missQ,AH.minmaxAV,AH.readOf,AH.effOf,Nat.reduceBEq,Nat.reduceAdd,Nat.reduceLT,↓reduceIte,Nat.reduceEqDiff,Nat.reduceLeDiff,Nat.reduceSub,Nat.reduceMul,Int.reduceSub,Int.reduceToNat,Int.reduceBEq,Int.reduceBNe,Int.reduceLT,Int.reduceGT,Int.reduceLE,Int.reduceGE,Int.reduceNeg,Int.reduceAdd]
  refine index_ok l hl fun m => ?_
  simp only [AH.SD,AH.SE,AOp.call?,AOp.next?,bstep,AV.cells,unAV,binAV,retQ,retV,AH.sliceElems,AH.bytesOf,AH.strOp,AH.bound,AH.missQ,AH.minmaxAV,AH.readOf,AH.effOf,Nat.reduceBEq,Nat.reduceAdd,Nat.reduceLT,↓reduceIte,Nat.reduceEqDiff,Nat.reduceLeDiff,Nat.reduceSub,Nat.reduceMul,Int.reduceSub,Int.reduceToNat,Int.reduceBEq,Int.reduceBNe,Int.reduceLT,Int.reduceGT,Int.reduceLE,Int.reduceGE,Int.reduceNeg,Int.reduceAdd,firstBad_ge]
  exact h _
theorem good_ok (v : V4) : Pure S0 16 [v.av] (.bool (good v)):=by
  refine fun_sound okZ Tryd.func16 c16 ?_
  unfold wpF F16
  simp only [AH.SD,AH.SE,AOp.call?,AOp.next?,bstep,AV.cells,unAV,binAV,retQ,retV,AH.sliceElems,AH.bytesOf,AH.strOp,AH.bound,AH.missQ,AH.minmaxAV,AH.readOf,AH.effOf,Nat.reduceBEq,Nat.reduceAdd,Nat.reduceLT,↓reduceIte,Nat.reduceEqDiff,Nat.reduceLeDiff,Nat.reduceSub,Nat.reduceMul,Int.reduceSub,Int.reduceToNat,Int.reduceBEq,Int.reduceBNe,Int.reduceLT,Int.reduceGT,Int.reduceLE,Int.reduceGE,Int.reduceNeg,Int.reduceAdd,V4.av]
  repeat (refine ⟨by first | rfl | decide | omega | (simp only [List.length_map,List.length_set,and_true]; omega),?_⟩)
  refine contains_ok v.l (show 4 ≤ 1000 by decide) fun m => ?_
  simp only [AH.SD,AH.SE,AOp.call?,AOp.next?,bstep,AV.cells,unAV,binAV,retQ,retV,AH.sliceElems,AH.bytesOf,AH.strOp,AH.bound,AH.missQ,AH.minmaxAV,AH.readOf,AH.effOf,Nat.reduceBEq,Nat.reduceAdd,Nat.reduceLT,↓reduceIte,Nat.reduceEqDiff,Nat.reduceLeDiff,Nat.reduceSub,Nat.reduceMul,Int.reduceSub,Int.reduceToNat,Int.reduceBEq,Int.reduceBNe,Int.reduceLT,Int.reduceGT,Int.reduceLE,Int.reduceGE,Int.reduceNeg,Int.reduceAdd]
  rfl
def goodT : RT:=rtP (cC (aA cV) c0) fun x => .bool (good x.1)
theorem goodT_ok {S : AH.Sys} {g : Nat} (h : ∀ v : V4,Pure S g [v.av] (.bool (good v))) : ReadF S g goodT:=rtP_ok (fun x =>h x.1) fun _ =>rfl
theorem goodT_eq (a b c d : Int) (M : Nat → Option Blk) : goodT [.agg [.int .i64 a,.int .i64 b,.int .i64 c,.int .i64 d]] M = some (.bool (good ⟨a,b,c,d⟩),[]):=rfl
end Go.Proofs.YtkbjfhkhbcgkgaaDoor.B33
