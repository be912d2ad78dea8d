import Derived.Test.YtkbjfhkhbcgkgaaDoorSrtMB33
import Derived.Test.YtkbjfhkhbcgkgaaDoorFSrtB33
open Go AH
set_option linter.unusedSimpArgs false
set_option maxRecDepth 100000
namespace Go.Proofs.YtkbjfhkhbcgkgaaDoor.B33
theorem get_at (X W : List Int) (s : Int) : (X ++ s :: W).getD X.length 0 = s:=by simp [List.getD_eq_getElem?_getD]
theorem swap2 (X Z W : List Int) (s t : Int) : ((X ++ s :: (Z ++ t :: W)).set X.length t).set (X.length + 1 + Z.length) s = X ++ t :: (Z ++ s :: W):=by
  rw [List.set_append_right _ _ (Nat.le_refl _),Nat.sub_self,List.set_cons_zero,List.set_append_right _ _ (by omega),show X.length + 1 + Z.length - X.length = Z.length + 1 by omega,List.set_cons_succ,List.set_append_right _ _ (Nat.le_refl _),Nat.sub_self,List.set_cons_zero]
theorem get2 (X Z W : List Int) (s t : Int) : (X ++ s :: (Z ++ t :: W)).getD (X.length + 1 + Z.length) 0 = t:=by
  have : X ++ s :: (Z ++ t :: W) = (X ++ s :: Z) ++ t :: W:=by simp
  rw [this]
  have e:=get_at (X ++ s :: Z) W t
  rw [show (X ++ s :: Z).length = X.length + 1 + Z.length by simp; omega] at e
  exact e
def swA (P S Q T R : List Int) (i : Nat) : List Int:=P ++ T.take i ++ (S.drop i ++ Q ++ S.take i ++ (T.drop i ++ R))
theorem swA_at {P S Q T R : List Int} {i : Nat} (h1 : i < S.length) (h2 : i < T.length) : swA P S Q T R i = (P ++ T.take i) ++ S[i] :: ((S.drop (i + 1) ++ Q ++ S.take i) ++ T[i] :: (T.drop (i + 1) ++ R)):=by
  rw [swA,List.drop_eq_getElem_cons h1,List.drop_eq_getElem_cons h2]
  simp only [List.append_assoc,List.cons_append]
theorem swA_next {P S Q T R : List Int} {i : Nat} (h1 : i < S.length) (h2 : i < T.length) : swA P S Q T R (i + 1) = (P ++ T.take i) ++ T[i] :: ((S.drop (i + 1) ++ Q ++ S.take i) ++ S[i] :: (T.drop (i + 1) ++ R)):=by
  rw [swA,List.take_succ_eq_append_getElem h1,List.take_succ_eq_append_getElem h2]
  simp only [List.append_assoc,List.cons_append,List.nil_append]
theorem swA_len (P S Q T R : List Int) (i : Nat) : (swA P S Q T R i).length = P.length + S.length + Q.length + T.length + R.length:=by
  simp [swA]; omega
set_option maxRecDepth 100000 in
theorem swap_ok {TT : List (FuncId × RT)} {U : List (FuncId × UT)} (ok : CtxOK S0 (ctxU S0 TT U)) {v : AV} {m : Mem} {id : Nat} (hid : id < m.length) (P S Q T R : List Int) (hST : T.length = S.length) {n a b : Nat} (hn : n = P.length + S.length + Q.length + T.length + R.length) (hn2 : n ≤ 1048576) (ha : a = P.length) (hb : b = P.length + S.length + Q.length) :
    CallA1 S0 75 [.slc id 0 n none,.int .i64 a,.int .i64 b,.int .i64 S.length,v] (MI m id (P ++ (S ++ Q ++ (T ++ R)))) fun r m' =>r = .tup [] ∧ m' = MI m id (P ++ (T ++ Q ++ (S ++ R))):=by
  have hfr : ∀ (l : List Int) (e : Eff),e.foot = [id] → okFresh (MI m id l).length e = true:=fun l e h =>by
    unfold okFresh
    rw [h,MI,mset_lenF _ _ _ hid]
    have : [id].contains m.length = false:=by simp; omega
    rw [this]; rfl
  have e0 : P ++ (S ++ Q ++ (T ++ R)) = swA P S Q T R 0:=by simp [swA]
  have eN : P ++ (T ++ Q ++ (S ++ R)) = swA P S Q T R S.length:=by
    have : T.take S.length = T:=by rw [← hST,List.take_length]
    have t2 : T.drop S.length = []:=by rw [← hST,List.drop_length]
    simp [swA,this,t2]
  rw [e0,eN]
  refine fun_sound ok Tryd.func75 c75 ?_
  unfold wpF F75
  simp only [AH.SD,AH.SE,AOp.call?,AOp.next?,bstep,AV.cells,unAV,binAV,retQ,retV,AH.sliceElems,AH.bytesOf,AH.strOp,AH.bound,AH.missQ,AH.minmaxAV,AH.readOf,AH.effOf,Nat.reduceBEq,Nat.reduceAdd,Nat.reduceLT,↓reduceIte,Nat.reduceEqDiff,Nat.reduceLeDiff,Nat.reduceSub,Nat.reduceMul,Int.reduceSub,Int.reduceToNat,Int.reduceBEq,Int.reduceBNe,Int.reduceLT,Int.reduceGT,Int.reduceLE,Int.reduceGE,Int.reduceNeg,Int.reduceAdd]
  refine loop_rule (α:=Nat) (fun i =>S.length - i) (fun i =>⟨[(10,.int .i64 i),(3,.int .i64 S.length),(2,.int .i64 b),(1,.int .i64 a),(0,.slc id 0 n none)],MI m id (swA P S Q T R i)⟩) (fun i =>i ≤ S.length) 0 (Nat.zero_le _)
    (gc_keep (l:=[(10,.int .i64 0),(3,.int .i64 S.length),(2,.int .i64 b),(1,.int .i64 a),(0,.slc id 0 n none)]) ⟨rfl,rfl,rfl,rfl,rfl,trivial⟩ rfl) ?_
  intro X i hi ih
  simp only [AH.SD,AH.SE,AOp.call?,AOp.next?,bstep,AV.cells,unAV,binAV,retQ,retV,AH.sliceElems,AH.bytesOf,AH.strOp,AH.bound,AH.missQ,AH.minmaxAV,AH.readOf,AH.effOf,Nat.reduceBEq,Nat.reduceAdd,Nat.reduceLT,↓reduceIte,Nat.reduceEqDiff,Nat.reduceLeDiff,Nat.reduceSub,Nat.reduceMul,Int.reduceSub,Int.reduceToNat,Int.reduceBEq,Int.reduceBNe,Int.reduceLT,Int.reduceGT,Int.reduceLE,Int.reduceGE,Int.reduceNeg,Int.reduceAdd]
  refine ⟨fun hlt => ?_,fun hlt => ?_⟩
  · have hi1:=lt_of_dec hlt
    have hi2 : i < T.length:=by omega
    have wi:=wrapS (i:=i) (by omega)
    have wA : IntKind.i64.wrap ((a : Int) + (i : Int)) = ((a + i : Nat) : Int):=by rw [IntKind.wrap_i64]; omega
    have wB : IntKind.i64.wrap ((b : Int) + (i : Int)) = ((b + i : Nat) : Int):=by rw [IntKind.wrap_i64]; omega
    have hl:=swA_len P S Q T R i
    have l1 : (P ++ T.take i).length = a + i:=by simp; omega
    have l2 : (P ++ T.take i).length + 1 + (S.drop (i + 1) ++ Q ++ S.take i).length = b + i:=by simp; omega
    have kA : a + i < (swA P S Q T R i).length:=by omega
    have kB : b + i < (swA P S Q T R i).length:=by omega
    have gA : (swA P S Q T R i)[a + i] = S[i]:=by
      have:=get_at (P ++ T.take i) ((S.drop (i + 1) ++ Q ++ S.take i) ++ T[i] :: (T.drop (i + 1) ++ R)) S[i]
      rw [l1,← swA_at hi1 hi2,List.getD_eq_getElem?_getD,List.getElem?_eq_getElem kA] at this
      exact this
    have gB : (swA P S Q T R i)[b + i] = T[i]:=by
      have:=get2 (P ++ T.take i) (S.drop (i + 1) ++ Q ++ S.take i) (T.drop (i + 1) ++ R) S[i] T[i]
      rw [l2,← swA_at hi1 hi2,List.getD_eq_getElem?_getD,List.getElem?_eq_getElem kB] at this
      exact this
    have eS : ((swA P S Q T R i).set (a + i) T[i]).set (b + i) S[i] = swA P S Q T R (i + 1):=by
      have:=swap2 (P ++ T.take i) (S.drop (i + 1) ++ Q ++ S.take i) (T.drop (i + 1) ++ R) S[i] T[i]
      rw [l1,← swA_at hi1 hi2,← swA_next hi1 hi2] at this
      rw [← l1] at this
      rw [l1,show a + i + 1 + (S.drop (i + 1) ++ Q ++ S.take i).length = b + i by omega] at this
      exact this
    simp only [AH.SD,AH.SE,AOp.call?,AOp.next?,bstep,AV.cells,unAV,binAV,retQ,retV,AH.sliceElems,AH.bytesOf,AH.strOp,AH.bound,AH.missQ,AH.minmaxAV,AH.readOf,AH.effOf,Nat.reduceBEq,Nat.reduceAdd,Nat.reduceLT,↓reduceIte,Nat.reduceEqDiff,Nat.reduceLeDiff,Nat.reduceSub,Nat.reduceMul,Int.reduceSub,Int.reduceToNat,Int.reduceBEq,Int.reduceBNe,Int.reduceLT,Int.reduceGT,Int.reduceLE,Int.reduceGE,Int.reduceNeg,Int.reduceAdd,mget_MI,wA,wB,getD_enc,kA,kB,intC_eq,gA,gB,hfr,setC,mset_MI,eS]
    repeat (refine ⟨by first | rfl | decide | omega | (simp only [List.length_map,List.length_set,and_true]; omega),?_⟩)
    rw [wi]
    refine gc_keep (l:=[(10,.int .i64 ((i + 1 : Nat) : Int)),(3,.int .i64 S.length),(2,.int .i64 b),(1,.int .i64 a),(0,.slc id 0 n none)]) ⟨rfl,rfl,rfl,rfl,rfl,trivial⟩ ?_
    exact ih (i + 1) hi1 (by omega)
  · have hi1:=ge_of_dec hlt
    obtain rfl : i = S.length:=by omega
    simp only [AH.SD,AH.SE,AOp.call?,AOp.next?,bstep,AV.cells,unAV,binAV,retQ,retV,AH.sliceElems,AH.bytesOf,AH.strOp,AH.bound,AH.missQ,AH.minmaxAV,AH.readOf,AH.effOf,Nat.reduceBEq,Nat.reduceAdd,Nat.reduceLT,↓reduceIte,Nat.reduceEqDiff,Nat.reduceLeDiff,Nat.reduceSub,Nat.reduceMul,Int.reduceSub,Int.reduceToNat,Int.reduceBEq,Int.reduceBNe,Int.reduceLT,Int.reduceGT,Int.reduceLE,Int.reduceGE,Int.reduceNeg,Int.reduceAdd]
theorem wn_lem {m v u : Nat} (h : u ≤ m + v) (h2 : m + v ≤ 9223372036854775807) : IntKind.i64.wrap (IntKind.i64.wrap ((m : Int) + (v : Int)) - (u : Int)) = ((m + v - u : Nat) : Int):=by
  have e : IntKind.i64.wrap ((m : Int) + (v : Int)) = ((m + v : Nat) : Int):=by rw [IntKind.wrap_i64]; omega
  rw [e,IntKind.wrap_i64]; omega
structure Rot where
  X : List Int
  U : List Int
  V : List Int
  Y : List Int
def Rot.arr (r : Rot) : List Int:=r.X ++ (r.U ++ (r.V ++ r.Y))
def Rot.fin (r : Rot) : List Int:=r.X ++ (r.V ++ (r.U ++ r.Y))
set_option maxRecDepth 100000 in
theorem rot_ok {TT : List (FuncId × RT)} {U : List (FuncId × UT)} (ok : CtxOK S0 (ctxU S0 TT U)) (hT : lookT TT 75 = none) (hU : lookU U 75 = none) {v : AV} {m : Mem} {id : Nat} (hid : id < m.length) (r0 : Rot) (h1 : 0 < r0.U.length) (h2 : 0 < r0.V.length) {n a mm b : Nat} (hn : n = r0.X.length + r0.U.length + r0.V.length + r0.Y.length) (hn2 : n ≤ 1048576) (ha : a = r0.X.length) (hm : mm = a + r0.U.length) (hb : b = mm + r0.V.length) :
    CallA1 S0 74 [.slc id 0 n none,.int .i64 a,.int .i64 mm,.int .i64 b,v] (MI m id r0.arr) fun r m' =>r = .tup [] ∧ m' = MI m id r0.fin:=by
  refine fun_sound ok Tryd.func74 c74 ?_
  unfold wpF F74
  have wA : IntKind.i64.wrap ((mm : Int) - (a : Int)) = (r0.U.length : Int):=by rw [IntKind.wrap_i64]; omega
  have wB : IntKind.i64.wrap ((b : Int) - (mm : Int)) = (r0.V.length : Int):=by rw [IntKind.wrap_i64]; omega
  simp only [AH.SD,AH.SE,AOp.call?,AOp.next?,bstep,AV.cells,unAV,binAV,retQ,retV,AH.sliceElems,AH.bytesOf,AH.strOp,AH.bound,AH.missQ,AH.minmaxAV,AH.readOf,AH.effOf,Nat.reduceBEq,Nat.reduceAdd,Nat.reduceLT,↓reduceIte,Nat.reduceEqDiff,Nat.reduceLeDiff,Nat.reduceSub,Nat.reduceMul,Int.reduceSub,Int.reduceToNat,Int.reduceBEq,Int.reduceBNe,Int.reduceLT,Int.reduceGT,Int.reduceLE,Int.reduceGE,Int.reduceNeg,Int.reduceAdd,wA,wB]
  refine loop_rule (α:=Rot) (fun x =>x.U.length + x.V.length) (fun x =>⟨[(11,.int .i64 x.V.length),(10,.int .i64 x.U.length),(4,v),(2,.int .i64 mm),(0,.slc id 0 n none)],MI m id x.arr⟩)
    (fun x => 0 < x.U.length ∧ 0 < x.V.length ∧ mm = x.X.length + x.U.length ∧ n = x.X.length + x.U.length + x.V.length + x.Y.length ∧ r0.fin = x.fin) r0 ⟨h1,h2,by omega,hn,rfl⟩
    (gc_keep (l:=[(11,.int .i64 r0.V.length),(10,.int .i64 r0.U.length),(4,v),(2,.int .i64 mm),(0,.slc id 0 n none)]) ⟨rfl,rfl,rfl,rfl,rfl,trivial⟩ rfl) ?_
  rintro Z ⟨X,U',V,Y⟩ ⟨q1,q2,q3,q4,q5⟩ ih
  simp only at q1 q2 q3 q4 q5
  have wM : IntKind.i64.wrap ((mm : Int) - (U'.length : Int)) = (X.length : Int):=by rw [IntKind.wrap_i64]; omega
  simp only [AH.SD,AH.SE,AOp.call?,AOp.next?,bstep,AV.cells,unAV,binAV,retQ,retV,AH.sliceElems,AH.bytesOf,AH.strOp,AH.bound,AH.missQ,AH.minmaxAV,AH.readOf,AH.effOf,Nat.reduceBEq,Nat.reduceAdd,Nat.reduceLT,↓reduceIte,Nat.reduceEqDiff,Nat.reduceLeDiff,Nat.reduceSub,Nat.reduceMul,Int.reduceSub,Int.reduceToNat,Int.reduceBEq,Int.reduceBNe,Int.reduceLT,Int.reduceGT,Int.reduceLE,Int.reduceGE,Int.reduceNeg,Int.reduceAdd,callR_none,hT,hU]
  refine ⟨fun hlt => ?_,fun hlt => ?_⟩
  · have hne : U'.length ≠ V.length:=fun e =>by rw [e] at hlt; simp at hlt
    cases hg : decide ((U'.length : Int) > (V.length : Int))
    · simp only [decide_eq_false_iff_not] at hg
      have wN : IntKind.i64.wrap (IntKind.i64.wrap ((mm : Int) + (V.length : Int)) - (U'.length : Int)) = ((mm + V.length - U'.length : Nat) : Int):=wn_lem (by omega) (by omega)
      have wV : IntKind.i64.wrap ((V.length : Int) - (U'.length : Int)) = ((V.length - U'.length : Nat) : Int):=by rw [IntKind.wrap_i64]; omega
      simp only [AH.SD,AH.SE,AOp.call?,AOp.next?,bstep,AV.cells,unAV,binAV,retQ,retV,AH.sliceElems,AH.bytesOf,AH.strOp,AH.bound,AH.missQ,AH.minmaxAV,AH.readOf,AH.effOf,Nat.reduceBEq,Nat.reduceAdd,Nat.reduceLT,↓reduceIte,Nat.reduceEqDiff,Nat.reduceLeDiff,Nat.reduceSub,Nat.reduceMul,Int.reduceSub,Int.reduceToNat,Int.reduceBEq,Int.reduceBNe,Int.reduceLT,Int.reduceGT,Int.reduceLE,Int.reduceGE,Int.reduceNeg,Int.reduceAdd,hg,wM,wN,hT,hU]
      have lt : (V.take (V.length - U'.length)).length = V.length - U'.length:=by rw [List.length_take]; omega
      have ld : (V.drop (V.length - U'.length)).length = U'.length:=by rw [List.length_drop]; omega
      have sw:=swap_ok ok (v:=v) hid X U' (V.take (V.length - U'.length)) (V.drop (V.length - U'.length)) Y ld (n:=n) (a:=X.length) (b:=mm + V.length - U'.length) (by omega) hn2 rfl (by omega)
      have em : X ++ (U' ++ V.take (V.length - U'.length) ++ (V.drop (V.length - U'.length) ++ Y)) = (Rot.mk X U' V Y).arr:=by
        rw [List.append_assoc U',← List.append_assoc (V.take _),List.take_append_drop]; rfl
      rw [em] at sw
      refine sw.mono ?_
      rintro r m' ⟨rfl,rfl⟩
      simp only [AH.SD,AH.SE,AOp.call?,AOp.next?,bstep,AV.cells,unAV,binAV,retQ,retV,AH.sliceElems,AH.bytesOf,AH.strOp,AH.bound,AH.missQ,AH.minmaxAV,AH.readOf,AH.effOf,Nat.reduceBEq,Nat.reduceAdd,Nat.reduceLT,↓reduceIte,Nat.reduceEqDiff,Nat.reduceLeDiff,Nat.reduceSub,Nat.reduceMul,Int.reduceSub,Int.reduceToNat,Int.reduceBEq,Int.reduceBNe,Int.reduceLT,Int.reduceGT,Int.reduceLE,Int.reduceGE,Int.reduceNeg,Int.reduceAdd,wV]
      refine gc_keep (l:=[(11,.int .i64 ((V.length - U'.length : Nat) : Int)),(10,.int .i64 U'.length),(4,v),(2,.int .i64 mm),(0,.slc id 0 n none)]) ⟨rfl,rfl,rfl,rfl,rfl,trivial⟩ ?_
      have done:=ih ⟨X,V.drop (V.length - U'.length),V.take (V.length - U'.length),U' ++ Y⟩ ⟨by simp only; omega,by simp only; omega,by simp only; omega,by simp only [List.length_append]; omega,by
        rw [q5]
        simp only [Rot.fin]
        rw [← List.append_assoc (V.take _),List.take_append_drop]⟩ (by simp only; omega)
      simp only [Rot.arr,lt,ld,List.append_assoc] at done ⊢
      exact done
    · simp only [decide_eq_true_eq] at hg
      have wU : IntKind.i64.wrap ((U'.length : Int) - (V.length : Int)) = ((U'.length - V.length : Nat) : Int):=by rw [IntKind.wrap_i64]; omega
      simp only [AH.SD,AH.SE,AOp.call?,AOp.next?,bstep,AV.cells,unAV,binAV,retQ,retV,AH.sliceElems,AH.bytesOf,AH.strOp,AH.bound,AH.missQ,AH.minmaxAV,AH.readOf,AH.effOf,Nat.reduceBEq,Nat.reduceAdd,Nat.reduceLT,↓reduceIte,Nat.reduceEqDiff,Nat.reduceLeDiff,Nat.reduceSub,Nat.reduceMul,Int.reduceSub,Int.reduceToNat,Int.reduceBEq,Int.reduceBNe,Int.reduceLT,Int.reduceGT,Int.reduceLE,Int.reduceGE,Int.reduceNeg,Int.reduceAdd,hg,wM,hT,hU]
      have lt : (U'.take V.length).length = V.length:=by rw [List.length_take]; omega
      have ld : (U'.drop V.length).length = U'.length - V.length:=List.length_drop ..
      have sw:=swap_ok ok (v:=v) hid X (U'.take V.length) (U'.drop V.length) V Y lt.symm (n:=n) (a:=X.length) (b:=mm) (by omega) hn2 rfl (by omega)
      rw [List.take_append_drop,lt] at sw
      refine sw.mono ?_
      rintro r m' ⟨rfl,rfl⟩
      simp only [AH.SD,AH.SE,AOp.call?,AOp.next?,bstep,AV.cells,unAV,binAV,retQ,retV,AH.sliceElems,AH.bytesOf,AH.strOp,AH.bound,AH.missQ,AH.minmaxAV,AH.readOf,AH.effOf,Nat.reduceBEq,Nat.reduceAdd,Nat.reduceLT,↓reduceIte,Nat.reduceEqDiff,Nat.reduceLeDiff,Nat.reduceSub,Nat.reduceMul,Int.reduceSub,Int.reduceToNat,Int.reduceBEq,Int.reduceBNe,Int.reduceLT,Int.reduceGT,Int.reduceLE,Int.reduceGE,Int.reduceNeg,Int.reduceAdd,wU]
      refine gc_keep (l:=[(11,.int .i64 V.length),(10,.int .i64 ((U'.length - V.length : Nat) : Int)),(4,v),(2,.int .i64 mm),(0,.slc id 0 n none)]) ⟨rfl,rfl,rfl,rfl,rfl,trivial⟩ ?_
      have done:=ih ⟨X ++ V,U'.drop V.length,U'.take V.length,Y⟩ ⟨by simp only; omega,by simp only; omega,by simp only [List.length_append]; omega,by simp only [List.length_append]; omega,by
        rw [q5]
        simp only [Rot.fin,List.append_assoc]
        rw [← List.append_assoc (U'.take _),List.take_append_drop]⟩ (by simp only; omega)
      simp only [Rot.arr,lt,ld,List.append_assoc] at done ⊢
      exact done
  · have heq : V.length = U'.length:=by
      by_cases e : U'.length = V.length
      · exact e.symm
      · have : ((U'.length : Int) != (V.length : Int)) = true:=by
          have : (U'.length : Int) ≠ (V.length : Int):=by omega
          simpa using this
        rw [this] at hlt; cases hlt
    simp only [AH.SD,AH.SE,AOp.call?,AOp.next?,bstep,AV.cells,unAV,binAV,retQ,retV,AH.sliceElems,AH.bytesOf,AH.strOp,AH.bound,AH.missQ,AH.minmaxAV,AH.readOf,AH.effOf,Nat.reduceBEq,Nat.reduceAdd,Nat.reduceLT,↓reduceIte,Nat.reduceEqDiff,Nat.reduceLeDiff,Nat.reduceSub,Nat.reduceMul,Int.reduceSub,Int.reduceToNat,Int.reduceBEq,Int.reduceBNe,Int.reduceLT,Int.reduceGT,Int.reduceLE,Int.reduceGE,Int.reduceNeg,Int.reduceAdd,wM,hT,hU]
    have sw:=swap_ok ok (v:=v) hid X U' [] V Y heq (n:=n) (a:=X.length) (b:=mm) (by simp; omega) hn2 rfl (by simp; omega)
    rw [List.append_nil,List.append_nil] at sw
    refine sw.mono ?_
    rintro r m' ⟨rfl,rfl⟩
    have q6 : r0.fin = X ++ (V ++ (U' ++ Y)):=q5
    simp only [AH.SD,AH.SE,AOp.call?,AOp.next?,bstep,AV.cells,unAV,binAV,retQ,retV,AH.sliceElems,AH.bytesOf,AH.strOp,AH.bound,AH.missQ,AH.minmaxAV,AH.readOf,AH.effOf,Nat.reduceBEq,Nat.reduceAdd,Nat.reduceLT,↓reduceIte,Nat.reduceEqDiff,Nat.reduceLeDiff,Nat.reduceSub,Nat.reduceMul,Int.reduceSub,Int.reduceToNat,Int.reduceBEq,Int.reduceBNe,Int.reduceLT,Int.reduceGT,Int.reduceLE,Int.reduceGE,Int.reduceNeg,Int.reduceAdd,q6,List.append_assoc]
end Go.Proofs.YtkbjfhkhbcgkgaaDoor.B33
