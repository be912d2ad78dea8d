import Derived.Test.YtamkjgiemconbaaDoorFSpExD19
import Derived.Test.YtamkjgiemconbaaDoorSpED19
open Go AH
set_option linter.unusedSimpArgs false
set_option maxRecDepth 100000
namespace Go.Proofs.YtamkjgiemconbaaDoor.D19
structure Ev where
  j : Int
  w : Int
  f : Bool
deriving DecidableEq
def Ev.cells (a : Ev) : List AV:=[.int .i64 a.j,.int .i64 a.w,.bool a.f]
def decEv : List AV → Option Ev
  | [.int .i64 a,.int .i64 b,.bool c] =>some ⟨a,b,c⟩
  | _ =>none
theorem decEv_ok (l : List AV) (v : Ev) (h : decEv l = some v) : l = v.cells:=by
  unfold decEv at h
  split at h
  · simp only [Option.some.injEq] at h; subst h; rfl
  · cases h
def cEv : Cod Ev:=⟨Ev.cells,decEv,decEv_ok,fun _ =>rfl,fun _ =>rfl⟩
instance : FlatE Ev.cells:=⟨cEv.flat⟩
theorem Ev.cells_eq (a : Ev) : a.cells = [.int .i64 a.j,.int .i64 a.w,.bool a.f]:=rfl
inductive UB where
  | nil
  | sl (c : Option Nat) (l : List Ev)
def UB.l : UB → List Ev
  | .nil => []
  | .sl _ l =>l
def uM : UB → Mem
  | .nil => [some (.row false 1 [[.nils]])]
  | .sl c l => [some (.row false 1 [[.slc 1 0 l.length c]]),some (.row false 3 (l.map Ev.cells))]
def uL (p q n : Nat) (c : Option Nat) : Option (List Ev) → Option (UB × List (Nat × Bool))
  | some l =>if l.length = n ∧ p ≠ q then some (.sl c l,[(p,false),(q,false)]) else none
  | none =>none
def uB (p q n : Nat) (c : Option Nat) : Option Blk → Option (UB × List (Nat × Bool))
  | some (.row false 3 es) =>uL p q n c (cEv.decL es)
  | _ =>none
def uR (M : Nat → Option Blk) (p : Nat) : Option Blk → Option (UB × List (Nat × Bool))
  | some (.row false 1 [[.nils]]) =>some (.nil,[(p,false)])
  | some (.row false 1 [[.slc q 0 n c]]) =>uB p q n c (M q)
  | _ =>none
def uD (M : Nat → Option Blk) : AV → Option (UB × List (Nat × Bool))
  | .ptr p 0 0 =>uR M p (M p)
  | _ =>none
theorem uD_inv {M : Nat → Option Blk} {v : AV} {u : UB} {sel : List (Nat × Bool)} (h : uD M v = some (u,sel)) :
    (∃ p,v = .ptr p 0 0 ∧ sel = [(p,false)] ∧ u = .nil ∧ M p = some (.row false 1 [[.nils]])) ∨
    (∃ p q c l,v = .ptr p 0 0 ∧ sel = [(p,false),(q,false)] ∧ u = .sl c l ∧ p ≠ q ∧ M p = some (.row false 1 [[.slc q 0 l.length c]]) ∧ M q = some (.row false 3 (l.map Ev.cells))):=by
  unfold uD at h
  split at h
  · rename_i p
    unfold uR at h
    split at h
    · rename_i hp
      simp only [Option.some.injEq,Prod.mk.injEq] at h
      obtain ⟨rfl,rfl⟩:=h
      exact .inl ⟨p,rfl,rfl,rfl,hp⟩
    · rename_i q n c hp
      unfold uB at h
      split at h
      · rename_i es hb
        unfold uL at h
        split at h
        · rename_i l hl
          split at h
          · rename_i hc
            simp only [Option.some.injEq,Prod.mk.injEq] at h
            obtain ⟨rfl,rfl⟩:=h
            obtain ⟨rfl,hne⟩:=hc
            have:=cEv.decL_ok hl
            subst this
            exact .inr ⟨p,q,c,l,rfl,rfl,rfl,hne,hp,hb⟩
          · cases h
        · cases h
      · cases h
    · cases h
  · cases h
theorem uR_nil {M : Nat → Option Blk} {p : Nat} : uR M p (some (.row false 1 [[.nils]])) = some (.nil,[(p,false)]):=rfl
theorem uR_sl {M : Nat → Option Blk} {p q n : Nat} {c : Option Nat} : uR M p (some (.row false 1 [[.slc q 0 n c]])) = uB p q n c (M q):=rfl
theorem uB_eq {p q : Nat} {c : Option Nat} {l : List Ev} (hne : p ≠ q) : uB p q l.length c (some (.row false 3 (l.map Ev.cells))) = some (.sl c l,[(p,false),(q,false)]):=by
  have : cEv.decL (l.map Ev.cells) = some l:=cEv.decL_map l
  simp only [uB,this,uL,hne,ne_eq,not_false_eq_true,and_self,if_true]
theorem ev_in (p : Nat → Bool) (l : List Ev) : ((l.map Ev.cells).all fun e =>AV.insB p e) = true:=cEv.all_in p l
theorem ev_ren (ρ : Nat → Nat) (l : List Ev) : (l.map Ev.cells).map (fun e =>AV.rens ρ e) = l.map Ev.cells:=by
  rw [List.map_map]; exact List.map_congr_left fun a _ =>flats_rens (cEv.flat a)
def uO : AH.Obj UB where
  dec:=uD
  mem:=uM
  self:=fun _ => .ptr 0 0 0
  ok:=by
    intro M v u sel h
    rcases uD_inv h with ⟨p,rfl,rfl,rfl,hp⟩ | ⟨p,q,c,l,rfl,rfl,rfl,hne,hp,hq⟩
    · refine ⟨⟨?_,rfl⟩,?_,?_,?_⟩
      · simp [selF,hp,Blk.inB,AV.insB,AV.inB]
      · simp [subF,hp,Blk.ren,Blk.asRo,AV.rens,AV.ren,uM]
      · simp [AV.inB,AH.isIn]
      · simp [AV.ren,AH.posOf]
    · have h1 : (p == q) = false:=by simpa using hne
      have h2 : (q == p) = false:=by simpa using Ne.symm hne
      refine ⟨⟨?_,?_⟩,?_,?_,?_⟩
      · simp [selF,hp,hq,AV.insB,AV.inB,AH.isIn]
        exact fun x _ =>flatE_in _ x
      · simp [AH.distinct,AH.isIn,h2]
      · simp only [subF,hp,hq,Option.map_some,Blk.ren,Blk.asRo,List.map_cons,List.map_nil,AV.rens,AV.ren,AH.posOf,beq_self_eq_true,h1,cond_true,cond_false,flat_rens,uM,Nat.zero_add]
      · simp [AV.inB,AH.isIn]
      · simp [AV.ren,AH.posOf]
  loc:=by
    intro M v u sel h M' hM'
    rcases uD_inv h with ⟨p,rfl,rfl,rfl,hp⟩ | ⟨p,q,c,l,rfl,rfl,rfl,hne,hp,hq⟩
    · have:=(hM' p (by simp)).trans hp
      simp only [uD,this,uR_nil]
    · have e1:=(hM' p (by simp)).trans hp
      have e2:=(hM' q (by simp)).trans hq
      simp only [uD,e1,uR_sl,e2,uB_eq hne]
theorem uO_dec {M : Nat → Option Blk} {p : Nat} : uO.dec M (.ptr p 0 0) = uR M p (M p):=rfl
def isE (j w : Int) (b : Bool) (e : Ev) : Bool:=(e.j == j) && ((e.w == w) && (e.f == b))
def cnt (l : List Ev) (j w : Int) (b : Bool) : Nat:=(l.filter (isE j w b)).length
theorem cnt_le (l : List Ev) (j w : Int) (b : Bool) : cnt l j w b ≤ l.length:=List.length_filter_le ..
theorem cnt_s {l : List Ev} {i : Nat} (hi : i < l.length) (j w : Int) (b : Bool) : cnt (l.take (i + 1)) j w b = cnt (l.take i) j w b + (bif isE j w b l[i] then 1 else 0):=by
  unfold cnt
  rw [List.take_succ_eq_append_getElem hi,List.filter_append,List.length_append]
  cases h : isE j w b l[i] <;> simp [h]
theorem okR0 : CtxOK S0 (ctxE S0 [] [] []):=okS0
def ctSt (c : Option Nat) (l : List Ev) (j w : Int) (b : Bool) (i : Nat) : St:=⟨[(10,.int .i64 i),(9,.int .i64 (cnt (l.take i) j w b : Nat)),(3,.bool b),(2,.int .i64 w),(1,.int .i64 j),(0,.ptr 0 0 0)],uM (.sl c l)⟩
theorem count_sl (c : Option Nat) (l : List Ev) (j w : Int) (b : Bool) (hl : l.length ≤ 1048576) : CallA1 S0 25 [.ptr 0 0 0,.int .i64 j,.int .i64 w,.bool b] (uM (.sl c l)) fun r m =>r = .int .i64 (cnt l j w b : Nat) ∧ m = uM (.sl c l):=by
  refine CallA1.fin ?_
  refine fun_sound okR0 Tryd.func25 c25 ?_
  unfold wpF F25
  simp only [AH.SD,AH.SE,AOp.call?,AOp.next?,bstep,AV.cells,unAV,binAV,retQ,retV,AH.sliceElems,AH.bytesOf,AH.strOp,AH.bound,AH.missQ,AH.minmaxAV,AH.readOf,AH.effOf,Nat.reduceBEq,Nat.reduceAdd,Nat.reduceLT,↓reduceIte,Nat.reduceEqDiff,Nat.reduceLeDiff,Nat.reduceSub,Nat.reduceMul,Int.reduceSub,Int.reduceToNat,Int.reduceBEq,Int.reduceBNe,Int.reduceLT,Int.reduceGT,Int.reduceLE,Int.reduceGE,Int.reduceNeg,Int.reduceAdd,AH.SP,AH.PD,AV.inB,vstep,vw,shift,newOnes,rowsM,blkIn,rwB,@flat_lts,AV.lt,AV.lts,Nat.sub_self,AH.SO,uM]
  refine loop_do [0,1] [10,9,3,2,1,0] [] (α:=Nat) (fun i =>l.length - i) (ctSt c l j w b) (fun i =>i ≤ l.length) 0 (Nat.zero_le _) (by simp only [AH.SD,AH.SE,AOp.call?,AOp.next?,bstep,AV.cells,unAV,binAV,retQ,retV,AH.sliceElems,AH.bytesOf,AH.strOp,AH.bound,AH.missQ,AH.minmaxAV,AH.readOf,AH.effOf,Nat.reduceBEq,Nat.reduceAdd,Nat.reduceLT,↓reduceIte,Nat.reduceEqDiff,Nat.reduceLeDiff,Nat.reduceSub,Nat.reduceMul,Int.reduceSub,Int.reduceToNat,Int.reduceBEq,Int.reduceBNe,Int.reduceLT,Int.reduceGT,Int.reduceLE,Int.reduceGE,Int.reduceNeg,Int.reduceAdd,AH.SP,AH.PD,AV.inB,vstep,ctSt,uM,List.take_zero] <;> rfl) ?_
  intro X i hi ih
  simp only [AH.SD,AH.SE,AOp.call?,AOp.next?,bstep,AV.cells,unAV,binAV,retQ,retV,AH.sliceElems,AH.bytesOf,AH.strOp,AH.bound,AH.missQ,AH.minmaxAV,AH.readOf,AH.effOf,Nat.reduceBEq,Nat.reduceAdd,Nat.reduceLT,↓reduceIte,Nat.reduceEqDiff,Nat.reduceLeDiff,Nat.reduceSub,Nat.reduceMul,Int.reduceSub,Int.reduceToNat,Int.reduceBEq,Int.reduceBNe,Int.reduceLT,Int.reduceGT,Int.reduceLE,Int.reduceGE,Int.reduceNeg,Int.reduceAdd,AH.SP,AH.PD,AV.inB,vstep,vw,shift,newOnes,rowsM,blkIn,rwB,@flat_lts,AV.lt,AV.lts,Nat.sub_self,AH.SO,ctSt,uM]
  refine ⟨fun hlt => ?_,fun hlt => ?_⟩
  · have hil:=lt_of_dec hlt
    have hw:=wrapS (i:=i) (by omega)
    have hc:=cnt_le (l.take i) j w b
    have htl : (l.take i).length ≤ i:=by rw [List.length_take]; omega
    have hw2:=wrapS (i:=cnt (l.take i) j w b) (by omega)
    have done:=ih (i + 1) hil (by omega)
    simp only [ctSt,uM,cnt_s hil] at done
    unfold isE at done
    cases h1 : (l[i].j == j)
    · simp only [h1,Bool.false_and,cond_false,Nat.add_zero] at done
      simp only [AH.SD,AH.SE,AOp.call?,AOp.next?,bstep,AV.cells,unAV,binAV,retQ,retV,AH.sliceElems,AH.bytesOf,AH.strOp,AH.bound,AH.missQ,AH.minmaxAV,AH.readOf,AH.effOf,Nat.reduceBEq,Nat.reduceAdd,Nat.reduceLT,↓reduceIte,Nat.reduceEqDiff,Nat.reduceLeDiff,Nat.reduceSub,Nat.reduceMul,Int.reduceSub,Int.reduceToNat,Int.reduceBEq,Int.reduceBNe,Int.reduceLT,Int.reduceGT,Int.reduceLE,Int.reduceGE,Int.reduceNeg,Int.reduceAdd,AH.SP,AH.PD,AV.inB,vstep,vw,shift,newOnes,rowsM,blkIn,rwB,@flat_lts,AV.lt,AV.lts,Nat.sub_self,AH.SO,getD_enc,hil,Ev.cells_eq,List.length_map,h1,hw]
      repeat (refine ⟨by first | rfl | decide | omega | (simp only [List.length_map,List.length_set,and_true]; omega),?_⟩)
      refine gc_auto [0,1] [10,9,3,2,1,0] [] ?_
      simp only [AH.SD,AH.SE,AOp.call?,AOp.next?,bstep,AV.cells,unAV,binAV,retQ,retV,AH.sliceElems,AH.bytesOf,AH.strOp,AH.bound,AH.missQ,AH.minmaxAV,AH.readOf,AH.effOf,Nat.reduceBEq,Nat.reduceAdd,Nat.reduceLT,↓reduceIte,Nat.reduceEqDiff,Nat.reduceLeDiff,Nat.reduceSub,Nat.reduceMul,Int.reduceSub,Int.reduceToNat,Int.reduceBEq,Int.reduceBNe,Int.reduceLT,Int.reduceGT,Int.reduceLE,Int.reduceGE,Int.reduceNeg,Int.reduceAdd,AH.SP,AH.PD,AV.inB,vstep]
      exact done
    · cases h2 : (l[i].w == w)
      · simp only [h1,h2,Bool.false_and,Bool.true_and,cond_false,Nat.add_zero] at done
        simp only [AH.SD,AH.SE,AOp.call?,AOp.next?,bstep,AV.cells,unAV,binAV,retQ,retV,AH.sliceElems,AH.bytesOf,AH.strOp,AH.bound,AH.missQ,AH.minmaxAV,AH.readOf,AH.effOf,Nat.reduceBEq,Nat.reduceAdd,Nat.reduceLT,↓reduceIte,Nat.reduceEqDiff,Nat.reduceLeDiff,Nat.reduceSub,Nat.reduceMul,Int.reduceSub,Int.reduceToNat,Int.reduceBEq,Int.reduceBNe,Int.reduceLT,Int.reduceGT,Int.reduceLE,Int.reduceGE,Int.reduceNeg,Int.reduceAdd,AH.SP,AH.PD,AV.inB,vstep,vw,shift,newOnes,rowsM,blkIn,rwB,@flat_lts,AV.lt,AV.lts,Nat.sub_self,AH.SO,getD_enc,hil,Ev.cells_eq,List.length_map,h1,h2,hw]
        repeat (refine ⟨by first | rfl | decide | omega | (simp only [List.length_map,List.length_set,and_true]; omega),?_⟩)
        refine gc_auto [0,1] [10,9,3,2,1,0] [] ?_
        simp only [AH.SD,AH.SE,AOp.call?,AOp.next?,bstep,AV.cells,unAV,binAV,retQ,retV,AH.sliceElems,AH.bytesOf,AH.strOp,AH.bound,AH.missQ,AH.minmaxAV,AH.readOf,AH.effOf,Nat.reduceBEq,Nat.reduceAdd,Nat.reduceLT,↓reduceIte,Nat.reduceEqDiff,Nat.reduceLeDiff,Nat.reduceSub,Nat.reduceMul,Int.reduceSub,Int.reduceToNat,Int.reduceBEq,Int.reduceBNe,Int.reduceLT,Int.reduceGT,Int.reduceLE,Int.reduceGE,Int.reduceNeg,Int.reduceAdd,AH.SP,AH.PD,AV.inB,vstep]
        exact done
      · cases h3 : (l[i].f == b)
        · simp only [h1,h2,h3,Bool.true_and,cond_false,Nat.add_zero] at done
          simp only [AH.SD,AH.SE,AOp.call?,AOp.next?,bstep,AV.cells,unAV,binAV,retQ,retV,AH.sliceElems,AH.bytesOf,AH.strOp,AH.bound,AH.missQ,AH.minmaxAV,AH.readOf,AH.effOf,Nat.reduceBEq,Nat.reduceAdd,Nat.reduceLT,↓reduceIte,Nat.reduceEqDiff,Nat.reduceLeDiff,Nat.reduceSub,Nat.reduceMul,Int.reduceSub,Int.reduceToNat,Int.reduceBEq,Int.reduceBNe,Int.reduceLT,Int.reduceGT,Int.reduceLE,Int.reduceGE,Int.reduceNeg,Int.reduceAdd,AH.SP,AH.PD,AV.inB,vstep,vw,shift,newOnes,rowsM,blkIn,rwB,@flat_lts,AV.lt,AV.lts,Nat.sub_self,AH.SO,getD_enc,hil,Ev.cells_eq,List.length_map,h1,h2,h3,hw]
          repeat (refine ⟨by first | rfl | decide | omega | (simp only [List.length_map,List.length_set,and_true]; omega),?_⟩)
          refine gc_auto [0,1] [10,9,3,2,1,0] [] ?_
          simp only [AH.SD,AH.SE,AOp.call?,AOp.next?,bstep,AV.cells,unAV,binAV,retQ,retV,AH.sliceElems,AH.bytesOf,AH.strOp,AH.bound,AH.missQ,AH.minmaxAV,AH.readOf,AH.effOf,Nat.reduceBEq,Nat.reduceAdd,Nat.reduceLT,↓reduceIte,Nat.reduceEqDiff,Nat.reduceLeDiff,Nat.reduceSub,Nat.reduceMul,Int.reduceSub,Int.reduceToNat,Int.reduceBEq,Int.reduceBNe,Int.reduceLT,Int.reduceGT,Int.reduceLE,Int.reduceGE,Int.reduceNeg,Int.reduceAdd,AH.SP,AH.PD,AV.inB,vstep]
          exact done
        · simp only [h1,h2,h3,Bool.true_and,cond_true] at done
          simp only [AH.SD,AH.SE,AOp.call?,AOp.next?,bstep,AV.cells,unAV,binAV,retQ,retV,AH.sliceElems,AH.bytesOf,AH.strOp,AH.bound,AH.missQ,AH.minmaxAV,AH.readOf,AH.effOf,Nat.reduceBEq,Nat.reduceAdd,Nat.reduceLT,↓reduceIte,Nat.reduceEqDiff,Nat.reduceLeDiff,Nat.reduceSub,Nat.reduceMul,Int.reduceSub,Int.reduceToNat,Int.reduceBEq,Int.reduceBNe,Int.reduceLT,Int.reduceGT,Int.reduceLE,Int.reduceGE,Int.reduceNeg,Int.reduceAdd,AH.SP,AH.PD,AV.inB,vstep,vw,shift,newOnes,rowsM,blkIn,rwB,@flat_lts,AV.lt,AV.lts,Nat.sub_self,AH.SO,getD_enc,hil,Ev.cells_eq,List.length_map,h1,h2,h3,hw,hw2]
          repeat (refine ⟨by first | rfl | decide | omega | (simp only [List.length_map,List.length_set,and_true]; omega),?_⟩)
          refine gc_auto [0,1] [10,9,3,2,1,0] [] ?_
          simp only [AH.SD,AH.SE,AOp.call?,AOp.next?,bstep,AV.cells,unAV,binAV,retQ,retV,AH.sliceElems,AH.bytesOf,AH.strOp,AH.bound,AH.missQ,AH.minmaxAV,AH.readOf,AH.effOf,Nat.reduceBEq,Nat.reduceAdd,Nat.reduceLT,↓reduceIte,Nat.reduceEqDiff,Nat.reduceLeDiff,Nat.reduceSub,Nat.reduceMul,Int.reduceSub,Int.reduceToNat,Int.reduceBEq,Int.reduceBNe,Int.reduceLT,Int.reduceGT,Int.reduceLE,Int.reduceGE,Int.reduceNeg,Int.reduceAdd,AH.SP,AH.PD,AV.inB,vstep]
          exact done
  · have hil:=ge_of_dec hlt
    obtain rfl : i = l.length:=by omega
    simp only [AH.SD,AH.SE,AOp.call?,AOp.next?,bstep,AV.cells,unAV,binAV,retQ,retV,AH.sliceElems,AH.bytesOf,AH.strOp,AH.bound,AH.missQ,AH.minmaxAV,AH.readOf,AH.effOf,Nat.reduceBEq,Nat.reduceAdd,Nat.reduceLT,↓reduceIte,Nat.reduceEqDiff,Nat.reduceLeDiff,Nat.reduceSub,Nat.reduceMul,Int.reduceSub,Int.reduceToNat,Int.reduceBEq,Int.reduceBNe,Int.reduceLT,Int.reduceGT,Int.reduceLE,Int.reduceGE,Int.reduceNeg,Int.reduceAdd,AH.SP,AH.PD,AV.inB,vstep,vw,shift,newOnes,rowsM,blkIn,rwB,@flat_lts,AV.lt,AV.lts,Nat.sub_self,AH.SO,List.take_length]
    refine ⟨[0,1],[],?_⟩
    simp only [AH.SD,AH.SE,AOp.call?,AOp.next?,bstep,AV.cells,unAV,binAV,retQ,retV,AH.sliceElems,AH.bytesOf,AH.strOp,AH.bound,AH.missQ,AH.minmaxAV,AH.readOf,AH.effOf,Nat.reduceBEq,Nat.reduceAdd,Nat.reduceLT,↓reduceIte,Nat.reduceEqDiff,Nat.reduceLeDiff,Nat.reduceSub,Nat.reduceMul,Int.reduceSub,Int.reduceToNat,Int.reduceBEq,Int.reduceBNe,Int.reduceLT,Int.reduceGT,Int.reduceLE,Int.reduceGE,Int.reduceNeg,Int.reduceAdd,AH.SP,AH.PD,AV.inB,vstep]
theorem count_nil (j w : Int) (b : Bool) : CallA1 S0 25 [.ptr 0 0 0,.int .i64 j,.int .i64 w,.bool b] (uM .nil) fun r m =>r = .int .i64 0 ∧ m = uM .nil:=by
  refine CallA1.fin ?_
  refine fun_sound okR0 Tryd.func25 c25 ?_
  unfold wpF F25
  simp only [AH.SD,AH.SE,AOp.call?,AOp.next?,bstep,AV.cells,unAV,binAV,retQ,retV,AH.sliceElems,AH.bytesOf,AH.strOp,AH.bound,AH.missQ,AH.minmaxAV,AH.readOf,AH.effOf,Nat.reduceBEq,Nat.reduceAdd,Nat.reduceLT,↓reduceIte,Nat.reduceEqDiff,Nat.reduceLeDiff,Nat.reduceSub,Nat.reduceMul,Int.reduceSub,Int.reduceToNat,Int.reduceBEq,Int.reduceBNe,Int.reduceLT,Int.reduceGT,Int.reduceLE,Int.reduceGE,Int.reduceNeg,Int.reduceAdd,AH.SP,AH.PD,AV.inB,vstep,vw,shift,newOnes,rowsM,blkIn,rwB,@flat_lts,AV.lt,AV.lts,Nat.sub_self,AH.SO,uM]
  refine loop_unroll ctxE_monoB ?_
  simp only [AH.SD,AH.SE,AOp.call?,AOp.next?,bstep,AV.cells,unAV,binAV,retQ,retV,AH.sliceElems,AH.bytesOf,AH.strOp,AH.bound,AH.missQ,AH.minmaxAV,AH.readOf,AH.effOf,Nat.reduceBEq,Nat.reduceAdd,Nat.reduceLT,↓reduceIte,Nat.reduceEqDiff,Nat.reduceLeDiff,Nat.reduceSub,Nat.reduceMul,Int.reduceSub,Int.reduceToNat,Int.reduceBEq,Int.reduceBNe,Int.reduceLT,Int.reduceGT,Int.reduceLE,Int.reduceGE,Int.reduceNeg,Int.reduceAdd,AH.SP,AH.PD,AV.inB,vstep,vw,shift,newOnes,rowsM,blkIn,rwB,@flat_lts,AV.lt,AV.lts,Nat.sub_self,AH.SO]
  refine ⟨[0],[],?_⟩
  simp only [AH.SD,AH.SE,AOp.call?,AOp.next?,bstep,AV.cells,unAV,binAV,retQ,retV,AH.sliceElems,AH.bytesOf,AH.strOp,AH.bound,AH.missQ,AH.minmaxAV,AH.readOf,AH.effOf,Nat.reduceBEq,Nat.reduceAdd,Nat.reduceLT,↓reduceIte,Nat.reduceEqDiff,Nat.reduceLeDiff,Nat.reduceSub,Nat.reduceMul,Int.reduceSub,Int.reduceToNat,Int.reduceBEq,Int.reduceBNe,Int.reduceLT,Int.reduceGT,Int.reduceLE,Int.reduceGE,Int.reduceNeg,Int.reduceAdd,AH.SP,AH.PD,AV.inB,vstep]
def cIIB : Cod (Int × Int × Bool × Unit):=cC (aI .i64) (cC (aI .i64) (cC aB c0))
def ctT : RT:=rtO uO cIIB fun u x =>if u.l.length ≤ 1048576 then some (.int .i64 (cnt u.l x.1 x.2.1 x.2.2.1 : Nat)) else none
theorem ctT_ok : ReadF S0 25 ctT:=rtO_ok fun u x v h =>by
  split at h
  · rename_i hl
    simp only [Option.some.injEq] at h; subst h
    refine ⟨rfl,?_⟩
    cases u with
    | nil =>exact count_nil _ _ _
    | sl c l =>exact count_sl c l _ _ _ hl
  · cases h
theorem ctT_p {p : Nat} {a b : Int} {c : Bool} {M : Nat → Option Blk} : ctT [.ptr p 0 0,.int .i64 a,.int .i64 b,.bool c] M = rtO2 (fun (u : UB) (x : Int × Int × Bool × Unit) =>if u.l.length ≤ 1048576 then some (.int .i64 (cnt u.l x.1 x.2.1 x.2.2.1 : Nat)) else none) (uR M p (M p)) (some (a,b,c,())):=by
  simp only [ctT,cIIB,rtO_eq,cC_dec,aI_dec,aB_dec,c0_dec,pairO_some,uO_dec]
def kpE (w j : Int) (b : Bool) (e : Ev) : Bool:=b && (e.j != j) || (!b && decide (e.w ≥ w))
def capO : Nat → Option Nat
  | 0 =>some 0
  | _ + 1 =>none
def kpL (l : List Ev) (w j : Int) (b : Bool) : List Ev:=l.filter (kpE w j b)
theorem kpL_s {l : List Ev} {i : Nat} (hi : i < l.length) (w j : Int) (b : Bool) : kpL (l.take (i + 1)) w j b = kpL (l.take i) w j b ++ (bif kpE w j b l[i] then [l[i]] else []):=by
  unfold kpL
  rw [List.take_succ_eq_append_getElem hi,List.filter_append]
  cases h : kpE w j b l[i] <;> simp [h]
def kpSt (c : Option Nat) (l : List Ev) (w j : Int) (b : Bool) (i : Nat) : St:=⟨[(9,.int .i64 i),(8,.slc 2 0 (kpL (l.take i) w j b).length (capO (kpL (l.take i) w j b).length)),(3,.bool b),(2,.int .i64 j),(1,.int .i64 w),(0,.ptr 0 0 0)],uM (.sl c l) ++ [some (.row false 3 ((kpL (l.take i) w j b).map Ev.cells))]⟩
theorem capO_s (n : Nat) : capO (n + 1) = none:=rfl
theorem capO_0 : capO 0 = some 0:=rfl
def keepU (u : UB) (w j : Int) (b : Bool) : Mem:=match u with
  | .nil => [some (.row false 1 [[.slc 1 0 0 (some 0)]]),some (.row false 3 [])]
  | .sl _ l => [some (.row false 1 [[.slc 2 0 (kpL l w j b).length (capO (kpL l w j b).length)]]),some (.row false 3 (l.map Ev.cells)),some (.row false 3 ((kpL l w j b).map Ev.cells))]
set_option maxHeartbeats 1000000 in
theorem keep_sl (c : Option Nat) (l : List Ev) (w j : Int) (b : Bool) (hl : l.length ≤ 1048576) : CallA1 S0 23 [.ptr 0 0 0,.int .i64 w,.int .i64 j,.bool b] (uM (.sl c l)) fun r m =>r = .tup [] ∧ m = keepU (.sl c l) w j b:=by
  refine CallA1.fin ?_
  refine fun_sound okR0 Tryd.func23 c23 ?_
  unfold wpF F23
  simp only [AH.SD,AH.SE,AOp.call?,AOp.next?,bstep,AV.cells,unAV,binAV,retQ,retV,AH.sliceElems,AH.bytesOf,AH.strOp,AH.bound,AH.missQ,AH.minmaxAV,AH.readOf,AH.effOf,Nat.reduceBEq,Nat.reduceAdd,Nat.reduceLT,↓reduceIte,Nat.reduceEqDiff,Nat.reduceLeDiff,Nat.reduceSub,Nat.reduceMul,Int.reduceSub,Int.reduceToNat,Int.reduceBEq,Int.reduceBNe,Int.reduceLT,Int.reduceGT,Int.reduceLE,Int.reduceGE,Int.reduceNeg,Int.reduceAdd,AH.SP,AH.PD,AV.inB,vstep,vw,shift,newOnes,rowsM,blkIn,rwB,@flat_lts,AV.lt,AV.lts,Nat.sub_self,AH.SO,uM]
  refine loop_do [0,1,2] [9,8,3,2,1,0] [] (α:=Nat) (fun i =>l.length - i) (kpSt c l w j b) (fun i =>i ≤ l.length) 0 (Nat.zero_le _) (by simp only [AH.SD,AH.SE,AOp.call?,AOp.next?,bstep,AV.cells,unAV,binAV,retQ,retV,AH.sliceElems,AH.bytesOf,AH.strOp,AH.bound,AH.missQ,AH.minmaxAV,AH.readOf,AH.effOf,Nat.reduceBEq,Nat.reduceAdd,Nat.reduceLT,↓reduceIte,Nat.reduceEqDiff,Nat.reduceLeDiff,Nat.reduceSub,Nat.reduceMul,Int.reduceSub,Int.reduceToNat,Int.reduceBEq,Int.reduceBNe,Int.reduceLT,Int.reduceGT,Int.reduceLE,Int.reduceGE,Int.reduceNeg,Int.reduceAdd,AH.SP,AH.PD,AV.inB,vstep,kpSt,uM,List.take_zero,kpL,List.filter_nil,List.length_nil,List.map_nil,capO_0]) ?_
  intro X i hi ih
  simp only [AH.SD,AH.SE,AOp.call?,AOp.next?,bstep,AV.cells,unAV,binAV,retQ,retV,AH.sliceElems,AH.bytesOf,AH.strOp,AH.bound,AH.missQ,AH.minmaxAV,AH.readOf,AH.effOf,Nat.reduceBEq,Nat.reduceAdd,Nat.reduceLT,↓reduceIte,Nat.reduceEqDiff,Nat.reduceLeDiff,Nat.reduceSub,Nat.reduceMul,Int.reduceSub,Int.reduceToNat,Int.reduceBEq,Int.reduceBNe,Int.reduceLT,Int.reduceGT,Int.reduceLE,Int.reduceGE,Int.reduceNeg,Int.reduceAdd,AH.SP,AH.PD,AV.inB,vstep,vw,shift,newOnes,rowsM,blkIn,rwB,@flat_lts,AV.lt,AV.lts,Nat.sub_self,AH.SO,kpSt,uM]
  refine ⟨fun hlt => ?_,fun hlt => ?_⟩
  · have hil:=lt_of_dec hlt
    have hw:=wrapS (i:=i) (by omega)
    have hkl : (kpL (l.take i) w j b).length ≤ i:=by
      have:=List.length_filter_le (kpE w j b) (l.take i)
      rw [List.length_take] at this
      unfold kpL; omega
    have done:=ih (i + 1) hil (by omega)
    simp only [kpSt,uM,kpL_s hil] at done
    generalize hK : kpL (l.take i) w j b = K at *
    have hk : kpE w j b l[i] = (b && (l[i].j != j) || (!b && decide (l[i].w ≥ w))):=rfl
    have hb : b = true ∨ b = false:=by cases b <;> simp
    rcases hb with rfl | rfl
    · cases h1 : (l[i].j != j)
      · simp only [hk,h1,Bool.and_false,Bool.not_true,Bool.false_and,Bool.or_self,cond_false,List.append_nil] at done
        simp only [AH.SD,AH.SE,AOp.call?,AOp.next?,bstep,AV.cells,unAV,binAV,retQ,retV,AH.sliceElems,AH.bytesOf,AH.strOp,AH.bound,AH.missQ,AH.minmaxAV,AH.readOf,AH.effOf,Nat.reduceBEq,Nat.reduceAdd,Nat.reduceLT,↓reduceIte,Nat.reduceEqDiff,Nat.reduceLeDiff,Nat.reduceSub,Nat.reduceMul,Int.reduceSub,Int.reduceToNat,Int.reduceBEq,Int.reduceBNe,Int.reduceLT,Int.reduceGT,Int.reduceLE,Int.reduceGE,Int.reduceNeg,Int.reduceAdd,AH.SP,AH.PD,AV.inB,vstep,vw,shift,newOnes,rowsM,blkIn,rwB,@flat_lts,AV.lt,AV.lts,Nat.sub_self,AH.SO,getD_enc,hil,Ev.cells_eq,List.length_map,h1,hw]
        repeat (refine ⟨by first | rfl | decide | omega | (simp only [List.length_map,List.length_set,and_true]; omega),?_⟩)
        refine gc_auto [0,1,2] [9,8,3,2,1,0] [] ?_
        simp only [AH.SD,AH.SE,AOp.call?,AOp.next?,bstep,AV.cells,unAV,binAV,retQ,retV,AH.sliceElems,AH.bytesOf,AH.strOp,AH.bound,AH.missQ,AH.minmaxAV,AH.readOf,AH.effOf,Nat.reduceBEq,Nat.reduceAdd,Nat.reduceLT,↓reduceIte,Nat.reduceEqDiff,Nat.reduceLeDiff,Nat.reduceSub,Nat.reduceMul,Int.reduceSub,Int.reduceToNat,Int.reduceBEq,Int.reduceBNe,Int.reduceLT,Int.reduceGT,Int.reduceLE,Int.reduceGE,Int.reduceNeg,Int.reduceAdd,AH.SP,AH.PD,AV.inB,vstep]
        exact done
      · simp only [hk,h1,Bool.and_true,Bool.not_true,Bool.false_and,Bool.or_false,cond_true,List.map_append,List.length_append,List.length_singleton,capO_s,List.map_cons,List.map_nil] at done
        cases K with
        | nil =>
          simp only [AH.SD,AH.SE,AOp.call?,AOp.next?,bstep,AV.cells,unAV,binAV,retQ,retV,AH.sliceElems,AH.bytesOf,AH.strOp,AH.bound,AH.missQ,AH.minmaxAV,AH.readOf,AH.effOf,Nat.reduceBEq,Nat.reduceAdd,Nat.reduceLT,↓reduceIte,Nat.reduceEqDiff,Nat.reduceLeDiff,Nat.reduceSub,Nat.reduceMul,Int.reduceSub,Int.reduceToNat,Int.reduceBEq,Int.reduceBNe,Int.reduceLT,Int.reduceGT,Int.reduceLE,Int.reduceGE,Int.reduceNeg,Int.reduceAdd,AH.SP,AH.PD,AV.inB,vstep,vw,shift,newOnes,rowsM,blkIn,rwB,@flat_lts,AV.lt,AV.lts,Nat.sub_self,AH.SO,getD_enc,hil,Ev.cells_eq,List.length_map,h1,hw,capO_0,List.length_nil,List.map_nil]
          repeat (refine ⟨by first | rfl | decide | omega | (simp only [List.length_map,List.length_set,and_true]; omega),?_⟩)
          refine gc_auto [0,1,5] [9,8,3,2,1,0] [] ?_
          simp only [AH.SD,AH.SE,AOp.call?,AOp.next?,bstep,AV.cells,unAV,binAV,retQ,retV,AH.sliceElems,AH.bytesOf,AH.strOp,AH.bound,AH.missQ,AH.minmaxAV,AH.readOf,AH.effOf,Nat.reduceBEq,Nat.reduceAdd,Nat.reduceLT,↓reduceIte,Nat.reduceEqDiff,Nat.reduceLeDiff,Nat.reduceSub,Nat.reduceMul,Int.reduceSub,Int.reduceToNat,Int.reduceBEq,Int.reduceBNe,Int.reduceLT,Int.reduceGT,Int.reduceLE,Int.reduceGE,Int.reduceNeg,Int.reduceAdd,AH.SP,AH.PD,AV.inB,vstep]
          exact done
        | cons k0 K =>
          have hkl2 : K.length + 1 ≤ i:=hkl
          simp only [AH.SD,AH.SE,AOp.call?,AOp.next?,bstep,AV.cells,unAV,binAV,retQ,retV,AH.sliceElems,AH.bytesOf,AH.strOp,AH.bound,AH.missQ,AH.minmaxAV,AH.readOf,AH.effOf,Nat.reduceBEq,Nat.reduceAdd,Nat.reduceLT,↓reduceIte,Nat.reduceEqDiff,Nat.reduceLeDiff,Nat.reduceSub,Nat.reduceMul,Int.reduceSub,Int.reduceToNat,Int.reduceBEq,Int.reduceBNe,Int.reduceLT,Int.reduceGT,Int.reduceLE,Int.reduceGE,Int.reduceNeg,Int.reduceAdd,AH.SP,AH.PD,AV.inB,vstep,vw,shift,newOnes,rowsM,blkIn,rwB,@flat_lts,AV.lt,AV.lts,Nat.sub_self,AH.SO,getD_enc,hil,Ev.cells_eq,List.length_map,h1,hw,capO_s,List.length_cons]
          repeat (refine ⟨by first | rfl | decide | omega | (simp only [List.length_map,List.length_set,and_true]; omega),?_⟩)
          refine gc_auto [0,1,5] [9,8,3,2,1,0] [] ?_
          simp only [AH.SD,AH.SE,AOp.call?,AOp.next?,bstep,AV.cells,unAV,binAV,retQ,retV,AH.sliceElems,AH.bytesOf,AH.strOp,AH.bound,AH.missQ,AH.minmaxAV,AH.readOf,AH.effOf,Nat.reduceBEq,Nat.reduceAdd,Nat.reduceLT,↓reduceIte,Nat.reduceEqDiff,Nat.reduceLeDiff,Nat.reduceSub,Nat.reduceMul,Int.reduceSub,Int.reduceToNat,Int.reduceBEq,Int.reduceBNe,Int.reduceLT,Int.reduceGT,Int.reduceLE,Int.reduceGE,Int.reduceNeg,Int.reduceAdd,AH.SP,AH.PD,AV.inB,vstep]
          exact done
    · cases h1 : decide (l[i].w ≥ w)
      · simp only [hk,h1,Bool.and_false,Bool.not_true,Bool.not_false,Bool.false_and,Bool.true_and,Bool.or_self,cond_false,List.append_nil] at done
        simp only [AH.SD,AH.SE,AOp.call?,AOp.next?,bstep,AV.cells,unAV,binAV,retQ,retV,AH.sliceElems,AH.bytesOf,AH.strOp,AH.bound,AH.missQ,AH.minmaxAV,AH.readOf,AH.effOf,Nat.reduceBEq,Nat.reduceAdd,Nat.reduceLT,↓reduceIte,Nat.reduceEqDiff,Nat.reduceLeDiff,Nat.reduceSub,Nat.reduceMul,Int.reduceSub,Int.reduceToNat,Int.reduceBEq,Int.reduceBNe,Int.reduceLT,Int.reduceGT,Int.reduceLE,Int.reduceGE,Int.reduceNeg,Int.reduceAdd,AH.SP,AH.PD,AV.inB,vstep,vw,shift,newOnes,rowsM,blkIn,rwB,@flat_lts,AV.lt,AV.lts,Nat.sub_self,AH.SO,getD_enc,hil,Ev.cells_eq,List.length_map,h1,hw]
        repeat (refine ⟨by first | rfl | decide | omega | (simp only [List.length_map,List.length_set,and_true]; omega),?_⟩)
        refine gc_auto [0,1,2] [9,8,3,2,1,0] [] ?_
        simp only [AH.SD,AH.SE,AOp.call?,AOp.next?,bstep,AV.cells,unAV,binAV,retQ,retV,AH.sliceElems,AH.bytesOf,AH.strOp,AH.bound,AH.missQ,AH.minmaxAV,AH.readOf,AH.effOf,Nat.reduceBEq,Nat.reduceAdd,Nat.reduceLT,↓reduceIte,Nat.reduceEqDiff,Nat.reduceLeDiff,Nat.reduceSub,Nat.reduceMul,Int.reduceSub,Int.reduceToNat,Int.reduceBEq,Int.reduceBNe,Int.reduceLT,Int.reduceGT,Int.reduceLE,Int.reduceGE,Int.reduceNeg,Int.reduceAdd,AH.SP,AH.PD,AV.inB,vstep]
        exact done
      · simp only [hk,h1,Bool.and_true,Bool.not_true,Bool.not_false,Bool.false_and,Bool.false_or,Bool.or_false,cond_true,List.map_append,List.length_append,List.length_singleton,capO_s,List.map_cons,List.map_nil] at done
        cases K with
        | nil =>
          simp only [AH.SD,AH.SE,AOp.call?,AOp.next?,bstep,AV.cells,unAV,binAV,retQ,retV,AH.sliceElems,AH.bytesOf,AH.strOp,AH.bound,AH.missQ,AH.minmaxAV,AH.readOf,AH.effOf,Nat.reduceBEq,Nat.reduceAdd,Nat.reduceLT,↓reduceIte,Nat.reduceEqDiff,Nat.reduceLeDiff,Nat.reduceSub,Nat.reduceMul,Int.reduceSub,Int.reduceToNat,Int.reduceBEq,Int.reduceBNe,Int.reduceLT,Int.reduceGT,Int.reduceLE,Int.reduceGE,Int.reduceNeg,Int.reduceAdd,AH.SP,AH.PD,AV.inB,vstep,vw,shift,newOnes,rowsM,blkIn,rwB,@flat_lts,AV.lt,AV.lts,Nat.sub_self,AH.SO,getD_enc,hil,Ev.cells_eq,List.length_map,h1,hw,capO_0,List.length_nil,List.map_nil]
          repeat (refine ⟨by first | rfl | decide | omega | (simp only [List.length_map,List.length_set,and_true]; omega),?_⟩)
          refine gc_auto [0,1,5] [9,8,3,2,1,0] [] ?_
          simp only [AH.SD,AH.SE,AOp.call?,AOp.next?,bstep,AV.cells,unAV,binAV,retQ,retV,AH.sliceElems,AH.bytesOf,AH.strOp,AH.bound,AH.missQ,AH.minmaxAV,AH.readOf,AH.effOf,Nat.reduceBEq,Nat.reduceAdd,Nat.reduceLT,↓reduceIte,Nat.reduceEqDiff,Nat.reduceLeDiff,Nat.reduceSub,Nat.reduceMul,Int.reduceSub,Int.reduceToNat,Int.reduceBEq,Int.reduceBNe,Int.reduceLT,Int.reduceGT,Int.reduceLE,Int.reduceGE,Int.reduceNeg,Int.reduceAdd,AH.SP,AH.PD,AV.inB,vstep]
          exact done
        | cons k0 K =>
          have hkl2 : K.length + 1 ≤ i:=hkl
          simp only [AH.SD,AH.SE,AOp.call?,AOp.next?,bstep,AV.cells,unAV,binAV,retQ,retV,AH.sliceElems,AH.bytesOf,AH.strOp,AH.bound,AH.missQ,AH.minmaxAV,AH.readOf,AH.effOf,Nat.reduceBEq,Nat.reduceAdd,Nat.reduceLT,↓reduceIte,Nat.reduceEqDiff,Nat.reduceLeDiff,Nat.reduceSub,Nat.reduceMul,Int.reduceSub,Int.reduceToNat,Int.reduceBEq,Int.reduceBNe,Int.reduceLT,Int.reduceGT,Int.reduceLE,Int.reduceGE,Int.reduceNeg,Int.reduceAdd,AH.SP,AH.PD,AV.inB,vstep,vw,shift,newOnes,rowsM,blkIn,rwB,@flat_lts,AV.lt,AV.lts,Nat.sub_self,AH.SO,getD_enc,hil,Ev.cells_eq,List.length_map,h1,hw,capO_s,List.length_cons]
          repeat (refine ⟨by first | rfl | decide | omega | (simp only [List.length_map,List.length_set,and_true]; omega),?_⟩)
          refine gc_auto [0,1,5] [9,8,3,2,1,0] [] ?_
          simp only [AH.SD,AH.SE,AOp.call?,AOp.next?,bstep,AV.cells,unAV,binAV,retQ,retV,AH.sliceElems,AH.bytesOf,AH.strOp,AH.bound,AH.missQ,AH.minmaxAV,AH.readOf,AH.effOf,Nat.reduceBEq,Nat.reduceAdd,Nat.reduceLT,↓reduceIte,Nat.reduceEqDiff,Nat.reduceLeDiff,Nat.reduceSub,Nat.reduceMul,Int.reduceSub,Int.reduceToNat,Int.reduceBEq,Int.reduceBNe,Int.reduceLT,Int.reduceGT,Int.reduceLE,Int.reduceGE,Int.reduceNeg,Int.reduceAdd,AH.SP,AH.PD,AV.inB,vstep]
          exact done
  · have hil:=ge_of_dec hlt
    obtain rfl : i = l.length:=by omega
    simp only [AH.SD,AH.SE,AOp.call?,AOp.next?,bstep,AV.cells,unAV,binAV,retQ,retV,AH.sliceElems,AH.bytesOf,AH.strOp,AH.bound,AH.missQ,AH.minmaxAV,AH.readOf,AH.effOf,Nat.reduceBEq,Nat.reduceAdd,Nat.reduceLT,↓reduceIte,Nat.reduceEqDiff,Nat.reduceLeDiff,Nat.reduceSub,Nat.reduceMul,Int.reduceSub,Int.reduceToNat,Int.reduceBEq,Int.reduceBNe,Int.reduceLT,Int.reduceGT,Int.reduceLE,Int.reduceGE,Int.reduceNeg,Int.reduceAdd,AH.SP,AH.PD,AV.inB,vstep,vw,shift,newOnes,rowsM,blkIn,rwB,@flat_lts,AV.lt,AV.lts,Nat.sub_self,AH.SO,List.take_length]
    repeat (refine ⟨by first | rfl | decide | omega | (simp only [List.length_map,List.length_set,and_true]; omega),?_⟩)
    refine ⟨[0,1,2],[],?_⟩
    simp only [AH.SD,AH.SE,AOp.call?,AOp.next?,bstep,AV.cells,unAV,binAV,retQ,retV,AH.sliceElems,AH.bytesOf,AH.strOp,AH.bound,AH.missQ,AH.minmaxAV,AH.readOf,AH.effOf,Nat.reduceBEq,Nat.reduceAdd,Nat.reduceLT,↓reduceIte,Nat.reduceEqDiff,Nat.reduceLeDiff,Nat.reduceSub,Nat.reduceMul,Int.reduceSub,Int.reduceToNat,Int.reduceBEq,Int.reduceBNe,Int.reduceLT,Int.reduceGT,Int.reduceLE,Int.reduceGE,Int.reduceNeg,Int.reduceAdd,AH.SP,AH.PD,AV.inB,vstep,keepU]
theorem keep_nil (w j : Int) (b : Bool) : CallA1 S0 23 [.ptr 0 0 0,.int .i64 w,.int .i64 j,.bool b] (uM .nil) fun r m =>r = .tup [] ∧ m = keepU .nil w j b:=by
  refine CallA1.fin ?_
  refine fun_sound okR0 Tryd.func23 c23 ?_
  unfold wpF F23
  simp only [AH.SD,AH.SE,AOp.call?,AOp.next?,bstep,AV.cells,unAV,binAV,retQ,retV,AH.sliceElems,AH.bytesOf,AH.strOp,AH.bound,AH.missQ,AH.minmaxAV,AH.readOf,AH.effOf,Nat.reduceBEq,Nat.reduceAdd,Nat.reduceLT,↓reduceIte,Nat.reduceEqDiff,Nat.reduceLeDiff,Nat.reduceSub,Nat.reduceMul,Int.reduceSub,Int.reduceToNat,Int.reduceBEq,Int.reduceBNe,Int.reduceLT,Int.reduceGT,Int.reduceLE,Int.reduceGE,Int.reduceNeg,Int.reduceAdd,AH.SP,AH.PD,AV.inB,vstep,vw,shift,newOnes,rowsM,blkIn,rwB,@flat_lts,AV.lt,AV.lts,Nat.sub_self,AH.SO,uM]
  refine loop_unroll ctxE_monoB ?_
  simp only [AH.SD,AH.SE,AOp.call?,AOp.next?,bstep,AV.cells,unAV,binAV,retQ,retV,AH.sliceElems,AH.bytesOf,AH.strOp,AH.bound,AH.missQ,AH.minmaxAV,AH.readOf,AH.effOf,Nat.reduceBEq,Nat.reduceAdd,Nat.reduceLT,↓reduceIte,Nat.reduceEqDiff,Nat.reduceLeDiff,Nat.reduceSub,Nat.reduceMul,Int.reduceSub,Int.reduceToNat,Int.reduceBEq,Int.reduceBNe,Int.reduceLT,Int.reduceGT,Int.reduceLE,Int.reduceGE,Int.reduceNeg,Int.reduceAdd,AH.SP,AH.PD,AV.inB,vstep,vw,shift,newOnes,rowsM,blkIn,rwB,@flat_lts,AV.lt,AV.lts,Nat.sub_self,AH.SO]
  repeat (refine ⟨by first | rfl | decide | omega | (simp only [List.length_map,List.length_set,and_true]; omega),?_⟩)
  refine ⟨[0,1],[],?_⟩
  simp only [AH.SD,AH.SE,AOp.call?,AOp.next?,bstep,AV.cells,unAV,binAV,retQ,retV,AH.sliceElems,AH.bytesOf,AH.strOp,AH.bound,AH.missQ,AH.minmaxAV,AH.readOf,AH.effOf,Nat.reduceBEq,Nat.reduceAdd,Nat.reduceLT,↓reduceIte,Nat.reduceEqDiff,Nat.reduceLeDiff,Nat.reduceSub,Nat.reduceMul,Int.reduceSub,Int.reduceToNat,Int.reduceBEq,Int.reduceBNe,Int.reduceLT,Int.reduceGT,Int.reduceLE,Int.reduceGE,Int.reduceNeg,Int.reduceAdd,AH.SP,AH.PD,AV.inB,vstep,keepU]
def kpT : ET:=etO uO cIIB fun u x =>if u.l.length ≤ 1048576 then some (.tup [],keepU u x.1 x.2.1 x.2.2.1) else none
theorem kpT_ok : EffF S0 23 kpT:=etO_ok fun u x v m' h =>by
  split at h
  · rename_i hl
    simp only [Option.some.injEq,Prod.mk.injEq] at h
    obtain ⟨rfl,rfl⟩:=h
    cases u with
    | nil =>exact ⟨⟨by show 1 ≤ 2; omega,rfl⟩,keep_nil _ _ _⟩
    | sl c l =>exact ⟨⟨by show 2 ≤ 3; omega,rfl⟩,keep_sl c l _ _ _ hl⟩
  · cases h
theorem kpT_p {p n : Nat} {a b : Int} {c : Bool} {M : Nat → Option Blk} : kpT [.ptr p 0 0,.int .i64 a,.int .i64 b,.bool c] M n = etO2 n (fun (u : UB) (x : Int × Int × Bool × Unit) =>if u.l.length ≤ 1048576 then some (.tup [],keepU u x.1 x.2.1 x.2.2.1) else none) (uR M p (M p)) (some (a,b,c,())):=by
  simp only [kpT,cIIB,etO_eq,c0_dec,uO_dec,cC_dec,aI_dec,aB_dec,pairO_some]
end Go.Proofs.YtamkjgiemconbaaDoor.D19
