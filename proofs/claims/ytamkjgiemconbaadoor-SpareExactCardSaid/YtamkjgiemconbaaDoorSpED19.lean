import Derived.Test.YtamkjgiemconbaaDoorSpLD19
open Go AH
set_option linter.unusedSimpArgs false
set_option maxRecDepth 100000
namespace Go.Proofs.YtamkjgiemconbaaDoor.D19
noncomputable instance (t : SpB) : Decidable (Bk t):=Classical.propDecidable _
noncomputable instance (t : SpB) : Decidable t.wf:=Classical.propDecidable _
theorem nwT_e {M : Nat → Option Blk} {n : Nat} : nwT [] M n = some (effS [] n (.ptr 0 0 0) (spM S0B),2):=rfl
noncomputable def exE : ET:=etO spO (cC (aI .i64) c0) fun t x =>if t.wf then some (.tup [],spM (delEx t x.1)) else none
theorem exE_ok : EffF S0 20 exE:=etO_ok fun t x v m' h =>by
  split at h
  · rename_i ht
    simp only [Option.some.injEq,Prod.mk.injEq] at h
    obtain ⟨rfl,rfl⟩:=h
    exact ⟨⟨Nat.le_refl _,rfl⟩,spEx_ok t ht x.1⟩
  · cases h
theorem exE_p {p n : Nat} {a : Int} {M : Nat → Option Blk} : exE [.ptr p 0 0,.int .i64 a] M n = etO2 n (fun (t : SpB) (x : Int × Unit) =>if t.wf then some (.tup [],spM (delEx t x.1)) else none) (spR M p (M p)) (some (a,())):=by
  simp only [exE,etO_eq,c0_dec,spO_dec,cC_dec,aI_dec,pairO_some]
noncomputable def drE : ET:=etO spO (cC (aI .i64) c0) fun t x =>if t.wf then some (.tup [],spM (delDr t x.1)) else none
theorem drE_ok : EffF S0 24 drE:=etO_ok fun t x v m' h =>by
  split at h
  · rename_i ht
    simp only [Option.some.injEq,Prod.mk.injEq] at h
    obtain ⟨rfl,rfl⟩:=h
    exact ⟨⟨Nat.le_refl _,rfl⟩,spDr_ok t ht x.1⟩
  · cases h
theorem drE_p {p n : Nat} {a : Int} {M : Nat → Option Blk} : drE [.ptr p 0 0,.int .i64 a] M n = etO2 n (fun (t : SpB) (x : Int × Unit) =>if t.wf then some (.tup [],spM (delDr t x.1)) else none) (spR M p (M p)) (some (a,())):=by
  simp only [drE,etO_eq,c0_dec,spO_dec,cC_dec,aI_dec,pairO_some]
def liV (t : SpB) : AV × Mem:=if t.L = [] then (.nils,spM t) else (.slc 2 0 (listB t).length none,spM t ++ [some (.row false 4 ((listB t).map SC.cells))])
instance (t : SpB) : Decidable (t.L = []):=by cases t.L <;> infer_instance
noncomputable def liE : ET:=etO spO c0 fun t _ =>if Bk t ∧ t.L.length ≤ 1048576 then some (liV t) else none
theorem liE_ok : EffF S0 22 liE:=etO_ok fun t x v m' h =>by
  split at h
  · rename_i ht
    simp only [Option.some.injEq] at h
    unfold liV at h
    split at h
    · rename_i hz
      simp only [Prod.mk.injEq] at h
      obtain ⟨rfl,rfl⟩:=h
      exact ⟨⟨Nat.le_refl _,rfl⟩,spList0_ok t ht.1 hz⟩
    · rename_i hz
      simp only [Prod.mk.injEq] at h
      obtain ⟨rfl,rfl⟩:=h
      exact ⟨⟨Nat.le_succ _,rfl⟩,spList_ok t ht.1 ht.2 hz⟩
  · cases h
theorem liE_p {p n : Nat} {M : Nat → Option Blk} : liE [.ptr p 0 0] M n = etO2 n (fun (t : SpB) (_ : Unit) =>if Bk t ∧ t.L.length ≤ 1048576 then some (liV t) else none) (spR M p (M p)) (some ()):=by
  simp only [liE,etO_eq,c0_dec,spO_dec]
abbrev tSp : List (FuncId × RT):=[(21,ofT),(19,lfT)]
noncomputable abbrev eSp : List (FuncId × ET):=[(17,nwT),(18,adT),(20,exE),(24,drE),(22,liE)]
theorem okSp : CtxOK S0 (ctxE S0 tSp [] eSp):=ctxE_ok ⟨ofT_ok,lfT_ok,trivial⟩ trivial ⟨nwT_ok,adT_ok,exE_ok,drE_ok,liE_ok,trivial⟩ mixed
def TB (k : SK) (f g : Int) : SpB:=⟨[⟨k,⟨k.j,k.w,f,g⟩,0⟩],1⟩
theorem TB_bk (k : SK) (f g : Int) : Bk (TB k f g):=by
  refine ⟨⟨by simp [TB],by simp [TB],fun e he => ?_⟩,fun e he => ?_⟩
  · rw [List.mem_singleton.1 he]; exact Nat.zero_lt_one
  · rw [List.mem_singleton.1 he]; exact ⟨rfl,rfl⟩
theorem enF_TB (k k' : SK) (f g : Int) : AH.MS.enF k' (TB k f g).L 0 = if k' = k then some (0,⟨k,⟨k.j,k.w,f,g⟩,0⟩) else none:=by
  simp only [TB,AH.MS.enF]
  by_cases h : k' = k
  · subst h; simp
  · have h2 : (k' == k) = false:=by simpa using h
    rw [h2,if_neg h]; rfl
theorem of_TB (k k' : SK) (f g : Int) : ofB (TB k f g) k' = if k' = k then ⟨k.j,k.w,f,g⟩ else ⟨k'.j,k'.w,0,0⟩:=by
  unfold ofB
  rw [enF_TB]
  split <;> rfl
theorem add_TB (k : SK) (f g : Int) (b : Bool) : addB (TB k f g) k b = TB k (bif b then f else IntKind.i64.wrap (f + 1)) (bif b then IntKind.i64.wrap (g + 1) else g):=by
  unfold addB
  rw [enF_TB,if_pos rfl]
  cases b <;> rfl
theorem awake_ok : Pure S0 16 [] (.bool true):=by
  refine fun_sound okSp Tryd.func16 c16 ?_
  unfold wpF F16
  have a1 : addB S0B ⟨4,2⟩ false = TB ⟨4,2⟩ 1 0:=rfl
  have a2 : addB (TB ⟨4,2⟩ 1 0) ⟨4,2⟩ false = TB ⟨4,2⟩ 2 0:=add_TB _ _ _ _
  have a3 : addB (TB ⟨4,2⟩ 2 0) ⟨4,2⟩ true = TB ⟨4,2⟩ 2 1:=add_TB _ _ _ _
  have o : ofB (TB ⟨4,2⟩ 2 1) ⟨4,2⟩ = ⟨4,2,2,1⟩:=of_TB _ _ _ _
  have l1 : leftB (TB ⟨4,2⟩ 2 1) ⟨4,2⟩ 3 = 1:=by rw [leftB,o]; decide
  have l2 : leftB (TB ⟨4,2⟩ 2 1) ⟨4,2⟩ 1 = 0:=by rw [leftB,o]; decide
  have bk:=TB_bk ⟨4,2⟩ 2 1
  have li : liV (TB ⟨4,2⟩ 2 1) = (.slc 2 0 1 none,spM (TB ⟨4,2⟩ 2 1) ++ [some (.row false 4 ((listB (TB ⟨4,2⟩ 2 1)).map SC.cells))]):=by
    unfold liV
    rw [if_neg (by simp [TB])]
    have : (listB (TB ⟨4,2⟩ 2 1)).length = 1:=by unfold listB; rw [List.length_mergeSort]; rfl
    rw [this]
  have hlen : (TB ⟨4,2⟩ 2 1).L.length ≤ 1048576:=by decide
  simp only [AH.SD,AH.SE,AOp.call?,AOp.next?,bstep,AV.cells,unAV,binAV,retQ,retV,AH.sliceElems,AH.bytesOf,AH.strOp,AH.bound,AH.missQ,AH.minmaxAV,AH.readOf,AH.effOf,Nat.reduceBEq,Nat.reduceAdd,Nat.reduceLT,↓reduceIte,Nat.reduceEqDiff,Nat.reduceLeDiff,Nat.reduceSub,Nat.reduceMul,Int.reduceSub,Int.reduceToNat,Int.reduceBEq,Int.reduceBNe,Int.reduceLT,Int.reduceGT,Int.reduceLE,Int.reduceGE,Int.reduceNeg,Int.reduceAdd,AH.SP,AH.PD,AV.inB,vstep,vw,shift,newOnes,rowsM,blkIn,rwB,@flat_lts,AV.lt,AV.lts,Nat.sub_self,AH.SO,nwT_e,adT_p,sp_in,sp_ren,spR_eq,spB_eq,AH.MS.Mp.eta,ne_eq,Nat.reduceEqDiff,Nat.zero_ne_one,not_false_eq_true,spM,a1,a2,a3,ofT_p,o,SC.av,lfT_p,l1,l2,liE_p,bk,hlen,li,AH.eqAV_flat,eqFlat,eqScalar,and_self,Bool.and_self]
  try trivial
def awT : RT:=rtP c0 fun _ => .bool true
theorem awT_ok : ReadF S0 16 awT:=rtP_ok (fun _ =>awake_ok) fun _ =>rfl
theorem awT_eq (M : Nat → Option Blk) : awT [] M = some (.bool true,[]):=rfl
end Go.Proofs.YtamkjgiemconbaaDoor.D19
