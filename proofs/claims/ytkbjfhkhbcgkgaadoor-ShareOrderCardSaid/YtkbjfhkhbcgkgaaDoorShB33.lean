import Derived.Test.YtkbjfhkhbcgkgaaDoorFShB33
import Derived.Lib.Mul64
open Go AH
set_option linter.unusedSimpArgs false
set_option maxRecDepth 100000
namespace Go.Proofs.YtkbjfhkhbcgkgaaDoor.B33
structure Sh where
  n : Int
  d : Int
def Sh.cells (s : Sh) : List AV:=[.int .i64 s.n,.int .i64 s.d]
def decSh : List AV → Option Sh
  | [.int .i64 a,.int .i64 b] =>some ⟨a,b⟩
  | _ =>none
theorem decSh_ok (l : List AV) (v : Sh) (h : decSh l = some v) : l = v.cells:=by
  unfold decSh at h
  split at h
  · simp only [Option.some.injEq] at h; subst h; rfl
  · cases h
def cSh : Cod Sh:=⟨Sh.cells,decSh,decSh_ok,fun _ =>rfl,fun _ =>rfl⟩
theorem Sh.cells_eq (s : Sh) : s.cells = [.int .i64 s.n,.int .i64 s.d]:=rfl
theorem Sh.eta (s : Sh) : (⟨s.n,s.d⟩ : Sh) = s:=rfl
instance : FlatE Sh.cells:=⟨cSh.flat⟩
def clsZ (n d : Int) : Int:=bif decide (n ≤ 0) then 0 else bif decide (d ≤ 0) then 2 else 1
theorem class_ok (s : Sh) : Pure S0 55 [.agg s.cells] (.int .i64 (clsZ s.n s.d)):=by
  refine fun_sound okZ Tryd.func55 c55 ?_
  unfold wpF F55
  simp only [AH.SD,AH.SE,AOp.call?,AOp.next?,bstep,AV.cells,unAV,binAV,retQ,retV,AH.sliceElems,AH.bytesOf,AH.strOp,AH.bound,AH.missQ,AH.minmaxAV,AH.readOf,AH.effOf,Nat.reduceBEq,Nat.reduceAdd,Nat.reduceLT,↓reduceIte,Nat.reduceEqDiff,Nat.reduceLeDiff,Nat.reduceSub,Nat.reduceMul,Int.reduceSub,Int.reduceToNat,Int.reduceBEq,Int.reduceBNe,Int.reduceLT,Int.reduceGT,Int.reduceLE,Int.reduceGE,Int.reduceNeg,Int.reduceAdd,Sh.cells_eq,clsZ]
  cases h1 : decide (s.n ≤ 0)
  · cases h2 : decide (s.d ≤ 0)
    · simp only [AH.SD,AH.SE,AOp.call?,AOp.next?,bstep,AV.cells,unAV,binAV,retQ,retV,AH.sliceElems,AH.bytesOf,AH.strOp,AH.bound,AH.missQ,AH.minmaxAV,AH.readOf,AH.effOf,Nat.reduceBEq,Nat.reduceAdd,Nat.reduceLT,↓reduceIte,Nat.reduceEqDiff,Nat.reduceLeDiff,Nat.reduceSub,Nat.reduceMul,Int.reduceSub,Int.reduceToNat,Int.reduceBEq,Int.reduceBNe,Int.reduceLT,Int.reduceGT,Int.reduceLE,Int.reduceGE,Int.reduceNeg,Int.reduceAdd,h1,h2]
    · simp only [AH.SD,AH.SE,AOp.call?,AOp.next?,bstep,AV.cells,unAV,binAV,retQ,retV,AH.sliceElems,AH.bytesOf,AH.strOp,AH.bound,AH.missQ,AH.minmaxAV,AH.readOf,AH.effOf,Nat.reduceBEq,Nat.reduceAdd,Nat.reduceLT,↓reduceIte,Nat.reduceEqDiff,Nat.reduceLeDiff,Nat.reduceSub,Nat.reduceMul,Int.reduceSub,Int.reduceToNat,Int.reduceBEq,Int.reduceBNe,Int.reduceLT,Int.reduceGT,Int.reduceLE,Int.reduceGE,Int.reduceNeg,Int.reduceAdd,h1,h2]
  · simp only [AH.SD,AH.SE,AOp.call?,AOp.next?,bstep,AV.cells,unAV,binAV,retQ,retV,AH.sliceElems,AH.bytesOf,AH.strOp,AH.bound,AH.missQ,AH.minmaxAV,AH.readOf,AH.effOf,Nat.reduceBEq,Nat.reduceAdd,Nat.reduceLT,↓reduceIte,Nat.reduceEqDiff,Nat.reduceLeDiff,Nat.reduceSub,Nat.reduceMul,Int.reduceSub,Int.reduceToNat,Int.reduceBEq,Int.reduceBNe,Int.reduceLT,Int.reduceGT,Int.reduceLE,Int.reduceGE,Int.reduceNeg,Int.reduceAdd,h1]
def classT : RT:=rtP (cC (aA cSh) c0) fun x => .int .i64 (clsZ x.1.n x.1.d)
theorem classT_ok : ReadF S0 55 classT:=rtP_ok (fun x =>class_ok x.1) fun _ =>rfl
theorem classT_eq (n d : Int) (M : Nat → Option Blk) : classT [.agg [.int .i64 n,.int .i64 d]] M = some (.int .i64 (clsZ n d),[]):=rfl
theorem isNaNU_ok (x : Int) : Pure S0 68 [.int .u64 x] (.bool false):=by
  refine fun_sound okZ Tryd.func68 c68 ?_
  unfold wpF F68
  simp only [AH.SD,AH.SE,AOp.call?,AOp.next?,bstep,AV.cells,unAV,binAV,retQ,retV,AH.sliceElems,AH.bytesOf,AH.strOp,AH.bound,AH.missQ,AH.minmaxAV,AH.readOf,AH.effOf,Nat.reduceBEq,Nat.reduceAdd,Nat.reduceLT,↓reduceIte,Nat.reduceEqDiff,Nat.reduceLeDiff,Nat.reduceSub,Nat.reduceMul,Int.reduceSub,Int.reduceToNat,Int.reduceBEq,Int.reduceBNe,Int.reduceLT,Int.reduceGT,Int.reduceLE,Int.reduceGE,Int.reduceNeg,Int.reduceAdd,bne_self_eq_false]
def isNaNUT : RT:=rtP (cC (aI .u64) c0) fun _ => .bool false
theorem isNaNUT_ok : ReadF S0 68 isNaNUT:=rtP_ok (fun x =>isNaNU_ok x.1) fun _ =>rfl
theorem isNaNUT_eq (n : Int) (M : Nat → Option Blk) : isNaNUT [.int .u64 n] M = some (.bool false,[]):=rfl
theorem cmpU_ok (x y : Int) : Pure S0 58 [.int .u64 x,.int .u64 y] (.int .i64 (cmpZ x y)):=by
  have ok : CtxOK S0 (ctxU S0 [(68,isNaNUT)] []):=ctxU_ok ⟨isNaNUT_ok,trivial⟩ trivial mixed
  refine fun_sound ok Tryd.func58 c58 ?_
  unfold wpF F58
  simp only [AH.SD,AH.SE,AOp.call?,AOp.next?,bstep,AV.cells,unAV,binAV,retQ,retV,AH.sliceElems,AH.bytesOf,AH.strOp,AH.bound,AH.missQ,AH.minmaxAV,AH.readOf,AH.effOf,Nat.reduceBEq,Nat.reduceAdd,Nat.reduceLT,↓reduceIte,Nat.reduceEqDiff,Nat.reduceLeDiff,Nat.reduceSub,Nat.reduceMul,Int.reduceSub,Int.reduceToNat,Int.reduceBEq,Int.reduceBNe,Int.reduceLT,Int.reduceGT,Int.reduceLE,Int.reduceGE,Int.reduceNeg,Int.reduceAdd,isNaNUT_eq,cmpZ]
  cases h1 : decide (x < y)
  · cases h2 : decide (x > y)
    · simp only [decide_eq_false_iff_not] at h1 h2
      simp only [AH.SD,AH.SE,AOp.call?,AOp.next?,bstep,AV.cells,unAV,binAV,retQ,retV,AH.sliceElems,AH.bytesOf,AH.strOp,AH.bound,AH.missQ,AH.minmaxAV,AH.readOf,AH.effOf,Nat.reduceBEq,Nat.reduceAdd,Nat.reduceLT,↓reduceIte,Nat.reduceEqDiff,Nat.reduceLeDiff,Nat.reduceSub,Nat.reduceMul,Int.reduceSub,Int.reduceToNat,Int.reduceBEq,Int.reduceBNe,Int.reduceLT,Int.reduceGT,Int.reduceLE,Int.reduceGE,Int.reduceNeg,Int.reduceAdd,h1,h2]
    · simp only [decide_eq_false_iff_not,decide_eq_true_eq] at h1 h2
      simp only [AH.SD,AH.SE,AOp.call?,AOp.next?,bstep,AV.cells,unAV,binAV,retQ,retV,AH.sliceElems,AH.bytesOf,AH.strOp,AH.bound,AH.missQ,AH.minmaxAV,AH.readOf,AH.effOf,Nat.reduceBEq,Nat.reduceAdd,Nat.reduceLT,↓reduceIte,Nat.reduceEqDiff,Nat.reduceLeDiff,Nat.reduceSub,Nat.reduceMul,Int.reduceSub,Int.reduceToNat,Int.reduceBEq,Int.reduceBNe,Int.reduceLT,Int.reduceGT,Int.reduceLE,Int.reduceGE,Int.reduceNeg,Int.reduceAdd,h1,h2]
  · simp only [decide_eq_true_eq] at h1
    simp only [AH.SD,AH.SE,AOp.call?,AOp.next?,bstep,AV.cells,unAV,binAV,retQ,retV,AH.sliceElems,AH.bytesOf,AH.strOp,AH.bound,AH.missQ,AH.minmaxAV,AH.readOf,AH.effOf,Nat.reduceBEq,Nat.reduceAdd,Nat.reduceLT,↓reduceIte,Nat.reduceEqDiff,Nat.reduceLeDiff,Nat.reduceSub,Nat.reduceMul,Int.reduceSub,Int.reduceToNat,Int.reduceBEq,Int.reduceBNe,Int.reduceLT,Int.reduceGT,Int.reduceLE,Int.reduceGE,Int.reduceNeg,Int.reduceAdd,h1]
def cmpUT : RT:=rtP (cC (aI .u64) (cC (aI .u64) c0)) fun x => .int .i64 (cmpZ x.1 x.2.1)
theorem cmpUT_ok : ReadF S0 58 cmpUT:=rtP_ok (fun x =>cmpU_ok x.1 x.2.1) fun _ =>rfl
theorem cmpUT_eq (x y : Int) (M : Nat → Option Blk) : cmpUT [.int .u64 x,.int .u64 y] M = some (.int .i64 (cmpZ x y),[]):=rfl
def cSub {α : Type} (c : Cod α) (p : α → Prop) [DecidablePred p] : Cod {a // p a} where
  enc a:=c.enc a.1
  dec l:=match c.dec l with
    | some a =>if h : p a then some ⟨a,h⟩ else none
    | none =>none
  ok l a h:=by
    split at h
    · rename_i b hb
      split at h
      · simp only [Option.some.injEq] at h
        subst h
        exact c.ok l b hb
      · cases h
    · cases h
  de a:=by
    rw [c.de a.1]
    simp only [dif_pos a.2]
  flat a:=c.flat a.1
theorem rtS_eq {α : Type} {c : Cod α} {p : α → Prop} [DecidablePred p] {f : {a // p a} → AV} {args : List AV} {a : α} {M : Nat → Option Blk} (h : p a) (hd : c.dec args = some a) : rtP (cSub c p) f args M = some (f ⟨a,h⟩,[]):=by
  simp only [rtP,cSub,hd,dif_pos h,Option.map_some]
theorem mask32 (X : Nat) (hX : X < 18446744073709551616) : IntKind.u64.wrap ((BitVec.ofInt IntKind.u64.bits (X : Int) &&& BitVec.ofInt IntKind.u64.bits 4294967295).toNat : Int) = ((X % 4294967296 : Nat) : Int):=by
  have e : (BitVec.ofInt IntKind.u64.bits (X : Int) &&& BitVec.ofInt IntKind.u64.bits 4294967295).toNat = X % 4294967296:=by
    have h1 : (BitVec.ofInt IntKind.u64.bits (X : Int)).toNat = X:=by
      show (BitVec.ofInt 64 (X : Int)).toNat = X
      rw [BitVec.toNat_ofInt]
      omega
    have h2 : (BitVec.ofInt IntKind.u64.bits 4294967295).toNat = 4294967295:=by decide
    rw [BitVec.toNat_and,h1,h2]
    exact Nat.and_two_pow_sub_one_eq_mod X 32
  rw [e,IntKind.wrap_u64]; omega
theorem shr32 (X : Nat) : (X : Int).fdiv (2 ^ min 32 IntKind.u64.bits) = ((X / 4294967296 : Nat) : Int):=by
  rw [show ((2 : Int) ^ min 32 IntKind.u64.bits) = 4294967296 by decide,Int.fdiv_eq_ediv_of_nonneg _ (by decide)]; omega
theorem mulN (a b : Nat) : (a : Int) * (b : Int) = ((a * b : Nat) : Int):=(Int.natCast_mul a b).symm
theorem addN (a b : Nat) : (a : Int) + (b : Int) = ((a + b : Nat) : Int):=(Int.natCast_add a b).symm
theorem wrapN (a : Nat) (ha : a < 18446744073709551616) : IntKind.u64.wrap (a : Int) = (a : Int):=by rw [IntKind.wrap_u64]; omega
theorem wrapM (a : Nat) : IntKind.u64.wrap (a : Int) = ((a % 18446744073709551616 : Nat) : Int):=by rw [IntKind.wrap_u64]; omega
set_option maxHeartbeats 1000000 in
theorem mul64_ok (x y : Nat) (hx : x < 18446744073709551616) (hy : y < 18446744073709551616) : Pure S0 56 [.int .u64 x,.int .u64 y] (.tup [.int .u64 ((x * y / 18446744073709551616 : Nat) : Int),.int .u64 ((x * y % 18446744073709551616 : Nat) : Int)]):=by
  obtain ⟨bd,bt,bw,hhi⟩:=Lib.mul64_hi x y hx hy
  have ba:=Lib.half_mul_le (a:=x / 4294967296) (b:=y / 4294967296) (by omega) (by omega)
  have bb:=Lib.half_mul_le (a:=x / 4294967296) (b:=y % 4294967296) (by omega) (by omega)
  have bc:=Lib.half_mul_le (a:=x % 4294967296) (b:=y / 4294967296) (by omega) (by omega)
  have ba' : x / 4294967296 * (y / 4294967296) < 18446744073709551616:=by omega
  have bb' : x / 4294967296 * (y % 4294967296) < 18446744073709551616:=by omega
  have bc' : x % 4294967296 * (y / 4294967296) < 18446744073709551616:=by omega
  have bh1 : x / 4294967296 * (y / 4294967296) + (x / 4294967296 * (y % 4294967296) + x % 4294967296 * (y % 4294967296) / 4294967296) / 4294967296 < 18446744073709551616:=by omega
  have bh : x / 4294967296 * (y / 4294967296) + (x / 4294967296 * (y % 4294967296) + x % 4294967296 * (y % 4294967296) / 4294967296) / 4294967296 + ((x / 4294967296 * (y % 4294967296) + x % 4294967296 * (y % 4294967296) / 4294967296) % 4294967296 + x % 4294967296 * (y / 4294967296)) / 4294967296 < 18446744073709551616:=by omega
  have bq : x * y / 18446744073709551616 < 18446744073709551616:=by rw [← hhi]; exact bh
  refine fun_sound okZ Tryd.func56 c56 ?_
  unfold wpF F56
  simp only [AH.SD,AH.SE,AOp.call?,AOp.next?,bstep,AV.cells,unAV,binAV,retQ,retV,AH.sliceElems,AH.bytesOf,AH.strOp,AH.bound,AH.missQ,AH.minmaxAV,AH.readOf,AH.effOf,Nat.reduceBEq,Nat.reduceAdd,Nat.reduceLT,↓reduceIte,Nat.reduceEqDiff,Nat.reduceLeDiff,Nat.reduceSub,Nat.reduceMul,Int.reduceSub,Int.reduceToNat,Int.reduceBEq,Int.reduceBNe,Int.reduceLT,Int.reduceGT,Int.reduceLE,Int.reduceGE,Int.reduceNeg,Int.reduceAdd,mask32 x hx,mask32 y hy,mask32 _ bt,shr32,mulN,addN,wrapN _ bd,wrapN _ bb',wrapN _ bt,wrapN _ bc',wrapN _ bw,wrapN _ ba',wrapN _ bh1,wrapN _ bh,wrapM (x * y),hhi,wrapN _ bq]
abbrev inU (n : Int) : Prop:=0 ≤ n ∧ n < 18446744073709551616
def mulT : RT:=rtP (cSub (cC (aI .u64) (cC (aI .u64) c0)) fun x =>inU x.1 ∧ inU x.2.1) fun x => .tup [.int .u64 (x.1.1 * x.1.2.1 / 18446744073709551616),.int .u64 (x.1.1 * x.1.2.1 % 18446744073709551616)]
theorem mulT_ok : ReadF S0 56 mulT:=rtP_ok (fun ⟨⟨x,y,_⟩,hx,hy⟩ =>by
  obtain ⟨X,rfl⟩:=Int.eq_ofNat_of_zero_le hx.1
  obtain ⟨Y,rfl⟩:=Int.eq_ofNat_of_zero_le hy.1
  have:=mul64_ok X Y (by have:=hx.2; simp only at this; omega) (by have:=hy.2; simp only at this; omega)
  exact this) fun _ =>rfl
theorem mulT_eq (x y : Int) (M : Nat → Option Blk) (hx : inU x) (hy : inU y) : mulT [.int .u64 x,.int .u64 y] M = some (.tup [.int .u64 (x * y / 18446744073709551616),.int .u64 (x * y % 18446744073709551616)],[]) :=
  rtS_eq (a:=(x,y,())) ⟨hx,hy⟩ rfl
def orL : List Int → Int
  | [] => 0
  | x :: r =>bif x != 0 then x else orL r
def intC (n : Int) : List AV:=[.int .i64 n]
def decIC : List AV → Option Int
  | [.int .i64 n] =>some n
  | _ =>none
theorem decIC_ok (l : List AV) (n : Int) (h : decIC l = some n) : l = intC n:=by
  unfold decIC at h
  split at h
  · simp only [Option.some.injEq] at h; subst h; rfl
  · cases h
def cInt : Cod Int:=⟨intC,decIC,decIC_ok,fun _ =>rfl,fun _ =>rfl⟩
instance : FlatE intC:=⟨cInt.flat⟩
theorem intC_eq (n : Int) : intC n = [.int .i64 n]:=rfl
def orSt (l : List Int) (i : Nat) : St:=⟨[(8,.int .i64 i),(7,.int .i64 l.length),(6,.slc 0 0 l.length none),(3,.int .i64 0)],[some (.row true 1 (l.map intC))]⟩
set_option maxRecDepth 100000 in
theorem or_ok (l : List Int) (hl : l.length ≤ 1048576) : CallA1 S0 57 [.slc 0 0 l.length none] [some (.row true 1 (l.map intC))] fun r m =>r = .int .i64 (orL l) ∧ m = [some (.row true 1 (l.map intC))]:=by
  refine CallA1.fin ?_
  refine fun_sound okZ Tryd.func57 c57 ?_
  unfold wpF F57
  simp only [AH.SD,AH.SE,AOp.call?,AOp.next?,bstep,AV.cells,unAV,binAV,retQ,retV,AH.sliceElems,AH.bytesOf,AH.strOp,AH.bound,AH.missQ,AH.minmaxAV,AH.readOf,AH.effOf,Nat.reduceBEq,Nat.reduceAdd,Nat.reduceLT,↓reduceIte,Nat.reduceEqDiff,Nat.reduceLeDiff,Nat.reduceSub,Nat.reduceMul,Int.reduceSub,Int.reduceToNat,Int.reduceBEq,Int.reduceBNe,Int.reduceLT,Int.reduceGT,Int.reduceLE,Int.reduceGE,Int.reduceNeg,Int.reduceAdd]
  refine loop_do [0] [8,7,6,3] [] (α:=Nat) (fun i =>l.length - i) (orSt l) (fun i =>i ≤ l.length ∧ orL l = orL (l.drop i)) 0 ⟨Nat.zero_le _,rfl⟩ (by simp only [AH.SD,AH.SE,AOp.call?,AOp.next?,bstep,AV.cells,unAV,binAV,retQ,retV,AH.sliceElems,AH.bytesOf,AH.strOp,AH.bound,AH.missQ,AH.minmaxAV,AH.readOf,AH.effOf,Nat.reduceBEq,Nat.reduceAdd,Nat.reduceLT,↓reduceIte,Nat.reduceEqDiff,Nat.reduceLeDiff,Nat.reduceSub,Nat.reduceMul,Int.reduceSub,Int.reduceToNat,Int.reduceBEq,Int.reduceBNe,Int.reduceLT,Int.reduceGT,Int.reduceLE,Int.reduceGE,Int.reduceNeg,Int.reduceAdd,AH.SP,AH.PD,AV.inB,vstep,orSt]) ?_
  rintro X i ⟨hi,hx⟩ ih
  simp only [AH.SD,AH.SE,AOp.call?,AOp.next?,bstep,AV.cells,unAV,binAV,retQ,retV,AH.sliceElems,AH.bytesOf,AH.strOp,AH.bound,AH.missQ,AH.minmaxAV,AH.readOf,AH.effOf,Nat.reduceBEq,Nat.reduceAdd,Nat.reduceLT,↓reduceIte,Nat.reduceEqDiff,Nat.reduceLeDiff,Nat.reduceSub,Nat.reduceMul,Int.reduceSub,Int.reduceToNat,Int.reduceBEq,Int.reduceBNe,Int.reduceLT,Int.reduceGT,Int.reduceLE,Int.reduceGE,Int.reduceNeg,Int.reduceAdd,orSt]
  refine ⟨fun hlt => ?_,fun hlt => ?_⟩
  · have hil:=lt_of_dec hlt
    have hw:=wrapS (i:=i) (by omega)
    rw [List.drop_eq_getElem_cons hil,orL] at hx
    simp only [AH.SD,AH.SE,AOp.call?,AOp.next?,bstep,AV.cells,unAV,binAV,retQ,retV,AH.sliceElems,AH.bytesOf,AH.strOp,AH.bound,AH.missQ,AH.minmaxAV,AH.readOf,AH.effOf,Nat.reduceBEq,Nat.reduceAdd,Nat.reduceLT,↓reduceIte,Nat.reduceEqDiff,Nat.reduceLeDiff,Nat.reduceSub,Nat.reduceMul,Int.reduceSub,Int.reduceToNat,Int.reduceBEq,Int.reduceBNe,Int.reduceLT,Int.reduceGT,Int.reduceLE,Int.reduceGE,Int.reduceNeg,Int.reduceAdd,getD_enc,hil,intC_eq]
    repeat (refine ⟨by first | rfl | decide | omega | (simp only [List.length_map,List.length_set,and_true]; omega),?_⟩)
    cases hz : (l[i] != 0)
    · rw [hz,cond_false] at hx
      have done:=ih (i + 1) ⟨hil,hx⟩ (by omega)
      simp only [orSt] at done
      simp only [AH.SD,AH.SE,AOp.call?,AOp.next?,bstep,AV.cells,unAV,binAV,retQ,retV,AH.sliceElems,AH.bytesOf,AH.strOp,AH.bound,AH.missQ,AH.minmaxAV,AH.readOf,AH.effOf,Nat.reduceBEq,Nat.reduceAdd,Nat.reduceLT,↓reduceIte,Nat.reduceEqDiff,Nat.reduceLeDiff,Nat.reduceSub,Nat.reduceMul,Int.reduceSub,Int.reduceToNat,Int.reduceBEq,Int.reduceBNe,Int.reduceLT,Int.reduceGT,Int.reduceLE,Int.reduceGE,Int.reduceNeg,Int.reduceAdd,hw]
      refine gc_auto [0] [8,7,6,3] [] ?_
      simp only [AH.SD,AH.SE,AOp.call?,AOp.next?,bstep,AV.cells,unAV,binAV,retQ,retV,AH.sliceElems,AH.bytesOf,AH.strOp,AH.bound,AH.missQ,AH.minmaxAV,AH.readOf,AH.effOf,Nat.reduceBEq,Nat.reduceAdd,Nat.reduceLT,↓reduceIte,Nat.reduceEqDiff,Nat.reduceLeDiff,Nat.reduceSub,Nat.reduceMul,Int.reduceSub,Int.reduceToNat,Int.reduceBEq,Int.reduceBNe,Int.reduceLT,Int.reduceGT,Int.reduceLE,Int.reduceGE,Int.reduceNeg,Int.reduceAdd,AH.SP,AH.PD,AV.inB,vstep]
      exact done
    · rw [hz,cond_true] at hx
      simp only [AH.SD,AH.SE,AOp.call?,AOp.next?,bstep,AV.cells,unAV,binAV,retQ,retV,AH.sliceElems,AH.bytesOf,AH.strOp,AH.bound,AH.missQ,AH.minmaxAV,AH.readOf,AH.effOf,Nat.reduceBEq,Nat.reduceAdd,Nat.reduceLT,↓reduceIte,Nat.reduceEqDiff,Nat.reduceLeDiff,Nat.reduceSub,Nat.reduceMul,Int.reduceSub,Int.reduceToNat,Int.reduceBEq,Int.reduceBNe,Int.reduceLT,Int.reduceGT,Int.reduceLE,Int.reduceGE,Int.reduceNeg,Int.reduceAdd]
      refine ⟨[0],[],?_⟩
      simp only [AH.SD,AH.SE,AOp.call?,AOp.next?,bstep,AV.cells,unAV,binAV,retQ,retV,AH.sliceElems,AH.bytesOf,AH.strOp,AH.bound,AH.missQ,AH.minmaxAV,AH.readOf,AH.effOf,Nat.reduceBEq,Nat.reduceAdd,Nat.reduceLT,↓reduceIte,Nat.reduceEqDiff,Nat.reduceLeDiff,Nat.reduceSub,Nat.reduceMul,Int.reduceSub,Int.reduceToNat,Int.reduceBEq,Int.reduceBNe,Int.reduceLT,Int.reduceGT,Int.reduceLE,Int.reduceGE,Int.reduceNeg,Int.reduceAdd,AH.SP,AH.PD,AV.inB,vstep,hx]
  · have hil:=ge_of_dec hlt
    obtain rfl : i = l.length:=by omega
    rw [List.drop_length,orL] at hx
    simp only [AH.SD,AH.SE,AOp.call?,AOp.next?,bstep,AV.cells,unAV,binAV,retQ,retV,AH.sliceElems,AH.bytesOf,AH.strOp,AH.bound,AH.missQ,AH.minmaxAV,AH.readOf,AH.effOf,Nat.reduceBEq,Nat.reduceAdd,Nat.reduceLT,↓reduceIte,Nat.reduceEqDiff,Nat.reduceLeDiff,Nat.reduceSub,Nat.reduceMul,Int.reduceSub,Int.reduceToNat,Int.reduceBEq,Int.reduceBNe,Int.reduceLT,Int.reduceGT,Int.reduceLE,Int.reduceGE,Int.reduceNeg,Int.reduceAdd]
    refine ⟨[0],[],?_⟩
    simp only [AH.SD,AH.SE,AOp.call?,AOp.next?,bstep,AV.cells,unAV,binAV,retQ,retV,AH.sliceElems,AH.bytesOf,AH.strOp,AH.bound,AH.missQ,AH.minmaxAV,AH.readOf,AH.effOf,Nat.reduceBEq,Nat.reduceAdd,Nat.reduceLT,↓reduceIte,Nat.reduceEqDiff,Nat.reduceLeDiff,Nat.reduceSub,Nat.reduceMul,Int.reduceSub,Int.reduceToNat,Int.reduceBEq,Int.reduceBNe,Int.reduceLT,Int.reduceGT,Int.reduceLE,Int.reduceGE,Int.reduceNeg,Int.reduceAdd,AH.SP,AH.PD,AV.inB,vstep,hx]
abbrev in64 (n : Int) : Prop:=-9223372036854775808 ≤ n ∧ n ≤ 9223372036854775807
def Sh.ok (s : Sh) : Prop:=in64 s.n ∧ in64 s.d
instance (s : Sh) : Decidable s.ok:=by unfold Sh.ok; infer_instance
def okPair (x : Sh × Sh × Unit) : Prop:=x.1.ok ∧ x.2.1.ok
instance : DecidablePred okPair:=fun x =>by unfold okPair; infer_instance
def cmpS (a b : Sh) : Int:=bif cmpZ (clsZ a.n a.d) (clsZ b.n b.d) != 0 || clsZ a.n a.d != 1 then cmpZ (clsZ a.n a.d) (clsZ b.n b.d) else cmpZ (a.n * b.d) (b.n * a.d)
theorem clsZ_1 {n d : Int} (h : clsZ n d = 1) : 0 < n ∧ 0 < d:=by
  unfold clsZ at h
  cases h1 : decide (n ≤ 0) with
  | true =>rw [h1] at h; cases h
  | false =>
    cases h2 : decide (d ≤ 0) with
    | true =>rw [h1,h2] at h; cases h
    | false =>simp only [decide_eq_false_iff_not] at h1 h2; omega
theorem cmpZ_eq (x y : Int) : cmpZ x y = 0 ↔ x = y:=by unfold cmpZ; split <;> (try split) <;> omega
theorem or_cmp (X Y : Int) : orL [cmpZ (X / 18446744073709551616) (Y / 18446744073709551616),cmpZ (X % 18446744073709551616) (Y % 18446744073709551616)] = cmpZ X Y:=by
  simp only [orL]
  by_cases h : X / 18446744073709551616 = Y / 18446744073709551616
  · rw [h,(cmpZ_eq _ _).2 rfl]
    simp only [bne_self_eq_false,cond_false]
    cases hz : (cmpZ (X % 18446744073709551616) (Y % 18446744073709551616) != 0) with
    | false =>
      have : cmpZ (X % 18446744073709551616) (Y % 18446744073709551616) = 0:=by simpa using hz
      rw [cmpZ_eq] at this
      rw [cond_false]
      exact ((cmpZ_eq X Y).2 (by omega)).symm
    | true =>
      rw [cond_true]
      unfold cmpZ
      repeat (first | rfl | (split <;> (try omega)))
  · have hz : (cmpZ (X / 18446744073709551616) (Y / 18446744073709551616) != 0) = true:=by
      have : cmpZ (X / 18446744073709551616) (Y / 18446744073709551616) ≠ 0:=fun e =>h ((cmpZ_eq _ _).1 e)
      simpa using this
    rw [hz,cond_true]
    unfold cmpZ
    repeat (first | rfl | (split <;> (try omega)))
abbrev tCmp : List (FuncId × RT):=[(55,classT),(54,cmpT),(58,cmpUT),(56,mulT)]
theorem okCmp : CtxOK S0 (ctxU S0 tCmp []):=ctxU_ok ⟨classT_ok,cmpT_ok,cmpUT_ok,mulT_ok,trivial⟩ trivial mixed
set_option maxRecDepth 100000 in
theorem shcmp_ok (a b : Sh) (ha : a.ok) (hb : b.ok) : Pure S0 31 [.agg a.cells,.agg b.cells] (.int .i64 (cmpS a b)):=by
  refine fun_sound okCmp Tryd.func31 c31 ?_
  unfold wpF F31
  simp only [AH.SD,AH.SE,AOp.call?,AOp.next?,bstep,AV.cells,unAV,binAV,retQ,retV,AH.sliceElems,AH.bytesOf,AH.strOp,AH.bound,AH.missQ,AH.minmaxAV,AH.readOf,AH.effOf,Nat.reduceBEq,Nat.reduceAdd,Nat.reduceLT,↓reduceIte,Nat.reduceEqDiff,Nat.reduceLeDiff,Nat.reduceSub,Nat.reduceMul,Int.reduceSub,Int.reduceToNat,Int.reduceBEq,Int.reduceBNe,Int.reduceLT,Int.reduceGT,Int.reduceLE,Int.reduceGE,Int.reduceNeg,Int.reduceAdd,Sh.cells_eq,classT_eq,cmpT_eq,cmpUT_eq]
  cases h1 : (cmpZ (clsZ a.n a.d) (clsZ b.n b.d) != 0)
  rotate_left
  · simp only [AH.SD,AH.SE,AOp.call?,AOp.next?,bstep,AV.cells,unAV,binAV,retQ,retV,AH.sliceElems,AH.bytesOf,AH.strOp,AH.bound,AH.missQ,AH.minmaxAV,AH.readOf,AH.effOf,Nat.reduceBEq,Nat.reduceAdd,Nat.reduceLT,↓reduceIte,Nat.reduceEqDiff,Nat.reduceLeDiff,Nat.reduceSub,Nat.reduceMul,Int.reduceSub,Int.reduceToNat,Int.reduceBEq,Int.reduceBNe,Int.reduceLT,Int.reduceGT,Int.reduceLE,Int.reduceGE,Int.reduceNeg,Int.reduceAdd,h1,cmpS,Bool.true_or,cond_true]
    repeat (refine ⟨by first | rfl | decide | omega | (simp only [List.length_map,List.length_set,and_true]; omega),?_⟩)
    trivial
  cases h2 : (clsZ a.n a.d != 1)
  rotate_left
  · simp only [AH.SD,AH.SE,AOp.call?,AOp.next?,bstep,AV.cells,unAV,binAV,retQ,retV,AH.sliceElems,AH.bytesOf,AH.strOp,AH.bound,AH.missQ,AH.minmaxAV,AH.readOf,AH.effOf,Nat.reduceBEq,Nat.reduceAdd,Nat.reduceLT,↓reduceIte,Nat.reduceEqDiff,Nat.reduceLeDiff,Nat.reduceSub,Nat.reduceMul,Int.reduceSub,Int.reduceToNat,Int.reduceBEq,Int.reduceBNe,Int.reduceLT,Int.reduceGT,Int.reduceLE,Int.reduceGE,Int.reduceNeg,Int.reduceAdd,h1,h2,classT_eq,cmpS,Bool.false_or,cond_true]
    repeat (refine ⟨by first | rfl | decide | omega | (simp only [List.length_map,List.length_set,and_true]; omega),?_⟩)
    trivial
  have e2 : clsZ a.n a.d = 1:=by simpa using h2
  have e1 : clsZ b.n b.d = 1:=by
    have : cmpZ (clsZ a.n a.d) (clsZ b.n b.d) = 0:=by simpa using h1
    rw [← (cmpZ_eq _ _).1 this,e2]
  have pa:=clsZ_1 e2
  have pb:=clsZ_1 e1
  obtain ⟨⟨_,_⟩,⟨_,_⟩⟩:=ha
  obtain ⟨⟨_,_⟩,⟨_,_⟩⟩:=hb
  have ua : inU a.n:=by omega
  have ud : inU a.d:=by omega
  have va : inU b.n:=by omega
  have vd : inU b.d:=by omega
  have w1 : IntKind.u64.wrap a.n = a.n:=by rw [IntKind.wrap_u64]; omega
  have w2 : IntKind.u64.wrap a.d = a.d:=by rw [IntKind.wrap_u64]; omega
  have w3 : IntKind.u64.wrap b.n = b.n:=by rw [IntKind.wrap_u64]; omega
  have w4 : IntKind.u64.wrap b.d = b.d:=by rw [IntKind.wrap_u64]; omega
  simp only [AH.SD,AH.SE,AOp.call?,AOp.next?,bstep,AV.cells,unAV,binAV,retQ,retV,AH.sliceElems,AH.bytesOf,AH.strOp,AH.bound,AH.missQ,AH.minmaxAV,AH.readOf,AH.effOf,Nat.reduceBEq,Nat.reduceAdd,Nat.reduceLT,↓reduceIte,Nat.reduceEqDiff,Nat.reduceLeDiff,Nat.reduceSub,Nat.reduceMul,Int.reduceSub,Int.reduceToNat,Int.reduceBEq,Int.reduceBNe,Int.reduceLT,Int.reduceGT,Int.reduceLE,Int.reduceGE,Int.reduceNeg,Int.reduceAdd,h1,h2,classT_eq,cmpUT_eq,w1,w2,w3,w4,mulT_eq _ _ _ ua vd,mulT_eq _ _ _ va ud]
  repeat (refine ⟨by first | rfl | decide | omega | (simp only [List.length_map,List.length_set,and_true]; omega),?_⟩)
  refine (CallA1.view errs0 (R:=[(1,[cmpZ (a.n * b.d / 18446744073709551616) (b.n * a.d / 18446744073709551616),cmpZ (a.n * b.d % 18446744073709551616) (b.n * a.d % 18446744073709551616)].map intC)]) (news:=[]) (or_ok [cmpZ (a.n * b.d / 18446744073709551616) (b.n * a.d / 18446744073709551616),cmpZ (a.n * b.d % 18446744073709551616) (b.n * a.d % 18446744073709551616)] (by simp)) [1] (foot:=[2]) ?_).mono ?_
  · simp only [AH.SD,AH.SE,AOp.call?,AOp.next?,bstep,AV.cells,unAV,binAV,retQ,retV,AH.sliceElems,AH.bytesOf,AH.strOp,AH.bound,AH.missQ,AH.minmaxAV,AH.readOf,AH.effOf,Nat.reduceBEq,Nat.reduceAdd,Nat.reduceLT,↓reduceIte,Nat.reduceEqDiff,Nat.reduceLeDiff,Nat.reduceSub,Nat.reduceMul,Int.reduceSub,Int.reduceToNat,Int.reduceBEq,Int.reduceBNe,Int.reduceLT,Int.reduceGT,Int.reduceLE,Int.reduceGE,Int.reduceNeg,Int.reduceAdd,AH.SP,AH.PD,AV.inB,vstep,vw,shift,newOnes,rowsM,blkIn,rwB,@flat_lts,AV.lt,AV.lts,Nat.sub_self,intC_eq]
  rintro r m' ⟨rfl,rfl⟩
  simp only [AH.SD,AH.SE,AOp.call?,AOp.next?,bstep,AV.cells,unAV,binAV,retQ,retV,AH.sliceElems,AH.bytesOf,AH.strOp,AH.bound,AH.missQ,AH.minmaxAV,AH.readOf,AH.effOf,Nat.reduceBEq,Nat.reduceAdd,Nat.reduceLT,↓reduceIte,Nat.reduceEqDiff,Nat.reduceLeDiff,Nat.reduceSub,Nat.reduceMul,Int.reduceSub,Int.reduceToNat,Int.reduceBEq,Int.reduceBNe,Int.reduceLT,Int.reduceGT,Int.reduceLE,Int.reduceGE,Int.reduceNeg,Int.reduceAdd,AH.SP,AH.PD,AV.inB,vstep,vw,shift,newOnes,rowsM,blkIn,rwB,@flat_lts,AV.lt,AV.lts,Nat.sub_self,or_cmp,cmpS,h1,h2,Bool.or_self,cond_false]
def shcmpT : RT:=rtP (cSub (cC (aA cSh) (cC (aA cSh) c0)) okPair) fun x => .int .i64 (cmpS x.1.1 x.1.2.1)
theorem shcmpT_ok : ReadF S0 31 shcmpT:=rtP_ok (fun ⟨⟨a,b,_⟩,ha,hb⟩ =>shcmp_ok a b ha hb) fun _ =>rfl
theorem shcmpT_eq (a b c d : Int) (M : Nat → Option Blk) (ha : Sh.ok ⟨a,b⟩) (hb : Sh.ok ⟨c,d⟩) : shcmpT [.agg [.int .i64 a,.int .i64 b],.agg [.int .i64 c,.int .i64 d]] M = some (.int .i64 (cmpS ⟨a,b⟩ ⟨c,d⟩),[]):=by
  have h : okPair (⟨a,b⟩,⟨c,d⟩,()):=⟨ha,hb⟩
  unfold shcmpT
  rw [rtS_eq h rfl]
end Go.Proofs.YtkbjfhkhbcgkgaaDoor.B33
