import Derived.Test.YtnlolefgifeohaaDoorPrkAE15
import Derived.Test.YtnlolefgifeohaaDoorPrkQE15
import Derived.Test.YtnlolefgifeohaaDoorFPrkWE15
open Go AH
set_option linter.unusedSimpArgs false
set_option maxRecDepth 100000
namespace Go.Proofs.YtnlolefgifeohaaDoor.E15
theorem eqMa7 {a b c d e f g a' b' c' d' e' f' g' : Int} : eqFlat [.int,.int,.int,.int,.int,.int,.int] [.int .i64 a,.int .i64 b,.int .i64 c,.int .i64 d,.int .i64 e,.int .i64 f,.int .i64 g] [.int .i64 a',.int .i64 b',.int .i64 c',.int .i64 d',.int .i64 e',.int .i64 f',.int .i64 g'] = some (a == a' && (b == b' && (c == c' && (d == d' && (e == e' && (f == f' && g == g')))))):=by
  simp only [eqFlat,eqScalar,and_self,if_true,Bool.and_true]
theorem ad_do {t : Mp Ma} (ht : Pk t) {id c : Int} {v : V4} (h1 : 1 ≤ id) (h2 : id ≤ 999) (h3 : 1 ≤ c) (h4 : c ≤ 4) (hv : good v = true) (hq : enF id t.L 0 = none) (hl : t.L.length < 24) (hr : ∀ g,isP g → Zg g (atC c) t.L + g v ≤ 1099511627776) :
    adM t id c v = (0,⟨t.L ++ [⟨id,⟨id,c,v,0⟩,t.c⟩],t.c + 1⟩):=by
  have c1 : decide (id < 1) = false:=by simp only [decide_eq_false_iff_not]; omega
  have c2 : decide (id > 999) = false:=by simp only [decide_eq_false_iff_not]; omega
  have c3 : decide (c < 1) = false:=by simp only [decide_eq_false_iff_not]; omega
  have c4 : decide (c > 4) = false:=by simp only [decide_eq_false_iff_not]; omega
  have c5 : decide ((t.L.length : Int) ≥ 24) = false:=by simp only [decide_eq_false_iff_not]; omega
  have c6 : isM t id = false:=by rw [isM,hq]; rfl
  rw [adM,c1,c2,c3,c4,hv,c6,c5,(room_ok ht hv).2 hr]; rfl
deriving instance DecidableEq for V4
deriving instance DecidableEq for Ma
deriving instance DecidableEq for AH.En
deriving instance DecidableEq for AH.Mp
noncomputable abbrev tK : List (FuncId × RT):=[(30,ofT),(32,lvT),(23,kindT)]
noncomputable abbrev eK : List (FuncId × ET):=[(22,nwT),(28,adT),(24,drT),(26,seT),(34,liT),(35,alT)]
theorem tK_ok : AllF S0 tK:=⟨ofT_ok,lvT_ok,kindT_ok,trivial⟩
theorem eK_ok : AllE S0 eK:=⟨nwT_ok,adT_ok,drT_ok,seT_ok,liT_ok,alT_ok,trivial⟩
theorem okK0 : CtxOK S0 (ctxE S0 tK [] eK):=ctxE_ok tK_ok trivial eK_ok mixed
def S1 : Mp Ma:=⟨[⟨5,⟨5,1,⟨4,0,0,0⟩,0⟩,0⟩],1⟩
def S2 : Mp Ma:=⟨[⟨5,⟨5,1,⟨4,0,0,0⟩,0⟩,0⟩,⟨6,⟨6,1,⟨4,0,0,0⟩,0⟩,1⟩],2⟩
def S3 : Mp Ma:=⟨[⟨5,⟨5,1,⟨4,0,0,0⟩,0⟩,0⟩,⟨6,⟨6,1,⟨4,0,0,0⟩,1⟩,1⟩],2⟩
theorem k1 : adM K0 5 1 ⟨4,0,0,0⟩ = (0,S1):=ad_do pk0 (by decide) (by decide) (by decide) (by decide) (by decide) rfl (by decide) (fun g hg =>by rcases hg with rfl | rfl | rfl | rfl <;> decide)
theorem pk1 : Pk S1:=by have:=(ad_after pk0 5 1 ⟨4,0,0,0⟩).pk; rw [k1] at this; exact this
theorem k2 : adM S1 6 1 ⟨4,0,0,0⟩ = (0,S2):=ad_do pk1 (by decide) (by decide) (by decide) (by decide) (by decide) rfl (by decide) (fun g hg =>by rcases hg with rfl | rfl | rfl | rfl <;> decide)
theorem pk2 : Pk S2:=by have:=(ad_after pk1 6 1 ⟨4,0,0,0⟩).pk; rw [k2] at this; exact this
theorem k3 : seM S2 6 1 = (0,S3):=by decide +kernel
theorem pk3 : Pk S3:=by have:=(se_after pk2 6 1).pk; rw [k3] at this; exact this
theorem k4 : liveM S3 1 = ⟨4,0,0,0⟩:=v4_ext fun g hg =>by
  rw [live_g pk3 1 hg]
  rcases hg with rfl | rfl | rfl | rfl <;> decide
theorem k5 : ofM S3 6 = ⟨6,1,⟨4,0,0,0⟩,1⟩:=by decide +kernel
theorem k5' : isM S3 6 = true:=by decide +kernel
theorem k6 : (listM S3 1).length = 2:=by
  have h : (listM S3 1).Perm (keepC 1 (S3.L.map (·.v))):=(allM_perm pk3.wf).filter _
  rw [h.length_eq]
  decide +kernel
theorem k7 : seM S3 6 1 = (13,S3):=by decide +kernel
theorem k8 : adM S3 5 1 ⟨0,0,0,0⟩ = (6,S3):=rfl
theorem awake_ok : Pure S0 21 [] (.bool true):=by
  refine fun_sound okK0 Tryd.func21 c21 ?_
  unfold wpF F21
  have kE6 : ∀ M,kindT [errA 6] M = some (.int .i64 6,[]):=fun M =>kindT_err (k:=6) M (by decide)
  have kE13 : ∀ M,kindT [errA 13] M = some (.int .i64 13,[]):=fun M =>kindT_err (k:=13) M (by decide)
  have f0:=pk0.fw
  have f1:=pk1.fw
  have f2:=pk2.fw
  have f3:=pk3.fw
  have e1 : eqV ⟨4,0,0,0⟩ ⟨4,0,0,0⟩ = true:=rfl
  simp only [AH.SD,AH.SE,AOp.call?,AOp.next?,bstep,AV.cells,unAV,binAV,retQ,retV,AH.sliceElems,AH.bytesOf,AH.strOp,AH.bound,AH.missQ,AH.minmaxAV,AH.readOf,AH.effOf,Nat.reduceBEq,Nat.reduceAdd,Nat.reduceLT,↓reduceIte,Nat.reduceEqDiff,Nat.reduceLeDiff,Nat.reduceSub,Nat.reduceMul,Int.reduceSub,Int.reduceToNat,Int.reduceBEq,Int.reduceBNe,Int.reduceLT,Int.reduceGT,Int.reduceLE,Int.reduceGE,Int.reduceNeg,Int.reduceAdd,AH.SP,AH.PD,AV.inB,vstep,vw,shift,newOnes,rowsM,blkIn,rwB,@flat_lts,AV.lt,AV.lts,Nat.sub_self,AH.SO,ma_in,ma_ren,pkR_eq,pkB_eq,Mp.eta,ne_eq,Nat.reduceEqDiff,Nat.zero_ne_one,not_false_eq_true,nwT_eq,adT_p,drT_p,seT_p,liT_p,alT_p,lvT_p,ofT_p,errA_ren,errA_nil,pkM,rowM,Ma.av,V4.cells_eq,V4.eta,AH.eqAV_flat,eqFlat_vec,eqMa7,f0,f1,f2,f3,k1,k2,k3,k4,k5,k5',k6,k7,k8,kE6,kE13,eA0,e1]
  repeat (refine ⟨by first | rfl | decide | omega | (simp only [List.length_map,List.length_set,and_true]; omega),?_⟩)
  try simp only [AH.SD,AH.SE,AOp.call?,AOp.next?,bstep,AV.cells,unAV,binAV,retQ,retV,AH.sliceElems,AH.bytesOf,AH.strOp,AH.bound,AH.missQ,AH.minmaxAV,AH.readOf,AH.effOf,Nat.reduceBEq,Nat.reduceAdd,Nat.reduceLT,↓reduceIte,Nat.reduceEqDiff,Nat.reduceLeDiff,Nat.reduceSub,Nat.reduceMul,Int.reduceSub,Int.reduceToNat,Int.reduceBEq,Int.reduceBNe,Int.reduceLT,Int.reduceGT,Int.reduceLE,Int.reduceGE,Int.reduceNeg,Int.reduceAdd,AH.SP,AH.PD,AV.inB,vstep,vw,shift,newOnes,rowsM,blkIn,rwB,@flat_lts,AV.lt,AV.lts,Nat.sub_self,AH.SO,ma_in,ma_ren,pkR_eq,pkB_eq,Mp.eta,ne_eq,Nat.reduceEqDiff,Nat.zero_ne_one,not_false_eq_true,nwT_eq,adT_p,drT_p,seT_p,liT_p,alT_p,lvT_p,ofT_p,errA_ren,errA_nil,pkM,rowM,Ma.av,V4.cells_eq,V4.eta,AH.eqAV_flat,eqFlat_vec,eqMa7,f0,f1,f2,f3,k1,k2,k3,k4,k5,k5',k6,k7,k8,kE6,kE13,eA0,e1]
def awakeT : RT:=rtP c0 fun _ => .bool true
theorem awakeT_ok : ReadF S0 21 awakeT:=rtP_ok (fun _ =>awake_ok) fun _ =>rfl
theorem awakeT_eq (M : Nat → Option Blk) : awakeT [] M = some (.bool true,[]):=rfl
structure Ac where
  k : Int
  id : Int
  n : Int
  v : V4
def Ac.cells (a : Ac) : List AV:=[.int .i64 a.k,.int .i64 a.id,.int .i64 a.n,.int .i64 a.v.a,.int .i64 a.v.b,.int .i64 a.v.c,.int .i64 a.v.d]
def decAc : List AV → Option Ac
  | [.int .i64 k,.int .i64 i,.int .i64 n,.int .i64 a,.int .i64 b,.int .i64 c,.int .i64 d] =>some ⟨k,i,n,⟨a,b,c,d⟩⟩
  | _ =>none
theorem decAc_ok (l : List AV) (v : Ac) (h : decAc l = some v) : l = v.cells:=by
  unfold decAc at h
  split at h
  · simp only [Option.some.injEq] at h; subst h; rfl
  · cases h
def cAc : Cod Ac:=⟨Ac.cells,decAc,decAc_ok,fun _ =>rfl,fun _ =>rfl⟩
instance : FlatE Ac.cells:=⟨cAc.flat⟩
theorem Ac.cells_eq (a : Ac) : a.cells = [.int .i64 a.k,.int .i64 a.id,.int .i64 a.n,.int .i64 a.v.a,.int .i64 a.v.b,.int .i64 a.v.c,.int .i64 a.v.d]:=rfl
end Go.Proofs.YtnlolefgifeohaaDoor.E15
