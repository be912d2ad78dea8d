import Derived.Test.YtkbjfhkhbcgkgaaDoorShEB33
open Go AH
set_option linter.unusedSimpArgs false
set_option maxRecDepth 100000
namespace Go.Proofs.YtkbjfhkhbcgkgaaDoor.B33
def okD (x : Int × Int × Int × Unit) : Prop:=inU x.1 ∧ inU x.2.1 ∧ inU x.2.2.1 ∧ x.1 < x.2.2.1
instance : DecidablePred okD:=fun x =>by unfold okD; infer_instance
def divT : RT:=rtP (cSub (cC (aI .u64) (cC (aI .u64) (cC (aI .u64) c0))) okD) fun x => .tup [.int .u64 ((x.1.1 * 18446744073709551616 + x.1.2.1) / x.1.2.2.1),.int .u64 ((x.1.1 * 18446744073709551616 + x.1.2.1) % x.1.2.2.1)]
theorem divT_ok : ReadF S0 59 divT:=rtP_ok (fun ⟨⟨x,y,z,_⟩,hx,hy,hz,hl⟩ =>by
  simp only at hx hy hz hl
  obtain ⟨X,rfl⟩:=Int.eq_ofNat_of_zero_le hx.1
  obtain ⟨Y,rfl⟩:=Int.eq_ofNat_of_zero_le hy.1
  obtain ⟨Z,rfl⟩:=Int.eq_ofNat_of_zero_le hz.1
  have:=div64_ok X Y Z (by omega) (by have:=hz.2; omega) (by have:=hy.2; omega)
  exact this) fun _ =>rfl
theorem divT_eq (x y z : Int) (M : Nat → Option Blk) (hx : inU x) (hy : inU y) (hz : inU z) (hl : x < z) : divT [.int .u64 x,.int .u64 y,.int .u64 z] M = some (.tup [.int .u64 ((x * 18446744073709551616 + y) / z),.int .u64 ((x * 18446744073709551616 + y) % z)],[]):=by
  have h : okD (x,y,z,()):=⟨hx,hy,hz,hl⟩
  unfold divT
  rw [rtS_eq h rfl]
def minZ (x y : Int) : Int:=if x ≤ y then x else y
def hunS (s : Sh) : Int:=bif clsZ s.n s.d == 0 then 0 else bif clsZ s.n s.d == 2 then 4611686018427387904 else minZ (s.n * 100 / s.d) 4611686018427387904
abbrev tHu : List (FuncId × RT):=[(55,classT),(56,mulT),(59,divT)]
theorem okHu : CtxOK S0 (ctxU S0 tHu []):=ctxU_ok ⟨classT_ok,mulT_ok,divT_ok,trivial⟩ trivial mixed
set_option maxRecDepth 100000 in
theorem hun_ok (s : Sh) (hs : s.ok) : Pure S0 34 [.agg s.cells] (.int .i64 (hunS s)):=by
  refine fun_sound okHu Tryd.func34 c34 ?_
  unfold wpF F34
  simp only [AH.SD,AH.SE,AOp.call?,AOp.next?,bstep,AV.cells,unAV,binAV,retQ,retV,AH.sliceElems,AH.bytesOf,AH.strOp,AH.bound,AH.missQ,AH.minmaxAV,AH.readOf,AH.effOf,Nat.reduceBEq,Nat.reduceAdd,Nat.reduceLT,↓reduceIte,Nat.reduceEqDiff,Nat.reduceLeDiff,Nat.reduceSub,Nat.reduceMul,Int.reduceSub,Int.reduceToNat,Int.reduceBEq,Int.reduceBNe,Int.reduceLT,Int.reduceGT,Int.reduceLE,Int.reduceGE,Int.reduceNeg,Int.reduceAdd,Sh.cells_eq,classT_eq]
  rcases clsZ_in s.n s.d with h | h | h
  · simp only [AH.SD,AH.SE,AOp.call?,AOp.next?,bstep,AV.cells,unAV,binAV,retQ,retV,AH.sliceElems,AH.bytesOf,AH.strOp,AH.bound,AH.missQ,AH.minmaxAV,AH.readOf,AH.effOf,Nat.reduceBEq,Nat.reduceAdd,Nat.reduceLT,↓reduceIte,Nat.reduceEqDiff,Nat.reduceLeDiff,Nat.reduceSub,Nat.reduceMul,Int.reduceSub,Int.reduceToNat,Int.reduceBEq,Int.reduceBNe,Int.reduceLT,Int.reduceGT,Int.reduceLE,Int.reduceGE,Int.reduceNeg,Int.reduceAdd,h,hunS]
  rotate_left
  · simp only [AH.SD,AH.SE,AOp.call?,AOp.next?,bstep,AV.cells,unAV,binAV,retQ,retV,AH.sliceElems,AH.bytesOf,AH.strOp,AH.bound,AH.missQ,AH.minmaxAV,AH.readOf,AH.effOf,Nat.reduceBEq,Nat.reduceAdd,Nat.reduceLT,↓reduceIte,Nat.reduceEqDiff,Nat.reduceLeDiff,Nat.reduceSub,Nat.reduceMul,Int.reduceSub,Int.reduceToNat,Int.reduceBEq,Int.reduceBNe,Int.reduceLT,Int.reduceGT,Int.reduceLE,Int.reduceGE,Int.reduceNeg,Int.reduceAdd,h,hunS]
  have hp:=clsZ_1 h
  obtain ⟨⟨_,_⟩,⟨_,_⟩⟩:=hs
  have w1 : IntKind.u64.wrap s.n = s.n:=by rw [IntKind.wrap_u64]; omega
  have w2 : IntKind.u64.wrap s.d = s.d:=by rw [IntKind.wrap_u64]; omega
  have u1 : inU s.n:=by omega
  have u2 : inU s.d:=by omega
  have u3 : inU (s.n * 100 / 18446744073709551616):=by omega
  have u4 : inU (s.n * 100 % 18446744073709551616):=by omega
  simp only [AH.SD,AH.SE,AOp.call?,AOp.next?,bstep,AV.cells,unAV,binAV,retQ,retV,AH.sliceElems,AH.bytesOf,AH.strOp,AH.bound,AH.missQ,AH.minmaxAV,AH.readOf,AH.effOf,Nat.reduceBEq,Nat.reduceAdd,Nat.reduceLT,↓reduceIte,Nat.reduceEqDiff,Nat.reduceLeDiff,Nat.reduceSub,Nat.reduceMul,Int.reduceSub,Int.reduceToNat,Int.reduceBEq,Int.reduceBNe,Int.reduceLT,Int.reduceGT,Int.reduceLE,Int.reduceGE,Int.reduceNeg,Int.reduceAdd,h,w1,w2,mulT_eq s.n 100 _ u1 (by decide)]
  have hH : hunS s = minZ (s.n * 100 / s.d) 4611686018427387904:=by unfold hunS; rw [h]; rfl
  rw [hH]
  cases hc : decide (s.n * 100 / 18446744073709551616 ≥ s.d)
  · simp only [decide_eq_false_iff_not] at hc
    have e : s.n * 100 / 18446744073709551616 * 18446744073709551616 + s.n * 100 % 18446744073709551616 = s.n * 100:=by omega
    simp only [AH.SD,AH.SE,AOp.call?,AOp.next?,bstep,AV.cells,unAV,binAV,retQ,retV,AH.sliceElems,AH.bytesOf,AH.strOp,AH.bound,AH.missQ,AH.minmaxAV,AH.readOf,AH.effOf,Nat.reduceBEq,Nat.reduceAdd,Nat.reduceLT,↓reduceIte,Nat.reduceEqDiff,Nat.reduceLeDiff,Nat.reduceSub,Nat.reduceMul,Int.reduceSub,Int.reduceToNat,Int.reduceBEq,Int.reduceBNe,Int.reduceLT,Int.reduceGT,Int.reduceLE,Int.reduceGE,Int.reduceNeg,Int.reduceAdd,hc,w1,w2,divT_eq _ _ _ _ u3 u4 u2 (by omega),e]
    have hq : 0 ≤ s.n * 100 / s.d:=Int.ediv_nonneg (by omega) (by omega)
    unfold minZ
    rw [IntKind.wrap_i64]
    congr 1
    split <;> split <;> omega
  · simp only [decide_eq_true_eq] at hc
    have : 18446744073709551616 ≤ s.n * 100 / s.d:=(Int.le_ediv_iff_mul_le hp.2).2 (by omega)
    simp only [AH.SD,AH.SE,AOp.call?,AOp.next?,bstep,AV.cells,unAV,binAV,retQ,retV,AH.sliceElems,AH.bytesOf,AH.strOp,AH.bound,AH.missQ,AH.minmaxAV,AH.readOf,AH.effOf,Nat.reduceBEq,Nat.reduceAdd,Nat.reduceLT,↓reduceIte,Nat.reduceEqDiff,Nat.reduceLeDiff,Nat.reduceSub,Nat.reduceMul,Int.reduceSub,Int.reduceToNat,Int.reduceBEq,Int.reduceBNe,Int.reduceLT,Int.reduceGT,Int.reduceLE,Int.reduceGE,Int.reduceNeg,Int.reduceAdd,hc]
    unfold minZ
    rw [if_neg (by omega)]
def okOneH (x : Sh × Unit) : Prop:=x.1.ok
instance : DecidablePred okOneH:=fun x =>by unfold okOneH; infer_instance
def hunT : RT:=rtP (cSub (cC (aA cSh) c0) okOneH) fun x => .int .i64 (hunS x.1.1)
theorem hunT_ok : ReadF S0 34 hunT:=rtP_ok (fun ⟨⟨a,_⟩,ha⟩ =>hun_ok a ha) fun _ =>rfl
theorem hunT_eq (a b : Int) (M : Nat → Option Blk) (ha : Sh.ok ⟨a,b⟩) : hunT [.agg [.int .i64 a,.int .i64 b]] M = some (.int .i64 (hunS ⟨a,b⟩),[]):=by
  have h : okOneH (⟨a,b⟩,()):=ha
  unfold hunT
  rw [rtS_eq h rfl]
def hu1 (d : Nat) (x : Nat × Nat × Nat) : St:=⟨[(7,.int .i64 x.1),(6,.int .i64 x.2.2),(5,.int .i64 x.2.1),(1,.int .i64 d)],[]⟩
def hu2 (d i out rest : Nat) (x : Nat × Nat × Nat) : St:=⟨[(10,.int .i64 x.1),(9,.int .i64 x.2.2),(8,.int .i64 x.2.1),(7,.int .i64 i),(6,.int .i64 rest),(5,.int .i64 out),(1,.int .i64 d)],[]⟩
theorem wo_lem {o g : Nat} (h : o ≤ 461168601842738790) (hg : g ≤ 10) : IntKind.i64.wrap (IntKind.i64.wrap ((o : Int) * 10) + (g : Int)) = ((o * 10 + g : Nat) : Int):=by
  have e1 : IntKind.i64.wrap ((o : Int) * 10) = ((o * 10 : Nat) : Int):=by rw [IntKind.wrap_i64]; omega
  rw [e1,addN,wrap_small (by omega)]
def pw : Nat → Nat
  | 0 => 1
  | 1 => 10
  | _ => 100
theorem pw_succ {i : Nat} (h : i < 2) : pw (i + 1) = pw i * 10:=by rcases (by omega : i = 0 ∨ i = 1) with rfl | rfl <;> rfl
theorem pw_100 {i : Nat} (h : i < 2) : ∃ m,10 ≤ m ∧ pw i * m = 100:=by
  rcases (by omega : i = 0 ∨ i = 1) with rfl | rfl
  · exact ⟨100,by decide,rfl⟩
  · exact ⟨10,by decide,rfl⟩
theorem geM (x y : Nat) : decide ((x : Int) ≥ (y : Int)) = decide (x ≥ y):=by rw [Bool.eq_iff_iff]; simp only [decide_eq_true_eq]; omega
theorem digit_step {N d : Nat} (hd : 0 < d) {o r g t : Nat} (h1 : o = N / d) (h2 : r = N % d) (h3 : g * d + t = 10 * r) (h4 : t < d) : o * 10 + g = N * 10 / d ∧ t = N * 10 % d:=by
  have e : N * 10 = d * (o * 10 + g) + t:=by
    have:=Nat.div_add_mod N d
    rw [← h1,← h2] at this
    rw [Nat.mul_add,← Nat.mul_assoc,Nat.mul_comm d g]
    omega
  constructor
  · rw [e,Nat.mul_add_div hd,Nat.div_eq_of_lt h4,Nat.add_zero]
  · rw [e,Nat.mul_add_mod,Nat.mod_eq_of_lt h4]
set_option maxRecDepth 100000 in
theorem rhun_ok (s : Sh) (hs : s.ok) : Pure S0 35 [.int .i64 s.n,.int .i64 s.d] (.int .i64 (hunS s)):=by
  refine fun_sound okRc Tryd.func35 c35 ?_
  unfold wpF F35
  simp only [AH.SD,AH.SE,AOp.call?,AOp.next?,bstep,AV.cells,unAV,binAV,retQ,retV,AH.sliceElems,AH.bytesOf,AH.strOp,AH.bound,AH.missQ,AH.minmaxAV,AH.readOf,AH.effOf,Nat.reduceBEq,Nat.reduceAdd,Nat.reduceLT,↓reduceIte,Nat.reduceEqDiff,Nat.reduceLeDiff,Nat.reduceSub,Nat.reduceMul,Int.reduceSub,Int.reduceToNat,Int.reduceBEq,Int.reduceBNe,Int.reduceLT,Int.reduceGT,Int.reduceLE,Int.reduceGE,Int.reduceNeg,Int.reduceAdd,rclassT_eq]
  rcases clsZ_in s.n s.d with h | h | h
  · simp only [AH.SD,AH.SE,AOp.call?,AOp.next?,bstep,AV.cells,unAV,binAV,retQ,retV,AH.sliceElems,AH.bytesOf,AH.strOp,AH.bound,AH.missQ,AH.minmaxAV,AH.readOf,AH.effOf,Nat.reduceBEq,Nat.reduceAdd,Nat.reduceLT,↓reduceIte,Nat.reduceEqDiff,Nat.reduceLeDiff,Nat.reduceSub,Nat.reduceMul,Int.reduceSub,Int.reduceToNat,Int.reduceBEq,Int.reduceBNe,Int.reduceLT,Int.reduceGT,Int.reduceLE,Int.reduceGE,Int.reduceNeg,Int.reduceAdd,h,hunS]
  rotate_left
  · simp only [AH.SD,AH.SE,AOp.call?,AOp.next?,bstep,AV.cells,unAV,binAV,retQ,retV,AH.sliceElems,AH.bytesOf,AH.strOp,AH.bound,AH.missQ,AH.minmaxAV,AH.readOf,AH.effOf,Nat.reduceBEq,Nat.reduceAdd,Nat.reduceLT,↓reduceIte,Nat.reduceEqDiff,Nat.reduceLeDiff,Nat.reduceSub,Nat.reduceMul,Int.reduceSub,Int.reduceToNat,Int.reduceBEq,Int.reduceBNe,Int.reduceLT,Int.reduceGT,Int.reduceLE,Int.reduceGE,Int.reduceNeg,Int.reduceAdd,h,hunS]
  have hp:=clsZ_1 h
  obtain ⟨⟨_,_⟩,⟨_,_⟩⟩:=hs
  have hH : hunS s = minZ (s.n * 100 / s.d) 4611686018427387904:=by unfold hunS; rw [h]; rfl
  rw [hH]
  obtain ⟨n,en⟩:=Int.eq_ofNat_of_zero_le (Int.le_of_lt hp.1)
  obtain ⟨d,ed⟩:=Int.eq_ofNat_of_zero_le (Int.le_of_lt hp.2)
  have kn : n ≤ 9223372036854775807:=by omega
  have kd : d ≤ 9223372036854775807:=by omega
  have hd : 0 < d:=by omega
  have hdi : (d : Int) ≠ 0:=by omega
  have h' : clsZ n d = 1:=by rw [← en,← ed]; exact h
  have wq : IntKind.i64.wrap ((n / d : Nat) : Int) = ((n / d : Nat) : Int):=wrap_small (Nat.le_trans (Nat.div_le_self _ _) kn)
  have eX : s.n * 100 / s.d = ((n * 100 / d : Nat) : Int):=by rw [en,ed]; exact_mod_cast rfl
  rw [eX]
  simp only [AH.SD,AH.SE,AOp.call?,AOp.next?,bstep,AV.cells,unAV,binAV,retQ,retV,AH.sliceElems,AH.bytesOf,AH.strOp,AH.bound,AH.missQ,AH.minmaxAV,AH.readOf,AH.effOf,Nat.reduceBEq,Nat.reduceAdd,Nat.reduceLT,↓reduceIte,Nat.reduceEqDiff,Nat.reduceLeDiff,Nat.reduceSub,Nat.reduceMul,Int.reduceSub,Int.reduceToNat,Int.reduceBEq,Int.reduceBNe,Int.reduceLT,Int.reduceGT,Int.reduceLE,Int.reduceGE,Int.reduceNeg,Int.reduceAdd,h,en,ed,h',tdivN,tmodN,wq]
  repeat (refine ⟨by first | rfl | decide | omega | (simp only [List.length_map,List.length_set,and_true]; omega),?_⟩)
  refine loop_do [] [7,6,5,1] [] (α:=Nat × Nat × Nat) (fun x => 2 - x.1) (hu1 d) (fun x =>x.1 ≤ 2 ∧ x.2.1 = n * pw x.1 / d ∧ x.2.2 = n * pw x.1 % d ∧ x.2.1 ≤ 9223372036854775807) (0,n / d,n % d) ⟨Nat.zero_le _,by simp [pw],by simp [pw],Nat.le_trans (Nat.div_le_self _ _) kn⟩ (by simp only [AH.SD,AH.SE,AOp.call?,AOp.next?,bstep,AV.cells,unAV,binAV,retQ,retV,AH.sliceElems,AH.bytesOf,AH.strOp,AH.bound,AH.missQ,AH.minmaxAV,AH.readOf,AH.effOf,Nat.reduceBEq,Nat.reduceAdd,Nat.reduceLT,↓reduceIte,Nat.reduceEqDiff,Nat.reduceLeDiff,Nat.reduceSub,Nat.reduceMul,Int.reduceSub,Int.reduceToNat,Int.reduceBEq,Int.reduceBNe,Int.reduceLT,Int.reduceGT,Int.reduceLE,Int.reduceGE,Int.reduceNeg,Int.reduceAdd,AH.SP,AH.PD,AV.inB,vstep,hu1]) ?_
  rintro X ⟨i,out,rest⟩ ⟨hi,ho,hr,hob⟩ ih
  simp only at hi ho hr hob
  simp only [AH.SD,AH.SE,AOp.call?,AOp.next?,bstep,AV.cells,unAV,binAV,retQ,retV,AH.sliceElems,AH.bytesOf,AH.strOp,AH.bound,AH.missQ,AH.minmaxAV,AH.readOf,AH.effOf,Nat.reduceBEq,Nat.reduceAdd,Nat.reduceLT,↓reduceIte,Nat.reduceEqDiff,Nat.reduceLeDiff,Nat.reduceSub,Nat.reduceMul,Int.reduceSub,Int.reduceToNat,Int.reduceBEq,Int.reduceBNe,Int.reduceLT,Int.reduceGT,Int.reduceLE,Int.reduceGE,Int.reduceNeg,Int.reduceAdd,hu1]
  refine ⟨fun hlt => ?_,fun hlt => ?_⟩
  · have hi2 : i < 2:=lt_of_dec (n:=2) hlt
    cases hg : decide ((out : Int) > 461168601842738790)
    rotate_left
    · simp only [decide_eq_true_eq] at hg
      obtain ⟨m,g2,hm⟩:=pw_100 hi2
      have e100 : n * 100 = n * pw i * m:=by rw [Nat.mul_assoc,hm]
      have big : 4611686018427387904 ≤ n * 100 / d:=by
        refine (Nat.le_div_iff_mul_le hd).2 ?_
        have g1 : (461168601842738791) * d ≤ n * pw i:=by
          have:=Nat.div_mul_le_self (n * pw i) d
          rw [← ho] at this
          exact Nat.le_trans (Nat.mul_le_mul_right d (by omega)) this
        have g3:=Nat.mul_le_mul g1 g2
        rw [e100]
        omega
      simp only [AH.SD,AH.SE,AOp.call?,AOp.next?,bstep,AV.cells,unAV,binAV,retQ,retV,AH.sliceElems,AH.bytesOf,AH.strOp,AH.bound,AH.missQ,AH.minmaxAV,AH.readOf,AH.effOf,Nat.reduceBEq,Nat.reduceAdd,Nat.reduceLT,↓reduceIte,Nat.reduceEqDiff,Nat.reduceLeDiff,Nat.reduceSub,Nat.reduceMul,Int.reduceSub,Int.reduceToNat,Int.reduceBEq,Int.reduceBNe,Int.reduceLT,Int.reduceGT,Int.reduceLE,Int.reduceGE,Int.reduceNeg,Int.reduceAdd,hg]
      unfold minZ
      split
      · congr 1; omega
      · rfl
    simp only [decide_eq_false_iff_not] at hg
    simp only [AH.SD,AH.SE,AOp.call?,AOp.next?,bstep,AV.cells,unAV,binAV,retQ,retV,AH.sliceElems,AH.bytesOf,AH.strOp,AH.bound,AH.missQ,AH.minmaxAV,AH.readOf,AH.effOf,Nat.reduceBEq,Nat.reduceAdd,Nat.reduceLT,↓reduceIte,Nat.reduceEqDiff,Nat.reduceLeDiff,Nat.reduceSub,Nat.reduceMul,Int.reduceSub,Int.reduceToNat,Int.reduceBEq,Int.reduceBNe,Int.reduceLT,Int.reduceGT,Int.reduceLE,Int.reduceGE,Int.reduceNeg,Int.reduceAdd,hg]
    have hrd : rest < d:=by rw [hr]; exact Nat.mod_lt _ hd
    refine loop_do [] [10,9,8,7,6,5,1] [] (α:=Nat × Nat × Nat) (fun x => 10 - x.1) (hu2 d i out rest) (fun x =>x.1 ≤ 10 ∧ x.2.1 * d + x.2.2 = x.1 * rest ∧ x.2.2 < d ∧ x.2.1 ≤ x.1) (0,0,0) ⟨Nat.zero_le _,by simp,hd,Nat.le_refl _⟩ (by simp only [AH.SD,AH.SE,AOp.call?,AOp.next?,bstep,AV.cells,unAV,binAV,retQ,retV,AH.sliceElems,AH.bytesOf,AH.strOp,AH.bound,AH.missQ,AH.minmaxAV,AH.readOf,AH.effOf,Nat.reduceBEq,Nat.reduceAdd,Nat.reduceLT,↓reduceIte,Nat.reduceEqDiff,Nat.reduceLeDiff,Nat.reduceSub,Nat.reduceMul,Int.reduceSub,Int.reduceToNat,Int.reduceBEq,Int.reduceBNe,Int.reduceLT,Int.reduceGT,Int.reduceLE,Int.reduceGE,Int.reduceNeg,Int.reduceAdd,AH.SP,AH.PD,AV.inB,vstep,hu2]) ?_
    rintro Y ⟨k,g,t⟩ ⟨hk,hg2,ht,hgk⟩ ihk
    simp only at hk hg2 ht hgk
    have ws : IntKind.i64.wrap ((d : Int) - (rest : Int)) = ((d - rest : Nat) : Int):=by rw [IntKind.wrap_i64]; omega
    have wk:=wrapS (i:=k) (by omega)
    simp only [AH.SD,AH.SE,AOp.call?,AOp.next?,bstep,AV.cells,unAV,binAV,retQ,retV,AH.sliceElems,AH.bytesOf,AH.strOp,AH.bound,AH.missQ,AH.minmaxAV,AH.readOf,AH.effOf,Nat.reduceBEq,Nat.reduceAdd,Nat.reduceLT,↓reduceIte,Nat.reduceEqDiff,Nat.reduceLeDiff,Nat.reduceSub,Nat.reduceMul,Int.reduceSub,Int.reduceToNat,Int.reduceBEq,Int.reduceBNe,Int.reduceLT,Int.reduceGT,Int.reduceLE,Int.reduceGE,Int.reduceNeg,Int.reduceAdd,hu2]
    refine ⟨fun hlt => ?_,fun hlt => ?_⟩
    · have hk2 : k < 10:=lt_of_dec (n:=10) hlt
      cases hc : decide (t ≥ d - rest)
      · simp only [decide_eq_false_iff_not] at hc
        have w1 : IntKind.i64.wrap ((t : Int) + (rest : Int)) = ((t + rest : Nat) : Int):=by rw [IntKind.wrap_i64]; omega
        have done:=ihk (k + 1,g,t + rest) ⟨by simp only; omega,by simp only; rw [Nat.add_mul]; omega,by simp only; omega,by simp only; omega⟩ (by simp only; omega)
        simp only [hu2] at done
        simp only [AH.SD,AH.SE,AOp.call?,AOp.next?,bstep,AV.cells,unAV,binAV,retQ,retV,AH.sliceElems,AH.bytesOf,AH.strOp,AH.bound,AH.missQ,AH.minmaxAV,AH.readOf,AH.effOf,Nat.reduceBEq,Nat.reduceAdd,Nat.reduceLT,↓reduceIte,Nat.reduceEqDiff,Nat.reduceLeDiff,Nat.reduceSub,Nat.reduceMul,Int.reduceSub,Int.reduceToNat,Int.reduceBEq,Int.reduceBNe,Int.reduceLT,Int.reduceGT,Int.reduceLE,Int.reduceGE,Int.reduceNeg,Int.reduceAdd,ws,geM,hc,w1,wk]
        refine gc_auto [] [10,9,8,7,6,5,1] [] ?_
        simp only [AH.SD,AH.SE,AOp.call?,AOp.next?,bstep,AV.cells,unAV,binAV,retQ,retV,AH.sliceElems,AH.bytesOf,AH.strOp,AH.bound,AH.missQ,AH.minmaxAV,AH.readOf,AH.effOf,Nat.reduceBEq,Nat.reduceAdd,Nat.reduceLT,↓reduceIte,Nat.reduceEqDiff,Nat.reduceLeDiff,Nat.reduceSub,Nat.reduceMul,Int.reduceSub,Int.reduceToNat,Int.reduceBEq,Int.reduceBNe,Int.reduceLT,Int.reduceGT,Int.reduceLE,Int.reduceGE,Int.reduceNeg,Int.reduceAdd,AH.SP,AH.PD,AV.inB,vstep]
        exact done
      · simp only [decide_eq_true_eq] at hc
        have w1 : IntKind.i64.wrap ((t : Int) - ((d - rest : Nat) : Int)) = ((t - (d - rest) : Nat) : Int):=by rw [IntKind.wrap_i64]; omega
        have wg:=wrapS (i:=g) (by omega)
        have done:=ihk (k + 1,g + 1,t - (d - rest)) ⟨by simp only; omega,by simp only; rw [Nat.add_mul,Nat.add_mul]; omega,by simp only; omega,by simp only; omega⟩ (by simp only; omega)
        simp only [hu2] at done
        simp only [AH.SD,AH.SE,AOp.call?,AOp.next?,bstep,AV.cells,unAV,binAV,retQ,retV,AH.sliceElems,AH.bytesOf,AH.strOp,AH.bound,AH.missQ,AH.minmaxAV,AH.readOf,AH.effOf,Nat.reduceBEq,Nat.reduceAdd,Nat.reduceLT,↓reduceIte,Nat.reduceEqDiff,Nat.reduceLeDiff,Nat.reduceSub,Nat.reduceMul,Int.reduceSub,Int.reduceToNat,Int.reduceBEq,Int.reduceBNe,Int.reduceLT,Int.reduceGT,Int.reduceLE,Int.reduceGE,Int.reduceNeg,Int.reduceAdd,ws,geM,hc,w1,wk,wg]
        refine gc_auto [] [10,9,8,7,6,5,1] [] ?_
        simp only [AH.SD,AH.SE,AOp.call?,AOp.next?,bstep,AV.cells,unAV,binAV,retQ,retV,AH.sliceElems,AH.bytesOf,AH.strOp,AH.bound,AH.missQ,AH.minmaxAV,AH.readOf,AH.effOf,Nat.reduceBEq,Nat.reduceAdd,Nat.reduceLT,↓reduceIte,Nat.reduceEqDiff,Nat.reduceLeDiff,Nat.reduceSub,Nat.reduceMul,Int.reduceSub,Int.reduceToNat,Int.reduceBEq,Int.reduceBNe,Int.reduceLT,Int.reduceGT,Int.reduceLE,Int.reduceGE,Int.reduceNeg,Int.reduceAdd,AH.SP,AH.PD,AV.inB,vstep]
        exact done
    · have hk2 : 10 ≤ k:=ge_of_dec (n:=10) hlt
      have hk3 : k = 10:=by omega
      subst hk3
      obtain ⟨q1,q2⟩:=digit_step hd ho hr hg2 ht
      have wi:=wrapS (i:=i) (by omega)
      have wo:=wo_lem (o:=out) (g:=g) (by omega) (by omega)
      have done:=ih (i + 1,out * 10 + g,t) ⟨by simp only; omega,by simp only; rw [q1,pw_succ hi2,Nat.mul_assoc],by simp only; rw [q2,pw_succ hi2,Nat.mul_assoc],by simp only; omega⟩ (by simp only; omega)
      simp only [hu1] at done
      simp only [AH.SD,AH.SE,AOp.call?,AOp.next?,bstep,AV.cells,unAV,binAV,retQ,retV,AH.sliceElems,AH.bytesOf,AH.strOp,AH.bound,AH.missQ,AH.minmaxAV,AH.readOf,AH.effOf,Nat.reduceBEq,Nat.reduceAdd,Nat.reduceLT,↓reduceIte,Nat.reduceEqDiff,Nat.reduceLeDiff,Nat.reduceSub,Nat.reduceMul,Int.reduceSub,Int.reduceToNat,Int.reduceBEq,Int.reduceBNe,Int.reduceLT,Int.reduceGT,Int.reduceLE,Int.reduceGE,Int.reduceNeg,Int.reduceAdd,wo,wi]
      refine gc_auto [] [7,6,5,1] [] ?_
      simp only [AH.SD,AH.SE,AOp.call?,AOp.next?,bstep,AV.cells,unAV,binAV,retQ,retV,AH.sliceElems,AH.bytesOf,AH.strOp,AH.bound,AH.missQ,AH.minmaxAV,AH.readOf,AH.effOf,Nat.reduceBEq,Nat.reduceAdd,Nat.reduceLT,↓reduceIte,Nat.reduceEqDiff,Nat.reduceLeDiff,Nat.reduceSub,Nat.reduceMul,Int.reduceSub,Int.reduceToNat,Int.reduceBEq,Int.reduceBNe,Int.reduceLT,Int.reduceGT,Int.reduceLE,Int.reduceGE,Int.reduceNeg,Int.reduceAdd,AH.SP,AH.PD,AV.inB,vstep]
      exact done
  · have hi2 : 2 ≤ i:=ge_of_dec (n:=2) hlt
    have hi3 : i = 2:=by omega
    subst hi3
    simp only [AH.SD,AH.SE,AOp.call?,AOp.next?,bstep,AV.cells,unAV,binAV,retQ,retV,AH.sliceElems,AH.bytesOf,AH.strOp,AH.bound,AH.missQ,AH.minmaxAV,AH.readOf,AH.effOf,Nat.reduceBEq,Nat.reduceAdd,Nat.reduceLT,↓reduceIte,Nat.reduceEqDiff,Nat.reduceLeDiff,Nat.reduceSub,Nat.reduceMul,Int.reduceSub,Int.reduceToNat,Int.reduceBEq,Int.reduceBNe,Int.reduceLT,Int.reduceGT,Int.reduceLE,Int.reduceGE,Int.reduceNeg,Int.reduceAdd]
    have : out = n * 100 / d:=ho
    rw [← this]
    unfold minZ
    congr 1
    split <;> split <;> omega
def rhunT : RT:=rtP (cSub (cC (aI .i64) (cC (aI .i64) c0)) okTwo) fun x => .int .i64 (hunS ⟨x.1.1,x.1.2.1⟩)
theorem rhunT_ok : ReadF S0 35 rhunT:=rtP_ok (fun ⟨⟨a,b,_⟩,ha⟩ =>rhun_ok ⟨a,b⟩ ha) fun _ =>rfl
end Go.Proofs.YtkbjfhkhbcgkgaaDoor.B33
