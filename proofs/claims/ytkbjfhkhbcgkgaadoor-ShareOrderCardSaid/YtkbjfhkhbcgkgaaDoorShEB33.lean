import Derived.Test.YtkbjfhkhbcgkgaaDoorShDB33
open Go AH
set_option linter.unusedSimpArgs false
set_option maxRecDepth 100000
namespace Go.Proofs.YtkbjfhkhbcgkgaaDoor.B33
def lenT : RT:=rtP (cSub (cC (aI .u64) c0) fun x =>inU x.1) fun x => .int .i64 (len64 x.1.1.toNat)
theorem lenT_ok : ReadF S0 71 lenT:=rtP_ok (fun ⟨⟨x,_⟩,hx⟩ =>by
  obtain ⟨X,rfl⟩:=Int.eq_ofNat_of_zero_le hx.1
  exact len64_ok X (by have:=hx.2; simp only at this; omega)) fun _ =>rfl
theorem lenT_eq (x : Nat) (M : Nat → Option Blk) (hx : x < 18446744073709551616) : lenT [.int .u64 x] M = some (.int .i64 (len64 x),[]) :=
  rtS_eq (a:=((x : Int),())) ⟨by omega,by simp only; omega⟩ rfl
theorem okLen : CtxOK S0 (ctxU S0 [(71,lenT)] []):=ctxU_ok ⟨lenT_ok,trivial⟩ trivial mixed
theorem len64_le {x : Nat} (h1 : x < 18446744073709551616) : len64 x ≤ 64:=by
  rcases Nat.eq_zero_or_pos x with rfl | h0
  · decide
  · have:=(len64_P h0 h1).1
    refine Nat.le_of_not_lt fun h => ?_
    have h2 : 2 ^ 65 ≤ 2 ^ len64 x:=Nat.pow_le_pow_right (by decide) h
    omega
theorem lz_ok (x : Nat) (hx : x < 18446744073709551616) : Pure S0 69 [.int .u64 x] (.int .i64 (64 - (len64 x : Int))):=by
  have:=len64_le hx
  refine fun_sound okLen Tryd.func69 c69 ?_
  unfold wpF F69
  simp only [AH.SD,AH.SE,AOp.call?,AOp.next?,bstep,AV.cells,unAV,binAV,retQ,retV,AH.sliceElems,AH.bytesOf,AH.strOp,AH.bound,AH.missQ,AH.minmaxAV,AH.readOf,AH.effOf,Nat.reduceBEq,Nat.reduceAdd,Nat.reduceLT,↓reduceIte,Nat.reduceEqDiff,Nat.reduceLeDiff,Nat.reduceSub,Nat.reduceMul,Int.reduceSub,Int.reduceToNat,Int.reduceBEq,Int.reduceBNe,Int.reduceLT,Int.reduceGT,Int.reduceLE,Int.reduceGE,Int.reduceNeg,Int.reduceAdd,lenT_eq _ _ hx]
  rw [IntKind.wrap_i64]
  congr 1; omega
def lzT : RT:=rtP (cSub (cC (aI .u64) c0) fun x =>inU x.1) fun x => .int .i64 (64 - (len64 x.1.1.toNat : Int))
theorem lzT_ok : ReadF S0 69 lzT:=rtP_ok (fun ⟨⟨x,_⟩,hx⟩ =>by
  obtain ⟨X,rfl⟩:=Int.eq_ofNat_of_zero_le hx.1
  exact lz_ok X (by have:=hx.2; simp only at this; omega)) fun _ =>rfl
theorem lzT_eq (x : Nat) (M : Nat → Option Blk) (hx : x < 18446744073709551616) : lzT [.int .u64 x] M = some (.int .i64 (64 - (len64 x : Int)),[]) :=
  rtS_eq (a:=((x : Int),())) ⟨by omega,by simp only; omega⟩ rfl
theorem okDiv : CtxOK S0 (ctxU S0 [(69,lzT)] []):=ctxU_ok ⟨lzT_ok,trivial⟩ trivial mixed
theorem lz_norm {y : Nat} (h0 : 0 < y) (h1 : y < 18446744073709551616) : ∃ s : Nat,s ≤ 63 ∧ (64 - (len64 y : Int)) = (s : Int) ∧ 9223372036854775808 ≤ y * 2 ^ s ∧ y * 2 ^ s < 18446744073709551616:=by
  have hl:=len64_le h1
  obtain ⟨p1,p2⟩:=len64_P h0 h1
  have hp : 0 < len64 y:=by
    rcases Nat.eq_zero_or_pos (len64 y) with h | h
    · rw [h] at p2; simp at p2; omega
    · exact h
  refine ⟨64 - len64 y,by omega,by omega,?_,?_⟩
  · have e : 2 ^ len64 y * 2 ^ (64 - len64 y) = 2 ^ 64:=by rw [← Nat.pow_add]; congr 1; omega
    have:=Nat.mul_le_mul_right (2 ^ (64 - len64 y)) p1
    rw [e,Nat.mul_assoc] at this
    omega
  · have e : 2 ^ len64 y * 2 ^ (64 - len64 y) = 2 ^ 64:=by rw [← Nat.pow_add]; congr 1; omega
    have:=Nat.mul_lt_mul_of_pos_right p2 (Nat.two_pow_pos (64 - len64 y))
    rw [e] at this
    omega
theorem pow_min {s : Nat} (h : s ≤ 64) : ((2 : Int) ^ min s IntKind.u64.bits) = ((2 ^ s : Nat) : Int):=by
  rw [show IntKind.u64.bits = 64 from rfl,Nat.min_eq_left h]; exact (Int.natCast_pow 2 s).symm
theorem shlN {X s : Nat} (h : s ≤ 64) (hb : X * 2 ^ s < 18446744073709551616) : IntKind.u64.wrap ((X : Int) * 2 ^ min s IntKind.u64.bits) = ((X * 2 ^ s : Nat) : Int):=by
  rw [pow_min h,mulN,wrapN _ hb]
theorem shlM {X s : Nat} (h : s ≤ 64) : IntKind.u64.wrap ((X : Int) * 2 ^ min s IntKind.u64.bits) = ((X * 2 ^ s % 18446744073709551616 : Nat) : Int):=by
  rw [pow_min h,mulN,wrapM]
theorem shrS {X s : Nat} (h : s ≤ 64) : (X : Int).fdiv (2 ^ min s IntKind.u64.bits) = ((X / 2 ^ s : Nat) : Int):=by
  rw [pow_min h,Int.fdiv_eq_ediv_of_nonneg _ (Int.natCast_nonneg _)]; exact (Int.natCast_ediv X (2 ^ s)).symm
theorem or64 {a b s : Nat} (hb : b < 2 ^ s) (h : a * 2 ^ s + b < 18446744073709551616) : IntKind.u64.wrap ((BitVec.ofInt IntKind.u64.bits ((a * 2 ^ s : Nat) : Int) ||| BitVec.ofInt IntKind.u64.bits (b : Int)).toNat : Int) = ((a * 2 ^ s + b : Nat) : Int):=by
  have t : ∀ X : Nat,X < 18446744073709551616 → (BitVec.ofInt IntKind.u64.bits (X : Int)).toNat = X:=fun X hX =>by
    show (BitVec.ofInt 64 (X : Int)).toNat = X
    rw [BitVec.toNat_ofInt]; omega
  have e : (BitVec.ofInt IntKind.u64.bits ((a * 2 ^ s : Nat) : Int) ||| BitVec.ofInt IntKind.u64.bits (b : Int)).toNat = a * 2 ^ s + b:=by
    rw [BitVec.toNat_or,t _ (by omega),t _ (by omega)]
    have:=Nat.shiftLeft_add_eq_or_of_lt hb a
    rw [Nat.shiftLeft_eq] at this
    exact this.symm
  rw [e,wrapN _ h]
structure Kn (y1 y0 u v q r : Nat) : Prop where
  h1 : 2147483648 ≤ y1
  h2 : y1 < 4294967296
  h3 : y0 < 4294967296
  h4 : u < y1 * 4294967296 + y0
  h5 : v < 4294967296
  h6 : u = q * y1 + r
  h7 : (u * 4294967296 + v) / (y1 * 4294967296 + y0) ≤ q
  h8 : q ≤ 4294967297
  h9 : r < 4294967296
variable {y1 y0 u v q r : Nat}
theorem kn_mul (q : Nat) : q * (y1 * 4294967296 + y0) = q * y1 * 4294967296 + q * y0:=by rw [Nat.mul_add,Nat.mul_assoc]
theorem Kn.start (h1 : 2147483648 ≤ y1) (h2 : y1 < 4294967296) (h3 : y0 < 4294967296) (h4 : u < y1 * 4294967296 + y0) (h5 : v < 4294967296) : Kn y1 y0 u v (u / y1) (u % y1):=by
  have hm:=Nat.mod_lt u (show 0 < y1 by omega)
  have hd:=Nat.div_add_mod u y1
  rw [Nat.mul_comm] at hd
  refine ⟨h1,h2,h3,h4,h5,hd.symm,?_,?_,by omega⟩
  · generalize hq : (u * 4294967296 + v) / (y1 * 4294967296 + y0) = qt
    have e:=Nat.div_mul_le_self (u * 4294967296 + v) (y1 * 4294967296 + y0)
    rw [hq,kn_mul] at e
    refine (Nat.le_div_iff_mul_le (by omega)).2 ?_
    omega
  · refine Nat.le_of_not_lt fun hh => ?_
    have:=Nat.mul_le_mul_right y1 (show 4294967298 ≤ u / y1 from hh)
    omega
theorem Kn.lt_W (h : Kn y1 y0 u v q r) : (u * 4294967296 + v) / (y1 * 4294967296 + y0) < 4294967296:=by
  have h1:=h.h1
  have key : ∀ y,u < y → v < 4294967296 → u * 4294967296 + v < 4294967296 * y:=fun y h h' =>by omega
  exact (Nat.div_lt_iff_lt_mul (by omega)).2 (key _ h.h4 h.h5)
theorem Kn.down (h : Kn y1 y0 u v q r) (hc : 4294967296 ≤ q ∨ 4294967296 * r + v < q * y0) : 1 ≤ q ∧ u = (q - 1) * y1 + (r + y1) ∧ (u * 4294967296 + v) / (y1 * 4294967296 + y0) ≤ q - 1 ∧ q - 1 ≤ 4294967296 ∧ (4294967296 ≤ r + y1 → q - 1 = (u * 4294967296 + v) / (y1 * 4294967296 + y0)) ∧ (r + y1 < 4294967296 → Kn y1 y0 u v (q - 1) (r + y1)):=by
  have a1:=h.h1; have a2:=h.h2; have a3:=h.h3; have a4:=h.h4; have a5:=h.h5; have a6:=h.h6; have a7:=h.h7; have a8:=h.h8; have a9:=h.h9
  have hW:=h.lt_W
  clear h
  have lt : (u * 4294967296 + v) / (y1 * 4294967296 + y0) < q:=by
    rcases hc with hc | hc
    · exact Nat.lt_of_lt_of_le hW hc
    · refine (Nat.div_lt_iff_lt_mul (by omega)).2 ?_
      rw [kn_mul]
      generalize q * y1 = A at *
      generalize q * y0 = B at *
      omega
  have q1 : 1 ≤ q:=Nat.lt_of_le_of_lt (Nat.zero_le _) lt
  have eq1 : q * y1 = (q - 1) * y1 + y1:=by
    have : q = (q - 1) + 1:=by omega
    rw [this,Nat.add_mul,Nat.one_mul,Nat.add_sub_cancel]
  refine ⟨q1,by omega,by omega,by omega,fun hh => ?_,fun hh =>⟨a1,a2,a3,a4,a5,by omega,by omega,by omega,hh⟩⟩
  have : q - 1 ≤ (u * 4294967296 + v) / (y1 * 4294967296 + y0):=by
    refine (Nat.le_div_iff_mul_le (by omega)).2 ?_
    rw [kn_mul]
    have b:=Nat.mul_le_mul (show q - 1 ≤ 4294967296 by omega) (show y0 ≤ 4294967295 by omega)
    generalize (q - 1) * y1 = A at *
    generalize (q - 1) * y0 = B at *
    omega
  omega
theorem Kn.done (h : Kn y1 y0 u v q r) (hc : q * y0 ≤ 4294967296 * r + v) : q = (u * 4294967296 + v) / (y1 * 4294967296 + y0):=by
  have a6:=h.h6; have a7:=h.h7; have a1:=h.h1
  have : q ≤ (u * 4294967296 + v) / (y1 * 4294967296 + y0):=by
    refine (Nat.le_div_iff_mul_le (by omega)).2 ?_
    rw [kn_mul]
    generalize q * y1 = A at *
    generalize q * y0 = B at *
    omega
  omega
theorem two_lin {U u1 u0 A B R R2 : Nat} (h : U * 4294967296 + u1 = A + R) (h' : R * 4294967296 + u0 = B + R2) : U * 18446744073709551616 + (u1 * 4294967296 + u0) = A * 4294967296 + B + R2:=by
  have e1 : U * 18446744073709551616 = U * 4294967296 * 4294967296:=by rw [Nat.mul_assoc]
  rw [e1,← Nat.add_assoc,← Nat.add_mul,h,Nat.add_mul,Nat.add_assoc,h',Nat.add_assoc]
theorem two_digits {hi lo y s Y U L u1 u0 q1 R q0 R2 : Nat} (hY : Y = y * 2 ^ s) (hN : (hi * 18446744073709551616 + lo) * 2 ^ s = U * 18446744073709551616 + L) (hL : L = u1 * 4294967296 + u0)
    (hR : U * 4294967296 + u1 = q1 * Y + R) (hR2 : R * 4294967296 + u0 = q0 * Y + R2) (hlt : R2 < Y) :
    (hi * 18446744073709551616 + lo) / y = q1 * 4294967296 + q0 ∧ (hi * 18446744073709551616 + lo) % y = R2 / 2 ^ s:=by
  have p:=Nat.two_pow_pos s
  have e : (hi * 18446744073709551616 + lo) * 2 ^ s = Y * (q1 * 4294967296 + q0) + R2:=by
    rw [hN,hL,two_lin hR hR2,Nat.mul_add,← Nat.mul_assoc,Nat.mul_comm Y q1,Nat.mul_comm Y q0]
  have d1 : (hi * 18446744073709551616 + lo) * 2 ^ s / (y * 2 ^ s) = q1 * 4294967296 + q0:=by
    rw [e,← hY,Nat.mul_add_div (by omega),Nat.div_eq_of_lt hlt,Nat.add_zero]
  have d2 : (hi * 18446744073709551616 + lo) * 2 ^ s % (y * 2 ^ s) = R2:=by
    rw [e,← hY,Nat.mul_add_mod,Nat.mod_eq_of_lt hlt]
  rw [Nat.mul_div_mul_right _ _ p] at d1
  rw [Nat.mul_mod_mul_right] at d2
  exact ⟨d1,by rw [← d2,Nat.mul_div_cancel _ p]⟩
theorem geW (x : Nat) : decide ((x : Int) ≥ 4294967296) = decide (x ≥ 4294967296):=ge32 x
theorem gtN (x y : Nat) : decide ((x : Int) > (y : Int)) = decide (x > y):=by rw [Bool.eq_iff_iff]; simp only [decide_eq_true_eq]; omega
def dv1 (Y y1 y0 U u1 u0 s : Nat) (x : Nat × Nat) : St:=⟨[(16,.int .u64 x.2),(15,.int .u64 x.1),(14,.int .u64 u0),(13,.int .u64 u1),(11,.int .u64 U),(10,.int .u64 y0),(9,.int .u64 y1),(8,.int .u64 s),(2,.int .u64 Y)],[]⟩
def dv2 (Y y1 y0 q1 R u0 s : Nat) (x : Nat × Nat) : St:=⟨[(18,.int .u64 x.1),(17,.int .u64 R),(16,.int .u64 x.2),(15,.int .u64 q1),(14,.int .u64 u0),(10,.int .u64 y0),(9,.int .u64 y1),(8,.int .u64 s),(2,.int .u64 Y)],[]⟩
theorem wq {a b : Nat} : IntKind.u64.wrap ((a / b : Nat) : Int) = ((a / b % 18446744073709551616 : Nat) : Int):=wrapM _
set_option maxHeartbeats 8000000 in
theorem div64_ok (hi lo y : Nat) (h1 : hi < y) (h2 : y < 18446744073709551616) (h3 : lo < 18446744073709551616) :
    Pure S0 59 [.int .u64 hi,.int .u64 lo,.int .u64 y] (.tup [.int .u64 (((hi * 18446744073709551616 + lo) / y : Nat) : Int),.int .u64 (((hi * 18446744073709551616 + lo) % y : Nat) : Int)]):=by
  have y0 : ((y : Int) == 0) = false:=by simp; omega
  have yh : decide ((y : Int) ≤ (hi : Int)) = false:=by simp; omega
  refine fun_sound okDiv Tryd.func59 c59 ?_
  unfold wpF F59
  simp only [AH.SD,AH.SE,AOp.call?,AOp.next?,bstep,AV.cells,unAV,binAV,retQ,retV,AH.sliceElems,AH.bytesOf,AH.strOp,AH.bound,AH.missQ,AH.minmaxAV,AH.readOf,AH.effOf,Nat.reduceBEq,Nat.reduceAdd,Nat.reduceLT,↓reduceIte,Nat.reduceEqDiff,Nat.reduceLeDiff,Nat.reduceSub,Nat.reduceMul,Int.reduceSub,Int.reduceToNat,Int.reduceBEq,Int.reduceBNe,Int.reduceLT,Int.reduceGT,Int.reduceLE,Int.reduceGE,Int.reduceNeg,Int.reduceAdd,y0,yh]
  cases hh : ((hi : Int) == 0)
  rotate_left
  · have hz : hi = 0:=by simpa using hh
    subst hz
    have hyn : (y : Int) ≠ 0:=by omega
    have hq : lo / y ≤ lo:=Nat.div_le_self _ _
    simp only [AH.SD,AH.SE,AOp.call?,AOp.next?,bstep,AV.cells,unAV,binAV,retQ,retV,AH.sliceElems,AH.bytesOf,AH.strOp,AH.bound,AH.missQ,AH.minmaxAV,AH.readOf,AH.effOf,Nat.reduceBEq,Nat.reduceAdd,Nat.reduceLT,↓reduceIte,Nat.reduceEqDiff,Nat.reduceLeDiff,Nat.reduceSub,Nat.reduceMul,Int.reduceSub,Int.reduceToNat,Int.reduceBEq,Int.reduceBNe,Int.reduceLT,Int.reduceGT,Int.reduceLE,Int.reduceGE,Int.reduceNeg,Int.reduceAdd,tdivN,tmodN,wrapN (lo / y) (by omega),Nat.zero_mul,Nat.zero_add]
    repeat (refine ⟨by first | rfl | decide | omega | (simp only [List.length_map,List.length_set,and_true]; omega),?_⟩)
    try trivial
  obtain ⟨s,hs,es,hY1,hY2⟩:=lz_norm (show 0 < y by omega) h2
  have ws : IntKind.u64.wrap (s : Int) = (s : Int):=wrapN s (by omega)
  have ws2 : IntKind.u64.wrap (64 - (s : Int)) = ((64 - s : Nat) : Int):=by rw [IntKind.wrap_u64]; omega
  have hpow : 2 ^ s * 2 ^ (64 - s) = 18446744073709551616:=by rw [← Nat.pow_add,show s + (64 - s) = 64 by omega]
  have pp:=Nat.two_pow_pos s
  have pq:=Nat.two_pow_pos (64 - s)
  have hLs : lo / 2 ^ (64 - s) < 2 ^ s:=(Nat.div_lt_iff_lt_mul pq).2 (by rw [hpow]; exact h3)
  have hU : hi * 2 ^ s + lo / 2 ^ (64 - s) < y * 2 ^ s:=by
    have:=Nat.mul_le_mul_right (2 ^ s) (show hi + 1 ≤ y from h1)
    rw [Nat.add_mul,Nat.one_mul] at this
    omega
  have hU2:=Nat.lt_trans hU hY2
  have hU1 : hi * 2 ^ s < 18446744073709551616:=Nat.lt_of_le_of_lt (Nat.le_add_right _ _) hU2
  have hN : (hi * 18446744073709551616 + lo) * 2 ^ s = (hi * 2 ^ s + lo / 2 ^ (64 - s)) * 18446744073709551616 + lo * 2 ^ s % 18446744073709551616:=by
    have e1 : lo * 2 ^ s / 18446744073709551616 = lo / 2 ^ (64 - s):=by
      rw [← hpow,Nat.mul_comm lo,Nat.mul_div_mul_left _ _ pp]
    have e2:=Nat.div_add_mod (lo * 2 ^ s) 18446744073709551616
    rw [e1] at e2
    have e3 : hi * 18446744073709551616 * 2 ^ s = hi * 2 ^ s * 18446744073709551616:=Nat.mul_right_comm ..
    rw [Nat.add_mul,Nat.add_mul,e3]
    omega
  simp only [AH.SD,AH.SE,AOp.call?,AOp.next?,bstep,AV.cells,unAV,binAV,retQ,retV,AH.sliceElems,AH.bytesOf,AH.strOp,AH.bound,AH.missQ,AH.minmaxAV,AH.readOf,AH.effOf,Nat.reduceBEq,Nat.reduceAdd,Nat.reduceLT,↓reduceIte,Nat.reduceEqDiff,Nat.reduceLeDiff,Nat.reduceSub,Nat.reduceMul,Int.reduceSub,Int.reduceToNat,Int.reduceBEq,Int.reduceBNe,Int.reduceLT,Int.reduceGT,Int.reduceLE,Int.reduceGE,Int.reduceNeg,Int.reduceAdd,hh,lzT_eq _ _ h2,es,ws,ws2,Int.toNat_natCast,shlN (X:=y) (show s ≤ 64 by omega) hY2,shlN (X:=hi) (s:=s) (show s ≤ 64 by omega) hU1,shlM (X:=lo) (s:=s) (show s ≤ 64 by omega),shrS (X:=lo) (s:=64 - s) (by omega),or64 (a:=hi) hLs hU2,shr32,mask32 _ hY2]
  have hL2 : lo * 2 ^ s % 18446744073709551616 < 18446744073709551616:=Nat.mod_lt _ (by decide)
  simp only [AH.SD,AH.SE,AOp.call?,AOp.next?,bstep,AV.cells,unAV,binAV,retQ,retV,AH.sliceElems,AH.bytesOf,AH.strOp,AH.bound,AH.missQ,AH.minmaxAV,AH.readOf,AH.effOf,Nat.reduceBEq,Nat.reduceAdd,Nat.reduceLT,↓reduceIte,Nat.reduceEqDiff,Nat.reduceLeDiff,Nat.reduceSub,Nat.reduceMul,Int.reduceSub,Int.reduceToNat,Int.reduceBEq,Int.reduceBNe,Int.reduceLT,Int.reduceGT,Int.reduceLE,Int.reduceGE,Int.reduceNeg,Int.reduceAdd,mask32 _ hL2]
  generalize hY : y * 2 ^ s = Y at *
  generalize hUe : hi * 2 ^ s + lo / 2 ^ (64 - s) = U at *
  generalize hLe : lo * 2 ^ s % 18446744073709551616 = L at *
  obtain ⟨y1,ey1⟩ : ∃ y1,Y / 4294967296 = y1:=⟨_,rfl⟩
  obtain ⟨yl,eyl⟩ : ∃ y1,Y % 4294967296 = y1:=⟨_,rfl⟩
  obtain ⟨u1,eu1⟩ : ∃ y1,L / 4294967296 = y1:=⟨_,rfl⟩
  obtain ⟨u0,eu0⟩ : ∃ y1,L % 4294967296 = y1:=⟨_,rfl⟩
  rw [ey1,eyl,eu1,eu0]
  have kY : y1 * 4294967296 + yl = Y:=by omega
  have kL : L = u1 * 4294967296 + u0:=by omega
  have b1 : 2147483648 ≤ y1:=by omega
  have b2 : y1 < 4294967296:=by omega
  have b3 : yl < 4294967296:=by omega
  have b4 : u1 < 4294967296:=by omega
  have b5 : u0 < 4294967296:=by omega
  have fin0:=fun (q1 R q0 R2 : Nat) =>two_digits (q1:=q1) (R:=R) (q0:=q0) (R2:=R2) hY.symm hN kL
  clear hN
  have st:=Kn.start (v:=u1) b1 b2 b3 (by rw [kY]; exact hU) b4
  have y1n : (y1 : Int) ≠ 0:=by omega
  have k8:=st.h8
  have k6:=st.h6
  have m1 : U / y1 * y1 ≤ U:=Nat.div_mul_le_self U y1
  have wm : IntKind.u64.wrap (((U / y1 * y1 : Nat)) : Int) = ((U / y1 * y1 : Nat) : Int):=wrapN _ (by omega)
  have wr : IntKind.u64.wrap ((U : Int) - ((U / y1 * y1 : Nat) : Int)) = ((U % y1 : Nat) : Int):=by rw [IntKind.wrap_u64]; omega
  simp only [AH.SD,AH.SE,AOp.call?,AOp.next?,bstep,AV.cells,unAV,binAV,retQ,retV,AH.sliceElems,AH.bytesOf,AH.strOp,AH.bound,AH.missQ,AH.minmaxAV,AH.readOf,AH.effOf,Nat.reduceBEq,Nat.reduceAdd,Nat.reduceLT,↓reduceIte,Nat.reduceEqDiff,Nat.reduceLeDiff,Nat.reduceSub,Nat.reduceMul,Int.reduceSub,Int.reduceToNat,Int.reduceBEq,Int.reduceBNe,Int.reduceLT,Int.reduceGT,Int.reduceLE,Int.reduceGE,Int.reduceNeg,Int.reduceAdd,tdivN,wrapN (U / y1) (by omega),mulN,wm,wr]
  repeat (refine ⟨by first | rfl | decide | omega | (simp only [List.length_map,List.length_set,and_true]; omega),?_⟩)
  refine loop_do [] [16,15,14,13,11,10,9,8,2] [] (α:=Nat × Nat) (fun x =>x.1) (dv1 Y y1 yl U u1 u0 s) (fun x =>Kn y1 yl U u1 x.1 x.2) (U / y1,U % y1) st (by simp only [AH.SD,AH.SE,AOp.call?,AOp.next?,bstep,AV.cells,unAV,binAV,retQ,retV,AH.sliceElems,AH.bytesOf,AH.strOp,AH.bound,AH.missQ,AH.minmaxAV,AH.readOf,AH.effOf,Nat.reduceBEq,Nat.reduceAdd,Nat.reduceLT,↓reduceIte,Nat.reduceEqDiff,Nat.reduceLeDiff,Nat.reduceSub,Nat.reduceMul,Int.reduceSub,Int.reduceToNat,Int.reduceBEq,Int.reduceBNe,Int.reduceLT,Int.reduceGT,Int.reduceLE,Int.reduceGE,Int.reduceNeg,Int.reduceAdd,AH.SP,AH.PD,AV.inB,vstep,dv1]) ?_
  rintro X ⟨q,rh⟩ hk ih
  simp only at hk
  have k1:=hk.h8
  have k2:=hk.h9
  have wc : IntKind.u64.wrap (IntKind.u64.wrap (4294967296 * (rh : Int)) + (u1 : Int)) = ((4294967296 * rh + u1 : Nat) : Int):=by rw [IntKind.wrap_u64,IntKind.wrap_u64]; omega
  simp only [AH.SD,AH.SE,AOp.call?,AOp.next?,bstep,AV.cells,unAV,binAV,retQ,retV,AH.sliceElems,AH.bytesOf,AH.strOp,AH.bound,AH.missQ,AH.minmaxAV,AH.readOf,AH.effOf,Nat.reduceBEq,Nat.reduceAdd,Nat.reduceLT,↓reduceIte,Nat.reduceEqDiff,Nat.reduceLeDiff,Nat.reduceSub,Nat.reduceMul,Int.reduceSub,Int.reduceToNat,Int.reduceBEq,Int.reduceBNe,Int.reduceLT,Int.reduceGT,Int.reduceLE,Int.reduceGE,Int.reduceNeg,Int.reduceAdd,dv1,geW]
  obtain ⟨qt,eqt⟩ : ∃ x,x = (U * 4294967296 + u1) / Y:=⟨_,rfl⟩
  obtain ⟨R,eR⟩ : ∃ x,x = (U * 4294967296 + u1) % Y:=⟨_,rfl⟩
  obtain ⟨qz,eqz⟩ : ∃ x,x = (R * 4294967296 + u0) / Y:=⟨_,rfl⟩
  obtain ⟨R2,eR2⟩ : ∃ x,x = (R * 4294967296 + u0) % Y:=⟨_,rfl⟩
  have hRe : U * 4294967296 + u1 = qt * Y + R:=by
    have:=Nat.div_add_mod (U * 4294967296 + u1) Y
    rw [Nat.mul_comm,← eqt,← eR] at this; exact this.symm
  have hRlt : R < Y:=by rw [eR]; exact Nat.mod_lt _ (by omega)
  have hR2e : R * 4294967296 + u0 = qz * Y + R2:=by
    have:=Nat.div_add_mod (R * 4294967296 + u0) Y
    rw [Nat.mul_comm,← eqz,← eR2] at this; exact this.symm
  have hR2lt : R2 < Y:=by rw [eR2]; exact Nat.mod_lt _ (by omega)
  have fin:=fin0 qt R qz R2 hRe hR2e hR2lt
  have hqtW : qt < 4294967296:=by have:=st.lt_W; rw [kY] at this; omega
  have st2:=Kn.start (v:=u0) b1 b2 b3 (by rw [kY]; exact hRlt) b5
  have hqzW : qz < 4294967296:=by have:=st2.lt_W; rw [kY] at this; omega
  have m2 : R / y1 * y1 ≤ R:=Nat.div_mul_le_self R y1
  have l6:=st2.h6
  have l8:=st2.h8
  have wm2 : IntKind.u64.wrap (((R / y1 * y1 : Nat)) : Int) = ((R / y1 * y1 : Nat) : Int):=wrapN _ (by omega)
  have wr2 : IntKind.u64.wrap ((R : Int) - ((R / y1 * y1 : Nat) : Int)) = ((R % y1 : Nat) : Int):=by rw [IntKind.wrap_u64]; omega
  cases hq : decide (q ≥ 4294967296)
  · simp only [decide_eq_false_iff_not] at hq
    have wp : IntKind.u64.wrap ((q * yl : Nat) : Int) = ((q * yl : Nat) : Int):=wrapN _ (by have:=Nat.mul_le_mul (show q ≤ 4294967295 by omega) (show yl ≤ 4294967295 by omega); omega)
    cases hc : decide (q * yl > 4294967296 * rh + u1)
    · simp only [decide_eq_false_iff_not] at hc
      have hqt : q = qt:=by have:=hk.done (by omega); rw [kY] at this; omega
      simp only [AH.SD,AH.SE,AOp.call?,AOp.next?,bstep,AV.cells,unAV,binAV,retQ,retV,AH.sliceElems,AH.bytesOf,AH.strOp,AH.bound,AH.missQ,AH.minmaxAV,AH.readOf,AH.effOf,Nat.reduceBEq,Nat.reduceAdd,Nat.reduceLT,↓reduceIte,Nat.reduceEqDiff,Nat.reduceLeDiff,Nat.reduceSub,Nat.reduceMul,Int.reduceSub,Int.reduceToNat,Int.reduceBEq,Int.reduceBNe,Int.reduceLT,Int.reduceGT,Int.reduceLE,Int.reduceGE,Int.reduceNeg,Int.reduceAdd,hq,mulN,wp,wc,gtN,hc]
      rw [hqt]
      have w1 : IntKind.u64.wrap (IntKind.u64.wrap (IntKind.u64.wrap ((U : Int) * 4294967296) + (u1 : Int)) - IntKind.u64.wrap ((qt * Y : Nat) : Int)) = ((R : Nat) : Int):=by
        rw [IntKind.wrap_u64,IntKind.wrap_u64,IntKind.wrap_u64,IntKind.wrap_u64]
        omega
      simp only [AH.SD,AH.SE,AOp.call?,AOp.next?,bstep,AV.cells,unAV,binAV,retQ,retV,AH.sliceElems,AH.bytesOf,AH.strOp,AH.bound,AH.missQ,AH.minmaxAV,AH.readOf,AH.effOf,Nat.reduceBEq,Nat.reduceAdd,Nat.reduceLT,↓reduceIte,Nat.reduceEqDiff,Nat.reduceLeDiff,Nat.reduceSub,Nat.reduceMul,Int.reduceSub,Int.reduceToNat,Int.reduceBEq,Int.reduceBNe,Int.reduceLT,Int.reduceGT,Int.reduceLE,Int.reduceGE,Int.reduceNeg,Int.reduceAdd,mulN,w1,tdivN,wrapN (R / y1) (by omega),wm2,wr2]
      repeat (refine ⟨by first | rfl | decide | omega | (simp only [List.length_map,List.length_set,and_true]; omega),?_⟩)
      refine loop_do [] [18,17,16,15,14,10,9,8,2] [] (α:=Nat × Nat) (fun x =>x.1) (dv2 Y y1 yl qt R u0 s) (fun x =>Kn y1 yl R u0 x.1 x.2) (R / y1,R % y1) st2 (by simp only [AH.SD,AH.SE,AOp.call?,AOp.next?,bstep,AV.cells,unAV,binAV,retQ,retV,AH.sliceElems,AH.bytesOf,AH.strOp,AH.bound,AH.missQ,AH.minmaxAV,AH.readOf,AH.effOf,Nat.reduceBEq,Nat.reduceAdd,Nat.reduceLT,↓reduceIte,Nat.reduceEqDiff,Nat.reduceLeDiff,Nat.reduceSub,Nat.reduceMul,Int.reduceSub,Int.reduceToNat,Int.reduceBEq,Int.reduceBNe,Int.reduceLT,Int.reduceGT,Int.reduceLE,Int.reduceGE,Int.reduceNeg,Int.reduceAdd,AH.SP,AH.PD,AV.inB,vstep,dv2]) ?_
      rintro X2 ⟨q2,rh2⟩ hk2 ih2
      simp only at hk2
      have j1:=hk2.h8
      have j2:=hk2.h9
      have wc2 : IntKind.u64.wrap (IntKind.u64.wrap (4294967296 * (rh2 : Int)) + (u0 : Int)) = ((4294967296 * rh2 + u0 : Nat) : Int):=by rw [IntKind.wrap_u64,IntKind.wrap_u64]; omega
      simp only [AH.SD,AH.SE,AOp.call?,AOp.next?,bstep,AV.cells,unAV,binAV,retQ,retV,AH.sliceElems,AH.bytesOf,AH.strOp,AH.bound,AH.missQ,AH.minmaxAV,AH.readOf,AH.effOf,Nat.reduceBEq,Nat.reduceAdd,Nat.reduceLT,↓reduceIte,Nat.reduceEqDiff,Nat.reduceLeDiff,Nat.reduceSub,Nat.reduceMul,Int.reduceSub,Int.reduceToNat,Int.reduceBEq,Int.reduceBNe,Int.reduceLT,Int.reduceGT,Int.reduceLE,Int.reduceGE,Int.reduceNeg,Int.reduceAdd,dv2,geW]
      cases hq2 : decide (q2 ≥ 4294967296)
      · simp only [decide_eq_false_iff_not] at hq2
        have wp2 : IntKind.u64.wrap ((q2 * yl : Nat) : Int) = ((q2 * yl : Nat) : Int):=wrapN _ (by have:=Nat.mul_le_mul (show q2 ≤ 4294967295 by omega) (show yl ≤ 4294967295 by omega); omega)
        cases hc2 : decide (q2 * yl > 4294967296 * rh2 + u0)
        · simp only [decide_eq_false_iff_not] at hc2
          have hq0 : q2 = qz:=by have:=hk2.done (by omega); rw [kY] at this; omega
          simp only [AH.SD,AH.SE,AOp.call?,AOp.next?,bstep,AV.cells,unAV,binAV,retQ,retV,AH.sliceElems,AH.bytesOf,AH.strOp,AH.bound,AH.missQ,AH.minmaxAV,AH.readOf,AH.effOf,Nat.reduceBEq,Nat.reduceAdd,Nat.reduceLT,↓reduceIte,Nat.reduceEqDiff,Nat.reduceLeDiff,Nat.reduceSub,Nat.reduceMul,Int.reduceSub,Int.reduceToNat,Int.reduceBEq,Int.reduceBNe,Int.reduceLT,Int.reduceGT,Int.reduceLE,Int.reduceGE,Int.reduceNeg,Int.reduceAdd,hq2,mulN,wp2,wc2,gtN,hc2]
          have w3 : IntKind.u64.wrap (IntKind.u64.wrap (IntKind.u64.wrap ((R : Int) * 4294967296) + (u0 : Int)) - IntKind.u64.wrap ((q2 * Y : Nat) : Int)) = ((R2 : Nat) : Int):=by
            rw [hq0]
            rw [IntKind.wrap_u64,IntKind.wrap_u64,IntKind.wrap_u64,IntKind.wrap_u64]
            omega
          have w4 : IntKind.u64.wrap (IntKind.u64.wrap ((qt : Int) * 4294967296) + ((q2 : Nat) : Int)) = ((qt * 4294967296 + q2 : Nat) : Int):=by
            rw [hq0]
            rw [IntKind.wrap_u64,IntKind.wrap_u64]
            omega
          simp only [AH.SD,AH.SE,AOp.call?,AOp.next?,bstep,AV.cells,unAV,binAV,retQ,retV,AH.sliceElems,AH.bytesOf,AH.strOp,AH.bound,AH.missQ,AH.minmaxAV,AH.readOf,AH.effOf,Nat.reduceBEq,Nat.reduceAdd,Nat.reduceLT,↓reduceIte,Nat.reduceEqDiff,Nat.reduceLeDiff,Nat.reduceSub,Nat.reduceMul,Int.reduceSub,Int.reduceToNat,Int.reduceBEq,Int.reduceBNe,Int.reduceLT,Int.reduceGT,Int.reduceLE,Int.reduceGE,Int.reduceNeg,Int.reduceAdd,mulN,w3,w4,shrS (X:=R2) (s:=s) (by omega)]
          repeat (refine ⟨by first | rfl | decide | omega | (simp only [List.length_map,List.length_set,and_true]; omega),?_⟩)
          rw [fin.1,fin.2,hq0]
        · simp only [decide_eq_true_eq] at hc2
          have hd2:=hk2.down (.inr (by omega))
          rw [kY] at hd2
          obtain ⟨d1,d2,d3,d4,d5,d6⟩:=hd2
          have wa2 : IntKind.u64.wrap ((q2 : Int) - 1) = ((q2 - 1 : Nat) : Int):=by rw [IntKind.wrap_u64]; omega
          have wb2 : IntKind.u64.wrap (((rh2 + y1 : Nat)) : Int) = ((rh2 + y1 : Nat) : Int):=wrapN _ (by omega)
          cases hg2 : decide (rh2 + y1 ≥ 4294967296)
          · simp only [decide_eq_false_iff_not] at hg2
            have done2:=ih2 (q2 - 1,rh2 + y1) (d6 (by omega)) (by simp only; omega)
            simp only [dv2] at done2
            simp only [AH.SD,AH.SE,AOp.call?,AOp.next?,bstep,AV.cells,unAV,binAV,retQ,retV,AH.sliceElems,AH.bytesOf,AH.strOp,AH.bound,AH.missQ,AH.minmaxAV,AH.readOf,AH.effOf,Nat.reduceBEq,Nat.reduceAdd,Nat.reduceLT,↓reduceIte,Nat.reduceEqDiff,Nat.reduceLeDiff,Nat.reduceSub,Nat.reduceMul,Int.reduceSub,Int.reduceToNat,Int.reduceBEq,Int.reduceBNe,Int.reduceLT,Int.reduceGT,Int.reduceLE,Int.reduceGE,Int.reduceNeg,Int.reduceAdd,hq2,mulN,wp2,wc2,gtN,hc2,wa2,addN,wb2,geW,hg2]
            refine gc_auto [] [18,17,16,15,14,10,9,8,2] [] ?_
            simp only [AH.SD,AH.SE,AOp.call?,AOp.next?,bstep,AV.cells,unAV,binAV,retQ,retV,AH.sliceElems,AH.bytesOf,AH.strOp,AH.bound,AH.missQ,AH.minmaxAV,AH.readOf,AH.effOf,Nat.reduceBEq,Nat.reduceAdd,Nat.reduceLT,↓reduceIte,Nat.reduceEqDiff,Nat.reduceLeDiff,Nat.reduceSub,Nat.reduceMul,Int.reduceSub,Int.reduceToNat,Int.reduceBEq,Int.reduceBNe,Int.reduceLT,Int.reduceGT,Int.reduceLE,Int.reduceGE,Int.reduceNeg,Int.reduceAdd,AH.SP,AH.PD,AV.inB,vstep]
            exact done2
          · simp only [decide_eq_true_eq] at hg2
            have hq0 : q2 - 1 = qz:=by have:=d5 (by omega); omega
            simp only [AH.SD,AH.SE,AOp.call?,AOp.next?,bstep,AV.cells,unAV,binAV,retQ,retV,AH.sliceElems,AH.bytesOf,AH.strOp,AH.bound,AH.missQ,AH.minmaxAV,AH.readOf,AH.effOf,Nat.reduceBEq,Nat.reduceAdd,Nat.reduceLT,↓reduceIte,Nat.reduceEqDiff,Nat.reduceLeDiff,Nat.reduceSub,Nat.reduceMul,Int.reduceSub,Int.reduceToNat,Int.reduceBEq,Int.reduceBNe,Int.reduceLT,Int.reduceGT,Int.reduceLE,Int.reduceGE,Int.reduceNeg,Int.reduceAdd,hq2,mulN,wp2,wc2,gtN,hc2,wa2,addN,wb2,geW,hg2]
            have w3 : IntKind.u64.wrap (IntKind.u64.wrap (IntKind.u64.wrap ((R : Int) * 4294967296) + (u0 : Int)) - IntKind.u64.wrap (((q2 - 1) * Y : Nat) : Int)) = ((R2 : Nat) : Int):=by
              rw [hq0]
              rw [IntKind.wrap_u64,IntKind.wrap_u64,IntKind.wrap_u64,IntKind.wrap_u64]
              omega
            have w4 : IntKind.u64.wrap (IntKind.u64.wrap ((qt : Int) * 4294967296) + (((q2 - 1) : Nat) : Int)) = ((qt * 4294967296 + (q2 - 1) : Nat) : Int):=by
              rw [hq0]
              rw [IntKind.wrap_u64,IntKind.wrap_u64]
              omega
            simp only [AH.SD,AH.SE,AOp.call?,AOp.next?,bstep,AV.cells,unAV,binAV,retQ,retV,AH.sliceElems,AH.bytesOf,AH.strOp,AH.bound,AH.missQ,AH.minmaxAV,AH.readOf,AH.effOf,Nat.reduceBEq,Nat.reduceAdd,Nat.reduceLT,↓reduceIte,Nat.reduceEqDiff,Nat.reduceLeDiff,Nat.reduceSub,Nat.reduceMul,Int.reduceSub,Int.reduceToNat,Int.reduceBEq,Int.reduceBNe,Int.reduceLT,Int.reduceGT,Int.reduceLE,Int.reduceGE,Int.reduceNeg,Int.reduceAdd,mulN,w3,w4,shrS (X:=R2) (s:=s) (by omega)]
            repeat (refine ⟨by first | rfl | decide | omega | (simp only [List.length_map,List.length_set,and_true]; omega),?_⟩)
            rw [fin.1,fin.2,hq0]
      · simp only [decide_eq_true_eq] at hq2
        have hd2:=hk2.down (.inl (by omega))
        rw [kY] at hd2
        obtain ⟨d1,d2,d3,d4,d5,d6⟩:=hd2
        have wa2 : IntKind.u64.wrap ((q2 : Int) - 1) = ((q2 - 1 : Nat) : Int):=by rw [IntKind.wrap_u64]; omega
        have wb2 : IntKind.u64.wrap (((rh2 + y1 : Nat)) : Int) = ((rh2 + y1 : Nat) : Int):=wrapN _ (by omega)
        cases hg2 : decide (rh2 + y1 ≥ 4294967296)
        · simp only [decide_eq_false_iff_not] at hg2
          have done2:=ih2 (q2 - 1,rh2 + y1) (d6 (by omega)) (by simp only; omega)
          simp only [dv2] at done2
          simp only [AH.SD,AH.SE,AOp.call?,AOp.next?,bstep,AV.cells,unAV,binAV,retQ,retV,AH.sliceElems,AH.bytesOf,AH.strOp,AH.bound,AH.missQ,AH.minmaxAV,AH.readOf,AH.effOf,Nat.reduceBEq,Nat.reduceAdd,Nat.reduceLT,↓reduceIte,Nat.reduceEqDiff,Nat.reduceLeDiff,Nat.reduceSub,Nat.reduceMul,Int.reduceSub,Int.reduceToNat,Int.reduceBEq,Int.reduceBNe,Int.reduceLT,Int.reduceGT,Int.reduceLE,Int.reduceGE,Int.reduceNeg,Int.reduceAdd,hq2,wa2,addN,wb2,geW,hg2]
          refine gc_auto [] [18,17,16,15,14,10,9,8,2] [] ?_
          simp only [AH.SD,AH.SE,AOp.call?,AOp.next?,bstep,AV.cells,unAV,binAV,retQ,retV,AH.sliceElems,AH.bytesOf,AH.strOp,AH.bound,AH.missQ,AH.minmaxAV,AH.readOf,AH.effOf,Nat.reduceBEq,Nat.reduceAdd,Nat.reduceLT,↓reduceIte,Nat.reduceEqDiff,Nat.reduceLeDiff,Nat.reduceSub,Nat.reduceMul,Int.reduceSub,Int.reduceToNat,Int.reduceBEq,Int.reduceBNe,Int.reduceLT,Int.reduceGT,Int.reduceLE,Int.reduceGE,Int.reduceNeg,Int.reduceAdd,AH.SP,AH.PD,AV.inB,vstep]
          exact done2
        · simp only [decide_eq_true_eq] at hg2
          have hq0 : q2 - 1 = qz:=by have:=d5 (by omega); omega
          simp only [AH.SD,AH.SE,AOp.call?,AOp.next?,bstep,AV.cells,unAV,binAV,retQ,retV,AH.sliceElems,AH.bytesOf,AH.strOp,AH.bound,AH.missQ,AH.minmaxAV,AH.readOf,AH.effOf,Nat.reduceBEq,Nat.reduceAdd,Nat.reduceLT,↓reduceIte,Nat.reduceEqDiff,Nat.reduceLeDiff,Nat.reduceSub,Nat.reduceMul,Int.reduceSub,Int.reduceToNat,Int.reduceBEq,Int.reduceBNe,Int.reduceLT,Int.reduceGT,Int.reduceLE,Int.reduceGE,Int.reduceNeg,Int.reduceAdd,hq2,wa2,addN,wb2,geW,hg2]
          have w3 : IntKind.u64.wrap (IntKind.u64.wrap (IntKind.u64.wrap ((R : Int) * 4294967296) + (u0 : Int)) - IntKind.u64.wrap (((q2 - 1) * Y : Nat) : Int)) = ((R2 : Nat) : Int):=by
            rw [hq0]
            rw [IntKind.wrap_u64,IntKind.wrap_u64,IntKind.wrap_u64,IntKind.wrap_u64]
            omega
          have w4 : IntKind.u64.wrap (IntKind.u64.wrap ((qt : Int) * 4294967296) + (((q2 - 1) : Nat) : Int)) = ((qt * 4294967296 + (q2 - 1) : Nat) : Int):=by
            rw [hq0]
            rw [IntKind.wrap_u64,IntKind.wrap_u64]
            omega
          simp only [AH.SD,AH.SE,AOp.call?,AOp.next?,bstep,AV.cells,unAV,binAV,retQ,retV,AH.sliceElems,AH.bytesOf,AH.strOp,AH.bound,AH.missQ,AH.minmaxAV,AH.readOf,AH.effOf,Nat.reduceBEq,Nat.reduceAdd,Nat.reduceLT,↓reduceIte,Nat.reduceEqDiff,Nat.reduceLeDiff,Nat.reduceSub,Nat.reduceMul,Int.reduceSub,Int.reduceToNat,Int.reduceBEq,Int.reduceBNe,Int.reduceLT,Int.reduceGT,Int.reduceLE,Int.reduceGE,Int.reduceNeg,Int.reduceAdd,mulN,w3,w4,shrS (X:=R2) (s:=s) (by omega)]
          repeat (refine ⟨by first | rfl | decide | omega | (simp only [List.length_map,List.length_set,and_true]; omega),?_⟩)
          rw [fin.1,fin.2,hq0]
    · simp only [decide_eq_true_eq] at hc
      have hd:=hk.down (.inr (by omega))
      rw [kY] at hd
      obtain ⟨d1,d2,d3,d4,d5,d6⟩:=hd
      have wa : IntKind.u64.wrap ((q : Int) - 1) = ((q - 1 : Nat) : Int):=by rw [IntKind.wrap_u64]; omega
      have wb : IntKind.u64.wrap (((rh + y1 : Nat)) : Int) = ((rh + y1 : Nat) : Int):=wrapN _ (by omega)
      cases hg : decide (rh + y1 ≥ 4294967296)
      · simp only [decide_eq_false_iff_not] at hg
        have done:=ih (q - 1,rh + y1) (d6 (by omega)) (by simp only; omega)
        simp only [dv1] at done
        simp only [AH.SD,AH.SE,AOp.call?,AOp.next?,bstep,AV.cells,unAV,binAV,retQ,retV,AH.sliceElems,AH.bytesOf,AH.strOp,AH.bound,AH.missQ,AH.minmaxAV,AH.readOf,AH.effOf,Nat.reduceBEq,Nat.reduceAdd,Nat.reduceLT,↓reduceIte,Nat.reduceEqDiff,Nat.reduceLeDiff,Nat.reduceSub,Nat.reduceMul,Int.reduceSub,Int.reduceToNat,Int.reduceBEq,Int.reduceBNe,Int.reduceLT,Int.reduceGT,Int.reduceLE,Int.reduceGE,Int.reduceNeg,Int.reduceAdd,hq,mulN,wp,wc,gtN,hc,wa,addN,wb,geW,hg]
        refine gc_auto [] [16,15,14,13,11,10,9,8,2] [] ?_
        simp only [AH.SD,AH.SE,AOp.call?,AOp.next?,bstep,AV.cells,unAV,binAV,retQ,retV,AH.sliceElems,AH.bytesOf,AH.strOp,AH.bound,AH.missQ,AH.minmaxAV,AH.readOf,AH.effOf,Nat.reduceBEq,Nat.reduceAdd,Nat.reduceLT,↓reduceIte,Nat.reduceEqDiff,Nat.reduceLeDiff,Nat.reduceSub,Nat.reduceMul,Int.reduceSub,Int.reduceToNat,Int.reduceBEq,Int.reduceBNe,Int.reduceLT,Int.reduceGT,Int.reduceLE,Int.reduceGE,Int.reduceNeg,Int.reduceAdd,AH.SP,AH.PD,AV.inB,vstep]
        exact done
      · simp only [decide_eq_true_eq] at hg
        have hqt : q - 1 = qt:=by have:=d5 (by omega); omega
        simp only [AH.SD,AH.SE,AOp.call?,AOp.next?,bstep,AV.cells,unAV,binAV,retQ,retV,AH.sliceElems,AH.bytesOf,AH.strOp,AH.bound,AH.missQ,AH.minmaxAV,AH.readOf,AH.effOf,Nat.reduceBEq,Nat.reduceAdd,Nat.reduceLT,↓reduceIte,Nat.reduceEqDiff,Nat.reduceLeDiff,Nat.reduceSub,Nat.reduceMul,Int.reduceSub,Int.reduceToNat,Int.reduceBEq,Int.reduceBNe,Int.reduceLT,Int.reduceGT,Int.reduceLE,Int.reduceGE,Int.reduceNeg,Int.reduceAdd,hq,mulN,wp,wc,gtN,hc,wa,addN,wb,geW,hg]
        rw [hqt]
        have w1 : IntKind.u64.wrap (IntKind.u64.wrap (IntKind.u64.wrap ((U : Int) * 4294967296) + (u1 : Int)) - IntKind.u64.wrap ((qt * Y : Nat) : Int)) = ((R : Nat) : Int):=by
          rw [IntKind.wrap_u64,IntKind.wrap_u64,IntKind.wrap_u64,IntKind.wrap_u64]
          omega
        simp only [AH.SD,AH.SE,AOp.call?,AOp.next?,bstep,AV.cells,unAV,binAV,retQ,retV,AH.sliceElems,AH.bytesOf,AH.strOp,AH.bound,AH.missQ,AH.minmaxAV,AH.readOf,AH.effOf,Nat.reduceBEq,Nat.reduceAdd,Nat.reduceLT,↓reduceIte,Nat.reduceEqDiff,Nat.reduceLeDiff,Nat.reduceSub,Nat.reduceMul,Int.reduceSub,Int.reduceToNat,Int.reduceBEq,Int.reduceBNe,Int.reduceLT,Int.reduceGT,Int.reduceLE,Int.reduceGE,Int.reduceNeg,Int.reduceAdd,mulN,w1,tdivN,wrapN (R / y1) (by omega),wm2,wr2]
        repeat (refine ⟨by first | rfl | decide | omega | (simp only [List.length_map,List.length_set,and_true]; omega),?_⟩)
        refine loop_do [] [18,17,16,15,14,10,9,8,2] [] (α:=Nat × Nat) (fun x =>x.1) (dv2 Y y1 yl qt R u0 s) (fun x =>Kn y1 yl R u0 x.1 x.2) (R / y1,R % y1) st2 (by simp only [AH.SD,AH.SE,AOp.call?,AOp.next?,bstep,AV.cells,unAV,binAV,retQ,retV,AH.sliceElems,AH.bytesOf,AH.strOp,AH.bound,AH.missQ,AH.minmaxAV,AH.readOf,AH.effOf,Nat.reduceBEq,Nat.reduceAdd,Nat.reduceLT,↓reduceIte,Nat.reduceEqDiff,Nat.reduceLeDiff,Nat.reduceSub,Nat.reduceMul,Int.reduceSub,Int.reduceToNat,Int.reduceBEq,Int.reduceBNe,Int.reduceLT,Int.reduceGT,Int.reduceLE,Int.reduceGE,Int.reduceNeg,Int.reduceAdd,AH.SP,AH.PD,AV.inB,vstep,dv2]) ?_
        rintro X2 ⟨q2,rh2⟩ hk2 ih2
        simp only at hk2
        have j1:=hk2.h8
        have j2:=hk2.h9
        have wc2 : IntKind.u64.wrap (IntKind.u64.wrap (4294967296 * (rh2 : Int)) + (u0 : Int)) = ((4294967296 * rh2 + u0 : Nat) : Int):=by rw [IntKind.wrap_u64,IntKind.wrap_u64]; omega
        simp only [AH.SD,AH.SE,AOp.call?,AOp.next?,bstep,AV.cells,unAV,binAV,retQ,retV,AH.sliceElems,AH.bytesOf,AH.strOp,AH.bound,AH.missQ,AH.minmaxAV,AH.readOf,AH.effOf,Nat.reduceBEq,Nat.reduceAdd,Nat.reduceLT,↓reduceIte,Nat.reduceEqDiff,Nat.reduceLeDiff,Nat.reduceSub,Nat.reduceMul,Int.reduceSub,Int.reduceToNat,Int.reduceBEq,Int.reduceBNe,Int.reduceLT,Int.reduceGT,Int.reduceLE,Int.reduceGE,Int.reduceNeg,Int.reduceAdd,dv2,geW]
        cases hq2 : decide (q2 ≥ 4294967296)
        · simp only [decide_eq_false_iff_not] at hq2
          have wp2 : IntKind.u64.wrap ((q2 * yl : Nat) : Int) = ((q2 * yl : Nat) : Int):=wrapN _ (by have:=Nat.mul_le_mul (show q2 ≤ 4294967295 by omega) (show yl ≤ 4294967295 by omega); omega)
          cases hc2 : decide (q2 * yl > 4294967296 * rh2 + u0)
          · simp only [decide_eq_false_iff_not] at hc2
            have hq0 : q2 = qz:=by have:=hk2.done (by omega); rw [kY] at this; omega
            simp only [AH.SD,AH.SE,AOp.call?,AOp.next?,bstep,AV.cells,unAV,binAV,retQ,retV,AH.sliceElems,AH.bytesOf,AH.strOp,AH.bound,AH.missQ,AH.minmaxAV,AH.readOf,AH.effOf,Nat.reduceBEq,Nat.reduceAdd,Nat.reduceLT,↓reduceIte,Nat.reduceEqDiff,Nat.reduceLeDiff,Nat.reduceSub,Nat.reduceMul,Int.reduceSub,Int.reduceToNat,Int.reduceBEq,Int.reduceBNe,Int.reduceLT,Int.reduceGT,Int.reduceLE,Int.reduceGE,Int.reduceNeg,Int.reduceAdd,hq2,mulN,wp2,wc2,gtN,hc2]
            have w3 : IntKind.u64.wrap (IntKind.u64.wrap (IntKind.u64.wrap ((R : Int) * 4294967296) + (u0 : Int)) - IntKind.u64.wrap ((q2 * Y : Nat) : Int)) = ((R2 : Nat) : Int):=by
              rw [hq0]
              rw [IntKind.wrap_u64,IntKind.wrap_u64,IntKind.wrap_u64,IntKind.wrap_u64]
              omega
            have w4 : IntKind.u64.wrap (IntKind.u64.wrap ((qt : Int) * 4294967296) + ((q2 : Nat) : Int)) = ((qt * 4294967296 + q2 : Nat) : Int):=by
              rw [hq0]
              rw [IntKind.wrap_u64,IntKind.wrap_u64]
              omega
            simp only [AH.SD,AH.SE,AOp.call?,AOp.next?,bstep,AV.cells,unAV,binAV,retQ,retV,AH.sliceElems,AH.bytesOf,AH.strOp,AH.bound,AH.missQ,AH.minmaxAV,AH.readOf,AH.effOf,Nat.reduceBEq,Nat.reduceAdd,Nat.reduceLT,↓reduceIte,Nat.reduceEqDiff,Nat.reduceLeDiff,Nat.reduceSub,Nat.reduceMul,Int.reduceSub,Int.reduceToNat,Int.reduceBEq,Int.reduceBNe,Int.reduceLT,Int.reduceGT,Int.reduceLE,Int.reduceGE,Int.reduceNeg,Int.reduceAdd,mulN,w3,w4,shrS (X:=R2) (s:=s) (by omega)]
            repeat (refine ⟨by first | rfl | decide | omega | (simp only [List.length_map,List.length_set,and_true]; omega),?_⟩)
            rw [fin.1,fin.2,hq0]
          · simp only [decide_eq_true_eq] at hc2
            have hd2:=hk2.down (.inr (by omega))
            rw [kY] at hd2
            obtain ⟨d1,d2,d3,d4,d5,d6⟩:=hd2
            have wa2 : IntKind.u64.wrap ((q2 : Int) - 1) = ((q2 - 1 : Nat) : Int):=by rw [IntKind.wrap_u64]; omega
            have wb2 : IntKind.u64.wrap (((rh2 + y1 : Nat)) : Int) = ((rh2 + y1 : Nat) : Int):=wrapN _ (by omega)
            cases hg2 : decide (rh2 + y1 ≥ 4294967296)
            · simp only [decide_eq_false_iff_not] at hg2
              have done2:=ih2 (q2 - 1,rh2 + y1) (d6 (by omega)) (by simp only; omega)
              simp only [dv2] at done2
              simp only [AH.SD,AH.SE,AOp.call?,AOp.next?,bstep,AV.cells,unAV,binAV,retQ,retV,AH.sliceElems,AH.bytesOf,AH.strOp,AH.bound,AH.missQ,AH.minmaxAV,AH.readOf,AH.effOf,Nat.reduceBEq,Nat.reduceAdd,Nat.reduceLT,↓reduceIte,Nat.reduceEqDiff,Nat.reduceLeDiff,Nat.reduceSub,Nat.reduceMul,Int.reduceSub,Int.reduceToNat,Int.reduceBEq,Int.reduceBNe,Int.reduceLT,Int.reduceGT,Int.reduceLE,Int.reduceGE,Int.reduceNeg,Int.reduceAdd,hq2,mulN,wp2,wc2,gtN,hc2,wa2,addN,wb2,geW,hg2]
              refine gc_auto [] [18,17,16,15,14,10,9,8,2] [] ?_
              simp only [AH.SD,AH.SE,AOp.call?,AOp.next?,bstep,AV.cells,unAV,binAV,retQ,retV,AH.sliceElems,AH.bytesOf,AH.strOp,AH.bound,AH.missQ,AH.minmaxAV,AH.readOf,AH.effOf,Nat.reduceBEq,Nat.reduceAdd,Nat.reduceLT,↓reduceIte,Nat.reduceEqDiff,Nat.reduceLeDiff,Nat.reduceSub,Nat.reduceMul,Int.reduceSub,Int.reduceToNat,Int.reduceBEq,Int.reduceBNe,Int.reduceLT,Int.reduceGT,Int.reduceLE,Int.reduceGE,Int.reduceNeg,Int.reduceAdd,AH.SP,AH.PD,AV.inB,vstep]
              exact done2
            · simp only [decide_eq_true_eq] at hg2
              have hq0 : q2 - 1 = qz:=by have:=d5 (by omega); omega
              simp only [AH.SD,AH.SE,AOp.call?,AOp.next?,bstep,AV.cells,unAV,binAV,retQ,retV,AH.sliceElems,AH.bytesOf,AH.strOp,AH.bound,AH.missQ,AH.minmaxAV,AH.readOf,AH.effOf,Nat.reduceBEq,Nat.reduceAdd,Nat.reduceLT,↓reduceIte,Nat.reduceEqDiff,Nat.reduceLeDiff,Nat.reduceSub,Nat.reduceMul,Int.reduceSub,Int.reduceToNat,Int.reduceBEq,Int.reduceBNe,Int.reduceLT,Int.reduceGT,Int.reduceLE,Int.reduceGE,Int.reduceNeg,Int.reduceAdd,hq2,mulN,wp2,wc2,gtN,hc2,wa2,addN,wb2,geW,hg2]
              have w3 : IntKind.u64.wrap (IntKind.u64.wrap (IntKind.u64.wrap ((R : Int) * 4294967296) + (u0 : Int)) - IntKind.u64.wrap (((q2 - 1) * Y : Nat) : Int)) = ((R2 : Nat) : Int):=by
                rw [hq0]
                rw [IntKind.wrap_u64,IntKind.wrap_u64,IntKind.wrap_u64,IntKind.wrap_u64]
                omega
              have w4 : IntKind.u64.wrap (IntKind.u64.wrap ((qt : Int) * 4294967296) + (((q2 - 1) : Nat) : Int)) = ((qt * 4294967296 + (q2 - 1) : Nat) : Int):=by
                rw [hq0]
                rw [IntKind.wrap_u64,IntKind.wrap_u64]
                omega
              simp only [AH.SD,AH.SE,AOp.call?,AOp.next?,bstep,AV.cells,unAV,binAV,retQ,retV,AH.sliceElems,AH.bytesOf,AH.strOp,AH.bound,AH.missQ,AH.minmaxAV,AH.readOf,AH.effOf,Nat.reduceBEq,Nat.reduceAdd,Nat.reduceLT,↓reduceIte,Nat.reduceEqDiff,Nat.reduceLeDiff,Nat.reduceSub,Nat.reduceMul,Int.reduceSub,Int.reduceToNat,Int.reduceBEq,Int.reduceBNe,Int.reduceLT,Int.reduceGT,Int.reduceLE,Int.reduceGE,Int.reduceNeg,Int.reduceAdd,mulN,w3,w4,shrS (X:=R2) (s:=s) (by omega)]
              repeat (refine ⟨by first | rfl | decide | omega | (simp only [List.length_map,List.length_set,and_true]; omega),?_⟩)
              rw [fin.1,fin.2,hq0]
        · simp only [decide_eq_true_eq] at hq2
          have hd2:=hk2.down (.inl (by omega))
          rw [kY] at hd2
          obtain ⟨d1,d2,d3,d4,d5,d6⟩:=hd2
          have wa2 : IntKind.u64.wrap ((q2 : Int) - 1) = ((q2 - 1 : Nat) : Int):=by rw [IntKind.wrap_u64]; omega
          have wb2 : IntKind.u64.wrap (((rh2 + y1 : Nat)) : Int) = ((rh2 + y1 : Nat) : Int):=wrapN _ (by omega)
          cases hg2 : decide (rh2 + y1 ≥ 4294967296)
          · simp only [decide_eq_false_iff_not] at hg2
            have done2:=ih2 (q2 - 1,rh2 + y1) (d6 (by omega)) (by simp only; omega)
            simp only [dv2] at done2
            simp only [AH.SD,AH.SE,AOp.call?,AOp.next?,bstep,AV.cells,unAV,binAV,retQ,retV,AH.sliceElems,AH.bytesOf,AH.strOp,AH.bound,AH.missQ,AH.minmaxAV,AH.readOf,AH.effOf,Nat.reduceBEq,Nat.reduceAdd,Nat.reduceLT,↓reduceIte,Nat.reduceEqDiff,Nat.reduceLeDiff,Nat.reduceSub,Nat.reduceMul,Int.reduceSub,Int.reduceToNat,Int.reduceBEq,Int.reduceBNe,Int.reduceLT,Int.reduceGT,Int.reduceLE,Int.reduceGE,Int.reduceNeg,Int.reduceAdd,hq2,wa2,addN,wb2,geW,hg2]
            refine gc_auto [] [18,17,16,15,14,10,9,8,2] [] ?_
            simp only [AH.SD,AH.SE,AOp.call?,AOp.next?,bstep,AV.cells,unAV,binAV,retQ,retV,AH.sliceElems,AH.bytesOf,AH.strOp,AH.bound,AH.missQ,AH.minmaxAV,AH.readOf,AH.effOf,Nat.reduceBEq,Nat.reduceAdd,Nat.reduceLT,↓reduceIte,Nat.reduceEqDiff,Nat.reduceLeDiff,Nat.reduceSub,Nat.reduceMul,Int.reduceSub,Int.reduceToNat,Int.reduceBEq,Int.reduceBNe,Int.reduceLT,Int.reduceGT,Int.reduceLE,Int.reduceGE,Int.reduceNeg,Int.reduceAdd,AH.SP,AH.PD,AV.inB,vstep]
            exact done2
          · simp only [decide_eq_true_eq] at hg2
            have hq0 : q2 - 1 = qz:=by have:=d5 (by omega); omega
            simp only [AH.SD,AH.SE,AOp.call?,AOp.next?,bstep,AV.cells,unAV,binAV,retQ,retV,AH.sliceElems,AH.bytesOf,AH.strOp,AH.bound,AH.missQ,AH.minmaxAV,AH.readOf,AH.effOf,Nat.reduceBEq,Nat.reduceAdd,Nat.reduceLT,↓reduceIte,Nat.reduceEqDiff,Nat.reduceLeDiff,Nat.reduceSub,Nat.reduceMul,Int.reduceSub,Int.reduceToNat,Int.reduceBEq,Int.reduceBNe,Int.reduceLT,Int.reduceGT,Int.reduceLE,Int.reduceGE,Int.reduceNeg,Int.reduceAdd,hq2,wa2,addN,wb2,geW,hg2]
            have w3 : IntKind.u64.wrap (IntKind.u64.wrap (IntKind.u64.wrap ((R : Int) * 4294967296) + (u0 : Int)) - IntKind.u64.wrap (((q2 - 1) * Y : Nat) : Int)) = ((R2 : Nat) : Int):=by
              rw [hq0]
              rw [IntKind.wrap_u64,IntKind.wrap_u64,IntKind.wrap_u64,IntKind.wrap_u64]
              omega
            have w4 : IntKind.u64.wrap (IntKind.u64.wrap ((qt : Int) * 4294967296) + (((q2 - 1) : Nat) : Int)) = ((qt * 4294967296 + (q2 - 1) : Nat) : Int):=by
              rw [hq0]
              rw [IntKind.wrap_u64,IntKind.wrap_u64]
              omega
            simp only [AH.SD,AH.SE,AOp.call?,AOp.next?,bstep,AV.cells,unAV,binAV,retQ,retV,AH.sliceElems,AH.bytesOf,AH.strOp,AH.bound,AH.missQ,AH.minmaxAV,AH.readOf,AH.effOf,Nat.reduceBEq,Nat.reduceAdd,Nat.reduceLT,↓reduceIte,Nat.reduceEqDiff,Nat.reduceLeDiff,Nat.reduceSub,Nat.reduceMul,Int.reduceSub,Int.reduceToNat,Int.reduceBEq,Int.reduceBNe,Int.reduceLT,Int.reduceGT,Int.reduceLE,Int.reduceGE,Int.reduceNeg,Int.reduceAdd,mulN,w3,w4,shrS (X:=R2) (s:=s) (by omega)]
            repeat (refine ⟨by first | rfl | decide | omega | (simp only [List.length_map,List.length_set,and_true]; omega),?_⟩)
            rw [fin.1,fin.2,hq0]
  · simp only [decide_eq_true_eq] at hq
    have hd:=hk.down (.inl (by omega))
    rw [kY] at hd
    obtain ⟨d1,d2,d3,d4,d5,d6⟩:=hd
    have wa : IntKind.u64.wrap ((q : Int) - 1) = ((q - 1 : Nat) : Int):=by rw [IntKind.wrap_u64]; omega
    have wb : IntKind.u64.wrap (((rh + y1 : Nat)) : Int) = ((rh + y1 : Nat) : Int):=wrapN _ (by omega)
    cases hg : decide (rh + y1 ≥ 4294967296)
    · simp only [decide_eq_false_iff_not] at hg
      have done:=ih (q - 1,rh + y1) (d6 (by omega)) (by simp only; omega)
      simp only [dv1] at done
      simp only [AH.SD,AH.SE,AOp.call?,AOp.next?,bstep,AV.cells,unAV,binAV,retQ,retV,AH.sliceElems,AH.bytesOf,AH.strOp,AH.bound,AH.missQ,AH.minmaxAV,AH.readOf,AH.effOf,Nat.reduceBEq,Nat.reduceAdd,Nat.reduceLT,↓reduceIte,Nat.reduceEqDiff,Nat.reduceLeDiff,Nat.reduceSub,Nat.reduceMul,Int.reduceSub,Int.reduceToNat,Int.reduceBEq,Int.reduceBNe,Int.reduceLT,Int.reduceGT,Int.reduceLE,Int.reduceGE,Int.reduceNeg,Int.reduceAdd,hq,wa,addN,wb,geW,hg]
      refine gc_auto [] [16,15,14,13,11,10,9,8,2] [] ?_
      simp only [AH.SD,AH.SE,AOp.call?,AOp.next?,bstep,AV.cells,unAV,binAV,retQ,retV,AH.sliceElems,AH.bytesOf,AH.strOp,AH.bound,AH.missQ,AH.minmaxAV,AH.readOf,AH.effOf,Nat.reduceBEq,Nat.reduceAdd,Nat.reduceLT,↓reduceIte,Nat.reduceEqDiff,Nat.reduceLeDiff,Nat.reduceSub,Nat.reduceMul,Int.reduceSub,Int.reduceToNat,Int.reduceBEq,Int.reduceBNe,Int.reduceLT,Int.reduceGT,Int.reduceLE,Int.reduceGE,Int.reduceNeg,Int.reduceAdd,AH.SP,AH.PD,AV.inB,vstep]
      exact done
    · simp only [decide_eq_true_eq] at hg
      have hqt : q - 1 = qt:=by have:=d5 (by omega); omega
      simp only [AH.SD,AH.SE,AOp.call?,AOp.next?,bstep,AV.cells,unAV,binAV,retQ,retV,AH.sliceElems,AH.bytesOf,AH.strOp,AH.bound,AH.missQ,AH.minmaxAV,AH.readOf,AH.effOf,Nat.reduceBEq,Nat.reduceAdd,Nat.reduceLT,↓reduceIte,Nat.reduceEqDiff,Nat.reduceLeDiff,Nat.reduceSub,Nat.reduceMul,Int.reduceSub,Int.reduceToNat,Int.reduceBEq,Int.reduceBNe,Int.reduceLT,Int.reduceGT,Int.reduceLE,Int.reduceGE,Int.reduceNeg,Int.reduceAdd,hq,wa,addN,wb,geW,hg]
      rw [hqt]
      have w1 : IntKind.u64.wrap (IntKind.u64.wrap (IntKind.u64.wrap ((U : Int) * 4294967296) + (u1 : Int)) - IntKind.u64.wrap ((qt * Y : Nat) : Int)) = ((R : Nat) : Int):=by
        rw [IntKind.wrap_u64,IntKind.wrap_u64,IntKind.wrap_u64,IntKind.wrap_u64]
        omega
      simp only [AH.SD,AH.SE,AOp.call?,AOp.next?,bstep,AV.cells,unAV,binAV,retQ,retV,AH.sliceElems,AH.bytesOf,AH.strOp,AH.bound,AH.missQ,AH.minmaxAV,AH.readOf,AH.effOf,Nat.reduceBEq,Nat.reduceAdd,Nat.reduceLT,↓reduceIte,Nat.reduceEqDiff,Nat.reduceLeDiff,Nat.reduceSub,Nat.reduceMul,Int.reduceSub,Int.reduceToNat,Int.reduceBEq,Int.reduceBNe,Int.reduceLT,Int.reduceGT,Int.reduceLE,Int.reduceGE,Int.reduceNeg,Int.reduceAdd,mulN,w1,tdivN,wrapN (R / y1) (by omega),wm2,wr2]
      repeat (refine ⟨by first | rfl | decide | omega | (simp only [List.length_map,List.length_set,and_true]; omega),?_⟩)
      refine loop_do [] [18,17,16,15,14,10,9,8,2] [] (α:=Nat × Nat) (fun x =>x.1) (dv2 Y y1 yl qt R u0 s) (fun x =>Kn y1 yl R u0 x.1 x.2) (R / y1,R % y1) st2 (by simp only [AH.SD,AH.SE,AOp.call?,AOp.next?,bstep,AV.cells,unAV,binAV,retQ,retV,AH.sliceElems,AH.bytesOf,AH.strOp,AH.bound,AH.missQ,AH.minmaxAV,AH.readOf,AH.effOf,Nat.reduceBEq,Nat.reduceAdd,Nat.reduceLT,↓reduceIte,Nat.reduceEqDiff,Nat.reduceLeDiff,Nat.reduceSub,Nat.reduceMul,Int.reduceSub,Int.reduceToNat,Int.reduceBEq,Int.reduceBNe,Int.reduceLT,Int.reduceGT,Int.reduceLE,Int.reduceGE,Int.reduceNeg,Int.reduceAdd,AH.SP,AH.PD,AV.inB,vstep,dv2]) ?_
      rintro X2 ⟨q2,rh2⟩ hk2 ih2
      simp only at hk2
      have j1:=hk2.h8
      have j2:=hk2.h9
      have wc2 : IntKind.u64.wrap (IntKind.u64.wrap (4294967296 * (rh2 : Int)) + (u0 : Int)) = ((4294967296 * rh2 + u0 : Nat) : Int):=by rw [IntKind.wrap_u64,IntKind.wrap_u64]; omega
      simp only [AH.SD,AH.SE,AOp.call?,AOp.next?,bstep,AV.cells,unAV,binAV,retQ,retV,AH.sliceElems,AH.bytesOf,AH.strOp,AH.bound,AH.missQ,AH.minmaxAV,AH.readOf,AH.effOf,Nat.reduceBEq,Nat.reduceAdd,Nat.reduceLT,↓reduceIte,Nat.reduceEqDiff,Nat.reduceLeDiff,Nat.reduceSub,Nat.reduceMul,Int.reduceSub,Int.reduceToNat,Int.reduceBEq,Int.reduceBNe,Int.reduceLT,Int.reduceGT,Int.reduceLE,Int.reduceGE,Int.reduceNeg,Int.reduceAdd,dv2,geW]
      cases hq2 : decide (q2 ≥ 4294967296)
      · simp only [decide_eq_false_iff_not] at hq2
        have wp2 : IntKind.u64.wrap ((q2 * yl : Nat) : Int) = ((q2 * yl : Nat) : Int):=wrapN _ (by have:=Nat.mul_le_mul (show q2 ≤ 4294967295 by omega) (show yl ≤ 4294967295 by omega); omega)
        cases hc2 : decide (q2 * yl > 4294967296 * rh2 + u0)
        · simp only [decide_eq_false_iff_not] at hc2
          have hq0 : q2 = qz:=by have:=hk2.done (by omega); rw [kY] at this; omega
          simp only [AH.SD,AH.SE,AOp.call?,AOp.next?,bstep,AV.cells,unAV,binAV,retQ,retV,AH.sliceElems,AH.bytesOf,AH.strOp,AH.bound,AH.missQ,AH.minmaxAV,AH.readOf,AH.effOf,Nat.reduceBEq,Nat.reduceAdd,Nat.reduceLT,↓reduceIte,Nat.reduceEqDiff,Nat.reduceLeDiff,Nat.reduceSub,Nat.reduceMul,Int.reduceSub,Int.reduceToNat,Int.reduceBEq,Int.reduceBNe,Int.reduceLT,Int.reduceGT,Int.reduceLE,Int.reduceGE,Int.reduceNeg,Int.reduceAdd,hq2,mulN,wp2,wc2,gtN,hc2]
          have w3 : IntKind.u64.wrap (IntKind.u64.wrap (IntKind.u64.wrap ((R : Int) * 4294967296) + (u0 : Int)) - IntKind.u64.wrap ((q2 * Y : Nat) : Int)) = ((R2 : Nat) : Int):=by
            rw [hq0]
            rw [IntKind.wrap_u64,IntKind.wrap_u64,IntKind.wrap_u64,IntKind.wrap_u64]
            omega
          have w4 : IntKind.u64.wrap (IntKind.u64.wrap ((qt : Int) * 4294967296) + ((q2 : Nat) : Int)) = ((qt * 4294967296 + q2 : Nat) : Int):=by
            rw [hq0]
            rw [IntKind.wrap_u64,IntKind.wrap_u64]
            omega
          simp only [AH.SD,AH.SE,AOp.call?,AOp.next?,bstep,AV.cells,unAV,binAV,retQ,retV,AH.sliceElems,AH.bytesOf,AH.strOp,AH.bound,AH.missQ,AH.minmaxAV,AH.readOf,AH.effOf,Nat.reduceBEq,Nat.reduceAdd,Nat.reduceLT,↓reduceIte,Nat.reduceEqDiff,Nat.reduceLeDiff,Nat.reduceSub,Nat.reduceMul,Int.reduceSub,Int.reduceToNat,Int.reduceBEq,Int.reduceBNe,Int.reduceLT,Int.reduceGT,Int.reduceLE,Int.reduceGE,Int.reduceNeg,Int.reduceAdd,mulN,w3,w4,shrS (X:=R2) (s:=s) (by omega)]
          repeat (refine ⟨by first | rfl | decide | omega | (simp only [List.length_map,List.length_set,and_true]; omega),?_⟩)
          rw [fin.1,fin.2,hq0]
        · simp only [decide_eq_true_eq] at hc2
          have hd2:=hk2.down (.inr (by omega))
          rw [kY] at hd2
          obtain ⟨d1,d2,d3,d4,d5,d6⟩:=hd2
          have wa2 : IntKind.u64.wrap ((q2 : Int) - 1) = ((q2 - 1 : Nat) : Int):=by rw [IntKind.wrap_u64]; omega
          have wb2 : IntKind.u64.wrap (((rh2 + y1 : Nat)) : Int) = ((rh2 + y1 : Nat) : Int):=wrapN _ (by omega)
          cases hg2 : decide (rh2 + y1 ≥ 4294967296)
          · simp only [decide_eq_false_iff_not] at hg2
            have done2:=ih2 (q2 - 1,rh2 + y1) (d6 (by omega)) (by simp only; omega)
            simp only [dv2] at done2
            simp only [AH.SD,AH.SE,AOp.call?,AOp.next?,bstep,AV.cells,unAV,binAV,retQ,retV,AH.sliceElems,AH.bytesOf,AH.strOp,AH.bound,AH.missQ,AH.minmaxAV,AH.readOf,AH.effOf,Nat.reduceBEq,Nat.reduceAdd,Nat.reduceLT,↓reduceIte,Nat.reduceEqDiff,Nat.reduceLeDiff,Nat.reduceSub,Nat.reduceMul,Int.reduceSub,Int.reduceToNat,Int.reduceBEq,Int.reduceBNe,Int.reduceLT,Int.reduceGT,Int.reduceLE,Int.reduceGE,Int.reduceNeg,Int.reduceAdd,hq2,mulN,wp2,wc2,gtN,hc2,wa2,addN,wb2,geW,hg2]
            refine gc_auto [] [18,17,16,15,14,10,9,8,2] [] ?_
            simp only [AH.SD,AH.SE,AOp.call?,AOp.next?,bstep,AV.cells,unAV,binAV,retQ,retV,AH.sliceElems,AH.bytesOf,AH.strOp,AH.bound,AH.missQ,AH.minmaxAV,AH.readOf,AH.effOf,Nat.reduceBEq,Nat.reduceAdd,Nat.reduceLT,↓reduceIte,Nat.reduceEqDiff,Nat.reduceLeDiff,Nat.reduceSub,Nat.reduceMul,Int.reduceSub,Int.reduceToNat,Int.reduceBEq,Int.reduceBNe,Int.reduceLT,Int.reduceGT,Int.reduceLE,Int.reduceGE,Int.reduceNeg,Int.reduceAdd,AH.SP,AH.PD,AV.inB,vstep]
            exact done2
          · simp only [decide_eq_true_eq] at hg2
            have hq0 : q2 - 1 = qz:=by have:=d5 (by omega); omega
            simp only [AH.SD,AH.SE,AOp.call?,AOp.next?,bstep,AV.cells,unAV,binAV,retQ,retV,AH.sliceElems,AH.bytesOf,AH.strOp,AH.bound,AH.missQ,AH.minmaxAV,AH.readOf,AH.effOf,Nat.reduceBEq,Nat.reduceAdd,Nat.reduceLT,↓reduceIte,Nat.reduceEqDiff,Nat.reduceLeDiff,Nat.reduceSub,Nat.reduceMul,Int.reduceSub,Int.reduceToNat,Int.reduceBEq,Int.reduceBNe,Int.reduceLT,Int.reduceGT,Int.reduceLE,Int.reduceGE,Int.reduceNeg,Int.reduceAdd,hq2,mulN,wp2,wc2,gtN,hc2,wa2,addN,wb2,geW,hg2]
            have w3 : IntKind.u64.wrap (IntKind.u64.wrap (IntKind.u64.wrap ((R : Int) * 4294967296) + (u0 : Int)) - IntKind.u64.wrap (((q2 - 1) * Y : Nat) : Int)) = ((R2 : Nat) : Int):=by
              rw [hq0]
              rw [IntKind.wrap_u64,IntKind.wrap_u64,IntKind.wrap_u64,IntKind.wrap_u64]
              omega
            have w4 : IntKind.u64.wrap (IntKind.u64.wrap ((qt : Int) * 4294967296) + (((q2 - 1) : Nat) : Int)) = ((qt * 4294967296 + (q2 - 1) : Nat) : Int):=by
              rw [hq0]
              rw [IntKind.wrap_u64,IntKind.wrap_u64]
              omega
            simp only [AH.SD,AH.SE,AOp.call?,AOp.next?,bstep,AV.cells,unAV,binAV,retQ,retV,AH.sliceElems,AH.bytesOf,AH.strOp,AH.bound,AH.missQ,AH.minmaxAV,AH.readOf,AH.effOf,Nat.reduceBEq,Nat.reduceAdd,Nat.reduceLT,↓reduceIte,Nat.reduceEqDiff,Nat.reduceLeDiff,Nat.reduceSub,Nat.reduceMul,Int.reduceSub,Int.reduceToNat,Int.reduceBEq,Int.reduceBNe,Int.reduceLT,Int.reduceGT,Int.reduceLE,Int.reduceGE,Int.reduceNeg,Int.reduceAdd,mulN,w3,w4,shrS (X:=R2) (s:=s) (by omega)]
            repeat (refine ⟨by first | rfl | decide | omega | (simp only [List.length_map,List.length_set,and_true]; omega),?_⟩)
            rw [fin.1,fin.2,hq0]
      · simp only [decide_eq_true_eq] at hq2
        have hd2:=hk2.down (.inl (by omega))
        rw [kY] at hd2
        obtain ⟨d1,d2,d3,d4,d5,d6⟩:=hd2
        have wa2 : IntKind.u64.wrap ((q2 : Int) - 1) = ((q2 - 1 : Nat) : Int):=by rw [IntKind.wrap_u64]; omega
        have wb2 : IntKind.u64.wrap (((rh2 + y1 : Nat)) : Int) = ((rh2 + y1 : Nat) : Int):=wrapN _ (by omega)
        cases hg2 : decide (rh2 + y1 ≥ 4294967296)
        · simp only [decide_eq_false_iff_not] at hg2
          have done2:=ih2 (q2 - 1,rh2 + y1) (d6 (by omega)) (by simp only; omega)
          simp only [dv2] at done2
          simp only [AH.SD,AH.SE,AOp.call?,AOp.next?,bstep,AV.cells,unAV,binAV,retQ,retV,AH.sliceElems,AH.bytesOf,AH.strOp,AH.bound,AH.missQ,AH.minmaxAV,AH.readOf,AH.effOf,Nat.reduceBEq,Nat.reduceAdd,Nat.reduceLT,↓reduceIte,Nat.reduceEqDiff,Nat.reduceLeDiff,Nat.reduceSub,Nat.reduceMul,Int.reduceSub,Int.reduceToNat,Int.reduceBEq,Int.reduceBNe,Int.reduceLT,Int.reduceGT,Int.reduceLE,Int.reduceGE,Int.reduceNeg,Int.reduceAdd,hq2,wa2,addN,wb2,geW,hg2]
          refine gc_auto [] [18,17,16,15,14,10,9,8,2] [] ?_
          simp only [AH.SD,AH.SE,AOp.call?,AOp.next?,bstep,AV.cells,unAV,binAV,retQ,retV,AH.sliceElems,AH.bytesOf,AH.strOp,AH.bound,AH.missQ,AH.minmaxAV,AH.readOf,AH.effOf,Nat.reduceBEq,Nat.reduceAdd,Nat.reduceLT,↓reduceIte,Nat.reduceEqDiff,Nat.reduceLeDiff,Nat.reduceSub,Nat.reduceMul,Int.reduceSub,Int.reduceToNat,Int.reduceBEq,Int.reduceBNe,Int.reduceLT,Int.reduceGT,Int.reduceLE,Int.reduceGE,Int.reduceNeg,Int.reduceAdd,AH.SP,AH.PD,AV.inB,vstep]
          exact done2
        · simp only [decide_eq_true_eq] at hg2
          have hq0 : q2 - 1 = qz:=by have:=d5 (by omega); omega
          simp only [AH.SD,AH.SE,AOp.call?,AOp.next?,bstep,AV.cells,unAV,binAV,retQ,retV,AH.sliceElems,AH.bytesOf,AH.strOp,AH.bound,AH.missQ,AH.minmaxAV,AH.readOf,AH.effOf,Nat.reduceBEq,Nat.reduceAdd,Nat.reduceLT,↓reduceIte,Nat.reduceEqDiff,Nat.reduceLeDiff,Nat.reduceSub,Nat.reduceMul,Int.reduceSub,Int.reduceToNat,Int.reduceBEq,Int.reduceBNe,Int.reduceLT,Int.reduceGT,Int.reduceLE,Int.reduceGE,Int.reduceNeg,Int.reduceAdd,hq2,wa2,addN,wb2,geW,hg2]
          have w3 : IntKind.u64.wrap (IntKind.u64.wrap (IntKind.u64.wrap ((R : Int) * 4294967296) + (u0 : Int)) - IntKind.u64.wrap (((q2 - 1) * Y : Nat) : Int)) = ((R2 : Nat) : Int):=by
            rw [hq0]
            rw [IntKind.wrap_u64,IntKind.wrap_u64,IntKind.wrap_u64,IntKind.wrap_u64]
            omega
          have w4 : IntKind.u64.wrap (IntKind.u64.wrap ((qt : Int) * 4294967296) + (((q2 - 1) : Nat) : Int)) = ((qt * 4294967296 + (q2 - 1) : Nat) : Int):=by
            rw [hq0]
            rw [IntKind.wrap_u64,IntKind.wrap_u64]
            omega
          simp only [AH.SD,AH.SE,AOp.call?,AOp.next?,bstep,AV.cells,unAV,binAV,retQ,retV,AH.sliceElems,AH.bytesOf,AH.strOp,AH.bound,AH.missQ,AH.minmaxAV,AH.readOf,AH.effOf,Nat.reduceBEq,Nat.reduceAdd,Nat.reduceLT,↓reduceIte,Nat.reduceEqDiff,Nat.reduceLeDiff,Nat.reduceSub,Nat.reduceMul,Int.reduceSub,Int.reduceToNat,Int.reduceBEq,Int.reduceBNe,Int.reduceLT,Int.reduceGT,Int.reduceLE,Int.reduceGE,Int.reduceNeg,Int.reduceAdd,mulN,w3,w4,shrS (X:=R2) (s:=s) (by omega)]
          repeat (refine ⟨by first | rfl | decide | omega | (simp only [List.length_map,List.length_set,and_true]; omega),?_⟩)
          rw [fin.1,fin.2,hq0]
end Go.Proofs.YtkbjfhkhbcgkgaaDoor.B33
