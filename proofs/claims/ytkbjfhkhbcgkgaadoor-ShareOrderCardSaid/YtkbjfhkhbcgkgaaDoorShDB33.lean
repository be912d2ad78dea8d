import Derived.Test.YtkbjfhkhbcgkgaaDoorShLB33
open Go AH
set_option linter.unusedSimpArgs false
set_option maxRecDepth 100000
namespace Go.Proofs.YtkbjfhkhbcgkgaaDoor.B33
def b8 (k : Nat) : Nat:=(([0,1,2,2,3,3,3,3,4,4,4,4,4,4,4,4,5,5,5,5,5,5,5,5,5,5,5,5,5,5,5,5,6,6,6,6,6,6,6,6,6,6,6,6,6,6,6,6,6,6,6,6,6,6,6,6,6,6,6,6,6,6,6,6,7,7,7,7,7,7,7,7,7,7,7,7,7,7,7,7,7,7,7,7,7,7,7,7,7,7,7,7,7,7,7,7,7,7,7,7,7,7,7,7,7,7,7,7,7,7,7,7,7,7,7,7,7,7,7,7,7,7,7,7,7,7,7,7,8,8,8,8,8,8,8,8,8,8,8,8,8,8,8,8,8,8,8,8,8,8,8,8,8,8,8,8,8,8,8,8,8,8,8,8,8,8,8,8,8,8,8,8,8,8,8,8,8,8,8,8,8,8,8,8,8,8,8,8,8,8,8,8,8,8,8,8,8,8,8,8,8,8,8,8,8,8,8,8,8,8,8,8,8,8,8,8,8,8,8,8,8,8,8,8,8,8,8,8,8,8,8,8,8,8,8,8,8,8,8,8,8,8,8,8,8,8,8,8,8,8,8,8,8,8,8,8] : List UInt8).getD k 0).toNat
theorem b8_tab : ∀ k : Fin 256,k.val = 0 ∨ (2 ^ b8 k.val ≤ 2 * k.val ∧ k.val < 2 ^ b8 k.val):=by decide +kernel
theorem b8_le : ∀ k : Fin 256,b8 k.val ≤ 8:=by decide +kernel
def g8 (x : Nat) : Nat:=bif decide (x ≥ 256) then 8 + b8 (x / 256) else b8 x
def g16 (x : Nat) : Nat:=bif decide (x ≥ 65536) then 16 + g8 (x / 65536) else g8 x
def len64 (x : Nat) : Nat:=bif decide (x ≥ 4294967296) then 32 + g16 (x / 4294967296) else g16 x
def LenP (x L : Nat) : Prop:=2 ^ L ≤ 2 * x ∧ x < 2 ^ L
theorem LenP.up {x L : Nat} (m : Nat) (h : LenP (x / 2 ^ m) L) : LenP x (m + L):=by
  obtain ⟨h1,h2⟩:=h
  have p : 0 < 2 ^ m:=Nat.two_pow_pos m
  have e : 2 ^ (m + L) = 2 ^ m * 2 ^ L:=Nat.pow_add ..
  constructor
  · rw [e]
    have:=Nat.mul_le_mul_left (2 ^ m) h1
    have q:=Nat.mul_div_le x (2 ^ m)
    have : 2 ^ m * (2 * (x / 2 ^ m)) = 2 * (2 ^ m * (x / 2 ^ m)):=by rw [← Nat.mul_assoc,Nat.mul_comm (2 ^ m) 2,Nat.mul_assoc]
    omega
  · rw [e]
    have:=(Nat.div_lt_iff_lt_mul p).1 h2
    rw [Nat.mul_comm]; exact this
theorem len64_P {x : Nat} (h0 : 0 < x) (h1 : x < 18446744073709551616) : LenP x (len64 x):=by
  have t8 : ∀ x,0 < x → x < 256 → LenP x (b8 x):=fun x h h' =>by
    rcases b8_tab ⟨x,h'⟩ with e | e
    · simp only at e; omega
    · exact e
  have t16 : ∀ x,0 < x → x < 65536 → LenP x (g8 x):=fun x h h' =>by
    unfold g8
    cases hc : decide (x ≥ 256)
    · simp only [decide_eq_false_iff_not] at hc
      exact t8 x h (by omega)
    · simp only [decide_eq_true_eq] at hc
      exact LenP.up 8 (t8 _ (by omega) (by omega))
  have t32 : ∀ x,0 < x → x < 4294967296 → LenP x (g16 x):=fun x h h' =>by
    unfold g16
    cases hc : decide (x ≥ 65536)
    · simp only [decide_eq_false_iff_not] at hc
      exact t16 x h (by omega)
    · simp only [decide_eq_true_eq] at hc
      exact LenP.up 16 (t16 _ (by omega) (by omega))
  unfold len64
  cases hc : decide (x ≥ 4294967296)
  · simp only [decide_eq_false_iff_not] at hc
    exact t32 x h0 (by omega)
  · simp only [decide_eq_true_eq] at hc
    exact LenP.up 32 (t32 _ (by omega) (by omega))
theorem shr16 (X : Nat) : (X : Int).fdiv (2 ^ min 16 IntKind.u64.bits) = ((X / 65536 : Nat) : Int):=by
  rw [show ((2 : Int) ^ min 16 IntKind.u64.bits) = 65536 by decide,Int.fdiv_eq_ediv_of_nonneg _ (by decide)]; omega
theorem shr8 (X : Nat) : (X : Int).fdiv (2 ^ min 8 IntKind.u64.bits) = ((X / 256 : Nat) : Int):=by
  rw [show ((2 : Int) ^ min 8 IntKind.u64.bits) = 256 by decide,Int.fdiv_eq_ediv_of_nonneg _ (by decide)]; omega
theorem ge32 (x : Nat) : decide ((x : Int) ≥ 4294967296) = decide (x ≥ 4294967296):=by rw [Bool.eq_iff_iff]; simp only [decide_eq_true_eq]; omega
theorem ge16 (x : Nat) : decide ((x : Int) ≥ 65536) = decide (x ≥ 65536):=by rw [Bool.eq_iff_iff]; simp only [decide_eq_true_eq]; omega
theorem ge8 (x : Nat) : decide ((x : Int) ≥ 256) = decide (x ≥ 256):=by rw [Bool.eq_iff_iff]; simp only [decide_eq_true_eq]; omega
theorem wrap_u8 {x : Nat} (h : x < 256) : IntKind.u8.wrap (x : Int) = (x : Int):=by
  have e : IntKind.u8.wrap (x : Int) = (x : Int) % 256:=by simp [IntKind.wrap,IntKind.bits,IntKind.signed]
  rw [e]; omega
theorem tab_in {x : Nat} (h : x < 256) : (0 ≤ (x : Int) ∧ (x : Int) < ((⟨#[0,1,2,2,3,3,3,3,4,4,4,4,4,4,4,4,5,5,5,5,5,5,5,5,5,5,5,5,5,5,5,5,6,6,6,6,6,6,6,6,6,6,6,6,6,6,6,6,6,6,6,6,6,6,6,6,6,6,6,6,6,6,6,6,7,7,7,7,7,7,7,7,7,7,7,7,7,7,7,7,7,7,7,7,7,7,7,7,7,7,7,7,7,7,7,7,7,7,7,7,7,7,7,7,7,7,7,7,7,7,7,7,7,7,7,7,7,7,7,7,7,7,7,7,7,7,7,7,8,8,8,8,8,8,8,8,8,8,8,8,8,8,8,8,8,8,8,8,8,8,8,8,8,8,8,8,8,8,8,8,8,8,8,8,8,8,8,8,8,8,8,8,8,8,8,8,8,8,8,8,8,8,8,8,8,8,8,8,8,8,8,8,8,8,8,8,8,8,8,8,8,8,8,8,8,8,8,8,8,8,8,8,8,8,8,8,8,8,8,8,8,8,8,8,8,8,8,8,8,8,8,8,8,8,8,8,8,8,8,8,8,8,8,8,8,8,8,8,8,8,8,8,8,8,8,8]⟩ : ByteArray).size : Int)):=⟨by omega,by show (x : Int) < 256; omega⟩
theorem wrap_b8 {c : Int} {x : Nat} (h : x < 256) (h0 : 0 ≤ c) (hc : c ≤ 56) : IntKind.i64.wrap (c + IntKind.i64.wrap ((([0,1,2,2,3,3,3,3,4,4,4,4,4,4,4,4,5,5,5,5,5,5,5,5,5,5,5,5,5,5,5,5,6,6,6,6,6,6,6,6,6,6,6,6,6,6,6,6,6,6,6,6,6,6,6,6,6,6,6,6,6,6,6,6,7,7,7,7,7,7,7,7,7,7,7,7,7,7,7,7,7,7,7,7,7,7,7,7,7,7,7,7,7,7,7,7,7,7,7,7,7,7,7,7,7,7,7,7,7,7,7,7,7,7,7,7,7,7,7,7,7,7,7,7,7,7,7,7,8,8,8,8,8,8,8,8,8,8,8,8,8,8,8,8,8,8,8,8,8,8,8,8,8,8,8,8,8,8,8,8,8,8,8,8,8,8,8,8,8,8,8,8,8,8,8,8,8,8,8,8,8,8,8,8,8,8,8,8,8,8,8,8,8,8,8,8,8,8,8,8,8,8,8,8,8,8,8,8,8,8,8,8,8,8,8,8,8,8,8,8,8,8,8,8,8,8,8,8,8,8,8,8,8,8,8,8,8,8,8,8,8,8,8,8,8,8,8,8,8,8,8,8,8,8,8,8] : List UInt8).getD x 0).toNat : Int)) = c + (b8 x : Int):=by
  have:=b8_le ⟨x,h⟩
  have e : (([0,1,2,2,3,3,3,3,4,4,4,4,4,4,4,4,5,5,5,5,5,5,5,5,5,5,5,5,5,5,5,5,6,6,6,6,6,6,6,6,6,6,6,6,6,6,6,6,6,6,6,6,6,6,6,6,6,6,6,6,6,6,6,6,7,7,7,7,7,7,7,7,7,7,7,7,7,7,7,7,7,7,7,7,7,7,7,7,7,7,7,7,7,7,7,7,7,7,7,7,7,7,7,7,7,7,7,7,7,7,7,7,7,7,7,7,7,7,7,7,7,7,7,7,7,7,7,7,8,8,8,8,8,8,8,8,8,8,8,8,8,8,8,8,8,8,8,8,8,8,8,8,8,8,8,8,8,8,8,8,8,8,8,8,8,8,8,8,8,8,8,8,8,8,8,8,8,8,8,8,8,8,8,8,8,8,8,8,8,8,8,8,8,8,8,8,8,8,8,8,8,8,8,8,8,8,8,8,8,8,8,8,8,8,8,8,8,8,8,8,8,8,8,8,8,8,8,8,8,8,8,8,8,8,8,8,8,8,8,8,8,8,8,8,8,8,8,8,8,8,8,8,8,8,8,8] : List UInt8).getD x 0).toNat = b8 x:=rfl
  rw [e]
  simp only at this
  rw [IntKind.wrap_i64,IntKind.wrap_i64]; omega
theorem w24 : IntKind.i64.wrap 24 = 24:=by decide
theorem w40 : IntKind.i64.wrap 40 = 40:=by decide
theorem w48 : IntKind.i64.wrap 48 = 48:=by decide
theorem w56 : IntKind.i64.wrap 56 = 56:=by decide
set_option maxHeartbeats 2000000 in
theorem len64_ok (x : Nat) (hx : x < 18446744073709551616) : Pure S0 71 [.int .u64 x] (.int .i64 (len64 x)):=by
  refine fun_sound okZ Tryd.func71 c71 ?_
  unfold wpF F71
  cases h1 : decide (x ≥ 4294967296)
  · have p1:=h1
    simp only [decide_eq_false_iff_not] at p1
    cases h2 : decide (x ≥ 65536)
    · have p2:=h2
      simp only [decide_eq_false_iff_not] at p2
      cases h3 : decide (x ≥ 256)
      · have p3:=h3
        simp only [decide_eq_false_iff_not] at p3
        have hz : x < 256:=by omega
        simp only [AH.SD,AH.SE,AOp.call?,AOp.next?,bstep,AV.cells,unAV,binAV,retQ,retV,AH.sliceElems,AH.bytesOf,AH.strOp,AH.bound,AH.missQ,AH.minmaxAV,AH.readOf,AH.effOf,Nat.reduceBEq,Nat.reduceAdd,Nat.reduceLT,↓reduceIte,Nat.reduceEqDiff,Nat.reduceLeDiff,Nat.reduceSub,Nat.reduceMul,Int.reduceSub,Int.reduceToNat,Int.reduceBEq,Int.reduceBNe,Int.reduceLT,Int.reduceGT,Int.reduceLE,Int.reduceGE,Int.reduceNeg,Int.reduceAdd,ge32,ge16,ge8,shr32,shr16,shr8,h1,h2,h3,wrap_u8 hz,len64,g16,g8,cond_false,cond_true,Int.toNat_natCast,w24,w40,w48,w56]
        refine ⟨tab_in hz,?_⟩
        rw [wrap_b8 hz (by decide) (by decide)]
        congr 1 <;> omega
      · have p3:=h3
        simp only [decide_eq_true_eq] at p3
        have hz : x / 256 < 256:=by omega
        simp only [AH.SD,AH.SE,AOp.call?,AOp.next?,bstep,AV.cells,unAV,binAV,retQ,retV,AH.sliceElems,AH.bytesOf,AH.strOp,AH.bound,AH.missQ,AH.minmaxAV,AH.readOf,AH.effOf,Nat.reduceBEq,Nat.reduceAdd,Nat.reduceLT,↓reduceIte,Nat.reduceEqDiff,Nat.reduceLeDiff,Nat.reduceSub,Nat.reduceMul,Int.reduceSub,Int.reduceToNat,Int.reduceBEq,Int.reduceBNe,Int.reduceLT,Int.reduceGT,Int.reduceLE,Int.reduceGE,Int.reduceNeg,Int.reduceAdd,ge32,ge16,ge8,shr32,shr16,shr8,h1,h2,h3,wrap_u8 hz,len64,g16,g8,cond_false,cond_true,Int.toNat_natCast,w24,w40,w48,w56]
        refine ⟨tab_in hz,?_⟩
        rw [wrap_b8 hz (by decide) (by decide)]
        congr 1 <;> omega
    · have p2:=h2
      simp only [decide_eq_true_eq] at p2
      cases h3 : decide (x / 65536 ≥ 256)
      · have p3:=h3
        simp only [decide_eq_false_iff_not] at p3
        have hz : x / 65536 < 256:=by omega
        simp only [AH.SD,AH.SE,AOp.call?,AOp.next?,bstep,AV.cells,unAV,binAV,retQ,retV,AH.sliceElems,AH.bytesOf,AH.strOp,AH.bound,AH.missQ,AH.minmaxAV,AH.readOf,AH.effOf,Nat.reduceBEq,Nat.reduceAdd,Nat.reduceLT,↓reduceIte,Nat.reduceEqDiff,Nat.reduceLeDiff,Nat.reduceSub,Nat.reduceMul,Int.reduceSub,Int.reduceToNat,Int.reduceBEq,Int.reduceBNe,Int.reduceLT,Int.reduceGT,Int.reduceLE,Int.reduceGE,Int.reduceNeg,Int.reduceAdd,ge32,ge16,ge8,shr32,shr16,shr8,h1,h2,h3,wrap_u8 hz,len64,g16,g8,cond_false,cond_true,Int.toNat_natCast,w24,w40,w48,w56]
        refine ⟨tab_in hz,?_⟩
        rw [wrap_b8 hz (by decide) (by decide)]
        congr 1 <;> omega
      · have p3:=h3
        simp only [decide_eq_true_eq] at p3
        have hz : x / 65536 / 256 < 256:=by omega
        simp only [AH.SD,AH.SE,AOp.call?,AOp.next?,bstep,AV.cells,unAV,binAV,retQ,retV,AH.sliceElems,AH.bytesOf,AH.strOp,AH.bound,AH.missQ,AH.minmaxAV,AH.readOf,AH.effOf,Nat.reduceBEq,Nat.reduceAdd,Nat.reduceLT,↓reduceIte,Nat.reduceEqDiff,Nat.reduceLeDiff,Nat.reduceSub,Nat.reduceMul,Int.reduceSub,Int.reduceToNat,Int.reduceBEq,Int.reduceBNe,Int.reduceLT,Int.reduceGT,Int.reduceLE,Int.reduceGE,Int.reduceNeg,Int.reduceAdd,ge32,ge16,ge8,shr32,shr16,shr8,h1,h2,h3,wrap_u8 hz,len64,g16,g8,cond_false,cond_true,Int.toNat_natCast,w24,w40,w48,w56]
        refine ⟨tab_in hz,?_⟩
        rw [wrap_b8 hz (by decide) (by decide)]
        congr 1 <;> omega
  · have p1:=h1
    simp only [decide_eq_true_eq] at p1
    cases h2 : decide (x / 4294967296 ≥ 65536)
    · have p2:=h2
      simp only [decide_eq_false_iff_not] at p2
      cases h3 : decide (x / 4294967296 ≥ 256)
      · have p3:=h3
        simp only [decide_eq_false_iff_not] at p3
        have hz : x / 4294967296 < 256:=by omega
        simp only [AH.SD,AH.SE,AOp.call?,AOp.next?,bstep,AV.cells,unAV,binAV,retQ,retV,AH.sliceElems,AH.bytesOf,AH.strOp,AH.bound,AH.missQ,AH.minmaxAV,AH.readOf,AH.effOf,Nat.reduceBEq,Nat.reduceAdd,Nat.reduceLT,↓reduceIte,Nat.reduceEqDiff,Nat.reduceLeDiff,Nat.reduceSub,Nat.reduceMul,Int.reduceSub,Int.reduceToNat,Int.reduceBEq,Int.reduceBNe,Int.reduceLT,Int.reduceGT,Int.reduceLE,Int.reduceGE,Int.reduceNeg,Int.reduceAdd,ge32,ge16,ge8,shr32,shr16,shr8,h1,h2,h3,wrap_u8 hz,len64,g16,g8,cond_false,cond_true,Int.toNat_natCast,w24,w40,w48,w56]
        refine ⟨tab_in hz,?_⟩
        rw [wrap_b8 hz (by decide) (by decide)]
        congr 1 <;> omega
      · have p3:=h3
        simp only [decide_eq_true_eq] at p3
        have hz : x / 4294967296 / 256 < 256:=by omega
        simp only [AH.SD,AH.SE,AOp.call?,AOp.next?,bstep,AV.cells,unAV,binAV,retQ,retV,AH.sliceElems,AH.bytesOf,AH.strOp,AH.bound,AH.missQ,AH.minmaxAV,AH.readOf,AH.effOf,Nat.reduceBEq,Nat.reduceAdd,Nat.reduceLT,↓reduceIte,Nat.reduceEqDiff,Nat.reduceLeDiff,Nat.reduceSub,Nat.reduceMul,Int.reduceSub,Int.reduceToNat,Int.reduceBEq,Int.reduceBNe,Int.reduceLT,Int.reduceGT,Int.reduceLE,Int.reduceGE,Int.reduceNeg,Int.reduceAdd,ge32,ge16,ge8,shr32,shr16,shr8,h1,h2,h3,wrap_u8 hz,len64,g16,g8,cond_false,cond_true,Int.toNat_natCast,w24,w40,w48,w56]
        refine ⟨tab_in hz,?_⟩
        rw [wrap_b8 hz (by decide) (by decide)]
        congr 1 <;> omega
    · have p2:=h2
      simp only [decide_eq_true_eq] at p2
      cases h3 : decide (x / 4294967296 / 65536 ≥ 256)
      · have p3:=h3
        simp only [decide_eq_false_iff_not] at p3
        have hz : x / 4294967296 / 65536 < 256:=by omega
        simp only [AH.SD,AH.SE,AOp.call?,AOp.next?,bstep,AV.cells,unAV,binAV,retQ,retV,AH.sliceElems,AH.bytesOf,AH.strOp,AH.bound,AH.missQ,AH.minmaxAV,AH.readOf,AH.effOf,Nat.reduceBEq,Nat.reduceAdd,Nat.reduceLT,↓reduceIte,Nat.reduceEqDiff,Nat.reduceLeDiff,Nat.reduceSub,Nat.reduceMul,Int.reduceSub,Int.reduceToNat,Int.reduceBEq,Int.reduceBNe,Int.reduceLT,Int.reduceGT,Int.reduceLE,Int.reduceGE,Int.reduceNeg,Int.reduceAdd,ge32,ge16,ge8,shr32,shr16,shr8,h1,h2,h3,wrap_u8 hz,len64,g16,g8,cond_false,cond_true,Int.toNat_natCast,w24,w40,w48,w56]
        refine ⟨tab_in hz,?_⟩
        rw [wrap_b8 hz (by decide) (by decide)]
        congr 1 <;> omega
      · have p3:=h3
        simp only [decide_eq_true_eq] at p3
        have hz : x / 4294967296 / 65536 / 256 < 256:=by omega
        simp only [AH.SD,AH.SE,AOp.call?,AOp.next?,bstep,AV.cells,unAV,binAV,retQ,retV,AH.sliceElems,AH.bytesOf,AH.strOp,AH.bound,AH.missQ,AH.minmaxAV,AH.readOf,AH.effOf,Nat.reduceBEq,Nat.reduceAdd,Nat.reduceLT,↓reduceIte,Nat.reduceEqDiff,Nat.reduceLeDiff,Nat.reduceSub,Nat.reduceMul,Int.reduceSub,Int.reduceToNat,Int.reduceBEq,Int.reduceBNe,Int.reduceLT,Int.reduceGT,Int.reduceLE,Int.reduceGE,Int.reduceNeg,Int.reduceAdd,ge32,ge16,ge8,shr32,shr16,shr8,h1,h2,h3,wrap_u8 hz,len64,g16,g8,cond_false,cond_true,Int.toNat_natCast,w24,w40,w48,w56]
        refine ⟨tab_in hz,?_⟩
        rw [wrap_b8 hz (by decide) (by decide)]
        congr 1 <;> omega
end Go.Proofs.YtkbjfhkhbcgkgaaDoor.B33
