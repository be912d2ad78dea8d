import Derived.Test.YtkbjfhkhbcgkgaaDoorSrtNB33
import Derived.Test.YtkbjfhkhbcgkgaaDoorSrtWB33
open Go AH
set_option linter.unusedSimpArgs false
set_option maxRecDepth 100000
namespace Go.Proofs.YtkbjfhkhbcgkgaaDoor.B33
set_option maxRecDepth 100000 in
theorem stable2_ok {T : List (FuncId × RT)} {U : List (FuncId × UT)} (ok : CtxOK S0 (ctxU S0 T U)) (hT : lookT T 72 = none) (hU : lookU U 72 = none) (hT1 : lookT T 73 = none) (hU1 : lookU U 73 = none) (hT2 : lookT T 74 = none) (hU2 : lookU U 74 = none) (hT3 : lookT T 75 = none) (hU3 : lookU U 75 = none) {fg : FuncId} {capd : List AV} {c : Int → Int → Int} (h : Ord c) (P : Int → Prop) {m : Mem} {id : Nat} (hid : id < m.length) {ft : List Nat}
    (hr : ∀ (l : List Int) x y,P x → P y → appT (.int .i64 x :: .int .i64 y :: capd) (mget (MI m id l)) (lookT T fg) = some (.int .i64 (c x y),ft))
    {n : Nat} (h1 : 20 < n) (h2 : n < 40) (hP : ∀ y : Int,0 ≤ y → y < n → P y) :
    CallA1 S0 70 [.slc id 0 n none,.int .i64 n,.fn fg [] capd] (MI m id (outI n)) fun r m' =>r = .tup [] ∧ m' = MI m id (refO c n):=by
  obtain ⟨S1,S2,e1,e2,l1,l2,s1,s2,m1,m2,e3⟩:=stab_parts h h1
  have z0 : ((0 : Nat) : Int) = 0:=rfl
  have z20 : ((20 : Nat) : Int) = 20:=rfl
  have h20 : decide ((20 : Int) ≤ (n : Int)) = true:=decide_eq_true (by omega)
  have l20 : decide ((20 : Int) < (n : Int)) = true:=decide_eq_true (by omega)
  have h40 : decide ((40 : Int) ≤ (n : Int)) = false:=decide_eq_false (by omega)
  have l40 : decide ((40 : Int) < (n : Int)) = false:=decide_eq_false (by omega)
  have w40 : IntKind.i64.wrap 40 = 40:=by decide
  have w20 : IntKind.i64.wrap 20 = 20:=by decide
  have w220 : IntKind.i64.wrap (2 * 20) = 40:=by decide
  have w202 : IntKind.i64.wrap (20 * 2) = 40:=by decide
  have w020 : IntKind.i64.wrap (0 + 20) = 20:=by decide
  have hl3 : (S1 ++ upI 20 (n - 20)).length = n:=by rw [List.length_append,l1,upI_len]; omega
  have i1:=ins_ok ok c P hid hr (outI n) (fun y hy =>by
    rw [outI_up] at hy
    have:=(upI_mem _ _ _).1 hy
    exact hP y (by omega) (by omega)) (by rw [outI_len]; omega) 0 20 (Nat.zero_le _) (by rw [outI_len]; omega)
  rw [outI_len,z0,z20,show insL c 0 (outI n) (0 + 1) (20 - (0 + 1)) = S1 ++ upI 20 (n - 20) from e1] at i1
  have i2:=ins_ok ok c P hid hr (S1 ++ upI 20 (n - 20)) (fun y hy =>by
    rcases List.mem_append.1 hy with q | q
    · have:=(m1 y).1 q; exact hP y (by omega) (by omega)
    · have:=(upI_mem _ _ _).1 q; exact hP y (by omega) (by omega)) (by omega) 20 n (by omega) (by omega)
  rw [hl3,z20,show insL c 20 (S1 ++ upI 20 (n - 20)) (20 + 1) (n - (20 + 1)) = S1 ++ S2 from e2] at i2
  have i3:=sym_ok ok hT1 hU1 hT2 hU2 hT3 hU3 h P hid hr _ [] S1 S2 [] (Nat.le_refl _) (by omega) (by omega) (srt_of s1) (srt_of s2) (fun y hy =>by
    simp only [List.nil_append,List.append_nil,List.mem_append] at hy
    rcases hy with q | q
    · have:=(m1 y).1 q; exact hP y (by omega) (by omega)
    · have:=(m2 y).1 q; exact hP y (by omega) (by omega)) (n:=n) (a:=0) (mm:=20) (b:=n) (by simp [l1,l2]; omega) (by omega) rfl (by omega) (by omega)
  rw [List.nil_append,List.append_nil,List.nil_append,List.append_nil,e3,z0,z20] at i3
  refine fun_sound ok Tryd.func70 c70 ?_
  unfold wpF F70
  simp only [AH.SD,AH.SE,AOp.call?,AOp.next?,bstep,AV.cells,unAV,binAV,retQ,retV,AH.sliceElems,AH.bytesOf,AH.strOp,AH.bound,AH.missQ,AH.minmaxAV,AH.readOf,AH.effOf,Nat.reduceBEq,Nat.reduceAdd,Nat.reduceLT,↓reduceIte,Nat.reduceEqDiff,Nat.reduceLeDiff,Nat.reduceSub,Nat.reduceMul,Int.reduceSub,Int.reduceToNat,Int.reduceBEq,Int.reduceBNe,Int.reduceLT,Int.reduceGT,Int.reduceLE,Int.reduceGE,Int.reduceNeg,Int.reduceAdd,callR_none,hT,hU]
  refine loop_unroll ctxU_monoB ?_
  simp only [AH.SD,AH.SE,AOp.call?,AOp.next?,bstep,AV.cells,unAV,binAV,retQ,retV,AH.sliceElems,AH.bytesOf,AH.strOp,AH.bound,AH.missQ,AH.minmaxAV,AH.readOf,AH.effOf,Nat.reduceBEq,Nat.reduceAdd,Nat.reduceLT,↓reduceIte,Nat.reduceEqDiff,Nat.reduceLeDiff,Nat.reduceSub,Nat.reduceMul,Int.reduceSub,Int.reduceToNat,Int.reduceBEq,Int.reduceBNe,Int.reduceLT,Int.reduceGT,Int.reduceLE,Int.reduceGE,Int.reduceNeg,Int.reduceAdd,h20,hT,hU,hT1,hU1]
  refine i1.mono ?_
  rintro r m' ⟨rfl,rfl⟩
  simp only [AH.SD,AH.SE,AOp.call?,AOp.next?,bstep,AV.cells,unAV,binAV,retQ,retV,AH.sliceElems,AH.bytesOf,AH.strOp,AH.bound,AH.missQ,AH.minmaxAV,AH.readOf,AH.effOf,Nat.reduceBEq,Nat.reduceAdd,Nat.reduceLT,↓reduceIte,Nat.reduceEqDiff,Nat.reduceLeDiff,Nat.reduceSub,Nat.reduceMul,Int.reduceSub,Int.reduceToNat,Int.reduceBEq,Int.reduceBNe,Int.reduceLT,Int.reduceGT,Int.reduceLE,Int.reduceGE,Int.reduceNeg,Int.reduceAdd]
  refine loop_unroll ctxU_monoB ?_
  simp only [AH.SD,AH.SE,AOp.call?,AOp.next?,bstep,AV.cells,unAV,binAV,retQ,retV,AH.sliceElems,AH.bytesOf,AH.strOp,AH.bound,AH.missQ,AH.minmaxAV,AH.readOf,AH.effOf,Nat.reduceBEq,Nat.reduceAdd,Nat.reduceLT,↓reduceIte,Nat.reduceEqDiff,Nat.reduceLeDiff,Nat.reduceSub,Nat.reduceMul,Int.reduceSub,Int.reduceToNat,Int.reduceBEq,Int.reduceBNe,Int.reduceLT,Int.reduceGT,Int.reduceLE,Int.reduceGE,Int.reduceNeg,Int.reduceAdd,w40,h40,hT,hU,hT1,hU1]
  refine i2.mono ?_
  rintro r m' ⟨rfl,rfl⟩
  simp only [AH.SD,AH.SE,AOp.call?,AOp.next?,bstep,AV.cells,unAV,binAV,retQ,retV,AH.sliceElems,AH.bytesOf,AH.strOp,AH.bound,AH.missQ,AH.minmaxAV,AH.readOf,AH.effOf,Nat.reduceBEq,Nat.reduceAdd,Nat.reduceLT,↓reduceIte,Nat.reduceEqDiff,Nat.reduceLeDiff,Nat.reduceSub,Nat.reduceMul,Int.reduceSub,Int.reduceToNat,Int.reduceBEq,Int.reduceBNe,Int.reduceLT,Int.reduceGT,Int.reduceLE,Int.reduceGE,Int.reduceNeg,Int.reduceAdd]
  refine loop_unroll ctxU_monoB ?_
  simp only [AH.SD,AH.SE,AOp.call?,AOp.next?,bstep,AV.cells,unAV,binAV,retQ,retV,AH.sliceElems,AH.bytesOf,AH.strOp,AH.bound,AH.missQ,AH.minmaxAV,AH.readOf,AH.effOf,Nat.reduceBEq,Nat.reduceAdd,Nat.reduceLT,↓reduceIte,Nat.reduceEqDiff,Nat.reduceLeDiff,Nat.reduceSub,Nat.reduceMul,Int.reduceSub,Int.reduceToNat,Int.reduceBEq,Int.reduceBNe,Int.reduceLT,Int.reduceGT,Int.reduceLE,Int.reduceGE,Int.reduceNeg,Int.reduceAdd,l20,w40,w220,h40]
  refine loop_unroll ctxU_monoB ?_
  simp only [AH.SD,AH.SE,AOp.call?,AOp.next?,bstep,AV.cells,unAV,binAV,retQ,retV,AH.sliceElems,AH.bytesOf,AH.strOp,AH.bound,AH.missQ,AH.minmaxAV,AH.readOf,AH.effOf,Nat.reduceBEq,Nat.reduceAdd,Nat.reduceLT,↓reduceIte,Nat.reduceEqDiff,Nat.reduceLeDiff,Nat.reduceSub,Nat.reduceMul,Int.reduceSub,Int.reduceToNat,Int.reduceBEq,Int.reduceBNe,Int.reduceLT,Int.reduceGT,Int.reduceLE,Int.reduceGE,Int.reduceNeg,Int.reduceAdd,l20,w40,w20,w220,w020,h40,hT1,hU1]
  refine i3.mono ?_
  rintro r m' ⟨rfl,rfl⟩
  simp only [AH.SD,AH.SE,AOp.call?,AOp.next?,bstep,AV.cells,unAV,binAV,retQ,retV,AH.sliceElems,AH.bytesOf,AH.strOp,AH.bound,AH.missQ,AH.minmaxAV,AH.readOf,AH.effOf,Nat.reduceBEq,Nat.reduceAdd,Nat.reduceLT,↓reduceIte,Nat.reduceEqDiff,Nat.reduceLeDiff,Nat.reduceSub,Nat.reduceMul,Int.reduceSub,Int.reduceToNat,Int.reduceBEq,Int.reduceBNe,Int.reduceLT,Int.reduceGT,Int.reduceLE,Int.reduceGE,Int.reduceNeg,Int.reduceAdd,w40,w202,w220]
  refine loop_unroll ctxU_monoB ?_
  simp only [AH.SD,AH.SE,AOp.call?,AOp.next?,bstep,AV.cells,unAV,binAV,retQ,retV,AH.sliceElems,AH.bytesOf,AH.strOp,AH.bound,AH.missQ,AH.minmaxAV,AH.readOf,AH.effOf,Nat.reduceBEq,Nat.reduceAdd,Nat.reduceLT,↓reduceIte,Nat.reduceEqDiff,Nat.reduceLeDiff,Nat.reduceSub,Nat.reduceMul,Int.reduceSub,Int.reduceToNat,Int.reduceBEq,Int.reduceBNe,Int.reduceLT,Int.reduceGT,Int.reduceLE,Int.reduceGE,Int.reduceNeg,Int.reduceAdd,l40]
set_option maxRecDepth 100000 in
theorem sorts2_ok {T : List (FuncId × RT)} {U : List (FuncId × UT)} (ok : CtxOK S0 (ctxU S0 T U)) (hT : lookT T 72 = none) (hU : lookU U 72 = none) (hT1 : lookT T 73 = none) (hU1 : lookU U 73 = none) (hT2 : lookT T 74 = none) (hU2 : lookU U 74 = none) (hT3 : lookT T 75 = none) (hU3 : lookU U 75 = none) (hT4 : lookT T 70 = none) (hU4 : lookU U 70 = none) {fg : FuncId} {capd : List AV} {c : Int → Int → Int} (h : Ord c) (P : Int → Prop) {m : Mem} {id : Nat} (hid : id < m.length) {ft : List Nat}
    (hr : ∀ (l : List Int) x y,P x → P y → appT (.int .i64 x :: .int .i64 y :: capd) (mget (MI m id l)) (lookT T fg) = some (.int .i64 (c x y),ft))
    {n : Nat} (h1 : 20 < n) (h2 : n < 40) (hP : ∀ y : Int,0 ≤ y → y < n → P y) :
    CallA1 S0 60 [.slc id 0 n none,.fn fg [] capd] (MI m id (outI n)) fun r m' =>r = .tup [] ∧ m' = MI m id (refO c n):=by
  refine fun_sound ok Tryd.func60 c60 ?_
  unfold wpF F60
  simp only [AH.SD,AH.SE,AOp.call?,AOp.next?,bstep,AV.cells,unAV,binAV,retQ,retV,AH.sliceElems,AH.bytesOf,AH.strOp,AH.bound,AH.missQ,AH.minmaxAV,AH.readOf,AH.effOf,Nat.reduceBEq,Nat.reduceAdd,Nat.reduceLT,↓reduceIte,Nat.reduceEqDiff,Nat.reduceLeDiff,Nat.reduceSub,Nat.reduceMul,Int.reduceSub,Int.reduceToNat,Int.reduceBEq,Int.reduceBNe,Int.reduceLT,Int.reduceGT,Int.reduceLE,Int.reduceGE,Int.reduceNeg,Int.reduceAdd,callR_none,hT4,hU4]
  refine (stable2_ok ok hT hU hT1 hU1 hT2 hU2 hT3 hU3 h P hid hr h1 h2 hP).mono ?_
  rintro r m' ⟨rfl,rfl⟩
  simp only [AH.SD,AH.SE,AOp.call?,AOp.next?,bstep,AV.cells,unAV,binAV,retQ,retV,AH.sliceElems,AH.bytesOf,AH.strOp,AH.bound,AH.missQ,AH.minmaxAV,AH.readOf,AH.effOf,Nat.reduceBEq,Nat.reduceAdd,Nat.reduceLT,↓reduceIte,Nat.reduceEqDiff,Nat.reduceLeDiff,Nat.reduceSub,Nat.reduceMul,Int.reduceSub,Int.reduceToNat,Int.reduceBEq,Int.reduceBNe,Int.reduceLT,Int.reduceGT,Int.reduceLE,Int.reduceGE,Int.reduceNeg,Int.reduceAdd]
end Go.Proofs.YtkbjfhkhbcgkgaaDoor.B33
