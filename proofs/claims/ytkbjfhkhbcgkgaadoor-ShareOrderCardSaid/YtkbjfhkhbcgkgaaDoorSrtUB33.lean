import Derived.Test.YtkbjfhkhbcgkgaaDoorSrtTB33
import Derived.Test.YtkbjfhkhbcgkgaaDoorSrtRB33
open Go AH
set_option linter.unusedSimpArgs false
set_option maxRecDepth 100000
namespace Go.Proofs.YtkbjfhkhbcgkgaaDoor.B33
theorem get_A {X A B Y : List Int} {k : Nat} (h1 : X.length ≤ k) (h2 : k < X.length + A.length) : (X ++ (A ++ (B ++ Y))).getD k 0 = A.getD (k - X.length) 0:=by
  rw [List.getD_eq_getElem?_getD,List.getD_eq_getElem?_getD,List.getElem?_append_right h1,List.getElem?_append_left (by omega)]
theorem get_B {X A B Y : List Int} {k : Nat} (h1 : X.length + A.length ≤ k) (h2 : k < X.length + A.length + B.length) : (X ++ (A ++ (B ++ Y))).getD k 0 = B.getD (k - X.length - A.length) 0:=by
  rw [List.getD_eq_getElem?_getD,List.getD_eq_getElem?_getD,List.getElem?_append_right (by omega),List.getElem?_append_right (by omega),List.getElem?_append_left (by omega)]
theorem getD_i {l : List Int} {k : Nat} (h : k < l.length) : l.getD k 0 = l[k]:=by rw [List.getD_eq_getElem?_getD,List.getElem?_eq_getElem h]; rfl
theorem mid_lem {i j : Nat} (h : i + j ≤ 4194304) : IntKind.i64.wrap ((IntKind.u64.wrap (IntKind.i64.wrap ((i : Int) + (j : Int)))).fdiv (2 ^ min 1 IntKind.u64.bits)) = (((i + j) / 2 : Nat) : Int):=by
  have e1 : IntKind.i64.wrap ((i : Int) + (j : Int)) = ((i + j : Nat) : Int):=by rw [IntKind.wrap_i64]; omega
  have e2 : IntKind.u64.wrap ((i + j : Nat) : Int) = ((i + j : Nat) : Int):=by rw [IntKind.wrap_u64]; omega
  have e3 : (2 : Int) ^ min 1 IntKind.u64.bits = 2:=by decide
  rw [e1,e2,e3,Int.fdiv_eq_ediv_of_nonneg _ (by decide),IntKind.wrap_i64]
  omega
theorem mv_at {X L R : List Int} {x y : Int} : ((X ++ (L ++ x :: (y :: R))).set (X.length + L.length) y).set (X.length + L.length + 1) x = X ++ ((L ++ [y]) ++ x :: R):=by
  rw [List.set_append_right _ _ (by omega),show X.length + L.length - X.length = L.length by omega,List.set_append_right _ _ (Nat.le_refl _),Nat.sub_self,List.set_cons_zero,List.set_append_right _ _ (by omega),show X.length + L.length + 1 - X.length = L.length + 1 by omega,List.set_append_right _ _ (by omega),show L.length + 1 - L.length = 1 by omega]
  simp
set_option maxRecDepth 100000 in
theorem sym_l {TT : List (FuncId × RT)} {U : List (FuncId × UT)} (ok : CtxOK S0 (ctxU S0 TT U)) {fg : FuncId} {capd : List AV} {c : Int → Int → Int} (h : Ord c) (P : Int → Prop) {m : Mem} {id : Nat} (hid : id < m.length) {ft : List Nat}
    (hr : ∀ (l : List Int) x y,P x → P y → appT (.int .i64 x :: .int .i64 y :: capd) (mget (MI m id l)) (lookT TT fg) = some (.int .i64 (c x y),ft))
    (X B Y : List Int) (x : Int) (hB : 0 < B.length) (sB : Srtd c B) (hP : ∀ y ∈ X ++ ([x] ++ (B ++ Y)),P y) {n a mm b : Nat} (hn : n = (X ++ ([x] ++ (B ++ Y))).length) (hn2 : n ≤ 1048576) (ha : a = X.length) (hm : mm = a + 1) (hb : b = mm + B.length) :
    CallA1 S0 73 [.slc id 0 n none,.int .i64 a,.int .i64 mm,.int .i64 b,.fn fg [] capd] (MI m id (X ++ ([x] ++ (B ++ Y)))) fun r m' =>r = .tup [] ∧ m' = MI m id (X ++ (mrg c [x] B ++ Y)):=by
  have hfr : ∀ (l : List Int) (e : Eff),e.foot = [id] → okFresh (MI m id l).length e = true:=fun l e h =>by
    unfold okFresh
    rw [h,MI,mset_lenF _ _ _ hid]
    have : [id].contains m.length = false:=by simp; omega
    rw [this]; rfl
  obtain ⟨D,hD⟩ : ∃ D,D = X ++ ([x] ++ (B ++ Y)):=⟨_,rfl⟩
  rw [← hD] at hP hn ⊢
  have hDl : D.length = X.length + 1 + B.length + Y.length:=by rw [hD]; simp; omega
  have k1 : ((IntKind.i64.wrap ((mm : Int) - (a : Int))) == 1) = true:=by rw [IntKind.wrap_i64]; simp; omega
  refine fun_sound ok Tryd.func73 c73 ?_
  unfold wpF F73
  simp only [AH.SD,AH.SE,AOp.call?,AOp.next?,bstep,AV.cells,unAV,binAV,retQ,retV,AH.sliceElems,AH.bytesOf,AH.strOp,AH.bound,AH.missQ,AH.minmaxAV,AH.readOf,AH.effOf,Nat.reduceBEq,Nat.reduceAdd,Nat.reduceLT,↓reduceIte,Nat.reduceEqDiff,Nat.reduceLeDiff,Nat.reduceSub,Nat.reduceMul,Int.reduceSub,Int.reduceToNat,Int.reduceBEq,Int.reduceBNe,Int.reduceLT,Int.reduceGT,Int.reduceLE,Int.reduceGE,Int.reduceNeg,Int.reduceAdd,k1]
  refine loop_rule (α:=Nat × Nat) (fun z =>z.2 - z.1) (fun z =>⟨[(11,.int .i64 z.2),(10,.int .i64 z.1),(4,.fn fg [] capd),(1,.int .i64 a),(0,.slc id 0 n none)],MI m id D⟩)
    (fun z =>mm ≤ z.1 ∧ z.1 ≤ z.2 ∧ z.2 ≤ b ∧ (z.1 = mm ∨ c (D.getD (z.1 - 1) 0) x < 0) ∧ (z.2 = b ∨ ¬ c (D.getD z.2 0) x < 0)) (mm,b) ⟨Nat.le_refl _,by simp only; omega,Nat.le_refl _,.inl rfl,.inl rfl⟩
    (gc_keep (l:=[(11,.int .i64 b),(10,.int .i64 mm),(4,.fn fg [] capd),(1,.int .i64 a),(0,.slc id 0 n none)]) ⟨rfl,rfl,rfl,rfl,rfl,trivial⟩ rfl) ?_
  rintro Z ⟨i,j⟩ ⟨hi,hij,hj,q1,q2⟩ ih
  simp only at hi hij hj q1 q2
  simp only [AH.SD,AH.SE,AOp.call?,AOp.next?,bstep,AV.cells,unAV,binAV,retQ,retV,AH.sliceElems,AH.bytesOf,AH.strOp,AH.bound,AH.missQ,AH.minmaxAV,AH.readOf,AH.effOf,Nat.reduceBEq,Nat.reduceAdd,Nat.reduceLT,↓reduceIte,Nat.reduceEqDiff,Nat.reduceLeDiff,Nat.reduceSub,Nat.reduceMul,Int.reduceSub,Int.reduceToNat,Int.reduceBEq,Int.reduceBNe,Int.reduceLT,Int.reduceGT,Int.reduceLE,Int.reduceGE,Int.reduceNeg,Int.reduceAdd]
  refine ⟨fun hlt => ?_,fun hlt => ?_⟩
  · have hlt:=lt_of_dec hlt
    have hm2:=mid_lem (i:=i) (j:=j) (by omega)
    obtain ⟨g,hg⟩ : ∃ g,g = (i + j) / 2:=⟨_,rfl⟩
    rw [← hg] at hm2
    have hg1 : i ≤ g:=by omega
    have hg2 : g < j:=by omega
    have kG : g < D.length:=by omega
    have kA : a < D.length:=by omega
    have eA : D[a] = x:=by
      rw [← getD_i kA,hD,get_A (by omega) (by simp; omega),ha,Nat.sub_self]; rfl
    have pG : P D[g]:=hP _ (List.getElem_mem kG)
    have pA : P D[a]:=hP _ (List.getElem_mem kA)
    have hrr:=hr D _ _ pG pA
    have eG:=getD_i kG
    have wg:=wrapS (i:=g) (by omega)
    rw [eA] at hrr
    have lD : (D.map intC).length = D.length:=List.length_map ..
    simp only [AH.SD,AH.SE,AOp.call?,AOp.next?,bstep,AV.cells,unAV,binAV,retQ,retV,AH.sliceElems,AH.bytesOf,AH.strOp,AH.bound,AH.missQ,AH.minmaxAV,AH.readOf,AH.effOf,Nat.reduceBEq,Nat.reduceAdd,Nat.reduceLT,↓reduceIte,Nat.reduceEqDiff,Nat.reduceLeDiff,Nat.reduceSub,Nat.reduceMul,Int.reduceSub,Int.reduceToNat,Int.reduceBEq,Int.reduceBNe,Int.reduceLT,Int.reduceGT,Int.reduceLE,Int.reduceGE,Int.reduceNeg,Int.reduceAdd,mget_MI,hfr,hm2,getD_enc,kG,kA,intC_eq,eA,hrr,lD]
    repeat (refine ⟨by first | rfl | decide | omega | (simp only [List.length_map,List.length_set,and_true]; omega),?_⟩)
    cases hc : decide (c D[g] x < 0)
    · have hc2 : ¬ c D[g] x < 0:=by simpa using hc
      simp only [AH.SD,AH.SE,AOp.call?,AOp.next?,bstep,AV.cells,unAV,binAV,retQ,retV,AH.sliceElems,AH.bytesOf,AH.strOp,AH.bound,AH.missQ,AH.minmaxAV,AH.readOf,AH.effOf,Nat.reduceBEq,Nat.reduceAdd,Nat.reduceLT,↓reduceIte,Nat.reduceEqDiff,Nat.reduceLeDiff,Nat.reduceSub,Nat.reduceMul,Int.reduceSub,Int.reduceToNat,Int.reduceBEq,Int.reduceBNe,Int.reduceLT,Int.reduceGT,Int.reduceLE,Int.reduceGE,Int.reduceNeg,Int.reduceAdd,hc]
      repeat (refine ⟨by first | rfl | decide | omega | (simp only [List.length_map,List.length_set,and_true]; omega),?_⟩)
      refine gc_keep (l:=[(11,.int .i64 g),(10,.int .i64 i),(4,.fn fg [] capd),(1,.int .i64 a),(0,.slc id 0 n none)]) ⟨rfl,rfl,rfl,rfl,rfl,trivial⟩ ?_
      exact ih (i,g) ⟨hi,hg1,by simp only; omega,q1,.inr (by rw [eG]; exact hc2)⟩ (by simp only; omega)
    · have hc2 : c D[g] x < 0:=by simpa using hc
      simp only [AH.SD,AH.SE,AOp.call?,AOp.next?,bstep,AV.cells,unAV,binAV,retQ,retV,AH.sliceElems,AH.bytesOf,AH.strOp,AH.bound,AH.missQ,AH.minmaxAV,AH.readOf,AH.effOf,Nat.reduceBEq,Nat.reduceAdd,Nat.reduceLT,↓reduceIte,Nat.reduceEqDiff,Nat.reduceLeDiff,Nat.reduceSub,Nat.reduceMul,Int.reduceSub,Int.reduceToNat,Int.reduceBEq,Int.reduceBNe,Int.reduceLT,Int.reduceGT,Int.reduceLE,Int.reduceGE,Int.reduceNeg,Int.reduceAdd,hc,wg]
      repeat (refine ⟨by first | rfl | decide | omega | (simp only [List.length_map,List.length_set,and_true]; omega),?_⟩)
      refine gc_keep (l:=[(11,.int .i64 j),(10,.int .i64 ((g + 1 : Nat) : Int)),(4,.fn fg [] capd),(1,.int .i64 a),(0,.slc id 0 n none)]) ⟨rfl,rfl,rfl,rfl,rfl,trivial⟩ ?_
      exact ih (g + 1,j) ⟨by simp only; omega,by simp only; omega,hj,.inr (by rw [Nat.add_sub_cancel,eG]; exact hc2),q2⟩ (by simp only; omega)
  · have hge:=ge_of_dec hlt
    obtain rfl : i = j:=by omega
    clear ih
    obtain ⟨q,hq⟩ : ∃ q,i = mm + q:=⟨i - mm,by omega⟩
    have e0 : D = X ++ (B.take 0 ++ x :: (B.drop 0 ++ Y)):=by rw [hD]; simp
    have eF : X ++ (mrg c [x] B ++ Y) = X ++ (B.take q ++ x :: (B.drop q ++ Y)):=by
      rw [one_l_fin h sB (j:=q) (by omega) ?_ ?_]
      · simp
      · rcases q2 with q2 | q2
        · exact .inl (by omega)
        · by_cases hz : q = B.length
          · exact .inl hz
          · rw [hD,get_B (by simp; omega) (by simp; omega)] at q2
            rw [show i - X.length - [x].length = q by simp; omega] at q2
            exact .inr q2
      · rcases q1 with q1 | q1
        · exact .inl (by omega)
        · by_cases hz : q = 0
          · exact .inl hz
          · rw [hD,get_B (by simp; omega) (by simp; omega)] at q1
            rw [show i - 1 - X.length - [x].length = q - 1 by simp; omega] at q1
            exact .inr q1
    rw [eF]
    simp only [AH.SD,AH.SE,AOp.call?,AOp.next?,bstep,AV.cells,unAV,binAV,retQ,retV,AH.sliceElems,AH.bytesOf,AH.strOp,AH.bound,AH.missQ,AH.minmaxAV,AH.readOf,AH.effOf,Nat.reduceBEq,Nat.reduceAdd,Nat.reduceLT,↓reduceIte,Nat.reduceEqDiff,Nat.reduceLeDiff,Nat.reduceSub,Nat.reduceMul,Int.reduceSub,Int.reduceToNat,Int.reduceBEq,Int.reduceBNe,Int.reduceLT,Int.reduceGT,Int.reduceLE,Int.reduceGE,Int.reduceNeg,Int.reduceAdd]
    refine loop_rule (α:=Nat) (fun k =>q - k) (fun k =>⟨[(13,.int .i64 ((a + k : Nat) : Int)),(10,.int .i64 i),(0,.slc id 0 n none)],MI m id (X ++ (B.take k ++ x :: (B.drop k ++ Y)))⟩) (fun k =>k ≤ q) 0 (Nat.zero_le _)
      (by rw [← e0]; exact gc_keep (l:=[(13,.int .i64 a),(10,.int .i64 i),(0,.slc id 0 n none)]) ⟨rfl,rfl,rfl,trivial⟩ rfl) ?_
    intro W k hk ih
    have wi : IntKind.i64.wrap ((i : Int) - 1) = ((i - 1 : Nat) : Int):=by rw [IntKind.wrap_i64]; omega
    simp only [AH.SD,AH.SE,AOp.call?,AOp.next?,bstep,AV.cells,unAV,binAV,retQ,retV,AH.sliceElems,AH.bytesOf,AH.strOp,AH.bound,AH.missQ,AH.minmaxAV,AH.readOf,AH.effOf,Nat.reduceBEq,Nat.reduceAdd,Nat.reduceLT,↓reduceIte,Nat.reduceEqDiff,Nat.reduceLeDiff,Nat.reduceSub,Nat.reduceMul,Int.reduceSub,Int.reduceToNat,Int.reduceBEq,Int.reduceBNe,Int.reduceLT,Int.reduceGT,Int.reduceLE,Int.reduceGE,Int.reduceNeg,Int.reduceAdd,wi]
    refine ⟨fun hlt => ?_,fun hlt => ?_⟩
    · have hl2:=lt_of_dec hlt
      have hkB : k < B.length:=by omega
      have wk:=wrapS (i:=a + k) (by omega)
      obtain ⟨E,hE⟩ : ∃ E,E = X ++ (B.take k ++ x :: (B.drop k ++ Y)):=⟨_,rfl⟩
      have hE2 : E = X ++ (B.take k ++ x :: (B[k] :: (B.drop (k + 1) ++ Y))):=by rw [hE,List.drop_eq_getElem_cons hkB,List.cons_append]
      have lT : (B.take k).length = k:=by rw [List.length_take]; omega
      have hEl : E.length = D.length:=by rw [hE,hDl]; simp; omega
      have kA : a + k < E.length:=by omega
      have kB : a + k + 1 < E.length:=by omega
      have gA : E[a + k] = x:=by
        rw [← getD_i kA,hE2,List.getD_eq_getElem?_getD,List.getElem?_append_right (by omega),List.getElem?_append_right (by omega),show a + k - X.length - (B.take k).length = 0 by omega]; rfl
      have gB : E[a + k + 1] = B[k]:=by
        rw [← getD_i kB,hE2,List.getD_eq_getElem?_getD,List.getElem?_append_right (by omega),List.getElem?_append_right (by omega),show a + k + 1 - X.length - (B.take k).length = 1 by omega]; rfl
      have eS : (E.set (a + k) B[k]).set (a + k + 1) x = X ++ (B.take (k + 1) ++ x :: (B.drop (k + 1) ++ Y)):=by
        have:=mv_at (X:=X) (L:=B.take k) (R:=B.drop (k + 1) ++ Y) (x:=x) (y:=B[k])
        rw [lT,← ha,← hE2] at this
        rw [this,List.take_succ_eq_append_getElem hkB]
      rw [← hE]
      simp only [AH.SD,AH.SE,AOp.call?,AOp.next?,bstep,AV.cells,unAV,binAV,retQ,retV,AH.sliceElems,AH.bytesOf,AH.strOp,AH.bound,AH.missQ,AH.minmaxAV,AH.readOf,AH.effOf,Nat.reduceBEq,Nat.reduceAdd,Nat.reduceLT,↓reduceIte,Nat.reduceEqDiff,Nat.reduceLeDiff,Nat.reduceSub,Nat.reduceMul,Int.reduceSub,Int.reduceToNat,Int.reduceBEq,Int.reduceBNe,Int.reduceLT,Int.reduceGT,Int.reduceLE,Int.reduceGE,Int.reduceNeg,Int.reduceAdd,mget_MI,wk,getD_enc,kA,kB,intC_eq,gA,gB,hfr,setC,mset_MI,eS]
      repeat (refine ⟨by first | rfl | decide | omega | (simp only [List.length_map,List.length_set,and_true]; omega),?_⟩)
      refine gc_keep (l:=[(13,.int .i64 ((a + k + 1 : Nat) : Int)),(10,.int .i64 i),(0,.slc id 0 n none)]) ⟨rfl,rfl,rfl,trivial⟩ ?_
      exact ih (k + 1) (by omega) (by omega)
    · have hge2:=ge_of_dec hlt
      obtain rfl : k = q:=by omega
      simp only [AH.SD,AH.SE,AOp.call?,AOp.next?,bstep,AV.cells,unAV,binAV,retQ,retV,AH.sliceElems,AH.bytesOf,AH.strOp,AH.bound,AH.missQ,AH.minmaxAV,AH.readOf,AH.effOf,Nat.reduceBEq,Nat.reduceAdd,Nat.reduceLT,↓reduceIte,Nat.reduceEqDiff,Nat.reduceLeDiff,Nat.reduceSub,Nat.reduceMul,Int.reduceSub,Int.reduceToNat,Int.reduceBEq,Int.reduceBNe,Int.reduceLT,Int.reduceGT,Int.reduceLE,Int.reduceGE,Int.reduceNeg,Int.reduceAdd]
end Go.Proofs.YtkbjfhkhbcgkgaaDoor.B33
