import Derived.Test.YtkbjfhkhbcgkgaaDoorSrtUB33
open Go AH
set_option linter.unusedSimpArgs false
set_option maxRecDepth 100000
namespace Go.Proofs.YtkbjfhkhbcgkgaaDoor.B33
theorem mv_back {X L R : List Int} {z y : Int} : ((X ++ (L ++ z :: (y :: R))).set (X.length + L.length + 1) z).set (X.length + L.length) y = X ++ (L ++ y :: (z :: R)):=by
  rw [List.set_append_right _ _ (by omega),show X.length + L.length + 1 - X.length = L.length + 1 by omega,List.set_append_right _ _ (by omega),show X.length + L.length - X.length = L.length by omega,List.set_append_right _ _ (by omega),show L.length + 1 - L.length = 1 by omega,List.set_cons_succ,List.set_cons_zero,List.set_append_right _ _ (Nat.le_refl _),Nat.sub_self,List.set_cons_zero]
set_option maxRecDepth 100000 in
theorem sym_r {TT : List (FuncId × RT)} {U : List (FuncId × UT)} (ok : CtxOK S0 (ctxU S0 TT U)) {fg : FuncId} {capd : List AV} {c : Int → Int → Int} (h : Ord c) (P : Int → Prop) {m : Mem} {id : Nat} (hid : id < m.length) {ft : List Nat}
    (hr : ∀ (l : List Int) x y,P x → P y → appT (.int .i64 x :: .int .i64 y :: capd) (mget (MI m id l)) (lookT TT fg) = some (.int .i64 (c x y),ft))
    (X A Y : List Int) (y : Int) (hA : 1 < A.length) (sA : Srtd c A) (hP : ∀ x ∈ X ++ (A ++ ([y] ++ Y)),P x) {n a mm b : Nat} (hn : n = (X ++ (A ++ ([y] ++ Y))).length) (hn2 : n ≤ 1048576) (ha : a = X.length) (hm : mm = a + A.length) (hb : b = mm + 1) :
    CallA1 S0 73 [.slc id 0 n none,.int .i64 a,.int .i64 mm,.int .i64 b,.fn fg [] capd] (MI m id (X ++ (A ++ ([y] ++ Y)))) fun r m' =>r = .tup [] ∧ m' = MI m id (X ++ (mrg c A [y] ++ Y)):=by
  have hfr : ∀ (l : List Int) (e : Eff),e.foot = [id] → okFresh (MI m id l).length e = true:=fun l e h =>by
    unfold okFresh
    rw [h,MI,mset_lenF _ _ _ hid]
    have : [id].contains m.length = false:=by simp; omega
    rw [this]; rfl
  obtain ⟨D,hD⟩ : ∃ D,D = X ++ (A ++ ([y] ++ Y)):=⟨_,rfl⟩
  rw [← hD] at hP hn ⊢
  have hDl : D.length = X.length + A.length + 1 + Y.length:=by rw [hD]; simp; omega
  have k1 : ((IntKind.i64.wrap ((mm : Int) - (a : Int))) == 1) = false:=by rw [IntKind.wrap_i64]; simp; omega
  have k2 : ((IntKind.i64.wrap ((b : Int) - (mm : Int))) == 1) = true:=by rw [IntKind.wrap_i64]; simp; omega
  refine fun_sound ok Tryd.func73 c73 ?_
  unfold wpF F73
  simp only [AH.SD,AH.SE,AOp.call?,AOp.next?,bstep,AV.cells,unAV,binAV,retQ,retV,AH.sliceElems,AH.bytesOf,AH.strOp,AH.bound,AH.missQ,AH.minmaxAV,AH.readOf,AH.effOf,Nat.reduceBEq,Nat.reduceAdd,Nat.reduceLT,↓reduceIte,Nat.reduceEqDiff,Nat.reduceLeDiff,Nat.reduceSub,Nat.reduceMul,Int.reduceSub,Int.reduceToNat,Int.reduceBEq,Int.reduceBNe,Int.reduceLT,Int.reduceGT,Int.reduceLE,Int.reduceGE,Int.reduceNeg,Int.reduceAdd,k1,k2]
  refine loop_rule (α:=Nat × Nat) (fun z =>z.2 - z.1) (fun z =>⟨[(15,.int .i64 z.2),(14,.int .i64 z.1),(4,.fn fg [] capd),(2,.int .i64 mm),(0,.slc id 0 n none)],MI m id D⟩)
    (fun z =>a ≤ z.1 ∧ z.1 ≤ z.2 ∧ z.2 ≤ mm ∧ (z.1 = a ∨ ¬ c y (D.getD (z.1 - 1) 0) < 0) ∧ (z.2 = mm ∨ c y (D.getD z.2 0) < 0)) (a,mm) ⟨Nat.le_refl _,by simp only; omega,Nat.le_refl _,.inl rfl,.inl rfl⟩
    (gc_keep (l:=[(15,.int .i64 mm),(14,.int .i64 a),(4,.fn fg [] capd),(2,.int .i64 mm),(0,.slc id 0 n none)]) ⟨rfl,rfl,rfl,rfl,rfl,trivial⟩ rfl) ?_
  rintro Z ⟨i,j⟩ ⟨hi,hij,hj,q1,q2⟩ ih
  simp only at hi hij hj q1 q2
  simp only [AH.SD,AH.SE,AOp.call?,AOp.next?,bstep,AV.cells,unAV,binAV,retQ,retV,AH.sliceElems,AH.bytesOf,AH.strOp,AH.bound,AH.missQ,AH.minmaxAV,AH.readOf,AH.effOf,Nat.reduceBEq,Nat.reduceAdd,Nat.reduceLT,↓reduceIte,Nat.reduceEqDiff,Nat.reduceLeDiff,Nat.reduceSub,Nat.reduceMul,Int.reduceSub,Int.reduceToNat,Int.reduceBEq,Int.reduceBNe,Int.reduceLT,Int.reduceGT,Int.reduceLE,Int.reduceGE,Int.reduceNeg,Int.reduceAdd]
  refine ⟨fun hlt => ?_,fun hlt => ?_⟩
  · have hlt:=lt_of_dec hlt
    have hm2:=mid_lem (i:=i) (j:=j) (by omega)
    obtain ⟨g,hg⟩ : ∃ g,g = (i + j) / 2:=⟨_,rfl⟩
    rw [← hg] at hm2
    have hg1 : i ≤ g:=by omega
    have hg2 : g < j:=by omega
    have kG : g < D.length:=by omega
    have kA : mm < D.length:=by omega
    have eA : D[mm] = y:=by
      rw [← getD_i kA,hD,get_B (by omega) (by simp; omega),show mm - X.length - A.length = 0 by omega]; rfl
    have pG : P D[g]:=hP _ (List.getElem_mem kG)
    have pA : P D[mm]:=hP _ (List.getElem_mem kA)
    have hrr:=hr D _ _ pA pG
    have eG:=getD_i kG
    have wg:=wrapS (i:=g) (by omega)
    rw [eA] at hrr
    have lD : (D.map intC).length = D.length:=List.length_map ..
    simp only [AH.SD,AH.SE,AOp.call?,AOp.next?,bstep,AV.cells,unAV,binAV,retQ,retV,AH.sliceElems,AH.bytesOf,AH.strOp,AH.bound,AH.missQ,AH.minmaxAV,AH.readOf,AH.effOf,Nat.reduceBEq,Nat.reduceAdd,Nat.reduceLT,↓reduceIte,Nat.reduceEqDiff,Nat.reduceLeDiff,Nat.reduceSub,Nat.reduceMul,Int.reduceSub,Int.reduceToNat,Int.reduceBEq,Int.reduceBNe,Int.reduceLT,Int.reduceGT,Int.reduceLE,Int.reduceGE,Int.reduceNeg,Int.reduceAdd,mget_MI,hfr,hm2,getD_enc,kG,kA,intC_eq,eA,hrr,lD]
    repeat (refine ⟨by first | rfl | decide | omega | (simp only [List.length_map,List.length_set,and_true]; omega),?_⟩)
    cases hc : decide (c y D[g] < 0)
    · have hc2 : ¬ c y D[g] < 0:=by simpa using hc
      simp only [AH.SD,AH.SE,AOp.call?,AOp.next?,bstep,AV.cells,unAV,binAV,retQ,retV,AH.sliceElems,AH.bytesOf,AH.strOp,AH.bound,AH.missQ,AH.minmaxAV,AH.readOf,AH.effOf,Nat.reduceBEq,Nat.reduceAdd,Nat.reduceLT,↓reduceIte,Nat.reduceEqDiff,Nat.reduceLeDiff,Nat.reduceSub,Nat.reduceMul,Int.reduceSub,Int.reduceToNat,Int.reduceBEq,Int.reduceBNe,Int.reduceLT,Int.reduceGT,Int.reduceLE,Int.reduceGE,Int.reduceNeg,Int.reduceAdd,hc,wg,Bool.not_false]
      repeat (refine ⟨by first | rfl | decide | omega | (simp only [List.length_map,List.length_set,and_true]; omega),?_⟩)
      refine gc_keep (l:=[(15,.int .i64 j),(14,.int .i64 ((g + 1 : Nat) : Int)),(4,.fn fg [] capd),(2,.int .i64 mm),(0,.slc id 0 n none)]) ⟨rfl,rfl,rfl,rfl,rfl,trivial⟩ ?_
      exact ih (g + 1,j) ⟨by simp only; omega,by simp only; omega,hj,.inr (by rw [Nat.add_sub_cancel,eG]; exact hc2),q2⟩ (by simp only; omega)
    · have hc2 : c y D[g] < 0:=by simpa using hc
      simp only [AH.SD,AH.SE,AOp.call?,AOp.next?,bstep,AV.cells,unAV,binAV,retQ,retV,AH.sliceElems,AH.bytesOf,AH.strOp,AH.bound,AH.missQ,AH.minmaxAV,AH.readOf,AH.effOf,Nat.reduceBEq,Nat.reduceAdd,Nat.reduceLT,↓reduceIte,Nat.reduceEqDiff,Nat.reduceLeDiff,Nat.reduceSub,Nat.reduceMul,Int.reduceSub,Int.reduceToNat,Int.reduceBEq,Int.reduceBNe,Int.reduceLT,Int.reduceGT,Int.reduceLE,Int.reduceGE,Int.reduceNeg,Int.reduceAdd,hc,Bool.not_true]
      repeat (refine ⟨by first | rfl | decide | omega | (simp only [List.length_map,List.length_set,and_true]; omega),?_⟩)
      refine gc_keep (l:=[(15,.int .i64 g),(14,.int .i64 i),(4,.fn fg [] capd),(2,.int .i64 mm),(0,.slc id 0 n none)]) ⟨rfl,rfl,rfl,rfl,rfl,trivial⟩ ?_
      exact ih (i,g) ⟨hi,hg1,by simp only; omega,q1,.inr (by rw [eG]; exact hc2)⟩ (by simp only; omega)
  · have hge:=ge_of_dec hlt
    obtain rfl : i = j:=by omega
    clear ih
    obtain ⟨q,hq⟩ : ∃ q,i = a + q:=⟨i - a,by omega⟩
    have e0 : D = X ++ (A.take A.length ++ y :: (A.drop A.length ++ Y)):=by rw [hD]; simp
    have eF : X ++ (mrg c A [y] ++ Y) = X ++ (A.take q ++ y :: (A.drop q ++ Y)):=by
      rw [one_r_fin h sA (i:=q) (by omega) ?_ ?_]
      · simp
      · rcases q1 with q1 | q1
        · exact .inl (by omega)
        · by_cases hz : q = 0
          · exact .inl hz
          · rw [hD,get_A (by omega) (by omega)] at q1
            rw [show i - 1 - X.length = q - 1 by omega] at q1
            exact .inr q1
      · rcases q2 with q2 | q2
        · exact .inl (by omega)
        · by_cases hz : q = A.length
          · exact .inl hz
          · rw [hD,get_A (by omega) (by omega)] at q2
            rw [show i - X.length = q by omega] at q2
            exact .inr q2
    rw [eF]
    simp only [AH.SD,AH.SE,AOp.call?,AOp.next?,bstep,AV.cells,unAV,binAV,retQ,retV,AH.sliceElems,AH.bytesOf,AH.strOp,AH.bound,AH.missQ,AH.minmaxAV,AH.readOf,AH.effOf,Nat.reduceBEq,Nat.reduceAdd,Nat.reduceLT,↓reduceIte,Nat.reduceEqDiff,Nat.reduceLeDiff,Nat.reduceSub,Nat.reduceMul,Int.reduceSub,Int.reduceToNat,Int.reduceBEq,Int.reduceBNe,Int.reduceLT,Int.reduceGT,Int.reduceLE,Int.reduceGE,Int.reduceNeg,Int.reduceAdd]
    refine loop_rule (α:=Nat) (fun p =>p - q) (fun p =>⟨[(17,.int .i64 ((a + p : Nat) : Int)),(14,.int .i64 i),(0,.slc id 0 n none)],MI m id (X ++ (A.take p ++ y :: (A.drop p ++ Y)))⟩) (fun p =>q ≤ p ∧ p ≤ A.length) A.length ⟨by omega,Nat.le_refl _⟩
      (by rw [← e0,← hm]; exact gc_keep (l:=[(17,.int .i64 mm),(14,.int .i64 i),(0,.slc id 0 n none)]) ⟨rfl,rfl,rfl,trivial⟩ rfl) ?_
    rintro W p ⟨hp1,hp2⟩ ih
    simp only [AH.SD,AH.SE,AOp.call?,AOp.next?,bstep,AV.cells,unAV,binAV,retQ,retV,AH.sliceElems,AH.bytesOf,AH.strOp,AH.bound,AH.missQ,AH.minmaxAV,AH.readOf,AH.effOf,Nat.reduceBEq,Nat.reduceAdd,Nat.reduceLT,↓reduceIte,Nat.reduceEqDiff,Nat.reduceLeDiff,Nat.reduceSub,Nat.reduceMul,Int.reduceSub,Int.reduceToNat,Int.reduceBEq,Int.reduceBNe,Int.reduceLT,Int.reduceGT,Int.reduceLE,Int.reduceGE,Int.reduceNeg,Int.reduceAdd]
    refine ⟨fun hlt => ?_,fun hlt => ?_⟩
    · have hl2 : q < p:=by simp only [decide_eq_true_eq] at hlt; omega
      obtain ⟨k,rfl⟩ : ∃ k,p = k + 1:=⟨p - 1,by omega⟩
      have hkA : k < A.length:=by omega
      have wk : IntKind.i64.wrap (((a + (k + 1) : Nat) : Int) - 1) = ((a + k : Nat) : Int):=by rw [IntKind.wrap_i64]; omega
      obtain ⟨E,hE⟩ : ∃ E,E = X ++ (A.take (k + 1) ++ y :: (A.drop (k + 1) ++ Y)):=⟨_,rfl⟩
      have hE2 : E = X ++ (A.take k ++ A[k] :: (y :: (A.drop (k + 1) ++ Y))):=by rw [hE,List.take_succ_eq_append_getElem hkA,List.append_assoc]; rfl
      have lT : (A.take k).length = k:=by rw [List.length_take]; omega
      have hEl : E.length = D.length:=by rw [hE,hDl]; simp; omega
      have kA : a + (k + 1) < E.length:=by omega
      have kB : a + k < E.length:=by omega
      have gA : E[a + (k + 1)] = y:=by
        rw [← getD_i kA,hE2,List.getD_eq_getElem?_getD,List.getElem?_append_right (by omega),List.getElem?_append_right (by omega),show a + (k + 1) - X.length - (A.take k).length = 1 by omega]; rfl
      have gB : E[a + k] = A[k]:=by
        rw [← getD_i kB,hE2,List.getD_eq_getElem?_getD,List.getElem?_append_right (by omega),List.getElem?_append_right (by omega),show a + k - X.length - (A.take k).length = 0 by omega]; rfl
      have eS : (E.set (a + (k + 1)) A[k]).set (a + k) y = X ++ (A.take k ++ y :: (A.drop k ++ Y)):=by
        have:=mv_back (X:=X) (L:=A.take k) (R:=A.drop (k + 1) ++ Y) (z:=A[k]) (y:=y)
        rw [lT,← ha,← hE2] at this
        rw [show a + (k + 1) = a + k + 1 from rfl,this,List.drop_eq_getElem_cons hkA]; rfl
      rw [← hE]
      simp only [AH.SD,AH.SE,AOp.call?,AOp.next?,bstep,AV.cells,unAV,binAV,retQ,retV,AH.sliceElems,AH.bytesOf,AH.strOp,AH.bound,AH.missQ,AH.minmaxAV,AH.readOf,AH.effOf,Nat.reduceBEq,Nat.reduceAdd,Nat.reduceLT,↓reduceIte,Nat.reduceEqDiff,Nat.reduceLeDiff,Nat.reduceSub,Nat.reduceMul,Int.reduceSub,Int.reduceToNat,Int.reduceBEq,Int.reduceBNe,Int.reduceLT,Int.reduceGT,Int.reduceLE,Int.reduceGE,Int.reduceNeg,Int.reduceAdd,mget_MI,wk,getD_enc,kA,kB,intC_eq,gA,gB,hfr,setC,mset_MI,eS]
      repeat (refine ⟨by first | rfl | decide | omega | (simp only [List.length_map,List.length_set,and_true]; omega),?_⟩)
      refine gc_keep (l:=[(17,.int .i64 ((a + k : Nat) : Int)),(14,.int .i64 i),(0,.slc id 0 n none)]) ⟨rfl,rfl,rfl,trivial⟩ ?_
      exact ih k ⟨by omega,by omega⟩ (by omega)
    · have hge2 : ¬ q < p:=by simp only [decide_eq_false_iff_not] at hlt; omega
      obtain rfl : p = q:=by omega
      simp only [AH.SD,AH.SE,AOp.call?,AOp.next?,bstep,AV.cells,unAV,binAV,retQ,retV,AH.sliceElems,AH.bytesOf,AH.strOp,AH.bound,AH.missQ,AH.minmaxAV,AH.readOf,AH.effOf,Nat.reduceBEq,Nat.reduceAdd,Nat.reduceLT,↓reduceIte,Nat.reduceEqDiff,Nat.reduceLeDiff,Nat.reduceSub,Nat.reduceMul,Int.reduceSub,Int.reduceToNat,Int.reduceBEq,Int.reduceBNe,Int.reduceLT,Int.reduceGT,Int.reduceLE,Int.reduceGE,Int.reduceNeg,Int.reduceAdd]
end Go.Proofs.YtkbjfhkhbcgkgaaDoor.B33
