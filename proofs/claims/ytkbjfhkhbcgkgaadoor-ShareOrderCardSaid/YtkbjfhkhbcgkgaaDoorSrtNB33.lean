import Derived.Test.YtkbjfhkhbcgkgaaDoorSrtVB33
open Go AH
set_option linter.unusedSimpArgs false
set_option maxRecDepth 100000
namespace Go.Proofs.YtkbjfhkhbcgkgaaDoor.B33
theorem tri (p q : Prop) [Decidable p] [Decidable q] : (decide p = false ∧ ¬ (p ∧ q)) ∨ (decide p = true ∧ decide q = false ∧ ¬ (p ∧ q)) ∨ (decide p = true ∧ decide q = true ∧ p ∧ q):=by
  by_cases hp : p <;> by_cases hq : q <;> simp [hp,hq]
set_option maxRecDepth 100000 in
set_option maxHeartbeats 4000000 in
theorem sym_ok {TT : List (FuncId × RT)} {U : List (FuncId × UT)} (ok : CtxOK S0 (ctxU S0 TT U)) (hT : lookT TT 73 = none) (hU : lookU U 73 = none) (hT2 : lookT TT 74 = none) (hU2 : lookU U 74 = none) (hT3 : lookT TT 75 = none) (hU3 : lookU U 75 = none) {fg : FuncId} {capd : List AV} {c : Int → Int → Int} (h : Ord c) (P : Int → Prop) {m : Mem} {id : Nat} (hid : id < m.length) {ft : List Nat}
    (hr : ∀ (l : List Int) x y,P x → P y → appT (.int .i64 x :: .int .i64 y :: capd) (mget (MI m id l)) (lookT TT fg) = some (.int .i64 (c x y),ft)) :
    ∀ (N : Nat) (X A B Y : List Int),A.length + B.length ≤ N → 0 < A.length → 0 < B.length → Srtd c A → Srtd c B → (∀ y ∈ X ++ (A ++ (B ++ Y)),P y) → ∀ {n a mm b : Nat},n = (X ++ (A ++ (B ++ Y))).length → n ≤ 1048576 → a = X.length → mm = a + A.length → b = mm + B.length →
    CallA1 S0 73 [.slc id 0 n none,.int .i64 a,.int .i64 mm,.int .i64 b,.fn fg [] capd] (MI m id (X ++ (A ++ (B ++ Y)))) fun r m' =>r = .tup [] ∧ m' = MI m id (X ++ (mrg c A B ++ Y)):=by
  intro N
  induction N with
  | zero =>intro X A B Y h0 h1; omega
  | succ N IH =>
  intro X A B Y hN hA hB sA sB hP n a mm b hn hn2 ha hm hb
  by_cases c1 : A.length = 1
  · obtain ⟨x,rfl⟩:=List.length_eq_one_iff.1 c1
    exact sym_l ok h P hid hr X B Y x hB sB hP hn hn2 ha (by simpa using hm) hb
  by_cases c2 : B.length = 1
  · obtain ⟨y,rfl⟩:=List.length_eq_one_iff.1 c2
    exact sym_r ok h P hid hr X A Y y (by omega) sA hP hn hn2 ha hm (by simpa using hb)
  have hfr : ∀ (l : List Int) (e : Eff),e.foot = [id] → okFresh (MI m id l).length e = true:=fun l e h =>by
    unfold okFresh
    rw [h,MI,mset_lenF _ _ _ hid]
    have : [id].contains m.length = false:=by simp; omega
    rw [this]; rfl
  obtain ⟨D,hD⟩ : ∃ D,D = X ++ (A ++ (B ++ Y)):=⟨_,rfl⟩
  rw [← hD] at hP hn ⊢
  have hDl : D.length = X.length + A.length + B.length + Y.length:=by rw [hD]; simp; omega
  have k1 : ((IntKind.i64.wrap ((mm : Int) - (a : Int))) == 1) = false:=by rw [IntKind.wrap_i64]; simp; omega
  have k2 : ((IntKind.i64.wrap ((b : Int) - (mm : Int))) == 1) = false:=by rw [IntKind.wrap_i64]; simp; omega
  have hm0:=mid_lem (i:=a) (j:=b) (by omega)
  obtain ⟨mid,hmid⟩ : ∃ mid,mid = (a + b) / 2:=⟨_,rfl⟩
  rw [← hmid] at hm0
  have w0 : IntKind.i64.wrap ((mid : Int) + (mm : Int)) = ((mid + mm : Nat) : Int):=by rw [IntKind.wrap_i64]; omega
  have w1 : mm > mid → IntKind.i64.wrap (((mid + mm : Nat) : Int) - (b : Int)) = ((mid + mm - b : Nat) : Int):=fun _ =>by rw [IntKind.wrap_i64]; omega
  have w2 : IntKind.i64.wrap (((mid + mm : Nat) : Int) - 1) = ((mid + mm - 1 : Nat) : Int):=by rw [IntKind.wrap_i64]; omega
  obtain ⟨n0,hn0⟩ : ∃ n0,n0 = mid + mm:=⟨_,rfl⟩
  rw [← hn0] at w0 w1 w2
  refine fun_sound ok Tryd.func73 c73 ?_
  unfold wpF F73
  have dm : decide ((mm : Int) > (mid : Int)) = decide (mm > mid):=by rw [Bool.eq_iff_iff]; simp only [decide_eq_true_eq]; omega
  cases hmd : decide (mm > mid)
  case' false =>
    rw [hmd] at dm
    simp only [decide_eq_false_iff_not] at hmd
    simp only [AH.SD,AH.SE,AOp.call?,AOp.next?,bstep,AV.cells,unAV,binAV,retQ,retV,AH.sliceElems,AH.bytesOf,AH.strOp,AH.bound,AH.missQ,AH.minmaxAV,AH.readOf,AH.effOf,Nat.reduceBEq,Nat.reduceAdd,Nat.reduceLT,↓reduceIte,Nat.reduceEqDiff,Nat.reduceLeDiff,Nat.reduceSub,Nat.reduceMul,Int.reduceSub,Int.reduceToNat,Int.reduceBEq,Int.reduceBNe,Int.reduceLT,Int.reduceGT,Int.reduceLE,Int.reduceGE,Int.reduceNeg,Int.reduceAdd,k1,k2,hm0,w0,w2,dm]
    refine loop_rule (α:=Nat × Nat) (fun z =>z.2 - z.1) (fun z =>⟨[(22,.int .i64 ((n0 - 1 : Nat) : Int)),(21,.int .i64 z.2),(20,.int .i64 z.1),(19,.int .i64 n0),(18,.int .i64 mid),(4,.fn fg [] capd),(3,.int .i64 b),(2,.int .i64 mm),(1,.int .i64 a),(0,.slc id 0 n none)],MI m id D⟩)
      (fun z =>a ≤ z.1 ∧ z.1 ≤ z.2 ∧ z.2 ≤ mm ∧ n0 ≤ z.1 + b ∧ z.2 ≤ mid ∧ (z.1 = a ∨ n0 - z.1 = b ∨ ¬ c (D.getD (n0 - z.1) 0) (D.getD (z.1 - 1) 0) < 0) ∧ (z.2 = mm ∨ n0 - z.2 = mm ∨ c (D.getD (n0 - 1 - z.2) 0) (D.getD z.2 0) < 0)) (a,mm) ⟨Nat.le_refl _,by simp only; omega,Nat.le_refl _,by simp only; omega,by simp only; omega,.inl rfl,.inl rfl⟩
      (gc_keep (l:=[(22,.int .i64 ((n0 - 1 : Nat) : Int)),(21,.int .i64 mm),(20,.int .i64 a),(19,.int .i64 n0),(18,.int .i64 mid),(4,.fn fg [] capd),(3,.int .i64 b),(2,.int .i64 mm),(1,.int .i64 a),(0,.slc id 0 n none)]) ⟨rfl,rfl,rfl,rfl,rfl,rfl,rfl,rfl,rfl,rfl,trivial⟩ rfl) ?_
  case' true =>
    rw [hmd] at dm
    simp only [decide_eq_true_eq] at hmd
    have w1:=w1 hmd
    simp only [AH.SD,AH.SE,AOp.call?,AOp.next?,bstep,AV.cells,unAV,binAV,retQ,retV,AH.sliceElems,AH.bytesOf,AH.strOp,AH.bound,AH.missQ,AH.minmaxAV,AH.readOf,AH.effOf,Nat.reduceBEq,Nat.reduceAdd,Nat.reduceLT,↓reduceIte,Nat.reduceEqDiff,Nat.reduceLeDiff,Nat.reduceSub,Nat.reduceMul,Int.reduceSub,Int.reduceToNat,Int.reduceBEq,Int.reduceBNe,Int.reduceLT,Int.reduceGT,Int.reduceLE,Int.reduceGE,Int.reduceNeg,Int.reduceAdd,k1,k2,hm0,w0,w1,w2,dm]
    refine loop_rule (α:=Nat × Nat) (fun z =>z.2 - z.1) (fun z =>⟨[(22,.int .i64 ((n0 - 1 : Nat) : Int)),(21,.int .i64 z.2),(20,.int .i64 z.1),(19,.int .i64 n0),(18,.int .i64 mid),(4,.fn fg [] capd),(3,.int .i64 b),(2,.int .i64 mm),(1,.int .i64 a),(0,.slc id 0 n none)],MI m id D⟩)
      (fun z =>a ≤ z.1 ∧ z.1 ≤ z.2 ∧ z.2 ≤ mm ∧ n0 ≤ z.1 + b ∧ z.2 ≤ mid ∧ (z.1 = a ∨ n0 - z.1 = b ∨ ¬ c (D.getD (n0 - z.1) 0) (D.getD (z.1 - 1) 0) < 0) ∧ (z.2 = mm ∨ n0 - z.2 = mm ∨ c (D.getD (n0 - 1 - z.2) 0) (D.getD z.2 0) < 0)) (n0 - b,mid) ⟨by simp only; omega,by simp only; omega,by simp only; omega,by simp only; omega,Nat.le_refl _,.inr (.inl (by simp only; omega)),.inr (.inl (by simp only; omega))⟩
      (gc_keep (l:=[(22,.int .i64 ((n0 - 1 : Nat) : Int)),(21,.int .i64 mid),(20,.int .i64 ((n0 - b : Nat) : Int)),(19,.int .i64 n0),(18,.int .i64 mid),(4,.fn fg [] capd),(3,.int .i64 b),(2,.int .i64 mm),(1,.int .i64 a),(0,.slc id 0 n none)]) ⟨rfl,rfl,rfl,rfl,rfl,rfl,rfl,rfl,rfl,rfl,trivial⟩ rfl) ?_
  all_goals
    rintro Z ⟨i,j⟩ ⟨hi,hij,hj,hn1,hjm,q1,q2⟩ ih
    simp only at hi hij hj hn1 hjm q1 q2
    simp only [AH.SD,AH.SE,AOp.call?,AOp.next?,bstep,AV.cells,unAV,binAV,retQ,retV,AH.sliceElems,AH.bytesOf,AH.strOp,AH.bound,AH.missQ,AH.minmaxAV,AH.readOf,AH.effOf,Nat.reduceBEq,Nat.reduceAdd,Nat.reduceLT,↓reduceIte,Nat.reduceEqDiff,Nat.reduceLeDiff,Nat.reduceSub,Nat.reduceMul,Int.reduceSub,Int.reduceToNat,Int.reduceBEq,Int.reduceBNe,Int.reduceLT,Int.reduceGT,Int.reduceLE,Int.reduceGE,Int.reduceNeg,Int.reduceAdd]
    refine ⟨fun hlt => ?_,fun hlt => ?_⟩
    · have hlt:=lt_of_dec hlt
      have hm2:=mid_lem (i:=i) (j:=j) (by omega)
      obtain ⟨g,hg⟩ : ∃ g,g = (i + j) / 2:=⟨_,rfl⟩
      rw [← hg] at hm2
      have hg1 : i ≤ g:=by omega
      have hg2 : g < j:=by omega
      have kG : g < D.length:=by omega
      have kQ : n0 - 1 - g < D.length:=by omega
      have wQ : IntKind.i64.wrap (((n0 - 1 : Nat) : Int) - (g : Int)) = ((n0 - 1 - g : Nat) : Int):=by rw [IntKind.wrap_i64]; omega
      have hrr:=hr D _ _ (hP _ (List.getElem_mem kQ)) (hP _ (List.getElem_mem kG))
      have eG:=getD_i kG
      have eQ:=getD_i kQ
      have wg:=wrapS (i:=g) (by omega)
      have lD : (D.map intC).length = D.length:=List.length_map ..
      simp only [AH.SD,AH.SE,AOp.call?,AOp.next?,bstep,AV.cells,unAV,binAV,retQ,retV,AH.sliceElems,AH.bytesOf,AH.strOp,AH.bound,AH.missQ,AH.minmaxAV,AH.readOf,AH.effOf,Nat.reduceBEq,Nat.reduceAdd,Nat.reduceLT,↓reduceIte,Nat.reduceEqDiff,Nat.reduceLeDiff,Nat.reduceSub,Nat.reduceMul,Int.reduceSub,Int.reduceToNat,Int.reduceBEq,Int.reduceBNe,Int.reduceLT,Int.reduceGT,Int.reduceLE,Int.reduceGE,Int.reduceNeg,Int.reduceAdd,mget_MI,hfr,hm2,wQ,getD_enc,kG,kQ,intC_eq,hrr,lD]
      repeat (refine ⟨by first | rfl | decide | omega | (simp only [List.length_map,List.length_set,and_true]; omega),?_⟩)
      cases hc : decide (c D[n0 - 1 - g] D[g] < 0)
      · have hc2 : ¬ c D[n0 - 1 - g] D[g] < 0:=by simpa using hc
        simp only [AH.SD,AH.SE,AOp.call?,AOp.next?,bstep,AV.cells,unAV,binAV,retQ,retV,AH.sliceElems,AH.bytesOf,AH.strOp,AH.bound,AH.missQ,AH.minmaxAV,AH.readOf,AH.effOf,Nat.reduceBEq,Nat.reduceAdd,Nat.reduceLT,↓reduceIte,Nat.reduceEqDiff,Nat.reduceLeDiff,Nat.reduceSub,Nat.reduceMul,Int.reduceSub,Int.reduceToNat,Int.reduceBEq,Int.reduceBNe,Int.reduceLT,Int.reduceGT,Int.reduceLE,Int.reduceGE,Int.reduceNeg,Int.reduceAdd,hc,wg,Bool.not_false]
        repeat (refine ⟨by first | rfl | decide | omega | (simp only [List.length_map,List.length_set,and_true]; omega),?_⟩)
        refine gc_keep (l:=[(22,.int .i64 ((n0 - 1 : Nat) : Int)),(21,.int .i64 j),(20,.int .i64 ((g + 1 : Nat) : Int)),(19,.int .i64 n0),(18,.int .i64 mid),(4,.fn fg [] capd),(3,.int .i64 b),(2,.int .i64 mm),(1,.int .i64 a),(0,.slc id 0 n none)]) ⟨rfl,rfl,rfl,rfl,rfl,rfl,rfl,rfl,rfl,rfl,trivial⟩ ?_
        exact ih (g + 1,j) ⟨by simp only; omega,by simp only; omega,hj,by simp only; omega,hjm,.inr (.inr (by rw [Nat.add_sub_cancel,eG,show n0 - (g + 1) = n0 - 1 - g by omega,eQ]; exact hc2)),q2⟩ (by simp only; omega)
      · have hc2 : c D[n0 - 1 - g] D[g] < 0:=by simpa using hc
        simp only [AH.SD,AH.SE,AOp.call?,AOp.next?,bstep,AV.cells,unAV,binAV,retQ,retV,AH.sliceElems,AH.bytesOf,AH.strOp,AH.bound,AH.missQ,AH.minmaxAV,AH.readOf,AH.effOf,Nat.reduceBEq,Nat.reduceAdd,Nat.reduceLT,↓reduceIte,Nat.reduceEqDiff,Nat.reduceLeDiff,Nat.reduceSub,Nat.reduceMul,Int.reduceSub,Int.reduceToNat,Int.reduceBEq,Int.reduceBNe,Int.reduceLT,Int.reduceGT,Int.reduceLE,Int.reduceGE,Int.reduceNeg,Int.reduceAdd,hc,Bool.not_true]
        repeat (refine ⟨by first | rfl | decide | omega | (simp only [List.length_map,List.length_set,and_true]; omega),?_⟩)
        refine gc_keep (l:=[(22,.int .i64 ((n0 - 1 : Nat) : Int)),(21,.int .i64 g),(20,.int .i64 i),(19,.int .i64 n0),(18,.int .i64 mid),(4,.fn fg [] capd),(3,.int .i64 b),(2,.int .i64 mm),(1,.int .i64 a),(0,.slc id 0 n none)]) ⟨rfl,rfl,rfl,rfl,rfl,rfl,rfl,rfl,rfl,rfl,trivial⟩ ?_
        exact ih (i,g) ⟨hi,hg1,by simp only; omega,hn1,by simp only; omega,q1,.inr (.inr (by rw [eG,eQ]; exact hc2))⟩ (by simp only; omega)
    · have hge:=ge_of_dec hlt
      obtain rfl : i = j:=by omega
      clear ih
      have wE : IntKind.i64.wrap ((n0 : Int) - (i : Int)) = ((n0 - i : Nat) : Int):=by rw [IntKind.wrap_i64]; omega
      have he1 : mm ≤ n0 - i:=by omega
      have he2 : n0 - i ≤ b:=by omega
      have hpart:=sym_fin h sA sB (i:=i - a) (j:=n0 - i - mm) (by omega) (by omega) (by
        rcases q1 with q1 | q1 | q1
        · exact .inl (by omega)
        · exact .inr (.inl (by omega))
        · by_cases z1 : i = a
          · exact .inl (by omega)
          · by_cases z2 : n0 - i = b
            · exact .inr (.inl (by omega))
            · rw [hD,get_B (by omega) (by omega),get_A (by omega) (by omega)] at q1
              rw [show n0 - i - X.length - A.length = n0 - i - mm by omega,show i - 1 - X.length = i - a - 1 by omega] at q1
              exact .inr (.inr q1)) (by
        rcases q2 with q2 | q2 | q2
        · exact .inl (by omega)
        · exact .inr (.inl (by omega))
        · by_cases z1 : i = mm
          · exact .inl (by omega)
          · by_cases z2 : n0 - i = mm
            · exact .inr (.inl (by omega))
            · rw [hD,get_B (by omega) (by omega),get_A (by omega) (by omega)] at q2
              rw [show n0 - 1 - i - X.length - A.length = n0 - i - mm - 1 by omega,show i - X.length = i - a by omega] at q2
              exact .inr (.inr q2))
      clear q1 q2
      have sA1:=srt_take sA (i - a)
      have sA2:=srt_drop sA (i - a)
      have sB1:=srt_take sB (n0 - i - mm)
      have sB2:=srt_drop sB (n0 - i - mm)
      have lA1 : (A.take (i - a)).length = i - a:=by rw [List.length_take]; omega
      have lA2 : (A.drop (i - a)).length = mm - i:=by rw [List.length_drop]; omega
      have lB1 : (B.take (n0 - i - mm)).length = n0 - i - mm:=by rw [List.length_take]; omega
      have lB2 : (B.drop (n0 - i - mm)).length = b - (n0 - i):=by rw [List.length_drop]; omega
      have hD2 : D = X ++ (A.take (i - a) ++ (A.drop (i - a) ++ (B.take (n0 - i - mm) ++ (B.drop (n0 - i - mm) ++ Y)))):=by
        rw [← List.append_assoc (B.take _),List.take_append_drop,← List.append_assoc (A.take _),List.take_append_drop]; exact hD
      generalize A.take (i - a) = A1 at *
      generalize A.drop (i - a) = A2 at *
      generalize B.take (n0 - i - mm) = B1 at *
      generalize B.drop (n0 - i - mm) = B2 at *
      obtain ⟨e,he⟩ : ∃ e,e = n0 - i:=⟨_,rfl⟩
      rw [← he] at wE he1 he2 lB1 lB2
      have m11:=mrg_len (c:=c) _ A1 B1 (Nat.le_refl _)
      have m22:=mrg_len (c:=c) _ A2 B2 (Nat.le_refl _)
      have mem1:=fun y =>mrg_mem (c:=c) (y:=y) _ A1 B1 (Nat.le_refl _)
      have nil0 : ∀ l : List Int,l.length = 0 → l = []:=fun l hl =>List.eq_nil_of_length_eq_zero hl
      rw [hpart]
      have hrot : i < mm → mm < e → CallA1 S0 74 [.slc id 0 n none,.int .i64 i,.int .i64 mm,.int .i64 e,.fn fg [] capd] (MI m id D) fun r m' =>r = .tup [] ∧ m' = MI m id (X ++ (A1 ++ (B1 ++ (A2 ++ (B2 ++ Y))))):=fun r1 r2 =>by
        have:=rot_ok ok hT3 hU3 (v:=.fn fg [] capd) hid ⟨X ++ A1,A2,B1,B2 ++ Y⟩ (by simp only; omega) (by simp only; omega) (n:=n) (a:=i) (mm:=mm) (b:=e) (by rw [hn,hD2]; simp; omega) hn2 (by simp; omega) (by simp only; omega) (by simp only; omega)
        simp only [Rot.arr,Rot.fin,List.append_assoc] at this
        rw [← hD2] at this
        exact this
      have hno : ¬ (i < mm ∧ mm < e) → D = X ++ (A1 ++ (B1 ++ (A2 ++ (B2 ++ Y)))):=fun r =>by
        rw [hD2]
        by_cases z : i < mm
        · rw [nil0 B1 (by omega)]; rfl
        · rw [nil0 A2 (by omega)]; rfl
      have hP3 : ∀ y ∈ X ++ (A1 ++ (B1 ++ (A2 ++ (B2 ++ Y)))),P y:=fun y hy =>hP y (by rw [hD2]; simp only [List.mem_append] at hy ⊢; rcases hy with q | q | q | q | q | q <;> simp [q])
      have hs1 : a < i → i < mid → CallA1 S0 73 [.slc id 0 n none,.int .i64 a,.int .i64 i,.int .i64 mid,.fn fg [] capd] (MI m id (X ++ (A1 ++ (B1 ++ (A2 ++ (B2 ++ Y)))))) fun r m' =>r = .tup [] ∧ m' = MI m id (X ++ (mrg c A1 B1 ++ (A2 ++ (B2 ++ Y)))):=fun r1 r2 =>
        IH X A1 B1 (A2 ++ (B2 ++ Y)) (by omega) (by omega) (by omega) sA1 sB1 hP3 (by rw [hn,hD2]; simp; omega) hn2 ha (by omega) (by omega)
      have hn1 : ¬ (a < i ∧ i < mid) → X ++ (A1 ++ (B1 ++ (A2 ++ (B2 ++ Y)))) = X ++ (mrg c A1 B1 ++ (A2 ++ (B2 ++ Y))):=fun r =>by
        by_cases z : a < i
        · rw [nil0 B1 (by omega),mrg_r]; rfl
        · rw [nil0 A1 (by omega),mrg_l]; rfl
      have hP4 : ∀ y ∈ (X ++ mrg c A1 B1) ++ (A2 ++ (B2 ++ Y)),P y:=fun y hy =>hP3 y (by simp only [List.mem_append,mem1] at hy ⊢; rcases hy with (q | q | q) | q | q | q <;> simp [q])
      have hs2 : mid < e → e < b → CallA1 S0 73 [.slc id 0 n none,.int .i64 mid,.int .i64 e,.int .i64 b,.fn fg [] capd] (MI m id (X ++ (mrg c A1 B1 ++ (A2 ++ (B2 ++ Y))))) fun r m' =>r = .tup [] ∧ m' = MI m id (X ++ (mrg c A1 B1 ++ mrg c A2 B2 ++ Y)):=fun r1 r2 =>by
        have:=IH (X ++ mrg c A1 B1) A2 B2 Y (by omega) (by omega) (by omega) sA2 sB2 hP4 (n:=n) (a:=mid) (mm:=e) (b:=b) (by rw [hn,hD2]; simp [m11]; omega) hn2 (by simp [m11]; omega) (by omega) (by omega)
        simp only [List.append_assoc] at this ⊢
        exact this
      have hn2' : ¬ (mid < e ∧ e < b) → X ++ (mrg c A1 B1 ++ (A2 ++ (B2 ++ Y))) = X ++ (mrg c A1 B1 ++ mrg c A2 B2 ++ Y):=fun r =>by
        by_cases z : mid < e
        · rw [nil0 B2 (by omega),mrg_r]; simp
        · rw [nil0 A2 (by omega),mrg_l]; simp
      have x1 : decide ((i : Int) < (mm : Int)) = decide (i < mm):=by rw [Bool.eq_iff_iff]; simp only [decide_eq_true_eq]; omega
      have x2 : decide ((mm : Int) < (e : Int)) = decide (mm < e):=by rw [Bool.eq_iff_iff]; simp only [decide_eq_true_eq]; omega
      have x3 : decide ((a : Int) < (i : Int)) = decide (a < i):=by rw [Bool.eq_iff_iff]; simp only [decide_eq_true_eq]; omega
      have x4 : decide ((i : Int) < (mid : Int)) = decide (i < mid):=by rw [Bool.eq_iff_iff]; simp only [decide_eq_true_eq]; omega
      have x5 : decide ((mid : Int) < (e : Int)) = decide (mid < e):=by rw [Bool.eq_iff_iff]; simp only [decide_eq_true_eq]; omega
      have x6 : decide ((e : Int) < (b : Int)) = decide (e < b):=by rw [Bool.eq_iff_iff]; simp only [decide_eq_true_eq]; omega
      rcases tri (i < mm) (mm < e) with ⟨y1,f1⟩ | ⟨y1,y2,f1⟩ | ⟨y1,y2,f1,g1⟩
      · rw [hno f1]
        rcases tri (a < i) (i < mid) with ⟨y3,f2⟩ | ⟨y3,y4,f2⟩ | ⟨y3,y4,f2,g2⟩
        · rw [hn1 f2]
          rcases tri (mid < e) (e < b) with ⟨y5,f3⟩ | ⟨y5,y6,f3⟩ | ⟨y5,y6,f3,g3⟩
          · rw [hn2' f3]
            try simp only [AH.SD,AH.SE,AOp.call?,AOp.next?,bstep,AV.cells,unAV,binAV,retQ,retV,AH.sliceElems,AH.bytesOf,AH.strOp,AH.bound,AH.missQ,AH.minmaxAV,AH.readOf,AH.effOf,Nat.reduceBEq,Nat.reduceAdd,Nat.reduceLT,↓reduceIte,Nat.reduceEqDiff,Nat.reduceLeDiff,Nat.reduceSub,Nat.reduceMul,Int.reduceSub,Int.reduceToNat,Int.reduceBEq,Int.reduceBNe,Int.reduceLT,Int.reduceGT,Int.reduceLE,Int.reduceGE,Int.reduceNeg,Int.reduceAdd,wE,x1,x2,x3,x4,x5,x6,hT,hU,hT2,hU2,callR_none,y1,y3,y5]
          · rw [hn2' f3]
            try simp only [AH.SD,AH.SE,AOp.call?,AOp.next?,bstep,AV.cells,unAV,binAV,retQ,retV,AH.sliceElems,AH.bytesOf,AH.strOp,AH.bound,AH.missQ,AH.minmaxAV,AH.readOf,AH.effOf,Nat.reduceBEq,Nat.reduceAdd,Nat.reduceLT,↓reduceIte,Nat.reduceEqDiff,Nat.reduceLeDiff,Nat.reduceSub,Nat.reduceMul,Int.reduceSub,Int.reduceToNat,Int.reduceBEq,Int.reduceBNe,Int.reduceLT,Int.reduceGT,Int.reduceLE,Int.reduceGE,Int.reduceNeg,Int.reduceAdd,wE,x1,x2,x3,x4,x5,x6,hT,hU,hT2,hU2,callR_none,y1,y3,y5,y6]
          · try simp only [AH.SD,AH.SE,AOp.call?,AOp.next?,bstep,AV.cells,unAV,binAV,retQ,retV,AH.sliceElems,AH.bytesOf,AH.strOp,AH.bound,AH.missQ,AH.minmaxAV,AH.readOf,AH.effOf,Nat.reduceBEq,Nat.reduceAdd,Nat.reduceLT,↓reduceIte,Nat.reduceEqDiff,Nat.reduceLeDiff,Nat.reduceSub,Nat.reduceMul,Int.reduceSub,Int.reduceToNat,Int.reduceBEq,Int.reduceBNe,Int.reduceLT,Int.reduceGT,Int.reduceLE,Int.reduceGE,Int.reduceNeg,Int.reduceAdd,wE,x1,x2,x3,x4,x5,x6,hT,hU,hT2,hU2,callR_none,y1,y3,y5,y6]
            refine (hs2 f3 g3).mono ?_
            rintro r m' ⟨rfl,rfl⟩
            try simp only [AH.SD,AH.SE,AOp.call?,AOp.next?,bstep,AV.cells,unAV,binAV,retQ,retV,AH.sliceElems,AH.bytesOf,AH.strOp,AH.bound,AH.missQ,AH.minmaxAV,AH.readOf,AH.effOf,Nat.reduceBEq,Nat.reduceAdd,Nat.reduceLT,↓reduceIte,Nat.reduceEqDiff,Nat.reduceLeDiff,Nat.reduceSub,Nat.reduceMul,Int.reduceSub,Int.reduceToNat,Int.reduceBEq,Int.reduceBNe,Int.reduceLT,Int.reduceGT,Int.reduceLE,Int.reduceGE,Int.reduceNeg,Int.reduceAdd,wE,x1,x2,x3,x4,x5,x6,hT,hU,hT2,hU2,callR_none,y1,y3,y5,y6]
        · rw [hn1 f2]
          rcases tri (mid < e) (e < b) with ⟨y5,f3⟩ | ⟨y5,y6,f3⟩ | ⟨y5,y6,f3,g3⟩
          · rw [hn2' f3]
            try simp only [AH.SD,AH.SE,AOp.call?,AOp.next?,bstep,AV.cells,unAV,binAV,retQ,retV,AH.sliceElems,AH.bytesOf,AH.strOp,AH.bound,AH.missQ,AH.minmaxAV,AH.readOf,AH.effOf,Nat.reduceBEq,Nat.reduceAdd,Nat.reduceLT,↓reduceIte,Nat.reduceEqDiff,Nat.reduceLeDiff,Nat.reduceSub,Nat.reduceMul,Int.reduceSub,Int.reduceToNat,Int.reduceBEq,Int.reduceBNe,Int.reduceLT,Int.reduceGT,Int.reduceLE,Int.reduceGE,Int.reduceNeg,Int.reduceAdd,wE,x1,x2,x3,x4,x5,x6,hT,hU,hT2,hU2,callR_none,y1,y3,y4,y5]
          · rw [hn2' f3]
            try simp only [AH.SD,AH.SE,AOp.call?,AOp.next?,bstep,AV.cells,unAV,binAV,retQ,retV,AH.sliceElems,AH.bytesOf,AH.strOp,AH.bound,AH.missQ,AH.minmaxAV,AH.readOf,AH.effOf,Nat.reduceBEq,Nat.reduceAdd,Nat.reduceLT,↓reduceIte,Nat.reduceEqDiff,Nat.reduceLeDiff,Nat.reduceSub,Nat.reduceMul,Int.reduceSub,Int.reduceToNat,Int.reduceBEq,Int.reduceBNe,Int.reduceLT,Int.reduceGT,Int.reduceLE,Int.reduceGE,Int.reduceNeg,Int.reduceAdd,wE,x1,x2,x3,x4,x5,x6,hT,hU,hT2,hU2,callR_none,y1,y3,y4,y5,y6]
          · try simp only [AH.SD,AH.SE,AOp.call?,AOp.next?,bstep,AV.cells,unAV,binAV,retQ,retV,AH.sliceElems,AH.bytesOf,AH.strOp,AH.bound,AH.missQ,AH.minmaxAV,AH.readOf,AH.effOf,Nat.reduceBEq,Nat.reduceAdd,Nat.reduceLT,↓reduceIte,Nat.reduceEqDiff,Nat.reduceLeDiff,Nat.reduceSub,Nat.reduceMul,Int.reduceSub,Int.reduceToNat,Int.reduceBEq,Int.reduceBNe,Int.reduceLT,Int.reduceGT,Int.reduceLE,Int.reduceGE,Int.reduceNeg,Int.reduceAdd,wE,x1,x2,x3,x4,x5,x6,hT,hU,hT2,hU2,callR_none,y1,y3,y4,y5,y6]
            refine (hs2 f3 g3).mono ?_
            rintro r m' ⟨rfl,rfl⟩
            try simp only [AH.SD,AH.SE,AOp.call?,AOp.next?,bstep,AV.cells,unAV,binAV,retQ,retV,AH.sliceElems,AH.bytesOf,AH.strOp,AH.bound,AH.missQ,AH.minmaxAV,AH.readOf,AH.effOf,Nat.reduceBEq,Nat.reduceAdd,Nat.reduceLT,↓reduceIte,Nat.reduceEqDiff,Nat.reduceLeDiff,Nat.reduceSub,Nat.reduceMul,Int.reduceSub,Int.reduceToNat,Int.reduceBEq,Int.reduceBNe,Int.reduceLT,Int.reduceGT,Int.reduceLE,Int.reduceGE,Int.reduceNeg,Int.reduceAdd,wE,x1,x2,x3,x4,x5,x6,hT,hU,hT2,hU2,callR_none,y1,y3,y4,y5,y6]
        · try simp only [AH.SD,AH.SE,AOp.call?,AOp.next?,bstep,AV.cells,unAV,binAV,retQ,retV,AH.sliceElems,AH.bytesOf,AH.strOp,AH.bound,AH.missQ,AH.minmaxAV,AH.readOf,AH.effOf,Nat.reduceBEq,Nat.reduceAdd,Nat.reduceLT,↓reduceIte,Nat.reduceEqDiff,Nat.reduceLeDiff,Nat.reduceSub,Nat.reduceMul,Int.reduceSub,Int.reduceToNat,Int.reduceBEq,Int.reduceBNe,Int.reduceLT,Int.reduceGT,Int.reduceLE,Int.reduceGE,Int.reduceNeg,Int.reduceAdd,wE,x1,x2,x3,x4,x5,x6,hT,hU,hT2,hU2,callR_none,y1,y3,y4]
          refine (hs1 f2 g2).mono ?_
          rintro r m' ⟨rfl,rfl⟩
          rcases tri (mid < e) (e < b) with ⟨y5,f3⟩ | ⟨y5,y6,f3⟩ | ⟨y5,y6,f3,g3⟩
          · rw [hn2' f3]
            try simp only [AH.SD,AH.SE,AOp.call?,AOp.next?,bstep,AV.cells,unAV,binAV,retQ,retV,AH.sliceElems,AH.bytesOf,AH.strOp,AH.bound,AH.missQ,AH.minmaxAV,AH.readOf,AH.effOf,Nat.reduceBEq,Nat.reduceAdd,Nat.reduceLT,↓reduceIte,Nat.reduceEqDiff,Nat.reduceLeDiff,Nat.reduceSub,Nat.reduceMul,Int.reduceSub,Int.reduceToNat,Int.reduceBEq,Int.reduceBNe,Int.reduceLT,Int.reduceGT,Int.reduceLE,Int.reduceGE,Int.reduceNeg,Int.reduceAdd,wE,x1,x2,x3,x4,x5,x6,hT,hU,hT2,hU2,callR_none,y1,y3,y4,y5]
          · rw [hn2' f3]
            try simp only [AH.SD,AH.SE,AOp.call?,AOp.next?,bstep,AV.cells,unAV,binAV,retQ,retV,AH.sliceElems,AH.bytesOf,AH.strOp,AH.bound,AH.missQ,AH.minmaxAV,AH.readOf,AH.effOf,Nat.reduceBEq,Nat.reduceAdd,Nat.reduceLT,↓reduceIte,Nat.reduceEqDiff,Nat.reduceLeDiff,Nat.reduceSub,Nat.reduceMul,Int.reduceSub,Int.reduceToNat,Int.reduceBEq,Int.reduceBNe,Int.reduceLT,Int.reduceGT,Int.reduceLE,Int.reduceGE,Int.reduceNeg,Int.reduceAdd,wE,x1,x2,x3,x4,x5,x6,hT,hU,hT2,hU2,callR_none,y1,y3,y4,y5,y6]
          · try simp only [AH.SD,AH.SE,AOp.call?,AOp.next?,bstep,AV.cells,unAV,binAV,retQ,retV,AH.sliceElems,AH.bytesOf,AH.strOp,AH.bound,AH.missQ,AH.minmaxAV,AH.readOf,AH.effOf,Nat.reduceBEq,Nat.reduceAdd,Nat.reduceLT,↓reduceIte,Nat.reduceEqDiff,Nat.reduceLeDiff,Nat.reduceSub,Nat.reduceMul,Int.reduceSub,Int.reduceToNat,Int.reduceBEq,Int.reduceBNe,Int.reduceLT,Int.reduceGT,Int.reduceLE,Int.reduceGE,Int.reduceNeg,Int.reduceAdd,wE,x1,x2,x3,x4,x5,x6,hT,hU,hT2,hU2,callR_none,y1,y3,y4,y5,y6]
            refine (hs2 f3 g3).mono ?_
            rintro r m' ⟨rfl,rfl⟩
            try simp only [AH.SD,AH.SE,AOp.call?,AOp.next?,bstep,AV.cells,unAV,binAV,retQ,retV,AH.sliceElems,AH.bytesOf,AH.strOp,AH.bound,AH.missQ,AH.minmaxAV,AH.readOf,AH.effOf,Nat.reduceBEq,Nat.reduceAdd,Nat.reduceLT,↓reduceIte,Nat.reduceEqDiff,Nat.reduceLeDiff,Nat.reduceSub,Nat.reduceMul,Int.reduceSub,Int.reduceToNat,Int.reduceBEq,Int.reduceBNe,Int.reduceLT,Int.reduceGT,Int.reduceLE,Int.reduceGE,Int.reduceNeg,Int.reduceAdd,wE,x1,x2,x3,x4,x5,x6,hT,hU,hT2,hU2,callR_none,y1,y3,y4,y5,y6]
      · rw [hno f1]
        rcases tri (a < i) (i < mid) with ⟨y3,f2⟩ | ⟨y3,y4,f2⟩ | ⟨y3,y4,f2,g2⟩
        · rw [hn1 f2]
          rcases tri (mid < e) (e < b) with ⟨y5,f3⟩ | ⟨y5,y6,f3⟩ | ⟨y5,y6,f3,g3⟩
          · rw [hn2' f3]
            try simp only [AH.SD,AH.SE,AOp.call?,AOp.next?,bstep,AV.cells,unAV,binAV,retQ,retV,AH.sliceElems,AH.bytesOf,AH.strOp,AH.bound,AH.missQ,AH.minmaxAV,AH.readOf,AH.effOf,Nat.reduceBEq,Nat.reduceAdd,Nat.reduceLT,↓reduceIte,Nat.reduceEqDiff,Nat.reduceLeDiff,Nat.reduceSub,Nat.reduceMul,Int.reduceSub,Int.reduceToNat,Int.reduceBEq,Int.reduceBNe,Int.reduceLT,Int.reduceGT,Int.reduceLE,Int.reduceGE,Int.reduceNeg,Int.reduceAdd,wE,x1,x2,x3,x4,x5,x6,hT,hU,hT2,hU2,callR_none,y1,y2,y3,y5]
          · rw [hn2' f3]
            try simp only [AH.SD,AH.SE,AOp.call?,AOp.next?,bstep,AV.cells,unAV,binAV,retQ,retV,AH.sliceElems,AH.bytesOf,AH.strOp,AH.bound,AH.missQ,AH.minmaxAV,AH.readOf,AH.effOf,Nat.reduceBEq,Nat.reduceAdd,Nat.reduceLT,↓reduceIte,Nat.reduceEqDiff,Nat.reduceLeDiff,Nat.reduceSub,Nat.reduceMul,Int.reduceSub,Int.reduceToNat,Int.reduceBEq,Int.reduceBNe,Int.reduceLT,Int.reduceGT,Int.reduceLE,Int.reduceGE,Int.reduceNeg,Int.reduceAdd,wE,x1,x2,x3,x4,x5,x6,hT,hU,hT2,hU2,callR_none,y1,y2,y3,y5,y6]
          · try simp only [AH.SD,AH.SE,AOp.call?,AOp.next?,bstep,AV.cells,unAV,binAV,retQ,retV,AH.sliceElems,AH.bytesOf,AH.strOp,AH.bound,AH.missQ,AH.minmaxAV,AH.readOf,AH.effOf,Nat.reduceBEq,Nat.reduceAdd,Nat.reduceLT,↓reduceIte,Nat.reduceEqDiff,Nat.reduceLeDiff,Nat.reduceSub,Nat.reduceMul,Int.reduceSub,Int.reduceToNat,Int.reduceBEq,Int.reduceBNe,Int.reduceLT,Int.reduceGT,Int.reduceLE,Int.reduceGE,Int.reduceNeg,Int.reduceAdd,wE,x1,x2,x3,x4,x5,x6,hT,hU,hT2,hU2,callR_none,y1,y2,y3,y5,y6]
            refine (hs2 f3 g3).mono ?_
            rintro r m' ⟨rfl,rfl⟩
            try simp only [AH.SD,AH.SE,AOp.call?,AOp.next?,bstep,AV.cells,unAV,binAV,retQ,retV,AH.sliceElems,AH.bytesOf,AH.strOp,AH.bound,AH.missQ,AH.minmaxAV,AH.readOf,AH.effOf,Nat.reduceBEq,Nat.reduceAdd,Nat.reduceLT,↓reduceIte,Nat.reduceEqDiff,Nat.reduceLeDiff,Nat.reduceSub,Nat.reduceMul,Int.reduceSub,Int.reduceToNat,Int.reduceBEq,Int.reduceBNe,Int.reduceLT,Int.reduceGT,Int.reduceLE,Int.reduceGE,Int.reduceNeg,Int.reduceAdd,wE,x1,x2,x3,x4,x5,x6,hT,hU,hT2,hU2,callR_none,y1,y2,y3,y5,y6]
        · rw [hn1 f2]
          rcases tri (mid < e) (e < b) with ⟨y5,f3⟩ | ⟨y5,y6,f3⟩ | ⟨y5,y6,f3,g3⟩
          · rw [hn2' f3]
            try simp only [AH.SD,AH.SE,AOp.call?,AOp.next?,bstep,AV.cells,unAV,binAV,retQ,retV,AH.sliceElems,AH.bytesOf,AH.strOp,AH.bound,AH.missQ,AH.minmaxAV,AH.readOf,AH.effOf,Nat.reduceBEq,Nat.reduceAdd,Nat.reduceLT,↓reduceIte,Nat.reduceEqDiff,Nat.reduceLeDiff,Nat.reduceSub,Nat.reduceMul,Int.reduceSub,Int.reduceToNat,Int.reduceBEq,Int.reduceBNe,Int.reduceLT,Int.reduceGT,Int.reduceLE,Int.reduceGE,Int.reduceNeg,Int.reduceAdd,wE,x1,x2,x3,x4,x5,x6,hT,hU,hT2,hU2,callR_none,y1,y2,y3,y4,y5]
          · rw [hn2' f3]
            try simp only [AH.SD,AH.SE,AOp.call?,AOp.next?,bstep,AV.cells,unAV,binAV,retQ,retV,AH.sliceElems,AH.bytesOf,AH.strOp,AH.bound,AH.missQ,AH.minmaxAV,AH.readOf,AH.effOf,Nat.reduceBEq,Nat.reduceAdd,Nat.reduceLT,↓reduceIte,Nat.reduceEqDiff,Nat.reduceLeDiff,Nat.reduceSub,Nat.reduceMul,Int.reduceSub,Int.reduceToNat,Int.reduceBEq,Int.reduceBNe,Int.reduceLT,Int.reduceGT,Int.reduceLE,Int.reduceGE,Int.reduceNeg,Int.reduceAdd,wE,x1,x2,x3,x4,x5,x6,hT,hU,hT2,hU2,callR_none,y1,y2,y3,y4,y5,y6]
          · try simp only [AH.SD,AH.SE,AOp.call?,AOp.next?,bstep,AV.cells,unAV,binAV,retQ,retV,AH.sliceElems,AH.bytesOf,AH.strOp,AH.bound,AH.missQ,AH.minmaxAV,AH.readOf,AH.effOf,Nat.reduceBEq,Nat.reduceAdd,Nat.reduceLT,↓reduceIte,Nat.reduceEqDiff,Nat.reduceLeDiff,Nat.reduceSub,Nat.reduceMul,Int.reduceSub,Int.reduceToNat,Int.reduceBEq,Int.reduceBNe,Int.reduceLT,Int.reduceGT,Int.reduceLE,Int.reduceGE,Int.reduceNeg,Int.reduceAdd,wE,x1,x2,x3,x4,x5,x6,hT,hU,hT2,hU2,callR_none,y1,y2,y3,y4,y5,y6]
            refine (hs2 f3 g3).mono ?_
            rintro r m' ⟨rfl,rfl⟩
            try simp only [AH.SD,AH.SE,AOp.call?,AOp.next?,bstep,AV.cells,unAV,binAV,retQ,retV,AH.sliceElems,AH.bytesOf,AH.strOp,AH.bound,AH.missQ,AH.minmaxAV,AH.readOf,AH.effOf,Nat.reduceBEq,Nat.reduceAdd,Nat.reduceLT,↓reduceIte,Nat.reduceEqDiff,Nat.reduceLeDiff,Nat.reduceSub,Nat.reduceMul,Int.reduceSub,Int.reduceToNat,Int.reduceBEq,Int.reduceBNe,Int.reduceLT,Int.reduceGT,Int.reduceLE,Int.reduceGE,Int.reduceNeg,Int.reduceAdd,wE,x1,x2,x3,x4,x5,x6,hT,hU,hT2,hU2,callR_none,y1,y2,y3,y4,y5,y6]
        · try simp only [AH.SD,AH.SE,AOp.call?,AOp.next?,bstep,AV.cells,unAV,binAV,retQ,retV,AH.sliceElems,AH.bytesOf,AH.strOp,AH.bound,AH.missQ,AH.minmaxAV,AH.readOf,AH.effOf,Nat.reduceBEq,Nat.reduceAdd,Nat.reduceLT,↓reduceIte,Nat.reduceEqDiff,Nat.reduceLeDiff,Nat.reduceSub,Nat.reduceMul,Int.reduceSub,Int.reduceToNat,Int.reduceBEq,Int.reduceBNe,Int.reduceLT,Int.reduceGT,Int.reduceLE,Int.reduceGE,Int.reduceNeg,Int.reduceAdd,wE,x1,x2,x3,x4,x5,x6,hT,hU,hT2,hU2,callR_none,y1,y2,y3,y4]
          refine (hs1 f2 g2).mono ?_
          rintro r m' ⟨rfl,rfl⟩
          rcases tri (mid < e) (e < b) with ⟨y5,f3⟩ | ⟨y5,y6,f3⟩ | ⟨y5,y6,f3,g3⟩
          · rw [hn2' f3]
            try simp only [AH.SD,AH.SE,AOp.call?,AOp.next?,bstep,AV.cells,unAV,binAV,retQ,retV,AH.sliceElems,AH.bytesOf,AH.strOp,AH.bound,AH.missQ,AH.minmaxAV,AH.readOf,AH.effOf,Nat.reduceBEq,Nat.reduceAdd,Nat.reduceLT,↓reduceIte,Nat.reduceEqDiff,Nat.reduceLeDiff,Nat.reduceSub,Nat.reduceMul,Int.reduceSub,Int.reduceToNat,Int.reduceBEq,Int.reduceBNe,Int.reduceLT,Int.reduceGT,Int.reduceLE,Int.reduceGE,Int.reduceNeg,Int.reduceAdd,wE,x1,x2,x3,x4,x5,x6,hT,hU,hT2,hU2,callR_none,y1,y2,y3,y4,y5]
          · rw [hn2' f3]
            try simp only [AH.SD,AH.SE,AOp.call?,AOp.next?,bstep,AV.cells,unAV,binAV,retQ,retV,AH.sliceElems,AH.bytesOf,AH.strOp,AH.bound,AH.missQ,AH.minmaxAV,AH.readOf,AH.effOf,Nat.reduceBEq,Nat.reduceAdd,Nat.reduceLT,↓reduceIte,Nat.reduceEqDiff,Nat.reduceLeDiff,Nat.reduceSub,Nat.reduceMul,Int.reduceSub,Int.reduceToNat,Int.reduceBEq,Int.reduceBNe,Int.reduceLT,Int.reduceGT,Int.reduceLE,Int.reduceGE,Int.reduceNeg,Int.reduceAdd,wE,x1,x2,x3,x4,x5,x6,hT,hU,hT2,hU2,callR_none,y1,y2,y3,y4,y5,y6]
          · try simp only [AH.SD,AH.SE,AOp.call?,AOp.next?,bstep,AV.cells,unAV,binAV,retQ,retV,AH.sliceElems,AH.bytesOf,AH.strOp,AH.bound,AH.missQ,AH.minmaxAV,AH.readOf,AH.effOf,Nat.reduceBEq,Nat.reduceAdd,Nat.reduceLT,↓reduceIte,Nat.reduceEqDiff,Nat.reduceLeDiff,Nat.reduceSub,Nat.reduceMul,Int.reduceSub,Int.reduceToNat,Int.reduceBEq,Int.reduceBNe,Int.reduceLT,Int.reduceGT,Int.reduceLE,Int.reduceGE,Int.reduceNeg,Int.reduceAdd,wE,x1,x2,x3,x4,x5,x6,hT,hU,hT2,hU2,callR_none,y1,y2,y3,y4,y5,y6]
            refine (hs2 f3 g3).mono ?_
            rintro r m' ⟨rfl,rfl⟩
            try simp only [AH.SD,AH.SE,AOp.call?,AOp.next?,bstep,AV.cells,unAV,binAV,retQ,retV,AH.sliceElems,AH.bytesOf,AH.strOp,AH.bound,AH.missQ,AH.minmaxAV,AH.readOf,AH.effOf,Nat.reduceBEq,Nat.reduceAdd,Nat.reduceLT,↓reduceIte,Nat.reduceEqDiff,Nat.reduceLeDiff,Nat.reduceSub,Nat.reduceMul,Int.reduceSub,Int.reduceToNat,Int.reduceBEq,Int.reduceBNe,Int.reduceLT,Int.reduceGT,Int.reduceLE,Int.reduceGE,Int.reduceNeg,Int.reduceAdd,wE,x1,x2,x3,x4,x5,x6,hT,hU,hT2,hU2,callR_none,y1,y2,y3,y4,y5,y6]
      · try simp only [AH.SD,AH.SE,AOp.call?,AOp.next?,bstep,AV.cells,unAV,binAV,retQ,retV,AH.sliceElems,AH.bytesOf,AH.strOp,AH.bound,AH.missQ,AH.minmaxAV,AH.readOf,AH.effOf,Nat.reduceBEq,Nat.reduceAdd,Nat.reduceLT,↓reduceIte,Nat.reduceEqDiff,Nat.reduceLeDiff,Nat.reduceSub,Nat.reduceMul,Int.reduceSub,Int.reduceToNat,Int.reduceBEq,Int.reduceBNe,Int.reduceLT,Int.reduceGT,Int.reduceLE,Int.reduceGE,Int.reduceNeg,Int.reduceAdd,wE,x1,x2,x3,x4,x5,x6,hT,hU,hT2,hU2,callR_none,y1,y2]
        refine (hrot f1 g1).mono ?_
        rintro r m' ⟨rfl,rfl⟩
        rcases tri (a < i) (i < mid) with ⟨y3,f2⟩ | ⟨y3,y4,f2⟩ | ⟨y3,y4,f2,g2⟩
        · rw [hn1 f2]
          rcases tri (mid < e) (e < b) with ⟨y5,f3⟩ | ⟨y5,y6,f3⟩ | ⟨y5,y6,f3,g3⟩
          · rw [hn2' f3]
            try simp only [AH.SD,AH.SE,AOp.call?,AOp.next?,bstep,AV.cells,unAV,binAV,retQ,retV,AH.sliceElems,AH.bytesOf,AH.strOp,AH.bound,AH.missQ,AH.minmaxAV,AH.readOf,AH.effOf,Nat.reduceBEq,Nat.reduceAdd,Nat.reduceLT,↓reduceIte,Nat.reduceEqDiff,Nat.reduceLeDiff,Nat.reduceSub,Nat.reduceMul,Int.reduceSub,Int.reduceToNat,Int.reduceBEq,Int.reduceBNe,Int.reduceLT,Int.reduceGT,Int.reduceLE,Int.reduceGE,Int.reduceNeg,Int.reduceAdd,wE,x1,x2,x3,x4,x5,x6,hT,hU,hT2,hU2,callR_none,y1,y2,y3,y5]
          · rw [hn2' f3]
            try simp only [AH.SD,AH.SE,AOp.call?,AOp.next?,bstep,AV.cells,unAV,binAV,retQ,retV,AH.sliceElems,AH.bytesOf,AH.strOp,AH.bound,AH.missQ,AH.minmaxAV,AH.readOf,AH.effOf,Nat.reduceBEq,Nat.reduceAdd,Nat.reduceLT,↓reduceIte,Nat.reduceEqDiff,Nat.reduceLeDiff,Nat.reduceSub,Nat.reduceMul,Int.reduceSub,Int.reduceToNat,Int.reduceBEq,Int.reduceBNe,Int.reduceLT,Int.reduceGT,Int.reduceLE,Int.reduceGE,Int.reduceNeg,Int.reduceAdd,wE,x1,x2,x3,x4,x5,x6,hT,hU,hT2,hU2,callR_none,y1,y2,y3,y5,y6]
          · try simp only [AH.SD,AH.SE,AOp.call?,AOp.next?,bstep,AV.cells,unAV,binAV,retQ,retV,AH.sliceElems,AH.bytesOf,AH.strOp,AH.bound,AH.missQ,AH.minmaxAV,AH.readOf,AH.effOf,Nat.reduceBEq,Nat.reduceAdd,Nat.reduceLT,↓reduceIte,Nat.reduceEqDiff,Nat.reduceLeDiff,Nat.reduceSub,Nat.reduceMul,Int.reduceSub,Int.reduceToNat,Int.reduceBEq,Int.reduceBNe,Int.reduceLT,Int.reduceGT,Int.reduceLE,Int.reduceGE,Int.reduceNeg,Int.reduceAdd,wE,x1,x2,x3,x4,x5,x6,hT,hU,hT2,hU2,callR_none,y1,y2,y3,y5,y6]
            refine (hs2 f3 g3).mono ?_
            rintro r m' ⟨rfl,rfl⟩
            try simp only [AH.SD,AH.SE,AOp.call?,AOp.next?,bstep,AV.cells,unAV,binAV,retQ,retV,AH.sliceElems,AH.bytesOf,AH.strOp,AH.bound,AH.missQ,AH.minmaxAV,AH.readOf,AH.effOf,Nat.reduceBEq,Nat.reduceAdd,Nat.reduceLT,↓reduceIte,Nat.reduceEqDiff,Nat.reduceLeDiff,Nat.reduceSub,Nat.reduceMul,Int.reduceSub,Int.reduceToNat,Int.reduceBEq,Int.reduceBNe,Int.reduceLT,Int.reduceGT,Int.reduceLE,Int.reduceGE,Int.reduceNeg,Int.reduceAdd,wE,x1,x2,x3,x4,x5,x6,hT,hU,hT2,hU2,callR_none,y1,y2,y3,y5,y6]
        · rw [hn1 f2]
          rcases tri (mid < e) (e < b) with ⟨y5,f3⟩ | ⟨y5,y6,f3⟩ | ⟨y5,y6,f3,g3⟩
          · rw [hn2' f3]
            try simp only [AH.SD,AH.SE,AOp.call?,AOp.next?,bstep,AV.cells,unAV,binAV,retQ,retV,AH.sliceElems,AH.bytesOf,AH.strOp,AH.bound,AH.missQ,AH.minmaxAV,AH.readOf,AH.effOf,Nat.reduceBEq,Nat.reduceAdd,Nat.reduceLT,↓reduceIte,Nat.reduceEqDiff,Nat.reduceLeDiff,Nat.reduceSub,Nat.reduceMul,Int.reduceSub,Int.reduceToNat,Int.reduceBEq,Int.reduceBNe,Int.reduceLT,Int.reduceGT,Int.reduceLE,Int.reduceGE,Int.reduceNeg,Int.reduceAdd,wE,x1,x2,x3,x4,x5,x6,hT,hU,hT2,hU2,callR_none,y1,y2,y3,y4,y5]
          · rw [hn2' f3]
            try simp only [AH.SD,AH.SE,AOp.call?,AOp.next?,bstep,AV.cells,unAV,binAV,retQ,retV,AH.sliceElems,AH.bytesOf,AH.strOp,AH.bound,AH.missQ,AH.minmaxAV,AH.readOf,AH.effOf,Nat.reduceBEq,Nat.reduceAdd,Nat.reduceLT,↓reduceIte,Nat.reduceEqDiff,Nat.reduceLeDiff,Nat.reduceSub,Nat.reduceMul,Int.reduceSub,Int.reduceToNat,Int.reduceBEq,Int.reduceBNe,Int.reduceLT,Int.reduceGT,Int.reduceLE,Int.reduceGE,Int.reduceNeg,Int.reduceAdd,wE,x1,x2,x3,x4,x5,x6,hT,hU,hT2,hU2,callR_none,y1,y2,y3,y4,y5,y6]
          · try simp only [AH.SD,AH.SE,AOp.call?,AOp.next?,bstep,AV.cells,unAV,binAV,retQ,retV,AH.sliceElems,AH.bytesOf,AH.strOp,AH.bound,AH.missQ,AH.minmaxAV,AH.readOf,AH.effOf,Nat.reduceBEq,Nat.reduceAdd,Nat.reduceLT,↓reduceIte,Nat.reduceEqDiff,Nat.reduceLeDiff,Nat.reduceSub,Nat.reduceMul,Int.reduceSub,Int.reduceToNat,Int.reduceBEq,Int.reduceBNe,Int.reduceLT,Int.reduceGT,Int.reduceLE,Int.reduceGE,Int.reduceNeg,Int.reduceAdd,wE,x1,x2,x3,x4,x5,x6,hT,hU,hT2,hU2,callR_none,y1,y2,y3,y4,y5,y6]
            refine (hs2 f3 g3).mono ?_
            rintro r m' ⟨rfl,rfl⟩
            try simp only [AH.SD,AH.SE,AOp.call?,AOp.next?,bstep,AV.cells,unAV,binAV,retQ,retV,AH.sliceElems,AH.bytesOf,AH.strOp,AH.bound,AH.missQ,AH.minmaxAV,AH.readOf,AH.effOf,Nat.reduceBEq,Nat.reduceAdd,Nat.reduceLT,↓reduceIte,Nat.reduceEqDiff,Nat.reduceLeDiff,Nat.reduceSub,Nat.reduceMul,Int.reduceSub,Int.reduceToNat,Int.reduceBEq,Int.reduceBNe,Int.reduceLT,Int.reduceGT,Int.reduceLE,Int.reduceGE,Int.reduceNeg,Int.reduceAdd,wE,x1,x2,x3,x4,x5,x6,hT,hU,hT2,hU2,callR_none,y1,y2,y3,y4,y5,y6]
        · try simp only [AH.SD,AH.SE,AOp.call?,AOp.next?,bstep,AV.cells,unAV,binAV,retQ,retV,AH.sliceElems,AH.bytesOf,AH.strOp,AH.bound,AH.missQ,AH.minmaxAV,AH.readOf,AH.effOf,Nat.reduceBEq,Nat.reduceAdd,Nat.reduceLT,↓reduceIte,Nat.reduceEqDiff,Nat.reduceLeDiff,Nat.reduceSub,Nat.reduceMul,Int.reduceSub,Int.reduceToNat,Int.reduceBEq,Int.reduceBNe,Int.reduceLT,Int.reduceGT,Int.reduceLE,Int.reduceGE,Int.reduceNeg,Int.reduceAdd,wE,x1,x2,x3,x4,x5,x6,hT,hU,hT2,hU2,callR_none,y1,y2,y3,y4]
          refine (hs1 f2 g2).mono ?_
          rintro r m' ⟨rfl,rfl⟩
          rcases tri (mid < e) (e < b) with ⟨y5,f3⟩ | ⟨y5,y6,f3⟩ | ⟨y5,y6,f3,g3⟩
          · rw [hn2' f3]
            try simp only [AH.SD,AH.SE,AOp.call?,AOp.next?,bstep,AV.cells,unAV,binAV,retQ,retV,AH.sliceElems,AH.bytesOf,AH.strOp,AH.bound,AH.missQ,AH.minmaxAV,AH.readOf,AH.effOf,Nat.reduceBEq,Nat.reduceAdd,Nat.reduceLT,↓reduceIte,Nat.reduceEqDiff,Nat.reduceLeDiff,Nat.reduceSub,Nat.reduceMul,Int.reduceSub,Int.reduceToNat,Int.reduceBEq,Int.reduceBNe,Int.reduceLT,Int.reduceGT,Int.reduceLE,Int.reduceGE,Int.reduceNeg,Int.reduceAdd,wE,x1,x2,x3,x4,x5,x6,hT,hU,hT2,hU2,callR_none,y1,y2,y3,y4,y5]
          · rw [hn2' f3]
            try simp only [AH.SD,AH.SE,AOp.call?,AOp.next?,bstep,AV.cells,unAV,binAV,retQ,retV,AH.sliceElems,AH.bytesOf,AH.strOp,AH.bound,AH.missQ,AH.minmaxAV,AH.readOf,AH.effOf,Nat.reduceBEq,Nat.reduceAdd,Nat.reduceLT,↓reduceIte,Nat.reduceEqDiff,Nat.reduceLeDiff,Nat.reduceSub,Nat.reduceMul,Int.reduceSub,Int.reduceToNat,Int.reduceBEq,Int.reduceBNe,Int.reduceLT,Int.reduceGT,Int.reduceLE,Int.reduceGE,Int.reduceNeg,Int.reduceAdd,wE,x1,x2,x3,x4,x5,x6,hT,hU,hT2,hU2,callR_none,y1,y2,y3,y4,y5,y6]
          · try simp only [AH.SD,AH.SE,AOp.call?,AOp.next?,bstep,AV.cells,unAV,binAV,retQ,retV,AH.sliceElems,AH.bytesOf,AH.strOp,AH.bound,AH.missQ,AH.minmaxAV,AH.readOf,AH.effOf,Nat.reduceBEq,Nat.reduceAdd,Nat.reduceLT,↓reduceIte,Nat.reduceEqDiff,Nat.reduceLeDiff,Nat.reduceSub,Nat.reduceMul,Int.reduceSub,Int.reduceToNat,Int.reduceBEq,Int.reduceBNe,Int.reduceLT,Int.reduceGT,Int.reduceLE,Int.reduceGE,Int.reduceNeg,Int.reduceAdd,wE,x1,x2,x3,x4,x5,x6,hT,hU,hT2,hU2,callR_none,y1,y2,y3,y4,y5,y6]
            refine (hs2 f3 g3).mono ?_
            rintro r m' ⟨rfl,rfl⟩
            try simp only [AH.SD,AH.SE,AOp.call?,AOp.next?,bstep,AV.cells,unAV,binAV,retQ,retV,AH.sliceElems,AH.bytesOf,AH.strOp,AH.bound,AH.missQ,AH.minmaxAV,AH.readOf,AH.effOf,Nat.reduceBEq,Nat.reduceAdd,Nat.reduceLT,↓reduceIte,Nat.reduceEqDiff,Nat.reduceLeDiff,Nat.reduceSub,Nat.reduceMul,Int.reduceSub,Int.reduceToNat,Int.reduceBEq,Int.reduceBNe,Int.reduceLT,Int.reduceGT,Int.reduceLE,Int.reduceGE,Int.reduceNeg,Int.reduceAdd,wE,x1,x2,x3,x4,x5,x6,hT,hU,hT2,hU2,callR_none,y1,y2,y3,y4,y5,y6]
end Go.Proofs.YtkbjfhkhbcgkgaaDoor.B33
