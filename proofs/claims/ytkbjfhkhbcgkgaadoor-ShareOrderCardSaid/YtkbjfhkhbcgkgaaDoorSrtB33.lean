import Derived.Test.YtkbjfhkhbcgkgaaDoorShOB33
open Go AH
set_option linter.unusedSimpArgs false
set_option maxRecDepth 100000
namespace Go.Proofs.YtkbjfhkhbcgkgaaDoor.B33
def MI (m : Mem) (id : Nat) (l : List Int) : Mem:=mset m id (some (.row false 1 (l.map intC)))
theorem mget_mset : ∀ (m : Mem) (i : Nat) (b : Option Blk),mget (mset m i b) i = b
  | [],0,b =>rfl
  | [],i + 1,b =>by rw [mset,mget,mget_mset [] i b]
  | x :: r,0,b =>rfl
  | x :: r,i + 1,b =>by rw [mset,mget,mget_mset r i b]
theorem mset_mset : ∀ (m : Mem) (i : Nat) (b b' : Option Blk),mset (mset m i b) i b' = mset m i b'
  | [],0,b,b' =>rfl
  | [],i + 1,b,b' =>by simp only [mset,mset_mset [] i b b']
  | x :: r,0,b,b' =>rfl
  | x :: r,i + 1,b,b' =>by simp only [mset,mset_mset r i b b']
theorem mget_MI (m : Mem) (id : Nat) (l : List Int) : mget (MI m id l) id = some (.row false 1 (l.map intC)):=mget_mset _ _ _
theorem mset_MI (m : Mem) (id : Nat) (l l' : List Int) : mset (MI m id l) id (some (.row false 1 (l'.map intC))) = MI m id l':=mset_mset _ _ _ _
theorem setC (l : List Int) (j : Nat) (x : Int) : (l.map intC).set j [.int .i64 x] = (l.set j x).map intC:=by rw [List.map_set]; rfl
def swp (l : List Int) (j : Nat) : List Int:=(l.set (j + 1) (l.getD j 0)).set j (l.getD (j + 1) 0)
def bub (c : Int → Int → Int) (a : Nat) (l : List Int) : Nat → List Int
  | 0 =>l
  | j + 1 =>bif decide (j + 1 > a) && decide (c (l.getD (j + 1) 0) (l.getD j 0) < 0) then bub c a (swp l j) j else l
def insL (c : Int → Int → Int) (a : Nat) (l : List Int) (i : Nat) : Nat → List Int
  | 0 =>l
  | n + 1 =>insL c a (bub c a l i) (i + 1) n
set_option maxRecDepth 100000 in
theorem ins_ok {T : List (FuncId × RT)} {U : List (FuncId × UT)} (ok : CtxOK S0 (ctxU S0 T U)) {fg : FuncId} {capd : List AV} (c : Int → Int → Int) (P : Int → Prop) {m : Mem} {id : Nat} (hid : id < m.length) {ft : List Nat}
    (hr : ∀ (l : List Int) x y,P x → P y → appT (.int .i64 x :: .int .i64 y :: capd) (mget (MI m id l)) (lookT T fg) = some (.int .i64 (c x y),ft))
    (l : List Int) (hP : ∀ x ∈ l,P x) (hl : l.length ≤ 1048576) (a b : Nat) (hab : a ≤ b) (hb : b ≤ l.length) :
    CallA1 S0 72 [.slc id 0 l.length none,.int .i64 a,.int .i64 b,.fn fg [] capd] (MI m id l) fun r m' =>r = .tup [] ∧ m' = MI m id (insL c a l (a + 1) (b - (a + 1))):=by
  have hfr : ∀ (l : List Int) (e : Eff),e.foot = [id] → okFresh (MI m id l).length e = true:=fun l e h =>by
    unfold okFresh
    rw [h,MI,mset_lenF _ _ _ hid]
    have : [id].contains m.length = false:=by simp; omega
    rw [this]; rfl
  refine fun_sound ok Tryd.func72 c72 ?_
  unfold wpF F72
  have wa:=wrapS (i:=a) (by omega)
  simp only [AH.SD,AH.SE,AOp.call?,AOp.next?,bstep,AV.cells,unAV,binAV,retQ,retV,AH.sliceElems,AH.bytesOf,AH.strOp,AH.bound,AH.missQ,AH.minmaxAV,AH.readOf,AH.effOf,Nat.reduceBEq,Nat.reduceAdd,Nat.reduceLT,↓reduceIte,Nat.reduceEqDiff,Nat.reduceLeDiff,Nat.reduceSub,Nat.reduceMul,Int.reduceSub,Int.reduceToNat,Int.reduceBEq,Int.reduceBNe,Int.reduceLT,Int.reduceGT,Int.reduceLE,Int.reduceGE,Int.reduceNeg,Int.reduceAdd,wa]
  refine loop_rule (α:=Nat × List Int) (fun x =>b - x.1) (fun x =>⟨[(8,.int .i64 x.1),(3,.fn fg [] capd),(2,.int .i64 b),(1,.int .i64 a),(0,.slc id 0 l.length none)],MI m id x.2⟩)
    (fun x =>a + 1 ≤ x.1 ∧ x.2.length = l.length ∧ (∀ y ∈ x.2,P y) ∧ insL c a l (a + 1) (b - (a + 1)) = insL c a x.2 x.1 (b - x.1)) (a + 1,l) ⟨Nat.le_refl _,rfl,hP,rfl⟩
    (gc_keep (l:=[(8,.int .i64 ((a + 1 : Nat) : Int)),(3,.fn fg [] capd),(2,.int .i64 b),(1,.int .i64 a),(0,.slc id 0 l.length none)]) ⟨rfl,rfl,rfl,rfl,rfl,trivial⟩ rfl) ?_
  rintro X ⟨i,l1⟩ ⟨hi,hl1,hP1,hx⟩ ih
  simp only at hi hl1 hP1 hx
  simp only [AH.SD,AH.SE,AOp.call?,AOp.next?,bstep,AV.cells,unAV,binAV,retQ,retV,AH.sliceElems,AH.bytesOf,AH.strOp,AH.bound,AH.missQ,AH.minmaxAV,AH.readOf,AH.effOf,Nat.reduceBEq,Nat.reduceAdd,Nat.reduceLT,↓reduceIte,Nat.reduceEqDiff,Nat.reduceLeDiff,Nat.reduceSub,Nat.reduceMul,Int.reduceSub,Int.reduceToNat,Int.reduceBEq,Int.reduceBNe,Int.reduceLT,Int.reduceGT,Int.reduceLE,Int.reduceGE,Int.reduceNeg,Int.reduceAdd]
  refine ⟨fun hlt => ?_,fun hlt => ?_⟩
  · have hib:=lt_of_dec hlt
    rw [show b - i = (b - (i + 1)) + 1 by omega,insL] at hx
    simp only [AH.SD,AH.SE,AOp.call?,AOp.next?,bstep,AV.cells,unAV,binAV,retQ,retV,AH.sliceElems,AH.bytesOf,AH.strOp,AH.bound,AH.missQ,AH.minmaxAV,AH.readOf,AH.effOf,Nat.reduceBEq,Nat.reduceAdd,Nat.reduceLT,↓reduceIte,Nat.reduceEqDiff,Nat.reduceLeDiff,Nat.reduceSub,Nat.reduceMul,Int.reduceSub,Int.reduceToNat,Int.reduceBEq,Int.reduceBNe,Int.reduceLT,Int.reduceGT,Int.reduceLE,Int.reduceGE,Int.reduceNeg,Int.reduceAdd]
    refine loop_rule (α:=Nat × List Int) (fun x =>x.1) (fun x =>⟨[(9,.int .i64 x.1),(8,.int .i64 i),(3,.fn fg [] capd),(2,.int .i64 b),(1,.int .i64 a),(0,.slc id 0 l.length none)],MI m id x.2⟩)
      (fun x =>a ≤ x.1 ∧ x.1 ≤ i ∧ x.2.length = l.length ∧ (∀ y ∈ x.2,P y) ∧ bub c a l1 i = bub c a x.2 x.1) (i,l1) ⟨by simp only; omega,Nat.le_refl _,hl1,hP1,rfl⟩
      (gc_keep (l:=[(9,.int .i64 i),(8,.int .i64 i),(3,.fn fg [] capd),(2,.int .i64 b),(1,.int .i64 a),(0,.slc id 0 l.length none)]) ⟨rfl,rfl,rfl,rfl,rfl,rfl,trivial⟩ rfl) ?_
    rintro Y ⟨j,l2⟩ ⟨hj,hji,hl2,hP2,hy⟩ ihj
    simp only at hj hji hl2 hP2 hy
    have wi:=wrapS (i:=i) (by omega)
    cases ha : decide ((j : Int) > (a : Int))
    · have hja : j = a:=by simp only [decide_eq_false_iff_not] at ha; omega
      have hb0 : bub c a l2 j = l2:=by
        rw [hja]
        cases a with
        | zero =>rfl
        | succ a =>rw [bub,decide_eq_false (by omega),Bool.false_and,cond_false]
      rw [hb0] at hy
      simp only [AH.SD,AH.SE,AOp.call?,AOp.next?,bstep,AV.cells,unAV,binAV,retQ,retV,AH.sliceElems,AH.bytesOf,AH.strOp,AH.bound,AH.missQ,AH.minmaxAV,AH.readOf,AH.effOf,Nat.reduceBEq,Nat.reduceAdd,Nat.reduceLT,↓reduceIte,Nat.reduceEqDiff,Nat.reduceLeDiff,Nat.reduceSub,Nat.reduceMul,Int.reduceSub,Int.reduceToNat,Int.reduceBEq,Int.reduceBNe,Int.reduceLT,Int.reduceGT,Int.reduceLE,Int.reduceGE,Int.reduceNeg,Int.reduceAdd,ha,wi]
      repeat (refine ⟨by first | rfl | decide | omega | (simp only [List.length_map,List.length_set,and_true]; omega),?_⟩)
      refine gc_keep (l:=[(8,.int .i64 ((i + 1 : Nat) : Int)),(3,.fn fg [] capd),(2,.int .i64 b),(1,.int .i64 a),(0,.slc id 0 l.length none)]) ⟨rfl,rfl,rfl,rfl,rfl,trivial⟩ ?_
      exact ih (i + 1,l2) ⟨by simp only; omega,hl2,hP2,by rw [hx,hy]⟩ (by simp only; omega)
    · simp only [decide_eq_true_eq] at ha
      obtain ⟨k,rfl⟩ : ∃ k,j = k + 1:=⟨j - 1,by omega⟩
      have wk : IntKind.i64.wrap (((k + 1 : Nat) : Int) - 1) = (k : Int):=by rw [IntKind.wrap_i64]; omega
      have hk1 : k + 1 < l2.length:=by omega
      have hk0 : k < l2.length:=by omega
      have p1 : P l2[k + 1]:=hP2 _ (List.getElem_mem hk1)
      have p0 : P l2[k]:=hP2 _ (List.getElem_mem hk0)
      have g1 : l2.getD (k + 1) 0 = l2[k + 1]:=by rw [List.getD_eq_getElem?_getD,List.getElem?_eq_getElem hk1]; rfl
      have g0 : l2.getD k 0 = l2[k]:=by rw [List.getD_eq_getElem?_getD,List.getElem?_eq_getElem hk0]; rfl
      have hrr:=hr l2 _ _ p1 p0
      have hsw : bub c a l2 (k + 1) = bif decide (c l2[k + 1] l2[k] < 0) then bub c a (swp l2 k) k else l2:=by
        rw [bub,g1,g0,decide_eq_true (by omega : k + 1 > a),Bool.true_and]
      simp only [AH.SD,AH.SE,AOp.call?,AOp.next?,bstep,AV.cells,unAV,binAV,retQ,retV,AH.sliceElems,AH.bytesOf,AH.strOp,AH.bound,AH.missQ,AH.minmaxAV,AH.readOf,AH.effOf,Nat.reduceBEq,Nat.reduceAdd,Nat.reduceLT,↓reduceIte,Nat.reduceEqDiff,Nat.reduceLeDiff,Nat.reduceSub,Nat.reduceMul,Int.reduceSub,Int.reduceToNat,Int.reduceBEq,Int.reduceBNe,Int.reduceLT,Int.reduceGT,Int.reduceLE,Int.reduceGE,Int.reduceNeg,Int.reduceAdd,ha,mget_MI,wk,getD_enc,hk1,hk0,intC_eq,hrr,hfr]
      repeat (refine ⟨by first | rfl | decide | omega | (simp only [List.length_map,List.length_set,and_true]; omega),?_⟩)
      cases hc : decide (c l2[k + 1] l2[k] < 0)
      · rw [hc,cond_false] at hsw
        rw [hsw] at hy
        simp only [AH.SD,AH.SE,AOp.call?,AOp.next?,bstep,AV.cells,unAV,binAV,retQ,retV,AH.sliceElems,AH.bytesOf,AH.strOp,AH.bound,AH.missQ,AH.minmaxAV,AH.readOf,AH.effOf,Nat.reduceBEq,Nat.reduceAdd,Nat.reduceLT,↓reduceIte,Nat.reduceEqDiff,Nat.reduceLeDiff,Nat.reduceSub,Nat.reduceMul,Int.reduceSub,Int.reduceToNat,Int.reduceBEq,Int.reduceBNe,Int.reduceLT,Int.reduceGT,Int.reduceLE,Int.reduceGE,Int.reduceNeg,Int.reduceAdd,hc,wi]
        repeat (refine ⟨by first | rfl | decide | omega | (simp only [List.length_map,List.length_set,and_true]; omega),?_⟩)
        refine gc_keep (l:=[(8,.int .i64 ((i + 1 : Nat) : Int)),(3,.fn fg [] capd),(2,.int .i64 b),(1,.int .i64 a),(0,.slc id 0 l.length none)]) ⟨rfl,rfl,rfl,rfl,rfl,trivial⟩ ?_
        exact ih (i + 1,l2) ⟨by simp only; omega,hl2,hP2,by rw [hx,hy]⟩ (by simp only; omega)
      · rw [hc,cond_true] at hsw
        rw [hsw] at hy
        have esw : (l2.set (k + 1) l2[k]).set k l2[k + 1] = swp l2 k:=by rw [swp,g1,g0]
        simp only [AH.SD,AH.SE,AOp.call?,AOp.next?,bstep,AV.cells,unAV,binAV,retQ,retV,AH.sliceElems,AH.bytesOf,AH.strOp,AH.bound,AH.missQ,AH.minmaxAV,AH.readOf,AH.effOf,Nat.reduceBEq,Nat.reduceAdd,Nat.reduceLT,↓reduceIte,Nat.reduceEqDiff,Nat.reduceLeDiff,Nat.reduceSub,Nat.reduceMul,Int.reduceSub,Int.reduceToNat,Int.reduceBEq,Int.reduceBNe,Int.reduceLT,Int.reduceGT,Int.reduceLE,Int.reduceGE,Int.reduceNeg,Int.reduceAdd,hc,mget_MI,wk,getD_enc,hk1,hk0,intC_eq,setC,mset_MI,esw,hfr]
        repeat (refine ⟨by first | rfl | decide | omega | (simp only [List.length_map,List.length_set,and_true]; omega),?_⟩)
        refine gc_keep (l:=[(9,.int .i64 k),(8,.int .i64 i),(3,.fn fg [] capd),(2,.int .i64 b),(1,.int .i64 a),(0,.slc id 0 l.length none)]) ⟨rfl,rfl,rfl,rfl,rfl,rfl,trivial⟩ ?_
        refine ihj (k,swp l2 k) ⟨by simp only; omega,by simp only; omega,by rw [← hl2,← esw,List.length_set,List.length_set],fun y hy2 => ?_,hy⟩ (by simp only; omega)
        rw [← esw] at hy2
        rcases List.mem_or_eq_of_mem_set hy2 with h | rfl
        · rcases List.mem_or_eq_of_mem_set h with h | rfl
          · exact hP2 y h
          · exact p0
        · exact p1
  · have hib:=ge_of_dec hlt
    rw [show b - i = 0 by omega,insL] at hx
    simp only [AH.SD,AH.SE,AOp.call?,AOp.next?,bstep,AV.cells,unAV,binAV,retQ,retV,AH.sliceElems,AH.bytesOf,AH.strOp,AH.bound,AH.missQ,AH.minmaxAV,AH.readOf,AH.effOf,Nat.reduceBEq,Nat.reduceAdd,Nat.reduceLT,↓reduceIte,Nat.reduceEqDiff,Nat.reduceLeDiff,Nat.reduceSub,Nat.reduceMul,Int.reduceSub,Int.reduceToNat,Int.reduceBEq,Int.reduceBNe,Int.reduceLT,Int.reduceGT,Int.reduceLE,Int.reduceGE,Int.reduceNeg,Int.reduceAdd,hx]
theorem insL_len (c : Int → Int → Int) (a : Nat) : ∀ (n : Nat) (l : List Int) (i : Nat),(insL c a l i n).length = l.length
  | 0,l,i =>rfl
  | n + 1,l,i =>by
    have hb : ∀ (j : Nat) (l : List Int),(bub c a l j).length = l.length:=fun j =>by
      induction j with
      | zero =>intro l; rfl
      | succ j ih =>
        intro l
        rw [bub]
        cases decide (j + 1 > a) && decide (c (l.getD (j + 1) 0) (l.getD j 0) < 0)
        · rfl
        · rw [cond_true,ih,swp,List.length_set,List.length_set]
    rw [insL,insL_len c a n,hb]
theorem swp_mem {l : List Int} {k : Nat} (hk : k + 1 < l.length) {y : Int} (h : y ∈ swp l k) : y ∈ l:=by
  have g1 : l.getD (k + 1) 0 = l[k + 1]:=by rw [List.getD_eq_getElem?_getD,List.getElem?_eq_getElem hk]; rfl
  have g0 : l.getD k 0 = l[k]:=by rw [List.getD_eq_getElem?_getD,List.getElem?_eq_getElem (by omega)]; rfl
  rw [swp,g1,g0] at h
  rcases List.mem_or_eq_of_mem_set h with h | rfl
  · rcases List.mem_or_eq_of_mem_set h with h | rfl
    · exact h
    · exact List.getElem_mem _
  · exact List.getElem_mem _
theorem bub_len (c : Int → Int → Int) (a : Nat) : ∀ (j : Nat) (l : List Int),(bub c a l j).length = l.length
  | 0,l =>rfl
  | j + 1,l =>by
    rw [bub]
    cases decide (j + 1 > a) && decide (c (l.getD (j + 1) 0) (l.getD j 0) < 0)
    · rfl
    · rw [cond_true,bub_len c a j,swp,List.length_set,List.length_set]
theorem bub_mem (c : Int → Int → Int) (a : Nat) : ∀ (j : Nat) (l : List Int),j < l.length → ∀ y ∈ bub c a l j,y ∈ l
  | 0,l,_,y,h =>h
  | j + 1,l,hj,y,h =>by
    rw [bub] at h
    cases hc : decide (j + 1 > a) && decide (c (l.getD (j + 1) 0) (l.getD j 0) < 0) with
    | false =>rw [hc] at h; exact h
    | true =>
      rw [hc,cond_true] at h
      have:=bub_mem c a j (swp l j) (by rw [swp,List.length_set,List.length_set]; omega) y h
      exact swp_mem hj this
theorem insL_mem (c : Int → Int → Int) (a : Nat) : ∀ (n : Nat) (l : List Int) (i : Nat),i + n ≤ l.length → ∀ y ∈ insL c a l i n,y ∈ l
  | 0,l,i,_,y,h =>h
  | n + 1,l,i,hi,y,h =>by
    rw [insL] at h
    exact bub_mem c a i l (by omega) y (insL_mem c a n _ (i + 1) (by rw [bub_len]; omega) y h)
theorem insL_none (c : Int → Int → Int) (a : Nat) (l : List Int) : insL c a l (20 + 1) (20 - (20 + 1)) = l:=rfl
set_option maxRecDepth 100000 in
theorem stable_ok {T : List (FuncId × RT)} {U : List (FuncId × UT)} (ok : CtxOK S0 (ctxU S0 T U)) (hT : lookT T 72 = none) (hU : lookU U 72 = none) {fg : FuncId} {capd : List AV} (c : Int → Int → Int) (P : Int → Prop) {m : Mem} {id : Nat} (hid : id < m.length) {ft : List Nat}
    (hr : ∀ (l : List Int) x y,P x → P y → appT (.int .i64 x :: .int .i64 y :: capd) (mget (MI m id l)) (lookT T fg) = some (.int .i64 (c x y),ft))
    (l : List Int) (hP : ∀ x ∈ l,P x) (hl : l.length ≤ 20) :
    CallA1 S0 70 [.slc id 0 l.length none,.int .i64 l.length,.fn fg [] capd] (MI m id l) fun r m' =>r = .tup [] ∧ m' = MI m id (insL c 0 l 1 (l.length - 1)):=by
  refine fun_sound ok Tryd.func70 c70 ?_
  unfold wpF F70
  simp only [AH.SD,AH.SE,AOp.call?,AOp.next?,bstep,AV.cells,unAV,binAV,retQ,retV,AH.sliceElems,AH.bytesOf,AH.strOp,AH.bound,AH.missQ,AH.minmaxAV,AH.readOf,AH.effOf,Nat.reduceBEq,Nat.reduceAdd,Nat.reduceLT,↓reduceIte,Nat.reduceEqDiff,Nat.reduceLeDiff,Nat.reduceSub,Nat.reduceMul,Int.reduceSub,Int.reduceToNat,Int.reduceBEq,Int.reduceBNe,Int.reduceLT,Int.reduceGT,Int.reduceLE,Int.reduceGE,Int.reduceNeg,Int.reduceAdd,callR_none,hT,hU]
  refine loop_unroll ctxU_monoB ?_
  have z0 : ((0 : Nat) : Int) = 0:=rfl
  have z20 : ((20 : Nat) : Int) = 20:=rfl
  have hn : decide ((20 : Int) < (l.length : Int)) = false:=decide_eq_false (by omega)
  cases h : decide ((20 : Int) ≤ (l.length : Int))
  · simp only [AH.SD,AH.SE,AOp.call?,AOp.next?,bstep,AV.cells,unAV,binAV,retQ,retV,AH.sliceElems,AH.bytesOf,AH.strOp,AH.bound,AH.missQ,AH.minmaxAV,AH.readOf,AH.effOf,Nat.reduceBEq,Nat.reduceAdd,Nat.reduceLT,↓reduceIte,Nat.reduceEqDiff,Nat.reduceLeDiff,Nat.reduceSub,Nat.reduceMul,Int.reduceSub,Int.reduceToNat,Int.reduceBEq,Int.reduceBNe,Int.reduceLT,Int.reduceGT,Int.reduceLE,Int.reduceGE,Int.reduceNeg,Int.reduceAdd,h,hT,hU]
    have i1:=ins_ok ok c P hid hr l hP (by omega) 0 l.length (Nat.zero_le _) (Nat.le_refl _)
    rw [z0] at i1
    refine i1.mono ?_
    rintro r m' ⟨rfl,rfl⟩
    simp only [AH.SD,AH.SE,AOp.call?,AOp.next?,bstep,AV.cells,unAV,binAV,retQ,retV,AH.sliceElems,AH.bytesOf,AH.strOp,AH.bound,AH.missQ,AH.minmaxAV,AH.readOf,AH.effOf,Nat.reduceBEq,Nat.reduceAdd,Nat.reduceLT,↓reduceIte,Nat.reduceEqDiff,Nat.reduceLeDiff,Nat.reduceSub,Nat.reduceMul,Int.reduceSub,Int.reduceToNat,Int.reduceBEq,Int.reduceBNe,Int.reduceLT,Int.reduceGT,Int.reduceLE,Int.reduceGE,Int.reduceNeg,Int.reduceAdd]
    refine loop_unroll ctxU_monoB ?_
    simp only [AH.SD,AH.SE,AOp.call?,AOp.next?,bstep,AV.cells,unAV,binAV,retQ,retV,AH.sliceElems,AH.bytesOf,AH.strOp,AH.bound,AH.missQ,AH.minmaxAV,AH.readOf,AH.effOf,Nat.reduceBEq,Nat.reduceAdd,Nat.reduceLT,↓reduceIte,Nat.reduceEqDiff,Nat.reduceLeDiff,Nat.reduceSub,Nat.reduceMul,Int.reduceSub,Int.reduceToNat,Int.reduceBEq,Int.reduceBNe,Int.reduceLT,Int.reduceGT,Int.reduceLE,Int.reduceGE,Int.reduceNeg,Int.reduceAdd,hn]
  · have e20 : l.length = 20:=by simp only [decide_eq_true_eq] at h; omega
    simp only [AH.SD,AH.SE,AOp.call?,AOp.next?,bstep,AV.cells,unAV,binAV,retQ,retV,AH.sliceElems,AH.bytesOf,AH.strOp,AH.bound,AH.missQ,AH.minmaxAV,AH.readOf,AH.effOf,Nat.reduceBEq,Nat.reduceAdd,Nat.reduceLT,↓reduceIte,Nat.reduceEqDiff,Nat.reduceLeDiff,Nat.reduceSub,Nat.reduceMul,Int.reduceSub,Int.reduceToNat,Int.reduceBEq,Int.reduceBNe,Int.reduceLT,Int.reduceGT,Int.reduceLE,Int.reduceGE,Int.reduceNeg,Int.reduceAdd,h,hT,hU]
    have i1:=ins_ok ok c P hid hr l hP (by omega) 0 20 (Nat.zero_le _) (by omega)
    rw [z0,z20] at i1
    refine i1.mono ?_
    rintro r m' ⟨rfl,rfl⟩
    simp only [AH.SD,AH.SE,AOp.call?,AOp.next?,bstep,AV.cells,unAV,binAV,retQ,retV,AH.sliceElems,AH.bytesOf,AH.strOp,AH.bound,AH.missQ,AH.minmaxAV,AH.readOf,AH.effOf,Nat.reduceBEq,Nat.reduceAdd,Nat.reduceLT,↓reduceIte,Nat.reduceEqDiff,Nat.reduceLeDiff,Nat.reduceSub,Nat.reduceMul,Int.reduceSub,Int.reduceToNat,Int.reduceBEq,Int.reduceBNe,Int.reduceLT,Int.reduceGT,Int.reduceLE,Int.reduceGE,Int.reduceNeg,Int.reduceAdd]
    refine loop_unroll ctxU_monoB ?_
    have w40 : IntKind.i64.wrap 40 = 40:=by decide
    have h40 : decide ((40 : Int) ≤ (l.length : Int)) = false:=decide_eq_false (by omega)
    simp only [AH.SD,AH.SE,AOp.call?,AOp.next?,bstep,AV.cells,unAV,binAV,retQ,retV,AH.sliceElems,AH.bytesOf,AH.strOp,AH.bound,AH.missQ,AH.minmaxAV,AH.readOf,AH.effOf,Nat.reduceBEq,Nat.reduceAdd,Nat.reduceLT,↓reduceIte,Nat.reduceEqDiff,Nat.reduceLeDiff,Nat.reduceSub,Nat.reduceMul,Int.reduceSub,Int.reduceToNat,Int.reduceBEq,Int.reduceBNe,Int.reduceLT,Int.reduceGT,Int.reduceLE,Int.reduceGE,Int.reduceNeg,Int.reduceAdd,w40,h40,hT,hU]
    have hlen:=insL_len c 0 19 l 1
    have i2 : CallA1 S0 72 [.slc id 0 l.length none,.int .i64 20,.int .i64 l.length,.fn fg [] capd] (MI m id (insL c 0 l 1 19)) fun r m' =>r = .tup [] ∧ m' = MI m id (insL c 0 l 1 19):=by
      have i3:=ins_ok ok c P hid hr (insL c 0 l 1 19) (fun y hy =>hP y (insL_mem c 0 19 l 1 (by omega) y hy)) (by omega) 20 20 (Nat.le_refl _) (by omega)
      rw [insL_none,hlen] at i3
      rw [e20] at i3 ⊢
      exact i3
    refine i2.mono ?_
    rintro r m' ⟨rfl,rfl⟩
    simp only [AH.SD,AH.SE,AOp.call?,AOp.next?,bstep,AV.cells,unAV,binAV,retQ,retV,AH.sliceElems,AH.bytesOf,AH.strOp,AH.bound,AH.missQ,AH.minmaxAV,AH.readOf,AH.effOf,Nat.reduceBEq,Nat.reduceAdd,Nat.reduceLT,↓reduceIte,Nat.reduceEqDiff,Nat.reduceLeDiff,Nat.reduceSub,Nat.reduceMul,Int.reduceSub,Int.reduceToNat,Int.reduceBEq,Int.reduceBNe,Int.reduceLT,Int.reduceGT,Int.reduceLE,Int.reduceGE,Int.reduceNeg,Int.reduceAdd]
    refine loop_unroll ctxU_monoB ?_
    simp only [AH.SD,AH.SE,AOp.call?,AOp.next?,bstep,AV.cells,unAV,binAV,retQ,retV,AH.sliceElems,AH.bytesOf,AH.strOp,AH.bound,AH.missQ,AH.minmaxAV,AH.readOf,AH.effOf,Nat.reduceBEq,Nat.reduceAdd,Nat.reduceLT,↓reduceIte,Nat.reduceEqDiff,Nat.reduceLeDiff,Nat.reduceSub,Nat.reduceMul,Int.reduceSub,Int.reduceToNat,Int.reduceBEq,Int.reduceBNe,Int.reduceLT,Int.reduceGT,Int.reduceLE,Int.reduceGE,Int.reduceNeg,Int.reduceAdd,hn]
    rw [e20]
set_option maxRecDepth 100000 in
theorem sorts_ok {T : List (FuncId × RT)} {U : List (FuncId × UT)} (ok : CtxOK S0 (ctxU S0 T U)) (hT : lookT T 72 = none) (hU : lookU U 72 = none) (hT2 : lookT T 70 = none) (hU2 : lookU U 70 = none) {fg : FuncId} {capd : List AV} (c : Int → Int → Int) (P : Int → Prop) {m : Mem} {id : Nat} (hid : id < m.length) {ft : List Nat}
    (hr : ∀ (l : List Int) x y,P x → P y → appT (.int .i64 x :: .int .i64 y :: capd) (mget (MI m id l)) (lookT T fg) = some (.int .i64 (c x y),ft))
    (l : List Int) (hP : ∀ x ∈ l,P x) (hl : l.length ≤ 20) :
    CallA1 S0 60 [.slc id 0 l.length none,.fn fg [] capd] (MI m id l) fun r m' =>r = .tup [] ∧ m' = MI m id (insL c 0 l 1 (l.length - 1)):=by
  refine fun_sound ok Tryd.func60 c60 ?_
  unfold wpF F60
  simp only [AH.SD,AH.SE,AOp.call?,AOp.next?,bstep,AV.cells,unAV,binAV,retQ,retV,AH.sliceElems,AH.bytesOf,AH.strOp,AH.bound,AH.missQ,AH.minmaxAV,AH.readOf,AH.effOf,Nat.reduceBEq,Nat.reduceAdd,Nat.reduceLT,↓reduceIte,Nat.reduceEqDiff,Nat.reduceLeDiff,Nat.reduceSub,Nat.reduceMul,Int.reduceSub,Int.reduceToNat,Int.reduceBEq,Int.reduceBNe,Int.reduceLT,Int.reduceGT,Int.reduceLE,Int.reduceGE,Int.reduceNeg,Int.reduceAdd,callR_none,hT2,hU2]
  refine (stable_ok ok hT hU c P hid hr l hP hl).mono ?_
  rintro r m' ⟨rfl,rfl⟩
  simp only [AH.SD,AH.SE,AOp.call?,AOp.next?,bstep,AV.cells,unAV,binAV,retQ,retV,AH.sliceElems,AH.bytesOf,AH.strOp,AH.bound,AH.missQ,AH.minmaxAV,AH.readOf,AH.effOf,Nat.reduceBEq,Nat.reduceAdd,Nat.reduceLT,↓reduceIte,Nat.reduceEqDiff,Nat.reduceLeDiff,Nat.reduceSub,Nat.reduceMul,Int.reduceSub,Int.reduceToNat,Int.reduceBEq,Int.reduceBNe,Int.reduceLT,Int.reduceGT,Int.reduceLE,Int.reduceGE,Int.reduceNeg,Int.reduceAdd]
end Go.Proofs.YtkbjfhkhbcgkgaaDoor.B33
