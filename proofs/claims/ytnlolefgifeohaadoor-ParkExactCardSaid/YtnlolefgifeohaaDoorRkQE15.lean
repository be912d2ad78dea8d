import Derived.Test.YtnlolefgifeohaaDoorRkPE15
import Derived.Test.YtnlolefgifeohaaDoorPrkEE15
open Go AH
set_option linter.unusedSimpArgs false
set_option maxRecDepth 100000
namespace Go.Proofs.YtnlolefgifeohaaDoor.E15
def vK (t : Mp Ma) (x : Int) : Option Ma:=(enF x t.L 0).map (·.2.v)
def rOf : Option Ma → Rm
  | none =>rmZ
  | some v =>⟨v.c,v.h,v.s⟩
theorem isM_v (t : Mp Ma) (x : Int) : isM t x = (vK t x).isSome:=by unfold isM vK; cases enF x t.L 0 <;> rfl
theorem ofM_v (t : Mp Ma) (x : Int) : ofM t x = (vK t x).getD maZ:=by
  unfold ofM vK
  cases enF x t.L 0 with
  | none =>rfl
  | some y =>rfl
theorem vK_some {t : Mp Ma} {x : Int} {v : Ma} (h : vK t x = some v) : ∃ e ∈ t.L,e.k = x ∧ e.v = v:=by
  unfold vK at h
  cases q : enF x t.L 0 with
  | none =>rw [q] at h; cases h
  | some y =>
    obtain ⟨i,e⟩:=y
    obtain ⟨_,h2,h3,_⟩:=enF_some q
    rw [q] at h
    simp only [Option.map_some,Option.some.injEq] at h
    exact ⟨e,List.mem_of_getElem? h2,h3,h⟩
theorem vK_mem {t : Mp Ma} (ht : t.wf) {e : En Ma} (he : e ∈ t.L) : vK t e.k = some e.v:=by
  obtain ⟨i,hi⟩:=enF_key ht.keys he
  unfold vK; rw [hi]; rfl
theorem vK_in {t : Mp Ma} (h : Pk t) {x : Int} {v : Ma} (hv : vK t x = some v) : v.i = x ∧ 1 ≤ x ∧ x ≤ 999 ∧ 1 ≤ v.c ∧ v.c ≤ 4 ∧ 0 ≤ v.s ∧ v.s ≤ 2:=by
  obtain ⟨e,he,rfl,rfl⟩:=vK_some hv
  exact h.key e he
structure RelP (t : Mp Ma) (R : List Rm) : Prop where
  len : R.length = 1000
  at_ : ∀ i : Nat,i < 1000 → getR R i = rOf (vK t i)
variable {t : Mp Ma} {R : List Rm}
theorem is_eq (h : Pk t) (hr : RelP t R) (id : Int) : rIs R id = isM t id:=by
  rw [isM_v]
  unfold rIs
  by_cases h1 : id ≥ 1
  · by_cases h2 : id ≤ 999
    · obtain ⟨i,rfl⟩:=Int.eq_ofNat_of_zero_le (by omega : 0 ≤ id)
      rw [decide_eq_true h1,decide_eq_true h2,cond_true,cond_true,hr.at_ i (by omega)]
      cases q : vK t (i : Int) with
      | none =>rfl
      | some v =>
        have:=(vK_in h q).2.2.2.1
        show decide (v.c > 0) = true
        exact decide_eq_true (by omega)
    · rw [decide_eq_true h1,decide_eq_false h2,cond_true,cond_false]
      cases q : vK t id with
      | none =>rfl
      | some v =>have:=(vK_in h q).2.2.1; omega
  · rw [decide_eq_false h1,cond_false]
    cases q : vK t id with
    | none =>rfl
    | some v =>have:=(vK_in h q).2.1; omega
theorem sorted_eqP {a b : List Int} (ha : a.Pairwise (· < ·)) (hb : b.Pairwise (· < ·)) (h : ∀ x,x ∈ a ↔ x ∈ b) : a = b:=by
  have na : a.Nodup:=ha.imp fun q e =>by omega
  have nb : b.Nodup:=hb.imp fun q e =>by omega
  exact List.Perm.eq_of_pairwise (le:=fun x y =>x ≤ y) (fun x y _ _ h1 h2 =>Int.le_antisymm h1 h2) (ha.imp fun q =>Int.le_of_lt q) (hb.imp fun q =>Int.le_of_lt q) ((List.perm_ext_iff_of_nodup na nb).2 h)
theorem ids_sorted (h : Pk t) : (idsM t).Pairwise (· < ·):=by
  have h1 : (idsM t).Pairwise (fun a b =>decide (a ≤ b) = true):=List.pairwise_mergeSort (fun a b c h1 h2 =>by simp only [decide_eq_true_eq] at *; omega) (fun a b =>by simp only [Bool.or_eq_true,decide_eq_true_eq]; omega) _
  have h2 : (idsM t).Nodup:=(sortI_perm _).nodup_iff.2 h.wf.keys
  exact (List.pairwise_and_iff.2 ⟨h1,h2⟩).imp fun ⟨q1,q2⟩ =>by simp only [decide_eq_true_eq] at q1; omega
theorem rng_memP {j : Nat} : j ∈ List.range' 1 999 ↔ 1 ≤ j ∧ j < 1000:=by rw [List.mem_range'_1]
theorem ids_eq (h : Pk t) (hr : RelP t R) : idsM t = (rCnA R 999).map Int.ofNat:=by
  refine sorted_eqP (ids_sorted h) ?_ fun x => ?_
  · unfold rCnA
    rw [List.pairwise_map]
    refine ((List.pairwise_lt_range' (s:=1) (n:=999)).sublist List.filter_sublist).imp fun q => ?_
    simp only [Int.ofNat_eq_natCast]; omega
  · rw [ids_mem,List.mem_map,List.mem_map]
    constructor
    · rintro ⟨e,he,rfl⟩
      have hk:=h.key e he
      obtain ⟨j,hj⟩:=Int.eq_ofNat_of_zero_le (by omega : 0 ≤ e.k)
      refine ⟨j,?_,hj.symm⟩
      rw [rCnA,List.mem_filter,rng_memP]
      refine ⟨by omega,?_⟩
      rw [hr.at_ j (by omega),← hj,vK_mem h.wf he]
      show decide (e.v.c > 0) = true
      exact decide_eq_true (by omega)
    · rintro ⟨j,hj,rfl⟩
      rw [rCnA,List.mem_filter,rng_memP] at hj
      obtain ⟨⟨hj1,hj2⟩,hp⟩:=hj
      rw [hr.at_ j hj2] at hp
      cases q : vK t (j : Int) with
      | none =>rw [q] at hp; simp [rOf,rmZ] at hp
      | some v =>
        obtain ⟨e,he,h1,_⟩:=vK_some q
        exact ⟨e,he,h1⟩
theorem cn_eq (h : Pk t) (hr : RelP t R) : rCn R = t.L.length:=by
  have:=congrArg List.length (ids_eq h hr)
  rw [idsM_len,List.length_map] at this
  exact this.symm
def rMa (R : List Rm) (j : Nat) : Ma:=⟨j,(getR R j).c,(getR R j).h,(getR R j).s⟩
theorem of_eq (h : Pk t) (hr : RelP t R) {j : Nat} (hj : j < 1000) (hm : isM t j = true) : ofM t j = rMa R j:=by
  rw [isM_v] at hm
  rw [ofM_v,rMa,hr.at_ j hj]
  cases q : vK t (j : Int) with
  | none =>rw [q] at hm; cases hm
  | some v =>
    have:=(vK_in h q).1
    simp only [Option.getD_some,rOf]
    rw [← this]
theorem all_eq (h : Pk t) (hr : RelP t R) : allM t = (rCnA R 999).map (rMa R):=by
  rw [allM,ids_eq h hr,List.map_map]
  refine List.map_congr_left fun j hj => ?_
  have hj':=hj
  rw [rCnA,List.mem_filter,rng_memP] at hj'
  refine of_eq h hr hj'.1.2 ?_
  have : ((j : Nat) : Int) ∈ idsM t:=by rw [ids_eq h hr]; exact List.mem_map_of_mem hj
  exact isM_iff.2 (ids_mem.1 this)
theorem fold_eq (R : List Rm) (c : Int) (hc : c > 0) (all : Bool) : ∀ (l : List Nat) (o : V4),l.foldl (fun o j =>bif rLvP R c all j then addV o (getR R j).h else o) o =
    ((((l.filter fun (j : Nat) =>decide ((getR R j).c > 0)).map (rMa R)).filter fun m => !(m.c != c)).foldl (fun o m =>bif (bif all then true else m.s == 0) then addV o m.h else o) o)
  | [],_ =>rfl
  | j :: r,o =>by
    rw [List.foldl_cons,fold_eq R c hc all r,List.filter_cons]
    unfold rLvP
    by_cases h1 : (getR R j).c = c
    · have h2 : decide ((getR R j).c > 0) = true:=decide_eq_true (by omega)
      have h3 : ((getR R j).c == c) = true:=by rw [h1]; exact beq_self_eq_true _
      have h4 : ((getR R j).c != c) = false:=by rw [h1]; exact bne_self_eq_false _
      rw [h2,h3,decide_eq_true hc]
      simp only [if_true,List.map_cons,List.filter_cons,rMa,h4,Bool.not_false,List.foldl_cons,cond_true]
    · have h3 : ((getR R j).c == c) = false:=beq_eq_false_iff_ne.2 h1
      have h4 : ((getR R j).c != c) = true:=by simpa using h1
      rw [h3,cond_false,cond_false]
      cases decide ((getR R j).c > 0)
      · simp only [Bool.false_eq_true,if_false]
      · simp only [if_true,List.map_cons,List.filter_cons,rMa,h4,Bool.not_true,Bool.false_eq_true,if_false]
theorem lv_eq (h : Pk t) (hr : RelP t R) {c : Int} (hc : c > 0) (all : Bool) : rLv R c all = sumW (fun m =>bif all then true else m.s == 0) (listM t c):=by
  rw [listM,keepC,all_eq h hr,sumW,rCnA]
  exact fold_eq R c hc all _ _
theorem live_eq (h : Pk t) (hr : RelP t R) (c : Int) : rLv R c false = liveM t c:=by
  by_cases hc : c > 0
  · rw [lv_eq h hr hc,liveM]; rfl
  · have h1 : listM t c = []:=by
      rw [listM,keepC,List.filter_eq_nil_iff]
      intro m hm
      obtain ⟨e,he,rfl⟩:=List.mem_map.1 ((allM_perm h.wf).mem_iff.1 hm)
      have:=h.key e he
      simp; omega
    have h2 : ∀ (l : List Nat) (o : V4),l.foldl (fun o j =>bif rLvP R c false j then addV o (getR R j).h else o) o = o:=by
      intro l
      induction l with
      | nil =>intro o; rfl
      | cons j r ih =>
        intro o
        have : rLvP R c false j = false:=by
          unfold rLvP
          rw [decide_eq_false hc,cond_false]
          cases ((getR R j).c == c) <;> rfl
        rw [List.foldl_cons,this,cond_false,ih]
    rw [liveM,h1]
    exact h2 _ _
theorem sum_eq (h : Pk t) (hr : RelP t R) {c : Int} (hc : c > 0) : rLv R c true = sumW (fun _ =>true) (listM t c):=lv_eq h hr hc true
theorem rel_set {id : Int} {v : Option Ma} {t' : Mp Ma} {m : Rm} (hr : RelP t R) (h1 : 1 ≤ id) (h2 : id ≤ 999) (hm : m = rOf v) (hv : ∀ x,vK t' x = if x = id then v else vK t x) : RelP t' (R.set id.toNat m):=by
  refine ⟨by rw [List.length_set]; exact hr.len,fun i hi => ?_⟩
  have hl : i < (R.set id.toNat m).length:=by rw [List.length_set,hr.len]; exact hi
  have hl' : i < R.length:=by rw [hr.len]; exact hi
  rw [getR_i hl,hv,List.getElem_set]
  by_cases q : id.toNat = i
  · rw [if_pos q,if_pos (by omega),hm]
  · rw [if_neg q,if_neg (by omega),← hr.at_ i hi,getR_i hl']
theorem rel_dr (h : Pk t) (hr : RelP t R) (id : Int) : (drM t id).1 = (rDr R id).1 ∧ RelP (drM t id).2 (rDr R id).2:=by
  have hA:=dr_after h id
  unfold rDr
  rw [is_eq h hr,isM]
  unfold drM at hA ⊢
  cases q : enF id t.L 0 with
  | none =>exact ⟨rfl,hr⟩
  | some x =>
    obtain ⟨i,e⟩:=x
    obtain ⟨_,g2,g3,_⟩:=enF_some q
    rw [Nat.sub_zero] at g2
    have hk:=h.key e (List.mem_of_getElem? g2)
    rw [q] at hA
    refine ⟨rfl,?_⟩
    show RelP ⟨t.L.eraseIdx i,t.c⟩ (R.set id.toNat rmZ)
    refine rel_set (v:=none) hr (by omega) (by omega) rfl fun x => ?_
    by_cases hx : x = id
    · rw [if_pos hx,hx,vK]
      show (enF id (t.L.eraseIdx i) 0).map _ = none
      rw [enF_erase h.wf q]; rfl
    · rw [if_neg hx]
      have hpk : Pk ⟨t.L.eraseIdx i,t.c⟩:=hA.pk
      cases hv : vK t x with
      | none =>
        cases hv' : vK ⟨t.L.eraseIdx i,t.c⟩ x with
        | none =>rfl
        | some v =>
          obtain ⟨e',he',h1,h2⟩:=vK_some hv'
          have:=vK_mem h.wf (List.mem_of_mem_eraseIdx he')
          rw [h1,hv] at this; cases this
      | some v =>
        obtain ⟨e',he',h1,h2⟩:=vK_some hv
        have hin : e' ∈ t.L.eraseIdx i:=by
          refine List.mem_eraseIdx_iff_getElem?.2 ?_
          obtain ⟨j,hj⟩:=List.getElem?_of_mem he'
          refine ⟨j,fun z => ?_,hj⟩
          subst z
          rw [g2] at hj
          have:=Option.some.inj hj
          subst this
          exact hx (h1.symm.trans g3)
        have:=vK_mem hpk.wf hin
        rw [h1,h2] at this
        exact this
theorem rel_se (h : Pk t) (hr : RelP t R) (id s : Int) : (seM t id s).1 = (rSe R id s).1 ∧ RelP (seM t id s).2 (rSe R id s).2:=by
  unfold rSe
  rw [is_eq h hr,isM]
  unfold seM
  cases q : enF id t.L 0 with
  | none =>exact ⟨rfl,hr⟩
  | some x =>
    obtain ⟨i,e⟩:=x
    obtain ⟨_,g2,g3,_⟩:=enF_some q
    have hk:=h.key e (List.mem_of_getElem? g2)
    have hR : getR R id = ⟨e.v.c,e.v.h,e.v.s⟩:=by
      obtain ⟨j,rfl⟩:=Int.eq_ofNat_of_zero_le (by omega : 0 ≤ id)
      rw [hr.at_ j (by omega),vK,q]; rfl
    rw [hR]
    simp only [seQ,Option.isSome_some,cond_true]
    cases (decide (s < 0) || decide (s > 2))
    · rw [cond_false,cond_false]
      cases (e.v.s == s)
      · rw [cond_false,cond_false]
        refine ⟨rfl,rel_set (v:=some ⟨e.v.i,e.v.c,e.v.h,s⟩) hr (by omega) (by omega) rfl fun x => ?_⟩
        exact enF_set q ⟨e.v.i,e.v.c,e.v.h,s⟩ e.s x
      · exact ⟨rfl,hr⟩
    · exact ⟨rfl,hr⟩
theorem rel_ad (h : Pk t) (hr : RelP t R) (id c : Int) (v : V4) : (adM t id c v).1 = (rAd R id c v).1 ∧ RelP (adM t id c v).2 (rAd R id c v).2:=by
  unfold rAd adM
  cases h1 : (decide (id < 1) || (decide (id > 999) || (decide (c < 1) || (decide (c > 4) || !good v))))
  rotate_left
  · exact ⟨rfl,hr⟩
  simp only [Bool.or_eq_false_iff,decide_eq_false_iff_not,Bool.not_eq_false'] at h1
  obtain ⟨a1,a2,a3,a4,a5⟩:=h1
  rw [cond_false,cond_false,is_eq h hr]
  cases h2 : isM t id
  rotate_left
  · exact ⟨rfl,hr⟩
  rw [cond_false,cond_false,cn_eq h hr]
  cases h3 : decide ((t.L.length : Int) ≥ 24)
  rotate_left
  · exact ⟨rfl,hr⟩
  rw [cond_false,cond_false,sum_eq h hr (by omega)]
  cases h4 : (addK (sumW (fun _ =>true) (listM t c)) v == 0)
  · rw [cond_false,cond_false]
    refine ⟨?_,hr⟩
    have hg : good (sumW (fun _ =>true) (listM t c)) = true:=good_of fun g hg =>by
      rw [sumA_g h c hg]; exact ⟨Zg_nonneg hg _ h.has,h.cap c g hg⟩
    simp only
    unfold addK madeK at h4 ⊢
    rw [hg,a5] at h4 ⊢
    simp only [Bool.and_self,cond_true] at h4 ⊢
    revert h4
    cases good (addV (sumW (fun _ =>true) (listM t c)) v)
    · intro _; rfl
    · intro h; cases h
  · rw [cond_true,cond_true]
    have hq : enF id t.L 0 = none:=by
      rw [isM] at h2
      cases q : enF id t.L 0 with
      | none =>rfl
      | some x =>rw [q] at h2; cases h2
    refine ⟨rfl,rel_set (v:=some ⟨id,c,v,0⟩) hr (by omega) (by omega) rfl fun x => ?_⟩
    exact enF_app t.L id ⟨id,c,v,0⟩ t.c hq x
theorem rel_0 : RelP K0 (List.replicate 1000 rmZ):=by
  refine ⟨by simp,fun i hi => ?_⟩
  rw [getR_i (by simpa using hi),List.getElem_replicate]; rfl
end Go.Proofs.YtnlolefgifeohaaDoor.E15
