import Derived.Test.YtamkjgiemconbaaDoorSpRD19
open Go AH
set_option linter.unusedSimpArgs false
namespace Go.Proofs.YtamkjgiemconbaaDoor.D19
def enV0 (k : SK) : Option SC → SC
  | some v =>v
  | none =>⟨k.j,k.w,0,0⟩
theorem ofB_en (t : SpB) (k : SK) : ofB t k = enV0 k ((AH.MS.enF k t.L 0).map (·.2.v)):=by
  unfold ofB
  cases AH.MS.enF k t.L 0 <;> rfl
theorem of_mem {t : SpB} (h : t.wf) {e : SpE} (he : e ∈ t.L) : ofB t e.k = e.v:=by
  obtain ⟨i,hi⟩:=AH.MS.enF_key h.keys he
  unfold ofB; rw [hi]; rfl
theorem of_none {t : SpB} {k : SK} (h : ∀ e ∈ t.L,e.k ≠ k) : ofB t k = ⟨k.j,k.w,0,0⟩:=by
  have : AH.MS.enF k t.L 0 = none:=AH.MS.enF_none.2 fun hk =>by
    obtain ⟨e,he,hke⟩:=List.mem_map.1 hk
    exact h e he hke
  unfold ofB; rw [this]; rfl
structure RelS (t : SpB) (l : List Ev) : Prop where
  bk : Bk t
  eq : ∀ k : SK,ofB t k = ⟨k.j,k.w,(cnt l k.j k.w false : Nat),(cnt l k.j k.w true : Nat)⟩
theorem rel_0 : RelS S0B []:=⟨⟨AH.MS.wf_new,fun e h =>by (cases h)⟩,fun k =>rfl⟩
theorem cnt_app (l : List Ev) (e : Ev) (j w : Int) (b : Bool) : cnt (l ++ [e]) j w b = cnt l j w b + (bif isE j w b e then 1 else 0):=by
  unfold cnt
  rw [List.filter_append,List.length_append]
  cases h : isE j w b e <;> simp [h]
theorem bump_jw (c : SC) (b : Bool) : (bump c b).j = c.j ∧ (bump c b).w = c.w:=by cases b <;> exact ⟨rfl,rfl⟩
theorem add_bk {t : SpB} (h : Bk t) (k : SK) (b : Bool) : Bk (addB t k b):=by
  unfold addB
  cases hq : AH.MS.enF k t.L 0 with
  | none =>
    refine ⟨AH.MS.Mp.wf.snoc h.wf hq _,fun e he => ?_⟩
    rcases List.mem_append.1 he with he | he
    · exact h.key e he
    · rw [List.mem_singleton.1 he]; exact bump_jw ⟨k.j,k.w,0,0⟩ b
  | some x =>
    obtain ⟨i,e0⟩:=x
    refine ⟨AH.MS.Mp.wf.set h.wf hq _,fun e he => ?_⟩
    obtain ⟨_,h2,h3,_⟩:=AH.MS.enF_some hq
    rcases List.mem_or_eq_of_mem_set he with he | rfl
    · exact h.key e he
    · have:=bump_jw e0.v b
      have h4:=h.key e0 (List.mem_of_getElem? h2)
      rw [← h3]
      exact ⟨this.1.trans h4.1,this.2.trans h4.2⟩
theorem add_of {t : SpB} (k : SK) (b : Bool) (k' : SK) : ofB (addB t k b) k' = if k' = k then bump (ofB t k) b else ofB t k':=by
  rw [ofB_en,ofB_en t k']
  unfold addB
  cases hq : AH.MS.enF k t.L 0 with
  | none =>
    show enV0 k' ((AH.MS.enF k' (t.L ++ [⟨k,bump ⟨k.j,k.w,0,0⟩ b,t.c⟩]) 0).map (·.2.v)) = _
    rw [AH.MS.enF_app _ _ _ _ hq]
    have : ofB t k = ⟨k.j,k.w,0,0⟩:=by unfold ofB; rw [hq]; rfl
    split
    · rw [this]; rfl
    · rfl
  | some x =>
    obtain ⟨i,e0⟩:=x
    show enV0 k' ((AH.MS.enF k' (t.L.set i ⟨k,bump e0.v b,e0.s⟩) 0).map (·.2.v)) = _
    rw [AH.MS.enF_set hq]
    have : ofB t k = e0.v:=by unfold ofB; rw [hq]; rfl
    split
    · rw [this]; rfl
    · rfl
theorem isE_at (j w : Int) (b : Bool) (k : SK) (c : Bool) : isE j w b ⟨k.j,k.w,c⟩ = (decide (k = ⟨j,w⟩) && (c == b)):=by
  obtain ⟨kj,kw⟩:=k
  unfold isE
  rw [Bool.eq_iff_iff]
  simp only [Bool.and_eq_true,beq_iff_eq,decide_eq_true_eq,SK.mk.injEq,and_assoc]
theorem rel_add {t : SpB} {l : List Ev} (h : RelS t l) (hl : l.length ≤ 1048576) (k : SK) (b : Bool) : RelS (addB t k b) (l ++ [⟨k.j,k.w,b⟩]):=by
  refine ⟨add_bk h.bk k b,fun k' => ?_⟩
  rw [add_of,cnt_app,cnt_app,isE_at,isE_at,h.eq k,h.eq k']
  have c1:=cnt_le l k.j k.w false
  have c2:=cnt_le l k.j k.w true
  have w1 : IntKind.i64.wrap ((cnt l k.j k.w false : Int) + 1) = ((cnt l k.j k.w false + 1 : Nat) : Int):=wrapS (by omega)
  have w2 : IntKind.i64.wrap ((cnt l k.j k.w true : Int) + 1) = ((cnt l k.j k.w true + 1 : Nat) : Int):=wrapS (by omega)
  by_cases hk : k' = k
  · subst hk
    cases b
    · simp [bump,w1]
    · simp [bump,w2]
  · have hk2 : ¬ k = k':=fun q =>hk q.symm
    simp [hk,hk2]
theorem rel_filter {t : SpB} {l : List Ev} (h : RelS t l) (p : SK → Bool) : RelS ⟨t.L.filter fun e =>p e.k,t.c⟩ (l.filter fun e =>p ⟨e.j,e.w⟩):=by
  have wf : (⟨t.L.filter fun e =>p e.k,t.c⟩ : SpB).wf:=⟨h.bk.wf.keys.sublist (List.Sublist.map _ (List.filter_sublist ..)),h.bk.wf.stamps.sublist (List.Sublist.map _ (List.filter_sublist ..)),fun e he =>h.bk.wf.lt e (List.mem_filter.1 he).1⟩
  refine ⟨⟨wf,fun e he =>h.bk.key e (List.mem_filter.1 he).1⟩,fun k => ?_⟩
  have hc : ∀ b,cnt (l.filter fun e =>p ⟨e.j,e.w⟩) k.j k.w b = if p k = true then cnt l k.j k.w b else 0:=fun b =>by
    unfold cnt
    rw [List.filter_filter]
    split
    · rename_i hp
      congr 1
      refine List.filter_congr fun e _ => ?_
      cases hi : isE k.j k.w b e
      · rfl
      · simp only [isE,Bool.and_eq_true,beq_iff_eq] at hi
        have : p ⟨e.j,e.w⟩ = true:=by rw [hi.1,hi.2.1]; exact hp
        rw [this]; rfl
    · rename_i hp
      rw [List.length_eq_zero_iff,List.filter_eq_nil_iff]
      intro e _ q
      simp only [isE,Bool.and_eq_true,beq_iff_eq] at q
      obtain ⟨⟨q1,q2,_⟩,q3⟩:=q
      rw [q1,q2] at q3
      exact hp q3
  rw [hc,hc]
  by_cases hp : p k = true
  · rw [if_pos hp,if_pos hp]
    by_cases hex : ∃ e ∈ t.L,e.k = k
    · obtain ⟨e,he,rfl⟩:=hex
      have h1:=of_mem wf (List.mem_filter.2 ⟨he,hp⟩)
      have h2:=of_mem h.bk.wf he
      rw [h1,← h2,h.eq]
    · have h1 : ofB (⟨t.L.filter fun e =>p e.k,t.c⟩ : SpB) k = ⟨k.j,k.w,0,0⟩:=of_none fun e he q =>hex ⟨e,(List.mem_filter.1 he).1,q⟩
      have h2 : ofB t k = ⟨k.j,k.w,0,0⟩:=of_none fun e he q =>hex ⟨e,he,q⟩
      rw [h1,← h2,h.eq]
  · rw [if_neg hp,if_neg hp]
    exact of_none fun e he q =>hp (by rw [← q]; exact (List.mem_filter.1 he).2)
theorem rel_ex {t : SpB} {l : List Ev} (h : RelS t l) (n : Int) : RelS (delEx t n) (kpL l n 0 false):=by
  have:=rel_filter h fun k => !decide (k.w < n)
  have e2 : kpL l n 0 false = l.filter fun e => !decide (e.w < n):=by
    unfold kpL
    refine List.filter_congr fun e _ => ?_
    simp only [kpE,Bool.false_and,Bool.not_false,Bool.true_and,Bool.false_or]
    rw [← decide_not]
    exact decide_eq_decide.2 ⟨fun q =>by omega,fun q =>by omega⟩
  rw [e2]; exact this
theorem rel_dr {t : SpB} {l : List Ev} (h : RelS t l) (n : Int) : RelS (delDr t n) (kpL l 0 n true):=by
  have:=rel_filter h fun k => !(k.j == n)
  have e2 : kpL l 0 n true = l.filter fun e => !(e.j == n):=by
    unfold kpL
    refine List.filter_congr fun e _ => ?_
    simp only [kpE,Bool.true_and,Bool.not_true,Bool.false_and,Bool.or_false]
    rfl
  rw [e2]; exact this
theorem del_len (t : SpB) (n : Int) : (delEx t n).L.length ≤ t.L.length ∧ (delDr t n).L.length ≤ t.L.length:=⟨List.length_filter_le ..,List.length_filter_le ..⟩
theorem kpL_len (l : List Ev) (w j : Int) (b : Bool) : (kpL l w j b).length ≤ l.length:=List.length_filter_le ..
theorem add_len (t : SpB) (k : SK) (b : Bool) : (addB t k b).L.length ≤ t.L.length + 1:=by
  unfold addB
  cases AH.MS.enF k t.L 0 with
  | none =>show (t.L ++ [_]).length ≤ _; rw [List.length_append]; exact Nat.le_refl _
  | some x =>show (t.L.set _ _).length ≤ _; rw [List.length_set]; omega
theorem left_eq {t : SpB} {l : List Ev} (h : RelS t l) (hl : l.length ≤ 1048576) (k : SK) {n : Int} (hn : n ≤ 9223372036854775807) : leftB t k n = if n > (cnt l k.j k.w false : Nat) then IntKind.i64.wrap (n - (cnt l k.j k.w false : Nat)) else 0:=by
  have c1:=cnt_le l k.j k.w false
  rw [leftB,h.eq]
  have m : ∀ x : Int,mx0 x = if x < 0 then 0 else x:=fun _ =>rfl
  simp only [m,IntKind.wrap_i64]
  generalize cnt l k.j k.w false = c at *
  split <;> split <;> split <;> omega
def ckE (l : List Ev) (c : SC) : Nat:=cnt l c.j c.w false + cnt l c.j c.w true
theorem li_mem {t : SpB} {c : SC} (h : c ∈ listB t) : ∃ e ∈ t.L,e.v = c:=List.mem_map.1 ((List.mergeSort_perm ..).mem_iff.1 h)
theorem li_eq {t : SpB} {l : List Ev} (h : RelS t l) {c : SC} (hc : c ∈ listB t) : c.f = (cnt l c.j c.w false : Nat) ∧ c.g = (cnt l c.j c.w true : Nat):=by
  obtain ⟨e,he,rfl⟩:=li_mem hc
  have h1:=of_mem h.bk.wf he
  have h2:=h.eq e.k
  have h3:=h.bk.key e he
  rw [h1] at h2
  rw [h3.1,h3.2]
  generalize e.v = v at *
  obtain ⟨a,b,c,d⟩:=v
  simp only [SC.mk.injEq] at h2
  exact ⟨h2.2.2.1,h2.2.2.2⟩
theorem li_sorted {t : SpB} (h : Bk t) : (listB t).Pairwise leC:=by
  have tr : ∀ a b c : SC,decide (leC a b) = true → decide (leC b c) = true → decide (leC a c) = true:=fun a b c h1 h2 =>by
    simp only [decide_eq_true_eq,leC_iff] at *; omega
  have tot : ∀ a b : SC,(decide (leC a b) || decide (leC b a)) = true:=fun a b =>by
    simp only [Bool.or_eq_true,decide_eq_true_eq,leC_iff]; omega
  exact (List.pairwise_mergeSort (le:=fun x y =>decide (leC x y)) tr tot (t.L.map fun e : SpE =>e.v)).imp fun q =>of_decide_eq_true q
theorem li_nodup {t : SpB} (h : Bk t) : (listB t).Nodup:=by
  refine (List.Perm.nodup_iff (List.mergeSort_perm ..)).2 ?_
  have hn:=h.wf.keys
  rw [List.nodup_iff_pairwise_ne,List.pairwise_map] at *
  refine List.Pairwise.imp_of_mem (fun {a b} ha hb q e =>q ?_) hn
  have h1:=h.key a ha
  have h2:=h.key b hb
  rw [← e] at h2
  have : (⟨a.k.j,a.k.w⟩ : SK) = ⟨b.k.j,b.k.w⟩:=by rw [← h1.1,← h1.2,← h2.1,← h2.2]
  exact this
theorem li_lt {t : SpB} (h : Bk t) {i : Nat} (h0 : 0 < i) (hi : i < (listB t).length) : decide ((listB t)[i - 1].j > (listB t)[i].j) = false ∧ ((listB t)[i - 1].j == (listB t)[i].j) = true → decide ((listB t)[i - 1].w ≥ (listB t)[i].w) = false:=by
  rintro ⟨_,h2⟩
  have h1:=List.pairwise_iff_getElem.1 (li_sorted h) (i - 1) i (by omega) hi (by omega)
  rw [leC_iff] at h1
  simp only [beq_iff_eq] at h2
  simp only [decide_eq_false_iff_not]
  intro q
  have hne : (listB t)[i - 1] ≠ (listB t)[i]:=fun e =>by
    have:=(List.getElem_inj (li_nodup h)).1 e
    omega
  exact hne (vals_key h ((List.mergeSort_perm ..).mem_iff.1 (List.getElem_mem (l:=listB t) (n:=i - 1) (by omega))) ((List.mergeSort_perm ..).mem_iff.1 (List.getElem_mem hi)) h2 (by omega))
theorem li_le {t : SpB} (h : Bk t) {i : Nat} (h0 : 0 < i) (hi : i < (listB t).length) : decide ((listB t)[i - 1].j > (listB t)[i].j) = false:=by
  have h1:=List.pairwise_iff_getElem.1 (li_sorted h) (i - 1) i (by omega) hi (by omega)
  rw [leC_iff] at h1
  simp only [decide_eq_false_iff_not]; omega
def smL (l : List Ev) (L : List SC) : Nat:=(L.map (ckE l)).sum
theorem smL_s {l : List Ev} {L : List SC} {i : Nat} (hi : i < L.length) : smL l (L.take (i + 1)) = smL l (L.take i) + ckE l L[i]:=by
  unfold smL
  rw [List.take_succ_eq_append_getElem hi,List.map_append,List.sum_append]
  simp
theorem smL_le (l : List Ev) (L : List SC) (i : Nat) : smL l (L.take i) ≤ smL l L:=by
  have : L = L.take i ++ L.drop i:=(List.take_append_drop ..).symm
  conv =>rhs; rw [this]
  unfold smL
  rw [List.map_append,List.sum_append]; omega
theorem sum_ind (x : SK) : ∀ K : List SK,K.Nodup → (K.map fun k =>if x = k then 1 else 0).sum = if x ∈ K then 1 else 0
  | [],_ =>rfl
  | k :: K,h =>by
    rw [List.nodup_cons] at h
    rw [List.map_cons,List.sum_cons,sum_ind x K h.2]
    by_cases hx : x = k
    · subst hx; simp [h.1]
    · simp [hx]
theorem ck_sum (K : List SK) (hK : K.Nodup) : ∀ l : List Ev,(∀ e ∈ l,(⟨e.j,e.w⟩ : SK) ∈ K) → (K.map fun k =>cnt l k.j k.w false + cnt l k.j k.w true).sum = l.length
  | [],_ =>by
    have : (K.map fun k =>cnt [] k.j k.w false + cnt [] k.j k.w true) = K.map fun _ => 0:=List.map_congr_left fun _ _ =>rfl
    rw [this]
    clear this hK
    induction K with
    | nil =>rfl
    | cons a K ih =>simpa using ih
  | e :: l,h =>by
    have ih:=ck_sum K hK l fun x hx =>h x (List.mem_cons_of_mem _ hx)
    have h1 : (K.map fun k =>cnt (e :: l) k.j k.w false + cnt (e :: l) k.j k.w true) = K.map fun k =>(cnt l k.j k.w false + cnt l k.j k.w true) + (if (⟨e.j,e.w⟩ : SK) = k then 1 else 0):=by
      refine List.map_congr_left fun k _ => ?_
      have cc : ∀ b,cnt (e :: l) k.j k.w b = cnt l k.j k.w b + (bif isE k.j k.w b e then 1 else 0):=fun b =>by
        unfold cnt
        rw [List.filter_cons]
        cases isE k.j k.w b e <;> simp
      rw [cc,cc]
      obtain ⟨ej,ew,ef⟩:=e
      have i1:=isE_at k.j k.w false ⟨ej,ew⟩ ef
      have i2:=isE_at k.j k.w true ⟨ej,ew⟩ ef
      simp only at i1 i2
      rw [i1,i2]
      by_cases q : (⟨ej,ew⟩ : SK) = k
      · subst q; cases ef <;> simp <;> omega
      · have q2 : ¬ (⟨ej,ew⟩ : SK) = ⟨k.j,k.w⟩:=q
        simp [q,q2]
    rw [h1]
    have h2 : ∀ (f g : SK → Nat) (K : List SK),(K.map fun k =>f k + g k).sum = (K.map f).sum + (K.map g).sum:=fun f g K =>by
      induction K with
      | nil =>rfl
      | cons a K ih2 =>simp only [List.map_cons,List.sum_cons,ih2]; omega
    rw [h2 (fun k =>cnt l k.j k.w false + cnt l k.j k.w true),ih,sum_ind _ _ hK,if_pos (h e (List.mem_cons_self ..)),List.length_cons]
theorem li_sum {t : SpB} {l : List Ev} (h : RelS t l) : smL l (listB t) = l.length:=by
  have hp : (listB t).Perm (t.L.map (·.v)):=List.mergeSort_perm _ _
  unfold smL
  rw [(hp.map (ckE l)).sum_nat,List.map_map]
  have h1 : t.L.map (ckE l ∘ fun e : SpE =>e.v) = (t.L.map (·.k)).map fun k =>cnt l k.j k.w false + cnt l k.j k.w true:=by
    rw [List.map_map]
    refine List.map_congr_left fun e he => ?_
    have:=h.bk.key e he
    simp only [Function.comp,ckE,this.1,this.2]
  rw [h1]
  refine ck_sum _ h.bk.wf.keys l fun e he => ?_
  by_cases hex : ∃ x ∈ t.L,x.k = (⟨e.j,e.w⟩ : SK)
  · obtain ⟨x,hx,hk⟩:=hex
    exact List.mem_map.2 ⟨x,hx,hk⟩
  · have h0:=of_none (t:=t) (k:=⟨e.j,e.w⟩) fun x hx q =>hex ⟨x,hx,q⟩
    rw [h.eq] at h0
    simp only [SC.mk.injEq,true_and] at h0
    have : 0 < cnt l e.j e.w e.f:=List.length_pos_of_mem (List.mem_filter.2 ⟨he,by simp [isE]⟩)
    obtain ⟨a,b⟩:=h0
    cases hf : e.f
    · rw [hf] at this; omega
    · rw [hf] at this; omega
end Go.Proofs.YtamkjgiemconbaaDoor.D19
