import Derived.Test.YtnlolefgifeohaaDoorPrkPE15
open Go AH
set_option linter.unusedSimpArgs false
namespace Go.Proofs.YtnlolefgifeohaaDoor.E15
def isP (g : V4 → Int) : Prop:=g = V4.a ∨ g = V4.b ∨ g = V4.c ∨ g = V4.d
theorem good_g {v : V4} (h : good v = true) {g : V4 → Int} (hg : isP g) : 0 ≤ g v ∧ g v ≤ 1099511627776:=by
  simp only [good,V4.l,List.any_cons,List.any_nil,Bool.or_false,Bool.not_eq_true',Bool.or_eq_false_iff,bad,decide_eq_false_iff_not] at h
  rcases hg with rfl | rfl | rfl | rfl <;> omega
theorem good_of {v : V4} (h : ∀ g,isP g → 0 ≤ g v ∧ g v ≤ 1099511627776) : good v = true:=by
  have h1:=h V4.a (.inl rfl)
  have h2:=h V4.b (.inr (.inl rfl))
  have h3:=h V4.c (.inr (.inr (.inl rfl)))
  have h4:=h V4.d (.inr (.inr (.inr rfl)))
  simp only [good,V4.l,List.any_cons,List.any_nil,Bool.or_false,Bool.not_eq_true',Bool.or_eq_false_iff,bad,decide_eq_false_iff_not]
  omega
theorem addV_g (a b : V4) {g : V4 → Int} (hg : isP g) : g (addV a b) = w64 (g a + g b):=by
  rcases hg with rfl | rfl | rfl | rfl <;> rfl
theorem zero_g {g : V4 → Int} (hg : isP g) : g V4.zero = 0:=by
  rcases hg with rfl | rfl | rfl | rfl <;> rfl
theorem v4_ext {a b : V4} (h : ∀ g,isP g → g a = g b) : a = b:=by
  have h1:=h V4.a (.inl rfl)
  have h2:=h V4.b (.inr (.inl rfl))
  have h3:=h V4.c (.inr (.inr (.inl rfl)))
  have h4:=h V4.d (.inr (.inr (.inr rfl)))
  cases a; cases b
  simp only at h1 h2 h3 h4
  subst h1 h2 h3 h4; rfl
def term (g : V4 → Int) (p : Ma → Bool) (m : Ma) : Int:=bif p m then g m.h else 0
theorem term_in {g : V4 → Int} (hg : isP g) (p : Ma → Bool) {m : Ma} (h : good m.h = true) : 0 ≤ term g p m ∧ term g p m ≤ 1099511627776:=by
  have:=good_g h hg
  unfold term
  cases p m <;> simp only [cond_true,cond_false] <;> omega
theorem foldW (p : Ma → Bool) : ∀ (l : List Ma) (o : V4) (n : Nat),(∀ m ∈ l,good m.h = true) → (∀ g,isP g → 0 ≤ g o ∧ g o ≤ n * 1099511627776) → n + l.length ≤ 1000 → ∀ g,isP g → g (l.foldl (fun o m =>bif p m then addV o m.h else o) o) = g o + (l.map (term g p)).sum
  | [],o,n,_,_,_,g,_ =>by simp
  | m :: r,o,n,hm,ho,hn,g,hg =>by
    have key : ∀ g,isP g → g (bif p m then addV o m.h else o) = g o + term g p m:=fun g hg =>by
      have h1:=ho g hg
      have h2:=good_g (hm m (List.mem_cons_self ..)) hg
      unfold term
      cases p m
      · simp only [cond_false]; omega
      · simp only [cond_true,addV_g _ _ hg,w64]
        rw [IntKind.wrap_i64]
        simp only [List.length_cons] at hn
        have : (n : Int) ≤ 1000:=by omega
        omega
    simp only [List.foldl_cons,List.map_cons,List.sum_cons]
    simp only [List.length_cons] at hn
    rw [foldW p r _ (n + 1) (fun m' h =>hm m' (List.mem_cons_of_mem _ h)) (fun g hg => ?_) (by omega) g hg,key g hg]
    · omega
    · rw [key g hg]
      have h1:=ho g hg
      have h2:=term_in hg p (hm m (List.mem_cons_self ..))
      constructor
      · omega
      · have : ((n + 1 : Nat) : Int) * 1099511627776 = n * 1099511627776 + 1099511627776:=by rw [Int.natCast_add,Int.add_mul]; rfl
        rw [this]; omega
theorem sumW_g (p : Ma → Bool) {l : List Ma} (hm : ∀ m ∈ l,good m.h = true) (hl : l.length ≤ 1000) {g : V4 → Int} (hg : isP g) : g (sumW p l) = (l.map (term g p)).sum:=by
  have:=foldW p l V4.zero 0 hm (fun g hg =>by rw [zero_g hg]; exact ⟨Int.le_refl _,Int.le_refl _⟩) (by omega) g hg
  rw [zero_g hg,Int.zero_add] at this
  exact this
def Zg (g : V4 → Int) (p : Ma → Bool) (L : List (En Ma)) : Int:=(L.map fun e =>term g p e.v).sum
theorem lsum_perm {α : Type} (f : α → Int) {a b : List α} (h : a.Perm b) : (a.map f).sum = (b.map f).sum:=by
  induction h with
  | nil =>rfl
  | cons x _ ih =>simp only [List.map_cons,List.sum_cons,ih]
  | swap x y l =>simp only [List.map_cons,List.sum_cons]; omega
  | trans _ _ h1 h2 =>exact h1.trans h2
theorem lsum_filter {α : Type} (f : α → Int) (q : α → Bool) (l : List α) : ((l.filter q).map f).sum = (l.map fun x =>bif q x then f x else 0).sum:=by
  induction l with
  | nil =>rfl
  | cons x r ih =>
    rw [List.filter_cons]
    cases h : q x
    · simp only [Bool.false_eq_true,if_false,List.map_cons,List.sum_cons,h,cond_false,ih]; omega
    · simp only [if_true,List.map_cons,List.sum_cons,h,cond_true,ih]
theorem ofM_key {t : Mp Ma} (ht : t.wf) {e : En Ma} (he : e ∈ t.L) : ofM t e.k = e.v:=by
  obtain ⟨i,hi⟩:=enF_key ht.keys he
  rw [ofM,hi]; rfl
theorem allM_perm {t : Mp Ma} (ht : t.wf) : (allM t).Perm (t.L.map (·.v)):=by
  have h1 : (allM t).Perm ((t.L.map (·.k)).map (ofM t)):=(sortI_perm _).map _
  have h2 : (t.L.map (·.k)).map (ofM t) = t.L.map (·.v):=by
    rw [List.map_map]
    exact List.map_congr_left fun e he =>ofM_key ht he
  rw [h2] at h1; exact h1
theorem list_sum {t : Mp Ma} (ht : t.wf) (c : Int) (g : V4 → Int) (p : Ma → Bool) : ((listM t c).map (term g p)).sum = Zg g (fun m =>m.c == c && p m) t.L:=by
  rw [listM,keepC,lsum_filter,lsum_perm _ (allM_perm ht),Zg,List.map_map]
  congr 1
  refine List.map_congr_left fun e _ => ?_
  simp only [Function.comp,term]
  have : (!(e.v.c != c)) = (e.v.c == c):=by simp [bne]
  rw [this]
  cases (e.v.c == c) <;> cases p e.v <;> rfl
theorem Zg_app (g : V4 → Int) (p : Ma → Bool) (L : List (En Ma)) (e : En Ma) : Zg g p (L ++ [e]) = Zg g p L + term g p e.v:=by
  simp only [Zg,List.map_append,List.map_cons,List.map_nil,List.sum_append,List.sum_cons,List.sum_nil]; omega
theorem Zg_erase (g : V4 → Int) (p : Ma → Bool) : ∀ {L : List (En Ma)} {i : Nat} {e : En Ma},L[i]? = some e → Zg g p (L.eraseIdx i) = Zg g p L - term g p e.v
  | y :: r,0,e,h =>by
    simp only [List.getElem?_cons_zero,Option.some.injEq] at h; subst h
    simp only [List.eraseIdx_cons_zero,Zg,List.map_cons,List.sum_cons]; omega
  | y :: r,i + 1,e,h =>by
    simp only [List.getElem?_cons_succ] at h
    have:=Zg_erase g p h
    simp only [List.eraseIdx_cons_succ,Zg,List.map_cons,List.sum_cons] at *; omega
theorem lsum_set {α : Type} (f : α → Int) (x : α) (L : List α) : ∀ (i : Nat) (e : α),L[i]? = some e → ((L.set i x).map f).sum = (L.map f).sum - f e + f x:=by
  induction L with
  | nil =>intro i e h; cases h
  | cons y r ih =>
    intro i e h
    cases i with
    | zero =>
      simp only [List.getElem?_cons_zero,Option.some.injEq] at h; subst h
      simp only [List.set_cons_zero,List.map_cons,List.sum_cons]; omega
    | succ i =>
      simp only [List.getElem?_cons_succ] at h
      have:=ih i e h
      simp only [List.set_cons_succ,List.map_cons,List.sum_cons]; omega
theorem Zg_set (g : V4 → Int) (p : Ma → Bool) {L : List (En Ma)} {i : Nat} {e x : En Ma} (h : L[i]? = some e) : Zg g p (L.set i x) = Zg g p L - term g p e.v + term g p x.v :=
  lsum_set (fun e : En Ma =>term g p e.v) x L i e h
theorem Zg_nonneg {g : V4 → Int} (hg : isP g) (p : Ma → Bool) : ∀ {L : List (En Ma)},(∀ e ∈ L,good e.v.h = true) → 0 ≤ Zg g p L
  | [],_ =>Int.le_refl _
  | e :: r,h =>by
    have h1:=(term_in hg p (h e (List.mem_cons_self ..))).1
    have h2:=Zg_nonneg hg p (L:=r) fun x hx =>h x (List.mem_cons_of_mem _ hx)
    simp only [Zg,List.map_cons,List.sum_cons] at *; omega
def atC (c : Int) (m : Ma) : Bool:=m.c == c
structure Pk (t : Mp Ma) : Prop where
  wf : t.wf
  len : t.L.length ≤ 24
  key : ∀ e ∈ t.L,e.v.i = e.k ∧ 1 ≤ e.k ∧ e.k ≤ 999 ∧ 1 ≤ e.v.c ∧ e.v.c ≤ 4 ∧ 0 ≤ e.v.s ∧ e.v.s ≤ 2
  has : ∀ e ∈ t.L,good e.v.h = true
  cap : ∀ c g,isP g → Zg g (atC c) t.L ≤ 1099511627776
theorem Pk.fw {t : Mp Ma} (h : Pk t) : Fw t:=⟨h.wf,by have:=h.len; omega,fun e he =>by have:=h.key e he; omega⟩
theorem pk0 : Pk K0:=⟨wf_new,Nat.zero_le _,fun _ h =>by (cases h),fun _ h =>by (cases h),fun c g _ =>by show (0 : Int) ≤ _; omega⟩
theorem all_good {t : Mp Ma} (h : Pk t) (c : Int) : ∀ m ∈ listM t c,good m.h = true:=fun m hm =>by
  have h1:=(List.mem_filter.1 hm).1
  have h2:=(allM_perm h.wf).mem_iff.1 h1
  obtain ⟨e,he,rfl⟩:=List.mem_map.1 h2
  exact h.has e he
theorem list_len {t : Mp Ma} (h : Pk t) (c : Int) : (listM t c).length ≤ 1000:=Nat.le_trans (listM_len t c) (by have:=h.len; omega)
def upC (c : Int) (m : Ma) : Bool:=m.c == c && m.s == 0
theorem live_g {t : Mp Ma} (h : Pk t) (c : Int) {g : V4 → Int} (hg : isP g) : g (liveM t c) = Zg g (upC c) t.L:=by
  rw [liveM,sumW_g _ (all_good h c) (list_len h c) hg,list_sum h.wf]; rfl
theorem sumA_g {t : Mp Ma} (h : Pk t) (c : Int) {g : V4 → Int} (hg : isP g) : g (sumW (fun _ =>true) (listM t c)) = Zg g (atC c) t.L:=by
  rw [sumW_g _ (all_good h c) (list_len h c) hg,list_sum h.wf]
  congr 1
  funext m
  simp [atC]
theorem room_ok {t : Mp Ma} (h : Pk t) {c : Int} {v : V4} (hv : good v = true) : (addK (sumW (fun _ =>true) (listM t c)) v == 0) = true ↔ ∀ g,isP g → Zg g (atC c) t.L + g v ≤ 1099511627776:=by
  have h1 : good (sumW (fun _ =>true) (listM t c)) = true:=good_of fun g hg =>by
    rw [sumA_g h c hg]; exact ⟨Zg_nonneg hg _ h.has,h.cap c g hg⟩
  have h2 : ∀ g,isP g → g (addV (sumW (fun _ =>true) (listM t c)) v) = Zg g (atC c) t.L + g v:=fun g hg =>by
    rw [addV_g _ _ hg,sumA_g h c hg,w64,IntKind.wrap_i64]
    have a1:=Zg_nonneg hg (atC c) h.has
    have a2:=h.cap c g hg
    have a3:=good_g hv hg
    omega
  rw [addK,madeK,h1,hv,Bool.and_self,cond_true]
  cases h3 : good (addV (sumW (fun _ =>true) (listM t c)) v)
  · simp only [cond_false,Nat.reduceBEq,Bool.false_eq_true,false_iff]
    intro h4
    have : good (addV (sumW (fun _ =>true) (listM t c)) v) = true:=good_of fun g hg =>by
      rw [h2 g hg]
      have a1:=Zg_nonneg hg (atC c) h.has
      have a3:=good_g hv hg
      exact ⟨by omega,h4 g hg⟩
    rw [this] at h3; cases h3
  · simp only [cond_true,beq_self_eq_true,true_iff]
    intro g hg
    have:=good_g h3 hg
    rw [h2 g hg] at this
    exact this.2
theorem isM_none {t : Mp Ma} {id : Int} (h : enF id t.L 0 = none) : isM t id = false ∧ ofM t id = maZ:=by rw [isM,ofM,h]; exact ⟨rfl,rfl⟩
theorem isM_some {t : Mp Ma} {id : Int} {i : Nat} {e : En Ma} (h : enF id t.L 0 = some (i,e)) : isM t id = true ∧ ofM t id = e.v:=by rw [isM,ofM,h]; exact ⟨rfl,rfl⟩
def partM (g : V4 → Int) (p : Ma → Bool) (t : Mp Ma) (id : Int) : Int:=bif isM t id then term g p (ofM t id) else 0
structure After (t : Mp Ma) (id : Int) (r : Nat × Mp Ma) : Prop where
  pk : Pk r.2
  le : r.1 ≤ 14
  same : r.1 ≠ 0 → r.2 = t
  sum : r.1 = 0 → ∀ g p,isP g → Zg g p r.2.L = Zg g p t.L - partM g p t id + partM g p r.2 id
theorem after_no {t : Mp Ma} (ht : Pk t) {id : Int} {k : Nat} (h0 : k ≠ 0) (h : k ≤ 14) : After t id (k,t):=⟨ht,h,fun _ =>rfl,fun q =>absurd q h0⟩
theorem enF_erase {t : Mp Ma} (ht : t.wf) {id : Int} {i : Nat} {e : En Ma} (h : enF id t.L 0 = some (i,e)) : enF id (t.L.eraseIdx i) 0 = none:=by
  rw [enF_none]
  intro q
  obtain ⟨_,h2,h3,_⟩:=enF_some h
  rw [Nat.sub_zero] at h2
  obtain ⟨x,hx,hk⟩:=List.mem_map.1 q
  obtain ⟨j,hji,hj⟩:=List.mem_eraseIdx_iff_getElem?.1 hx
  have a1 : (t.L.map (·.k))[j]? = some id:=by rw [List.getElem?_map,hj,Option.map_some,hk]
  have a2 : (t.L.map (·.k))[i]? = some id:=by rw [List.getElem?_map,h2,Option.map_some,h3]
  exact hji ((List.getElem?_inj (List.getElem?_eq_some_iff.1 a1).1 ht.keys).1 (a1.trans a2.symm))
theorem dr_after {t : Mp Ma} (ht : Pk t) (id : Int) : After t id (drM t id):=by
  unfold drM
  cases hq : enF id t.L 0 with
  | none =>exact after_no ht (by decide) (by decide)
  | some x =>
    obtain ⟨i,e⟩:=x
    obtain ⟨_,h2,h3,_⟩:=enF_some hq
    rw [Nat.sub_zero] at h2
    have hsub : ∀ x ∈ t.L.eraseIdx i,x ∈ t.L:=fun x hx =>List.mem_of_mem_eraseIdx hx
    have hz:=fun g p =>Zg_erase g p h2
    refine ⟨⟨ht.wf.erase i,?_,fun x hx =>ht.key x (hsub x hx),fun x hx =>ht.has x (hsub x hx),fun c g hg => ?_⟩,by simp [drQ],fun q =>absurd rfl q,fun _ g p hg => ?_⟩
    · simp only [drQ]
      have:=ht.len
      rw [List.length_eraseIdx]
      split <;> omega
    · simp only [drQ]
      rw [hz]
      have:=(term_in hg (atC c) (ht.has e (List.mem_of_getElem? h2))).1
      have:=ht.cap c g hg
      omega
    · simp only [drQ]
      obtain ⟨g1,g2⟩:=isM_some hq
      obtain ⟨g3,g4⟩:=isM_none (t:=⟨t.L.eraseIdx i,t.c⟩) (enF_erase ht.wf hq)
      rw [hz,partM,partM,g1,g2,g3]
      simp only [cond_true,cond_false]; omega
theorem enF_last {L : List (En Ma)} {id : Int} {v : Ma} {s : Nat} (hk : enF id L 0 = none) : ∃ i e,enF id (L ++ [⟨id,v,s⟩]) 0 = some (i,e) ∧ e.v = v:=by
  have:=enF_app L id v s hk id
  rw [if_pos rfl] at this
  cases h : enF id (L ++ [⟨id,v,s⟩]) 0 with
  | none =>rw [h] at this; cases this
  | some x =>
    obtain ⟨i,e⟩:=x
    rw [h] at this
    exact ⟨i,e,rfl,Option.some.inj this⟩
theorem enF_there {L : List (En Ma)} {id : Int} {v : Ma} {s : Nat} {i : Nat} {e : En Ma} (hk : enF id L 0 = some (i,e)) : ∃ j e',enF id (L.set i ⟨id,v,s⟩) 0 = some (j,e') ∧ e'.v = v:=by
  have:=enF_set hk v s id
  rw [if_pos rfl] at this
  cases h : enF id (L.set i ⟨id,v,s⟩) 0 with
  | none =>rw [h] at this; cases this
  | some x =>
    obtain ⟨i,e⟩:=x
    rw [h] at this
    exact ⟨i,e,rfl,Option.some.inj this⟩
theorem ad_after {t : Mp Ma} (ht : Pk t) (id c : Int) (v : V4) : After t id (adM t id c v):=by
  unfold adM
  cases h1 : (decide (id < 1) || (decide (id > 999) || (decide (c < 1) || (decide (c > 4) || !good v))))
  · simp only [Bool.or_eq_false_iff,decide_eq_false_iff_not,Bool.not_eq_false'] at h1
    obtain ⟨b1,b2,b3,b4,b5⟩:=h1
    cases h2 : isM t id
    · cases h3 : decide ((t.L.length : Int) ≥ 24)
      · simp only [decide_eq_false_iff_not] at h3
        cases h4 : (addK (sumW (fun _ =>true) (listM t c)) v == 0)
        · simp only [cond_false]
          refine after_no ht (by simpa using h4) ?_
          unfold addK madeK
          cases (good (sumW (fun _ =>true) (listM t c)) && good v) <;> cases good (addV (sumW (fun _ =>true) (listM t c)) v) <;> simp only [cond_true,cond_false] <;> omega
        · simp only [cond_false,cond_true]
          have hq : enF id t.L 0 = none:=by
            cases hq : enF id t.L 0 with
            | none =>rfl
            | some x =>rw [isM,hq] at h2; cases h2
          have hr:=(room_ok ht b5).1 h4
          have hz:=fun g p =>Zg_app g p t.L ⟨id,⟨id,c,v,0⟩,t.c⟩
          refine ⟨⟨ht.wf.snoc hq _,by simp only [List.length_append,List.length_singleton]; omega,fun x hx => ?_,fun x hx => ?_,fun c' g hg => ?_⟩,by simp,fun q =>absurd rfl q,fun _ g p hg => ?_⟩
          · simp only [List.mem_append,List.mem_singleton] at hx
            rcases hx with hx | rfl
            · exact ht.key x hx
            · show id = id ∧ 1 ≤ id ∧ id ≤ 999 ∧ 1 ≤ c ∧ c ≤ 4 ∧ (0 : Int) ≤ 0 ∧ (0 : Int) ≤ 2
              omega
          · simp only [List.mem_append,List.mem_singleton] at hx
            rcases hx with hx | rfl
            · exact ht.has x hx
            · exact b5
          · simp only
            rw [hz]
            have h5:=ht.cap c' g hg
            have h6:=hr g hg
            simp only [term,atC]
            by_cases q : c = c'
            · subst q
              simp only [beq_self_eq_true,cond_true]
              exact h6
            · have : (c == c') = false:=by simpa using q
              rw [this]; simp only [cond_false]; omega
          · simp only
            obtain ⟨j,e,k1,k2⟩:=enF_last (v:=⟨id,c,v,0⟩) (s:=t.c) hq
            obtain ⟨g1,g2⟩:=isM_some (t:=⟨t.L ++ [⟨id,⟨id,c,v,0⟩,t.c⟩],t.c + 1⟩) k1
            rw [hz,partM,partM,h2,g1,g2,k2]
            simp only [cond_true,cond_false]; omega
      · exact after_no ht (by decide) (by decide)
    · exact after_no ht (by decide) (by decide)
  · exact after_no ht (by decide) (by decide)
theorem se_after {t : Mp Ma} (ht : Pk t) (id s : Int) : After t id (seM t id s):=by
  unfold seM
  cases hq : enF id t.L 0 with
  | none =>exact after_no ht (by decide) (by decide)
  | some x =>
    obtain ⟨i,e⟩:=x
    obtain ⟨_,h2,h3,_⟩:=enF_some hq
    rw [Nat.sub_zero] at h2
    have hem:=List.mem_of_getElem? h2
    unfold seQ
    simp only
    cases h4 : (decide (s < 0) || decide (s > 2))
    · simp only [Bool.or_eq_false_iff,decide_eq_false_iff_not] at h4
      cases h5 : (e.v.s == s)
      · simp only [cond_false]
        have hz:=fun g p =>Zg_set g p (x:=⟨id,⟨e.v.i,e.v.c,e.v.h,s⟩,e.s⟩) h2
        have hk:=ht.key e hem
        refine ⟨⟨ht.wf.set hq _,by simp only [List.length_set]; exact ht.len,fun x hx => ?_,fun x hx => ?_,fun c' g hg => ?_⟩,by simp,fun q =>absurd rfl q,fun _ g p hg => ?_⟩
        · rcases List.mem_or_eq_of_mem_set hx with q | q
          · exact ht.key x q
          · subst q; simp only; rw [h3] at hk; omega
        · rcases List.mem_or_eq_of_mem_set hx with q | q
          · exact ht.has x q
          · subst q; exact ht.has e hem
        · simp only
          rw [hz]
          have h6:=ht.cap c' g hg
          have e1 : term g (atC c') e.v = term g (atC c') (⟨id,⟨e.v.i,e.v.c,e.v.h,s⟩,e.s⟩ : En Ma).v:=rfl
          rw [← e1]; omega
        · simp only
          obtain ⟨j,e',k1,k2⟩:=enF_there (v:=⟨e.v.i,e.v.c,e.v.h,s⟩) (s:=e.s) hq
          obtain ⟨g1,g2⟩:=isM_some (t:=⟨t.L.set i ⟨id,⟨e.v.i,e.v.c,e.v.h,s⟩,e.s⟩,t.c⟩) k1
          obtain ⟨g3,g4⟩:=isM_some hq
          rw [hz,partM,partM,g1,g2,g3,g4,k2]
          simp only [cond_true]
      · exact after_no ht (by decide) (by decide)
    · exact after_no ht (by decide) (by decide)
end Go.Proofs.YtnlolefgifeohaaDoor.E15
