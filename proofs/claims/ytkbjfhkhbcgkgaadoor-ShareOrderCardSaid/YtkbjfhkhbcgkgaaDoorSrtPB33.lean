import Derived.Test.YtkbjfhkhbcgkgaaDoorSrtMB33
open Go AH
set_option linter.unusedSimpArgs false
namespace Go.Proofs.YtkbjfhkhbcgkgaaDoor.B33
structure Ord (c : Int → Int → Int) : Prop where
  neg : ∀ x y,c y x = -c x y
  trans : ∀ x y z,c x y ≤ 0 → c y z ≤ 0 → c x z ≤ 0
variable {c : Int → Int → Int}
theorem Ord.lt_le (h : Ord c) {x y z : Int} (h1 : c x y < 0) (h2 : c y z ≤ 0) : c x z < 0:=by
  have t:=h.trans x y z (by omega) h2
  have n1:=h.neg x z
  have n2:=h.neg x y
  have n3:=h.neg y z
  refine Int.lt_of_not_ge fun hg => ?_
  have:=h.trans y z x h2 (by omega)
  omega
theorem Ord.le_lt (h : Ord c) {x y z : Int} (h1 : c x y ≤ 0) (h2 : c y z < 0) : c x z < 0:=by
  have t:=h.trans x y z h1 (by omega)
  have n1:=h.neg x z
  have n2:=h.neg x y
  have n3:=h.neg y z
  refine Int.lt_of_not_ge fun hg => ?_
  have:=h.trans z x y (by omega) h1
  omega
def Srtd (c : Int → Int → Int) (l : List Int) : Prop:=l.Pairwise fun x y =>c x y ≤ 0
theorem mrg_one_l {x : Int} {B1 B2 : List Int} (h1 : ∀ y ∈ B1,c y x < 0) (h2 : ∀ y ∈ B2,¬ c y x < 0) : mrg c [x] (B1 ++ B2) = B1 ++ x :: B2:=by
  have e:=mrg_split (c:=c) (0 + B1.length) [] [x] B1 B2 (by simp) (fun y hy z hz =>by rw [List.mem_singleton.1 hz]; exact h1 y hy) (fun y hy =>by cases hy)
  rw [List.nil_append,mrg_l] at e
  rw [e]
  cases B2 with
  | nil =>rw [mrg_r]
  | cons b B2 =>rw [mrg_ge _ _ (h2 b (List.mem_cons_self ..)),mrg_l]
theorem mrg_one_r {y : Int} {A1 A2 : List Int} (h1 : ∀ x ∈ A1,¬ c y x < 0) (h2 : ∀ x ∈ A2,c y x < 0) : mrg c (A1 ++ A2) [y] = A1 ++ y :: A2:=by
  have e:=mrg_split (c:=c) (A1.length + 0) A1 A2 [] [y] (by simp) (fun y hy =>by cases hy) (fun x hx z hz =>by rw [List.mem_singleton.1 hz]; exact h1 x hx)
  rw [List.nil_append,mrg_r] at e
  rw [e]
  cases A2 with
  | nil =>rw [mrg_l]
  | cons a A2 =>rw [mrg_lt _ _ (h2 a (List.mem_cons_self ..)),mrg_r]
theorem mrg_mem {y : Int} : ∀ (n : Nat) (A B : List Int),A.length + B.length ≤ n → (y ∈ mrg c A B ↔ y ∈ A ∨ y ∈ B)
  | _,[],B,_ =>by rw [mrg_l]; simp
  | _,a :: A,[],_ =>by rw [mrg_r]; simp
  | 0,a :: A,b :: B,h =>by simp at h
  | n + 1,a :: A,b :: B,h =>by
    by_cases hc : c b a < 0
    · rw [mrg_lt _ _ hc,List.mem_cons,mrg_mem n (a :: A) B (by simp at h ⊢; omega)]
      simp only [List.mem_cons]
      constructor
      · rintro (h | h | h) <;> simp_all
      · rintro (h | h | h) <;> simp_all
    · rw [mrg_ge _ _ hc,List.mem_cons,mrg_mem n A (b :: B) (by simp at h ⊢; omega)]
      simp only [List.mem_cons]
      constructor
      · rintro (h | h | h) <;> simp_all
      · rintro ((h | h) | h) <;> simp_all
def ahead (c : Int → Int → Int) (x y : Int) : Prop:=c x y < 0 ∨ (c x y = 0 ∧ x < y)
theorem Ord.ahead_asym (h : Ord c) {x y : Int} (h1 : ahead c x y) (h2 : ahead c y x) : False:=by
  have:=h.neg x y
  rcases h1 with h1 | ⟨h1,h3⟩ <;> rcases h2 with h2 | ⟨h2,h4⟩ <;> omega
theorem ss_eq (h : Ord c) : ∀ (l l' : List Int),l.Pairwise (ahead c) → l'.Pairwise (ahead c) → (∀ y,y ∈ l ↔ y ∈ l') → l = l'
  | [],[],_,_,_ =>rfl
  | [],y :: l',_,_,e =>by have:=(e y).2 (List.mem_cons_self ..); cases this
  | x :: l,[],_,_,e =>by have:=(e x).1 (List.mem_cons_self ..); cases this
  | x :: l,y :: l',p,q,e =>by
    rw [List.pairwise_cons] at p q
    have irr : ∀ z,¬ ahead c z z:=fun z hz =>h.ahead_asym hz hz
    have hxy : x = y:=by
      by_cases hh : x = y
      · exact hh
      · exfalso
        have hx : x ∈ l':=by
          rcases List.mem_cons.1 ((e x).1 (List.mem_cons_self ..)) with k | k
          · exact absurd k hh
          · exact k
        have hy : y ∈ l:=by
          rcases List.mem_cons.1 ((e y).2 (List.mem_cons_self ..)) with k | k
          · exact absurd k.symm hh
          · exact k
        exact h.ahead_asym (p.1 y hy) (q.1 x hx)
    subst hxy
    rw [ss_eq h l l' p.2 q.2 fun z => ?_]
    constructor
    · intro hz
      rcases List.mem_cons.1 ((e z).1 (List.mem_cons_of_mem _ hz)) with k | k
      · subst k; exact absurd (p.1 z hz) (irr z)
      · exact k
    · intro hz
      rcases List.mem_cons.1 ((e z).2 (List.mem_cons_of_mem _ hz)) with k | k
      · subst k; exact absurd (q.1 z hz) (irr z)
      · exact k
theorem Ord.ahead_trans (h : Ord c) {x y z : Int} (h1 : ahead c x y) (h2 : ahead c y z) : ahead c x z:=by
  rcases h1 with h1 | ⟨h1,h3⟩
  · rcases h2 with h2 | ⟨h2,h4⟩
    · exact .inl (h.lt_le h1 (by omega))
    · exact .inl (h.lt_le h1 (by omega))
  · rcases h2 with h2 | ⟨h2,h4⟩
    · exact .inl (h.le_lt (by omega) h2)
    · have t:=h.trans x y z (by omega) (by omega)
      have t2:=h.trans z y x (by have:=h.neg y z; omega) (by have:=h.neg x y; omega)
      have:=h.neg x z
      exact .inr ⟨by omega,by omega⟩
theorem mrg_ss (h : Ord c) : ∀ (n : Nat) (A B : List Int),A.length + B.length ≤ n → A.Pairwise (ahead c) → B.Pairwise (ahead c) → (∀ x ∈ A,∀ y ∈ B,x < y) → (mrg c A B).Pairwise (ahead c)
  | _,[],B,_,_,q,_ =>by rw [mrg_l]; exact q
  | _,a :: A,[],_,p,_,_ =>by rw [mrg_r]; exact p
  | 0,a :: A,b :: B,hn,_,_,_ =>by simp at hn
  | n + 1,a :: A,b :: B,hn,p,q,hl =>by
    by_cases hc : c b a < 0
    · rw [mrg_lt _ _ hc,List.pairwise_cons]
      refine ⟨fun y hy => ?_,mrg_ss h n (a :: A) B (by simp at hn ⊢; omega) p (List.pairwise_cons.1 q).2 fun x hx y hy =>hl x hx y (List.mem_cons_of_mem _ hy)⟩
      rcases (mrg_mem _ _ _ (Nat.le_refl _)).1 hy with k | k
      · rcases List.mem_cons.1 k with k | k
        · subst k; exact .inl hc
        · exact h.ahead_trans (.inl hc) ((List.pairwise_cons.1 p).1 y k)
      · exact (List.pairwise_cons.1 q).1 y k
    · rw [mrg_ge _ _ hc,List.pairwise_cons]
      have hab : ahead c a b:=by
        have n1:=h.neg b a
        by_cases e : c a b = 0
        · exact .inr ⟨e,hl a (List.mem_cons_self ..) b (List.mem_cons_self ..)⟩
        · exact .inl (by omega)
      refine ⟨fun y hy => ?_,mrg_ss h n A (b :: B) (by simp at hn ⊢; omega) (List.pairwise_cons.1 p).2 q fun x hx y hy =>hl x (List.mem_cons_of_mem _ hx) y hy⟩
      rcases (mrg_mem _ _ _ (Nat.le_refl _)).1 hy with k | k
      · exact (List.pairwise_cons.1 p).1 y k
      · rcases List.mem_cons.1 k with k | k
        · subst k; exact hab
        · exact h.ahead_trans hab ((List.pairwise_cons.1 q).1 y k)
theorem getD_mid (X R : List Int) (s : Int) : (X ++ s :: R).getD X.length 0 = s:=by simp [List.getD_eq_getElem?_getD]
theorem bub_ins (h : Ord c) (X : List Int) (x : Int) : ∀ (n : Nat) (A R : List Int),A.length = n → A.Pairwise (ahead c) → bub c X.length (X ++ (A ++ x :: R)) (X.length + A.length) = X ++ (mrg c A [x] ++ R)
  | 0,A,R,hn,_ =>by
    obtain rfl:=List.eq_nil_of_length_eq_zero hn
    rw [mrg_l,List.length_nil,Nat.add_zero]
    cases hX : X.length with
    | zero =>rfl
    | succ k =>rw [bub,decide_eq_false (by omega),Bool.false_and,cond_false]; rfl
  | n + 1,A,R,hn,p =>by
    obtain ⟨A',z,rfl⟩ : ∃ A' z,A = A' ++ [z]:=by
      rcases List.eq_nil_or_concat A with e | ⟨A',z,e⟩
      · rw [e] at hn; cases hn
      · exact ⟨A',z,by rw [e,List.concat_eq_append]⟩
    have hn' : A'.length = n:=by simp at hn; exact hn
    have pp:=List.pairwise_append.1 p
    have el : X ++ (A' ++ [z] ++ x :: R) = (X ++ A') ++ z :: (x :: R):=by simp
    have g0 : (X ++ (A' ++ [z] ++ x :: R)).getD (X.length + A'.length) 0 = z:=by
      rw [el,← List.length_append]; exact getD_mid _ _ _
    have g1 : (X ++ (A' ++ [z] ++ x :: R)).getD (X.length + A'.length + 1) 0 = x:=by
      have e2 : X ++ (A' ++ [z] ++ x :: R) = (X ++ A' ++ [z]) ++ x :: R:=by simp
      have:=getD_mid (X ++ A' ++ [z]) R x
      rw [e2,show X.length + A'.length + 1 = (X ++ A' ++ [z]).length by simp; omega]; exact this
    have hlen : X.length + (A' ++ [z]).length = X.length + A'.length + 1:=by simp; omega
    rw [hlen,bub,g0,g1,decide_eq_true (by omega),Bool.true_and]
    by_cases hc : c x z < 0
    · rw [decide_eq_true hc,cond_true]
      have es : swp (X ++ (A' ++ [z] ++ x :: R)) (X.length + A'.length) = X ++ (A' ++ x :: (z :: R)):=by
        rw [swp,g0,g1,el,show X.length + A'.length = (X ++ A').length by simp,List.set_append_right _ _ (by omega),show (X ++ A').length + 1 - (X ++ A').length = 1 by omega,List.set_cons_succ,List.set_cons_zero,List.set_append_right _ _ (Nat.le_refl _),Nat.sub_self,List.set_cons_zero]
        simp
      rw [es,bub_ins h X x n A' (z :: R) hn' pp.1]
      have:=mrg_split (c:=c) (A'.length + 1) A' [z] [x] [] (by simp) (fun u hu w hw =>by rw [List.mem_singleton.1 hu,List.mem_singleton.1 hw]; exact hc) (fun u hu w hw =>by cases hw)
      rw [List.append_nil,mrg_r] at this
      rw [this]; simp
    · rw [decide_eq_false hc,cond_false]
      have:=mrg_one_r (c:=c) (y:=x) (A1:=A' ++ [z]) (A2:=[]) (fun a ha => ?_) (fun a ha =>by cases ha)
      · rw [List.append_nil] at this
        rw [this]; simp
      · rcases List.mem_append.1 ha with k | k
        · have az:=pp.2.2 a k z (List.mem_singleton.2 rfl)
          have zx : c z x ≤ 0:=by have:=h.neg x z; omega
          have a1 : c a z ≤ 0:=by rcases az with az | ⟨az,_⟩ <;> omega
          have:=h.trans a z x a1 zx
          have:=h.neg x a
          omega
        · rw [List.mem_singleton.1 k]; exact hc
theorem mrg_len : ∀ (n : Nat) (A B : List Int),A.length + B.length ≤ n → (mrg c A B).length = A.length + B.length
  | _,[],B,_ =>by rw [mrg_l]; simp
  | _,a :: A,[],_ =>by rw [mrg_r]; simp
  | 0,a :: A,b :: B,h =>by simp at h
  | n + 1,a :: A,b :: B,h =>by
    by_cases hc : c b a < 0
    · rw [mrg_lt _ _ hc,List.length_cons,mrg_len n (a :: A) B (by simp at h ⊢; omega)]; simp; omega
    · rw [mrg_ge _ _ hc,List.length_cons,mrg_len n A (b :: B) (by simp at h ⊢; omega)]; simp; omega
theorem insL_ins (h : Ord c) (X : List Int) : ∀ (B A R : List Int),A.Pairwise (ahead c) → (∀ x ∈ A,∀ y ∈ B,x < y) → B.Pairwise (fun x y =>x < y) →
    ∃ S,insL c X.length (X ++ (A ++ (B ++ R))) (X.length + A.length) B.length = X ++ (S ++ R) ∧ S.Pairwise (ahead c) ∧ (∀ y,y ∈ S ↔ y ∈ A ∨ y ∈ B) ∧ S.length = A.length + B.length
  | [],A,R,p,_,_ =>⟨A,rfl,p,fun y =>by simp,by simp⟩
  | x :: B,A,R,p,hl,q =>by
    have q2:=List.pairwise_cons.1 q
    have e:=bub_ins h X x A.length A (B ++ R) rfl p
    have ss:=mrg_ss h _ A [x] (Nat.le_refl _) p (List.pairwise_singleton _ _) fun u hu w hw =>by rw [List.mem_singleton.1 hw]; exact hl u hu x (List.mem_cons_self ..)
    have mm : ∀ y,y ∈ mrg c A [x] ↔ y ∈ A ∨ y = x:=fun y =>by rw [mrg_mem _ _ _ (Nat.le_refl _),List.mem_singleton]
    have ml : (mrg c A [x]).length = A.length + 1:=by rw [mrg_len _ _ _ (Nat.le_refl _)]; rfl
    obtain ⟨S,s1,s2,s3,s4⟩:=insL_ins h X B (mrg c A [x]) R ss (fun u hu w hw =>by
      rcases (mm u).1 hu with k | k
      · exact hl u k w (List.mem_cons_of_mem _ hw)
      · rw [k]; exact q2.1 w hw) q2.2
    refine ⟨S,?_,s2,fun y => ?_,by rw [s4,ml]; simp; omega⟩
    · rw [List.length_cons,insL,List.cons_append,e,show X.length + A.length + 1 = X.length + (mrg c A [x]).length by rw [ml]; omega]
      exact s1
    · rw [s3,mm,List.mem_cons]
      constructor
      · rintro ((k | k) | k) <;> simp_all
      · rintro (k | k | k) <;> simp_all
end Go.Proofs.YtkbjfhkhbcgkgaaDoor.B33
