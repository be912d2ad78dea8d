import Derived.Test.YthapdikdeoeplaaGreatDoorPcLgHZ7
import Derived.Test.YthapdikdeoeplaaGreatDoorPaFKindZ7
import Derived.Test.YthapdikdeoeplaaGreatDoorPbSoOZ7
section
set_option linter.unusedVariables false
set_option linter.unnecessarySimpa false
open Go AH
set_option linter.unusedSimpArgs false
set_option maxRecDepth 100000
namespace Go.Proofs.YthapdikdeoeplaaGreatDoor.Z7
def tzL (t : Nat) : List ByteArray → List ByteArray
  | [] => []
  | c :: r =>tzS c t :: r
theorem tz_0 {c : ByteArray} (h : c.size = 64) : tzS c 0 = c:=ba_ext (by rw [tz_l h (by decide)]; simp)
theorem tz_tz {c : ByteArray} {a b : Nat} (h : c.size = 64) (ha : a ≤ 64) (hb : b ≤ 64) : tzS (tzS c a) b = tzS c (max a b):=by
  apply ba_ext
  rw [tz_l (tz_sz h ha) hb,tz_l h ha,tz_l h (by omega),List.drop_append,List.drop_replicate,List.length_replicate,List.drop_drop,← List.append_assoc,List.replicate_append_replicate]
  congr 1
  · congr 1; omega
  · congr 1; omega
theorem tz_ze {t : Nat} (h : t ≤ 64) : tzS zeB t = zeB:=by
  apply ba_ext
  rw [tz_l zeB_sz h,zeB_l,List.drop_replicate,List.replicate_append_replicate]
  congr 1; omega
theorem tzL_0 {C : List ByteArray} (h : ∀ x ∈ C,x.size = 64) : tzL 0 C = C:=by
  cases C with
  | nil =>rfl
  | cons c r =>rw [tzL,tz_0 (h c (List.mem_cons_self ..))]
def Dd (p : Int → Prop) (C : List ByteArray) : Prop:=(∀ x ∈ C,x.size = 64) ∧ ∀ t,t ≤ 64 → (rdZ (tzL t C)).bad ≠ -1 ∨ p (rdZ (tzL t C)).q
theorem Dd.mono {p p' : Int → Prop} {C : List ByteArray} (h : Dd p C) (hp : ∀ q,p q → p' q) : Dd p' C:=⟨h.1,fun t ht =>(h.2 t ht).imp id (hp _)⟩
theorem Dd.at {p : Int → Prop} {C : List ByteArray} (h : Dd p C) : (rdZ C).bad ≠ -1 ∨ p (rdZ C).q:=by
  have:=h.2 0 (by decide)
  rwa [tzL_0 h.1] at this
theorem Dd_ze (p : Int → Prop) (n : Nat) : Dd p (List.replicate n zeB):=by
  refine ⟨fun x hx =>by rw [(List.mem_replicate.1 hx).2]; exact zeB_sz,fun t ht => .inl ?_⟩
  cases n with
  | zero =>exact rdZ_nil
  | succ n =>rw [List.replicate_succ,tzL,tz_ze ht]; exact rdZ_ze _
def dirt (T : Nat) (O O' : List ByteArray) : Prop:=∃ pre c r,O = pre ++ c :: r ∧ O' = List.replicate pre.length zeB ++ tzS c T :: r
theorem Dd.dirt {p : Int → Prop} {O O' : List ByteArray} {T : Nat} (h : Dd p O) (hT : T ≤ 64) (hd : dirt T O O') : Dd p O':=by
  obtain ⟨pre,c,r,rfl,rfl⟩:=hd
  have hc : c.size = 64:=h.1 c (by simp)
  refine ⟨fun x hx => ?_,fun t ht => ?_⟩
  · simp only [List.mem_append,List.mem_replicate,List.mem_cons] at hx
    rcases hx with ⟨_,rfl⟩ | rfl | hx
    · exact zeB_sz
    · exact tz_sz hc hT
    · exact h.1 x (by simp [hx])
  · cases pre with
    | nil =>
      have:=h.2 (max T t) (by omega)
      simp only [List.nil_append,tzL,List.length_nil,List.replicate_zero] at this ⊢
      rw [tz_tz hc hT ht]; exact this
    | cons a l =>
      left
      simp only [List.length_cons,List.replicate_succ,List.cons_append,tzL,tz_ze ht]
      exact rdZ_ze _
theorem dirt_len {T : Nat} {O O' : List ByteArray} (hd : dirt T O O') : O'.length = O.length:=by
  obtain ⟨pre,c,r,rfl,rfl⟩:=hd
  simp
theorem wipe_fu : ∀ (O P S : List ByteArray) (f w : Int) (T : Nat),(∀ x ∈ O,x.size = 64) → -1 ≤ f → f ≤ 1000 →
   (∃ f' w',-1 ≤ f' ∧ f' ≤ f ∧ (f = -1 → f' = -1) ∧ wipeD ⟨P ++ (O ++ S),false,f,T,w⟩ O.length P.length = (0,⟨P ++ (List.replicate O.length zeB ++ S),false,f',T,w'⟩)) ∨
   (f ≠ -1 ∧ ∃ O' w',dirt T O O' ∧ wipeD ⟨P ++ (O ++ S),false,f,T,w⟩ O.length P.length = (14,⟨P ++ (O' ++ S),true,0,T,w'⟩))
  | [],P,S,f,w,T,_,h1,_ => .inl ⟨f,w,h1,Int.le_refl _,fun h =>h,rfl⟩
  | c :: r,P,S,f,w,T,hs,h1,h2 =>by
    have hg : (P ++ (c :: (r ++ S))).getD P.length ⟨#[]⟩ = c:=getD_mid ..
    have hsr : ∀ x ∈ r,x.size = 64:=fun x hx =>hs x (List.mem_cons_of_mem _ hx)
    by_cases hc : c = zeB
    · subst hc
      rcases wipe_fu r (P ++ [zeB]) S f w T hsr h1 h2 with ⟨f',w',a1,a2,a3,e⟩ | ⟨hf,O',w',hd,e⟩
      · refine .inl ⟨f',w',a1,a2,a3,?_⟩
        simp only [List.append_assoc,List.singleton_append,List.length_append,List.length_cons,List.length_nil,Nat.zero_add] at e
        rw [List.length_cons,wipeD,if_neg (by simp),if_pos (by simpa only [List.cons_append] using hg)]
        simp only [List.cons_append,List.replicate_succ]
        exact e
      · refine .inr ⟨hf,zeB :: O',w',?_,?_⟩
        · obtain ⟨pre,c,r',rfl,rfl⟩:=hd
          exact ⟨zeB :: pre,c,r',by simp,by simp [List.replicate_succ]⟩
        · simp only [List.append_assoc,List.singleton_append,List.length_append,List.length_cons,List.length_nil,Nat.zero_add] at e
          rw [List.length_cons,wipeD,if_neg (by simp),if_pos (by simpa only [List.cons_append] using hg)]
          simp only [List.cons_append]
          exact e
    · have hn : ¬ (P ++ (c :: r ++ S)).getD P.length ⟨#[]⟩ = zeB:=by
        simp only [List.cons_append]; rw [hg]; exact hc
      by_cases hf : f = 0
      · subst hf
        refine .inr ⟨by decide,tzS c T :: r,w,⟨[],c,r,rfl,rfl⟩,?_⟩
        have hw:=wrD_at (d:=⟨P ++ (c :: r ++ S),false,0,T,w⟩) (i:=P.length) (s:=zeB) (by simp) zeB_sz
        rw [if_neg (by simp),if_pos rfl] at hw
        rw [List.length_cons,wipeD,if_neg (by simp),if_neg hn,hw,if_neg (by simp)]
        simp only [List.cons_append,set_mid,hg,Int.toNat_natCast,tzS]
      · obtain ⟨w1,e1⟩:=wr_fu (P:=P) (S:=r ++ S) (o:=c) (s:=zeB) (f:=f) (t:=(T : Int)) (w:=w) zeB_sz h1 h2 hf
        have g1 : -1 ≤ (if f = -1 then -1 else f - 1):=by split <;> omega
        have g2 : (if f = -1 then -1 else f - 1) ≤ f:=by split <;> omega
        rcases wipe_fu r (P ++ [zeB]) S (if f = -1 then -1 else f - 1) w1 T hsr g1 (by omega) with ⟨f',w',a1,a2,a3,e⟩ | ⟨hf',O',w',hd,e⟩
        · refine .inl ⟨f',w',a1,by omega,fun h =>a3 (by rw [if_pos h]),?_⟩
          simp only [List.append_assoc,List.singleton_append,List.length_append,List.length_cons,List.length_nil,Nat.zero_add] at e
          rw [List.length_cons,wipeD,if_neg (by simp),if_neg hn]
          simp only [List.cons_append,List.replicate_succ]
          rw [e1,if_pos rfl]
          exact e
        · refine .inr ⟨fun h =>hf' (by rw [if_pos h]),zeB :: O',w',?_,?_⟩
          · obtain ⟨pre,c',r',rfl,rfl⟩:=hd
            exact ⟨c :: pre,c',r',by simp,by simp [List.replicate_succ]⟩
          · simp only [List.append_assoc,List.singleton_append,List.length_append,List.length_cons,List.length_nil,Nat.zero_add] at e
            rw [List.length_cons,wipeD,if_neg (by simp),if_neg hn]
            simp only [List.cons_append]
            rw [e1,if_pos rfl]
            exact e
theorem joinS_all {l : List ByteArray} {q : Int} {n : Nat} : ∀ (m i : Nat) (a : ByteArray),(joinS l q n m i a).2 = -1 → ∀ k,i ≤ k → k < i + m → badJ l q n k = false
  | 0,i,a,_,k,h1,h2 =>by omega
  | m + 1,i,a,h,k,h1,h2 =>by
    unfold joinS at h
    cases hb : badJ l q n i
    · rw [hb,cond_false] at h
      rcases Nat.lt_or_ge i k with g | g
      · exact joinS_all m (i + 1) _ h k (by omega) (by omega)
      · obtain rfl : k = i:=by omega
        exact hb
    · rw [hb,cond_true] at h
      simp only at h; omega
theorem rdZ_in {L : List ByteArray} (h : (rdZ L).bad = -1) : (firZ L).2.2 = true ∧ (rdZ L).n = (firZ L).2.1 ∧ (rdZ L).q = (firZ L).1 ∧ (jnZ L (firZ L).1 (firZ L).2.1.toNat).2 < 0:=by
  unfold rdZ at h ⊢
  cases h1 : (firZ L).2.2
  · rw [h1] at h; cases h
  · rw [h1,cond_true] at h
    rw [cond_true]
    cases h2 : decide ((jnZ L (firZ L).1 (firZ L).2.1.toNat).2 ≥ 0)
    · rw [h2,cond_false] at h
      rw [cond_false]
      cases h3 : (datZ (jnZ L (firZ L).1 (firZ L).2.1.toNat).1).2
      · rw [h3] at h; cases h
      · exact ⟨rfl,rfl,rfl,by simp only [decide_eq_false_iff_not] at h2; omega⟩
    · rw [h2,cond_true] at h
      simp only at h
      rw [h] at h2; cases h2
theorem joinS_neg {l : List ByteArray} {q : Int} {n : Nat} : ∀ (m i : Nat) (a : ByteArray),(joinS l q n m i a).2 < 0 → (joinS l q n m i a).2 = -1
  | 0,_,_,_ =>rfl
  | m + 1,i,a,h =>by
    unfold joinS at h ⊢
    cases hb : badJ l q n i
    · rw [hb,cond_false] at h
      rw [cond_false]
      exact joinS_neg m (i + 1) _ h
    · rw [hb,cond_true] at h
      simp only at h; omega
theorem byt_n1 {n : Nat} (h : n ≤ 108) : byt (IntKind.u64.wrap (n : Int)) 1 = 0 ∧ byt (IntKind.u64.wrap (n : Int)) 0 = UInt8.ofNat n:=by
  have e : IntKind.u64.wrap (n : Int) = n:=u64_id (by omega) (by omega)
  rw [e]
  refine ⟨?_,?_⟩
  · unfold byt; rw [show ((n : Int) / 256 ^ 1 % 256) = 0 by omega]; rfl
  · have h0 : ((n : Int) / 256 ^ 0 % 256).toNat = n:=by simp; omega
    unfold byt; rw [h0]
theorem end_62 {c : ByteArray} {q k : Int} {n : Nat} (hc : c.size = 64) (h : c.extract 56 64 = endS q k n) (hn : n ≤ 108) : c.data.toList.getD 62 0 = UInt8.ofNat n ∧ c.data.toList.getD 63 0 = 0:=by
  have hl : c.data.toList.length = 64:=hc
  have e : c.data.toList.drop 56 = (endS q k n).data.toList:=by
    rw [← h,ex_toList,List.take_of_length_le (by omega)]
  obtain ⟨b1,b0⟩:=byt_n1 hn
  rw [end_l,b0,b1] at e
  have g : ∀ j,c.data.toList.getD (56 + j) 0 = (c.data.toList.drop 56).getD j 0:=fun j =>by
    rw [List.getD_eq_getElem?_getD,List.getD_eq_getElem?_getD,List.getElem?_drop]
  have g6:=g 6
  have g7:=g 7
  rw [e] at g6 g7
  exact ⟨g6,g7⟩
theorem rd_bytes {L : List ByteArray} (h : (rdZ L).bad = -1) : ∃ n : Nat,1 ≤ n ∧ n ≤ 108 ∧ (rdZ L).n = n ∧ ∀ k,k < n → ∃ c,L[k]? = some c ∧ c.size = 64 ∧ c.data.toList.getD 62 0 = UInt8.ofNat n:=by
  obtain ⟨h1,h2,h3,h4⟩:=rdZ_in h
  obtain ⟨f1,f2,f3,f4⟩:=firZ_in h1
  obtain ⟨n,hn⟩:=Int.eq_ofNat_of_zero_le (show 0 ≤ (firZ L).2.1 by omega)
  rw [hn] at h2 h4 f3 f4
  rw [Int.toNat_natCast] at h4
  refine ⟨n,by omega,by omega,h2,fun k hk => ?_⟩
  have hb:=joinS_all n 0 ⟨#[]⟩ (joinS_neg _ _ _ h4) k (Nat.zero_le _) (by omega)
  unfold badJ at hb
  cases hc : L[k]? with
  | none =>rw [hc] at hb; cases hb
  | some c =>
    rw [hc] at hb
    simp only [Bool.or_eq_false_iff,bne_eq_false_iff_eq,Bool.not_eq_false'] at hb
    have hs : c.size = 64:=by omega
    have he:=tl_eq hb.2
    rw [hs] at he
    exact ⟨c,rfl,hs,(end_62 hs he (by omega)).1⟩
theorem tz_62 {c : ByteArray} {t : Nat} (h : c.size = 64) (ht : t ≤ 64) : (tzS c t).data.toList.getD 62 0 = c.data.toList.getD 62 0 ∨ (tzS c t).data.toList.getD 62 0 = 0:=by
  have hl : c.data.toList.length = 64:=h
  rw [tz_l h ht,List.getD_eq_getElem?_getD,List.getD_eq_getElem?_getD]
  rcases Nat.lt_or_ge 62 t with g | g
  · right
    rw [List.getElem?_append_left (by simp; omega),List.getElem?_replicate,if_pos g]; rfl
  · left
    rw [List.getElem?_append_right (by simp; omega),List.length_replicate,List.getElem?_drop,show t + (62 - t) = 62 by omega]
theorem tornL_l {c : ByteArray} {t : Nat} (h : c.size = 64) (ht : t ≤ 64) : (tornS c t).data.toList = c.data.toList.take t ++ List.replicate (64 - t) 0:=by
  have hl : c.data.toList.length = 64:=h
  have hz : z64.data.toList = List.replicate 64 0:=rfl
  rw [tornS,ByteArray.data_append,Array.toList_append,ex_toList,ex_toList,List.drop_zero,hz,List.take_replicate,List.drop_replicate]
  simp
theorem torn_62 {c : ByteArray} {t : Nat} (h : c.size = 64) (ht : t ≤ 62) : (tornS c t).data.toList.getD 62 0 = 0:=by
  have hl : c.data.toList.length = 64:=h
  rw [tornL_l h (by omega),List.getD_eq_getElem?_getD,List.getElem?_append_right (by rw [List.length_take]; omega),List.getElem?_replicate]
  split <;> rfl
theorem blk_62 {q : Int} {s : ByteArray} {j : Nat} (h3 : s.size ≤ 6000) (hj : j < sizeN s.size) : (blkS q s j).data.toList.getD 62 0 = UInt8.ofNat (sizeN s.size) ∧ (blkS q s j).data.toList.getD 63 0 = 0 :=
  end_62 (blk_sz hj) (blk_end hj) (sizeN_le h3).2
theorem torn_63 {q : Int} {s : ByteArray} {j t : Nat} (h3 : s.size ≤ 6000) (hj : j < sizeN s.size) (h1 : 63 ≤ t) (ht : t ≤ 64) : tornS (blkS q s j) t = blkS q s j:=by
  have hs:=blk_sz (seq:=q) hj
  have hl : (blkS q s j).data.toList.length = 64:=hs
  have h63:=(blk_62 (q:=q) h3 hj).2
  apply ba_ext
  rw [tornL_l hs ht]
  obtain rfl | rfl : t = 64 ∨ t = 63:=by omega
  · rw [List.take_of_length_le (by omega)]; simp
  · conv =>rhs; rw [← List.take_append_drop 63 (blkS q s j).data.toList]
    congr 1
    have : (blkS q s j).data.toList.drop 63 = [(blkS q s j).data.toList[63]]:=by
      rw [List.drop_eq_getElem_cons (by omega),List.drop_of_length_le (by omega)]
    rw [this]
    rw [List.getD_eq_getElem?_getD,List.getElem?_eq_getElem (by omega)] at h63
    simp only [Option.getD_some] at h63
    rw [h63]; rfl
theorem ofNat_ne {n : Nat} (h1 : 1 ≤ n) (h2 : n ≤ 108) : UInt8.ofNat n ≠ 0:=by
  intro h
  have:=congrArg UInt8.toNat h
  simp at this
  omega
theorem ofNat_inj' {n m : Nat} (h1 : n ≤ 108) (h2 : m ≤ 108) (h : UInt8.ofNat n = UInt8.ofNat m) : n = m:=by
  have:=congrArg UInt8.toNat h
  simp at this
  omega
theorem ze_62 : zeB.data.toList.getD 62 0 = 0:=by rw [zeB_l]; rfl
theorem cut_dead (p : Int → Prop) {q : Int} {s : ByteArray} {j T m : Nat} (h3 : s.size ≤ 6000) (hj : j < sizeN s.size) (hT : T ≤ 64) (hm : sizeN s.size ≤ j + 1 + m) :
    Dd p ((blkL q s (sizeN s.size)).take j ++ (tornS (blkS q s j) T :: List.replicate m zeB)) ∨ (j + 1 = sizeN s.size ∧ tornS (blkS q s j) T = blkS q s j):=by
  have hN:=sizeN_le h3
  have hlen : ((blkL q s (sizeN s.size)).take j).length = j:=by rw [List.length_take,blkL_len]; omega
  have hg : ∀ i,i < j → ((blkL q s (sizeN s.size)).take j ++ (tornS (blkS q s j) T :: List.replicate m zeB))[i]? = some (blkS q s i):=fun i hi =>by
    rw [List.getElem?_append_left (by omega),List.getElem?_take,if_pos hi]
    simp only [blkL]
    rw [List.getElem?_map,List.getElem?_range (by omega)]; rfl
  have hat : ((blkL q s (sizeN s.size)).take j ++ (tornS (blkS q s j) T :: List.replicate m zeB))[j]? = some (tornS (blkS q s j) T):=by
    rw [List.getElem?_append_right (by omega),hlen,Nat.sub_self]; rfl
  have hz : ∀ i,j < i → i < j + 1 + m → ((blkL q s (sizeN s.size)).take j ++ (tornS (blkS q s j) T :: List.replicate m zeB))[i]? = some zeB:=fun i h1 h2 =>by
    rw [List.getElem?_append_right (by omega),hlen,show i - j = (i - j - 1) + 1 by omega,List.getElem?_cons_succ,List.getElem?_replicate,if_pos (by omega)]
  have hsz : ∀ x ∈ (blkL q s (sizeN s.size)).take j ++ (tornS (blkS q s j) T :: List.replicate m zeB),x.size = 64:=fun x hx =>by
    simp only [List.mem_append,List.mem_cons,List.mem_replicate] at hx
    rcases hx with h | rfl | ⟨_,rfl⟩
    · exact blkL_sz (Nat.le_refl _) x (List.mem_of_mem_take h)
    · exact tornS_sz (blk_sz hj) hT
    · exact zeB_sz
  by_cases hw : j + 1 = sizeN s.size ∧ tornS (blkS q s j) T = blkS q s j
  · exact .inr hw
  left
  refine ⟨hsz,fun t ht => .inl fun hbad => ?_⟩
  generalize hC : (blkL q s (sizeN s.size)).take j ++ (tornS (blkS q s j) T :: List.replicate m zeB) = C at *
  obtain ⟨n,n1,n2,-,hk⟩:=rd_bytes hbad
  cases C with
  | nil =>simp at hat
  | cons c0 r =>
    have hc0:=hsz c0 (List.mem_cons_self ..)
    -- the first block's count
    have hn : UInt8.ofNat n = c0.data.toList.getD 62 0:=by
      obtain ⟨c,e1,_,e2⟩:=hk 0 (by omega)
      simp only [tzL,List.getElem?_cons_zero,Option.some.injEq] at e1
      subst e1
      rcases tz_62 hc0 ht with g | g
      · rw [← g,e2]
      · rw [g] at e2; exact absurd e2.symm (ofNat_ne n1 n2)
    have hrest : ∀ i,0 < i → i < n → ∃ c,(c0 :: r)[i]? = some c ∧ c.data.toList.getD 62 0 = UInt8.ofNat n:=fun i h1 h2 =>by
      obtain ⟨c,e1,_,e2⟩:=hk i h2
      refine ⟨c,?_,e2⟩
      obtain ⟨i,rfl⟩ : ∃ k,i = k + 1:=⟨i - 1,by omega⟩
      simpa [tzL] using e1
    rcases Nat.lt_or_ge T 63 with g | g
    · -- the torn block's count is nought
      have h62:=torn_62 (blk_sz (seq:=q) hj) (show T ≤ 62 by omega)
      rcases Nat.eq_zero_or_pos j with rfl | hjp
      · simp only [List.getElem?_cons_zero,Option.some.injEq] at hat
        rw [hat,h62] at hn
        exact ofNat_ne n1 n2 hn
      · have h0:=hg 0 hjp
        simp only [List.getElem?_cons_zero,Option.some.injEq] at h0
        rw [h0,(blk_62 h3 (by omega)).1] at hn
        have hnn:=ofNat_inj' n2 hN.2 hn
        obtain ⟨c,e1,e2⟩:=hrest j hjp (by omega)
        rw [hat] at e1
        simp only [Option.some.injEq] at e1
        subst e1
        rw [h62] at e2
        exact ofNat_ne n1 n2 e2.symm
    · have hsame:=torn_63 (q:=q) h3 hj g hT
      have hj1 : j + 1 < sizeN s.size:=by
        rcases Nat.lt_or_ge (j + 1) (sizeN s.size) with h | h
        · exact h
        · exact absurd ⟨by omega,hsame⟩ hw
      have h0 : c0 = blkS q s 0:=by
        rcases Nat.eq_zero_or_pos j with rfl | hjp
        · simp only [List.getElem?_cons_zero,Option.some.injEq] at hat
          rw [hat,hsame]
        · have h0:=hg 0 hjp
          simpa using h0
      rw [h0,(blk_62 h3 (by omega)).1] at hn
      have hnn:=ofNat_inj' n2 hN.2 hn
      obtain ⟨c,e1,e2⟩:=hrest (j + 1) (by omega) (by omega)
      rw [hz (j + 1) (by omega) (by omega)] at e1
      simp only [Option.some.injEq] at e1
      subst e1
      rw [ze_62] at e2
      exact ofNat_ne n1 n2 e2.symm
theorem val4_le (a b c d : UInt8) : 0 ≤ val4 a b c d ∧ val4 0 b c d ≤ val4 a b c d ∧ val4 0 0 c d ≤ val4 a b c d ∧ val4 0 0 0 d ≤ val4 a b c d ∧ val4 0 0 0 0 ≤ val4 a b c d:=by
  unfold val4
  have:=UInt8.toNat_lt a
  simp
  omega
theorem tz_take (l : List UInt8) (t : Nat) : ((List.replicate t 0 ++ l.drop t).drop 56).take 4 = (List.replicate (t - 56) 0 ++ (l.drop 56).drop (t - 56)).take 4:=by
  rw [List.drop_append,List.drop_replicate,List.length_replicate,List.drop_drop,List.drop_drop,show t + (56 - t) = 56 + (t - 56) by omega]
theorem firS_1 {c : ByteArray} (h : c.size = 64) : (firS c).1 = valS ((tailE c).extract 0 4):=by
  have h64 : ((c.size : Int) != 64) = false:=by rw [h]; rfl
  rw [firS,h64,cond_false]
theorem tz_q {q : Int} {d : ByteArray} {t : Nat} {r : List ByteArray} (h1 : 1 ≤ q) (h2 : q ≤ 2147483647) (hd : 0 < sizeN d.size) (ht : t ≤ 64) (h : (rdZ (tzS (blkS q d 0) t :: r)).bad = -1) : (rdZ (tzS (blkS q d 0) t :: r)).q ≤ q:=by
  obtain ⟨_,_,e,_⟩:=rdZ_in h
  have hs:=blk_sz (seq:=q) hd
  have hz:=tz_sz hs ht
  have hl : (blkS q d 0).data.toList.length = 64:=hs
  rw [e,show firZ (tzS (blkS q d 0) t :: r) = firS (tzS (blkS q d 0) t) from rfl,firS_1 hz]
  have he : (blkS q d 0).data.toList.drop 56 = (endS q ((0 : Nat) : Int) (sizeN d.size)).data.toList:=by
    rw [← blk_end hd,ex_toList,List.take_of_length_le (by omega)]
  have el : ((tailE (tzS (blkS q d 0) t)).extract 0 4).data.toList = ((List.replicate (t - 56) 0 ++ (endS q ((0 : Nat) : Int) (sizeN d.size)).data.toList.drop (t - 56)).take 4):=by
    rw [← he,← tz_take,← tz_l hs ht,ex_toList,tailE,ex_toList,List.drop_zero,List.take_of_length_le (l:=(tzS (blkS q d 0) t).data.toList) (by rw [size_l,hz]; exact Nat.le_refl _)]
  clear he
  have hv : valS (num4 (IntKind.u64.wrap q)) = q:=by rw [u64_id (by omega) (by omega)]; exact val_num4 (by omega) (by omega)
  rw [end_l] at el
  unfold valS at hv ⊢
  rw [el]
  have hv' : val4 (byt (IntKind.u64.wrap q) 0) (byt (IntKind.u64.wrap q) 1) (byt (IntKind.u64.wrap q) 2) (byt (IntKind.u64.wrap q) 3) = q:=hv
  obtain ⟨v0,v1,v2,v3,v4⟩:=val4_le (byt (IntKind.u64.wrap q) 0) (byt (IntKind.u64.wrap q) 1) (byt (IntKind.u64.wrap q) 2) (byt (IntKind.u64.wrap q) 3)
  rw [hv'] at v0 v1 v2 v3 v4
  have hc : t - 56 = 0 ∨ t - 56 = 1 ∨ t - 56 = 2 ∨ t - 56 = 3 ∨ t - 56 = 4 ∨ t - 56 = 5 ∨ t - 56 = 6 ∨ t - 56 = 7 ∨ t - 56 = 8:=by omega
  rcases hc with h | h | h | h | h | h | h | h | h <;> rw [h]
  · exact Int.le_of_eq hv'
  · exact v1
  · exact v2
  · exact v3
  all_goals exact v4
end Go.Proofs.YthapdikdeoeplaaGreatDoor.Z7
end
section
set_option linter.unusedVariables false
set_option linter.unnecessarySimpa false
open Go AH
set_option linter.unusedSimpArgs false
set_option maxRecDepth 100000
namespace Go.Proofs.YthapdikdeoeplaaGreatDoor.Z7
def kqD (P Q : List ByteArray) (b : Int) (W : List ByteArray) (f t w : Int) : Dk:=⟨lgL (P ++ Q) (frs (b + 1) W) [] 64,false,f,t,w⟩
def kqG (P Q : List ByteArray) (b : Int) (W : List ByteArray) (f t w : Int) : Lg:=⟨kqD P Q b W f t w,16,80,b,((16 + (frs (b + 1) W).length : Nat) : Int),W,false⟩
def kqX (P Q : List ByteArray) (s : ByteArray) (b a : Int) (W : List ByteArray) (f t w : Int) : So:=⟨kqG P Q b W f t w,8,s,b,a,false⟩
def arD (P Q : List ByteArray) (s : ByteArray) (b a : Int) : Prop :=
  (a = -1 ∧ s = ⟨#[]⟩ ∧ b = 0 ∧ Dd (· < 0) P ∧ Dd (· < 0) Q) ∨ (a = 0 ∧ 1 ≤ b ∧ P = arL b s 8 ∧ Dd (· < b) Q) ∨ (a = 1 ∧ 1 ≤ b ∧ Q = arL b s 8 ∧ Dd (· < b) P)
structure kqI (P Q : List ByteArray) (s : ByteArray) (b a : Int) (W : List ByteArray) (m : Nat) : Prop where
  p : P.length = 8
  q : Q.length = 8
  pz : ∀ x ∈ P,x.size = 64
  qz : ∀ x ∈ Q,x.size = 64
  ar : arD P Q s b a
  bm : b + (W.length : Int) ≤ m
  wm : W.length ≤ m
  wz : ∀ x ∈ W,x.size ≤ 8
  sz : s.size + 8 * W.length ≤ 8 * m
  m40 : m ≤ 50
variable {P Q : List ByteArray} {s : ByteArray} {b a : Int} {W R : List ByteArray} {m : Nat} {f w : Int} {T : Nat}
theorem arD.b0 (h : arD P Q s b a) : 0 ≤ b:=by
  rcases h with ⟨_,_,h,_⟩ | ⟨_,h,_⟩ | ⟨_,h,_⟩ <;> omega
theorem rdZ_q1 {L : List ByteArray} (h : (rdZ L).bad = -1) : 1 ≤ (rdZ L).q:=(rdZ_good h).2.2.2.1
theorem arD.aI (h : arD P Q s b a) (hs : s.size ≤ 6000) (hb : b ≤ 2147483647) : aI P Q s b a:=by
  rcases h with ⟨h1,h2,h3,h4,h5⟩ | ⟨h1,h2,rfl,h4⟩ | ⟨h1,h2,rfl,h4⟩
  · refine .inl ⟨h1,h2,h3,?_,?_⟩
    · rcases h4.at with h | h
      · exact h
      · intro g; have:=rdZ_q1 g; omega
    · rcases h5.at with h | h
      · exact h
      · intro g; have:=rdZ_q1 g; omega
  · have hr:=arL_rd (Z:=8) h2 hb hs
    refine .inr (.inl ⟨h1,by rw [hr],by rw [hr],by rw [hr],?_⟩)
    rcases h4.at with h | h
    · exact .inl h
    · right; omega
  · have hr:=arL_rd (Z:=8) h2 hb hs
    refine .inr (.inr ⟨h1,by rw [hr],by rw [hr],by rw [hr],?_⟩)
    exact h4.at
theorem frs_len1 : ∀ (W : List ByteArray) (q : Int),(∀ x ∈ W,x.size ≤ 8) → (frs q W).length = W.length
  | [],_,_ =>rfl
  | x :: r,q,h =>by
    have h1:=h x (List.mem_cons_self ..)
    rw [frs,List.length_append,blkL_len,frs_len1 r (q + 1) fun y hy =>h y (List.mem_cons_of_mem _ hy),List.length_cons]
    unfold sizeN; omega
theorem kqI.fl (h : kqI P Q s b a W m) : (frs (b + 1) W).length = W.length:=frs_len1 W _ h.wz
theorem kqI.len (h : kqI P Q s b a W m) : (P ++ Q).length = 16:=by rw [List.length_append,h.p,h.q]
theorem kqI.dlen (h : kqI P Q s b a W m) : (lgL (P ++ Q) (frs (b + 1) W) [] 64).length = 80:=by
  have:=h.fl; have:=h.wm; have:=h.m40
  rw [lgL_len (by omega),h.len]; rfl
theorem kqI.dsz (h : kqI P Q s b a W m) : ∀ x ∈ lgL (P ++ Q) (frs (b + 1) W) [] 64,x.size = 64:=lgL_sz (fun x hx =>(List.mem_append.1 hx).elim (h.pz x) (h.qz x)) (frs_sz W _) fun x hx =>by cases hx
theorem kqI.base (h : kqI P Q s b a W m) : isBase b:=⟨h.ar.b0,by have:=h.bm; have:=h.m40; omega⟩
theorem kqI.dok (h : kqI P Q s b a W m) (hT : T ≤ 64) : (kqD P Q b W f T w).ok:=⟨h.dsz,by show (0 : Int) ≤ T; omega,by show (T : Int) ≤ 64; omega,by show (lgL (P ++ Q) (frs (b + 1) W) [] 64).length ≤ 4096; rw [h.dlen]; decide⟩
theorem kqI.gok (h : kqI P Q s b a W m) (hT : T ≤ 64) : (kqG P Q b W f T w).ok:=by
  have h1:=h.fl; have h2:=h.wm; have h3:=h.m40
  refine ⟨h.dok hT,h.base,by show (0 : Int) ≤ 16; decide,?_,?_,?_,?_⟩
  · show (16 : Int) ≤ ((16 + (frs (b + 1) W).length : Nat) : Int); omega
  · show ((16 + (frs (b + 1) W).length : Nat) : Int) ≤ 80; omega
  · show (80 : Int) ≤ ((lgL (P ++ Q) (frs (b + 1) W) [] 64).length : Int); rw [h.dlen]; decide
  · show (W.length : Int) ≤ ((16 + (frs (b + 1) W).length : Nat) : Int) - 16; omega
theorem kqI.ok (h : kqI P Q s b a W m) (hT : T ≤ 64) : (kqX P Q s b a W f T w).ok:=⟨h.gok hT,by show (1 : Int) ≤ 8; decide,by show (8 : Int) ≤ 100; decide,rfl,by show (80 : Int) = ((lgL (P ++ Q) (frs (b + 1) W) [] 64).length : Int); rw [h.dlen]; rfl⟩
theorem kqI.up (h : kqI P Q s b a W m) (hm : m < 50) : kqI P Q s b a W (m + 1):=⟨h.p,h.q,h.pz,h.qz,h.ar,by have:=h.bm; omega,by have:=h.wm; omega,h.wz,by have:=h.sz; omega,by omega⟩
theorem kqI.ssz (h : kqI P Q s b a W m) : s.size ≤ 400:=by have:=h.sz; have:=h.m40; omega
theorem kqI.cat (h : kqI P Q s b a W m) : (s ++ catS W).size ≤ 8 * m:=by
  have h1:=catS_le (L:=W) (m:=8) h.wz
  have h2:=h.sz
  rw [ByteArray.size_append]; omega
theorem logR_frs2 : ∀ (W : List ByteArray) (q : Int) (k : Nat) (Z : List ByteArray),1 ≤ q → q + (W.length : Int) ≤ 2147483647 → (∀ s ∈ W,s.size ≤ 6000) → W.length ≤ k → ((rdZ Z).bad ≠ -1 ∨ (rdZ Z).q ≠ q + (W.length : Int)) → logR k (frs q W ++ Z) q = (W,(frs q W).length)
  | [],q,k,Z,_,_,_,_,hZ =>by
    rw [frs,List.nil_append]
    cases k with
    | zero =>rfl
    | succ k =>
      unfold logR
      rw [if_neg (fun z =>hZ.elim (fun y =>y z.1) fun y =>y (by rw [z.2]; simp))]; rfl
  | s :: r,q,k,Z,h1,h2,hs,hk,hZ =>by
    obtain ⟨k,rfl⟩ : ∃ k',k = k' + 1:=⟨k - 1,by rw [List.length_cons] at hk; omega⟩
    rw [List.length_cons] at h2 hk hZ
    have hr:=read_back (seq:=q) (d:=s) h1 (by omega) (hs s (List.mem_cons_self ..)) (frs (q + 1) r ++ Z)
    have hd : (blkL q s (sizeN s.size) ++ (frs (q + 1) r ++ Z)).drop (sizeN s.size) = frs (q + 1) r ++ Z:=by
      have:=List.drop_left (l₁:=blkL q s (sizeN s.size)) (l₂:=frs (q + 1) r ++ Z)
      rwa [blkL_len] at this
    have ih:=logR_frs2 r (q + 1) k Z (by omega) (by omega) (fun x hx =>hs x (List.mem_cons_of_mem _ hx)) (by omega) (by rwa [show q + 1 + (r.length : Int) = q + ((r.length + 1 : Nat) : Int) by omega])
    rw [frs,List.append_assoc]
    unfold logR
    rw [hr]
    simp only [and_self,if_true,Int.toNat_natCast,hd,ih,List.length_append,blkL_len]
def kqR (b : Int) (W R : List ByteArray) : Prop:=Dd (· ≠ b + 1 + (W.length : Int)) R ∧ (frs (b + 1) W).length + R.length = 64
def kqV (P Q : List ByteArray) (b : Int) (W R : List ByteArray) (aw : Bool) (f t w : Int) : Dk:=⟨(P ++ Q) ++ (frs (b + 1) W ++ R),aw,f,t,w⟩
theorem kqD_V (h : kqI P Q s b a W m) : kqD P Q b W f T w = kqV P Q b W (List.replicate (64 - (frs (b + 1) W).length) zeB) false f T w:=by
  unfold kqD kqV lgL
  rw [List.append_nil]
theorem kqR_ze (h : kqI P Q s b a W m) : kqR b W (List.replicate (64 - (frs (b + 1) W).length) zeB):=by
  have:=h.fl; have:=h.wm; have:=h.m40
  exact ⟨Dd_ze _ _,by rw [List.length_replicate]; omega⟩
theorem kq_open (h : kqI P Q s b a W m) (hR : kqR b W R) (h1 : -1 ≤ f) (h2 : f ≤ 1000) (hT : T ≤ 64) :
    (∃ f' w',-1 ≤ f' ∧ f' ≤ f ∧ (f = -1 → f' = -1) ∧ sopZ (kqV P Q b W R false f T w) 8 = (0,kqX P Q s b a W f' T w')) ∨
    (f ≠ -1 ∧ ∃ y R' w',sopZ (kqV P Q b W R false f T w) 8 = (14,y) ∧ y.g.d = kqV P Q b W R' true 0 T w' ∧ kqR b W R'):=by
  have hfl:=h.fl
  have hwm:=h.wm
  have hm:=h.m40
  have hb:=h.base
  have hl2:=h.len
  have hRl:=hR.2
  have hs:=h.ssz
  have hLl : (kqV P Q b W R false f T w).L.length = 80:=by show ((P ++ Q) ++ (frs (b + 1) W ++ R)).length = 80; rw [List.length_append,hl2,List.length_append]; omega
  have hla : lastZ (kqV P Q b W R false f T w).L 8 = ⟨s,b,a⟩:=by
    show lastZ ((P ++ Q) ++ (frs (b + 1) W ++ R)) 8 = _
    exact aI_last h.p h.q (h.ar.aI (by omega) (by have:=hb.2; omega))
  have hlr : logR 64 (frs (b + 1) W ++ R) (b + 1) = (W,(frs (b + 1) W).length):=by
    refine logR_frs2 W (b + 1) 64 R (by have:=hb.1; omega) (by have:=hb.2; omega) (fun x hx =>by have:=h.wz x hx; omega) (by omega) ?_
    have:=hR.1.at
    rwa [show b + 1 + (W.length : Int) = b + 1 + (W.length : Int) from rfl] at this
  have hrg : (((kqV P Q b W R false f T w).L.drop 16).take 64) = frs (b + 1) W ++ R:=by
    show (((P ++ Q) ++ (frs (b + 1) W ++ R)).drop 16).take 64 = _
    rw [← hl2,List.drop_left]
    exact List.take_of_length_le (by rw [List.length_append]; omega)
  have hop : opnZ (kqV P Q b W R false f T w) 16 80 b = ((wipeD (kqV P Q b W R false f T w) R.length (16 + (frs (b + 1) W).length)).1,⟨(wipeD (kqV P Q b W R false f T w) R.length (16 + (frs (b + 1) W).length)).2,16,80,b,((16 + (frs (b + 1) W).length : Nat) : Int),W,false⟩):=by
    unfold opnZ
    rw [if_neg (by rintro (q | q | q | q) <;> first | omega | exact q hb),if_neg (by show ¬ (false = true); simp)]
    simp only [show ((80 : Int) - 16).toNat = 64 from rfl,show (16 : Int).toNat = 16 from rfl,show (80 : Int).toNat = 80 from rfl,hrg,hlr,show 80 - (16 + (frs (b + 1) W).length) = R.length by omega]
  have hso : sopZ (kqV P Q b W R false f T w) 8 = ((opnZ (kqV P Q b W R false f T w) 16 80 b).1,⟨(opnZ (kqV P Q b W R false f T w) 16 80 b).2,8,s,b,a,false⟩):=by
    unfold sopZ
    rw [if_neg (by rw [hLl]; omega),if_neg (by show ¬ (false = true); simp),show (8 : Int).toNat = 8 from rfl,hla,if_neg (by have:=hb.2; simp only; omega),hLl]
    rfl
  have hPl : ((P ++ Q) ++ frs (b + 1) W).length = 16 + (frs (b + 1) W).length:=by rw [List.length_append,hl2]
  have hV : kqV P Q b W R false f T w = ⟨((P ++ Q) ++ frs (b + 1) W) ++ (R ++ []),false,f,T,w⟩:=by unfold kqV; simp
  rcases wipe_fu R ((P ++ Q) ++ frs (b + 1) W) [] f w T hR.1.1 h1 h2 with ⟨f',w',a1,a2,a3,e⟩ | ⟨hf,O',w',hd,e⟩
  · rw [← hV,hPl] at e
    refine .inl ⟨f',w',a1,a2,a3,?_⟩
    rw [hso,hop,e]
    have : (64 - (frs (b + 1) W).length) = R.length:=by omega
    simp only [kqX,kqG,kqD,lgL,this,List.append_assoc]
  · rw [← hV,hPl] at e
    refine .inr ⟨hf,⟨⟨kqV P Q b W O' true 0 T w',16,80,b,((16 + (frs (b + 1) W).length : Nat) : Int),W,false⟩,8,s,b,a,false⟩,O',w',?_,rfl,hR.1.dirt hT hd,by rw [dirt_len hd]; exact hRl⟩
    rw [hso,hop,e]
    simp only [kqV,List.append_assoc,List.append_nil]
theorem kq_open1 (h : kqI P Q s b a W m) (hR : kqR b W R) (hT : T ≤ 64) : ∃ w',sopZ (kqV P Q b W R false (-1) T w) 8 = (0,kqX P Q s b a W (-1) T w'):=by
  rcases kq_open (f:=-1) (w:=w) h hR (by decide) (by decide) hT with ⟨f',w',_,_,h3,e⟩ | ⟨hf,_⟩
  · rw [h3 rfl] at e; exact ⟨w',e⟩
  · exact absurd rfl hf
theorem kq_add (h : kqI P Q s b a W m) (hm : m < 50) {x : ByteArray} (hx : x.size ≤ 8) (h1 : -1 ≤ f) (h2 : f ≤ 1000) (hT : T ≤ 64) :
    (f ≠ 0 ∧ ∃ f' w',-1 ≤ f' ∧ f' ≤ 1000 ∧ sadZ (kqX P Q s b a W f T w) x = (0,kqX P Q s b a (W ++ [x]) f' T w') ∧ (addL (kqX P Q s b a W f T w).g x).1 = 0 ∧ kqI P Q s b a (W ++ [x]) (m + 1)) ∨
    (f = 0 ∧ ∃ Y W' R w',sadZ (kqX P Q s b a W f T w) x = (14,Y) ∧ (addL (kqX P Q s b a W f T w).g x).1 = 14 ∧ Y.g.d = kqV P Q b W' R true 0 T w' ∧ (W' = W ∨ (W' = W ++ [x] ∧ 63 ≤ T)) ∧ kqI P Q s b a W' (m + 1) ∧ kqR b W' R):=by
  have hfl:=h.fl
  have hwm:=h.wm
  have hb:=h.base
  have hl2:=h.len
  have hbm:=h.bm
  have hn1 : sizeN x.size = 1:=by unfold sizeN; omega
  have hbl:=blkL_len (b + (W.length : Int) + 1) x (sizeN x.size)
  have hbz:=blkL_sz (q:=b + (W.length : Int) + 1) (s:=x) (n:=sizeN x.size) (Nat.le_refl _)
  have hI' : kqI P Q s b a (W ++ [x]) (m + 1):=⟨h.p,h.q,h.pz,h.qz,h.ar,by rw [List.length_append]; simp only [List.length_cons,List.length_nil]; omega,by rw [List.length_append]; simp only [List.length_cons,List.length_nil]; omega,fun y hy =>(List.mem_append.1 hy).elim (h.wz y) fun q =>by rw [List.mem_singleton.1 q]; exact hx,by rw [List.length_append]; simp only [List.length_cons,List.length_nil]; have:=h.sz; omega,by omega⟩
  have e1 : frs (b + 1) (W ++ [x]) = frs (b + 1) W ++ blkL (b + (W.length : Int) + 1) x (sizeN x.size):=by
    rw [frs_snoc,show b + 1 + (W.length : Int) = b + (W.length : Int) + 1 by omega]
  have hPl : ((P ++ Q) ++ frs (b + 1) W).length = 16 + (frs (b + 1) W).length:=by rw [List.length_append,hl2]
  have hD : kqD P Q b W f T w = ⟨((P ++ Q) ++ frs (b + 1) W) ++ (List.replicate (sizeN x.size) zeB ++ List.replicate (63 - (frs (b + 1) W).length) zeB),false,f,T,w⟩:=by
    unfold kqD lgL
    rw [List.replicate_append_replicate,List.append_nil,hn1,show 1 + (63 - (frs (b + 1) W).length) = 64 - (frs (b + 1) W).length by omega]
    simp only [List.append_assoc]
  have hadd : addL (kqG P Q b W f T w) x = if (layD (kqD P Q b W f T w) (16 + (frs (b + 1) W).length) (blkL (b + (W.length : Int) + 1) x (sizeN x.size))).1 = 0 then (0,{ kqG P Q b W f T w with d:=(layD (kqD P Q b W f T w) (16 + (frs (b + 1) W).length) (blkL (b + (W.length : Int) + 1) x (sizeN x.size))).2,a:=((16 + (frs (b + 1) W).length : Nat) : Int) + sizeN x.size,R:=W ++ [x] }) else
        ((layD (kqD P Q b W f T w) (16 + (frs (b + 1) W).length) (blkL (b + (W.length : Int) + 1) x (sizeN x.size))).1,{ kqG P Q b W f T w with d:=(layD (kqD P Q b W f T w) (16 + (frs (b + 1) W).length) (blkL (b + (W.length : Int) + 1) x (sizeN x.size))).2,down:=(layD (kqD P Q b W f T w) (16 + (frs (b + 1) W).length) (blkL (b + (W.length : Int) + 1) x (sizeN x.size))).1 == 14 }):=by
    have c1 : (kqG P Q b W f T w).room = 80 - ((16 + (frs (b + 1) W).length : Nat) : Int):=rfl
    have c2 : (kqG P Q b W f T w).next = b + (W.length : Int) + 1:=rfl
    unfold addL
    rw [if_neg (by omega),if_neg (by rw [c1,c2,hn1]; omega),if_neg (by simp [kqG]),c2,show (kqG P Q b W f T w).a.toNat = 16 + (frs (b + 1) W).length from Int.toNat_natCast _]
    rfl
  have hsad : sadZ (kqX P Q s b a W f T w) x = ((addL (kqG P Q b W f T w) x).1,(⟨(addL (kqG P Q b W f T w) x).2,8,s,b,a,(addL (kqG P Q b W f T w) x).1 == 14⟩ : So)):=by
    unfold sadZ
    rw [if_neg (by simp [kqX])]; rfl
  by_cases hf : f = 0
  · subst hf
    right
    refine ⟨rfl,?_⟩
    obtain ⟨w',hl⟩:=lay_cut 0 (blkL (b + (W.length : Int) + 1) x (sizeN x.size)) ((P ++ Q) ++ frs (b + 1) W) (List.replicate (63 - (frs (b + 1) W).length) zeB) (blkS (b + (W.length : Int) + 1) x 0) T w hbz (by decide) (by simpa using blk_at (seq:=b + (W.length : Int) + 1) (d:=x) (k:=sizeN x.size) (i:=0) (by omega) [])
    rw [hbl,hPl] at hl
    have hl' : layD (kqD P Q b W 0 T w) (16 + (frs (b + 1) W).length) (blkL (b + (W.length : Int) + 1) x (sizeN x.size)) = _:=(congrArg (fun d =>layD d (16 + (frs (b + 1) W).length) (blkL (b + (W.length : Int) + 1) x (sizeN x.size))) hD).trans hl
    rw [hl',if_neg (by simp)] at hadd
    rw [hsad,show (kqX P Q s b a W 0 T w).g = kqG P Q b W 0 T w from rfl,hadd]
    have hrl : ∀ n,List.replicate (sizeN x.size - 0 - 1) zeB ++ List.replicate n zeB = List.replicate n zeB:=fun n =>by rw [hn1]; rfl
    rw [hrl]
    rcases cut_dead (· ≠ b + 1 + (W.length : Int)) (q:=b + (W.length : Int) + 1) (s:=x) (j:=0) (T:=T) (m:=63 - (frs (b + 1) W).length) (by omega) (by omega) hT (by omega) with g | ⟨g1,g2⟩
    · refine ⟨_,W,_,w',rfl,rfl,?_,.inl rfl,h.up hm,g,?_⟩
      · show (⟨_,true,0,T,w'⟩ : Dk) = kqV ..
        unfold kqV
        simp only [List.append_assoc]
      · simp only [List.take_zero,List.nil_append,List.length_cons,List.length_replicate]; omega
    · have hT63 : 63 ≤ T:=by
        rcases Nat.lt_or_ge T 63 with q | q
        · have:=torn_62 (blk_sz (seq:=b + (W.length : Int) + 1) (d:=x) (i:=0) (by omega)) (show T ≤ 62 by omega)
          rw [g2,(blk_62 (by omega) (by omega)).1] at this
          exact absurd this (ofNat_ne (by omega) (by omega))
        · exact q
      refine ⟨_,W ++ [x],List.replicate (63 - (frs (b + 1) W).length) zeB,w',rfl,rfl,?_,.inr ⟨rfl,hT63⟩,hI',Dd_ze _ _,?_⟩
      · show (⟨_,true,0,T,w'⟩ : Dk) = kqV ..
        unfold kqV
        rw [e1,g2]
        have : blkL (b + (W.length : Int) + 1) x (sizeN x.size) = [blkS (b + (W.length : Int) + 1) x 0]:=by rw [hn1]; rfl
        rw [this]
        simp only [List.append_assoc,List.take_zero,List.nil_append,List.singleton_append]
      · rw [e1,List.length_append,hbl,List.length_replicate]; omega
  · left
    refine ⟨hf,?_⟩
    obtain ⟨w',hl⟩:=lay_fu (blkL (b + (W.length : Int) + 1) x (sizeN x.size)) ((P ++ Q) ++ frs (b + 1) W) (List.replicate (63 - (frs (b + 1) W).length) zeB) f T w hbz h1 h2 (by rw [hbl]; omega)
    rw [hbl,hPl] at hl
    have hl' : layD (kqD P Q b W f T w) (16 + (frs (b + 1) W).length) (blkL (b + (W.length : Int) + 1) x (sizeN x.size)) = _:=(congrArg (fun d =>layD d (16 + (frs (b + 1) W).length) (blkL (b + (W.length : Int) + 1) x (sizeN x.size))) hD).trans hl
    rw [hl',if_pos rfl] at hadd
    rw [hsad,show (kqX P Q s b a W f T w).g = kqG P Q b W f T w from rfl,hadd]
    refine ⟨if f = -1 then -1 else f - (sizeN x.size : Nat),w',by split <;> omega,by split <;> omega,?_,rfl,hI'⟩
    have e2 : ((16 + (frs (b + 1) W).length : Nat) : Int) + (sizeN x.size : Int) = ((16 + (frs (b + 1) (W ++ [x])).length : Nat) : Int):=by rw [e1,List.length_append,hbl]; omega
    have e3 : ((P ++ Q) ++ frs (b + 1) W) ++ (blkL (b + (W.length : Int) + 1) x (sizeN x.size) ++ List.replicate (63 - (frs (b + 1) W).length) zeB) = lgL (P ++ Q) (frs (b + 1) (W ++ [x])) [] 64:=by
      unfold lgL
      rw [e1,List.length_append,hbl,hn1,show 64 - ((frs (b + 1) W).length + 1) = 63 - (frs (b + 1) W).length by omega]
      simp only [List.append_assoc,List.append_nil]
    rw [e2,e3]
    rfl
end Go.Proofs.YthapdikdeoeplaaGreatDoor.Z7
end
section
set_option linter.unusedVariables false
set_option linter.unnecessarySimpa false
open Go AH
set_option linter.unusedSimpArgs false
set_option maxRecDepth 100000
namespace Go.Proofs.YthapdikdeoeplaaGreatDoor.Z7
variable {P Q : List ByteArray} {s r : ByteArray} {b a q : Int} {W R : List ByteArray} {m : Nat} {f w : Int} {T : Nat}
theorem arL8_len {q : Int} {r : ByteArray} (h : sizeN r.size ≤ 8) : (arL q r 8).length = 8:=arL_len h
theorem area_fu {A O S : List ByteArray} (hO : O.length = 8) (hz : ∀ x ∈ O,x.size = 64) (hr : sizeN r.size ≤ 8) (h3 : r.size ≤ 6000) (h1 : -1 ≤ f) (h2 : f ≤ 1000) (hT : T ≤ 64) :
    (∃ f' w',-1 ≤ f' ∧ f' ≤ f ∧ areaZ ⟨A ++ (O ++ S),false,f,T,w⟩ 8 A.length (blkL q r (sizeN r.size)) = (0,⟨A ++ (arL q r 8 ++ S),false,f',T,w'⟩)) ∨
    (∃ O' w',areaZ ⟨A ++ (O ++ S),false,f,T,w⟩ 8 A.length (blkL q r (sizeN r.size)) = (14,⟨A ++ (O' ++ S),true,0,T,w'⟩) ∧ O'.length = 8 ∧ (O' = arL q r 8 ∨ ∀ p,Dd p O → Dd p O')):=by
  have hbl:=blkL_len q r (sizeN r.size)
  have hbz:=blkL_sz (q:=q) (s:=r) (n:=sizeN r.size) (Nat.le_refl _)
  have hn:=sizeN_pos r.size
  rcases wipe_fu O A S f w T hz h1 h2 with ⟨f',w',a1,a2,a3,e⟩ | ⟨hf,O',w',hd,e⟩
  · rw [hO] at e
    have e8 : List.replicate 8 zeB ++ S = List.replicate (blkL q r (sizeN r.size)).length zeB ++ (List.replicate (8 - sizeN r.size) zeB ++ S):=by
      rw [← List.append_assoc,List.replicate_append_replicate,hbl]
      congr 2; omega
    unfold areaZ
    rw [e,if_pos rfl,e8]
    by_cases hc : f' = -1 ∨ ((blkL q r (sizeN r.size)).length : Int) ≤ f'
    · left
      obtain ⟨w2,hl⟩:=lay_fu (blkL q r (sizeN r.size)) A (List.replicate (8 - sizeN r.size) zeB ++ S) f' T w' hbz a1 (by omega) hc
      refine ⟨if f' = -1 then -1 else f' - (blkL q r (sizeN r.size)).length,w2,by rw [hbl] at hc ⊢; split <;> omega,by split <;> omega,?_⟩
      show layD _ A.length _ = _
      rw [hl]
      unfold arL
      simp only [List.append_assoc]
    · right
      rw [hbl] at hc
      obtain ⟨j,rfl⟩:=Int.eq_ofNat_of_zero_le (show 0 ≤ f' by omega)
      have hj : j < sizeN r.size:=by omega
      obtain ⟨w2,hl⟩:=lay_cut j (blkL q r (sizeN r.size)) A (List.replicate (8 - sizeN r.size) zeB ++ S) (blkS q r j) T w' hbz (by omega) (by simpa using blk_at (seq:=q) (d:=r) (k:=sizeN r.size) (i:=j) hj [])
      have er : List.replicate ((blkL q r (sizeN r.size)).length - j - 1) zeB ++ (List.replicate (8 - sizeN r.size) zeB ++ S) = List.replicate (7 - j) zeB ++ S:=by
        rw [← List.append_assoc,List.replicate_append_replicate,hbl]
        congr 2; omega
      rw [er] at hl
      have hlen : ((blkL q r (sizeN r.size)).take j ++ (tornS (blkS q r j) T :: List.replicate (7 - j) zeB)).length = 8:=by
        rw [List.length_append,List.length_take,List.length_cons,List.length_replicate,hbl]; omega
      refine ⟨(blkL q r (sizeN r.size)).take j ++ (tornS (blkS q r j) T :: List.replicate (7 - j) zeB),w2,?_,hlen,?_⟩
      · show layD _ A.length _ = _
        rw [hl]
        simp only [List.append_assoc,List.cons_append]
      · by_cases hw : j + 1 = sizeN r.size ∧ tornS (blkS q r j) T = blkS q r j
        · left
          rw [hw.2,arL]
          have : blkL q r (sizeN r.size) = (blkL q r (sizeN r.size)).take j ++ [blkS q r j]:=by
            conv =>lhs; rw [← hw.1,blkL_succ]
            congr 1
            rw [← hw.1,blkL_succ,List.take_left' (blkL_len _ _ _)]
          conv =>rhs; rw [this]
          rw [List.append_assoc,show 8 - sizeN r.size = 7 - j by omega]; rfl
        · right
          intro p _
          exact (cut_dead p h3 hj hT (by omega)).resolve_right hw
  · rw [hO] at e
    right
    unfold areaZ
    rw [e,if_neg (by simp)]
    exact ⟨O',w',rfl,by rw [dirt_len hd,hO],.inr fun p hp =>hp.dirt hT hd⟩
theorem blk_cons (hn : 0 < sizeN s.size) : ∃ t,blkL b s (sizeN s.size) = blkS b s 0 :: t:=by
  obtain ⟨n,hn⟩ : ∃ n,sizeN s.size = n + 1:=⟨sizeN s.size - 1,by omega⟩
  refine ⟨((List.range n).map fun i =>blkS b s (i + 1)),?_⟩
  rw [hn,blkL,List.range_succ_eq_map]
  simp
theorem ar_old (h1 : 1 ≤ b) (h2 : b ≤ 2147483647) (hq : b < q) : Dd (· < q) (arL b s 8):=by
  refine ⟨arL_sz,fun t ht => ?_⟩
  obtain ⟨r,hr⟩:=blk_cons (b:=b) (sizeN_pos s.size)
  by_cases hb : (rdZ (tzL t (arL b s 8))).bad = -1
  · right
    rw [arL,hr] at hb ⊢
    simp only [List.cons_append,tzL] at hb ⊢
    have:=tz_q h1 h2 (sizeN_pos s.size) ht hb
    omega
  · exact .inl hb
theorem log_old (n : Nat) (h0 : 0 ≤ b) (h2 : b + (W.length : Int) ≤ 1000000) (hq : b + (W.length : Int) + 1 = q) : Dd (· ≠ q + 1 + (([] : List ByteArray).length : Int)) (frs (b + 1) W ++ List.replicate n zeB):=by
  refine ⟨fun x hx => ?_,fun t ht => ?_⟩
  · rcases List.mem_append.1 hx with h | h
    · exact frs_sz W _ x h
    · rw [(List.mem_replicate.1 h).2]; exact zeB_sz
  · cases W with
    | nil =>exact .inl ((Dd_ze (fun _ =>False) n).2 t ht |>.resolve_right fun h =>h)
    | cons x r =>
      obtain ⟨y,hy⟩:=blk_cons (b:=b + 1) (sizeN_pos x.size)
      by_cases hb : (rdZ (tzL t (frs (b + 1) (x :: r) ++ List.replicate n zeB))).bad = -1
      · right
        rw [List.length_cons] at h2 hq
        rw [frs,hy] at hb ⊢
        simp only [List.cons_append,tzL] at hb ⊢
        have:=tz_q (by omega) (by omega) (sizeN_pos x.size) ht hb
        show _ ≠ q + 1 + ((0 : Nat) : Int)
        omega
      · exact .inl hb
theorem ar_new {P' Q' : List ByteArray} (h : kqI P Q s b a W m) (hm : m < 50) (hr : r.size ≤ 8 * m) (hq : b + (W.length : Int) + 1 = q)
    (hc : (a = 0 ∧ P' = P ∧ Q' = arL q r 8) ∨ (a ≠ 0 ∧ P' = arL q r 8 ∧ Q' = Q)) : kqI P' Q' r q (if a = 0 then 1 else 0) [] (m + 1):=by
  have hb:=h.base
  have hbm:=h.bm
  have hm4:=h.m40
  have hs8 : sizeN r.size ≤ 8:=by unfold sizeN; omega
  have hb0:=hb.1
  have fin : ∀ {P' Q' : List ByteArray} {a' : Int},P'.length = 8 → Q'.length = 8 → (∀ x ∈ P',x.size = 64) → (∀ x ∈ Q',x.size = 64) → arD P' Q' r q a' → kqI P' Q' r q a' [] (m + 1):=fun g1 g2 g3 g4 g5 =>
    ⟨g1,g2,g3,g4,g5,by simp only [List.length_nil]; omega,Nat.zero_le _,(fun x hx =>by cases hx),by simp only [List.length_nil]; omega,by omega⟩
  rcases hc with ⟨ha,rfl,rfl⟩ | ⟨ha,rfl,rfl⟩
  · rw [if_pos ha]
    refine fin h.p (arL8_len hs8) h.pz arL_sz (.inr (.inr ⟨rfl,by omega,rfl,?_⟩))
    rcases h.ar with ⟨g,_⟩ | ⟨_,g1,g2,_⟩ | ⟨g,_⟩
    · omega
    · rw [g2]; exact ar_old g1 (by omega) (by omega)
    · omega
  · rw [if_neg ha]
    refine fin (arL8_len hs8) h.q arL_sz h.qz (.inr (.inl ⟨rfl,by omega,rfl,?_⟩))
    rcases h.ar with ⟨_,_,g1,_,g2⟩ | ⟨g,_⟩ | ⟨_,g1,g2,_⟩
    · exact g2.mono fun x (hx : x < 0) =>(by omega : x < q)
    · exact absurd g ha
    · rw [g2]; exact ar_old g1 (by omega) (by omega)
theorem ar_part {P' Q' O' : List ByteArray} (h : kqI P Q s b a W m) (hm : m < 50) (hl : O'.length = 8) (hO : (a = 0 ∧ P' = P ∧ Q' = O' ∧ ∀ p,Dd p Q → Dd p O') ∨ (a ≠ 0 ∧ P' = O' ∧ Q' = Q ∧ ∀ p,Dd p P → Dd p O')) : kqI P' Q' s b a W (m + 1):=by
  have hu:=h.up hm
  rcases hO with ⟨ha,rfl,rfl,hd⟩ | ⟨ha,rfl,rfl,hd⟩
  · have har : arD P' Q' s b a:=by
      rcases h.ar with ⟨g,_⟩ | ⟨g0,g1,g2,g3⟩ | ⟨g,_⟩
      · omega
      · exact .inr (.inl ⟨g0,g1,g2,hd _ g3⟩)
      · omega
    have hz : ∀ x ∈ Q',x.size = 64:=(hd (fun _ =>True) ⟨h.qz,fun t _ => .inr trivial⟩).1
    exact ⟨h.p,hl,h.pz,hz,har,hu.bm,hu.wm,hu.wz,hu.sz,hu.m40⟩
  · have har : arD P' Q' s b a:=by
      rcases h.ar with ⟨g0,g1,g2,g3,g4⟩ | ⟨g,_⟩ | ⟨g0,g1,g2,g3⟩
      · exact .inl ⟨g0,g1,g2,hd _ g3,g4⟩
      · exact absurd g ha
      · exact .inr (.inr ⟨g0,g1,g2,hd _ g3⟩)
    have hz : ∀ x ∈ P',x.size = 64:=(hd (fun _ =>True) ⟨h.pz,fun t _ => .inr trivial⟩).1
    exact ⟨hl,h.q,hz,h.qz,har,hu.bm,hu.wm,hu.wz,hu.sz,hu.m40⟩
theorem kq_keep (h : kqI P Q s b a W m) (hm : m < 50) (hr : r.size ≤ 8 * m) (h1 : -1 ≤ f) (h2 : f ≤ 1000) (hT : T ≤ 64) :
    (∃ P' Q' b' a' f' w',-1 ≤ f' ∧ f' ≤ 1000 ∧ keepZ (kqX P Q s b a W f T w) r = (0,kqX P' Q' r b' a' [] f' T w') ∧ kqI P' Q' r b' a' [] (m + 1)) ∨
    (∃ Y P' Q' s' b' a' W' R w',keepZ (kqX P Q s b a W f T w) r = (14,Y) ∧ Y.g.d = kqV P' Q' b' W' R true 0 T w' ∧ kqI P' Q' s' b' a' W' (m + 1) ∧ kqR b' W' R ∧ ((s' = s ∧ W' = W) ∨ (s' = r ∧ W' = []))):=by
  have hb:=h.base
  have hbm:=h.bm
  have hwm:=h.wm
  have hm4:=h.m40
  have hfl:=h.fl
  have hs8 : sizeN r.size ≤ 8:=by unfold sizeN; omega
  have hb0:=hb.1
  obtain ⟨q,hq⟩ : ∃ q,b + (W.length : Int) + 1 = q:=⟨_,rfl⟩
  have hseq : (kqX P Q s b a W f T w).seq + 1 = q:=hq
  have hS : ∀ P Q : List ByteArray,lgL (P ++ Q) (frs (b + 1) W) [] 64 = P ++ (Q ++ (frs (b + 1) W ++ List.replicate (64 - (frs (b + 1) W).length) zeB)):=fun P Q =>by
    unfold lgL; simp only [List.append_assoc,List.append_nil]
  -- the log behind the areas,where it is older
  have hold : ∀ {P' Q' : List ByteArray},kqR q [] (frs (b + 1) W ++ List.replicate (64 - (frs (b + 1) W).length) zeB):=fun {P' Q'} =>
    ⟨log_old _ hb0 (by omega) hq,by show 0 + _ = 64; rw [List.length_append,List.length_replicate]; omega⟩
  have hold:=hold (P':=[]) (Q':=[])
  -- where the area is laid
  have fin : ∀ {P' Q' : List ByteArray} {f' w1 : Int},-1 ≤ f' → f' ≤ 1000 → (P' ++ Q').length = 16 → kqI P' Q' r q (if a = 0 then 1 else 0) [] (m + 1) → keepY (kqX P Q s b a W f T w) r = (0,kqD P' Q' b W f' T w1) →
      (∃ P' Q' b' a' f' w',-1 ≤ f' ∧ f' ≤ 1000 ∧ keepZ (kqX P Q s b a W f T w) r = (0,kqX P' Q' r b' a' [] f' T w') ∧ kqI P' Q' r b' a' [] (m + 1)) ∨
      (∃ Y P' Q' s' b' a' W' R w',keepZ (kqX P Q s b a W f T w) r = (14,Y) ∧ Y.g.d = kqV P' Q' b' W' R true 0 T w' ∧ kqI P' Q' s' b' a' W' (m + 1) ∧ kqR b' W' R ∧ ((s' = s ∧ W' = W) ∨ (s' = r ∧ W' = []))):=by
    intro P' Q' f' w1 g1 g2 hl16 hI' hY
    have hw:=wipe_fu (frs (b + 1) W ++ List.replicate (64 - (frs (b + 1) W).length) zeB) (P' ++ Q') [] f' w1 T hold.1.1 g1 g2
    have hl64 : (frs (b + 1) W ++ List.replicate (64 - (frs (b + 1) W).length) zeB).length = 64:=by rw [List.length_append,List.length_replicate]; omega
    have hDe : kqD P' Q' b W f' T w1 = ⟨(P' ++ Q') ++ ((frs (b + 1) W ++ List.replicate (64 - (frs (b + 1) W).length) zeB) ++ []),false,f',T,w1⟩:=by
      unfold kqD lgL; simp only [List.append_assoc,List.append_nil]
    rw [hl64,hl16,← hDe] at hw
    have hR : keepR (kqX P Q s b a W f T w) r = if (wipeD (kqD P' Q' b W f' T w1) 64 16).1 = 0 then (0,{ kqG P Q b W f T w with d:=(wipeD (kqD P' Q' b W f' T w1) 64 16).2,b:=q,a:=16,R:=[] }) else
        ((wipeD (kqD P' Q' b W f' T w1) 64 16).1,{ kqG P Q b W f T w with d:=(wipeD (kqD P' Q' b W f' T w1) 64 16).2,down:=(wipeD (kqD P' Q' b W f' T w1) 64 16).1 == 14 }):=by
      unfold keepR
      rw [hseq,hY]
      unfold rstL
      rw [if_neg (by simp only [Classical.not_not]; exact ⟨by omega,by omega⟩),if_neg (by simp [kqX,kqG])]
      rfl
    have hz1 : ¬ ((sizeN r.size : Int) > (kqX P Q s b a W f T w).z ∨ (kqX P Q s b a W f T w).seq ≥ 1073741824):=by
      have c1 : (kqX P Q s b a W f T w).z = 8:=rfl
      rw [c1]
      omega
    have hK : keepZ (kqX P Q s b a W f T w) r = if (keepR (kqX P Q s b a W f T w) r).1 ≠ 0 then ((keepR (kqX P Q s b a W f T w) r).1,{ kqX P Q s b a W f T w with g:=(keepR (kqX P Q s b a W f T w) r).2,down:=true }) else
        (0,{ kqX P Q s b a W f T w with g:=(keepR (kqX P Q s b a W f T w) r).2,s:=r,b:=q,a:=if a = 0 then 1 else 0 }):=by
      unfold keepZ
      rw [if_neg hz1,if_neg (by simp [kqX]),hY,if_neg (by simp),hseq]
      rfl
    rcases hw with ⟨f2,w2,a1,a2,a3,e⟩ | ⟨hf,O',w2,hd,e⟩
    · left
      rw [e,if_pos rfl] at hR
      rw [hR,if_neg (by simp)] at hK
      refine ⟨P',Q',q,_,f2,w2,a1,by omega,?_,hI'⟩
      rw [hK]
      unfold kqX kqG kqD
      simp [frs,lgL]
    · right
      rw [e,if_neg (by simp)] at hR
      rw [hR,if_pos (by simp)] at hK
      refine ⟨_,P',Q',r,q,_,[],O',w2,hK,?_,hI',⟨hold.1.dirt hT hd,by rw [dirt_len hd]; exact hold.2⟩,.inr ⟨rfl,rfl⟩⟩
      show (⟨_,true,0,T,w2⟩ : Dk) = _
      simp only [kqV,frs,List.nil_append,List.append_nil]
  have hz1 : ¬ ((sizeN r.size : Int) > (kqX P Q s b a W f T w).z ∨ (kqX P Q s b a W f T w).seq ≥ 1073741824):=by
    have c1 : (kqX P Q s b a W f T w).z = 8:=rfl
    rw [c1]
    omega
  have hbad : ∀ {D : Dk},keepY (kqX P Q s b a W f T w) r = (14,D) → keepZ (kqX P Q s b a W f T w) r = (14,{ kqX P Q s b a W f T w with g:={ kqG P Q b W f T w with d:=D },down:=true }):=by
    intro D hY
    unfold keepZ
    rw [if_neg hz1,if_neg (by simp [kqX]),hY,if_pos (by simp)]
    rfl
  by_cases ha : a = 0
  · have hY : keepY (kqX P Q s b a W f T w) r = areaZ ⟨P ++ (Q ++ (frs (b + 1) W ++ List.replicate (64 - (frs (b + 1) W).length) zeB)),false,f,T,w⟩ 8 P.length (blkL q r (sizeN r.size)):=by
      unfold keepY
      rw [hseq,h.p,← hS]
      show areaZ _ 8 (if a = 0 then 8 else 0) _ = _
      rw [if_pos ha]; rfl
    rcases area_fu (A:=P) (O:=Q) (S:=frs (b + 1) W ++ List.replicate (64 - (frs (b + 1) W).length) zeB) (q:=q) (r:=r) (f:=f) (w:=w) h.q h.qz hs8 (by omega) h1 h2 hT with ⟨f',w',a1,a2,e⟩ | ⟨O',w',e,hl,hO⟩
    · refine fin (P':=P) (Q':=arL q r 8) a1 (by omega) (by rw [List.length_append,h.p,arL8_len hs8]) (ar_new h hm hr hq (.inl ⟨ha,rfl,rfl⟩)) (w1:=w') ?_
      rw [hY,e]
      unfold kqD; rw [hS]
    · right
      have hK:=hbad (hY.trans e)
      rcases hO with rfl | hO
      · refine ⟨_,P,arL q r 8,r,q,_,[],_,w',hK,?_,ar_new h hm hr hq (.inl ⟨ha,rfl,rfl⟩),hold,.inr ⟨rfl,rfl⟩⟩
        show (⟨_,true,0,T,w'⟩ : Dk) = _
        simp only [kqV,frs,List.nil_append,List.append_assoc]
      · refine ⟨_,P,O',s,b,a,W,_,w',hK,?_,ar_part h hm hl (.inl ⟨ha,rfl,rfl,hO⟩),kqR_ze h,.inl ⟨rfl,rfl⟩⟩
        show (⟨_,true,0,T,w'⟩ : Dk) = _
        simp only [kqV,List.append_assoc]
  · have hY : keepY (kqX P Q s b a W f T w) r = areaZ ⟨[] ++ (P ++ (Q ++ (frs (b + 1) W ++ List.replicate (64 - (frs (b + 1) W).length) zeB))),false,f,T,w⟩ 8 ([] : List ByteArray).length (blkL q r (sizeN r.size)):=by
      unfold keepY
      rw [hseq,List.nil_append,← hS]
      show areaZ _ 8 (if a = 0 then 8 else 0) _ = _
      rw [if_neg ha]; rfl
    rcases area_fu (A:=[]) (O:=P) (S:=Q ++ (frs (b + 1) W ++ List.replicate (64 - (frs (b + 1) W).length) zeB)) (q:=q) (r:=r) (f:=f) (w:=w) h.p h.pz hs8 (by omega) h1 h2 hT with ⟨f',w',a1,a2,e⟩ | ⟨O',w',e,hl,hO⟩
    · refine fin (P':=arL q r 8) (Q':=Q) a1 (by omega) (by rw [List.length_append,h.q,arL8_len hs8]) (ar_new h hm hr hq (.inr ⟨ha,rfl,rfl⟩)) (w1:=w') ?_
      rw [hY,e]
      unfold kqD; rw [hS]; rfl
    · right
      have hK:=hbad (hY.trans e)
      rcases hO with rfl | hO
      · refine ⟨_,arL q r 8,Q,r,q,_,[],_,w',hK,?_,ar_new h hm hr hq (.inr ⟨ha,rfl,rfl⟩),hold,.inr ⟨rfl,rfl⟩⟩
        show (⟨_,true,0,T,w'⟩ : Dk) = _
        simp only [kqV,frs,List.nil_append,List.append_assoc]
      · refine ⟨_,O',Q,s,b,a,W,_,w',hK,?_,ar_part h hm hl (.inr ⟨ha,rfl,rfl,hO⟩),kqR_ze h,.inl ⟨rfl,rfl⟩⟩
        show (⟨_,true,0,T,w'⟩ : Dk) = _
        simp only [kqV,List.append_assoc,List.nil_append]
end Go.Proofs.YthapdikdeoeplaaGreatDoor.Z7
end
section
set_option linter.unusedVariables false
set_option linter.unnecessarySimpa false
open Go AH
set_option linter.unusedSimpArgs false
set_option maxRecDepth 100000
namespace Go.Proofs.YthapdikdeoeplaaGreatDoor.Z7
end Go.Proofs.YthapdikdeoeplaaGreatDoor.Z7
end
section
set_option linter.unusedVariables false
set_option linter.unnecessarySimpa false
open Go AH
set_option linter.unusedSimpArgs false
set_option maxRecDepth 100000
namespace Go.Proofs.YthapdikdeoeplaaGreatDoor.Z7
def vfC {α : Type} (k : Nat) (c : Cod α) (p : List α → Prop) [DecidablePred p] (f : List α → AV) : VF:=fun args rows =>match args,rows with
  | [.slc 0 0 n none],[(k',es)] =>match c.decL es with
    | some L =>if k' = k ∧ n = L.length ∧ p L then some (f L) else none
    | none =>none
  | _,_ =>none
theorem vfC_ok {α : Type} {g : FuncId} {k : Nat} {c : Cod α} {p : List α → Prop} [DecidablePred p] {f : List α → AV} (he : S0.errs ≠ []) (h : ∀ L,p L → (f L).lt 0 = true ∧ CallA1 S0 g [.slc 0 0 L.length none] [some (.row true k (L.map c.enc))] fun r _ =>r = f L) :
    ReadF S0 g (rtV [k] (vfC k c p f)):=by
  refine rtV_ok he fun args rows v e => ?_
  unfold vfC at e
  split at e
  · rename_i n k' es
    split at e
    · rename_i L hL
      split at e
      · rename_i hc
        simp only [Option.some.injEq] at e
        subst e
        obtain ⟨rfl,rfl,h3⟩:=hc
        have:=c.decL_ok hL
        subst this
        exact h L h3
      · cases e
    · cases e
  · cases e
theorem vfC_eq {α : Type} {k : Nat} {c : Cod α} {p : List α → Prop} [DecidablePred p] {f : List α → AV} {id ix n : Nat} {cap : Option Nat} {M : Nat → Option Blk} {es : List (List AV)} {l : List α} (hM : rowE M id = some (k,es)) (hs : (es.drop ix).take n = l.map c.enc) (hle : ix + n ≤ es.length) (hp : p l) :
    rtV [k] (vfC k c p f) [.slc id ix n cap] M = some (f l,[id]):=by
  obtain ⟨ro,hM⟩:=rowE_some hM
  have hn : n = l.length:=by
    have:=congrArg List.length hs
    rw [List.length_take,List.length_drop,List.length_map] at this
    omega
  have hv : vw M [k] [.slc id ix n cap] 0 = some ([.slc 0 0 n none],[(k,l.map c.enc)],[id]):=by
    simp only [vw,hM,beq_self_eq_true,hle,decide_true,hs,c.all_flat,Bool.and_self,cond_true,Option.map_some]
  simp only [rtV,hv,useV,vfC,c.decL_map]
  subst hn
  simp [hp]
end Go.Proofs.YthapdikdeoeplaaGreatDoor.Z7
end
section
set_option linter.unusedVariables false
set_option linter.unnecessarySimpa false
open Go AH
namespace Go.Proofs.YthapdikdeoeplaaGreatDoor.Z7
-- quitrent/quitrentref06.Parts
def F33 : AFun:=⟨18,1,[.tmp 2],(.seq (.reg [⟨some 2,none,.mov (.c (.str ⟨#[]⟩))⟩]) (.seq (.reg [⟨some 3,none,.mov (.c (.str ⟨#[]⟩))⟩]) (.seq (.seq (.reg [⟨some 4,none,.mov (.c (.int .i64 0))⟩]) (.block 0 (.loop (.seq (.seq (.reg [⟨some 5,none,.mov (.t 4)⟩,⟨some 6,none,.mov (.t 0)⟩,⟨some 7,none,.len .sl (.t 6)⟩,⟨some 8,none,.ibin .lss (.t 5) (.t 7)⟩]) (.cond (.t 8) .skip (.exit 0))) (.seq (.block 1 (.reg [⟨some 11,none,.mov (.t 3)⟩,⟨some 12,none,.mov (.t 0)⟩,⟨some 13,none,.mov (.t 4)⟩,⟨some 14,none,.iaddrSl 1 (.t 12) (.t 13)⟩,⟨some 15,none,.load false 1 (.t 14)⟩,⟨some 16,none,.ibin .add (.t 11) (.t 15)⟩,⟨some 3,none,.mov (.t 16)⟩])) (.reg [⟨some 9,none,.mov (.t 4)⟩,⟨some 10,none,.ibin .add (.t 9) (.c (.int .i64 1))⟩,⟨some 4,none,.mov (.t 10)⟩])))))) (.seq (.reg [⟨some 17,none,.mov (.t 3)⟩,⟨some 2,none,.mov (.t 17)⟩]) .ret))))⟩
-- quitrent/quitrentlaw07.same
def F37 : AFun:=⟨26,2,[.tmp 4],(.seq (.reg [⟨some 4,none,.mov (.c (.bool false))⟩]) (.seq (.seq (.reg [⟨some 6,none,.mov (.t 0)⟩,⟨some 7,none,.len .sl (.t 6)⟩,⟨some 8,none,.mov (.t 1)⟩,⟨some 9,none,.len .sl (.t 8)⟩,⟨some 10,none,.ibin .neq (.t 7) (.t 9)⟩]) (.cond (.t 10) (.seq (.reg [⟨some 4,none,.mov (.c (.bool false))⟩]) .ret) .skip)) (.seq (.seq (.reg [⟨some 5,none,.mov (.c (.int .i64 0))⟩]) (.block 0 (.loop (.seq (.seq (.reg [⟨some 11,none,.mov (.t 5)⟩,⟨some 12,none,.mov (.t 0)⟩,⟨some 13,none,.len .sl (.t 12)⟩,⟨some 14,none,.ibin .lss (.t 11) (.t 13)⟩]) (.cond (.t 14) .skip (.exit 0))) (.seq (.block 1 (.seq (.draw [⟨some 17,none,.mov (.t 0)⟩,⟨some 18,none,.mov (.t 5)⟩,⟨some 19,none,.iaddrSl 1 (.t 17) (.t 18)⟩,⟨some 20,none,.load false 1 (.t 19)⟩,⟨some 21,none,.mov (.t 1)⟩,⟨some 22,none,.mov (.t 5)⟩,⟨some 23,none,.iaddrSl 1 (.t 21) (.t 22)⟩,⟨some 24,none,.load false 1 (.t 23)⟩,⟨some 25,none,.ibin .neq (.t 20) (.t 24)⟩] [[],[],[0,1],[2,0,1],[],[],[4,5],[6,4,5],[3,7,2,0,1,6,4,5]]) (.cond (.t 25) (.seq (.reg [⟨some 4,none,.mov (.c (.bool false))⟩]) .ret) .skip))) (.reg [⟨some 15,none,.mov (.t 5)⟩,⟨some 16,none,.ibin .add (.t 15) (.c (.int .i64 1))⟩,⟨some 5,none,.mov (.t 16)⟩])))))) (.seq (.reg [⟨some 4,none,.mov (.c (.bool true))⟩]) .ret))))⟩
-- quitrent/quitrentlaw07.awake
def F23 : AFun:=⟨69,0,[.tmp 0],(.seq (.reg [⟨some 0,none,.mov (.c (.bool false))⟩]) (.seq (.reg [⟨some 10,none,.call (.c (.fn 24 [] [])) [(.c (.int .i64 20))]⟩,⟨some 1,none,.mov (.t 10)⟩]) (.seq (.reg [⟨some 12,none,.mov (.t 1)⟩,⟨some 13,none,.call (.c (.fn 25 [] [])) [(.t 12),(.c (.int .i64 3))]⟩,⟨some 11,none,.mov (.t 13)⟩,⟨some 14,none,.extract (.t 11) 0⟩,⟨some 15,none,.extract (.t 11) 1⟩,⟨some 2,none,.mov (.t 14)⟩,⟨some 3,none,.mov (.t 15)⟩]) (.seq (.seq (.reg [⟨some 16,none,.mov (.t 3)⟩,⟨some 17,none,.eq true .iface true (.t 16) (.c .nili)⟩,⟨some 18,none,.mov (.t 17)⟩,⟨some 19,(some (18,false)),.mov (.t 2)⟩,⟨some 20,(some (18,false)),.eq false .ptr true (.t 19) (.c .nilp)⟩,⟨some 21,none,.pick (.t 18) (.c (.bool true)) (.t 20)⟩]) (.cond (.t 21) (.seq (.reg [⟨some 0,none,.mov (.c (.bool false))⟩]) .ret) .skip)) (.seq (.reg [⟨some 22,none,.mov (.t 2)⟩,⟨some 23,none,.call (.c (.fn 29 [] [])) [(.t 22),(.c (.str ⟨#[111,110,101]⟩))]⟩,⟨some 4,none,.mov (.t 23)⟩]) (.seq (.reg [⟨some 24,none,.mov (.t 2)⟩,⟨some 25,none,.call (.c (.fn 29 [] [])) [(.t 24),(.c (.str ⟨#[116,119,111]⟩))]⟩,⟨some 5,none,.mov (.t 25)⟩]) (.seq (.reg [⟨some 26,none,.mov (.t 2)⟩,⟨some 27,none,.call (.c (.fn 27 [] [])) [(.t 26),(.c (.str ⟨#[98,111,116,104]⟩))]⟩,⟨some 6,none,.mov (.t 27)⟩]) (.seq (.reg [⟨some 28,none,.mov (.t 2)⟩,⟨some 29,none,.call (.c (.fn 29 [] [])) [(.t 28),(.c (.str ⟨#[116,104,114,101,101]⟩))]⟩,⟨some 7,none,.mov (.t 29)⟩]) (.seq (.reg [⟨some 31,none,.mov (.t 1)⟩,⟨some 32,none,.call (.c (.fn 25 [] [])) [(.t 31),(.c (.int .i64 3))]⟩,⟨some 30,none,.mov (.t 32)⟩,⟨some 33,none,.extract (.t 30) 0⟩,⟨some 34,none,.extract (.t 30) 1⟩,⟨some 8,none,.mov (.t 33)⟩,⟨some 9,none,.mov (.t 34)⟩]) (.seq (.reg [⟨some 35,none,.mov (.t 4)⟩,⟨some 36,none,.eq false .iface true (.t 35) (.c .nili)⟩,⟨some 37,none,.mov (.t 36)⟩,⟨some 38,(some (37,true)),.mov (.t 5)⟩,⟨some 39,(some (37,true)),.eq false .iface true (.t 38) (.c .nili)⟩,⟨some 40,none,.pick (.t 37) (.t 39) (.c (.bool false))⟩,⟨some 41,none,.mov (.t 40)⟩,⟨some 42,(some (41,true)),.mov (.t 6)⟩,⟨some 43,(some (41,true)),.eq false .iface true (.t 42) (.c .nili)⟩,⟨some 44,none,.pick (.t 41) (.t 43) (.c (.bool false))⟩,⟨some 45,none,.mov (.t 44)⟩,⟨some 46,(some (45,true)),.mov (.t 7)⟩,⟨some 47,(some (45,true)),.eq false .iface true (.t 46) (.c .nili)⟩,⟨some 48,none,.pick (.t 45) (.t 47) (.c (.bool false))⟩,⟨some 49,none,.mov (.t 48)⟩,⟨some 50,(some (49,true)),.mov (.t 9)⟩,⟨some 51,(some (49,true)),.eq false .iface true (.t 50) (.c .nili)⟩,⟨some 52,none,.pick (.t 49) (.t 51) (.c (.bool false))⟩,⟨some 53,none,.mov (.t 52)⟩,⟨some 54,(some (53,true)),.mov (.t 8)⟩,⟨some 55,(some (53,true)),.call (.c (.fn 32 [] [])) [(.t 54)]⟩,⟨some 56,(some (53,true)),.ibin .eql (.t 55) (.c (.str ⟨#[98,111,116,104]⟩))⟩,⟨some 57,none,.pick (.t 53) (.t 56) (.c (.bool false))⟩,⟨some 58,none,.mov (.t 57)⟩,⟨some 59,(some (58,true)),.mov (.t 8)⟩,⟨some 60,(some (58,true)),.call (.c (.fn 34 [] [])) [(.t 59)]⟩,⟨some 61,(some (58,true)),.bslice 1 1 [(.str ⟨#[]⟩)] [(0,1,(.c (.str ⟨#[116,104,114,101,101]⟩)))]⟩,⟨some 62,(some (58,true)),.call (.c (.fn 37 [] [])) [(.t 60),(.t 61)]⟩,⟨some 63,none,.pick (.t 58) (.t 62) (.c (.bool false))⟩,⟨some 64,none,.mov (.t 63)⟩,⟨some 65,(some (64,true)),.mov (.t 8)⟩,⟨some 66,(some (64,true)),.call (.c (.fn 38 [] [])) [(.t 65)]⟩,⟨some 67,(some (64,true)),.ibin .eql (.t 66) (.c (.int .i64 4))⟩,⟨some 68,none,.pick (.t 64) (.t 67) (.c (.bool false))⟩,⟨some 0,none,.mov (.t 68)⟩]) .ret))))))))))⟩
theorem c33 : cFun Tryz.prog [1,0,2,3,4,5,6,7,8,9,10,11,12,13] Tryz.f33 = some F33:=by kernel_rfl
theorem c37 : cFun Tryz.prog [1,0,2,3,4,5,6,7,8,9,10,11,12,13] Tryz.f37 = some F37:=by kernel_rfl
theorem c23 : cFun Tryz.prog [1,0,2,3,4,5,6,7,8,9,10,11,12,13] Tryz.f23 = some F23:=by kernel_rfl
end Go.Proofs.YthapdikdeoeplaaGreatDoor.Z7
end
section
set_option linter.unusedVariables false
set_option linter.unnecessarySimpa false
open Go AH
set_option linter.unusedSimpArgs false
set_option maxRecDepth 100000
namespace Go.Proofs.YthapdikdeoeplaaGreatDoor.Z7
def joSt (L : List ByteArray) (i : Nat) : St:=⟨[(4,.int .i64 i),(3,.str (catS (L.take i))),(0,.slc 0 0 L.length none)],[some (.row true 1 (L.map strC))]⟩
theorem ljoined_ok (L : List ByteArray) (h : okJ L) : CallA1 S0 33 [.slc 0 0 L.length none] [some (.row true 1 (L.map strC))] fun r _ =>r = .str (catS L):=by
  have hl:=h.2
  refine fun_sound okL0 Tryz.func33 c33 ?_
  unfold wpF F33
  simp only [AH.SD,AH.SE,AOp.call?,AOp.next?,bstep,AV.cells,unAV,binAV,retQ,retV,AH.sliceElems,AH.bytesOf,AH.strOp,AH.bound,AH.missQ,AH.minmaxAV,AH.readOf,AH.effOf,simprocAttr]
  refine loop_do [0] [4,3,0] [] (α:=Nat) (fun i =>L.length - i) (joSt L) (fun i =>i ≤ L.length) 0 (Nat.zero_le _) (by simp only [AH.SD,AH.SE,AOp.call?,AOp.next?,bstep,AV.cells,unAV,binAV,retQ,retV,AH.sliceElems,AH.bytesOf,AH.strOp,AH.bound,AH.missQ,AH.minmaxAV,AH.readOf,AH.effOf,simprocAttr,AH.SP,AH.PD,AV.inB,vstep,joSt,List.take_zero,catS_nil]) ?_
  intro X i hi ih
  simp only [AH.SD,AH.SE,AOp.call?,AOp.next?,bstep,AV.cells,unAV,binAV,retQ,retV,AH.sliceElems,AH.bytesOf,AH.strOp,AH.bound,AH.missQ,AH.minmaxAV,AH.readOf,AH.effOf,simprocAttr,joSt]
  refine ⟨fun hlt => ?_,fun hlt => ?_⟩
  · have hil:=lt_of_dec hlt
    have wi:=wrapS (i:=i) (by omega)
    have done:=ih (i + 1) hil (by omega)
    have h1:=catS_le (L:=L.take i) (m:=1048576) fun s hs =>h.1 s (List.mem_of_mem_take hs)
    rw [List.length_take] at h1
    have h2:=h.1 _ (List.getElem_mem hil)
    have h3 : (min i L.length) * 1048576 ≤ 1048576 * 1048576:=Nat.mul_le_mul_right _ (by omega)
    simp only [joSt,List.take_succ_eq_append_getElem hil,catS_snoc] at done
    simp only [AH.SD,AH.SE,AOp.call?,AOp.next?,bstep,AV.cells,unAV,binAV,retQ,retV,AH.sliceElems,AH.bytesOf,AH.strOp,AH.bound,AH.missQ,AH.minmaxAV,AH.readOf,AH.effOf,simprocAttr,getD_enc,hil,strC_eq,imax,Int.toNat_natCast,List.length_map,wi]
    repeat (refine ⟨by first | rfl | decide | omega | (simp only [List.length_map,List.length_set,and_true]; omega),?_⟩)
    try simp only [AH.SD,AH.SE,AOp.call?,AOp.next?,bstep,AV.cells,unAV,binAV,retQ,retV,AH.sliceElems,AH.bytesOf,AH.strOp,AH.bound,AH.missQ,AH.minmaxAV,AH.readOf,AH.effOf,simprocAttr,wi]
    refine gc_auto [0] [4,3,0] [] ?_
    simp only [AH.SD,AH.SE,AOp.call?,AOp.next?,bstep,AV.cells,unAV,binAV,retQ,retV,AH.sliceElems,AH.bytesOf,AH.strOp,AH.bound,AH.missQ,AH.minmaxAV,AH.readOf,AH.effOf,simprocAttr,AH.SP,AH.PD,AV.inB,vstep]
    exact done
  · have hil:=ge_of_dec hlt
    obtain rfl : i = L.length:=by omega
    simp only [AH.SD,AH.SE,AOp.call?,AOp.next?,bstep,AV.cells,unAV,binAV,retQ,retV,AH.sliceElems,AH.bytesOf,AH.strOp,AH.bound,AH.missQ,AH.minmaxAV,AH.readOf,AH.effOf,simprocAttr,List.take_length]
    try trivial
def joT : RT:=rtV [1] (vfC 1 cStr okJ fun L => .str (catS L))
theorem joT_ok : ReadF S0 33 joT:=vfC_ok errs0 fun L h =>⟨rfl,ljoined_ok L h⟩
theorem joT_eq {L : List ByteArray} {id ix n : Nat} {cap : Option Nat} {M : Nat → Option Blk} {es : List (List AV)} (hM : rowE M id = some (1,es)) (hs : (es.drop ix).take n = L.map strC) (hle : ix + n ≤ es.length) (h : okJ L) : joT [.slc id ix n cap] M = some (.str (catS L),[id]):=vfC_eq (c:=cStr) hM hs hle h
def saSt (L1 L2 : List ByteArray) (i : Nat) : St:=⟨[(5,.int .i64 i),(1,.slc 1 0 L2.length none),(0,.slc 0 0 L1.length none)],[some (.row true 1 (L1.map strC)),some (.row true 1 (L2.map strC))]⟩
theorem lsame_ok (L1 L2 : List ByteArray) (h1 : L1.length ≤ 1048576) (h2 : L2.length ≤ 1048576) : CallA1 S0 37 [.slc 0 0 L1.length none,.slc 1 0 L2.length none] [some (.row true 1 (L1.map strC)),some (.row true 1 (L2.map strC))] fun r _ =>r = .bool (decide (L1 = L2)):=by
  refine fun_sound okL0 Tryz.func37 c37 ?_
  unfold wpF F37
  cases hn : ((L1.length : Int) != (L2.length : Int))
  rotate_left
  · have e : decide (L1 = L2) = false:=decide_eq_false fun q =>by rw [q] at hn; simp at hn
    simp only [AH.SD,AH.SE,AOp.call?,AOp.next?,bstep,AV.cells,unAV,binAV,retQ,retV,AH.sliceElems,AH.bytesOf,AH.strOp,AH.bound,AH.missQ,AH.minmaxAV,AH.readOf,AH.effOf,simprocAttr,hn,e]
  have hn' : L1.length = L2.length:=by
    simp only [bne_eq_false_iff_eq] at hn; omega
  simp only [AH.SD,AH.SE,AOp.call?,AOp.next?,bstep,AV.cells,unAV,binAV,retQ,retV,AH.sliceElems,AH.bytesOf,AH.strOp,AH.bound,AH.missQ,AH.minmaxAV,AH.readOf,AH.effOf,simprocAttr,hn]
  refine loop_do [0,1] [5,1,0] [] (α:=Nat) (fun i =>L1.length - i) (saSt L1 L2) (fun i =>i ≤ L1.length ∧ L1.take i = L2.take i) 0 ⟨Nat.zero_le _,rfl⟩ (by simp only [AH.SD,AH.SE,AOp.call?,AOp.next?,bstep,AV.cells,unAV,binAV,retQ,retV,AH.sliceElems,AH.bytesOf,AH.strOp,AH.bound,AH.missQ,AH.minmaxAV,AH.readOf,AH.effOf,simprocAttr,AH.SP,AH.PD,AV.inB,vstep,saSt]) ?_
  rintro X i ⟨hi,hq⟩ ih
  simp only [AH.SD,AH.SE,AOp.call?,AOp.next?,bstep,AV.cells,unAV,binAV,retQ,retV,AH.sliceElems,AH.bytesOf,AH.strOp,AH.bound,AH.missQ,AH.minmaxAV,AH.readOf,AH.effOf,simprocAttr,saSt]
  refine ⟨fun hlt => ?_,fun hlt => ?_⟩
  · have hil:=lt_of_dec hlt
    have hi2 : i < L2.length:=by omega
    have wi:=wrapS (i:=i) (by omega)
    by_cases he : L1[i] = L2[i]
    · have done:=ih (i + 1) ⟨hil,by rw [List.take_succ_eq_append_getElem hil,List.take_succ_eq_append_getElem hi2,hq,he]⟩ (by omega)
      simp only [saSt] at done
      simp only [AH.SD,AH.SE,AOp.call?,AOp.next?,bstep,AV.cells,unAV,binAV,retQ,retV,AH.sliceElems,AH.bytesOf,AH.strOp,AH.bound,AH.missQ,AH.minmaxAV,AH.readOf,AH.effOf,simprocAttr,getD_enc,hil,hi2,strC_eq,Int.toNat_natCast,List.length_map,he,tl_self,Bool.not_true]
      repeat (refine ⟨by first | rfl | decide | omega | (simp only [List.length_map,List.length_set,and_true]; omega),?_⟩)
      try simp only [AH.SD,AH.SE,AOp.call?,AOp.next?,bstep,AV.cells,unAV,binAV,retQ,retV,AH.sliceElems,AH.bytesOf,AH.strOp,AH.bound,AH.missQ,AH.minmaxAV,AH.readOf,AH.effOf,simprocAttr,wi]
      refine gc_auto [0,1] [5,1,0] [] ?_
      simp only [AH.SD,AH.SE,AOp.call?,AOp.next?,bstep,AV.cells,unAV,binAV,retQ,retV,AH.sliceElems,AH.bytesOf,AH.strOp,AH.bound,AH.missQ,AH.minmaxAV,AH.readOf,AH.effOf,simprocAttr,AH.SP,AH.PD,AV.inB,vstep]
      exact done
    · have e : decide (L1 = L2) = false:=decide_eq_false fun q =>by subst q; exact he rfl
      simp only [AH.SD,AH.SE,AOp.call?,AOp.next?,bstep,AV.cells,unAV,binAV,retQ,retV,AH.sliceElems,AH.bytesOf,AH.strOp,AH.bound,AH.missQ,AH.minmaxAV,AH.readOf,AH.effOf,simprocAttr,getD_enc,hil,hi2,strC_eq,Int.toNat_natCast,List.length_map,tl_ne he,Bool.not_false,e]
      repeat (refine ⟨by first | rfl | decide | omega | (simp only [List.length_map,List.length_set,and_true]; omega),?_⟩)
      try trivial
  · have hil:=ge_of_dec hlt
    obtain rfl : i = L1.length:=by omega
    have e : decide (L1 = L2) = true:=decide_eq_true (by rw [List.take_length,hn',List.take_length] at hq; exact hq)
    simp only [AH.SD,AH.SE,AOp.call?,AOp.next?,bstep,AV.cells,unAV,binAV,retQ,retV,AH.sliceElems,AH.bytesOf,AH.strOp,AH.bound,AH.missQ,AH.minmaxAV,AH.readOf,AH.effOf,simprocAttr,e]
    try trivial
def saT : RT:=rt2 1 1 cStr cStr c0 fun L1 L2 _ => .bool (decide (L1 = L2))
theorem saT_ok : ReadF S0 37 saT:=rt2_ok errs0 fun L1 L2 _ h1 h2 =>⟨rfl,lsame_ok L1 L2 h1 h2⟩
theorem saT_p {i j n1 n2 : Nat} {p1 p2 : Option Nat} {M : Nat → Option Blk} : saT [.slc i 0 n1 p1,.slc j 0 n2 p2] M = rt2Q 1 1 cStr cStr (fun L1 L2 (_ : Unit) => .bool (decide (L1 = L2))) n1 i n2 j (M i) (M j) (some ()):=rfl
theorem saQ_eq {i j n1 n2 : Nat} {r1 r2 : Bool} {L1 L2 : List ByteArray} (h1 : n1 = L1.length) (h2 : n2 = L2.length) (h3 : L1.length ≤ 1048576) (h4 : L2.length ≤ 1048576) : rt2Q 1 1 cStr cStr (fun L1 L2 (_ : Unit) => .bool (decide (L1 = L2))) n1 i n2 j (some (.row r1 1 (L1.map strC))) (some (.row r2 1 (L2.map strC))) (some ()) = some (.bool (decide (L1 = L2)),[i,j]):=by
  subst h1 h2
  exact rt2Q_eq (c1:=cStr) (c2:=cStr) h3 h4
end Go.Proofs.YthapdikdeoeplaaGreatDoor.Z7
end
section
set_option linter.unusedVariables false
set_option linter.unnecessarySimpa false
open Go AH
set_option linter.unusedSimpArgs false
set_option maxRecDepth 100000
namespace Go.Proofs.YthapdikdeoeplaaGreatDoor.Z7
noncomputable abbrev tSh : List (FuncId × RT):=[(25,sopN),(32,stateT),(38,seqT),(34,srecN),(29,sadN),(37,saT)]
noncomputable abbrev eSh : List (FuncId × ET):=[(24,newT),(25,sopT),(34,srecT),(29,sadT),(27,keepT)]
theorem tSh_ok : AllF S0 tSh:=⟨sopN_ok,stateT_ok,seqT_ok,srecN_ok,sadN_ok,saT_ok,trivial⟩
theorem eSh_ok : AllE S0 eSh:=⟨newT_ok,sopT_ok,srecT_ok,sadT_ok,keepT_ok,trivial⟩
theorem okSh0 : CtxOK S0 (ctxE S0 tSh [] eSh):=ctxE_ok tSh_ok trivial eSh_ok mixed
theorem rep3 (Z n : Nat) : List.replicate (2 * Z + n) zeB = lgL (List.replicate Z zeB ++ List.replicate Z zeB) (frs (0 + 1) []) [] n:=by
  simp only [lgL,frs,List.length_nil,Nat.sub_zero,List.nil_append,List.append_nil,List.replicate_append_replicate]
  congr 1; omega
theorem newSt {Z n : Nat} (h : 2 * Z + n ≤ 4096) : newD ((2 * Z + n : Nat) : Int) = stD (List.replicate Z zeB) (List.replicate Z zeB) 0 [] n 0:=by
  rw [newD_rep h,rep3]; rfl
theorem stI_0 {Z n : Nat} (h1 : 1 ≤ Z) (h2 : Z ≤ 100) (h3 : 0 < n) (h4 : n ≤ 3000) : stI (List.replicate Z zeB) (List.replicate Z zeB) ⟨#[]⟩ 0 (-1) [] n Z :=
  ⟨by simp,by simp,h1,h2,h3,h4,fun x hx =>by rw [(List.mem_replicate.1 hx).2]; exact zeB_sz,fun x hx =>by rw [(List.mem_replicate.1 hx).2]; exact zeB_sz,by decide,.inl ⟨rfl,rfl,rfl,rdZ_zes _,rdZ_zes _⟩,Nat.zero_le _,fun x hx =>by cases hx⟩
theorem stX_eta (P Q : List ByteArray) (s : ByteArray) (b a : Int) (W : List ByteArray) (n : Nat) (w : Int) : (⟨(stX P Q s b a W n w).g.d,(stX P Q s b a W n w).g.f,(stX P Q s b a W n w).g.t,(stX P Q s b a W n w).g.b,(stX P Q s b a W n w).g.a,(stX P Q s b a W n w).g.R,false⟩ : Lg) = (stX P Q s b a W n w).g:=rfl
def oneS : ByteArray:=⟨#[111,110,101]⟩
def twoS : ByteArray:=⟨#[116,119,111]⟩
def bothS : ByteArray:=⟨#[98,111,116,104]⟩
def threeS : ByteArray:=⟨#[116,104,114,101,101]⟩
theorem sm_1 {i j n1 : Nat} {r1 r2 : Bool} {L1 : List ByteArray} {x : ByteArray} (h1 : n1 = L1.length) (h3 : L1.length ≤ 1048576) (hL : L1 = [x]) : rt2Q 1 1 cStr cStr (fun L1 L2 (_ : Unit) => .bool (decide (L1 = L2))) n1 i 1 j (some (.row r1 1 (L1.map strC))) (some (.row r2 1 [[.str x]])) (some ()) = some (.bool true,[i,j]):=by
  have:=saQ_eq (i:=i) (j:=j) (r1:=r1) (r2:=r2) (L1:=L1) (L2:=[x]) h1 rfl h3 (by simp)
  rw [decide_eq_true hL] at this
  exact this
set_option maxHeartbeats 8000000 in
theorem sawake_ok : Pure S0 23 [] (.bool true):=by
  have n20 : newD 20 = stD (List.replicate 3 zeB) (List.replicate 3 zeB) 0 [] 14 0:=newSt (Z:=3) (n:=14) (by decide)
  have i0:=stI_0 (Z:=3) (n:=14) (by decide) (by decide) (by decide) (by decide)
  generalize List.replicate 3 zeB = P0 at *
  have d0:=i0.dok (w:=0)
  obtain ⟨w1,e1⟩:=i0.open (w:=0)
  have g1:=i0.gok (w:=w1)
  obtain ⟨⟨w2,e2,k2⟩,i2⟩:=i0.add (w:=w1) (r:=oneS) (by decide) (by decide) (by decide)
  have g2:=i2.gok (w:=w2)
  obtain ⟨⟨w3,e3,k3⟩,i3⟩:=i2.add (w:=w2) (r:=twoS) (by decide) (by decide) (by decide)
  have o3:=i3.ok (w:=w3)
  obtain ⟨P,Q,w4,e4,i4,_⟩:=i3.keep (w:=w3) (r:=bothS) (by decide) (by decide)
  have g4:=i4.gok (w:=w4)
  obtain ⟨⟨w5,e5,k5⟩,i5⟩:=i4.add (w:=w4) (r:=threeS) (by decide) (by decide) (by decide)
  have d5:=i5.dok (w:=w5)
  obtain ⟨w6,e6⟩:=i5.open (w:=w5)
  have g6:=i5.gok (w:=w6)
  have E1:=stX_eta P0 P0 ⟨#[]⟩ 0 (-1) [] 14 w1
  have E6:=stX_eta P Q bothS (0 + (([] ++ [oneS] ++ [twoS] : List ByteArray).length : Int) + 1) (if (-1 : Int) = 0 then 1 else 0) ([] ++ [threeS]) 14 w6
  have s6 : (stX P Q bothS (0 + (([] ++ [oneS] ++ [twoS] : List ByteArray).length : Int) + 1) (if (-1 : Int) = 0 then 1 else 0) ([] ++ [threeS]) 14 w6).s = bothS:=rfl
  have q6 : (stX P Q bothS (0 + (([] ++ [oneS] ++ [twoS] : List ByteArray).length : Int) + 1) (if (-1 : Int) = 0 then 1 else 0) ([] ++ [threeS]) 14 w6).seq = 4:=rfl
  have r6 : (stX P Q bothS (0 + (([] ++ [oneS] ++ [twoS] : List ByteArray).length : Int) + 1) (if (-1 : Int) = 0 then 1 else 0) ([] ++ [threeS]) 14 w6).g.R = [threeS]:=rfl
  have D0 : stD P0 P0 0 [] 14 0 = (stX P0 P0 ⟨#[]⟩ 0 (-1) [] 14 0).g.d:=rfl
  have f1 : (stX P0 P0 ⟨#[]⟩ 0 (-1) [] 14 w1).down = false:=rfl
  have f2 : (stX P0 P0 ⟨#[]⟩ 0 (-1) ([] ++ [oneS]) 14 w2).down = false:=rfl
  have f4 : (stX P Q bothS (0 + (([] ++ [oneS] ++ [twoS] : List ByteArray).length : Int) + 1) (if (-1 : Int) = 0 then 1 else 0) [] 14 w4).down = false:=rfl
  have D5 : stD P Q (0 + (([] ++ [oneS] ++ [twoS] : List ByteArray).length : Int) + 1) ([] ++ [threeS]) 14 w5 = (stX P Q bothS (0 + (([] ++ [oneS] ++ [twoS] : List ByteArray).length : Int) + 1) (if (-1 : Int) = 0 then 1 else 0) ([] ++ [threeS]) 14 w5).g.d:=rfl
  rw [D5] at e6 d5
  have c1 : stG P0 P0 0 [] 14 w1 = (stX P0 P0 ⟨#[]⟩ 0 (-1) [] 14 w1).g:=rfl
  have c2 : stG P0 P0 0 ([] ++ [oneS]) 14 w2 = (stX P0 P0 ⟨#[]⟩ 0 (-1) ([] ++ [oneS]) 14 w2).g:=rfl
  have c4 : stG P Q (0 + (([] ++ [oneS] ++ [twoS] : List ByteArray).length : Int) + 1) [] 14 w4 = (stX P Q bothS (0 + (([] ++ [oneS] ++ [twoS] : List ByteArray).length : Int) + 1) (if (-1 : Int) = 0 then 1 else 0) [] 14 w4).g:=rfl
  have c6 : stG P Q (0 + (([] ++ [oneS] ++ [twoS] : List ByteArray).length : Int) + 1) ([] ++ [threeS]) 14 w6 = (stX P Q bothS (0 + (([] ++ [oneS] ++ [twoS] : List ByteArray).length : Int) + 1) (if (-1 : Int) = 0 then 1 else 0) ([] ++ [threeS]) 14 w6).g:=rfl
  rw [c1] at g1; rw [c2] at g2; rw [c4] at g4; rw [c6] at g6
  generalize stX P0 P0 ⟨#[]⟩ 0 (-1) [] 14 w1 = X1 at *
  generalize stX P0 P0 ⟨#[]⟩ 0 (-1) ([] ++ [oneS]) 14 w2 = X2 at *
  generalize stX P0 P0 ⟨#[]⟩ 0 (-1) ([] ++ [oneS] ++ [twoS]) 14 w3 = X3 at *
  generalize stX P Q bothS (0 + (([] ++ [oneS] ++ [twoS] : List ByteArray).length : Int) + 1) (if (-1 : Int) = 0 then 1 else 0) [] 14 w4 = X4 at *
  generalize stX P Q bothS (0 + (([] ++ [oneS] ++ [twoS] : List ByteArray).length : Int) + 1) (if (-1 : Int) = 0 then 1 else 0) ([] ++ [threeS]) 14 w5 = X5 at *
  generalize stX P Q bothS (0 + (([] ++ [oneS] ++ [twoS] : List ByteArray).length : Int) + 1) (if (-1 : Int) = 0 then 1 else 0) ([] ++ [threeS]) 14 w6 = X6 at *
  generalize stD P0 P0 0 [] 14 0 = DD at *
  have m2 : sadM X1 oneS = soM2 none X2:=by unfold sadM; rw [if_pos ⟨f1,k2⟩,e2]
  have m3 : sadM X2 twoS = soM2 none X3:=by unfold sadM; rw [if_pos ⟨f2,k3⟩,e3]
  have m5 : sadM X4 threeS = soM2 none X5:=by unfold sadM; rw [if_pos ⟨f4,k5⟩,e5]
  clear f1 f2 f4 k2 k3 k5
  clear D0 D5 c1 c2 c4 c6 i0 i2 i3 i4 i5
  have hl6 : X6.g.R.length ≤ 1048576:=by rw [r6]; decide
  have hs6 : (X6.s.toList == bothS.toList) = true:=by rw [s6]; exact tl_self _
  have z1 : okSz oneS:=okSz_of (by decide)
  have z2 : okSz twoS:=okSz_of (by decide)
  have z3 : okSz bothS:=okSz_of (by decide)
  have z4 : okSz threeS:=okSz_of (by decide)
  have y1 : (⟨#[111,110,101]⟩ : ByteArray) = oneS:=rfl
  have y2 : (⟨#[116,119,111]⟩ : ByteArray) = twoS:=rfl
  have y3 : (⟨#[98,111,116,104]⟩ : ByteArray) = bothS:=rfl
  have y4 : (⟨#[116,104,114,101,101]⟩ : ByteArray) = threeS:=rfl
  have k3' : ((3 : Nat) : Int) = 3:=rfl
  rw [k3'] at e1 e6
  refine fun_sound okSh0 Tryz.func23 c23 ?_
  unfold wpF F23
  simp only [AH.SD,AH.SE,AOp.call?,AOp.next?,bstep,AV.cells,unAV,binAV,retQ,retV,AH.sliceElems,AH.bytesOf,AH.strOp,AH.bound,AH.missQ,AH.minmaxAV,AH.readOf,AH.effOf,Nat.reduceBEq,Nat.reduceAdd,Nat.reduceLT,↓reduceIte,Nat.reduceEqDiff,Nat.reduceLeDiff,Nat.reduceSub,Nat.reduceMul,Int.reduceSub,Int.reduceToNat,Int.reduceBEq,Int.reduceBNe,Int.reduceLT,Int.reduceGT,Int.reduceLE,Int.reduceGE,Int.reduceNeg,Int.reduceAdd,AH.SP,AH.PD,AV.inB,vstep,vw,shift,newOnes,rowsM,blkIn,rwB,@flat_lts,AV.lt,AV.lts,Nat.sub_self,AH.SO,newT_eq,n20,dkM,sopN_p,sopT_p,lgR_eq,lgU_eq,Lg.eta,ne4,no4,soR_eq,soS_eq,So.eta,Bool.not_false,Bool.and_self,if_true,dkR_eq,dkB_eq,Dk.eta,ne_eq,Nat.reduceEqDiff,Nat.zero_ne_one,not_false_eq_true,d0,e1,sopA,sopM,E1,y1,y2,y3,y4,sadN_p,sadT_p,g1,g2,g4,z1,z2,z3,z4,and_self,e2,e3,e4,e5,e6,m2,m3,m5,soM2,errA0,errA_ren,errA_nil,keepT_p,o3,keepM,d5,E6,stateT_p,hs6,srecN_p,srecT_p,hl6,soM,saT_p,sm_1 rfl hl6 r6,seqT_p,g6,q6,List.cons_append,List.nil_append,show ((4 : Int) == 4) = true from rfl]
  try trivial
def sawakeT : RT:=rtP c0 fun _ => .bool true
theorem sawakeT_ok : ReadF S0 23 sawakeT:=rtP_ok (fun _ =>sawake_ok) fun _ =>rfl
theorem sawakeT_eq (M : Nat → Option Blk) : sawakeT [] M = some (.bool true,[]):=rfl
end Go.Proofs.YthapdikdeoeplaaGreatDoor.Z7
end
section
set_option linter.unusedVariables false
set_option linter.unnecessarySimpa false
open Go AH
namespace Go.Proofs.YthapdikdeoeplaaGreatDoor.Z7
-- quitrent/quitrentlaw07.ShotKeeps
def F4 : AFun:=⟨179,3,[.tmp 6],(.seq (.reg [⟨some 6,none,.mov (.c (.bool false))⟩]) (.seq (.seq (.reg [⟨some 18,none,.call (.c (.fn 23 [] [])) []⟩,⟨some 19,none,.un .not (.t 18)⟩]) (.cond (.t 19) (.seq (.reg [⟨some 6,none,.mov (.c (.bool false))⟩]) .ret) .skip)) (.seq (.seq (.reg [⟨some 20,none,.mov (.t 0)⟩,⟨some 21,none,.len .sl (.t 20)⟩,⟨some 22,none,.ibin .gtr (.t 21) (.c (.int .i64 4))⟩]) (.cond (.t 22) (.seq (.reg [⟨some 6,none,.mov (.c (.bool true))⟩]) .ret) .skip)) (.seq (.reg [⟨some 23,none,.call (.c (.fn 24 [] [])) [(.c (.int .i64 80))]⟩,⟨some 7,none,.mov (.t 23)⟩]) (.seq (.reg [⟨some 25,none,.mov (.t 7)⟩,⟨some 26,none,.call (.c (.fn 25 [] [])) [(.t 25),(.c (.int .i64 8))]⟩,⟨some 24,none,.mov (.t 26)⟩,⟨some 27,none,.extract (.t 24) 0⟩,⟨some 28,none,.extract (.t 24) 1⟩,⟨some 8,none,.mov (.t 27)⟩,⟨some 9,none,.mov (.t 28)⟩]) (.seq (.seq (.reg [⟨some 29,none,.mov (.t 9)⟩,⟨some 30,none,.eq true .iface true (.t 29) (.c .nili)⟩]) (.cond (.t 30) (.seq (.reg [⟨some 6,none,.mov (.c (.bool false))⟩]) .ret) .skip)) (.seq (.reg [⟨some 10,none,.mov (.c (.str ⟨#[]⟩))⟩]) (.seq (.seq (.reg [⟨some 11,none,.mov (.c (.int .i64 0))⟩]) (.block 0 (.loop (.seq (.seq (.reg [⟨some 31,none,.mov (.t 11)⟩,⟨some 32,none,.mov (.t 0)⟩,⟨some 33,none,.len .sl (.t 32)⟩,⟨some 34,none,.ibin .lss (.t 31) (.t 33)⟩]) (.cond (.t 34) .skip (.exit 0))) (.seq (.block 1 (.seq (.seq (.reg [⟨some 37,none,.mov (.t 11)⟩,⟨some 38,none,.mov (.t 1)⟩,⟨some 39,none,.len .sl (.t 38)⟩,⟨some 40,none,.ibin .lss (.t 37) (.t 39)⟩,⟨some 41,none,.mov (.t 40)⟩,⟨some 42,(some (41,true)),.mov (.t 11)⟩,⟨some 43,(some (41,true)),.mov (.t 2)⟩,⟨some 44,(some (41,true)),.len .sl (.t 43)⟩,⟨some 45,(some (41,true)),.ibin .lss (.t 42) (.t 44)⟩,⟨some 46,none,.pick (.t 41) (.t 45) (.c (.bool false))⟩]) (.cond (.t 46) (.draw [⟨some 47,none,.mov (.t 7)⟩,⟨some 48,none,.mov (.t 1)⟩,⟨some 49,none,.mov (.t 11)⟩,⟨some 50,none,.iaddrSl 1 (.t 48) (.t 49)⟩,⟨some 51,none,.load false 1 (.t 50)⟩,⟨some 52,none,.i2i .u64 (.t 51)⟩,⟨some 53,none,.ibin .rem (.t 52) (.c (.int .u64 60))⟩,⟨some 54,none,.i2i .i64 (.t 53)⟩,⟨some 55,none,.mov (.t 2)⟩,⟨some 56,none,.mov (.t 11)⟩,⟨some 57,none,.iaddrSl 1 (.t 55) (.t 56)⟩,⟨some 58,none,.load false 1 (.t 57)⟩,⟨some 59,none,.i2i .u64 (.t 58)⟩,⟨some 60,none,.ibin .rem (.t 59) (.c (.int .u64 65))⟩,⟨some 61,none,.i2i .i64 (.t 60)⟩,⟨some 62,none,.call (.c (.fn 26 [] [])) [(.t 47),(.t 54),(.t 61)]⟩] [[],[],[],[1,2],[3,1,2],[4,3,1,2],[5,4,3,1,2],[6,5,4,3,1,2],[],[],[8,9],[10,8,9],[11,10,8,9],[12,11,10,8,9],[13,12,11,10,8,9],[0,7,14,6,5,4,3,1,2,13,12,11,10,8,9]]) .skip)) (.seq (.reg [⟨some 12,none,.mov (.c (.str ⟨#[]⟩))⟩]) (.seq (.seq (.reg [⟨some 13,none,.mov (.c (.int .i64 0))⟩]) (.block 2 (.loop (.seq (.seq (.reg [⟨some 63,none,.mov (.t 13)⟩,⟨some 64,none,.mov (.t 0)⟩,⟨some 65,none,.mov (.t 11)⟩,⟨some 66,none,.iaddrSl 1 (.t 64) (.t 65)⟩,⟨some 67,none,.load false 1 (.t 66)⟩,⟨some 68,none,.len .sl (.t 67)⟩,⟨some 69,none,.ibin .lss (.t 63) (.t 68)⟩,⟨some 70,none,.mov (.t 69)⟩,⟨some 71,(some (70,true)),.mov (.t 13)⟩,⟨some 72,(some (70,true)),.ibin .lss (.t 71) (.c (.int .i64 10))⟩,⟨some 73,none,.pick (.t 70) (.t 72) (.c (.bool false))⟩]) (.cond (.t 73) .skip (.exit 2))) (.seq (.block 3 (.seq (.reg [⟨some 76,none,.mov (.t 0)⟩,⟨some 77,none,.mov (.t 11)⟩,⟨some 78,none,.iaddrSl 1 (.t 76) (.t 77)⟩,⟨some 79,none,.load false 1 (.t 78)⟩,⟨some 80,none,.mov (.t 13)⟩,⟨some 81,none,.iaddrSl 1 (.t 79) (.t 80)⟩,⟨some 82,none,.load false 1 (.t 81)⟩,⟨some 14,none,.mov (.t 82)⟩]) (.seq (.seq (.reg [⟨some 83,none,.mov (.t 14)⟩,⟨some 84,none,.len .str (.t 83)⟩,⟨some 85,none,.ibin .gtr (.t 84) (.c (.int .i64 8))⟩]) (.cond (.t 85) (.seq (.reg [⟨some 6,none,.mov (.c (.bool true))⟩]) .ret) .skip)) (.seq (.seq (.reg [⟨some 86,none,.mov (.t 14)⟩,⟨some 87,none,.ibin .eql (.t 86) (.c (.str ⟨#[]⟩))⟩]) (.cond (.t 87) (.seq (.reg [⟨some 88,none,.mov (.t 8)⟩,⟨some 89,none,.mov (.t 10)⟩,⟨some 90,none,.call (.c (.fn 27 [] [])) [(.t 88),(.t 89)]⟩,⟨some 15,none,.mov (.t 90)⟩]) (.seq (.seq (.reg [⟨some 91,none,.mov (.t 15)⟩,⟨some 92,none,.eq true .iface true (.t 91) (.c .nili)⟩,⟨some 93,none,.mov (.t 92)⟩,⟨some 94,(some (93,true)),.mov (.t 15)⟩,⟨some 95,(some (93,true)),.call (.c (.fn 28 [] [])) [(.t 94)]⟩,⟨some 96,(some (93,true)),.ibin .neq (.t 95) (.c (.int .i64 14))⟩,⟨some 97,none,.pick (.t 93) (.t 96) (.c (.bool false))⟩]) (.cond (.t 97) (.seq (.reg [⟨some 6,none,.mov (.c (.bool false))⟩]) .ret) .skip)) (.seq (.seq (.reg [⟨some 98,none,.mov (.t 15)⟩,⟨some 99,none,.eq true .iface true (.t 98) (.c .nili)⟩]) (.cond (.t 99) (.exit 2) .skip)) (.exit 3)))) .skip)) (.seq (.reg [⟨some 100,none,.mov (.t 8)⟩,⟨some 101,none,.mov (.t 14)⟩,⟨some 102,none,.call (.c (.fn 29 [] [])) [(.t 100),(.t 101)]⟩,⟨some 16,none,.mov (.t 102)⟩]) (.seq (.seq (.reg [⟨some 103,none,.mov (.t 16)⟩,⟨some 104,none,.call (.c (.fn 28 [] [])) [(.t 103)]⟩,⟨some 105,none,.ibin .eql (.t 104) (.c (.int .i64 7))⟩]) (.cond (.t 105) (.exit 2) .skip)) (.seq (.seq (.reg [⟨some 106,none,.mov (.t 16)⟩,⟨some 107,none,.eq true .iface true (.t 106) (.c .nili)⟩]) (.cond (.t 107) (.seq (.seq (.reg [⟨some 108,none,.mov (.t 16)⟩,⟨some 109,none,.call (.c (.fn 28 [] [])) [(.t 108)]⟩,⟨some 110,none,.ibin .neq (.t 109) (.c (.int .i64 14))⟩]) (.cond (.t 110) (.seq (.reg [⟨some 6,none,.mov (.c (.bool false))⟩]) .ret) .skip)) (.seq (.reg [⟨some 111,none,.mov (.t 14)⟩,⟨some 12,none,.mov (.t 111)⟩]) (.exit 2))) .skip)) (.reg [⟨some 112,none,.mov (.t 10)⟩,⟨some 113,none,.mov (.t 14)⟩,⟨some 114,none,.ibin .add (.t 112) (.t 113)⟩,⟨some 10,none,.mov (.t 114)⟩])))))))) (.reg [⟨some 74,none,.mov (.t 13)⟩,⟨some 75,none,.ibin .add (.t 74) (.c (.int .i64 1))⟩,⟨some 13,none,.mov (.t 75)⟩])))))) (.seq (.seq (.reg [⟨some 115,none,.mov (.t 7)⟩,⟨some 116,none,.call (.c (.fn 30 [] [])) [(.t 115)]⟩]) (.cond (.t 116) (.seq (.reg [⟨some 117,none,.mov (.t 7)⟩,⟨some 118,none,.call (.c (.fn 26 [] [])) [(.t 117),(.c (.int .i64 0)),(.c (.int .i64 0))]⟩]) (.reg [⟨some 119,none,.mov (.t 8)⟩,⟨some 120,none,.call (.c (.fn 29 [] [])) [(.t 119),(.c (.str ⟨#[121]⟩))]⟩])) .skip)) (.seq (.reg [⟨some 121,none,.mov (.t 7)⟩,⟨some 122,none,.call (.c (.fn 31 [] [])) [(.t 121)]⟩]) (.seq (.seq (.reg [⟨some 123,none,.mov (.t 11)⟩,⟨some 124,none,.mov (.t 2)⟩,⟨some 125,none,.len .sl (.t 124)⟩,⟨some 126,none,.ibin .lss (.t 123) (.t 125)⟩]) (.cond (.t 126) (.draw [⟨some 127,none,.mov (.t 7)⟩,⟨some 128,none,.mov (.t 2)⟩,⟨some 129,none,.mov (.t 11)⟩,⟨some 130,none,.iaddrSl 1 (.t 128) (.t 129)⟩,⟨some 131,none,.load false 1 (.t 130)⟩,⟨some 132,none,.i2i .u64 (.t 131)⟩,⟨some 133,none,.ibin .rem (.t 132) (.c (.int .u64 3))⟩,⟨some 134,none,.i2i .i64 (.t 133)⟩,⟨some 135,none,.mov (.t 2)⟩,⟨some 136,none,.mov (.t 11)⟩,⟨some 137,none,.iaddrSl 1 (.t 135) (.t 136)⟩,⟨some 138,none,.load false 1 (.t 137)⟩,⟨some 139,none,.i2i .u64 (.t 138)⟩,⟨some 140,none,.ibin .rem (.t 139) (.c (.int .u64 65))⟩,⟨some 141,none,.i2i .i64 (.t 140)⟩,⟨some 142,none,.call (.c (.fn 26 [] [])) [(.t 127),(.t 134),(.t 141)]⟩] [[],[],[],[1,2],[3,1,2],[4,3,1,2],[5,4,3,1,2],[6,5,4,3,1,2],[],[],[8,9],[10,8,9],[11,10,8,9],[12,11,10,8,9],[13,12,11,10,8,9],[0,7,14,6,5,4,3,1,2,13,12,11,10,8,9]]) .skip)) (.seq (.reg [⟨some 144,none,.mov (.t 7)⟩,⟨some 145,none,.call (.c (.fn 25 [] [])) [(.t 144),(.c (.int .i64 8))]⟩,⟨some 143,none,.mov (.t 145)⟩,⟨some 146,none,.extract (.t 143) 0⟩,⟨some 147,none,.extract (.t 143) 1⟩,⟨some 8,none,.mov (.t 146)⟩,⟨some 9,none,.mov (.t 147)⟩]) (.seq (.seq (.reg [⟨some 148,none,.mov (.t 9)⟩,⟨some 149,none,.eq true .iface true (.t 148) (.c .nili)⟩]) (.cond (.t 149) (.seq (.seq (.reg [⟨some 150,none,.mov (.t 9)⟩,⟨some 151,none,.call (.c (.fn 28 [] [])) [(.t 150)]⟩,⟨some 152,none,.ibin .neq (.t 151) (.c (.int .i64 14))⟩]) (.cond (.t 152) (.seq (.reg [⟨some 6,none,.mov (.c (.bool false))⟩]) .ret) .skip)) (.seq (.reg [⟨some 153,none,.mov (.t 7)⟩,⟨some 154,none,.call (.c (.fn 31 [] [])) [(.t 153)]⟩]) (.seq (.reg [⟨some 156,none,.mov (.t 7)⟩,⟨some 157,none,.call (.c (.fn 25 [] [])) [(.t 156),(.c (.int .i64 8))]⟩,⟨some 155,none,.mov (.t 157)⟩,⟨some 158,none,.extract (.t 155) 0⟩,⟨some 159,none,.extract (.t 155) 1⟩,⟨some 8,none,.mov (.t 158)⟩,⟨some 9,none,.mov (.t 159)⟩]) (.seq (.reg [⟨some 160,none,.mov (.t 9)⟩,⟨some 161,none,.eq true .iface true (.t 160) (.c .nili)⟩]) (.cond (.t 161) (.seq (.reg [⟨some 6,none,.mov (.c (.bool false))⟩]) .ret) .skip))))) (.reg [⟨some 162,none,.mov (.t 7)⟩,⟨some 163,none,.call (.c (.fn 26 [] [])) [(.t 162),(.c (.int .i64 (-1))),(.c (.int .i64 0))]⟩]))) (.seq (.reg [⟨some 164,none,.mov (.t 8)⟩,⟨some 165,none,.call (.c (.fn 32 [] [])) [(.t 164)]⟩,⟨some 166,none,.mov (.t 8)⟩,⟨some 167,none,.call (.c (.fn 34 [] [])) [(.t 166)]⟩,⟨some 168,none,.call (.c (.fn 33 [] [])) [(.t 167)]⟩,⟨some 169,none,.ibin .add (.t 165) (.t 168)⟩,⟨some 17,none,.mov (.t 169)⟩]) (.seq (.reg [⟨some 170,none,.mov (.t 17)⟩,⟨some 171,none,.mov (.t 10)⟩,⟨some 172,none,.mov (.t 12)⟩,⟨some 173,none,.ibin .add (.t 171) (.t 172)⟩,⟨some 174,none,.ibin .eql (.t 170) (.t 173)⟩]) (.cond (.t 174) (.reg [⟨some 175,none,.mov (.t 17)⟩,⟨some 10,none,.mov (.t 175)⟩]) (.seq (.reg [⟨some 176,none,.mov (.t 17)⟩,⟨some 177,none,.mov (.t 10)⟩,⟨some 178,none,.ibin .neq (.t 176) (.t 177)⟩]) (.cond (.t 178) (.seq (.reg [⟨some 6,none,.mov (.c (.bool false))⟩]) .ret) .skip)))))))))))))) (.reg [⟨some 35,none,.mov (.t 11)⟩,⟨some 36,none,.ibin .add (.t 35) (.c (.int .i64 1))⟩,⟨some 11,none,.mov (.t 36)⟩])))))) (.seq (.reg [⟨some 6,none,.mov (.c (.bool true))⟩]) .ret)))))))))⟩
theorem c4 : cFun Tryz.prog [1,0,2,3,4,5,6,7,8,9,10,11,12,13] Tryz.f4 = some F4:=by kernel_rfl
end Go.Proofs.YthapdikdeoeplaaGreatDoor.Z7
end
section
set_option linter.unusedVariables false
set_option linter.unnecessarySimpa false
open Go AH
set_option linter.unusedSimpArgs false
set_option maxRecDepth 100000
namespace Go.Proofs.YthapdikdeoeplaaGreatDoor.Z7
variable {P Q : List ByteArray} {s : ByteArray} {b a : Int} {W R : List ByteArray} {m : Nat} {f w t : Int} {T : Nat}
theorem kq_fuse {f' : Int} (h1 : -1 ≤ f) (hT : T ≤ 64) : fuD (kqD P Q b W f' t w) f T = kqD P Q b W f T w:=by
  unfold fuD kqD
  rw [cond_false]
  have m1 : maxI f (-1) = f:=by unfold maxI; split <;> omega
  have m2 : minI (maxI (T : Int) 0) 64 = T:=by unfold minI maxI; split <;> split <;> omega
  rw [m1,m2]
theorem kqV_fuse {f' : Int} (h1 : -1 ≤ f) (hT : T ≤ 64) : fuD (kqV P Q b W R false f' t w) f T = kqV P Q b W R false f T w:=by
  unfold fuD kqV
  rw [cond_false]
  have m1 : maxI f (-1) = f:=by unfold maxI; split <;> omega
  have m2 : minI (maxI (T : Int) 0) 64 = T:=by unfold minI maxI; split <;> split <;> omega
  rw [m1,m2]
theorem kqV_ok {aw : Bool} (h : kqI P Q s b a W m) (hR : kqR b W R) (hT : T ≤ 64) : (kqV P Q b W R aw f T w).ok:=by
  refine ⟨fun x hx => ?_,by show (0 : Int) ≤ T; omega,by show (T : Int) ≤ 64; omega,?_⟩
  · have hx' : x ∈ (P ++ Q) ++ (frs (b + 1) W ++ R):=hx
    simp only [List.mem_append] at hx'
    rcases hx' with (h1 | h1) | h1 | h1
    · exact h.pz x h1
    · exact h.qz x h1
    · exact frs_sz W _ x h1
    · exact hR.1.1 x h1
  · show ((P ++ Q) ++ (frs (b + 1) W ++ R)).length ≤ 4096
    have:=hR.2
    rw [List.length_append,h.len,List.length_append]; omega
theorem kq_new : newD 80 = kqD (List.replicate 8 zeB) (List.replicate 8 zeB) 0 [] (-1) 0 0:=by
  have:=newD_rep (n:=80) (by decide)
  rw [show ((80 : Nat) : Int) = 80 from rfl] at this
  rw [this]
  unfold kqD lgL dOn frs
  simp only [List.length_nil,Nat.sub_zero,List.nil_append,List.append_nil,List.replicate_append_replicate]
theorem kqI_0 : kqI (List.replicate 8 zeB) (List.replicate 8 zeB) ⟨#[]⟩ 0 (-1) [] 0:=by
  refine ⟨by simp,by simp,?_,?_,.inl ⟨rfl,rfl,rfl,Dd_ze _ _,Dd_ze _ _⟩,by decide,by decide,(fun x hx =>by cases hx),by decide,by decide⟩ <;>
  · intro x hx
    rw [(List.mem_replicate.1 hx).2]; exact zeB_sz
noncomputable abbrev tKw : List (FuncId × RT):=(23,sawakeT) :: (33,joT) :: (30,isOnT) :: (26,fuseNT) :: (31,comeNT) :: (28,kindT) :: tSh
noncomputable abbrev eKw : List (FuncId × ET):=(26,fuseT) :: (31,comeT) :: eSh
theorem okKw : CtxOK S0 (ctxE S0 tKw [] eKw):=ctxE_ok ⟨sawakeT_ok,joT_ok,isOnT_ok,fuseNT_ok,comeNT_ok,kindT_ok,tSh_ok⟩ trivial ⟨fuseT_ok,comeT_ok,eSh_ok⟩ mixed
theorem mod_u2 (x : Int) {m : Int} (h1 : 1 ≤ m) (h2 : m ≤ 2199023255552) : ∃ k : Nat,IntKind.i64.wrap ((IntKind.u64.wrap x).tmod m) = (k : Int) ∧ (k : Int) < m:=by
  have h0 : 0 ≤ IntKind.u64.wrap x:=by rw [IntKind.wrap_u64]; omega
  have h3 : (IntKind.u64.wrap x).tmod m = IntKind.u64.wrap x % m:=Int.tmod_eq_emod_of_nonneg h0
  have h4:=Int.emod_nonneg (IntKind.u64.wrap x) (by omega : m ≠ 0)
  have h5:=Int.emod_lt_of_pos (IntKind.u64.wrap x) (by omega : (0 : Int) < m)
  rw [h3]
  generalize IntKind.u64.wrap x % m = r at *
  refine ⟨r.toNat,?_,by omega⟩
  rw [IntKind.wrap_i64]
  omega
def liC (n : Int) : List AV:=[.int .i64 n]
instance : FlatE liC:=⟨fun _ =>rfl⟩
theorem liC_eq (n : Int) : liC n = [.int .i64 n]:=rfl
def nsC (o : Nat) : List (List ByteArray) → List (List AV)
  | [] => []
  | x :: r => [.slc o 0 x.length none] :: nsC (o + 1) r
theorem nsC_len : ∀ {o : Nat} {l : List (List ByteArray)},(nsC o l).length = l.length
  | _,[] =>rfl
  | _,_ :: r =>by simp [nsC,nsC_len (l:=r)]
theorem nsC_get : ∀ {o : Nat} {l : List (List ByteArray)} {k : Nat} (h : k < l.length),(nsC o l).getD k [] = [.slc (k + o) 0 l[k].length none]
  | _,[],k,h =>by simp at h
  | o,x :: r,0,h =>by simp [nsC]
  | o,x :: r,k + 1,h =>by
    simp only [nsC,List.getD_cons_succ,List.getElem_cons_succ]
    rw [nsC_get (by simpa using h)]
    congr 2; omega
def kw7 (LL : List (List ByteArray)) (F T : List Int) (x0 x1 x2 x3 : List ByteArray) : Mem:=[some (.row true 1 (nsC 3 LL)),some (.row true 1 (F.map liC)),some (.row true 1 (T.map liC)),some (.row true 1 (x0.map strC)),some (.row true 1 (x1.map strC)),some (.row true 1 (x2.map strC)),some (.row true 1 (x3.map strC))]
def kwR (X : So) : Mem:=[some (.row false 5 [[.slc 8 0 X.g.d.L.length none,.bool X.g.d.away,.int .i64 X.g.d.fuse,.int .i64 X.g.d.torn,.int .i64 X.g.d.writes]]),some (.row false 1 (X.g.d.L.map strC)),
  some (.row false 7 [[.ptr 7 0 0,.int .i64 X.z,.str X.s,.int .i64 X.b,.int .i64 X.a,.ptr 10 0 0,.bool X.down]]),
  some (.row false 7 [[.ptr 7 0 0,.int .i64 X.g.f,.int .i64 X.g.t,.int .i64 X.g.b,.int .i64 X.g.a,.slc 11 0 X.g.R.length none,.bool X.g.down]]),some (.row false 1 (X.g.R.map strC))]
structure KW where
  i : Nat
  P : List ByteArray
  Q : List ByteArray
  s : ByteArray
  b : Int
  a : Int
  W : List ByteArray
  f : Int
  t : Nat
  w : Int
def KW.x (y : KW) : So:=kqX y.P y.Q y.s y.b y.a y.W y.f y.t y.w
def KW.sure (y : KW) : ByteArray:=y.s ++ catS y.W
def KW.I (y : KW) (m : Nat) : Prop:=kqI y.P y.Q y.s y.b y.a y.W m ∧ -1 ≤ y.f ∧ y.f ≤ 1000 ∧ y.t ≤ 64
def kwSt (LL : List (List ByteArray)) (F T : List Int) (x0 x1 x2 x3 : List ByteArray) (X : So) (sure : ByteArray) (k : Nat) : St:=⟨[(11,.int .i64 k),(10,.str sure),(8,.ptr 9 0 0),(7,.ptr 7 0 0),(2,.slc 2 0 T.length none),(1,.slc 1 0 F.length none),(0,.slc 0 0 LL.length none)],kw7 LL F T x0 x1 x2 x3 ++ kwR X⟩
def kw2St (LL : List (List ByteArray)) (F T : List Int) (x0 x1 x2 x3 : List ByteArray) (k : Nat) (X : So) (sure : ByteArray) (i : Nat) : St:=⟨[(13,.int .i64 i),(12,.str ⟨#[]⟩),(11,.int .i64 k),(10,.str sure),(8,.ptr 9 0 0),(7,.ptr 7 0 0),(2,.slc 2 0 T.length none),(1,.slc 1 0 F.length none),(0,.slc 0 0 LL.length none)],kw7 LL F T x0 x1 x2 x3 ++ kwR X⟩
structure kwE (LL : List (List ByteArray)) (F T : List Int) (x0 x1 x2 x3 : List ByteArray) (k : Nat) (Y : So) (sure last : ByteArray) (st : St) : Prop where
  t0 : tget st.tm 0 = .slc 0 0 LL.length none
  t1 : tget st.tm 1 = .slc 1 0 F.length none
  t2 : tget st.tm 2 = .slc 2 0 T.length none
  t7 : tget st.tm 7 = .ptr 7 0 0
  t8 : tget st.tm 8 = .ptr 9 0 0
  t10 : tget st.tm 10 = .str sure
  t11 : tget st.tm 11 = .int .i64 k
  t12 : tget st.tm 12 = .str last
  mem : st.mem = kw7 LL F T x0 x1 x2 x3 ++ kwR Y
theorem cat_sn (W : List ByteArray) (x s : ByteArray) : s ++ catS W ++ x = s ++ catS (W ++ [x]):=by rw [catS_snoc,ByteArray.append_assoc]
theorem cat_nil (s : ByteArray) : s ++ catS [] = s:=by rw [catS_nil]; apply ByteArray.ext; simp
end Go.Proofs.YthapdikdeoeplaaGreatDoor.Z7
end
section
set_option linter.unusedVariables false
set_option linter.unnecessarySimpa false
open Go AH
set_option linter.unusedSimpArgs false
set_option maxRecDepth 100000
namespace Go.Proofs.YthapdikdeoeplaaGreatDoor.Z7
theorem kqI.mono {P Q : List ByteArray} {s : ByteArray} {b a : Int} {W : List ByteArray} {m n : Nat} (h : kqI P Q s b a W m) (hn : m ≤ n) (h4 : n ≤ 50) : kqI P Q s b a W n :=
  ⟨h.p,h.q,h.pz,h.qz,h.ar,by have:=h.bm; omega,by have:=h.wm; omega,h.wz,by have:=h.sz; omega,h4⟩
structure kwF (k : Nat) (Y : So) (sure last : ByteArray) : Prop where
  ex : ∃ P Q s b a W R t w,Y.g.d = kqV P Q b W R true 0 ((t : Nat) : Int) w ∧ kqI P Q s b a W (10 * (k + 1)) ∧ kqR b W R ∧ t ≤ 64 ∧ (s ++ catS W = sure ∨ s ++ catS W = sure ++ last)
  sz : sure.size ≤ 400 ∧ last.size ≤ 8
set_option maxHeartbeats 16000000 in
theorem kw_inner (LL : List (List ByteArray)) (F T : List Int) (x0 x1 x2 x3 : List ByteArray) (k : Nat) (hkl : k < LL.length) (h4 : LL.length ≤ 4)
    (hmk : ∀ rest : Mem,mget (some (.row true 1 (x0.map strC)) :: some (.row true 1 (x1.map strC)) :: some (.row true 1 (x2.map strC)) :: some (.row true 1 (x3.map strC)) :: rest) k = some (.row true 1 (LL[k].map strC)))
    (hi : ∀ r,Blk.inB (inN (0 :: 1 :: 2 :: 3 :: 4 :: 5 :: 6 :: r)) (.row true 1 (nsC 3 LL)) = true) (hr : ∀ r,Blk.ren (posN (0 :: 1 :: 2 :: 3 :: 4 :: 5 :: 6 :: r)) (.row true 1 (nsC 3 LL)) = .row true 1 (nsC 3 LL))
    (y0 : KW) (hy0 : y0.i = 0 ∧ y0.I (10 * k)) {Q0 : Exit → St → Prop} {st : St} {base : Nat} (hbase : base = 7)
    (h0 : (heads 7 0 [0,1,2,3,4,5,6,7,8,9,10,11] = true ∧ distN [0,1,2,3,4,5,6,7,8,9,10,11] = true) ∧ packB [0,1,2,3,4,5,6,7,8,9,10,11] st.mem [0,1,2,3,4,5,6,7,8,9,10,11] = true ∧ liveB [0,1,2,3,4,5,6,7,8,9,10,11] st.tm [13,12,11,10,8,7,2,1,0] = true ∧ wpV (fun s =>s = kw2St LL F T x0 x1 x2 x3 k y0.x y0.sure y0.i) [] (some ⟨packTm [0,1,2,3,4,5,6,7,8,9,10,11] st.tm [13,12,11,10,8,7,2,1,0],packM [0,1,2,3,4,5,6,7,8,9,10,11] st.mem [0,1,2,3,4,5,6,7,8,9,10,11]⟩))
    (hR : ∀ s : St,tget s.tm 6 = .bool true → Q0 .ret s)
    (hE1 : ∀ (y : KW) (s : St),y.I (10 * (k + 1)) → kwE LL F T x0 x1 x2 x3 k y.x y.sure ⟨#[]⟩ s → Q0 (.exit 2) s)
    (hE2 : ∀ (Y : So) (sure last : ByteArray) (s : St),kwF k Y sure last → kwE LL F T x0 x1 x2 x3 k Y sure last s → Q0 (.exit 2) s) :
    wpA { call:=(ctxE S0 tKw [] eKw).call,read:=(ctxE S0 tKw [] eKw).read,eff:=(ctxE S0 tKw [] eKw).eff,base:=base } (F4.body.at [true,true,true,true,true,true,true,false,true,true,true,true,false,true,true,true,false,true,true]) Q0 st:=by
  subst hbase
  unfold F4
  simp only [ACode.at]
  refine loop_do [0,1,2,3,4,5,6,7,8,9,10,11] [13,12,11,10,8,7,2,1,0] [] (α:=KW) (fun y => 10 - y.i) (fun y =>kw2St LL F T x0 x1 x2 x3 k y.x y.sure y.i) (fun y =>y.i ≤ 10 ∧ y.I (10 * k + y.i)) y0 ⟨by omega,by rw [hy0.1]; exact hy0.2⟩ h0 ?_
  clear h0 hy0 y0
  rintro X ⟨i,P,Q,s,b,a,W,f,t,w⟩ ⟨hi10,hI,hf1,hf2,ht⟩ ih
  simp only at hi10 hI hf1 hf2 ht
  have hx : (KW.mk i P Q s b a W f t w).x = kqX P Q s b a W f t w:=rfl
  have hxs : (KW.mk i P Q s b a W f t w).sure = s ++ catS W:=rfl
  have hok:=hI.ok (f:=f) (w:=w) ht
  have hgok:=hI.gok (f:=f) (w:=w) ht
  have hcat:=hI.cat
  have hm40 : 10 * k + 10 ≤ 40:=by omega
  have hnl:=nsC_len (o:=3) (l:=LL)
  have hgk : (nsC 3 LL).getD k [] = [.slc (k + 3) 0 LL[k].length none]:=nsC_get hkl
  have E1:=fun st =>hE1 ⟨i,P,Q,s,b,a,W,f,t,w⟩ st ⟨hI.mono (by omega) (by omega),hf1,hf2,ht⟩
  rw [hx,hxs] at E1
  have hg' : (kqX P Q s b a W f t w).g = kqG P Q b W f t w:=rfl
  rw [← hg'] at hgok
  have hsu : okSz (s ++ catS W):=okSz_of (by omega)
  simp only [AH.SD,AH.SE,AOp.call?,AOp.next?,bstep,AV.cells,unAV,binAV,retQ,retV,AH.sliceElems,AH.bytesOf,AH.strOp,AH.bound,AH.missQ,AH.minmaxAV,AH.readOf,AH.effOf,simprocAttr,AH.SP,AH.PD,AV.inB,vstep,vw,shift,newOnes,rowsM,blkIn,rwB,@flat_lts,AV.lt,AV.lts,Nat.sub_self,AH.SO,kw2St,kw7,kwR]
  rw [hx,hxs]
  clear hxs hx hg'
  cases c2 : decide ((i : Int) < (LL[k].length : Int))
  · generalize kqX P Q s b a W f t w = X1 at *
    simp only [AH.SD,AH.SE,AOp.call?,AOp.next?,bstep,AV.cells,unAV,binAV,retQ,retV,AH.sliceElems,AH.bytesOf,AH.strOp,AH.bound,AH.missQ,AH.minmaxAV,AH.readOf,AH.effOf,simprocAttr,AH.SP,AH.PD,AV.inB,vstep,vw,shift,newOnes,rowsM,blkIn,rwB,@flat_lts,AV.lt,AV.lts,Nat.sub_self,AH.SO,hgk,c2,hnl]
    iterate 2 (repeat ((with_reducible refine And.intro ?_ ?_); focus (first | rfl | decide | omega | (simp only [List.length_map,List.length_set,and_true]; omega))); try simp only [AH.SD,AH.SE,AOp.call?,AOp.next?,bstep,AV.cells,unAV,binAV,retQ,retV,AH.sliceElems,AH.bytesOf,AH.strOp,AH.bound,AH.missQ,AH.minmaxAV,AH.readOf,AH.effOf,simprocAttr,AH.SP,AH.PD,AV.inB,vstep,vw,shift,newOnes,rowsM,blkIn,rwB,@flat_lts,AV.lt,AV.lts,Nat.sub_self,AH.SO,hgk,c2,hnl])
    exact E1 _ ⟨rfl,rfl,rfl,rfl,rfl,rfl,rfl,rfl,rfl⟩
  cases c3 : decide ((i : Int) < 10)
  · generalize kqX P Q s b a W f t w = X1 at *
    simp only [AH.SD,AH.SE,AOp.call?,AOp.next?,bstep,AV.cells,unAV,binAV,retQ,retV,AH.sliceElems,AH.bytesOf,AH.strOp,AH.bound,AH.missQ,AH.minmaxAV,AH.readOf,AH.effOf,simprocAttr,AH.SP,AH.PD,AV.inB,vstep,vw,shift,newOnes,rowsM,blkIn,rwB,@flat_lts,AV.lt,AV.lts,Nat.sub_self,AH.SO,hgk,c2,c3,hnl]
    iterate 2 (repeat ((with_reducible refine And.intro ?_ ?_); focus (first | rfl | decide | omega | (simp only [List.length_map,List.length_set,and_true]; omega))); try simp only [AH.SD,AH.SE,AOp.call?,AOp.next?,bstep,AV.cells,unAV,binAV,retQ,retV,AH.sliceElems,AH.bytesOf,AH.strOp,AH.bound,AH.missQ,AH.minmaxAV,AH.readOf,AH.effOf,simprocAttr,AH.SP,AH.PD,AV.inB,vstep,vw,shift,newOnes,rowsM,blkIn,rwB,@flat_lts,AV.lt,AV.lts,Nat.sub_self,AH.SO,hgk,c2,c3,hnl])
    exact E1 _ ⟨rfl,rfl,rfl,rfl,rfl,rfl,rfl,rfl,rfl⟩
  have hil2:=lt_of_dec c2
  have hi3 : i < 10:=by simp only [decide_eq_true_eq] at c3; omega
  have hgi : (LL[k].map strC).getD i [] = strC LL[k][i]:=getD_enc hil2
  have wi:=wrapS (i:=i) (by omega)
  clear E1 hE1
  cases c4 : decide ((LL[k][i].size : Int) > 8)
  rotate_left
  · clear ih hE2 hok hgok
    generalize kqX P Q s b a W f t w = X1 at *
    iterate 3 ((try simp only [AH.SD,AH.SE,AOp.call?,AOp.next?,bstep,AV.cells,unAV,binAV,retQ,retV,AH.sliceElems,AH.bytesOf,AH.strOp,AH.bound,AH.missQ,AH.minmaxAV,AH.readOf,AH.effOf,simprocAttr,AH.SP,AH.PD,AV.inB,vstep,vw,shift,newOnes,rowsM,blkIn,rwB,@flat_lts,AV.lt,AV.lts,Nat.sub_self,AH.SO,hgk,c2,c3,hnl,hmk,hgi,strC_eq,c4]); repeat ((with_reducible refine And.intro ?_ ?_); focus (first | rfl | decide | omega | (simp only [List.length_map,List.length_set,and_true]; omega))))
    exact hR _ rfl
  have hs8 : LL[k][i].size ≤ 8:=by simp only [decide_eq_false_iff_not] at c4; omega
  have hsz : okSz LL[k][i]:=okSz_of (by omega)
  generalize LL[k][i] = x at *
  have nx:=fun (P' Q' : List ByteArray) (s' : ByteArray) (b' a' : Int) (W' : List ByteArray) (f' w' : Int) (h : kqI P' Q' s' b' a' W' (10 * k + i + 1)) (h1 : -1 ≤ f') (h2 : f' ≤ 1000) =>ih ⟨i + 1,P',Q',s',b',a',W',f',t,w'⟩ ⟨by simp only; omega,h,h1,h2,ht⟩ (by simp only; omega)
  simp only [KW.x,KW.sure] at nx
  clear ih
  by_cases he : x = ⟨#[]⟩
  · have ce : (x.toList == (⟨#[]⟩ : ByteArray).toList) = true:=by rw [he]; exact tl_self _
    rcases kq_keep (r:=s ++ catS W) (f:=f) (w:=w) hI (by omega) hcat hf1 hf2 ht with ⟨P',Q',b',a',f',w',g1,g2,e,hI'⟩ | ⟨Y,P',Q',s',b',a',W',R',w',e,hd,hI',hR',hg⟩
    · have done:=nx P' Q' (s ++ catS W) b' a' [] f' w' hI' g1 g2
      rw [cat_nil] at done
      have m1 : keepM (kqX P Q s b a W f t w) (s ++ catS W) = soM2 (some (.row false 1 ((kqX P Q s b a W f t w).g.R.map strC))) (kqX P' Q' (s ++ catS W) b' a' [] f' t w'):=by unfold keepM; rw [e]; rfl
      simp only [kw2St,kw7,kwR,List.cons_append,List.nil_append] at done
      clear nx hE2
      generalize kqX P' Q' (s ++ catS W) b' a' [] f' t w' = X2 at *
      generalize kqX P Q s b a W f t w = X1 at *
      iterate 4 ((try simp only [AH.SD,AH.SE,AOp.call?,AOp.next?,bstep,AV.cells,unAV,binAV,retQ,retV,AH.sliceElems,AH.bytesOf,AH.strOp,AH.bound,AH.missQ,AH.minmaxAV,AH.readOf,AH.effOf,simprocAttr,AH.SP,AH.PD,AV.inB,vstep,vw,shift,newOnes,rowsM,blkIn,rwB,@flat_lts,AV.lt,AV.lts,Nat.sub_self,AH.SO,hgk,c2,c3,hnl,hmk,hgi,strC_eq,c4,ce,keepT_p,lgR_eq,lgU_eq,Lg.eta,ne4,no4,soR_eq,soS_eq,So.eta,Bool.not_false,Bool.and_self,if_true,dkR_eq,dkB_eq,Dk.eta,ne_eq,Nat.reduceEqDiff,Nat.zero_ne_one,not_false_eq_true,hok,hsu,and_self,e,m1,soM2,errA0,errA_nil,errA_ren,List.cons_append,List.nil_append,wi]); repeat ((with_reducible refine And.intro ?_ ?_); focus (first | rfl | decide | omega | (simp only [List.length_map,List.length_set,and_true]; omega))))
      refine gc_auto [0,1,2,3,4,5,6,7,8,9,10,12] [13,12,11,10,8,7,2,1,0] [] ?_
      simp only [AH.SD,AH.SE,AOp.call?,AOp.next?,bstep,AV.cells,unAV,binAV,retQ,retV,AH.sliceElems,AH.bytesOf,AH.strOp,AH.bound,AH.missQ,AH.minmaxAV,AH.readOf,AH.effOf,simprocAttr,AH.SP,AH.PD,AV.inB,vstep,hi,hr]
      exact done
    · have hF : kwF k Y (s ++ catS W) ⟨#[]⟩:=by
        refine ⟨⟨P',Q',s',b',a',W',R',t,w',hd,hI'.mono (by omega) (by omega),hR',ht,.inl ?_⟩,⟨by omega,by decide⟩⟩
        rcases hg with ⟨rfl,rfl⟩ | ⟨rfl,rfl⟩
        · rfl
        · exact cat_nil _
      have E2:=fun st =>hE2 Y _ _ st hF
      have m1 : keepM (kqX P Q s b a W f t w) (s ++ catS W) = soM Y:=by unfold keepM; rw [e]; rfl
      clear nx hE2 hF hd
      generalize kqX P Q s b a W f t w = X1 at *
      iterate 4 ((try simp only [AH.SD,AH.SE,AOp.call?,AOp.next?,bstep,AV.cells,unAV,binAV,retQ,retV,AH.sliceElems,AH.bytesOf,AH.strOp,AH.bound,AH.missQ,AH.minmaxAV,AH.readOf,AH.effOf,simprocAttr,AH.SP,AH.PD,AV.inB,vstep,vw,shift,newOnes,rowsM,blkIn,rwB,@flat_lts,AV.lt,AV.lts,Nat.sub_self,AH.SO,hgk,c2,c3,hnl,hmk,hgi,strC_eq,c4,ce,keepT_p,lgR_eq,lgU_eq,Lg.eta,ne4,no4,soR_eq,soS_eq,So.eta,Bool.not_false,Bool.and_self,if_true,dkR_eq,dkB_eq,Dk.eta,ne_eq,Nat.reduceEqDiff,Nat.zero_ne_one,not_false_eq_true,hok,hsu,and_self,e,m1,soM,errA_nil,errA_ren,kindT_err,show (14 : Nat) ≤ 14 by decide,bne_self_eq_false,List.cons_append,List.nil_append]); repeat ((with_reducible refine And.intro ?_ ?_); focus (first | rfl | decide | omega | (simp only [List.length_map,List.length_set,and_true]; omega))))
      exact E2 _ ⟨rfl,rfl,rfl,rfl,rfl,rfl,rfl,rfl,rfl⟩
  · have ce : (x.toList == (⟨#[]⟩ : ByteArray).toList) = false:=tl_ne he
    rcases kq_add (f:=f) (w:=w) hI (by omega) hs8 hf1 hf2 ht with ⟨_,f',w',g1,g2,e,k1,hI'⟩ | ⟨_,Y,W',R',w',e,k1,hd,hg,hI',hR'⟩
    · have done:=nx P Q s b a (W ++ [x]) f' w' hI' g1 g2
      rw [← cat_sn] at done
      have m1 : sadM (kqX P Q s b a W f t w) x = soM2 none (kqX P Q s b a (W ++ [x]) f' t w'):=by unfold sadM; rw [if_pos ⟨rfl,k1⟩,e]
      have hsz2 : (((s ++ catS W).size + x.size : Nat) : Int) ≤ 9223372036854775807:=by omega
      simp only [kw2St,kw7,kwR,List.cons_append,List.nil_append] at done
      clear nx hE2
      generalize kqX P Q s b a (W ++ [x]) f' t w' = X2 at *
      generalize kqX P Q s b a W f t w = X1 at *
      iterate 4 ((try simp only [AH.SD,AH.SE,AOp.call?,AOp.next?,bstep,AV.cells,unAV,binAV,retQ,retV,AH.sliceElems,AH.bytesOf,AH.strOp,AH.bound,AH.missQ,AH.minmaxAV,AH.readOf,AH.effOf,simprocAttr,AH.SP,AH.PD,AV.inB,vstep,vw,shift,newOnes,rowsM,blkIn,rwB,@flat_lts,AV.lt,AV.lts,Nat.sub_self,AH.SO,hgk,c2,c3,hnl,hmk,hgi,strC_eq,c4,ce,sadN_p,sadT_p,lgR_eq,lgU_eq,Lg.eta,ne4,no4,soR_eq,soS_eq,So.eta,Bool.not_false,Bool.and_self,if_true,dkR_eq,dkB_eq,Dk.eta,ne_eq,Nat.reduceEqDiff,Nat.zero_ne_one,not_false_eq_true,hgok,hsz,and_self,e,m1,soM2,errA0,errA_nil,errA_ren,kindT_nil,List.cons_append,List.nil_append,wi,imax]); repeat ((with_reducible refine And.intro ?_ ?_); focus (first | rfl | decide | omega | (simp only [List.length_map,List.length_set,and_true]; omega))))
      refine gc_auto [0,1,2,3,4,5,6,7,8,9,10,12] [13,12,11,10,8,7,2,1,0] [] ?_
      simp only [AH.SD,AH.SE,AOp.call?,AOp.next?,bstep,AV.cells,unAV,binAV,retQ,retV,AH.sliceElems,AH.bytesOf,AH.strOp,AH.bound,AH.missQ,AH.minmaxAV,AH.readOf,AH.effOf,simprocAttr,AH.SP,AH.PD,AV.inB,vstep,hi,hr]
      exact done
    · have hF : kwF k Y (s ++ catS W) x:=by
        refine ⟨⟨P,Q,s,b,a,W',R',t,w',hd,hI'.mono (by omega) (by omega),hR',ht,?_⟩,⟨by omega,hs8⟩⟩
        rcases hg with rfl | ⟨rfl,_⟩
        · exact .inl rfl
        · exact .inr (cat_sn _ _ _).symm
      have E2:=fun st =>hE2 Y _ _ st hF
      have m1 : sadM (kqX P Q s b a W f t w) x = soM Y:=by unfold sadM; rw [if_neg (by rw [k1]; simp),e]
      clear nx hE2 hF hd
      generalize kqX P Q s b a W f t w = X1 at *
      iterate 4 ((try simp only [AH.SD,AH.SE,AOp.call?,AOp.next?,bstep,AV.cells,unAV,binAV,retQ,retV,AH.sliceElems,AH.bytesOf,AH.strOp,AH.bound,AH.missQ,AH.minmaxAV,AH.readOf,AH.effOf,simprocAttr,AH.SP,AH.PD,AV.inB,vstep,vw,shift,newOnes,rowsM,blkIn,rwB,@flat_lts,AV.lt,AV.lts,Nat.sub_self,AH.SO,hgk,c2,c3,hnl,hmk,hgi,strC_eq,c4,ce,sadN_p,sadT_p,lgR_eq,lgU_eq,Lg.eta,ne4,no4,soR_eq,soS_eq,So.eta,Bool.not_false,Bool.and_self,if_true,dkR_eq,dkB_eq,Dk.eta,ne_eq,Nat.reduceEqDiff,Nat.zero_ne_one,not_false_eq_true,hgok,hsz,and_self,e,m1,soM,errA_nil,errA_ren,kindT_err,show (14 : Nat) ≤ 14 by decide,bne_self_eq_false,List.cons_append,List.nil_append]); repeat ((with_reducible refine And.intro ?_ ?_); focus (first | rfl | decide | omega | (simp only [List.length_map,List.length_set,and_true]; omega))))
      exact E2 _ ⟨rfl,rfl,rfl,rfl,rfl,rfl,rfl,rfl,rfl⟩
end Go.Proofs.YthapdikdeoeplaaGreatDoor.Z7
end
section
set_option linter.unusedVariables false
set_option linter.unnecessarySimpa false
open Go AH
set_option linter.unusedSimpArgs false
set_option maxRecDepth 100000
namespace Go.Proofs.YthapdikdeoeplaaGreatDoor.Z7
def kwR2 (X : So) (j1 j2 j3 c : Option Blk) : Mem:=[some (.row false 5 [[.slc 8 0 X.g.d.L.length none,.bool X.g.d.away,.int .i64 X.g.d.fuse,.int .i64 X.g.d.torn,.int .i64 X.g.d.writes]]),some (.row false 1 (X.g.d.L.map strC)),j1,j2,j3,
  some (.row false 7 [[.ptr 7 0 0,.int .i64 X.z,.str X.s,.int .i64 X.b,.int .i64 X.a,.ptr 13 0 0,.bool X.down]]),
  some (.row false 7 [[.ptr 7 0 0,.int .i64 X.g.f,.int .i64 X.g.t,.int .i64 X.g.b,.int .i64 X.g.a,.slc 14 0 X.g.R.length none,.bool false]]),some (.row false 1 (X.g.R.map strC)),c]
structure kwN (LL : List (List ByteArray)) (F T : List Int) (x0 x1 x2 x3 : List ByteArray) (k : Nat) (X : So) (sure : ByteArray) (j1 j2 j3 c : Option Blk) (st : St) : Prop where
  t0 : tget st.tm 0 = .slc 0 0 LL.length none
  t1 : tget st.tm 1 = .slc 1 0 F.length none
  t2 : tget st.tm 2 = .slc 2 0 T.length none
  t7 : tget st.tm 7 = .ptr 7 0 0
  t8 : tget st.tm 8 = .ptr 12 0 0
  t10 : tget st.tm 10 = .str sure
  t11 : tget st.tm 11 = .int .i64 k
  mem : st.mem = kw7 LL F T x0 x1 x2 x3 ++ kwR2 X j1 j2 j3 c
theorem rowE15 {a b c d e f g h i j k l m n o : Option Blk} {ro : Bool} {kk : Nat} {es : List (List AV)} {r : Mem} : rowE (mget (a :: b :: c :: d :: e :: f :: g :: h :: i :: j :: k :: l :: m :: n :: o :: some (.row ro kk es) :: r)) 15 = some (kk,es):=by cases r <;> rfl
structure kwQ (X Y : So) : Prop where
  z : X.z = Y.z
  s : X.s = Y.s
  b : X.b = Y.b
  a : X.a = Y.a
  dn : X.down = Y.down
  gf : X.g.f = Y.g.f
  gt : X.g.t = Y.g.t
  gb : X.g.b = Y.g.b
  ga : X.g.a = Y.g.a
  gR : X.g.R = Y.g.R
  gd : X.g.down = Y.g.down
theorem kq_q {P Q : List ByteArray} {s : ByteArray} {b a : Int} {W : List ByteArray} {f t w f' t' w' : Int} : kwQ (kqX P Q s b a W f t w) (kqX P Q s b a W f' t' w'):=⟨rfl,rfl,rfl,rfl,rfl,rfl,rfl,rfl,rfl,rfl,rfl⟩
structure kwC (X : So) (sure last : ByteArray) : Prop where
  jo : ∀ m,rowE (mget m) 15 = some (1,X.g.R.map strC) → joT [.slc 15 0 X.g.R.length none] (mget m) = some (.str (catS X.g.R),[15])
  rl : X.g.R.length ≤ 1048576
  s1 : ((X.s.size + (catS X.g.R).size : Nat) : Int) ≤ 9223372036854775807
  s2 : ((sure.size + last.size : Nat) : Int) ≤ 9223372036854775807
  eta : (⟨X.g.d,X.g.f,X.g.t,X.g.b,X.g.a,X.g.R,false⟩ : Lg) = X.g
  dn : X.g.down = false
  cmp : (((X.s ++ catS X.g.R).toList == (sure ++ last).toList) = true) ∨ (((X.s ++ catS X.g.R).toList == (sure ++ last).toList) = false ∧ X.s ++ catS X.g.R = sure)
theorem kwC_of {P Q : List ByteArray} {s : ByteArray} {b a : Int} {W : List ByteArray} {f t w : Int} {m : Nat} {sure last : ByteArray} (h : kqI P Q s b a W m) (hs : sure.size ≤ 400 ∧ last.size ≤ 8) (hg : s ++ catS W = sure ∨ s ++ catS W = sure ++ last) : kwC (kqX P Q s b a W f t w) sure last:=by
  have hc:=h.cat
  have hm:=h.m40
  have hw:=h.wm
  rw [ByteArray.size_append] at hc
  have hj : okJ W:=⟨fun x hx =>by have:=h.wz x hx; omega,by omega⟩
  refine ⟨fun m hm' =>joT_eq (cap:=none) (ix:=0) hm' (by rw [List.drop_zero,List.take_of_length_le (by rw [List.length_map]; exact Nat.le_refl _)]) (by rw [List.length_map]; omega) hj,by show W.length ≤ _; omega,by show ((s.size + (catS W).size : Nat) : Int) ≤ _; omega,by omega,rfl,rfl,?_⟩
  show (((s ++ catS W).toList == (sure ++ last).toList) = true) ∨ (((s ++ catS W).toList == (sure ++ last).toList) = false ∧ s ++ catS W = sure)
  by_cases q : s ++ catS W = sure ++ last
  · left; rw [q]; exact tl_self _
  · right
    exact ⟨tl_ne q,hg.resolve_right q⟩
set_option maxHeartbeats 16000000 in
theorem kw_rest2 (LL : List (List ByteArray)) (F T : List Int) (x0 x1 x2 x3 : List ByteArray) (k : Nat) (hk4 : k < 4) (Y : So) (sure last : ByteArray) (hF : kwF k Y sure last) {Q0 : Exit → St → Prop} {st : St} {base : Nat} (hbase : base = 7) (hst : kwE LL F T x0 x1 x2 x3 k Y sure last st)
    (hN : ∀ (st2 : St) (P Q : List ByteArray) (s : ByteArray) (b a : Int) (W : List ByteArray) (w : Int) (t : Nat) (j1 j2 j3 c : Option Blk),kqI P Q s b a W (10 * (k + 1)) → t ≤ 64 → kwN LL F T x0 x1 x2 x3 k (kqX P Q s b a W (-1) t w) (s ++ catS W) j1 j2 j3 c st2 → Q0 .normal st2) :
    wpA { call:=(ctxE S0 tKw [] eKw).call,read:=(ctxE S0 tKw [] eKw).read,eff:=(ctxE S0 tKw [] eKw).eff,base:=base } (F4.body.at [true,true,true,true,true,true,true,false,true,true,true,true,false,true,true,true,true,true]) Q0 st:=by
  subst hbase
  unfold F4
  simp only [ACode.at]
  obtain ⟨⟨P,Q,s,b,a,W,R,t,w,hd,hI,hR,ht,hg⟩,hsz⟩:=hF
  obtain ⟨s0,s1,s2,s7,s8,s10,s11,s12,smem⟩:=hst
  have hco : coD Y.g.d = kqV P Q b W R false (-1) t w:=by rw [hd]; rfl
  clear hd
  by_cases hT : k < T.length
  · have dT : decide ((k : Int) < (T.length : Int)) = true:=decide_eq_true (by omega)
    have hgT : (T.map liC).getD k [] = liC T[k]:=getD_enc hT
    obtain ⟨f3,e1,e2⟩:=mod_u2 T[k] (m:=3) (by decide) (by decide)
    obtain ⟨t3,e3,e4⟩:=mod_u2 T[k] (m:=65) (by decide) (by decide)
    have eF : fuD (kqV P Q b W R false (-1) t w) f3 t3 = kqV P Q b W R false f3 t3 w:=kqV_fuse (by omega) (by omega)
    have hVo:=kqV_ok (aw:=false) (f:=f3) (w:=w) hI hR (show t3 ≤ 64 by omega)
    rcases kq_open (f:=f3) (w:=w) hI hR (by omega) (by omega) (show t3 ≤ 64 by omega) with ⟨f',w',_,_,_,e⟩ | ⟨_,y,R',w',e,hyd,hR'⟩
    · obtain ⟨t4,ht4⟩ : ∃ t4 : Nat,t4 = 0:=⟨0,rfl⟩
      have hq:=kq_q (P:=P) (Q:=Q) (s:=s) (b:=b) (a:=a) (W:=W) (f:=f') (t:=t3) (w:=w') (f':=-1) (t':=t4) (w':=w')
      have eF2 : fuD (kqX P Q s b a W f' t3 w').g.d (-1) 0 = (kqX P Q s b a W (-1) t4 w').g.d:=by rw [ht4]; exact kq_fuse (T:=0) (by decide) (by decide)
      have E3 : (⟨(kqX P Q s b a W f' t3 w').g.d,(kqX P Q s b a W (-1) t4 w').g.f,(kqX P Q s b a W (-1) t4 w').g.t,(kqX P Q s b a W (-1) t4 w').g.b,(kqX P Q s b a W (-1) t4 w').g.a,(kqX P Q s b a W (-1) t4 w').g.R,false⟩ : Lg) = (kqX P Q s b a W f' t3 w').g:=rfl
      have hC:=kwC_of (f:=-1) (t:=t4) (w:=w') hI hsz hg
      have N:=fun st2 j1 j2 j3 c =>hN st2 P Q s b a W w' t4 j1 j2 j3 c hI (by omega)
      rw [show s ++ catS W = (kqX P Q s b a W (-1) t4 w').s ++ catS (kqX P Q s b a W (-1) t4 w').g.R from rfl] at N
      clear hN ht4
      generalize kqV P Q b W R false (-1) t w = V0 at *
      generalize kqV P Q b W R false f3 t3 w = V1 at *
      generalize kqX P Q s b a W f' t3 w' = X3 at *
      generalize kqX P Q s b a W (-1) t4 w' = X4 at *
      rcases hC.cmp with g | ⟨g,g2⟩
      · iterate 6 ((try simp only [AH.SD,AH.SE,AOp.call?,AOp.next?,bstep,AV.cells,unAV,binAV,retQ,retV,AH.sliceElems,AH.bytesOf,AH.strOp,AH.bound,AH.missQ,AH.minmaxAV,AH.readOf,AH.effOf,simprocAttr,AH.SP,AH.PD,AV.inB,vstep,vw,shift,newOnes,rowsM,blkIn,rwB,@flat_lts,AV.lt,AV.lts,Nat.sub_self,AH.SO,s0,s1,s2,s7,s8,s10,s11,s12,smem,tget_terase_ne,kw7,kwR,comeNT_p,comeT_p,lgR_eq,lgU_eq,Lg.eta,ne4,no4,soR_eq,soS_eq,So.eta,Bool.not_false,Bool.and_self,if_true,dkR_eq,dkB_eq,Dk.eta,ne_eq,Nat.reduceEqDiff,Nat.zero_ne_one,not_false_eq_true,hco,dkM,List.cons_append,List.nil_append,dT,hgT,liC_eq,e1,e3,fuseNT_p,fuseT_p,eF,sopN_p,sopT_p,hVo,e,sopA,sopM,errA_nil,eF2,hq.z,hq.s,hq.b,hq.a,hq.dn,hq.gf,hq.gt,hq.gb,hq.ga,hq.gR,hq.gd,E3,hC.dn,hC.eta,stateT_p,srecN_p,srecT_p,hC.rl,soM,hC.jo _ rowE15,hC.s1,hC.s2,imax,Int.toNat_natCast,g]); repeat ((with_reducible refine And.intro ?_ ?_); focus (first | rfl | decide | omega | (simp only [List.length_map,List.length_set,and_true]; omega))))
        refine N _ _ _ _ _ ⟨?_,?_,?_,?_,?_,?_,?_,rfl⟩ <;> simp only [AH.SD,AH.SE,AOp.call?,AOp.next?,bstep,AV.cells,unAV,binAV,retQ,retV,AH.sliceElems,AH.bytesOf,AH.strOp,AH.bound,AH.missQ,AH.minmaxAV,AH.readOf,AH.effOf,simprocAttr,AH.SP,AH.PD,AV.inB,vstep,vw,shift,newOnes,rowsM,blkIn,rwB,@flat_lts,AV.lt,AV.lts,Nat.sub_self,AH.SO,s0,s1,s2,s7,s8,s10,s11,s12,tget_terase_ne,ne_eq,Nat.reduceEqDiff,not_false_eq_true]
      · rw [g2] at g
        iterate 6 ((try simp only [AH.SD,AH.SE,AOp.call?,AOp.next?,bstep,AV.cells,unAV,binAV,retQ,retV,AH.sliceElems,AH.bytesOf,AH.strOp,AH.bound,AH.missQ,AH.minmaxAV,AH.readOf,AH.effOf,simprocAttr,AH.SP,AH.PD,AV.inB,vstep,vw,shift,newOnes,rowsM,blkIn,rwB,@flat_lts,AV.lt,AV.lts,Nat.sub_self,AH.SO,s0,s1,s2,s7,s8,s10,s11,s12,smem,tget_terase_ne,kw7,kwR,comeNT_p,comeT_p,lgR_eq,lgU_eq,Lg.eta,ne4,no4,soR_eq,soS_eq,So.eta,Bool.not_false,Bool.and_self,if_true,dkR_eq,dkB_eq,Dk.eta,ne_eq,Nat.reduceEqDiff,Nat.zero_ne_one,not_false_eq_true,hco,dkM,List.cons_append,List.nil_append,dT,hgT,liC_eq,e1,e3,fuseNT_p,fuseT_p,eF,sopN_p,sopT_p,hVo,e,sopA,sopM,errA_nil,eF2,hq.z,hq.s,hq.b,hq.a,hq.dn,hq.gf,hq.gt,hq.gb,hq.ga,hq.gR,hq.gd,E3,hC.dn,hC.eta,stateT_p,srecN_p,srecT_p,hC.rl,soM,hC.jo _ rowE15,hC.s1,hC.s2,imax,Int.toNat_natCast,g,g2,tl_self,Bool.not_true,bne_self_eq_false]); repeat ((with_reducible refine And.intro ?_ ?_); focus (first | rfl | decide | omega | (simp only [List.length_map,List.length_set,and_true]; omega))))
        rw [g2] at N
        refine N _ _ _ _ _ ⟨?_,?_,?_,?_,?_,?_,?_,rfl⟩ <;> simp only [AH.SD,AH.SE,AOp.call?,AOp.next?,bstep,AV.cells,unAV,binAV,retQ,retV,AH.sliceElems,AH.bytesOf,AH.strOp,AH.bound,AH.missQ,AH.minmaxAV,AH.readOf,AH.effOf,simprocAttr,AH.SP,AH.PD,AV.inB,vstep,vw,shift,newOnes,rowsM,blkIn,rwB,@flat_lts,AV.lt,AV.lts,Nat.sub_self,AH.SO,s0,s1,s2,s7,s8,s10,s11,s12,tget_terase_ne,ne_eq,Nat.reduceEqDiff,not_false_eq_true]
    · obtain ⟨w4,e5⟩:=kq_open1 (w:=w') hI hR' (show t3 ≤ 64 by omega)
      have hco2 : coD y.g.d = kqV P Q b W R' false (-1) t3 w':=by rw [hyd]; rfl
      have hVo2:=kqV_ok (aw:=false) (f:=-1) (w:=w') hI hR' (show t3 ≤ 64 by omega)
      have hC:=kwC_of (f:=-1) (t:=t3) (w:=w4) hI hsz hg
      have N:=fun st2 j1 j2 j3 c =>hN st2 P Q s b a W w4 t3 j1 j2 j3 c hI (by omega)
      rw [show s ++ catS W = (kqX P Q s b a W (-1) t3 w4).s ++ catS (kqX P Q s b a W (-1) t3 w4).g.R from rfl] at N
      clear hN hyd
      generalize kqV P Q b W R false (-1) t w = V0 at *
      generalize kqV P Q b W R false f3 t3 w = V1 at *
      generalize kqV P Q b W R' false (-1) t3 w' = V2 at *
      generalize kqX P Q s b a W (-1) t3 w4 = X4 at *
      rcases hC.cmp with g | ⟨g,g2⟩
      · iterate 6 ((try simp only [AH.SD,AH.SE,AOp.call?,AOp.next?,bstep,AV.cells,unAV,binAV,retQ,retV,AH.sliceElems,AH.bytesOf,AH.strOp,AH.bound,AH.missQ,AH.minmaxAV,AH.readOf,AH.effOf,simprocAttr,AH.SP,AH.PD,AV.inB,vstep,vw,shift,newOnes,rowsM,blkIn,rwB,@flat_lts,AV.lt,AV.lts,Nat.sub_self,AH.SO,s0,s1,s2,s7,s8,s10,s11,s12,smem,tget_terase_ne,kw7,kwR,comeNT_p,comeT_p,lgR_eq,lgU_eq,Lg.eta,ne4,no4,soR_eq,soS_eq,So.eta,Bool.not_false,Bool.and_self,if_true,dkR_eq,dkB_eq,Dk.eta,ne_eq,Nat.reduceEqDiff,Nat.zero_ne_one,not_false_eq_true,hco,dkM,List.cons_append,List.nil_append,dT,hgT,liC_eq,e1,e3,fuseNT_p,fuseT_p,eF,sopN_p,sopT_p,hVo,e,e5,hco2,hVo2,sopA,sopM,show ¬ ((14 : Nat) = 0) by decide,if_false,errA_nil,errA_ren,kindT_err,show (14 : Nat) ≤ 14 by decide,bne_self_eq_false,hC.dn,hC.eta,stateT_p,srecN_p,srecT_p,hC.rl,soM,hC.jo _ rowE15,hC.s1,hC.s2,imax,Int.toNat_natCast,g]); repeat ((with_reducible refine And.intro ?_ ?_); focus (first | rfl | decide | omega | (simp only [List.length_map,List.length_set,and_true]; omega))))
        refine N _ _ _ _ _ ⟨?_,?_,?_,?_,?_,?_,?_,rfl⟩ <;> simp only [AH.SD,AH.SE,AOp.call?,AOp.next?,bstep,AV.cells,unAV,binAV,retQ,retV,AH.sliceElems,AH.bytesOf,AH.strOp,AH.bound,AH.missQ,AH.minmaxAV,AH.readOf,AH.effOf,simprocAttr,AH.SP,AH.PD,AV.inB,vstep,vw,shift,newOnes,rowsM,blkIn,rwB,@flat_lts,AV.lt,AV.lts,Nat.sub_self,AH.SO,s0,s1,s2,s7,s8,s10,s11,s12,tget_terase_ne,ne_eq,Nat.reduceEqDiff,not_false_eq_true]
      · rw [g2] at g
        iterate 6 ((try simp only [AH.SD,AH.SE,AOp.call?,AOp.next?,bstep,AV.cells,unAV,binAV,retQ,retV,AH.sliceElems,AH.bytesOf,AH.strOp,AH.bound,AH.missQ,AH.minmaxAV,AH.readOf,AH.effOf,simprocAttr,AH.SP,AH.PD,AV.inB,vstep,vw,shift,newOnes,rowsM,blkIn,rwB,@flat_lts,AV.lt,AV.lts,Nat.sub_self,AH.SO,s0,s1,s2,s7,s8,s10,s11,s12,smem,tget_terase_ne,kw7,kwR,comeNT_p,comeT_p,lgR_eq,lgU_eq,Lg.eta,ne4,no4,soR_eq,soS_eq,So.eta,Bool.not_false,Bool.and_self,if_true,dkR_eq,dkB_eq,Dk.eta,ne_eq,Nat.reduceEqDiff,Nat.zero_ne_one,not_false_eq_true,hco,dkM,List.cons_append,List.nil_append,dT,hgT,liC_eq,e1,e3,fuseNT_p,fuseT_p,eF,sopN_p,sopT_p,hVo,e,e5,hco2,hVo2,sopA,sopM,show ¬ ((14 : Nat) = 0) by decide,if_false,errA_nil,errA_ren,kindT_err,show (14 : Nat) ≤ 14 by decide,bne_self_eq_false,hC.dn,hC.eta,stateT_p,srecN_p,srecT_p,hC.rl,soM,hC.jo _ rowE15,hC.s1,hC.s2,imax,Int.toNat_natCast,g,g2,tl_self,Bool.not_true,bne_self_eq_false]); repeat ((with_reducible refine And.intro ?_ ?_); focus (first | rfl | decide | omega | (simp only [List.length_map,List.length_set,and_true]; omega))))
        rw [g2] at N
        refine N _ _ _ _ _ ⟨?_,?_,?_,?_,?_,?_,?_,rfl⟩ <;> simp only [AH.SD,AH.SE,AOp.call?,AOp.next?,bstep,AV.cells,unAV,binAV,retQ,retV,AH.sliceElems,AH.bytesOf,AH.strOp,AH.bound,AH.missQ,AH.minmaxAV,AH.readOf,AH.effOf,simprocAttr,AH.SP,AH.PD,AV.inB,vstep,vw,shift,newOnes,rowsM,blkIn,rwB,@flat_lts,AV.lt,AV.lts,Nat.sub_self,AH.SO,s0,s1,s2,s7,s8,s10,s11,s12,tget_terase_ne,ne_eq,Nat.reduceEqDiff,not_false_eq_true]
  · have dT : decide ((k : Int) < (T.length : Int)) = false:=decide_eq_false (by omega)
    have hVo:=kqV_ok (aw:=false) (f:=-1) (w:=w) hI hR ht
    obtain ⟨w',e⟩:=kq_open1 (w:=w) hI hR ht
    obtain ⟨t4,ht4⟩ : ∃ t4 : Nat,t4 = 0:=⟨0,rfl⟩
    have hq:=kq_q (P:=P) (Q:=Q) (s:=s) (b:=b) (a:=a) (W:=W) (f:=-1) (t:=t) (w:=w') (f':=-1) (t':=t4) (w':=w')
    have eF2 : fuD (kqX P Q s b a W (-1) t w').g.d (-1) 0 = (kqX P Q s b a W (-1) t4 w').g.d:=by rw [ht4]; exact kq_fuse (T:=0) (by decide) (by decide)
    have E3 : (⟨(kqX P Q s b a W (-1) t w').g.d,(kqX P Q s b a W (-1) t4 w').g.f,(kqX P Q s b a W (-1) t4 w').g.t,(kqX P Q s b a W (-1) t4 w').g.b,(kqX P Q s b a W (-1) t4 w').g.a,(kqX P Q s b a W (-1) t4 w').g.R,false⟩ : Lg) = (kqX P Q s b a W (-1) t w').g:=rfl
    have hC:=kwC_of (f:=-1) (t:=t4) (w:=w') hI hsz hg
    have N:=fun st2 j1 j2 j3 c =>hN st2 P Q s b a W w' t4 j1 j2 j3 c hI (by omega)
    rw [show s ++ catS W = (kqX P Q s b a W (-1) t4 w').s ++ catS (kqX P Q s b a W (-1) t4 w').g.R from rfl] at N
    have ht4':=ht4
    clear hN
    generalize kqV P Q b W R false (-1) t w = V0 at *
    generalize kqX P Q s b a W (-1) t w' = X3 at *
    generalize kqX P Q s b a W (-1) t4 w' = X4 at *
    rcases hC.cmp with g | ⟨g,g2⟩
    · iterate 6 ((try simp only [AH.SD,AH.SE,AOp.call?,AOp.next?,bstep,AV.cells,unAV,binAV,retQ,retV,AH.sliceElems,AH.bytesOf,AH.strOp,AH.bound,AH.missQ,AH.minmaxAV,AH.readOf,AH.effOf,simprocAttr,AH.SP,AH.PD,AV.inB,vstep,vw,shift,newOnes,rowsM,blkIn,rwB,@flat_lts,AV.lt,AV.lts,Nat.sub_self,AH.SO,s0,s1,s2,s7,s8,s10,s11,s12,smem,tget_terase_ne,kw7,kwR,comeNT_p,comeT_p,lgR_eq,lgU_eq,Lg.eta,ne4,no4,soR_eq,soS_eq,So.eta,Bool.not_false,Bool.and_self,if_true,dkR_eq,dkB_eq,Dk.eta,ne_eq,Nat.reduceEqDiff,Nat.zero_ne_one,not_false_eq_true,hco,dkM,List.cons_append,List.nil_append,dT,fuseNT_p,fuseT_p,sopN_p,sopT_p,hVo,e,sopA,sopM,errA_nil,eF2,hq.z,hq.s,hq.b,hq.a,hq.dn,hq.gf,hq.gt,hq.gb,hq.ga,hq.gR,hq.gd,E3,hC.dn,hC.eta,stateT_p,srecN_p,srecT_p,hC.rl,soM,hC.jo _ rowE15,hC.s1,hC.s2,imax,Int.toNat_natCast,g]); repeat ((with_reducible refine And.intro ?_ ?_); focus (first | rfl | decide | omega | (simp only [List.length_map,List.length_set,and_true]; omega))))
      refine N _ _ _ _ _ ⟨?_,?_,?_,?_,?_,?_,?_,rfl⟩ <;> simp only [AH.SD,AH.SE,AOp.call?,AOp.next?,bstep,AV.cells,unAV,binAV,retQ,retV,AH.sliceElems,AH.bytesOf,AH.strOp,AH.bound,AH.missQ,AH.minmaxAV,AH.readOf,AH.effOf,simprocAttr,AH.SP,AH.PD,AV.inB,vstep,vw,shift,newOnes,rowsM,blkIn,rwB,@flat_lts,AV.lt,AV.lts,Nat.sub_self,AH.SO,s0,s1,s2,s7,s8,s10,s11,s12,tget_terase_ne,ne_eq,Nat.reduceEqDiff,not_false_eq_true]
    · rw [g2] at g
      iterate 6 ((try simp only [AH.SD,AH.SE,AOp.call?,AOp.next?,bstep,AV.cells,unAV,binAV,retQ,retV,AH.sliceElems,AH.bytesOf,AH.strOp,AH.bound,AH.missQ,AH.minmaxAV,AH.readOf,AH.effOf,simprocAttr,AH.SP,AH.PD,AV.inB,vstep,vw,shift,newOnes,rowsM,blkIn,rwB,@flat_lts,AV.lt,AV.lts,Nat.sub_self,AH.SO,s0,s1,s2,s7,s8,s10,s11,s12,smem,tget_terase_ne,kw7,kwR,comeNT_p,comeT_p,lgR_eq,lgU_eq,Lg.eta,ne4,no4,soR_eq,soS_eq,So.eta,Bool.not_false,Bool.and_self,if_true,dkR_eq,dkB_eq,Dk.eta,ne_eq,Nat.reduceEqDiff,Nat.zero_ne_one,not_false_eq_true,hco,dkM,List.cons_append,List.nil_append,dT,fuseNT_p,fuseT_p,sopN_p,sopT_p,hVo,e,sopA,sopM,errA_nil,eF2,hq.z,hq.s,hq.b,hq.a,hq.dn,hq.gf,hq.gt,hq.gb,hq.ga,hq.gR,hq.gd,E3,hC.dn,hC.eta,stateT_p,srecN_p,srecT_p,hC.rl,soM,hC.jo _ rowE15,hC.s1,hC.s2,imax,Int.toNat_natCast,g,g2,tl_self,Bool.not_true,bne_self_eq_false]); repeat ((with_reducible refine And.intro ?_ ?_); focus (first | rfl | decide | omega | (simp only [List.length_map,List.length_set,and_true]; omega))))
      rw [g2] at N
      refine N _ _ _ _ _ ⟨?_,?_,?_,?_,?_,?_,?_,rfl⟩ <;> simp only [AH.SD,AH.SE,AOp.call?,AOp.next?,bstep,AV.cells,unAV,binAV,retQ,retV,AH.sliceElems,AH.bytesOf,AH.strOp,AH.bound,AH.missQ,AH.minmaxAV,AH.readOf,AH.effOf,simprocAttr,AH.SP,AH.PD,AV.inB,vstep,vw,shift,newOnes,rowsM,blkIn,rwB,@flat_lts,AV.lt,AV.lts,Nat.sub_self,AH.SO,s0,s1,s2,s7,s8,s10,s11,s12,tget_terase_ne,ne_eq,Nat.reduceEqDiff,not_false_eq_true]
end Go.Proofs.YthapdikdeoeplaaGreatDoor.Z7
end
section
set_option linter.unusedVariables false
set_option linter.unnecessarySimpa false
open Go AH
set_option linter.unusedSimpArgs false
set_option maxRecDepth 100000
namespace Go.Proofs.YthapdikdeoeplaaGreatDoor.Z7
def yS : ByteArray:=⟨#[121]⟩
theorem yS_eq : (⟨#[121]⟩ : ByteArray) = yS:=rfl
set_option maxHeartbeats 16000000 in
theorem kw_rest1 (LL : List (List ByteArray)) (F T : List Int) (x0 x1 x2 x3 : List ByteArray) (k : Nat) (hk4 : k < 4) (Y : So) (sure last : ByteArray) (hc : kwF k Y sure last ∨ ∃ y : KW,y.I (10 * (k + 1)) ∧ Y = y.x ∧ sure = y.sure ∧ last = ⟨#[]⟩) {Q0 : Exit → St → Prop} {st : St} {base : Nat} (hbase : base = 7) (hst : kwE LL F T x0 x1 x2 x3 k Y sure last st)
    (hN : ∀ (st2 : St) (P Q : List ByteArray) (s : ByteArray) (b a : Int) (W : List ByteArray) (w : Int) (t : Nat) (j1 j2 j3 c : Option Blk),kqI P Q s b a W (10 * (k + 1)) → t ≤ 64 → kwN LL F T x0 x1 x2 x3 k (kqX P Q s b a W (-1) t w) (s ++ catS W) j1 j2 j3 c st2 → Q0 .normal st2) :
    wpA { call:=(ctxE S0 tKw [] eKw).call,read:=(ctxE S0 tKw [] eKw).read,eff:=(ctxE S0 tKw [] eKw).eff,base:=base } (F4.body.at [true,true,true,true,true,true,true,false,true,true,true,true,false,true,true,true,true]) Q0 st:=by
  subst hbase
  have key:=fun (Y : So) (sure last : ByteArray) (hF : kwF k Y sure last) (st : St) hst =>kw_rest2 LL F T x0 x1 x2 x3 k hk4 Y sure last hF (Q0:=Q0) (st:=st) (base:=7) rfl hst hN
  rw [show (F4.body.at [true,true,true,true,true,true,true,false,true,true,true,true,false,true,true,true,true]) = .seq (F4.body.at [true,true,true,true,true,true,true,false,true,true,true,true,false,true,true,true,true,false]) (F4.body.at [true,true,true,true,true,true,true,false,true,true,true,true,false,true,true,true,true,true]) from rfl]
  clear hN
  generalize (F4.body.at [true,true,true,true,true,true,true,false,true,true,true,true,false,true,true,true,true,true]) = B at *
  unfold F4
  simp only [ACode.at]
  obtain ⟨s0,s1,s2,s7,s8,s10,s11,s12,smem⟩:=hst
  rcases hc with hF | ⟨y,⟨hI,hf1,hf2,ht⟩,rfl,rfl,rfl⟩
  · have hon : (!Y.g.d.away) = false:=by
      obtain ⟨P,Q,s,b,a,W,R,t,w,hd,_⟩:=hF.ex
      rw [hd]; rfl
    iterate 3 ((try simp only [AH.SD,AH.SE,AOp.call?,AOp.next?,bstep,AV.cells,unAV,binAV,retQ,retV,AH.sliceElems,AH.bytesOf,AH.strOp,AH.bound,AH.missQ,AH.minmaxAV,AH.readOf,AH.effOf,simprocAttr,AH.SP,AH.PD,AV.inB,vstep,vw,shift,newOnes,rowsM,blkIn,rwB,@flat_lts,AV.lt,AV.lts,Nat.sub_self,AH.SO,s0,s1,s2,s7,s8,s10,s11,s12,smem,tget_terase_ne,kw7,kwR,isOnT_p,fuseNT_p,fuseT_p,sadN_p,sadT_p,lgR_eq,lgU_eq,Lg.eta,ne4,no4,soR_eq,soS_eq,So.eta,Bool.not_false,Bool.and_self,if_true,dkR_eq,dkB_eq,Dk.eta,ne_eq,Nat.reduceEqDiff,Nat.zero_ne_one,not_false_eq_true,dkM,List.cons_append,List.nil_append,yS_eq,hon]); repeat ((with_reducible refine And.intro ?_ ?_); focus (first | rfl | decide | omega | (simp only [List.length_map,List.length_set,and_true]; omega))))
    refine key Y _ _ hF _ ⟨?_,?_,?_,?_,?_,?_,?_,?_,rfl⟩ <;> simp only [AH.SD,AH.SE,AOp.call?,AOp.next?,bstep,AV.cells,unAV,binAV,retQ,retV,AH.sliceElems,AH.bytesOf,AH.strOp,AH.bound,AH.missQ,AH.minmaxAV,AH.readOf,AH.effOf,simprocAttr,AH.SP,AH.PD,AV.inB,vstep,vw,shift,newOnes,rowsM,blkIn,rwB,@flat_lts,AV.lt,AV.lts,Nat.sub_self,AH.SO,s0,s1,s2,s7,s8,s10,s11,s12,tget_terase_ne,ne_eq,Nat.reduceEqDiff,not_false_eq_true]
  · obtain ⟨i,P,Q,s,b,a,W,f,t,w⟩:=y
    simp only at hI hf1 hf2 ht
    have hx : (KW.mk i P Q s b a W f t w).x = kqX P Q s b a W f t w:=rfl
    have hxs : (KW.mk i P Q s b a W f t w).sure = s ++ catS W:=rfl
    rw [hx] at smem
    rw [hxs] at s10
    have hon : (!(kqX P Q s b a W f t w).g.d.away) = true:=rfl
    have eF : fuD (kqX P Q s b a W f t w).g.d 0 0 = (kqX P Q s b a W 0 ((0 : Nat) : Int) w).g.d:=kq_fuse (T:=0) (by decide) (by decide)
    have hq:=kq_q (P:=P) (Q:=Q) (s:=s) (b:=b) (a:=a) (W:=W) (f:=f) (t:=t) (w:=w) (f':=0) (t':=((0 : Nat) : Int)) (w':=w)
    have hgok:=hI.gok (f:=0) (w:=w) (T:=0) (by decide)
    have hg' : (kqX P Q s b a W 0 ((0 : Nat) : Int) w).g = kqG P Q b W 0 ((0 : Nat) : Int) w:=rfl
    rw [← hg'] at hgok
    have zy : okSz yS:=okSz_of (by decide)
    have hcat:=hI.cat
    have eta : (⟨(kqX P Q s b a W 0 ((0 : Nat) : Int) w).g,(kqX P Q s b a W 0 ((0 : Nat) : Int) w).z,(kqX P Q s b a W 0 ((0 : Nat) : Int) w).s,(kqX P Q s b a W 0 ((0 : Nat) : Int) w).b,(kqX P Q s b a W 0 ((0 : Nat) : Int) w).a,(kqX P Q s b a W 0 ((0 : Nat) : Int) w).down⟩ : So) = kqX P Q s b a W 0 ((0 : Nat) : Int) w:=rfl
    rcases kq_add (f:=0) (w:=w) (T:=0) (x:=yS) hI (by omega) (by decide) (by decide) (by decide) (by decide) with ⟨h,_⟩ | ⟨_,Y,W',R',w',e,k1,hd,hg,hI',hR'⟩
    · exact absurd rfl h
    have hW : W' = W:=hg.resolve_right fun q =>by have:=q.2; omega
    subst hW
    have hF : kwF k Y (s ++ catS W') ⟨#[]⟩:=⟨⟨P,Q,s,b,a,W',R',0,w',hd,hI,hR',by decide,.inl rfl⟩,⟨by omega,by decide⟩⟩
    have m1 : sadM (kqX P Q s b a W' 0 ((0 : Nat) : Int) w) yS = soM Y:=by unfold sadM; rw [if_neg (by rw [k1]; simp),e]
    clear hI hI' hd hR' hg k1 hx hxs hg'
    generalize kqX P Q s b a W' 0 ((0 : Nat) : Int) w = X0 at *
    generalize kqX P Q s b a W' f t w = X1 at *
    iterate 4 ((try simp only [AH.SD,AH.SE,AOp.call?,AOp.next?,bstep,AV.cells,unAV,binAV,retQ,retV,AH.sliceElems,AH.bytesOf,AH.strOp,AH.bound,AH.missQ,AH.minmaxAV,AH.readOf,AH.effOf,simprocAttr,AH.SP,AH.PD,AV.inB,vstep,vw,shift,newOnes,rowsM,blkIn,rwB,@flat_lts,AV.lt,AV.lts,Nat.sub_self,AH.SO,s0,s1,s2,s7,s8,s10,s11,s12,smem,tget_terase_ne,kw7,kwR,isOnT_p,fuseNT_p,fuseT_p,sadN_p,sadT_p,lgR_eq,lgU_eq,Lg.eta,ne4,no4,soR_eq,soS_eq,So.eta,Bool.not_false,Bool.and_self,if_true,dkR_eq,dkB_eq,Dk.eta,ne_eq,Nat.reduceEqDiff,Nat.zero_ne_one,not_false_eq_true,dkM,List.cons_append,List.nil_append,yS_eq,hon,eF,hq.z,hq.s,hq.b,hq.a,hq.dn,hq.gf,hq.gt,hq.gb,hq.ga,hq.gR,hq.gd,eta,hgok,zy,and_self,e,m1,soM]); repeat ((with_reducible refine And.intro ?_ ?_); focus (first | rfl | decide | omega | (simp only [List.length_map,List.length_set,and_true]; omega))))
    refine key Y _ _ hF _ ⟨?_,?_,?_,?_,?_,?_,?_,?_,rfl⟩ <;> simp only [AH.SD,AH.SE,AOp.call?,AOp.next?,bstep,AV.cells,unAV,binAV,retQ,retV,AH.sliceElems,AH.bytesOf,AH.strOp,AH.bound,AH.missQ,AH.minmaxAV,AH.readOf,AH.effOf,simprocAttr,AH.SP,AH.PD,AV.inB,vstep,vw,shift,newOnes,rowsM,blkIn,rwB,@flat_lts,AV.lt,AV.lts,Nat.sub_self,AH.SO,s0,s1,s2,s7,s8,s10,s11,s12,tget_terase_ne,ne_eq,Nat.reduceEqDiff,not_false_eq_true]
end Go.Proofs.YthapdikdeoeplaaGreatDoor.Z7
end
section
set_option linter.unusedVariables false
set_option linter.unnecessarySimpa false
open Go AH
set_option linter.unusedSimpArgs false
set_option maxRecDepth 100000
namespace Go.Proofs.YthapdikdeoeplaaGreatDoor.Z7
theorem loop_atM {C : Ctx} {c d : ACode} {Q : Exit → St → Prop} {st : St} (h : wpA C c Q st) (e : c = d) : wpA C d Q st:=e ▸ h
set_option maxHeartbeats 16000000 in
theorem skeeps_ok (LL : List (List ByteArray)) (F T : List Int) : CallA1 S0 4 [.slc 0 0 LL.length none,.slc 1 0 F.length none,.slc 2 0 T.length none]
    (some (.row true 1 (nsC 3 LL)) :: some (.row true 1 (F.map liC)) :: some (.row true 1 (T.map liC)) :: (LL.map (fun x =>some (.row true 1 (x.map strC))) ++ List.replicate (4 - LL.length) (some (.row true 1 [])))) fun r _ =>r = .bool true:=by
  refine fun_sound okKw Tryz.func4 c4 ?_
  unfold wpF F4
  by_cases h4 : LL.length ≤ 4
  rotate_left
  · have c4 : decide ((LL.length : Int) > 4) = true:=decide_eq_true (by omega)
    simp only [AH.SD,AH.SE,AOp.call?,AOp.next?,bstep,AV.cells,unAV,binAV,retQ,retV,AH.sliceElems,AH.bytesOf,AH.strOp,AH.bound,AH.missQ,AH.minmaxAV,AH.readOf,AH.effOf,simprocAttr,AH.SP,AH.PD,AV.inB,vstep,vw,shift,newOnes,rowsM,blkIn,rwB,@flat_lts,AV.lt,AV.lts,Nat.sub_self,AH.SO,sawakeT_eq,c4]
  have c4 : decide ((LL.length : Int) > 4) = false:=decide_eq_false (by omega)
  obtain ⟨x0,x1,x2,x3,hm,hg,hi,hr⟩ : ∃ x0 x1 x2 x3 : List ByteArray,(LL.map (fun x =>some (Blk.row true 1 (x.map strC))) ++ List.replicate (4 - LL.length) (some (.row true 1 []))) = [some (.row true 1 (x0.map strC)),some (.row true 1 (x1.map strC)),some (.row true 1 (x2.map strC)),some (.row true 1 (x3.map strC))] ∧
      (∀ (k : Nat) (hk : k < LL.length) (rest : Mem),mget (some (.row true 1 (x0.map strC)) :: some (.row true 1 (x1.map strC)) :: some (.row true 1 (x2.map strC)) :: some (.row true 1 (x3.map strC)) :: rest) k = some (.row true 1 (LL[k].map strC))) ∧
      (∀ r,Blk.inB (inN (0 :: 1 :: 2 :: 3 :: 4 :: 5 :: 6 :: r)) (.row true 1 (nsC 3 LL)) = true) ∧ ∀ r,Blk.ren (posN (0 :: 1 :: 2 :: 3 :: 4 :: 5 :: 6 :: r)) (.row true 1 (nsC 3 LL)) = .row true 1 (nsC 3 LL):=by
    match LL,h4 with
    | [],_ =>exact ⟨[],[],[],[],rfl,fun k hk =>by simp at hk,fun _ =>rfl,fun _ =>rfl⟩
    | [a],_ =>exact ⟨a,[],[],[],rfl,fun k hk _ =>by
        match k,hk with
        | 0,_ =>rfl,fun _ =>rfl,fun _ =>rfl⟩
    | [a,b],_ =>exact ⟨a,b,[],[],rfl,fun k hk _ =>by
        match k,hk with
        | 0,_ =>rfl
        | 1,_ =>rfl,fun _ =>rfl,fun _ =>rfl⟩
    | [a,b,c],_ =>exact ⟨a,b,c,[],rfl,fun k hk _ =>by
        match k,hk with
        | 0,_ =>rfl
        | 1,_ =>rfl
        | 2,_ =>rfl,fun _ =>rfl,fun _ =>rfl⟩
    | [a,b,c,d],_ =>exact ⟨a,b,c,d,rfl,fun k hk _ =>by
        match k,hk with
        | 0,_ =>rfl
        | 1,_ =>rfl
        | 2,_ =>rfl
        | 3,_ =>rfl,fun _ =>rfl,fun _ =>rfl⟩
  rw [hm]
  have hnl:=nsC_len (o:=3) (l:=LL)
  have i0:=kqI_0
  have n80:=kq_new
  generalize List.replicate 8 zeB = P0 at *
  have hd0:=i0.dok (f:=-1) (w:=0) (T:=0) (by decide)
  obtain ⟨w0,e0⟩:=kq_open1 (w:=0) i0 (kqR_ze i0) (T:=0) (by decide)
  rw [← kqD_V i0] at e0
  have hx0 : (KW.mk 0 P0 P0 ⟨#[]⟩ 0 (-1) [] (-1) 0 w0).x = kqX P0 P0 ⟨#[]⟩ 0 (-1) [] (-1) ((0 : Nat) : Int) w0:=rfl
  have hs0 : (KW.mk 0 P0 P0 ⟨#[]⟩ 0 (-1) [] (-1) 0 w0).sure = ⟨#[]⟩:=rfl
  have eta0 : (⟨(kqX P0 P0 ⟨#[]⟩ 0 (-1) [] (-1) ((0 : Nat) : Int) w0).g.d,(kqX P0 P0 ⟨#[]⟩ 0 (-1) [] (-1) ((0 : Nat) : Int) w0).g.f,(kqX P0 P0 ⟨#[]⟩ 0 (-1) [] (-1) ((0 : Nat) : Int) w0).g.t,(kqX P0 P0 ⟨#[]⟩ 0 (-1) [] (-1) ((0 : Nat) : Int) w0).g.b,(kqX P0 P0 ⟨#[]⟩ 0 (-1) [] (-1) ((0 : Nat) : Int) w0).g.a,(kqX P0 P0 ⟨#[]⟩ 0 (-1) [] (-1) ((0 : Nat) : Int) w0).g.R,false⟩ : Lg) = (kqX P0 P0 ⟨#[]⟩ 0 (-1) [] (-1) ((0 : Nat) : Int) w0).g:=rfl
  have hdn0 : (kqX P0 P0 ⟨#[]⟩ 0 (-1) [] (-1) ((0 : Nat) : Int) w0).g.down = false:=rfl
  have n80' : newD 80 = kqD P0 P0 0 [] (-1) ((0 : Nat) : Int) 0:=n80
  rw [← hx0] at e0 eta0 hdn0
  clear n80
  generalize kqD P0 P0 0 [] (-1) ((0 : Nat) : Int) 0 = D0 at *
  simp only [AH.SD,AH.SE,AOp.call?,AOp.next?,bstep,AV.cells,unAV,binAV,retQ,retV,AH.sliceElems,AH.bytesOf,AH.strOp,AH.bound,AH.missQ,AH.minmaxAV,AH.readOf,AH.effOf,simprocAttr,AH.SP,AH.PD,AV.inB,vstep,vw,shift,newOnes,rowsM,blkIn,rwB,@flat_lts,AV.lt,AV.lts,Nat.sub_self,AH.SO,sawakeT_eq,c4,newT_eq,n80',dkM,sopN_p,sopT_p,lgR_eq,lgU_eq,Lg.eta,ne4,no4,soR_eq,soS_eq,So.eta,Bool.not_false,Bool.and_self,if_true,dkR_eq,dkB_eq,Dk.eta,ne_eq,Nat.reduceEqDiff,Nat.zero_ne_one,not_false_eq_true,hd0,e0,sopA,sopM,List.cons_append,List.nil_append,errA_nil]
  refine loop_do [0,1,2,3,4,5,6,7,8,9,10,11] [11,10,8,7,2,1,0] [] (α:=KW) (fun y =>LL.length - y.i) (fun y =>kwSt LL F T x0 x1 x2 x3 y.x y.sure y.i) (fun y =>y.i ≤ LL.length ∧ y.f = -1 ∧ y.I (10 * y.i)) ⟨0,P0,P0,⟨#[]⟩,0,-1,[],-1,0,w0⟩ ⟨Nat.zero_le _,rfl,i0,by simp only; decide,by simp only; decide,by simp only; decide⟩ (by
    simp only [AH.SD,AH.SE,AOp.call?,AOp.next?,bstep,AV.cells,unAV,binAV,retQ,retV,AH.sliceElems,AH.bytesOf,AH.strOp,AH.bound,AH.missQ,AH.minmaxAV,AH.readOf,AH.effOf,simprocAttr,AH.SP,AH.PD,AV.inB,vstep,kwSt,kw7,kwR,hi,hr,hdn0,hs0]
    try rfl) ?_
  clear i0 e0 hd0 eta0 hdn0 hx0 hs0 n80' hm
  rintro X ⟨k,P,Q,s,b,a,W,f,t,w⟩ ⟨hk,rfl,hI,_,_,ht⟩ ih
  simp only at hk hI ht
  have hx : (KW.mk k P Q s b a W (-1) t w).x = kqX P Q s b a W (-1) t w:=rfl
  have hxs : (KW.mk k P Q s b a W (-1) t w).sure = s ++ catS W:=rfl
  simp only [AH.SD,AH.SE,AOp.call?,AOp.next?,bstep,AV.cells,unAV,binAV,retQ,retV,AH.sliceElems,AH.bytesOf,AH.strOp,AH.bound,AH.missQ,AH.minmaxAV,AH.readOf,AH.effOf,simprocAttr,AH.SP,AH.PD,AV.inB,vstep,vw,shift,newOnes,rowsM,blkIn,rwB,@flat_lts,AV.lt,AV.lts,Nat.sub_self,AH.SO,kwSt,kw7,kwR]
  rw [hx,hxs]
  cases c1 : decide ((k : Int) < (LL.length : Int))
  · simp only [AH.SD,AH.SE,AOp.call?,AOp.next?,bstep,AV.cells,unAV,binAV,retQ,retV,AH.sliceElems,AH.bytesOf,AH.strOp,AH.bound,AH.missQ,AH.minmaxAV,AH.readOf,AH.effOf,simprocAttr,AH.SP,AH.PD,AV.inB,vstep,vw,shift,newOnes,rowsM,blkIn,rwB,@flat_lts,AV.lt,AV.lts,Nat.sub_self,AH.SO]
    try trivial
  have hkl:=lt_of_dec c1
  have hk4 : k < 4:=by omega
  have wk:=wrapS (i:=k) (by omega)
  have done:=fun (P' Q' : List ByteArray) (s' : ByteArray) (b' a' : Int) (W' : List ByteArray) (t' : Nat) (w' : Int) (h : kqI P' Q' s' b' a' W' (10 * (k + 1))) (h2 : t' ≤ 64) =>ih ⟨k + 1,P',Q',s',b',a',W',-1,t',w'⟩ ⟨hkl,rfl,h,by simp only; decide,by simp only; decide,h2⟩ (by simp only; omega)
  simp only [KW.x,KW.sure] at done
  clear ih hx hxs
  by_cases hB : k < F.length ∧ k < T.length
  · obtain ⟨hF,hT⟩:=hB
    have d1 : decide ((k : Int) < (F.length : Int)) = true:=decide_eq_true (by omega)
    have d2 : decide ((k : Int) < (T.length : Int)) = true:=decide_eq_true (by omega)
    obtain ⟨f,e1,e2⟩:=mod_u2 F[k] (m:=60) (by decide) (by decide)
    obtain ⟨u,e3,e4⟩:=mod_u2 T[k] (m:=65) (by decide) (by decide)
    have hgF : (F.map liC).getD k [] = liC F[k]:=getD_enc hF
    have hgT : (T.map liC).getD k [] = liC T[k]:=getD_enc hT
    have eF : fuD (kqX P Q s b a W (-1) t w).g.d f u = (kqX P Q s b a W f u w).g.d:=kq_fuse (by omega) (by omega)
    have hq:=kq_q (P:=P) (Q:=Q) (s:=s) (b:=b) (a:=a) (W:=W) (f:=-1) (t:=t) (w:=w) (f':=f) (t':=u) (w':=w)
    iterate 4 ((try simp only [AH.SD,AH.SE,AOp.call?,AOp.next?,bstep,AV.cells,unAV,binAV,retQ,retV,AH.sliceElems,AH.bytesOf,AH.strOp,AH.bound,AH.missQ,AH.minmaxAV,AH.readOf,AH.effOf,simprocAttr,AH.SP,AH.PD,AV.inB,vstep,vw,shift,newOnes,rowsM,blkIn,rwB,@flat_lts,AV.lt,AV.lts,Nat.sub_self,AH.SO,d1,d2,hgF,hgT,liC_eq,e1,e3,fuseNT_p,fuseT_p,lgR_eq,lgU_eq,Lg.eta,ne4,no4,soR_eq,soS_eq,So.eta,Bool.not_false,Bool.and_self,if_true,dkR_eq,dkB_eq,Dk.eta,ne_eq,Nat.reduceEqDiff,Nat.zero_ne_one,not_false_eq_true,eF,dkM,hq.z,hq.s,hq.b,hq.a,hq.dn,hq.gf,hq.gt,hq.gb,hq.ga,hq.gR,hq.gd,List.cons_append,List.nil_append]); repeat ((with_reducible refine And.intro ?_ ?_); focus (first | rfl | decide | omega | (simp only [List.length_map,List.length_set,and_true]; omega))))
    refine loop_atM (kw_inner LL F T x0 x1 x2 x3 k hkl h4 (hg k hkl) hi hr ⟨0,P,Q,s,b,a,W,f,u,w⟩ ⟨rfl,hI,by simp only; omega,by simp only; omega,by simp only; omega⟩ rfl (by
      simp only [AH.SD,AH.SE,AOp.call?,AOp.next?,bstep,AV.cells,unAV,binAV,retQ,retV,AH.sliceElems,AH.bytesOf,AH.strOp,AH.bound,AH.missQ,AH.minmaxAV,AH.readOf,AH.effOf,simprocAttr,AH.SP,AH.PD,AV.inB,vstep,kw2St,kw7,kwR,KW.x,KW.sure,hi,hr]
      try rfl) ?_ ?_ ?_) (by unfold F4; rfl)
    · intro st h
      simp only [AH.SD,AH.SE,AOp.call?,AOp.next?,bstep,AV.cells,unAV,binAV,retQ,retV,AH.sliceElems,AH.bytesOf,AH.strOp,AH.bound,AH.missQ,AH.minmaxAV,AH.readOf,AH.effOf,simprocAttr,AH.SP,AH.PD,AV.inB,vstep,vw,shift,newOnes,rowsM,blkIn,rwB,@flat_lts,AV.lt,AV.lts,Nat.sub_self,AH.SO,h]
    · intro y st hy hst
      refine loop_atM (kw_rest1 LL F T x0 x1 x2 x3 k hk4 _ _ _ (.inr ⟨y,hy,rfl,rfl,rfl⟩) rfl hst ?_) (by unfold F4; rfl)
      intro st2 P' Q' s' b' a' W' w' t' j1 j2 j3 c hI' ht' hn
      obtain ⟨n0,n1,n2,n7,n8,n10,n11,nmem⟩:=hn
      have d:=done P' Q' s' b' a' W' t' w' hI' ht'
      have hdn : (kqX P' Q' s' b' a' W' (-1) t' w').g.down = false:=rfl
      simp only [kwSt,kw7,kwR,List.cons_append,List.nil_append,hdn] at d
      clear hdn hst
      generalize kqX P' Q' s' b' a' W' (-1) t' w' = X4 at *
      simp only [AH.SD,AH.SE,AOp.call?,AOp.next?,bstep,AV.cells,unAV,binAV,retQ,retV,AH.sliceElems,AH.bytesOf,AH.strOp,AH.bound,AH.missQ,AH.minmaxAV,AH.readOf,AH.effOf,simprocAttr,AH.SP,AH.PD,AV.inB,vstep,vw,shift,newOnes,rowsM,blkIn,rwB,@flat_lts,AV.lt,AV.lts,Nat.sub_self,AH.SO,n0,n1,n2,n7,n8,n10,n11,nmem,tget_terase_ne,ne_eq,Nat.reduceEqDiff,not_false_eq_true,wk,kw7,kwR2,List.cons_append,List.nil_append]
      refine gc_auto [0,1,2,3,4,5,6,7,8,12,13,14] [11,10,8,7,2,1,0] [] ?_
      simp only [AH.SD,AH.SE,AOp.call?,AOp.next?,bstep,AV.cells,unAV,binAV,retQ,retV,AH.sliceElems,AH.bytesOf,AH.strOp,AH.bound,AH.missQ,AH.minmaxAV,AH.readOf,AH.effOf,simprocAttr,AH.SP,AH.PD,AV.inB,vstep,hi,hr,n0,n1,n2,n7,n8,n10,n11,tget_terase_ne,ne_eq,Nat.reduceEqDiff,not_false_eq_true]
      exact d
    · intro Y sure last st hF hst
      refine loop_atM (kw_rest1 LL F T x0 x1 x2 x3 k hk4 _ _ _ (.inl hF) rfl hst ?_) (by unfold F4; rfl)
      intro st2 P' Q' s' b' a' W' w' t' j1 j2 j3 c hI' ht' hn
      obtain ⟨n0,n1,n2,n7,n8,n10,n11,nmem⟩:=hn
      have d:=done P' Q' s' b' a' W' t' w' hI' ht'
      have hdn : (kqX P' Q' s' b' a' W' (-1) t' w').g.down = false:=rfl
      simp only [kwSt,kw7,kwR,List.cons_append,List.nil_append,hdn] at d
      clear hdn hst
      generalize kqX P' Q' s' b' a' W' (-1) t' w' = X4 at *
      simp only [AH.SD,AH.SE,AOp.call?,AOp.next?,bstep,AV.cells,unAV,binAV,retQ,retV,AH.sliceElems,AH.bytesOf,AH.strOp,AH.bound,AH.missQ,AH.minmaxAV,AH.readOf,AH.effOf,simprocAttr,AH.SP,AH.PD,AV.inB,vstep,vw,shift,newOnes,rowsM,blkIn,rwB,@flat_lts,AV.lt,AV.lts,Nat.sub_self,AH.SO,n0,n1,n2,n7,n8,n10,n11,nmem,tget_terase_ne,ne_eq,Nat.reduceEqDiff,not_false_eq_true,wk,kw7,kwR2,List.cons_append,List.nil_append]
      refine gc_auto [0,1,2,3,4,5,6,7,8,12,13,14] [11,10,8,7,2,1,0] [] ?_
      simp only [AH.SD,AH.SE,AOp.call?,AOp.next?,bstep,AV.cells,unAV,binAV,retQ,retV,AH.sliceElems,AH.bytesOf,AH.strOp,AH.bound,AH.missQ,AH.minmaxAV,AH.readOf,AH.effOf,simprocAttr,AH.SP,AH.PD,AV.inB,vstep,hi,hr,n0,n1,n2,n7,n8,n10,n11,tget_terase_ne,ne_eq,Nat.reduceEqDiff,not_false_eq_true]
      exact d
  have hP : (bif decide ((k : Int) < (F.length : Int)) then decide ((k : Int) < (T.length : Int)) else false) = false:=by
    by_cases hF : k < F.length
    · rw [decide_eq_false (show ¬ (k : Int) < (T.length : Int) by have:=fun h =>hB ⟨hF,h⟩; omega)]; cases decide ((k : Int) < (F.length : Int)) <;> rfl
    · rw [decide_eq_false (show ¬ (k : Int) < (F.length : Int) by omega)]; rfl
  cases d1 : decide ((k : Int) < (F.length : Int))
  · iterate 3 ((try simp only [AH.SD,AH.SE,AOp.call?,AOp.next?,bstep,AV.cells,unAV,binAV,retQ,retV,AH.sliceElems,AH.bytesOf,AH.strOp,AH.bound,AH.missQ,AH.minmaxAV,AH.readOf,AH.effOf,simprocAttr,AH.SP,AH.PD,AV.inB,vstep,vw,shift,newOnes,rowsM,blkIn,rwB,@flat_lts,AV.lt,AV.lts,Nat.sub_self,AH.SO,d1]); repeat ((with_reducible refine And.intro ?_ ?_); focus (first | rfl | decide | omega | (simp only [List.length_map,List.length_set,and_true]; omega))))
    refine loop_atM (kw_inner LL F T x0 x1 x2 x3 k hkl h4 (hg k hkl) hi hr ⟨0,P,Q,s,b,a,W,-1,t,w⟩ ⟨rfl,hI,by simp only; omega,by simp only; omega,by simp only; omega⟩ rfl (by
      simp only [AH.SD,AH.SE,AOp.call?,AOp.next?,bstep,AV.cells,unAV,binAV,retQ,retV,AH.sliceElems,AH.bytesOf,AH.strOp,AH.bound,AH.missQ,AH.minmaxAV,AH.readOf,AH.effOf,simprocAttr,AH.SP,AH.PD,AV.inB,vstep,kw2St,kw7,kwR,KW.x,KW.sure,hi,hr]
      try rfl) ?_ ?_ ?_) (by unfold F4; rfl)
    · intro st h
      simp only [AH.SD,AH.SE,AOp.call?,AOp.next?,bstep,AV.cells,unAV,binAV,retQ,retV,AH.sliceElems,AH.bytesOf,AH.strOp,AH.bound,AH.missQ,AH.minmaxAV,AH.readOf,AH.effOf,simprocAttr,AH.SP,AH.PD,AV.inB,vstep,vw,shift,newOnes,rowsM,blkIn,rwB,@flat_lts,AV.lt,AV.lts,Nat.sub_self,AH.SO,h]
    · intro y st hy hst
      refine loop_atM (kw_rest1 LL F T x0 x1 x2 x3 k hk4 _ _ _ (.inr ⟨y,hy,rfl,rfl,rfl⟩) rfl hst ?_) (by unfold F4; rfl)
      intro st2 P' Q' s' b' a' W' w' t' j1 j2 j3 c hI' ht' hn
      obtain ⟨n0,n1,n2,n7,n8,n10,n11,nmem⟩:=hn
      have d:=done P' Q' s' b' a' W' t' w' hI' ht'
      have hdn : (kqX P' Q' s' b' a' W' (-1) t' w').g.down = false:=rfl
      simp only [kwSt,kw7,kwR,List.cons_append,List.nil_append,hdn] at d
      clear hdn hst
      generalize kqX P' Q' s' b' a' W' (-1) t' w' = X4 at *
      simp only [AH.SD,AH.SE,AOp.call?,AOp.next?,bstep,AV.cells,unAV,binAV,retQ,retV,AH.sliceElems,AH.bytesOf,AH.strOp,AH.bound,AH.missQ,AH.minmaxAV,AH.readOf,AH.effOf,simprocAttr,AH.SP,AH.PD,AV.inB,vstep,vw,shift,newOnes,rowsM,blkIn,rwB,@flat_lts,AV.lt,AV.lts,Nat.sub_self,AH.SO,n0,n1,n2,n7,n8,n10,n11,nmem,tget_terase_ne,ne_eq,Nat.reduceEqDiff,not_false_eq_true,wk,kw7,kwR2,List.cons_append,List.nil_append]
      refine gc_auto [0,1,2,3,4,5,6,7,8,12,13,14] [11,10,8,7,2,1,0] [] ?_
      simp only [AH.SD,AH.SE,AOp.call?,AOp.next?,bstep,AV.cells,unAV,binAV,retQ,retV,AH.sliceElems,AH.bytesOf,AH.strOp,AH.bound,AH.missQ,AH.minmaxAV,AH.readOf,AH.effOf,simprocAttr,AH.SP,AH.PD,AV.inB,vstep,hi,hr,n0,n1,n2,n7,n8,n10,n11,tget_terase_ne,ne_eq,Nat.reduceEqDiff,not_false_eq_true]
      exact d
    · intro Y sure last st hF hst
      refine loop_atM (kw_rest1 LL F T x0 x1 x2 x3 k hk4 _ _ _ (.inl hF) rfl hst ?_) (by unfold F4; rfl)
      intro st2 P' Q' s' b' a' W' w' t' j1 j2 j3 c hI' ht' hn
      obtain ⟨n0,n1,n2,n7,n8,n10,n11,nmem⟩:=hn
      have d:=done P' Q' s' b' a' W' t' w' hI' ht'
      have hdn : (kqX P' Q' s' b' a' W' (-1) t' w').g.down = false:=rfl
      simp only [kwSt,kw7,kwR,List.cons_append,List.nil_append,hdn] at d
      clear hdn hst
      generalize kqX P' Q' s' b' a' W' (-1) t' w' = X4 at *
      simp only [AH.SD,AH.SE,AOp.call?,AOp.next?,bstep,AV.cells,unAV,binAV,retQ,retV,AH.sliceElems,AH.bytesOf,AH.strOp,AH.bound,AH.missQ,AH.minmaxAV,AH.readOf,AH.effOf,simprocAttr,AH.SP,AH.PD,AV.inB,vstep,vw,shift,newOnes,rowsM,blkIn,rwB,@flat_lts,AV.lt,AV.lts,Nat.sub_self,AH.SO,n0,n1,n2,n7,n8,n10,n11,nmem,tget_terase_ne,ne_eq,Nat.reduceEqDiff,not_false_eq_true,wk,kw7,kwR2,List.cons_append,List.nil_append]
      refine gc_auto [0,1,2,3,4,5,6,7,8,12,13,14] [11,10,8,7,2,1,0] [] ?_
      simp only [AH.SD,AH.SE,AOp.call?,AOp.next?,bstep,AV.cells,unAV,binAV,retQ,retV,AH.sliceElems,AH.bytesOf,AH.strOp,AH.bound,AH.missQ,AH.minmaxAV,AH.readOf,AH.effOf,simprocAttr,AH.SP,AH.PD,AV.inB,vstep,hi,hr,n0,n1,n2,n7,n8,n10,n11,tget_terase_ne,ne_eq,Nat.reduceEqDiff,not_false_eq_true]
      exact d
  · rw [d1,cond_true] at hP
    iterate 3 ((try simp only [AH.SD,AH.SE,AOp.call?,AOp.next?,bstep,AV.cells,unAV,binAV,retQ,retV,AH.sliceElems,AH.bytesOf,AH.strOp,AH.bound,AH.missQ,AH.minmaxAV,AH.readOf,AH.effOf,simprocAttr,AH.SP,AH.PD,AV.inB,vstep,vw,shift,newOnes,rowsM,blkIn,rwB,@flat_lts,AV.lt,AV.lts,Nat.sub_self,AH.SO,d1,hP]); repeat ((with_reducible refine And.intro ?_ ?_); focus (first | rfl | decide | omega | (simp only [List.length_map,List.length_set,and_true]; omega))))
    refine loop_atM (kw_inner LL F T x0 x1 x2 x3 k hkl h4 (hg k hkl) hi hr ⟨0,P,Q,s,b,a,W,-1,t,w⟩ ⟨rfl,hI,by simp only; omega,by simp only; omega,by simp only; omega⟩ rfl (by
      simp only [AH.SD,AH.SE,AOp.call?,AOp.next?,bstep,AV.cells,unAV,binAV,retQ,retV,AH.sliceElems,AH.bytesOf,AH.strOp,AH.bound,AH.missQ,AH.minmaxAV,AH.readOf,AH.effOf,simprocAttr,AH.SP,AH.PD,AV.inB,vstep,kw2St,kw7,kwR,KW.x,KW.sure,hi,hr]
      try rfl) ?_ ?_ ?_) (by unfold F4; rfl)
    · intro st h
      simp only [AH.SD,AH.SE,AOp.call?,AOp.next?,bstep,AV.cells,unAV,binAV,retQ,retV,AH.sliceElems,AH.bytesOf,AH.strOp,AH.bound,AH.missQ,AH.minmaxAV,AH.readOf,AH.effOf,simprocAttr,AH.SP,AH.PD,AV.inB,vstep,vw,shift,newOnes,rowsM,blkIn,rwB,@flat_lts,AV.lt,AV.lts,Nat.sub_self,AH.SO,h]
    · intro y st hy hst
      refine loop_atM (kw_rest1 LL F T x0 x1 x2 x3 k hk4 _ _ _ (.inr ⟨y,hy,rfl,rfl,rfl⟩) rfl hst ?_) (by unfold F4; rfl)
      intro st2 P' Q' s' b' a' W' w' t' j1 j2 j3 c hI' ht' hn
      obtain ⟨n0,n1,n2,n7,n8,n10,n11,nmem⟩:=hn
      have d:=done P' Q' s' b' a' W' t' w' hI' ht'
      have hdn : (kqX P' Q' s' b' a' W' (-1) t' w').g.down = false:=rfl
      simp only [kwSt,kw7,kwR,List.cons_append,List.nil_append,hdn] at d
      clear hdn hst
      generalize kqX P' Q' s' b' a' W' (-1) t' w' = X4 at *
      simp only [AH.SD,AH.SE,AOp.call?,AOp.next?,bstep,AV.cells,unAV,binAV,retQ,retV,AH.sliceElems,AH.bytesOf,AH.strOp,AH.bound,AH.missQ,AH.minmaxAV,AH.readOf,AH.effOf,simprocAttr,AH.SP,AH.PD,AV.inB,vstep,vw,shift,newOnes,rowsM,blkIn,rwB,@flat_lts,AV.lt,AV.lts,Nat.sub_self,AH.SO,n0,n1,n2,n7,n8,n10,n11,nmem,tget_terase_ne,ne_eq,Nat.reduceEqDiff,not_false_eq_true,wk,kw7,kwR2,List.cons_append,List.nil_append]
      refine gc_auto [0,1,2,3,4,5,6,7,8,12,13,14] [11,10,8,7,2,1,0] [] ?_
      simp only [AH.SD,AH.SE,AOp.call?,AOp.next?,bstep,AV.cells,unAV,binAV,retQ,retV,AH.sliceElems,AH.bytesOf,AH.strOp,AH.bound,AH.missQ,AH.minmaxAV,AH.readOf,AH.effOf,simprocAttr,AH.SP,AH.PD,AV.inB,vstep,hi,hr,n0,n1,n2,n7,n8,n10,n11,tget_terase_ne,ne_eq,Nat.reduceEqDiff,not_false_eq_true]
      exact d
    · intro Y sure last st hF hst
      refine loop_atM (kw_rest1 LL F T x0 x1 x2 x3 k hk4 _ _ _ (.inl hF) rfl hst ?_) (by unfold F4; rfl)
      intro st2 P' Q' s' b' a' W' w' t' j1 j2 j3 c hI' ht' hn
      obtain ⟨n0,n1,n2,n7,n8,n10,n11,nmem⟩:=hn
      have d:=done P' Q' s' b' a' W' t' w' hI' ht'
      have hdn : (kqX P' Q' s' b' a' W' (-1) t' w').g.down = false:=rfl
      simp only [kwSt,kw7,kwR,List.cons_append,List.nil_append,hdn] at d
      clear hdn hst
      generalize kqX P' Q' s' b' a' W' (-1) t' w' = X4 at *
      simp only [AH.SD,AH.SE,AOp.call?,AOp.next?,bstep,AV.cells,unAV,binAV,retQ,retV,AH.sliceElems,AH.bytesOf,AH.strOp,AH.bound,AH.missQ,AH.minmaxAV,AH.readOf,AH.effOf,simprocAttr,AH.SP,AH.PD,AV.inB,vstep,vw,shift,newOnes,rowsM,blkIn,rwB,@flat_lts,AV.lt,AV.lts,Nat.sub_self,AH.SO,n0,n1,n2,n7,n8,n10,n11,nmem,tget_terase_ne,ne_eq,Nat.reduceEqDiff,not_false_eq_true,wk,kw7,kwR2,List.cons_append,List.nil_append]
      refine gc_auto [0,1,2,3,4,5,6,7,8,12,13,14] [11,10,8,7,2,1,0] [] ?_
      simp only [AH.SD,AH.SE,AOp.call?,AOp.next?,bstep,AV.cells,unAV,binAV,retQ,retV,AH.sliceElems,AH.bytesOf,AH.strOp,AH.bound,AH.missQ,AH.minmaxAV,AH.readOf,AH.effOf,simprocAttr,AH.SP,AH.PD,AV.inB,vstep,hi,hr,n0,n1,n2,n7,n8,n10,n11,tget_terase_ne,ne_eq,Nat.reduceEqDiff,not_false_eq_true]
      exact d
end Go.Proofs.YthapdikdeoeplaaGreatDoor.Z7
end
