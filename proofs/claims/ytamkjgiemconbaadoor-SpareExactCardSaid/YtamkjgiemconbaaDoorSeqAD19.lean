import Derived.Test.YtamkjgiemconbaaDoorSeqVD19
open Go AH Go.RowKit
set_option linter.unusedSimpArgs false
set_option maxRecDepth 100000
namespace Go.Proofs.YtamkjgiemconbaaDoor.D19
theorem app_ah {m : Mem} {b id : Nat} {ro : Bool} {es : List (AV × AV × Nat)} {c : Nat} (hb : mget m b = some (.row ro 1 [[.map id]])) (hm : mget m id = some (.map es c)) (h4 : ∀ e ∈ es,∃ cs : List AV,e.2.1 = .agg cs ∧ cs.length = 4)
    (hnd : (es.map (·.2.2)).Nodup) (hlt : ∀ e ∈ es,e.2.2 < c) (hl : es.length ≤ 1048576) {K : AV → Mem → Prop} (h0 : es = [] → K .nils m)
    (h1 : ∀ es' : List (AV × AV × Nat),es'.Perm es → es' ≠ [] → K (.slc m.length 0 es'.length none) (m ++ [some (.row false 4 (es'.map fun e =>Seq.cellsOf e.2.1))])) :
    CallA1 S0 90 [.nils,.fn 76 [] [.ptr b 0 0]] m K:=by
  intro eb φ own w0 w us hA hus hM hk hbd
  obtain ⟨u,hu⟩ : ∃ u,us.toList = u:=⟨_,rfl⟩
  rw [hu] at hus
  cases hus with
  | cons _ u1 _ us1 v1 hus =>
  cases hus with
  | cons _ u2 _ us2 v2 hus =>
  cases hus
  cases v1
  cases v2
  rename_i fs cs f1 f2
  cases fs with | mk fs =>
  cases cs with | mk cs =>
  simp only at f1 f2
  cases f1
  cases f2 with
  | cons _ u3 _ us3 v3 f2 =>
  cases f2
  cases v3
  rename_i hdb
  obtain ⟨mus,hw2,hr⟩:=hM.map hm
  obtain ⟨o,ho,arr,et,fr,rfl,hkk,hsz,hfit,hfz,hce⟩:=hM.blk b _ hb (.inl (by simp))
  obtain ⟨_,hc0⟩:=hce 0 _ rfl
  obtain ⟨uc,huc,hvc,_⟩:=hc0 0 _ rfl
  cases hvc
  rename_i hdm
  simp only [Nat.zero_mul,Nat.add_zero] at huc
  obtain rfl : us = #[.slice none 0 0,.func (.func 76) #[] #[.pointer (some ⟨φ.blk b,φ.base b,none⟩)]]:=by
    cases us
    simp only at hu
    subst hu
    simp
  have hown : ∀ b,w.heap.size ≤ b → own b:=fun b hb =>hk.new b (Nat.le_trans hk.size hb)
  have hcell : w.cell? ⟨φ.blk b,φ.base b,none⟩ = some (.map (some (φ.blk id))):=by
    unfold World.cell?
    simp only [ho,Option.isSome_none,Bool.false_eq_true,if_false]
    exact huc
  have hval : ∀ e ∈ mus.toList,e.val = (Seq.c4 e.val).av:=fun e he =>by
    obtain ⟨x,hx,_,hv,_⟩:=er_mem hr e he
    obtain ⟨cs,hcs,hl4⟩:=h4 x hx
    rw [hcs] at hv
    obtain ⟨y,hy,_⟩:=Seq.c4_of hv hl4
    exact Seq.c4_eq ⟨y,hy⟩
  have hlen:=Seq.er_len hr
  have hborn:=Seq.er_born hr
  have hltw : ∀ e ∈ mus.toList,e.born < c:=fun e he =>by
    obtain ⟨x,hx,_,_,hb⟩:=er_mem hr e he
    rw [← hb]; exact hlt x hx
  have hbl:=(Array.getElem?_eq_some_iff.1 ho).1
  have call:=(callsIn_wide (n:=3)).1 (app_in Fence.wide 3 trivial trivial rfl (Nat.le_refl _) (φ.blk b) (φ.base b) (φ.blk id) mus c (fun e =>Seq.c4 e.val) hval (by rw [hborn]; exact hnd) hltw (by rw [← Array.length_toList,hlen]; exact hl) w hbl hcell hw2)
  refine Seq.callRes_of Tryd.func90 rfl (by decide) (call.mono ?_)
  rintro e' w' ⟨v,xs,rfl,⟨S,hS,hxs⟩,hrow,hnil,hbel⟩
  obtain ⟨es',hp,hr'⟩:=Seq.er_perm hS hr
  have hlx : xs.length = es'.length:=by rw [hxs,List.length_map,Seq.er_len hr']
  refine ⟨v,rfl,?_⟩
  by_cases hz : es = []
  · have hx0 : xs = []:=by
      have : es' = []:=by rw [hz] at hp; exact hp.eq_nil
      rw [this] at hlx; exact List.eq_nil_of_length_eq_zero hlx
    obtain rfl:=hnil.2 hx0
    exact ⟨φ,.nils,m,h0 hz,.refl φ,.nils,hM.below hbel,hk.below hbel,hbd⟩
  · have hne' : es' ≠ []:=fun q =>hz (by rw [q] at hp; exact hp.symm.eq_nil)
    have hxne : xs ≠ []:=fun q =>hne' (List.eq_nil_of_length_eq_zero (by rw [← hlx,q]; rfl))
    have hL : (es'.map fun e =>Seq.cellsOf e.2.1).length = xs.length:=by rw [List.length_map,hlx]
    have hxr : ∀ (i : Nat) cs x,(es'.map fun e =>Seq.cellsOf e.2.1)[i]? = some cs → xs[i]? = some x → VRs S0.errT eb φ cs x.cells:=fun i cs x hi hxi =>by
      rw [List.getElem?_map,Option.map_eq_some_iff] at hi
      obtain ⟨e,he,rfl⟩:=hi
      rw [hxs,List.getElem?_map,Option.map_eq_some_iff] at hxi
      obtain ⟨u,hu,rfl⟩:=hxi
      obtain ⟨cs,hcs,hl4⟩:=h4 e (hp.mem_iff.1 (List.mem_of_getElem? he))
      have hv : VR S0.errT eb φ e.2.1 u.val:=by
        have gen : ∀ {es : List (AV × AV × Nat)} {us : List MapEntry},ER S0.errT eb φ es us → ∀ (i : Nat) e u,es[i]? = some e → us[i]? = some u → VR S0.errT eb φ e.2.1 u.val:=fun {es us} h =>by
          induction h with
          | nil =>intro i e u h; simp at h
          | cons k v s a b es us hk hv hr ih =>
            intro i e u h1 h2
            cases i with
            | zero =>
              simp only [List.getElem?_cons_zero,Option.some.injEq] at h1 h2
              subst h1; subst h2; exact hv
            | succ i =>exact ih i e u (by simpa using h1) (by simpa using h2)
        exact gen hr' i e u he hu
      rw [hcs] at hv ⊢
      obtain ⟨y,hy,hr4⟩:=Seq.c4_of hv hl4
      have : Seq.c4 u.val = y:=Seq.C4.av_inj ((Seq.c4_eq ⟨y,hy⟩).symm.trans hy)
      rw [this]; exact hr4
    obtain ⟨g,cap,cur,rfl,r1,r2,r3,r4,r5⟩:=Seq.row_new4 hL hxr hrow hxne
    have hn : ¬ φ.dom m.length:=fun q =>Nat.lt_irrefl _ (hbd _ q)
    have hfun : mget (m ++ [some (.row false 4 (es'.map fun e =>Seq.cellsOf e.2.1))]) = upd (mget m) m.length (some (.row false 4 (es'.map fun e =>Seq.cellsOf e.2.1))):=by
      funext i
      rw [mget_append]
      simp only [upd]
      by_cases h1 : i < m.length
      · rw [if_pos h1,if_neg (by omega)]
      · by_cases h2 : i = m.length
        · subst h2; rw [if_neg h1,if_pos rfl,Nat.sub_self]; rfl
        · rw [if_neg h1,if_neg h2]
          obtain ⟨j,hj⟩ : ∃ j,i - m.length = j + 1:=⟨i - m.length - 1,by omega⟩
          rw [hj,mget,mget_nil]
          cases hq : mget m i with
          | none =>rfl
          | some b =>exact absurd (mget_some hq).1 h1
    refine ⟨φ.add m.length g 0 4 (cap * 4),_,_,h1 es' hp hne',Emb.add_ext hn,?_,?_,hk.below hbel,?_⟩
    · have:=VR.slc (T:=S0.errT) (eb:=eb) (φ:=φ.add m.length g 0 4 (cap * 4)) m.length 0 xs.length none cap (.inr rfl) r3 (fun _ q =>by cases q) (by simp [Emb.add])
      rw [← hlx]
      simpa [Emb.add] using this
    · rw [hfun]
      exact hM.addB hbel hown hn r1 r2 (r5 _ _ (Emb.add_ext hn) (by simp [Emb.add]) (by simp [Emb.add]) (by simp [Emb.add]))
    · rintro i (hi | rfl)
      · have:=hbd i hi
        rw [List.length_append,List.length_singleton]; omega
      · rw [List.length_append,List.length_singleton]; omega
end Go.Proofs.YtamkjgiemconbaaDoor.D19
