import Derived.Test.YtkbjfhkhbcgkgaaDoorFVGB33
open Go AH
set_option linter.unusedSimpArgs false
namespace Go.Proofs.YtkbjfhkhbcgkgaaDoor.B33
def roM (l0 : List Nat) (M : Nat → Option Blk) : List Nat → Mem
  | [] => []
  | id :: r =>(M id).map (fun b =>(b.ren (posN l0)).asRo true) :: roM l0 M r
def rowsB (l0 : List Nat) (M : Nat → Option Blk) : List Nat → Bool
  | [] =>true
  | id :: r =>(match M id with
    | some (.row _ _ es) =>es.all (AV.insB (inN l0))
    | _ =>false) && rowsB l0 M r
theorem roM_get (l0 : List Nat) (M : Nat → Option Blk) : ∀ (l : List Nat) (j : Nat),mget (roM l0 M l) j = match l[j]? with
    | some id =>(M id).map (fun b =>(b.ren (posN l0)).asRo true)
    | none =>none
  | [],j =>by cases j <;> rfl
  | a :: l,0 =>by simp [roM,mget]
  | a :: l,j + 1 =>by simp only [roM,mget,roM_get l0 M l j,List.getElem?_cons_succ]
theorem roM_len (l0 : List Nat) (M : Nat → Option Blk) : ∀ l : List Nat,(roM l0 M l).length = l.length
  | [] =>rfl
  | a :: l =>by simp [roM,roM_len l0 M l]
theorem rowsB_spec {l0 : List Nat} {M : Nat → Option Blk} : ∀ {l : List Nat},rowsB l0 M l = true → ∀ {id : Nat},id ∈ l → ∃ ro k es,M id = some (.row ro k es) ∧ es.all (AV.insB (inN l0)) = true
  | a :: l,h,id,hid =>by
    simp only [rowsB,Bool.and_eq_true] at h
    rcases List.mem_cons.1 hid with e | e
    · subst e
      cases hm : M id with
      | none =>rw [hm] at h; cases h.1
      | some b =>
        rw [hm] at h
        cases b with
        | row ro k es =>exact ⟨ro,k,es,rfl,h.1⟩
        | map _ _ =>cases h.1
        | iter _ _ _ _ =>cases h.1
    · exact rowsB_spec h.2 e
theorem mr_ro {S : AH.Sys} {eb : Nat → Addr} {φ : Emb} {M : Nat → Option Blk} {own own' : Nat → Prop} {w : World} {l : List Nat} (h : MR S.errT eb φ M own w) (hd : distN l = true) (hB : rowsB l M l = true) :
    MR S.errT eb (φ.pack l) (mget (roM l M l)) own' w:=by
  have key : ∀ {j : Nat} {b : Blk},mget (roM l M l) j = some b → ∃ id ro k es,l[j]? = some id ∧ M id = some (.row ro k es) ∧ b = .row true k (es.map (AV.rens (posN l))) ∧ es.all (AV.insB (inN l)) = true:=fun {j b} hj =>by
    rw [roM_get] at hj
    split at hj
    · rename_i id hid
      obtain ⟨ro,k,es,h1,h2⟩:=rowsB_spec hB (List.mem_of_getElem? hid)
      rw [h1] at hj
      simp only [Option.map_some,Option.some.injEq,Blk.ren,Blk.asRo] at hj
      exact ⟨id,ro,k,es,hid,h1,hj.symm,h2⟩
    · cases hj
  have pos : ∀ {j id : Nat},l[j]? = some id → posN l id = j:=fun {j id} hj =>distN_inj hd (posN_spec (inN_iff.2 (List.mem_of_getElem? hj))) hj
  have blk : ∀ {j id : Nat},l[j]? = some id → (φ.pack l).blk j = φ.blk id:=fun {j id} hj =>by
    simp only [Emb.pack,List.getD_eq_getElem?_getD,hj,Option.getD_some]
  have mv:=moves_pack (φ:=φ) (l:=l)
  refine ⟨fun j b hj => ?_,fun j ro k es hj => ?_,fun j b hj hs => ?_,fun j b hj hr hs => ?_,fun i j b b' hi hj hne hr hs hs2 => ?_⟩
  · obtain ⟨id,ro,k,es,h1,h2,_⟩:=key hj
    exact ⟨id,h1,h.dom id _ h2⟩
  · obtain ⟨id,ro',k',es',h1,h2,h3,_⟩:=key hj
    simp only [Blk.row.injEq] at h3
    obtain ⟨rfl,rfl,rfl⟩:=h3
    have:=Blk.kk_ren mv (h.dom id _ h2) (inN_iff.2 (List.mem_of_getElem? h1)) (h.kk id _ _ _ h2)
    rwa [pos h1] at this
  · obtain ⟨id,ro,k,es,h1,h2,rfl,h4⟩:=key hj
    have sol : (Blk.row ro k es).solid φ id:=by
      refine (Blk.solid_ren mv (h.dom id _ h2) (inN_iff.2 (List.mem_of_getElem? h1)) (b:=.row ro k es)).1 ?_
      rw [pos h1]; exact hs
    obtain ⟨o,ho,hbr⟩:=h.blk id _ h2 sol
    refine ⟨o,by rw [blk h1]; exact ho,?_⟩
    have:=br_ren (S:=S) (eb:=eb) mv (h.dom id _ h2) (inN_iff.2 (List.mem_of_getElem? h1)) (b:=.row ro k es) h4 hbr true
    rw [pos h1] at this
    exact this
  · obtain ⟨id,ro,k,es,h1,h2,rfl,_⟩:=key hj
    cases hr
  · obtain ⟨id,ro,k,es,h1,h2,rfl,_⟩:=key hi
    cases hr
theorem readG {S : AH.Sys} {g : FuncId} {f : RT} (h : ∀ args M v foot,f args M = some (v,foot) →
    (∀ M',(∀ id ∈ foot,M' id = M id) → f args M' = some (v,foot)) ∧ v.lt 0 = true ∧ ∃ l : List Nat,distN l = true ∧ rowsB l M l = true ∧ AV.insB (inN l) args = true ∧
      CallA1 S g (AV.rens (posN l) args) (roM l M l) fun r _ =>r = v) : ReadF S g f:=by
  intro args M v foot e
  obtain ⟨h1,h2,l,h3,h4,h5,h6⟩:=h args M v foot e
  refine ⟨h1,fun eb φ own w0 w us hA hus hM hk => ?_⟩
  refine UponV.mono ?_ (h6 eb (φ.pack l) _ w w us (hA.fresh hk) (vrs_ren moves_pack hus h5) (mr_ro hM h3 h4) (.refl fun _ h =>h) fun i hi => ?_)
  · rintro r w' ⟨φ',v',m',rfl,_,hr,_,hk',_⟩
    exact ⟨vr_dom h2 hr φ,hM.over hk',hk.over hk'⟩
  · rw [roM_len]
    obtain ⟨id,hid,_⟩:=hi
    exact (List.getElem?_eq_some_iff.1 hid).1
end Go.Proofs.YtkbjfhkhbcgkgaaDoor.B33
