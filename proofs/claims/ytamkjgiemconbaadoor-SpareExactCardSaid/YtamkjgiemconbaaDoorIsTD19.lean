import Derived.Test.YtamkjgiemconbaaDoorIsD19
open Go AH
set_option linter.unusedSimpArgs false
set_option maxRecDepth 100000
namespace Go.Proofs.YtamkjgiemconbaaDoor.D19
abbrev errsL : List Nat:=[0]
def isT : RT:=fun args M =>match args with
  | [.nili,.err j] =>bif errsL.contains j then some (.bool false,[]) else none
  | [.err i,.err j] =>bif errsL.contains j && errsL.contains i then some (.bool (i == j),[]) else none
  | _ =>none
theorem mem_errs {j : Nat} (h : errsL.contains j = true) : j ∈ S0.errs:=by
  have : S0.errs = errsL:=rfl
  rw [this]
  simpa using h
theorem vr_err {T : TypeId} {eb : Nat → Addr} {φ : Emb} {i : Nat} {u : Value} (h : VR T eb φ (.err i) u) : u = .iface T (.pointer (some (eb i))):=by cases h; rfl
theorem vr_nili {T : TypeId} {eb : Nat → Addr} {φ : Emb} {u : Value} (h : VR T eb φ .nili u) : u = .nilIface:=by cases h; rfl
theorem two_args {T : TypeId} {eb : Nat → Addr} {φ : Emb} {a b : AV} {us : Array Value} (h : VRs T eb φ [a,b] us.toList) : ∃ u v,us = #[u,v] ∧ VR T eb φ a u ∧ VR T eb φ b v:=by
  obtain ⟨l⟩:=us
  cases h with
  | cons _ u _ us h1 h2 =>
    cases h2 with
    | cons _ v _ us h3 h4 =>
      cases h4
      exact ⟨u,v,rfl,h1,h3⟩
set_option maxRecDepth 100000 in
theorem isT_ok : ReadF S0 26 isT:=by
  have fin : ∀ {eb : Nat → Addr} {φ : Emb} {own : Nat → Prop} {w0 w : World} {us : Array Value} {M : Nat → Option Blk} {b : Bool},MR S0.errT eb φ M own w → Keeps own w0 w → Calls Tryd.prog 26 us w (fun e w' =>e = .returned (.bool b) ∧ w' = w) →
      CallRes S0.P 26 us w fun r w' =>VR S0.errT eb φ (.bool b) r ∧ MR S0.errT eb φ M own w' ∧ Keeps own w0 w':=by
    intro eb φ own w0 w us M b hM hk h
    refine CallRes.of_calls Tryd.func26 (by kernel_rfl) (by kernel_rfl) (h.mono ?_)
    rintro e w' ⟨rfl,rfl⟩
    exact ⟨_,rfl,.bool _,hM,hk⟩
  have lt : ∀ {own : Nat → Prop} {w0 w : World},Keeps own w0 w → ∀ {b : Nat} {o : Obj},w0.heap[b]? = some o → ¬ own b → w.heap[b]? = some o:=by
    intro own w0 w hk b o h hn
    rw [hk.kept b (Array.getElem?_eq_some_iff.1 h).1 hn]
    exact h
  intro args M v foot h
  unfold isT at h
  split at h
  · rename_i j
    cases hc : errsL.contains j with
    | false =>rw [hc] at h; cases h
    | true =>
      rw [hc] at h
      simp only [cond_true,Option.some.injEq,Prod.mk.injEq] at h
      obtain ⟨rfl,rfl⟩:=h
      refine ⟨fun M' _ =>by simp only [isT,hc,cond_true],fun eb φ own w0 w us hA hus hM hk => ?_⟩
      obtain ⟨u,v,rfl,h1,h2⟩:=two_args hus
      rw [vr_nili h1,vr_err h2]
      exact fin hM hk (is_nil (eb j) w)
  · rename_i i j
    cases hc : (errsL.contains j && errsL.contains i) with
    | false =>rw [hc] at h; cases h
    | true =>
      rw [hc] at h
      simp only [cond_true,Option.some.injEq,Prod.mk.injEq] at h
      obtain ⟨rfl,rfl⟩:=h
      refine ⟨fun M' _ =>by simp only [isT,hc,cond_true],fun eb φ own w0 w us hA hus hM hk => ?_⟩
      obtain ⟨u,v,rfl,h1,h2⟩:=two_args hus
      simp only [Bool.and_eq_true] at hc
      obtain ⟨hj,hi⟩:=hc
      rw [vr_err h1,vr_err h2]
      cases hij : (i == j) with
      | true =>
        have : i = j:=by simpa using hij
        subst this
        exact fin hM hk (is_same (eb i) w)
      | false =>
        have hne : eb i ≠ eb j:=fun e =>by
          have:=hA.inj i (mem_errs hi) j (mem_errs hj) e
          simp [this] at hij
        obtain ⟨c1,t1,x1⟩:=hA.txt i (mem_errs hi)
        obtain ⟨c2,t2,x2⟩:=hA.txt j (mem_errs hj)
        exact fin hM hk (is_other (eb i) (eb j) _ _ _ _ w hne (lt hk x1 (hA.eout i (mem_errs hi))) (lt hk x2 (hA.eout j (mem_errs hj))))
  · cases h
end Go.Proofs.YtamkjgiemconbaaDoor.D19
