import Derived.Test.YtamkjgiemconbaaDoorAHb
import Derived.RowKit3
import Derived.ChangeSame
import Derived.OpenShut
import Derived.Carry
import Derived.LaidLaws
import Derived.MakeChecks
set_option linter.unusedSimpArgs false
namespace AH
open Go
variable {S : Sys} {eb : Nat → Addr} {own : Nat → Prop} {w0 w : World} {φ0 φ : Emb} {nt : Nat} {st : St} {a : Act} {K : St → Prop} {C : Ctx}
structure CtxOK (S : Sys) (C : Ctx) : Prop where
  calls : CallsA S C.call
  reads : ReadA S C.read
  effs : EffA S C.eff
  mixed : S.P.follows .mixedOrders = true
theorem thenQ_then {P : Program} {b : Code} {Qb : Exit → Act → World → Prop} {K : St → Prop} {Q : Exit → St → Prop} (hK : ∀ st a w,K st → Rel S eb own w0 φ0 nt st a w → b.wp P Qb a w) (hQ : ∀ e a w,Lift S eb own w0 φ0 nt Q e a w → Qb e a w) :
    ∀ e a w,Lift S eb own w0 φ0 nt (thenQ K Q) e a w → Exit.then (b.wp P Qb) Qb e a w:=by
  rintro e a w ⟨st,h1,h2⟩
  cases e with
  | normal =>exact hK st a w h1 h2
  | _ =>exact hQ _ _ _ ⟨st,h1,h2⟩
theorem code_sound (hA : Amb S eb own w0) (hC : CtxOK S C) (hb : ∀ id,φ0.dom id → id < C.base) : ∀ (c : Code) (ac : ACode),cCode S.P S.errs nt c = some ac → ∀ (Q : Exit → St → Prop) (st : St) (a : Act) (w : World),
    wpA C ac Q st → Rel S eb own w0 φ0 nt st a w → c.wp S.P (Lift S eb own w0 φ0 nt Q) a w
  | .skip,ac,hc,Q,st,a,w,hw,hr =>by
    simp only [cCode,Option.some.injEq] at hc
    subst hc
    exact wp_skip ⟨st,hw,hr⟩
  | .region id ops draw,ac,hc,Q,st,a,w,hw,hr =>by
    simp only [cCode,bind,Option.bind_eq_some_iff] at hc
    obtain ⟨l,hl,hc⟩:=hc
    cases draw with
    | true =>
      simp only [if_true] at hc
      split at hc
      · rename_i hcl
        simp only [Option.some.injEq] at hc
        subst hc
        exact drawW hC.mixed hA hC.reads hC.effs hl hcl hw.1 hw.2 hr fun st a w h1 h2 =>⟨st,h1,h2⟩
      · cases hc
    | false =>
      simp only [Bool.false_eq_true,if_false,Option.some.injEq] at hc
      subst hc
      exact wp_region_list (listW hA hC.calls (fun st a w h1 h2 =>⟨st,h1,h2⟩) hl hw hr)
  | .seq x y,ac,hc,Q,st,a,w,hw,hr =>by
    simp only [cCode,bind,Option.bind_eq_some_iff,Option.some.injEq] at hc
    obtain ⟨cx,hx,cy,hy,rfl⟩:=hc
    refine wp_seq (wp_mono (code_sound hA hC hb x cx hx _ st a w hw hr) ?_)
    exact thenQ_then (fun st a w h1 h2 =>code_sound hA hC hb y cy hy Q st a w h1 h2) (fun _ _ _ h =>h)
  | .cond c x y,ac,hc,Q,st,a,w,hw,hr =>by
    simp only [cCode,bind,Option.bind_eq_some_iff,Option.some.injEq] at hc
    obtain ⟨cc,hcc,cx,hx,cy,hy,rfl⟩:=hc
    obtain ⟨φ,h⟩:=hr
    have vc:=h.eval c cc hcc
    have hw' : wpC (wpA C cx Q) (wpA C cy Q) st (cc.ev st.tm):=hw
    generalize cc.ev st.tm = v at vc hw'
    unfold wpC at hw'
    split at hw'
    · rename_i t
      refine wp_cond_split (vr_bool vc) (fun ht => ?_) (fun ht => ?_)
      · exact code_sound hA hC hb x cx hx Q st a w (hw'.1 ht) ⟨φ,h⟩
      · exact code_sound hA hC hb y cy hy Q st a w (hw'.2 ht) ⟨φ,h⟩
    · exact hw'.elim
  | .block id b,ac,hc,Q,st,a,w,hw,hr =>by
    simp only [cCode,bind,Option.bind_eq_some_iff,Option.some.injEq] at hc
    obtain ⟨cb,hcb,rfl⟩:=hc
    refine wp_block (wp_mono (code_sound hA hC hb b cb hcb _ st a w hw hr) ?_)
    rintro e a w ⟨st,h1,h2⟩
    cases e with
    | exit i =>
      simp only [inBlk] at h1
      simp only [Exit.inBlock]
      split
      · rename_i hi; simp only [hi,if_true] at h1; exact ⟨st,h1,h2⟩
      · rename_i hi; simp only [hi,if_false] at h1; exact ⟨st,h1,h2⟩
    | _ =>exact ⟨st,h1,h2⟩
  | .loop b,ac,hc,Q,st,a,w,hw,hr =>by
    simp only [cCode,bind,Option.bind_eq_some_iff,Option.some.injEq] at hc
    obtain ⟨cb,hcb,rfl⟩:=hc
    refine LoopAt.loop ?_
    obtain ⟨st',hg0,hw'⟩ : gcX C.base (LoopA fun X s =>wpA C cb (thenQ (gcX C.base X) Q) s) st:=hw
    have hr : Rel S eb own w0 φ0 nt st' a w:=by
      obtain ⟨φ,h⟩:=hr
      exact h.gc hb hg0
    refine hw' (fun s => ∀ a w,Rel S eb own w0 φ0 nt s a w → LoopAt S.P b (Lift S eb own w0 φ0 nt Q) a w) ?_ a w hr
    intro s hs a w hr
    refine LoopAt.unroll (wp_mono (code_sound hA hC hb b cb hcb _ s a w hs hr) ?_)
    rintro e a w ⟨st,h1,h2⟩
    cases e with
    | normal =>
      obtain ⟨s',hg,hX⟩:=h1
      obtain ⟨φ,h2⟩:=h2
      exact hX a w (h2.gc hb hg)
    | _ =>exact ⟨st,h1,h2⟩
  | .exit id,ac,hc,Q,st,a,w,hw,hr =>by
    simp only [cCode,Option.some.injEq] at hc
    subst hc
    exact wp_exit ⟨st,hw,hr⟩
  | .ret,ac,hc,Q,st,a,w,hw,hr =>by
    simp only [cCode,Option.some.injEq] at hc
    subst hc
    exact wp_ret ⟨st,hw,hr⟩
  | .rangeFunc ..,ac,hc,_,_,_,_,hw,_ =>by
    simp only [cCode,Option.some.injEq] at hc
    subst hc
    exact hw.elim
  | .scope _,ac,hc,_,_,_,_,hw,_ =>by
    simp only [cCode,Option.some.injEq] at hc
    subst hc
    exact hw.elim
  | .label _,ac,hc,_,_,_,_,hw,_ =>by
    simp only [cCode,Option.some.injEq] at hc
    subst hc
    exact hw.elim
  | .goto _,ac,hc,_,_,_,_,hw,_ =>by
    simp only [cCode,Option.some.injEq] at hc
    subst hc
    exact hw.elim
  | .refuse _,ac,hc,_,_,_,_,hw,_ =>by
    simp only [cCode,Option.some.injEq] at hc
    subst hc
    exact hw.elim
theorem loadVar_run {M : Nat → Option Blk} {t : TypeId} {td : TypeDesc} (ht : S.P.underlying t = some td) {v : AV} {u0 : Value} (vx : VR S.errT eb φ v u0) (hM : MR S.errT eb φ M own w) {fresh : Nat} {p : Prop} {e : Eff}
    (hs : bstep fresh M (.load (isAggT S.P t) (bif isAggT S.P t then S.P.cellsOf t else 1) v) = some (p,e)) (hp : p) : ∃ ad u,u0 = .pointer (some ad) ∧ (loadVar t ad).run S.P w = .ok u w ∧ VR S.errT eb φ e.val u:=by
  simp only [bstep] at hs
  split at hs
  · rename_i id ix sub
    obtain ⟨hd,hv⟩:=ptr_inv vx
    split at hs
    · rename_i ro k es hrow
      simp only [Option.some.injEq,Prod.mk.injEq] at hs
      obtain ⟨rfl,rfl⟩:=hs
      obtain ⟨hp1,hp2⟩:=hp
      obtain ⟨hk,hm⟩:=rowAt_k hM hrow
      obtain ⟨_,hlen,us,g1,g2,g3,g4⟩:=hM.elems hm hp1
      have hvr:=AHpart_vr (agg:=isAggT S.P t) (n:=bif isAggT S.P t then S.P.cellsOf t else 1) (off:=sub) g2 g3 (by omega) (by intro hh; simp [hh])
      refine ⟨_,_,hv,?_,hvr⟩
      obtain ⟨inf,hinf⟩:=Option.isSome_iff_exists.1 (info_of_underlying ht)
      cases hag : isAggT S.P t
      · have hlt : sub < us.length:=by simp [hag] at hp2; omega
        have hc:=g4 sub us[sub] (List.getElem?_eq_getElem hlt)
        simp only [loadVar,Sem.run_bind,Sem.run_pure,run_isAgg_iff t ht,hag,Result.andThen_ok,Bool.false_eq_true,if_false,run_load,hc]
        congr 2
        simp [List.getD,List.getElem?_eq_getElem hlt]
      · simp only [hag,cond_true] at hp2
        have hl:=run_loadCells_list (P:=S.P) w ⟨φ.blk id,φ.base id + ix * φ.k id + sub,none⟩ ((us.drop sub).take (S.P.cellsOf t)) (fun j u hu =>by
          rw [add_lit,Nat.add_assoc]
          rw [List.getElem?_take] at hu
          split at hu
          · rw [List.getElem?_drop] at hu
            exact g4 _ _ hu
          · cases hu)
        have hll : ((us.drop sub).take (S.P.cellsOf t)).length = S.P.cellsOf t:=by simp; omega
        rw [hll] at hl
        simp only [loadVar,Sem.run_bind,Sem.run_pure,run_isAgg_iff t ht,hag,Result.andThen_ok,if_true,sizeOf_run hinf,hl,cond_true]
    · cases hs
  · cases hs
def cRes (P : Program) : ResultVar → Option RV
  | .tmp t =>some (.tmp t)
  | .cell t ty =>if (P.underlying ty).isSome then some (.cell t (isAggT P ty) (bif isAggT P ty then P.cellsOf ty else 1)) else none
def cFun (P : Program) (errs : List Nat) (fn : Func) : Option AFun:=do
  let c ← fn.body
  let body ← cCode P errs fn.ntmps c
  let rs ← fn.results.toList.mapM (cRes P)
  if fn.name == "runtime.NumGoroutine" || decide (fn.ntmps < fn.params.size + fn.nfree) then none
  some { ntmps:=fn.ntmps,nargs:=fn.params.size + fn.nfree,results:=rs,body }
theorem run_mapM_list {α β : Type} {P : Program} {w : World} {f : α → Sem β} : ∀ {l : List α} {r : List β},l.length = r.length → (∀ (i : Nat) x y,l[i]? = some x → r[i]? = some y → (f x).run P w = .ok y w) → (l.mapM f).run P w = .ok r w
  | [],[],_,_ =>rfl
  | [],_ :: _,h,_ =>by simp at h
  | _ :: _,[],h,_ =>by simp at h
  | x :: l,y :: r,h,g =>by
    rw [List.mapM_cons]
    simp only [Sem.run_bind,g 0 x y (by simp) (by simp),Result.andThen_ok,Sem.run_pure,run_mapM_list (l:=l) (r:=r) (by simpa using h) fun i x y hx hy =>g (i + 1) x y (by simpa using hx) (by simpa using hy)]
theorem rvs_run (h : RelAt S eb own w0 φ0 nt φ st a w) : ∀ {l : List ResultVar} {rs : List RV} {p : Prop} {vs : List AV},l.mapM (cRes S.P) = some rs → rvs st rs = some (p,vs) → p →
    ∃ us : List Value,VRs S.errT eb φ vs us ∧ l.length = us.length ∧ ∀ (i : Nat) x y,l[i]? = some x → us[i]? = some y → ((match x with
      | .tmp t =>pure (a.tmps.getD t undef)
      | .cell ad t =>do loadVar t (← asAddr (a.tmps.getD ad undef)) : Sem Value)).run S.P w = .ok y w
  | [],rs,p,vs,hl,hr,hp =>by
    simp at hl
    subst hl
    simp only [rvs,Option.some.injEq,Prod.mk.injEq] at hr
    obtain ⟨_,rfl⟩:=hr
    exact ⟨[],.nil,rfl,by simp⟩
  | x :: l,rs,p,vs,hl,hr,hp =>by
    rw [List.mapM_cons] at hl
    simp only [bind,Option.bind_eq_some_iff,pure,Option.some.injEq] at hl
    obtain ⟨r,hr1,rs',hrs,rfl⟩:=hl
    cases x with
    | tmp t =>
      simp only [cRes,Option.some.injEq] at hr1
      subst hr1
      simp only [rvs,Option.map_eq_some_iff,Prod.mk.injEq] at hr
      obtain ⟨⟨p',vs'⟩,h1,rfl,rfl⟩:=hr
      obtain ⟨us,g1,g2,g3⟩:=rvs_run h hrs h1 hp
      refine ⟨_,.cons _ _ _ _ (h.tm t) g1,by simp [g2],fun i x y hx hy => ?_⟩
      cases i with
      | zero =>simp at hx hy; subst hx; rw [← hy]; simp
      | succ i =>exact g3 i x y (by simpa using hx) (by simpa using hy)
    | cell ad t =>
      simp only [cRes] at hr1
      split at hr1
      · rename_i hsome
        obtain ⟨td,htd⟩:=isSome_ex' hsome
        simp only [Option.some.injEq] at hr1
        subst hr1
        simp only [rvs] at hr
        split at hr
        · rename_i p1 e p2 h1 h2
          simp only [Option.some.injEq,Prod.mk.injEq] at hr
          obtain ⟨rfl,rfl⟩:=hr
          obtain ⟨us,g1,g2,g3⟩:=rvs_run h hrs h2 hp.2
          obtain ⟨addr,u,k1,k2,k3⟩:=loadVar_run htd (h.tm ad) h.mr h1 hp.1
          refine ⟨_,.cons _ _ _ _ k3 g1,by simp [g2],fun i x y hx hy => ?_⟩
          cases i with
          | zero =>
            simp at hx hy
            subst hx
            rw [← hy]
            simp only [k1,asAddr,Sem.run_bind,Sem.run_pure,Result.andThen_ok,k2]
          | succ i =>exact g3 i x y (by simpa using hx) (by simpa using hy)
        · cases hr
      · cases hr1
def CallA1 (S : Sys) (g : FuncId) (args : List AV) (m : Mem) (K : AV → Mem → Prop) : Prop:=∀ eb φ own w0 w (us : Array Value),Amb S eb own w0 → VRs S.errT eb φ args us.toList → MR S.errT eb φ (mget m) own w → Keeps own w0 w →
  (∀ id,φ.dom id → id < m.length) → CallRes S.P g us w fun r w' => ∃ φ' v m',K v m' ∧ φ.Ext φ' ∧ VR S.errT eb φ' v r ∧ MR S.errT eb φ' (mget m') own w' ∧ Keeps own w0 w' ∧ ∀ id,φ'.dom id → id < m'.length
theorem CallA1.mono {g : FuncId} {args : List AV} {m : Mem} {K K' : AV → Mem → Prop} (h : CallA1 S g args m K) (hk : ∀ v m',K v m' → K' v m') : CallA1 S g args m K' :=
  fun eb φ own w0 w us h1 h2 h3 h4 h5 =>UponV.mono (fun _ _ ⟨φ',v,m',q,r⟩ =>⟨φ',v,m',hk _ _ q,r⟩) (h eb φ own w0 w us h1 h2 h3 h4 h5)
theorem argTm_get : ∀ (l : List AV) (i t : Nat),tget (argTm i l) t = if i ≤ t then (l[t - i]?).getD .undef else .undef
  | [],i,t =>by simp [argTm,tget]
  | v :: r,i,t =>by
    simp only [argTm,tget]
    by_cases h : i = t
    · subst h; simp
    · have hb : (i == t) = false:=by simp [h]
      simp only [hb,cond_false,argTm_get r (i + 1) t]
      by_cases h1 : i + 1 ≤ t
      · rw [if_pos h1,if_pos (by omega),show t - i = (t - (i + 1)) + 1 by omega,List.getElem?_cons_succ]
      · rw [if_neg h1,if_neg (by omega)]
theorem fun_sound (hC : CtxOK S C) {g : FuncId} {fn : Func} {F : AFun} (hf : S.P.funcs[g]? = some fn) (hF : cFun S.P S.errs fn = some F) {args : List AV} {m : Mem} {K : AV → Mem → Prop} (hw : wpF C F args m K) : CallA1 S g args m K:=by
  intro eb φ own w0 w us hA hargs hm hk hb
  simp only [cFun,bind,Option.bind_eq_some_iff] at hF
  obtain ⟨c,hc,body,hbody,rs,hrs,hF⟩:=hF
  split at hF
  · cases hF
  rename_i hcond
  simp only [Bool.or_eq_true,beq_iff_eq,decide_eq_true_eq,not_or,Nat.not_lt] at hcond
  have hF' : F = { ntmps:=fn.ntmps,nargs:=fn.params.size + fn.nfree,results:=rs,body }:=by
    simpa using hF.symm
  subst hF'
  obtain ⟨hn,hw⟩:=hw
  simp only at hn hw
  have hus : us.size = fn.params.size + fn.nfree:=by rw [← hn,hargs.length]; simp
  have hcall : (callFunc g us).run S.P w = .ok (.enter g us) w:=by
    simp [callFunc,hf,hcond.1,hc]
  unfold CallRes
  rw [hcall]
  show Calls S.P g us w _
  refine calls_of_wp hf hc ?_
  have hC' : CtxOK S { C with base:=m.length }:=⟨hC.calls,hC.reads,hC.effs,hC.mixed⟩
  have hrel : Rel S eb own w0 φ fn.ntmps ⟨argTm 0 args,m⟩ { tmps:=us ++ Array.replicate (fn.ntmps - us.size) undef,defers:=[] } w:=by
    refine ⟨φ,.refl φ,?_,rfl,fun t => ?_,hm,hk,hb⟩
    · simp; omega
    · rw [argTm_get,if_pos (by omega),Nat.sub_zero]
      cases hq : args[t]? with
      | none =>exact .undef _
      | some v =>
        obtain ⟨u,hu,hv⟩:=hargs.get t v hq
        rw [Array.getElem?_toList] at hu
        have hlt : t < us.size:=(Array.getElem?_eq_some_iff.1 hu).1
        have hu' : us[t] = u:=(Array.getElem?_eq_some_iff.1 hu).2
        simpa [Array.getElem?_append,hlt,hu'] using hv
  refine wp_mono (code_sound hA hC' hb c body hbody _ _ _ w hw hrel) ?_
  have ret : ∀ (st : St) (a : Act) (w : World),retV K st.mem (rvs st rs) → Rel S eb own w0 φ fn.ntmps st a w →
      a.defers = [] ∧ ∃ v,(results fn a.tmps).run S.P w = .ok v w ∧ ∃ r,Ending.returned v = .returned r ∧ ∃ φ' v m',K v m' ∧ φ.Ext φ' ∧ VR S.errT eb φ' v r ∧ MR S.errT eb φ' (mget m') own w ∧ Keeps own w0 w ∧ ∀ id,φ'.dom id → id < m'.length:=by
    rintro st a w hret ⟨φ',h⟩
    refine ⟨h.defers,?_⟩
    generalize hrv : rvs st rs = x at hret
    cases x with
    | none =>exact hret.elim
    | some x =>
      obtain ⟨p,vs⟩:=x
      have hp : p ∧ ∃ v,K v st.mem ∧ ((∃ y,vs = [y] ∧ v = y) ∨ ((∀ y,vs ≠ [y]) ∧ v = .tup vs)):=by
        match vs,hret with
        | [],hret =>exact ⟨hret.1,_,hret.2,.inr ⟨by simp,rfl⟩⟩
        | [y],hret =>exact ⟨hret.1,_,hret.2,.inl ⟨y,rfl,rfl⟩⟩
        | y :: z :: r,hret =>exact ⟨hret.1,_,hret.2,.inr ⟨by simp,rfl⟩⟩
      obtain ⟨hp,v,hK,hv⟩:=hp
      obtain ⟨us',g1,g2,g3⟩:=rvs_run h hrs hrv hp
      have hrun : (fn.results.mapM fun
          | .tmp t =>pure (a.tmps.getD t undef)
          | .cell ad t =>do loadVar t (← asAddr (a.tmps.getD ad undef)) : Sem (Array Value)).run S.P w = .ok us'.toArray w:=by
        rw [← Array.toArray_toList (xs:=fn.results),List.mapM_toArray,Sem.run_map,run_mapM_list g2 g3]
        rfl
      have hres : (results fn a.tmps).run S.P w = .ok (if h : us'.toArray.size = 1 then us'.toArray[0] else .tuple us'.toArray) w:=by
        have e : (results fn a.tmps).run S.P w = ((fn.results.mapM fun
          | .tmp t =>pure (a.tmps.getD t undef)
          | .cell ad t =>do loadVar t (← asAddr (a.tmps.getD ad undef)) : Sem (Array Value)) >>= fun vs =>(pure (if h : vs.size = 1 then vs[0] else .tuple vs) : Sem Value)).run S.P w:=rfl
        rw [e,Sem.run_bind,hrun]
        rfl
      rcases hv with ⟨y,rfl,rfl⟩ | ⟨hne,rfl⟩
      · cases g1 with
        | cons _ u _ us2 h1 h2 =>
          cases h2
          refine ⟨u,?_,u,rfl,φ',v,st.mem,hK,h.ext,h1,h.mr,h.keeps,h.bdd⟩
          rw [hres]; simp
      · refine ⟨.tuple us'.toArray,?_,_,rfl,φ',.tup vs,st.mem,hK,h.ext,.tup _ _ (by simpa using g1),h.mr,h.keeps,h.bdd⟩
        rw [hres]
        have : us'.length ≠ 1:=by
          intro hl
          rw [← g1.length] at hl
          match vs,hl with
          | [y],_ =>exact hne y rfl
        simp [this]
  rintro e a w ⟨st,h1,h2⟩
  cases e with
  | normal =>exact ret st a w h1 h2
  | ret =>exact ret st a w h1 h2
  | _ =>exact h1.elim
end AH
set_option linter.unusedSimpArgs false
namespace AH
open Go
variable {S : Sys} {eb : Nat → Addr} {own : Nat → Prop} {w0 w : World} {φ0 φ : Emb} {st : St} {C : Ctx} {Q : Exit → St → Prop}
theorem CallA1.pack {g : FuncId} {args : List AV} {m : Mem} {K : AV → Mem → Prop}
    (h : CallA1 S g args m fun v m' => ∃ l : List Nat,heads m.length 0 l = true ∧ distN l = true ∧ packB l m' l = true ∧ v.inB (inN l) = true ∧ K (v.ren (posN l)) (packM l m' l)) : CallA1 S g args m K:=by
  intro eb φ own w0 w us h1 h2 h3 h4 h5
  refine UponV.mono ?_ (h eb φ own w0 w us h1 h2 h3 h4 h5)
  rintro r w' ⟨φ',v,m',⟨l,q1,q2,q3,q4,q5⟩,e,hv,hm,hk,hb⟩
  refine ⟨φ'.pack l,_,_,q5,ext_pack e h5 q1,vr_ren moves_pack hv q4,mr_pack hm q2 q3,hk,fun j hj => ?_⟩
  obtain ⟨id,hid,_⟩:=hj
  rw [packM_len]
  exact (List.getElem?_eq_some_iff.1 hid).1
theorem voV_refl {n : Nat} {v : AV} : voV n v v:=.inl (.inl rfl)
theorem voB_refl {n : Nat} {b : Option Blk} : voB n b b:=.inl rfl
theorem Voids.trans {a b c : St} (h : Voids a b) (g : Voids b c) : Voids a c:=by
  induction h with
  | refl =>exact g
  | void k s s2 hk _ ih =>exact .void k s _ hk (ih g)
  | turn n s s1 s2 h1 _ ih =>exact .turn n s s1 _ h1 (ih g)
theorem Voids.turn1 {n : Nat} {s s1 : St} (h : Turn1 n s s1) : Voids s s1:=.turn n s s1 s1 h (.refl _)
theorem mset_len {m : Mem} {i : Nat} {b : Option Blk} (h : i < m.length) : (mset m i b).length = m.length:=by
  induction m generalizing i with
  | nil =>cases h
  | cons x m ih =>
    cases i with
    | zero =>rfl
    | succ i =>simp only [mset,List.length_cons,ih (by simpa using h)]
theorem turn_cell {l : Tm} {m : Mem} {id k n : Nat} {ro : Bool} {es : List (List AV)} {e : List AV} {v v' : AV} (i j : Nat) (hn : (mget m n).isSome = true) (hm : mget m id = some (.row ro k es)) (he : es[i]? = some e) (hj : e[j]? = some v) (hv : voE n v v') :
    Turn1 n ⟨l,m⟩ ⟨l,mset m id (some (.row ro k (es.set i (e.set j v'))))⟩:=by
  have hlt:=(mget_some hm).1
  refine ⟨hn,fun _ =>voV_refl,mset_len hlt,fun x _ => ?_⟩
  simp only [mget_mset]
  by_cases hxi : x = id
  · subst hxi
    simp only [if_true]
    refine .inr ⟨ro,k,es,_,hm,rfl,by simp,fun y e' hy => ?_⟩
    rw [List.getElem?_set] at hy
    by_cases hyi : i = y
    · subst hyi
      have hil:=(List.getElem?_eq_some_iff.1 he).1
      simp only [if_true,hil,Option.some.injEq] at hy
      subst hy
      refine ⟨e,he,by simp,fun z v2 hz => ?_⟩
      rw [List.getElem?_set] at hz
      by_cases hzj : j = z
      · subst hzj
        have hjl:=(List.getElem?_eq_some_iff.1 hj).1
        simp only [if_true,hjl,Option.some.injEq] at hz
        subst hz
        exact ⟨_,hj,hv⟩
      · rw [if_neg hzj] at hz
        exact ⟨v2,hz,.inl rfl⟩
    · rw [if_neg hyi] at hy
      exact ⟨e',hy,rfl,fun z v2 hz =>⟨v2,hz,.inl rfl⟩⟩
  · rw [if_neg hxi]
    exact .inl rfl
theorem voids_cell {l : Tm} {m : Mem} {id k' : Nat} {ro : Bool} {es : List (List AV)} {e : List AV} (i j k : Nat) (hk : 0 < k) (hm : mget m id = some (.row ro k' es)) (he : es[i]? = some e) (hj : e[j]? = some .nils) :
    Voids ⟨l,m⟩ ⟨l,mset (m ++ [some (.row false k [])]) id (some (.row ro k' (es.set i (e.set j (.slc m.length 0 0 none)))))⟩ :=
  .void k _ _ hk (.turn1 (n:=m.length) (turn_cell i j (by simp [mget_app,mget]) (by simp only [mget_app,if_pos (mget_some hm).1]; exact hm) he hj (.inr (.inl ⟨rfl,rfl⟩))))
theorem CallA1.voids {g : FuncId} {args : List AV} {m : Mem} {K : AV → Mem → Prop}
    (h : CallA1 S g args m fun v m' => ∃ tm' m'',Voids ⟨[(0,v)],m'⟩ ⟨tm',m''⟩ ∧ K (tget tm' 0) m'') : CallA1 S g args m K:=by
  intro eb φ own w0 w us h1 h2 h3 h4 h5
  refine UponV.mono ?_ (h eb φ own w0 w us h1 h2 h3 h4 h5)
  rintro r w' ⟨φ',v,m',⟨tm',m'',hv,hK⟩,e,hr,hm,hk,hb⟩
  have key : ∀ {s s' : St},Voids s s' → ∀ φ',φ.Ext φ' → VR S.errT eb φ' (tget s.tm 0) r → MR S.errT eb φ' (mget s.mem) own w' → (∀ id,φ'.dom id → id < s.mem.length) →
      ∃ φ2,φ.Ext φ2 ∧ VR S.errT eb φ2 (tget s'.tm 0) r ∧ MR S.errT eb φ2 (mget s'.mem) own w' ∧ ∀ id,φ2.dom id → id < s'.mem.length:=by
    intro s s' hv
    induction hv with
    | refl s =>exact fun φ' a b c d =>⟨φ',a,b,c,d⟩
    | void k s s2 hk0 _ ih =>
      intro φ' a b c d
      have hnd : ¬ φ'.dom s.mem.length:=fun q =>Nat.lt_irrefl _ (d _ q)
      exact ih _ (a.trans (Emb.add_ext hnd)) (b.mono (Emb.add_ext hnd)) (mr_void hk0 hnd c) (void_dom d)
    | turn n s s1 s2 h1 _ ih =>
      intro φ' a b c d
      obtain ⟨x,hx⟩:=isSome_get h1.there
      have hd:=c.dom _ _ hx
      exact ih φ' a (void_vr hd (h1.tm 0) b) (mr_turn hd h1.len h1.old c) (fun id hid =>by rw [h1.len]; exact d id hid)
  obtain ⟨φ2,a,b,c,d⟩:=key hv φ' e (by simpa [tget] using hr) hm hb
  exact ⟨φ2,_,_,hK,a,b,c,hk,d⟩
theorem loop_rule {α : Type} (μ : α → Nat) (f : α → St) (P : α → Prop) {b : ACode} (x0 : α) (hp : P x0) (h0 : gcX C.base (fun s =>s = f x0) st)
    (hstep : ∀ (X : St → Prop) x,P x → (∀ y,P y → μ y < μ x → X (f y)) → wpA C b (thenQ (gcX C.base X) Q) (f x)) : wpA C (.loop b) Q st:=by
  obtain ⟨s',hg,rfl⟩:=h0
  refine ⟨f x0,hg,fun X hX => ?_⟩
  have key : ∀ n x,P x → μ x = n → X (f x):=by
    intro n
    induction n using Nat.strongRecOn with
    | _ n ih =>
      intro x hx hn
      exact hX _ (hstep X x hx fun y hy hlt =>ih (μ y) (hn ▸ hlt) y hy rfl)
  exact key _ x0 hp rfl
def Pure (S : Sys) (g : FuncId) (args : List AV) (v : AV) : Prop:=CallA1 S g args [] fun r _ =>r = v
theorem Amb.fresh (hA : Amb S eb own w0) (hk : Keeps own w0 w) : Amb S eb (fun b =>w.heap.size ≤ b) w:=by
  have hin : ∀ g ∈ S.errs,g < w0.heap.size:=fun g hg =>by
    obtain ⟨et,fr,h⟩:=hA.at_ g hg
    exact (Array.getElem?_eq_some_iff.1 h).1
  have hlt : ∀ b,¬ own b → b < w0.heap.size:=fun b hb =>by
    rcases Nat.lt_or_ge b w0.heap.size with h | h
    · exact h
    · exact absurd (hk.new b h) hb
  refine ⟨fun g hg => ?_,fun g hg h => ?_,hA.inj,fun g hg h => ?_,fun g hg => ?_,fun x hx => ?_⟩
  · obtain ⟨et,fr,h⟩:=hA.at_ g hg
    exact ⟨et,fr,by rw [hk.kept g (hin g hg) (hA.out g hg)]; exact h⟩
  · have:=hin g hg
    have:=hk.size
    omega
  · have:=hlt _ (hA.eout g hg)
    have:=hk.size
    omega
  · obtain ⟨c,t,h⟩:=hA.txt g hg
    exact ⟨c,t,by rw [hk.kept _ (hlt _ (hA.eout g hg)) (hA.eout g hg)]; exact h⟩
  · obtain ⟨⟨et,fr,h⟩,ho⟩:=hA.hand x hx
    have h1:=hlt _ ho
    have h2:=hk.size
    exact ⟨⟨et,fr,by rw [hk.kept _ h1 ho]; exact h⟩,by omega⟩
theorem MR.over {M : Nat → Option Blk} {w' : World} (h : MR S.errT eb φ M own w) (hk : Keeps (fun b =>w.heap.size ≤ b) w w') : MR S.errT eb φ M own w':=by
  refine ⟨h.dom,h.kk,fun id b hb hs => ?_,h.own,h.inj⟩
  obtain ⟨o,ho,hr⟩:=h.blk id b hb hs
  have hlt:=(Array.getElem?_eq_some_iff.1 ho).1
  exact ⟨o,by rw [hk.kept _ hlt (by omega)]; exact ho,hr⟩
theorem Keeps.over {w' : World} (h : Keeps own w0 w) (hk : Keeps (fun b =>w.heap.size ≤ b) w w') : Keeps own w0 w':=by
  refine ⟨hk.os.trans h.os,hk.output.trans h.output,Nat.le_trans h.size hk.size,fun b hb ho => ?_,h.new⟩
  have:=h.size
  rw [hk.kept b (by omega) (by omega),h.kept b hb ho]
theorem vrs_dom : ∀ {l : List AV} {us : List Value},AV.lts 0 l = true → VRs S.errT eb φ l us → ∀ φ',VRs S.errT eb φ' l us:=fun h g _ =>
  lts_vr (fun _ hid =>absurd hid (Nat.not_lt_zero _)) g h
theorem vr_dom {v : AV} {u : Value} (h : v.lt 0 = true) (g : VR S.errT eb φ v u) (φ' : Emb) : VR S.errT eb φ' v u :=
  lt_vr (fun _ hid =>absurd hid (Nat.not_lt_zero _)) g h
def noEmb : Emb:=⟨fun _ =>False,fun _ => 0,fun _ => 0,fun _ => 0,fun _ => 0⟩
theorem no_mem {i : Nat} {b : Blk} (h : mget [] i = some b) : False:=by rw [mget_nil] at h; cases h
theorem mr_nil {T : TypeId} : MR T eb noEmb (mget []) own w:=⟨fun _ _ h =>(no_mem h).elim,fun _ _ _ _ h =>(no_mem h).elim,fun _ _ h =>(no_mem h).elim,fun _ _ h =>(no_mem h).elim,fun _ _ _ _ h =>(no_mem h).elim⟩
theorem Pure.run {g : FuncId} {args : List AV} {v : AV} (h : Pure S g args v) (ha : AV.lts 0 args = true) (hv : v.lt 0 = true) {M : Nat → Option Blk} (hA : Amb S eb own w0) {us : Array Value} (hus : VRs S.errT eb φ args us.toList) (hM : MR S.errT eb φ M own w) (hk : Keeps own w0 w) :
    CallRes S.P g us w fun r w' =>VR S.errT eb φ v r ∧ MR S.errT eb φ M own w' ∧ Keeps own w0 w':=by
  have hM0 : MR S.errT eb noEmb (mget []) (fun b =>w.heap.size ≤ b) w:=mr_nil
  refine UponV.mono ?_ (h eb noEmb _ w w us (hA.fresh hk) (vrs_dom ha hus _) hM0 (.refl fun _ h =>h) (fun id h =>h.elim))
  rintro r w' ⟨φ',v',m',rfl,_,hr,_,hk',_⟩
  exact ⟨vr_dom hv hr φ,hM.over hk',hk.over hk'⟩
theorem Pure.call {g : FuncId} {args : List AV} {v : AV} (h : Pure S g args v) (ha : AV.lts 0 args = true) (hv : v.lt 0 = true) {m : Mem} {K : AV → Mem → Prop} (hK : K v m) : CallA1 S g args m K :=
  fun _ φ _ _ _ _ hA hus hM hk hb =>UponV.mono (fun _ _ ⟨h1,h2,h3⟩ =>⟨φ,v,m,hK,.refl φ,h1,h2,h3,hb⟩) (h.run ha hv hA hus hM hk)
theorem CallRes.calls {g : FuncId} {fn : Func} {us : Array Value} {R : Value → World → Prop} (hf : S.P.funcs[g]? = some fn) (hb : fn.body.isSome = true) (hn : (fn.name == "runtime.NumGoroutine") = false) (h : CallRes S.P g us w R) :
    Calls S.P g us w fun e w' => ∃ v,e = .returned v ∧ R v w':=by
  unfold CallRes at h
  have : (callFunc g us).run S.P w = .ok (.enter g us) w:=by
    have hb' : fn.body ≠ none:=by intro q; rw [q] at hb; cases hb
    have hn' : ¬ fn.name = "runtime.NumGoroutine" := by simpa using hn
    simp [callFunc,hf,hn',hb']
  rw [this] at h
  exact h
def Left (w w' : World) : Prop:=Keeps (fun b =>w.heap.size ≤ b) w w'
theorem Left.kept {w w' : World} (h : Left w w') (may : MemPlace → Prop) : w.keptBut w' may:=by
  refine ⟨Keeps.os h,Keeps.output h,fun i hi => ?_⟩
  have:=Keeps.kept h i hi (by omega)
  rw [this]
  cases w.heap[i]? with
  | none =>rfl
  | some o =>
    cases o with
    | cells c t fr =>exact ⟨rfl,rfl,rfl,fun _ _ =>rfl⟩
    | map es c =>exact .inr ⟨rfl,rfl⟩
    | _ =>rfl
theorem Left.frozen {w w' : World} (h : Left w w') (a : Addr) (ha : a.block < w.heap.size) : w'.frozen? a = w.frozen? a:=by
  have:=Keeps.kept h a.block ha (by omega)
  simp only [World.frozen?,this]
section
variable {K : St → Prop} {lg : Log} {i : Nat} {a : List Nat} {ix : List (List Nat)}
theorem wpDs_nil : wpDs C K i [] [] lg st = K st:=rfl
theorem wpDs_plain {d : Option Nat} {op : AOp Opd} {r : List AOper} : wpDs C K i (⟨d,none,op⟩ :: r) (a :: ix) lg st = wpOpD C i a lg d op st (wpDs C K (i + 1) r ix):=rfl
theorem wpDs_guard {d : Option Nat} {t : Nat} {w : Bool} {op : AOp Opd} {r : List AOper} : wpDs C K i (⟨d,some (t,w),op⟩ :: r) (a :: ix) lg st = wpGD C i a lg ⟨d,some (t,w),op⟩ st (wpDs C K (i + 1) r ix) w (tget st.tm t):=rfl
variable {o : AOper} {K2 : Log → St → Prop}
theorem wpGD_tt : wpGD C i a lg o st K2 true (.bool true) = wpOpD C i a lg o.dst o.op st K2:=by simp [wpGD]
theorem wpGD_ff : wpGD C i a lg o st K2 false (.bool false) = wpOpD C i a lg o.dst o.op st K2:=by simp [wpGD]
theorem wpGD_tf : wpGD C i a lg o st K2 true (.bool false) = K2 lg (st.put o.dst (.tup [])):=by simp [wpGD]
theorem wpGD_ft : wpGD C i a lg o st K2 false (.bool true) = K2 lg (st.put o.dst (.tup [])):=by simp [wpGD]
theorem wpGD_tu {w : Bool} : wpGD C i a lg o st K2 w (.tup []) = K2 lg (st.put o.dst (.tup [])):=by simp [wpGD]
theorem wpEffD_quiet {d : Option Nat} {p : Prop} {v : AV} : wpEffD i a lg d st K2 (some (p,{ val:=v })) = (p ∧ okLog a [] [] lg = true ∧ K2 lg (st.eff d { val:=v })):=by
  simp only [wpEffD,okFresh,List.contains_nil,Bool.not_false,Bool.true_or,true_and,List.map_nil,List.nil_append,addLog]
theorem wpEffD_some {d : Option Nat} {p : Prop} {e : Eff} : wpEffD i a lg d st K2 (some (p,e)) = (p ∧ okFresh st.mem.length e = true ∧ okLog a (e.wr.map Prod.fst ++ e.foot) (e.wr.map Prod.fst) lg = true ∧ K2 (addLog i (e.wr.map Prod.fst ++ e.foot) (e.wr.map Prod.fst) lg) (st.eff d e)):=rfl
theorem wpEffC_some {d : Option Nat} {e : Eff} {k : Nat} : wpEffC i a lg d st K2 (some (e,k)) = (newsB st.mem.length e k = true ∧ okLog a (e.wr.map Prod.fst ++ e.foot) (e.wr.map Prod.fst) lg = true ∧ K2 (addLog i (e.wr.map Prod.fst ++ e.foot) (e.wr.map Prod.fst) lg) (st.eff d e)):=rfl
theorem wpRead_none {d : Option Nat} {z : Option (Eff × Nat)} : wpRead i a lg st d K2 z none = wpEffC i a lg d st K2 z:=rfl
theorem wpRead_some {d : Option Nat} {v : AV} {f : List Nat} {z : Option (Eff × Nat)} : wpRead i a lg st d K2 z (some (v,f)) = (okLog a f [] lg = true ∧ K2 (addLog i f [] lg) (st.put d v)):=rfl
theorem okLog_quiet : ∀ {lg : Log},okLog a [] [] lg = true
  | [] =>rfl
  | (j,f,w) :: r =>by simp only [okLog,noCommon_nil',noCommon_nil,Bool.and_self,Bool.or_true,Bool.true_and,okLog_quiet (lg:=r)]
end
section
open Go.ChangeShapes Go.WideShapes
end
end AH
set_option linter.unusedSimpArgs false
namespace AH
open Go
variable {S : Sys} {eb : Nat → Addr} {own : Nat → Prop} {w0 w : World} {φ ψ : Emb}
def posOf : List (Nat × Bool) → Nat → Nat
  | [],_ => 0
  | (a,_) :: r,id =>bif a == id then 0 else posOf r id + 1
def isIn : List (Nat × Bool) → Nat → Bool
  | [],_ =>false
  | (a,_) :: r,id =>a == id || isIn r id
def distinct : List (Nat × Bool) → Bool
  | [] =>true
  | (a,_) :: r => !isIn r a && distinct r
def backNo (sel : List (Nat × Bool)) (n : Nat) (j : Nat) : Nat:=match sel[j]? with
  | some p =>p.1
  | none =>n + (j - sel.length)
def newOnes (τ : Nat → Nat) : Mem → Mem
  | [] => []
  | b :: r =>b.map (Blk.ren τ) :: newOnes τ r
theorem isIn_iff : ∀ {l : List (Nat × Bool)} {id : Nat},isIn l id = true ↔ ∃ r,(id,r) ∈ l
  | [],id =>by simp [isIn]
  | (a,r) :: l,id =>by
    simp only [isIn,Bool.or_eq_true,beq_iff_eq,isIn_iff (l:=l),List.mem_cons,Prod.mk.injEq]
    constructor
    · rintro (rfl | ⟨q,h⟩)
      · exact ⟨r,.inl ⟨rfl,rfl⟩⟩
      · exact ⟨q,.inr h⟩
    · rintro ⟨q,⟨rfl,_⟩ | h⟩
      · exact .inl rfl
      · exact .inr ⟨q,h⟩
theorem pos_spec : ∀ {l : List (Nat × Bool)} {id : Nat},isIn l id = true → ∃ r,l[posOf l id]? = some (id,r)
  | [],id,h =>by simp [isIn] at h
  | (a,r) :: l,id,h =>by
    by_cases ha : a = id
    · subst ha; exact ⟨r,by simp [posOf]⟩
    · have hb : (a == id) = false:=by simp [ha]
      simp only [isIn,hb,Bool.false_or] at h
      obtain ⟨q,hq⟩:=pos_spec h
      exact ⟨q,by simp only [posOf,hb,cond_false,List.getElem?_cons_succ]; exact hq⟩
theorem distinct_inj : ∀ {l : List (Nat × Bool)},distinct l = true → ∀ {i j : Nat} {a : Nat} {r q : Bool},l[i]? = some (a,r) → l[j]? = some (a,q) → i = j
  | [],_,i,j,a,r,q,h,_ =>by simp at h
  | (x,s) :: l,hd,i,j,a,r,q,h1,h2 =>by
    simp only [distinct,Bool.and_eq_true,Bool.not_eq_true'] at hd
    have out : ∀ {k : Nat} {t : Bool},l[k]? = some (x,t) → False:=fun h =>by
      have:=isIn_iff.2 ⟨_,List.mem_of_getElem? h⟩
      rw [hd.1] at this; cases this
    cases i with
    | zero =>
      cases j with
      | zero =>rfl
      | succ j =>simp at h1 h2; obtain ⟨rfl,_⟩:=h1; exact (out h2).elim
    | succ i =>
      cases j with
      | zero =>simp at h1 h2; obtain ⟨rfl,_⟩:=h2; exact (out h1).elim
      | succ j =>simp at h1 h2; rw [distinct_inj hd.2 h1 h2]
theorem pos_at {l : List (Nat × Bool)} (hd : distinct l = true) {j : Nat} {a : Nat} {r : Bool} (h : l[j]? = some (a,r)) : posOf l a = j:=by
  obtain ⟨q,hq⟩:=pos_spec (isIn_iff.2 ⟨r,List.mem_of_getElem? h⟩)
  exact distinct_inj hd hq h
theorem mget_append : ∀ (a b : Mem) (i : Nat),mget (a ++ b) i = if i < a.length then mget a i else mget b (i - a.length)
  | [],b,i =>by simp
  | x :: a,b,0 =>by simp [mget]
  | x :: a,b,i + 1 =>by simp [mget,mget_append a b i]
theorem mget_drop : ∀ (m : Mem) (n i : Nat),mget (m.drop n) i = mget m (n + i)
  | [],n,i =>by simp [mget_nil]
  | x :: r,0,i =>by simp
  | x :: r,n + 1,i =>by simp only [List.drop_succ_cons,mget_drop r n i]; rw [show n + 1 + i = (n + i) + 1 by omega,mget]
mutual
theorem inB_true : ∀ v : AV,v.inB (fun _ =>true) = true
  | .ptr .. | .slc .. | .isl .. | .map _ | .undef | .bool _ | .int .. | .str _ | .nilp | .nils | .nilm | .nilf | .nili | .err _ =>rfl
  | .fn _ a b =>by simp [AV.inB,insB_true a,insB_true b]
  | .ifc _ v =>by simp [AV.inB,inB_true v]
  | .agg cs =>by simp [AV.inB,insB_true cs]
  | .tup cs =>by simp [AV.inB,insB_true cs]
theorem insB_true : ∀ l : List AV,AV.insB (fun _ =>true) l = true
  | [] =>rfl
  | v :: r =>by simp [AV.insB,inB_true v,insB_true r]
end
theorem blk_inB_true : ∀ b : Blk,b.inB (fun _ =>true) = true
  | .row _ _ es =>by simp only [Blk.inB,List.all_eq_true]; exact fun x _ =>insB_true x
  | .map es _ =>by simp [Blk.inB,inB_true]
  | .iter m _ _ _ =>by cases m <;> rfl
theorem ren_rw {ρ : Nat → Nat} {b : Blk} : (b.ren ρ).rw ↔ b.rw:=by cases b <;> exact Iff.rfl
def Emb.sub (φ : Emb) (sel : List (Nat × Bool)) : Emb :=
  { dom:=fun j => ∃ p,sel[j]? = some p ∧ φ.dom p.1
    blk:=fun j => φ.blk ((sel[j]?).getD (0,true)).1
    base:=fun j => φ.base ((sel[j]?).getD (0,true)).1
    k:=fun j => φ.k ((sel[j]?).getD (0,true)).1
    size:=fun j => φ.size ((sel[j]?).getD (0,true)).1 }
theorem moves_sub {sel : List (Nat × Bool)} : Moves (isIn sel) (posOf sel) φ (φ.sub sel):=by
  intro id hid hd
  obtain ⟨r,hr⟩:=pos_spec hid
  exact ⟨⟨_,hr,hd⟩,by simp [Emb.sub,hr],by simp [Emb.sub,hr],by simp [Emb.sub,hr],by simp [Emb.sub,hr]⟩
theorem asRo_rw {b : Blk} {r : Bool} (h : (b.asRo r).rw) : b.rw:=by
  cases b with
  | row ro k es =>cases r <;> simp_all [Blk.asRo,Blk.rw]
  | map es c =>trivial
  | iter m s l seen =>trivial
end AH
set_option linter.unusedSimpArgs false
namespace AH
open Go
variable {S : Sys} {eb : Nat → Addr} {own : Nat → Prop} {w0 w : World} {φ : Emb}
end AH
set_option linter.unusedSimpArgs false
namespace AH
open Go
variable {S : Sys} {C : Ctx} {Q : Exit → St → Prop} {st : St}
abbrev RT:=List AV → (Nat → Option Blk) → Option (AV × List Nat)
def lookT : List (FuncId × RT) → FuncId → Option RT
  | [],_ =>none
  | (a,f) :: r,g =>bif a == g then some f else lookT r g
def appT (args : List AV) (M : Nat → Option Blk) : Option RT → Option (AV × List Nat)
  | some f =>f args M
  | none =>none
def rdT (T : List (FuncId × RT)) (g : FuncId) (args : List AV) (M : Nat → Option Blk) : Option (AV × List Nat):=appT args M (lookT T g)
def ReadF (S : Sys) (g : FuncId) (f : RT) : Prop:=∀ args M v foot,f args M = some (v,foot) →
  (∀ M',(∀ id ∈ foot,M' id = M id) → f args M' = some (v,foot)) ∧
  ∀ eb φ own w0 w (us : Array Value),Amb S eb own w0 → VRs S.errT eb φ args us.toList → MR S.errT eb φ M own w → Keeps own w0 w →
    CallRes S.P g us w fun r w' =>VR S.errT eb φ v r ∧ MR S.errT eb φ M own w' ∧ Keeps own w0 w'
def AllF (S : Sys) : List (FuncId × RT) → Prop
  | [] =>True
  | (g,f) :: r =>ReadF S g f ∧ AllF S r
theorem lookT_spec : ∀ {T : List (FuncId × RT)} {g : FuncId} {f : RT},AllF S T → lookT T g = some f → ReadF S g f
  | (a,f') :: r,g,f,h,e =>by
    simp only [lookT] at e
    by_cases q : a = g
    · subst q; simp at e; subst e; exact h.1
    · have : (a == g) = false:=by simp [q]
      rw [this] at e
      exact lookT_spec h.2 e
theorem rdT_ok {T : List (FuncId × RT)} (h : AllF S T) : ReadA S (rdT T):=by
  intro g args M v foot e
  unfold rdT at e ⊢
  cases q : lookT T g with
  | none =>rw [q] at e; cases e
  | some f =>
    rw [q] at e
    exact lookT_spec h q args M v foot e
theorem appT_some {args : List AV} {M : Nat → Option Blk} {f : RT} : appT args M (some f) = f args M:=rfl
theorem appT_none {args : List AV} {M : Nat → Option Blk} : appT args M none = none:=rfl
theorem lookT_cons {a g : FuncId} {f : RT} {r : List (FuncId × RT)} : lookT ((a,f) :: r) g = bif a == g then some f else lookT r g:=rfl
theorem lookT_nil {g : FuncId} : lookT [] g = none:=rfl
theorem ReadF.pure {g : FuncId} {f : RT} (h : ∀ args M v foot,f args M = some (v,foot) → foot = [] ∧ (∀ M',f args M' = some (v,[])) ∧ AV.lts 0 args = true ∧ v.lt 0 = true ∧ Pure S g args v) : ReadF S g f:=by
  intro args M v foot e
  obtain ⟨rfl,h1,h2,h3,h4⟩:=h args M v foot e
  exact ⟨fun M' _ =>h1 M',fun eb φ own w0 w us hA hus hM hk =>h4.run h2 h3 hA hus hM hk⟩
theorem gcX_mono {base : Nat} {X Y : St → Prop} (h : ∀ s,X s → Y s) {s : St} : gcX base X s → gcX base Y s:=fun ⟨s',g,x⟩ =>⟨s',g,h s' x⟩
def MonoC (C : Ctx) : Prop:=∀ g args m (K K' : AV → Mem → Prop),(∀ v m',K v m' → K' v m') → C.call g args m K → C.call g args m K'
theorem MonoC.base {n : Nat} (h : MonoC C) : MonoC { C with base:=n }:=h
theorem wpNext_mono {m : Mem} {K K' : AV → Mem → Prop} (h : ∀ v m',K v m' → K' v m') {x : AV} (hw : wpNext m K x) : wpNext m K' x:=by
  unfold wpNext at hw ⊢
  split at hw
  · unfold wpNextB at hw ⊢
    split at hw
    · exact ⟨hw.1,h _ _ hw.2⟩
    · unfold wpNextM at hw ⊢
      split at hw
      · exact ⟨hw.1,hw.2.1,hw.2.2.1,fun q =>h _ _ (hw.2.2.2.1 q),fun e he =>h _ _ (hw.2.2.2.2 e he)⟩
      · exact hw.elim
    · exact hw.elim
  · exact hw.elim
theorem wpOp_mono (hC : MonoC C) {d : Option Nat} {op : AOp Opd} {K K' : St → Prop} (h : ∀ s,K s → K' s) {st : St} (hw : AH.wpOp C d op st K) : AH.wpOp C d op st K':=by
  unfold AH.wpOp at hw ⊢
  split at hw
  · rename_i f args e
    unfold wpCall at hw ⊢
    split at hw
    · rename_i g first cap ef
      exact hC _ _ _ _ _ (fun v m' q =>h _ q) hw
    · exact hw.elim
  · rename_i e
    split at hw
    · rename_i x ex
      exact wpNext_mono (fun v m' q =>h _ q) hw
    generalize bstep st.mem.length (mget st.mem) (op.map (Opd.ev st.tm)) = q at hw ⊢
    generalize missQ (op.map (Opd.ev st.tm)) = z at hw ⊢
    cases z with
    | true =>exact ⟨h _ hw.1,h _ hw.2⟩
    | false =>
      cases q with
      | none =>exact hw.elim
      | some x =>exact ⟨hw.1,h _ hw.2⟩
theorem wpOps_mono (hC : MonoC C) {K K' : St → Prop} (h : ∀ s,K s → K' s) : ∀ {ops : List AOper} {st : St},wpOps C ops K st → wpOps C ops K' st
  | [],st,hw =>h st hw
  | o :: r,st,hw =>by
    unfold wpOps at hw ⊢
    split at hw
    · rename_i e
      exact wpOp_mono hC (fun s =>wpOps_mono hC h) hw
    · rename_i t want e
      unfold wpG at hw ⊢
      split at hw
      · rename_i b eb
        exact ⟨fun q =>wpOp_mono hC (fun s =>wpOps_mono hC h) (hw.1 q),fun q =>wpOps_mono hC h (hw.2 q)⟩
      · rename_i eb
        exact wpOps_mono hC h hw
      · exact hw.elim
theorem wpOpD_mono {i : Nat} {a : List Nat} {lg : Log} {d : Option Nat} {op : AOp Opd} {K K' : Log → St → Prop} (h : ∀ l s,K l s → K' l s) {st : St} (hw : AH.wpOpD C i a lg d op st K) : AH.wpOpD C i a lg d op st K':=by
  unfold AH.wpOpD at hw ⊢
  split at hw
  · rename_i f args e
    generalize readOf C st.mem (evs st.tm args) (f.ev st.tm) = q at hw ⊢
    generalize effOf C st.mem (evs st.tm args) (f.ev st.tm) = z at hw ⊢
    cases q with
    | none =>
      cases z with
      | none =>exact hw.elim
      | some x =>exact ⟨hw.1,hw.2.1,h _ _ hw.2.2⟩
    | some x =>exact ⟨hw.1,h _ _ hw.2⟩
  · rename_i e
    generalize bstep st.mem.length (mget st.mem) (op.map (Opd.ev st.tm)) = q at hw ⊢
    cases q with
    | none =>exact hw.elim
    | some x =>exact ⟨hw.1,hw.2.1,hw.2.2.1,h _ _ hw.2.2.2⟩
theorem wpDs_mono {K K' : St → Prop} (h : ∀ s,K s → K' s) : ∀ {ops : List AOper} {i : Nat} {ix : List (List Nat)} {lg : Log} {st : St},wpDs C K i ops ix lg st → wpDs C K' i ops ix lg st
  | [],_,[],_,st,hw =>h st hw
  | [],_,_ :: _,_,st,hw =>by simp [wpDs] at hw
  | _ :: _,_,[],_,st,hw =>by simp [wpDs] at hw
  | o :: r,i,a :: ix,lg,st,hw =>by
    unfold wpDs at hw ⊢
    split at hw
    · rename_i e
      exact wpOpD_mono (fun l s =>wpDs_mono h) hw
    · rename_i t want e
      unfold wpGD at hw ⊢
      split at hw
      · rename_i b eb
        exact ⟨fun q =>wpOpD_mono (fun l s =>wpDs_mono h) (hw.1 q),fun q =>wpDs_mono h (hw.2 q)⟩
      · rename_i eb
        exact wpDs_mono h hw
      · exact hw.elim
theorem wpA_mono (hC : MonoC C) : ∀ {c : ACode} {Q Q' : Exit → St → Prop} {st : St},(∀ e s,Q e s → Q' e s) → wpA C c Q st → wpA C c Q' st
  | .skip,_,_,_,h,hw =>h _ _ hw
  | .reg _,_,_,_,h,hw =>wpOps_mono hC (h .normal) hw
  | .draw _ _,_,_,_,h,hw =>⟨hw.1,wpDs_mono (h .normal) hw.2⟩
  | .seq a b,Q,Q',_,h,hw =>wpA_mono (c:=a) hC (fun e s q =>by
      cases e with
      | normal =>exact wpA_mono (c:=b) hC h q
      | _ =>exact h _ _ q) hw
  | .cond c a b,Q,Q',st,h,hw =>by
    rw [wpA_cond] at hw ⊢
    generalize c.ev st.tm = v at hw ⊢
    unfold wpC at hw ⊢
    split at hw
    · exact ⟨fun q =>wpA_mono hC h (hw.1 q),fun q =>wpA_mono hC h (hw.2 q)⟩
    · exact hw.elim
  | .block id b,Q,Q',_,h,hw =>wpA_mono (c:=b) hC (fun e s q =>by
      cases e with
      | exit i =>
        rw [inBlk_exit] at q ⊢
        split at q
        · rename_i hi; rw [if_pos hi]; exact h _ _ q
        · rename_i hi; rw [if_neg hi]; exact h _ _ q
      | _ =>exact h _ _ q) hw
  | .loop b,Q,Q',_,h,hw =>by
    refine gcX_mono (fun s hs => ?_) hw
    intro X hX
    refine hs X fun s hs' =>hX s (wpA_mono (c:=b) hC (fun e s q => ?_) hs')
    cases e with
    | normal =>exact q
    | _ =>exact h _ _ q
  | .exit _,_,_,_,h,hw =>h _ _ hw
  | .ret,_,_,_,h,hw =>h _ _ hw
  | .abort,_,_,_,_,hw =>hw.elim
theorem loop_unroll (hC : MonoC C) {b : ACode} (h : wpA C b (thenQ (wpA C (.loop b) Q) Q) st) : wpA C (.loop b) Q st:=by
  refine ⟨st,.of0 (.inl ⟨fun t => .inr rfl,.inl rfl⟩),fun X hX =>hX st (wpA_mono hC (fun e s q => ?_) h)⟩
  cases e with
  | normal =>exact gcX_mono (fun s hs =>hs X hX) q
  | _ =>exact q
end AH
set_option linter.unusedSimpArgs false
namespace AH
open Go Go.ChangeShapes Go.WideShapes Go.RowKit
theorem Left.below {W W' : World} (h : Left W W') : Below W.heap.size W { W' with tape:=W.tape } :=
  have h' : Keeps (fun b =>W.heap.size ≤ b) W W':=h
  ⟨h'.os,rfl,h'.output,h'.size,fun k hk =>h'.kept k hk (by omega)⟩
def rowedB (P : Program) (ts : List TypeId) : Bool:=ts.all fun t =>P.readableRec t && decide (t < P.types.size)
theorem trodAll_below {H : Type} {enc : TypeId × Value → H} {P : Program} (hl : laidOutB P = true) {W W' : World} (hb : Below W.heap.size W W') :
    ∀ {ts : List TypeId} {vs : List Value} {ds : List (DataW H)} {ps : List MemPlace},rowedB P ts = true → DataW.TrodAll enc P W 0 (fun _ =>true) true ts vs ds ps → (∀ x ∈ ps,x.block < W.heap.size) →
      DataW.TrodAll enc P W' 0 (fun b =>decide (b < W.heap.size)) true ts vs ds ps
  | [],_,_,_,_,h,_ =>by
    obtain ⟨rfl,rfl,rfl⟩:=trodAll_nil h
    rfl
  | t :: ts,_,_,_,hr,h,hlt =>by
    obtain ⟨v,vs1,d,ds1,a,b,rfl,rfl,rfl,h1,h2⟩:=trodAll_cons h
    simp only [rowedB,List.all_cons,Bool.and_eq_true,decide_eq_true_eq] at hr
    exact ⟨a,b,Below.trod hl hr.1.1 hr.1.2 h1 hb (fun x hx =>hlt x (by simp [hx])),trodAll_below hl hb hr.2 h2 (fun x hx =>hlt x (by simp [hx])),rfl⟩
theorem law_post {H : Type} {enc : TypeId × Value → H} {P : Program} {f : Func} {s : ChangeSpec} {apart fresh handsOn : Bool} {W W' : World} {args : Array Value} {ds gs : List (DataW H)} {before : List MemPlace} {tb : TypeId}
    (hl : laidOutB P = true) (hb : P.underlying tb = some .bool) (hres : f.resultTypes = #[tb]) (hts : rowedB P f.params.toList = true) (hvars : s.vars = []) (hfn : s.fn H (ds ++ gs) = { results:=[.lit (.bool true)],args:=ds })
    (hW : DataW.Whole enc P f.params.toList s.vars apart W args.toList ds gs before) (h : Left W W') : s.post enc P f apart fresh handsOn false W args (.bool true) W':=by
  have hlt:=hW.lt
  obtain ⟨p,q,hA,hV,rfl,hz,hn⟩:=hW
  refine ⟨ds,gs,p ++ q,[],p,[],⟨p,q,hA,hV,rfl,hz,hn⟩,?_,?_,?_,h.kept _,fun k =>by cases k⟩
  · rw [hfn,hres]
    exact trodAll_cons_mk (shut_bool hb _) trodAll_mk0
  · rw [hfn]
    have:=trodAll_below hl h.below hts hA fun x hx =>hlt x (by simp [hx])
    exact DataW.TrodAll.of_heap (w:={ W' with tape:=W.tape }) (w':=W') rfl this
  · rw [hfn,hvars]
    rfl
end AH
set_option linter.unusedSimpArgs false
namespace AH
open Go Go.ChangeShapes Go.WideShapes Go.RowKit
inductive SH where
  | bool | int (k : IntKind) | str
  deriving DecidableEq,Inhabited
def shapeFs (g : TypeId → Option (List SH)) : List Field → Nat → Option (List SH)
  | [],_ =>some []
  | f :: r,off =>if f.offset ≠ off then none else match g f.type with
    | some ks =>(shapeFs g r (off + ks.length)).map (ks ++ ·)
    | none =>none
def shapeT (P : Program) : Nat → TypeId → Option (List SH)
  | 0,_ =>none
  | d + 1,t =>match P.underlying t with
    | some .bool =>some [.bool]
    | some (.int k) =>some [.int k]
    | some .string =>some [.str]
    | some (.struct fs) =>match shapeFs (fun t =>match shapeT P d t with
        | some ks =>if P.cellsOf t = ks.length then some ks else none
        | none =>none) fs.toList 0 with
      | some ks =>if P.cellsOf t = ks.length then some ks else none
      | none =>none
    | some (.array n e) =>match shapeT P d e with
      | some ks =>if P.cellsOf e = ks.length ∧ P.cellsOf t = n * ks.length then some (List.replicate n ks).flatten else none
      | none =>none
    | _ =>none
def shOK : SH → AV → Prop
  | .bool,v => ∃ b,v = .bool b
  | .int k,v => ∃ n,v = .int k n ∧ (Lit.int k n).wf = true
  | .str,v => ∃ s : ByteArray,v = .str s ∧ s.size ≤ maxLen
def shsOK : List SH → List AV → Prop
  | [],[] =>True
  | k :: ks,v :: vs =>shOK k v ∧ shsOK ks vs
  | _,_ =>False
def shV : SH → Value → Prop
  | .bool,v => ∃ b,v = .bool b
  | .int k,v => ∃ n,v = .int k n ∧ (Lit.int k n).wf = true
  | .str,v => ∃ s : ByteArray,v = .string s ∧ s.size ≤ maxLen
def shsV : List SH → List Value → Prop
  | [],[] =>True
  | k :: ks,v :: vs =>shV k v ∧ shsV ks vs
  | _,_ =>False
theorem shsV_len : ∀ {ks : List SH} {vs : List Value},shsV ks vs → ks.length = vs.length
  | [],[],_ =>rfl
  | [],_ :: _,h =>h.elim
  | _ :: _,[],h =>h.elim
  | _ :: _,_ :: _,h =>by simp [shsV_len h.2]
theorem shsV_append : ∀ {k1 k2 : List SH} {v1 v2 : List Value},shsV k1 v1 → shsV k2 v2 → shsV (k1 ++ k2) (v1 ++ v2)
  | [],_,[],_,_,h =>h
  | [],_,_ :: _,_,h,_ =>h.elim
  | _ :: _,_,[],_,h,_ =>h.elim
  | _ :: _,_,_ :: _,_,h,g =>⟨h.1,shsV_append h.2 g⟩
theorem shsV_av : ∀ {ks : List SH} {vs : List Value},shsV ks vs → ∃ as : List AV,shsOK ks as ∧ (∀ T eb φ,VRs T eb φ as vs) ∧ ∀ v ∈ vs,v.oneCell' = true
  | [],[],_ =>⟨[],trivial,fun _ _ _ => .nil,by simp⟩
  | [],_ :: _,h =>h.elim
  | _ :: _,[],h =>h.elim
  | k :: ks,v :: vs,h =>by
    obtain ⟨as,h1,h2,h3⟩:=shsV_av h.2
    obtain ⟨a,g1,g2,g3⟩ : ∃ a,shOK k a ∧ (∀ T eb φ,VR T eb φ a v) ∧ v.oneCell' = true:=by
      have hk:=h.1
      cases k with
      | bool =>obtain ⟨b,rfl⟩:=hk; exact ⟨.bool b,⟨b,rfl⟩,fun _ _ _ => .bool b,rfl⟩
      | int k =>obtain ⟨n,rfl,hw⟩:=hk; exact ⟨.int k n,⟨n,rfl,hw⟩,fun _ _ _ => .int k n,rfl⟩
      | str =>obtain ⟨s,rfl,hw⟩:=hk; exact ⟨.str s,⟨s,rfl,hw⟩,fun _ _ _ => .str s,rfl⟩
    refine ⟨a :: as,⟨g1,h1⟩,fun T eb φ => .cons _ _ _ _ (g2 T eb φ) (h2 T eb φ),?_⟩
    intro x hx
    rcases List.mem_cons.1 hx with rfl | hx
    · exact g3
    · exact h3 x hx
section
variable {H : Type} {enc : TypeId × Value → H} {P : Program} {w : World} {base : Nat} {spare : Nat → Bool} {held : Bool}
theorem trod_shape : ∀ (d : Nat) (t : TypeId) (ks : List SH),shapeT P d t = some ks → ∀ {fuel : Nat} {cs : List Value} {x : DataW H × List MemPlace},DataW.trod enc P w base spare held fuel t cs = some x → shsV ks cs
  | 0,_,_,h,_,_,_,_ =>by simp [shapeT] at h
  | d + 1,t,ks,h,fuel,cs,x,hx =>by
    have ih:=fun t ks h => @trod_shape d t ks h
    simp only [shapeT] at h
    split at h
    · rename_i hu
      simp only [Option.some.injEq] at h; subst h
      obtain ⟨b,rfl,_⟩:=DataW.trod_bool hu hx
      exact ⟨⟨b,rfl⟩,trivial⟩
    · rename_i k hu
      simp only [Option.some.injEq] at h; subst h
      obtain ⟨n,rfl,_,hw⟩:=DataW.trod_int hu hx
      exact ⟨⟨n,rfl,hw⟩,trivial⟩
    · rename_i hu
      simp only [Option.some.injEq] at h; subst h
      obtain ⟨s,rfl,_,hw⟩:=DataW.trod_string hu hx
      exact ⟨⟨s,rfl,hw⟩,trivial⟩
    · rename_i fs hu
      split at h
      · rename_i ks' hfs
        split at h
        · rename_i hc
          simp only [Option.some.injEq] at h; subst h
          obtain ⟨xs,n,_,_,hl,hlen,hf⟩:=DataW.trod_struct hu hx
          have key : ∀ (l : List Field) (off i : Nat) (ks : List SH),shapeFs (fun t =>match shapeT P d t with
              | some ks =>if P.cellsOf t = ks.length then some ks else none
              | none =>none) l off = some ks → (∀ j : Nat,l[j]? = fs[i + j]?) → off + ks.length ≤ cs.length → shsV ks ((cs.drop off).take ks.length):=by
            intro l
            induction l with
            | nil =>
              intro off i ks h _ _
              simp only [shapeFs,Option.some.injEq] at h
              subst h
              simp; trivial
            | cons fl l ihl =>
              intro off i ks h hg hle
              simp only [shapeFs] at h
              split at h
              · cases h
              rename_i hoff
              simp only [ne_eq,Decidable.not_not] at hoff
              subst hoff
              split at h
              · rename_i k1 hk1
                simp only [Option.map_eq_some_iff] at h
                obtain ⟨k2,hk2,rfl⟩:=h
                simp only [List.length_append] at hle
                split at hk1
                · rename_i k1' hk1'
                  split at hk1
                  · rename_i hce
                    simp only [Option.some.injEq] at hk1; subst hk1
                    have h0 : fs[i]? = some fl:=by have:=hg 0; simpa using this.symm
                    have hr:=hf i fl h0
                    have hi : i < xs.length:=by rw [hlen]; exact (Array.getElem?_eq_some_iff.1 h0).1
                    rw [List.getElem?_eq_getElem hi] at hr
                    have h1:=ih _ _ hk1' hr
                    rw [hce] at h1
                    have h2:=ihl (fl.offset + k1'.length) (i + 1) k2 hk2 (fun j =>by have:=hg (j + 1); rw [List.getElem?_cons_succ] at this; rw [this]; congr 1; omega) (by omega)
                    have:=shsV_append h1 h2
                    rw [List.length_append,List.take_add,List.drop_drop]
                    exact this
                  · cases hk1
                · cases hk1
              · cases h
          have:=key fs.toList 0 0 ks' hfs (by simp) (by omega)
          rw [List.drop_zero,List.take_of_length_le (by omega)] at this
          exact this
        · cases h
      · cases h
    · rename_i n e hu
      split at h
      · rename_i k1 hk1
        split at h
        · rename_i hc
          simp only [Option.some.injEq] at h; subst h
          obtain ⟨xs,m,_,_,hl,hlen,hf⟩:=DataW.trod_array hu hx
          have key : ∀ (c i : Nat),i + c = n → shsV (List.replicate c k1).flatten (cs.drop (i * k1.length)):=by
            intro c
            induction c with
            | zero =>
              intro i hi
              have : cs.drop (i * k1.length) = []:=List.drop_eq_nil_of_le (by rw [hl,hc.2,show i = n by omega]; exact Nat.le_refl _)
              rw [this]; simp; trivial
            | succ c ihc =>
              intro i hi
              have hr:=hf i (by omega)
              rw [List.getElem?_eq_getElem (show i < xs.length by omega)] at hr
              have h1:=ih _ _ hk1 hr
              have h2:=ihc (i + 1) (by omega)
              rw [hc.1] at h1
              have:=shsV_append h1 h2
              rw [List.replicate_succ,List.flatten_cons]
              rw [show (i + 1) * k1.length = i * k1.length + k1.length by rw [Nat.add_mul,Nat.one_mul],← List.drop_drop,List.take_append_drop] at this
              exact this
          have:=key n 0 (by omega)
          simpa using this
        · cases h
      · cases h
    · cases h
end
section
variable {H : Type} {enc : TypeId × Value → H} {P : Program} {W : World} {sp : Nat → Bool} {held : Bool}
structure SliceAt (W : World) (T : TypeId) (eb : Nat → Addr) (ks : List SH) (v : Value) (es : List (List AV)) (b off size : Nat) : Prop where
  each : ∀ el ∈ es,shsOK ks el
  len : es.length ≤ maxLen
  there : ∃ o,W.heap[b]? = some o ∧ ∀ (φ : Emb) (id : Nat),φ.dom id → φ.blk id = b → φ.base id = off → φ.k id = ks.length → φ.size id = size →
    VR T eb φ (.slc id 0 es.length none) v ∧ BR T eb φ id (.row true ks.length es) o
theorem shsOK_len : ∀ {ks : List SH} {as : List AV},shsOK ks as → ks.length = as.length
  | [],[],_ =>rfl
  | [],_ :: _,h =>h.elim
  | _ :: _,[],h =>h.elim
  | _ :: _,_ :: _,h =>by simp [shsOK_len h.2]
theorem cell_some {a : Addr} {v : Value} (h : W.cell? a = some v) : ∃ arr et fr,W.heap[a.block]? = some (.cells arr et fr) ∧ a.spot = none ∧ arr[a.off]? = some v:=by
  unfold World.cell? at h
  split at h
  · rename_i c et fr hb
    split at h
    · cases h
    · rename_i hs
      exact ⟨c,et,fr,hb,by simpa using hs,h⟩
  · cases h
theorem okWide_slice {t e : TypeId} {r : Reach} {b0 : Nat} {a : Addr} {len cap : Nat} (ht : P.underlying t = some (.slice e)) (h : Value.okWide P W r b0 t (.slice (some a) len cap)) : ∃ arr et fr,W.heap[a.block]? = some (.cells arr et fr):=by
  simp only [Value.okWide,ht,Cell.okWide,Cell.ok] at h
  obtain ⟨_,_,_,_,row,cells,hs,_⟩:=h
  unfold World.shape? at hs
  split at hs
  · rename_i c t fr hb; exact ⟨_,_,_,hb⟩
  · cases hs
theorem open_slice {t e : TypeId} {ks : List SH} {r : Reach} {b0 : Nat} {v : Value} {d : DataW H} {ps : List MemPlace} (T : TypeId) (eb : Nat → Addr) (ht : P.underlying t = some (.slice e)) (hk : shapeT P 8 e = some ks) (hc : P.cellsOf e = ks.length) (hpos : 0 < ks.length)
    (hany : ∃ (b : Nat) (arr : Array Value) (et : TypeId) (fr : Nat × Nat),W.heap[b]? = some (Obj.cells arr et fr)) (hval : Value.okWide P W r b0 t v) (hd : DataW.Trod enc P W 0 (fun _ =>true) held t v d ps) :
    ∃ es b off size,SliceAt W T eb ks v es b off size:=by
  obtain ⟨fuel,hf⟩:=hd
  have empty : ∀ (ad : Option Addr) (b : Nat) (arr : Array Value) (et : TypeId) (fr : Nat × Nat),W.heap[b]? = some (Obj.cells arr et fr) → SliceAt W T eb ks (.slice ad 0 0) [] b 0 arr.size:=fun ad b arr et fr hb =>
    ⟨by simp,by simp,_,hb,fun φ id h1 h2 h3 h4 h5 =>⟨.slc0 id 0 none ad h1 (by simp),arr,et,fr,rfl,h4,h5.symm,by simp [h3],by simp,by simp⟩⟩
  rcases DataW.trod_slice ht hf with ⟨hcs,_⟩ | ⟨a,len,cap,elems,rest,n,_,hcs,_,_,hlc,hcm,hel,heach,hsp,_⟩
  · obtain ⟨b,arr,et,fr,hb⟩:=hany
    have hv : v = .slice none 0 0:=by
      cases v with
      | agg cs =>simp [Value.okWide,ht,Cell.okWide,Cell.ok] at hval
      | _ =>simp_all [Value.cells]
    subst hv
    exact ⟨[],b,0,arr.size,empty none b arr et fr hb⟩
  · have hv : v = .slice (some a) len cap:=by
      cases v with
      | agg cs =>simp [Value.okWide,ht,Cell.okWide,Cell.ok] at hval
      | _ =>simp_all [Value.cells]
    subst hv
    obtain ⟨arr,et,fr,hb⟩:=okWide_slice ht hval
    obtain ⟨hrl,hrest⟩:=hsp rfl
    by_cases hcap : cap = 0
    · subst hcap
      have hl0 : len = 0:=by omega
      subst hl0
      exact ⟨[],a.block,0,arr.size,empty (some a) a.block arr et fr hb⟩
    · -- every element is there
      have get : ∀ i,i < cap → ∃ cs,W.cells? 0 (a.add (i * P.cellsOf e)) (P.cellsOf e) = some cs ∧ shsV ks cs:=by
        intro i hi
        by_cases hil : i < len
        · have h1:=heach i hil
          rw [List.getElem?_eq_getElem (show i < elems.length by omega),Option.bind_eq_some_iff] at h1
          obtain ⟨cs,h2,h3⟩:=h1
          exact ⟨cs,h2,trod_shape 8 e ks hk h3⟩
        · have h1:=hrest (i - len) (by omega)
          rw [show len + (i - len) = i by omega,List.getElem?_eq_getElem (show i - len < rest.length by omega),Option.bind_eq_some_iff] at h1
          obtain ⟨cs,h2,h3⟩:=h1
          exact ⟨cs,h2,trod_shape 8 e ks hk h3⟩
      have spot : a.spot = none:=by
        obtain ⟨cs,h1,h2⟩:=get 0 (by omega)
        have h3:=(World.cells?_some h1).2.2 0 (by have:=shsV_len h2; omega)
        simp only [Nat.zero_mul,Addr.add,if_true] at h3
        rw [List.getElem?_eq_getElem (show 0 < cs.length by have:=shsV_len h2; omega)] at h3
        obtain ⟨_,_,_,_,h4,_⟩:=cell_some h3
        exact h4
      obtain ⟨bl,off,sp'⟩:=a
      simp only at spot hb
      subst spot
      have at_ : ∀ i j : Nat,i < cap → j < ks.length → ∃ cs : List Value,shsV ks cs ∧ W.cells? 0 (⟨bl,off + i * ks.length,none⟩) ks.length = some cs:=by
        intro i j hi hj
        obtain ⟨cs,h1,h2⟩:=get i hi
        rw [hc,add_lit] at h1
        exact ⟨cs,h2,h1⟩
      have cellsAt : ∀ i,i < cap → ∃ cs : List Value,shsV ks cs ∧ cs.length = ks.length ∧ ∀ j u,cs[j]? = some u → arr[off + i * ks.length + j]? = some u:=by
        intro i hi
        obtain ⟨cs,h1,h2⟩:=at_ i 0 hi hpos
        refine ⟨cs,h1,(shsV_len h1).symm,fun j u hj => ?_⟩
        have hjl:=(List.getElem?_eq_some_iff.1 hj).1
        have h3:=(World.cells?_some h2).2.2 j (by have:=shsV_len h1; omega)
        rw [add_lit,List.getElem?_eq_getElem hjl] at h3
        obtain ⟨arr',et',fr',g1,_,g2⟩:=cell_some h3
        simp only at g1 g2
        rw [hb] at g1; cases g1
        rw [g2,← hj,List.getElem?_eq_getElem hjl]
      have hfit : off + cap * ks.length ≤ arr.size:=by
        obtain ⟨cs,h1,h2,h3⟩:=cellsAt (cap - 1) (by omega)
        have hu : cs[ks.length - 1]? = some (cs[ks.length - 1]'(by omega)):=List.getElem?_eq_getElem _
        have:=(Array.getElem?_eq_some_iff.1 (h3 _ _ hu)).1
        have e1 : cap * ks.length = (cap - 1) * ks.length + ks.length:=by rw [← Nat.succ_mul]; congr 1; omega
        omega
      -- the abstract elements
      have build : ∀ m,m ≤ cap → ∃ es : List (List AV),es.length = m ∧ (∀ el ∈ es,shsOK ks el) ∧ ∀ (i : Nat) el,es[i]? = some el → el.length = ks.length ∧ ∀ φ,CellsAt T eb φ arr (off + i * ks.length) el:=by
        intro m
        induction m with
        | zero =>intro _; exact ⟨[],rfl,by simp,by simp⟩
        | succ m ih =>
          intro hm
          obtain ⟨es,h1,h2,h3⟩:=ih (by omega)
          obtain ⟨cs,g1,g2,g3⟩:=cellsAt m (by omega)
          obtain ⟨as,k1,k2,k3⟩:=shsV_av g1
          refine ⟨es ++ [as],by simp [h1],?_,?_⟩
          · intro el hel'
            rcases List.mem_append.1 hel' with q | q
            · exact h2 el q
            · simp only [List.mem_singleton] at q; subst q; exact k1
          · intro i el hi
            by_cases him : i < es.length
            · rw [List.getElem?_append_left him] at hi
              exact h3 i el hi
            · rw [List.getElem?_append_right (by omega)] at hi
              have hi0 : i = m:=by
                have:=(List.getElem?_eq_some_iff.1 hi).1
                simp at this; omega
              subst hi0
              rw [h1,Nat.sub_self] at hi
              simp at hi
              subst hi
              exact ⟨(shsOK_len k1).symm,fun φ =>cellsAt_of_list (k2 T eb φ) k3 g3⟩
      obtain ⟨es,h1,h2,h3⟩:=build len hlc
      refine ⟨es,bl,off,arr.size,h2,by omega,_,hb,fun φ id d1 d2 d3 d4 d5 =>⟨?_,arr,et,fr,rfl,d4,d5.symm,?_,by simp,fun i el hi => ?_⟩⟩
      · have:=VR.slc (T:=T) (eb:=eb) (φ:=φ) id 0 es.length none cap d1 (by omega) (by simp) (by rw [d3,d4,d5,Nat.zero_add]; exact hfit)
        rw [d2,d3,d4,Nat.zero_mul,Nat.add_zero,h1] at this
        rw [h1]
        exact this
      · have : es.length * ks.length ≤ cap * ks.length:=Nat.mul_le_mul_right _ (by omega)
        rw [d3]; omega
      · obtain ⟨g1,g2⟩:=h3 i el hi
        exact ⟨g1,by rw [d3]; exact g2 φ⟩
end
end AH
set_option linter.unusedSimpArgs false
namespace AH
open Go Go.ChangeShapes Go.WideShapes Go.RowKit
structure ErrRows (P : Program) (errT ti te ts : TypeId) : Prop where
  iface : ∃ ms,P.underlying ti = some (.interface ms)
  name : ∀ u, P.typeName? 3 u = some "*errors.errorString" → u = errT
  ptr : P.underlying errT = some (.pointer te)
  str : ∃ f : Field,P.underlying te = some (.struct #[f]) ∧ f.type = ts ∧ f.offset = 0
  text : P.underlying ts = some .string
  c1 : P.cellsOf te = 1
  c2 : P.cellsOf ts = 1
def isErrD : DataW Unit → Bool
  | .iface n (.ptr (.agg [.lit (.string _)])) => n == "*errors.errorString"
  | _ =>false
def mp (a : Addr) : MemPlace:=.cell a.block a.off
theorem laid_list {P : Program} {errT ti te ts : TypeId} (hE : ErrRows P errT ti te ts) {W : World} {all : List MemPlace} (hrows : ∀ b off,MemPlace.cell b off ∈ all → (∃ c t,W.heap[b]? = some (.cells c t (0,0))) ∧ ∀ u v,W.cell? ⟨b,off,none⟩ = some (.iface u v) → Value.okWide P W .any 0 u v) :
    ∀ {laid : List (String × DataW Unit)} {errs : List Nat} {ps : List MemPlace},DataW.LaidVars P W laid ps → laid.map (fun x =>P.globalNamed x.1) = errs.map some → (∀ g ∈ errs,(P.globals[g]?).map (·.type) = some ti) → (laid.all fun x =>isErrD x.2) = true → (∀ x ∈ ps,x ∈ all) →
      ∃ as : List Addr,as.length = errs.length ∧ (as.map mp).Sublist ps ∧ ∀ (i : Nat) (g : Nat) (a : Addr),errs[i]? = some g → as[i]? = some a → a.spot = none ∧ (∃ c t,W.heap[a.block]? = some (.cells c t (0,0))) ∧ ∃ et fr,W.heap[g]? = some (.cells #[.iface errT (.pointer (some a))] et fr)
  | [],errs,ps,h,hg,_,_,_ =>by
    cases errs with
    | nil =>exact ⟨[],rfl,by simp,by simp⟩
    | cons g r =>simp at hg
  | (n,d) :: laid,[],ps,h,hg,_,_,_ =>by simp at hg
  | (n,d) :: laid,g :: errs,ps,h,hg,ht,hd,hsub =>by
    obtain ⟨g',t,cs,fuel,p,q,h1,h2,h3,h4,h5,rfl⟩:=h
    simp only [List.map_cons,List.cons.injEq] at hg
    obtain ⟨hg1,hg2⟩:=hg
    rw [h1] at hg1
    cases hg1
    simp only [List.all_cons,Bool.and_eq_true] at hd
    have htg:=ht g (by simp)
    rw [h2] at htg
    cases htg
    obtain ⟨text, rfl⟩ : ∃ text, d = .iface "*errors.errorString" (.ptr (.agg [.lit (.string text)])) := by
      have:=hd.1
      unfold isErrD at this
      split at this
      · rename_i m s
        simp only [beq_iff_eq] at this
        subst this
        exact ⟨s,rfl⟩
      · cases this
    obtain ⟨ms,hi⟩:=hE.iface
    obtain ⟨f,hf1,hf2,hf3⟩:=hE.str
    have hcs1 : cs.size = 1:=by
      obtain ⟨f1,u,v,hcs,_,_⟩:=iface_of_trod hi h4
      have:=congrArg List.length hcs
      simpa using this
    have ok : ∀ u v,cs.toList = [.iface u v] → Value.okWide P W .any 0 u v:=fun u v e =>by
      refine (hrows g 0 (hsub _ ?_)).2 u v ?_
      · simp [MemPlace.row,hcs1]
      · rw [World.var?_cell h1 h3 0,← Array.getElem?_toList,e]; rfl
    obtain ⟨a,s,hcs,hcell,_,_,rfl⟩:=errorString_of_trod hi hE.name hE.ptr hf1 hf2 hf3 hE.text hE.c1 hE.c2 h4 ok
    obtain ⟨arr,et,fr,hb,hs,_⟩:=cell_some hcell
    obtain ⟨as,g1,g2,g3⟩:=laid_list hE hrows h5 hg2 (fun x hx =>ht x (by simp [hx])) hd.2 (fun x hx =>hsub x (by simp [hx]))
    have hvar : ∃ et fr,W.heap[g]? = some (.cells #[.iface errT (.pointer (some a))] et fr):=by
      unfold World.var? at h3
      rw [h1] at h3
      simp only [Option.bind_some] at h3
      split at h3
      · rename_i c et fr hh
        cases h3
        refine ⟨et,fr,?_⟩
        rw [hh]
        congr 2
        apply Array.ext'
        simpa using hcs
      · cases h3
    refine ⟨a :: as,by simp [g1],?_,?_⟩
    · have e : MemPlace.row a 1 = [mp a]:=by simp [MemPlace.row,mp]
      rw [e,List.append_assoc]
      exact List.Sublist.trans (List.Sublist.cons_cons _ g2) (List.sublist_append_right _ _)
    · intro i g' a' hi' ha'
      cases i with
      | zero =>
        simp at hi' ha'
        subst hi' ha'
        refine ⟨hs,?_,hvar⟩
        exact (hrows a.block a.off (hsub _ (by simp [MemPlace.row]))).1
      | succ i =>exact g3 i g' a' (by simpa using hi') (by simpa using ha')
theorem amb_of_laid {S : AH.Sys} {ti te ts : TypeId} (hE : ErrRows S.P S.errT ti te ts) {W : World} {laid : List (String × DataW Unit)} (h : laidMet S.P laid W) (hg : laid.map (fun x =>S.P.globalNamed x.1) = S.errs.map some)
    (ht : ∀ g ∈ S.errs,(S.P.globals[g]?).map (·.type) = some ti) (hd : (laid.all fun x =>isErrD x.2) = true) (hh : ∀ x ∈ S.hands,∃ et fr,W.heap[x.1]? = some (.cells #[x.2] et fr)) : ∃ eb : Nat → Addr,Amb S eb (fun b =>W.heap.size ≤ b) W:=by
  obtain ⟨ps,hl,hnd,hrows⟩:=h
  obtain ⟨as,h1,h2,h3⟩:=laid_list hE hrows hl hg ht hd (fun _ hx =>hx)
  have hpos : ∀ g ∈ S.errs,∃ i a,S.errs[i]? = some g ∧ as[i]? = some a ∧ S.errs.idxOf g = i:=fun g hg' =>by
    have hlt:=List.idxOf_lt_length_of_mem hg'
    refine ⟨S.errs.idxOf g,as[S.errs.idxOf g]'(by omega),?_,by simp,rfl⟩
    rw [List.getElem?_eq_getElem hlt]
    simp
  refine ⟨fun g =>(as[S.errs.idxOf g]?).getD default,?_,?_,?_,?_,?_,fun x hx => ?_⟩
  rotate_right
  · obtain ⟨et,fr,h⟩:=hh x hx
    have:=(Array.getElem?_eq_some_iff.1 h).1
    exact ⟨⟨et,fr,h⟩,by omega⟩
  · intro g hg'
    obtain ⟨i,a,e1,e2,e3⟩:=hpos g hg'
    obtain ⟨_,_,et,fr,hh⟩:=h3 i g a e1 e2
    exact ⟨et,fr,by rw [e3,e2]; exact hh⟩
  · intro g hg' hle
    obtain ⟨i,a,e1,e2,e3⟩:=hpos g hg'
    obtain ⟨_,_,et,fr,hh⟩:=h3 i g a e1 e2
    have:=(Array.getElem?_eq_some_iff.1 hh).1
    omega
  · intro g hg' k hk' e
    obtain ⟨i,a,e1,e2,e3⟩:=hpos g hg'
    obtain ⟨j,b,f1,f2,f3⟩:=hpos k hk'
    simp only [e3,f3,e2,f2,Option.getD_some] at e
    subst e
    have hn:=h2.nodup hnd
    have hij : i = j:=by
      have i1 : (as.map mp)[i]? = some (mp a):=by simp [e2]
      have i2 : (as.map mp)[j]? = some (mp a):=by simp [f2]
      have hi:=(List.getElem?_eq_some_iff.1 i1).1
      exact (List.getElem?_inj hi hn).1 (by rw [i1,i2])
    subst hij
    rw [e1] at f1
    cases f1; rfl
  · intro g hg'
    obtain ⟨i,a,e1,e2,e3⟩:=hpos g hg'
    obtain ⟨_,⟨c,t,hb⟩,_⟩:=h3 i g a e1 e2
    have:=(Array.getElem?_eq_some_iff.1 hb).1
    simp only [e3,e2,Option.getD_some]
    omega
  · intro g hg'
    obtain ⟨i,a,e1,e2,e3⟩:=hpos g hg'
    obtain ⟨_,hb,_⟩:=h3 i g a e1 e2
    simp only [e3,e2,Option.getD_some]
    exact hb
structure InRow where
  b : Nat
  off : Nat
  size : Nat
  k : Nat
  es : List (List AV)
  deriving Inhabited
def embOf (ls : List InRow) : Emb :=
  { dom:=fun i =>i < ls.length,blk:=fun i =>(ls.getD i default).b,base:=fun i =>(ls.getD i default).off,k:=fun i =>(ls.getD i default).k,size:=fun i =>(ls.getD i default).size }
def memOf (ls : List InRow) : Mem:=ls.map fun x =>some (.row true x.k x.es)
theorem memOf_get : ∀ (ls : List InRow) (i : Nat),mget (memOf ls) i = (ls[i]?).map fun x =>Blk.row true x.k x.es
  | [],i =>by simp [memOf,mget_nil]
  | x :: r,0 =>by simp [memOf,mget]
  | x :: r,i + 1 =>by
    have:=memOf_get r i
    simp only [memOf] at this ⊢
    simp only [List.map_cons,mget,this,List.getElem?_cons_succ]
theorem mr_of {T : TypeId} {eb : Nat → Addr} {W : World} {own : Nat → Prop} {ls : List InRow} (h : ∀ (i : Nat) (x : InRow),ls[i]? = some x → ∃ o,W.heap[x.b]? = some o ∧ BR T eb (embOf ls) i (.row true x.k x.es) o) : MR T eb (embOf ls) (mget (memOf ls)) own W:=by
  have key : ∀ {i b},mget (memOf ls) i = some b → ∃ x,ls[i]? = some x ∧ b = .row true x.k x.es:=fun hb =>by
    rw [memOf_get,Option.map_eq_some_iff] at hb
    obtain ⟨x,hx,rfl⟩:=hb
    exact ⟨x,hx,rfl⟩
  refine ⟨fun i b hb => ?_,fun i ro k es hb => ?_,fun i b hb _ => ?_,fun i b hb hr => ?_,fun i j b b' hb _ _ hr => ?_⟩
  · obtain ⟨x,hx,_⟩:=key hb
    exact (List.getElem?_eq_some_iff.1 hx).1
  · obtain ⟨x,hx,q⟩:=key hb
    simp only [Blk.row.injEq] at q
    simp [embOf,List.getD,hx,q.2.1]
  · obtain ⟨x,hx,rfl⟩:=key hb
    obtain ⟨o,h1,h2⟩:=h i x hx
    exact ⟨o,by simpa [embOf,List.getD,hx] using h1,h2⟩
  · obtain ⟨x,_,rfl⟩:=key hb
    cases hr
  · obtain ⟨x,_,rfl⟩:=key hb
    cases hr
theorem SliceAt.at {W : World} {T : TypeId} {eb : Nat → Addr} {ks : List SH} {v : Value} {es : List (List AV)} {b off size : Nat} (h : SliceAt W T eb ks v es b off size) {ls : List InRow} {i : Nat} (hi : ls[i]? = some ⟨b,off,size,ks.length,es⟩) :
    VR T eb (embOf ls) (.slc i 0 es.length none) v ∧ ∃ o,W.heap[b]? = some o ∧ BR T eb (embOf ls) i (.row true ks.length es) o:=by
  obtain ⟨o,h1,h2⟩:=h.there
  obtain ⟨g1,g2⟩:=h2 (embOf ls) i (List.getElem?_eq_some_iff.1 hi).1 (by simp [embOf,List.getD,hi]) (by simp [embOf,List.getD,hi]) (by simp [embOf,List.getD,hi]) (by simp [embOf,List.getD,hi])
  exact ⟨g1,o,h1,g2⟩
theorem law_call {S : AH.Sys} {g : FuncId} {fn : Func} {args : List AV} {m : Mem} (hf : S.P.funcs[g]? = some fn) (hb : fn.body.isSome = true) (hn : (fn.name == "runtime.NumGoroutine") = false) {eb : Nat → Addr} {φ : Emb} {W : World} {us : Array Value}
    (hA : Amb S eb (fun b =>W.heap.size ≤ b) W) (hus : VRs S.errT eb φ args us.toList) (hM : MR S.errT eb φ (mget m) (fun b =>W.heap.size ≤ b) W) (hd : ∀ id,φ.dom id → id < m.length) (h : CallA1 S g args m fun v _ =>v = .bool true) :
    Calls S.P g us W fun e W' =>e = .returned (.bool true) ∧ Left W W':=by
  have:=h eb φ _ W W us hA hus hM (.refl fun _ h =>h) hd
  refine (this.calls hf hb hn).mono ?_
  rintro e w' ⟨v,rfl,φ',v',m',rfl,_,hr,_,hk',_⟩
  rw [vr_bool hr]
  exact ⟨rfl,hk'⟩
end AH
set_option linter.unusedSimpArgs false
namespace AH
open Go
variable {S : Sys} {eb : Nat → Addr} {own : Nat → Prop} {w0 w : World} {φ : Emb}
mutual
theorem flat_inB {p : Nat → Bool} : ∀ {v : AV},v.lt 0 = true → v.inB p = true
  | .ptr ..,h | .slc ..,h | .isl ..,h | .map _,h =>by simp [AV.lt] at h
  | .undef,_ | .bool _,_ | .int ..,_ | .str _,_ | .nilp,_ | .nils,_ | .nilm,_ | .nilf,_ | .nili,_ | .err _,_ =>rfl
  | .fn f a b,h =>by
    simp only [AV.lt,Bool.and_eq_true] at h
    simp only [AV.inB,flats_inB h.1,flats_inB h.2,Bool.and_self]
  | .ifc t v,h =>by
    simp only [AV.lt] at h
    simp only [AV.inB,flat_inB h]
  | .agg cs,h =>by
    simp only [AV.lt] at h
    simp only [AV.inB,flats_inB h]
  | .tup cs,h =>by
    simp only [AV.lt] at h
    simp only [AV.inB,flats_inB h]
theorem flats_inB {p : Nat → Bool} : ∀ {l : List AV},AV.lts 0 l = true → AV.insB p l = true
  | [],_ =>rfl
  | v :: r,h =>by
    simp only [AV.lts,Bool.and_eq_true] at h
    simp only [AV.insB,flat_inB h.1,flats_inB h.2,Bool.and_self]
end
mutual
theorem flat_ren {ρ : Nat → Nat} : ∀ {v : AV},v.lt 0 = true → v.ren ρ = v
  | .ptr ..,h | .slc ..,h | .isl ..,h | .map _,h =>by simp [AV.lt] at h
  | .undef,_ | .bool _,_ | .int ..,_ | .str _,_ | .nilp,_ | .nils,_ | .nilm,_ | .nilf,_ | .nili,_ | .err _,_ =>rfl
  | .fn f a b,h =>by
    simp only [AV.lt,Bool.and_eq_true] at h
    simp only [AV.ren,flats_rens h.1,flats_rens h.2]
  | .ifc t v,h =>by
    simp only [AV.lt] at h
    simp only [AV.ren,flat_ren h]
  | .agg cs,h =>by
    simp only [AV.lt] at h
    simp only [AV.ren,flats_rens h]
  | .tup cs,h =>by
    simp only [AV.lt] at h
    simp only [AV.ren,flats_rens h]
theorem flats_rens {ρ : Nat → Nat} : ∀ {l : List AV},AV.lts 0 l = true → AV.rens ρ l = l
  | [],_ =>rfl
  | v :: r,h =>by
    simp only [AV.lts,Bool.and_eq_true] at h
    simp only [AV.rens,flat_ren h.1,flats_rens h.2]
end
def rowsM : List (Nat × List (List AV)) → Mem
  | [] => []
  | x :: r =>some (.row true x.1 x.2) :: rowsM r
def vw (M : Nat → Option Blk) : List Nat → List AV → Nat → Option (List AV × List (Nat × List (List AV)) × List Nat)
  | _,[],_ =>some ([],[],[])
  | ws,.slc id ix n _ :: r,i =>match ws,M id with
    | w :: ws,some (.row _ k es) =>bif k == w && decide (ix + n ≤ es.length) && ((es.drop ix).take n).all (AV.lts 0) then (vw M ws r (i + 1)).map fun x =>(.slc i 0 n none :: x.1,(w,(es.drop ix).take n) :: x.2.1,id :: x.2.2) else none
    | _,_ =>none
  | ws,.nils :: r,i =>match ws with
    | w :: ws =>(vw M ws r (i + 1)).map fun x =>(.slc i 0 0 none :: x.1,(w,[]) :: x.2.1,x.2.2)
    | [] =>(vw M [] r i).map fun x =>(.nils :: x.1,x.2.1,x.2.2)
  | ws,v :: r,i =>bif v.lt 0 then (vw M ws r i).map fun x =>(v :: x.1,x.2.1,x.2.2) else none
end AH
set_option linter.unusedSimpArgs false
namespace AH
open Go
variable {S : Sys} {eb : Nat → Addr} {own : Nat → Prop} {w0 w : World} {φ : Emb} {C : Ctx} {Q : Exit → St → Prop} {st : St}
theorem Amb.any (hA : Amb S eb own w0) (hk : Keeps own w0 w) (he : S.errs ≠ []) : ∃ (b : Nat) (arr : Array Value) (et : TypeId) (fr : Nat × Nat),w.heap[b]? = some (Obj.cells arr et fr):=by
  cases hq : S.errs with
  | nil =>exact absurd hq he
  | cons g r =>
    obtain ⟨et,fr,h⟩:=hA.at_ g (by simp [hq])
    have hlt:=(Array.getElem?_eq_some_iff.1 h).1
    exact ⟨g,_,et,fr,by rw [hk.kept g hlt (hA.out g (by simp [hq]))]; exact h⟩
abbrev UT:=List AV → Mem → Option (AV × Mem)
def CallF (S : Sys) (g : FuncId) (f : UT) : Prop:=∀ args m v m',f args m = some (v,m') → CallA1 S g args m fun r m'' =>r = v ∧ m'' = m'
def shift (n k : Nat) (j : Nat) : Nat:=n + (j - k)
def rwB : Option Blk → Bool
  | some (.row ro _ _) => !ro
  | _ =>true
def blkIn (p : Nat → Bool) : Option Blk → Bool
  | some b =>b.inB p
  | none =>true
def lookU : List (FuncId × UT) → FuncId → Option UT
  | [],_ =>none
  | (a,f) :: r,g =>bif a == g then some f else lookU r g
def appU (args : List AV) (m : Mem) : Option UT → Option (AV × Mem)
  | some f =>f args m
  | none =>none
def AllU (S : Sys) : List (FuncId × UT) → Prop
  | [] =>True
  | (g,f) :: r =>CallF S g f ∧ AllU S r
theorem lookU_spec : ∀ {T : List (FuncId × UT)} {g : FuncId} {f : UT},AllU S T → lookU T g = some f → CallF S g f
  | (a,f') :: r,g,f,h,e =>by
    simp only [lookU] at e
    by_cases q : a = g
    · subst q; simp at e; subst e; exact h.1
    · have : (a == g) = false:=by simp [q]
      rw [this] at e
      exact lookU_spec h.2 e
def callR (S : Sys) (g : FuncId) (args : List AV) (m : Mem) (K : AV → Mem → Prop) : Option (AV × List Nat) → Option (AV × Mem) → Prop
  | some (v,_),_ =>K v m
  | none,some (v,m') =>K v m'
  | none,none =>CallA1 S g args m K
def ctxU (S : Sys) (T : List (FuncId × RT)) (U : List (FuncId × UT)) : Ctx :=
  { call:=fun g args m K =>callR S g args m K (rdT T g args (mget m)) (appU args m (lookU U g)),read:=rdT T,base:=0 }
section
variable {T : List (FuncId × RT)} {U : List (FuncId × UT)} {g : FuncId} {args : List AV} {m : Mem} {K : AV → Mem → Prop}
theorem ctxU_call : (ctxU S T U).call g args m K = callR S g args m K (appT args (mget m) (lookT T g)) (appU args m (lookU U g)):=rfl
theorem ctxU_read {M : Nat → Option Blk} : (ctxU S T U).read g args M = appT args M (lookT T g):=rfl
theorem callR_read {v : AV} {f : List Nat} {z : Option (AV × Mem)} : callR S g args m K (some (v,f)) z = K v m:=rfl
theorem callR_new {v : AV} {m' : Mem} : callR S g args m K none (some (v,m')) = K v m':=rfl
theorem callR_none : callR S g args m K none none = CallA1 S g args m K:=rfl
theorem appU_some {f : UT} : appU args m (some f) = f args m:=rfl
theorem appU_none : appU args m none = none:=rfl
theorem lookU_cons {a : FuncId} {f : UT} {r : List (FuncId × UT)} : lookU ((a,f) :: r) g = bif a == g then some f else lookU r g:=rfl
theorem lookU_nil : lookU [] g = none:=rfl
end
structure Cod (α : Type) where
  enc : α → List AV
  dec : List AV → Option α
  ok : ∀ l a,dec l = some a → l = enc a
  de : ∀ a,dec (enc a) = some a
  flat : ∀ a,AV.lts 0 (enc a) = true
def Cod.decL {α : Type} (c : Cod α) : List (List AV) → Option (List α)
  | [] =>some []
  | e :: r =>match c.dec e,c.decL r with
    | some a,some l =>some (a :: l)
    | _,_ =>none
theorem Cod.decL_map {α : Type} (c : Cod α) : ∀ l : List α,c.decL (l.map c.enc) = some l
  | [] =>rfl
  | a :: r =>by simp only [List.map_cons,Cod.decL,c.de,c.decL_map r]
theorem Cod.decL_ok {α : Type} (c : Cod α) : ∀ {es : List (List AV)} {l : List α},c.decL es = some l → es = l.map c.enc
  | [],l,h =>by simp only [Cod.decL,Option.some.injEq] at h; subst h; rfl
  | e :: r,l,h =>by
    unfold Cod.decL at h
    split at h
    · rename_i a l' h1 h2
      simp only [Option.some.injEq] at h
      subst h
      rw [c.ok _ _ h1,c.decL_ok h2]
      rfl
    · cases h
def rtP {α : Type} (c : Cod α) (f : α → AV) : RT:=fun args _ =>(c.dec args).map fun a =>(f a,[])
theorem rtP_ok {α : Type} {g : FuncId} {c : Cod α} {f : α → AV} (h : ∀ a,Pure S g (c.enc a) (f a)) (hf : ∀ a,(f a).lt 0 = true) : ReadF S g (rtP c f):=by
  refine ReadF.pure fun args M v foot e => ?_
  simp only [rtP,Option.map_eq_some_iff,Prod.mk.injEq] at e
  obtain ⟨a,h1,rfl,rfl⟩:=e
  refine ⟨rfl,fun M' =>by simp only [rtP,h1,Option.map_some],?_,hf a,?_⟩
  · rw [c.ok _ _ h1]; exact c.flat a
  · rw [c.ok _ _ h1]; exact h a
structure Arg (α : Type) where
  enc : α → AV
  dec : AV → Option α
  ok : ∀ v a,dec v = some a → v = enc a
  de : ∀ a,dec (enc a) = some a
  flat : ∀ a,(enc a).lt 0 = true
def decI (k : IntKind) : AV → Option Int
  | .int k' n =>if k = k' then some n else none
  | _ =>none
def decB : AV → Option Bool
  | .bool b =>some b
  | _ =>none
def decS : AV → Option ByteArray
  | .str s =>some s
  | _ =>none
def decAgg {α : Type} (c : Cod α) : AV → Option α
  | .agg cs =>c.dec cs
  | _ =>none
theorem decI_ok {k : IntKind} (v : AV) (a : Int) (h : decI k v = some a) : v = .int k a:=by
  unfold decI at h
  split at h
  · split at h
    · rename_i q; subst q; simp only [Option.some.injEq] at h; rw [h]
    · cases h
  · cases h
theorem decB_ok (v : AV) (a : Bool) (h : decB v = some a) : v = .bool a:=by
  unfold decB at h
  split at h
  · simp only [Option.some.injEq] at h; rw [h]
  · cases h
theorem decS_ok (v : AV) (a : ByteArray) (h : decS v = some a) : v = .str a:=by
  unfold decS at h
  split at h
  · simp only [Option.some.injEq] at h; rw [h]
  · cases h
theorem decAgg_ok {α : Type} {c : Cod α} (v : AV) (a : α) (h : decAgg c v = some a) : v = .agg (c.enc a):=by
  unfold decAgg at h
  split at h
  · rw [c.ok _ _ h]
  · cases h
theorem decI_de {k : IntKind} (a : Int) : decI k (.int k a) = some a:=by simp [decI]
def aI (k : IntKind) : Arg Int:=⟨.int k,decI k,decI_ok,decI_de,fun _ =>rfl⟩
def aB : Arg Bool:=⟨.bool,decB,decB_ok,fun _ =>rfl,fun _ =>rfl⟩
def aS : Arg ByteArray:=⟨.str,decS,decS_ok,fun _ =>rfl,fun _ =>rfl⟩
def aA {α : Type} (c : Cod α) : Arg α:=⟨fun a => .agg (c.enc a),decAgg c,decAgg_ok,fun a =>c.de a,fun a =>c.flat a⟩
def dec0 : List AV → Option Unit
  | [] =>some ()
  | _ :: _ =>none
theorem dec0_ok (l : List AV) (a : Unit) (h : dec0 l = some a) : l = []:=by
  unfold dec0 at h
  split at h
  · rfl
  · cases h
def c0 : Cod Unit:=⟨fun _ => [],dec0,dec0_ok,fun _ =>rfl,fun _ =>rfl⟩
def decC {α β : Type} (x : Arg α) (c : Cod β) : List AV → Option (α × β)
  | [] =>none
  | v :: r =>match x.dec v,c.dec r with
    | some a,some b =>some (a,b)
    | _,_ =>none
theorem decC_ok {α β : Type} {x : Arg α} {c : Cod β} (l : List AV) (p : α × β) (h : decC x c l = some p) : l = x.enc p.1 :: c.enc p.2:=by
  unfold decC at h
  split at h
  · cases h
  · split at h
    · rename_i h1 h2
      simp only [Option.some.injEq] at h
      subst h
      rw [x.ok _ _ h1,c.ok _ _ h2]
    · cases h
theorem decC_de {α β : Type} {x : Arg α} {c : Cod β} (p : α × β) : decC x c (x.enc p.1 :: c.enc p.2) = some p:=by simp only [decC,x.de,c.de]
theorem decC_flat {α β : Type} {x : Arg α} {c : Cod β} (p : α × β) : AV.lts 0 (x.enc p.1 :: c.enc p.2) = true:=by simp only [AV.lts,x.flat,c.flat,Bool.and_self]
def cC {α β : Type} (x : Arg α) (c : Cod β) : Cod (α × β):=⟨fun p =>x.enc p.1 :: c.enc p.2,decC x c,decC_ok,decC_de,decC_flat⟩
theorem eqAV_bool {l a b : Bool} : eqAV .bool l (.bool a) (.bool b) = some (True,a == b):=rfl
theorem eqAV_flat {l : Bool} {ks : List SK} {a b : List AV} : eqAV (.flat ks) l (.agg a) (.agg b) = (eqFlat ks a b).map fun x =>(True,x):=rfl
theorem eqAV_p0 {l : Bool} : eqAV .ptr l .nilp .nilp = some (True,true):=rfl
theorem eqAV_p1 {l : Bool} {i j k : Nat} : eqAV .ptr l .nilp (.ptr i j k) = some (True,false):=rfl
theorem eqAV_p2 {l : Bool} {i j k : Nat} : eqAV .ptr l (.ptr i j k) .nilp = some (True,false):=rfl
theorem eqAV_p3 {k : EqK} {l : Bool} {i j s i' j' s' : Nat} : eqAV k l (.ptr i j s) (.ptr i' j' s') = none:=rfl
theorem eqAV_s0 {l : Bool} : eqAV .slice l .nils .nils = some (True,true):=rfl
theorem eqAV_s1 {l : Bool} {i j n : Nat} {c : Option Nat} : eqAV .slice l .nils (.slc i j n c) = some (n ≠ 0,false):=rfl
theorem eqAV_s2 {l : Bool} {i j n : Nat} {c : Option Nat} : eqAV .slice l (.slc i j n c) .nils = some (n ≠ 0,false):=rfl
theorem eqAV_s3 {l : Bool} {i j k n : Nat} : eqAV .slice l .nils (.isl i j k n) = some (True,false):=rfl
theorem eqAV_s4 {l : Bool} {i j k n : Nat} : eqAV .slice l (.isl i j k n) .nils = some (True,false):=rfl
theorem eqAV_m0 {l : Bool} : eqAV .map l .nilm .nilm = some (True,true):=rfl
theorem eqAV_m1 {l : Bool} {i : Nat} : eqAV .map l (.map i) .nilm = some (True,false):=rfl
theorem eqAV_m2 {l : Bool} {i : Nat} : eqAV .map l .nilm (.map i) = some (True,false):=rfl
theorem eqAV_f0 {l : Bool} : eqAV .func l .nilf .nilf = some (True,true):=rfl
theorem eqAV_f1 {l : Bool} {f : FuncId} {a b : List AV} : eqAV .func l (.fn f a b) .nilf = some (True,false):=rfl
theorem eqAV_f2 {l : Bool} {f : FuncId} {a b : List AV} : eqAV .func l .nilf (.fn f a b) = some (True,false):=rfl
theorem eqAV_i0  : eqAV .iface true .nili .nili = some (True,true):=rfl
theorem eqAV_i1 {l : Bool} {t : TypeId} {v : AV} : eqAV .iface l .nili (.ifc t v) = some (True,false):=rfl
theorem eqAV_i2 {l : Bool} {t : TypeId} {v : AV} : eqAV .iface l (.ifc t v) .nili = some (True,false):=rfl
theorem eqAV_i3 {l : Bool} {i : Nat} : eqAV .iface l .nili (.err i) = some (True,false):=rfl
theorem eqAV_i4 {l : Bool} {i : Nat} : eqAV .iface l (.err i) .nili = some (True,false):=rfl
mutual
theorem lt_of_flat {n : Nat} : ∀ {v : AV},v.lt 0 = true → v.lt n = true
  | .ptr ..,h | .slc ..,h | .isl ..,h | .map _,h =>by simp [AV.lt] at h
  | .undef,_ | .bool _,_ | .int ..,_ | .str _,_ | .nilp,_ | .nils,_ | .nilm,_ | .nilf,_ | .nili,_ | .err _,_ =>rfl
  | .fn f a b,h =>by
    simp only [AV.lt,Bool.and_eq_true] at h
    simp only [AV.lt,lts_of_flat h.1,lts_of_flat h.2,Bool.and_self]
  | .ifc t v,h =>by
    simp only [AV.lt] at h
    simp only [AV.lt,lt_of_flat h]
  | .agg cs,h =>by
    simp only [AV.lt] at h
    simp only [AV.lt,lts_of_flat h]
  | .tup cs,h =>by
    simp only [AV.lt] at h
    simp only [AV.lt,lts_of_flat h]
theorem lts_of_flat {n : Nat} : ∀ {l : List AV},AV.lts 0 l = true → AV.lts n l = true
  | [],_ =>rfl
  | v :: r,h =>by
    simp only [AV.lts,Bool.and_eq_true] at h
    simp only [AV.lts,lt_of_flat h.1,lts_of_flat h.2,Bool.and_self]
end
theorem Cod.all_in {α : Type} (c : Cod α) (p : Nat → Bool) : ∀ l : List α,(l.map c.enc).all (AV.insB p) = true
  | [] =>rfl
  | a :: r =>by simp only [List.map_cons,List.all_cons,flats_inB (c.flat a),c.all_in p r,Bool.and_self]
theorem nbz {n : Nat} : (n + 1 == 0) = false:=rfl
theorem beq_tt : (true == true) = true:=rfl
theorem beq_tf : (true == false) = false:=rfl
theorem beq_ft : (false == true) = false:=rfl
theorem beq_ff : (false == false) = true:=rfl
theorem bne_tt : (true != true) = false:=rfl
theorem bne_tf : (true != false) = true:=rfl
theorem bne_ft : (false != true) = true:=rfl
theorem bne_ff : (false != false) = false:=rfl
theorem shs_cons {k : SH} {ks : List SH} {vs : List AV} (h : shsOK (k :: ks) vs) : ∃ v r,vs = v :: r ∧ shOK k v ∧ shsOK ks r:=by
  cases vs with
  | nil =>exact h.elim
  | cons v r =>exact ⟨v,r,rfl,h.1,h.2⟩
theorem shs_nil {vs : List AV} (h : shsOK [] vs) : vs = []:=by
  cases vs with
  | nil =>rfl
  | cons v r =>exact h.elim
theorem list_of {α : Type} {enc : α → List AV} {ks : List SH} (h : ∀ el,shsOK ks el → ∃ a,el = enc a) : ∀ {es : List (List AV)},(∀ el ∈ es,shsOK ks el) → ∃ l : List α,es = l.map enc
  | [],_ =>⟨[],rfl⟩
  | e :: r,hs =>by
    obtain ⟨a,ha⟩:=h e (hs e (by simp))
    obtain ⟨l,hl⟩:=list_of h (es:=r) fun el hel =>hs el (by simp [hel])
    exact ⟨a :: l,by simp [ha,hl]⟩
theorem CallRes.of_calls {g : FuncId} {fn : Func} {us : Array Value} {R : Value → World → Prop} (hf : S.P.funcs[g]? = some fn) (hb : fn.body.isSome = true) (hn : (fn.name == "runtime.NumGoroutine") = false) (h : Calls S.P g us w fun e w' => ∃ v, e = .returned v ∧ R v w') : CallRes S.P g us w R := by
  unfold CallRes
  have : (callFunc g us).run S.P w = .ok (.enter g us) w:=by
    have hb' : fn.body ≠ none:=by intro q; rw [q] at hb; cases hb
    have hn' : ¬ fn.name = "runtime.NumGoroutine" := by simpa using hn
    simp [callFunc,hf,hn',hb']
  rw [this]
  exact h
def rowE (M : Nat → Option Blk) (id : Nat) : Option (Nat × List (List AV)) :=
  match M id with
  | some (.row _ k es) =>some (k,es)
  | _ =>none
theorem rowE_hit {ro : Bool} {k : Nat} {es : List (List AV)} {r : Mem} : rowE (mget (some (.row ro k es) :: r)) 0 = some (k,es):=by cases r <;> rfl
theorem rowE_next {b : Option Blk} {r : Mem} {n : Nat} : rowE (mget (b :: r)) (n + 1) = rowE (mget r) n:=by cases r <;> rfl
def rowW (M : Nat → Option Blk) (id : Nat) : Option (Nat × List (List AV)) :=
  match M id with
  | some (.row false k es) =>some (k,es)
  | _ =>none
theorem rowW_hit {k : Nat} {es : List (List AV)} {r : Mem} : rowW (mget (some (.row false k es) :: r)) 0 = some (k,es):=by cases r <;> rfl
theorem rowW_next {b : Option Blk} {r : Mem} {n : Nat} : rowW (mget (b :: r)) (n + 1) = rowW (mget r) n:=by cases r <;> rfl
theorem getD_map_lt {α β : Type} (f : α → β) (l : List α) (i : Nat) (d : β) (h : i < l.length) : (l.map f).getD i d = f l[i]:=by
  rw [List.getD_eq_getElem?_getD,List.getElem?_map,List.getElem?_eq_getElem h]; rfl
end AH
set_option linter.unusedSimpArgs false
namespace AH
open Go
variable {S : Sys} {eb : Nat → Addr} {own : Nat → Prop} {w0 w : World} {φ : Emb} {C : Ctx} {Q : Exit → St → Prop} {st : St}
abbrev ET:=List AV → (Nat → Option Blk) → Nat → Option (Eff × Nat)
def EffF (S : Sys) (g : FuncId) (f : ET) : Prop:=∀ args M n e k,f args M n = some (e,k) →
  (∀ M',(∀ id ∈ e.wr.map Prod.fst ++ e.foot,M' id = M id) → f args M' n = some (e,k)) ∧
  ∀ eb φ own w0 w (us : Array Value),Amb S eb own w0 → VRs S.errT eb φ args us.toList → MR S.errT eb φ M own w → Keeps own w0 w → (∀ j,j < k → ¬ φ.dom (n + j)) →
    CallRes S.P g us w fun r w' => ∃ φ',φ.Ext φ' ∧ VR S.errT eb φ' e.val r ∧ MR S.errT eb φ' (applyF M e.wr) own w' ∧ Keeps own w0 w' ∧ ∀ id,φ'.dom id → φ.dom id ∨ (n ≤ id ∧ id < n + k)
def lookE : List (FuncId × ET) → FuncId → Option ET
  | [],_ =>none
  | (a,f) :: r,g =>bif a == g then some f else lookE r g
def appE (args : List AV) (M : Nat → Option Blk) (n : Nat) : Option ET → Option (Eff × Nat)
  | some f =>f args M n
  | none =>none
def AllE (S : Sys) : List (FuncId × ET) → Prop
  | [] =>True
  | (g,f) :: r =>EffF S g f ∧ AllE S r
theorem lookE_spec : ∀ {T : List (FuncId × ET)} {g : FuncId} {f : ET},AllE S T → lookE T g = some f → EffF S g f
  | (a,f') :: r,g,f,h,e =>by
    simp only [lookE] at e
    by_cases q : a = g
    · subst q; simp at e; subst e; exact h.1
    · have : (a == g) = false:=by simp [q]
      rw [this] at e
      exact lookE_spec h.2 e
theorem effT_ok {E : List (FuncId × ET)} (h : AllE S E) : EffA S fun g args M n =>appE args M n (lookE E g):=by
  intro g args M n e k q
  simp only at q
  cases p : lookE E g with
  | none =>rw [p] at q; cases q
  | some f =>
    rw [p] at q
    obtain ⟨h1,h2⟩:=lookE_spec h p args M n e k q
    exact ⟨fun M' hM' =>by simp only [p]; exact h1 M' hM',h2⟩
theorem EffF.call {g : FuncId} {f : ET} (h : EffF S g f) {args : List AV} {m : Mem} {e : Eff} {k : Nat} (q : f args (mget m) m.length = some (e,k)) (hn : newsB m.length e k = true) {K : AV → Mem → Prop} (hK : K e.val (applyWr m e.wr)) : CallA1 S g args m K:=by
  intro eb φ own w0 w us hA hus hM hk hb
  obtain ⟨g1,g2⟩:=applyWr_length e.wr m
  refine UponV.mono ?_ ((h args (mget m) m.length e k q).2 eb φ own w0 w us hA hus hM hk fun j _ hd =>by have:=hb _ hd; omega)
  rintro r w' ⟨φ',k0,k1,k2,k3,k4⟩
  refine ⟨φ',_,_,hK,k0,k1,?_,k3,fun id hid => ?_⟩
  · have e1 : mget (applyWr m e.wr) = applyF (mget m) e.wr:=by funext i; rw [mget_applyWr]
    rw [e1]; exact k2
  · rcases k4 id hid with z | z
    · have:=hb id z; omega
    · exact g2 _ (newsB_spec hn id z.1 z.2)
def callE (S : Sys) (g : FuncId) (args : List AV) (m : Mem) (K : AV → Mem → Prop) : Option (AV × List Nat) → Option (AV × Mem) → Option (Eff × Nat) → Prop
  | some (v,_),_,_ =>K v m
  | none,some (v,m'),_ =>K v m'
  | none,none,some (e,k) =>newsB m.length e k = true ∧ K e.val (applyWr m e.wr)
  | none,none,none =>CallA1 S g args m K
def ctxE (S : Sys) (T : List (FuncId × RT)) (U : List (FuncId × UT)) (E : List (FuncId × ET)) : Ctx :=
  { call:=fun g args m K =>callE S g args m K (rdT T g args (mget m)) (appU args m (lookU U g)) (appE args (mget m) m.length (lookE E g)),read:=rdT T,eff:=fun g args M n =>appE args M n (lookE E g),base:=0 }
theorem ctxE_ok {T : List (FuncId × RT)} {U : List (FuncId × UT)} {E : List (FuncId × ET)} (h : AllF S T) (hU : AllU S U) (hE : AllE S E) (hm : S.P.follows .mixedOrders = true) : CtxOK S (ctxE S T U E):=by
  refine ⟨fun g args m K hK => ?_,rdT_ok h,effT_ok hE,hm⟩
  show CallA1 S g args m K
  have hK' : callE S g args m K (rdT T g args (mget m)) (appU args m (lookU U g)) (appE args (mget m) m.length (lookE E g)):=hK
  cases q : rdT T g args (mget m) with
  | none =>
    rw [q] at hK'
    cases p : appU args m (lookU U g) with
    | none =>
      rw [p] at hK'
      cases z : appE args (mget m) m.length (lookE E g) with
      | none =>rw [z] at hK'; exact hK'
      | some x =>
        obtain ⟨e,k⟩:=x
        rw [z] at hK'
        cases y : lookE E g with
        | none =>rw [y] at z; cases z
        | some f =>
          rw [y] at z
          exact (lookE_spec hE y).call z hK'.1 hK'.2
    | some x =>
      obtain ⟨v,m'⟩:=x
      rw [p] at hK'
      cases y : lookU U g with
      | none =>rw [y] at p; cases p
      | some f =>
        rw [y] at p
        refine (lookU_spec hU y args m v m' p).mono ?_
        rintro r m'' ⟨rfl,rfl⟩
        exact hK'
  | some x =>
    obtain ⟨v,foot⟩:=x
    rw [q] at hK'
    intro eb φ own w0 w us hA hus hM hk hb
    exact UponV.mono (fun _ _ ⟨h1,h2,h3⟩ =>⟨φ,v,m,hK',.refl φ,h1,h2,h3,hb⟩) ((rdT_ok h g args (mget m) v foot q).2 eb φ own w0 w us hA hus hM hk)
theorem ctxE_mono {T : List (FuncId × RT)} {U : List (FuncId × UT)} {E : List (FuncId × ET)} : MonoC (ctxE S T U E):=by
  intro g args m K K' h hK
  have hK' : callE S g args m K (rdT T g args (mget m)) (appU args m (lookU U g)) (appE args (mget m) m.length (lookE E g)):=hK
  show callE S g args m K' (rdT T g args (mget m)) (appU args m (lookU U g)) (appE args (mget m) m.length (lookE E g))
  generalize rdT T g args (mget m) = q at hK' ⊢
  generalize appU args m (lookU U g) = z at hK' ⊢
  generalize appE args (mget m) m.length (lookE E g) = y at hK' ⊢
  cases q with
  | some x =>exact h _ _ hK'
  | none =>
    cases z with
    | some x =>exact h _ _ hK'
    | none =>
      cases y with
      | some x =>exact ⟨hK'.1,h _ _ hK'.2⟩
      | none =>exact CallA1.mono hK' h
theorem ctxE_monoB {T : List (FuncId × RT)} {U : List (FuncId × UT)} {E : List (FuncId × ET)} {n : Nat} : MonoC { call:=(ctxE S T U E).call,read:=(ctxE S T U E).read,eff:=(ctxE S T U E).eff,base:=n }:=ctxE_mono (S:=S) (T:=T) (U:=U) (E:=E)
section
variable {T : List (FuncId × RT)} {U : List (FuncId × UT)} {E : List (FuncId × ET)} {g : FuncId} {args : List AV} {m : Mem} {K : AV → Mem → Prop}
theorem ctxE_call : (ctxE S T U E).call g args m K = callE S g args m K (appT args (mget m) (lookT T g)) (appU args m (lookU U g)) (appE args (mget m) m.length (lookE E g)):=rfl
theorem ctxE_read {M : Nat → Option Blk} : (ctxE S T U E).read g args M = appT args M (lookT T g):=rfl
theorem ctxE_eff {M : Nat → Option Blk} {n : Nat} : (ctxE S T U E).eff g args M n = appE args M n (lookE E g):=rfl
theorem ctxU_eff {M : Nat → Option Blk} {n : Nat} : (ctxU S T U).eff g args M n = none:=rfl
theorem callE_read {v : AV} {f : List Nat} {z : Option (AV × Mem)} {y : Option (Eff × Nat)} : callE S g args m K (some (v,f)) z y = K v m:=rfl
theorem callE_new {v : AV} {m' : Mem} {y : Option (Eff × Nat)} : callE S g args m K none (some (v,m')) y = K v m':=rfl
theorem callE_eff {e : Eff} {k : Nat} : callE S g args m K none none (some (e,k)) = (newsB m.length e k = true ∧ K e.val (applyWr m e.wr)):=rfl
theorem callE_none : callE S g args m K none none none = CallA1 S g args m K:=rfl
theorem appE_some {M : Nat → Option Blk} {n : Nat} {f : ET} : appE args M n (some f) = f args M n:=rfl
theorem appE_none {M : Nat → Option Blk} {n : Nat} : appE args M n none = none:=rfl
theorem lookE_cons {a : FuncId} {f : ET} {r : List (FuncId × ET)} : lookE ((a,f) :: r) g = bif a == g then some f else lookE r g:=rfl
theorem lookE_nil : lookE [] g = none:=rfl
theorem newsB_0 {n : Nat} {e : Eff} : newsB n e 0 = true:=rfl
theorem newsB_s {n k : Nat} {e : Eff} : newsB n e (k + 1) = ((e.wr.map Prod.fst).contains (n + k) && newsB n e k):=rfl
end
def subF (sel : List (Nat × Bool)) (M : Nat → Option Blk) : List (Nat × Bool) → Mem
  | [] => []
  | (id,r) :: l =>(M id).map (fun b =>(b.ren (posOf sel)).asRo r) :: subF sel M l
def selF (M : Nat → Option Blk) (sel : List (Nat × Bool)) : List (Nat × Bool) → Bool
  | [] =>true
  | (id,r) :: l =>(match M id with
    | some (.row _ _ es) =>es.all (AV.insB (isIn sel))
    | some (.map es _) => !r && es.all fun e =>e.1.inB (isIn sel) && e.2.1.inB (isIn sel)
    | some (.iter mm _ _ _) => !r && mm.all (isIn sel)
    | none =>false) && selF M sel l
def wrS (τ : Nat → Nat) (m' : Mem) : Nat → List (Nat × Bool) → List (Nat × Option Blk)
  | _,[] => []
  | j,(_,true) :: l =>wrS τ m' (j + 1) l
  | j,(id,false) :: l =>(id,(mget m' j).map (Blk.ren τ)) :: wrS τ m' (j + 1) l
def newS (τ : Nat → Nat) : Nat → Mem → List (Nat × Option Blk)
  | _,[] => []
  | n,b :: r =>(n,b.map (Blk.ren τ)) :: newS τ (n + 1) r
def effS (sel : List (Nat × Bool)) (n : Nat) (v : AV) (m' : Mem) : Eff :=
  { val:=v.ren (backNo sel n),foot:=sel.map Prod.fst,wr:=wrS (backNo sel n) m' 0 sel ++ newS (backNo sel n) n (m'.drop sel.length) }
theorem subF_get (sel : List (Nat × Bool)) (M : Nat → Option Blk) : ∀ (l : List (Nat × Bool)) (j : Nat),mget (subF sel M l) j = match l[j]? with
    | some (id,r) =>(M id).map (fun b =>(b.ren (posOf sel)).asRo r)
    | none =>none
  | [],j =>by cases j <;> rfl
  | (id,r) :: l,0 =>by simp [subF,mget]
  | (id,r) :: l,j + 1 =>by simp only [subF,mget,subF_get sel M l j,List.getElem?_cons_succ]
theorem subF_len (sel : List (Nat × Bool)) (M : Nat → Option Blk) : ∀ l : List (Nat × Bool),(subF sel M l).length = l.length
  | [] =>rfl
  | a :: l =>by simp [subF,subF_len sel M l]
theorem selF_spec {M : Nat → Option Blk} {sel : List (Nat × Bool)} : ∀ {l : List (Nat × Bool)},selF M sel l = true → ∀ {j id : Nat} {r : Bool},l[j]? = some (id,r) → ∃ b,M id = some b ∧ b.inB (isIn sel) = true ∧ (r = true → ∃ ro k es,b = .row ro k es)
  | (a,q) :: l,h,0,id,r,hj =>by
    simp only [List.getElem?_cons_zero,Option.some.injEq,Prod.mk.injEq] at hj
    obtain ⟨rfl,rfl⟩:=hj
    simp only [selF,Bool.and_eq_true] at h
    have h1:=h.1
    cases hm : M a with
    | none =>rw [hm] at h1; cases h1
    | some b =>
      rw [hm] at h1
      refine ⟨b,rfl,?_⟩
      cases b with
      | row ro k es =>exact ⟨h1,fun _ =>⟨ro,k,es,rfl⟩⟩
      | map es c =>
        simp only [Bool.and_eq_true,Bool.not_eq_true'] at h1
        exact ⟨h1.2,fun e =>by rw [h1.1] at e; cases e⟩
      | iter mm s la se =>
        simp only [Bool.and_eq_true,Bool.not_eq_true'] at h1
        exact ⟨h1.2,fun e =>by rw [h1.1] at e; cases e⟩
  | (a,q) :: l,h,j + 1,id,r,hj =>by
    simp only [selF,Bool.and_eq_true] at h
    exact selF_spec h.2 (by simpa using hj)
theorem applyF_app (a b : List (Nat × Option Blk)) : ∀ M : Nat → Option Blk,applyF M (a ++ b) = applyF (applyF M a) b:=by
  induction a with
  | nil =>intro M; rfl
  | cons x r ih =>intro M; obtain ⟨i,c⟩:=x; funext id; simp only [List.cons_append,applyF]; rw [ih]
theorem wrS_ids {τ : Nat → Nat} {m' : Mem} {i : Nat} : ∀ (l : List (Nat × Bool)) (k : Nat),i ∈ (wrS τ m' k l).map Prod.fst → (i,false) ∈ l
  | [],_,h =>by cases h
  | (a,true) :: l,k,h =>List.mem_cons_of_mem _ (wrS_ids l (k + 1) h)
  | (a,false) :: l,k,h =>by
    simp only [wrS,List.map_cons,List.mem_cons] at h
    rcases h with rfl | h
    · exact List.mem_cons_self ..
    · exact List.mem_cons_of_mem _ (wrS_ids l (k + 1) h)
theorem wrS_miss {τ : Nat → Nat} {m' : Mem} {i : Nat} {l : List (Nat × Bool)} (k : Nat) (M : Nat → Option Blk) (h : ∀ j : Nat,l[j]? ≠ some (i,false)) : applyF M (wrS τ m' k l) i = M i :=
  applyF_other _ _ _ fun q =>by
    obtain ⟨j,hj⟩:=List.getElem?_of_mem (wrS_ids l k q)
    exact h j hj
theorem wrS_hit {τ : Nat → Nat} {m' : Mem} {i : Nat} : ∀ (l : List (Nat × Bool)) (k : Nat) (M : Nat → Option Blk),distinct l = true → ∀ {j : Nat},l[j]? = some (i,false) → applyF M (wrS τ m' k l) i = (mget m' (k + j)).map (Blk.ren τ)
  | (a,r) :: l,k,M,hd,0,hj =>by
    simp only [List.getElem?_cons_zero,Option.some.injEq,Prod.mk.injEq] at hj
    obtain ⟨rfl,rfl⟩:=hj
    simp only [distinct,Bool.and_eq_true,Bool.not_eq_true'] at hd
    have hmiss : ∀ j : Nat,l[j]? ≠ some (a,false):=fun j hj =>by
      have:=isIn_iff.2 ⟨false,List.mem_of_getElem? hj⟩
      rw [this] at hd; cases hd.1
    simp only [wrS,applyF]
    rw [wrS_miss _ _ hmiss]; simp
  | (a,true) :: l,k,M,hd,j + 1,hj =>by
    simp only [distinct,Bool.and_eq_true] at hd
    simp only [wrS]
    rw [wrS_hit l (k + 1) M hd.2 (j:=j) (by simpa using hj),show k + 1 + j = k + (j + 1) by omega]
  | (a,false) :: l,k,M,hd,j + 1,hj =>by
    simp only [distinct,Bool.and_eq_true] at hd
    simp only [wrS,applyF]
    rw [wrS_hit l (k + 1) _ hd.2 (j:=j) (by simpa using hj),show k + 1 + j = k + (j + 1) by omega]
theorem newS_get {τ : Nat → Nat} : ∀ (l : Mem) (n i : Nat) (M : Nat → Option Blk),applyF M (newS τ n l) i = if n ≤ i ∧ i < n + l.length then (mget l (i - n)).map (Blk.ren τ) else M i
  | [],n,i,M =>by
    rw [if_neg (by simp only [List.length_nil]; omega)]; rfl
  | b :: r,n,i,M =>by
    simp only [newS,applyF]
    rw [newS_get r (n + 1) i]
    by_cases h : n + 1 ≤ i ∧ i < n + 1 + r.length
    · rw [if_pos h,if_pos (by simp; omega),show i - n = (i - (n + 1)) + 1 by omega]; rfl
    · rw [if_neg h]
      by_cases e : i = n
      · subst e; simp [mget]
      · rw [if_neg e,if_neg (by simp; omega)]
def Emb.glueF (φ φ1 : Emb) (n n0 k : Nat) : Emb :=
  { dom:=fun i => φ.dom i ∨ (n ≤ i ∧ i < n + k ∧ φ1.dom (n0 + (i - n)))
    blk:=fun i =>if n ≤ i ∧ i < n + k then φ1.blk (n0 + (i - n)) else φ.blk i
    base:=fun i =>if n ≤ i ∧ i < n + k then φ1.base (n0 + (i - n)) else φ.base i
    k:=fun i =>if n ≤ i ∧ i < n + k then φ1.k (n0 + (i - n)) else φ.k i
    size:=fun i =>if n ≤ i ∧ i < n + k then φ1.size (n0 + (i - n)) else φ.size i }
theorem frameF {g : FuncId} {args : List AV} {M : Nat → Option Blk} {v : AV} {m' : Mem} {k : Nat} (sel : List (Nat × Bool)) (n : Nat) (hsel : selF M sel sel = true) (hdist : distinct sel = true) (hargs : AV.insB (isIn sel) args = true)
    (h : CallA1 S g (AV.rens (posOf sel) args) (subF sel M sel) fun r m1 =>r = v ∧ m1 = m') (hlen : m'.length = sel.length + k) (hrwB : (m'.drop sel.length).all rwB = true)
    (hA : Amb S eb own w0) {us : Array Value} (hus : VRs S.errT eb φ args us.toList) (hM : MR S.errT eb φ M own w) (hk : Keeps own w0 w) (hnd : ∀ j,j < k → ¬ φ.dom (n + j)) :
    CallRes S.P g us w fun r w' => ∃ φ',φ.Ext φ' ∧ VR S.errT eb φ' (effS sel n v m').val r ∧ MR S.errT eb φ' (applyF M (effS sel n v m').wr) own w' ∧ Keeps own w0 w' ∧ ∀ id,φ'.dom id → φ.dom id ∨ (n ≤ id ∧ id < n + k):=by
  have hlt : ∀ b,¬ own b → b < w0.heap.size:=fun b hb' =>by
    rcases Nat.lt_or_ge b w0.heap.size with h | h
    · exact h
    · exact absurd (hk.new b h) hb'
  have hsz:=hk.size
  have hnew : ∀ b,w.heap.size ≤ b → own b:=fun b hb' =>hk.new b (Nat.le_trans hsz hb')
  have hnr : ∀ i,φ.dom i → ¬ (n ≤ i ∧ i < n + k):=fun i hi q =>hnd (i - n) (by omega) (by rw [show n + (i - n) = i by omega]; exact hi)
  have hrw : ∀ j b,sel.length ≤ j → mget m' j = some b → b.rw:=fun j b hj hb =>by
    have h1 : mget (m'.drop sel.length) (j - sel.length) = some b:=by rw [mget_drop,show sel.length + (j - sel.length) = j by omega]; exact hb
    have h2 : some b ∈ m'.drop sel.length:=by
      have gen : ∀ (l : Mem) (i : Nat),mget l i = some b → some b ∈ l:=fun l =>by
        induction l with
        | nil =>intro i h; cases i <;> cases h
        | cons x r ih =>
          intro i h
          cases i with
          | zero =>simp only [mget] at h; rw [h]; exact List.mem_cons_self ..
          | succ i =>exact List.mem_cons_of_mem _ (ih i h)
      exact gen _ _ h1
    have h3:=List.all_eq_true.1 hrwB _ h2
    cases b with
    | row ro _ _ =>simpa [rwB,Blk.rw] using h3
    | map _ _ =>trivial
    | iter _ _ _ _ =>trivial
  -- the selected blocks
  have hS : ∀ {j id : Nat} {r : Bool},sel[j]? = some (id,r) → ∃ b,M id = some b ∧ b.inB (isIn sel) = true ∧ (r = true → ∃ ro k es,b = .row ro k es):=fun hj =>selF_spec hsel hj
  have hdomS : ∀ {j id : Nat} {r : Bool},sel[j]? = some (id,r) → φ.dom id:=fun hj =>by
    obtain ⟨b,h1,_⟩:=hS hj
    exact hM.dom _ b h1
  have hsub : ∀ {j : Nat} {c : Blk},mget (subF sel M sel) j = some c → ∃ id r b,sel[j]? = some (id,r) ∧ M id = some b ∧ c = (b.ren (posOf sel)).asRo r:=fun hj =>by
    rw [subF_get] at hj
    split at hj
    · rename_i id r hs
      simp only [Option.map_eq_some_iff] at hj
      obtain ⟨b,hb',rfl⟩:=hj
      exact ⟨id,r,b,hs,hb',rfl⟩
    · cases hj
  have hblk : ∀ {j id : Nat} {r : Bool},sel[j]? = some (id,r) → (φ.sub sel).blk j = φ.blk id:=fun hs =>by simp [Emb.sub,hs]
  have mvS:=moves_sub (φ:=φ) (sel:=sel)
  have solS : ∀ {j id : Nat} {r : Bool} {b : Blk},sel[j]? = some (id,r) → M id = some b → ((b.ren (posOf sel)).asRo r).solid (φ.sub sel) j → b.solid φ id:=fun {j id r b} hs hb' hc =>by
    have hsol : ((b.ren (posOf sel)).asRo r).solid (φ.sub sel) j → (b.ren (posOf sel)).solid (φ.sub sel) j:=fun h =>by
      cases b <;> cases r <;> exact h
    refine (Blk.solid_ren mvS (hM.dom id b hb') (isIn_iff.2 ⟨r,List.mem_of_getElem? hs⟩)).1 ?_
    rw [pos_at hdist hs]
    exact hsol hc
  -- what the callee may turn
  let own0 : Nat → Prop:=fun b =>w.heap.size ≤ b ∨ ∃ j c,mget (subF sel M sel) j = some c ∧ c.rw ∧ c.solid (φ.sub sel) j ∧ (φ.sub sel).blk j = b
  have hrwb : ∀ {j : Nat} {c : Blk},mget (subF sel M sel) j = some c → c.rw → c.solid (φ.sub sel) j → ∃ id b,sel[j]? = some (id,false) ∧ M id = some b ∧ b.rw ∧ b.solid φ id ∧ (φ.sub sel).blk j = φ.blk id:=fun hj hc hcs =>by
    obtain ⟨id,r,b,hs,hb',rfl⟩:=hsub hj
    have hr : r = false:=by
      cases r with
      | false =>rfl
      | true =>
        obtain ⟨b',h1,_,h3⟩:=hS hs
        obtain ⟨ro,k,es,rfl⟩:=h3 rfl
        rw [hb'] at h1; cases h1
        simp [Blk.ren,Blk.asRo,Blk.rw] at hc
    subst hr
    exact ⟨id,b,hs,hb',ren_rw.1 (asRo_rw hc),solS hs hb' hcs,hblk hs⟩
  have hown : ∀ b,own0 b → own b:=by
    rintro b (h1 | ⟨j,c,h1,h2,h2s,rfl⟩)
    · exact hnew b h1
    · obtain ⟨id,b',_,h4,h5,h5s,h6⟩:=hrwb h1 h2 h2s
      rw [h6]; exact hM.own id b' h4 h5 h5s
  have hA0 : Amb S eb own0 w:=by
    have hin : ∀ g ∈ S.errs,g < w0.heap.size:=fun g hg =>by
      obtain ⟨et,fr,h⟩:=hA.at_ g hg
      exact (Array.getElem?_eq_some_iff.1 h).1
    refine ⟨fun g hg => ?_,fun g hg q =>hA.out g hg (hown _ q),hA.inj,fun g hg q =>hA.eout g hg (hown _ q),fun g hg => ?_,fun x hx => ?_⟩
    · obtain ⟨et,fr,h⟩:=hA.at_ g hg
      exact ⟨et,fr,by rw [hk.kept g (hin g hg) (hA.out g hg)]; exact h⟩
    · obtain ⟨c,t,h⟩:=hA.txt g hg
      exact ⟨c,t,by rw [hk.kept _ (hlt _ (hA.eout g hg)) (hA.eout g hg)]; exact h⟩
    · obtain ⟨⟨et,fr,h⟩,ho⟩:=hA.hand x hx
      exact ⟨⟨et,fr,by rw [hk.kept _ (hlt _ ho) ho]; exact h⟩,fun q =>ho (hown _ q)⟩
  have hM0 : MR S.errT eb (φ.sub sel) (mget (subF sel M sel)) own0 w:=by
    refine ⟨fun j c hj => ?_,fun j ro k es hj => ?_,fun j c hj hcs => ?_,fun j c hj hc hcs => .inr ⟨j,c,hj,hc,hcs,rfl⟩,fun j j' c c' hj hj' hne hc hcs hcs2 => ?_⟩
    · obtain ⟨id,r,b,hs,hb',_⟩:=hsub hj
      exact ⟨_,hs,hdomS hs⟩
    · obtain ⟨id,r,b,hs,hb',h3⟩:=hsub hj
      cases b with
      | row ro' k' es' =>
        have e : k = k':=by cases r <;> simp only [Blk.ren,Blk.asRo,Blk.row.injEq] at h3 <;> exact h3.2.1
        have:=Blk.kk_ren mvS (hM.dom id _ hb') (isIn_iff.2 ⟨r,List.mem_of_getElem? hs⟩) (hM.kk id _ _ _ hb')
        rw [pos_at hdist hs] at this
        rw [e]; exact this
      | _ =>cases r <;> simp only [Blk.ren,Blk.asRo,reduceCtorEq] at h3
    · obtain ⟨id,r,b,hs,hb',rfl⟩:=hsub hj
      obtain ⟨o,ho,hbr⟩:=hM.blk id b hb' (solS hs hb' hcs)
      obtain ⟨b2,h1,h2,_⟩:=hS hs
      rw [hb'] at h1; cases h1
      refine ⟨o,by rw [hblk hs]; exact ho,?_⟩
      have:=br_ren (moves_sub (sel:=sel)) (hM.dom id b hb') (isIn_iff.2 ⟨r,List.mem_of_getElem? hs⟩) h2 hbr r
      rw [pos_at hdist hs] at this
      exact this
    · obtain ⟨id,b,hs,hb',hr,hrs,e⟩:=hrwb hj hc hcs
      obtain ⟨id',r',b2,hs',hb2,rfl⟩:=hsub hj'
      rw [e,hblk hs']
      refine hM.inj id id' b b2 hb' hb2 (fun q => ?_) hr hrs (solS hs' hb2 hcs2)
      subst q
      exact hne (distinct_inj hdist hs hs')
  have hb0 : ∀ j,(φ.sub sel).dom j → j < (subF sel M sel).length:=by
    rintro j ⟨p,hp,_⟩
    rw [subF_len]
    exact (List.getElem?_eq_some_iff.1 hp).1
  have hcall:=h eb (φ.sub sel) own0 w w us hA0 (vrs_ren moves_sub hus hargs) hM0 (.refl fun b hb' => .inl hb') hb0
  refine UponV.mono ?_ hcall
  rintro r w' ⟨φ1,v1,m1,⟨rfl,rfl⟩,hext,hvr,hM1,hk1,hb1⟩
  -- back in the caller
  have hsubdom : ∀ {j id : Nat} {r : Bool},sel[j]? = some (id,r) → (φ.sub sel).dom j:=fun hs =>⟨_,hs,hdomS hs⟩
  have hmv : Moves (fun _ =>true) (backNo sel n) φ1 (φ.glueF φ1 n sel.length k):=by
    intro j _ hd
    cases hs : sel[j]? with
    | some p =>
      obtain ⟨id,r⟩:=p
      have h1:=hdomS hs
      have h2:=hnr id h1
      have hsd:=hsubdom hs
      have e1:=hext.blk j hsd
      have e2:=hext.base j hsd
      have e3:=hext.k j hsd
      have e4:=hext.size j hsd
      simp only [backNo,hs,Emb.glueF,if_neg h2]
      simp only [Emb.sub,hs,Option.getD_some] at e1 e2 e3 e4
      exact ⟨.inl h1,e1.symm,e2.symm,e3.symm,e4.symm⟩
    | none =>
      have hj : sel.length ≤ j:=List.getElem?_eq_none_iff.1 hs
      have hj2:=hb1 j hd
      have e : sel.length + (n + (j - sel.length) - n) = j:=by omega
      have hn : n ≤ n + (j - sel.length) ∧ n + (j - sel.length) < n + k:=by omega
      simp only [backNo,hs,Emb.glueF,if_pos hn,e]
      exact ⟨.inr ⟨hn.1,hn.2,hd⟩,trivial,trivial,trivial,trivial⟩
  have hE : φ.Ext (φ.glueF φ1 n sel.length k):=by
    refine ⟨fun i hi => .inl hi,fun i hi => ?_,fun i hi => ?_,fun i hi => ?_,fun i hi => ?_⟩ <;> simp only [Emb.glueF,if_neg (hnr i hi)]
  have hget : ∀ i b,applyF M (effS sel n v1 m1).wr i = some b →
      (∃ (j : Nat) (c : Blk),mget m1 j = some c ∧ b = c.ren (backNo sel n) ∧ i = backNo sel n j ∧ ((∃ id : Nat,sel[j]? = some (id,false) ∧ i = id) ∨ sel.length ≤ j)) ∨
      (M i = some b ∧ φ.dom i ∧ ∀ j : Nat,sel[j]? ≠ some (i,false)):=by
    intro i b hi
    simp only [effS] at hi
    rw [applyF_app,newS_get] at hi
    split at hi
    · rename_i hil
      rw [mget_drop,Option.map_eq_some_iff] at hi
      obtain ⟨c,hc,rfl⟩:=hi
      refine .inl ⟨sel.length + (i - n),c,hc,rfl,?_,.inr (by omega)⟩
      have hn : sel[sel.length + (i - n)]? = none:=List.getElem?_eq_none (by omega)
      simp only [backNo,hn]
      omega
    · by_cases hex : ∃ j : Nat,sel[j]? = some (i,false)
      · obtain ⟨j,hj⟩:=hex
        rw [wrS_hit sel 0 M hdist hj,Nat.zero_add,Option.map_eq_some_iff] at hi
        obtain ⟨c,hc,rfl⟩:=hi
        exact .inl ⟨j,c,hc,rfl,by simp [backNo,hj],.inl ⟨i,hj,rfl⟩⟩
      · have hmiss : ∀ j : Nat,sel[j]? ≠ some (i,false):=fun j hj =>hex ⟨j,hj⟩
        rw [wrS_miss 0 M hmiss] at hi
        exact .inr ⟨hi,hM.dom i b hi,hmiss⟩
  have hblk1 : ∀ {j : Nat} {c : Blk},mget m1 j = some c → (φ.glueF φ1 n sel.length k).blk (backNo sel n j) = φ1.blk j:=fun hj =>(hmv _ rfl (hM1.dom _ _ hj)).2.1
  have hfar : ∀ {i : Nat} {b : Blk},M i = some b → b.solid φ i → (∀ j : Nat,sel[j]? ≠ some (i,false)) → ¬ own0 (φ.blk i):=by
    rintro i b hi his hmiss (q | ⟨j,c,h1,h2,h2s,h3⟩)
    · obtain ⟨o,ho,_⟩:=hM.blk i b hi his
      have:=(Array.getElem?_eq_some_iff.1 ho).1
      omega
    · obtain ⟨id,b',hs,hb',hr,hrs,e⟩:=hrwb h1 h2 h2s
      rw [e] at h3
      refine hM.inj id i b' b hb' hi (fun q => ?_) hr hrs his h3
      subst q
      exact hmiss j hs
  have hrw2 : ∀ (j' : Nat) (c' : Blk) (id : Nat) (b2 : Blk),sel[j']? = some (id,false) → mget m1 j' = some c' → M id = some b2 → ¬ c'.rw → ¬ b2.solid φ id → c'.solid φ1 j' → False:=by
    intro j' c' id b2 hs2 hc' hb2 hcr hb2s hsj'
    cases c' with
    | row ro k es =>
      obtain ⟨o,ho,arr,et,fr,rfl,q1,q2,q3,_⟩:=hM1.blk j' _ hc' hsj'
      have e4:=hext.k j' (hsubdom hs2)
      have e5:=hext.size j' (hsubdom hs2)
      simp only [Emb.sub,hs2,Option.getD_some] at e4 e5
      cases b2 with
      | row ro2 k2 es2 =>
        have hk2:=hM.kk id _ _ _ hb2
        simp only [Blk.solid,not_or,Nat.not_lt,Nat.le_zero_eq] at hb2s
        obtain ⟨z1,z2,z3⟩:=hb2s
        have : es.length * k = 0:=by omega
        rcases Nat.mul_eq_zero.1 this with z | z
        · rcases hsj' with y | y | y
          · exact y (List.eq_nil_of_length_eq_zero z)
          · omega
          · omega
        · omega
      | _ =>exact hb2s trivial
    | _ =>exact hcr trivial
  refine ⟨φ.glueF φ1 n sel.length k,hE,vr_ren hmv hvr (inB_true v1),?_,?_,?_⟩
  · have solN : ∀ {j : Nat} {c : Blk},mget m1 j = some c → (c.ren (backNo sel n)).solid (φ.glueF φ1 n sel.length k) (backNo sel n j) → c.solid φ1 j:=fun hj hs =>(Blk.solid_ren hmv (hM1.dom _ _ hj) rfl).1 hs
    have solO : ∀ {i : Nat} {b : Blk},M i = some b → b.solid (φ.glueF φ1 n sel.length k) i → b.solid φ i:=fun hi hs =>(Blk.solid_ext hE (hM.dom _ _ hi)).1 hs
    refine ⟨fun i b hi => ?_,fun i ro k' es hi => ?_,fun i b hi hs => ?_,fun i b hi hr hs => ?_,fun i i' b b' hi hi' hne hr hs hs' => ?_⟩
    · rcases hget i b hi with ⟨j,c,h1,rfl,rfl,_⟩ | ⟨h1,_,_⟩
      · exact (hmv j rfl (hM1.dom j c h1)).1
      · exact .inl (hM.dom i b h1)
    · rcases hget i _ hi with ⟨j,c,h1,h3,rfl,_⟩ | ⟨h1,h2,_⟩
      · cases c with
        | row ro' k' es' =>
          simp only [Blk.ren,Blk.row.injEq] at h3
          obtain ⟨rfl,rfl,rfl⟩:=h3
          exact Blk.kk_ren hmv (hM1.dom j _ h1) rfl (hM1.kk j _ _ _ h1)
        | _ =>simp only [Blk.ren,reduceCtorEq] at h3
      · simp only [Emb.glueF,if_neg (hnr i h2)]
        exact hM.kk i _ _ _ h1
    · rcases hget i b hi with ⟨j,c,h1,rfl,rfl,_⟩ | ⟨h1,h2,h3⟩
      · obtain ⟨o,ho,hbr⟩:=hM1.blk j c h1 (solN h1 hs)
        refine ⟨o,by rw [hblk1 h1]; exact ho,?_⟩
        exact br_ren hmv (hM1.dom j c h1) rfl (blk_inB_true c) hbr false
      · obtain ⟨o,ho,hbr⟩:=hM.blk i b h1 (solO h1 hs)
        refine ⟨o,?_,hbr.mono hE (hM.dom i b h1)⟩
        have hf:=hfar h1 (solO h1 hs) h3
        simp only [Emb.glueF,if_neg (hnr i h2)]
        rw [hk1.kept _ (Array.getElem?_eq_some_iff.1 ho).1 hf]
        exact ho
    · rcases hget i b hi with ⟨j,c,h1,rfl,rfl,_⟩ | ⟨h1,h2,h3⟩
      · rw [hblk1 h1]
        exact hown _ (hM1.own j c h1 (ren_rw.1 hr) (solN h1 hs))
      · have hs0:=solO h1 hs
        simp only [Emb.glueF,if_neg (hnr i h2)]
        exact hM.own i b h1 hr hs0
    · rcases hget i b hi with ⟨j,c,h1,rfl,rfl,h2⟩ | ⟨h1,h2,h3⟩
      · have hsj:=solN h1 hs
        rcases hget i' b' hi' with ⟨j',c',g1,rfl,rfl,g2⟩ | ⟨g1,g2,g3⟩
        · rw [hblk1 h1,hblk1 g1]
          exact hM1.inj j j' c c' h1 g1 (fun q =>hne (by rw [q])) (ren_rw.1 hr) hsj (solN g1 hs')
        · have hsi':=solO g1 hs'
          rw [hblk1 h1]
          simp only [Emb.glueF,if_neg (hnr i' g2)]
          intro q
          have:=hM1.own j c h1 (ren_rw.1 hr) hsj
          rw [q] at this
          exact hfar g1 hsi' g3 this
      · have hsi:=solO h1 hs
        rcases hget i' b' hi' with ⟨j',c',g1,rfl,rfl,g2⟩ | ⟨g1,g2,g3⟩
        · have hsj':=solN g1 hs'
          rw [hblk1 g1]
          simp only [Emb.glueF,if_neg (hnr i h2)]
          intro q
          rcases g2 with ⟨id,hs2,_⟩ | hj
          · have e:=hext.blk j' (hsubdom hs2)
            rw [hblk hs2] at e
            rw [e] at q
            obtain ⟨b2,hb2,_⟩:=hS hs2
            by_cases hb2s : b2.solid φ id
            · exact hM.inj i id b b2 h1 hb2 (fun z =>h3 j' (by rw [z]; exact hs2)) hr hsi hb2s q
            · have hc':=hM1.own j' c' g1
              by_cases hcr : c'.rw
              · have:=hc' hcr hsj'
                rw [e,← q] at this
                exact hfar h1 hsi h3 this
              · exact (hrw2 j' c' id b2 hs2 g1 hb2 hcr hb2s hsj').elim
          · have:=hM1.own j' c' g1 (hrw j' c' hj g1) hsj'
            rw [← q] at this
            exact hfar h1 hsi h3 this
        · have hsi':=solO g1 hs'
          simp only [Emb.glueF,if_neg (hnr i h2),if_neg (hnr i' g2)]
          exact hM.inj i i' b b' h1 g1 hne hr hsi hsi'
  · refine ⟨hk1.os.trans hk.os,hk1.output.trans hk.output,Nat.le_trans hk.size hk1.size,fun b hb' ho => ?_,hk.new⟩
    rw [hk1.kept b (by omega) (fun q =>ho (hown b q)),hk.kept b hb' ho]
  · rintro i (hi | ⟨h1,h2,_⟩)
    · exact .inl hi
    · exact .inr ⟨h1,h2⟩
theorem effG {g : FuncId} {f : ET} (h : ∀ args M n e k,f args M n = some (e,k) →
    (∀ M',(∀ id ∈ e.wr.map Prod.fst ++ e.foot,M' id = M id) → f args M' n = some (e,k)) ∧
    ∃ sel v m',(selF M sel sel = true ∧ distinct sel = true ∧ AV.insB (isIn sel) args = true) ∧ (m'.length = sel.length + k ∧ (m'.drop sel.length).all rwB = true) ∧ e = effS sel n v m' ∧
      CallA1 S g (AV.rens (posOf sel) args) (subF sel M sel) fun r m1 =>r = v ∧ m1 = m') : EffF S g f:=by
  intro args M n e k q
  obtain ⟨h1,sel,v,m',⟨h2,h3,h4⟩,⟨h5,h6⟩,rfl,h7⟩:=h args M n e k q
  exact ⟨h1,fun eb φ own w0 w us hA hus hM hk hnd =>frameF sel n h2 h3 h4 h7 h5 h6 hA hus hM hk hnd⟩
end AH
set_option linter.unusedSimpArgs false
namespace AH
open Go
variable {S : Sys} {eb : Nat → Addr} {own : Nat → Prop} {w0 w : World} {φ φ' : Emb} {C : Ctx}
mutual
theorem ren_back {p : Nat → Bool} {ρ τ : Nat → Nat} (h : ∀ i,p i = true → τ (ρ i) = i) : ∀ v : AV,v.inB p = true → (v.ren ρ).ren τ = v
  | .ptr id _ _,hv =>by simp only [AV.inB] at hv; simp only [AV.ren,h id hv]
  | .slc id _ _ _,hv =>by simp only [AV.inB] at hv; simp only [AV.ren,h id hv]
  | .isl id _ _ _,hv =>by simp only [AV.inB] at hv; simp only [AV.ren,h id hv]
  | .map id,hv =>by simp only [AV.inB] at hv; simp only [AV.ren,h id hv]
  | .undef,_ | .bool _,_ | .int ..,_ | .str _,_ | .nilp,_ | .nils,_ | .nilm,_ | .nilf,_ | .nili,_ | .err _,_ =>rfl
  | .fn f a b,hv =>by
    simp only [AV.inB,Bool.and_eq_true] at hv
    simp only [AV.ren,rens_back h a hv.1,rens_back h b hv.2]
  | .ifc t v,hv =>by
    simp only [AV.inB] at hv
    simp only [AV.ren,ren_back h v hv]
  | .agg cs,hv =>by
    simp only [AV.inB] at hv
    simp only [AV.ren,rens_back h cs hv]
  | .tup cs,hv =>by
    simp only [AV.inB] at hv
    simp only [AV.ren,rens_back h cs hv]
theorem rens_back {p : Nat → Bool} {ρ τ : Nat → Nat} (h : ∀ i,p i = true → τ (ρ i) = i) : ∀ l : List AV,AV.insB p l = true → AV.rens τ (AV.rens ρ l) = l
  | [],_ =>rfl
  | v :: r,hv =>by
    simp only [AV.insB,Bool.and_eq_true] at hv
    simp only [AV.rens,ren_back h v hv.1,rens_back h r hv.2]
end
theorem blk_back {p : Nat → Bool} {ρ τ : Nat → Nat} (h : ∀ i,p i = true → τ (ρ i) = i) : ∀ b : Blk,b.inB p = true → (b.ren ρ).ren τ = b
  | .row ro k es,hb =>by
    simp only [Blk.inB,List.all_eq_true] at hb
    simp only [Blk.ren,List.map_map,Blk.row.injEq,true_and]
    conv =>rhs; rw [← List.map_id es]
    exact List.map_congr_left fun e he =>rens_back h e (hb e he)
  | .map es c,hb =>by
    simp only [Blk.inB,List.all_eq_true,Bool.and_eq_true] at hb
    simp only [Blk.ren,List.map_map,Blk.map.injEq,and_true]
    conv =>rhs; rw [← List.map_id es]
    refine List.map_congr_left fun e he => ?_
    obtain ⟨a,b,s⟩:=e
    have:=hb _ he
    simp only [Function.comp,id_eq,Prod.mk.injEq,and_true]
    exact ⟨ren_back h a this.1,ren_back h b this.2⟩
  | .iter m s la se,hb =>by
    cases m with
    | none =>rfl
    | some i =>
      simp only [Blk.inB,Option.all_some] at hb
      simp only [Blk.ren,Option.map_some,h i hb]
theorem MR.mono {T : TypeId} {M : Nat → Option Blk} (e : φ.Ext φ') (h : MR T eb φ M own w) : MR T eb φ' M own w:=by
  refine ⟨fun id b hi =>e.dom id (h.dom id b hi),fun id ro k es hi =>(e.k id (h.dom id _ hi)).trans (h.kk id ro k es hi),fun id b hi hs => ?_,fun id b hi hr hs => ?_,fun id id' b b' hi hi' hne hr hs hs' => ?_⟩
  · have hd:=h.dom id b hi
    obtain ⟨o,ho,hb⟩:=h.blk id b hi ((Blk.solid_ext e hd).1 hs)
    exact ⟨o,by rw [e.blk id hd]; exact ho,hb.mono e hd⟩
  · have hd:=h.dom id b hi
    rw [e.blk id hd]
    exact h.own id b hi hr ((Blk.solid_ext e hd).1 hs)
  · have hd:=h.dom id b hi
    have hd':=h.dom id' b' hi'
    rw [e.blk id hd,e.blk id' hd']
    exact h.inj id id' b b' hi hi' hne hr ((Blk.solid_ext e hd).1 hs) ((Blk.solid_ext e hd').1 hs')
structure Obj (α : Type) where
  dec : (Nat → Option Blk) → AV → Option (α × List (Nat × Bool))
  mem : α → Mem
  self : α → AV
  ok : ∀ {M v a sel},dec M v = some (a,sel) → (selF M sel sel = true ∧ distinct sel = true) ∧ subF sel M sel = mem a ∧ v.inB (isIn sel) = true ∧ v.ren (posOf sel) = self a
  loc : ∀ {M v a sel},dec M v = some (a,sel) → ∀ M',(∀ id ∈ sel.map Prod.fst,M' id = M id) → dec M' v = some (a,sel)
def useO (sel : List (Nat × Bool)) (n : Nat) : Option (AV × Mem) → Option (Eff × Nat)
  | some (v,m') =>some (effS sel n v m',m'.length - sel.length)
  | none =>none
def etO {α β : Type} (o : Obj α) (c : Cod β) (f : α → β → Option (AV × Mem)) : ET:=fun args M n =>match args with
  | v :: r =>match o.dec M v,c.dec r with
    | some (a,sel),some b =>useO sel n (f a b)
    | _,_ =>none
  | [] =>none
theorem etO_ok {α β : Type} {g : FuncId} {o : Obj α} {c : Cod β} {f : α → β → Option (AV × Mem)}
    (h : ∀ a b v m',f a b = some (v,m') → ((o.mem a).length ≤ m'.length ∧ (m'.drop (o.mem a).length).all rwB = true) ∧ CallA1 S g (o.self a :: c.enc b) (o.mem a) fun r m1 =>r = v ∧ m1 = m') : EffF S g (etO o c f):=by
  refine effG fun args M n e k q => ?_
  unfold etO at q
  split at q
  · rename_i v r
    split at q
    · rename_i a sel b ho hc
      cases hf : f a b with
      | none =>rw [hf] at q; cases q
      | some x =>
        obtain ⟨v',m'⟩:=x
        rw [hf] at q
        simp only [useO,Option.some.injEq,Prod.mk.injEq] at q
        obtain ⟨rfl,rfl⟩:=q
        obtain ⟨⟨h1,h2⟩,h3,h4,h5⟩:=o.ok ho
        obtain ⟨⟨g1,g2⟩,g3⟩:=h a b v' m' hf
        have hlen : (o.mem a).length = sel.length:=by rw [← h3,subF_len]
        rw [hlen] at g1 g2
        have hr : r = c.enc b:=c.ok _ _ hc
        refine ⟨fun M' hM' => ?_,sel,v',m',⟨h1,h2,?_⟩,⟨by omega,g2⟩,rfl,?_⟩
        · have:=o.loc ho M' fun id hid =>hM' id (by rw [List.mem_append]; exact .inr hid)
          simp only [etO,this,hc,hf,useO]
        · simp only [AV.insB,h4,Bool.true_and,hr]; exact flats_inB (c.flat b)
        · simp only [AV.rens,h5,hr,flats_rens (c.flat b),h3]; exact g3
    · cases q
  · cases q
def rtO {α β : Type} (o : Obj α) (c : Cod β) (f : α → β → Option AV) : RT:=fun args M =>match args with
  | v :: r =>match o.dec M v,c.dec r with
    | some (a,sel),some b =>(f a b).map fun x =>(x,sel.map Prod.fst)
    | _,_ =>none
  | [] =>none
theorem wrS_back {sel : List (Nat × Bool)} {M : Nat → Option Blk} (hsel : selF M sel sel = true) (hd : distinct sel = true) (n i : Nat) : applyF M (wrS (backNo sel n) (subF sel M sel) 0 sel) i = M i:=by
  by_cases hex : ∃ j : Nat,sel[j]? = some (i,false)
  · obtain ⟨j,hj⟩:=hex
    rw [wrS_hit sel 0 M hd hj,Nat.zero_add,subF_get,hj]
    obtain ⟨b,h1,h2,_⟩:=selF_spec hsel hj
    simp only [h1,Option.map_some,Option.some.injEq]
    have : (b.ren (posOf sel)).asRo false = b.ren (posOf sel):=by cases b <;> rfl
    rw [this]
    refine blk_back (p:=isIn sel) (fun id hid => ?_) b h2
    obtain ⟨r,hr⟩:=pos_spec hid
    simp only [backNo,hr]
  · exact wrS_miss 0 M fun j hj =>hex ⟨j,hj⟩
theorem rtO_ok {α β : Type} {g : FuncId} {o : Obj α} {c : Cod β} {f : α → β → Option AV}
    (h : ∀ a b v,f a b = some v → v.lt 0 = true ∧ CallA1 S g (o.self a :: c.enc b) (o.mem a) fun r m1 =>r = v ∧ m1 = o.mem a) : ReadF S g (rtO o c f):=by
  intro args M v foot q
  unfold rtO at q
  split at q
  · rename_i x r
    split at q
    · rename_i a sel b ho hc
      cases hf : f a b with
      | none =>rw [hf] at q; cases q
      | some v' =>
        rw [hf] at q
        simp only [Option.map_some,Option.some.injEq,Prod.mk.injEq] at q
        obtain ⟨rfl,rfl⟩:=q
        obtain ⟨⟨h1,h2⟩,h3,h4,h5⟩:=o.ok ho
        obtain ⟨g1,g2⟩:=h a b v' hf
        have hlen : (o.mem a).length = sel.length:=by rw [← h3,subF_len]
        have hr : r = c.enc b:=c.ok _ _ hc
        refine ⟨fun M' hM' => ?_,fun eb φ own w0 w us hA hus hM hk => ?_⟩
        · have:=o.loc ho M' hM'
          simp only [rtO,this,hc,hf,Option.map_some]
        · have key:=frameF (S:=S) (g:=g) (v:=v') (m':=o.mem a) (k:=0) sel 0 h1 h2 (by simp only [AV.insB,h4,Bool.true_and,hr]; exact flats_inB (c.flat b))
            (by simp only [AV.rens,h5,hr,flats_rens (c.flat b),h3]; exact g2) (by omega) (by rw [← hlen,List.drop_length]; rfl) hA hus hM hk (fun j hj =>by omega)
          refine UponV.mono ?_ key
          rintro u w' ⟨φ',k0,k1,k2,k3,k4⟩
          have hback : φ'.Ext φ:=by
            have hd : ∀ id,φ'.dom id → φ.dom id:=fun id hid =>by
              rcases k4 id hid with z | z
              · exact z
              · omega
            exact ⟨hd,fun id hid =>(k0.blk id (hd id hid)).symm,fun id hid =>(k0.base id (hd id hid)).symm,fun id hid =>(k0.k id (hd id hid)).symm,fun id hid =>(k0.size id (hd id hid)).symm⟩
          have hv : (effS sel 0 v' (o.mem a)).val = v':=by simp only [effS]; exact flat_ren g1
          have hm : applyF M (effS sel 0 v' (o.mem a)).wr = M:=by
            funext i
            simp only [effS]
            rw [← hlen,List.drop_length,applyF_app,← h3]
            exact wrS_back h1 h2 0 i
          rw [hv] at k1
          rw [hm] at k2
          exact ⟨k1.mono hback,k2.mono hback,k3⟩
    · cases q
  · cases q
def etN {α : Type} (c : Cod α) (f : α → Option (AV × Mem)) : ET:=fun args _ n =>match c.dec args with
  | some a =>useO [] n (f a)
  | none =>none
theorem etN_ok {α : Type} {g : FuncId} {c : Cod α} {f : α → Option (AV × Mem)} (h : ∀ a v m',f a = some (v,m') → m'.all rwB = true ∧ CallA1 S g (c.enc a) [] fun r m1 =>r = v ∧ m1 = m') : EffF S g (etN c f):=by
  refine effG fun args M n e k q => ?_
  unfold etN at q
  split at q
  · rename_i a hc
    cases hf : f a with
    | none =>rw [hf] at q; cases q
    | some x =>
      obtain ⟨v',m'⟩:=x
      rw [hf] at q
      simp only [useO,Option.some.injEq,Prod.mk.injEq] at q
      obtain ⟨rfl,rfl⟩:=q
      obtain ⟨g1,g2⟩:=h a v' m' hf
      have hr : args = c.enc a:=c.ok _ _ hc
      refine ⟨fun M' _ =>by simp only [etN,hc,hf,useO],[],v',m',⟨rfl,rfl,?_⟩,⟨by simp,g1⟩,rfl,?_⟩
      · rw [hr]; exact flats_inB (c.flat a)
      · rw [hr,flats_rens (c.flat a)]; exact g2
  · cases q
def rtElse {α : Type} (c : Cod α) (f : α → AV) (g : RT) : RT:=fun args M =>match c.dec args with
  | some a =>some (f a,[])
  | none =>g args M
theorem rtElse_ok {α : Type} {g : FuncId} {c : Cod α} {f : α → AV} {r : RT} (h : ∀ a,Pure S g (c.enc a) (f a)) (hf : ∀ a,(f a).lt 0 = true) (hr : ReadF S g r) : ReadF S g (rtElse c f r):=by
  intro args M v foot q
  unfold rtElse at q
  split at q
  · rename_i a hc
    have:=rtP_ok h hf args M v foot (by simp only [rtP,hc,Option.map_some]; exact q)
    refine ⟨fun M' _ =>by simp only [rtElse,hc]; exact q,this.2⟩
  · rename_i hc
    obtain ⟨h1,h2⟩:=hr args M v foot q
    exact ⟨fun M' hM' =>by simp only [rtElse,hc]; exact h1 M' hM',h2⟩
def decNil : AV → Option Unit
  | .nilp =>some ()
  | _ =>none
def aNil : Arg Unit:=⟨fun _ => .nilp,decNil,fun v a h =>by unfold decNil at h; split at h <;> simp_all,fun _ =>rfl,fun _ =>rfl⟩
section
variable {α β : Type} {x : Arg α} {c : Cod β}
def pairO {α β : Type} : Option α → Option β → Option (α × β)
  | some a,some b =>some (a,b)
  | _,_ =>none
theorem pairO_some {a : α} {b : β} : pairO (some a) (some b) = some (a,b):=rfl
theorem pairO_none {b : Option β} : pairO (none : Option α) b = none:=by cases b <;> rfl
theorem cC_dec {v : AV} {r : List AV} : (cC x c).dec (v :: r) = pairO (x.dec v) (c.dec r):=by
  show decC x c (v :: r) = _
  unfold decC pairO
  rfl
theorem cC_nil : (cC x c).dec [] = none:=rfl
theorem c0_dec : c0.dec [] = some ():=rfl
theorem c0_dec1 {v : AV} {r : List AV} : c0.dec (v :: r) = none:=rfl
theorem aI_dec {k : IntKind} {n : Int} : (aI k).dec (.int k n) = some n:=decI_de n
theorem aS_dec {s : ByteArray} : aS.dec (.str s) = some s:=rfl
theorem aB_dec {b : Bool} : aB.dec (.bool b) = some b:=rfl
theorem aNil_dec : aNil.dec .nilp = some ():=rfl
theorem aNil_ptr {i j k : Nat} : aNil.dec (.ptr i j k) = none:=rfl
theorem useO_some {sel : List (Nat × Bool)} {n : Nat} {v : AV} {m' : Mem} : useO sel n (some (v,m')) = some (effS sel n v m',m'.length - sel.length):=rfl
def etO2 {α β : Type} (n : Nat) (f : α → β → Option (AV × Mem)) : Option (α × List (Nat × Bool)) → Option β → Option (Eff × Nat)
  | some (a,sel),some b =>useO sel n (f a b)
  | _,_ =>none
theorem etO_eq {o : Obj α} {f : α → β → Option (AV × Mem)} {v : AV} {r : List AV} {M : Nat → Option Blk} {n : Nat} : etO o c f (v :: r) M n = etO2 n f (o.dec M v) (c.dec r):=by
  unfold etO etO2; rfl
theorem etO2_eq {f : α → β → Option (AV × Mem)} {n : Nat} {a : α} {sel : List (Nat × Bool)} {b : β} : etO2 n f (some (a,sel)) (some b) = useO sel n (f a b):=rfl
theorem etO2_none {f : α → β → Option (AV × Mem)} {n : Nat} {b : Option β} : etO2 n f none b = none:=rfl
def rtO2 {α β : Type} (f : α → β → Option AV) : Option (α × List (Nat × Bool)) → Option β → Option (AV × List Nat)
  | some (a,sel),some b =>(f a b).map fun x =>(x,sel.map Prod.fst)
  | _,_ =>none
theorem rtO_eq {o : Obj α} {f : α → β → Option AV} {v : AV} {r : List AV} {M : Nat → Option Blk} : rtO o c f (v :: r) M = rtO2 f (o.dec M v) (c.dec r):=by
  unfold rtO rtO2; rfl
theorem rtO2_eq {f : α → β → Option AV} {a : α} {sel : List (Nat × Bool)} {b : β} : rtO2 f (some (a,sel)) (some b) = (f a b).map fun x =>(x,sel.map Prod.fst):=rfl
theorem rtO2_none {f : α → β → Option AV} {b : Option β} : rtO2 f none b = none:=rfl
def elseO (g : Option (AV × List Nat)) : Option AV → Option (AV × List Nat)
  | some v =>some (v,[])
  | none =>g
theorem rtElse_eq {c : Cod α} {f : α → AV} {g : RT} {args : List AV} {M : Nat → Option Blk} : rtElse c f g args M = elseO (g args M) ((c.dec args).map f):=by
  unfold rtElse; cases c.dec args <;> rfl
theorem elseO_some {g : Option (AV × List Nat)} {v : AV} : elseO g (some v) = some (v,[]):=rfl
theorem elseO_none {g : Option (AV × List Nat)} : elseO g none = g:=rfl
theorem etN_eq {c : Cod α} {f : α → Option (AV × Mem)} {args : List AV} {M : Nat → Option Blk} {n : Nat} : etN c f args M n = useO [] n ((c.dec args).bind f):=by
  unfold etN; cases c.dec args <;> rfl
end
end AH
