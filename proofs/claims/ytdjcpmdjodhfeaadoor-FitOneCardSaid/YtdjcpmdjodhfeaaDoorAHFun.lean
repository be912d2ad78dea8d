import Derived.Test.YtdjcpmdjodhfeaaDoorAHDraw
/-
AH: code and functions.
-/
set_option linter.unusedSimpArgs false
namespace AH
open Go
variable {S : Sys} {eb : Nat → Addr} {own : Nat → Prop} {w0 w : World} {φ0 φ : Emb} {nt : Nat} {st : St} {a : Act} {K : St → Prop} {C : Ctx}

/-- What the table of calls says is so. -/
structure CtxOK (S : Sys) (C : Ctx) : Prop where
  calls : CallsA S C.call
  reads : ReadA S C.read
  mixed : S.P.follows .mixedOrders = true

theorem thenQ_then {P : Program} {b : Code} {Qb : Exit → Act → World → Prop} {K : St → Prop} {Q : Exit → St → Prop} (hK : ∀ st a w, K st → Rel S eb own w0 φ0 nt st a w → b.wp P Qb a w) (hQ : ∀ e a w, Lift S eb own w0 φ0 nt Q e a w → Qb e a w) :
    ∀ e a w, Lift S eb own w0 φ0 nt (thenQ K Q) e a w → Exit.then (b.wp P Qb) Qb e a w := by
  rintro e a w ⟨st, h1, h2⟩
  cases e with
  | normal => exact hK st a w h1 h2
  | _ => exact hQ _ _ _ ⟨st, h1, h2⟩

theorem code_sound (hA : Amb S eb own w0) (hC : CtxOK S C) (hb : ∀ id, φ0.dom id → id < C.base) : ∀ (c : Code) (ac : ACode), cCode S.P S.errs nt c = some ac → ∀ (Q : Exit → St → Prop) (st : St) (a : Act) (w : World),
    wpA C ac Q st → Rel S eb own w0 φ0 nt st a w → c.wp S.P (Lift S eb own w0 φ0 nt Q) a w
  | .skip, ac, hc, Q, st, a, w, hw, hr => by
    simp only [cCode, Option.some.injEq] at hc
    subst hc
    exact wp_skip ⟨st, hw, hr⟩
  | .region id ops draw, ac, hc, Q, st, a, w, hw, hr => by
    simp only [cCode, bind, Option.bind_eq_some_iff] at hc
    obtain ⟨l, hl, hc⟩ := hc
    cases draw with
    | true =>
      simp only [if_true] at hc
      split at hc
      · rename_i hcl
        simp only [Option.some.injEq] at hc
        subst hc
        exact drawW hC.mixed hA hC.reads hl hcl hw.1 hw.2 hr fun st a w h1 h2 => ⟨st, h1, h2⟩
      · cases hc
    | false =>
      simp only [Bool.false_eq_true, if_false, Option.some.injEq] at hc
      subst hc
      exact wp_region_list (listW hA hC.calls (fun st a w h1 h2 => ⟨st, h1, h2⟩) hl hw hr)
  | .seq x y, ac, hc, Q, st, a, w, hw, hr => by
    simp only [cCode, bind, Option.bind_eq_some_iff, Option.some.injEq] at hc
    obtain ⟨cx, hx, cy, hy, rfl⟩ := hc
    refine wp_seq (wp_mono (code_sound hA hC hb x cx hx _ st a w hw hr) ?_)
    exact thenQ_then (fun st a w h1 h2 => code_sound hA hC hb y cy hy Q st a w h1 h2) (fun _ _ _ h => h)
  | .cond c x y, ac, hc, Q, st, a, w, hw, hr => by
    simp only [cCode, bind, Option.bind_eq_some_iff, Option.some.injEq] at hc
    obtain ⟨cc, hcc, cx, hx, cy, hy, rfl⟩ := hc
    obtain ⟨φ, h⟩ := hr
    have vc := h.eval c cc hcc
    have hw' : wpC (wpA C cx Q) (wpA C cy Q) st (cc.ev st.tm) := hw
    generalize cc.ev st.tm = v at vc hw'
    unfold wpC at hw'
    split at hw'
    · rename_i t
      refine wp_cond_split (vr_bool vc) (fun ht => ?_) (fun ht => ?_)
      · exact code_sound hA hC hb x cx hx Q st a w (hw'.1 ht) ⟨φ, h⟩
      · exact code_sound hA hC hb y cy hy Q st a w (hw'.2 ht) ⟨φ, h⟩
    · exact hw'.elim
  | .block id b, ac, hc, Q, st, a, w, hw, hr => by
    simp only [cCode, bind, Option.bind_eq_some_iff, Option.some.injEq] at hc
    obtain ⟨cb, hcb, rfl⟩ := hc
    refine wp_block (wp_mono (code_sound hA hC hb b cb hcb _ st a w hw hr) ?_)
    rintro e a w ⟨st, h1, h2⟩
    cases e with
    | exit i =>
      simp only [inBlk] at h1
      simp only [Exit.inBlock]
      split
      · rename_i hi; simp only [hi, if_true] at h1; exact ⟨st, h1, h2⟩
      · rename_i hi; simp only [hi, if_false] at h1; exact ⟨st, h1, h2⟩
    | _ => exact ⟨st, h1, h2⟩
  | .loop b, ac, hc, Q, st, a, w, hw, hr => by
    simp only [cCode, bind, Option.bind_eq_some_iff, Option.some.injEq] at hc
    obtain ⟨cb, hcb, rfl⟩ := hc
    refine LoopAt.loop ?_
    obtain ⟨st', hg0, hw'⟩ : gcX C.base (LoopA fun X s => wpA C cb (thenQ (gcX C.base X) Q) s) st := hw
    have hr : Rel S eb own w0 φ0 nt st' a w := by
      obtain ⟨φ, h⟩ := hr
      exact h.gc hb hg0
    refine hw' (fun s => ∀ a w, Rel S eb own w0 φ0 nt s a w → LoopAt S.P b (Lift S eb own w0 φ0 nt Q) a w) ?_ a w hr
    intro s hs a w hr
    refine LoopAt.unroll (wp_mono (code_sound hA hC hb b cb hcb _ s a w hs hr) ?_)
    rintro e a w ⟨st, h1, h2⟩
    cases e with
    | normal =>
      obtain ⟨s', hg, hX⟩ := h1
      obtain ⟨φ, h2⟩ := h2
      exact hX a w (h2.gc hb hg)
    | _ => exact ⟨st, h1, h2⟩
  | .exit id, ac, hc, Q, st, a, w, hw, hr => by
    simp only [cCode, Option.some.injEq] at hc
    subst hc
    exact wp_exit ⟨st, hw, hr⟩
  | .ret, ac, hc, Q, st, a, w, hw, hr => by
    simp only [cCode, Option.some.injEq] at hc
    subst hc
    exact wp_ret ⟨st, hw, hr⟩
  | .rangeFunc .., ac, hc, _, _, _, _, _, _ => by simp [cCode] at hc
  | .scope _, ac, hc, _, _, _, _, _, _ => by simp [cCode] at hc
  | .label _, ac, hc, _, _, _, _, _, _ => by simp [cCode] at hc
  | .goto _, ac, hc, _, _, _, _, _, _ => by simp [cCode] at hc
  | .refuse _, ac, hc, _, _, _, _, _, _ => by simp [cCode] at hc


theorem loadVar_run {M : Nat → Option Blk} {t : TypeId} {td : TypeDesc} (ht : S.P.underlying t = some td) {v : AV} {u0 : Value} (vx : VR S.errT eb φ v u0) (hM : MR S.errT eb φ M own w) {fresh : Nat} {p : Prop} {e : Eff}
    (hs : bstep fresh M (.load (isAggT S.P t) (bif isAggT S.P t then S.P.cellsOf t else 1) v) = some (p, e)) (hp : p) : ∃ ad u, u0 = .pointer (some ad) ∧ (loadVar t ad).run S.P w = .ok u w ∧ VR S.errT eb φ e.val u := by
  simp only [bstep] at hs
  split at hs
  · rename_i id ix sub
    obtain ⟨hd, hv⟩ := ptr_inv vx
    split at hs
    · rename_i ro k es hrow
      simp only [Option.some.injEq, Prod.mk.injEq] at hs
      obtain ⟨rfl, rfl⟩ := hs
      obtain ⟨hp1, hp2⟩ := hp
      obtain ⟨hk, hm⟩ := rowAt_k hM hrow
      obtain ⟨_, hlen, us, g1, g2, g3, g4⟩ := hM.elems hm hp1
      have hvr := AHpart_vr (agg := isAggT S.P t) (n := bif isAggT S.P t then S.P.cellsOf t else 1) (off := sub) g2 g3 (by omega) (by intro hh; simp [hh])
      refine ⟨_, _, hv, ?_, hvr⟩
      obtain ⟨inf, hinf⟩ := Option.isSome_iff_exists.1 (info_of_underlying ht)
      cases hag : isAggT S.P t
      · have hlt : sub < us.length := by simp [hag] at hp2; omega
        have hc := g4 sub us[sub] (List.getElem?_eq_getElem hlt)
        simp only [loadVar, Sem.run_bind, Sem.run_pure, run_isAgg_iff t ht, hag, Result.andThen_ok, Bool.false_eq_true, if_false, run_load, hc]
        congr 2
        simp [List.getD, List.getElem?_eq_getElem hlt]
      · simp only [hag, cond_true] at hp2
        have hl := run_loadCells_list (P := S.P) w ⟨φ.blk id, φ.base id + ix * φ.k id + sub, none⟩ ((us.drop sub).take (S.P.cellsOf t)) (fun j u hu => by
          rw [add_lit, Nat.add_assoc]
          rw [List.getElem?_take] at hu
          split at hu
          · rw [List.getElem?_drop] at hu
            exact g4 _ _ hu
          · cases hu)
        have hll : ((us.drop sub).take (S.P.cellsOf t)).length = S.P.cellsOf t := by simp; omega
        rw [hll] at hl
        simp only [loadVar, Sem.run_bind, Sem.run_pure, run_isAgg_iff t ht, hag, Result.andThen_ok, if_true, sizeOf_run hinf, hl, cond_true]
    · cases hs
  · cases hs

def cRes (P : Program) : ResultVar → Option RV
  | .tmp t => some (.tmp t)
  | .cell t ty => if (P.underlying ty).isSome then some (.cell t (isAggT P ty) (bif isAggT P ty then P.cellsOf ty else 1)) else none

/-- A function, compiled. -/
def cFun (P : Program) (errs : List Nat) (fn : Func) : Option AFun := do
  let c ← fn.body
  let body ← cCode P errs fn.ntmps c
  let rs ← fn.results.toList.mapM (cRes P)
  if fn.name == "runtime.NumGoroutine" || decide (fn.ntmps < fn.params.size + fn.nfree) then none
  some { ntmps := fn.ntmps, nargs := fn.params.size + fn.nfree, results := rs, body }

theorem run_mapM_list {α β : Type} {P : Program} {w : World} {f : α → Sem β} : ∀ {l : List α} {r : List β}, l.length = r.length → (∀ (i : Nat) x y, l[i]? = some x → r[i]? = some y → (f x).run P w = .ok y w) → (l.mapM f).run P w = .ok r w
  | [], [], _, _ => rfl
  | [], _ :: _, h, _ => by simp at h
  | _ :: _, [], h, _ => by simp at h
  | x :: l, y :: r, h, g => by
    rw [List.mapM_cons]
    simp only [Sem.run_bind, g 0 x y (by simp) (by simp), Result.andThen_ok, Sem.run_pure, run_mapM_list (l := l) (r := r) (by simpa using h) fun i x y hx hy => g (i + 1) x y (by simpa using hx) (by simpa using hy)]

theorem rvs_run (h : RelAt S eb own w0 φ0 nt φ st a w) : ∀ {l : List ResultVar} {rs : List RV} {p : Prop} {vs : List AV}, l.mapM (cRes S.P) = some rs → rvs st rs = some (p, vs) → p →
    ∃ us : List Value, VRs S.errT eb φ vs us ∧ l.length = us.length ∧ ∀ (i : Nat) x y, l[i]? = some x → us[i]? = some y → ((match x with
      | .tmp t => pure (a.tmps.getD t undef)
      | .cell ad t => do loadVar t (← asAddr (a.tmps.getD ad undef)) : Sem Value)).run S.P w = .ok y w
  | [], rs, p, vs, hl, hr, hp => by
    simp at hl
    subst hl
    simp only [rvs, Option.some.injEq, Prod.mk.injEq] at hr
    obtain ⟨_, rfl⟩ := hr
    exact ⟨[], .nil, rfl, by simp⟩
  | x :: l, rs, p, vs, hl, hr, hp => by
    rw [List.mapM_cons] at hl
    simp only [bind, Option.bind_eq_some_iff, pure, Option.some.injEq] at hl
    obtain ⟨r, hr1, rs', hrs, rfl⟩ := hl
    cases x with
    | tmp t =>
      simp only [cRes, Option.some.injEq] at hr1
      subst hr1
      simp only [rvs, Option.map_eq_some_iff, Prod.mk.injEq] at hr
      obtain ⟨⟨p', vs'⟩, h1, rfl, rfl⟩ := hr
      obtain ⟨us, g1, g2, g3⟩ := rvs_run h hrs h1 hp
      refine ⟨_, .cons _ _ _ _ (h.tm t) g1, by simp [g2], fun i x y hx hy => ?_⟩
      cases i with
      | zero => simp at hx hy; subst hx; rw [← hy]; simp
      | succ i => exact g3 i x y (by simpa using hx) (by simpa using hy)
    | cell ad t =>
      simp only [cRes] at hr1
      split at hr1
      · rename_i hsome
        obtain ⟨td, htd⟩ := isSome_ex' hsome
        simp only [Option.some.injEq] at hr1
        subst hr1
        simp only [rvs] at hr
        split at hr
        · rename_i p1 e p2 h1 h2
          simp only [Option.some.injEq, Prod.mk.injEq] at hr
          obtain ⟨rfl, rfl⟩ := hr
          obtain ⟨us, g1, g2, g3⟩ := rvs_run h hrs h2 hp.2
          obtain ⟨addr, u, k1, k2, k3⟩ := loadVar_run htd (h.tm ad) h.mr h1 hp.1
          refine ⟨_, .cons _ _ _ _ k3 g1, by simp [g2], fun i x y hx hy => ?_⟩
          cases i with
          | zero =>
            simp at hx hy
            subst hx
            rw [← hy]
            simp only [k1, asAddr, Sem.run_bind, Sem.run_pure, Result.andThen_ok, k2]
          | succ i => exact g3 i x y (by simpa using hx) (by simpa using hy)
        · cases hr
      · cases hr1


/-- One call does what is said: with these arguments, in this memory. -/
def CallA1 (S : Sys) (g : FuncId) (args : List AV) (m : Mem) (K : AV → Mem → Prop) : Prop := ∀ eb φ own w0 w (us : Array Value), Amb S eb own w0 → VRs S.errT eb φ args us.toList → MR S.errT eb φ (mget m) own w → Keeps own w0 w →
  (∀ id, φ.dom id → id < m.length) → CallRes S.P g us w fun r w' => ∃ φ' v m', K v m' ∧ φ.Ext φ' ∧ VR S.errT eb φ' v r ∧ MR S.errT eb φ' (mget m') own w' ∧ Keeps own w0 w' ∧ ∀ id, φ'.dom id → id < m'.length

theorem CallA1.mono {g : FuncId} {args : List AV} {m : Mem} {K K' : AV → Mem → Prop} (h : CallA1 S g args m K) (hk : ∀ v m', K v m' → K' v m') : CallA1 S g args m K' :=
  fun eb φ own w0 w us h1 h2 h3 h4 h5 => UponV.mono (fun _ _ ⟨φ', v, m', q, r⟩ => ⟨φ', v, m', hk _ _ q, r⟩) (h eb φ own w0 w us h1 h2 h3 h4 h5)

theorem argTm_get : ∀ (l : List AV) (i t : Nat), tget (argTm i l) t = if i ≤ t then (l[t - i]?).getD .undef else .undef
  | [], i, t => by simp [argTm, tget]
  | v :: r, i, t => by
    simp only [argTm, tget]
    by_cases h : i = t
    · subst h; simp
    · have hb : (i == t) = false := by simp [h]
      simp only [hb, cond_false, argTm_get r (i + 1) t]
      by_cases h1 : i + 1 ≤ t
      · rw [if_pos h1, if_pos (by omega), show t - i = (t - (i + 1)) + 1 by omega, List.getElem?_cons_succ]
      · rw [if_neg h1, if_neg (by omega)]

theorem fun_sound (hC : CtxOK S C) {g : FuncId} {fn : Func} {F : AFun} (hf : S.P.funcs[g]? = some fn) (hF : cFun S.P S.errs fn = some F) {args : List AV} {m : Mem} {K : AV → Mem → Prop} (hw : wpF C F args m K) : CallA1 S g args m K := by
  intro eb φ own w0 w us hA hargs hm hk hb
  simp only [cFun, bind, Option.bind_eq_some_iff] at hF
  obtain ⟨c, hc, body, hbody, rs, hrs, hF⟩ := hF
  split at hF
  · cases hF
  rename_i hcond
  simp only [Bool.or_eq_true, beq_iff_eq, decide_eq_true_eq, not_or, Nat.not_lt] at hcond
  have hF' : F = { ntmps := fn.ntmps, nargs := fn.params.size + fn.nfree, results := rs, body } := by
    simpa using hF.symm
  subst hF'
  obtain ⟨hn, hw⟩ := hw
  simp only at hn hw
  have hus : us.size = fn.params.size + fn.nfree := by rw [← hn, hargs.length]; simp
  have hcall : (callFunc g us).run S.P w = .ok (.enter g us) w := by
    simp [callFunc, hf, hcond.1, hc]
  unfold CallRes
  rw [hcall]
  show Calls S.P g us w _
  refine calls_of_wp hf hc ?_
  have hC' : CtxOK S { C with base := m.length } := ⟨hC.calls, hC.reads, hC.mixed⟩
  have hrel : Rel S eb own w0 φ fn.ntmps ⟨argTm 0 args, m⟩ { tmps := us ++ Array.replicate (fn.ntmps - us.size) undef, defers := [] } w := by
    refine ⟨φ, .refl φ, ?_, rfl, fun t => ?_, hm, hk, hb⟩
    · simp; omega
    · rw [argTm_get, if_pos (by omega), Nat.sub_zero]
      cases hq : args[t]? with
      | none => exact .undef _
      | some v =>
        obtain ⟨u, hu, hv⟩ := hargs.get t v hq
        rw [Array.getElem?_toList] at hu
        have hlt : t < us.size := (Array.getElem?_eq_some_iff.1 hu).1
        have hu' : us[t] = u := (Array.getElem?_eq_some_iff.1 hu).2
        simpa [Array.getElem?_append, hlt, hu'] using hv
  refine wp_mono (code_sound hA hC' hb c body hbody _ _ _ w hw hrel) ?_
  have ret : ∀ (st : St) (a : Act) (w : World), retV K st.mem (rvs st rs) → Rel S eb own w0 φ fn.ntmps st a w →
      a.defers = [] ∧ ∃ v, (results fn a.tmps).run S.P w = .ok v w ∧ ∃ r, Ending.returned v = .returned r ∧ ∃ φ' v m', K v m' ∧ φ.Ext φ' ∧ VR S.errT eb φ' v r ∧ MR S.errT eb φ' (mget m') own w ∧ Keeps own w0 w ∧ ∀ id, φ'.dom id → id < m'.length := by
    rintro st a w hret ⟨φ', h⟩
    refine ⟨h.defers, ?_⟩
    generalize hrv : rvs st rs = x at hret
    cases x with
    | none => exact hret.elim
    | some x =>
      obtain ⟨p, vs⟩ := x
      have hp : p ∧ ∃ v, K v st.mem ∧ ((∃ y, vs = [y] ∧ v = y) ∨ ((∀ y, vs ≠ [y]) ∧ v = .tup vs)) := by
        match vs, hret with
        | [], hret => exact ⟨hret.1, _, hret.2, .inr ⟨by simp, rfl⟩⟩
        | [y], hret => exact ⟨hret.1, _, hret.2, .inl ⟨y, rfl, rfl⟩⟩
        | y :: z :: r, hret => exact ⟨hret.1, _, hret.2, .inr ⟨by simp, rfl⟩⟩
      obtain ⟨hp, v, hK, hv⟩ := hp
      obtain ⟨us', g1, g2, g3⟩ := rvs_run h hrs hrv hp
      have hrun : (fn.results.mapM fun
          | .tmp t => pure (a.tmps.getD t undef)
          | .cell ad t => do loadVar t (← asAddr (a.tmps.getD ad undef)) : Sem (Array Value)).run S.P w = .ok us'.toArray w := by
        rw [← Array.toArray_toList (xs := fn.results), List.mapM_toArray, Sem.run_map, run_mapM_list g2 g3]
        rfl
      have hres : (results fn a.tmps).run S.P w = .ok (if h : us'.toArray.size = 1 then us'.toArray[0] else .tuple us'.toArray) w := by
        have e : (results fn a.tmps).run S.P w = ((fn.results.mapM fun
          | .tmp t => pure (a.tmps.getD t undef)
          | .cell ad t => do loadVar t (← asAddr (a.tmps.getD ad undef)) : Sem (Array Value)) >>= fun vs => (pure (if h : vs.size = 1 then vs[0] else .tuple vs) : Sem Value)).run S.P w := rfl
        rw [e, Sem.run_bind, hrun]
        rfl
      rcases hv with ⟨y, rfl, rfl⟩ | ⟨hne, rfl⟩
      · cases g1 with
        | cons _ u _ us2 h1 h2 =>
          cases h2
          refine ⟨u, ?_, u, rfl, φ', v, st.mem, hK, h.ext, h1, h.mr, h.keeps, h.bdd⟩
          rw [hres]; simp
      · refine ⟨.tuple us'.toArray, ?_, _, rfl, φ', .tup vs, st.mem, hK, h.ext, .tup _ _ (by simpa using g1), h.mr, h.keeps, h.bdd⟩
        rw [hres]
        have : us'.length ≠ 1 := by
          intro hl
          rw [← g1.length] at hl
          match vs, hl with
          | [y], _ => exact hne y rfl
        simp [this]
  rintro e a w ⟨st, h1, h2⟩
  cases e with
  | normal => exact ret st a w h1 h2
  | ret => exact ret st a w h1 h2
  | _ => exact h1.elim

end AH
