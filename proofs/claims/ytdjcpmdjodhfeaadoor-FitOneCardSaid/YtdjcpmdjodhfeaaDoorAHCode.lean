import Derived.Test.YtdjcpmdjodhfeaaDoorAHOpD
import Derived.Tactics
import Derived.LoopN
/-
AH: compiled code does what its weakest precondition says: regions in their own order, and the control.
-/
set_option linter.unusedSimpArgs false
namespace AH
open Go
variable {S : Sys} {eb : Nat → Addr}

theorem mget_nil (i : Nat) : mget [] i = none := by cases i <;> rfl

theorem mget_mset : ∀ (m : Mem) (i : Nat) (b : Option Blk) (j : Nat), mget (mset m i b) j = if j = i then b else mget m j
  | [], 0, b, 0 => by simp [mset, mget]
  | [], 0, b, j + 1 => by simp [mset, mget]
  | [], i + 1, b, 0 => by simp [mset, mget]
  | [], i + 1, b, j + 1 => by simp only [mset, mget, mget_mset [] i b j, mget_nil]; simp
  | x :: r, 0, b, 0 => by simp [mset, mget]
  | x :: r, 0, b, j + 1 => by simp [mset, mget]
  | x :: r, i + 1, b, 0 => by simp [mset, mget]
  | x :: r, i + 1, b, j + 1 => by simp only [mset, mget, mget_mset r i b j]; simp

theorem mset_length : ∀ (m : Mem) (i : Nat) (b : Option Blk), m.length ≤ (mset m i b).length ∧ i < (mset m i b).length
  | [], 0, b => by simp [mset]
  | [], i + 1, b => by have := mset_length [] i b; simp [mset]; omega
  | x :: r, 0, b => by simp [mset]
  | x :: r, i + 1, b => by have := mset_length r i b; simp [mset]; omega

theorem mget_applyWr' : ∀ (wr : List (Nat × Option Blk)) (m : Mem) (M : Nat → Option Blk), mget m = M → ∀ j, mget (applyWr m wr) j = applyF M wr j
  | [], m, M, h, j => by rw [← h]; rfl
  | (i, b) :: r, m, M, h, j => by
    rw [applyWr, mget_applyWr' r _ _ rfl, applyF]
    congr 1
    funext j
    rw [mget_mset, h]

theorem mget_applyWr (wr : List (Nat × Option Blk)) (m : Mem) : mget (applyWr m wr) = applyF (mget m) wr := funext (mget_applyWr' wr m _ rfl)

theorem applyWr_length : ∀ (wr : List (Nat × Option Blk)) (m : Mem), m.length ≤ (applyWr m wr).length ∧ ∀ i ∈ wr.map Prod.fst, i < (applyWr m wr).length
  | [], m => by simp [applyWr]
  | (i, b) :: r, m => by
    obtain ⟨h1, h2⟩ := applyWr_length r (mset m i b)
    obtain ⟨g1, g2⟩ := mset_length m i b
    refine ⟨by rw [applyWr]; omega, fun j hj => ?_⟩
    simp only [List.map_cons, List.mem_cons] at hj
    rw [applyWr]
    rcases hj with rfl | hj
    · omega
    · exact h2 j hj

theorem tget_terase_ne : ∀ (tm : Tm) (d t : Nat), t ≠ d → tget (terase tm d) t = tget tm t
  | [], _, _, _ => rfl
  | (s, v) :: r, d, t, h => by
    by_cases hs : s = d
    · subst hs
      have : (s == t) = false := by simp; omega
      simp [terase, tget, this]
    · have hsd : (s == d) = false := by simp [hs]
      simp only [terase, hsd, cond_false, tget, tget_terase_ne r d t h]

theorem tget_put (st : St) (d : Option Nat) (v : AV) (t : Nat) : tget (st.put d v).tm t = if d = some t then v else tget st.tm t := by
  cases d with
  | none => simp [St.put]
  | some d =>
    simp only [St.put, tget, Option.some.injEq]
    by_cases h : d = t
    · subst h; simp
    · have : (d == t) = false := by simp [h]
      simp only [this, cond_false, h, if_false]
      exact tget_terase_ne _ _ _ (fun q => h q.symm)

/-- How a state stands for the machine's. -/
structure RelAt (S : Sys) (eb : Nat → Addr) (own : Nat → Prop) (w0 : World) (φ0 : Emb) (nt : Nat) (φ : Emb) (st : St) (a : Act) (w : World) : Prop where
  ext : φ0.Ext φ
  size : a.tmps.size = nt
  defers : a.defers = []
  tm : ∀ t, VR S.errT eb φ (tget st.tm t) (a.tmps.getD t undef)
  mr : MR S.errT eb φ (mget st.mem) own w
  keeps : Keeps own w0 w
  bdd : ∀ id, φ.dom id → id < st.mem.length

def Rel (S : Sys) (eb : Nat → Addr) (own : Nat → Prop) (w0 : World) (φ0 : Emb) (nt : Nat) (st : St) (a : Act) (w : World) : Prop := ∃ φ, RelAt S eb own w0 φ0 nt φ st a w

def Lift (S : Sys) (eb : Nat → Addr) (own : Nat → Prop) (w0 : World) (φ0 : Emb) (nt : Nat) (Q : Exit → St → Prop) : Exit → Act → World → Prop :=
  fun e a w => ∃ st, Q e st ∧ Rel S eb own w0 φ0 nt st a w

/-- What comes of a callee. -/
def UponV (P : Program) (R : Value → World → Prop) : Result Next → Prop
  | .ok (.value v) w => R v w
  | .ok (.enter f args) w => Calls P f args w fun e w' => ∃ v, e = .returned v ∧ R v w'
  | .ok (.row row args) w => Rows P row args w R
  | _ => False

def CallRes (P : Program) (g : FuncId) (us : Array Value) (w : World) (R : Value → World → Prop) : Prop := UponV P R ((callFunc g us).run P w)

/-- What is known of calls holds. -/
def CallsA (S : Sys) (C : Callee) : Prop := ∀ g args m K, C g args m K → ∀ eb φ own w0 w (us : Array Value), Amb S eb own w0 → VRs S.errT eb φ args us.toList → MR S.errT eb φ (mget m) own w → Keeps own w0 w →
  (∀ id, φ.dom id → id < m.length) → CallRes S.P g us w fun r w' => ∃ φ' v m', K v m' ∧ φ.Ext φ' ∧ VR S.errT eb φ' v r ∧ MR S.errT eb φ' (mget m') own w' ∧ Keeps own w0 w' ∧ ∀ id, φ'.dom id → id < m'.length

def ReadA (S : Sys) (rd : FuncId → List AV → (Nat → Option Blk) → Option (AV × List Nat)) : Prop := ∀ g args M v foot, rd g args M = some (v, foot) →
  (∀ M', (∀ id ∈ foot, M' id = M id) → rd g args M' = some (v, foot)) ∧
  ∀ eb φ own w0 w (us : Array Value), Amb S eb own w0 → VRs S.errT eb φ args us.toList → MR S.errT eb φ M own w → Keeps own w0 w →
    CallRes S.P g us w fun r w' => VR S.errT eb φ v r ∧ MR S.errT eb φ M own w' ∧ Keeps own w0 w'

variable {own : Nat → Prop} {w0 w : World} {φ0 φ : Emb} {nt : Nat} {st : St} {a : Act} {K : St → Prop} {Q' : Exit → Act → World → Prop}

theorem RelAt.eval (h : RelAt S eb own w0 φ0 nt φ st a w) : Rho S eb φ a.eval (Opd.ev st.tm) := by
  intro x cx hx
  cases x with
  | tmp t => simp only [cOpd, Option.some.injEq] at hx; subst hx; exact h.tm t
  | const v =>
    simp only [cOpd, Option.map_eq_some_iff] at hx
    obtain ⟨v', hv, rfl⟩ := hx
    exact ofValue_vr hv
  | global g => simp [cOpd] at hx
  | func g => simp only [cOpd, Option.some.injEq] at hx; subst hx; exact .fn g [] [] #[] #[] .nil .nil

/-- A temporary gets a value. -/
theorem RelAt.put (h : RelAt S eb own w0 φ0 nt φ st a w) {φ' : Emb} {w' : World} {m' : Mem} (he : φ.Ext φ') (hm : MR S.errT eb φ' (mget m') own w') (hk : Keeps own w0 w') (hb : ∀ id, φ'.dom id → id < m'.length)
    {d : Option Nat} (hd : d.all (· < nt) = true) {v : AV} {u : Value} (hv : VR S.errT eb φ' v u) : RelAt S eb own w0 φ0 nt φ' (St.put ⟨st.tm, m'⟩ d v) (a.put d u) w' := by
  refine ⟨h.ext.trans he, ?_, ?_, ?_, ?_, hk, ?_⟩
  · cases d <;> simp [Act.put, h.size]
  · cases d <;> simp [Act.put, h.defers]
  · intro t
    rw [tget_put]
    cases d with
    | none => simpa [Act.put] using (h.tm t).mono he
    | some d =>
      simp only [Option.all_some, decide_eq_true_eq] at hd
      by_cases hdt : d = t
      · subst hdt
        have hlt : d < a.tmps.size := by rw [h.size]; exact hd
        simpa [Act.put, hlt] using hv
      · have := (h.tm t).mono he
        simp only [Option.some.injEq, hdt, if_false]
        simpa [Act.put, Array.getElem?_setIfInBounds_ne hdt] using this
  · cases d <;> exact hm
  · cases d <;> exact hb

theorem RelAt.put_same (h : RelAt S eb own w0 φ0 nt φ st a w) {d : Option Nat} (hd : d.all (· < nt) = true) {v : AV} {u : Value} (hv : VR S.errT eb φ v u) : RelAt S eb own w0 φ0 nt φ (st.put d v) (a.put d u) w :=
  h.put (.refl φ) h.mr h.keeps h.bdd hd hv

/-- The operations other than calls. -/
theorem op_exec (hA : Amb S eb own w0) {o : Oper} {op : AOp Opd} (hc : cOp S.P S.errs o.op = some op) (h : RelAt S eb own w0 φ0 nt φ st a w) {p : Prop} {e : Eff}
    {fresh : Nat} (hfresh : ¬ φ.dom fresh) (hs : bstep fresh (mget st.mem) (op.map (Opd.ev st.tm)) = some (p, e)) (hp : p) :
    ∃ φ' w' u, ((execOp a.eval o).run S.P w = .ok (.value u) w' ∨ ((execOp a.eval o).run S.P w = .ok .skip w' ∧ u = undef)) ∧ φ.Ext φ' ∧ VR S.errT eb φ' e.val u ∧ MR S.errT eb φ' (applyF (mget st.mem) e.wr) own w' ∧ Keeps own w0 w' ∧
      (∀ id, φ'.dom id → φ.dom id ∨ (id = fresh ∧ fresh ∈ e.wr.map Prod.fst)) := by
  have hk : ∀ b, w.heap.size ≤ b → own b := fun b hb => h.keeps.new b (Nat.le_trans h.keeps.size hb)
  have hAw : ∀ g ∈ S.errs, ∃ et fr, w.heap[g]? = some (.cells #[.iface S.errT (.pointer (some (eb g)))] et fr) := by
    intro g hg
    obtain ⟨et, fr, h1⟩ := hA.at_ g hg
    exact ⟨et, fr, by rw [h.keeps.kept g (Array.getElem?_eq_some_iff.1 h1).1 (hA.out g hg)]; exact h1⟩
  obtain ⟨u, φ', w', h1, h2, h3, h4, h5, h6⟩ := op_sound hc h.eval (fun _ => rfl) (fun _ => rfl) h.mr hk hAw (fun _ => hfresh) hs hp
  exact ⟨φ', w', u, h1, h5, h2, h3, h.keeps.step h4, h6⟩

set_option maxHeartbeats 4000000 in
theorem op_call {op : Op} {P : Program} {errs : List Nat} {f : Opd} {args : List Opd} (h : cOp P errs op = some (.call f args)) : ∃ g xs ts, op = .call { callee := .value g, args := xs, argTypes := ts } ∧ cOpd g = some f ∧ xs.toList.mapM cOpd = some args := by
  have key : ∀ {c : AOp Opd}, cOp P errs op = some c → (∀ f l, c ≠ .call f l) ∨ ∃ g xs ts, op = .call { callee := .value g, args := xs, argTypes := ts } := by
    intro c hc
    cases op with
    | call cl =>
      obtain ⟨cal, xs, ts⟩ := cl
      cases cal with
      | value g => exact .inr ⟨g, xs, ts, rfl⟩
      | invoke r n => simp only [cOp, reduceCtorEq] at hc
      | builtin b =>
        left
        intro f l hcl
        subst hcl
        simp only [cOp, bind] at hc
        repeat' (first | (simp only [Option.some.injEq, reduceCtorEq] at hc; done) | split at hc | (rw [Option.bind_eq_some_iff] at hc; obtain ⟨_, _, hc⟩ := hc))
        all_goals contradiction
    | _ =>
      left
      intro f l hcl
      subst hcl
      simp only [cOp, bind] at hc
      repeat' (first | (simp only [Option.some.injEq, reduceCtorEq] at hc; done) | split at hc | (rw [Option.bind_eq_some_iff] at hc; obtain ⟨_, _, hc⟩ := hc))
      all_goals contradiction
  rcases key h with q | ⟨g, xs, ts, rfl⟩
  · exact absurd rfl (q f args)
  · simp only [cOp, bind, Option.bind_eq_some_iff, Option.some.injEq, AOp.call.injEq] at h
    obtain ⟨cg, h1, cl, h2, rfl, rfl⟩ := h
    exact ⟨g, xs, ts, rfl, h1, h2⟩

theorem op_eq {op : Op} {P : Program} {errs : List Nat} {neg lit : Bool} {k : EqK} {x y : Opd} (h : cOp P errs op = some (.eq neg k lit x y)) :
    ∃ t a b t', op = .binOp (bif neg then .neq else .eql) t a b t' ∧ eqKind P t = some k ∧ cOpd a = some x ∧ cOpd b = some y := by
  have key : ∀ {c : AOp Opd}, cOp P errs op = some c → (∀ n k l x y, c ≠ .eq n k l x y) ∨ ∃ bo t a b t', op = .binOp bo t a b t' := by
    intro c hc
    cases op with
    | binOp bo t a b t' => exact .inr ⟨bo, t, a, b, t', rfl⟩
    | call cl =>
      obtain ⟨cal, xs, ts⟩ := cl
      left
      intro n k l x y hcl
      subst hcl
      cases cal <;> simp only [cOp, bind] at hc
      all_goals repeat' (first | (simp only [Option.some.injEq, reduceCtorEq] at hc; done) | split at hc | (rw [Option.bind_eq_some_iff] at hc; obtain ⟨_, _, hc⟩ := hc))
      all_goals contradiction
    | _ =>
      left
      intro n k l x y hcl
      subst hcl
      simp only [cOp, bind] at hc
      repeat' (first | (simp only [Option.some.injEq, reduceCtorEq] at hc; done) | split at hc | (rw [Option.bind_eq_some_iff] at hc; obtain ⟨_, _, hc⟩ := hc))
      all_goals contradiction
  rcases key h with q | ⟨bo, t, a, b, t', rfl⟩
  · exact absurd rfl (q _ _ _ _ _)
  · simp only [cOp] at h
    split at h
    · simp [bind, Option.bind_eq_some_iff] at h
    · simp [bind, Option.bind_eq_some_iff] at h
    · split at h
      · simp only [bind, Option.bind_eq_some_iff, Option.some.injEq, AOp.eq.injEq] at h
        obtain ⟨k', hk, cx, hx, cy, hy, rfl, rfl, _, rfl, rfl⟩ := h
        exact ⟨t, a, b, t', rfl, hk, hx, hy⟩
      · simp only [bind, Option.bind_eq_some_iff, Option.some.injEq, AOp.eq.injEq] at h
        obtain ⟨k', hk, cx, hx, cy, hy, rfl, rfl, _, rfl, rfl⟩ := h
        exact ⟨t, a, b, t', rfl, hk, hx, hy⟩
      · cases h

/-- Whether a slice that may be empty is nil: one of both. -/
theorem miss_ok {o : Oper} {op : AOp Opd} {ρ : Operand → Value} {f : Opd → AV} (hc : cOp S.P S.errs o.op = some op) (hρ : Rho S eb φ ρ f) (hm : missQ (op.map f) = true) : ∃ b, (execOp ρ o).run S.P w = .ok (.value (.bool b)) w := by
  cases op <;> simp only [AOp.map, missQ, Bool.false_eq_true] at hm
  rename_i neg k lit x y
  split at hm
  · rename_i n k' l' id ix nn cap heq
    simp only [AOp.eq.injEq] at heq
    obtain ⟨rfl, rfl, rfl, hx0, hy0⟩ := heq
    obtain ⟨t, a, b, t', ho, hk, hx, hy⟩ := op_eq hc
    have vx := hρ a x hx
    have vy := hρ b y hy
    rw [hx0] at vx
    rw [hy0] at vy
    have hv : ρ b = .slice none 0 0 := nils_inv vy
    obtain ⟨td, hu, hkd⟩ := eqKind_is hk
    cases td <;> simp only [isKind, Bool.false_eq_true] at hkd
    obtain ⟨ad, c, hu'⟩ : ∃ ad c, ρ a = .slice ad nn c := by
      rcases (slc_inv vx).2 with ⟨c, h1, _⟩ | ⟨ad, h1, h2, _⟩
      · exact ⟨_, _, h1⟩
      · exact ⟨_, _, by rw [h2]; exact h1⟩
    have hE : ∃ r, ∀ D, (Op.equalIn (D + 1) t (ρ a) (ρ b)).run S.P w = .ok r w := by
      rw [hu', hv]
      cases ad with
      | none => exact ⟨true, fun D => by simp [Op.equalIn, run_underlying hu]⟩
      | some q => exact ⟨false, fun D => by simp [Op.equalIn, run_underlying hu]⟩
    obtain ⟨r, hE⟩ := hE
    have hER : EqRun S w t a b (ρ a) (ρ b) r := by
      refine .of hE ?_ ?_ fun op => ?_
      · rw [hu', hv]; rfl
      · rw [hu', hv]; rfl
      · rw [hu', hv]; exact eqGuard_other op t a b _ _ (by simp) (by simp)
    obtain ⟨h1, h2, h3⟩ := hER
    cases neg with
    | false => exact ⟨r, by simp only [cond_false] at ho; simp [execOp, ho, h1, h3]⟩
    | true => exact ⟨!r, by simp only [cond_true] at ho; simp [execOp, ho, h2, h3]⟩
  · cases hm

end AH
