import Derived.Test.YtdjcpmdjodhfeaaDoorAHEq
set_option linter.unusedSimpArgs false
namespace AH
open Go
variable {S : Sys} {eb : Nat → Addr} {φ : Emb} {M : Nat → Option Blk} {own : Nat → Prop} {w : World} {ρ : Operand → Value} {f : Opd → AV} {o : Oper} {fresh : Nat} {p : Prop} {e : Eff}

/-- '==' and '!=' by one value. -/
def EqRun (S : Sys) (w : World) (t : TypeId) (x y : Operand) (a b : Value) (r : Bool) : Prop :=
  (binOp .eql t a b).run S.P w = .ok (.bool r) w ∧ (binOp .neq t a b).run S.P w = .ok (.bool !r) w ∧ ∀ op, (eqGuard op t x y a b).run S.P w = .ok () w

theorem eqGuard_other (op : BinOp) (t : TypeId) (x y : Operand) (a b : Value) (h1 : a = .nilIface → b ≠ .nilIface) (h2 : ∀ cs ds, a = .agg cs → b ≠ .agg ds) : (eqGuard op t x y a b).run S.P w = .ok () w := by
  cases op <;> first
    | rfl
    | (cases a <;> first | rfl | (cases b <;> first | rfl | exact absurd rfl (h1 rfl) | exact absurd rfl (h2 _ _ rfl)))

theorem eqGuard_nil (op : BinOp) (t : TypeId) (x y : Operand) (h : isConst x || isConst y) : (eqGuard op t x y .nilIface .nilIface).run S.P w = .ok () w := by
  cases op <;> first
    | rfl
    | (cases x <;> cases y <;> simp [isConst] at h <;> rfl)

theorem eqGuard_agg (op : BinOp) (t : TypeId) (x y : Operand) (a b : Array Value) (h : S.P.eqGuardType S.P.depth t = false) : (eqGuard op t x y (.agg a) (.agg b)).run S.P w = .ok () w :=
  run_eqGuard_agg w op t x y a b h

theorem EqRun.of {t : TypeId} {x y : Operand} {u v : Value} {r : Bool} (hE : ∀ D, (Op.equalIn (D + 1) t u v).run S.P w = .ok r w)
    (h1 : binOp .eql t u v = (do pure (.bool (← Op.equal t u v)))) (h2 : binOp .neq t u v = (do pure (.bool (!(← Op.equal t u v))))) (hg : ∀ op, (eqGuard op t x y u v).run S.P w = .ok () w) : EqRun S w t x y u v r := by
  have := hE 9999
  refine ⟨?_, ?_, hg⟩
  · rw [h1]; simp only [Op.equal, Op.maxDepth, Sem.run_bind, this, Result.andThen_ok, Sem.run_pure]
  · rw [h2]; simp only [Op.equal, Op.maxDepth, Sem.run_bind, this, Result.andThen_ok, Sem.run_pure]

def isKind : EqK → TypeDesc → Bool
  | .bool, .bool => true
  | .ptr, .pointer _ => true
  | .iface, .interface _ => true
  | .slice, .slice _ => true
  | .map, .map _ _ => true
  | .func, .func _ _ _ => true
  | .flat _, .struct _ => true
  | .flat _, .array _ _ => true
  | _, _ => false

theorem eqKind_is {k : EqK} {t : TypeId} (hk : eqKind S.P t = some k) : ∃ td, S.P.underlying t = some td ∧ isKind k td = true := by
  unfold eqKind at hk
  split at hk
  all_goals (try (simp only [Option.map_eq_some_iff, Option.some.injEq, reduceCtorEq] at hk))
  all_goals (try (split at hk <;> simp only [Option.some.injEq, reduceCtorEq] at hk))
  all_goals first
    | (subst hk; exact ⟨_, by assumption, rfl⟩)
    | (obtain ⟨ks, _, rfl⟩ := hk; exact ⟨_, by assumption, rfl⟩)

set_option maxHeartbeats 2000000 in
theorem eqAV_run {k : EqK} {t : TypeId} (hk : eqKind S.P t = some k) {x y : Operand} {a b : AV} {u v : Value} (ha : VR S.errT eb φ a u) (hb : VR S.errT eb φ b v) {r : Prop × Bool}
    (h : eqAV k (isConst x || isConst y) a b = some r) (hr : r.1) : EqRun S w t x y u v r.2 := by
  have hd : 8 ≤ S.P.depth := by simp only [Program.depth, Made.depth]; omega
  obtain ⟨td, hu, hkd⟩ := eqKind_is hk
  have flat : ∀ ks, k = .flat ks → flatT S.P 8 t = some ks := by
    intro ks hks
    subst hks
    unfold eqKind at hk
    split at hk <;> (try (simp at hk; done)) <;> (try (split at hk <;> simp at hk; done)) <;> simp at hk <;> exact hk
  cases ha <;> cases hb <;> simp only [eqAV, reduceCtorEq] at h
  case agg.agg cs us h1 g1 ds vs h2 g2 =>
    split at h
    · rename_i ks
      simp only [Option.map_eq_some_iff] at h
      obtain ⟨b, hb, rfl⟩ := h
      have hf := flat ks rfl
      have hv := eqFlatV_of hb h1 h2
      have key := run_equal_flat (P := S.P) (w := w) 8 t ks hf 10000 (by omega) _ _ _ hv
      have hg := flat_guard (P := S.P) 8 t ks hf S.P.depth hd
      have hag : isAggT S.P t = true := by
        cases td <;> simp [isKind] at hkd <;> simp [isAggT, hu]
      simp only [toV, hag, if_true, Array.toArray_toList] at key
      refine ⟨?_, ?_, fun op => eqGuard_agg op t x y _ _ hg⟩
      · show ((Op.equalIn 10000 t _ _ >>= fun b => pure (Value.bool b)) : Sem Value).run S.P w = _
        rw [Sem.run_bind, key]; rfl
      · show ((Op.equalIn 10000 t _ _ >>= fun b => pure (Value.bool !b)) : Sem Value).run S.P w = _
        rw [Sem.run_bind, key]; rfl
    · cases h
  case nili.nili =>
    split at h <;> simp only [Option.some.injEq, reduceCtorEq] at h
    rename_i hc
    subst h
    obtain ⟨rfl, hc⟩ := hc
    cases td <;> simp only [isKind, Bool.false_eq_true] at hkd
    exact .of (fun D => by simp [Op.equalIn, run_underlying hu]) rfl rfl fun op => eqGuard_nil op t x y hc
  all_goals
    split at h <;> simp only [Option.some.injEq, reduceCtorEq] at h
    rename_i hq
    subst hq
    subst h
    cases td <;> simp only [isKind, Bool.false_eq_true] at hkd
    first
      | exact absurd rfl hr
      | exact .of (fun D => by simp [Op.equalIn, run_underlying hu]) rfl rfl fun op => eqGuard_other op t x y _ _ (by simp) (by simp)

theorem eq_ok {op : BinOp} {neg : Bool} (hop : op = bif neg then .neq else .eql) {k : EqK} {t t' : TypeId} (hk : eqKind S.P t = some k) {x y : Operand} {cx cy : Opd} (hx : cOpd x = some cx) (hy : cOpd y = some cy) (hρ : Rho S eb φ ρ f) (hM : MR S.errT eb φ M own w)
    (hs : bstep fresh M (.eq neg k (isConst x || isConst y) (f cx) (f cy)) = some (p, e)) (hp : p) (ho : o.op = .binOp op t x y t') : OpRes S eb φ own M fresh w e ((execOp ρ o).run S.P w) := by
  have vx := hρ x cx hx
  have vy := hρ y cy hy
  have fin : ∀ (r : Bool) (foot : List Nat), EqRun S w t x y (ρ x) (ρ y) r → OpRes S eb φ own M fresh w { val := .bool (bif neg then !r else r), foot := foot } ((execOp ρ o).run S.P w) := by
    intro r foot h
    obtain ⟨h1, h2, h3⟩ := h
    refine .quiet hM (u := .bool (bif neg then !r else r)) ?_ (.bool _)
    cases neg
    · simp only [cond_false] at hop ⊢
      subst hop
      simp [execOp, ho, h1, h3]
    · simp only [cond_true] at hop ⊢
      subst hop
      simp [execOp, ho, h2, h3]
  simp only [bstep] at hs
  split at hs
  · rename_i r hr
    simp only [Option.some.injEq, Prod.mk.injEq] at hs
    obtain ⟨rfl, rfl⟩ := hs
    exact fin _ _ (eqAV_run hk vx vy hr hp)
  · split at hs
    · rename_i i a s j b s' h1 h2
      split at hs
      · rename_i ro kk es hrow
        split at hs
        · rename_i hc
          obtain ⟨rfl, rfl⟩ := hc
          simp only [Option.some.injEq, Prod.mk.injEq] at hs
          obtain ⟨rfl, rfl⟩ := hs
          obtain ⟨hkk, rfl, rfl⟩ := hp
          rw [h1] at vx
          rw [h2] at vy
          refine fin (a == b) [i] ?_
          cases hu : ρ x <;> rw [hu] at vx <;> cases vx
          cases hv : ρ y <;> rw [hv] at vy <;> cases vy
          obtain ⟨td, hut, hkd⟩ := eqKind_is hk
          cases td <;> simp only [isKind, Bool.false_eq_true] at hkd
          rename_i hdom _ elem
          have hrk : φ.k i = kk := by
            unfold rowAt at hrow
            split at hrow <;> simp only [Option.some.injEq, Prod.mk.injEq, reduceCtorEq] at hrow
            rename_i ro' kk' es' hM'
            obtain ⟨o', ho', hb⟩ := hM.blk i _ hM'
            obtain ⟨arr, et, fr, _, hk', _⟩ := hb
            rw [hk']; exact hrow.2.1
          have hsz : ∃ i, S.P.info? elem = some i ∧ i.size ≠ 0 := by
            unfold eqKind at hk
            simp only [hut] at hk
            split at hk
            · cases hk
            · rename_i hne
              unfold Program.cellsOf at hne
              cases hi : S.P.info? elem with
              | none => simp [hi] at hne
              | some i => exact ⟨i, rfl, by simpa [hi] using hne⟩
          obtain ⟨inf, hinf, hnz⟩ := hsz
          have hab : (φ.base i + a * φ.k i + 0 = φ.base i + b * φ.k i + 0) ↔ a = b := by
            constructor
            · intro h
              have : a * φ.k i = b * φ.k i := by omega
              exact Nat.eq_of_mul_eq_mul_right (by omega) this
            · intro h; rw [h]
          refine .of (fun D => ?_) rfl rfl fun op => eqGuard_other op t x y _ _ (by simp) (by simp)
          simp only [Op.equalIn, Sem.run_bind, run_underlying hut, Result.andThen_ok, Go.sizeOf, typeInfo, run_program, hinf, Sem.run_pure, ne_eq, hnz, not_false_eq_true, if_true]
          have hsame : ∀ (B o1 o2 : Nat), (sameAddr ⟨B, o1, none⟩ ⟨B, o2, none⟩).run S.P w = .ok (o1 == o2) w := by
            intro B o1 o2
            simp only [sameAddr, beq_self_eq_true, if_true, Sem.run_pure]
            congr 1
            rw [Bool.eq_iff_iff]
            simp
          rw [hsame]
          congr 1
          rw [Bool.eq_iff_iff]
          simp only [beq_iff_eq]
          exact hab
        · cases hs
      · cases hs
    · cases hs

end AH
