import Derived.Test.YtdjcpmdjodhfeaaDoorAHMem
import Derived.Test.YtdjcpmdjodhfeaaDoorAHComp
/-
AH: each operation of the model does what its step says. Part 1: operations that leave the memory alone.
-/
namespace AH
open Go
variable {S : Sys} {eb : Nat → Addr} {φ : Emb} {M : Nat → Option Blk} {own : Nat → Prop} {w : World} {ρ : Operand → Value} {f : Opd → AV} {o : Oper} {fresh : Nat} {p : Prop} {e : Eff}

def OpRes (S : Sys) (eb : Nat → Addr) (φ : Emb) (own : Nat → Prop) (M : Nat → Option Blk) (fresh : Nat) (w : World) (e : Eff) (r : Result Next) : Prop :=
  ∃ u φ' w', (r = .ok (.value u) w' ∨ (r = .ok .skip w' ∧ u = undef)) ∧ VR S.errT eb φ' e.val u ∧ MR S.errT eb φ' (applyF M e.wr) own w' ∧ StepK own w w' ∧ φ.Ext φ' ∧
    ∀ id, φ'.dom id → φ.dom id ∨ (id = fresh ∧ fresh ∈ e.wr.map Prod.fst)

theorem OpRes.quiet (hM : MR S.errT eb φ M own w) {u : Value} {v : AV} {foot : List Nat} {r : Result Next} (hr : r = .ok (.value u) w) (hv : VR S.errT eb φ v u) :
    OpRes S eb φ own M fresh w { val := v, foot := foot } r :=
  ⟨u, φ, w, .inl hr, hv, hM, .refl, .refl φ, fun _ h => .inl h⟩

/-- What operands come to. -/
abbrev Rho (S : Sys) (eb : Nat → Addr) (φ : Emb) (ρ : Operand → Value) (f : Opd → AV) : Prop := ∀ x cx, cOpd x = some cx → VR S.errT eb φ (f cx) (ρ x)

theorem mov_ok {x : Operand} {cx : Opd} (hx : cOpd x = some cx) (hρ : Rho S eb φ ρ f) (hM : MR S.errT eb φ M own w)
    (hs : bstep fresh M (.mov (f cx)) = some (p, e)) : OpRes S eb φ own M fresh w e (.ok (.value (ρ x)) w) := by
  simp [bstep, pureE] at hs
  obtain ⟨_, rfl⟩ := hs
  exact .quiet hM rfl (hρ x cx hx)

theorem pick_ok {c a b : Operand} {cc ca cb : Opd} (hc : cOpd c = some cc) (ha : cOpd a = some ca) (hb : cOpd b = some cb) (hρ : Rho S eb φ ρ f) (hM : MR S.errT eb φ M own w)
    (hs : bstep fresh M (.pick (f cc) (f ca) (f cb)) = some (p, e)) (ho : o.op = .pick c a b) : OpRes S eb φ own M fresh w e ((execOp ρ o).run S.P w) := by
  have vc := hρ c cc hc
  simp only [bstep] at hs
  split at hs
  · rename_i t ht
    rw [ht] at vc
    simp [pureE] at hs
    obtain ⟨_, rfl⟩ := hs
    cases hv : ρ c <;> rw [hv] at vc <;> cases vc
    refine .quiet hM (u := if t then ρ a else ρ b) (by simp [execOp, ho, hv, asBool]) ?_
    cases t
    · exact hρ b cb hb
    · exact hρ a ca ha
  · simp at hs

theorem bin_int {op : BinOp} {k k' : IntKind} {a b : Int} {r : Prop × AV} (h : binAV op (.int k a) (.int k' b) = some r) (hr : r.1) (t : TypeId) :
    ∃ u, (binOp op t (.int k a) (.int k' b)).run S.P w = .ok u w ∧ VR S.errT eb φ r.2 u := by
  simp only [binAV] at h
  cases op <;> simp only at h
  case shl | shr =>
    simp [intOp] at h
    subst h
    simp only at hr
    refine ⟨_, ?_, .int _ _⟩
    simp [binOp, Op.shift, show ¬ b < 0 by omega]
  all_goals
    split at h
    · rename_i hk
      subst hk
      simp [intOp] at h
      subst h
      simp only at hr
      refine ⟨_, by simp [binOp, Op.intArith, Op.intDiv, Op.intBits, Op.intCmp, hr]; rfl, by constructor⟩
    · simp at h

theorem bin_str {op : BinOp} {a b : ByteArray} {r : Prop × AV} (h : binAV op (.str a) (.str b) = some r) (hr : r.1) (t : TypeId) :
    ∃ u, (binOp op t (.string a) (.string b)).run S.P w = .ok u w ∧ VR S.errT eb φ r.2 u := by
  simp only [binAV] at h
  cases op <;> simp only [strOp, Option.some.injEq, reduceCtorEq] at h <;> subst h <;> simp only at hr
  case add =>
    refine ⟨.string (a ++ b), ?_, .str _⟩
    have : ¬ ((a.size + b.size : Nat) : Int) > IntKind.i64.max := by omega
    simp only [binOp, Op.stringOp, this, if_false]
    rfl
  all_goals refine ⟨_, by simp only [binOp, Op.stringOp]; rfl, by constructor⟩

theorem ibin_ok {op : BinOp} {t t' : TypeId} {x y : Operand} {cx cy : Opd} (hx : cOpd x = some cx) (hy : cOpd y = some cy) (hρ : Rho S eb φ ρ f) (hM : MR S.errT eb φ M own w)
    (hs : bstep fresh M (.ibin op (f cx) (f cy)) = some (p, e)) (hp : p) (ho : o.op = .binOp op t x y t') : OpRes S eb φ own M fresh w e ((execOp ρ o).run S.P w) := by
  have vx := hρ x cx hx
  have vy := hρ y cy hy
  simp only [bstep, Option.map_eq_some_iff] at hs
  obtain ⟨r, hr, hs⟩ := hs
  simp only [Prod.mk.injEq] at hs
  obtain ⟨rfl, rfl⟩ := hs
  have key : ∃ u, (binOp op t (ρ x) (ρ y)).run S.P w = .ok u w ∧ VR S.errT eb φ r.2 u ∧ (eqGuard op t x y (ρ x) (ρ y)).run S.P w = .ok () w := by
    generalize f cx = ax at *
    generalize f cy = ay at *
    cases ax <;> cases ay <;> simp [binAV] at hr
    case int k a k' b =>
      have hr' : binAV op (.int k a) (.int k' b) = some r := by simpa [binAV] using hr
      cases hv : ρ x <;> rw [hv] at vx <;> cases vx
      cases hv' : ρ y <;> rw [hv'] at vy <;> cases vy
      obtain ⟨u, h1, h2⟩ := bin_int (S := S) (eb := eb) (φ := φ) (w := w) hr' hp t
      exact ⟨u, h1, h2, by simp [eqGuard]⟩
    case str a b =>
      have hr' : binAV op (.str a) (.str b) = some r := by simpa [binAV] using hr
      cases hv : ρ x <;> rw [hv] at vx <;> cases vx
      cases hv' : ρ y <;> rw [hv'] at vy <;> cases vy
      obtain ⟨u, h1, h2⟩ := bin_str (S := S) (eb := eb) (φ := φ) (w := w) hr' hp t
      exact ⟨u, h1, h2, by simp [eqGuard]⟩
  obtain ⟨u, h1, h2, h3⟩ := key
  exact .quiet hM (u := u) (by simp [execOp, ho, h1, h3]) h2

theorem un_ok {op : UnOp} {t : TypeId} {x : Operand} {cx : Opd} (hx : cOpd x = some cx) (hρ : Rho S eb φ ρ f) (hM : MR S.errT eb φ M own w)
    (hs : bstep fresh M (.un op (f cx)) = some (p, e)) (ho : o.op = .unOp op t x) : OpRes S eb φ own M fresh w e ((execOp ρ o).run S.P w) := by
  have vx := hρ x cx hx
  simp only [bstep, Option.map_eq_some_iff, Prod.mk.injEq] at hs
  obtain ⟨v, hv, _, rfl⟩ := hs
  generalize f cx = ax at *
  cases ax <;> simp only [unAV, reduceCtorEq] at hv
  case bool b =>
    split at hv
    · rename_i hop
      subst hop
      simp only [Option.some.injEq] at hv
      subst hv
      cases hv : ρ x <;> rw [hv] at vx <;> cases vx
      exact .quiet hM (u := .bool !b) (by simp [execOp, ho, hv, Op.unary]) (.bool _)
    · cases hv
  case int k n =>
    cases hq : ρ x <;> rw [hq] at vx <;> cases vx
    cases op <;> simp only [Option.some.injEq, reduceCtorEq] at hv <;> subst hv
    · exact .quiet hM (u := .int k (k.wrap (0 - n))) (by simp [execOp, ho, hq, Op.unary, Op.intArith]) (.int _ _)
    · refine .quiet hM ?_ (.int _ _)
      simp only [execOp, ho, hq, Op.unary, Op.intBits, Sem.run_bind, Sem.run_pure, Result.andThen_ok]

theorem i2i_ok {s d : TypeId} {k0 k : IntKind} (_h1 : S.P.underlying s = some (.int k0)) (h2 : S.P.underlying d = some (.int k)) {x : Operand} {cx : Opd} (hx : cOpd x = some cx) (hρ : Rho S eb φ ρ f) (hM : MR S.errT eb φ M own w)
    (hs : bstep fresh M (.i2i k (f cx)) = some (p, e)) (ho : o.op = .convert s d x) : OpRes S eb φ own M fresh w e ((execOp ρ o).run S.P w) := by
  have vx := hρ x cx hx
  simp only [bstep] at hs
  split at hs
  · rename_i k' n hn
    rw [hn] at vx
    simp [pureE] at hs
    obtain ⟨_, rfl⟩ := hs
    cases hv : ρ x <;> rw [hv] at vx <;> cases vx
    refine .quiet hM (u := .int k (k.wrap n)) ?_ (.int _ _)
    simp [execOp, ho, hv, convert, underlying, _h1, h2, Conv.intToInt]
  · simp at hs

end AH
