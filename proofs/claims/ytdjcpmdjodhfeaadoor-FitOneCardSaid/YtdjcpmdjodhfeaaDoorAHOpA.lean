import Derived.Test.YtdjcpmdjodhfeaaDoorAHOp9
set_option linter.unusedSimpArgs false
namespace AH
open Go
variable {S : Sys} {eb : Nat → Addr} {φ : Emb} {M : Nat → Option Blk} {own : Nat → Prop} {w : World} {ρ : Operand → Value} {f : Opd → AV} {o : Oper} {fresh : Nat} {p : Prop} {e : Eff}
variable {T : TypeId}

theorem check_fields {d D : Nat} {em : Bool} (ih : ∀ t ks, flatT S.P d t = some ks → ∀ (xs : List Value), xs.length = ks.length → (Instr.checkKey em D t (toV S.P t xs)).run S.P w = .ok () w) (xs : List Value) :
    ∀ (fs : List Field) (off : Nat) (ks : List SK), flatFs (flatT S.P d) fs off = some ks → xs.length = off + ks.length →
      (forIn fs PUnit.unit fun fl _ => (do
        if fl.name ≠ "_" then
          Instr.checkKey em D fl.type (← Go.part fl.type xs.toArray fl.offset)
          pure (ForInStep.yield PUnit.unit)
        else pure (ForInStep.yield PUnit.unit) : Sem (ForInStep PUnit))).run S.P w = .ok PUnit.unit w
  | [], off, ks, h, hl => by simp
  | fl :: r, off, ks, h, hl => by
    simp only [flatFs] at h
    split at h
    · cases h
    rename_i hn
    simp only [not_or, Decidable.not_not] at hn
    obtain ⟨hn1, rfl⟩ := hn
    split at h
    · rename_i k1 hk1
      split at h
      · cases h
      rename_i hnz
      simp only [Option.map_eq_some_iff] at h
      obtain ⟨k2, hk2, rfl⟩ := h
      obtain ⟨td, hu⟩ := flatT_under hk1
      have hsz := flatT_size hk1
      simp only [List.length_append] at hl
      have p1 := run_part (P := S.P) (w := w) fl.type hu (info_of_underlying hu) xs fl.offset (by rw [hsz]; omega)
      rw [hsz] at p1
      have q := ih _ _ hk1 ((xs.drop fl.offset).take k1.length) (by simp; omega)
      have rest := check_fields ih xs r _ _ hk2 (by omega)
      simp only [List.forIn_cons, Sem.run_bind, hn1, ne_eq, not_false_eq_true, if_true, p1, q, Result.andThen_ok, Sem.run_pure]
      exact rest
    · cases h

theorem checkKey_flat (em : Bool) : ∀ (d : Nat) (t : TypeId) (ks : List SK), flatT S.P d t = some ks → ∀ (D : Nat), d ≤ D → ∀ (xs : List Value), xs.length = ks.length →
    (Instr.checkKey em D t (toV S.P t xs)).run S.P w = .ok () w
  | 0, _, _, h, _, _, _, _ => by simp [flatT] at h
  | d + 1, t, ks, h, D, hD, xs, hl => by
    obtain ⟨D, rfl⟩ : ∃ m, D = m + 1 := ⟨D - 1, by omega⟩
    have ih := fun t ks h => checkKey_flat em d t ks h D (by omega)
    have hh := h
    simp only [flatT] at h
    split at h <;> (try (cases h; done))
    · rename_i hu
      rw [Instr.checkKey]
      simp [run_underlying hu]
    · rename_i i hu
      rw [Instr.checkKey]
      simp [run_underlying hu]
    · rename_i hu
      rw [Instr.checkKey]
      simp [run_underlying hu]
    · rename_i fs hu
      split at h
      · cases h
      split at h
      · rename_i k1 hk1
        split at h
        · simp only [Option.some.injEq] at h
          subst h
          rw [show toV S.P t xs = .agg xs.toArray by simp [toV, isAggT, hu], Instr.checkKey]
          simp only [Sem.run_bind, run_underlying hu, Result.andThen_ok]
          rw [← Array.forIn_toList]
          have := check_fields ih xs fs.toList 0 k1 hk1 (by omega)
          simp at this ⊢
          rw [this]
          rfl
        · cases h
      · cases h
    · rename_i n el hu
      split at h
      · rename_i k1 hk1
        split at h
        · rename_i hc
          simp only [Option.some.injEq] at h
          subst h
          rw [show toV S.P t xs = .agg xs.toArray by simp [toV, isAggT, hu], Instr.checkKey]
          simp only [Sem.run_bind, run_underlying hu, Result.andThen_ok]
          simp only [Std.Legacy.Range.forIn_eq_forIn_range', Std.Legacy.Range.size, Nat.sub_zero, Nat.add_one_sub_one, Nat.div_one]
          obtain ⟨td, hue⟩ := flatT_under hk1
          obtain ⟨i, hi⟩ := Option.isSome_iff_exists.1 (info_of_underlying hue)
          have hsi : i.size = k1.length := by have := hc.1; simpa [Program.cellsOf, hi] using this
          have hsz := flatT_size hk1
          simp only [List.length_flatten, List.map_replicate, List.sum_replicate_nat] at hl
          have key : ∀ is : List Nat, (∀ j ∈ is, j < n) → (forIn is PUnit.unit fun i _ => (do
              Instr.checkKey em D el (← Go.part el xs.toArray (i * (← Go.sizeOf el)))
              pure (ForInStep.yield PUnit.unit) : Sem (ForInStep PUnit))).run S.P w = .ok PUnit.unit w := by
            intro is
            induction is with
            | nil => intro _; simp
            | cons j is ihs =>
              intro hj
              have hjn := hj j (by simp)
              have hb : (j + 1) * k1.length ≤ n * k1.length := Nat.mul_le_mul_right _ (by omega)
              rw [Nat.add_mul, Nat.one_mul] at hb
              have p1 := run_part (P := S.P) (w := w) el hue (info_of_underlying hue) xs (j * k1.length) (by rw [hsz]; omega)
              rw [hsz] at p1
              have q := ih _ _ hk1 ((xs.drop (j * k1.length)).take k1.length) (by simp; omega)
              simp only [List.forIn_cons, Sem.run_bind, sizeOf_run hi, Result.andThen_ok, hc.1, p1, q, Sem.run_pure]
              exact ihs fun y hy => hj y (by simp [hy])
          have := key (List.range' 0 n) (by intro j hj; simpa using hj)
          simp at this ⊢
          rw [this]
          rfl
        · cases h
      · cases h

theorem checkKey_run (em : Bool) {kt : TypeId} {kk : KK} (hk : keyT S.P kt = some kk) {k : AV} {x : Value} (hx : VR T eb φ k x) (h : keyIs kk k = true) : (Instr.checkKey em 10000 kt x).run S.P w = .ok () w := by
  cases kk with
  | sc q =>
    unfold keyT at hk
    split at hk <;> simp only [Option.some.injEq, reduceCtorEq, Option.map_eq_some_iff, and_false, exists_false] at hk
    all_goals
      rename_i hu
      rw [Instr.checkKey]
      simp [run_underlying hu]
  | fl ks =>
    obtain ⟨h1, h2⟩ := keyT_flat hk
    cases k <;> simp only [keyIs, Bool.false_eq_true, beq_iff_eq] at h
    cases hx
    rename_i us _ hv
    have := checkKey_flat (S := S) (w := w) em 8 kt ks h1 10000 (by omega) us.toList (by rw [← hv.length, h])
    simpa [toV, h2] using this

/-- A map of one's own turns. -/
theorem map_turn (hM : MR S.errT eb φ M own w) {id : Nat} {es : List (AV × AV × Nat)} {c : Nat} (hm : M id = some (.map es c)) {es' : List (AV × AV × Nat)} {c' : Nat} {us' : Array MapEntry} (hr : ER S.errT eb φ es' us'.toList) :
    MR S.errT eb φ (applyF M [(id, some (.map es' c'))]) own { w with heap := w.heap.setIfInBounds (φ.blk id) (.map us' c') } ∧ StepK own w { w with heap := w.heap.setIfInBounds (φ.blk id) (.map us' c') } := by
  obtain ⟨us, hw, _⟩ := hM.map hm
  have ho : own (φ.blk id) := hM.own id _ hm trivial
  obtain ⟨g1, g2⟩ := MapKept.heap_set (o' := .map us' c') hw
  refine ⟨?_, rfl, rfl, rfl, by simp, fun b hb hn => g2 b (fun q => hn (q ▸ ho))⟩
  exact MR.turn hM (n := id) hm trivial (o' := .map us' c') g1 g2 (show ∃ us, Obj.map us' c' = .map us c' ∧ ER S.errT eb φ es' us.toList from ⟨us', rfl, hr⟩)

theorem map_eff (hM : MR S.errT eb φ M own w) {id : Nat} {es : List (AV × AV × Nat)} {c : Nat} (hm : M id = some (.map es c)) {es' : List (AV × AV × Nat)} {c' : Nat} {us' : Array MapEntry} (hr : ER S.errT eb φ es' us'.toList) {v : AV} {u : Value} (hv : VR S.errT eb φ v u) {r : Result Next}
    (hres : r = .ok (.value u) { w with heap := w.heap.setIfInBounds (φ.blk id) (.map us' c') } ∨ (r = .ok .skip { w with heap := w.heap.setIfInBounds (φ.blk id) (.map us' c') } ∧ u = undef)) {foot : List Nat} : OpRes S eb φ own M fresh w { val := v, foot := foot, wr := [(id, some (.map es' c'))] } r := by
  obtain ⟨h1, h2⟩ := map_turn hM hm (c' := c') hr
  exact ⟨u, φ, _, hres, hv, h1, h2, .refl φ, fun _ h => .inl h⟩

theorem mapAt_some {id : Nat} {r : List (AV × AV × Nat) × Nat} (h : mapAt M id = some r) : M id = some (.map r.1 r.2) := by
  unfold mapAt at h
  split at h
  · rename_i h'; cases h; exact h'
  · cases h

theorem vr_undef {u : Value} : VR S.errT eb φ .undef u := .undef u
theorem vr_unit : VR S.errT eb φ (.tup []) (.tuple #[]) := .tup [] #[] .nil

theorem pairR (ok : Bool) {a : AV} {u : Value} (b : Bool) (h : VR S.errT eb φ a u) : VR S.errT eb φ (match ok with | true => AV.tup [a, .bool b] | false => a) (if ok then .tuple #[u, .bool b] else u) := by
  cases ok
  · exact h
  · exact .tup _ _ (.cons _ _ _ _ h (.cons _ _ _ _ (.bool b) .nil))

theorem lookup_ok {t kt el : TypeId} {kk : KK} {z : AV} (ht : S.P.underlying t = some (.map kt el)) (hk : keyT S.P kt = some kk) (hz : zeroAV S.P el = some z) {x k : Operand} {cx ck : Opd} {ok : Bool} (hx : cOpd x = some cx) (hc : cOpd k = some ck) (hρ : Rho S eb φ ρ f)
    (hM : MR S.errT eb φ M own w) (hs : bstep fresh M (.lookup kk z (f cx) (f ck) ok) = some (p, e)) (hp : p) (ho : o.op = .lookup t x k ok) : OpRes S eb φ own M fresh w e ((execOp ρ o).run S.P w) := by
  have vx := hρ x cx hx
  have vk := hρ k ck hc
  obtain ⟨zv, hzr, hzv⟩ := zeroAV_run (S := S) (eb := eb) (φ := φ) (w := w) hz
  simp only [bstep] at hs
  split at hs
  · rename_i e1
    rw [e1] at vx
    have hvx := nilm_inv vx
    simp only [Option.some.injEq, Prod.mk.injEq] at hs
    obtain ⟨rfl, rfl⟩ := hs
    refine .quiet hM (u := if ok then .tuple #[zv, .bool false] else zv) ?_ (pairR ok false hzv)
    have hck := checkKey_run (S := S) (w := w) true hk vk hp
    have hfk := findKey_run (S := S) (w := w) hk (k := ρ k) (us := []) (r := none) rfl
    simp only [execOp, ho, hvx, Instr.lookup, Sem.run_bind, run_underlying ht, Result.andThen_ok, Sem.run_pure]
    simp [hck, hfk, hzr]
  · rename_i id e1
    rw [e1] at vx
    obtain ⟨hd, hvx⟩ := map_inv vx
    split at hs
    · rename_i es c hm
      have hm' := mapAt_some hm
      obtain ⟨us, hw, hr⟩ := hM.map hm'
      split at hs
      · rename_i i v s hf
        simp only [Option.some.injEq, Prod.mk.injEq] at hs
        obtain ⟨rfl, rfl⟩ := hs
        have hck := checkKey_run (S := S) (w := w) us.isEmpty hk vk hp
        rcases findK_run vk hr hf with ⟨a1, _⟩ | ⟨j, v', s', y, a1, a2, a3, _⟩
        · cases a1
        · cases a1
          have hfk := findKey_run (S := S) (w := w) hk a2
          refine .quiet hM (u := if ok then .tuple #[y, .bool true] else y) ?_ (pairR ok true a3)
          simp only [execOp, ho, hvx, Instr.lookup, Sem.run_bind, run_underlying ht, Result.andThen_ok, run_getObj_map hw, Sem.run_pure, hck, hfk]
      · rename_i hf
        simp only [Option.some.injEq, Prod.mk.injEq] at hs
        obtain ⟨rfl, rfl⟩ := hs
        have hck := checkKey_run (S := S) (w := w) us.isEmpty hk vk hp
        rcases findK_run vk hr hf with ⟨_, a2⟩ | ⟨j, v', s', y, a1, _⟩
        · have hfk := findKey_run (S := S) (w := w) hk a2
          refine .quiet hM (u := if ok then .tuple #[zv, .bool false] else zv) ?_ (pairR ok false hzv)
          simp only [execOp, ho, hvx, Instr.lookup, Sem.run_bind, run_underlying ht, Result.andThen_ok, run_getObj_map hw, Sem.run_pure, hck, hfk, hzr]
        · cases a1
      · cases hs
    · cases hs
  · cases hs

theorem mapupd_ok {t kt el : TypeId} {kk : KK} (ht : S.P.underlying t = some (.map kt el)) (hk : keyT S.P kt = some kk) {x k v : Operand} {cx ck cv : Opd} (hx : cOpd x = some cx) (hc : cOpd k = some ck) (hv : cOpd v = some cv) (hρ : Rho S eb φ ρ f)
    (hM : MR S.errT eb φ M own w) (hs : bstep fresh M (.mapupd kk (f cx) (f ck) (f cv)) = some (p, e)) (hp : p) (ho : o.op = .mapUpdate t x k v ∨ o.op = .insert t x k v) : OpRes S eb φ own M fresh w e ((execOp ρ o).run S.P w) := by
  have vx := hρ x cx hx
  have vk := hρ k ck hc
  have vv := hρ v cv hv
  have hex : execOp ρ o = (do Instr.mapUpdate t (ρ x) (ρ k) (ρ v); pure .skip) := by
    rcases ho with h | h <;> simp only [execOp, h]
  rw [hex]
  simp only [bstep] at hs
  split at hs
  · rename_i id e1
    rw [e1] at vx
    obtain ⟨hd, hvx⟩ := map_inv vx
    split at hs
    · rename_i es c hm
      have hm' := mapAt_some hm
      obtain ⟨us, hw, hr⟩ := hM.map hm'
      split at hs
      · rename_i i v0 s hf
        simp only [Option.some.injEq, Prod.mk.injEq] at hs
        obtain ⟨rfl, rfl⟩ := hs
        have hck := checkKey_run (S := S) (w := w) false hk vk hp
        rcases findK_run vk hr hf with ⟨a1, _⟩ | ⟨j, v', s', y, a1, a2, a3, k', x', a4, a5, a6⟩
        · cases a1
        · simp only [Option.some.injEq, Prod.mk.injEq, Nat.zero_add] at a1
          obtain ⟨rfl, rfl, rfl⟩ := a1
          rw [Nat.zero_add] at a2
          have hfk := findKey_run (S := S) (w := w) hk a2
          have a5' : us[i]? = some { key := x', val := y, born := s } := by simpa using a5
          have hst := keyThatStays_run (S := S) (w := w) a6
          refine map_eff hM hm' (us' := us.modify i fun e => { e with key := ρ k, val := ρ v }) ?_ vr_unit (.inr ⟨?_, rfl⟩)
          · rw [Array.toList_modify, modify_set _ _ _ _ a5]
            exact hr.set i _ _ _ _ _ vk vv
          · simp only [hvx, Instr.mapUpdate, Sem.run_bind, run_underlying ht, Result.andThen_ok, run_getObj_map hw, hck, hfk, a5', Option.map_some, Option.getD_some, hst, MapKept.run_setObj_map _ hw, Sem.run_pure]
      · rename_i hf
        simp only [Option.some.injEq, Prod.mk.injEq] at hs
        obtain ⟨rfl, rfl⟩ := hs
        have hck := checkKey_run (S := S) (w := w) false hk vk hp
        rcases findK_run vk hr hf with ⟨_, a2⟩ | ⟨j, v', s', y, a1, _⟩
        · have hfk := findKey_run (S := S) (w := w) hk a2
          refine map_eff hM hm' (us' := us.push { key := ρ k, val := ρ v, born := c }) ?_ vr_unit (.inr ⟨?_, rfl⟩)
          · rw [Array.toList_push]
            exact hr.append (.cons _ _ _ _ _ _ _ vk vv .nil)
          · simp only [hvx, Instr.mapUpdate, Sem.run_bind, run_underlying ht, Result.andThen_ok, run_getObj_map hw, hck, hfk, MapKept.run_setObj_map _ hw, Sem.run_pure]
        · cases a1
      · cases hs
    · cases hs
  · cases hs

theorem mentry_ok {t kt el : TypeId} {kk : KK} {z : AV} (ht : S.P.underlying t = some (.map kt el)) (hk : keyT S.P kt = some kk) (hz : zeroAV S.P el = some z) {x k : Operand} {cx ck : Opd} (hx : cOpd x = some cx) (hc : cOpd k = some ck) (hρ : Rho S eb φ ρ f)
    (hM : MR S.errT eb φ M own w) (hs : bstep fresh M (.mentry kk z (f cx) (f ck)) = some (p, e)) (hp : p) (ho : o.op = .mapEntry t x k) : OpRes S eb φ own M fresh w e ((execOp ρ o).run S.P w) := by
  have vx := hρ x cx hx
  have vk := hρ k ck hc
  obtain ⟨zv, hzr, hzv⟩ := zeroAV_run (S := S) (eb := eb) (φ := φ) (w := w) hz
  have hex : execOp ρ o = (do pure (.value (← Instr.mapEntry t (ρ x) (ρ k)))) := by simp only [execOp, ho]
  rw [hex]
  simp only [bstep] at hs
  split at hs
  · rename_i id e1
    rw [e1] at vx
    obtain ⟨hd, hvx⟩ := map_inv vx
    split at hs
    · rename_i es c hm
      have hm' := mapAt_some hm
      obtain ⟨us, hw, hr⟩ := hM.map hm'
      split at hs
      · rename_i i v0 s hf
        simp only [Option.some.injEq, Prod.mk.injEq] at hs
        obtain ⟨rfl, rfl⟩ := hs
        have hck := checkKey_run (S := S) (w := w) false hk vk hp
        rcases findK_run vk hr hf with ⟨a1, _⟩ | ⟨j, v', s', y, a1, a2, a3, k', x', a4, a5, a6⟩
        · cases a1
        · simp only [Option.some.injEq, Prod.mk.injEq, Nat.zero_add] at a1
          obtain ⟨rfl, rfl, rfl⟩ := a1
          rw [Nat.zero_add] at a2
          have hfk := findKey_run (S := S) (w := w) hk a2
          have a5' : us[i]? = some { key := x', val := y, born := s } := by simpa using a5
          have hst := keyThatStays_run (S := S) (w := w) a6
          refine map_eff hM hm' (us' := us.modify i fun e => { e with key := ρ k }) (u := .tuple #[y, goInt s]) ?_ (.tup _ _ (.cons _ _ _ _ a3 (.cons _ _ _ _ (.int _ _) .nil))) (.inl ?_)
          · rw [Array.toList_modify, modify_set _ _ _ _ a5]
            exact hr.set i _ _ _ _ _ vk a3
          · simp only [hvx, Instr.mapEntry, Sem.run_bind, run_underlying ht, Result.andThen_ok, run_getObj_map hw, hck, hfk, a5', Option.map_some, Option.getD_some, hst, MapKept.run_setObj_map _ hw, Sem.run_pure]
      · rename_i hf
        simp only [Option.some.injEq, Prod.mk.injEq] at hs
        obtain ⟨rfl, rfl⟩ := hs
        have hck := checkKey_run (S := S) (w := w) false hk vk hp
        rcases findK_run vk hr hf with ⟨_, a2⟩ | ⟨j, v', s', y, a1, _⟩
        · have hfk := findKey_run (S := S) (w := w) hk a2
          refine map_eff hM hm' (us' := us.push { key := ρ k, val := zv, born := c }) (u := .tuple #[zv, goInt c]) ?_ (.tup _ _ (.cons _ _ _ _ hzv (.cons _ _ _ _ (.int _ _) .nil))) (.inl ?_)
          · rw [Array.toList_push]
            exact hr.append (.cons _ _ _ _ _ _ _ vk hzv .nil)
          · simp only [hvx, Instr.mapEntry, Sem.run_bind, run_underlying ht, Result.andThen_ok, run_getObj_map hw, hck, hfk, hzr, MapKept.run_setObj_map _ hw, Sem.run_pure]
        · cases a1
      · cases hs
    · cases hs
  · cases hs

theorem estore_ok {t : TypeId} {x s v : Operand} {cx cs cv : Opd} (hx : cOpd x = some cx) (hc : cOpd s = some cs) (hv : cOpd v = some cv) (hρ : Rho S eb φ ρ f)
    (hM : MR S.errT eb φ M own w) (hs : bstep fresh M (.estore (f cx) (f cs) (f cv)) = some (p, e)) (ho : o.op = .entryStore t x s v) : OpRes S eb φ own M fresh w e ((execOp ρ o).run S.P w) := by
  have vx := hρ x cx hx
  have vs := hρ s cs hc
  have vv := hρ v cv hv
  have hex : execOp ρ o = (do Instr.entryStore t (ρ x) (ρ s) (ρ v); pure .skip) := by simp only [execOp, ho]
  rw [hex]
  simp only [bstep] at hs
  split at hs
  · rename_i id k n e1 e2
    rw [e1] at vx
    rw [e2] at vs
    obtain ⟨hd, hvx⟩ := map_inv vx
    have hvs := int_inv vs
    split at hs
    · rename_i es c hm
      have hm' := mapAt_some hm
      obtain ⟨us, hw, hr⟩ := hM.map hm'
      split at hs
      · rename_i i hf
        simp only [Option.some.injEq, Prod.mk.injEq] at hs
        obtain ⟨_, rfl⟩ := hs
        rw [hr.findIdx] at hf
        have hf' : us.findIdx? (fun e => (e.born : Int) == n) = some i := by
          rw [← hf, ← List.findIdx?_toArray, Array.toArray_toList]
        have hi : i < us.toList.length := (List.findIdx?_eq_some_iff_getElem.1 hf).1
        have hl : i < es.length := by rw [hr.length]; exact hi
        obtain ⟨x', y', a5, a6, a7⟩ := hr.get i es[i].1 es[i].2.1 es[i].2.2 (by simp [hl])
        refine map_eff hM hm' (us' := us.modify i fun e => { e with val := ρ v }) ?_ vr_unit (.inr ⟨?_, rfl⟩)
        · rw [Array.toList_modify, modify_set _ _ _ _ a5, modify_set _ _ _ es[i] (by simp [hl])]
          exact hr.set i _ _ _ _ _ a6 vv
        · simp only [hvx, hvs, Instr.entryStore, asInt, asIntOf, Sem.run_bind, Sem.run_pure, Result.andThen_ok, run_getObj_map hw, hf', MapKept.run_setObj_map _ hw]
      · cases hs
    · cases hs
  · cases hs

theorem mdel_ok {t kt el : TypeId} {kk : KK} (ht : S.P.underlying t = some (.map kt el)) (hk : keyT S.P kt = some kk) {x k : Operand} {cx ck : Opd} (hx : cOpd x = some cx) (hc : cOpd k = some ck) (hρ : Rho S eb φ ρ f)
    (hM : MR S.errT eb φ M own w) (hs : bstep fresh M (.mdel kk (f cx) (f ck)) = some (p, e)) (hp : p) {us : Array TypeId} {rt : TypeId}
    (hres : (execOp ρ o).run S.P w = ((Builtin.delete_ us rt #[ρ x, ρ k]).run S.P w).andThen fun v w' => .ok (.value v) w') (hus : us[0]? = some t) : OpRes S eb φ own M fresh w e ((execOp ρ o).run S.P w) := by
  have vx := hρ x cx hx
  have vk := hρ k ck hc
  rw [hres]
  simp only [bstep] at hs
  split at hs
  · rename_i id e1
    rw [e1] at vx
    obtain ⟨hd, hvx⟩ := map_inv vx
    split at hs
    · rename_i es c hm
      have hm' := mapAt_some hm
      obtain ⟨us, hw, hr⟩ := hM.map hm'
      split at hs
      · rename_i i v0 s hf
        simp only [Option.some.injEq, Prod.mk.injEq] at hs
        obtain ⟨rfl, rfl⟩ := hs
        have hck := checkKey_run (S := S) (w := w) us.isEmpty hk vk hp
        rcases findK_run vk hr hf with ⟨a1, _⟩ | ⟨j, v', s', y, a1, a2, a3, k', x', a4, a5, a6⟩
        · cases a1
        · simp only [Option.some.injEq, Prod.mk.injEq, Nat.zero_add] at a1
          obtain ⟨rfl, rfl, rfl⟩ := a1
          rw [Nat.zero_add] at a2
          have hfk := findKey_run (S := S) (w := w) hk a2
          refine map_eff hM hm' (us' := us.eraseIdxIfInBounds i) ?_ vr_unit (.inl ?_)
          · rw [Array.toList_eraseIdxIfInBounds]
            exact hr.eraseIdx i
          · simp [hvx, Builtin.delete_, hus, run_underlying ht, run_getObj_map hw, hck, hfk, MapKept.run_setObj_map _ hw]
      · rename_i hf
        simp only [Option.some.injEq, Prod.mk.injEq] at hs
        obtain ⟨rfl, rfl⟩ := hs
        have hck := checkKey_run (S := S) (w := w) us.isEmpty hk vk hp
        rcases findK_run vk hr hf with ⟨_, a2⟩ | ⟨j, v', s', y, a1, _⟩
        · have hfk := findKey_run (S := S) (w := w) hk a2
          have hset : ({ w with heap := w.heap.setIfInBounds (φ.blk id) (.map us c) } : World) = w := by
            have hlt := (Array.getElem?_eq_some_iff.1 hw).1
            have : w.heap.setIfInBounds (φ.blk id) (.map us c) = w.heap := by
              refine Array.ext_getElem? fun j => ?_
              by_cases hj : j = φ.blk id
              · subst hj; rw [hw]; simp [hlt]
              · rw [Array.getElem?_setIfInBounds_ne (Ne.symm hj)]
            rw [this]
          refine .quiet hM (u := .tuple #[]) ?_ vr_unit
          simp [hvx, Builtin.delete_, hus, run_underlying ht, run_getObj_map hw, hck, hfk, MapKept.run_setObj_map _ hw, hset]
        · cases a1
      · cases hs
    · cases hs
  · rename_i e1
    rw [e1] at vx
    have hvx := nilm_inv vx
    simp only [Option.some.injEq, Prod.mk.injEq] at hs
    obtain ⟨rfl, rfl⟩ := hs
    have hck := checkKey_run (S := S) (w := w) true hk vk hp
    refine .quiet hM (u := .tuple #[]) ?_ vr_unit
    simp [hvx, Builtin.delete_, hus, run_underlying ht, hck]
  · cases hs

end AH
