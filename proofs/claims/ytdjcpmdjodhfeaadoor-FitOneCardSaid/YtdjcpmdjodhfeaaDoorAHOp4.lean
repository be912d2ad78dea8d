import Derived.Test.YtdjcpmdjodhfeaaDoorAHOp3
set_option linter.unusedSimpArgs false
namespace AH
open Go
variable {S : Sys} {eb : Nat → Addr} {φ : Emb} {M : Nat → Option Blk} {own : Nat → Prop} {w : World} {ρ : Operand → Value} {f : Opd → AV} {o : Oper} {fresh : Nat} {p : Prop} {e : Eff}

theorem int_inv {k : IntKind} {n : Int} {u : Value} (h : VR S.errT eb φ (.int k n) u) : u = .int k n := by cases h; rfl
theorem str_inv {s : ByteArray} {u : Value} (h : VR S.errT eb φ (.str s) u) : u = .string s := by cases h; rfl
theorem ptr_inv {id ix sub : Nat} {u : Value} (h : VR S.errT eb φ (.ptr id ix sub) u) : φ.dom id ∧ u = .pointer (some ⟨φ.blk id, φ.base id + ix * φ.k id + sub, none⟩) := by cases h; exact ⟨by assumption, rfl⟩
theorem isl_inv {id ix sub len : Nat} {u : Value} (h : VR S.errT eb φ (.isl id ix sub len) u) : φ.dom id ∧ ∃ c, len ≤ c ∧ u = .slice (some ⟨φ.blk id, φ.base id + ix * φ.k id + sub, none⟩) len c := by cases h; exact ⟨by assumption, _, by assumption, rfl⟩
theorem map_inv {id : Nat} {u : Value} (h : VR S.errT eb φ (.map id) u) : φ.dom id ∧ u = .map (some (φ.blk id)) := by cases h; exact ⟨by assumption, rfl⟩
theorem nils_inv {u : Value} (h : VR S.errT eb φ .nils u) : u = .slice none 0 0 := by cases h; rfl
theorem nilm_inv {u : Value} (h : VR S.errT eb φ .nilm u) : u = .map none := by cases h; rfl

theorem idxArr_ok {t : TypeId} {n : Nat} {el : TypeId} (ht : S.P.underlying t = some (.array n el)) {td : TypeDesc} (hel : S.P.underlying el = some td) (hsz : isAggT S.P el = false → S.P.cellsOf el = 1) {x i : Operand} {cx ci : Opd} (hx : cOpd x = some cx) (hi : cOpd i = some ci) (hρ : Rho S eb φ ρ f) (hM : MR S.errT eb φ M own w)
    (hs : bstep fresh M (.idxArr n (isAggT S.P el) (S.P.cellsOf el) (f cx) (f ci)) = some (p, e)) (hp : p) (ho : o.op = .index t x i) : OpRes S eb φ own M fresh w e ((execOp ρ o).run S.P w) := by
  have vx := hρ x cx hx
  have vi := hρ i ci hi
  simp only [bstep] at hs
  split at hs
  · rename_i cs k j h1 h2
    rw [h1] at vx
    rw [h2] at vi
    simp only [Option.some.injEq, Prod.mk.injEq] at hs
    obtain ⟨rfl, rfl⟩ := hs
    obtain ⟨us, hv, h, h1⟩ := agg_inv vx
    have hv' := int_inv vi
    obtain ⟨hp1, hp2, hp3⟩ := hp
    have hlen := h.length
    obtain ⟨inf, hinf⟩ := Option.isSome_iff_exists.1 (info_of_underlying hel)
    have hcz : S.P.cellsOf el = if isAggT S.P el then S.P.cellsOf el else 1 := by
      cases hag : isAggT S.P el
      · simp [hsz hag]
      · simp
    have hfit : j.toNat * S.P.cellsOf el + S.P.cellsOf el ≤ us.toList.length := by
      have : (j.toNat + 1) * S.P.cellsOf el ≤ n * S.P.cellsOf el := Nat.mul_le_mul_right _ (by omega)
      rw [Nat.add_mul, Nat.one_mul] at this
      omega
    have hr := run_part (P := S.P) (w := w) el hel (info_of_underlying hel) us.toList (j.toNat * S.P.cellsOf el) (by rw [← hcz]; exact hfit)
    have hvr := AHpart_vr (agg := isAggT S.P el) (n := S.P.cellsOf el) (off := j.toNat * S.P.cellsOf el) h h1 (by omega) hsz
    rw [← hcz] at hr
    refine .quiet hM (u := toV S.P el ((us.toList.drop (j.toNat * S.P.cellsOf el)).take (S.P.cellsOf el))) ?_ ?_
    · simp only [Array.toArray_toList] at hr
      simp only [execOp, ho, hv, hv', Instr.index, asIntOf, Sem.run_bind, run_underlying ht, Result.andThen_ok, Sem.run_pure, hp1, hp2, and_self, if_true, sizeOf_run hinf, hr]
    · cases hag : isAggT S.P el
      · simp only [hag, Bool.false_eq_true, if_false, toV] at hvr ⊢
        have h1' := hsz hag
        rw [h1'] at hfit hvr ⊢
        have : j.toNat * 1 < us.toList.length := by omega
        simpa [List.getD, List.getElem?_take, List.getElem?_drop, List.getElem?_eq_getElem this] using hvr
      · simpa only [hag, if_true, toV] using hvr
  · cases hs

theorem idxStr_ok {t : TypeId} (ht : S.P.underlying t = some .string) {x i : Operand} {cx ci : Opd} (hx : cOpd x = some cx) (hi : cOpd i = some ci) (hρ : Rho S eb φ ρ f) (hM : MR S.errT eb φ M own w)
    (hs : bstep fresh M (.idxStr (f cx) (f ci)) = some (p, e)) (hp : p) (ho : o.op = .index t x i) : OpRes S eb φ own M fresh w e ((execOp ρ o).run S.P w) := by
  have vx := hρ x cx hx
  have vi := hρ i ci hi
  simp only [bstep] at hs
  split at hs
  · rename_i s k j h1 h2
    rw [h1] at vx
    rw [h2] at vi
    simp only [Option.some.injEq, Prod.mk.injEq] at hs
    obtain ⟨rfl, rfl⟩ := hs
    have hv := str_inv vx
    have hv' := int_inv vi
    obtain ⟨hp1, hp2⟩ := hp
    have hlt : j.toNat < s.size := by omega
    have hget : s[j.toNat]? = some s[j.toNat] := by simp [hlt]
    have hl : s.data.toList.getD j.toNat 0 = s[j.toNat] := by
      have : j.toNat < s.data.toList.length := by simpa using hlt
      simp [List.getD, List.getElem?_eq_getElem this]
      rfl
    rw [hl]
    refine .quiet hM (u := .int .u8 (s[j.toNat]).toNat) ?_ (.int _ _)
    simp only [execOp, ho, hv, hv', Instr.index, asIntOf, Sem.run_bind, run_underlying ht, Result.andThen_ok, Sem.run_pure, hp1, if_true, hget]
  · cases hs

theorem run_len {x : Operand} {argT : Array TypeId} (ho : o.op = .call { callee := .builtin .len, args := #[x], argTypes := argT }) {n : Int}
    (h : (Builtin.len_ argT o.type #[ρ x]).run S.P w = .ok (.int .i64 n) w) : (execOp ρ o).run S.P w = .ok (.value (.int .i64 n)) w := by
  simp only [execOp, ho, resolve, invoke, builtin, Sem.run_bind, Sem.run_pure, Result.andThen_ok, List.map_toArray, List.map_cons, List.map_nil, h]

theorem lenArr_ok {t : TypeId} {n : Nat} (ht : (∃ el, S.P.underlying t = some (.array n el)) ∨ ∃ q el, S.P.underlying t = some (.pointer q) ∧ S.P.underlying q = some (.array n el)) {x : Operand} {argT : Array TypeId} (ha : argT[0]? = some t) (hM : MR S.errT eb φ M own w)
    (hs : bstep fresh M (.lenArr n) = some (p, e)) (ho : o.op = .call { callee := .builtin .len, args := #[x], argTypes := argT }) : OpRes S eb φ own M fresh w e ((execOp ρ o).run S.P w) := by
  simp [bstep, pureE] at hs
  obtain ⟨_, rfl⟩ := hs
  refine .quiet hM (u := .int .i64 n) ?_ (.int _ _)
  rcases ht with ⟨el, ht⟩ | ⟨q, el, h1, h2⟩
  · refine run_len ho ?_
    simp only [Builtin.len_, ha]
    simp only [List.getElem?_toArray, List.getElem?_cons_zero, Sem.run_bind, run_underlying ht, Result.andThen_ok]
    rfl
  · refine run_len ho ?_
    simp only [Builtin.len_, ha]
    simp only [List.getElem?_toArray, List.getElem?_cons_zero, Sem.run_bind, run_underlying h1, run_underlying h2, Result.andThen_ok]
    rfl

theorem ER.length {T : TypeId} : ∀ {es : List (AV × AV × Nat)} {us : List MapEntry}, ER T eb φ es us → es.length = us.length
  | _, _, .nil => rfl
  | _, _, .cons _ _ _ _ _ _ _ _ _ h => by simp [h.length]

theorem MR.map (hM : MR S.errT eb φ M own w) {id : Nat} {es : List (AV × AV × Nat)} {c : Nat} (h : M id = some (.map es c)) : ∃ us, w.heap[φ.blk id]? = some (.map us c) ∧ ER S.errT eb φ es us.toList := by
  obtain ⟨o, ho, us, rfl, hr⟩ := hM.blk id _ h
  exact ⟨us, ho, hr⟩

theorem run_getObj_map {r : Nat} {us : Array MapEntry} {c : Nat} (h : w.heap[r]? = some (.map us c)) : (getObj r).run S.P w = .ok (.map us c) w := by
  simp [getObj, Sem.run, h]

theorem len_ok {t : TypeId} {k : LK} (ht : (k = .str ∧ S.P.underlying t = some .string) ∨ (k = .sl ∧ ∃ el, S.P.underlying t = some (.slice el)) ∨ (k = .map ∧ ∃ a b, S.P.underlying t = some (.map a b))) {x : Operand} {cx : Opd} (hx : cOpd x = some cx) {argT : Array TypeId} (ha : argT[0]? = some t) (hρ : Rho S eb φ ρ f) (hM : MR S.errT eb φ M own w)
    (hs : bstep fresh M (.len k (f cx)) = some (p, e)) (ho : o.op = .call { callee := .builtin .len, args := #[x], argTypes := argT }) : OpRes S eb φ own M fresh w e ((execOp ρ o).run S.P w) := by
  have vx := hρ x cx hx
  have hb : ∃ v foot n, e = { val := v, foot := foot } ∧ v = .int .i64 n ∧ (Builtin.len_ argT o.type #[ρ x]).run S.P w = .ok (.int .i64 n) w ∧ ∃ td, S.P.underlying t = some td := by
    generalize f cx = ax at *
    rcases ht with ⟨rfl, hu⟩ | ⟨rfl, el, hu⟩ | ⟨rfl, a, b, hu⟩
    · cases ax <;> simp [bstep, pureE] at hs
      obtain ⟨_, rfl⟩ := hs
      refine ⟨_, _, _, rfl, rfl, ?_, _, hu⟩
      simp only [Builtin.len_, ha, str_inv vx]
      simp only [List.getElem?_toArray, List.getElem?_cons_zero, Sem.run_bind, run_underlying hu, Result.andThen_ok]
      rfl
    · cases ax <;> simp [bstep, pureE] at hs <;> obtain ⟨_, rfl⟩ := hs
      · refine ⟨_, _, _, rfl, rfl, ?_, _, hu⟩
        simp only [Builtin.len_, ha, nils_inv vx]
        simp only [List.getElem?_toArray, List.getElem?_cons_zero, Sem.run_bind, run_underlying hu, Result.andThen_ok]
        rfl
      · refine ⟨_, _, _, rfl, rfl, ?_, _, hu⟩
        obtain ⟨hd, ⟨c, hv, _⟩ | ⟨ad, hv, rfl, _⟩⟩ := slc_inv vx <;>
        · simp only [Builtin.len_, ha, hv]
          simp only [List.getElem?_toArray, List.getElem?_cons_zero, Sem.run_bind, run_underlying hu, Result.andThen_ok]
          rfl
      · refine ⟨_, _, _, rfl, rfl, ?_, _, hu⟩
        obtain ⟨hd, c, _, hv⟩ := isl_inv vx
        simp only [Builtin.len_, ha, hv]
        simp only [List.getElem?_toArray, List.getElem?_cons_zero, Sem.run_bind, run_underlying hu, Result.andThen_ok]
        rfl
    · cases ax <;> simp only [bstep, reduceCtorEq] at hs
      · simp [pureE] at hs
        obtain ⟨_, rfl⟩ := hs
        refine ⟨_, _, _, rfl, rfl, ?_, _, hu⟩
        simp only [Builtin.len_, ha, nilm_inv vx]
        simp only [List.getElem?_toArray, List.getElem?_cons_zero, Sem.run_bind, run_underlying hu, Result.andThen_ok]
        rfl
      · split at hs
        · rename_i es c hm
          simp only [Option.some.injEq, Prod.mk.injEq] at hs
          obtain ⟨_, rfl⟩ := hs
          obtain ⟨us, h1, h2⟩ := hM.map (mapAt_m hm)
          refine ⟨_, _, _, rfl, rfl, ?_, _, hu⟩
          simp only [Builtin.len_, ha, (map_inv vx).2]
          simp only [List.getElem?_toArray, List.getElem?_cons_zero, Sem.run_bind, run_underlying hu, run_getObj_map h1, Result.andThen_ok, goInt, Sem.run_pure, h2.length, Array.length_toList]
        · cases hs
  obtain ⟨v, foot, n, rfl, rfl, hr, td, htd⟩ := hb
  exact .quiet hM (run_len ho hr) (.int _ _)

theorem minmax_run (mx : Bool) : ∀ {v : AV} {l : List AV} {u : Value} {us : List Value} {r : AV}, minmaxAV mx v l = some r → VR S.errT eb φ v u → VRs S.errT eb φ l us →
    ∃ x, ((us.foldlM (if mx then Builtin.max2 else Builtin.min2) u) : Sem Value).run S.P w = .ok x w ∧ VR S.errT eb φ r x
  | v, [], u, us, r, h, hv, hl => by
    cases hl
    cases v <;> simp [minmaxAV] at h <;> subst h <;> exact ⟨u, rfl, hv⟩
  | v, y :: l, u, us, r, h, hv, hl => by
    cases hl
    rename_i u' us' h1 h2
    cases v <;> cases y <;> simp only [minmaxAV, reduceCtorEq] at h
    rename_i k a k' b
    split at h
    · rename_i hk
      subst hk
      have e1 := int_inv hv
      have e2 := int_inv h1
      subst e1 e2
      have := minmax_run mx h (.int _ _) h2
      cases mx
      · simpa [List.foldlM_cons, Builtin.min2] using this
      · simpa [List.foldlM_cons, Builtin.max2] using this
    · cases h

theorem minmax_ok {mx : Bool} {args : Array Operand} {cs : List Opd} {argT : Array TypeId} (hc : args.toList.mapM cOpd = some cs) (hρ : Rho S eb φ ρ f) (hM : MR S.errT eb φ M own w)
    (hs : bstep fresh M (.minmax mx (cs.map f)) = some (p, e)) (ho : o.op = .call { callee := .builtin (if mx then .max else .min), args := args, argTypes := argT }) : OpRes S eb φ own M fresh w e ((execOp ρ o).run S.P w) := by
  have hv := opds_vrs hρ hc
  simp only [bstep] at hs
  split at hs
  · rename_i v l hl
    rw [hl] at hv
    simp only [Option.map_eq_some_iff, Prod.mk.injEq] at hs
    obtain ⟨r, hr, _, rfl⟩ := hs
    generalize hus : args.toList.map ρ = us at hv
    cases hv
    rename_i u us h1 h2
    obtain ⟨x, hx, hxr⟩ := minmax_run (w := w) mx hr h1 h2
    refine .quiet hM (u := x) ?_ hxr
    have hal : (args.map ρ).toList = u :: us := by simpa using hus
    cases mx
    · simp only [Bool.false_eq_true, if_false] at ho hx
      simp only [execOp, ho, resolve, invoke, builtin, Builtin.min_, Sem.run_bind, Sem.run_pure, Result.andThen_ok, hal, hx]
    · simp only [if_true] at ho hx
      simp only [execOp, ho, resolve, invoke, builtin, Builtin.max_, Sem.run_bind, Sem.run_pure, Result.andThen_ok, hal, hx]
  · cases hs

end AH
