import Derived.Test.YtdjcpmdjodhfeaaDoorAHOpC
set_option linter.unusedSimpArgs false
namespace AH
open Go
variable {S : Sys} {eb : Nat → Addr} {φ : Emb} {M : Nat → Option Blk} {own : Nat → Prop} {w : World} {ρ : Operand → Value} {f : Opd → AV} {o : Oper} {fresh : Nat} {p : Prop} {e : Eff}

theorem isSome_ex {α : Type} {x : Option α} (h : ¬ x.isSome = false) : ∃ y, x = some y := by
  cases x with
  | none => exact absurd rfl h
  | some y => exact ⟨y, rfl⟩

theorem isSome_ex' {α : Type} {x : Option α} (h : x.isSome = true) : ∃ y, x = some y := by
  cases x with
  | none => cases h
  | some y => exact ⟨y, rfl⟩

theorem list_array1 {α : Type} {a : Array α} {x : α} (h : a.toList = [x]) : a = #[x] := by
  apply Array.ext'; simpa using h
theorem list_array2 {α : Type} {a : Array α} {x y : α} (h : a.toList = [x, y]) : a = #[x, y] := by
  apply Array.ext'; simpa using h

theorem load_global {t g : Nat} {errs : List Nat} {P : Program} {c : AOp Opd} (h : cOp P errs (.load t (.global g)) = some c) :
    errs.contains g = true ∧ isAggT P t = false ∧ (∃ td, P.underlying t = some td) ∧ c = .loadg g := by
  simp only [cOp] at h
  split at h
  · rename_i hg
    simp only [Option.some.injEq] at h
    simp only [Bool.and_eq_true, Bool.not_eq_true'] at hg
    exact ⟨hg.1, hg.2.1, isSome_ex' hg.2.2, h.symm⟩
  · cases h

set_option maxHeartbeats 4000000 in
theorem op_sound {c : AOp Opd} (hc : cOp S.P S.errs o.op = some c) (hρ : Rho S eb φ ρ f) (hcv : ∀ v, f (.c v) = v) (hg : ∀ g, ρ (.global g) = .pointer (some ⟨g, 0, none⟩)) (hM : MR S.errT eb φ M own w) (hk : ∀ b, w.heap.size ≤ b → own b)
    (hA : ∀ g ∈ S.errs, ∃ et fr, w.heap[g]? = some (.cells #[.iface S.errT (.pointer (some (eb g)))] et fr))
    (hf : fresh ∈ e.foot → ¬ φ.dom fresh) (hs : bstep fresh M (c.map f) = some (p, e)) (hp : p) : OpRes S eb φ own M fresh w e ((execOp ρ o).run S.P w) := by
  cases ho : o.op with
  | move x =>
    rw [ho] at hc; simp only [cOp, bind, Option.bind_eq_some_iff, Option.some.injEq] at hc
    obtain ⟨cx, hx, rfl⟩ := hc
    have := mov_ok (S := S) hx hρ hM hs
    simpa only [execOp, ho, Sem.run_pure] using this
  | assign x =>
    rw [ho] at hc; simp only [cOp, bind, Option.bind_eq_some_iff, Option.some.injEq] at hc
    obtain ⟨cx, hx, rfl⟩ := hc
    have := mov_ok (S := S) hx hρ hM hs
    simpa only [execOp, ho, Sem.run_pure] using this
  | pick x y z =>
    rw [ho] at hc; simp only [cOp, bind, Option.bind_eq_some_iff, Option.some.injEq] at hc
    obtain ⟨cx, hx, cy, hy, cz, hz, rfl⟩ := hc
    exact pick_ok hx hy hz hρ hM hs ho
  | alloc el =>
    rw [ho] at hc; simp only [cOp, bind, Option.bind_eq_some_iff, Option.some.injEq] at hc
    obtain ⟨z, hz, rfl⟩ := hc
    obtain ⟨zv, hzr, hzv⟩ := zeroAV_run (S := S) (eb := eb) (φ := φ) (w := w) hz
    simp only [AOp.map, hcv] at hs
    refine box_ok hM hk (t := el) hzv hs hp hf ?_
    simp only [execOp, ho, Instr.alloc, Sem.run_bind, hzr, Result.andThen_ok, newVar, newRow, run_newObj', Sem.run_pure, if_true]
  | box el x =>
    rw [ho] at hc; simp only [cOp, bind, Option.bind_eq_some_iff, Option.some.injEq] at hc
    obtain ⟨cx, hx, rfl⟩ := hc
    simp only [AOp.map] at hs
    refine box_ok hM hk (t := el) (hρ x cx hx) hs hp hf ?_
    simp only [execOp, ho, Instr.box, Sem.run_bind, Result.andThen_ok, newVar, newRow, run_newObj', Sem.run_pure]
  | build t ps =>
    rw [ho] at hc
    simp only [cOp] at hc
    split at hc
    · rename_i hb'
      simp only [bind, Option.bind_eq_some_iff, Option.some.injEq] at hc
      obtain ⟨_, _, z, hz, cps, hps, rfl⟩ := hc
      exact build_ok hz hps hb' hρ hM hs ho
    · cases hc
  | buildSlice t n ps =>
    rw [ho] at hc
    simp only [cOp] at hc
    split at hc
    · rename_i el hu
      split at hc
      · cases hc
      · rename_i hn
        simp only [bind, Option.bind_eq_some_iff, Option.some.injEq] at hc
        obtain ⟨z, hz, cps, hps, rfl⟩ := hc
        exact bslice_ok hu hn hz hps hρ hM hk hf hs ho
    · cases hc
  | load t x =>
    rw [ho] at hc
    cases x with
    | global g =>
      obtain ⟨h1, h2, ⟨td, h3⟩, rfl⟩ := load_global hc
      exact loadg_ok hA h1 h2 h3 (hg g) hM hs ho
    | _ =>
      simp only [cOp] at hc
      split at hc
      · cases hc
      · rename_i hsome
        obtain ⟨td, htd⟩ := isSome_ex hsome
        simp only [bind, Option.bind_eq_some_iff, Option.some.injEq] at hc
        obtain ⟨cx, hx, rfl⟩ := hc
        exact load_ok htd hx hρ hM hs hp ho
  | store t x y =>
    rw [ho] at hc
    simp only [cOp] at hc
    split at hc
    · cases hc
    · rename_i hz
      simp only [bind, Option.bind_eq_some_iff, Option.some.injEq] at hc
      obtain ⟨cx, hx, cy, hy, rfl⟩ := hc
      exact store_ok hz hx hy hρ hM hs hp ho
  | nilCheck x =>
    rw [ho] at hc; simp only [cOp, bind, Option.bind_eq_some_iff, Option.some.injEq] at hc
    obtain ⟨cx, hx, rfl⟩ := hc
    exact nilchk_ok hx hρ hM hs ho
  | binOp op t x y t' =>
    rw [ho] at hc
    simp only [cOp] at hc
    split at hc
    · simp only [bind, Option.bind_eq_some_iff, Option.some.injEq] at hc
      obtain ⟨cx, hx, cy, hy, rfl⟩ := hc
      exact ibin_ok hx hy hρ hM hs hp ho
    · simp only [bind, Option.bind_eq_some_iff, Option.some.injEq] at hc
      obtain ⟨cx, hx, cy, hy, rfl⟩ := hc
      exact ibin_ok hx hy hρ hM hs hp ho
    · split at hc
      · simp only [bind, Option.bind_eq_some_iff, Option.some.injEq] at hc
        obtain ⟨k, hk', cx, hx, cy, hy, rfl⟩ := hc
        exact eq_ok (neg := false) rfl hk' hx hy hρ hM hs hp ho
      · simp only [bind, Option.bind_eq_some_iff, Option.some.injEq] at hc
        obtain ⟨k, hk', cx, hx, cy, hy, rfl⟩ := hc
        exact eq_ok (neg := true) rfl hk' hx hy hρ hM hs hp ho
      · cases hc
  | unOp op t x =>
    rw [ho] at hc; simp only [cOp, bind, Option.bind_eq_some_iff, Option.some.injEq] at hc
    obtain ⟨cx, hx, rfl⟩ := hc
    exact un_ok hx hρ hM hs ho
  | convert s d x =>
    rw [ho] at hc
    simp only [cOp] at hc
    split at hc
    · rename_i h1 h2
      simp only [bind, Option.bind_eq_some_iff, Option.some.injEq] at hc
      obtain ⟨cx, hx, rfl⟩ := hc
      exact i2i_ok h1 h2 hx hρ hM hs ho
    · rename_i h1 h2
      simp only [bind, Option.bind_eq_some_iff, Option.some.injEq] at hc
      obtain ⟨cx, hx, rfl⟩ := hc
      exact same_ok h1 h2 hx hρ hM hs ho
    · rename_i h1 h2
      split at hc
      · rename_i h3
        simp only [bind, Option.bind_eq_some_iff, Option.some.injEq] at hc
        obtain ⟨cx, hx, rfl⟩ := hc
        exact s2b_ok h1 h2 h3 hx hρ hM hk hf hs ho
      · cases hc
    · rename_i h1 h2
      split at hc
      · rename_i h3
        simp only [bind, Option.bind_eq_some_iff, Option.some.injEq] at hc
        obtain ⟨cx, hx, rfl⟩ := hc
        exact b2s_ok h1 h2 h3 hx hρ hM hs hp ho
      · cases hc
    · cases hc
  | makeInterface t x =>
    rw [ho] at hc
    simp only [cOp] at hc
    split at hc
    · cases hc
    · rename_i td hn htd
      simp only [bind, Option.bind_eq_some_iff, Option.some.injEq] at hc
      obtain ⟨cx, hx, rfl⟩ := hc
      exact mkifc_ok htd (fun ms h => hn ms (by rw [← h])) hx hρ hM hs ho
    · cases hc
  | makeFunc fn a b =>
    rw [ho] at hc
    cases fn <;> simp only [cOp, reduceCtorEq] at hc
    simp only [bind, Option.bind_eq_some_iff, Option.some.injEq] at hc
    obtain ⟨c1, h1, c2, h2, rfl⟩ := hc
    exact mkfn_ok h1 h2 hρ hM hs ho
  | makeMap t r =>
    rw [ho] at hc
    cases r with
    | none =>
      simp only [cOp, Option.some.injEq] at hc
      subst hc
      exact mkmap_ok hM hk hf hs ho
    | some r => simp only [cOp, reduceCtorEq] at hc
  | makeSlice t n cc =>
    rw [ho] at hc
    simp only [cOp] at hc
    split at hc
    · rename_i el hu
      simp only [bind, Option.bind_eq_some_iff, Option.some.injEq] at hc
      obtain ⟨z, hz, c1, h1, c2, h2, rfl⟩ := hc
      exact mkslice_ok hu hz h1 h2 hρ hM hk hf hs hp ho
    · cases hc
  | slice t x lo hi mx =>
    rw [ho] at hc
    simp only [cOp] at hc
    split at hc
    · rename_i n el hu
      split at hc
      · cases hc
      · rename_i hmx
        have hmx' : mx = none := by cases mx with
          | none => rfl
          | some q => exact absurd rfl hmx
        subst hmx'
        simp only [bind, Option.bind_eq_some_iff, Option.some.injEq] at hc
        obtain ⟨cx, hx, cl, hl, ch, hh, rfl⟩ := hc
        exact sliceArr_ok hu hx hl hh hρ hM hs hp ho
    · rename_i el hu
      split at hc
      · cases hc
      · rename_i hz
        simp only [bind, Option.bind_eq_some_iff, Option.some.injEq] at hc
        obtain ⟨cx, hx, cl, hl, ch, hh, cm, hm, rfl⟩ := hc
        exact slice_ok hu hx hl hh hm hρ hM hz hs hp ho
    · rename_i hu
      split at hc
      · cases hc
      · rename_i hmx
        have hmx' : mx = none := by cases mx with
          | none => rfl
          | some q => exact absurd rfl hmx
        subst hmx'
        simp only [bind, Option.bind_eq_some_iff, Option.some.injEq] at hc
        obtain ⟨cx, hx, cl, hl, ch, hh, rfl⟩ := hc
        exact sliceStr_ok hu hx hl hh hρ hM hs hp ho
    · cases hc
  | fieldAddr s x i =>
    rw [ho] at hc
    simp only [cOp, bind, Option.bind_eq_some_iff] at hc
    obtain ⟨fd, hfd, hc⟩ := hc
    split at hc
    · cases hc
    · rename_i hz
      simp only [Option.bind_eq_some_iff, Option.some.injEq] at hc
      obtain ⟨cx, hx, rfl⟩ := hc
      exact faddr_ok hfd hz hx hρ hM hs ho
  | field s x i =>
    rw [ho] at hc
    simp only [cOp, bind, Option.bind_eq_some_iff] at hc
    obtain ⟨fd, hfd, hc⟩ := hc
    split at hc
    · cases hc
    · rename_i hz
      obtain ⟨td, htd⟩ := isSome_ex hz
      simp only [Option.bind_eq_some_iff, Option.some.injEq] at hc
      obtain ⟨cx, hx, rfl⟩ := hc
      exact fld_ok hfd htd hx hρ hM hs hp ho
  | indexAddr t x i =>
    rw [ho] at hc
    simp only [cOp] at hc
    split at hc
    · rename_i n el hu
      split at hc
      · cases hc
      · rename_i hz
        simp only [bind, Option.bind_eq_some_iff, Option.some.injEq] at hc
        obtain ⟨cx, hx, ci, hi, rfl⟩ := hc
        exact iaddrArr_ok hu hz hx hi hρ hM hs hp ho
    · rename_i el hu
      split at hc
      · cases hc
      · rename_i hz
        simp only [bind, Option.bind_eq_some_iff, Option.some.injEq] at hc
        obtain ⟨cx, hx, ci, hi, rfl⟩ := hc
        exact iaddrSl_ok hu hz hx hi hρ hM hs hp ho
    · cases hc
  | index t x i =>
    rw [ho] at hc
    simp only [cOp] at hc
    split at hc
    · rename_i n el hu
      split at hc
      · cases hc
      · rename_i hz
        simp only [Bool.or_eq_true, Bool.and_eq_true, Bool.not_eq_true', bne_iff_ne, not_or, not_and, Decidable.not_not, decide_eq_true_eq] at hz
        obtain ⟨td, htd⟩ := isSome_ex hz.1
        simp only [bind, Option.bind_eq_some_iff, Option.some.injEq] at hc
        obtain ⟨cx, hx, ci, hi, rfl⟩ := hc
        exact idxArr_ok hu htd hz.2 hx hi hρ hM hs hp ho
    · rename_i hu
      simp only [bind, Option.bind_eq_some_iff, Option.some.injEq] at hc
      obtain ⟨cx, hx, ci, hi, rfl⟩ := hc
      exact idxStr_ok hu hx hi hρ hM hs hp ho
    · cases hc
  | lookup t x k ok =>
    rw [ho] at hc
    simp only [cOp] at hc
    split at hc
    · rename_i kt el hu
      simp only [bind, Option.bind_eq_some_iff, Option.some.injEq] at hc
      obtain ⟨kk, hkk, z, hz, cx, hx, ck, hck, rfl⟩ := hc
      exact lookup_ok hu hkk hz hx hck hρ hM hs hp ho
    · cases hc
  | mapUpdate t x k v =>
    rw [ho] at hc
    simp only [cOp] at hc
    split at hc
    · rename_i kt el hu
      simp only [bind, Option.bind_eq_some_iff, Option.some.injEq] at hc
      obtain ⟨kk, hkk, cx, hx, ck, hck, cv, hv, rfl⟩ := hc
      exact mapupd_ok hu hkk hx hck hv hρ hM hs hp (.inl ho)
    · cases hc
  | insert t x k v =>
    rw [ho] at hc
    simp only [cOp] at hc
    split at hc
    · rename_i kt el hu
      simp only [bind, Option.bind_eq_some_iff, Option.some.injEq] at hc
      obtain ⟨kk, hkk, cx, hx, ck, hck, cv, hv, rfl⟩ := hc
      exact mapupd_ok hu hkk hx hck hv hρ hM hs hp (.inr ho)
    · cases hc
  | mapEntry t x k =>
    rw [ho] at hc
    simp only [cOp] at hc
    split at hc
    · rename_i kt el hu
      simp only [bind, Option.bind_eq_some_iff, Option.some.injEq] at hc
      obtain ⟨kk, hkk, z, hz, cx, hx, ck, hck, rfl⟩ := hc
      exact mentry_ok hu hkk hz hx hck hρ hM hs hp ho
    · cases hc
  | entryStore t x s v =>
    rw [ho] at hc; simp only [cOp, bind, Option.bind_eq_some_iff, Option.some.injEq] at hc
    obtain ⟨cx, hx, cs, hcs, cv, hv, rfl⟩ := hc
    exact estore_ok hx hcs hv hρ hM hs ho
  | extract x i =>
    rw [ho] at hc; simp only [cOp, bind, Option.bind_eq_some_iff, Option.some.injEq] at hc
    obtain ⟨cx, hx, rfl⟩ := hc
    exact extract_ok hx hρ hM hs hp ho
  | call cl =>
    rw [ho] at hc
    obtain ⟨cal, args, ts⟩ := cl
    cases cal with
    | value g =>
      simp only [cOp, bind, Option.bind_eq_some_iff, Option.some.injEq] at hc
      obtain ⟨cg, hg', ca, hca, rfl⟩ := hc
      simp only [AOp.map, bstep, reduceCtorEq] at hs
    | invoke r n => simp only [cOp, reduceCtorEq] at hc
    | builtin b =>
      simp only [cOp] at hc
      split at hc
      · rename_i x t ts' hargs hts
        have ha := list_array1 hargs
        subst ha
        have ht0 : ts[0]? = some t := by rw [← Array.getElem?_toList, hts]; rfl
        split at hc
        · rename_i n el hu
          cases hc
          exact lenArr_ok (.inl ⟨el, hu⟩) ht0 hM hs ho
        · rename_i q hu
          split at hc
          · rename_i n el hq
            cases hc
            exact lenArr_ok (.inr ⟨q, el, hu, hq⟩) ht0 hM hs ho
          · cases hc
        · rename_i hu
          simp only [bind, Option.bind_eq_some_iff, Option.some.injEq] at hc
          obtain ⟨cx, hx, rfl⟩ := hc
          exact len_ok (.inl ⟨rfl, hu⟩) hx ht0 hρ hM hs ho
        · rename_i el hu
          simp only [bind, Option.bind_eq_some_iff, Option.some.injEq] at hc
          obtain ⟨cx, hx, rfl⟩ := hc
          exact len_ok (.inr (.inl ⟨rfl, el, hu⟩)) hx ht0 hρ hM hs ho
        · rename_i a b hu
          simp only [bind, Option.bind_eq_some_iff, Option.some.injEq] at hc
          obtain ⟨cx, hx, rfl⟩ := hc
          exact len_ok (.inr (.inr ⟨rfl, a, b, hu⟩)) hx ht0 hρ hM hs ho
        · cases hc
      · rename_i x y t u hargs hts
        have ha := list_array2 hargs
        have hb := list_array2 hts
        subst ha hb
        split at hc
        · rename_i el el' hu hu'
          split at hc
          · simp only [bind, Option.bind_eq_some_iff, Option.some.injEq] at hc
            obtain ⟨z, hz, cx, hx, cy, hy, rfl⟩ := hc
            refine append_ok hu hu' hz hx hy hρ hM hk hf hs hp (rt := o.type) ?_
            simp only [execOp, ho, resolve, invoke, builtin, Sem.run_bind, Sem.run_pure, Result.andThen_ok, List.map_toArray, List.map_cons, List.map_nil]
          · cases hc
        · cases hc
      · rename_i x y t u hargs hts
        have ha := list_array2 hargs
        have hb := list_array2 hts
        subst ha hb
        split at hc
        · rename_i el el' hu hu'
          split at hc
          · rename_i hcond
            obtain ⟨td, htd⟩ := isSome_ex' hcond.2
            simp only [bind, Option.bind_eq_some_iff, Option.some.injEq] at hc
            obtain ⟨cx, hx, cy, hy, rfl⟩ := hc
            refine copy_ok (u := u) hu htd hx hy hρ hM hs hp (rt := o.type) ?_
            simp only [execOp, ho, resolve, invoke, builtin, Sem.run_bind, Sem.run_pure, Result.andThen_ok, List.map_toArray, List.map_cons, List.map_nil]
          · cases hc
        · cases hc
      · rename_i x k t ts' hargs hts
        have ha := list_array2 hargs
        subst ha
        have ht0 : ts[0]? = some t := by rw [← Array.getElem?_toList, hts]; rfl
        split at hc
        · rename_i kt el hu
          simp only [bind, Option.bind_eq_some_iff, Option.some.injEq] at hc
          obtain ⟨kk, hkk, cx, hx, ck, hck, rfl⟩ := hc
          refine mdel_ok (us := ts) (rt := o.type) hu hkk hx hck hρ hM hs hp ?_ ht0
          simp only [execOp, ho, resolve, invoke, builtin, Sem.run_bind, Sem.run_pure, Result.andThen_ok, List.map_toArray, List.map_cons, List.map_nil]
        · cases hc
      · simp only [bind, Option.bind_eq_some_iff, Option.some.injEq] at hc
        obtain ⟨cs, hcs, rfl⟩ := hc
        exact minmax_ok (mx := false) hcs hρ hM hs ho
      · simp only [bind, Option.bind_eq_some_iff, Option.some.injEq] at hc
        obtain ⟨cs, hcs, rfl⟩ := hc
        exact minmax_ok (mx := true) hcs hρ hM hs ho
      · cases hc
  | _ => rw [ho] at hc; simp only [cOp, reduceCtorEq] at hc

end AH
