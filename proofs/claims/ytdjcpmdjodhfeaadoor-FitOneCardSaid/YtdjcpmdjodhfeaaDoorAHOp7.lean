import Derived.Test.YtdjcpmdjodhfeaaDoorAHOp6
set_option linter.unusedSimpArgs false
namespace AH
open Go
variable {S : Sys} {eb : Nat → Addr} {φ : Emb} {M : Nat → Option Blk} {own : Nat → Prop} {w : World} {ρ : Operand → Value} {f : Opd → AV} {o : Oper} {fresh : Nat} {p : Prop} {e : Eff}

theorem mapM_get {α β : Type} {g : α → Option β} : ∀ {l : List α} {r : List β}, l.mapM g = some r → l.length = r.length ∧ ∀ (i : Nat) a b, l[i]? = some a → r[i]? = some b → g a = some b
  | [], r, h => by simp at h; subst h; simp
  | x :: l, r, h => by
    rw [List.mapM_cons] at h
    simp only [bind, Option.bind_eq_some_iff, pure, Option.some.injEq] at h
    obtain ⟨c, hc, cs', hcs, rfl⟩ := h
    obtain ⟨h1, h2⟩ := mapM_get hcs
    refine ⟨by simp [h1], fun i a b ha hb => ?_⟩
    cases i with
    | zero => simp at ha hb; subst ha hb; exact hc
    | succ i => exact h2 i a b (by simpa using ha) (by simpa using hb)

/-- The parts of a composite literal. -/
theorem parts_ok {t : TypeId} {ps : Array (Nat × Operand)} {cps : List (Nat × Nat × Opd)} (h : partsOf S.P t ps = some cps) (hρ : Rho S eb φ ρ f) :
    (cps.map fun p => (p.1, p.2.1, f p.2.2)).length = (ps.map fun x => (x.1, ρ x.2)).toList.length ∧
    ∀ (i : Nat) (a : Nat × Nat × AV) (b : Nat × Value), (cps.map fun p => (p.1, p.2.1, f p.2.2))[i]? = some a → (ps.map fun x => (x.1, ρ x.2)).toList[i]? = some b → VR S.errT eb φ a.2.2 b.2 ∧
      ((∃ fs, S.P.underlying t = some (.struct fs) ∧ ∃ fd, fs[b.1]? = some fd ∧ a.1 = fd.offset ∧ a.2.1 = S.P.cellsOf fd.type) ∨
       (∃ n el, S.P.underlying t = some (.array n el) ∧ a.1 = b.1 * S.P.cellsOf el ∧ a.2.1 = S.P.cellsOf el) ∨
       (∃ el, S.P.underlying t = some (.slice el) ∧ a.1 = b.1 * S.P.cellsOf el ∧ a.2.1 = S.P.cellsOf el)) := by
  unfold partsOf at h
  split at h
  · rename_i fs hu
    obtain ⟨h1, h2⟩ := mapM_get h
    refine ⟨by simp at h1; simp [h1], fun i a b ha hb => ?_⟩
    simp only [List.getElem?_map, Option.map_eq_some_iff, Array.toList_map] at ha hb
    obtain ⟨c, hc, rfl⟩ := ha
    obtain ⟨q, hq, rfl⟩ := hb
    have := h2 i q c hq hc
    simp only [bind, Option.bind_eq_some_iff, Option.some.injEq] at this
    obtain ⟨fd, hfd, cx, hcx, rfl⟩ := this
    exact ⟨hρ _ _ hcx, .inl ⟨fs, hu, fd, hfd, rfl, rfl⟩⟩
  · rename_i n el hu
    obtain ⟨h1, h2⟩ := mapM_get h
    refine ⟨by simp at h1; simp [h1], fun i a b ha hb => ?_⟩
    simp only [List.getElem?_map, Option.map_eq_some_iff, Array.toList_map] at ha hb
    obtain ⟨c, hc, rfl⟩ := ha
    obtain ⟨q, hq, rfl⟩ := hb
    have := h2 i q c hq hc
    simp only [bind, Option.bind_eq_some_iff, Option.some.injEq] at this
    obtain ⟨cx, hcx, rfl⟩ := this
    exact ⟨hρ _ _ hcx, .inr (.inl ⟨n, el, hu, rfl, rfl⟩)⟩
  · rename_i el hu
    obtain ⟨h1, h2⟩ := mapM_get h
    refine ⟨by simp at h1; simp [h1], fun i a b ha hb => ?_⟩
    simp only [List.getElem?_map, Option.map_eq_some_iff, Array.toList_map] at ha hb
    obtain ⟨c, hc, rfl⟩ := ha
    obtain ⟨q, hq, rfl⟩ := hb
    have := h2 i q c hq hc
    simp only [bind, Option.bind_eq_some_iff, Option.some.injEq] at this
    obtain ⟨cx, hcx, rfl⟩ := this
    exact ⟨hρ _ _ hcx, .inr (.inr ⟨el, hu, rfl, rfl⟩)⟩
  · cases h

theorem mapM_places {fs : Array Field} (hfs : ∀ fd ∈ fs.toList, (S.P.info? fd.type).isSome = true) : (fs.mapM fun fd => do pure (fd.offset, ← Go.sizeOf fd.type) : Sem (Array (Nat × Nat))).run S.P w = .ok (fs.map fun fd => (fd.offset, S.P.cellsOf fd.type)) w := by
  rw [← Array.toArray_toList (xs := fs)]
  generalize fs.toList = l at hfs ⊢
  rw [List.mapM_toArray]
  have : (l.mapM fun fd => do pure (fd.offset, ← Go.sizeOf fd.type) : Sem (List (Nat × Nat))).run S.P w = .ok (l.map fun fd => (fd.offset, S.P.cellsOf fd.type)) w := by
    induction l with
    | nil => rfl
    | cons x l ih =>
      obtain ⟨i, hi⟩ := Option.isSome_iff_exists.1 (hfs x (by simp))
      rw [List.mapM_cons]
      simp only [Sem.run_bind, sizeOf_run hi, Result.andThen_ok, Sem.run_pure, ih (fun y hy => hfs y (by simp [hy])), List.map_cons]
  rw [Sem.run_map, this]
  simp

theorem build_ok {t : TypeId} {ps : Array (Nat × Operand)} {z : List AV} {cps : List (Nat × Nat × Opd)} (hz : zeroCells S.P t = some z) (hps : partsOf S.P t ps = some cps) (hfk : buildT S.P t = true) (hρ : Rho S eb φ ρ f) (hM : MR S.errT eb φ M own w)
    (hs : bstep fresh M (.build z (cps.map fun p => (p.1, p.2.1, f p.2.2))) = some (p, e)) (ho : o.op = .build t ps) : OpRes S eb φ own M fresh w e ((execOp ρ o).run S.P w) := by
  simp only [bstep] at hs
  split at hs
  · rename_i cs hcs
    simp [pureE] at hs
    obtain ⟨_, rfl⟩ := hs
    obtain ⟨i, zv, hi, hzv, hrun, hvr, hone, hlen, hzl⟩ := zeroCells_run (S := S) (eb := eb) (φ := φ) (w := w) hz
    obtain ⟨hl, hp⟩ := parts_ok hps hρ
    have hex : execOp ρ o = (do pure (.value (← Instr.build t (ps.map fun x => (x.1, ρ x.2))))) := by simp only [execOp, ho]
    have hu : ∃ td, S.P.underlying t = some td := by
      unfold partsOf at hps
      split at hps
      · exact ⟨_, by assumption⟩
      · exact ⟨_, by assumption⟩
      · exact ⟨_, by assumption⟩
      · cases hps
    obtain ⟨td, hu⟩ := hu
    cases td
    case struct fs =>
      obtain ⟨rs, h1, h2, h3⟩ := fill_ok (S := S) (eb := eb) (φ := φ) (fun j => (fs.map fun fd => (fd.offset, S.P.cellsOf fd.type))[j]?) hcs hvr hone hl (fun i a b ha hb => by
        obtain ⟨q1, q2⟩ := hp i a b ha hb
        refine ⟨?_, q1⟩
        rcases q2 with ⟨fs', g1, fd, g2, g3, g4⟩ | ⟨n, el, g1, _⟩ | ⟨el, g1, _⟩
        · rw [hu] at g1; cases g1; simp [g2, g3, g4]
        · rw [hu] at g1; cases g1
        · rw [hu] at g1; cases g1)
      refine .quiet hM (u := .agg rs) ?_ (.agg _ _ h2 h3)
      have hk : ∀ fd ∈ fs.toList, (S.P.info? fd.type).isSome = true := by
        simp only [buildT, hu, List.all_eq_true] at hfk
        exact hfk
      rw [hex]
      simp only [Instr.build, Sem.run_bind, hrun, Result.andThen_ok, run_underlying hu, mapM_places hk]
      simp only [Array.toArray_toList] at h1
      rw [h1]
      rfl
    case array n el =>
      obtain ⟨rs, h1, h2, h3⟩ := fill_ok (S := S) (eb := eb) (φ := φ) (fun j => some (j * S.P.cellsOf el, S.P.cellsOf el)) hcs hvr hone hl (fun i a b ha hb => by
        obtain ⟨q1, q2⟩ := hp i a b ha hb
        refine ⟨?_, q1⟩
        rcases q2 with ⟨fs', g1, fd, g2, g3, g4⟩ | ⟨n', el', g1, g2, g3⟩ | ⟨el, g1, _⟩
        · rw [hu] at g1; cases g1
        · rw [hu] at g1; cases g1; simp [g2, g3]
        · rw [hu] at g1; cases g1)
      refine .quiet hM (u := .agg rs) ?_ (.agg _ _ h2 h3)
      rw [hex]
      obtain ⟨ie, hie⟩ : ∃ ie, S.P.info? el = some ie := Option.isSome_iff_exists.1 (by simpa [buildT, hu] using hfk)
      simp only [Instr.build, Sem.run_bind, hrun, Result.andThen_ok, run_underlying hu, sizeOf_run hie]
      simp only [Array.toArray_toList] at h1
      rw [h1]
      rfl
    all_goals simp [buildT, hu] at hfk
  · cases hs

end AH
