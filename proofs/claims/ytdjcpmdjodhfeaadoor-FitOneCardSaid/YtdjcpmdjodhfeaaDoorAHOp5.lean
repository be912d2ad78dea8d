import Derived.Test.YtdjcpmdjodhfeaaDoorAHOp4
set_option linter.unusedSimpArgs false
namespace AH
open Go
variable {S : Sys} {eb : Nat → Addr} {φ : Emb} {M : Nat → Option Blk} {own : Nat → Prop} {w : World} {ρ : Operand → Value} {f : Opd → AV} {o : Oper} {fresh : Nat} {p : Prop} {e : Eff}

/-- A bound of a slice expression. -/
theorem bound_run {d : Nat} {x : Option Operand} {cx : Option Opd} (hx : oOpd x = some cx) (hρ : Rho S eb φ ρ f) {n : Int} (h : bound d (cx.map f) = some n) :
    (x = none ∧ n = d) ∨ ∃ k, x.map ρ = some (.int k n) := by
  cases x with
  | none => simp [oOpd] at hx; subst hx; simp [bound] at h; exact .inl ⟨rfl, h.symm⟩
  | some y =>
    simp only [oOpd, Option.map_eq_some_iff] at hx
    obtain ⟨c, hc, rfl⟩ := hx
    simp only [Option.map_some] at h
    have hv := hρ y c hc
    generalize f c = ac at *
    cases ac <;> simp [bound] at h
    subst h
    exact .inr ⟨_, by rw [Option.map_some, int_inv hv]⟩

theorem sliceBound_run {k : IntKind} {i : Int} {y : Nat} {code : BoundsCode} (h0 : 0 ≤ i) (h1 : i ≤ y) : (Instr.sliceBound (.int k i) y code).run S.P w = .ok i.toNat w := by
  simp [Instr.sliceBound, asIntOf, h0, h1]

theorem sliceBounds_run {isS : Bool} {len cap : Nat} {lo hi : Option Value} {l h : Int} (hl : (lo = none ∧ l = 0) ∨ ∃ k, lo = some (.int k l)) (hh : (hi = none ∧ h = len) ∨ ∃ k, hi = some (.int k h))
    (b0 : 0 ≤ l) (b1 : l ≤ h) (b2 : h ≤ cap) : (Instr.sliceBounds isS len cap lo hi none).run S.P w = .ok (l.toNat, h.toNat, cap) w := by
  have hb1 : ∀ k c, (Instr.sliceBound (.int k h) cap c).run S.P w = .ok h.toNat w := fun k c => sliceBound_run (by omega) b2
  have hb2 : ∀ k c, (Instr.sliceBound (.int k l) h.toNat c).run S.P w = .ok l.toNat w := fun k c => sliceBound_run b0 (by omega)
  rcases hl with ⟨rfl, rfl⟩ | ⟨k, rfl⟩ <;> rcases hh with ⟨rfl, rfl⟩ | ⟨k', rfl⟩
  · simp [Instr.sliceBounds]
  · simp [Instr.sliceBounds, hb1]
  · have := hb2 k .sliceB
    simp only [Int.toNat_natCast] at this
    simp [Instr.sliceBounds, this]
  · simp [Instr.sliceBounds, hb1, hb2]

theorem sliceBounds_run3 {isS : Bool} {len cap : Nat} {lo : Option Value} {l h m : Int} (hl : (lo = none ∧ l = 0) ∨ ∃ k, lo = some (.int k l)) {k' k'' : IntKind}
    (b0 : 0 ≤ l) (b1 : l ≤ h) (b2 : h ≤ m) (b3 : m ≤ cap) : (Instr.sliceBounds isS len cap lo (some (.int k' h)) (some (.int k'' m))).run S.P w = .ok (l.toNat, h.toNat, m.toNat) w := by
  have hb0 : ∀ c, (Instr.sliceBound (.int k'' m) cap c).run S.P w = .ok m.toNat w := fun c => sliceBound_run (by omega) b3
  have hb1 : ∀ c, (Instr.sliceBound (.int k' h) m.toNat c).run S.P w = .ok h.toNat w := fun c => sliceBound_run (by omega) (by omega)
  have hb2 : ∀ k c, (Instr.sliceBound (.int k l) h.toNat c).run S.P w = .ok l.toNat w := fun k c => sliceBound_run b0 (by omega)
  rcases hl with ⟨rfl, rfl⟩ | ⟨k, rfl⟩
  · simp [Instr.sliceBounds, hb0, hb1]
  · simp [Instr.sliceBounds, hb0, hb1, hb2]

theorem sliceStr_ok {t : TypeId} (ht : S.P.underlying t = some .string) {x : Operand} {lo hi : Option Operand} {cx : Opd} {cl ch : Option Opd} (hx : cOpd x = some cx) (hl : oOpd lo = some cl) (hh : oOpd hi = some ch) (hρ : Rho S eb φ ρ f) (hM : MR S.errT eb φ M own w)
    (hs : bstep fresh M (.sliceStr (f cx) (cl.map f) (ch.map f)) = some (p, e)) (hp : p) (ho : o.op = .slice t x lo hi none) : OpRes S eb φ own M fresh w e ((execOp ρ o).run S.P w) := by
  have vx := hρ x cx hx
  simp only [bstep] at hs
  split at hs
  · rename_i s h1
    rw [h1] at vx
    have hv := str_inv vx
    split at hs
    · rename_i l h e1 e2
      simp only [Option.some.injEq, Prod.mk.injEq] at hs
      obtain ⟨rfl, rfl⟩ := hs
      obtain ⟨b0, b1, b2⟩ := hp
      have hb := sliceBounds_run (S := S) (w := w) (isS := false) (len := s.size) (cap := s.size) (lo := lo.map ρ) (hi := hi.map ρ) (l := l) (h := h)
        (by rcases bound_run hl hρ e1 with ⟨rfl, h⟩ | h; exact .inl ⟨rfl, by simpa using h⟩; exact .inr h) (by rcases bound_run hh hρ e2 with ⟨rfl, h⟩ | h; exact .inl ⟨rfl, h⟩; exact .inr h) b0 b1 b2
      refine .quiet hM (u := .string (s.extract l.toNat h.toNat)) ?_ (.str _)
      simp only [execOp, ho, hv, Instr.sliceAt, Instr.slice, Sem.run_bind, run_underlying ht, Result.andThen_ok, Option.map_none, Option.isSome_none, Bool.false_eq_true, if_false, hb, Sem.run_pure]
    · cases hs
  · cases hs

theorem sliceArr_ok {t : TypeId} {n : Nat} {el : TypeId} (ht : S.P.underlying t = some (.array n el)) {x : Operand} {lo hi : Option Operand} {cx : Opd} {cl ch : Option Opd} (hx : cOpd x = some cx) (hl : oOpd lo = some cl) (hh : oOpd hi = some ch) (hρ : Rho S eb φ ρ f) (hM : MR S.errT eb φ M own w)
    (hs : bstep fresh M (.sliceArr n (S.P.cellsOf el) (f cx) (cl.map f) (ch.map f)) = some (p, e)) (hp : p) (ho : o.op = .slice t x lo hi none) : OpRes S eb φ own M fresh w e ((execOp ρ o).run S.P w) := by
  have vx := hρ x cx hx
  simp only [bstep] at hs
  split at hs
  · rename_i id ix sub l h h1 e1 e2
    rw [h1] at vx
    obtain ⟨hd, hv⟩ := ptr_inv vx
    split at hs
    · rename_i ro kk es hrow
      split at hs
      · rename_i hke
        simp only [Option.some.injEq, Prod.mk.injEq] at hs
        obtain ⟨rfl, rfl⟩ := hs
        obtain ⟨b0, b1, b2, b3, b4, b5⟩ := hp
        have hb := sliceBounds_run (S := S) (w := w) (isS := false) (len := n) (cap := n) (lo := lo.map ρ) (hi := hi.map ρ) (l := l) (h := h)
          (by rcases bound_run hl hρ e1 with ⟨rfl, h⟩ | h; exact .inl ⟨rfl, by simpa using h⟩; exact .inr h) (by rcases bound_run hh hρ e2 with ⟨rfl, h⟩ | h; exact .inl ⟨rfl, h⟩; exact .inr h) b0 b1 b2
        have hne : ¬ n = l.toNat := by omega
        refine .quiet hM (u := .slice (some ⟨φ.blk id, φ.base id + ix * φ.k id + (sub + l.toNat), none⟩) (h.toNat - l.toNat) (n - l.toNat)) ?_ (.isl _ _ _ _ _ hd (by omega))
        have hz : (Go.sizeOf el).run S.P w = .ok (S.P.cellsOf el) w := sizeOf_pos (by omega)
        simp only [execOp, ho, hv, Instr.sliceAt, Instr.sureAddr, Sem.run_bind, run_underlying ht, Result.andThen_ok, Sem.run_pure, Option.map_none, hb, hz, hne, if_false, add_lit, hke, Nat.mul_one, Nat.add_assoc]
      · cases hs
    · cases hs
  · cases hs

theorem slice_ok {t : TypeId} {el : TypeId} (ht : S.P.underlying t = some (.slice el)) {x : Operand} {lo hi mx : Option Operand} {cx : Opd} {cl ch cm : Option Opd} (hx : cOpd x = some cx) (hl : oOpd lo = some cl) (hh : oOpd hi = some ch) (hm : oOpd mx = some cm) (hρ : Rho S eb φ ρ f) (hM : MR S.errT eb φ M own w) (hz : S.P.cellsOf el ≠ 0)
    (hs : bstep fresh M (.slice (S.P.cellsOf el) (f cx) (cl.map f) (ch.map f) (cm.map f)) = some (p, e)) (hp : p) (ho : o.op = .slice t x lo hi mx) : OpRes S eb φ own M fresh w e ((execOp ρ o).run S.P w) := by
  have vx := hρ x cx hx
  have hsz : (Go.sizeOf el).run S.P w = .ok (S.P.cellsOf el) w := sizeOf_pos hz
  have shape : ∀ {a : Option Addr} {len cap : Nat} {l h m : Nat}, ρ x = .slice a len cap → (Instr.sliceBounds true len cap (lo.map ρ) (hi.map ρ) (mx.map ρ)).run S.P w = .ok (l, h, m) w →
      (execOp ρ o).run S.P w = .ok (.value (.slice (if m = l then a else a.map (·.add (l * S.P.cellsOf el))) (h - l) (m - l))) w := by
    intro a len cap l h m hv hb
    simp only [execOp, ho, hv, Instr.sliceAt, Instr.slice, Sem.run_bind, run_underlying ht, Result.andThen_ok, hb, hsz, Sem.run_pure]
  simp only [bstep] at hs
  split at hs
  · rename_i id ix len cap h1
    rw [h1] at vx
    obtain ⟨hd, hv⟩ := slc_inv vx
    split at hs
    · rename_i ro kk es hrow
      obtain ⟨hk, _⟩ := rowAt_k hM hrow
      split at hs
      · rename_i hke
        split at hs
        · rename_i hcm
          have hmx : mx = none := by
            cases mx with
            | none => rfl
            | some y =>
              simp only [oOpd, Option.map_eq_some_iff] at hm
              obtain ⟨c, _, rfl⟩ := hm
              simp at hcm
          subst hmx
          split at hs
          · rename_i l h e1 e2
            simp only [Option.some.injEq, Prod.mk.injEq] at hs
            obtain ⟨rfl, rfl⟩ := hs
            obtain ⟨b0, b1, b2⟩ := hp
            have hbl := bound_run hl hρ e1
            have hbh := bound_run hh hρ e2
            have hbl' : (lo.map ρ = none ∧ l = 0) ∨ ∃ k, lo.map ρ = some (.int k l) := by
              rcases hbl with ⟨rfl, h⟩ | h
              · exact .inl ⟨rfl, by simpa using h⟩
              · exact .inr h
            have hbh' : (hi.map ρ = none ∧ h = len) ∨ ∃ k, hi.map ρ = some (.int k h) := by
              rcases hbh with ⟨rfl, h⟩ | h
              · exact .inl ⟨rfl, h⟩
              · exact .inr h
            rcases hv with ⟨c, hv, hc, he, hs'⟩ | ⟨ad, hv, hl0, he⟩
            · have hb := sliceBounds_run (S := S) (w := w) (isS := true) (len := len) (cap := c) hbl' hbh' b0 b1 (by omega)
              have hr := shape hv hb
              by_cases hcl : c = l.toNat
              · rw [if_pos hcl] at hr
                have hhl : h.toNat - l.toNat = 0 := by omega
                rw [hhl, hcl, Nat.sub_self] at hr
                refine .quiet hM hr ?_
                rw [hhl]
                refine .slc0 _ _ _ _ hd ?_
                intro c0 hc0
                simp only [Option.map_eq_some_iff] at hc0
                obtain ⟨c1, hc1, rfl⟩ := hc0
                have := he c1 hc1
                omega
              · rw [if_neg hcl, Option.map_some, add_lit] at hr
                refine .quiet hM hr ?_
                have e3 : φ.base id + ix * φ.k id + l.toNat * S.P.cellsOf el = φ.base id + (ix + l.toNat) * φ.k id := by rw [hk, hke, Nat.add_mul, Nat.add_assoc]
                rw [e3]
                refine .slc _ _ _ _ _ hd (by omega) ?_ ?_
                · intro c0 hc0
                  simp only [Option.map_eq_some_iff] at hc0
                  obtain ⟨c1, hc1, rfl⟩ := hc0
                  rw [he c1 hc1]
                · rw [show ix + l.toNat + (c - l.toNat) = ix + c by omega]; exact hs'
            · subst hl0
              have hb := sliceBounds_run (S := S) (w := w) (isS := true) (len := 0) (cap := 0) hbl' hbh' b0 b1 (by omega)
              have hr := shape hv hb
              have z1 : l.toNat = 0 := by omega
              have z2 : h.toNat = 0 := by omega
              rw [z1, z2] at hr ⊢
              simp only [if_true, Nat.sub_zero] at hr ⊢
              refine .quiet hM hr (.slc0 _ _ _ _ hd ?_)
              intro c0 hc0
              simp only [Option.map_eq_some_iff] at hc0
              obtain ⟨c1, hc1, rfl⟩ := hc0
              have := he c1 hc1
              omega
          · cases hs
        · rename_i m' hcm
          split at hs
          · rename_i l h m e1 e2 e3
            simp only [Option.some.injEq, Prod.mk.injEq] at hs
            obtain ⟨rfl, rfl⟩ := hs
            obtain ⟨bs, b0, b1, b2, b3⟩ := hp
            have hbl := bound_run hl hρ e1
            have hbh := bound_run hh hρ e2
            have hbm := bound_run (d := 0) hm hρ (n := m) (by rw [hcm]; exact e3)
            have hbl' : (lo.map ρ = none ∧ l = 0) ∨ ∃ k, lo.map ρ = some (.int k l) := by
              rcases hbl with ⟨rfl, h⟩ | h
              · exact .inl ⟨rfl, by simpa using h⟩
              · exact .inr h
            obtain ⟨k1, hk1⟩ : ∃ k, hi.map ρ = some (.int k h) := by
              rcases hbh with ⟨rfl, _⟩ | h
              · simp only [oOpd, Option.some.injEq] at hh; subst hh; simp at bs
              · exact h
            obtain ⟨k2, hk2⟩ : ∃ k, mx.map ρ = some (.int k m) := by
              rcases hbm with ⟨rfl, _⟩ | h
              · simp only [oOpd, Option.some.injEq] at hm; subst hm; simp at hcm
              · exact h
            rcases hv with ⟨c, hv, hc, he, hs'⟩ | ⟨ad, hv, hl0, he⟩
            · have hb := sliceBounds_run3 (S := S) (w := w) (isS := true) (len := len) (cap := c) (k' := k1) (k'' := k2) hbl' b0 b1 b2 (by omega)
              rw [← hk1, ← hk2] at hb
              have hr := shape hv hb
              by_cases hcl : m.toNat = l.toNat
              · rw [if_pos hcl] at hr
                have hhl : h.toNat - l.toNat = 0 := by omega
                rw [hhl, hcl, Nat.sub_self] at hr
                refine .quiet hM hr ?_
                rw [hhl]
                refine .slc0 _ _ _ _ hd ?_
                intro c0 hc0
                simp only [Option.some.injEq] at hc0
                omega
              · rw [if_neg hcl, Option.map_some, add_lit] at hr
                refine .quiet hM hr ?_
                have e3 : φ.base id + ix * φ.k id + l.toNat * S.P.cellsOf el = φ.base id + (ix + l.toNat) * φ.k id := by rw [hk, hke, Nat.add_mul, Nat.add_assoc]
                rw [e3]
                refine .slc _ _ _ _ _ hd (by omega) ?_ ?_
                · intro c0 hc0; simp only [Option.some.injEq] at hc0; exact hc0
                · refine Nat.le_trans (Nat.add_le_add_left (Nat.mul_le_mul_right _ ?_) _) hs'
                  omega
            · subst hl0
              have hb := sliceBounds_run3 (S := S) (w := w) (isS := true) (len := 0) (cap := 0) (k' := k1) (k'' := k2) hbl' b0 b1 b2 (by omega)
              rw [← hk1, ← hk2] at hb
              have hr := shape hv hb
              have z1 : l.toNat = 0 := by omega
              have z2 : h.toNat = 0 := by omega
              have z3 : m.toNat = 0 := by omega
              rw [z1, z2, z3] at hr
              simp only [if_true, Nat.sub_zero] at hr
              rw [z1, z2, z3]
              refine .quiet hM hr (.slc0 _ _ _ _ hd ?_)
              intro c0 hc0
              simp at hc0
              omega
          · cases hs
      · cases hs
    · cases hs
  · rename_i h1
    rw [h1] at vx
    have hv := nils_inv vx
    split at hs
    · rename_i l h hcm e1 e2
      simp only [Option.some.injEq, Prod.mk.injEq] at hs
      obtain ⟨rfl, rfl⟩ := hs
      obtain ⟨rfl, rfl⟩ := hp
      have hmx : mx = none := by
        cases mx with
        | none => rfl
        | some y =>
          simp only [oOpd, Option.map_eq_some_iff] at hm
          obtain ⟨c, _, rfl⟩ := hm
          simp at hcm
      subst hmx
      have hbl := bound_run hl hρ e1
      have hbh := bound_run hh hρ e2
      have hb := sliceBounds_run (S := S) (w := w) (isS := true) (len := 0) (cap := 0) (lo := lo.map ρ) (hi := hi.map ρ) (l := 0) (h := 0)
        (by rcases hbl with ⟨rfl, _⟩ | h; exact .inl ⟨rfl, rfl⟩; exact .inr h) (by rcases hbh with ⟨rfl, _⟩ | h; exact .inl ⟨rfl, rfl⟩; exact .inr h) (by omega) (by omega) (by omega)
      have hr := shape hv hb
      exact .quiet hM (by simpa using hr) .nils
    · cases hs
  · cases hs

end AH
