import Derived.Test.YtdjcpmdjodhfeaaDoorAHOpB
set_option linter.unusedSimpArgs false
namespace AH
open Go
variable {S : Sys} {eb : Nat → Addr} {φ : Emb} {M : Nat → Option Blk} {own : Nat → Prop} {w : World} {ρ : Operand → Value} {f : Opd → AV} {o : Oper} {fresh : Nat} {p : Prop} {e : Eff}
variable {T : TypeId}

/-- An append without room: a new row. -/
theorem append_grows {t u ty el : TypeId} {i : TypeInfo} {z : Value} (ht : S.P.underlying t = some (.slice el)) {el' : TypeId} (hu : S.P.underlying u = some (.slice el')) (hi : S.P.info? el = some i) (hz : i.zero = some z)
    {b1 b2 : Option Addr} {c1 c2 : Nat} {xs ys : List (List AV)} {us vs : List Value} (hx : Row S eb φ w i.size xs b1 us) (hy : Row S eb φ w i.size ys b2 vs) (hg : c1 < xs.length + ys.length)
    (hb : (xs.length + ys.length) * i.bytes ≤ 140737488355328) (h63 : xs.length + ys.length ≤ 9223372036854775807) :
    (Builtin.append_ #[t, u] ty #[.slice b1 xs.length c1, .slice b2 ys.length c2]).run S.P w =
      .ok (.slice (some ⟨w.heap.size, 0, none⟩) (xs.length + ys.length) (grownCap w (xs.length + ys.length) c1 el))
        (w.drew.alloc (.cells ((us ++ vs).toArray ++ Builtin.zeroCells z.cells (grownCap w (xs.length + ys.length) c1 el - (xs.length + ys.length))) el)) := by
  have hn : ¬ (xs.length + ys.length ≤ c1) := by omega
  have h63' : ¬ (9223372036854775807 < ((xs.length : Int) + (ys.length : Int))) := by omega
  have h48' : ¬ (281474976710656 < Builtin.nextslicecap (xs.length + ys.length) c1 * i.bytes) := by have := growslice_fits hg hb; omega
  have hf := hy.first c2 ys.length (w' := w.drew) rfl
  have hfo := hx.first c1 xs.length (w' := w.drew) rfl
  simp [Builtin.append_, run_underlying ht, run_underlying hu, Go.sizeOf, typeInfo, zeroValue, hi, hz, Builtin.lenOf, hn, h63', h48', Question.forced, hf, hfo, newRow, grownCap]
  rw [show (us ++ vs).toArray = us.toArray ++ vs.toArray by simp, Array.append_assoc]

/-- An append with room behind a slice that is not nil. -/
theorem append_room {t u ty el : TypeId} {i : TypeInfo} (ht : S.P.underlying t = some (.slice el)) {el' : TypeId} (hu : S.P.underlying u = some (.slice el')) (hi : S.P.info? el = some i)
    {b off n1 : Nat} {b2 : Option Addr} {c1 c2 : Nat} {ys : List (List AV)} {vs : List Value} (hy : Row S eb φ w i.size ys b2 vs) (hg : n1 + ys.length ≤ c1)
    (hc : ∀ j, j < vs.length → (w.cell? ⟨b, off + n1 * i.size + j, none⟩).isSome = true) (hf : ∀ j, j < vs.length → w.frozen? ⟨b, off + n1 * i.size + j, none⟩ = false) :
    (Builtin.append_ #[t, u] ty #[.slice (some ⟨b, off, none⟩) n1 c1, .slice b2 ys.length c2]).run S.P w = .ok (.slice (some ⟨b, off, none⟩) (n1 + ys.length) c1) (w.setCells b (off + n1 * i.size) vs) := by
  have hfc := hy.first c2 ys.length (w' := w) rfl
  have hst := run_storeCells_cells (P := S.P) b (off + n1 * i.size) vs 0 w (by simpa using hc) (by simpa using hf) hy.one
  simp only [Nat.add_zero] at hst
  simp [Builtin.append_, run_underlying ht, run_underlying hu, Go.sizeOf, typeInfo, hi, Builtin.lenOf, hg, hfc, add_lit, hst]

/-- An append of nothing. -/
theorem append_none {t u ty el : TypeId} {i : TypeInfo} (ht : S.P.underlying t = some (.slice el)) {el' : TypeId} (hu : S.P.underlying u = some (.slice el')) (hi : S.P.info? el = some i)
    {b1 b2 : Option Addr} {n1 c1 c2 : Nat} {vs : List Value} (hy : Row S eb φ w i.size [] b2 vs) (hg : n1 ≤ c1) :
    (Builtin.append_ #[t, u] ty #[.slice b1 n1 c1, .slice b2 0 c2]).run S.P w = .ok (.slice b1 n1 c1) w := by
  have hfc := hy.first c2 0 (w' := w) rfl
  have hvs : vs = [] := by have := hy.len; simp at this; exact List.eq_nil_of_length_eq_zero (by simp [this])
  subst hvs
  simp only [List.length_nil] at hfc
  cases b1 <;> simp [Builtin.append_, run_underlying ht, run_underlying hu, Go.sizeOf, typeInfo, hi, Builtin.lenOf, hg, hfc, storeCells]

theorem Row.append {k : Nat} {xs ys : List (List AV)} {b1 b2 : Option Addr} {us vs : List Value} (hx : Row S eb φ w k xs b1 us) (hy : Row S eb φ w k ys b2 vs) :
    (us ++ vs).length = (xs ++ ys).length * k ∧ VRs S.errT eb φ (xs ++ ys).flatten (us ++ vs) ∧ (∀ u ∈ us ++ vs, u.oneCell' = true) ∧ ∀ x ∈ xs ++ ys, x.length = k := by
  refine ⟨by simp [hx.len, hy.len, Nat.add_mul], by rw [List.flatten_append]; exact hx.vrs.append hy.vrs, fun u hu => ?_, fun x hx' => ?_⟩
  · rcases List.mem_append.1 hu with h | h
    · exact hx.one u h
    · exact hy.one u h
  · rcases List.mem_append.1 hx' with h | h
    · exact hx.each x h
    · exact hy.each x h

/-- The new row that an append makes. -/
theorem grow_res (hM : MR S.errT eb φ M own w) (hk : ∀ b, w.heap.size ≤ b → own b) (hf : ¬ φ.dom fresh) {k : Nat} {xs : List (List AV)} {us : List Value} (hl : us.length = xs.length * k) (hv : VRs S.errT eb φ xs.flatten us) (hone : ∀ u ∈ us, u.oneCell' = true) (heach : ∀ x ∈ xs, x.length = k)
    {el : TypeId} {z : Value} (hzk : z.cells.size = k) {cap : Nat} (hcap : xs.length ≤ cap) {r : Result Next} {foot : List Nat} (hfoot : fresh ∈ foot)
    (hr : r = .ok (.value (.slice (some ⟨w.heap.size, 0, none⟩) xs.length cap)) (w.drew.alloc (.cells (us.toArray ++ Builtin.zeroCells z.cells (cap - xs.length)) el))) :
    OpRes S eb φ own M fresh w { val := .slc fresh 0 xs.length none, foot := foot, wr := [(fresh, some (.row false k xs))] } r := by
  have hzs : (Builtin.zeroCells z.cells (cap - xs.length)).size = (cap - xs.length) * k := by rw [← hzk]; simp [Builtin.zeroCells]
  have ext := Emb.add_ext (φ := φ) (b := w.heap.size) (base := 0) (k := k) (size := cap * k) hf
  have hsum : us.length + (Builtin.zeroCells z.cells (cap - xs.length)).size = cap * k := by rw [hzs, hl, ← Nat.add_mul]; congr 1; omega
  refine new_run hM hk hf (w1 := w.drew) rfl .drew (k := k) (size := cap * k) hfoot (br_row (S := S) _ (by simp [Emb.add]) (by simp [Emb.add]) (by simp [Emb.add, hsum]) hl (hv.mono ext) hone heach (.inr rfl)) ?_ hr
  have := VR.slc (T := S.errT) (eb := eb) (φ := φ.add fresh w.heap.size 0 k (cap * k)) fresh 0 xs.length none cap (.inr rfl) hcap (by simp) (by simp [Emb.add])
  simpa [Emb.add] using this

theorem OpRes.foot {v : AV} {wr : List (Nat × Option Blk)} {f1 f2 : List Nat} {r : Result Next} (h : OpRes S eb φ own M fresh w { val := v, foot := f1, wr := wr } r) : OpRes S eb φ own M fresh w { val := v, foot := f2, wr := wr } r := by
  obtain ⟨u, φ', w', h1, h2, h3, h4, h5, h6⟩ := h
  exact ⟨u, φ', w', h1, h2, h3, h4, h5, h6⟩

/-- Cells of a row of one's own, by their places. -/
theorem row_cells (hM : MR S.errT eb φ M own w) {id k : Nat} {es : List (List AV)} (hm : M id = some (.row false k es)) {o n : Nat} (hfit : o + n ≤ φ.size id) :
    (∀ j, j < n → (w.cell? ⟨φ.blk id, o + j, none⟩).isSome = true) ∧ (∀ j, j < n → w.frozen? ⟨φ.blk id, o + j, none⟩ = false) := by
  obtain ⟨ob, hob, arr, et, fr, rfl, hk, hz, hsz, hfr, hel⟩ := hM.blk id _ hm
  refine ⟨fun j hj => ?_, fun j hj => ?_⟩
  · have : o + j < arr.size := by omega
    simp [World.cell?, hob, Array.getElem?_eq_getElem this]
  · have := hfr rfl (o + j) (by omega)
    simp only [World.frozen?, hob]
    simpa using this

/-- A row's block under a new number, with other elements from a place on. -/
theorem rename_row (hM : MR S.errT eb φ M own w) (hf : ¬ φ.dom fresh) {id k : Nat} {es : List (List AV)} (hm : M id = some (.row false k es)) {o : Nat} {vs : List Value} {base : Nat} {xs : List (List AV)}
    (hbase : base + xs.length * k ≤ φ.size id)
    (hel : ∀ (arr : Array Value), arr.size = φ.size id → (∀ (i : Nat) el, es[i]? = some el → el.length = k ∧ CellsAt S.errT eb φ arr (φ.base id + i * k) el) → ∀ (i : Nat) el, xs[i]? = some el → el.length = k ∧ CellsAt S.errT eb φ (arrSet arr o vs) (base + i * k) el) :
    MR S.errT eb (φ.add fresh (φ.blk id) base k (φ.size id)) (applyF M [(id, none), (fresh, some (.row false k xs))]) own (w.setCells (φ.blk id) o vs) ∧ StepK own w (w.setCells (φ.blk id) o vs) := by
  have ext := Emb.add_ext (φ := φ) (b := φ.blk id) (base := base) (k := k) (size := φ.size id) hf
  have hown := hM.own id _ hm rfl
  have hdom := hM.dom id _ hm
  obtain ⟨ob, hob, arr, et, fr, rfl, hk, hz, hsz, hfr, hcell⟩ := hM.blk id _ hm
  refine ⟨?_, .setCells hown _ _⟩
  have hne : ∀ {i b}, applyF M [(id, none), (fresh, some (.row false k xs))] i = some b → i ≠ fresh → i ≠ id ∧ M i = some b := by
    intro i b hb hi
    simp only [applyF, if_neg hi] at hb
    by_cases h : i = id
    · simp [h] at hb
    · simp only [if_neg h] at hb; exact ⟨h, hb⟩
  refine ⟨?_, ?_, ?_, ?_⟩
  · intro i b hb
    by_cases hi : i = fresh
    · exact .inr hi
    · exact .inl (hM.dom i b (hne hb hi).2)
  · intro i b hb
    by_cases hi : i = fresh
    · subst hi
      simp only [applyF, if_true, Option.some.injEq] at hb
      subst hb
      refine ⟨.cells (arrSet arr o vs) et fr, by simpa [Emb.add] using heap_setCells (φ.blk id) et fr vs o w arr hob, _, et, fr, rfl, by simp [Emb.add], by simp [Emb.add, arrSet_size, hz], by simp [Emb.add, arrSet_size]; omega,
        fun _ p hp => hfr rfl p (by rw [arrSet_size] at hp; exact hp), fun j el hj => ?_⟩
      obtain ⟨g1, g2⟩ := hel arr hz hcell j el hj
      refine ⟨g1, fun q v hv => ?_⟩
      obtain ⟨u, h1, h2, h3⟩ := g2 q v hv
      exact ⟨u, by simpa [Emb.add] using h1, h2.mono ext, h3⟩
    · obtain ⟨h1, h2⟩ := hne hb hi
      obtain ⟨ob', h3, h4⟩ := hM.blk i b h2
      refine ⟨ob', ?_, h4.mono ext (hM.dom i b h2)⟩
      simp only [Emb.add, if_neg hi]
      rw [heap_setCells_ne _ _ (fun q => hM.inj id i _ b hm h2 (Ne.symm h1) rfl q.symm)]
      exact h3
  · intro i b hb hr
    by_cases hi : i = fresh
    · subst hi; simpa [Emb.add] using hown
    · simp only [Emb.add, if_neg hi]
      exact hM.own i b (hne hb hi).2 hr
  · intro i j b b' hb hb' hij hr
    by_cases hi : i = fresh
    · subst hi
      have hj : j ≠ i := fun q => hij q.symm
      obtain ⟨h1, h2⟩ := hne hb' hj
      simp only [Emb.add, if_true, if_neg hj]
      exact hM.inj id j _ b' hm h2 (Ne.symm h1) rfl
    · obtain ⟨h1, h2⟩ := hne hb hi
      by_cases hj : j = fresh
      · subst hj
        simp only [Emb.add, if_true, if_neg hi]
        exact hM.inj i id b _ h2 hm h1 hr
      · obtain ⟨g1, g2⟩ := hne hb' hj
        simp only [Emb.add, if_neg hi, if_neg hj]
        exact hM.inj i j b b' h2 g2 hij hr

theorem append_ok {t u el : TypeId} {el' : TypeId} {z : List AV} (ht : S.P.underlying t = some (.slice el)) (hu : S.P.underlying u = some (.slice el')) (hz : zeroCells S.P el = some z) {x y : Operand} {cx cy : Opd} (hx : cOpd x = some cx) (hy : cOpd y = some cy) (hρ : Rho S eb φ ρ f)
    (hM : MR S.errT eb φ M own w) (hk : ∀ b, w.heap.size ≤ b → own b) (hf : fresh ∈ e.foot → ¬ φ.dom fresh)
    (hs : bstep fresh M (.append (S.P.cellsOf el) (S.P.bytesOf el) z (f cx) (f cy)) = some (p, e)) (hp : p) {rt : TypeId}
    (hres : (execOp ρ o).run S.P w = ((Builtin.append_ #[t, u] rt #[ρ x, ρ y]).run S.P w).andThen fun v w' => .ok (.value v) w') : OpRes S eb φ own M fresh w e ((execOp ρ o).run S.P w) := by
  have vx := hρ x cx hx
  have vy := hρ y cy hy
  obtain ⟨i, zv, hi, hzv, hzrun, hvr, hone, hlen, hzl⟩ := zeroCells_run (S := S) (eb := eb) (φ := φ) (w := w) hz
  have hby : S.P.bytesOf el = i.bytes := by simp [Program.bytesOf, hi]
  have hsi : S.P.cellsOf el = i.size := by simp [Program.cellsOf, hi]
  rw [hsi, hby] at hs
  rw [hsi] at hlen
  have hzk : zv.cells.size = i.size := by omega
  rw [hres]
  simp only [bstep] at hs
  split at hs
  · rename_i q1 f1 xs q2 f2 ys hsx hsy
    split at hs
    · -- nil
      rename_i hnil
      rw [hnil] at vx hsx
      have hvx := nils_inv vx
      simp only [sliceElems, Option.some.injEq, Prod.mk.injEq] at hsx
      obtain ⟨_, _, rfl⟩ := hsx
      simp only [Option.some.injEq, Prod.mk.injEq] at hs
      obtain ⟨rfl, rfl⟩ := hs
      obtain ⟨hq2, hz1, hz2, hb, h63⟩ := hp
      obtain ⟨b2, c2, vs, hvy, hrow⟩ := sliceElems_run hM hsy hq2 vy
      have hrow0 : Row S eb φ w i.size [] none [] := ⟨by simp, .nil, by simp, .inl ⟨rfl, rfl⟩, by simp⟩
      cases ys with
      | nil =>
        have := append_none (S := S) (ty := rt) ht hu hi (b1 := none) (n1 := 0) (c1 := 0) (c2 := c2) hrow (Nat.le_refl _)
        simp only [List.length_nil] at hvy
        exact .quiet hM (u := .slice none 0 0) (by rw [hvx, hvy, this]; rfl) .nils
      | cons a r =>
        have hg := append_grows (S := S) (ty := rt) ht hu hi hzv (c1 := 0) (c2 := c2) hrow0 hrow (by simp) (by simpa using hb) (by simpa using h63)
        simp only [List.length_nil, Nat.zero_add, List.nil_append] at hg
        exact grow_res (S := S) hM hk (hf (by simp)) hrow.len hrow.vrs hrow.one hrow.each hzk (grownCap_ge w _ 0 el) (by simp) (by rw [hvx, hvy, hg]; rfl)
    · rename_i id ix len cap hslc
      rw [hslc] at vx hsx
      split at hs
      · -- the capacity is known
        rename_i c
        simp only [Option.some.injEq, Prod.mk.injEq] at hs
        obtain ⟨rfl, rfl⟩ := hs
        obtain ⟨hq1, hq2, hz1, hz2, rfl, hb, h63⟩ := hp
        obtain ⟨b1, c1, us, hvx, hrx⟩ := sliceElems_run hM hsx hq1 vx
        obtain ⟨b2, c2, vs, hvy, hrow⟩ := sliceElems_run hM hsy hq2 vy
        have hlx : xs.length = c ∧ c1 = c := by
          obtain ⟨_, hu⟩ := slc_inv vx
          rcases hu with ⟨c', h1, h2, h3, _⟩ | ⟨ad, h1, rfl, h3⟩
          · rw [hvx] at h1
            cases h1
            exact ⟨rfl, h3 _ rfl⟩
          · rw [hvx] at h1
            simp only [Value.slice.injEq] at h1
            exact ⟨h1.2.1, h1.2.2⟩
        obtain ⟨hl1, rfl⟩ := hlx
        cases ys with
        | nil =>
          have := append_none (S := S) (ty := rt) ht hu hi (b1 := b1) (n1 := xs.length) (c1 := c1) (c2 := c2) hrow (by omega)
          simp only [List.length_nil] at hvy
          refine .quiet hM (u := ρ x) (by rw [hvx, hvy, this]; rfl) ?_
          rw [hslc]; exact vx
        | cons a r =>
          have hg := append_grows (S := S) (ty := rt) ht hu hi hzv (c1 := c1) (c2 := c2) hrx hrow (by simp; omega) hb h63
          obtain ⟨a1, a2, a3, a4⟩ := hrx.append hrow
          refine grow_res (S := S) (el := el) hM hk (hf (by simp)) a1 a2 a3 a4 hzk (cap := grownCap w (xs.length + (a :: r).length) c1 el) (by rw [List.length_append]; exact grownCap_ge w _ _ el) (by simp) ?_
          rw [hvx, hvy, hg, List.length_append]; rfl
      · split at hs
        · rename_i k es hrow0
          simp only [Option.some.injEq, Prod.mk.injEq] at hs
          obtain ⟨rfl, rfl⟩ := hs
          obtain ⟨hq1, hq2, hz1, hz2, hb, h63⟩ := hp
          obtain ⟨b1, c1, us, hvx, hrx⟩ := sliceElems_run hM hsx hq1 vx
          obtain ⟨b2, c2, vs, hvy, hrow⟩ := sliceElems_run hM hsy hq2 vy
          obtain ⟨hkk, hm⟩ := rowAt_k hM hrow0
          have hfr : ¬ φ.dom fresh := hf (by simp)
          obtain ⟨a1, a2, a3, a4⟩ := hrx.append hrow
          by_cases hroom : xs.length + ys.length ≤ c1
          · -- there is room
            have hxs : k = i.size ∧ ix + len ≤ es.length ∧ (es.drop ix).take len = xs := by
              simp only [sliceElems, hrow0] at hsx
              split at hsx
              · rename_i h1
                simp only [Option.some.injEq, Prod.mk.injEq] at hsx
                exact ⟨h1, by rw [hsx.1]; exact hq1, hsx.2.2⟩
              · cases hsx
            obtain ⟨rfl, hfits, hxs⟩ := hxs
            have hlx : xs.length = len := by rw [← hxs]; simp; omega
            have hvl := hrow.len
            obtain ⟨hd, hval⟩ := slc_inv vx
            rcases hval with ⟨c', e1, e2, _, e4⟩ | ⟨ad, e1, rfl, _⟩
            · rw [hvx] at e1
              simp only [Value.slice.injEq] at e1
              obtain ⟨rfl, _, rfl⟩ := e1
              rw [hkk] at e4
              have hmul : (ix + (xs.length + ys.length)) * i.size ≤ (ix + c1) * i.size := Nat.mul_le_mul_right _ (by omega)
              simp only [Nat.add_mul] at hmul e4
              have hfit : φ.base id + ix * i.size + xs.length * i.size + vs.length ≤ φ.size id := by rw [hvl]; omega
              obtain ⟨g1, g2⟩ := row_cells hM hm hfit
              rw [hkk] at hvx
              have hrun := append_room (S := S) (ty := rt) (n1 := xs.length) (off := φ.base id + ix * i.size) (b := φ.blk id) (c1 := c1) (c2 := c2) ht hu hi hrow hroom g1 g2
              obtain ⟨m1, m2⟩ := rename_row (S := S) hM hfr hm (o := φ.base id + ix * i.size + xs.length * i.size) (vs := vs) (base := φ.base id + ix * i.size) (xs := xs ++ ys) (by simp only [List.length_append, Nat.add_mul]; omega) (by
                intro arr harr hcell j el' hj
                refine ⟨a4 el' (List.mem_of_getElem? hj), fun q v hv => ?_⟩
                have hel := a4 el' (List.mem_of_getElem? hj)
                have hq : q < i.size := by rw [← hel]; exact (List.getElem?_eq_some_iff.1 hv).1
                rw [arrSet_get _ _ _ _ (by rw [harr]; exact hfit)]
                by_cases hjx : j < xs.length
                · rw [List.getElem?_append_left hjx, ← hxs, List.getElem?_take, if_pos (by omega), List.getElem?_drop] at hj
                  obtain ⟨h1, h2⟩ := hcell _ _ hj
                  obtain ⟨u, k1, k2, k3⟩ := h2 q v hv
                  refine ⟨u, ?_, k2, k3⟩
                  have hb : (j + 1) * i.size ≤ xs.length * i.size := Nat.mul_le_mul_right _ (by omega)
                  rw [Nat.add_mul, Nat.one_mul] at hb
                  rw [if_neg (by omega), ← k1]
                  congr 1
                  rw [Nat.add_mul]; omega
                · rw [List.getElem?_append_right (by omega)] at hj
                  have hjl := (List.getElem?_eq_some_iff.1 hj).1
                  have hg := flatten_get hrow.each hj
                  have hvv := (hrow.vrs.drop ((j - xs.length) * i.size)).take i.size
                  rw [hg] at hvv
                  obtain ⟨u, k1, k2⟩ := hvv.get q v hv
                  have hk1 : vs[(j - xs.length) * i.size + q]? = some u := by
                    rw [List.getElem?_take, if_pos hq, List.getElem?_drop] at k1
                    exact k1
                  have hb : (j - xs.length + 1) * i.size ≤ ys.length * i.size := Nat.mul_le_mul_right _ (by omega)
                  rw [Nat.add_mul, Nat.one_mul] at hb
                  have hj2 : j * i.size = xs.length * i.size + (j - xs.length) * i.size := by rw [← Nat.add_mul]; congr 1; omega
                  refine ⟨u, ?_, k2, hrow.one u (List.mem_of_getElem? hk1)⟩
                  rw [if_pos (by omega), ← hk1]
                  congr 1
                  omega)
              refine ⟨.slice (some ⟨φ.blk id, φ.base id + ix * i.size, none⟩) (xs.length + ys.length) c1, _, _, .inl ?_, ?_, m1, m2, Emb.add_ext hfr, ?_⟩
              · rw [hvx, hvy, hrun]; rfl
              · have := VR.slc (T := S.errT) (eb := eb) (φ := φ.add fresh (φ.blk id) (φ.base id + ix * i.size) i.size (φ.size id)) fresh 0 (xs ++ ys).length none c1 (.inr rfl) (by simpa using hroom) (by simp) (by simp [Emb.add]; omega)
                simpa [Emb.add] using this
              · intro j hj
                rcases hj with h | h
                · exact .inl h
                · exact .inr ⟨h, by simp⟩
            · have hx0 : xs = [] := List.eq_nil_of_length_eq_zero hlx
              rw [hvx] at e1
              simp only [Value.slice.injEq] at e1
              obtain ⟨rfl, _, rfl⟩ := e1
              have hy0 : ys = [] := List.eq_nil_of_length_eq_zero (by omega)
              subst hx0 hy0
              obtain ⟨m1, m2⟩ := rename_row (S := S) hM hfr hm (o := 0) (vs := []) (base := 0) (xs := []) (by simp) (by intro _ _ _ j el hj; simp at hj)
              have := append_none (S := S) (ty := rt) ht hu hi (b1 := b1) (n1 := 0) (c1 := 0) (c2 := c2) hrow (Nat.le_refl _)
              simp only [List.length_nil] at hvx hvy
              refine ⟨.slice b1 0 0, _, _, .inl ?_, VR.slc0 (φ := φ.add fresh (φ.blk id) 0 i.size (φ.size id)) _ _ _ _ (.inr rfl) (by simp), m1, m2, Emb.add_ext hfr, ?_⟩
              · rw [hvx, hvy, this]; rfl
              · intro j hj
                rcases hj with h | h
                · exact .inl h
                · exact .inr ⟨h, by simp⟩
          · have hg := append_grows (S := S) (ty := rt) ht hu hi hzv (c1 := c1) (c2 := c2) hrx hrow (by omega) hb h63
            have := grow_res (S := S) (foot := [fresh]) (hM.dead id) hk hfr a1 a2 a3 a4 hzk (cap := grownCap w (xs.length + ys.length) c1 el) (by rw [List.length_append]; exact grownCap_ge w _ _ el) (by simp) (r := .ok (.value (.slice (some ⟨w.heap.size, 0, none⟩) (xs ++ ys).length (grownCap w (xs.length + ys.length) c1 el)))
                (w.drew.alloc (.cells ((us ++ vs).toArray ++ Builtin.zeroCells zv.cells (grownCap w (xs.length + ys.length) c1 el - (xs ++ ys).length)) el))) rfl
            obtain ⟨u', φ', w', h1, h2, h3, h4, h5, h6⟩ := this
            refine ⟨u', φ', w', ?_, h2, h3, h4, h5, fun id hid => (h6 id hid).imp (fun q => q) fun q => ⟨q.1, by simp⟩⟩
            rw [hvx, hvy, hg]
            rw [List.length_append] at h1
            exact h1
        · cases hs
    · cases hs
  · cases hs

theorem Row.take {k : Nat} {xs : List (List AV)} {base : Option Addr} {us : List Value} (h : Row S eb φ w k xs base us) (n : Nat) : Row S eb φ w k (xs.take n) base (us.take (n * k)) := by
  have hsplit : (xs.take n).flatten = xs.flatten.take (n * k) := by
    have he := h.each
    clear h
    induction xs generalizing n with
    | nil => simp
    | cons x xs ih =>
      cases n with
      | zero => simp
      | succ n =>
        have hx := he x (by simp)
        have e1 : x.take ((n + 1) * k) = x := List.take_of_length_le (by rw [hx, Nat.add_mul]; omega)
        have e2 : (n + 1) * k - x.length = n * k := by rw [hx, Nat.add_mul]; omega
        rw [List.take_succ_cons, List.flatten_cons, List.flatten_cons, List.take_append, e1, e2, ih n fun y hy => he y (by simp [hy])]
  refine ⟨?_, by rw [hsplit]; exact h.vrs.take _, fun u hu => h.one u (List.mem_of_mem_take hu), ?_, fun x hx => h.each x (List.mem_of_mem_take hx)⟩
  · rw [List.length_take, List.length_take, h.len]
    rcases Nat.le_total n xs.length with hn | hn
    · rw [Nat.min_eq_left hn, Nat.min_eq_left (Nat.mul_le_mul_right _ hn)]
    · rw [Nat.min_eq_right hn, Nat.min_eq_right (Nat.mul_le_mul_right _ hn)]
  · rcases h.at_ with ⟨h1, h2⟩ | ⟨a, h1, h2⟩
    · exact .inl ⟨h1, by simp [h2]⟩
    · refine .inr ⟨a, h1, fun j u hj => ?_⟩
      rw [List.getElem?_take] at hj
      split at hj
      · exact h2 j u hj
      · cases hj

theorem copy_ok {t u el : TypeId} (ht : S.P.underlying t = some (.slice el)) {td : TypeDesc} (hel : S.P.underlying el = some td) {x y : Operand} {cx cy : Opd} (hx : cOpd x = some cx) (hy : cOpd y = some cy) (hρ : Rho S eb φ ρ f)
    (hM : MR S.errT eb φ M own w) (hs : bstep fresh M (.copy (S.P.cellsOf el) (f cx) (f cy)) = some (p, e)) (hp : p) {rt : TypeId}
    (hres : (execOp ρ o).run S.P w = ((Builtin.copy_ #[t, u] rt #[ρ x, ρ y]).run S.P w).andThen fun v w' => .ok (.value v) w') : OpRes S eb φ own M fresh w e ((execOp ρ o).run S.P w) := by
  have vx := hρ x cx hx
  have vy := hρ y cy hy
  obtain ⟨i, hi⟩ := Option.isSome_iff_exists.1 (info_of_underlying hel)
  have hsi : S.P.cellsOf el = i.size := by simp [Program.cellsOf, hi]
  rw [hsi] at hs
  rw [hres]
  simp only [bstep] at hs
  split at hs
  · rename_i id ix len cap q g ys hxe hsy
    rw [hxe] at vx
    split at hs
    · rename_i k es hrow0
      split at hs
      · rename_i hkk
        subst hkk
        simp only [Option.some.injEq, Prod.mk.injEq] at hs
        obtain ⟨rfl, rfl⟩ := hs
        obtain ⟨hq, hfits⟩ := hp
        obtain ⟨b2, c2, vs, hvy, hrow⟩ := sliceElems_run hM hsy hq vy
        obtain ⟨hk, hm⟩ := rowAt_k hM hrow0
        have hrt := hrow.take len
        have hml : (ys.take len).length = min ys.length len := by rw [List.length_take, Nat.min_comm]
        have hfc := hrt.first c2 ys.length (w' := w) rfl
        rw [hml] at hfc
        obtain ⟨hd, hval⟩ := slc_inv vx
        rcases hval with ⟨c', e1, e2, _, e4⟩ | ⟨ad, e1, rfl, _⟩
        · obtain ⟨ob, hob, arr, et, fr, rfl, hk', hz, hsz, hfr, hcell⟩ := hM.blk id _ hm
          have hvl : (vs.take (len * i.size)).length = min ys.length len * i.size := by rw [hrt.len, hml]
          rw [hk] at e4
          have hmul : (ix + min ys.length len) * i.size ≤ es.length * i.size := Nat.mul_le_mul_right _ (by omega)
          rw [Nat.add_mul] at hmul
          have hfit : φ.base id + ix * i.size + (vs.take (len * i.size)).length ≤ φ.size id := by rw [hvl]; omega
          obtain ⟨g1, g2⟩ := row_cells hM hm hfit
          have hst := run_storeCells_cells (P := S.P) (φ.blk id) (φ.base id + ix * i.size) (vs.take (len * i.size)) 0 w (by simpa using g1) (by simpa using g2) hrt.one
          simp only [Nat.add_zero] at hst
          refine ⟨.int .i64 (min ys.length len : Nat), φ, w.setCells (φ.blk id) (φ.base id + ix * i.size) (vs.take (len * i.size)), .inl ?_, .int _ _, ?_, .setCells (hM.own id _ hm rfl) _ _, .refl φ, fun _ h => .inl h⟩
          · rw [hk] at e1
            rw [e1, hvy]
            simp [Builtin.copy_, run_underlying ht, Builtin.lenOf, Go.sizeOf, typeInfo, hi, hst, hfc, show Nat.min ys.length len = min ys.length len from rfl]
            rfl
          · refine MR.turn hM hm rfl (heap_setCells _ et fr _ _ w arr hob) (fun c hc => heap_setCells_ne _ c hc _ _ w) ?_
            refine ⟨_, et, fr, rfl, hk, by rw [arrSet_size]; exact hz, ?_, fun _ q hq => hfr rfl q (by rw [arrSet_size] at hq; exact hq), ?_⟩
            · rw [arrSet_size]
              refine Nat.le_trans (Nat.add_le_add_left (Nat.mul_le_mul_right _ ?_) _) hsz
              simp only [List.length_append, List.length_take, List.length_drop]
              omega
            · intro j el' hj
              have hcase : (ix ≤ j ∧ j < ix + min ys.length len ∧ (ys.take len)[j - ix]? = some el') ∨ ((j < ix ∨ ix + min ys.length len ≤ j) ∧ es[j]? = some el') := by
                have htl : (es.take ix).length = ix := by simp; omega
                by_cases h1 : j < ix
                · right
                  rw [List.append_assoc, List.getElem?_append_left (by omega), List.getElem?_take, if_pos h1] at hj
                  exact ⟨.inl h1, hj⟩
                · rw [List.append_assoc, List.getElem?_append_right (by omega), htl] at hj
                  by_cases h2 : j < ix + min ys.length len
                  · left
                    rw [List.getElem?_append_left (by rw [hml]; omega)] at hj
                    exact ⟨by omega, h2, hj⟩
                  · right
                    rw [List.getElem?_append_right (by rw [hml]; omega), hml, List.getElem?_drop] at hj
                    refine ⟨.inr (by omega), ?_⟩
                    rw [← hj]; congr 1; omega
              rcases hcase with ⟨h1, h2, h3⟩ | ⟨h1, h3⟩
              · refine ⟨hrt.each el' (List.mem_of_getElem? h3), fun q v hv => ?_⟩
                have hel' := hrt.each el' (List.mem_of_getElem? h3)
                have hq' : q < i.size := by rw [← hel']; exact (List.getElem?_eq_some_iff.1 hv).1
                have hg := flatten_get hrt.each h3
                have hvv := (hrt.vrs.drop ((j - ix) * i.size)).take i.size
                rw [hg] at hvv
                obtain ⟨u, k1, k2⟩ := hvv.get q v hv
                have hk1 : (vs.take (len * i.size))[(j - ix) * i.size + q]? = some u := by
                  rw [List.getElem?_take, if_pos hq', List.getElem?_drop] at k1
                  exact k1
                have hb : (j - ix + 1) * i.size ≤ min ys.length len * i.size := Nat.mul_le_mul_right _ (by omega)
                rw [Nat.add_mul, Nat.one_mul] at hb
                have hj2 : j * i.size = ix * i.size + (j - ix) * i.size := by rw [← Nat.add_mul]; congr 1; omega
                refine ⟨u, ?_, k2, hrt.one u (List.mem_of_getElem? hk1)⟩
                rw [arrSet_get _ _ _ _ (by rw [hz]; exact hfit), if_pos (by omega), ← hk1]
                congr 1
                omega
              · obtain ⟨r1, r2⟩ := hcell j el' h3
                refine ⟨r1, fun q v hv => ?_⟩
                have hq' : q < i.size := by rw [← r1]; exact (List.getElem?_eq_some_iff.1 hv).1
                obtain ⟨u, k1, k2, k3⟩ := r2 q v hv
                refine ⟨u, ?_, k2, k3⟩
                rw [arrSet_get _ _ _ _ (by rw [hz]; exact hfit), if_neg, ← k1]
                rcases h1 with h1 | h1
                · have hb : (j + 1) * i.size ≤ ix * i.size := Nat.mul_le_mul_right _ (by omega)
                  rw [Nat.add_mul, Nat.one_mul] at hb
                  omega
                · have hb : (ix + min ys.length len) * i.size ≤ j * i.size := Nat.mul_le_mul_right _ h1
                  rw [Nat.add_mul] at hb
                  omega
        · have hn0 : min ys.length 0 = 0 := Nat.min_zero _
          rw [hn0] at hfc
          have hsame : applyF M [(id, some (.row false i.size (es.take ix ++ ys.take 0 ++ es.drop (ix + min ys.length 0))))] = M := by
            funext j
            simp only [applyF, List.take_zero, List.append_nil, hn0, Nat.add_zero, List.take_append_drop]
            split
            · rename_i h; rw [h, hm]
            · rfl
          refine ⟨.int .i64 (min ys.length 0 : Nat), φ, w, .inl ?_, .int _ _, by rw [hsame]; exact hM, .refl, .refl φ, fun _ h => .inl h⟩
          rw [e1, hvy]
          cases ad <;> simp [Builtin.copy_, run_underlying ht, Builtin.lenOf, Go.sizeOf, typeInfo, hi, show Nat.min ys.length 0 = 0 from Nat.min_zero _, hfc, storeCells] <;> rfl
      · cases hs
    · cases hs
  · rename_i q g ys hxe hsy
    rw [hxe] at vx
    have hvx := nils_inv vx
    simp only [Option.some.injEq, Prod.mk.injEq] at hs
    obtain ⟨rfl, rfl⟩ := hs
    obtain ⟨b2, c2, vs, hvy, hrow⟩ := sliceElems_run hM hsy hp vy
    have hfc := (hrow.take 0).first c2 ys.length (w' := w) rfl
    simp only [List.take_zero, List.length_nil] at hfc
    refine .quiet hM (u := .int .i64 0) ?_ (.int _ _)
    rw [hvx, hvy]
    simp [Builtin.copy_, run_underlying ht, Builtin.lenOf, Go.sizeOf, typeInfo, hi, show Nat.min ys.length 0 = 0 from Nat.min_zero _, hfc]
    rfl
  · cases hs

end AH
