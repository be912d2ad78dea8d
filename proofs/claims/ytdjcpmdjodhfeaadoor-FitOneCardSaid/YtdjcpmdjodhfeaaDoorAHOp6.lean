import Derived.Test.YtdjcpmdjodhfeaaDoorAHOp5
set_option linter.unusedSimpArgs false
namespace AH
open Go
variable {S : Sys} {eb : Nat → Addr} {φ : Emb} {M : Nat → Option Blk} {own : Nat → Prop} {w : World} {ρ : Operand → Value} {f : Opd → AV} {o : Oper} {fresh : Nat} {p : Prop} {e : Eff}

theorem scalarV_vr {v : Value} {a : AV} (h : scalarV v = some a) : VR S.errT eb φ a v ∧ v.oneCell' = true := by
  unfold scalarV at h
  split at h <;> simp only [Option.some.injEq, reduceCtorEq] at h <;> subst h <;> exact ⟨by constructor, rfl⟩

theorem scalarVs_vr : ∀ {vs : List Value} {as : List AV}, vs.mapM scalarV = some as → VRs S.errT eb φ as vs ∧ ∀ v ∈ vs, v.oneCell' = true
  | [], as, h => by simp at h; subst h; exact ⟨.nil, by simp⟩
  | v :: vs, as, h => by
    rw [List.mapM_cons] at h
    simp only [bind, Option.bind_eq_some_iff, pure, Option.some.injEq] at h
    obtain ⟨c, hc, cs', hcs, rfl⟩ := h
    obtain ⟨h1, h2⟩ := scalarV_vr (S := S) (eb := eb) (φ := φ) hc
    obtain ⟨g1, g2⟩ := scalarVs_vr hcs
    exact ⟨.cons _ _ _ _ h1 g1, fun x hx => by simp at hx; rcases hx with rfl | hx; exact h2; exact g2 x hx⟩

theorem ofValue_vr {v : Value} {a : AV} (h : ofValue v = some a) : VR S.errT eb φ a v := by
  unfold ofValue at h
  split at h
  · simp only [Option.map_eq_some_iff] at h
    obtain ⟨cs, hcs, rfl⟩ := h
    obtain ⟨h1, h2⟩ := scalarVs_vr (S := S) (eb := eb) (φ := φ) hcs
    exact .agg _ _ h1 h2
  · split at h
    · split at h
      · rename_i first cap _ _ hz
        simp only [Option.some.injEq] at h
        subst h
        have e1 : first = #[] := Array.eq_empty_of_size_eq_zero hz.1
        have e2 : cap = #[] := Array.eq_empty_of_size_eq_zero hz.2
        subst e1 e2
        exact .fn _ _ _ _ _ .nil .nil
      · cases h
    · cases h
  · exact (scalarV_vr h).1

theorem zeroAV_run {t : TypeId} {a : AV} (h : zeroAV S.P t = some a) : ∃ z, (zeroValue t).run S.P w = .ok z w ∧ VR S.errT eb φ a z := by
  simp only [zeroAV, bind, Option.bind_eq_some_iff] at h
  obtain ⟨i, hi, z, hz, ha⟩ := h
  exact ⟨z, by simp [zeroValue, typeInfo, hi, hz], ofValue_vr ha⟩

theorem zeroCells_run {t : TypeId} {cs : List AV} (h : zeroCells S.P t = some cs) : ∃ i z, S.P.info? t = some i ∧ i.zero = some z ∧ (zeroValue t).run S.P w = .ok z w ∧ VRs S.errT eb φ cs z.cells.toList ∧ (∀ u ∈ z.cells.toList, u.oneCell' = true) ∧ cs.length = S.P.cellsOf t ∧ z.cells.size = cs.length := by
  simp only [zeroCells, bind, Option.bind_eq_some_iff] at h
  obtain ⟨i, hi, z, hz, cs', hcs, hl⟩ := h
  split at hl
  · rename_i hlen
    simp only [Option.some.injEq] at hl
    subst hl
    obtain ⟨h1, h2⟩ := scalarVs_vr (S := S) (eb := eb) (φ := φ) hcs
    exact ⟨i, z, hi, hz, by simp [zeroValue, typeInfo, hi, hz], h1, h2, by simp [Program.cellsOf, hi, hlen], by have := h1.length; simpa using this.symm⟩
  · cases hl

theorem br_new {n : Nat} {es : List (List AV)} {k : Nat} {arr : Array Value} {et : TypeId} (φ' : Emb) (h1 : φ'.k n = k) (h2 : φ'.base n = 0) (h3 : φ'.size n = arr.size) (hl : es.length * k ≤ arr.size)
    (hel : ∀ i e, es[i]? = some e → e.length = k ∧ CellsAt S.errT eb φ' arr (i * k) e) {ro : Bool} : BR S.errT eb φ' n (.row ro k es) (.cells arr et (0, 0)) :=
  ⟨arr, et, (0, 0), rfl, h1, h3.symm, by rw [h2, Nat.zero_add]; exact hl, fun _ p _ => by simp, fun i e he => by rw [h2, Nat.zero_add]; exact hel i e he⟩

/-- A new variable. -/
theorem box_run (hM : MR S.errT eb φ M own w) (hk : ∀ b, w.heap.size ≤ b → own b) {v : AV} {u : Value} {t : TypeId} (hv : VR S.errT eb φ v u) {cs : List AV} (hc : v.cells = some cs) (hf : ¬ φ.dom fresh) {r : Result Next}
    (hr : ∀ a : Addr, a = ⟨w.heap.size, 0, none⟩ → r = .ok (.value (.pointer (some a))) (w.alloc (.cells u.cells t))) :
    OpRes S eb φ own M fresh w { val := .ptr fresh 0 0, foot := [fresh], wr := [(fresh, some (.row false cs.length [cs]))] } r := by
  obtain ⟨h1, h2⟩ := hv.cells hc
  have hl := h1.length
  have ext := Emb.add_ext (φ := φ) (b := w.heap.size) (base := 0) (k := cs.length) (size := u.cells.size) hf
  refine ⟨_, φ.add fresh w.heap.size 0 cs.length u.cells.size, _, .inl (hr _ rfl), ?_, ?_, .alloc _, ext, ?_⟩
  · have := VR.ptr (T := S.errT) (eb := eb) (φ := φ.add fresh w.heap.size 0 cs.length u.cells.size) fresh 0 0 (.inr rfl)
    simpa [Emb.add] using this
  · refine MR.alloc hM hk hf ?_
    refine br_new (S := S) _ (by simp [Emb.add]) (by simp [Emb.add]) (by simp [Emb.add]) (by simp at hl; simp; omega) ?_
    intro i e he
    have : i = 0 := by
      cases i with
      | zero => rfl
      | succ i => simp at he
    subst this
    simp at he
    subst he
    refine ⟨rfl, cellsAt_of_list (h1.mono ext) h2 ?_⟩
    intro j x hx
    rw [Array.getElem?_toList] at hx
    simpa using hx
  · intro id hid
    rcases hid with h | h
    · exact .inl h
    · exact .inr ⟨h, by simp⟩

theorem box_ok (hM : MR S.errT eb φ M own w) (hk : ∀ b, w.heap.size ≤ b → own b) {t : TypeId} {v : AV} {u : Value} {k : Nat} (hv : VR S.errT eb φ v u)
    (hs : bstep fresh M (.box k v) = some (p, e)) (hp : p) (hf : fresh ∈ e.foot → ¬ φ.dom fresh)
    (hr : (execOp ρ o).run S.P w = .ok (.value (.pointer (some ⟨w.heap.size, 0, none⟩))) (w.alloc (.cells u.cells t))) : OpRes S eb φ own M fresh w e ((execOp ρ o).run S.P w) := by
  simp only [bstep] at hs
  split at hs
  · rename_i cs hc
    simp only [Option.some.injEq, Prod.mk.injEq] at hs
    obtain ⟨rfl, rfl⟩ := hs
    subst hp
    exact box_run hM hk hv hc (hf (by simp)) (t := t) fun a ha => by rw [ha]; exact hr
  · cases hs

theorem load_ok {t : TypeId} {td : TypeDesc} (ht : S.P.underlying t = some td) {x : Operand} {cx : Opd} (hx : cOpd x = some cx) (hρ : Rho S eb φ ρ f) (hM : MR S.errT eb φ M own w)
    (hs : bstep fresh M (.load (isAggT S.P t) (bif isAggT S.P t then S.P.cellsOf t else 1) (f cx)) = some (p, e)) (hp : p) (ho : o.op = .load t x) : OpRes S eb φ own M fresh w e ((execOp ρ o).run S.P w) := by
  have vx := hρ x cx hx
  simp only [bstep] at hs
  split at hs
  · rename_i id ix sub h1
    rw [h1] at vx
    obtain ⟨hd, hv⟩ := ptr_inv vx
    split at hs
    · rename_i ro k es hrow
      simp only [Option.some.injEq, Prod.mk.injEq] at hs
      obtain ⟨rfl, rfl⟩ := hs
      obtain ⟨hp1, hp2⟩ := hp
      obtain ⟨hk, hm⟩ := rowAt_k hM hrow
      obtain ⟨_, hlen, us, g1, g2, g3, g4⟩ := hM.elems hm hp1
      have hvr := AHpart_vr (agg := isAggT S.P t) (n := bif isAggT S.P t then S.P.cellsOf t else 1) (off := sub) g2 g3 (by omega) (by intro hh; simp [hh])
      refine .quiet hM ?_ hvr
      obtain ⟨inf, hinf⟩ := Option.isSome_iff_exists.1 (info_of_underlying ht)
      cases hag : isAggT S.P t
      · have hlt : sub < us.length := by simp [hag] at hp2; omega
        have hc := g4 sub us[sub] (List.getElem?_eq_getElem hlt)
        simp only [execOp, ho, hv, Instr.loadAt, Instr.sureAddr, loadVar, Sem.run_bind, Sem.run_pure, run_isAgg_iff t ht, hag, Result.andThen_ok, Bool.false_eq_true, if_false, run_load, hc]
        congr 2
        simp [List.getD, List.getElem?_eq_getElem hlt]
      · simp only [hag, cond_true] at hp2
        have hl := run_loadCells_list (P := S.P) w ⟨φ.blk id, φ.base id + ix * φ.k id + sub, none⟩ ((us.drop sub).take (S.P.cellsOf t)) (fun j u hu => by
          rw [add_lit, Nat.add_assoc]
          rw [List.getElem?_take] at hu
          split at hu
          · rw [List.getElem?_drop] at hu
            exact g4 _ _ hu
          · cases hu)
        have hll : ((us.drop sub).take (S.P.cellsOf t)).length = S.P.cellsOf t := by simp; omega
        rw [hll] at hl
        simp only [execOp, ho, hv, Instr.loadAt, Instr.sureAddr, loadVar, Sem.run_bind, Sem.run_pure, run_isAgg_iff t ht, hag, Result.andThen_ok, if_true, sizeOf_run hinf, hl, cond_true]
    · cases hs
  · cases hs

theorem splice_length : ∀ (e : List AV) (s : Nat) (xs : List AV), s + xs.length ≤ e.length → (splice e s xs).length = e.length
  | e, 0, xs, h => by simp [splice]; omega
  | [], s + 1, xs, h => by simp at h
  | c :: e, s + 1, xs, h => by simp [splice]; exact splice_length e s xs (by simp at h; omega)

theorem splice_get : ∀ (e : List AV) (s : Nat) (xs : List AV) (j : Nat), s + xs.length ≤ e.length → (splice e s xs)[j]? = if s ≤ j ∧ j < s + xs.length then xs[j - s]? else e[j]?
  | e, 0, xs, j, h => by
    simp only [splice, List.getElem?_append, Nat.zero_le, true_and, Nat.zero_add, Nat.sub_zero, List.getElem?_drop]
    split
    · rfl
    · congr 1; omega
  | [], s + 1, xs, j, h => by simp at h
  | c :: e, s + 1, xs, 0, h => by simp [splice]
  | c :: e, s + 1, xs, j + 1, h => by
    simp only [splice, List.getElem?_cons_succ]
    rw [splice_get e s xs j (by simp at h; omega)]
    by_cases hj : s ≤ j ∧ j < s + xs.length
    · rw [if_pos hj, if_pos (by omega), show j + 1 - (s + 1) = j - s by omega]
    · rw [if_neg hj, if_neg (by omega)]

/-- Cells stored into an element of a row. -/
theorem store_run (hM : MR S.errT eb φ M own w) {id ix sub : Nat} {k : Nat} {es : List (List AV)} (hm : M id = some (.row false k es)) (hix : ix < es.length) {cs : List AV} {us : List Value} (hsub : sub + cs.length ≤ k)
    (h1 : VRs S.errT eb φ cs us) (h2 : ∀ u ∈ us, u.oneCell' = true) {b o' : Nat} (hb : b = φ.blk id) (ho' : o' = φ.base id + ix * φ.k id + sub) :
    (storeCells ⟨b, o', none⟩ us 0).run S.P w = .ok () (w.setCells b o' us) ∧
      MR S.errT eb φ (upd M id (some (.row false k (es.set ix (splice (es.getD ix []) sub cs))))) own (w.setCells b o' us) ∧ StepK own w (w.setCells b o' us) := by
  subst hb ho'
  obtain ⟨ob, hob, arr, et, fr, rfl, hk, hz, hsz, hfr, hel⟩ := hM.blk id _ hm
  have hlen := h1.length
  have hle : (ix + 1) * k ≤ es.length * k := Nat.mul_le_mul_right _ (by omega)
  rw [Nat.add_mul, Nat.one_mul] at hle
  have hfit : φ.base id + ix * φ.k id + sub + us.length ≤ arr.size := by rw [hk]; omega
  have hcell : ∀ j, j < us.length → w.cell? ⟨φ.blk id, φ.base id + ix * φ.k id + sub + 0 + j, none⟩ = some ((arr[φ.base id + ix * φ.k id + sub + j]?).getD undef) := by
    intro j hj
    have : φ.base id + ix * φ.k id + sub + j < arr.size := by omega
    simp [World.cell?, hob, Array.getElem?_eq_getElem this]
  have hfz : ∀ j, j < us.length → w.frozen? ⟨φ.blk id, φ.base id + ix * φ.k id + sub + 0 + j, none⟩ = false := by
    intro j hj
    have := hfr rfl (φ.base id + ix * φ.k id + sub + j) (by omega)
    simp only [World.frozen?, hob, Nat.add_zero]
    simpa using this
  have hrun := run_storeCells_cells (P := S.P) (φ.blk id) (φ.base id + ix * φ.k id + sub) us 0 w (fun j hj => by rw [hcell j hj]; rfl) hfz h2
  simp only [Nat.add_zero] at hrun
  refine ⟨hrun, ?_, .setCells (hM.own id _ hm rfl) _ _⟩
  refine MR.turn hM hm rfl (heap_setCells _ et fr us _ w arr hob) (fun c hc => heap_setCells_ne _ c hc us _ w) ?_
  refine ⟨_, et, fr, rfl, hk, by rw [arrSet_size]; exact hz, by rw [arrSet_size]; simpa using hsz, fun _ q hq => hfr rfl q (by rw [arrSet_size] at hq; exact hq), ?_⟩
  intro i el hi
  rw [List.getElem?_set] at hi
  by_cases hii : ix = i
  · subst hii
    simp only [hix, if_true] at hi
    simp only [Option.some.injEq] at hi
    subst hi
    have hg : es[ix]? = some (es.getD ix []) := by simp [List.getD, List.getElem?_eq_getElem hix]
    obtain ⟨hl0, hca⟩ := hel ix _ hg
    refine ⟨by rw [splice_length _ _ _ (by omega)]; exact hl0, ?_⟩
    intro j v hj
    rw [splice_get _ _ _ _ (by omega)] at hj
    rw [arrSet_get _ _ _ _ hfit]
    by_cases hin : sub ≤ j ∧ j < sub + cs.length
    · rw [if_pos hin] at hj
      obtain ⟨u, hu, hr⟩ := h1.get _ _ hj
      refine ⟨u, ?_, hr, h2 u (List.mem_of_getElem? hu)⟩
      rw [if_pos (by rw [hk]; omega), ← hu]
      congr 1
      rw [hk]; omega
    · rw [if_neg hin] at hj
      obtain ⟨u, g1, g2, g3⟩ := hca j v hj
      refine ⟨u, ?_, g2, g3⟩
      rw [if_neg (by rw [hk]; omega)]
      exact g1
  · rw [if_neg hii] at hi
    obtain ⟨hl0, hca⟩ := hel i _ hi
    refine ⟨hl0, ?_⟩
    intro j v hj
    obtain ⟨u, g1, g2, g3⟩ := hca j v hj
    refine ⟨u, ?_, g2, g3⟩
    rw [arrSet_get _ _ _ _ hfit, if_neg]
    · exact g1
    · have hjk : j < k := by rw [← hl0]; exact (List.getElem?_eq_some_iff.1 hj).1
      rw [hk]
      rcases Nat.lt_or_ge i ix with h | h
      · have : (i + 1) * k ≤ ix * k := Nat.mul_le_mul_right _ (by omega)
        rw [Nat.add_mul, Nat.one_mul] at this
        omega
      · have : (ix + 1) * k ≤ i * k := Nat.mul_le_mul_right _ (by omega)
        rw [Nat.add_mul, Nat.one_mul] at this
        omega

theorem store_ok {t : TypeId} (hz : S.P.cellsOf t ≠ 0) {x y : Operand} {cx cy : Opd} (hx : cOpd x = some cx) (hy : cOpd y = some cy) (hρ : Rho S eb φ ρ f) (hM : MR S.errT eb φ M own w)
    (hs : bstep fresh M (.store (S.P.cellsOf t) (f cx) (f cy)) = some (p, e)) (hp : p) (ho : o.op = .store t x y) : OpRes S eb φ own M fresh w e ((execOp ρ o).run S.P w) := by
  have vx := hρ x cx hx
  have vy := hρ y cy hy
  simp only [bstep] at hs
  split at hs
  · rename_i id ix sub cs h1 h2
    rw [h1] at vx
    obtain ⟨hd, hv⟩ := ptr_inv vx
    obtain ⟨g1, g2⟩ := vy.cells h2
    split at hs
    · rename_i k es hrow
      simp only [Option.some.injEq, Prod.mk.injEq] at hs
      obtain ⟨rfl, rfl⟩ := hs
      obtain ⟨hp1, hp2, hp3⟩ := hp
      obtain ⟨hk, hm⟩ := rowAt_k hM hrow
      have hlen := g1.length
      obtain ⟨r1, r2, r3⟩ := store_run (sub := sub) (cs := cs) hM hm hp1 (by omega) g1 g2 rfl rfl
      refine ⟨undef, φ, _, .inr ⟨?_, rfl⟩, .tup _ _ .nil, r2, r3, .refl φ, fun _ h => .inl h⟩
      have hsz : (Go.sizeOf t).run S.P w = .ok (S.P.cellsOf t) w := sizeOf_pos hz
      have hcz : ¬ (ρ y).cells.size ≠ S.P.cellsOf t := by simp at hlen; simp; omega
      simp only [execOp, ho, hv, Instr.storeAt, Instr.sureAddr, storeVar, Sem.run_bind, Sem.run_pure, Result.andThen_ok, hsz, hcz, if_false, r1]
    · cases hs
  · cases hs

theorem fill_ok (place : Nat → Option (Nat × Nat)) : ∀ {cells : List AV} {us : List Value} {ps : List (Nat × Nat × AV)} {qs : List (Nat × Value)} {r : List AV}, fill cells ps = some r → VRs S.errT eb φ cells us → (∀ u ∈ us, u.oneCell' = true) →
    ps.length = qs.length → (∀ (i : Nat) (a : Nat × Nat × AV) (b : Nat × Value), ps[i]? = some a → qs[i]? = some b → place b.1 = some (a.1, a.2.1) ∧ VR S.errT eb φ a.2.2 b.2) →
    ∃ rs : Array Value, Instr.fill place us.toArray qs = some rs ∧ VRs S.errT eb φ r rs.toList ∧ ∀ u ∈ rs.toList, u.oneCell' = true
  | cells, us, [], [], r, h, hv, h1, _, _ => by
    simp [fill] at h
    subst h
    exact ⟨us.toArray, rfl, by simpa using hv, by simpa using h1⟩
  | _, _, [], _ :: _, _, _, _, _, hl, _ => by simp at hl
  | _, _, _ :: _, [], _, _, _, _, hl, _ => by simp at hl
  | cells, us, (off, size, v) :: ps, (i, u) :: qs, r, h, hv, h1, hl, hp => by
    simp only [fill] at h
    split at h
    · rename_i cs hcs
      split at h
      · rename_i hc
        obtain ⟨pl, pv⟩ := hp 0 (off, size, v) (i, u) rfl rfl
        obtain ⟨g1, g2⟩ := pv.cells hcs
        have hlc := g1.length
        have hlu := hv.length
        have key : ∀ (xs : List Value) (arr : Array Value) (n : Nat), off + n + xs.length ≤ arr.size → ((xs.zipIdx n).foldl (fun cs (x : Value × Nat) => cs.setIfInBounds (off + x.2) x.1) arr) = arrSet arr (off + n) xs := by
          intro xs
          induction xs with
          | nil => intro arr n _; rfl
          | cons x xs ih =>
            intro arr n hn
            simp only [List.zipIdx_cons, List.foldl_cons, arrSet]
            rw [ih _ _ (by simp at hn ⊢; omega)]
            rfl
        have hz : u.cells.zipIdx.foldl (fun cs (x : Value × Nat) => cs.setIfInBounds (off + x.2) x.1) us.toArray = arrSet us.toArray off u.cells.toList := by
          rw [← Array.foldl_toList, Array.toList_zipIdx]
          exact key _ _ 0 (by simp at hlc ⊢; omega)
        have hnew : VRs S.errT eb φ (splice cells off cs) (arrSet us.toArray off u.cells.toList).toList := by
          refine .of_get (by rw [splice_length _ _ _ (by omega)]; simp [arrSet_size, hlu]) ?_
          intro j a b ha hb
          rw [splice_get _ _ _ _ (by omega)] at ha
          rw [Array.getElem?_toList, arrSet_get _ _ _ _ (by simp at hlc ⊢; omega)] at hb
          rw [← hlc] at hb
          split at ha
          · rename_i hj
            rw [if_pos hj] at hb
            obtain ⟨b', hb', hr⟩ := g1.get _ _ ha
            rw [hb'] at hb; cases hb; exact hr
          · rename_i hj
            rw [if_neg hj] at hb
            obtain ⟨b', hb', hr⟩ := hv.get _ _ ha
            simp at hb
            rw [hb'] at hb; cases hb; exact hr
        have hone : ∀ x ∈ (arrSet us.toArray off u.cells.toList).toList, x.oneCell' = true := by
          intro x hx
          obtain ⟨j, hj⟩ := List.getElem?_of_mem hx
          rw [Array.getElem?_toList, arrSet_get _ _ _ _ (by simp at hlc ⊢; omega)] at hj
          split at hj
          · exact g2 x (List.mem_of_getElem? hj)
          · exact h1 x (List.mem_of_getElem? (by simpa using hj))
        obtain ⟨rs, k1, k2, k3⟩ := fill_ok place (us := (arrSet us.toArray off u.cells.toList).toList) h hnew hone (by simpa using hl) (fun j a b ha hb => hp (j + 1) a b (by simpa using ha) (by simpa using hb))
        refine ⟨rs, ?_, k2, k3⟩
        have hsz : ¬ (u.cells.size ≠ size ∨ off + u.cells.size > us.toArray.size) := by simp at hlc hlu ⊢; omega
        simp only [Instr.fill, pl, Bool.or_eq_true, decide_eq_true_eq, hsz, if_false]
        rw [hz]
        simpa using k1
      · cases h
    · cases h

end AH
