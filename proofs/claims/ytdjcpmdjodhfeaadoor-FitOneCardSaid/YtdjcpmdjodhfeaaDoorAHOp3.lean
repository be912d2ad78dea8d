import Derived.Test.YtdjcpmdjodhfeaaDoorAHOp2
set_option linter.unusedSimpArgs false
namespace AH
open Go
variable {S : Sys} {eb : Nat → Addr} {φ : Emb} {M : Nat → Option Blk} {own : Nat → Prop} {w : World} {ρ : Operand → Value} {f : Opd → AV} {o : Oper} {fresh : Nat} {p : Prop} {e : Eff}

theorem sizeOf_run {t : TypeId} {i : TypeInfo} (h : S.P.info? t = some i) : (Go.sizeOf t).run S.P w = .ok (S.P.cellsOf t) w := by
  simp [Go.sizeOf, typeInfo, h, Program.cellsOf]

theorem sizeOf_pos {t : TypeId} (h : S.P.cellsOf t ≠ 0) : (Go.sizeOf t).run S.P w = .ok (S.P.cellsOf t) w := by
  cases hi : S.P.info? t with
  | none => simp [Program.cellsOf, hi] at h
  | some i => exact sizeOf_run hi

theorem same_ok {s d : TypeId} (h1 : S.P.underlying s = some .string) (h2 : S.P.underlying d = some .string) {x : Operand} {cx : Opd} (hx : cOpd x = some cx) (hρ : Rho S eb φ ρ f) (hM : MR S.errT eb φ M own w)
    (hs : bstep fresh M (.same (f cx)) = some (p, e)) (ho : o.op = .convert s d x) : OpRes S eb φ own M fresh w e ((execOp ρ o).run S.P w) := by
  have vx := hρ x cx hx
  simp only [bstep] at hs
  split at hs
  · rename_i b hb
    rw [hb] at vx
    simp [pureE] at hs
    obtain ⟨_, rfl⟩ := hs
    cases hv : ρ x <;> rw [hv] at vx <;> cases vx
    refine .quiet hM (u := .string b) ?_ (.str _)
    simp [execOp, ho, hv, convert, underlying, h1, h2]
  · cases hs

theorem mkifc_ok {t : TypeId} {td : TypeDesc} (h1 : S.P.underlying t = some td) (h2 : ∀ ms, td ≠ .interface ms) {x : Operand} {cx : Opd} (hx : cOpd x = some cx) (hρ : Rho S eb φ ρ f) (hM : MR S.errT eb φ M own w)
    (hs : bstep fresh M (.mkifc t (f cx)) = some (p, e)) (ho : o.op = .makeInterface t x) : OpRes S eb φ own M fresh w e ((execOp ρ o).run S.P w) := by
  have vx := hρ x cx hx
  have hr : (execOp ρ o).run S.P w = .ok (.value (.iface t (ρ x))) w := by
    simp only [execOp, ho, Instr.makeInterface, Sem.run_bind, run_underlying h1, Result.andThen_ok]
    cases td <;> first | rfl | exact absurd rfl (h2 _)
  simp only [bstep] at hs
  split at hs
  · cases hs
  · cases hs
  · simp [pureE] at hs
    obtain ⟨_, rfl⟩ := hs
    exact .quiet hM hr (.ifc _ _ _ vx)

theorem opds_vrs (hρ : Rho S eb φ ρ f) : ∀ {xs : List Operand} {cs : List Opd}, xs.mapM cOpd = some cs → VRs S.errT eb φ (cs.map f) (xs.map ρ)
  | [], cs, h => by simp at h; subst h; exact .nil
  | x :: xs, cs, h => by
    rw [List.mapM_cons] at h
    simp only [bind, Option.bind_eq_some_iff, pure, Option.some.injEq] at h
    obtain ⟨c, hc, cs', hcs, rfl⟩ := h
    exact .cons _ _ _ _ (hρ x c hc) (opds_vrs hρ hcs)

theorem mkfn_ok {g : FuncId} {first cap : Array Operand} {cf cc : List Opd} (h1 : first.toList.mapM cOpd = some cf) (h2 : cap.toList.mapM cOpd = some cc) (hρ : Rho S eb φ ρ f) (hM : MR S.errT eb φ M own w)
    (hs : bstep fresh M (.mkfn g (cf.map f) (cc.map f)) = some (p, e)) (ho : o.op = .makeFunc (.func g) first cap) : OpRes S eb φ own M fresh w e ((execOp ρ o).run S.P w) := by
  simp [bstep, pureE] at hs
  obtain ⟨_, rfl⟩ := hs
  refine .quiet hM (u := .func (.func g) (first.map ρ) (cap.map ρ)) (by simp [execOp, ho, Instr.makeFunc]) ?_
  exact .fn _ _ _ _ _ (by simpa using opds_vrs hρ h1) (by simpa using opds_vrs hρ h2)

theorem extract_ok {x : Operand} {cx : Opd} {i : Nat} (hx : cOpd x = some cx) (hρ : Rho S eb φ ρ f) (hM : MR S.errT eb φ M own w)
    (hs : bstep fresh M (.extract (f cx) i) = some (p, e)) (hp : p) (ho : o.op = .extract x i) : OpRes S eb φ own M fresh w e ((execOp ρ o).run S.P w) := by
  have vx := hρ x cx hx
  simp only [bstep] at hs
  split at hs
  · rename_i vs hvs
    rw [hvs] at vx
    simp only [Option.some.injEq, Prod.mk.injEq] at hs
    obtain ⟨rfl, rfl⟩ := hs
    cases hv : ρ x <;> rw [hv] at vx <;> cases vx
    rename_i us h
    obtain ⟨u, hu, hr⟩ := h.get i (vs.getD i .undef) (by simp [List.getD, List.getElem?_eq_getElem hp])
    refine .quiet hM (u := u) ?_ hr
    rw [Array.getElem?_toList] at hu
    simp [execOp, ho, hv, Instr.extract, hu]
  · cases hs

theorem AHpart_vr {agg : Bool} {n off : Nat} {cs : List AV} {us : List Value} (h : VRs S.errT eb φ cs us) (h1 : ∀ u ∈ us, u.oneCell' = true) (hl : off + n ≤ cs.length) (hn : agg = false → n = 1) :
    VR S.errT eb φ (part agg n off cs) (if agg then .agg ((us.drop off).take n).toArray else us.getD off undef) := by
  cases agg
  · have := hn rfl
    subst this
    simp only [part, Bool.false_eq_true, if_false]
    obtain ⟨u, hu, hr⟩ := h.get off (cs.getD off .undef) (by simp [List.getD, List.getElem?_eq_getElem (show off < cs.length by omega)])
    simpa [List.getD, hu] using hr
  · simp only [part, if_true]
    refine .agg _ _ (by simpa using (h.drop off).take n) ?_
    intro u hu
    simp at hu
    exact h1 u (List.mem_of_mem_drop (List.mem_of_mem_take hu))

theorem agg_inv {cs : List AV} {u : Value} (h : VR S.errT eb φ (.agg cs) u) : ∃ us : Array Value, u = .agg us ∧ VRs S.errT eb φ cs us.toList ∧ ∀ x ∈ us.toList, x.oneCell' = true := by
  cases h; rename_i us h h1; exact ⟨us, rfl, h1, h⟩

theorem slc_inv {id ix len : Nat} {cap : Option Nat} {u : Value} (h : VR S.errT eb φ (.slc id ix len cap) u) : φ.dom id ∧
    ((∃ c, u = .slice (some ⟨φ.blk id, φ.base id + ix * φ.k id, none⟩) len c ∧ len ≤ c ∧ (∀ c0, cap = some c0 → c = c0) ∧ φ.base id + (ix + c) * φ.k id ≤ φ.size id) ∨
     (∃ ad, u = .slice ad 0 0 ∧ len = 0 ∧ ∀ c0, cap = some c0 → c0 = 0)) := by
  cases h
  case slc c h he hs hc => exact ⟨h, .inl ⟨c, rfl, by assumption, by assumption, by assumption⟩⟩
  case slc0 ad h he => exact ⟨h, .inr ⟨ad, rfl, rfl, by assumption⟩⟩

theorem fld_ok {s : TypeId} {i : Nat} {fd : Field} (hf : fieldOf S.P s i = some fd) {td : TypeDesc} (htd : S.P.underlying fd.type = some td) {x : Operand} {cx : Opd} (hx : cOpd x = some cx) (hρ : Rho S eb φ ρ f) (hM : MR S.errT eb φ M own w)
    (hs : bstep fresh M (.fld (isAggT S.P fd.type) (bif isAggT S.P fd.type then S.P.cellsOf fd.type else 1) fd.offset (f cx)) = some (p, e)) (hp : p) (ho : o.op = .field s x i) : OpRes S eb φ own M fresh w e ((execOp ρ o).run S.P w) := by
  have vx := hρ x cx hx
  simp only [bstep] at hs
  split at hs
  · rename_i cs hcs
    rw [hcs] at vx
    simp only [Option.some.injEq, Prod.mk.injEq] at hs
    obtain ⟨rfl, rfl⟩ := hs
    obtain ⟨us, hv, h, h1⟩ := agg_inv vx
    have hlen := h.length
    have hp' : fd.offset + (if isAggT S.P fd.type then S.P.cellsOf fd.type else 1) ≤ us.toList.length := by
      cases hag : isAggT S.P fd.type <;> simp [hag] at hp ⊢ <;> simp at hlen <;> omega
    have hr := run_part (P := S.P) (w := w) fd.type htd (info_of_underlying htd) us.toList fd.offset hp'
    have hvr := AHpart_vr (agg := isAggT S.P fd.type) (n := bif isAggT S.P fd.type then S.P.cellsOf fd.type else 1) (off := fd.offset) h h1 hp (by intro hh; simp [hh])
    refine .quiet hM (u := toV S.P fd.type ((us.toList.drop fd.offset).take (if isAggT S.P fd.type then S.P.cellsOf fd.type else 1))) ?_ ?_
    · unfold fieldOf at hf
      split at hf
      · rename_i fs hfs
        simp only [Array.toArray_toList] at hr
        simp only [execOp, ho, hv, Instr.field, Sem.run_bind, run_underlying hfs, Result.andThen_ok, hf, asAgg, Sem.run_pure, hr]
      · cases hf
    · cases hag : isAggT S.P fd.type
      · simp only [hag, cond_false, Bool.false_eq_true, if_false, toV] at hvr ⊢
        have : fd.offset < us.toList.length := by simp [hag] at hp'; simp; omega
        simpa [List.getD, List.getElem?_take, List.getElem?_drop, List.getElem?_eq_getElem this] using hvr
      · simpa only [hag, cond_true, if_true, toV] using hvr
  · cases hs

theorem faddr_ok {s : TypeId} {i : Nat} {fd : Field} (hf : fieldOf S.P s i = some fd) (hz : S.P.cellsOf fd.type ≠ 0) {x : Operand} {cx : Opd} (hx : cOpd x = some cx) (hρ : Rho S eb φ ρ f) (hM : MR S.errT eb φ M own w)
    (hs : bstep fresh M (.faddr fd.offset (f cx)) = some (p, e)) (ho : o.op = .fieldAddr s x i) : OpRes S eb φ own M fresh w e ((execOp ρ o).run S.P w) := by
  have vx := hρ x cx hx
  simp only [bstep] at hs
  split at hs
  · rename_i id ix sub hcs
    rw [hcs] at vx
    simp [pureE] at hs
    obtain ⟨_, rfl⟩ := hs
    cases hv : ρ x <;> rw [hv] at vx <;> cases vx
    rename_i hd
    refine .quiet hM (u := .pointer (some ⟨φ.blk id, φ.base id + ix * φ.k id + (sub + fd.offset), none⟩)) ?_ (.ptr _ _ _ hd)
    unfold fieldOf at hf
    split at hf
    · rename_i fs hfs
      simp only [execOp, ho, hv, Instr.fieldAt, Instr.sureAddr, fieldPlace, Sem.run_bind, run_underlying hfs, Result.andThen_ok, hf, Sem.run_pure, sizeOf_pos hz, hz, if_false, add_lit]
      simp only [Nat.add_assoc]
    · cases hf
  · cases hs

theorem iaddrArr_ok {t : TypeId} {n : Nat} {el : TypeId} (ht : S.P.underlying t = some (.array n el)) (hz : S.P.cellsOf el ≠ 0) {x i : Operand} {cx ci : Opd} (hx : cOpd x = some cx) (hi : cOpd i = some ci) (hρ : Rho S eb φ ρ f) (hM : MR S.errT eb φ M own w)
    (hs : bstep fresh M (.iaddrArr n (S.P.cellsOf el) (f cx) (f ci)) = some (p, e)) (hp : p) (ho : o.op = .indexAddr t x i) : OpRes S eb φ own M fresh w e ((execOp ρ o).run S.P w) := by
  have vx := hρ x cx hx
  have vi := hρ i ci hi
  simp only [bstep] at hs
  split at hs
  · rename_i id ix sub k j h1 h2
    rw [h1] at vx
    rw [h2] at vi
    simp only [Option.some.injEq, Prod.mk.injEq] at hs
    obtain ⟨rfl, rfl⟩ := hs
    cases hv : ρ x <;> rw [hv] at vx <;> cases vx
    cases hv' : ρ i <;> rw [hv'] at vi <;> cases vi
    rename_i hd
    refine .quiet hM (u := .pointer (some ⟨φ.blk id, φ.base id + ix * φ.k id + (sub + j.toNat * S.P.cellsOf el), none⟩)) ?_ (.ptr _ _ _ hd)
    simp only [execOp, ho, hv, hv', Instr.indexAt, Instr.sureAddr, asIntOf, Sem.run_bind, run_underlying ht, Result.andThen_ok, Sem.run_pure, hp, and_self, if_true, sizeOf_pos hz, add_lit]
    simp only [Nat.add_assoc]
  · cases hs

theorem rowAt_k (hM : MR S.errT eb φ M own w) {id : Nat} {ro : Bool} {k : Nat} {es : List (List AV)} (h : rowAt M id = some (ro, k, es)) : φ.k id = k ∧ M id = some (.row ro k es) := by
  unfold rowAt at h
  split at h <;> simp only [Option.some.injEq, Prod.mk.injEq, reduceCtorEq] at h
  rename_i ro' k' es' hm
  obtain ⟨rfl, rfl, rfl⟩ := h
  obtain ⟨o', ho', arr, et, fr, _, hk', _⟩ := hM.blk id _ hm
  exact ⟨hk', hm⟩

theorem mapAt_m {id : Nat} {es : List (AV × AV × Nat)} {c : Nat} (h : mapAt M id = some (es, c)) : M id = some (.map es c) := by
  unfold mapAt at h
  split at h <;> simp only [Option.some.injEq, Prod.mk.injEq, reduceCtorEq] at h
  rename_i es' c' hm
  obtain ⟨rfl, rfl⟩ := h
  exact hm

theorem iaddrSl_ok {t : TypeId} {el : TypeId} (ht : S.P.underlying t = some (.slice el)) (hz : S.P.cellsOf el ≠ 0) {x i : Operand} {cx ci : Opd} (hx : cOpd x = some cx) (hi : cOpd i = some ci) (hρ : Rho S eb φ ρ f) (hM : MR S.errT eb φ M own w)
    (hs : bstep fresh M (.iaddrSl (S.P.cellsOf el) (f cx) (f ci)) = some (p, e)) (hp : p) (ho : o.op = .indexAddr t x i) : OpRes S eb φ own M fresh w e ((execOp ρ o).run S.P w) := by
  have vx := hρ x cx hx
  have vi := hρ i ci hi
  simp only [bstep] at hs
  split at hs
  · rename_i id ix len cap k j h1 h2
    rw [h1] at vx
    rw [h2] at vi
    split at hs
    · rename_i ro kk es hrow
      obtain ⟨hk, _⟩ := rowAt_k hM hrow
      split at hs
      · rename_i hke
        simp only [Option.some.injEq, Prod.mk.injEq] at hs
        obtain ⟨rfl, rfl⟩ := hs
        cases hv' : ρ i <;> rw [hv'] at vi <;> cases vi
        obtain ⟨hd, ⟨c, hv, hc, he, hsz⟩ | ⟨ad, hv, hl0, _⟩⟩ := slc_inv vx
        · refine .quiet hM (u := .pointer (some ⟨φ.blk id, φ.base id + (ix + j.toNat) * φ.k id + 0, none⟩)) ?_ (.ptr _ _ _ hd)
          simp only [execOp, ho, hv, hv', Instr.indexAt, asIntOf, Sem.run_bind, run_underlying ht, Result.andThen_ok, Sem.run_pure, hp, and_self, if_true, sizeOf_pos hz, add_lit]
          rw [hk, hke, Nat.add_mul]
          simp only [Nat.add_assoc, Nat.add_zero]
        · subst hl0; omega
      · cases hs
    · cases hs
  · rename_i id ix sub len k j h1 h2
    rw [h1] at vx
    rw [h2] at vi
    split at hs
    · rename_i he
      simp only [Option.some.injEq, Prod.mk.injEq] at hs
      obtain ⟨rfl, rfl⟩ := hs
      cases hv : ρ x <;> rw [hv] at vx <;> cases vx
      cases hv' : ρ i <;> rw [hv'] at vi <;> cases vi
      rename_i c hd hc
      refine .quiet hM (u := .pointer (some ⟨φ.blk id, φ.base id + ix * φ.k id + (sub + j.toNat), none⟩)) ?_ (.ptr _ _ _ hd)
      simp only [execOp, ho, hv, hv', Instr.indexAt, asIntOf, Sem.run_bind, run_underlying ht, Result.andThen_ok, Sem.run_pure, hp, and_self, if_true, sizeOf_pos hz, add_lit]
      rw [he]
      simp only [Nat.add_assoc, Nat.mul_one]
    · cases hs
  · cases hs

theorem loadg_ok (hA : ∀ g ∈ S.errs, ∃ et fr, w.heap[g]? = some (.cells #[.iface S.errT (.pointer (some (eb g)))] et fr)) {t g : Nat} (hg : S.errs.contains g = true) (ht : isAggT S.P t = false) {td : TypeDesc} (htd : S.P.underlying t = some td)
    (hρg : ρ (.global g) = .pointer (some ⟨g, 0, none⟩)) (hM : MR S.errT eb φ M own w)
    (hs : bstep fresh M (.loadg g) = some (p, e)) (ho : o.op = .load t (.global g)) : OpRes S eb φ own M fresh w e ((execOp ρ o).run S.P w) := by
  simp [bstep, pureE] at hs
  obtain ⟨_, rfl⟩ := hs
  obtain ⟨et, fr, hw⟩ := hA g (by simpa using hg)
  refine .quiet hM (u := .iface S.errT (.pointer (some (eb g)))) ?_ (.err g)
  have hc : w.cell? ⟨g, 0, none⟩ = some (.iface S.errT (.pointer (some (eb g)))) := by simp [World.cell?, hw]
  simp only [execOp, ho, hρg, Instr.loadAt, Instr.sureAddr, loadVar, Sem.run_bind, run_isAgg_iff t htd, ht, Result.andThen_ok, Bool.false_eq_true, if_false, run_load, hc, Sem.run_pure]

theorem nilchk_ok {x : Operand} {cx : Opd} (hx : cOpd x = some cx) (hρ : Rho S eb φ ρ f) (hM : MR S.errT eb φ M own w)
    (hs : bstep fresh M (.nilchk (f cx)) = some (p, e)) (ho : o.op = .nilCheck x) : OpRes S eb φ own M fresh w e ((execOp ρ o).run S.P w) := by
  have vx := hρ x cx hx
  simp only [bstep] at hs
  split at hs
  · rename_i id ix sub h1
    rw [h1] at vx
    simp [pureE] at hs
    obtain ⟨_, rfl⟩ := hs
    cases hv : ρ x <;> rw [hv] at vx <;> cases vx
    rename_i hd
    exact .quiet hM (by simp only [execOp, ho, hv]; rfl) (.ptr _ _ _ hd)
  · rename_i g a b h1
    rw [h1] at vx
    simp [pureE] at hs
    obtain ⟨_, rfl⟩ := hs
    cases hv : ρ x <;> rw [hv] at vx <;> cases vx
    rename_i fs cs h1 h2
    exact .quiet hM (by simp only [execOp, ho, hv]; rfl) (.fn _ _ _ _ _ h1 h2)
  · cases hs

end AH
