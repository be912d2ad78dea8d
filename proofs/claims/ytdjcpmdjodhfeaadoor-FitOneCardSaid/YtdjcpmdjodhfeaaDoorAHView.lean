import Derived.Test.YtdjcpmdjodhfeaaDoorAHTab
import Derived.Test.YtdjcpmdjodhfeaaDoorAHLaid
/-
AH: a callee that reads slices sees each as a row of its own; it may leave new blocks.
-/
set_option linter.unusedSimpArgs false
namespace AH
open Go
variable {S : Sys} {eb : Nat → Addr} {own : Nat → Prop} {w0 w : World} {φ : Emb}

mutual
theorem flat_inB {p : Nat → Bool} : ∀ {v : AV}, v.lt 0 = true → v.inB p = true
  | .ptr .., h | .slc .., h | .isl .., h | .map _, h => by simp [AV.lt] at h
  | .undef, _ | .bool _, _ | .int .., _ | .str _, _ | .nilp, _ | .nils, _ | .nilm, _ | .nilf, _ | .nili, _ | .err _, _ => rfl
  | .fn f a b, h => by
    simp only [AV.lt, Bool.and_eq_true] at h
    simp only [AV.inB, flats_inB h.1, flats_inB h.2, Bool.and_self]
  | .ifc t v, h => by
    simp only [AV.lt] at h
    simp only [AV.inB, flat_inB h]
  | .agg cs, h => by
    simp only [AV.lt] at h
    simp only [AV.inB, flats_inB h]
  | .tup cs, h => by
    simp only [AV.lt] at h
    simp only [AV.inB, flats_inB h]
theorem flats_inB {p : Nat → Bool} : ∀ {l : List AV}, AV.lts 0 l = true → AV.insB p l = true
  | [], _ => rfl
  | v :: r, h => by
    simp only [AV.lts, Bool.and_eq_true] at h
    simp only [AV.insB, flat_inB h.1, flats_inB h.2, Bool.and_self]
end

mutual
theorem flat_ren {ρ : Nat → Nat} : ∀ {v : AV}, v.lt 0 = true → v.ren ρ = v
  | .ptr .., h | .slc .., h | .isl .., h | .map _, h => by simp [AV.lt] at h
  | .undef, _ | .bool _, _ | .int .., _ | .str _, _ | .nilp, _ | .nils, _ | .nilm, _ | .nilf, _ | .nili, _ | .err _, _ => rfl
  | .fn f a b, h => by
    simp only [AV.lt, Bool.and_eq_true] at h
    simp only [AV.ren, flats_rens h.1, flats_rens h.2]
  | .ifc t v, h => by
    simp only [AV.lt] at h
    simp only [AV.ren, flat_ren h]
  | .agg cs, h => by
    simp only [AV.lt] at h
    simp only [AV.ren, flats_rens h]
  | .tup cs, h => by
    simp only [AV.lt] at h
    simp only [AV.ren, flats_rens h]
theorem flats_rens {ρ : Nat → Nat} : ∀ {l : List AV}, AV.lts 0 l = true → AV.rens ρ l = l
  | [], _ => rfl
  | v :: r, h => by
    simp only [AV.lts, Bool.and_eq_true] at h
    simp only [AV.rens, flat_ren h.1, flats_rens h.2]
end

/-- Rows that are only read. -/
def rowsM : List (Nat × List (List AV)) → Mem
  | [] => []
  | x :: r => some (.row true x.1 x.2) :: rowsM r

theorem rowsM_len : ∀ rows : List (Nat × List (List AV)), (rowsM rows).length = rows.length
  | [] => rfl
  | x :: r => by simp [rowsM, rowsM_len r]

theorem rowsM_memOf : ∀ ls : List InRow, rowsM (ls.map fun x => (x.k, x.es)) = memOf ls
  | [] => rfl
  | x :: r => by
    have := rowsM_memOf r
    simp only [memOf] at this
    simp only [List.map_cons, rowsM, memOf, this]

/-- Does a row stand for an embedding's block? -/
def Stands (φ : Emb) (i : Nat) (x : InRow) : Prop := φ.dom i ∧ φ.blk i = x.b ∧ φ.base i = x.off ∧ φ.k i = x.k ∧ φ.size i = x.size

theorem stands_embOf {ls : List InRow} {i : Nat} {x : InRow} (h : ls[i]? = some x) : Stands (embOf ls) i x :=
  ⟨(List.getElem?_eq_some_iff.1 h).1, by simp [embOf, List.getD, h], by simp [embOf, List.getD, h], by simp [embOf, List.getD, h], by simp [embOf, List.getD, h]⟩

/-- What the callee gets, out of the caller's arguments: rows for its slices; what it looks at. -/
def vw (M : Nat → Option Blk) : List Nat → List AV → Nat → Option (List AV × List (Nat × List (List AV)) × List Nat)
  | _, [], _ => some ([], [], [])
  | ws, .slc id ix n _ :: r, i => match ws, M id with
    | w :: ws, some (.row _ k es) => bif k == w && decide (ix + n ≤ es.length) && ((es.drop ix).take n).all (AV.lts 0) then (vw M ws r (i + 1)).map fun x => (.slc i 0 n none :: x.1, (w, (es.drop ix).take n) :: x.2.1, id :: x.2.2) else none
    | _, _ => none
  | ws, .nils :: r, i => match ws with
    | w :: ws => (vw M ws r (i + 1)).map fun x => (.slc i 0 0 none :: x.1, (w, []) :: x.2.1, x.2.2)
    | [] => (vw M [] r i).map fun x => (.nils :: x.1, x.2.1, x.2.2)
  | ws, v :: r, i => bif v.lt 0 then (vw M ws r i).map fun x => (v :: x.1, x.2.1, x.2.2) else none

theorem mul_step (a b k : Nat) : (a + b) * k = a * k + b * k := Nat.add_mul a b k

theorem slc_view {T : TypeId} {M : Nat → Option Blk} (hM : MR T eb φ M own w) {id ix n k : Nat} {cap : Option Nat} {ro : Bool} {es : List (List AV)} (hid : M id = some (.row ro k es)) (hle : ix + n ≤ es.length) (hfl : ((es.drop ix).take n).all (AV.lts 0) = true)
    {u : Value} (h : VR T eb φ (.slc id ix n cap) u) : ∃ x : InRow, x.k = k ∧ x.es = (es.drop ix).take n ∧ ∃ o, w.heap[x.b]? = some o ∧ ∀ (ψ : Emb) (i : Nat), Stands ψ i x → VR T eb ψ (.slc i 0 n none) u ∧ BR T eb ψ i (.row true x.k x.es) o := by
  obtain ⟨o, ho, arr, et, fr, h1, h2, h3, h4, h5, h6⟩ := hM.blk id _ hid
  have hlen : ((es.drop ix).take n).length = n := by rw [List.length_take, List.length_drop]; omega
  have br : ∀ (ψ : Emb) (i : Nat), ψ.k i = k → ψ.size i = φ.size id → ψ.base i = φ.base id + ix * k → BR T eb ψ i (.row true k ((es.drop ix).take n)) o := by
    intro ψ i e1 e2 e3
    refine ⟨arr, et, fr, h1, e1, by rw [e2]; exact h3, ?_, (fun q => by cases q), fun j e hj => ?_⟩
    · rw [hlen, e3]
      have := Nat.mul_le_mul_right k hle
      rw [mul_step] at this
      omega
    · have hjn : j < n := by
        have := (List.getElem?_eq_some_iff.1 hj).1
        omega
      have he : es[ix + j]? = some e := by
        rw [List.getElem?_take_of_lt hjn, List.getElem?_drop] at hj
        exact hj
      obtain ⟨g1, g2⟩ := h6 (ix + j) e he
      refine ⟨g1, fun p v hv => ?_⟩
      obtain ⟨u', k1, k2, k3⟩ := g2 p v hv
      have hf : AV.lts 0 e = true := List.all_eq_true.1 hfl e (List.mem_of_getElem? hj)
      refine ⟨u', ?_, ?_, k3⟩
      · rw [e3, show φ.base id + ix * k + j * k + p = φ.base id + (ix + j) * k + p by rw [mul_step]; omega]
        exact k1
      · have : v.lt 0 = true := by
          have hm := List.mem_of_getElem? hv
          clear hv k1 k2 k3 u' g1 g2 he hj
          induction e with
          | nil => cases hm
          | cons a r ih =>
            simp only [AV.lts, Bool.and_eq_true] at hf
            rcases List.mem_cons.1 hm with q | q
            · subst q; exact hf.1
            · exact ih hf.2 q
        exact lt_vr (S := ⟨default, [], T⟩) (fun _ hid => absurd hid (Nat.not_lt_zero _)) k2 this
  refine ⟨⟨φ.blk id, φ.base id + ix * k, φ.size id, k, (es.drop ix).take n⟩, rfl, rfl, o, ho, fun ψ i hs => ?_⟩
  obtain ⟨s1, s2, s3, s4, s5⟩ := hs
  simp only at s2 s3 s4 s5
  refine ⟨?_, br ψ i s4 s5 s3⟩
  generalize hq : AV.slc id ix n cap = q at h
  cases h <;> cases hq
  · rename_i c hd hs hc he
    rw [h2] at hs
    have hs' : ψ.base i + (0 + c) * ψ.k i ≤ ψ.size i := by
      rw [s3, s4, s5, Nat.zero_add]
      rw [mul_step] at hs
      omega
    have := VR.slc (T := T) (eb := eb) (φ := ψ) i 0 n none c s1 hc (fun _ q => by cases q) hs'
    rw [s2, s3, s4, Nat.zero_mul, Nat.add_zero] at this
    rw [h2]
    exact this
  · rename_i ad hd he
    exact .slc0 i 0 none ad s1 (fun _ q => by cases q)

theorem nil_view {T : TypeId} (hany : ∃ (b : Nat) (arr : Array Value) (et : TypeId) (fr : Nat × Nat), w.heap[b]? = some (Obj.cells arr et fr)) (k : Nat) {u : Value} (h : VR T eb φ .nils u) :
    ∃ x : InRow, x.k = k ∧ x.es = [] ∧ ∃ o, w.heap[x.b]? = some o ∧ ∀ (ψ : Emb) (i : Nat), Stands ψ i x → VR T eb ψ (.slc i 0 0 none) u ∧ BR T eb ψ i (.row true x.k x.es) o := by
  obtain ⟨b, arr, et, fr, hb⟩ := hany
  cases h
  refine ⟨⟨b, 0, arr.size, k, []⟩, rfl, rfl, _, hb, fun ψ i hs => ?_⟩
  obtain ⟨s1, s2, s3, s4, s5⟩ := hs
  simp only at s2 s3 s4 s5
  refine ⟨.slc0 i 0 none none s1 (fun _ q => by cases q), arr, et, fr, rfl, s4, s5.symm, ?_, (fun q => by cases q), fun j e hj => by simp at hj⟩
  simp [s3]

theorem vw_ok {T : TypeId} {M : Nat → Option Blk} (hM : MR T eb φ M own w) (hany : ∃ (b : Nat) (arr : Array Value) (et : TypeId) (fr : Nat × Nat), w.heap[b]? = some (Obj.cells arr et fr)) :
    ∀ {args : List AV} {ws : List Nat} {i : Nat} {args' : List AV} {rows : List (Nat × List (List AV))} {foot : List Nat}, vw M ws args i = some (args', rows, foot) → ∀ {us : List Value}, VRs T eb φ args us →
      ∃ ls : List InRow, ls.map (fun x => (x.k, x.es)) = rows ∧ ∀ ψ : Emb, (∀ (j : Nat) x, ls[j]? = some x → Stands ψ (i + j) x) → VRs T eb ψ args' us ∧ ∀ (j : Nat) x, ls[j]? = some x → ∃ o, w.heap[x.b]? = some o ∧ BR T eb ψ (i + j) (.row true x.k x.es) o := by
  have flat : ∀ {v : AV} {u : Value} {ψ : Emb}, v.lt 0 = true → VR T eb φ v u → VR T eb ψ v u := fun h g => lt_vr (S := ⟨default, [], T⟩) (fun _ hid => absurd hid (Nat.not_lt_zero _)) g h
  have step : ∀ {v : AV} {r : List AV} {x : InRow} {n i : Nat} {u : Value} {us : List Value} {args'' : List AV} {rows' : List (Nat × List (List AV))},
      (∃ o, w.heap[x.b]? = some o ∧ ∀ (ψ : Emb) (i : Nat), Stands ψ i x → VR T eb ψ (.slc i 0 n none) u ∧ BR T eb ψ i (.row true x.k x.es) o) →
      (∃ ls : List InRow, ls.map (fun x => (x.k, x.es)) = rows' ∧ ∀ ψ : Emb, (∀ (j : Nat) x, ls[j]? = some x → Stands ψ (i + 1 + j) x) → VRs T eb ψ args'' us ∧ ∀ (j : Nat) x, ls[j]? = some x → ∃ o, w.heap[x.b]? = some o ∧ BR T eb ψ (i + 1 + j) (.row true x.k x.es) o) →
      ∃ ls : List InRow, ls.map (fun x => (x.k, x.es)) = (x.k, x.es) :: rows' ∧ ∀ ψ : Emb, (∀ (j : Nat) x, ls[j]? = some x → Stands ψ (i + j) x) → VRs T eb ψ (.slc i 0 n none :: args'') (u :: us) ∧ ∀ (j : Nat) x, ls[j]? = some x → ∃ o, w.heap[x.b]? = some o ∧ BR T eb ψ (i + j) (.row true x.k x.es) o := by
    rintro v r x n i u us args'' rows' ⟨o, ho, hx⟩ ⟨ls, h1, h2⟩
    refine ⟨x :: ls, by simp [h1], fun ψ hψ => ?_⟩
    have hs : Stands ψ i x := by simpa using hψ 0 x rfl
    obtain ⟨g1, g2⟩ := h2 ψ fun j y hy => by
      have := hψ (j + 1) y (by simpa using hy)
      rw [show i + 1 + j = i + (j + 1) by omega]
      exact this
    obtain ⟨k1, k2⟩ := hx ψ i hs
    refine ⟨.cons _ _ _ _ k1 g1, fun j y hy => ?_⟩
    cases j with
    | zero =>
      simp at hy
      subst hy
      exact ⟨o, ho, k2⟩
    | succ j =>
      obtain ⟨o', q1, q2⟩ := g2 j y (by simpa using hy)
      exact ⟨o', q1, by rw [show i + (j + 1) = i + 1 + j by omega]; exact q2⟩
  intro args
  induction args with
  | nil =>
    intro ws i args' rows foot h us hus
    cases hus
    have h' : some (([] : List AV), ([] : List (Nat × List (List AV))), ([] : List Nat)) = some (args', rows, foot) := by rw [← h]; cases ws <;> rfl
    simp only [Option.some.injEq, Prod.mk.injEq] at h'
    obtain ⟨rfl, rfl, rfl⟩ := h'
    exact ⟨[], rfl, fun ψ _ => ⟨.nil, fun j x hx => by simp at hx⟩⟩
  | cons v r ih =>
    intro ws i args' rows foot h us hus
    cases hus
    rename_i u us hv hus
    have plain : (bif v.lt 0 then (vw M ws r i).map fun x => (v :: x.1, x.2.1, x.2.2) else none) = some (args', rows, foot) → ∃ ls : List InRow, ls.map (fun x => (x.k, x.es)) = rows ∧ ∀ ψ : Emb, (∀ (j : Nat) x, ls[j]? = some x → Stands ψ (i + j) x) → VRs T eb ψ args' (u :: us) ∧ ∀ (j : Nat) x, ls[j]? = some x → ∃ o, w.heap[x.b]? = some o ∧ BR T eb ψ (i + j) (.row true x.k x.es) o := by
      intro h
      cases hl : v.lt 0 with
      | false => rw [hl] at h; cases h
      | true =>
        rw [hl] at h
        simp only [cond_true, Option.map_eq_some_iff] at h
        obtain ⟨⟨a, b, c⟩, h1, h2⟩ := h
        simp only [Prod.mk.injEq] at h2
        obtain ⟨rfl, rfl, rfl⟩ := h2
        obtain ⟨ls, e1, e2⟩ := ih h1 hus
        exact ⟨ls, e1, fun ψ hψ => ⟨.cons _ _ _ _ (flat hl hv) (e2 ψ hψ).1, (e2 ψ hψ).2⟩⟩
    cases v with
    | slc id ix n cap =>
      cases ws with
      | nil => simp [vw] at h
      | cons wd ws =>
        simp only [vw] at h
        split at h
        · rename_i wd' ws' ro k es heq hid
          cases heq
          cases hc : (k == wd && decide (ix + n ≤ es.length) && ((es.drop ix).take n).all (AV.lts 0)) with
          | false => rw [hc] at h; cases h
          | true =>
            rw [hc] at h
            simp only [Bool.and_eq_true, beq_iff_eq, decide_eq_true_eq] at hc
            obtain ⟨⟨rfl, hle⟩, hfl⟩ := hc
            simp only [cond_true, Option.map_eq_some_iff] at h
            obtain ⟨⟨a, b, c⟩, h1, h2⟩ := h
            simp only [Prod.mk.injEq] at h2
            obtain ⟨rfl, rfl, rfl⟩ := h2
            obtain ⟨x, x1, x2, hx⟩ := slc_view hM hid hle hfl hv
            have := step (v := .nils) (r := r) hx (ih h1 hus)
            rw [x1, x2] at this
            exact this
        · cases h
    | nils =>
      cases ws with
      | nil => exact plain (by simpa only [vw, AV.lt, cond_true] using h)
      | cons wd ws =>
        simp only [vw, Option.map_eq_some_iff] at h
        obtain ⟨⟨a, b, c⟩, h1, h2⟩ := h
        simp only [Prod.mk.injEq] at h2
        obtain ⟨rfl, rfl, rfl⟩ := h2
        obtain ⟨x, x1, x2, hx⟩ := nil_view hany wd hv
        have := step (v := .nils) (r := r) hx (ih h1 hus)
        rw [x1, x2] at this
        exact this
    | _ => exact plain (by simpa only [vw] using h)

theorem vw_foot {M : Nat → Option Blk} : ∀ {args : List AV} {ws : List Nat} {i : Nat} {x : List AV × List (Nat × List (List AV)) × List Nat}, vw M ws args i = some x → ∀ M', (∀ id ∈ x.2.2, M' id = M id) → vw M' ws args i = some x := by
  intro args
  induction args with
  | nil =>
    intro ws i x h M' _
    rw [← h]
    cases ws <;> rfl
  | cons v r ih =>
    intro ws i x h M' hM'
    have plain : (bif v.lt 0 then (vw M ws r i).map fun x => (v :: x.1, x.2.1, x.2.2) else none) = some x → (bif v.lt 0 then (vw M' ws r i).map fun x => (v :: x.1, x.2.1, x.2.2) else none) = some x := by
      intro h
      cases hl : v.lt 0 with
      | false => rw [hl] at h; cases h
      | true =>
        rw [hl] at h
        simp only [cond_true, Option.map_eq_some_iff] at h ⊢
        obtain ⟨y, h1, h2⟩ := h
        refine ⟨y, ih h1 M' fun id hid => hM' id ?_, h2⟩
        rw [← h2]; exact hid
    cases v with
    | slc id ix n cap =>
      cases ws with
      | nil => simp [vw] at h
      | cons wd ws =>
        simp only [vw] at h ⊢
        split at h
        · rename_i wd' ws' ro k es heq hid
          cases heq
          cases hc : (k == wd && decide (ix + n ≤ es.length) && ((es.drop ix).take n).all (AV.lts 0)) with
          | false => rw [hc] at h; cases h
          | true =>
            rw [hc] at h
            simp only [cond_true, Option.map_eq_some_iff] at h
            obtain ⟨y, h1, h2⟩ := h
            subst h2
            have e1 : M' id = some (.row ro k es) := by rw [hM' id (by simp)]; exact hid
            rw [e1]
            simp only [hc, cond_true, Option.map_eq_some_iff]
            exact ⟨y, ih h1 M' fun id' hid' => hM' id' (by simp [hid']), rfl⟩
        · cases h
    | nils =>
      cases ws with
      | nil => simpa only [vw, AV.lt, cond_true] using plain (by simpa only [vw, AV.lt, cond_true] using h)
      | cons wd ws =>
        simp only [vw, Option.map_eq_some_iff] at h ⊢
        obtain ⟨y, h1, h2⟩ := h
        subst h2
        exact ⟨y, ih h1 M' fun id' hid' => hM' id' hid', rfl⟩
    | _ => simpa only [vw] using plain (by simpa only [vw] using h)

theorem vw_flat {M : Nat → Option Blk} : ∀ {r : List AV} {i : Nat}, AV.lts 0 r = true → vw M [] r i = some (r, [], []) := by
  intro r
  induction r with
  | nil => intro i _; rfl
  | cons v r ih =>
    intro i h
    simp only [AV.lts, Bool.and_eq_true] at h
    have h2 := ih (i := i) h.2
    cases v with
    | slc id ix n cap => simp [AV.lt] at h
    | nils => simp only [vw, h2, Option.map_some]
    | _ => simp only [vw, h.1, h2, Option.map_some, cond_true]

end AH
