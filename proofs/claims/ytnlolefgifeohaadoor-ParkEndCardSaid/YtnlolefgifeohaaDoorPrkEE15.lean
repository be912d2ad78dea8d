import Derived.Test.YtnlolefgifeohaaDoorPrkWE15
open Go AH
set_option linter.unusedSimpArgs false
set_option maxRecDepth 100000
namespace Go.Proofs.YtnlolefgifeohaaDoor.E15
def peSt (l : List Ac) (x : Nat × Mp Ma) : St := ⟨[(4, .int .i64 x.1), (3, .ptr 1 0 0), (0, .slc 0 0 l.length none)], [some (.row true 7 (l.map Ac.cells)), some (.row false 1 [[.map 2]]), some (.map (x.2.L.map (enA Ma.av)) x.2.c)]⟩
def pe2 (l : List Ac) (a : List Ma) (x : Nat × Mp Ma) : St := ⟨[(7, .int .i64 x.1), (6, .slc 3 0 a.length none), (3, .ptr 1 0 0)], [some (.row true 7 (l.map Ac.cells)), some (.row false 1 [[.map 2]]), some (.map (x.2.L.map (enA Ma.av)) x.2.c), some (.row false 7 (a.map Ma.cells))]⟩
def pe3 (l : List Ac) (a : List Ma) (t : Mp Ma) (c : Nat) : St := ⟨[(8, .int .i64 c), (6, .slc 3 0 a.length none), (3, .ptr 1 0 0)], [some (.row true 7 (l.map Ac.cells)), some (.row false 1 [[.map 2]]), some (.map (t.L.map (enA Ma.av)) t.c), some (.row false 7 (a.map Ma.cells))]⟩
def pe4 (l : List Ac) (a : List Ma) (x : Nat × Mp Ma) : St := ⟨[(9, .int .i64 x.1), (6, .slc 3 0 a.length none), (3, .ptr 1 0 0)], [some (.row true 7 (l.map Ac.cells)), some (.row false 1 [[.map 2]]), some (.map (x.2.L.map (enA Ma.av)) x.2.c), some (.row false 7 (a.map Ma.cells))]⟩
/-- What is there while all go, and while they come again. -/
structure Gone (t0 : Mp Ma) (j : Nat) (t : Mp Ma) : Prop where
  pk : Pk t
  is : ∀ x, isM t x = true ↔ x ∈ (idsM t0).drop j
  len : t.L.length + j = t0.L.length
structure Back (t0 : Mp Ma) (j : Nat) (t : Mp Ma) : Prop where
  pk : Pk t
  is : ∀ x, isM t x = true ↔ x ∈ (idsM t0).take j
  len : t.L.length = j
  sum : ∀ c g, isP g → Zg g (atC c) t.L = (((allM t0).take j).map (term g (atC c))).sum
theorem isM_iff {t : Mp Ma} {x : Int} : isM t x = true ↔ x ∈ t.L.map (·.k) := enF_isSome
theorem ids_mem {t : Mp Ma} {x : Int} : x ∈ idsM t ↔ x ∈ t.L.map (·.k) := (sortI_perm _).mem_iff
theorem ids_nodup {t : Mp Ma} (h : t.wf) : (idsM t).Nodup := (sortI_perm _).nodup_iff.2 h.keys
theorem gone_0 {t : Mp Ma} (h : Pk t) : Gone t 0 t := ⟨h, fun x => by rw [List.drop_zero, isM_iff, ids_mem], rfl⟩
theorem back_0 (t0 : Mp Ma) {t : Mp Ma} (h : Pk t) (hl : t.L = []) : Back t0 0 t :=
  ⟨h, fun x => by rw [isM_iff, hl]; simp, by rw [hl]; rfl, fun c g hg => by rw [hl]; rfl⟩
theorem all_at {t0 : Mp Ma} (h : Pk t0) {j : Nat} (hj : j < (allM t0).length) : ∃ e ∈ t0.L, (allM t0)[j] = e.v ∧ (allM t0)[j].i = (idsM t0)[j]'(by simpa [allM] using hj) ∧ e.k = (allM t0)[j].i := by
  have hj' : j < (idsM t0).length := by simpa [allM] using hj
  have e1 : (allM t0)[j] = ofM t0 ((idsM t0)[j]) := by simp [allM]
  have h1 : (idsM t0)[j] ∈ t0.L.map (·.k) := ids_mem.1 (List.getElem_mem hj')
  obtain ⟨e, he, hk⟩ := List.mem_map.1 h1
  have h2 := ofM_key h.wf he
  have h3 := (h.key e he).1
  rw [hk] at h2
  refine ⟨e, he, e1.trans h2, ?_, ?_⟩
  · rw [e1, h2, h3, hk]
  · rw [e1, h2, h3]
theorem gone_s {t0 t : Mp Ma} (h0 : Pk t0) {j : Nat} (h : Gone t0 j t) (hj : j < (allM t0).length) : (drM t ((allM t0)[j].i)).1 = 0 ∧ Gone t0 (j + 1) (drM t ((allM t0)[j].i)).2 := by
  have hj' : j < (idsM t0).length := by simpa [allM] using hj
  obtain ⟨e0, he0, q1, q2, q3⟩ := all_at h0 hj
  have hin : isM t ((allM t0)[j].i) = true := by
    rw [h.is, q2, List.drop_eq_getElem_cons hj']
    exact List.mem_cons_self ..
  rw [q2] at *
  have hA := dr_after h.pk ((idsM t0)[j])
  have hnd := ids_nodup h0.wf
  cases hq : enF ((idsM t0)[j]) t.L 0 with
  | none => rw [isM, hq] at hin; cases hin
  | some x =>
    obtain ⟨i, e⟩ := x
    unfold drM at hA ⊢
    rw [hq] at hA ⊢
    simp only [drQ] at hA ⊢
    obtain ⟨_, g2, g3, _⟩ := enF_some hq
    rw [Nat.sub_zero] at g2
    refine ⟨trivial, hA.pk, fun x => ?_, ?_⟩
    · rw [isM_iff]
      simp only
      have h5 := h.is x
      rw [isM_iff, List.drop_eq_getElem_cons hj', List.mem_cons] at h5
      have h6 : (idsM t0)[j] ∉ (idsM t0).drop (j + 1) := by
        have := hnd
        rw [← List.take_append_drop j (idsM t0), List.drop_eq_getElem_cons hj'] at this
        exact (List.nodup_cons.1 (List.nodup_append.1 this).2.1).1
      have h7 := enF_none.1 (enF_erase h.pk.wf hq)
      constructor
      · intro hx
        have hx2 : x ∈ t.L.map (·.k) := by
          obtain ⟨y, hy, rfl⟩ := List.mem_map.1 hx
          exact List.mem_map_of_mem (List.mem_of_mem_eraseIdx hy)
        rcases h5.1 hx2 with rfl | q
        · exact absurd hx h7
        · exact q
      · intro hx
        obtain ⟨y, hy, rfl⟩ := List.mem_map.1 (h5.2 (.inr hx))
        refine List.mem_map_of_mem (List.mem_eraseIdx_iff_getElem?.2 ?_)
        obtain ⟨m, hm⟩ := List.getElem?_of_mem hy
        refine ⟨m, fun q => ?_, hm⟩
        subst q
        rw [g2] at hm
        have := Option.some.inj hm
        subst this
        rw [g3] at hx
        exact h6 hx
    · have := h.len
      simp only
      rw [List.length_eraseIdx, if_pos (List.getElem?_eq_some_iff.1 g2).1]
      have := (List.getElem?_eq_some_iff.1 g2).1
      omega
theorem lsum_take_le {α : Type} (f : α → Int) (h : List α) (j : Nat) (hf : ∀ x ∈ h, 0 ≤ f x) : ((h.take j).map f).sum ≤ (h.map f).sum := by
  have e : h.map f = (h.take j).map f ++ (h.drop j).map f := by rw [← List.map_append, List.take_append_drop]
  rw [e, List.sum_append]
  have : ∀ l : List α, (∀ x ∈ l, 0 ≤ f x) → 0 ≤ (l.map f).sum := by
    intro l
    induction l with
    | nil => intro _; exact Int.le_refl _
    | cons x r ih =>
      intro hx
      have h1 := hx x (List.mem_cons_self ..)
      have h2 := ih fun y hy => hx y (List.mem_cons_of_mem _ hy)
      simp only [List.map_cons, List.sum_cons]; omega
  have := this (h.drop j) fun x hx => hf x (List.mem_of_mem_drop hx)
  omega
theorem back_s {t0 t : Mp Ma} (h0 : Pk t0) {j : Nat} (h : Back t0 j t) (hj : j < (allM t0).length) :
    (adM t ((allM t0)[j].i) ((allM t0)[j].c) ((allM t0)[j].h)).1 = 0 ∧ Back t0 (j + 1) (adM t ((allM t0)[j].i) ((allM t0)[j].c) ((allM t0)[j].h)).2 := by
  have hj' : j < (idsM t0).length := by simpa [allM] using hj
  obtain ⟨e0, he0, q1, q2, q3⟩ := all_at h0 hj
  have hk := h0.key e0 he0
  have hg := h0.has e0 he0
  rw [← q1] at hk hg
  have hnd := ids_nodup h0.wf
  have h6 : (idsM t0)[j] ∉ (idsM t0).take j := by
    intro hx
    obtain ⟨m, hm, he⟩ := List.getElem_of_mem hx
    rw [List.length_take] at hm
    rw [List.getElem_take] at he
    have := (List.getElem_inj hnd).1 he
    omega
  have hq : enF ((allM t0)[j].i) t.L 0 = none := by
    rw [enF_none, q2]
    intro q
    exact h6 ((h.is _).1 (isM_iff.2 q))
  have hlen := allM_len t0
  have hsum : ∀ c g, isP g → (((allM t0).map (term g (atC c))).sum ≤ 1099511627776) := fun c g hg => by
    rw [lsum_perm _ (allM_perm h0.wf), List.map_map]
    exact h0.cap c g hg
  have hpos : ∀ c g, isP g → ∀ x ∈ allM t0, 0 ≤ term g (atC c) x := fun c g hg x hx => by
    obtain ⟨e, he, rfl⟩ := List.mem_map.1 ((allM_perm h0.wf).mem_iff.1 hx)
    exact (term_in hg _ (h0.has e he)).1
  have hnext : ∀ c g, isP g → (((allM t0).take (j + 1)).map (term g (atC c))).sum = Zg g (atC c) t.L + term g (atC c) (allM t0)[j] := fun c g hg => by
    rw [List.take_succ_eq_append_getElem hj, List.map_append, List.sum_append, h.sum c g hg]; simp
  have hroom : ∀ g, isP g → Zg g (atC (allM t0)[j].c) t.L + g (allM t0)[j].h ≤ 1099511627776 := fun g hg => by
    have h1 := hnext (allM t0)[j].c g hg
    have h2 := lsum_take_le (term g (atC (allM t0)[j].c)) (allM t0) (j + 1) (hpos _ g hg)
    have h3 := hsum (allM t0)[j].c g hg
    have h4 : term g (atC (allM t0)[j].c) (allM t0)[j] = g (allM t0)[j].h := by simp [term, atC]
    omega
  have hA := ad_after h.pk ((allM t0)[j].i) ((allM t0)[j].c) ((allM t0)[j].h)
  have hl0 := h0.len
  have e := ad_do h.pk (id := (allM t0)[j].i) (c := (allM t0)[j].c) (v := (allM t0)[j].h) (by omega) (by omega) (by omega) (by omega) hg hq (by have := h.len; omega) hroom
  rw [e] at hA ⊢
  refine ⟨rfl, hA.pk, fun x => ?_, ?_, fun c g hg => ?_⟩
  · rw [isM_iff, List.take_succ_eq_append_getElem hj', List.mem_append, ← (h.is x), isM_iff]
    simp only [List.map_append, List.map_cons, List.map_nil, List.mem_append, List.mem_singleton, q2]
  · simp only [List.length_append, List.length_singleton, h.len]
  · rw [hnext c g hg]
    simp only
    rw [Zg_app]
    rfl
end Go.Proofs.YtnlolefgifeohaaDoor.E15
