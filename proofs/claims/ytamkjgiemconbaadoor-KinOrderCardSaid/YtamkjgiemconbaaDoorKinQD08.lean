import Derived.Test.YtamkjgiemconbaaDoorKinLD08
open Go AH
set_option linter.unusedSimpArgs false
set_option maxRecDepth 100000
namespace Go.Proofs.YtamkjgiemconbaaDoor.D08
/- Above and below: plain laws. -/
theorem isK_at {t : Kn} {id : Int} (h : isK t id = true) : ∃ (i : Nat) (e : En Int), enF id t.L 0 = some (i, e) ∧ t.L[i]? = some e ∧ e.k = id := by
  cases hq : enF id t.L 0 with
  | none => rw [isK, hq] at h; cases h
  | some x =>
    obtain ⟨i, e⟩ := x
    obtain ⟨_, h2, h3, _⟩ := enF_some hq
    exact ⟨i, e, rfl, by simpa using h2, h3⟩
theorem up_ind {t : Kn} (ht : t.ok) (P : Int → Prop) (h0 : ∀ id, isK t id = false → P id) (h1 : ∀ id, isK t id = true → P (paK t id) → P id) : ∀ id, P id := by
  have key : ∀ n id, posK t.L id ≤ n → P id := by
    intro n
    induction n with
    | zero =>
      intro id hp
      refine h0 id ?_
      cases hk : isK t id with
      | false => rfl
      | true =>
        obtain ⟨i, e, hq, _⟩ := isK_at hk
        rw [posK, hq] at hp
        simp [posF] at hp
    | succ n ih =>
      intro id hp
      cases hk : isK t id with
      | false => exact h0 id hk
      | true =>
        obtain ⟨i, e, hq, _⟩ := isK_at hk
        have := posK_up ht.keys ht.up ht.key1 hq
        refine h1 id hk (ih _ ?_)
        rw [show paK t id = e.v by rw [paK, hq]; rfl]
        rw [posK, hq] at hp
        simp only [posF] at hp
        omega
  exact fun id => key _ id (Nat.le_refl _)
def uK (t : Kn) (id : Int) : List Int := upK t.L 16 id
theorem uK_next {t : Kn} (ht : t.ok) {id : Int} (hi : isK t id = true) : uK t id = id :: uK t (paK t id) := upK_next ht hi
theorem uK_out {t : Kn} {id : Int} (hi : isK t id = false) : uK t id = [] := upK_out hi
theorem paK_in {t : Kn} (ht : t.ok) {id : Int} (hi : isK t id = true) (h1 : id ≠ 1) : isK t (paK t id) = true := by
  obtain ⟨i, e, hq, hi2, hk⟩ := isK_at hi
  rcases ht.up i e hi2 with ⟨q, _⟩ | ⟨_, j, e', _, q2, q3⟩
  · exact absurd (hk.symm.trans q) h1
  · rw [show paK t id = e.v by rw [paK, hq]; rfl]
    exact isK_mem.2 ⟨e', List.mem_of_getElem? q2, q3⟩
theorem uK_split {t : Kn} (ht : t.ok) {y : Int} : ∀ x, y ∈ uK t x → isK t y = true ∧ ∃ pre, uK t x = pre ++ uK t y := by
  refine up_ind ht _ (fun x hx h => ?_) fun x hx ih h => ?_
  · rw [uK_out hx] at h; cases h
  · rw [uK_next ht hx] at h
    rcases List.mem_cons.1 h with rfl | h
    · exact ⟨hx, [], rfl⟩
    · obtain ⟨h1, pre, h2⟩ := ih h
      exact ⟨h1, x :: pre, by rw [uK_next ht hx, h2]; rfl⟩
theorem uK_self {t : Kn} (ht : t.ok) {x : Int} (hx : isK t x = true) : x ∈ uK t x := by rw [uK_next ht hx]; exact List.mem_cons_self ..
theorem uK_root {t : Kn} (ht : t.ok) : ∀ x, isK t x = true → (1 : Int) ∈ uK t x := by
  refine up_ind ht _ (fun x hx h => ?_) fun x hx ih h => ?_
  · rw [hx] at h; cases h
  · rw [uK_next ht hx]
    by_cases h1 : x = 1
    · subst h1; exact List.mem_cons_self ..
    · exact List.mem_cons_of_mem _ (ih (paK_in ht hx h1))
theorem beK_mem {t : Kn} {x y : Int} : beK t x y = true ↔ y ∈ uK t x := by
  rw [beK, List.contains_iff_mem, ptK, List.mem_reverse]; rfl
theorem dp_len {t : Kn} (ht : t.ok) {x : Int} (hx : isK t x = true) : (uK t x).length = dpK t x + 1 := by
  have : (ptK t x).length = (uK t x).length := by rw [ptK, List.length_reverse]; rfl
  unfold dpK
  rw [this]
  have : 0 < (uK t x).length := by rw [uK_next ht hx]; exact Nat.succ_pos _
  omega
theorem be_root {t : Kn} (ht : t.ok) {x : Int} (hx : isK t x = true) : beK t x 1 = true := beK_mem.2 (uK_root ht x hx)
theorem be_self {t : Kn} (ht : t.ok) {x : Int} (hx : isK t x = true) : beK t x x = true := beK_mem.2 (uK_self ht hx)
theorem be_anti {t : Kn} (ht : t.ok) {x y : Int} (h1 : beK t x y = true) (h2 : beK t y x = true) : x = y := by
  obtain ⟨hy, p, e1⟩ := uK_split ht x (beK_mem.1 h1)
  obtain ⟨hx, q, e2⟩ := uK_split ht y (beK_mem.1 h2)
  have l1 := congrArg List.length e1
  have l2 := congrArg List.length e2
  rw [List.length_append] at l1 l2
  have : p = [] := List.eq_nil_of_length_eq_zero (by omega)
  rw [this, List.nil_append, uK_next ht hx, uK_next ht hy] at e1
  exact (List.cons.inj e1).1
theorem be_trans {t : Kn} (ht : t.ok) {x y z : Int} (h1 : beK t x y = true) (h2 : beK t y z = true) : beK t x z = true := by
  obtain ⟨hy, p, e1⟩ := uK_split ht x (beK_mem.1 h1)
  exact beK_mem.2 (by rw [e1]; exact List.mem_append_right _ (beK_mem.1 h2))
theorem pt_at {t : Kn} (ht : t.ok) {x y : Int} (hx : isK t x = true) (hy : isK t y = true) : beK t x y = true ↔ dpK t y ≤ dpK t x ∧ (ptK t x)[dpK t y]? = some y := by
  have lx := dp_len ht hx
  have ly := dp_len ht hy
  constructor
  · intro h
    obtain ⟨_, p, e1⟩ := uK_split ht x (beK_mem.1 h)
    have l1 := congrArg List.length e1
    rw [List.length_append] at l1
    refine ⟨by omega, ?_⟩
    have : ptK t x = (uK t (paK t y)).reverse ++ (y :: p.reverse) := by
      show (uK t x).reverse = _
      rw [e1, uK_next ht hy, List.reverse_append, List.reverse_cons, List.append_assoc]; rfl
    have l2 : (uK t (paK t y)).reverse.length = dpK t y := by
      rw [uK_next ht hy, List.length_cons] at ly
      rw [List.length_reverse]; omega
    rw [this, List.getElem?_append_right (by omega), l2, Nat.sub_self]; rfl
  · rintro ⟨_, h⟩
    refine beK_mem.2 ?_
    have := List.mem_of_getElem? h
    rw [ptK, List.mem_reverse] at this
    exact this
theorem ch_pa {t : Kn} (ht : t.ok) {x c : Int} (h : c ∈ chK t x) : isK t c = true ∧ paK t c = x ∧ c ≠ 1 := by
  obtain ⟨e, he, rfl, h1, h2⟩ := (chK_mem ht).1 h
  exact ⟨isK_mem.2 ⟨e, he, rfl⟩, (paK_at ht he).trans h2, h1⟩
theorem ch_dp {t : Kn} (ht : t.ok) {x c : Int} (hx : isK t x = true) (h : c ∈ chK t x) : dpK t c = dpK t x + 1 := by
  obtain ⟨h1, h2, _⟩ := ch_pa ht h
  have l1 := dp_len ht h1
  have l2 := dp_len ht hx
  rw [uK_next ht h1, h2, List.length_cons] at l1
  omega

/-- A tree whose keys are 1 .. n, in the order of their coming. -/
structure Gr (n : Nat) (t : Kn) : Prop where
  ok : t.ok
  len : t.L.length = n
  key : ∀ (i : Nat) e, t.L[i]? = some e → e.k = (i + 1 : Nat)
  par : ∀ (i : Nat) e, t.L[i]? = some e → e.v ≤ (i : Nat)
theorem Gr.isin {n : Nat} {t : Kn} (h : Gr n t) (id : Int) : isK t id = true ↔ 1 ≤ id ∧ id ≤ n := by
  rw [isK_mem]
  constructor
  · rintro ⟨e, he, rfl⟩
    obtain ⟨i, hi⟩ := List.getElem?_of_mem he
    have := h.key i e hi
    have h2 := (List.getElem?_eq_some_iff.1 hi).1
    rw [h.len] at h2
    omega
  · rintro ⟨h1, h2⟩
    obtain ⟨m, rfl⟩ := Int.eq_ofNat_of_zero_le (by omega : 0 ≤ id)
    have hm : m - 1 < t.L.length := by rw [h.len]; omega
    refine ⟨t.L[m - 1], List.getElem_mem _, ?_⟩
    rw [h.key (m - 1) _ (List.getElem?_eq_getElem hm)]
    omega
theorem gr_new : Gr 1 newK := by
  refine ⟨newK_ok, rfl, fun i e h => ?_, fun i e h => ?_⟩
  all_goals
    cases i with
    | zero => simp only [newK, List.getElem?_cons_zero, Option.some.injEq] at h; subst h; decide
    | succ i => simp [newK] at h
def adK (t : Kn) (id p : Int) : Kn := ⟨t.L ++ [⟨id, p, t.c⟩], t.c + 1⟩
theorem gr_add {n : Nat} {t : Kn} (h : Gr n t) (hn : n < 16) {p : Int} (h1 : 1 ≤ p) (h2 : p ≤ n) : adE t ((n + 1 : Nat) : Int) p = (0, adK t ((n + 1 : Nat) : Int) p) ∧ Gr (n + 1) (adK t ((n + 1 : Nat) : Int) p) := by
  have e : adE t ((n + 1 : Nat) : Int) p = (0, adK t ((n + 1 : Nat) : Int) p) := by
    unfold adE
    have a1 : decide (((n + 1 : Nat) : Int) < 1) = false := by simp only [decide_eq_false_iff_not]; omega
    have a2 : decide (((n + 1 : Nat) : Int) > 999) = false := by simp only [decide_eq_false_iff_not]; omega
    have a3 : isK t ((n + 1 : Nat) : Int) = false := by
      cases hk : isK t ((n + 1 : Nat) : Int) with
      | false => rfl
      | true => have := (h.isin _).1 hk; omega
    have a4 : isK t p = true := (h.isin p).2 ⟨h1, h2⟩
    have a5 : decide ((t.L.length : Int) ≥ 16) = false := by rw [h.len]; simp only [decide_eq_false_iff_not]; omega
    rw [a1, a2, a3, a4, a5]; rfl
  refine ⟨e, ?_, ?_, ?_, ?_⟩
  · have := adE_ok h.ok ((n + 1 : Nat) : Int) p
    rw [e] at this; exact this
  · simp only [adK, List.length_append, List.length_singleton, h.len]
  · intro i x hx
    simp only [adK] at hx
    rcases Nat.lt_or_ge i t.L.length with hi | hi
    · rw [List.getElem?_append_left hi] at hx; exact h.key i x hx
    · rw [List.getElem?_append_right hi] at hx
      have h0 : i - t.L.length = 0 := by
        have := (List.getElem?_eq_some_iff.1 hx).1
        simpa using this
      rw [h0] at hx
      simp only [List.getElem?_cons_zero, Option.some.injEq] at hx
      subst hx
      have := h.len
      simp only
      omega
  · intro i x hx
    simp only [adK] at hx
    rcases Nat.lt_or_ge i t.L.length with hi | hi
    · rw [List.getElem?_append_left hi] at hx; exact h.par i x hx
    · rw [List.getElem?_append_right hi] at hx
      have h0 : i - t.L.length = 0 := by
        have := (List.getElem?_eq_some_iff.1 hx).1
        simpa using this
      rw [h0] at hx
      simp only [List.getElem?_cons_zero, Option.some.injEq] at hx
      subst hx
      have := h.len
      simp only
      omega
def dlK (t : Kn) (n : Nat) : Kn := ⟨t.L.eraseIdx (n - 1), t.c⟩
theorem gr_no {n : Nat} {t : Kn} (h : Gr n t) : chK t (n : Int) = [] := by
  refine List.eq_nil_iff_forall_not_mem.2 fun x hx => ?_
  obtain ⟨e, he, _, _, hv⟩ := (chK_mem h.ok).1 hx
  obtain ⟨i, hi⟩ := List.getElem?_of_mem he
  have h1 := h.par i e hi
  have h2 := (List.getElem?_eq_some_iff.1 hi).1
  rw [h.len] at h2
  omega
theorem gr_enF {n : Nat} {t : Kn} (h : Gr n t) {m : Nat} (h1 : 1 ≤ m) (h2 : m ≤ n) : ∃ e, enF (m : Int) t.L 0 = some (m - 1, e) ∧ t.L[m - 1]? = some e := by
  have hm : m - 1 < t.L.length := by rw [h.len]; omega
  refine ⟨t.L[m - 1], enF_at h.ok.keys (List.getElem?_eq_getElem hm) ?_, List.getElem?_eq_getElem hm⟩
  rw [h.key (m - 1) _ (List.getElem?_eq_getElem hm)]
  omega
theorem gr_drE {n : Nat} {t : Kn} (h : Gr n t) (hn : 2 ≤ n) : drE t (n : Int) = (0, dlK t n) := by
  obtain ⟨e, h1, _⟩ := gr_enF h (m := n) (by omega) (Nat.le_refl _)
  unfold drE
  rw [h1]
  unfold drQ
  have a1 : ((n : Int) == 1) = false := by simp; omega
  rw [a1, gr_no h]; rfl
theorem dlK_get {n : Nat} {t : Kn} (h : Gr n t) (a : Nat) : (dlK t n).L[a]? = if a < n - 1 then t.L[a]? else none := by
  rw [dlK, erase_get]
  split
  · rfl
  · exact List.getElem?_eq_none (by rw [h.len]; omega)
theorem gr_drop {n : Nat} {t : Kn} (h : Gr n t) (hn : 2 ≤ n) : Gr (n - 1) (dlK t n) := by
  have e := gr_drE h hn
  refine ⟨?_, ?_, ?_, ?_⟩
  · have := drE_ok h.ok (n : Int)
    rw [e] at this; exact this
  · rw [dlK, List.length_eraseIdx, h.len, if_pos (by omega)]
  · intro i x hx
    rw [dlK_get h] at hx
    split at hx
    · exact h.key i x hx
    · cases hx
  · intro i x hx
    rw [dlK_get h] at hx
    split at hx
    · exact h.par i x hx
    · cases hx
theorem gr_pa {n : Nat} {t : Kn} (h : Gr n t) (hn : 2 ≤ n) : 1 ≤ paK t (n : Int) ∧ paK t (n : Int) < n := by
  obtain ⟨e, h1, h2⟩ := gr_enF h (m := n) (by omega) (Nat.le_refl _)
  have h3 := h.par _ e h2
  have hv : paK t (n : Int) = e.v := by rw [paK, h1]; rfl
  have := paK_in h.ok (id := (n : Int)) ((h.isin _).2 ⟨by omega, by omega⟩) (by omega)
  have := (h.isin _).1 this
  omega
theorem gr_ch {n : Nat} {t : Kn} (h : Gr n t) (hn : 2 ≤ n) : chK t (paK t n) = chK (dlK t n) (paK t n) ++ [(n : Int)] := by
  have h' := gr_drop h hn
  obtain ⟨en, n1, n2⟩ := gr_enF h (m := n) (by omega) (Nat.le_refl _)
  have hv : paK t (n : Int) = en.v := by rw [paK, n1]; rfl
  have sub : ∀ x ∈ chK (dlK t n) (paK t n), x < n := fun x hx => by
    obtain ⟨e, he, rfl, _⟩ := (chK_mem h'.ok).1 hx
    have := (h'.isin e.k).1 (isK_mem.2 ⟨e, he, rfl⟩)
    omega
  refine sorted_eq ((alK_sorted h.ok).sublist List.filter_sublist) ?_ fun x => ?_
  · refine List.pairwise_append.2 ⟨(alK_sorted h'.ok).sublist List.filter_sublist, by simp, fun a ha b hb => ?_⟩
    simp only [List.mem_singleton] at hb
    subst hb
    exact sub a ha
  · rw [List.mem_append, List.mem_singleton, chK_mem h.ok, chK_mem h'.ok]
    constructor
    · rintro ⟨e, he, rfl, q1, q2⟩
      obtain ⟨i, hi⟩ := List.getElem?_of_mem he
      by_cases c : i < n - 1
      · exact .inl ⟨e, List.mem_of_getElem? (i := i) (by rw [dlK_get h, if_pos c]; exact hi), rfl, q1, q2⟩
      · have h2 := (List.getElem?_eq_some_iff.1 hi).1
        rw [h.len] at h2
        have := h.key i e hi
        exact .inr (by omega)
    · rintro (⟨e, he, rfl, q1, q2⟩ | rfl)
      · obtain ⟨i, hi⟩ := List.getElem?_of_mem he
        rw [dlK_get h] at hi
        split at hi
        · exact ⟨e, List.mem_of_getElem? hi, rfl, q1, q2⟩
        · cases hi
      · refine ⟨en, List.mem_of_getElem? n2, ?_, by omega, hv.symm⟩
        rw [h.key _ _ n2]; omega
theorem gr_one {t : Kn} (h : Gr 1 t) : alK t = [1] ∧ chK t 1 = [] ∧ (drE t 1).1 = 13 ∧ (drE t 1).2 = t := by
  obtain ⟨e, h1, h2⟩ := gr_enF h (m := 1) (Nat.le_refl _) (Nat.le_refl _)
  refine ⟨?_, gr_no h, ?_, ?_⟩
  · refine sorted_eq (alK_sorted h.ok) (by simp) fun x => ?_
    rw [alK_mem, ← isK_mem, h.isin, List.mem_singleton]
    omega
  · unfold drE
    rw [show ((1 : Nat) : Int) = 1 from rfl] at h1
    rw [h1]; rfl
  · unfold drE
    rw [show ((1 : Nat) : Int) = 1 from rfl] at h1
    rw [h1]; rfl
end Go.Proofs.YtamkjgiemconbaaDoor.D08
