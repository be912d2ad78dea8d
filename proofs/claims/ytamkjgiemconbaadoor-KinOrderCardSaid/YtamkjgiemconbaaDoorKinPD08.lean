import Derived.Test.YtamkjgiemconbaaDoorKinSD08
open Go AH
set_option linter.unusedSimpArgs false
set_option maxRecDepth 100000
namespace Go.Proofs.YtamkjgiemconbaaDoor.D08
/- Trees: plain laws. -/
theorem newK_ok : newK.ok := by
  refine ⟨by decide, by decide, by decide, by decide, by decide, by decide, ?_⟩
  intro i e h
  cases i with
  | zero => simp only [newK, List.getElem?_cons_zero, Option.some.injEq] at h; subst h; exact .inl ⟨rfl, rfl⟩
  | succ i => simp [newK] at h
theorem isK_mem {t : Kn} {id : Int} : isK t id = true ↔ ∃ e ∈ t.L, e.k = id := by
  rw [isK, enF_isSome, List.mem_map]
theorem isK_not {t : Kn} {id : Int} (h : isK t id = false) : ∀ e ∈ t.L, e.k ≠ id := fun e he q => by
  have : isK t id = true := isK_mem.2 ⟨e, he, q⟩
  rw [h] at this; cases this
theorem adE_ok {t : Kn} (h : t.ok) (id p : Int) : (adE t id p).2.ok := by
  unfold adE
  cases h1 : (decide (id < 1) || decide (id > 999))
  · cases h2 : isK t id
    · cases h3 : isK t p
      · exact h
      · cases h4 : decide ((t.L.length : Int) ≥ 16)
        · simp only [cond_false, cond_true]
          simp only [Bool.or_eq_false_iff, decide_eq_false_iff_not] at h1 h4
          have hn := isK_not h2
          obtain ⟨ep, hep, hepk⟩ := isK_mem.1 h3
          have hkp := h.key ep hep
          refine ⟨?_, ?_, ?_, ?_, ?_, ?_, ?_⟩
          · simp only [keysK, List.map_append, List.map_cons, List.map_nil]
            refine List.nodup_append.2 ⟨h.keys, by simp, ?_⟩
            intro a ha b hb q
            simp only [List.mem_singleton] at hb
            obtain ⟨e, he, rfl⟩ := List.mem_map.1 ha
            exact hn e he (q.trans hb)
          · simp only [List.map_append, List.map_cons, List.map_nil]
            refine List.nodup_append.2 ⟨h.stamps, by simp, ?_⟩
            intro a ha b hb q
            simp only [List.mem_singleton] at hb
            obtain ⟨e, he, rfl⟩ := List.mem_map.1 ha
            have := h.lt e he
            omega
          · intro e he
            rcases List.mem_append.1 he with he | he
            · have := h.lt e he; exact Nat.lt_succ_of_lt this
            · simp only [List.mem_singleton] at he; subst he; exact Nat.lt_succ_self _
          · simp only [List.length_append, List.length_singleton]; omega
          · intro e he
            rcases List.mem_append.1 he with he | he
            · exact h.key e he
            · simp only [List.mem_singleton] at he; subst he; simp only; omega
          · simp only [keysK, List.map_append]; exact List.mem_append_left _ h.root
          · intro i e he
            rcases Nat.lt_or_ge i t.L.length with hi | hi
            · rw [List.getElem?_append_left hi] at he
              rcases h.up i e he with q | ⟨q0, j, e', q1, q2, q3⟩
              · exact .inl q
              · exact .inr ⟨q0, j, e', q1, by rw [List.getElem?_append_left (by omega)]; exact q2, q3⟩
            · rw [List.getElem?_append_right hi] at he
              have : i - t.L.length = 0 := by
                have := (List.getElem?_eq_some_iff.1 he).1
                simpa using this
              rw [this] at he
              simp only [List.getElem?_cons_zero, Option.some.injEq] at he
              subst he
              obtain ⟨j, hj⟩ := List.getElem?_of_mem hep
              have hj2 := (List.getElem?_eq_some_iff.1 hj).1
              have h1r : id ≠ 1 := fun q => by
                obtain ⟨e, he, hk⟩ := List.mem_map.1 h.root
                exact hn e he (hk.trans q.symm)
              exact .inr ⟨h1r, j, ep, by omega, by rw [List.getElem?_append_left hj2]; exact hj, hepk⟩
        · exact h
    · exact h
  · exact h
theorem paK_at {t : Kn} (h : t.ok) {e : En Int} (he : e ∈ t.L) : paK t e.k = e.v := by
  obtain ⟨i, hi⟩ := List.getElem?_of_mem he
  rw [paK, enF_at h.keys hi rfl]; rfl
theorem alK_mem {t : Kn} {x : Int} : x ∈ alK t ↔ ∃ e ∈ t.L, e.k = x := by
  rw [alK, (sortI_perm _).mem_iff, keysK, List.mem_map]
theorem chK_mem {t : Kn} (h : t.ok) {id x : Int} : x ∈ chK t id ↔ ∃ e ∈ t.L, e.k = x ∧ x ≠ 1 ∧ e.v = id := by
  rw [chK, List.mem_filter, alK_mem]
  constructor
  · rintro ⟨⟨e, he, rfl⟩, hp⟩
    rw [chP, paK_at h he] at hp
    cases h1 : (e.k != 1)
    · rw [h1] at hp; cases hp
    · rw [h1, cond_true] at hp
      exact ⟨e, he, rfl, by simpa using h1, by simpa using hp⟩
  · rintro ⟨e, he, rfl, h1, h2⟩
    refine ⟨⟨e, he, rfl⟩, ?_⟩
    rw [chP, paK_at h he, show (e.k != 1) = true by simpa using h1, cond_true, h2]
    simp
theorem erase_get {L : List (En Int)} {i a : Nat} : (L.eraseIdx i)[a]? = if a < i then L[a]? else L[a + 1]? := List.getElem?_eraseIdx ..
theorem drE_ok {t : Kn} (h : t.ok) (id : Int) : (drE t id).2.ok := by
  unfold drE
  cases hq : enF id t.L 0 with
  | none => exact h
  | some x =>
    obtain ⟨i, e⟩ := x
    obtain ⟨_, hi, hk, _⟩ := enF_some hq
    rw [Nat.sub_zero] at hi
    unfold drQ
    cases h1 : (id == 1)
    · cases h2 : decide (((chK t id).length : Int) > 0)
      · simp only [cond_false]
        simp only [decide_eq_false_iff_not] at h2
        have hc : chK t id = [] := List.eq_nil_of_length_eq_zero (by omega)
        have hid : id ≠ 1 := by simpa using h1
        have hno : ∀ e' ∈ t.L, e'.k ≠ 1 → e'.v ≠ id := fun e' he' hk' hv => by
          have : e'.k ∈ chK t id := (chK_mem h).2 ⟨e', he', rfl, hk', hv⟩
          rw [hc] at this; cases this
        have hsub : (t.L.eraseIdx i).Sublist t.L := List.eraseIdx_sublist ..
        refine ⟨?_, ?_, ?_, ?_, ?_, ?_, ?_⟩
        · exact h.keys.sublist (hsub.map _)
        · exact h.stamps.sublist (hsub.map _)
        · exact fun e' he' => h.lt e' (hsub.mem he')
        · exact Nat.le_trans hsub.length_le h.len
        · exact fun e' he' => h.key e' (hsub.mem he')
        · obtain ⟨r, hr, hr1⟩ := List.mem_map.1 h.root
          obtain ⟨j, hj⟩ := List.getElem?_of_mem hr
          have hne : j ≠ i := fun q => by
            rw [q, hi] at hj
            simp only [Option.some.injEq] at hj
            exact hid (by rw [← hk, hj]; exact hr1)
          refine List.mem_map.2 ⟨r, ?_, hr1⟩
          rcases Nat.lt_or_gt_of_ne hne with q | q
          · exact List.mem_of_getElem? (i := j) (by rw [erase_get, if_pos q]; exact hj)
          · exact List.mem_of_getElem? (i := j - 1) (by rw [erase_get, if_neg (by omega), show j - 1 + 1 = j by omega]; exact hj)
        · intro a e' he'
          rw [erase_get] at he'
          have key : ∀ a', (a < i → a' = a) → (¬ a < i → a' = a + 1) → t.L[a']? = some e' → (e'.k = 1 ∧ e'.v = 0) ∨ (e'.k ≠ 1 ∧ ∃ (j : Nat) (x : En Int), j < a ∧ (t.L.eraseIdx i)[j]? = some x ∧ x.k = e'.v) := by
            intro a' g1 g2 ha'
            rcases h.up a' e' ha' with q | ⟨q0, j, x, q1, q2, q3⟩
            · exact .inl q
            · refine .inr ⟨q0, ?_⟩
              have hne : j ≠ i := fun q => by
                rw [q, hi] at q2
                simp only [Option.some.injEq] at q2
                exact hno e' (List.mem_of_getElem? ha') q0 (by rw [← q3, ← q2]; exact hk)
              rcases Nat.lt_or_gt_of_ne hne with q | q
              · refine ⟨j, x, ?_, by rw [erase_get, if_pos q]; exact q2, q3⟩
                by_cases c : a < i
                · rw [g1 c] at q1; exact q1
                · omega
              · refine ⟨j - 1, x, ?_, by rw [erase_get, if_neg (by omega), show j - 1 + 1 = j by omega]; exact q2, q3⟩
                by_cases c : a < i
                · rw [g1 c] at q1; omega
                · rw [g2 c] at q1; omega
          by_cases c : a < i
          · rw [if_pos c] at he'; exact key a (fun _ => rfl) (fun q => absurd c q) he'
          · rw [if_neg c] at he'; exact key (a + 1) (fun q => absurd q c) (fun _ => rfl) he'
      · exact h
    · exact h

/- The reference's tree and ours. -/
def reV : Option (Nat × En Int) → Int
  | some x => x.2.v
  | none => -1
structure Rel (t : Kn) (R : List Int) : Prop where
  len : R.length = 1000
  at_ : ∀ i : Nat, i < 1000 → R.getD i 0 = reV (enF i t.L 0)
theorem rel_new : Rel newK newR := by
  refine ⟨by simp [newR, nwL], fun i hi => ?_⟩
  have e0 : nwL 1000 = List.replicate 1000 (-1) := by unfold nwL; rw [Nat.sub_self, List.replicate_zero, List.append_nil]
  rw [newR, e0, List.getD_eq_getElem?_getD, List.getElem?_set]
  by_cases h : 1 = i
  · subst h
    rw [if_pos rfl, if_pos (by rw [List.length_replicate]; decide)]; rfl
  · rw [if_neg h, List.getElem?_replicate, if_pos hi]
    have : ((i : Int) == 1) = false := by simp; omega
    simp only [newK, enF, this, cond_false, reV]; rfl
theorem isR_eq {t : Kn} {R : List Int} (h : t.ok) (hr : Rel t R) (id : Int) : isR R id = isK t id := by
  have out : ¬ (1 ≤ id ∧ id ≤ 999) → isK t id = false := fun q => by
    cases hk : isK t id with
    | false => rfl
    | true =>
      obtain ⟨e, he, rfl⟩ := isK_mem.1 hk
      have := h.key e he
      omega
  unfold isR
  cases h1 : decide (id ≥ 1)
  · simp only [decide_eq_false_iff_not] at h1
    rw [out (by omega)]; rfl
  · cases h2 : decide (id ≤ 999)
    · simp only [decide_eq_false_iff_not] at h2
      rw [out (by omega)]; rfl
    · simp only [decide_eq_true_eq] at h1 h2
      obtain ⟨i, rfl⟩ := Int.eq_ofNat_of_zero_le (by omega : 0 ≤ id)
      simp only [cond_true, Int.toNat_natCast]
      rw [isK]
      simp only [hr.at_ i (by omega)]
      cases hq : enF (i : Int) t.L 0 with
      | none => rfl
      | some x =>
        obtain ⟨j, e⟩ := x
        obtain ⟨_, h3, _⟩ := enF_some hq
        have := h.key e (List.mem_of_getElem? h3)
        simp [reV]; omega
theorem get_pa {t : Kn} {R : List Int} (h : t.ok) (hr : Rel t R) {id : Int} (hk : isK t id = true) : R.getD id.toNat 0 = paK t id := by
  obtain ⟨e, he, rfl⟩ := isK_mem.1 hk
  have := h.key e he
  obtain ⟨i, hi⟩ := Int.eq_ofNat_of_zero_le (by omega : 0 ≤ e.k)
  rw [hi, Int.toNat_natCast, hr.at_ i (by omega), paK, ← hi]
  obtain ⟨j, hj⟩ := List.getElem?_of_mem he
  rw [enF_at h.keys hj rfl]; rfl
theorem sorted_eq {a b : List Int} (ha : a.Pairwise (· < ·)) (hb : b.Pairwise (· < ·)) (h : ∀ x, x ∈ a ↔ x ∈ b) : a = b := by
  have na : a.Nodup := ha.imp fun q e => by omega
  have nb : b.Nodup := hb.imp fun q e => by omega
  exact List.Perm.eq_of_pairwise (le := fun x y => x ≤ y) (fun x y _ _ h1 h2 => Int.le_antisymm h1 h2) (ha.imp fun q => Int.le_of_lt q) (hb.imp fun q => Int.le_of_lt q) ((List.perm_ext_iff_of_nodup na nb).2 h)
theorem alK_sorted {t : Kn} (h : t.ok) : (alK t).Pairwise (· < ·) := by
  have h1 : (alK t).Pairwise (fun a b => decide (a ≤ b) = true) := List.pairwise_mergeSort (fun a b c h1 h2 => by simp only [decide_eq_true_eq] at *; omega) (fun a b => by simp only [Bool.or_eq_true, decide_eq_true_eq]; omega) _
  have h2 : (alK t).Nodup := (sortI_perm _).nodup_iff.2 h.keys
  exact (List.pairwise_and_iff.2 ⟨h1, h2⟩).imp fun ⟨q1, q2⟩ => by simp only [decide_eq_true_eq] at q1; omega
theorem rng_mem {j : Nat} : j ∈ List.range' 1 999 ↔ 1 ≤ j ∧ j < 1000 := by rw [List.mem_range'_1]
theorem hcR_eq {t : Kn} {R : List Int} (h : t.ok) (hr : Rel t R) (id : Int) : hcR R id = chK t id := by
  refine sorted_eq ?_ ((alK_sorted h).sublist List.filter_sublist) fun x => ?_
  · unfold hcR hcA
    rw [List.pairwise_map]
    refine ((List.pairwise_lt_range' (s := 1) (n := 999)).sublist List.filter_sublist).imp fun q => ?_
    simp only [Int.ofNat_eq_natCast]; omega
  · rw [chK_mem h, hcR, hcA, List.mem_map]
    constructor
    · rintro ⟨j, hj, rfl⟩
      rw [List.mem_filter, rng_mem] at hj
      obtain ⟨⟨hj1, hj2⟩, hp⟩ := hj
      rw [hcP, hr.at_ j hj2] at hp
      cases hq : enF (j : Int) t.L 0 with
      | none =>
        rw [hq, reV] at hp
        cases hv : ((-1 : Int) == id)
        · rw [hv] at hp; cases hp
        · rw [hv, cond_true] at hp
          have := eq_of_beq hv
          simp only [decide_eq_true_eq] at hp
          omega
      | some x =>
        obtain ⟨i, e⟩ := x
        obtain ⟨_, h2, h3, _⟩ := enF_some hq
        rw [Nat.sub_zero] at h2
        rw [hq, reV] at hp
        simp only at hp
        cases hv : (e.v == id)
        · rw [hv] at hp; cases hp
        · rw [hv, cond_true] at hp
          simp only [decide_eq_true_eq] at hp
          have hv' := eq_of_beq hv
          refine ⟨e, List.mem_of_getElem? h2, h3, fun q => ?_, hv'⟩
          rcases h.up i e h2 with ⟨_, z⟩ | ⟨z, _⟩
          · omega
          · exact z (h3.trans q)
    · rintro ⟨e, he, rfl, h1, h2⟩
      have hk := h.key e he
      obtain ⟨j, hj⟩ := Int.eq_ofNat_of_zero_le (by omega : 0 ≤ e.k)
      obtain ⟨i, hi⟩ := List.getElem?_of_mem he
      refine ⟨j, ?_, hj.symm⟩
      rw [List.mem_filter, rng_mem]
      refine ⟨by omega, ?_⟩
      rw [hcP, hr.at_ j (by omega), ← hj, enF_at h.keys hi rfl, reV]
      simp only [h2, beq_self_eq_true, cond_true, decide_eq_true_eq]
      rcases h.up i e hi with ⟨z, _⟩ | ⟨_, j', e', _, g2, g3⟩
      · exact absurd z h1
      · have := h.key e' (List.mem_of_getElem? g2)
        omega
theorem cnR_eq {t : Kn} {R : List Int} (h : t.ok) (hr : Rel t R) : cnR R = t.L.length := by
  have hp : ((cnA R 999).map Int.ofNat).Perm (keysK t) := by
    refine (List.perm_ext_iff_of_nodup ?_ h.keys).2 fun x => ?_
    · have : ((cnA R 999).map Int.ofNat).Pairwise (· < ·) := by
        unfold cnA
        rw [List.pairwise_map]
        refine ((List.pairwise_lt_range' (s := 1) (n := 999)).sublist List.filter_sublist).imp fun q => ?_
        simp only [Int.ofNat_eq_natCast]; omega
      exact this.imp fun q e => by omega
    · rw [List.mem_map]
      constructor
      · rintro ⟨j, hj, rfl⟩
        rw [cnA, List.mem_filter, rng_mem] at hj
        obtain ⟨⟨hj1, hj2⟩, hq⟩ := hj
        simp only [cnP, hr.at_ j hj2] at hq
        cases hz : enF (j : Int) t.L 0 with
        | none => rw [hz, reV] at hq; simp at hq
        | some x =>
          obtain ⟨i, e⟩ := x
          obtain ⟨_, h2, h3, _⟩ := enF_some hz
          exact List.mem_map.2 ⟨e, List.mem_of_getElem? h2, h3⟩
      · intro hx
        obtain ⟨e, he, rfl⟩ := List.mem_map.1 hx
        have hk := h.key e he
        obtain ⟨j, hj⟩ := Int.eq_ofNat_of_zero_le (by omega : 0 ≤ e.k)
        obtain ⟨i, hi⟩ := List.getElem?_of_mem he
        refine ⟨j, ?_, hj.symm⟩
        rw [cnA, List.mem_filter, rng_mem]
        refine ⟨by omega, ?_⟩
        simp only [cnP, hr.at_ j (by omega), ← hj, enF_at h.keys hi rfl, reV, decide_eq_true_eq]; omega
  have := hp.length_eq
  rw [List.length_map, keysK, List.length_map] at this
  exact this
theorem upR_eq {t : Kn} {R : List Int} (h : t.ok) (hr : Rel t R) : ∀ (n : Nat) (id : Int), upR R n id = upK t.L n id
  | 0, _ => rfl
  | n + 1, id => by
    unfold upR upK
    rw [isR_eq h hr id]
    cases hk : isK t id
    · rw [show (enF id t.L 0).isSome = false from hk]; rfl
    · rw [show (enF id t.L 0).isSome = true from hk, cond_true, cond_true, get_pa h hr hk, upR_eq h hr n]; rfl
theorem ptR_eq {t : Kn} {R : List Int} (h : t.ok) (hr : Rel t R) (id : Int) : ptR R id = ptK t id := by
  have h1 := posK_le (L := t.L) id
  have h2 := h.len
  rw [ptR, ptK, upR_eq h hr, upK_fuel h.keys h.up h.key1 20 16 id (by omega) (by omega)]
theorem enF_snoc (k : Int) (x : En Int) : ∀ (L : List (En Int)) (i : Nat), enF k (L ++ [x]) i = (enF k L i).orElse fun _ => bif k == x.k then some (i + L.length, x) else none
  | [], i => by simp only [List.nil_append, enF, List.length_nil, Nat.add_zero, Option.orElse_none]
  | e :: r, i => by
    simp only [List.cons_append, enF, List.length_cons]
    cases h : k == e.k
    · simp only [cond_false]; rw [enF_snoc k x r (i + 1), show i + 1 + r.length = i + (r.length + 1) by omega]
    · rfl
theorem reV_erase (k : Int) : ∀ (L : List (En Int)) (i a b : Nat) (e : En Int), L[i]? = some e → e.k ≠ k → reV (enF k (L.eraseIdx i) a) = reV (enF k L b)
  | [], i, _, _, e, h, _ => by simp at h
  | x :: r, 0, a, b, e, h, hk => by
    simp only [List.getElem?_cons_zero, Option.some.injEq] at h
    subst h
    have : (k == x.k) = false := by simp; exact fun q => hk q.symm
    simp only [List.eraseIdx_cons_zero, enF, this, cond_false]
    have key : ∀ (r : List (En Int)) (a b : Nat), reV (enF k r a) = reV (enF k r b) := by
      intro r
      induction r with
      | nil => intro a b; rfl
      | cons y r ih =>
        intro a b
        simp only [enF]
        cases k == y.k
        · exact ih _ _
        · rfl
    exact key r _ _
  | x :: r, i + 1, a, b, e, h, hk => by
    simp only [List.getElem?_cons_succ] at h
    simp only [List.eraseIdx_cons_succ, enF]
    cases k == x.k
    · exact reV_erase k r i _ _ e h hk
    · rfl
theorem adE_eq {t : Kn} {R : List Int} (h : t.ok) (hr : Rel t R) (id p : Int) : (raE R id p).1 = (adE t id p).1 ∧ Rel (adE t id p).2 (raE R id p).2 := by
  unfold raE adE
  rw [isR_eq h hr, isR_eq h hr, cnR_eq h hr]
  cases h1 : (decide (id < 1) || decide (id > 999))
  · cases h2 : isK t id
    · cases h3 : isK t p
      · exact ⟨rfl, hr⟩
      · cases h4 : decide ((t.L.length : Int) ≥ 16)
        · simp only [cond_false, cond_true]
          refine ⟨rfl, by rw [List.length_set]; exact hr.len, fun i hi => ?_⟩
          simp only [Bool.or_eq_false_iff, decide_eq_false_iff_not] at h1
          obtain ⟨n, rfl⟩ := Int.eq_ofNat_of_zero_le (by omega : 0 ≤ id)
          rw [Int.toNat_natCast, List.getD_eq_getElem?_getD, List.getElem?_set, enF_snoc]
          by_cases q : n = i
          · subst q
            have : enF (n : Int) t.L 0 = none := by
              cases hq : enF (n : Int) t.L 0 with
              | none => rfl
              | some x => rw [isK, hq] at h2; cases h2
            rw [if_pos rfl, if_pos (by rw [hr.len]; exact hi), this]
            simp [reV]
          · rw [if_neg q, ← List.getD_eq_getElem?_getD, hr.at_ i hi]
            have : ((i : Int) == (n : Int)) = false := by simp; omega
            simp only [this, cond_false]
            cases enF (i : Int) t.L 0 <;> rfl
        · exact ⟨rfl, hr⟩
    · exact ⟨rfl, hr⟩
  · exact ⟨rfl, hr⟩
theorem drE_eq {t : Kn} {R : List Int} (h : t.ok) (hr : Rel t R) (id : Int) : (rdE R id).1 = (drE t id).1 ∧ Rel (drE t id).2 (rdE R id).2 := by
  unfold rdE drE
  rw [isR_eq h hr, hcR_eq h hr]
  cases hq : enF id t.L 0 with
  | none =>
    rw [show isK t id = false by rw [isK, hq]; rfl]
    exact ⟨rfl, hr⟩
  | some x =>
    obtain ⟨i, e⟩ := x
    obtain ⟨_, hi, hk, _⟩ := enF_some hq
    rw [Nat.sub_zero] at hi
    rw [show isK t id = true by rw [isK, hq]; rfl]
    unfold drQ
    cases h1 : (id == 1)
    · cases h2 : decide (((chK t id).length : Int) > 0)
      · simp only [cond_false, cond_true]
        have hkey := h.key e (List.mem_of_getElem? hi)
        refine ⟨rfl, by rw [List.length_set]; exact hr.len, fun j hj => ?_⟩
        obtain ⟨n, rfl⟩ := Int.eq_ofNat_of_zero_le (by omega : 0 ≤ id)
        rw [Int.toNat_natCast, List.getD_eq_getElem?_getD, List.getElem?_set]
        by_cases q : n = j
        · subst q
          rw [if_pos rfl, if_pos (by rw [hr.len]; exact hj)]
          have : enF (n : Int) (t.L.eraseIdx i) 0 = none := by
            rw [enF_none]
            intro hm
            obtain ⟨e', he', hk'⟩ := List.mem_map.1 hm
            obtain ⟨a, ha⟩ := List.getElem?_of_mem he'
            rw [erase_get] at ha
            by_cases c : a < i
            · rw [if_pos c] at ha
              have := enF_at h.keys ha hk'
              rw [hq] at this
              simp only [Option.some.injEq, Prod.mk.injEq] at this
              omega
            · rw [if_neg c] at ha
              have := enF_at h.keys ha hk'
              rw [hq] at this
              simp only [Option.some.injEq, Prod.mk.injEq] at this
              omega
          rw [this]; rfl
        · rw [if_neg q, ← List.getD_eq_getElem?_getD, hr.at_ j hj]
          exact (reV_erase (j : Int) t.L i 0 0 e hi (by rw [hk]; omega)).symm
      · exact ⟨rfl, hr⟩
    · exact ⟨rfl, hr⟩
end Go.Proofs.YtamkjgiemconbaaDoor.D08
