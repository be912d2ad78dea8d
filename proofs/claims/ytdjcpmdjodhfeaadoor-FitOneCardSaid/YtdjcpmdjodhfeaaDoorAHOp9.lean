import Derived.Test.YtdjcpmdjodhfeaaDoorAHOp8
import Derived.MapKept
set_option linter.unusedSimpArgs false
namespace AH
open Go
variable {S : Sys} {eb : Nat → Addr} {φ : Emb} {M : Nat → Option Blk} {own : Nat → Prop} {w : World} {ρ : Operand → Value} {f : Opd → AV} {o : Oper} {fresh : Nat} {p : Prop} {e : Eff}
variable {T : TypeId}

theorem ER.get : ∀ {es : List (AV × AV × Nat)} {us : List MapEntry}, ER T eb φ es us → ∀ (i : Nat) k v s, es[i]? = some (k, v, s) → ∃ x y, us[i]? = some { key := x, val := y, born := s } ∧ VR T eb φ k x ∧ VR T eb φ v y
  | _, _, .nil, i, k, v, s, h => by simp at h
  | _, _, .cons k v s x y es us hk hv h, 0, _, _, _, e => by
    simp at e
    obtain ⟨rfl, rfl, rfl⟩ := e
    exact ⟨x, y, by simp, hk, hv⟩
  | _, _, .cons k v s x y es us hk hv h, i + 1, _, _, _, e => by
    obtain ⟨a, b, h1, h2⟩ := h.get i _ _ _ (by simpa using e)
    exact ⟨a, b, by simpa using h1, h2⟩

theorem ER.append : ∀ {es es' : List (AV × AV × Nat)} {us us' : List MapEntry}, ER T eb φ es us → ER T eb φ es' us' → ER T eb φ (es ++ es') (us ++ us')
  | _, _, _, _, .nil, h => h
  | _, _, _, _, .cons k v s x y es us hk hv h, g => .cons _ _ _ _ _ _ _ hk hv (h.append g)

theorem ER.set : ∀ {es : List (AV × AV × Nat)} {us : List MapEntry}, ER T eb φ es us → ∀ (i : Nat) (k v : AV) (s : Nat) (x y : Value), VR T eb φ k x → VR T eb φ v y → ER T eb φ (es.set i (k, v, s)) (us.set i { key := x, val := y, born := s })
  | _, _, .nil, i, _, _, _, _, _, _, _ => by simp; exact .nil
  | _, _, .cons k v s x y es us hk hv h, 0, _, _, _, _, _, h1, h2 => by simp; exact .cons _ _ _ _ _ _ _ h1 h2 h
  | _, _, .cons k v s x y es us hk hv h, i + 1, _, _, _, _, _, h1, h2 => by simp; exact .cons _ _ _ _ _ _ _ hk hv (h.set i _ _ _ _ _ h1 h2)

theorem ER.eraseIdx : ∀ {es : List (AV × AV × Nat)} {us : List MapEntry}, ER T eb φ es us → ∀ (i : Nat), ER T eb φ (es.eraseIdx i) (us.eraseIdx i)
  | _, _, .nil, i => by simp; exact .nil
  | _, _, .cons k v s x y es us hk hv h, 0 => by simp; exact h
  | _, _, .cons k v s x y es us hk hv h, i + 1 => by simp; exact .cons _ _ _ _ _ _ _ hk hv (h.eraseIdx i)

theorem ER.findIdx : ∀ {es : List (AV × AV × Nat)} {us : List MapEntry}, ER T eb φ es us → ∀ (n : Int), es.findIdx? (fun e => (e.2.2 : Int) == n) = us.findIdx? (fun e => (e.born : Int) == n)
  | _, _, .nil, n => rfl
  | _, _, .cons k v s x y es us hk hv h, n => by simp only [List.findIdx?_cons, h.findIdx n]

theorem modify_set {α : Type} (l : List α) (i : Nat) (g : α → α) (a : α) (h : l[i]? = some a) : l.modify i g = l.set i (g a) := by
  refine List.ext_getElem? fun j => ?_
  rw [List.getElem?_modify, List.getElem?_set]
  by_cases hj : i = j
  · subst hj
    obtain ⟨h1, rfl⟩ := List.getElem?_eq_some_iff.1 h
    simp [h1]
  · simp [hj]

/-- The key's kind over values. -/
def keyEqV : KK → Value → Value → Option Bool
  | .sc k, a, b => eqScV k a b
  | .fl ks, .agg a, .agg b => eqFlatV ks a.toList b.toList
  | _, _, _ => none

theorem keyEqV_of {kk : KK} {a b : AV} {x y : Value} {r : Bool} (h : keyEq kk a b = some r) (ha : VR T eb φ a x) (hb : VR T eb φ b y) : keyEqV kk x y = some r := by
  cases kk with
  | sc k => exact eqScV_of h ha hb
  | fl ks =>
    cases a <;> cases b <;> simp only [keyEq, reduceCtorEq] at h
    cases ha
    cases hb
    exact eqFlatV_of h (by assumption) (by assumption)

theorem sameBits_sc {k : SK} {x y : Value} (h : eqScV k x y = some true) (n : Nat) : Instr.sameBits n y x = true := by
  cases x <;> cases y <;> simp only [eqScV, reduceCtorEq] at h <;> split at h <;> simp only [Option.some.injEq, reduceCtorEq] at h
  · simp only [beq_iff_eq] at h; subst h; simp [Instr.sameBits]
  · rename_i hk
    simp only [beq_iff_eq] at h
    subst h
    obtain ⟨_, rfl⟩ := hk
    simp [Instr.sameBits]
  · rw [← beq_toListBytes, MapKept.bytes_beq] at h
    subst h
    simp [Instr.sameBits, MapKept.bytes_beq]

theorem sameBits_fl : ∀ {ks : List SK} {x y : List Value}, eqFlatV ks x y = some true → ∀ n, (y.zip x).all (fun (a, b) => Instr.sameBits n a b) = true
  | [], [], [], _, _ => rfl
  | [], [], _ :: _, h, _ => by simp [eqFlatV] at h
  | [], _ :: _, _, h, _ => by simp [eqFlatV] at h
  | _ :: _, [], _, h, _ => by simp [eqFlatV] at h
  | _ :: _, _ :: _, [], h, _ => by simp [eqFlatV] at h
  | k :: ks, a :: x, b :: y, h, n => by
    simp only [eqFlatV] at h
    split at h
    · rename_i p q hp hq
      simp only [Option.some.injEq, Bool.and_eq_true] at h
      obtain ⟨rfl, rfl⟩ := h
      simp only [List.zip_cons_cons, List.all_cons, Bool.and_eq_true]
      exact ⟨sameBits_sc hp n, sameBits_fl hq n⟩
    · cases h

theorem sameBits_key {kk : KK} {x y : Value} (h : keyEqV kk x y = some true) : Instr.sameBits 10000 y x = true := by
  cases kk with
  | sc k => exact sameBits_sc h _
  | fl ks =>
    cases x <;> cases y <;> simp only [keyEqV, reduceCtorEq] at h
    have := eqFlatV_len h
    simp only [Array.length_toList] at this
    simp only [Instr.sameBits, Bool.and_eq_true, beq_iff_eq]
    exact ⟨by omega, sameBits_fl h 9999⟩

theorem keyThatStays_run {kk : KK} {x y : Value} (h : keyEqV kk x y = some true) : (Instr.keyThatStays y x).run S.P w = .ok x w := by
  simp [Instr.keyThatStays, sameBits_key h]

theorem keyT_flat {kt : TypeId} {ks : List SK} (h : keyT S.P kt = some (.fl ks)) : flatT S.P 8 kt = some ks ∧ isAggT S.P kt = true := by
  unfold keyT at h
  split at h <;> simp only [Option.some.injEq, reduceCtorEq, Option.map_eq_some_iff] at h
  all_goals
    obtain ⟨q, h1, h2⟩ := h
    cases h2
    rename_i hu
    exact ⟨h1, by simp [isAggT, hu]⟩

theorem keyEqV_run {kt : TypeId} {kk : KK} (hk : keyT S.P kt = some kk) {x y : Value} {r : Bool} (h : keyEqV kk x y = some r) : (Op.equal kt x y).run S.P w = .ok r w := by
  cases kk with
  | sc k =>
    unfold keyT at hk
    split at hk <;> simp only [Option.some.injEq, reduceCtorEq, Option.map_eq_some_iff, KK.sc.injEq, exists_and_right, and_false, exists_false] at hk
    · rename_i hu; exact eqScV_run (D := 9999) h (.inl ⟨hu, hk.symm⟩)
    · rename_i i hu; exact eqScV_run (D := 9999) h (.inr (.inl ⟨⟨i, hu⟩, hk.symm⟩))
    · rename_i hu; exact eqScV_run (D := 9999) h (.inr (.inr ⟨hu, hk.symm⟩))
  | fl ks =>
    obtain ⟨h1, h2⟩ := keyT_flat hk
    cases x <;> cases y <;> simp only [keyEqV, reduceCtorEq] at h
    rename_i xs ys
    have := run_equal_flat (P := S.P) (w := w) 8 kt ks h1 10000 (by omega) _ _ _ h
    simpa [toV, h2, Op.equal, Op.maxDepth] using this

/-- The search over values. -/
def findV (kk : KK) (k : Value) : List MapEntry → Nat → Option (Option (Nat × Value))
  | [], _ => some none
  | e :: r, i => match keyEqV kk k e.key with
    | some true => some (some (i, e.val))
    | some false => findV kk k r (i + 1)
    | none => none

theorem findAsking_run {kt : TypeId} {kk : KK} (hk : keyT S.P kt = some kk) {k : Value} : ∀ {us : List MapEntry} {i : Nat} {r : Option (Nat × Value)}, findV kk k us i = some r → (Instr.findAsking kt k us i).run S.P w = .ok r w
  | [], i, r, h => by simp [findV] at h; subst h; simp [Instr.findAsking]
  | e :: us, i, r, h => by
    simp only [findV] at h
    split at h
    · rename_i h1
      simp only [Option.some.injEq] at h
      subst h
      simp [Instr.findAsking, keyEqV_run hk h1]
    · rename_i h1
      simp [Instr.findAsking, keyEqV_run hk h1, findAsking_run hk h]
    · cases h

theorem findNow_or {kt : TypeId} {kk : KK} (hk : keyT S.P kt = some kk) {td : TypeDesc} (ht : S.P.underlying kt = some td) {k : Value} : ∀ {us : List MapEntry} {i : Nat} {r : Option (Nat × Value)}, findV kk k us i = some r →
    Instr.findNow td k us i = some r ∨ Instr.findNow td k us i = none
  | [], i, r, h => by simp [findV] at h; subst h; simp [Instr.findNow]
  | e :: us, i, r, h => by
    simp only [findV] at h
    have key : ∀ b, keyEqV kk k e.key = some b → Instr.sameNow td k e.key = some b ∨ Instr.sameNow td k e.key = none := by
      intro b hb
      unfold keyT at hk
      rw [ht] at hk
      cases td <;> simp only [Option.some.injEq, reduceCtorEq, Option.map_eq_some_iff] at hk
      case bool =>
        subst hk
        left
        generalize e.key = y at hb
        cases k <;> cases y <;> simp only [keyEqV, eqScV, reduceCtorEq, if_false, if_true, false_and] at hb
        simpa [Instr.sameNow] using hb
      case int =>
        subst hk
        left
        generalize e.key = y at hb
        cases k <;> cases y <;> simp only [keyEqV, eqScV, reduceCtorEq, if_false, if_true, true_and] at hb
        split at hb
        · rename_i hq; subst hq; simpa [Instr.sameNow] using hb
        · cases hb
      case string =>
        subst hk
        left
        generalize e.key = y at hb
        cases k <;> cases y <;> simp only [keyEqV, eqScV, reduceCtorEq, if_false, if_true, false_and] at hb
        rw [← beq_toListBytes] at hb
        simpa [Instr.sameNow] using hb
      all_goals (right; rfl)
    split at h
    · rename_i h1
      rcases key _ h1 with q | q
      · left; simp only [Instr.findNow, q]; exact h
      · right; simp only [Instr.findNow, q]
    · rename_i h1
      rcases key _ h1 with q | q
      · simp only [Instr.findNow, q]; exact findNow_or hk ht h
      · right; simp only [Instr.findNow, q]
    · cases h

theorem keyT_under {kt : TypeId} {kk : KK} (hk : keyT S.P kt = some kk) : ∃ td, S.P.underlying kt = some td := by
  unfold keyT at hk
  split at hk
  all_goals first | exact ⟨_, by assumption⟩ | cases hk

theorem findKey_run {kt : TypeId} {kk : KK} (hk : keyT S.P kt = some kk) {k : Value} {us : List MapEntry} {r : Option (Nat × Value)} (h : findV kk k us 0 = some r) : (Instr.findKey kt k us).run S.P w = .ok r w := by
  obtain ⟨td, ht⟩ := keyT_under hk
  simp only [Instr.findKey, Sem.run_bind, run_underlying ht, Result.andThen_ok]
  rcases findNow_or hk ht h with q | q
  · rw [q]; rfl
  · rw [q]; exact findAsking_run hk h

/-- What the search over abstract entries finds. -/
theorem findK_run {kk : KK} {k : AV} {x : Value} (hx : VR T eb φ k x) : ∀ {es : List (AV × AV × Nat)} {us : List MapEntry} {i : Nat} {r : Option (Nat × AV × Nat)}, ER T eb φ es us → findK kk k es i = some r →
    (r = none ∧ findV kk x us i = some none) ∨ ∃ j v s y, r = some (i + j, v, s) ∧ findV kk x us i = some (some (i + j, y)) ∧ VR T eb φ v y ∧ ∃ k' x', es[j]? = some (k', v, s) ∧ us[j]? = some { key := x', val := y, born := s } ∧ keyEqV kk x x' = some true
  | _, _, i, r, .nil, h => by simp [findK] at h; subst h; left; exact ⟨rfl, rfl⟩
  | _, _, i, r, .cons k' v s x' y es us hk hv hr, h => by
    simp only [findK] at h
    split at h
    · rename_i h1
      simp only [Option.some.injEq] at h
      subst h
      have q := keyEqV_of h1 hx hk
      right
      exact ⟨0, v, s, y, rfl, by simp [findV, q], hv, k', x', by simp, by simp, q⟩
    · rename_i h1
      have q := keyEqV_of h1 hx hk
      rcases findK_run hx hr h with ⟨a1, a2⟩ | ⟨j, v', s', y', a1, a2, a3, k2, x2, a4, a5, a6⟩
      · left; exact ⟨a1, by simp [findV, q, a2]⟩
      · right
        exact ⟨j + 1, v', s', y', by rw [a1]; congr 2; omega, by simp only [findV, q, a2]; congr 3; omega, a3, k2, x2, by simpa using a4, by simpa using a5, a6⟩
    · cases h

end AH
