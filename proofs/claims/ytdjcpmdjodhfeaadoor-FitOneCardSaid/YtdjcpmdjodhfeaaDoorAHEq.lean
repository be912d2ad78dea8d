import Derived.Test.YtdjcpmdjodhfeaaDoorAHOp1
import Derived.ChangeKeysEq
/-
AH: '==' on values whose cells are whole numbers, bools and strings.
-/
set_option linter.unusedSimpArgs false
namespace AH
open Go
variable {P : Program} {w : World}

def eqScV (k : SK) : Value → Value → Option Bool
  | .int j a, .int j' b => if k = .int ∧ j = j' then some (a == b) else none
  | .bool a, .bool b => if k = .bool then some (a == b) else none
  | .string a, .string b => if k = .str then some (a.toList == b.toList) else none
  | _, _ => none

def eqFlatV : List SK → List Value → List Value → Option Bool
  | [], [], [] => some true
  | k :: ks, a :: r, b :: s => match eqScV k a b, eqFlatV ks r s with
    | some x, some y => some (x && y)
    | _, _ => none
  | _, _, _ => none

theorem eqScV_of {T : TypeId} {eb : Nat → Addr} {φ : Emb} {k : SK} {a b : AV} {x y : Value} {r : Bool} (h : eqScalar k a b = some r) (ha : VR T eb φ a x) (hb : VR T eb φ b y) : eqScV k x y = some r := by
  cases a <;> cases b <;> simp only [eqScalar, reduceCtorEq] at h <;> cases ha <;> cases hb <;> exact h

theorem eqFlatV_of {T : TypeId} {eb : Nat → Addr} {φ : Emb} : ∀ {ks : List SK} {a b : List AV} {x y : List Value} {r : Bool}, eqFlat ks a b = some r → VRs T eb φ a x → VRs T eb φ b y → eqFlatV ks x y = some r
  | [], [], [], _, _, r, h, .nil, .nil => h
  | [], [], _ :: _, _, _, _, h, _, _ => by simp [eqFlat] at h
  | [], _ :: _, _, _, _, _, h, _, _ => by simp [eqFlat] at h
  | _ :: _, [], _, _, _, _, h, _, _ => by simp [eqFlat] at h
  | _ :: _, _ :: _, [], _, _, _, h, _, _ => by simp [eqFlat] at h
  | k :: ks, a :: as, b :: bs, _, _, r, h, .cons _ x _ xs h1 h2, .cons _ y _ ys g1 g2 => by
    simp only [eqFlat] at h
    split at h
    · rename_i p q hp hq
      simp only [eqFlatV, eqScV_of hp h1 g1, eqFlatV_of hq h2 g2]
      exact h
    · cases h

theorem eqFlatV_append : ∀ {k1 k2 : List SK} {x y : List Value} {r : Bool}, eqFlatV (k1 ++ k2) x y = some r →
    ∃ r1 r2, eqFlatV k1 (x.take k1.length) (y.take k1.length) = some r1 ∧ eqFlatV k2 (x.drop k1.length) (y.drop k1.length) = some r2 ∧ r = (r1 && r2)
  | [], k2, x, y, r, h => ⟨true, r, by simp [eqFlatV], by simpa using h, by simp⟩
  | _ :: _, _, [], _, _, h => by simp [eqFlatV] at h
  | _ :: _, _, _ :: _, [], _, h => by simp [eqFlatV] at h
  | k :: k1, k2, a :: x, b :: y, r, h => by
    simp only [List.cons_append, eqFlatV] at h
    split at h
    · rename_i p q hp hq
      obtain ⟨r1, r2, h1, h2, rfl⟩ := eqFlatV_append hq
      simp only [Option.some.injEq] at h
      refine ⟨p && r1, r2, by simp [eqFlatV, hp, h1], by simpa using h2, by rw [← h, Bool.and_assoc]⟩
    · cases h

theorem eqFlatV_len : ∀ {ks : List SK} {x y : List Value} {r : Bool}, eqFlatV ks x y = some r → x.length = ks.length ∧ y.length = ks.length
  | [], [], [], _, _ => by simp
  | [], [], _ :: _, _, h => by simp [eqFlatV] at h
  | [], _ :: _, _, _, h => by simp [eqFlatV] at h
  | _ :: _, [], _, _, h => by simp [eqFlatV] at h
  | _ :: _, _ :: _, [], _, h => by simp [eqFlatV] at h
  | k :: ks, a :: x, b :: y, r, h => by
    simp only [eqFlatV] at h
    split at h
    · rename_i p q hp hq
      have := eqFlatV_len hq
      simp [this.1, this.2]
    · cases h

/-- A value of a type out of its cells. -/
def toV (P : Program) (t : TypeId) (xs : List Value) : Value := if isAggT P t then .agg xs.toArray else xs.getD 0 undef

theorem run_isAgg_iff (t : TypeId) {d : TypeDesc} (h : P.underlying t = some d) : (isAgg t).run P w = .ok (isAggT P t) w := by
  simp only [isAgg, Sem.run_bind, run_underlying h, Result.andThen_ok, isAggT, h]
  cases d <;> rfl

theorem run_part (t : TypeId) {d : TypeDesc} (h : P.underlying t = some d) (hs : (P.info? t).isSome = true) (xs : List Value) (off : Nat) (hl : off + (if isAggT P t then P.cellsOf t else 1) ≤ xs.length) :
    (Go.part t xs.toArray off).run P w = .ok (toV P t ((xs.drop off).take (if isAggT P t then P.cellsOf t else 1))) w := by
  obtain ⟨i, hi⟩ := Option.isSome_iff_exists.1 hs
  simp only [Go.part, Sem.run_bind, run_isAgg_iff t h, Result.andThen_ok]
  by_cases ha : isAggT P t = true
  · have hc : P.cellsOf t = i.size := by simp [Program.cellsOf, hi]
    simp only [ha, if_true] at hl ⊢
    simp only [Go.sizeOf, typeInfo, Sem.run_bind, run_program, Result.andThen_ok, hi, Sem.run_pure, toV, ha, if_true]
    congr 2
    apply Array.ext'
    simp only [Array.toList_extract, List.extract_eq_take_drop, hc]
    congr 1
    omega
  · simp only [ha, if_false, Bool.false_eq_true] at hl ⊢
    have : off < xs.length := by omega
    simp only [List.getElem?_toArray, List.getElem?_eq_getElem this, Sem.run_pure, toV, ha, Bool.false_eq_true, if_false]
    congr 1
    simp [List.getD, List.getElem?_take, List.getElem?_drop, List.getElem?_eq_getElem this]

theorem info_of_underlying {t : TypeId} {d : TypeDesc} (h : P.underlying t = some d) : (P.info? t).isSome = true := by
  unfold Program.underlying at h
  cases hi : P.info? t with
  | none => simp [hi] at h
  | some i => rfl

theorem flatT_under {d : Nat} {t : TypeId} {ks : List SK} (h : flatT P d t = some ks) : ∃ td, P.underlying t = some td := by
  cases d with
  | zero => simp [flatT] at h
  | succ d =>
    cases hu : P.underlying t with
    | some td => exact ⟨td, rfl⟩
    | none => simp [flatT, hu] at h

theorem eqFlatV_one {k : SK} {xs ys : List Value} {b : Bool} (h : eqFlatV [k] xs ys = some b) : ∃ x y, xs = [x] ∧ ys = [y] ∧ eqScV k x y = some b := by
  match xs, ys, h with
  | [x], [y], hb =>
    refine ⟨x, y, rfl, rfl, ?_⟩
    simp only [eqFlatV] at hb
    split at hb
    · rename_i p q hp hq
      simp only [Option.some.injEq] at hq hb
      rw [hp, ← hb, ← hq, Bool.and_true]
    · cases hb
  | [], _, hb => simp [eqFlatV] at hb
  | _ :: _ :: _, _, hb => exact absurd (eqFlatV_len hb).1 (by simp)
  | [_], [], hb => simp [eqFlatV] at hb
  | [_], _ :: _ :: _, hb => exact absurd (eqFlatV_len hb).2 (by simp)

theorem eqScV_run {k : SK} {t : TypeId} {x y : Value} {b : Bool} (h : eqScV k x y = some b) (ht : P.underlying t = some .bool ∧ k = .bool ∨ (∃ i, P.underlying t = some (.int i)) ∧ k = .int ∨ P.underlying t = some .string ∧ k = .str) (D : Nat) :
    (Op.equalIn (D + 1) t x y).run P w = .ok b w := by
  rcases ht with ⟨hu, rfl⟩ | ⟨⟨i, hu⟩, rfl⟩ | ⟨hu, rfl⟩
  · cases x <;> cases y <;> simp only [eqScV, reduceCtorEq, if_false, if_true, Option.some.injEq, false_and] at h
    subst h
    simp [Op.equalIn, run_underlying hu]
  · cases x <;> cases y <;> simp only [eqScV, reduceCtorEq, if_false, if_true, Option.some.injEq, true_and] at h
    split at h
    · rename_i hk
      subst hk
      simp only [Option.some.injEq] at h
      subst h
      simp [Op.equalIn, run_underlying hu]
    · cases h
  · cases x <;> cases y <;> simp only [eqScV, reduceCtorEq, if_false, if_true, Option.some.injEq, false_and] at h
    subst h
    simp [Op.equalIn, run_underlying hu, beq_toListBytes]

/-- How many cells a flat type has, as 'part' takes them. -/
theorem flatT_size {d : Nat} {t : TypeId} {ks : List SK} (h : flatT P d t = some ks) : (if isAggT P t then P.cellsOf t else 1) = ks.length := by
  cases d with
  | zero => simp [flatT] at h
  | succ d =>
    simp only [flatT] at h
    split at h <;> (try (simp only [Option.some.injEq] at h; subst h)) <;> (try (cases h; done))
    · rename_i hu; simp [isAggT, hu]
    · rename_i hu; simp [isAggT, hu]
    · rename_i hu; simp [isAggT, hu]
    · rename_i fs hu
      split at h
      · cases h
      · split at h
        · split at h
          · rename_i hc
            simp only [Option.some.injEq] at h
            subst h
            simp [isAggT, hu, hc]
          · cases h
        · cases h
    · rename_i n e hu
      split at h
      · split at h
        · rename_i ks' _ hc
          simp only [Option.some.injEq] at h
          subst h
          simp [isAggT, hu, hc.2.1]
        · cases h
      · cases h

theorem run_fields {d D : Nat} (ih : ∀ t ks, flatT P d t = some ks → ∀ (xs ys : List Value) (b : Bool), eqFlatV ks xs ys = some b → (Op.equalIn D t (toV P t xs) (toV P t ys)).run P w = .ok b w) :
    ∀ (fs : List Field) (off : Nat) (ks : List SK), flatFs (flatT P d) fs off = some ks → ∀ (xs ys : List Value) (b : Bool), eqFlatV ks (xs.drop off) (ys.drop off) = some b →
      (Op.eqFields D xs.toArray ys.toArray fs).run P w = .ok b w
  | [], off, ks, h, xs, ys, b, hb => by
    simp [flatFs] at h
    subst h
    have := eqFlatV_len hb
    have e1 : xs.drop off = [] := List.eq_nil_of_length_eq_zero this.1
    have e2 : ys.drop off = [] := List.eq_nil_of_length_eq_zero this.2
    rw [e1, e2] at hb
    simp [eqFlatV] at hb
    subst hb
    simp [Op.eqFields]
  | f :: r, off, ks, h, xs, ys, b, hb => by
    simp only [flatFs] at h
    split at h
    · cases h
    rename_i hn
    simp only [not_or, Decidable.not_not] at hn
    obtain ⟨hn1, rfl⟩ := hn
    split at h
    · rename_i k1 hk1
      split at h
      · cases h
      rename_i hnz
      simp only [Option.map_eq_some_iff] at h
      obtain ⟨k2, hk2, rfl⟩ := h
      obtain ⟨b1, b2, h1, h2, rfl⟩ := eqFlatV_append hb
      obtain ⟨td, hu⟩ := flatT_under hk1
      have hsz := flatT_size hk1
      have hlen := eqFlatV_len hb
      simp only [List.length_append, List.length_drop] at hlen
      have p1 := run_part (P := P) (w := w) f.type hu (info_of_underlying hu) xs f.offset (by rw [hsz]; omega)
      have p2 := run_part (P := P) (w := w) f.type hu (info_of_underlying hu) ys f.offset (by rw [hsz]; omega)
      rw [hsz] at p1 p2
      have q := ih _ _ hk1 _ _ _ h1
      have rest := run_fields ih r _ _ hk2 xs ys b2 (by simpa [List.drop_drop] using h2)
      simp only [Op.eqFields, ne_eq, hn1, not_false_eq_true, if_true, Sem.run_bind, p1, p2, q, Result.andThen_ok]
      cases b1
      · simp
      · simpa using rest
    · cases h

theorem run_items {d D : Nat} {e : TypeId} {k1 : List SK} (hk : flatT P d e = some k1) (hc : P.cellsOf e = k1.length) (hnz : k1.length ≠ 0)
    (ih : ∀ (xs ys : List Value) (b : Bool), eqFlatV k1 xs ys = some b → (Op.equalIn D e (toV P e xs) (toV P e ys)).run P w = .ok b w) (xs ys : List Value) :
    ∀ (n i : Nat) (b : Bool), eqFlatV (List.replicate n k1).flatten (xs.drop (i * k1.length)) (ys.drop (i * k1.length)) = some b →
      (Op.eqItems D e (P.cellsOf e) xs.toArray ys.toArray (List.range' i n)).run P w = .ok b w
  | 0, i, b, hb => by
    have := eqFlatV_len hb
    have e1 : xs.drop (i * k1.length) = [] := List.eq_nil_of_length_eq_zero (by simpa using this.1)
    have e2 : ys.drop (i * k1.length) = [] := List.eq_nil_of_length_eq_zero (by simpa using this.2)
    rw [e1, e2] at hb
    simp [eqFlatV] at hb
    subst hb
    simp [Op.eqItems]
  | n + 1, i, b, hb => by
    rw [List.replicate_succ, List.flatten_cons] at hb
    obtain ⟨b1, b2, h1, h2, rfl⟩ := eqFlatV_append hb
    obtain ⟨td, hu⟩ := flatT_under hk
    have hsz := flatT_size hk
    have hlen := eqFlatV_len hb
    simp only [List.length_append, List.length_drop] at hlen
    have p1 := run_part (P := P) (w := w) e hu (info_of_underlying hu) xs (i * k1.length) (by rw [hsz]; omega)
    have p2 := run_part (P := P) (w := w) e hu (info_of_underlying hu) ys (i * k1.length) (by rw [hsz]; omega)
    rw [hsz] at p1 p2
    have q := ih _ _ _ h1
    have rest := run_items hk hc hnz ih xs ys n (i + 1) b2 (by simpa [List.drop_drop, Nat.add_mul] using h2)
    simp only [List.range'_succ, Op.eqItems, hc, Sem.run_bind, p1, p2, q, Result.andThen_ok]
    rw [hc] at rest
    cases b1
    · simp
    · simpa using rest

theorem run_equal_flat : ∀ (d : Nat) (t : TypeId) (ks : List SK), flatT P d t = some ks → ∀ (D : Nat), d ≤ D → ∀ (xs ys : List Value) (b : Bool), eqFlatV ks xs ys = some b →
    (Op.equalIn D t (toV P t xs) (toV P t ys)).run P w = .ok b w
  | 0, _, _, h, _, _, _, _, _, _ => by simp [flatT] at h
  | d + 1, t, ks, h, D, hD, xs, ys, b, hb => by
    obtain ⟨D, rfl⟩ : ∃ m, D = m + 1 := ⟨D - 1, by omega⟩
    have ih := fun t ks h => run_equal_flat d t ks h D (by omega)
    have hh := h
    simp only [flatT] at h
    split at h <;> (try (cases h; done))
    · rename_i hu
      simp only [Option.some.injEq] at h
      subst h
      obtain ⟨x, y, rfl, rfl, hs⟩ := eqFlatV_one hb
      simpa [toV, isAggT, hu] using eqScV_run (P := P) (w := w) (t := t) hs (.inl ⟨hu, rfl⟩) D
    · rename_i i hu
      simp only [Option.some.injEq] at h
      subst h
      obtain ⟨x, y, rfl, rfl, hs⟩ := eqFlatV_one hb
      simpa [toV, isAggT, hu] using eqScV_run (P := P) (w := w) (t := t) hs (.inr (.inl ⟨⟨i, hu⟩, rfl⟩)) D
    · rename_i hu
      simp only [Option.some.injEq] at h
      subst h
      obtain ⟨x, y, rfl, rfl, hs⟩ := eqFlatV_one hb
      simpa [toV, isAggT, hu] using eqScV_run (P := P) (w := w) (t := t) hs (.inr (.inr ⟨hu, rfl⟩)) D
    · rename_i fs hu
      split at h
      · cases h
      rename_i hst
      split at h
      · rename_i k1 hk1
        split at h
        · simp only [Option.some.injEq] at h
          subst h
          have ht : P.underlying t = some (.struct (P.fieldsOf t)) := by simp [Program.fieldsOf, hu]
          have hf : P.fieldsOf t = fs := by simp [Program.fieldsOf, hu]
          rw [show toV P t xs = .agg xs.toArray by simp [toV, isAggT, hu], show toV P t ys = .agg ys.toArray by simp [toV, isAggT, hu]]
          rw [run_equalIn_struct (P := P) w D t _ _ ht (by simpa using hst), hf]
          exact run_fields ih fs.toList 0 k1 hk1 xs ys b (by simpa using hb)
        · cases h
      · cases h
    · rename_i n e hu
      split at h
      · rename_i k1 hk1
        split at h
        · rename_i hc
          simp only [Option.some.injEq] at h
          subst h
          rw [show toV P t xs = .agg xs.toArray by simp [toV, isAggT, hu], show toV P t ys = .agg ys.toArray by simp [toV, isAggT, hu]]
          obtain ⟨td, hue⟩ := flatT_under hk1
          obtain ⟨i, hi⟩ := Option.isSome_iff_exists.1 (info_of_underlying hue)
          rw [run_equalIn_array w D xs.toArray ys.toArray hu hi, List.range_eq_range']
          exact run_items hk1 hc.1 hc.2.2 (ih _ _ hk1) xs ys n 0 b (by simpa using hb)
        · cases h
      · cases h

/-- No guard on '==' at a flat type. -/
theorem flat_guard : ∀ (d : Nat) (t : TypeId) (ks : List SK), flatT P d t = some ks → ∀ D, d ≤ D → P.eqGuardType D t = false
  | 0, _, _, h, _, _ => by simp [flatT] at h
  | d + 1, t, ks, h, D, hD => by
    obtain ⟨D, rfl⟩ : ∃ m, D = m + 1 := ⟨D - 1, by omega⟩
    have ih := fun t ks h => flat_guard d t ks h D (by omega)
    simp only [flatT] at h
    split at h <;> (try (cases h; done)) <;> rename_i hu <;> simp only [Program.eqGuardType, hu]
    · split at h
      · cases h
      split at h
      · rename_i k1 hk1
        have key : ∀ (fs : List Field) (off : Nat) (ks : List SK), flatFs (flatT P d) fs off = some ks → fs.any (fun f => f.name != "_" && P.eqGuardType D f.type) = false := by
          intro fs
          induction fs with
          | nil => intro _ _ _; rfl
          | cons f r ihf =>
            intro off ks h
            simp only [flatFs] at h
            split at h
            · cases h
            split at h
            · rename_i k1 hk1
              split at h
              · cases h
              simp only [Option.map_eq_some_iff] at h
              obtain ⟨k2, hk2, _⟩ := h
              simp [ih _ _ hk1]
              simpa using ihf _ _ hk2
            · cases h
        have := key _ 0 k1 hk1
        rw [← Array.any_toList]
        exact this
      · cases h
    · split at h
      · rename_i k1 hk1
        exact ih _ _ hk1
      · cases h

end AH
