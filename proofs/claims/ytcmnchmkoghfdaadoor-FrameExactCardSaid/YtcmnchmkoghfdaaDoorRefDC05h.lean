import Derived.Test.YtcmnchmkoghfdaaDoorRefCC05h
open Go AH
set_option linter.unusedSimpArgs false
namespace Go.Proofs.YtcmnchmkoghfdaaDoor.C05h
/- The blocks of a row that is joined, one by one. -/
theorem ex_sub {s : ByteArray} {i j p q : Nat} (h : i + q ≤ j) : (s.extract i j).extract p q = s.extract (i + p) (i + q) := by
  rw [ByteArray.extract_extract]; congr 1; omega
theorem badJ_no {l : List ByteArray} {q : Int} {n i : Nat} (h : badJ l q n i = false) : ∃ x, l[i]? = some x ∧ x.size = 64 ∧ x.extract 56 64 = endS q i n := by
  unfold badJ at h
  split at h
  · rename_i s hs
    rw [Bool.or_eq_false_iff] at h
    have h64 : s.size = 64 := by have := h.1; simp only [bne_eq_false_iff_eq] at this; omega
    rw [h64] at h
    exact ⟨s, hs, h64, tl_eq (by have := h.2; simpa using this)⟩
  · cases h
theorem join_parts {l : List ByteArray} {q : Int} {n : Nat} {acc : ByteArray} : ∀ (m i : Nat) (a0 : ByteArray), a0.size = i * 56 → joinS l q n m i a0 = (acc, -1) →
    acc.size = (i + m) * 56 ∧ acc.extract 0 (i * 56) = a0 ∧ ∀ j, i ≤ j → j < i + m → ∃ x, l[j]? = some x ∧ x.size = 64 ∧ x = acc.extract (j * 56) ((j + 1) * 56) ++ endS q j n
  | 0, i, a0, h0, h => by
    simp only [joinS, Prod.mk.injEq, and_true] at h
    subst h
    exact ⟨by omega, ex_all (by omega), fun j h1 h2 => by omega⟩
  | m + 1, i, a0, h0, h => by
    rw [joinS] at h
    cases hb : badJ l q n i
    · rw [hb, cond_false] at h
      obtain ⟨x, hx, h64, he⟩ := badJ_no hb
      rw [hx, Option.getD_some] at h
      have hs0 : (x.extract 0 56).size = 56 := by rw [ByteArray.size_extract]; omega
      obtain ⟨e1, e2, e3⟩ := join_parts m (i + 1) (a0 ++ x.extract 0 56) (by rw [ByteArray.size_append, hs0, h0]; omega) h
      have hx0 : x.extract 0 56 = acc.extract (i * 56) ((i + 1) * 56) := by
        have h2 : (acc.extract 0 ((i + 1) * 56)).extract (i * 56) ((i + 1) * 56) = (a0 ++ x.extract 0 56).extract (i * 56) ((i + 1) * 56) := by rw [e2]
        rw [ex_sub (by omega), ex_right (by omega)] at h2
        rw [show 0 + i * 56 = i * 56 by omega, show 0 + (i + 1) * 56 = (i + 1) * 56 by omega] at h2
        rw [h2]; exact (ex_all2 (by omega) (by omega)).symm
      refine ⟨by omega, ?_, fun j h1 h2 => ?_⟩
      · have h2 : (acc.extract 0 ((i + 1) * 56)).extract 0 (i * 56) = (a0 ++ x.extract 0 56).extract 0 (i * 56) := by rw [e2]
        rw [ex_sub (by omega), ex_left (by omega)] at h2
        rw [show 0 + 0 = 0 from rfl, show 0 + i * 56 = i * 56 by omega] at h2
        rw [h2]; exact ex_all (by omega)
      · rcases Nat.lt_or_ge i j with c | c
        · exact e3 j (by omega) (by omega)
        · obtain rfl : j = i := by omega
          refine ⟨x, hx, h64, ?_⟩
          rw [← hx0, ← he, ex_join (by omega) (by omega)]
          exact (ex_all2 rfl (by omega)).symm
    · rw [hb, cond_true] at h
      have := congrArg Prod.snd h
      simp only at this
      omega
theorem pieces {a b : ByteArray} {n : Nat} (ha : a.size = n * 56) (hb : b.size = n * 56) (h : ∀ j, j < n → a.extract (j * 56) ((j + 1) * 56) = b.extract (j * 56) ((j + 1) * 56)) : a = b := by
  have key : ∀ k, k ≤ n → a.extract 0 (k * 56) = b.extract 0 (k * 56) := by
    intro k
    induction k with
    | zero => intro _; apply ByteArray.ext; simp [ByteArray.data_extract]
    | succ k ih =>
      intro hk
      rw [← ex_join (a := a) (i := 0) (j := k * 56) (k := (k + 1) * 56) (by omega) (by omega), ← ex_join (a := b) (i := 0) (j := k * 56) (k := (k + 1) * 56) (by omega) (by omega), ih (by omega), h k (by omega)]
  have := key n (Nat.le_refl _)
  rw [← ha, ex_all2 rfl (Nat.le_refl _), ha, ← hb, ex_all2 rfl (Nat.le_refl _)] at this
  exact this
/- The first block's end, as the reference asks. -/
theorem ge_not (x m : Int) : decide (x ≥ m) = !decide (x < m) := by
  rcases Int.lt_or_le x m with h | h
  · rw [decide_eq_true h, decide_eq_false (by omega : ¬ x ≥ m)]; rfl
  · rw [decide_eq_false (by omega : ¬ x < m), decide_eq_true h]; rfl
theorem le_not (x m : Int) : decide (x ≤ m) = !decide (x > m) := by
  rcases Int.lt_or_le m x with h | h
  · rw [decide_eq_true (show x > m from h), decide_eq_false (by omega : ¬ x ≤ m)]; rfl
  · rw [decide_eq_false (by omega : ¬ x > m), decide_eq_true h]; rfl
theorem bool_ref (x y z : Int) : (bif (bif (bif (bif decide (x ≥ 1) then decide (x ≤ 2147483647) else false) then decide (z ≥ 1) else false) then decide (z ≤ 108) else false) then y == 0 else false) = !(decide (x < 1) || decide (x > 2147483647) || (y != 0) || decide (z < 1) || decide (z > 108)) := by
  rw [ge_not, ge_not, le_not, le_not, show (y != 0) = !(y == 0) from rfl]
  generalize decide (x < 1) = a
  generalize decide (x > 2147483647) = b
  generalize (y == 0) = c
  generalize decide (z < 1) = d
  generalize decide (z > 108) = e
  cases a <;> cases b <;> cases c <;> cases d <;> cases e <;> rfl
theorem first_ref {s : ByteArray} (h : s.size = 64) : (firS s).2.2 = !(decide (valS (s.extract 56 60) < 1) || decide (valS (s.extract 56 60) > 2147483647) || (valS (s.extract 60 62) != 0) || decide (valS (s.extract 62 64) < 1) || decide (valS (s.extract 62 64) > 108)) := by
  have h64 : ((s.size : Int) != 64) = false := by rw [h]; rfl
  have e8 : (tailE s).size = 8 := by rw [tailE, ByteArray.size_extract]; omega
  have a1 : (tailE s).extract 0 4 = s.extract 56 60 := ex_sub (by omega)
  have a2 : (tailE s).extract 4 6 = s.extract 60 62 := ex_sub (by omega)
  have a3 : (tailE s).extract 6 8 = s.extract 62 64 := ex_sub (by omega)
  have he := end_of e8
  rw [a1, a2, a3] at he
  rw [firS, h64, cond_false, a1, a3]
  simp only [firB, he]
  generalize valS (s.extract 56 60) = x
  generalize valS (s.extract 60 62) = y
  generalize valS (s.extract 62 64) = z
  exact bool_ref x y z
theorem first_val {s : ByteArray} (h : s.size = 64) : (firS s).1 = valS (s.extract 56 60) ∧ (firS s).2.1 = valS (s.extract 62 64) := by
  have h64 : ((s.size : Int) != 64) = false := by rw [h]; rfl
  have a1 : (tailE s).extract 0 4 = s.extract 56 60 := ex_sub (by omega)
  have a3 : (tailE s).extract 6 8 = s.extract 62 64 := ex_sub (by omega)
  rw [firS, h64, cond_false, a1, a3]
  exact ⟨rfl, rfl⟩
theorem rdZ_no {l : List ByteArray} (h : (firZ l).2.2 = false) : rdZ l = ⟨⟨#[]⟩, 0, 0, 0⟩ := by rw [rdZ, h]; rfl
theorem rdZ_bad {l : List ByteArray} {q : Int} {n i : Nat} (hf : firZ l = (q, (n : Int), true)) (h : (jnZ l q n).2 = (i : Int)) : rdZ l = ⟨⟨#[]⟩, 0, 0, (i : Int)⟩ := by
  rw [rdZ, hf]
  simp only [Int.toNat_natCast, h, cond_true]
  rw [decide_eq_true (by omega : (i : Int) ≥ 0)]; rfl
theorem rdZ_join {l : List ByteArray} {q : Int} {n : Nat} {acc : ByteArray} (hf : firZ l = (q, (n : Int), true)) (h : jnZ l q n = (acc, -1)) : rdZ l = bif (datZ acc).2 then ⟨(datZ acc).1, q, (n : Int), -1⟩ else ⟨⟨#[]⟩, 0, 0, 0⟩ := by
  rw [rdZ, hf]
  simp only [Int.toNat_natCast, h, cond_true]
  rw [show decide ((-1 : Int) ≥ 0) = false from rfl, cond_false]
end Go.Proofs.YtcmnchmkoghfdaaDoor.C05h
