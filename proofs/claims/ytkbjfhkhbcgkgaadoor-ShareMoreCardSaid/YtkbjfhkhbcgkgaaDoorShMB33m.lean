import Derived.Test.YtkbjfhkhbcgkgaaDoorShXB33m
import Derived.Test.YtkbjfhkhbcgkgaaDoorVecMB33m
import Derived.Test.YtkbjfhkhbcgkgaaDoorVecSB33m
open Go AH
set_option linter.unusedSimpArgs false
namespace Go.Proofs.YtkbjfhkhbcgkgaaDoor.B33m
/- More of all is no lesser share: in plain numbers. -/

theorem leZ (x y : Int) : cmpZ x y ≤ 0 ↔ x ≤ y := by unfold cmpZ; split <;> (try split) <;> omega
theorem cmpS_more {x y d : Int} (h : x ≤ y) : cmpS ⟨x, d⟩ ⟨y, d⟩ ≤ 0 := by
  have c0 : ∀ n d : Int, clsZ n d = if n ≤ 0 then 0 else if d ≤ 0 then 2 else 1 := fun n d => by
    unfold clsZ
    by_cases h1 : n ≤ 0 <;> by_cases h2 : d ≤ 0 <;> simp [h1, h2]
  rcases cmpS_of ⟨x, d⟩ ⟨y, d⟩ with ⟨p0, p⟩ | ⟨p0, p1, p⟩ | ⟨p0, p1, p⟩
  · rw [p, leZ]
    simp only [c0] at p0 ⊢
    split <;> split <;> (try split) <;> omega
  · omega
  · rw [p, leZ]
    have := clsZ_1 p0
    exact Int.mul_le_mul_of_nonneg_right h (Int.le_of_lt this.2)
theorem ofN_max (v w : V4) : ∀ i j, j < i → cmpS ⟨v.at j, w.at j⟩ (ofN v w i) ≤ 0
  | i + 1, j, h => by
    rw [ofN, stepS]
    cases hc : decide (cmpS ⟨v.at i, w.at i⟩ (ofN v w i) > 0) with
    | true =>
      simp only [decide_eq_true_eq] at hc
      rw [cond_true]
      by_cases hj : j = i
      · subst hj; rw [cmpS_self]; exact Int.le_refl 0
      · refine cmpS_trans _ _ _ (ofN_max v w i j (by omega)) ?_
        have := cmpS_neg ⟨v.at i, w.at i⟩ (ofN v w i)
        omega
    | false =>
      simp only [decide_eq_false_iff_not] at hc
      rw [cond_false]
      by_cases hj : j = i
      · subst hj; omega
      · exact ofN_max v w i j (by omega)
theorem ofN_is (v w : V4) : ∀ i, i ≤ 4 → ∃ j, j < 4 ∧ ofN v w i = ⟨v.at j, w.at j⟩
  | 0, _ => ⟨0, by decide, rfl⟩
  | i + 1, h => by
    rw [ofN, stepS]
    cases decide (cmpS ⟨v.at i, w.at i⟩ (ofN v w i) > 0) with
    | true => exact ⟨i, by omega, rfl⟩
    | false => exact ofN_is v w i (by omega)
theorem ofS_more {v v' w : V4} (h : ∀ j, v.at j ≤ v'.at j) : cmpS (ofS v w) (ofS v' w) ≤ 0 := by
  obtain ⟨j, hj, e⟩ := ofN_is v w 4 (Nat.le_refl _)
  rw [ofS, e]
  exact cmpS_trans _ _ _ (cmpS_more (h j)) (ofN_max v' w 4 j hj)

def dbl (s : Sh) : Sh := ⟨s.n * 2, s.d * 2⟩
theorem cls_dbl (n d : Int) : clsZ (n * 2) (d * 2) = clsZ n d := by
  unfold clsZ
  rw [show decide (n * 2 ≤ 0) = decide (n ≤ 0) by rw [Bool.eq_iff_iff]; simp only [decide_eq_true_eq]; omega, show decide (d * 2 ≤ 0) = decide (d ≤ 0) by rw [Bool.eq_iff_iff]; simp only [decide_eq_true_eq]; omega]
theorem mul4 (a b : Int) : a * 2 * (b * 2) = a * b * 4 := by
  rw [Int.mul_assoc a 2, ← Int.mul_assoc 2 b 2, Int.mul_comm 2 b, Int.mul_assoc b 2 2, ← Int.mul_assoc]; rfl
theorem cmp_dbl (a b : Sh) : cmpS (dbl a) (dbl b) = cmpS a b := by
  unfold cmpS dbl
  simp only [cls_dbl, mul4]
  rw [show cmpZ (a.n * b.d * 4) (b.n * a.d * 4) = cmpZ (a.n * b.d) (b.n * a.d) by
    generalize a.n * b.d = x
    generalize b.n * a.d = y
    unfold cmpZ
    split <;> split <;> (try split) <;> (try split) <;> omega]
theorem cmp_dbl1 (a : Sh) : cmpS a (dbl a) = 0 := by
  have c : clsZ (dbl a).n (dbl a).d = clsZ a.n a.d := cls_dbl a.n a.d
  rcases cmpS_of a (dbl a) with ⟨p0, p⟩ | ⟨p0, p1, p⟩ | ⟨p0, p1, p⟩
  · exact absurd c.symm p0
  · exact p
  · rw [p, cmpZ_eq]
    show a.n * (a.d * 2) = a.n * 2 * a.d
    rw [Int.mul_assoc, Int.mul_comm 2 a.d]
theorem ofN_dbl {v w v' w' : V4} (hv : ∀ j, v'.at j = v.at j * 2) (hw : ∀ j, w'.at j = w.at j * 2) : ∀ i, ofN v' w' i = dbl (ofN v w i)
  | 0 => by
    have h1 := hv 0
    have h2 := hw 0
    simp only [V4.at] at h1 h2
    simp only [ofN, dbl, h1, h2]
  | i + 1 => by
    have e : (⟨v'.at i, w'.at i⟩ : Sh) = dbl ⟨v.at i, w.at i⟩ := by rw [hv, hw]; rfl
    rw [ofN, ofN, ofN_dbl hv hw i, stepS, stepS, e, cmp_dbl]
    cases decide (cmpS ⟨v.at i, w.at i⟩ (ofN v w i) > 0) <;> rfl

theorem least_least (a : Sh) : cmpS (leastS a) a = 0 := by
  rcases clsZ_in a.n a.d with x | x | x
  · have : leastS a = ⟨0, 1⟩ := by rw [leastS, x]; rfl
    rw [this]
    rcases cmpS_of ⟨0, 1⟩ a with ⟨p0, p⟩ | ⟨p0, p1, p⟩ | ⟨p0, p1, p⟩
    · exact absurd (show clsZ 0 1 = _ from x.symm) p0
    · exact p
    · rw [x] at p1; cases p1
  · obtain ⟨N, D, e1, e2, h1, h2, e⟩ := leastS_1 x
    have pp := least_pos h1 h2
    have c : clsZ (leastS a).n (leastS a).d = 1 := by
      rw [e]
      unfold clsZ
      rw [decide_eq_false (by simp only; omega), decide_eq_false (by simp only; omega)]; rfl
    rcases cmpS_of (leastS a) a with ⟨p0, p⟩ | ⟨p0, p1, p⟩ | ⟨p0, p1, p⟩
    · rw [c, x] at p0; exact absurd rfl p0
    · exact p
    · rw [p, cmpZ_eq, e, e1, e2]
      simp only
      have g1 : 0 < Nat.gcd N D := Nat.gcd_pos_of_pos_left _ h1
      have q1 := Nat.div_mul_cancel (Nat.gcd_dvd_left N D)
      have q2 := Nat.div_mul_cancel (Nat.gcd_dvd_right N D)
      have : N / Nat.gcd N D * D = N * (D / Nat.gcd N D) := by
        rw [Nat.div_mul_right_comm (Nat.gcd_dvd_left N D), Nat.mul_div_assoc _ (Nat.gcd_dvd_right N D)]
      exact_mod_cast this
  · have : leastS a = ⟨1, 0⟩ := by rw [leastS, x]; rfl
    rw [this]
    rcases cmpS_of ⟨1, 0⟩ a with ⟨p0, p⟩ | ⟨p0, p1, p⟩ | ⟨p0, p1, p⟩
    · exact absurd (show clsZ 1 0 = _ from x.symm) p0
    · exact p
    · rw [x] at p1; cases p1
theorem leastS_ok {a : Sh} (h : a.ok) : (leastS a).ok := by
  rcases clsZ_in a.n a.d with x | x | x
  · have : leastS a = ⟨0, 1⟩ := by rw [leastS, x]; rfl
    rw [this]; decide
  · obtain ⟨N, D, e1, e2, h1, h2, e⟩ := leastS_1 x
    have q1 : N / Nat.gcd N D ≤ N := Nat.div_le_self _ _
    have q2 : D / Nat.gcd N D ≤ D := Nat.div_le_self _ _
    obtain ⟨⟨_, _⟩, ⟨_, _⟩⟩ := h
    rw [e]
    generalize N / Nat.gcd N D = p at q1 ⊢
    generalize D / Nat.gcd N D = q at q2 ⊢
    exact ⟨⟨by simp only; omega, by simp only; omega⟩, ⟨by simp only; omega, by simp only; omega⟩⟩
  · have : leastS a = ⟨1, 0⟩ := by rw [leastS, x]; rfl
    rw [this]; decide
theorem hun_mono {a b : Sh} (h : cmpS a b ≤ 0) : hunS a ≤ hunS b := by
  have h0 : ∀ s : Sh, clsZ s.n s.d = 0 → hunS s = 0 := fun s h => by rw [hunS, h]; rfl
  have h2 : ∀ s : Sh, clsZ s.n s.d = 2 → hunS s = 4611686018427387904 := fun s h => by rw [hunS, h]; rfl
  have h1 : ∀ s : Sh, clsZ s.n s.d = 1 → hunS s = minZ (s.n * 100 / s.d) 4611686018427387904 ∧ 0 ≤ s.n * 100 / s.d := fun s h => by
    have := clsZ_1 h
    exact ⟨by rw [hunS, h]; rfl, Int.ediv_nonneg (by omega) (by omega)⟩
  have lo : ∀ s : Sh, 0 ≤ hunS s := fun s => by
    rcases clsZ_in s.n s.d with x | x | x
    · rw [h0 s x]; exact Int.le_refl 0
    · obtain ⟨e, q⟩ := h1 s x
      rw [e]; unfold minZ; split <;> omega
    · rw [h2 s x]; decide
  have hi : ∀ s : Sh, hunS s ≤ 4611686018427387904 := fun s => by
    rcases clsZ_in s.n s.d with x | x | x
    · rw [h0 s x]; decide
    · obtain ⟨e, q⟩ := h1 s x
      rw [e]; unfold minZ; split <;> omega
    · rw [h2 s x]; exact Int.le_refl _
  rcases cmpS_of a b with ⟨p0, p⟩ | ⟨p0, p1, p⟩ | ⟨p0, p1, p⟩
  · rw [p, leZ] at h
    rcases clsZ_in a.n a.d with x | x | x
    · rw [h0 a x]; exact lo b
    · rcases clsZ_in b.n b.d with y | y | y
      · omega
      · omega
      · rw [h2 b y]; exact hi a
    · rcases clsZ_in b.n b.d with y | y | y <;> omega
  · rcases clsZ_in a.n a.d with x | x | x
    · rw [h0 a x]; exact lo b
    · exact absurd x p1
    · rw [h2 a x, h2 b (by omega)]; exact Int.le_refl _
  · rw [p, leZ] at h
    obtain ⟨ea, qa⟩ := h1 a p0
    obtain ⟨eb, qb⟩ := h1 b p1
    have pa := clsZ_1 p0
    have pb := clsZ_1 p1
    have key : a.n * 100 / a.d ≤ b.n * 100 / b.d := by
      refine (Int.le_ediv_iff_mul_le pb.2).2 ?_
      refine Int.le_of_mul_le_mul_right (a := a.d) ?_ pa.2
      have r1 : a.n * 100 / a.d * a.d ≤ a.n * 100 := Int.ediv_mul_le _ (by omega)
      have r2 := Int.mul_le_mul_of_nonneg_right r1 (Int.le_of_lt pb.2)
      have e1 : a.n * 100 / a.d * b.d * a.d = a.n * 100 / a.d * a.d * b.d := Int.mul_right_comm ..
      have e2 : a.n * 100 * b.d = a.n * b.d * 100 := Int.mul_right_comm ..
      have e3 : b.n * 100 * a.d = b.n * a.d * 100 := Int.mul_right_comm ..
      rw [e1, e3]
      omega
    rw [ea, eb]
    unfold minZ
    split <;> split <;> omega

theorem scale_two {v : V4} (h : scaleK v 2 = 0) : good v = true ∧ scaleR v 2 = ⟨v.a * 2, v.b * 2, v.c * 2, v.d * 2⟩ ∧ good (scaleR v 2) = true := by
  have c : (decide ((2 : Int) < 0) || decide ((2 : Int) > 16)) = false := by decide
  rw [scaleK, c, cond_false] at h
  have hm := (madeK_iff _ _ _).1 h
  have e : scaleR v 2 = scaleV v 2 := by rw [scaleR, c, cond_false, madeV, h]; rfl
  have hg := (goodR_iff v).1 hm.1
  simp only [inR] at hg
  have e2 : scaleV v 2 = ⟨v.a * 2, v.b * 2, v.c * 2, v.d * 2⟩ := by
    apply V4.ext <;> (simp only [scaleV]; apply w64_in <;> omega)
  exact ⟨hm.1, by rw [e, e2], by rw [e]; exact hm.2.2⟩
end Go.Proofs.YtkbjfhkhbcgkgaaDoor.B33m
