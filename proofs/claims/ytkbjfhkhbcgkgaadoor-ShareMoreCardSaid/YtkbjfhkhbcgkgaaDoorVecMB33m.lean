import Derived.Test.YtkbjfhkhbcgkgaaDoorVecLB33m
import Derived.Test.YtkbjfhkhbcgkgaaDoorVecCB33m
open Go AH
set_option linter.unusedSimpArgs false
namespace Go.Proofs.YtkbjfhkhbcgkgaaDoor.B33m
/- Sums and differences of good vectors, in plain numbers. -/

def inR (n : Int) : Prop := 0 ≤ n ∧ n ≤ 1099511627776
theorem bad_iff (n : Int) : bad n = false ↔ inR n := by
  simp only [bad, inR, Bool.or_eq_false_iff, decide_eq_false_iff_not]; omega
theorem goodR_iff (v : V4) : good v = true ↔ inR v.a ∧ inR v.b ∧ inR v.c ∧ inR v.d := by
  simp only [good, V4.l, List.any_cons, List.any_nil, Bool.or_false, Bool.not_eq_true', Bool.or_eq_false_iff, bad_iff]
theorem w64_in {n : Int} (h0 : -9223372036854775808 ≤ n) (h1 : n < 9223372036854775808) : w64 n = n := by
  unfold w64; rw [IntKind.wrap_i64]; omega
theorem madeK_iff (a b c : V4) : madeK a b c = 0 ↔ good a = true ∧ good b = true ∧ good c = true := by
  unfold madeK
  cases good a <;> cases good b <;> cases good c <;> simp
theorem V4.ext {x y : V4} (h1 : x.a = y.a) (h2 : x.b = y.b) (h3 : x.c = y.c) (h4 : x.d = y.d) : x = y := by
  cases x; cases y; simp only at h1 h2 h3 h4; subst h1 h2 h3 h4; rfl
theorem addV_of {a b : V4} (ha : good a = true) (hb : good b = true) : addV a b = ⟨a.a + b.a, a.b + b.b, a.c + b.c, a.d + b.d⟩ := by
  rw [goodR_iff] at ha hb
  simp only [inR] at ha hb
  apply V4.ext <;> (simp only [addV]; apply w64_in <;> omega)
theorem subV_of {a b : V4} (ha : good a = true) (hb : good b = true) : subV a b = ⟨a.a - b.a, a.b - b.b, a.c - b.c, a.d - b.d⟩ := by
  rw [goodR_iff] at ha hb
  simp only [inR] at ha hb
  apply V4.ext <;> (simp only [subV]; apply w64_in <;> omega)
theorem addK_iff (a b : V4) : addK a b = 0 ↔ good a = true ∧ good b = true ∧ (a.a + b.a ≤ 1099511627776 ∧ a.b + b.b ≤ 1099511627776 ∧ a.c + b.c ≤ 1099511627776 ∧ a.d + b.d ≤ 1099511627776) := by
  unfold addK
  rw [madeK_iff]
  constructor
  · rintro ⟨ha, hb, hc⟩
    rw [addV_of ha hb, goodR_iff] at hc
    simp only [inR] at hc
    exact ⟨ha, hb, by omega⟩
  · rintro ⟨ha, hb, hc⟩
    refine ⟨ha, hb, ?_⟩
    rw [addV_of ha hb, goodR_iff]
    rw [goodR_iff] at ha hb
    simp only [inR] at ha hb ⊢
    omega
theorem subK_iff (a b : V4) : subK a b = 0 ↔ good a = true ∧ good b = true ∧ (b.a ≤ a.a ∧ b.b ≤ a.b ∧ b.c ≤ a.c ∧ b.d ≤ a.d) := by
  unfold subK
  rw [madeK_iff]
  constructor
  · rintro ⟨ha, hb, hc⟩
    rw [subV_of ha hb, goodR_iff] at hc
    simp only [inR] at hc
    exact ⟨ha, hb, by omega⟩
  · rintro ⟨ha, hb, hc⟩
    refine ⟨ha, hb, ?_⟩
    rw [subV_of ha hb, goodR_iff]
    rw [goodR_iff] at ha hb
    simp only [inR] at ha hb ⊢
    omega
theorem addR_of {a b : V4} (h : addK a b = 0) : addR a b = ⟨a.a + b.a, a.b + b.b, a.c + b.c, a.d + b.d⟩ := by
  have h2 := (addK_iff a b).1 h
  have h3 : madeK a b (addV a b) = 0 := h
  simp only [addR, madeV, h3, beq_self_eq_true, cond_true]
  exact addV_of h2.1 h2.2.1
theorem subR_of {a b : V4} (h : subK a b = 0) : subR a b = ⟨a.a - b.a, a.b - b.b, a.c - b.c, a.d - b.d⟩ := by
  have h2 := (subK_iff a b).1 h
  have h3 : madeK a b (subV a b) = 0 := h
  simp only [subR, madeV, h3, beq_self_eq_true, cond_true]
  exact subV_of h2.1 h2.2.1
theorem madeK_le (a b c : V4) : madeK a b c = 0 ∨ madeK a b c = 1 ∨ madeK a b c = 4 := by
  unfold madeK
  cases good a && good b <;> cases good c <;> simp
theorem addK_le14 (a b : V4) : addK a b ≤ 14 := by rcases madeK_le a b (addV a b) with h | h | h <;> (unfold addK; omega)
theorem subK_le14 (a b : V4) : subK a b ≤ 14 := by rcases madeK_le a b (subV a b) with h | h | h <;> (unfold subK; omega)
theorem fitsV_iff (x y : V4) : fitsV x y = true ↔ x.a ≤ y.a ∧ x.b ≤ y.b ∧ x.c ≤ y.c ∧ x.d ≤ y.d := by
  simp only [fitsV, Bool.not_eq_true', Bool.or_eq_false_iff, decide_eq_false_iff_not]; omega
theorem fit_good {v n : V4} (h : subK v n = 0) : good (subR v n) = true := by
  have h2 := (subK_iff v n).1 h
  obtain ⟨ha, hb, hc⟩ := h2
  rw [subR_of h, goodR_iff]
  rw [goodR_iff] at ha hb
  simp only [inR] at ha hb ⊢
  omega
theorem add_good {v n : V4} (h : addK v n = 0) : good (addR v n) = true := by
  have h2 := (addK_iff v n).1 h
  obtain ⟨ha, hb, hc⟩ := h2
  rw [addR_of h, goodR_iff]
  rw [goodR_iff] at ha hb
  simp only [inR] at ha hb ⊢
  omega
theorem good_zero : good .zero = true := by decide

end Go.Proofs.YtkbjfhkhbcgkgaaDoor.B33m
