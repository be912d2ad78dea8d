import Derived.Test.YtdjcpmdjodhfeaaDoorCeilDA12
import Derived.Test.YtdjcpmdjodhfeaaDoorVecPA12
open Go AH
set_option linter.unusedSimpArgs false
namespace Go.Proofs.YtdjcpmdjodhfeaaDoor.A12

/-- Numbers of which all this is true. -/
theorem top_range {n r : Int} (h0 : 0 ≤ n) (h1 : n ≤ 1099511627776) (h2 : 1 ≤ r) (h3 : r ≤ 16) : 0 ≤ topZ n r ∧ topZ n r ≤ 1099511627776 := by
  have a : 0 ≤ n * r := Int.mul_nonneg h0 (by omega)
  have b : n * r ≤ 1099511627776 * 16 := by
    have := Int.mul_le_mul h1 h3 (by omega) (by omega)
    omega
  unfold topZ
  rw [IntKind.wrap_i64]
  split <;> omega

theorem top_mono {n r : Int} (h0 : 0 ≤ n) (h1 : n ≤ 1099511627776) (h2 : 1 ≤ r) (h3 : r ≤ 15) : topZ n r ≤ topZ n (r + 1) := by
  have a : 0 ≤ n * r := Int.mul_nonneg h0 (by omega)
  have b : n * r ≤ 1099511627776 * 16 := by
    have := Int.mul_le_mul h1 (show r ≤ 16 by omega) (by omega) (by omega)
    omega
  have c : n * (r + 1) = n * r + n := by rw [Int.mul_add, Int.mul_one]
  unfold topZ
  rw [IntKind.wrap_i64, IntKind.wrap_i64, c]
  split <;> split <;> omega

theorem topK_zero {c : V4} {r : Int} (hc : good c = true) (h1 : 1 ≤ r) (h2 : r ≤ 16) : topK c r = 0 := by
  have a : decide (r < 1) = false := by simp; omega
  have b : decide (r > 16) = false := by simp; omega
  simp only [topK, hc, a, b, Bool.not_false, Bool.and_self, cond_true]

theorem topR_eq {c : V4} {r : Int} (h : topK c r = 0) : topR c r = topV c r := by
  rcases topK_cases c r with ⟨_, g⟩ | ⟨g, _⟩
  · exact g
  · rw [h] at g; cases g

theorem addK_zero {i m : V4} (h : addK i m = 0) : good i = true ∧ good m = true ∧ addR i m = ⟨i.a + m.a, i.b + m.b, i.c + m.c, i.d + m.d⟩ ∧ good (addR i m) = true := by
  have gs : good i = true ∧ good m = true ∧ good (addV i m) = true := by
    unfold addK madeK at h
    cases gi : good i
    · rw [gi] at h; cases h
    · cases gm : good m
      · rw [gi, gm] at h; cases h
      · cases gc : good (addV i m)
        · rw [gi, gm, gc] at h; cases h
        · exact ⟨rfl, rfl, rfl⟩
  obtain ⟨g1, g2, g3⟩ := gs
  have e : addR i m = addV i m := by
    have : (madeK i m (addV i m) == 0) = true := by rw [show madeK i m (addV i m) = addK i m from rfl, h]; rfl
    simp only [addR, madeV, this, cond_true]
  refine ⟨g1, g2, ?_, by rw [e]; exact g3⟩
  rw [e]
  rw [good_iff] at g1 g2
  simp only [addV, w64, IntKind.wrap_i64, V4.mk.injEq]
  omega

theorem addK_of {i m : V4} (h1 : good i = true) (h2 : good m = true) (h3 : good ⟨i.a + m.a, i.b + m.b, i.c + m.c, i.d + m.d⟩ = true) : addK i m = 0 := by
  have e : addV i m = ⟨i.a + m.a, i.b + m.b, i.c + m.c, i.d + m.d⟩ := by
    rw [good_iff] at h1 h2
    simp only [addV, w64, IntKind.wrap_i64, V4.mk.injEq]
    omega
  simp only [addK, madeK, h1, h2, e, h3, Bool.and_self, cond_true]

theorem mayI_none {m s t : V4} : mayI m s t = none ↔ (over m.a s.a t.a = false ∧ over m.b s.b t.b = false ∧ over m.c s.c t.c = false ∧ over m.d s.d t.d = false) := by
  unfold mayI
  cases over m.a s.a t.a <;> cases over m.b s.b t.b <;> cases over m.c s.c t.c <;> cases over m.d s.d t.d <;> simp

theorem over_iff {m s t : Int} : over m s t = false ↔ (m ≤ 0 ∨ s ≤ t) := by
  unfold over
  rw [Bool.and_eq_false_iff, decide_eq_false_iff_not, decide_eq_false_iff_not]
  omega

theorem good_top {c : V4} {r : Int} (hc : good c = true) (h1 : 1 ≤ r) (h2 : r ≤ 16) : good (topV c r) = true := by
  rw [good_iff] at hc ⊢
  exact ⟨top_range hc.1.1 hc.1.2 h1 h2, top_range hc.2.1.1 hc.2.1.2 h1 h2, top_range hc.2.2.1.1 hc.2.2.1.2 h1 h2, top_range hc.2.2.2.1 hc.2.2.2.2 h1 h2⟩

theorem pos_above {x y : V4} (hx : good x = true) (hy : good y = true) : aboveV x y = ⟨posZ (x.a - y.a), posZ (x.b - y.b), posZ (x.c - y.c), posZ (x.d - y.d)⟩ := by
  rw [good_iff] at hx hy
  simp only [aboveV, IntKind.wrap_i64, V4.mk.injEq]
  refine ⟨?_, ?_, ?_, ?_⟩ <;> (congr 1; omega)

/-- May one more of a resource? -/
def okZ1 (m room : Int) : Bool := m == 0 || decide (m ≤ room)

theorem ok_over {i m t : Int} (h0 : 0 ≤ m) : okZ1 m (posZ (t - i)) = !over m (i + m) t := by
  unfold okZ1 over posZ
  by_cases hm : m = 0
  · subst hm; simp
  · have e : (m == 0) = false := by simpa using hm
    have p : decide (m > 0) = true := by simp; omega
    rw [e, p, Bool.false_or, Bool.true_and, Bool.eq_iff_iff]
    simp only [decide_eq_true_eq, Bool.not_eq_true', decide_eq_false_iff_not]
    split <;> omega

theorem not_both (i t : Int) : (decide (posZ (t - i) > 0) && decide (posZ (i - t) > 0)) = false := by
  unfold posZ
  rw [Bool.and_eq_false_iff, decide_eq_false_iff_not, decide_eq_false_iff_not]
  split <;> split <;> omega

def isK (m room : V4) : Nat → Bool
  | 0 => true
  | 1 => okZ1 m.a room.a
  | 2 => okZ1 m.a room.a && okZ1 m.b room.b
  | 3 => (okZ1 m.a room.a && okZ1 m.b room.b) && okZ1 m.c room.c
  | _ => ((okZ1 m.a room.a && okZ1 m.b room.b) && okZ1 m.c room.c) && okZ1 m.d room.d

end Go.Proofs.YtdjcpmdjodhfeaaDoor.A12
