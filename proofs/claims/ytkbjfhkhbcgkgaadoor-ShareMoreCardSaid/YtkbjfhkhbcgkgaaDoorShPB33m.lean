import Derived.Test.YtkbjfhkhbcgkgaaDoorShB33m
open Go AH
set_option linter.unusedSimpArgs false
namespace Go.Proofs.YtkbjfhkhbcgkgaaDoor.B33m
/- Shares, in plain numbers. -/

def gcdS (s : Sh) : Int := (Nat.gcd s.n.toNat s.d.toNat : Int)
def leastS (s : Sh) : Sh := bif clsZ s.n s.d == 0 then ⟨0, 1⟩ else bif clsZ s.n s.d == 2 then ⟨1, 0⟩ else ⟨s.n / gcdS s, s.d / gcdS s⟩

theorem clsZ_in (n d : Int) : clsZ n d = 0 ∨ clsZ n d = 1 ∨ clsZ n d = 2 := by
  unfold clsZ
  cases decide (n ≤ 0)
  · cases decide (d ≤ 0)
    · exact .inr (.inl rfl)
    · exact .inr (.inr rfl)
  · exact .inl rfl
theorem cmpZ_lt (x y : Int) : cmpZ x y = -1 ↔ x < y := by unfold cmpZ; split <;> (try split) <;> omega
theorem cmpZ_gt (x y : Int) : cmpZ x y = 1 ↔ y < x := by unfold cmpZ; split <;> (try split) <;> omega
theorem cmpZ_in (x y : Int) : cmpZ x y = -1 ∨ cmpZ x y = 0 ∨ cmpZ x y = 1 := by unfold cmpZ; split <;> (try split) <;> simp
theorem cmpZ_neg (x y : Int) : cmpZ y x = -cmpZ x y := by unfold cmpZ; split <;> (try split) <;> (try split) <;> omega

/-- What counts: the class, and among plain shares the numbers themselves. -/
theorem cmpS_of (a b : Sh) : (clsZ a.n a.d ≠ clsZ b.n b.d ∧ cmpS a b = cmpZ (clsZ a.n a.d) (clsZ b.n b.d)) ∨
    (clsZ a.n a.d = clsZ b.n b.d ∧ clsZ a.n a.d ≠ 1 ∧ cmpS a b = 0) ∨
    (clsZ a.n a.d = 1 ∧ clsZ b.n b.d = 1 ∧ cmpS a b = cmpZ (a.n * b.d) (b.n * a.d)) := by
  unfold cmpS
  by_cases h : clsZ a.n a.d = clsZ b.n b.d
  · rw [← h, (cmpZ_eq _ _).2 rfl]
    by_cases h1 : clsZ a.n a.d = 1
    · rw [h1]
      exact .inr (.inr ⟨rfl, rfl, rfl⟩)
    · have : (clsZ a.n a.d != 1) = true := by simpa using h1
      rw [this]
      exact .inr (.inl ⟨rfl, h1, rfl⟩)
  · have : (cmpZ (clsZ a.n a.d) (clsZ b.n b.d) != 0) = true := by
      have : cmpZ (clsZ a.n a.d) (clsZ b.n b.d) ≠ 0 := fun e => h ((cmpZ_eq _ _).1 e)
      simpa using this
    rw [this]
    exact .inl ⟨h, rfl⟩
theorem cmpS_in (a b : Sh) : cmpS a b = -1 ∨ cmpS a b = 0 ∨ cmpS a b = 1 := by
  rcases cmpS_of a b with ⟨_, h⟩ | ⟨_, _, h⟩ | ⟨_, _, h⟩
  · rw [h]; exact cmpZ_in _ _
  · exact .inr (.inl h)
  · rw [h]; exact cmpZ_in _ _
theorem cmpS_neg (a b : Sh) : cmpS b a = -cmpS a b := by
  rcases cmpS_of a b with ⟨h0, h⟩ | ⟨h0, h1, h⟩ | ⟨h0, h1, h⟩ <;> rcases cmpS_of b a with ⟨g0, g⟩ | ⟨g0, g1, g⟩ | ⟨g0, g1, g⟩ <;>
    first
    | (rw [h, g]; exact cmpZ_neg _ _)
    | (exfalso; omega)
    | omega
theorem cmpS_self (a : Sh) : cmpS a a = 0 := by have := cmpS_neg a a; omega
/-- Less or the same, in one word. -/
theorem le_trans_mul {a b c d e f : Int} (hb : 0 < b) (hd : 0 < d) (hf : 0 < f) (h1 : a * d ≤ c * b) (h2 : c * f ≤ e * d) : a * f ≤ e * b := by
  refine Int.le_of_mul_le_mul_right (a := d) ?_ hd
  have x1 := Int.mul_le_mul_of_nonneg_right h1 (Int.le_of_lt hf)
  have x2 := Int.mul_le_mul_of_nonneg_right h2 (Int.le_of_lt hb)
  have e1 : a * f * d = a * d * f := by rw [Int.mul_assoc, Int.mul_comm f d, ← Int.mul_assoc]
  have e2 : c * b * f = c * f * b := by rw [Int.mul_assoc, Int.mul_comm b f, ← Int.mul_assoc]
  have e3 : e * d * b = e * b * d := by rw [Int.mul_assoc, Int.mul_comm d b, ← Int.mul_assoc]
  omega
theorem lt_trans_mul {a b c d e f : Int} (hb : 0 < b) (hd : 0 < d) (hf : 0 < f) (h1 : a * d < c * b) (h2 : c * f ≤ e * d) : a * f < e * b := by
  refine Int.lt_of_mul_lt_mul_right (a := d) ?_ (Int.le_of_lt hd)
  have x1 := Int.mul_lt_mul_of_pos_right h1 hf
  have x2 := Int.mul_le_mul_of_nonneg_right h2 (Int.le_of_lt hb)
  have e1 : a * f * d = a * d * f := by rw [Int.mul_assoc, Int.mul_comm f d, ← Int.mul_assoc]
  have e2 : c * b * f = c * f * b := by rw [Int.mul_assoc, Int.mul_comm b f, ← Int.mul_assoc]
  have e3 : e * d * b = e * b * d := by rw [Int.mul_assoc, Int.mul_comm d b, ← Int.mul_assoc]
  omega
theorem cmpS_trans (a b c : Sh) (h1 : cmpS a b ≤ 0) (h2 : cmpS b c ≤ 0) : cmpS a c ≤ 0 := by
  have z : ∀ x y : Int, cmpZ x y ≤ 0 ↔ x ≤ y := fun x y => by unfold cmpZ; split <;> (try split) <;> omega
  rcases cmpS_of a b with ⟨p0, p⟩ | ⟨p0, p1, p⟩ | ⟨p0, p1, p⟩ <;> rcases cmpS_of b c with ⟨q0, q⟩ | ⟨q0, q1, q⟩ | ⟨q0, q1, q⟩ <;> rcases cmpS_of a c with ⟨r0, r⟩ | ⟨r0, r1, r⟩ | ⟨r0, r1, r⟩ <;>
    rw [r] <;> (try rw [p] at h1) <;> (try rw [q] at h2) <;> (try rw [z] at h1) <;> (try rw [z] at h2) <;> (try rw [z])
  all_goals first | omega | skip
  exact le_trans_mul (clsZ_1 p0).2 (clsZ_1 p1).2 (clsZ_1 q1).2 h1 h2
theorem cmpS_zero (a b c : Sh) (h1 : cmpS a b = 0) (h2 : cmpS b c = 0) : cmpS a c = 0 := by
  have x1 := cmpS_trans a b c (by omega) (by omega)
  have x2 := cmpS_trans c b a (by have := cmpS_neg b c; omega) (by have := cmpS_neg a b; omega)
  have := cmpS_neg a c
  omega

theorem cross_nat {n1 d1 n2 d2 : Nat} (h1 : 0 < n1) (h2 : 0 < n2) : n1 * d2 = n2 * d1 → Nat.gcd n1 d1 = 1 → Nat.gcd n2 d2 = 1 → n1 = n2 ∧ d1 = d2 := fun h g1 g2 => by
  have a1 : n1 ∣ n2 := Nat.Coprime.dvd_of_dvd_mul_right (k := n1) (n := d1) (m := n2) g1 ⟨d2, h.symm⟩
  have a2 : n2 ∣ n1 := Nat.Coprime.dvd_of_dvd_mul_right (k := n2) (n := d2) (m := n1) g2 ⟨d1, h⟩
  have e := Nat.dvd_antisymm a1 a2
  subst e
  exact ⟨rfl, (Nat.eq_of_mul_eq_mul_left h1 h).symm⟩
theorem least_nat {N1 D1 N2 D2 : Nat} (h1 : 0 < N1) (h2 : 0 < D1) (h3 : 0 < N2) (h4 : 0 < D2) :
    (N1 / Nat.gcd N1 D1 = N2 / Nat.gcd N2 D2 ∧ D1 / Nat.gcd N1 D1 = D2 / Nat.gcd N2 D2) ↔ N1 * D2 = N2 * D1 := by
  have g1 : 0 < Nat.gcd N1 D1 := Nat.gcd_pos_of_pos_left _ h1
  have g2 : 0 < Nat.gcd N2 D2 := Nat.gcd_pos_of_pos_left _ h3
  obtain ⟨n1, e1⟩ := Nat.gcd_dvd_left N1 D1
  obtain ⟨d1, e2⟩ := Nat.gcd_dvd_right N1 D1
  obtain ⟨n2, e3⟩ := Nat.gcd_dvd_left N2 D2
  obtain ⟨d2, e4⟩ := Nat.gcd_dvd_right N2 D2
  have c1 := Nat.coprime_div_gcd_div_gcd g1
  have c2 := Nat.coprime_div_gcd_div_gcd g2
  have q1 : N1 / Nat.gcd N1 D1 = n1 := Nat.div_eq_of_eq_mul_right g1 e1
  have q2 : D1 / Nat.gcd N1 D1 = d1 := Nat.div_eq_of_eq_mul_right g1 e2
  have q3 : N2 / Nat.gcd N2 D2 = n2 := Nat.div_eq_of_eq_mul_right g2 e3
  have q4 : D2 / Nat.gcd N2 D2 = d2 := Nat.div_eq_of_eq_mul_right g2 e4
  rw [q1, q2] at c1
  rw [q3, q4] at c2
  rw [q1, q2, q3, q4]
  generalize Nat.gcd N1 D1 = g at *
  generalize Nat.gcd N2 D2 = k at *
  have hn1 : 0 < n1 := by
    rcases Nat.eq_zero_or_pos n1 with h | h
    · rw [h, Nat.mul_zero] at e1; omega
    · exact h
  have hn2 : 0 < n2 := by
    rcases Nat.eq_zero_or_pos n2 with h | h
    · rw [h, Nat.mul_zero] at e3; omega
    · exact h
  have ex : N1 * D2 = g * k * (n1 * d2) := by rw [e1, e4, Nat.mul_mul_mul_comm]
  have ey : N2 * D1 = g * k * (n2 * d1) := by rw [e3, e2, Nat.mul_mul_mul_comm, Nat.mul_comm k g]
  rw [ex, ey]
  constructor
  · rintro ⟨rfl, rfl⟩; rfl
  · intro h
    exact cross_nat hn1 hn2 (Nat.eq_of_mul_eq_mul_left (Nat.mul_pos g1 g2) h) c1 c2
theorem least_pos {N D : Nat} (h1 : 0 < N) (h2 : 0 < D) : 0 < N / Nat.gcd N D ∧ 0 < D / Nat.gcd N D :=
  ⟨Nat.div_pos (Nat.le_of_dvd h1 (Nat.gcd_dvd_left N D)) (Nat.gcd_pos_of_pos_left _ h1), Nat.div_pos (Nat.le_of_dvd h2 (Nat.gcd_dvd_right N D)) (Nat.gcd_pos_of_pos_left _ h1)⟩
theorem Sh.ext {x y : Sh} (h1 : x.n = y.n) (h2 : x.d = y.d) : x = y := by
  cases x; cases y; simp only at h1 h2; subst h1 h2; rfl
theorem leastS_1 {s : Sh} (h : clsZ s.n s.d = 1) : ∃ N D : Nat, s.n = N ∧ s.d = D ∧ 0 < N ∧ 0 < D ∧ leastS s = ⟨((N / Nat.gcd N D : Nat) : Int), ((D / Nat.gcd N D : Nat) : Int)⟩ := by
  have hp := clsZ_1 h
  obtain ⟨N, hN⟩ := Int.eq_ofNat_of_zero_le (Int.le_of_lt hp.1)
  obtain ⟨D, hD⟩ := Int.eq_ofNat_of_zero_le (Int.le_of_lt hp.2)
  refine ⟨N, D, hN, hD, by omega, by omega, ?_⟩
  rw [leastS, h]
  show (⟨s.n / gcdS s, s.d / gcdS s⟩ : Sh) = _
  rw [gcdS, hN, hD]
  simp only [Int.toNat_natCast, Int.natCast_ediv]
theorem least_iff (a b : Sh) : cmpS a b = 0 ↔ leastS a = leastS b := by
  have n0 : ∀ s : Sh, clsZ s.n s.d = 0 → leastS s = ⟨0, 1⟩ := fun s h => by rw [leastS, h]; rfl
  have n2 : ∀ s : Sh, clsZ s.n s.d = 2 → leastS s = ⟨1, 0⟩ := fun s h => by rw [leastS, h]; rfl
  rcases cmpS_of a b with ⟨p0, p⟩ | ⟨p0, p1, p⟩ | ⟨p0, p1, p⟩
  · rw [p, cmpZ_eq]
    refine ⟨fun h => absurd h p0, fun h => ?_⟩
    exfalso
    rcases clsZ_in a.n a.d with x | x | x <;> rcases clsZ_in b.n b.d with y | y | y <;> first | omega | skip
    · obtain ⟨N, D, _, _, h1, h2, e⟩ := leastS_1 y
      rw [n0 a x, e] at h
      have := (least_pos h1 h2).1
      simp only [Sh.mk.injEq] at h
      omega
    · rw [n0 a x, n2 b y] at h; cases h
    · obtain ⟨N, D, _, _, h1, h2, e⟩ := leastS_1 x
      rw [n0 b y, e] at h
      have := (least_pos h1 h2).1
      simp only [Sh.mk.injEq] at h
      omega
    · obtain ⟨N, D, _, _, h1, h2, e⟩ := leastS_1 x
      rw [n2 b y, e] at h
      have := (least_pos h1 h2).2
      simp only [Sh.mk.injEq] at h
      omega
    · rw [n2 a x, n0 b y] at h; cases h
    · obtain ⟨N, D, _, _, h1, h2, e⟩ := leastS_1 y
      rw [n2 a x, e] at h
      have := (least_pos h1 h2).2
      simp only [Sh.mk.injEq] at h
      omega
  · refine ⟨fun _ => ?_, fun _ => p⟩
    rcases clsZ_in a.n a.d with x | x | x
    · rw [n0 a x, n0 b (by omega)]
    · exact absurd x p1
    · rw [n2 a x, n2 b (by omega)]
  · rw [p, cmpZ_eq]
    obtain ⟨N1, D1, e1, e2, h1, h2, e⟩ := leastS_1 p0
    obtain ⟨N2, D2, f1, f2, g1, g2, f⟩ := leastS_1 p1
    rw [e, f, e1, e2, f1, f2]
    have := least_nat h1 h2 g1 g2
    simp only [Sh.mk.injEq, Int.natCast_inj]
    rw [this]
    constructor
    · intro h; exact_mod_cast h
    · intro h; exact_mod_cast h
end Go.Proofs.YtkbjfhkhbcgkgaaDoor.B33m
