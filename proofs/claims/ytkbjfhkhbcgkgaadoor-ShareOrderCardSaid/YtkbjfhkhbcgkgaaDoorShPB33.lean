import Derived.Test.YtkbjfhkhbcgkgaaDoorShB33
open Go AH
set_option linter.unusedSimpArgs false
namespace Go.Proofs.YtkbjfhkhbcgkgaaDoor.B33
def gcdS (s : Sh) : Int:=(Nat.gcd s.n.toNat s.d.toNat : Int)
def leastS (s : Sh) : Sh:=bif clsZ s.n s.d == 0 then ⟨0,1⟩ else bif clsZ s.n s.d == 2 then ⟨1,0⟩ else ⟨s.n / gcdS s,s.d / gcdS s⟩
theorem clsZ_in (n d : Int) : clsZ n d = 0 ∨ clsZ n d = 1 ∨ clsZ n d = 2:=by
  unfold clsZ
  cases decide (n ≤ 0)
  · cases decide (d ≤ 0)
    · exact .inr (.inl rfl)
    · exact .inr (.inr rfl)
  · exact .inl rfl
theorem cmpZ_lt (x y : Int) : cmpZ x y = -1 ↔ x < y:=by unfold cmpZ; split <;> (try split) <;> omega
theorem cmpZ_gt (x y : Int) : cmpZ x y = 1 ↔ y < x:=by unfold cmpZ; split <;> (try split) <;> omega
theorem cmpZ_neg (x y : Int) : cmpZ y x = -cmpZ x y:=by unfold cmpZ; split <;> (try split) <;> (try split) <;> omega
theorem cmpS_of (a b : Sh) : (clsZ a.n a.d ≠ clsZ b.n b.d ∧ cmpS a b = cmpZ (clsZ a.n a.d) (clsZ b.n b.d)) ∨
    (clsZ a.n a.d = clsZ b.n b.d ∧ clsZ a.n a.d ≠ 1 ∧ cmpS a b = 0) ∨
    (clsZ a.n a.d = 1 ∧ clsZ b.n b.d = 1 ∧ cmpS a b = cmpZ (a.n * b.d) (b.n * a.d)):=by
  unfold cmpS
  by_cases h : clsZ a.n a.d = clsZ b.n b.d
  · rw [← h,(cmpZ_eq _ _).2 rfl]
    by_cases h1 : clsZ a.n a.d = 1
    · rw [h1]
      exact .inr (.inr ⟨rfl,rfl,rfl⟩)
    · have : (clsZ a.n a.d != 1) = true:=by simpa using h1
      rw [this]
      exact .inr (.inl ⟨rfl,h1,rfl⟩)
  · have : (cmpZ (clsZ a.n a.d) (clsZ b.n b.d) != 0) = true:=by
      have : cmpZ (clsZ a.n a.d) (clsZ b.n b.d) ≠ 0:=fun e =>h ((cmpZ_eq _ _).1 e)
      simpa using this
    rw [this]
    exact .inl ⟨h,rfl⟩
theorem cmpS_neg (a b : Sh) : cmpS b a = -cmpS a b:=by
  rcases cmpS_of a b with ⟨h0,h⟩ | ⟨h0,h1,h⟩ | ⟨h0,h1,h⟩ <;> rcases cmpS_of b a with ⟨g0,g⟩ | ⟨g0,g1,g⟩ | ⟨g0,g1,g⟩ <;>
    first
    | (rw [h,g]; exact cmpZ_neg _ _)
    | (exfalso; omega)
    | omega
theorem cmpS_self (a : Sh) : cmpS a a = 0:=by have:=cmpS_neg a a; omega
theorem le_trans_mul {a b c d e f : Int} (hb : 0 < b) (hd : 0 < d) (hf : 0 < f) (h1 : a * d ≤ c * b) (h2 : c * f ≤ e * d) : a * f ≤ e * b:=by
  refine Int.le_of_mul_le_mul_right (a:=d) ?_ hd
  have x1:=Int.mul_le_mul_of_nonneg_right h1 (Int.le_of_lt hf)
  have x2:=Int.mul_le_mul_of_nonneg_right h2 (Int.le_of_lt hb)
  have e1 : a * f * d = a * d * f:=by rw [Int.mul_assoc,Int.mul_comm f d,← Int.mul_assoc]
  have e2 : c * b * f = c * f * b:=by rw [Int.mul_assoc,Int.mul_comm b f,← Int.mul_assoc]
  have e3 : e * d * b = e * b * d:=by rw [Int.mul_assoc,Int.mul_comm d b,← Int.mul_assoc]
  omega
theorem cmpS_trans (a b c : Sh) (h1 : cmpS a b ≤ 0) (h2 : cmpS b c ≤ 0) : cmpS a c ≤ 0:=by
  have z : ∀ x y : Int,cmpZ x y ≤ 0 ↔ x ≤ y:=fun x y =>by unfold cmpZ; split <;> (try split) <;> omega
  rcases cmpS_of a b with ⟨p0,p⟩ | ⟨p0,p1,p⟩ | ⟨p0,p1,p⟩ <;> rcases cmpS_of b c with ⟨q0,q⟩ | ⟨q0,q1,q⟩ | ⟨q0,q1,q⟩ <;> rcases cmpS_of a c with ⟨r0,r⟩ | ⟨r0,r1,r⟩ | ⟨r0,r1,r⟩ <;>
    rw [r] <;> (try rw [p] at h1) <;> (try rw [q] at h2) <;> (try rw [z] at h1) <;> (try rw [z] at h2) <;> (try rw [z])
  all_goals first | omega | skip
  exact le_trans_mul (clsZ_1 p0).2 (clsZ_1 p1).2 (clsZ_1 q1).2 h1 h2
theorem Sh.ext {x y : Sh} (h1 : x.n = y.n) (h2 : x.d = y.d) : x = y:=by
  cases x; cases y; simp only at h1 h2; subst h1 h2; rfl
theorem leastS_1 {s : Sh} (h : clsZ s.n s.d = 1) : ∃ N D : Nat,s.n = N ∧ s.d = D ∧ 0 < N ∧ 0 < D ∧ leastS s = ⟨((N / Nat.gcd N D : Nat) : Int),((D / Nat.gcd N D : Nat) : Int)⟩:=by
  have hp:=clsZ_1 h
  obtain ⟨N,hN⟩:=Int.eq_ofNat_of_zero_le (Int.le_of_lt hp.1)
  obtain ⟨D,hD⟩:=Int.eq_ofNat_of_zero_le (Int.le_of_lt hp.2)
  refine ⟨N,D,hN,hD,by omega,by omega,?_⟩
  rw [leastS,h]
  show (⟨s.n / gcdS s,s.d / gcdS s⟩ : Sh) = _
  rw [gcdS,hN,hD]
  simp only [Int.toNat_natCast,Int.natCast_ediv]
end Go.Proofs.YtkbjfhkhbcgkgaaDoor.B33
