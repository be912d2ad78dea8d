import Derived.Test.YtkbjfhkhbcgkgaaDoorVecBB33m
open Go AH
set_option linter.unusedSimpArgs false
set_option maxRecDepth 100000
namespace Go.Proofs.YtkbjfhkhbcgkgaaDoor.B33m
theorem good_iff (v : V4) : good v = true ↔ (0 ≤ v.a ∧ v.a ≤ 1099511627776) ∧ (0 ≤ v.b ∧ v.b ≤ 1099511627776) ∧ (0 ≤ v.c ∧ v.c ≤ 1099511627776) ∧ (0 ≤ v.d ∧ v.d ≤ 1099511627776) := by
  simp only [good, V4.l, List.any_cons, List.any_nil, Bool.or_false, Bool.not_eq_true', Bool.or_eq_false_iff, bad, decide_eq_false_iff_not]
  omega

theorem fits_iff (x y : V4) : fitsV x y = true ↔ x.a ≤ y.a ∧ x.b ≤ y.b ∧ x.c ≤ y.c ∧ x.d ≤ y.d := by
  simp only [fitsV, Bool.not_eq_true', Bool.or_eq_false_iff, decide_eq_false_iff_not]
  omega

end Go.Proofs.YtkbjfhkhbcgkgaaDoor.B33m
