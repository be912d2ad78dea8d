import Derived.Test.YtkbjfhkhbcgkgaaDoorFVGB33m
open Go AH
set_option linter.unusedSimpArgs false
set_option maxRecDepth 100000
namespace Go.Proofs.YtkbjfhkhbcgkgaaDoor.B33m

/-- Errors by their names' places. -/
def errA : Nat → AV
  | 0 => .nili
  | 1 => .err 0
  | _ => .err 3
theorem errA_flat : ∀ k, (errA k).lt 0 = true
  | 0 => rfl
  | 1 => rfl
  | _ + 2 => rfl
theorem errA_nil (k : Nat) : AH.eqAV .iface true (errA k) .nili = some (True, k == 0) := by
  match k with
  | 0 => rfl
  | 1 => rfl
  | n + 2 => simp [errA, AH.eqAV]

end Go.Proofs.YtkbjfhkhbcgkgaaDoor.B33m
