import Derived.Test.YtkbjfhkhbcgkgaaDoorFVGB33
open Go AH
set_option linter.unusedSimpArgs false
set_option maxRecDepth 100000
namespace Go.Proofs.YtkbjfhkhbcgkgaaDoor.B33
def errA : Nat → AV
  | 0 => .nili
  | 1 => .err 0
  | _ => .err 3
theorem errA_flat : ∀ k,(errA k).lt 0 = true
  | 0 =>rfl
  | 1 =>rfl
  | _ + 2 =>rfl
end Go.Proofs.YtkbjfhkhbcgkgaaDoor.B33
