import Derived.Test.YtcmnchmkoghfdaaDoorAHd
import Derived.Test.YtcmnchmkoghfdaaDoorChecked
import Derived.KernelRfl
import Derived.Laws.Bits64
open Go AH
namespace Go.Proofs.YtcmnchmkoghfdaaDoor.C04
noncomputable def S0 : AH.Sys := ⟨Tryd.prog, [0, 1, 2, 3, 4, 5, 6, 7, 8, 9, 10, 11, 12, 13], 157, []⟩
theorem mixed : Tryd.prog.follows .mixedOrders = true := by kernel_rfl
theorem errs0 : S0.errs ≠ [] := by simp [S0]

end Go.Proofs.YtcmnchmkoghfdaaDoor.C04
