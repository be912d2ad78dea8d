import Derived.Test.YtcmnchmkoghfdaaDoorAHd
import Derived.Test.YtcmnchmkoghfdaaDoorChecked
import Derived.KernelRfl
import Derived.Laws.Bits64
open Go AH
namespace Go.Proofs.YtcmnchmkoghfdaaDoor.C05
noncomputable def S0 : AH.Sys := ⟨Tryd.prog, [0, 2], 157, []⟩
theorem mixed : Tryd.prog.follows .mixedOrders = true := by kernel_rfl
theorem errs0 : S0.errs ≠ [] := by simp [S0]

end Go.Proofs.YtcmnchmkoghfdaaDoor.C05
