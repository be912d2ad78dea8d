import Derived.Test.YtcmnchmkoghfdaaDoorAHd
import Derived.Test.YtcmnchmkoghfdaaDoorChecked
import Derived.KernelRfl
import Derived.Laws.Bits64
open Go AH
namespace Go.Proofs.YtcmnchmkoghfdaaDoor.C05h
noncomputable def S0 : AH.Sys := ⟨Tryd.prog, [0, 2], 157, [(14, .iface 105 (.agg #[.pointer (some ⟨18, 31, none⟩)]))]⟩
theorem mixed : Tryd.prog.follows .mixedOrders = true := by kernel_rfl
theorem errs0 : S0.errs ≠ [] := by simp [S0]

end Go.Proofs.YtcmnchmkoghfdaaDoor.C05h
