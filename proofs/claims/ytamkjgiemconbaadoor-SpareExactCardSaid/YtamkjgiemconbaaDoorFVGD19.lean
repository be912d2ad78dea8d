import Derived.Test.YtamkjgiemconbaaDoorAHd
import Derived.Test.YtamkjgiemconbaaDoorChecked
import Derived.KernelRfl
import Derived.Laws.Bits64
open Go AH
namespace Go.Proofs.YtamkjgiemconbaaDoor.D19
noncomputable def S0 : AH.Sys:=⟨Tryd.prog,[0],215,[]⟩
theorem mixed : Tryd.prog.follows .mixedOrders = true:=by kernel_rfl
end Go.Proofs.YtamkjgiemconbaaDoor.D19
