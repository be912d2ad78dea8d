import Derived.Test.YtamkjgiemconbaaDoorFVGD19
import Derived.Test.YtamkjgiemconbaaDoorAHc
import Derived.Test.YtamkjgiemconbaaDoorRows
import Derived.Test.YtamkjgiemconbaaDoorTie
import Derived.Test.YtamkjgiemconbaaDoorCards
import Derived.WalkKit
import Derived.ProofKit
import Derived.OpenShut
import Derived.LaidMore
import Derived.Stop.Joined
import Derived.SevenTiedAt
import Derived.LaidSub
open Go AH
namespace Go.Proofs.YtamkjgiemconbaaDoor.D19
theorem own : ownKnob Tryd.prog.godebug = none:=by kernel_rfl
theorem laidOut : laidOutB Tryd.prog = true:=by kernel_rfl
theorem errRows : ErrRows Tryd.prog 215 40 239 9 :=
  ⟨⟨_, Tryd.underlying40⟩, fun u h => typeName_ptr_named (nm := "errors.errorString") (by rw [show "*" ++ "errors.errorString" = "*errors.errorString" by decide]; kernel_rfl) (by kernel_rfl) (by decide) u (by rw [show "*" ++ "errors.errorString" = "*errors.errorString" by decide]; exact h), Tryd.underlying215, ⟨_, Tryd.underlying239, rfl, rfl⟩, Tryd.underlying9, by kernel_rfl, by kernel_rfl⟩
end Go.Proofs.YtamkjgiemconbaaDoor.D19
