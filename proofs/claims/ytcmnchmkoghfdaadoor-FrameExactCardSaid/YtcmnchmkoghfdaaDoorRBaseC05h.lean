import Derived.Test.YtcmnchmkoghfdaaDoorFVGC05h
import Derived.Test.YtcmnchmkoghfdaaDoorAHc
import Derived.Test.YtcmnchmkoghfdaaDoorRows
import Derived.Test.YtcmnchmkoghfdaaDoorTie
import Derived.Test.YtcmnchmkoghfdaaDoorCards
import Derived.WalkKit
import Derived.ProofKit
import Derived.OpenShut
import Derived.LaidMore
import Derived.Stop.Joined
import Derived.SevenTiedAt
import Derived.LaidSub
open Go AH
namespace Go.Proofs.YtcmnchmkoghfdaaDoor.C05h
theorem own : ownKnob Tryd.prog.godebug = none := by kernel_rfl
theorem laidOut : laidOutB Tryd.prog = true := by kernel_rfl

theorem errRows : ErrRows Tryd.prog 157 31 175 9 :=
  ⟨⟨_, Tryd.underlying31⟩, fun u h => typeName_ptr_named (nm := "errors.errorString") (by rw [show "*" ++ "errors.errorString" = "*errors.errorString" by decide]; kernel_rfl) (by kernel_rfl) (by decide) u (by rw [show "*" ++ "errors.errorString" = "*errors.errorString" by decide]; exact h), Tryd.underlying157, ⟨_, Tryd.underlying175, rfl, rfl⟩, Tryd.underlying9, by kernel_rfl, by kernel_rfl⟩
end Go.Proofs.YtcmnchmkoghfdaaDoor.C05h
