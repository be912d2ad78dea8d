import Derived.Test.YtkbjfhkhbcgkgaaDoorFVGB33
import Derived.Test.YtkbjfhkhbcgkgaaDoorAHc
import Derived.Test.YtkbjfhkhbcgkgaaDoorRows
import Derived.Test.YtkbjfhkhbcgkgaaDoorTie
import Derived.Test.YtkbjfhkhbcgkgaaDoorCards
import Derived.WalkKit
import Derived.ProofKit
import Derived.OpenShut
import Derived.LaidMore
import Derived.Stop.Joined
import Derived.SevenTiedAt
import Derived.LaidSub
open Go AH
namespace Go.Proofs.YtkbjfhkhbcgkgaaDoor.B33
theorem own : ownKnob Tryd.prog.godebug = none:=by kernel_rfl
theorem laidOut : laidOutB Tryd.prog = true:=by kernel_rfl
theorem errRows : ErrRows Tryd.prog 120 27 141 9 :=
  ⟨⟨_, Tryd.underlying27⟩, fun u h => typeName_ptr_named (nm := "errors.errorString") (by rw [show "*" ++ "errors.errorString" = "*errors.errorString" by decide]; kernel_rfl) (by kernel_rfl) (by decide) u (by rw [show "*" ++ "errors.errorString" = "*errors.errorString" by decide]; exact h), Tryd.underlying120, ⟨_, Tryd.underlying141, rfl, rfl⟩, Tryd.underlying9, by kernel_rfl, by kernel_rfl⟩
end Go.Proofs.YtkbjfhkhbcgkgaaDoor.B33
