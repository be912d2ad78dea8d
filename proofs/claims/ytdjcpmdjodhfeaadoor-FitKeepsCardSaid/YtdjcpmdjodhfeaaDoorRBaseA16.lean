import Derived.Test.YtdjcpmdjodhfeaaDoorFVecA16
import Derived.Test.YtdjcpmdjodhfeaaDoorAHc
import Derived.Test.YtdjcpmdjodhfeaaDoorRows
import Derived.Test.YtdjcpmdjodhfeaaDoorTie
import Derived.Test.YtdjcpmdjodhfeaaDoorCards
import Derived.WalkKit
import Derived.ProofKit
import Derived.OpenShut
import Derived.LaidMore
import Derived.Stop.Joined
import Derived.SevenTiedAt
open Go AH
namespace Go.Proofs.YtdjcpmdjodhfeaaDoor.A16
theorem own : ownKnob Tryd.prog.godebug = none := by kernel_rfl
theorem laidOut : laidOutB Tryd.prog = true := by kernel_rfl

theorem errRows : ErrRows Tryd.prog 115 47 137 9 :=
  ⟨⟨_, Tryd.underlying47⟩, fun u h => typeName_ptr_named (nm := "errors.errorString") (by rw [show "*" ++ "errors.errorString" = "*errors.errorString" by decide]; kernel_rfl) (by kernel_rfl) (by decide) u (by rw [show "*" ++ "errors.errorString" = "*errors.errorString" by decide]; exact h), Tryd.underlying115, ⟨_, Tryd.underlying137, rfl, rfl⟩, Tryd.underlying9, by kernel_rfl, by kernel_rfl⟩
end Go.Proofs.YtdjcpmdjodhfeaaDoor.A16
