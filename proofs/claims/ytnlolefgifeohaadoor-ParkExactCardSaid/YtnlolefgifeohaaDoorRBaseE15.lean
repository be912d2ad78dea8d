import Derived.Test.YtnlolefgifeohaaDoorFVGE15
import Derived.Test.YtnlolefgifeohaaDoorAHc
import Derived.Test.YtnlolefgifeohaaDoorRows
import Derived.Test.YtnlolefgifeohaaDoorTie
import Derived.Test.YtnlolefgifeohaaDoorCards
import Derived.WalkKit
import Derived.ProofKit
import Derived.OpenShut
import Derived.LaidMore
import Derived.Stop.Joined
import Derived.SevenTiedAt
import Derived.LaidSub
open Go AH
namespace Go.Proofs.YtnlolefgifeohaaDoor.E15
theorem own : ownKnob Tryd.prog.godebug = none:=by kernel_rfl
theorem laidOut : laidOutB Tryd.prog = true:=by kernel_rfl
theorem errRows : ErrRows Tryd.prog 192 32 216 9 :=
  ⟨⟨_, Tryd.underlying32⟩, fun u h => typeName_ptr_named (nm := "errors.errorString") (by rw [show "*" ++ "errors.errorString" = "*errors.errorString" by decide]; kernel_rfl) (by kernel_rfl) (by decide) u (by rw [show "*" ++ "errors.errorString" = "*errors.errorString" by decide]; exact h), Tryd.underlying192, ⟨_, Tryd.underlying216, rfl, rfl⟩, Tryd.underlying9, by kernel_rfl, by kernel_rfl⟩
end Go.Proofs.YtnlolefgifeohaaDoor.E15
