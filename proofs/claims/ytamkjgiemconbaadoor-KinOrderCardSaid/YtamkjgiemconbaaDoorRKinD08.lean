import Derived.Test.YtamkjgiemconbaaDoorRBaseD08
import Derived.Test.YtamkjgiemconbaaDoorKinLD08
open Go AH
namespace Go.Proofs.YtamkjgiemconbaaDoor.D08
def intSH : List SH := [.int .i64]
theorem int_of (el : List AV) (h0 : shsOK intSH el) : ∃ n : Int, el = intC n := by
  obtain ⟨_, r1, rfl, ⟨a, rfl, _⟩, h1⟩ := shs_cons h0
  obtain rfl := shs_nil h1
  exact ⟨a, rfl⟩
end Go.Proofs.YtamkjgiemconbaaDoor.D08
