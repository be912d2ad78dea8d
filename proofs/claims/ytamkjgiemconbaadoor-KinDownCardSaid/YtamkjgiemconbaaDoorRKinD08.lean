import Derived.Test.YtamkjgiemconbaaDoorRBaseD08
import Derived.Test.YtamkjgiemconbaaDoorKinLD08
open Go AH
namespace Go.Proofs.YtamkjgiemconbaaDoor.D08
def acSH : List SH := [.int .i64, .int .i64, .int .i64]
theorem ac_of (el : List AV) (h0 : shsOK acSH el) : ∃ s : Ac, el = s.cells := by
  obtain ⟨_, r1, rfl, ⟨a, rfl, _⟩, h1⟩ := shs_cons h0
  obtain ⟨_, r2, rfl, ⟨b, rfl, _⟩, h2⟩ := shs_cons h1
  obtain ⟨_, r3, rfl, ⟨c, rfl, _⟩, h3⟩ := shs_cons h2
  obtain rfl := shs_nil h3
  exact ⟨⟨a, b, c⟩, rfl⟩
def intSH : List SH := [.int .i64]
theorem int_of (el : List AV) (h0 : shsOK intSH el) : ∃ n : Int, el = intC n := by
  obtain ⟨_, r1, rfl, ⟨a, rfl, _⟩, h1⟩ := shs_cons h0
  obtain rfl := shs_nil h1
  exact ⟨a, rfl⟩
end Go.Proofs.YtamkjgiemconbaaDoor.D08
