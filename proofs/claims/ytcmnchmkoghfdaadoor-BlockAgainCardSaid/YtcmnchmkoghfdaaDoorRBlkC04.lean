import Derived.Test.YtcmnchmkoghfdaaDoorRBaseC04
import Derived.Test.YtcmnchmkoghfdaaDoorBlkYC04
open Go AH
namespace Go.Proofs.YtcmnchmkoghfdaaDoor.C04
def acSH : List SH := [.int .i64, .int .i64, .int .i64, .int .u8]
theorem ac_of (el : List AV) (h0 : shsOK acSH el) : ∃ s : Ac, el = s.cells := by
  obtain ⟨_, r1, rfl, ⟨a, rfl, _⟩, h1⟩ := shs_cons h0
  obtain ⟨_, r2, rfl, ⟨b, rfl, _⟩, h2⟩ := shs_cons h1
  obtain ⟨_, r3, rfl, ⟨c, rfl, _⟩, h3⟩ := shs_cons h2
  obtain ⟨_, r4, rfl, ⟨d, rfl, _⟩, h4⟩ := shs_cons h3
  obtain rfl := shs_nil h4
  exact ⟨⟨a, b, c, d⟩, rfl⟩
end Go.Proofs.YtcmnchmkoghfdaaDoor.C04
