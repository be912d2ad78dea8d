import Derived.Test.YtcmnchmkoghfdaaDoorRBaseC05h
import Derived.Test.YtcmnchmkoghfdaaDoorFrmGC05h
open Go AH
namespace Go.Proofs.YtcmnchmkoghfdaaDoor.C05h
def strSH : List SH := [.str]
theorem str_of (el : List AV) (h0 : shsOK strSH el) : ∃ s : ByteArray, el = strC s := by
  obtain ⟨_, r1, rfl, h1, h2⟩ := shs_cons h0
  obtain rfl := shs_nil h2
  obtain ⟨a, rfl, _⟩ := h1
  exact ⟨a, rfl⟩
end Go.Proofs.YtcmnchmkoghfdaaDoor.C05h
