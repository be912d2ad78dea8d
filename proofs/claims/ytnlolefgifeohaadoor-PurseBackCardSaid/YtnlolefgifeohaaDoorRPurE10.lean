import Derived.Test.YtnlolefgifeohaaDoorRBaseE10
import Derived.Test.YtnlolefgifeohaaDoorPurDE10
open Go AH
namespace Go.Proofs.YtnlolefgifeohaaDoor.E10
theorem wf_inR {n : Int} (h : (Lit.int .i64 n).wf = true) : inR n := by
  simp [Lit.wf, IntKind.min, IntKind.max, IntKind.bits, IntKind.signed] at h
  unfold inR; omega
end Go.Proofs.YtnlolefgifeohaaDoor.E10
