import Derived.Test.YtnlolefgifeohaaDoorPrkWE15
open Go AH
set_option linter.unusedSimpArgs false
set_option maxRecDepth 100000
namespace Go.Proofs.YtnlolefgifeohaaDoor.E15
theorem isM_iff {t : Mp Ma} {x : Int} : isM t x = true ↔ x ∈ t.L.map (·.k):=enF_isSome
theorem ids_mem {t : Mp Ma} {x : Int} : x ∈ idsM t ↔ x ∈ t.L.map (·.k):=(sortI_perm _).mem_iff
end Go.Proofs.YtnlolefgifeohaaDoor.E15
