import Derived.Test.YtkbjfhkhbcgkgaaDoorRBaseB33
import Derived.Test.YtkbjfhkhbcgkgaaDoorShB33
open Go AH
namespace Go.Proofs.YtkbjfhkhbcgkgaaDoor.B33
def ShR : Type:={s : Sh // s.ok}
def ShR.cells (s : ShR) : List AV:=s.1.cells
end Go.Proofs.YtkbjfhkhbcgkgaaDoor.B33
