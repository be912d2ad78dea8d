import Derived.Test.YtnlolefgifeohaaDoorVGE15
open Go AH
set_option linter.unusedSimpArgs false
set_option maxRecDepth 100000
namespace Go.Proofs.YtnlolefgifeohaaDoor.E15
def eqV (x y : V4) : Bool:=x.a == y.a && (x.b == y.b && (x.c == y.c && (x.d == y.d && true)))
theorem eqV_iff (x y : V4) : eqV x y = true ↔ x = y:=by
  cases x; cases y
  simp [eqV]
theorem eqFlat_vec (a b c d x y z u : Int) : eqFlat [.int,.int,.int,.int] [.int .i64 a,.int .i64 b,.int .i64 c,.int .i64 d] [.int .i64 x,.int .i64 y,.int .i64 z,.int .i64 u] = some (eqV ⟨a,b,c,d⟩ ⟨x,y,z,u⟩):=rfl
end Go.Proofs.YtnlolefgifeohaaDoor.E15
