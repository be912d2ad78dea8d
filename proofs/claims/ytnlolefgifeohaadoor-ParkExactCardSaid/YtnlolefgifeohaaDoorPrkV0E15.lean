import Derived.Test.YtnlolefgifeohaaDoorPrkWE15
open Go AH
set_option linter.unusedSimpArgs false
set_option maxRecDepth 100000
namespace Go.Proofs.YtnlolefgifeohaaDoor.E15
theorem eqv_self (v : V4) : eqV v v = true:=(eqV_iff v v).2 rfl
theorem ma7_self (m : Ma) : (m.i == m.i && (m.c == m.c && (m.h.a == m.h.a && (m.h.b == m.h.b && (m.h.c == m.h.c && (m.h.d == m.h.d && m.s == m.s)))))) = true:=by simp
end Go.Proofs.YtnlolefgifeohaaDoor.E15
