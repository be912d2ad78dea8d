import Derived.Test.YtnlolefgifeohaaDoorFVGE15
import Derived.Test.YtnlolefgifeohaaDoorAHd
open Go AH
set_option linter.unusedSimpArgs false
set_option maxRecDepth 100000
namespace Go.Proofs.YtnlolefgifeohaaDoor.E15
def intC (n : Int) : List AV:=[.int .i64 n]
def decIC : List AV → Option Int
  | [.int .i64 n] =>some n
  | _ =>none
theorem decIC_ok (l : List AV) (n : Int) (h : decIC l = some n) : l = intC n:=by
  unfold decIC at h
  split at h
  · simp only [Option.some.injEq] at h; subst h; rfl
  · cases h
def cInt : Cod Int:=⟨intC,decIC,decIC_ok,fun _ =>rfl,fun _ =>rfl⟩
instance : FlatE intC:=⟨cInt.flat⟩
theorem intC_eq (n : Int) : intC n = [.int .i64 n]:=rfl
end Go.Proofs.YtnlolefgifeohaaDoor.E15
