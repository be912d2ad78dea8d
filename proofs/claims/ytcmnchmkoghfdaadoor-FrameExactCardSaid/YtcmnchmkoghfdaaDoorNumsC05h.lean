import Derived.Test.YtcmnchmkoghfdaaDoorFVGC05h
import Derived.Test.YtcmnchmkoghfdaaDoorAHd
open Go AH
set_option linter.unusedSimpArgs false
set_option maxRecDepth 100000
namespace Go.Proofs.YtcmnchmkoghfdaaDoor.C05h
def intC (n : Int) : List AV := [.int .i64 n]
def decIC : List AV → Option Int
  | [.int .i64 n] => some n
  | _ => none
theorem decIC_ok (l : List AV) (n : Int) (h : decIC l = some n) : l = intC n := by
  unfold decIC at h
  split at h
  · simp only [Option.some.injEq] at h; subst h; rfl
  · cases h
def cInt : Cod Int := ⟨intC, decIC, decIC_ok, fun _ => rfl, fun _ => rfl⟩
instance : FlatE intC := ⟨cInt.flat⟩
theorem intC_eq (n : Int) : intC n = [.int .i64 n] := rfl
theorem setC (l : List Int) (j : Nat) (x : Int) : (l.map intC).set j [.int .i64 x] = (l.set j x).map intC := by rw [List.map_set]; rfl
end Go.Proofs.YtcmnchmkoghfdaaDoor.C05h
