import Derived.Test.YtcmnchmkoghfdaaDoorFVGC05h
open Go AH
set_option linter.unusedSimpArgs false
namespace Go.Proofs.YtcmnchmkoghfdaaDoor.C05h
def strC (s : ByteArray) : List AV := [.str s]
def decStr : List AV → Option ByteArray
  | [.str s] => some s
  | _ => none
theorem decStr_ok (l : List AV) (s : ByteArray) (h : decStr l = some s) : l = strC s := by
  unfold decStr at h
  split at h
  · simp only [Option.some.injEq] at h; subst h; rfl
  · cases h
def cStr : Cod ByteArray := ⟨strC, decStr, decStr_ok, fun _ => rfl, fun _ => rfl⟩
instance : FlatE strC := ⟨cStr.flat⟩
theorem strC_eq (s : ByteArray) : strC s = [.str s] := rfl
end Go.Proofs.YtcmnchmkoghfdaaDoor.C05h
