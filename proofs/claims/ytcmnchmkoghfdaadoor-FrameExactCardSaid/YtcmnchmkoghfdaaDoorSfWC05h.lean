import Derived.Test.YtcmnchmkoghfdaaDoorSfBC05h
import Derived.Test.YtcmnchmkoghfdaaDoorSfRJC05h
open Go Go.RowKit Go.Shelf
namespace Go.Proofs.YtcmnchmkoghfdaaDoor.C05h
/- strings.Builder's WriteString at this program: out of the laying of strings.Join. -/
theorem bldWrite (B b : Nat) (bs : List Value) (s : ByteArray) (w : World) (h : Lib.IsBuilderF (Tryd.lays156_ren.t 72) (Tryd.lays156_ren.t 5) B b bs w) (hlen : bs.length + s.size ≤ 140737488355328) (hBw : B ≤ w.heap.size) :
    Calls Tryd.prog 55 #[.pointer (some ⟨b, 0, none⟩), .string s] w fun e w' => e = .returned (.tuple #[.int .i64 s.size, .nilIface]) ∧ (Lib.BuilderAtF (Tryd.lays156_ren.t 72) (Tryd.lays156_ren.t 5) B b (.pointer (some ⟨b, 0, none⟩)) (bs ++ Lib.strCells s) w' ∧ Below B w w') :=
  Any.Builder_WriteString_f ({ Tryd.lays156 with } : Lays.n166 Tryd.prog Tryd.lays156_ren) Tryd.Builder_Extra_156 B b bs s w h hlen hBw
end Go.Proofs.YtcmnchmkoghfdaaDoor.C05h
