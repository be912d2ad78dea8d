import Derived.Test.YtcmnchmkoghfdaaDoorRBaseC05h
open Go AH
namespace Go.Proofs.YtcmnchmkoghfdaaDoor.C05h
/-- A world in which a table of the library's, that the program's own text does not lay, holds its cells. -/
def laidIn (w : World) (g : Nat) (c : Array Value) : World :=
  { w with heap := match w.heap[g]? with
    | some (.cells _ et fr) => w.heap.setIfInBounds g (.cells c et fr)
    | _ => w.heap }
noncomputable def wit (os : Os) : World := laidIn (World.doorLaid Tryd.prog 400 os) 16 (Go.Pinned.utf8FirstZ.map fun n : Nat => Value.int .u8 (n : Int)).toArray
end Go.Proofs.YtcmnchmkoghfdaaDoor.C05h
