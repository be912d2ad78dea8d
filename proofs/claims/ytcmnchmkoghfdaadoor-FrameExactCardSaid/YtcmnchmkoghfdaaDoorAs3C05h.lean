import Derived.Test.YtcmnchmkoghfdaaDoorAs2C05h
set_option linter.unusedSimpArgs false
set_option maxRecDepth 100000
open Go
namespace Go.Proofs.YtcmnchmkoghfdaaDoor.C05h
open Go.RowKit Go.Extern.Stop Go.Stop Go.Extern
theorem al_new (w : World) (o : Obj) : (w.alloc o).heap[w.heap.size]? = some o := by unfold World.alloc; simp only [Array.getElem?_push_size]
theorem al_size (w : World) (o : Obj) : (w.alloc o).heap.size = w.heap.size + 1 := by unfold World.alloc; simp only [Array.size_push]
theorem al_old (w : World) (o : Obj) {i : Nat} (h : i < w.heap.size) : (w.alloc o).heap[i]? = w.heap[i]? := by unfold World.alloc; simp only; rw [Array.getElem?_push, if_neg (by omega)]
def wA (x : Addr) (w : World) : World := w.alloc (.cells #[.pointer (some x)] 90 (0, 0))
def wB (x : Addr) (w : World) : World := (wA x w).alloc (.cells #[.pointer (some ⟨18, 90, none⟩), .pointer (some ⟨w.heap.size, 0, none⟩), .int .u64 150] 118 (0, 0))
def wD (x : Addr) (w : World) : World := (wB x w).alloc (.cells #[.pointer (some ⟨18, 90, none⟩), .pointer (some ⟨w.heap.size, 0, none⟩), .int .u64 150] 118 (0, 0))
def wC (p x : Addr) (w : World) : World := (wD x w).alloc (.cells #[.pointer (some p)] 88 (0, 0))
set_option maxRecDepth 100000 in
set_option maxHeartbeats 4000000 in
theorem as_fault (p x : Addr) (w w2 : World) {et : TypeId} {fr : Nat × Nat} (hG : w.heap[14]? = some (.cells #[.iface 105 (.agg #[.pointer (some ⟨18, 31, none⟩)])] et fr))
    (hst : (storeCells x [.pointer (some p)]).run Tryd.prog (wC p x w) = .ok () w2) :
    Calls Tryd.prog 53 #[.iface 88 (.pointer (some p)), .iface 90 (.pointer (some x))] w fun e w' => e = .returned (.bool true) ∧ w' = w2 := by
  have h1 := @run_callFunc_extern Tryd.prog 64 _ (fun args => Extern.ReflectliteValue.unpack (args.getD 0 (.tuple #[]))) Tryd.func64 (by kernel_rfl) (by kernel_rfl) (by kernel_rfl) (by kernel_rfl)
  have h2 := @run_callFunc_extern Tryd.prog 65 _ (Extern.ReflectliteValue.methodAny (Extern.ReflectliteValue.valueError "reflectlite.Value.Type" 0) fun t _ _ _ => Extern.ReflectliteType.toType t) Tryd.func65 (by kernel_rfl) (by kernel_rfl) (by kernel_rfl) (by kernel_rfl)
  have h3 := @run_callFunc_extern Tryd.prog 111 _ (Extern.ReflectliteType.abiMethod fun t => do pure (.int .u8 (← Extern.Rtype.kind t))) Tryd.func111 (by kernel_rfl) (by kernel_rfl) (by kernel_rfl) (by kernel_rfl)
  have h4 := @run_callFunc_extern Tryd.prog 66 _ (Extern.ReflectliteValue.method (Extern.ReflectliteValue.valueError "reflectlite.Value.IsNil" 0) Extern.ReflectliteValue.isNil) Tryd.func66 (by kernel_rfl) (by kernel_rfl) (by kernel_rfl) (by kernel_rfl)
  have h5 := @run_callFunc_extern Tryd.prog 120 _ (Extern.ReflectliteType.method Extern.ReflectliteType.elem) Tryd.func120 (by kernel_rfl) (by kernel_rfl) (by kernel_rfl) (by kernel_rfl)
  have h6 := @run_callFunc_extern Tryd.prog 121 _ (Extern.ReflectliteType.relation "Implements" Extern.ReflectliteType.implements_) Tryd.func121 (by kernel_rfl) (by kernel_rfl) (by kernel_rfl) (by kernel_rfl)
  have h7 := @run_callFunc_extern Tryd.prog 48 _ Extern.ReflectliteType.typeOf Tryd.func48 (by kernel_rfl) (by kernel_rfl) (by kernel_rfl) (by kernel_rfl)
  have h8 := @run_callFunc_extern Tryd.prog 118 _ (Extern.ReflectliteType.relation "AssignableTo" Extern.ReflectliteType.assignableTo) Tryd.func118 (by kernel_rfl) (by kernel_rfl) (by kernel_rfl) (by kernel_rfl)
  have h9 := @run_callFunc_extern Tryd.prog 80 _ (Extern.ReflectliteValue.method (Extern.ReflectliteValue.valueError "reflectlite.Value.Elem" 0) Extern.ReflectliteValue.elem) Tryd.func80 (by kernel_rfl) (by kernel_rfl) (by kernel_rfl) (by kernel_rfl)
  have h10 := @run_callFunc_extern Tryd.prog 81 _ Extern.ReflectliteValue.set Tryd.func81 (by kernel_rfl) (by kernel_rfl) (by kernel_rfl) (by kernel_rfl)
  have e1 := asVO x w
  have e2 := asTy ⟨w.heap.size, 0, none⟩
  have hlt := (Array.getElem?_eq_some_iff.1 hG).1
  have sA : (wA x w).heap.size = w.heap.size + 1 := al_size _ _
  have sB : (wB x w).heap.size = w.heap.size + 2 := by rw [wB, al_size, sA]
  have xA : (wA x w).heap[w.heap.size]? = some (.cells #[.pointer (some x)] 90 (0, 0)) := al_new _ _
  have xB : (wB x w).heap[w.heap.size]? = some (.cells #[.pointer (some x)] 90 (0, 0)) := by rw [wB, al_old _ _ (by rw [sA]; omega)]; exact xA
  have vB : (wB x w).heap[w.heap.size + 1]? = some (.cells #[.pointer (some ⟨18, 90, none⟩), .pointer (some ⟨w.heap.size, 0, none⟩), .int .u64 150] 118 (0, 0)) := by rw [← sA]; exact al_new _ _
  have sD : (wD x w).heap.size = w.heap.size + 3 := by rw [wD, al_size, sB]
  have xD : (wD x w).heap[w.heap.size]? = some (.cells #[.pointer (some x)] 90 (0, 0)) := by rw [wD, al_old _ _ (by rw [sB]; omega)]; exact xB
  have vD : (wD x w).heap[w.heap.size + 2]? = some (.cells #[.pointer (some ⟨18, 90, none⟩), .pointer (some ⟨w.heap.size, 0, none⟩), .int .u64 150] 118 (0, 0)) := by rw [← sB]; exact al_new _ _
  have xC : (wC p x w).heap[w.heap.size + 3]? = some (.cells #[.pointer (some p)] 88 (0, 0)) := by rw [← sD]; exact al_new _ _
  have gB : (wB x w).heap[14]? = some (.cells #[.iface 105 (.agg #[.pointer (some ⟨18, 31, none⟩)])] et fr) := by
    rw [wB, al_old _ _ (by rw [sA]; omega), wA, al_old _ _ hlt]; exact hG
  have cG : (wB x w).cell? ⟨14, 0, none⟩ = some (.iface 105 (.agg #[.pointer (some ⟨18, 31, none⟩)])) := by
    simp only [World.cell?, gB]; rfl
  have cG0 : w.cell? ⟨14, 0, none⟩ = some (.iface 105 (.agg #[.pointer (some ⟨18, 31, none⟩)])) := by
    simp only [World.cell?, hG]; rfl
  have e7 := asIN w.heap.size x _ xB
  have e8 := asEv w.heap.size x _ xD
  have e9 := asVE p (wD x w)
  rw [sD] at e9
  have e10 := asSt x p (w.heap.size + 3) _ w2 xC hst
  have e11 := asKi
  have e12 := asKj
  have m1 := asMK
  have m2 := asMK2
  have m3 := asME
  have m4 := asMI
  have m5 := asMA
  have e3 := asEl
  have e4 := asIm
  have e5 := asTO
  have e6 := asAs
  simp only [wA, wB, wC, wD] at e7 e8 e9 e10 xA xB vB xC gB cG xD vD
  go_enter Tryd.func53, Tryd.ntmps53
  go_wp2
  refine wp_loop_rounds 1 ?_
  rw [rounds_succ]
  go_wp2
  go_ret
  exact ⟨rfl, rfl⟩
end Go.Proofs.YtcmnchmkoghfdaaDoor.C05h
