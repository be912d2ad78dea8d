import Derived.Test.YtcmnchmkoghfdaaDoorAsC05h
set_option linter.unusedSimpArgs false
set_option maxRecDepth 100000
open Go
namespace Go.Proofs.YtcmnchmkoghfdaaDoor.C05h
open Go.RowKit Go.Extern.Stop Go.Stop Go.Extern
theorem asVO (x : Addr) (w : World) : (Extern.ReflectliteValue.unpack (.iface 90 (.pointer (some x)))).run Tryd.prog w = .ok (.agg #[.pointer (some ⟨18, 90, none⟩), .pointer (some ⟨w.heap.size, 0, none⟩), .int .u64 150]) (w.alloc (.cells #[.pointer (some x)] 90 (0, 0))) := by kernel_rfl
theorem asVE (x : Addr) (w : World) : (Extern.ReflectliteValue.unpack (.iface 88 (.pointer (some x)))).run Tryd.prog w = .ok (.agg #[.pointer (some ⟨18, 88, none⟩), .pointer (some ⟨w.heap.size, 0, none⟩), .int .u64 150]) (w.alloc (.cells #[.pointer (some x)] 88 (0, 0))) := by kernel_rfl
theorem asP1 (n : Addr) (w : World) : (Extern.ReflectliteValue.parts (.agg #[.pointer (some ⟨18, 90, none⟩), .pointer (some n), .int .u64 150])).run Tryd.prog w = .ok (some (90, n, 150)) w := by kernel_rfl
theorem asP2 (x : Addr) (w : World) : (Extern.ReflectliteValue.parts (.agg #[.pointer (some ⟨18, 88, none⟩), .pointer (some x), .int .u64 406])).run Tryd.prog w = .ok (some (88, x, 406)) w := by kernel_rfl
theorem asP3 (n : Addr) (w : World) : (Extern.ReflectliteValue.parts (.agg #[.pointer (some ⟨18, 88, none⟩), .pointer (some n), .int .u64 150])).run Tryd.prog w = .ok (some (88, n, 150)) w := by kernel_rfl
theorem asG1 (w : World) : (Go.isAgg 90).run Tryd.prog w = .ok false w := by kernel_rfl
theorem asG2 (w : World) : (Go.isAgg 88).run Tryd.prog w = .ok false w := by kernel_rfl
theorem asD (w : World) : (Extern.Rtype.directlyAssignable 88 88).run Tryd.prog w = .ok true w := by kernel_rfl
theorem asE? (w : World) : (Extern.Rtype.elem? 90).run Tryd.prog w = .ok (some 88) w := by kernel_rfl
theorem asSz (w : World) : (Go.sizeOf 88).run Tryd.prog w = .ok 1 w := by kernel_rfl
theorem asMk (x : Addr) (w : World) : (Extern.ReflectliteValue.mk 88 x Extern.ReflectliteValue.flagAddr).run Tryd.prog w = .ok (.agg #[.pointer (some ⟨18, 88, none⟩), .pointer (some x), .int .u64 406]) w := by kernel_rfl

theorem meth1 (z : Sem Value) (f : TypeId → Addr → Nat → Nat → Sem Value) (v : Value) : Extern.ReflectliteValue.method z f #[v] = (Extern.ReflectliteValue.parts v >>= fun r => match r with
    | none => z
    | some (t, a, fl) => f t a fl (fl % 32)) := rfl
theorem set2 (v x : Value) : Extern.ReflectliteValue.set #[v, x] = (do
    let (some (dst, a, fl), some (src, b, _)) := (← Extern.ReflectliteValue.parts v, ← Extern.ReflectliteValue.parts x)
      | unsupported (.noEntry "extern/(internal/reflectlite.Value).Set.zeroValue")
    if fl / Extern.ReflectliteValue.flagAddr % 2 == 0 then unsupported (.noEntry "extern/(internal/reflectlite.Value).Set.unaddressable")
    let val ← loadVar src b
    if ← Extern.Rtype.directlyAssignable dst src then storeVar dst a val
    else if ← Extern.Rtype.implements dst src then
      if (← Extern.Rtype.kind src) == 20 then
        match val with
        | .nilIface => unsupported (.noEntry "extern/reflectlite: a nil value of one interface type handed on as a value of another")
        | _ => storeVar dst a val
      else storeVar dst a (.iface src val)
    else panicString ("reflectlite.Set: value of type " ++ (← Extern.Rtype.spelt src) ++ " is not assignable to type " ++ (← Extern.Rtype.spelt dst))
    pure (.tuple #[])) := rfl
theorem asIN (n : Nat) (x : Addr) (w : World) {t : TypeId} {fr : Nat × Nat} (h : w.heap[n]? = some (.cells #[.pointer (some x)] t fr)) : (Extern.ReflectliteValue.method (Extern.ReflectliteValue.valueError "reflectlite.Value.IsNil" 0) Extern.ReflectliteValue.isNil #[.agg #[.pointer (some ⟨18, 90, none⟩), .pointer (some ⟨n, 0, none⟩), .int .u64 150]]).run Tryd.prog w = .ok (.bool false) w := by
  rw [meth1]
  simp [Extern.ReflectliteValue.isNil, Sem.run_bind, asP1, loadVar, asG1, World.cell?, h]
theorem asEv (n : Nat) (x : Addr) (w : World) {t : TypeId} {fr : Nat × Nat} (h : w.heap[n]? = some (.cells #[.pointer (some x)] t fr)) : (Extern.ReflectliteValue.method (Extern.ReflectliteValue.valueError "reflectlite.Value.Elem" 0) Extern.ReflectliteValue.elem #[.agg #[.pointer (some ⟨18, 90, none⟩), .pointer (some ⟨n, 0, none⟩), .int .u64 150]]).run Tryd.prog w = .ok (.agg #[.pointer (some ⟨18, 88, none⟩), .pointer (some x), .int .u64 406]) w := by
  rw [meth1]
  simp [Extern.ReflectliteValue.elem, Sem.run_bind, asP1, loadVar, asG1, World.cell?, h, asE?, asMk]
theorem asSt (x p : Addr) (n : Nat) (w w2 : World) {t : TypeId} {fr : Nat × Nat} (h : w.heap[n]? = some (.cells #[.pointer (some p)] t fr)) (hs : (storeCells x [.pointer (some p)]).run Tryd.prog w = .ok () w2) : (Extern.ReflectliteValue.set #[.agg #[.pointer (some ⟨18, 88, none⟩), .pointer (some x), .int .u64 406], .agg #[.pointer (some ⟨18, 88, none⟩), .pointer (some ⟨n, 0, none⟩), .int .u64 150]]).run Tryd.prog w = .ok (.tuple #[]) w2 := by
  rw [set2]
  simp [Sem.run_bind, asP2, asP3, loadVar, asG2, World.cell?, h, Extern.ReflectliteValue.flagAddr, asD, storeVar, asSz, Value.cells, hs]
end Go.Proofs.YtcmnchmkoghfdaaDoor.C05h
