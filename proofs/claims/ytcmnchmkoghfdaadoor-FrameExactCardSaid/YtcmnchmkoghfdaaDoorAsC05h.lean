import Derived.Test.YtcmnchmkoghfdaaDoorIsC05h
set_option linter.unusedSimpArgs false
set_option maxRecDepth 100000
open Go
namespace Go.Proofs.YtcmnchmkoghfdaaDoor.C05h
open Go.RowKit Go.Extern.Stop Go.Stop Go.Extern

def hnd (t : TypeId) : Value := .pointer (some ⟨18, t, none⟩)
def rty (t : TypeId) : Value := .iface 105 (.agg #[.pointer (some ⟨18, t, none⟩)])
theorem asMK (w : World) : (Go.method 287 105 (.agg #[.pointer (some ⟨18, 90, none⟩)]) "Kind").run Tryd.prog w = .ok (111, .pointer (some ⟨18, 90, none⟩)) w := by kernel_rfl
theorem asMK2 (w : World) : (Go.method 287 105 (.agg #[.pointer (some ⟨18, 88, none⟩)]) "Kind").run Tryd.prog w = .ok (111, .pointer (some ⟨18, 88, none⟩)) w := by kernel_rfl
theorem asME (v : Value) (w : World) : (Go.method 287 105 v "Elem").run Tryd.prog w = .ok (120, v) w := by kernel_rfl
theorem asMI (v : Value) (w : World) : (Go.method 287 105 v "Implements").run Tryd.prog w = .ok (121, v) w := by kernel_rfl
theorem asMA (v : Value) (w : World) : (Go.method 287 105 v "AssignableTo").run Tryd.prog w = .ok (118, v) w := by kernel_rfl
theorem asKi (w : World) : (Extern.ReflectliteType.abiMethod (fun t => (fun (a : Nat) => Value.int .u8 (a : Int)) <$> Extern.Rtype.kind t) #[.pointer (some ⟨18, 90, none⟩)]).run Tryd.prog w = .ok (.int .u8 22) w := by kernel_rfl
theorem asKj (w : World) : (Extern.ReflectliteType.abiMethod (fun t => (fun (a : Nat) => Value.int .u8 (a : Int)) <$> Extern.Rtype.kind t) #[.pointer (some ⟨18, 88, none⟩)]).run Tryd.prog w = .ok (.int .u8 22) w := by kernel_rfl
theorem asTy (a : Addr) (w : World) : ((Extern.ReflectliteValue.methodAny (Extern.ReflectliteValue.valueError "reflectlite.Value.Type" 0) fun t _ _ _ => Extern.ReflectliteType.toType t) #[.agg #[.pointer (some ⟨18, 90, none⟩), .pointer (some a), .int .u64 150]]).run Tryd.prog w = .ok (.iface 105 (.agg #[.pointer (some ⟨18, 90, none⟩)])) w := by kernel_rfl
theorem asTO (v : Value) (w : World) : (Extern.ReflectliteType.typeOf #[.iface 88 v]).run Tryd.prog w = .ok (.iface 105 (.agg #[.pointer (some ⟨18, 88, none⟩)])) w := by kernel_rfl
theorem asEl (w : World) : (Extern.ReflectliteType.method Extern.ReflectliteType.elem #[.agg #[.pointer (some ⟨18, 90, none⟩)]]).run Tryd.prog w = .ok (.iface 105 (.agg #[.pointer (some ⟨18, 88, none⟩)])) w := by kernel_rfl
theorem asIm (w : World) : (Extern.ReflectliteType.relation "Implements" Extern.ReflectliteType.implements_ #[.agg #[.pointer (some ⟨18, 88, none⟩)], .iface 105 (.agg #[.pointer (some ⟨18, 31, none⟩)])]).run Tryd.prog w = .ok (.bool true) w := by kernel_rfl
theorem asAs (w : World) : (Extern.ReflectliteType.relation "AssignableTo" Extern.ReflectliteType.assignableTo #[.agg #[.pointer (some ⟨18, 88, none⟩)], .iface 105 (.agg #[.pointer (some ⟨18, 88, none⟩)])]).run Tryd.prog w = .ok (.bool true) w := by kernel_rfl
end Go.Proofs.YtcmnchmkoghfdaaDoor.C05h
