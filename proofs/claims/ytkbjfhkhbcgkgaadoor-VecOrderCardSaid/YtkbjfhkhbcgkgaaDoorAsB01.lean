import Derived.Test.YtkbjfhkhbcgkgaaDoorIsB01
set_option linter.unusedSimpArgs false
set_option maxRecDepth 100000
open Go
namespace Go.Proofs.YtkbjfhkhbcgkgaaDoor.B01
open Go.RowKit Go.Extern.Stop Go.Stop Go.Extern

def hnd (t : TypeId) : Value := .pointer (some ⟨17, t, none⟩)
def rty (t : TypeId) : Value := .iface 99 (.agg #[.pointer (some ⟨17, t, none⟩)])
theorem asMK (w : World) : (Go.method 253 99 (.agg #[.pointer (some ⟨17, 35, none⟩)]) "Kind").run Tryd.prog w = .ok (90, .pointer (some ⟨17, 35, none⟩)) w := by kernel_rfl
theorem asMK2 (w : World) : (Go.method 253 99 (.agg #[.pointer (some ⟨17, 33, none⟩)]) "Kind").run Tryd.prog w = .ok (90, .pointer (some ⟨17, 33, none⟩)) w := by kernel_rfl
theorem asME (v : Value) (w : World) : (Go.method 253 99 v "Elem").run Tryd.prog w = .ok (101, v) w := by kernel_rfl
theorem asMI (v : Value) (w : World) : (Go.method 253 99 v "Implements").run Tryd.prog w = .ok (102, v) w := by kernel_rfl
theorem asMA (v : Value) (w : World) : (Go.method 253 99 v "AssignableTo").run Tryd.prog w = .ok (99, v) w := by kernel_rfl
theorem asKi (w : World) : (Extern.ReflectliteType.abiMethod (fun t => (fun (a : Nat) => Value.int .u8 (a : Int)) <$> Extern.Rtype.kind t) #[.pointer (some ⟨17, 35, none⟩)]).run Tryd.prog w = .ok (.int .u8 22) w := by kernel_rfl
theorem asKj (w : World) : (Extern.ReflectliteType.abiMethod (fun t => (fun (a : Nat) => Value.int .u8 (a : Int)) <$> Extern.Rtype.kind t) #[.pointer (some ⟨17, 33, none⟩)]).run Tryd.prog w = .ok (.int .u8 22) w := by kernel_rfl
theorem asTy (a : Addr) (w : World) : ((Extern.ReflectliteValue.methodAny (Extern.ReflectliteValue.valueError "reflectlite.Value.Type" 0) fun t _ _ _ => Extern.ReflectliteType.toType t) #[.agg #[.pointer (some ⟨17, 35, none⟩), .pointer (some a), .int .u64 150]]).run Tryd.prog w = .ok (.iface 99 (.agg #[.pointer (some ⟨17, 35, none⟩)])) w := by kernel_rfl
theorem asTO (v : Value) (w : World) : (Extern.ReflectliteType.typeOf #[.iface 33 v]).run Tryd.prog w = .ok (.iface 99 (.agg #[.pointer (some ⟨17, 33, none⟩)])) w := by kernel_rfl
theorem asEl (w : World) : (Extern.ReflectliteType.method Extern.ReflectliteType.elem #[.agg #[.pointer (some ⟨17, 35, none⟩)]]).run Tryd.prog w = .ok (.iface 99 (.agg #[.pointer (some ⟨17, 33, none⟩)])) w := by kernel_rfl
theorem asIm (w : World) : (Extern.ReflectliteType.relation "Implements" Extern.ReflectliteType.implements_ #[.agg #[.pointer (some ⟨17, 33, none⟩)], .iface 99 (.agg #[.pointer (some ⟨17, 27, none⟩)])]).run Tryd.prog w = .ok (.bool true) w := by kernel_rfl
theorem asAs (w : World) : (Extern.ReflectliteType.relation "AssignableTo" Extern.ReflectliteType.assignableTo #[.agg #[.pointer (some ⟨17, 33, none⟩)], .iface 99 (.agg #[.pointer (some ⟨17, 33, none⟩)])]).run Tryd.prog w = .ok (.bool true) w := by kernel_rfl
end Go.Proofs.YtkbjfhkhbcgkgaaDoor.B01
