import Derived.Test.YtkbjfhkhbcgkgaaDoorFVGB33
import Derived.WalkKit
import Derived.LaidEql
import Derived.Stop.Asserts
import Derived.RowKitTokens
set_option linter.unusedSimpArgs false
set_option maxRecDepth 100000
open Go
namespace Go.Proofs.YtkbjfhkhbcgkgaaDoor.B33
open Go.RowKit Go.Extern.Stop Go.Stop Go.Extern
theorem isTypeOf (v : Value) (w : World) : (Extern.ReflectliteType.typeOf #[.iface 120 v]).run Tryd.prog w = .ok (.iface 99 (.agg #[.pointer (some ⟨17,120,none⟩)])) w:=by kernel_rfl
theorem isComparable (w : World) : ((Extern.ReflectliteType.method fun t => do Extern.Rtype.noPackHeld "Comparable" t; (fun a => Value.bool a.comparable) <$> typeInfo t) #[.agg #[.pointer (some ⟨17, 120, none⟩)]]).run Tryd.prog w = .ok (.bool true) w := by kernel_rfl
theorem isMethodComparable (v : Value) (w : World) : (Go.method 253 99 v "Comparable").run Tryd.prog w = .ok (100, v) w := by kernel_rfl
theorem isComp : (Tryd.prog.info? 120).map (·.comparable) = some true:=by kernel_rfl
theorem isSize : (Tryd.prog.info? 141).map (·.size) = some 1:=by kernel_rfl
theorem noIsE (v : Value) (xT : TypeId) (w : World) : (Instr.typeAssert (.iface 120 v) xT 115 true).run Tryd.prog w = .ok (.tuple #[.nilIface,.bool false]) w:=run_typeAssert_lacksB Tryd.underlying115 (by kernel_rfl) (by kernel_rfl) v xT w
theorem noUnwrapE (v : Value) (xT : TypeId) (w : World) : (Instr.typeAssert (.iface 120 v) xT 106 true).run Tryd.prog w = .ok (.tuple #[.nilIface,.bool false]) w:=run_typeAssert_lacksB Tryd.underlying106 (by kernel_rfl) (by kernel_rfl) v xT w
theorem noUnwrapsE (v : Value) (xT : TypeId) (w : World) : (Instr.typeAssert (.iface 120 v) xT 108 true).run Tryd.prog w = .ok (.tuple #[.nilIface,.bool false]) w:=run_typeAssert_lacksB Tryd.underlying108 (by kernel_rfl) (by kernel_rfl) v xT w
theorem noIsW (v : Value) (xT : TypeId) (w : World) : (Instr.typeAssert (.iface 33 v) xT 115 true).run Tryd.prog w = .ok (.tuple #[.nilIface,.bool false]) w:=run_typeAssert_lacksB Tryd.underlying115 (by kernel_rfl) (by kernel_rfl) v xT w
theorem hasUnwrapW (v : Value) (xT : TypeId) (w : World) : (Instr.typeAssert (.iface 33 v) xT 106 true).run Tryd.prog w = .ok (.tuple #[.iface 33 v,.bool true]) w:=run_typeAssert_hasB Tryd.underlying106 (by kernel_rfl) v xT w
theorem methodUnwrap (v : Value) (w : World) : (Go.method 253 33 v "Unwrap").run Tryd.prog w = .ok (94, v) w := by kernel_rfl
set_option maxRecDepth 100000 in
theorem is_same (a : Addr) (w : World) :
    Calls Tryd.prog 39 #[.iface 120 (.pointer (some a)),.iface 120 (.pointer (some a))] w fun e w' =>e = .returned (.bool true) ∧ w' = w:=by
  obtain ⟨i,hi,hcmp⟩:=Option.map_eq_some_iff.1 isComp
  obtain ⟨j,hj,hjs⟩:=Option.map_eq_some_iff.1 isSize
  have h8:=@run_callFunc_extern Tryd.prog 62 _ Extern.ReflectliteType.typeOf Tryd.func62 (by kernel_rfl) (by kernel_rfl) (by kernel_rfl) (by kernel_rfl)
  have h32 := @run_callFunc_extern Tryd.prog 100 _ (Extern.ReflectliteType.method fun t => do Extern.Rtype.noPackHeld "Comparable" t; pure (.bool (← typeInfo t).comparable)) Tryd.func100 (by kernel_rfl) (by kernel_rfl) (by kernel_rfl) (by kernel_rfl)
  have tT:=isTypeOf
  have cT:=isComparable
  have mR:=isMethodComparable
  have heq:=run_eql_iface_ptr_same (P:=Tryd.prog) w a Tryd.underlying27 Tryd.underlying120 hi hcmp hj
  go_enter Tryd.func39,Tryd.ntmps39
  go_wp2
  refine wp_loop_rounds 1 ?_
  rw [rounds_succ]
  go_wp2
  go_ret
  exact ⟨rfl,rfl⟩
set_option maxRecDepth 100000 in
theorem is_nil (b : Addr) (w : World) :
    Calls Tryd.prog 39 #[.nilIface,.iface 120 (.pointer (some b))] w fun e w' =>e = .returned (.bool false) ∧ w' = w:=by
  have hn:=run_eql_iface_nil_left (P:=Tryd.prog) w 120 (.pointer (some b)) Tryd.underlying27
  go_enter Tryd.func39,Tryd.ntmps39
  go_wp2
  go_ret
  exact ⟨rfl,rfl⟩
set_option maxRecDepth 100000 in
theorem is_other (a b : Addr) (ca cb : Array Value) (ta tb : TypeId) (w : World) (hne : a ≠ b) (ha : w.heap[a.block]? = some (.cells ca ta (0,0))) (hb : w.heap[b.block]? = some (.cells cb tb (0,0))) :
    Calls Tryd.prog 39 #[.iface 120 (.pointer (some a)),.iface 120 (.pointer (some b))] w fun e w' =>e = .returned (.bool false) ∧ w' = w:=by
  obtain ⟨i,hi,hcmp⟩:=Option.map_eq_some_iff.1 isComp
  obtain ⟨j,hj,hjs⟩:=Option.map_eq_some_iff.1 isSize
  have h8:=@run_callFunc_extern Tryd.prog 62 _ Extern.ReflectliteType.typeOf Tryd.func62 (by kernel_rfl) (by kernel_rfl) (by kernel_rfl) (by kernel_rfl)
  have h32 := @run_callFunc_extern Tryd.prog 100 _ (Extern.ReflectliteType.method fun t => do Extern.Rtype.noPackHeld "Comparable" t; pure (.bool (← typeInfo t).comparable)) Tryd.func100 (by kernel_rfl) (by kernel_rfl) (by kernel_rfl) (by kernel_rfl)
  have tT:=isTypeOf
  have cT:=isComparable
  have mR:=isMethodComparable
  have nE:=noIsE
  have uE:=noUnwrapE
  have vE:=noUnwrapsE
  have heq:=run_eql_iface_ptr_other (P:=Tryd.prog) w Tryd.underlying27 Tryd.underlying120 hi hcmp hj (by rw [hjs]; decide) hne ha hb
  go_enter Tryd.func39,Tryd.ntmps39
  go_wp2
  refine wp_loop_rounds 1 ?_
  rw [rounds_succ]
  go_wp2
  go_ret
  exact ⟨rfl,rfl⟩
set_option maxRecDepth 100000 in
theorem is_wrap_same (pb po : Nat) (b : Addr) (w : World) (h1 : w.cell? ⟨pb,po + 2,none⟩ = some (.iface 120 (.pointer (some b)))) :
    Calls Tryd.prog 39 #[.iface 33 (.pointer (some ⟨pb,po,none⟩)),.iface 120 (.pointer (some b))] w fun e w' =>e = .returned (.bool true) ∧ w' = w:=by
  obtain ⟨i,hi,hcmp⟩:=Option.map_eq_some_iff.1 isComp
  obtain ⟨j,hj,hjs⟩:=Option.map_eq_some_iff.1 isSize
  have h8:=@run_callFunc_extern Tryd.prog 62 _ Extern.ReflectliteType.typeOf Tryd.func62 (by kernel_rfl) (by kernel_rfl) (by kernel_rfl) (by kernel_rfl)
  have h32 := @run_callFunc_extern Tryd.prog 100 _ (Extern.ReflectliteType.method fun t => do Extern.Rtype.noPackHeld "Comparable" t; pure (.bool (← typeInfo t).comparable)) Tryd.func100 (by kernel_rfl) (by kernel_rfl) (by kernel_rfl) (by kernel_rfl)
  have tT:=isTypeOf
  have cT:=isComparable
  have mR:=isMethodComparable
  have nW:=noIsW
  have uW:=hasUnwrapW
  have mU:=methodUnwrap
  have heq:=run_eql_iface_ptr_same (P:=Tryd.prog) w b Tryd.underlying27 Tryd.underlying120 hi hcmp hj
  have hty:=run_eql_iface_types (P:=Tryd.prog) 33 120 (.pointer (some ⟨pb,po,none⟩)) (.pointer (some b)) Tryd.underlying27 (by decide) w
  go_enter Tryd.func39,Tryd.ntmps39
  go_wp2
  refine wp_loop_rounds 2 ?_
  rw [rounds_succ]
  go_wp2
  rw [rounds_succ]
  go_wp2
  go_ret
  exact ⟨rfl,rfl⟩
set_option maxRecDepth 100000 in
theorem is_wrap_other (pb po : Nat) (b a : Addr) (ca cb : Array Value) (ta tb : TypeId) (w : World) (h1 : w.cell? ⟨pb,po + 2,none⟩ = some (.iface 120 (.pointer (some a)))) (hne : a ≠ b) (ha : w.heap[a.block]? = some (.cells ca ta (0,0))) (hb : w.heap[b.block]? = some (.cells cb tb (0,0))) :
    Calls Tryd.prog 39 #[.iface 33 (.pointer (some ⟨pb,po,none⟩)),.iface 120 (.pointer (some b))] w fun e w' =>e = .returned (.bool false) ∧ w' = w:=by
  obtain ⟨i,hi,hcmp⟩:=Option.map_eq_some_iff.1 isComp
  obtain ⟨j,hj,hjs⟩:=Option.map_eq_some_iff.1 isSize
  have h8:=@run_callFunc_extern Tryd.prog 62 _ Extern.ReflectliteType.typeOf Tryd.func62 (by kernel_rfl) (by kernel_rfl) (by kernel_rfl) (by kernel_rfl)
  have h32 := @run_callFunc_extern Tryd.prog 100 _ (Extern.ReflectliteType.method fun t => do Extern.Rtype.noPackHeld "Comparable" t; pure (.bool (← typeInfo t).comparable)) Tryd.func100 (by kernel_rfl) (by kernel_rfl) (by kernel_rfl) (by kernel_rfl)
  have tT:=isTypeOf
  have cT:=isComparable
  have mR:=isMethodComparable
  have nE:=noIsE
  have uE:=noUnwrapE
  have vE:=noUnwrapsE
  have nW:=noIsW
  have uW:=hasUnwrapW
  have mU:=methodUnwrap
  have heq:=run_eql_iface_ptr_other (P:=Tryd.prog) w Tryd.underlying27 Tryd.underlying120 hi hcmp hj (by rw [hjs]; decide) hne ha hb
  have hty:=run_eql_iface_types (P:=Tryd.prog) 33 120 (.pointer (some ⟨pb,po,none⟩)) (.pointer (some b)) Tryd.underlying27 (by decide) w
  go_enter Tryd.func39,Tryd.ntmps39
  go_wp2
  refine wp_loop_rounds 2 ?_
  rw [rounds_succ]
  go_wp2
  rw [rounds_succ]
  go_wp2
  go_ret
  exact ⟨rfl,rfl⟩
end Go.Proofs.YtkbjfhkhbcgkgaaDoor.B33
