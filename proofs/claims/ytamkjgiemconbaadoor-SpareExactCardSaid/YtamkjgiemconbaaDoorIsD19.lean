import Derived.Test.YtamkjgiemconbaaDoorFVGD19
import Derived.WalkKit
import Derived.LaidEql
import Derived.Stop.Asserts
import Derived.RowKitTokens
set_option linter.unusedSimpArgs false
set_option maxRecDepth 100000
open Go
namespace Go.Proofs.YtamkjgiemconbaaDoor.D19
open Go.RowKit Go.Extern.Stop Go.Stop Go.Extern
theorem isTypeOf (v : Value) (w : World) : (Extern.ReflectliteType.typeOf #[.iface 215 v]).run Tryd.prog w = .ok (.iface 145 (.agg #[.pointer (some ⟨14,215,none⟩)])) w:=by kernel_rfl
theorem isComparable (w : World) : ((Extern.ReflectliteType.method fun t => do Extern.Rtype.noPackHeld "Comparable" t; (fun a => Value.bool a.comparable) <$> typeInfo t) #[.agg #[.pointer (some ⟨14, 215, none⟩)]]).run Tryd.prog w = .ok (.bool true) w := by kernel_rfl
theorem isMethodComparable (v : Value) (w : World) : (Go.method 351 145 v "Comparable").run Tryd.prog w = .ok (158, v) w := by kernel_rfl
theorem isComp : (Tryd.prog.info? 215).map (·.comparable) = some true:=by kernel_rfl
theorem isSize : (Tryd.prog.info? 239).map (·.size) = some 1:=by kernel_rfl
theorem noIsE (v : Value) (xT : TypeId) (w : World) : (Instr.typeAssert (.iface 215 v) xT 147 true).run Tryd.prog w = .ok (.tuple #[.nilIface,.bool false]) w:=run_typeAssert_lacksB Tryd.underlying147 (by kernel_rfl) (by kernel_rfl) v xT w
theorem noUnwrapE (v : Value) (xT : TypeId) (w : World) : (Instr.typeAssert (.iface 215 v) xT 150 true).run Tryd.prog w = .ok (.tuple #[.nilIface,.bool false]) w:=run_typeAssert_lacksB Tryd.underlying150 (by kernel_rfl) (by kernel_rfl) v xT w
theorem noUnwrapsE (v : Value) (xT : TypeId) (w : World) : (Instr.typeAssert (.iface 215 v) xT 152 true).run Tryd.prog w = .ok (.tuple #[.nilIface,.bool false]) w:=run_typeAssert_lacksB Tryd.underlying152 (by kernel_rfl) (by kernel_rfl) v xT w
set_option maxRecDepth 100000 in
theorem is_same (a : Addr) (w : World) :
    Calls Tryd.prog 26 #[.iface 215 (.pointer (some a)),.iface 215 (.pointer (some a))] w fun e w' =>e = .returned (.bool true) ∧ w' = w:=by
  obtain ⟨i,hi,hcmp⟩:=Option.map_eq_some_iff.1 isComp
  obtain ⟨j,hj,hjs⟩:=Option.map_eq_some_iff.1 isSize
  have h8:=@run_callFunc_extern Tryd.prog 60 _ Extern.ReflectliteType.typeOf Tryd.func60 (by kernel_rfl) (by kernel_rfl) (by kernel_rfl) (by kernel_rfl)
  have h32 := @run_callFunc_extern Tryd.prog 158 _ (Extern.ReflectliteType.method fun t => do Extern.Rtype.noPackHeld "Comparable" t; pure (.bool (← typeInfo t).comparable)) Tryd.func158 (by kernel_rfl) (by kernel_rfl) (by kernel_rfl) (by kernel_rfl)
  have tT:=isTypeOf
  have cT:=isComparable
  have mR:=isMethodComparable
  have heq:=run_eql_iface_ptr_same (P:=Tryd.prog) w a Tryd.underlying40 Tryd.underlying215 hi hcmp hj
  go_enter Tryd.func26,Tryd.ntmps26
  go_wp2
  refine wp_loop_rounds 1 ?_
  rw [rounds_succ]
  go_wp2
  go_ret
  exact ⟨rfl,rfl⟩
set_option maxRecDepth 100000 in
theorem is_nil (b : Addr) (w : World) :
    Calls Tryd.prog 26 #[.nilIface,.iface 215 (.pointer (some b))] w fun e w' =>e = .returned (.bool false) ∧ w' = w:=by
  have hn:=run_eql_iface_nil_left (P:=Tryd.prog) w 215 (.pointer (some b)) Tryd.underlying40
  go_enter Tryd.func26,Tryd.ntmps26
  go_wp2
  go_ret
  exact ⟨rfl,rfl⟩
set_option maxRecDepth 100000 in
theorem is_other (a b : Addr) (ca cb : Array Value) (ta tb : TypeId) (w : World) (hne : a ≠ b) (ha : w.heap[a.block]? = some (.cells ca ta (0,0))) (hb : w.heap[b.block]? = some (.cells cb tb (0,0))) :
    Calls Tryd.prog 26 #[.iface 215 (.pointer (some a)),.iface 215 (.pointer (some b))] w fun e w' =>e = .returned (.bool false) ∧ w' = w:=by
  obtain ⟨i,hi,hcmp⟩:=Option.map_eq_some_iff.1 isComp
  obtain ⟨j,hj,hjs⟩:=Option.map_eq_some_iff.1 isSize
  have h8:=@run_callFunc_extern Tryd.prog 60 _ Extern.ReflectliteType.typeOf Tryd.func60 (by kernel_rfl) (by kernel_rfl) (by kernel_rfl) (by kernel_rfl)
  have h32 := @run_callFunc_extern Tryd.prog 158 _ (Extern.ReflectliteType.method fun t => do Extern.Rtype.noPackHeld "Comparable" t; pure (.bool (← typeInfo t).comparable)) Tryd.func158 (by kernel_rfl) (by kernel_rfl) (by kernel_rfl) (by kernel_rfl)
  have tT:=isTypeOf
  have cT:=isComparable
  have mR:=isMethodComparable
  have nE:=noIsE
  have uE:=noUnwrapE
  have vE:=noUnwrapsE
  have heq:=run_eql_iface_ptr_other (P:=Tryd.prog) w Tryd.underlying40 Tryd.underlying215 hi hcmp hj (by rw [hjs]; decide) hne ha hb
  go_enter Tryd.func26,Tryd.ntmps26
  go_wp2
  refine wp_loop_rounds 1 ?_
  rw [rounds_succ]
  go_wp2
  go_ret
  exact ⟨rfl,rfl⟩
end Go.Proofs.YtamkjgiemconbaaDoor.D19
