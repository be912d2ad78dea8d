import Derived.Test.YtkbjfhkhbcgkgaaDoorAHd
import Derived.Test.YtkbjfhkhbcgkgaaDoorChecked
import Derived.KernelRfl
import Derived.Laws.Bits64
open Go AH
namespace Go.Proofs.YtkbjfhkhbcgkgaaDoor.B33
noncomputable def S0 : AH.Sys:=⟨Tryd.prog,[0],120,[]⟩
theorem mixed : Tryd.prog.follows .mixedOrders = true:=by kernel_rfl
theorem errs0 : S0.errs ≠ []:=by simp [S0]
-- quitrent/vec.Good$1
def F47 : AFun:=⟨9,1,[.tmp 2],(.seq (.reg [⟨some 2,none,.mov (.c (.bool false))⟩]) (.seq (.reg [⟨some 3,none,.mov (.t 0)⟩,⟨some 4,none,.ibin .lss (.t 3) (.c (.int .i64 0))⟩,⟨some 5,none,.mov (.t 4)⟩,⟨some 6,(some (5,false)),.mov (.t 0)⟩,⟨some 7,(some (5,false)),.ibin .gtr (.t 6) (.c (.int .i64 1099511627776))⟩,⟨some 8,none,.pick (.t 5) (.c (.bool true)) (.t 7)⟩,⟨some 2,none,.mov (.t 8)⟩]) .ret))⟩
-- slices.IndexFunc[[]int,int]
def F66 : AFun:=⟨19,2,[.tmp 4],(.seq (.reg [⟨some 4,none,.mov (.c (.int .i64 0))⟩]) (.seq (.seq (.reg [⟨some 6,none,.mov (.t 0)⟩,⟨some 7,none,.len .sl (.t 6)⟩,⟨some 8,none,.mov (.c (.int .i64 0))⟩]) (.block 0 (.loop (.seq (.reg [⟨some 9,none,.ibin .lss (.t 8) (.t 7)⟩]) (.seq (.cond (.t 9) .skip (.exit 0)) (.seq (.block 1 (.seq (.reg [⟨some 10,none,.mov (.t 8)⟩,⟨some 5,none,.mov (.t 10)⟩]) (.seq (.reg [⟨some 11,none,.mov (.t 1)⟩,⟨some 12,none,.mov (.t 0)⟩,⟨some 13,none,.mov (.t 5)⟩,⟨some 14,none,.iaddrSl 1 (.t 12) (.t 13)⟩,⟨some 15,none,.load false 1 (.t 14)⟩,⟨some 16,none,.call (.t 11) [(.t 15)]⟩]) (.cond (.t 16) (.seq (.reg [⟨some 17,none,.mov (.t 5)⟩,⟨some 4,none,.mov (.t 17)⟩]) .ret) .skip)))) (.reg [⟨some 18,none,.ibin .add (.t 8) (.c (.int .i64 1))⟩,⟨some 8,none,.mov (.t 18)⟩]))))))) (.seq (.reg [⟨some 4,none,.mov (.c (.int .i64 (-1)))⟩]) .ret)))⟩
-- slices.ContainsFunc[[]int,int]
def F46 : AFun:=⟨9,2,[.tmp 4],(.seq (.reg [⟨some 4,none,.mov (.c (.bool false))⟩]) (.seq (.reg [⟨some 5,none,.mov (.t 0)⟩,⟨some 6,none,.mov (.t 1)⟩,⟨some 7,none,.call (.c (.fn 66 [] [])) [(.t 5),(.t 6)]⟩,⟨some 8,none,.ibin .geq (.t 7) (.c (.int .i64 0))⟩,⟨some 4,none,.mov (.t 8)⟩]) .ret))⟩
-- quitrent/vec.Good
def F16 : AFun:=⟨6,1,[.tmp 2],(.seq (.reg [⟨some 1,none,.box 4 (.t 0)⟩,⟨some 2,none,.mov (.c (.bool false))⟩]) (.seq (.reg [⟨some 3,none,.sliceArr 4 1 (.t 1) none none⟩,⟨some 4,none,.call (.c (.fn 46 [] [])) [(.t 3),(.c (.fn 47 [] []))]⟩,⟨some 5,none,.un .not (.t 4)⟩,⟨some 2,none,.mov (.t 5)⟩]) .ret))⟩
-- cmp.Compare[int]
def F54 : AFun:=⟨20,2,[.tmp 4],(.seq (.reg [⟨some 4,none,.mov (.c (.int .i64 0))⟩]) (.seq (.reg [⟨some 7,none,.mov (.t 0)⟩,⟨some 8,none,.call (.c (.fn 67 [] [])) [(.t 7)]⟩,⟨some 5,none,.mov (.t 8)⟩]) (.seq (.reg [⟨some 9,none,.mov (.t 1)⟩,⟨some 10,none,.call (.c (.fn 67 [] [])) [(.t 9)]⟩,⟨some 6,none,.mov (.t 10)⟩]) (.seq (.seq (.reg [⟨some 11,none,.mov (.t 5)⟩]) (.cond (.t 11) (.seq (.seq (.reg [⟨some 12,none,.mov (.t 6)⟩]) (.cond (.t 12) (.seq (.reg [⟨some 4,none,.mov (.c (.int .i64 0))⟩]) .ret) .skip)) (.seq (.reg [⟨some 4,none,.mov (.c (.int .i64 (-1)))⟩]) .ret)) .skip)) (.seq (.seq (.reg [⟨some 13,none,.mov (.t 6)⟩]) (.cond (.t 13) (.seq (.reg [⟨some 4,none,.mov (.c (.int .i64 1))⟩]) .ret) .skip)) (.seq (.seq (.reg [⟨some 14,none,.mov (.t 0)⟩,⟨some 15,none,.mov (.t 1)⟩,⟨some 16,none,.ibin .lss (.t 14) (.t 15)⟩]) (.cond (.t 16) (.seq (.reg [⟨some 4,none,.mov (.c (.int .i64 (-1)))⟩]) .ret) .skip)) (.seq (.seq (.reg [⟨some 17,none,.mov (.t 0)⟩,⟨some 18,none,.mov (.t 1)⟩,⟨some 19,none,.ibin .gtr (.t 17) (.t 18)⟩]) (.cond (.t 19) (.seq (.reg [⟨some 4,none,.mov (.c (.int .i64 1))⟩]) .ret) .skip)) (.seq (.reg [⟨some 4,none,.mov (.c (.int .i64 0))⟩]) .ret))))))))⟩
-- cmp.isNaN[int]
def F67 : AFun:=⟨6,1,[.tmp 2],(.seq (.reg [⟨some 2,none,.mov (.c (.bool false))⟩]) (.seq (.reg [⟨some 3,none,.mov (.t 0)⟩,⟨some 4,none,.mov (.t 0)⟩,⟨some 5,none,.ibin .neq (.t 3) (.t 4)⟩,⟨some 2,none,.mov (.t 5)⟩]) .ret))⟩
-- quitrent/quitrentref01.Good
def F25 : AFun:=⟨18,1,[.tmp 2],(.seq (.reg [⟨some 1,none,.box 4 (.t 0)⟩,⟨some 2,none,.mov (.c (.bool false))⟩]) (.seq (.seq (.reg [⟨some 3,none,.mov (.c (.int .i64 0))⟩]) (.block 0 (.loop (.seq (.seq (.reg [⟨some 4,none,.mov (.t 3)⟩,⟨some 5,none,.ibin .lss (.t 4) (.c (.int .i64 4))⟩]) (.cond (.t 5) .skip (.exit 0))) (.seq (.block 1 (.seq (.reg [⟨some 8,none,.mov (.t 3)⟩,⟨some 9,none,.iaddrArr 4 1 (.t 1) (.t 8)⟩,⟨some 10,none,.load false 1 (.t 9)⟩,⟨some 11,none,.ibin .lss (.t 10) (.c (.int .i64 0))⟩,⟨some 12,none,.mov (.t 11)⟩,⟨some 13,(some (12,false)),.mov (.t 3)⟩,⟨some 14,(some (12,false)),.iaddrArr 4 1 (.t 1) (.t 13)⟩,⟨some 15,(some (12,false)),.load false 1 (.t 14)⟩,⟨some 16,(some (12,false)),.ibin .gtr (.t 15) (.c (.int .i64 1099511627776))⟩,⟨some 17,none,.pick (.t 12) (.c (.bool true)) (.t 16)⟩]) (.cond (.t 17) (.seq (.reg [⟨some 2,none,.mov (.c (.bool false))⟩]) .ret) .skip))) (.reg [⟨some 6,none,.mov (.t 3)⟩,⟨some 7,none,.ibin .add (.t 6) (.c (.int .i64 1))⟩,⟨some 3,none,.mov (.t 7)⟩])))))) (.seq (.reg [⟨some 2,none,.mov (.c (.bool true))⟩]) .ret)))⟩
theorem c47 : cFun Tryd.prog [0] Tryd.f47 = some F47:=by kernel_rfl
theorem c66 : cFun Tryd.prog [0] Tryd.f66 = some F66:=by kernel_rfl
theorem c46 : cFun Tryd.prog [0] Tryd.f46 = some F46:=by kernel_rfl
theorem c16 : cFun Tryd.prog [0] Tryd.f16 = some F16:=by kernel_rfl
theorem c54 : cFun Tryd.prog [0] Tryd.f54 = some F54:=by kernel_rfl
theorem c67 : cFun Tryd.prog [0] Tryd.f67 = some F67:=by kernel_rfl
theorem c25 : cFun Tryd.prog [0] Tryd.f25 = some F25:=by kernel_rfl
end Go.Proofs.YtkbjfhkhbcgkgaaDoor.B33
