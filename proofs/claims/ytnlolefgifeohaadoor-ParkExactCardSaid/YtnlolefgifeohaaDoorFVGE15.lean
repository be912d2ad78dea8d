import Derived.Test.YtnlolefgifeohaaDoorAHd
import Derived.Test.YtnlolefgifeohaaDoorChecked
import Derived.KernelRfl
import Derived.Laws.Bits64
open Go AH
namespace Go.Proofs.YtnlolefgifeohaaDoor.E15
noncomputable def S0 : AH.Sys:=⟨Tryd.prog,[2,3,4,0,5,6,7,8,9,10,11,12,1,13],192,[]⟩
theorem mixed : Tryd.prog.follows .mixedOrders = true:=by kernel_rfl
theorem errs0 : S0.errs ≠ []:=by simp [S0]
-- quitrent/vec.Good$1
def F86 : AFun:=⟨9,1,[.tmp 2],(.seq (.reg [⟨some 2,none,.mov (.c (.bool false))⟩]) (.seq (.reg [⟨some 3,none,.mov (.t 0)⟩,⟨some 4,none,.ibin .lss (.t 3) (.c (.int .i64 0))⟩,⟨some 5,none,.mov (.t 4)⟩,⟨some 6,(some (5,false)),.mov (.t 0)⟩,⟨some 7,(some (5,false)),.ibin .gtr (.t 6) (.c (.int .i64 1099511627776))⟩,⟨some 8,none,.pick (.t 5) (.c (.bool true)) (.t 7)⟩,⟨some 2,none,.mov (.t 8)⟩]) .ret))⟩
-- slices.IndexFunc[[]int,int]
def F101 : AFun:=⟨19,2,[.tmp 4],(.seq (.reg [⟨some 4,none,.mov (.c (.int .i64 0))⟩]) (.seq (.seq (.reg [⟨some 6,none,.mov (.t 0)⟩,⟨some 7,none,.len .sl (.t 6)⟩,⟨some 8,none,.mov (.c (.int .i64 0))⟩]) (.block 0 (.loop (.seq (.reg [⟨some 9,none,.ibin .lss (.t 8) (.t 7)⟩]) (.seq (.cond (.t 9) .skip (.exit 0)) (.seq (.block 1 (.seq (.reg [⟨some 10,none,.mov (.t 8)⟩,⟨some 5,none,.mov (.t 10)⟩]) (.seq (.reg [⟨some 11,none,.mov (.t 1)⟩,⟨some 12,none,.mov (.t 0)⟩,⟨some 13,none,.mov (.t 5)⟩,⟨some 14,none,.iaddrSl 1 (.t 12) (.t 13)⟩,⟨some 15,none,.load false 1 (.t 14)⟩,⟨some 16,none,.call (.t 11) [(.t 15)]⟩]) (.cond (.t 16) (.seq (.reg [⟨some 17,none,.mov (.t 5)⟩,⟨some 4,none,.mov (.t 17)⟩]) .ret) .skip)))) (.reg [⟨some 18,none,.ibin .add (.t 8) (.c (.int .i64 1))⟩,⟨some 8,none,.mov (.t 18)⟩]))))))) (.seq (.reg [⟨some 4,none,.mov (.c (.int .i64 (-1)))⟩]) .ret)))⟩
-- slices.ContainsFunc[[]int,int]
def F85 : AFun:=⟨9,2,[.tmp 4],(.seq (.reg [⟨some 4,none,.mov (.c (.bool false))⟩]) (.seq (.reg [⟨some 5,none,.mov (.t 0)⟩,⟨some 6,none,.mov (.t 1)⟩,⟨some 7,none,.call (.c (.fn 101 [] [])) [(.t 5),(.t 6)]⟩,⟨some 8,none,.ibin .geq (.t 7) (.c (.int .i64 0))⟩,⟨some 4,none,.mov (.t 8)⟩]) .ret))⟩
-- quitrent/vec.Good
def F59 : AFun:=⟨6,1,[.tmp 2],(.seq (.reg [⟨some 1,none,.box 4 (.t 0)⟩,⟨some 2,none,.mov (.c (.bool false))⟩]) (.seq (.reg [⟨some 3,none,.sliceArr 4 1 (.t 1) none none⟩,⟨some 4,none,.call (.c (.fn 85 [] [])) [(.t 3),(.c (.fn 86 [] []))]⟩,⟨some 5,none,.un .not (.t 4)⟩,⟨some 2,none,.mov (.t 5)⟩]) .ret))⟩
-- cmp.Compare[int]
def F63 : AFun:=⟨18,1,[.tmp 2],(.seq (.reg [⟨some 1,none,.box 4 (.t 0)⟩,⟨some 2,none,.mov (.c (.bool false))⟩]) (.seq (.seq (.reg [⟨some 3,none,.mov (.c (.int .i64 0))⟩]) (.block 0 (.loop (.seq (.seq (.reg [⟨some 4,none,.mov (.t 3)⟩,⟨some 5,none,.ibin .lss (.t 4) (.c (.int .i64 4))⟩]) (.cond (.t 5) .skip (.exit 0))) (.seq (.block 1 (.seq (.reg [⟨some 8,none,.mov (.t 3)⟩,⟨some 9,none,.iaddrArr 4 1 (.t 1) (.t 8)⟩,⟨some 10,none,.load false 1 (.t 9)⟩,⟨some 11,none,.ibin .lss (.t 10) (.c (.int .i64 0))⟩,⟨some 12,none,.mov (.t 11)⟩,⟨some 13,(some (12,false)),.mov (.t 3)⟩,⟨some 14,(some (12,false)),.iaddrArr 4 1 (.t 1) (.t 13)⟩,⟨some 15,(some (12,false)),.load false 1 (.t 14)⟩,⟨some 16,(some (12,false)),.ibin .gtr (.t 15) (.c (.int .i64 1099511627776))⟩,⟨some 17,none,.pick (.t 12) (.c (.bool true)) (.t 16)⟩]) (.cond (.t 17) (.seq (.reg [⟨some 2,none,.mov (.c (.bool false))⟩]) .ret) .skip))) (.reg [⟨some 6,none,.mov (.t 3)⟩,⟨some 7,none,.ibin .add (.t 6) (.c (.int .i64 1))⟩,⟨some 3,none,.mov (.t 7)⟩])))))) (.seq (.reg [⟨some 2,none,.mov (.c (.bool true))⟩]) .ret)))⟩
theorem c86 : cFun Tryd.prog [2,3,4,0,5,6,7,8,9,10,11,12,1,13] Tryd.f86 = some F86:=by kernel_rfl
theorem c101 : cFun Tryd.prog [2,3,4,0,5,6,7,8,9,10,11,12,1,13] Tryd.f101 = some F101:=by kernel_rfl
theorem c85 : cFun Tryd.prog [2,3,4,0,5,6,7,8,9,10,11,12,1,13] Tryd.f85 = some F85:=by kernel_rfl
theorem c59 : cFun Tryd.prog [2,3,4,0,5,6,7,8,9,10,11,12,1,13] Tryd.f59 = some F59:=by kernel_rfl
theorem c63 : cFun Tryd.prog [2,3,4,0,5,6,7,8,9,10,11,12,1,13] Tryd.f63 = some F63:=by kernel_rfl
end Go.Proofs.YtnlolefgifeohaaDoor.E15
