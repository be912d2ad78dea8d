import Derived.Test.YtkbjfhkhbcgkgaaDoorFVecB33m
open Go AH
namespace Go.Proofs.YtkbjfhkhbcgkgaaDoor.B33m
-- quitrent/vec.Scale
def F21 : AFun := ⟨20, 2, [.cell 4 true 4, .tmp 5],
  (.seq
   (.reg [
     ⟨(some 2), none, .box 4 (.t 0)⟩,
     ⟨(some 3), none, .box 1 (.t 1)⟩,
     ⟨(some 4), none, .box 4 (.c (.agg [(.int .i64 0), (.int .i64 0), (.int .i64 0), (.int .i64 0)]))⟩,
     ⟨(some 5), none, .mov (.c .nili)⟩])
   (.seq
    (.seq
     (.reg [
       ⟨(some 6), none, .load false 1 (.t 3)⟩,
       ⟨(some 7), none, .ibin .lss (.t 6) (.c (.int .i64 0))⟩,
       ⟨(some 8), none, .mov (.t 7)⟩,
       ⟨(some 9), (some (8, false)), .load false 1 (.t 3)⟩,
       ⟨(some 10), (some (8, false)), .ibin .gtr (.t 9) (.c (.int .i64 16))⟩,
       ⟨(some 11), none, .pick (.t 8) (.c (.bool true)) (.t 10)⟩])
     (.cond (.t 11)
      (.seq
       (.draw [
         ⟨(some 12), none, .build [(.int .i64 0), (.int .i64 0), (.int .i64 0), (.int .i64 0)] []⟩,
         ⟨(some 13), none, .loadg 0⟩,
         ⟨none, none, .store 4 (.t 4) (.t 12)⟩,
         ⟨(some 5), none, .mov (.t 13)⟩]
         [[], [], [0], [1, 2, 0]])
       .ret)
      .skip))
    (.seq
     (.reg [
       ⟨(some 14), none, .load true 4 (.t 2)⟩,
       ⟨(some 15), none, .build [(.int .i64 0), (.int .i64 0), (.int .i64 0), (.int .i64 0)] []⟩,
       ⟨(some 16), none, .mkfn 52 [] [(.t 3)]⟩,
       ⟨(some 17), none, .call (.c (.fn 48 [] [])) [(.t 14), (.t 15), (.t 16)]⟩,
       ⟨(some 18), none, .extract (.t 17) 0⟩,
       ⟨(some 19), none, .extract (.t 17) 1⟩,
       ⟨none, none, .store 4 (.t 4) (.t 18)⟩,
       ⟨(some 5), none, .mov (.t 19)⟩])
     .ret)))⟩

-- quitrent/vec.Scale$1
def F52 : AFun := ⟨9, 3, [.tmp 5],
  (.seq
   (.reg [
     ⟨(some 5), none, .mov (.c (.int .i64 0))⟩])
   (.seq
    (.reg [
      ⟨(some 6), none, .mov (.t 0)⟩,
      ⟨(some 7), none, .load false 1 (.t 2)⟩,
      ⟨(some 8), none, .ibin .mul (.t 6) (.t 7)⟩,
      ⟨(some 5), none, .mov (.t 8)⟩])
    .ret))⟩

theorem c21 : cFun Tryd.prog [0, 3] Tryd.f21 = some F21 := by kernel_rfl
theorem c52 : cFun Tryd.prog [0, 3] Tryd.f52 = some F52 := by kernel_rfl
end Go.Proofs.YtkbjfhkhbcgkgaaDoor.B33m
