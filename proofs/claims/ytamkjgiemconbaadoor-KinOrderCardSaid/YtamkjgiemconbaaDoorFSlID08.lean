import Derived.Test.YtamkjgiemconbaaDoorNumsD08
open Go AH
namespace Go.Proofs.YtamkjgiemconbaaDoor.D08
-- slices.Index[[]int,int]
def F77 : AFun := ⟨19, 2, [.tmp 4],
  (.seq
   (.reg [
     ⟨(some 4), none, .mov (.c (.int .i64 0))⟩])
   (.seq
    (.seq
     (.reg [
       ⟨(some 6), none, .mov (.t 0)⟩,
       ⟨(some 7), none, .len .sl (.t 6)⟩,
       ⟨(some 8), none, .mov (.c (.int .i64 0))⟩])
     (.block 0
      (.loop
       (.seq
        (.reg [
          ⟨(some 9), none, .ibin .lss (.t 8) (.t 7)⟩])
        (.seq
         (.cond (.t 9)
          .skip
          (.exit 0))
         (.seq
          (.block 1
           (.seq
            (.reg [
              ⟨(some 10), none, .mov (.t 8)⟩,
              ⟨(some 5), none, .mov (.t 10)⟩])
            (.seq
             (.reg [
               ⟨(some 11), none, .mov (.t 1)⟩,
               ⟨(some 12), none, .mov (.t 0)⟩,
               ⟨(some 13), none, .mov (.t 5)⟩,
               ⟨(some 14), none, .iaddrSl 1 (.t 12) (.t 13)⟩,
               ⟨(some 15), none, .load false 1 (.t 14)⟩,
               ⟨(some 16), none, .ibin .eql (.t 11) (.t 15)⟩])
             (.cond (.t 16)
              (.seq
               (.reg [
                 ⟨(some 17), none, .mov (.t 5)⟩,
                 ⟨(some 4), none, .mov (.t 17)⟩])
               .ret)
              .skip))))
          (.reg [
            ⟨(some 18), none, .ibin .add (.t 8) (.c (.int .i64 1))⟩,
            ⟨(some 8), none, .mov (.t 18)⟩])))))))
    (.seq
     (.reg [
       ⟨(some 4), none, .mov (.c (.int .i64 (-1)))⟩])
     .ret)))⟩

-- slices.Contains[[]int,int]
def F62 : AFun := ⟨9, 2, [.tmp 4],
  (.seq
   (.reg [
     ⟨(some 4), none, .mov (.c (.bool false))⟩])
   (.seq
    (.reg [
      ⟨(some 5), none, .mov (.t 0)⟩,
      ⟨(some 6), none, .mov (.t 1)⟩,
      ⟨(some 7), none, .call (.c (.fn 77 [] [])) [(.t 5), (.t 6)]⟩,
      ⟨(some 8), none, .ibin .geq (.t 7) (.c (.int .i64 0))⟩,
      ⟨(some 4), none, .mov (.t 8)⟩])
    .ret))⟩

-- slices.Reverse[[]int,int]
def F63 : AFun := ⟨28, 1, [],
  (.seq
   (.reg [
     ⟨(some 4), none, .mov (.t 0)⟩,
     ⟨(some 5), none, .len .sl (.t 4)⟩,
     ⟨(some 6), none, .ibin .sub (.t 5) (.c (.int .i64 1))⟩,
     ⟨(some 2), none, .mov (.c (.int .i64 0))⟩,
     ⟨(some 3), none, .mov (.t 6)⟩])
   (.block 0
    (.loop
     (.seq
      (.seq
       (.reg [
         ⟨(some 7), none, .mov (.t 2)⟩,
         ⟨(some 8), none, .mov (.t 3)⟩,
         ⟨(some 9), none, .ibin .lss (.t 7) (.t 8)⟩])
       (.cond (.t 9)
        .skip
        (.exit 0)))
      (.seq
       (.block 1
        (.draw [
          ⟨(some 14), none, .mov (.t 0)⟩,
          ⟨(some 15), none, .mov (.t 2)⟩,
          ⟨(some 16), none, .mov (.t 0)⟩,
          ⟨(some 17), none, .mov (.t 3)⟩,
          ⟨(some 18), none, .mov (.t 0)⟩,
          ⟨(some 19), none, .mov (.t 3)⟩,
          ⟨(some 20), none, .iaddrSl 1 (.t 18) (.t 19)⟩,
          ⟨(some 21), none, .load false 1 (.t 20)⟩,
          ⟨(some 22), none, .mov (.t 0)⟩,
          ⟨(some 23), none, .mov (.t 2)⟩,
          ⟨(some 24), none, .iaddrSl 1 (.t 22) (.t 23)⟩,
          ⟨(some 25), none, .load false 1 (.t 24)⟩,
          ⟨(some 26), none, .iaddrSl 1 (.t 14) (.t 15)⟩,
          ⟨none, none, .store 1 (.t 26) (.t 21)⟩,
          ⟨(some 27), none, .iaddrSl 1 (.t 16) (.t 17)⟩,
          ⟨none, none, .store 1 (.t 27) (.t 25)⟩]
          [[], [], [], [], [], [], [4, 5], [6, 4, 5], [], [], [8, 9], [10, 8, 9], [0, 1, 4, 5, 6, 7, 11, 10, 8, 9], [12, 7, 0, 1, 4, 5, 6, 11, 10, 8, 9], [2, 3, 0, 1, 4, 5, 6, 7, 8, 9, 10, 11, 12, 13], [14, 11, 13, 0, 1, 2, 3, 4, 5, 6, 7, 8, 9, 10, 12]]))
       (.reg [
         ⟨(some 10), none, .mov (.t 2)⟩,
         ⟨(some 11), none, .ibin .add (.t 10) (.c (.int .i64 1))⟩,
         ⟨(some 12), none, .mov (.t 3)⟩,
         ⟨(some 13), none, .ibin .sub (.t 12) (.c (.int .i64 1))⟩,
         ⟨(some 2), none, .mov (.t 11)⟩,
         ⟨(some 3), none, .mov (.t 13)⟩]))))))⟩

theorem c77 : cFun Tryd.prog [1, 0, 2, 3, 4, 5, 6, 7, 8, 9, 10, 11, 12, 13] Tryd.f77 = some F77 := by kernel_rfl
theorem c62 : cFun Tryd.prog [1, 0, 2, 3, 4, 5, 6, 7, 8, 9, 10, 11, 12, 13] Tryd.f62 = some F62 := by kernel_rfl
theorem c63 : cFun Tryd.prog [1, 0, 2, 3, 4, 5, 6, 7, 8, 9, 10, 11, 12, 13] Tryd.f63 = some F63 := by kernel_rfl
end Go.Proofs.YtamkjgiemconbaaDoor.D08
