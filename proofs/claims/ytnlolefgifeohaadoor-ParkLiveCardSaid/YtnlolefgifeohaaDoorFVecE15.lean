import Derived.Test.YtnlolefgifeohaaDoorFVGE15
open Go AH
namespace Go.Proofs.YtnlolefgifeohaaDoor.E15
-- quitrent/vec.made
def F87 : AFun := ⟨40, 3, [.cell 6 true 4, .tmp 7],
  (.seq
   (.reg [
     ⟨(some 3), none, .box 4 (.t 0)⟩,
     ⟨(some 4), none, .box 4 (.t 1)⟩,
     ⟨(some 6), none, .box 4 (.c (.agg [(.int .i64 0), (.int .i64 0), (.int .i64 0), (.int .i64 0)]))⟩,
     ⟨(some 7), none, .mov (.c .nili)⟩])
   (.seq
    (.seq
     (.reg [
       ⟨(some 10), none, .load true 4 (.t 3)⟩,
       ⟨(some 11), none, .call (.c (.fn 59 [] [])) [(.t 10)]⟩,
       ⟨(some 12), none, .un .not (.t 11)⟩,
       ⟨(some 13), none, .mov (.t 12)⟩,
       ⟨(some 14), (some (13, false)), .load true 4 (.t 4)⟩,
       ⟨(some 15), (some (13, false)), .call (.c (.fn 59 [] [])) [(.t 14)]⟩,
       ⟨(some 16), (some (13, false)), .un .not (.t 15)⟩,
       ⟨(some 17), none, .pick (.t 13) (.c (.bool true)) (.t 16)⟩])
     (.cond (.t 17)
      (.seq
       (.draw [
         ⟨(some 18), none, .build [(.int .i64 0), (.int .i64 0), (.int .i64 0), (.int .i64 0)] []⟩,
         ⟨(some 19), none, .loadg 2⟩,
         ⟨none, none, .store 4 (.t 6) (.t 18)⟩,
         ⟨(some 7), none, .mov (.t 19)⟩]
         [[], [], [0], [1, 2, 0]])
       .ret)
      .skip))
    (.seq
     (.seq
      (.reg [
        ⟨(some 20), none, .load true 4 (.t 4)⟩,
        ⟨(some 21), none, .mov (.c (.int .i64 0))⟩])
      (.block 0
       (.loop
        (.seq
         (.reg [
           ⟨(some 22), none, .ibin .lss (.t 21) (.c (.int .i64 4))⟩])
         (.seq
          (.cond (.t 22)
           .skip
           (.exit 0))
          (.seq
           (.block 1
            (.seq
             (.reg [
               ⟨(some 23), none, .mov (.t 21)⟩,
               ⟨(some 24), none, .idxArr 4 false 1 (.t 20) (.t 21)⟩,
               ⟨(some 8), none, .mov (.t 23)⟩,
               ⟨(some 9), none, .mov (.t 24)⟩])
             (.reg [
               ⟨(some 25), none, .mov (.t 8)⟩,
               ⟨(some 26), none, .mov (.t 2)⟩,
               ⟨(some 27), none, .mov (.t 8)⟩,
               ⟨(some 28), none, .iaddrArr 4 1 (.t 3) (.t 27)⟩,
               ⟨(some 29), none, .load false 1 (.t 28)⟩,
               ⟨(some 30), none, .mov (.t 9)⟩,
               ⟨(some 31), none, .call (.t 26) [(.t 29), (.t 30)]⟩,
               ⟨(some 32), none, .iaddrArr 4 1 (.t 3) (.t 25)⟩,
               ⟨none, none, .store 1 (.t 32) (.t 31)⟩])))
           (.reg [
             ⟨(some 33), none, .ibin .add (.t 21) (.c (.int .i64 1))⟩,
             ⟨(some 21), none, .mov (.t 33)⟩])))))))
     (.seq
      (.seq
       (.reg [
         ⟨(some 34), none, .load true 4 (.t 3)⟩,
         ⟨(some 35), none, .call (.c (.fn 59 [] [])) [(.t 34)]⟩,
         ⟨(some 36), none, .un .not (.t 35)⟩])
       (.cond (.t 36)
        (.seq
         (.draw [
           ⟨(some 37), none, .build [(.int .i64 0), (.int .i64 0), (.int .i64 0), (.int .i64 0)] []⟩,
           ⟨(some 38), none, .loadg 0⟩,
           ⟨none, none, .store 4 (.t 6) (.t 37)⟩,
           ⟨(some 7), none, .mov (.t 38)⟩]
           [[], [], [0], [1, 2, 0]])
         .ret)
        .skip))
      (.seq
       (.reg [
         ⟨(some 39), none, .load true 4 (.t 3)⟩,
         ⟨none, none, .store 4 (.t 6) (.t 39)⟩,
         ⟨(some 7), none, .mov (.c .nili)⟩])
       .ret)))))⟩

-- quitrent/vec.Add$1
def F88 : AFun := ⟨8, 2, [.tmp 4],
  (.seq
   (.reg [
     ⟨(some 4), none, .mov (.c (.int .i64 0))⟩])
   (.seq
    (.reg [
      ⟨(some 5), none, .mov (.t 0)⟩,
      ⟨(some 6), none, .mov (.t 1)⟩,
      ⟨(some 7), none, .ibin .add (.t 5) (.t 6)⟩,
      ⟨(some 4), none, .mov (.t 7)⟩])
    .ret))⟩

-- quitrent/vec.Add
def F62 : AFun := ⟨11, 2, [.cell 4 true 4, .tmp 5],
  (.seq
   (.reg [
     ⟨(some 2), none, .box 4 (.t 0)⟩,
     ⟨(some 3), none, .box 4 (.t 1)⟩,
     ⟨(some 4), none, .box 4 (.c (.agg [(.int .i64 0), (.int .i64 0), (.int .i64 0), (.int .i64 0)]))⟩,
     ⟨(some 5), none, .mov (.c .nili)⟩])
   (.seq
    (.reg [
      ⟨(some 6), none, .load true 4 (.t 2)⟩,
      ⟨(some 7), none, .load true 4 (.t 3)⟩,
      ⟨(some 8), none, .call (.c (.fn 87 [] [])) [(.t 6), (.t 7), (.c (.fn 88 [] []))]⟩,
      ⟨(some 9), none, .extract (.t 8) 0⟩,
      ⟨(some 10), none, .extract (.t 8) 1⟩,
      ⟨none, none, .store 4 (.t 4) (.t 9)⟩,
      ⟨(some 5), none, .mov (.t 10)⟩])
    .ret))⟩

-- quitrent/vec.Fits
def F91 : AFun := ⟨18, 2, [.tmp 4],
  (.seq
   (.reg [
     ⟨(some 2), none, .box 4 (.t 0)⟩,
     ⟨(some 3), none, .box 4 (.t 1)⟩,
     ⟨(some 4), none, .mov (.c (.bool false))⟩])
   (.seq
    (.seq
     (.reg [
       ⟨(some 7), none, .load true 4 (.t 2)⟩,
       ⟨(some 8), none, .mov (.c (.int .i64 0))⟩])
     (.block 0
      (.loop
       (.seq
        (.reg [
          ⟨(some 9), none, .ibin .lss (.t 8) (.c (.int .i64 4))⟩])
        (.seq
         (.cond (.t 9)
          .skip
          (.exit 0))
         (.seq
          (.block 1
           (.seq
            (.reg [
              ⟨(some 10), none, .mov (.t 8)⟩,
              ⟨(some 11), none, .idxArr 4 false 1 (.t 7) (.t 8)⟩,
              ⟨(some 5), none, .mov (.t 10)⟩,
              ⟨(some 6), none, .mov (.t 11)⟩])
            (.seq
             (.reg [
               ⟨(some 12), none, .mov (.t 6)⟩,
               ⟨(some 13), none, .mov (.t 5)⟩,
               ⟨(some 14), none, .iaddrArr 4 1 (.t 3) (.t 13)⟩,
               ⟨(some 15), none, .load false 1 (.t 14)⟩,
               ⟨(some 16), none, .ibin .gtr (.t 12) (.t 15)⟩])
             (.cond (.t 16)
              (.seq
               (.reg [
                 ⟨(some 4), none, .mov (.c (.bool false))⟩])
               .ret)
              .skip))))
          (.reg [
            ⟨(some 17), none, .ibin .add (.t 8) (.c (.int .i64 1))⟩,
            ⟨(some 8), none, .mov (.t 17)⟩])))))))
    (.seq
     (.reg [
       ⟨(some 4), none, .mov (.c (.bool true))⟩])
     .ret)))⟩

-- quitrent/quitrentref01.Add
def F65 : AFun := ⟨36, 2, [.cell 4 true 4, .tmp 5],
  (.seq
   (.reg [
     ⟨(some 2), none, .box 4 (.t 0)⟩,
     ⟨(some 3), none, .box 4 (.t 1)⟩,
     ⟨(some 4), none, .box 4 (.c (.agg [(.int .i64 0), (.int .i64 0), (.int .i64 0), (.int .i64 0)]))⟩,
     ⟨(some 5), none, .mov (.c (.int .i64 0))⟩])
   (.seq
    (.seq
     (.reg [
       ⟨(some 8), none, .load true 4 (.t 2)⟩,
       ⟨(some 9), none, .call (.c (.fn 63 [] [])) [(.t 8)]⟩,
       ⟨(some 10), none, .un .not (.t 9)⟩,
       ⟨(some 11), none, .mov (.t 10)⟩,
       ⟨(some 12), (some (11, false)), .load true 4 (.t 3)⟩,
       ⟨(some 13), (some (11, false)), .call (.c (.fn 63 [] [])) [(.t 12)]⟩,
       ⟨(some 14), (some (11, false)), .un .not (.t 13)⟩,
       ⟨(some 15), none, .pick (.t 11) (.c (.bool true)) (.t 14)⟩])
     (.cond (.t 15)
      (.seq
       (.reg [
         ⟨(some 16), none, .build [(.int .i64 0), (.int .i64 0), (.int .i64 0), (.int .i64 0)] []⟩,
         ⟨none, none, .store 4 (.t 4) (.t 16)⟩,
         ⟨(some 5), none, .mov (.c (.int .i64 1))⟩])
       .ret)
      .skip))
    (.seq
     (.reg [
       ⟨(some 17), none, .build [(.int .i64 0), (.int .i64 0), (.int .i64 0), (.int .i64 0)] []⟩,
       ⟨(some 6), none, .box 4 (.c (.agg [(.int .i64 0), (.int .i64 0), (.int .i64 0), (.int .i64 0)]))⟩,
       ⟨none, none, .store 4 (.t 6) (.t 17)⟩])
     (.seq
      (.seq
       (.reg [
         ⟨(some 7), none, .mov (.c (.int .i64 0))⟩])
       (.block 0
        (.loop
         (.seq
          (.seq
           (.reg [
             ⟨(some 18), none, .mov (.t 7)⟩,
             ⟨(some 19), none, .ibin .lss (.t 18) (.c (.int .i64 4))⟩])
           (.cond (.t 19)
            .skip
            (.exit 0)))
          (.seq
           (.block 1
            (.draw [
              ⟨(some 22), none, .mov (.t 7)⟩,
              ⟨(some 23), none, .mov (.t 7)⟩,
              ⟨(some 24), none, .iaddrArr 4 1 (.t 2) (.t 23)⟩,
              ⟨(some 25), none, .load false 1 (.t 24)⟩,
              ⟨(some 26), none, .mov (.t 7)⟩,
              ⟨(some 27), none, .iaddrArr 4 1 (.t 3) (.t 26)⟩,
              ⟨(some 28), none, .load false 1 (.t 27)⟩,
              ⟨(some 29), none, .ibin .add (.t 25) (.t 28)⟩,
              ⟨(some 30), none, .iaddrArr 4 1 (.t 6) (.t 22)⟩,
              ⟨none, none, .store 1 (.t 30) (.t 29)⟩]
              [[], [], [1], [2, 1], [], [4], [5, 4], [3, 6, 2, 1, 5, 4], [0, 1, 2, 3, 4, 5, 6, 7], [8, 7, 0, 1, 2, 3, 4, 5, 6]]))
           (.reg [
             ⟨(some 20), none, .mov (.t 7)⟩,
             ⟨(some 21), none, .ibin .add (.t 20) (.c (.int .i64 1))⟩,
             ⟨(some 7), none, .mov (.t 21)⟩]))))))
      (.seq
       (.seq
        (.reg [
          ⟨(some 31), none, .load true 4 (.t 6)⟩,
          ⟨(some 32), none, .call (.c (.fn 63 [] [])) [(.t 31)]⟩,
          ⟨(some 33), none, .un .not (.t 32)⟩])
        (.cond (.t 33)
         (.seq
          (.reg [
            ⟨(some 34), none, .build [(.int .i64 0), (.int .i64 0), (.int .i64 0), (.int .i64 0)] []⟩,
            ⟨none, none, .store 4 (.t 4) (.t 34)⟩,
            ⟨(some 5), none, .mov (.c (.int .i64 4))⟩])
          .ret)
         .skip))
       (.seq
        (.reg [
          ⟨(some 35), none, .load true 4 (.t 6)⟩,
          ⟨none, none, .store 4 (.t 4) (.t 35)⟩,
          ⟨(some 5), none, .mov (.c (.int .i64 0))⟩])
        .ret))))))⟩

theorem c87 : cFun Tryd.prog [2, 3, 4, 0, 5, 6, 7, 8, 9, 10, 11, 12, 1, 13] Tryd.f87 = some F87 := by kernel_rfl
theorem c88 : cFun Tryd.prog [2, 3, 4, 0, 5, 6, 7, 8, 9, 10, 11, 12, 1, 13] Tryd.f88 = some F88 := by kernel_rfl
theorem c62 : cFun Tryd.prog [2, 3, 4, 0, 5, 6, 7, 8, 9, 10, 11, 12, 1, 13] Tryd.f62 = some F62 := by kernel_rfl
theorem c91 : cFun Tryd.prog [2, 3, 4, 0, 5, 6, 7, 8, 9, 10, 11, 12, 1, 13] Tryd.f91 = some F91 := by kernel_rfl
theorem c65 : cFun Tryd.prog [2, 3, 4, 0, 5, 6, 7, 8, 9, 10, 11, 12, 1, 13] Tryd.f65 = some F65 := by kernel_rfl
end Go.Proofs.YtnlolefgifeohaaDoor.E15
