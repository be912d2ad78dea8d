import Derived.Test.YtkbjfhkhbcgkgaaDoorFShB33m
import Derived.Test.YtkbjfhkhbcgkgaaDoorFScB33m
open Go AH
namespace Go.Proofs.YtkbjfhkhbcgkgaaDoor.B33m
-- quitrent/quitrentlaw33.ShareMore
def F9 : AFun := ⟨109, 3, [.tmp 6],
  (.seq
   (.reg [
     ⟨(some 3), none, .box 4 (.t 0)⟩,
     ⟨(some 4), none, .box 4 (.t 1)⟩,
     ⟨(some 5), none, .box 4 (.t 2)⟩,
     ⟨(some 6), none, .mov (.c (.bool false))⟩])
   (.seq
    (.seq
     (.reg [
       ⟨(some 19), none, .call (.c (.fn 29 [] [])) []⟩,
       ⟨(some 20), none, .un .not (.t 19)⟩])
     (.cond (.t 20)
      (.seq
       (.reg [
         ⟨(some 6), none, .mov (.c (.bool false))⟩])
       .ret)
      .skip))
    (.seq
     (.reg [
       ⟨(some 22), none, .load true 4 (.t 3)⟩,
       ⟨(some 23), none, .load true 4 (.t 4)⟩,
       ⟨(some 24), none, .call (.c (.fn 18 [] [])) [(.t 22), (.t 23)]⟩,
       ⟨(some 21), none, .mov (.t 24)⟩,
       ⟨(some 25), none, .extract (.t 21) 0⟩,
       ⟨(some 26), none, .extract (.t 21) 1⟩,
       ⟨(some 7), none, .box 4 (.c (.agg [(.int .i64 0), (.int .i64 0), (.int .i64 0), (.int .i64 0)]))⟩,
       ⟨none, none, .store 4 (.t 7) (.t 25)⟩,
       ⟨(some 8), none, .mov (.t 26)⟩])
     (.seq
      (.reg [
        ⟨(some 28), none, .load true 4 (.t 3)⟩,
        ⟨(some 29), none, .call (.c (.fn 21 [] [])) [(.t 28), (.c (.int .i64 2))]⟩,
        ⟨(some 27), none, .mov (.t 29)⟩,
        ⟨(some 30), none, .extract (.t 27) 0⟩,
        ⟨(some 31), none, .extract (.t 27) 1⟩,
        ⟨(some 9), none, .box 4 (.c (.agg [(.int .i64 0), (.int .i64 0), (.int .i64 0), (.int .i64 0)]))⟩,
        ⟨none, none, .store 4 (.t 9) (.t 30)⟩,
        ⟨(some 10), none, .mov (.t 31)⟩])
      (.seq
       (.reg [
         ⟨(some 33), none, .load true 4 (.t 5)⟩,
         ⟨(some 34), none, .call (.c (.fn 21 [] [])) [(.t 33), (.c (.int .i64 2))]⟩,
         ⟨(some 32), none, .mov (.t 34)⟩,
         ⟨(some 35), none, .extract (.t 32) 0⟩,
         ⟨(some 36), none, .extract (.t 32) 1⟩,
         ⟨(some 11), none, .box 4 (.c (.agg [(.int .i64 0), (.int .i64 0), (.int .i64 0), (.int .i64 0)]))⟩,
         ⟨none, none, .store 4 (.t 11) (.t 35)⟩,
         ⟨(some 12), none, .mov (.t 36)⟩])
       (.seq
        (.seq
         (.reg [
           ⟨(some 37), none, .mov (.t 8)⟩,
           ⟨(some 38), none, .eq true .iface true (.t 37) (.c .nili)⟩,
           ⟨(some 39), none, .mov (.t 38)⟩,
           ⟨(some 40), (some (39, false)), .mov (.t 10)⟩,
           ⟨(some 41), (some (39, false)), .eq true .iface true (.t 40) (.c .nili)⟩,
           ⟨(some 42), none, .pick (.t 39) (.c (.bool true)) (.t 41)⟩,
           ⟨(some 43), none, .mov (.t 42)⟩,
           ⟨(some 44), (some (43, false)), .mov (.t 12)⟩,
           ⟨(some 45), (some (43, false)), .eq true .iface true (.t 44) (.c .nili)⟩,
           ⟨(some 46), none, .pick (.t 43) (.c (.bool true)) (.t 45)⟩])
         (.cond (.t 46)
          (.seq
           (.reg [
             ⟨(some 6), none, .mov (.c (.bool true))⟩])
           .ret)
          .skip))
        (.seq
         (.reg [
           ⟨(some 48), none, .load true 4 (.t 3)⟩,
           ⟨(some 49), none, .load true 4 (.t 5)⟩,
           ⟨(some 50), none, .call (.c (.fn 36 [] [])) [(.t 48), (.t 49)]⟩,
           ⟨(some 47), none, .mov (.t 50)⟩,
           ⟨(some 51), none, .extract (.t 47) 0⟩,
           ⟨(some 52), none, .extract (.t 47) 1⟩,
           ⟨(some 13), none, .box 2 (.c (.agg [(.int .i64 0), (.int .i64 0)]))⟩,
           ⟨none, none, .store 2 (.t 13) (.t 51)⟩,
           ⟨(some 14), none, .mov (.t 52)⟩])
         (.seq
          (.reg [
            ⟨(some 54), none, .load true 4 (.t 7)⟩,
            ⟨(some 55), none, .load true 4 (.t 5)⟩,
            ⟨(some 56), none, .call (.c (.fn 36 [] [])) [(.t 54), (.t 55)]⟩,
            ⟨(some 53), none, .mov (.t 56)⟩,
            ⟨(some 57), none, .extract (.t 53) 0⟩,
            ⟨(some 58), none, .extract (.t 53) 1⟩,
            ⟨(some 15), none, .box 2 (.c (.agg [(.int .i64 0), (.int .i64 0)]))⟩,
            ⟨none, none, .store 2 (.t 15) (.t 57)⟩,
            ⟨(some 16), none, .mov (.t 58)⟩])
          (.seq
           (.reg [
             ⟨(some 60), none, .load true 4 (.t 9)⟩,
             ⟨(some 61), none, .load true 4 (.t 11)⟩,
             ⟨(some 62), none, .call (.c (.fn 36 [] [])) [(.t 60), (.t 61)]⟩,
             ⟨(some 59), none, .mov (.t 62)⟩,
             ⟨(some 63), none, .extract (.t 59) 0⟩,
             ⟨(some 64), none, .extract (.t 59) 1⟩,
             ⟨(some 17), none, .box 2 (.c (.agg [(.int .i64 0), (.int .i64 0)]))⟩,
             ⟨none, none, .store 2 (.t 17) (.t 63)⟩,
             ⟨(some 18), none, .mov (.t 64)⟩])
           (.seq
            (.seq
             (.reg [
               ⟨(some 65), none, .mov (.t 14)⟩,
               ⟨(some 66), none, .eq true .iface true (.t 65) (.c .nili)⟩,
               ⟨(some 67), none, .mov (.t 66)⟩,
               ⟨(some 68), (some (67, false)), .mov (.t 16)⟩,
               ⟨(some 69), (some (67, false)), .eq true .iface true (.t 68) (.c .nili)⟩,
               ⟨(some 70), none, .pick (.t 67) (.c (.bool true)) (.t 69)⟩,
               ⟨(some 71), none, .mov (.t 70)⟩,
               ⟨(some 72), (some (71, false)), .mov (.t 18)⟩,
               ⟨(some 73), (some (71, false)), .eq true .iface true (.t 72) (.c .nili)⟩,
               ⟨(some 74), none, .pick (.t 71) (.c (.bool true)) (.t 73)⟩])
             (.cond (.t 74)
              (.seq
               (.reg [
                 ⟨(some 6), none, .mov (.c (.bool false))⟩])
               .ret)
              .skip))
            (.seq
             (.draw [
               ⟨(some 75), none, .load true 2 (.t 13)⟩,
               ⟨(some 76), none, .load true 2 (.t 15)⟩,
               ⟨(some 77), none, .call (.c (.fn 31 [] [])) [(.t 75), (.t 76)]⟩,
               ⟨(some 78), none, .ibin .leq (.t 77) (.c (.int .i64 0))⟩,
               ⟨(some 79), none, .mov (.t 78)⟩,
               ⟨(some 80), (some (79, true)), .load true 2 (.t 13)⟩,
               ⟨(some 81), (some (79, true)), .load true 2 (.t 17)⟩,
               ⟨(some 82), (some (79, true)), .call (.c (.fn 31 [] [])) [(.t 80), (.t 81)]⟩,
               ⟨(some 83), (some (79, true)), .ibin .eql (.t 82) (.c (.int .i64 0))⟩,
               ⟨(some 84), none, .pick (.t 79) (.t 83) (.c (.bool false))⟩,
               ⟨(some 85), none, .mov (.t 84)⟩,
               ⟨(some 86), (some (85, true)), .load true 2 (.t 13)⟩,
               ⟨(some 87), (some (85, true)), .call (.c (.fn 33 [] [])) [(.t 86)]⟩,
               ⟨(some 88), (some (85, true)), .load true 2 (.t 13)⟩,
               ⟨(some 89), (some (85, true)), .call (.c (.fn 31 [] [])) [(.t 87), (.t 88)]⟩,
               ⟨(some 90), (some (85, true)), .ibin .eql (.t 89) (.c (.int .i64 0))⟩,
               ⟨(some 91), none, .pick (.t 85) (.t 90) (.c (.bool false))⟩,
               ⟨(some 92), none, .mov (.t 91)⟩,
               ⟨(some 93), (some (92, true)), .load true 2 (.t 13)⟩,
               ⟨(some 94), (some (92, true)), .load true 2 (.t 15)⟩,
               ⟨(some 95), (some (92, true)), .call (.c (.fn 31 [] [])) [(.t 93), (.t 94)]⟩,
               ⟨(some 96), (some (92, true)), .load true 2 (.t 15)⟩,
               ⟨(some 97), (some (92, true)), .load true 2 (.t 13)⟩,
               ⟨(some 98), (some (92, true)), .call (.c (.fn 31 [] [])) [(.t 96), (.t 97)]⟩,
               ⟨(some 99), (some (92, true)), .un .neg (.t 98)⟩,
               ⟨(some 100), (some (92, true)), .ibin .eql (.t 95) (.t 99)⟩,
               ⟨(some 101), none, .pick (.t 92) (.t 100) (.c (.bool false))⟩,
               ⟨(some 102), none, .mov (.t 101)⟩,
               ⟨(some 103), (some (102, true)), .load true 2 (.t 13)⟩,
               ⟨(some 104), (some (102, true)), .call (.c (.fn 34 [] [])) [(.t 103)]⟩,
               ⟨(some 105), (some (102, true)), .load true 2 (.t 15)⟩,
               ⟨(some 106), (some (102, true)), .call (.c (.fn 34 [] [])) [(.t 105)]⟩,
               ⟨(some 107), (some (102, true)), .ibin .leq (.t 104) (.t 106)⟩,
               ⟨(some 108), none, .pick (.t 102) (.t 107) (.c (.bool false))⟩,
               ⟨(some 6), none, .mov (.t 108)⟩]
               [[], [], [0, 1], [2, 0, 1], [3, 2, 0, 1], [4, 3, 2, 0, 1], [4, 3, 2, 0, 1], [5, 6, 4, 3, 2, 0, 1], [7, 4, 5, 6, 3, 2, 0, 1], [4, 8, 3, 2, 0, 1, 7, 5, 6], [9, 7, 4, 8, 3, 2, 0, 1, 5, 6], [10, 9, 7, 4, 8, 3, 2, 0, 1, 5, 6], [11, 10, 9, 7, 4, 8, 3, 2, 0, 1, 5, 6], [10, 9, 7, 4, 8, 3, 2, 0, 1, 5, 6], [12, 13, 10, 11, 9, 7, 4, 8, 3, 2, 0, 1, 5, 6], [14, 10, 12, 13, 11, 9, 7, 4, 8, 3, 2, 0, 1, 5, 6], [10, 15, 9, 7, 4, 8, 3, 2, 0, 1, 5, 6, 14, 12, 13, 11], [16, 14, 10, 15, 9, 7, 4, 8, 3, 2, 0, 1, 5, 6, 12, 13, 11], [17, 16, 14, 10, 15, 9, 7, 4, 8, 3, 2, 0, 1, 5, 6, 12, 13, 11], [17, 16, 14, 10, 15, 9, 7, 4, 8, 3, 2, 0, 1, 5, 6, 12, 13, 11], [18, 19, 17, 16, 14, 10, 15, 9, 7, 4, 8, 3, 2, 0, 1, 5, 6, 12, 13, 11], [17, 16, 14, 10, 15, 9, 7, 4, 8, 3, 2, 0, 1, 5, 6, 12, 13, 11], [17, 16, 14, 10, 15, 9, 7, 4, 8, 3, 2, 0, 1, 5, 6, 12, 13, 11], [21, 22, 20, 17, 16, 14, 10, 15, 9, 7, 4, 8, 3, 2, 0, 1, 5, 6, 12, 13, 11, 18, 19], [23, 17, 21, 22, 20, 16, 14, 10, 15, 9, 7, 4, 8, 3, 2, 0, 1, 5, 6, 12, 13, 11, 18, 19], [20, 24, 17, 18, 19, 16, 14, 10, 15, 9, 7, 4, 8, 3, 2, 0, 1, 5, 6, 12, 13, 11, 23, 21, 22], [17, 25, 16, 14, 10, 15, 9, 7, 4, 8, 3, 2, 0, 1, 5, 6, 12, 13, 11, 20, 24, 18, 19, 23, 21, 22], [26, 23, 17, 25, 16, 14, 10, 15, 9, 7, 4, 8, 3, 2, 0, 1, 5, 6, 12, 13, 11, 20, 24, 18, 19, 21, 22], [27, 26, 23, 17, 25, 16, 14, 10, 15, 9, 7, 4, 8, 3, 2, 0, 1, 5, 6, 12, 13, 11, 20, 24, 18, 19, 21, 22], [28, 27, 26, 23, 17, 25, 16, 14, 10, 15, 9, 7, 4, 8, 3, 2, 0, 1, 5, 6, 12, 13, 11, 20, 24, 18, 19, 21, 22], [27, 26, 23, 17, 25, 16, 14, 10, 15, 9, 7, 4, 8, 3, 2, 0, 1, 5, 6, 12, 13, 11, 20, 24, 18, 19, 21, 22], [30, 29, 27, 26, 23, 17, 25, 16, 14, 10, 15, 9, 7, 4, 8, 3, 2, 0, 1, 5, 6, 12, 13, 11, 20, 24, 18, 19, 21, 22, 28], [29, 31, 27, 28, 26, 23, 17, 25, 16, 14, 10, 15, 9, 7, 4, 8, 3, 2, 0, 1, 5, 6, 12, 13, 11, 20, 24, 18, 19, 21, 22, 30], [27, 32, 26, 23, 17, 25, 16, 14, 10, 15, 9, 7, 4, 8, 3, 2, 0, 1, 5, 6, 12, 13, 11, 20, 24, 18, 19, 21, 22, 29, 31, 28, 30], [33, 31, 0, 1, 2, 3, 4, 5, 6, 7, 8, 9, 10, 11, 12, 13, 14, 15, 16, 17, 18, 19, 20, 21, 22, 23, 24, 25, 26, 27, 28, 29, 30, 32]])
             .ret)))))))))))⟩

theorem c9 : cFun Tryd.prog [0, 3] Tryd.f9 = some F9 := by kernel_rfl
end Go.Proofs.YtkbjfhkhbcgkgaaDoor.B33m
