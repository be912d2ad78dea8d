import Derived.Test.YtnlolefgifeohaaDoorFVGE15
open Go AH
namespace Go.Proofs.YtnlolefgifeohaaDoor.E15
-- quitrent/quitrentlaw15.awake
def F21 : AFun := ⟨67, 0, [.tmp 0],
  (.seq
   (.reg [
     ⟨(some 0), none, .mov (.c (.bool false))⟩])
   (.seq
    (.reg [
      ⟨(some 7), none, .call (.c (.fn 22 [] [])) []⟩,
      ⟨(some 1), none, .mov (.t 7)⟩])
    (.seq
     (.seq
      (.reg [
        ⟨(some 8), none, .mov (.t 1)⟩,
        ⟨(some 9), none, .eq false .ptr true (.t 8) (.c .nilp)⟩])
      (.cond (.t 9)
       (.seq
        (.reg [
          ⟨(some 0), none, .mov (.c (.bool false))⟩])
        .ret)
       .skip))
     (.seq
      (.reg [
        ⟨(some 10), none, .mov (.t 1)⟩,
        ⟨(some 11), none, .build [(.int .i64 0), (.int .i64 0), (.int .i64 0), (.int .i64 0)] [(0, 1, (.c (.int .i64 4)))]⟩,
        ⟨(some 12), none, .call (.c (.fn 28 [] [])) [(.t 10), (.c (.int .i64 5)), (.c (.int .i64 1)), (.t 11)]⟩,
        ⟨(some 2), none, .mov (.t 12)⟩])
      (.seq
       (.reg [
         ⟨(some 13), none, .mov (.t 1)⟩,
         ⟨(some 14), none, .build [(.int .i64 0), (.int .i64 0), (.int .i64 0), (.int .i64 0)] [(0, 1, (.c (.int .i64 4)))]⟩,
         ⟨(some 15), none, .call (.c (.fn 28 [] [])) [(.t 13), (.c (.int .i64 6)), (.c (.int .i64 1)), (.t 14)]⟩,
         ⟨(some 3), none, .mov (.t 15)⟩])
       (.seq
        (.reg [
          ⟨(some 16), none, .mov (.t 1)⟩,
          ⟨(some 17), none, .call (.c (.fn 26 [] [])) [(.t 16), (.c (.int .i64 6)), (.c (.int .i64 1))]⟩,
          ⟨(some 4), none, .mov (.t 17)⟩])
        (.seq
         (.reg [
           ⟨(some 19), none, .mov (.t 1)⟩,
           ⟨(some 20), none, .call (.c (.fn 30 [] [])) [(.t 19), (.c (.int .i64 6))]⟩,
           ⟨(some 18), none, .mov (.t 20)⟩,
           ⟨(some 21), none, .extract (.t 18) 0⟩,
           ⟨(some 22), none, .extract (.t 18) 1⟩,
           ⟨(some 5), none, .box 7 (.c (.agg [(.int .i64 0), (.int .i64 0), (.int .i64 0), (.int .i64 0), (.int .i64 0), (.int .i64 0), (.int .i64 0)]))⟩,
           ⟨none, none, .store 7 (.t 5) (.t 21)⟩,
           ⟨(some 6), none, .mov (.t 22)⟩])
         (.seq
          (.reg [
            ⟨(some 23), none, .mov (.t 2)⟩,
            ⟨(some 24), none, .eq false .iface true (.t 23) (.c .nili)⟩,
            ⟨(some 25), none, .mov (.t 24)⟩,
            ⟨(some 26), (some (25, true)), .mov (.t 3)⟩,
            ⟨(some 27), (some (25, true)), .eq false .iface true (.t 26) (.c .nili)⟩,
            ⟨(some 28), none, .pick (.t 25) (.t 27) (.c (.bool false))⟩,
            ⟨(some 29), none, .mov (.t 28)⟩,
            ⟨(some 30), (some (29, true)), .mov (.t 4)⟩,
            ⟨(some 31), (some (29, true)), .eq false .iface true (.t 30) (.c .nili)⟩,
            ⟨(some 32), none, .pick (.t 29) (.t 31) (.c (.bool false))⟩,
            ⟨(some 33), none, .mov (.t 32)⟩,
            ⟨(some 34), (some (33, true)), .mov (.t 1)⟩,
            ⟨(some 35), (some (33, true)), .call (.c (.fn 32 [] [])) [(.t 34), (.c (.int .i64 1))]⟩,
            ⟨(some 36), (some (33, true)), .build [(.int .i64 0), (.int .i64 0), (.int .i64 0), (.int .i64 0)] [(0, 1, (.c (.int .i64 4)))]⟩,
            ⟨(some 37), (some (33, true)), .eq false (.flat [.int, .int, .int, .int]) false (.t 35) (.t 36)⟩,
            ⟨(some 38), none, .pick (.t 33) (.t 37) (.c (.bool false))⟩,
            ⟨(some 39), none, .mov (.t 38)⟩,
            ⟨(some 40), (some (39, true)), .mov (.t 6)⟩,
            ⟨(some 41), none, .pick (.t 39) (.t 40) (.c (.bool false))⟩,
            ⟨(some 42), none, .mov (.t 41)⟩,
            ⟨(some 43), (some (42, true)), .load true 7 (.t 5)⟩,
            ⟨(some 44), (some (42, true)), .build [(.int .i64 0), (.int .i64 0), (.int .i64 0), (.int .i64 0)] [(0, 1, (.c (.int .i64 4)))]⟩,
            ⟨(some 45), (some (42, true)), .build [(.int .i64 0), (.int .i64 0), (.int .i64 0), (.int .i64 0), (.int .i64 0), (.int .i64 0), (.int .i64 0)] [(0, 1, (.c (.int .i64 6))), (1, 1, (.c (.int .i64 1))), (2, 4, (.t 44)), (6, 1, (.c (.int .i64 1)))]⟩,
            ⟨(some 46), (some (42, true)), .eq false (.flat [.int, .int, .int, .int, .int, .int, .int]) false (.t 43) (.t 45)⟩,
            ⟨(some 47), none, .pick (.t 42) (.t 46) (.c (.bool false))⟩,
            ⟨(some 48), none, .mov (.t 47)⟩,
            ⟨(some 49), (some (48, true)), .mov (.t 1)⟩,
            ⟨(some 50), (some (48, true)), .call (.c (.fn 34 [] [])) [(.t 49), (.c (.int .i64 1))]⟩,
            ⟨(some 51), (some (48, true)), .len .sl (.t 50)⟩,
            ⟨(some 52), (some (48, true)), .ibin .eql (.t 51) (.c (.int .i64 2))⟩,
            ⟨(some 53), none, .pick (.t 48) (.t 52) (.c (.bool false))⟩,
            ⟨(some 54), none, .mov (.t 53)⟩,
            ⟨(some 55), (some (54, true)), .mov (.t 1)⟩,
            ⟨(some 56), (some (54, true)), .call (.c (.fn 26 [] [])) [(.t 55), (.c (.int .i64 6)), (.c (.int .i64 1))]⟩,
            ⟨(some 57), (some (54, true)), .call (.c (.fn 23 [] [])) [(.t 56)]⟩,
            ⟨(some 58), (some (54, true)), .ibin .eql (.t 57) (.c (.int .i64 13))⟩,
            ⟨(some 59), none, .pick (.t 54) (.t 58) (.c (.bool false))⟩,
            ⟨(some 60), none, .mov (.t 59)⟩,
            ⟨(some 61), (some (60, true)), .mov (.t 1)⟩,
            ⟨(some 62), (some (60, true)), .build [(.int .i64 0), (.int .i64 0), (.int .i64 0), (.int .i64 0)] []⟩,
            ⟨(some 63), (some (60, true)), .call (.c (.fn 28 [] [])) [(.t 61), (.c (.int .i64 5)), (.c (.int .i64 1)), (.t 62)]⟩,
            ⟨(some 64), (some (60, true)), .call (.c (.fn 23 [] [])) [(.t 63)]⟩,
            ⟨(some 65), (some (60, true)), .ibin .eql (.t 64) (.c (.int .i64 6))⟩,
            ⟨(some 66), none, .pick (.t 60) (.t 65) (.c (.bool false))⟩,
            ⟨(some 0), none, .mov (.t 66)⟩])
          .ret))))))))⟩

-- quitrent/quitrentlaw15.ParkLive
def F6 : AFun := ⟨157, 1, [.tmp 2],
  (.seq
   (.reg [
     ⟨(some 2), none, .mov (.c (.bool false))⟩])
   (.seq
    (.seq
     (.reg [
       ⟨(some 16), none, .call (.c (.fn 21 [] [])) []⟩,
       ⟨(some 17), none, .un .not (.t 16)⟩])
     (.cond (.t 17)
      (.seq
       (.reg [
         ⟨(some 2), none, .mov (.c (.bool false))⟩])
       .ret)
      .skip))
    (.seq
     (.reg [
       ⟨(some 18), none, .call (.c (.fn 22 [] [])) []⟩,
       ⟨(some 3), none, .mov (.t 18)⟩])
     (.seq
      (.seq
       (.reg [
         ⟨(some 4), none, .mov (.c (.int .i64 0))⟩])
       (.block 0
        (.loop
         (.seq
          (.seq
           (.reg [
             ⟨(some 19), none, .mov (.t 4)⟩,
             ⟨(some 20), none, .mov (.t 0)⟩,
             ⟨(some 21), none, .len .sl (.t 20)⟩,
             ⟨(some 22), none, .ibin .lss (.t 19) (.t 21)⟩,
             ⟨(some 23), none, .mov (.t 22)⟩,
             ⟨(some 24), (some (23, true)), .mov (.t 4)⟩,
             ⟨(some 25), (some (23, true)), .ibin .lss (.t 24) (.c (.int .i64 60))⟩,
             ⟨(some 26), none, .pick (.t 23) (.t 25) (.c (.bool false))⟩])
           (.cond (.t 26)
            .skip
            (.exit 0)))
          (.seq
           (.block 1
            (.seq
             (.reg [
               ⟨(some 29), none, .mov (.t 0)⟩,
               ⟨(some 30), none, .mov (.t 4)⟩,
               ⟨(some 31), none, .iaddrSl 7 (.t 29) (.t 30)⟩,
               ⟨(some 32), none, .load true 7 (.t 31)⟩,
               ⟨(some 5), none, .box 7 (.c (.agg [(.int .i64 0), (.int .i64 0), (.int .i64 0), (.int .i64 0), (.int .i64 0), (.int .i64 0), (.int .i64 0)]))⟩,
               ⟨none, none, .store 7 (.t 5) (.t 32)⟩])
             (.seq
              (.reg [
                ⟨(some 33), none, .build (List.replicate 20 (.int .i64 0)) []⟩,
                ⟨(some 6), none, .box 20 (.c (.agg (List.replicate 20 (.int .i64 0))))⟩,
                ⟨none, none, .store 20 (.t 6) (.t 33)⟩])
              (.seq
               (.seq
                (.reg [
                  ⟨(some 7), none, .mov (.c (.int .i64 0))⟩])
                (.block 2
                 (.loop
                  (.seq
                   (.seq
                    (.reg [
                      ⟨(some 34), none, .mov (.t 7)⟩,
                      ⟨(some 35), none, .ibin .lss (.t 34) (.c (.int .i64 5))⟩])
                    (.cond (.t 35)
                     .skip
                     (.exit 2)))
                   (.seq
                    (.block 3
                     (.reg [
                       ⟨(some 38), none, .mov (.t 7)⟩,
                       ⟨(some 39), none, .mov (.t 3)⟩,
                       ⟨(some 40), none, .mov (.t 7)⟩,
                       ⟨(some 41), none, .call (.c (.fn 32 [] [])) [(.t 39), (.t 40)]⟩,
                       ⟨(some 42), none, .iaddrArr 5 4 (.t 6) (.t 38)⟩,
                       ⟨none, none, .store 4 (.t 42) (.t 41)⟩]))
                    (.reg [
                      ⟨(some 36), none, .mov (.t 7)⟩,
                      ⟨(some 37), none, .ibin .add (.t 36) (.c (.int .i64 1))⟩,
                      ⟨(some 7), none, .mov (.t 37)⟩]))))))
               (.seq
                (.reg [
                  ⟨(some 44), none, .mov (.t 3)⟩,
                  ⟨(some 45), none, .faddr 1 (.t 5)⟩,
                  ⟨(some 46), none, .load false 1 (.t 45)⟩,
                  ⟨(some 47), none, .call (.c (.fn 30 [] [])) [(.t 44), (.t 46)]⟩,
                  ⟨(some 43), none, .mov (.t 47)⟩,
                  ⟨(some 48), none, .extract (.t 43) 0⟩,
                  ⟨(some 49), none, .extract (.t 43) 1⟩,
                  ⟨(some 8), none, .box 7 (.c (.agg [(.int .i64 0), (.int .i64 0), (.int .i64 0), (.int .i64 0), (.int .i64 0), (.int .i64 0), (.int .i64 0)]))⟩,
                  ⟨none, none, .store 7 (.t 8) (.t 48)⟩,
                  ⟨(some 9), none, .mov (.t 49)⟩])
                (.seq
                 (.reg [
                   ⟨(some 10), none, .mov (.c .nili)⟩])
                 (.seq
                  (.seq
                   (.reg [
                     ⟨(some 50), none, .faddr 0 (.t 5)⟩,
                     ⟨(some 51), none, .load false 1 (.t 50)⟩])
                   (.block 4
                    (.seq
                     (.reg [
                       ⟨(some 61), none, .ibin .eql (.t 51) (.c (.int .i64 3))⟩,
                       ⟨(some 60), none, .mov (.t 61)⟩])
                     (.cond (.t 60)
                      (.reg [
                        ⟨(some 62), none, .mov (.t 3)⟩,
                        ⟨(some 63), none, .faddr 1 (.t 5)⟩,
                        ⟨(some 64), none, .load false 1 (.t 63)⟩,
                        ⟨(some 65), none, .call (.c (.fn 24 [] [])) [(.t 62), (.t 64)]⟩,
                        ⟨(some 10), none, .mov (.t 65)⟩])
                      (.seq
                       (.reg [
                         ⟨(some 67), none, .ibin .eql (.t 51) (.c (.int .i64 4))⟩,
                         ⟨(some 66), none, .mov (.t 67)⟩])
                       (.cond (.t 66)
                        (.reg [
                          ⟨(some 68), none, .mov (.t 3)⟩,
                          ⟨(some 69), none, .faddr 1 (.t 5)⟩,
                          ⟨(some 70), none, .load false 1 (.t 69)⟩,
                          ⟨(some 71), none, .faddr 2 (.t 5)⟩,
                          ⟨(some 72), none, .load false 1 (.t 71)⟩,
                          ⟨(some 73), none, .call (.c (.fn 26 [] [])) [(.t 68), (.t 70), (.t 72)]⟩,
                          ⟨(some 10), none, .mov (.t 73)⟩])
                        (.reg [
                          ⟨(some 52), none, .mov (.t 3)⟩,
                          ⟨(some 53), none, .faddr 1 (.t 5)⟩,
                          ⟨(some 54), none, .load false 1 (.t 53)⟩,
                          ⟨(some 55), none, .faddr 2 (.t 5)⟩,
                          ⟨(some 56), none, .load false 1 (.t 55)⟩,
                          ⟨(some 57), none, .faddr 3 (.t 5)⟩,
                          ⟨(some 58), none, .load true 4 (.t 57)⟩,
                          ⟨(some 59), none, .call (.c (.fn 28 [] [])) [(.t 52), (.t 54), (.t 56), (.t 58)]⟩,
                          ⟨(some 10), none, .mov (.t 59)⟩])))))))
                  (.seq
                   (.reg [
                     ⟨(some 75), none, .mov (.t 3)⟩,
                     ⟨(some 76), none, .faddr 1 (.t 5)⟩,
                     ⟨(some 77), none, .load false 1 (.t 76)⟩,
                     ⟨(some 78), none, .call (.c (.fn 30 [] [])) [(.t 75), (.t 77)]⟩,
                     ⟨(some 74), none, .mov (.t 78)⟩,
                     ⟨(some 79), none, .extract (.t 74) 0⟩,
                     ⟨(some 80), none, .extract (.t 74) 1⟩,
                     ⟨(some 11), none, .box 7 (.c (.agg [(.int .i64 0), (.int .i64 0), (.int .i64 0), (.int .i64 0), (.int .i64 0), (.int .i64 0), (.int .i64 0)]))⟩,
                     ⟨none, none, .store 7 (.t 11) (.t 79)⟩,
                     ⟨(some 12), none, .mov (.t 80)⟩])
                   (.seq
                    (.seq
                     (.reg [
                       ⟨(some 13), none, .mov (.c (.int .i64 0))⟩])
                     (.block 5
                      (.loop
                       (.seq
                        (.seq
                         (.reg [
                           ⟨(some 81), none, .mov (.t 13)⟩,
                           ⟨(some 82), none, .ibin .lss (.t 81) (.c (.int .i64 5))⟩])
                         (.cond (.t 82)
                          .skip
                          (.exit 5)))
                        (.seq
                         (.block 6
                          (.seq
                           (.reg [
                             ⟨(some 85), none, .mov (.t 13)⟩,
                             ⟨(some 86), none, .iaddrArr 5 4 (.t 6) (.t 85)⟩,
                             ⟨(some 87), none, .load true 4 (.t 86)⟩,
                             ⟨(some 14), none, .box 4 (.c (.agg [(.int .i64 0), (.int .i64 0), (.int .i64 0), (.int .i64 0)]))⟩,
                             ⟨none, none, .store 4 (.t 14) (.t 87)⟩])
                           (.seq
                            (.seq
                             (.reg [
                               ⟨(some 15), none, .mov (.c (.int .i64 0))⟩])
                             (.block 7
                              (.loop
                               (.seq
                                (.seq
                                 (.reg [
                                   ⟨(some 88), none, .mov (.t 15)⟩,
                                   ⟨(some 89), none, .ibin .lss (.t 88) (.c (.int .i64 4))⟩,
                                   ⟨(some 90), none, .mov (.t 89)⟩,
                                   ⟨(some 91), (some (90, true)), .mov (.t 10)⟩,
                                   ⟨(some 92), (some (90, true)), .eq false .iface true (.t 91) (.c .nili)⟩,
                                   ⟨(some 93), none, .pick (.t 90) (.t 92) (.c (.bool false))⟩])
                                 (.cond (.t 93)
                                  .skip
                                  (.exit 7)))
                                (.seq
                                 (.block 8
                                  (.seq
                                   (.seq
                                    (.reg [
                                      ⟨(some 96), none, .mov (.t 9)⟩,
                                      ⟨(some 97), none, .mov (.t 96)⟩,
                                      ⟨(some 98), (some (97, true)), .faddr 6 (.t 8)⟩,
                                      ⟨(some 99), (some (97, true)), .load false 1 (.t 98)⟩,
                                      ⟨(some 100), (some (97, true)), .ibin .eql (.t 99) (.c (.int .i64 0))⟩,
                                      ⟨(some 101), none, .pick (.t 97) (.t 100) (.c (.bool false))⟩,
                                      ⟨(some 102), none, .mov (.t 101)⟩,
                                      ⟨(some 103), (some (102, true)), .faddr 1 (.t 8)⟩,
                                      ⟨(some 104), (some (102, true)), .load false 1 (.t 103)⟩,
                                      ⟨(some 105), (some (102, true)), .mov (.t 13)⟩,
                                      ⟨(some 106), (some (102, true)), .ibin .eql (.t 104) (.t 105)⟩,
                                      ⟨(some 107), none, .pick (.t 102) (.t 106) (.c (.bool false))⟩])
                                    (.cond (.t 107)
                                     (.draw [
                                       ⟨(some 108), none, .mov (.t 15)⟩,
                                       ⟨(some 109), none, .mov (.t 15)⟩,
                                       ⟨(some 110), none, .iaddrArr 4 1 (.t 14) (.t 109)⟩,
                                       ⟨(some 111), none, .load false 1 (.t 110)⟩,
                                       ⟨(some 112), none, .mov (.t 15)⟩,
                                       ⟨(some 113), none, .faddr 2 (.t 8)⟩,
                                       ⟨(some 114), none, .iaddrArr 4 1 (.t 113) (.t 112)⟩,
                                       ⟨(some 115), none, .load false 1 (.t 114)⟩,
                                       ⟨(some 116), none, .ibin .sub (.t 111) (.t 115)⟩,
                                       ⟨(some 117), none, .iaddrArr 4 1 (.t 14) (.t 108)⟩,
                                       ⟨none, none, .store 1 (.t 117) (.t 116)⟩]
                                       [[], [], [1], [2, 1], [], [], [5, 4], [6, 5, 4], [3, 7, 2, 1, 6, 5, 4], [0, 1, 2, 3, 4, 5, 6, 7, 8], [9, 8, 0, 1, 2, 3, 4, 5, 6, 7]])
                                     .skip))
                                   (.seq
                                    (.reg [
                                      ⟨(some 118), none, .mov (.t 12)⟩,
                                      ⟨(some 119), none, .mov (.t 118)⟩,
                                      ⟨(some 120), (some (119, true)), .faddr 6 (.t 11)⟩,
                                      ⟨(some 121), (some (119, true)), .load false 1 (.t 120)⟩,
                                      ⟨(some 122), (some (119, true)), .ibin .eql (.t 121) (.c (.int .i64 0))⟩,
                                      ⟨(some 123), none, .pick (.t 119) (.t 122) (.c (.bool false))⟩,
                                      ⟨(some 124), none, .mov (.t 123)⟩,
                                      ⟨(some 125), (some (124, true)), .faddr 1 (.t 11)⟩,
                                      ⟨(some 126), (some (124, true)), .load false 1 (.t 125)⟩,
                                      ⟨(some 127), (some (124, true)), .mov (.t 13)⟩,
                                      ⟨(some 128), (some (124, true)), .ibin .eql (.t 126) (.t 127)⟩,
                                      ⟨(some 129), none, .pick (.t 124) (.t 128) (.c (.bool false))⟩])
                                    (.cond (.t 129)
                                     (.draw [
                                       ⟨(some 130), none, .mov (.t 15)⟩,
                                       ⟨(some 131), none, .mov (.t 15)⟩,
                                       ⟨(some 132), none, .iaddrArr 4 1 (.t 14) (.t 131)⟩,
                                       ⟨(some 133), none, .load false 1 (.t 132)⟩,
                                       ⟨(some 134), none, .mov (.t 15)⟩,
                                       ⟨(some 135), none, .faddr 2 (.t 11)⟩,
                                       ⟨(some 136), none, .iaddrArr 4 1 (.t 135) (.t 134)⟩,
                                       ⟨(some 137), none, .load false 1 (.t 136)⟩,
                                       ⟨(some 138), none, .ibin .add (.t 133) (.t 137)⟩,
                                       ⟨(some 139), none, .iaddrArr 4 1 (.t 14) (.t 130)⟩,
                                       ⟨none, none, .store 1 (.t 139) (.t 138)⟩]
                                       [[], [], [1], [2, 1], [], [], [5, 4], [6, 5, 4], [3, 7, 2, 1, 6, 5, 4], [0, 1, 2, 3, 4, 5, 6, 7, 8], [9, 8, 0, 1, 2, 3, 4, 5, 6, 7]])
                                     .skip))))
                                 (.reg [
                                   ⟨(some 94), none, .mov (.t 15)⟩,
                                   ⟨(some 95), none, .ibin .add (.t 94) (.c (.int .i64 1))⟩,
                                   ⟨(some 15), none, .mov (.t 95)⟩]))))))
                            (.seq
                             (.draw [
                               ⟨(some 140), none, .mov (.t 3)⟩,
                               ⟨(some 141), none, .mov (.t 13)⟩,
                               ⟨(some 142), none, .call (.c (.fn 32 [] [])) [(.t 140), (.t 141)]⟩,
                               ⟨(some 143), none, .load true 4 (.t 14)⟩,
                               ⟨(some 144), none, .eq true (.flat [.int, .int, .int, .int]) false (.t 142) (.t 143)⟩]
                               [[], [], [0, 1], [], [2, 3, 0, 1]])
                             (.cond (.t 144)
                              (.seq
                               (.reg [
                                 ⟨(some 2), none, .mov (.c (.bool false))⟩])
                               .ret)
                              .skip)))))
                         (.reg [
                           ⟨(some 83), none, .mov (.t 13)⟩,
                           ⟨(some 84), none, .ibin .add (.t 83) (.c (.int .i64 1))⟩,
                           ⟨(some 13), none, .mov (.t 84)⟩]))))))
                    (.seq
                     (.reg [
                       ⟨(some 145), none, .mov (.t 10)⟩,
                       ⟨(some 146), none, .eq true .iface true (.t 145) (.c .nili)⟩,
                       ⟨(some 147), none, .mov (.t 146)⟩,
                       ⟨(some 148), (some (147, true)), .mov (.t 9)⟩,
                       ⟨(some 149), (some (147, true)), .mov (.t 12)⟩,
                       ⟨(some 150), (some (147, true)), .eq true .bool false (.t 148) (.t 149)⟩,
                       ⟨(some 151), (some (147, true)), .mov (.t 150)⟩,
                       ⟨(some 152), (some (151, false)), .load true 7 (.t 8)⟩,
                       ⟨(some 153), (some (151, false)), .load true 7 (.t 11)⟩,
                       ⟨(some 154), (some (151, false)), .eq true (.flat [.int, .int, .int, .int, .int, .int, .int]) false (.t 152) (.t 153)⟩,
                       ⟨(some 155), (some (147, true)), .pick (.t 151) (.c (.bool true)) (.t 154)⟩,
                       ⟨(some 156), none, .pick (.t 147) (.t 155) (.c (.bool false))⟩])
                     (.cond (.t 156)
                      (.seq
                       (.reg [
                         ⟨(some 2), none, .mov (.c (.bool false))⟩])
                       .ret)
                      .skip)))))))))))
           (.reg [
             ⟨(some 27), none, .mov (.t 4)⟩,
             ⟨(some 28), none, .ibin .add (.t 27) (.c (.int .i64 1))⟩,
             ⟨(some 4), none, .mov (.t 28)⟩]))))))
      (.seq
       (.reg [
         ⟨(some 2), none, .mov (.c (.bool true))⟩])
       .ret)))))⟩

-- quitrent/quitrentlaw15.ParkEnd
def F7 : AFun := ⟨113, 1, [.tmp 2],
  (.seq
   (.reg [
     ⟨(some 2), none, .mov (.c (.bool false))⟩])
   (.seq
    (.seq
     (.reg [
       ⟨(some 10), none, .call (.c (.fn 21 [] [])) []⟩,
       ⟨(some 11), none, .un .not (.t 10)⟩])
     (.cond (.t 11)
      (.seq
       (.reg [
         ⟨(some 2), none, .mov (.c (.bool false))⟩])
       .ret)
      .skip))
    (.seq
     (.reg [
       ⟨(some 12), none, .call (.c (.fn 22 [] [])) []⟩,
       ⟨(some 3), none, .mov (.t 12)⟩])
     (.seq
      (.seq
       (.reg [
         ⟨(some 4), none, .mov (.c (.int .i64 0))⟩])
       (.block 0
        (.loop
         (.seq
          (.seq
           (.reg [
             ⟨(some 13), none, .mov (.t 4)⟩,
             ⟨(some 14), none, .mov (.t 0)⟩,
             ⟨(some 15), none, .len .sl (.t 14)⟩,
             ⟨(some 16), none, .ibin .lss (.t 13) (.t 15)⟩,
             ⟨(some 17), none, .mov (.t 16)⟩,
             ⟨(some 18), (some (17, true)), .mov (.t 4)⟩,
             ⟨(some 19), (some (17, true)), .ibin .lss (.t 18) (.c (.int .i64 60))⟩,
             ⟨(some 20), none, .pick (.t 17) (.t 19) (.c (.bool false))⟩])
           (.cond (.t 20)
            .skip
            (.exit 0)))
          (.seq
           (.block 1
            (.seq
             (.reg [
               ⟨(some 23), none, .mov (.t 0)⟩,
               ⟨(some 24), none, .mov (.t 4)⟩,
               ⟨(some 25), none, .iaddrSl 7 (.t 23) (.t 24)⟩,
               ⟨(some 26), none, .load true 7 (.t 25)⟩,
               ⟨(some 5), none, .box 7 (.c (.agg [(.int .i64 0), (.int .i64 0), (.int .i64 0), (.int .i64 0), (.int .i64 0), (.int .i64 0), (.int .i64 0)]))⟩,
               ⟨none, none, .store 7 (.t 5) (.t 26)⟩])
             (.seq
              (.reg [
                ⟨(some 27), none, .faddr 0 (.t 5)⟩,
                ⟨(some 28), none, .load false 1 (.t 27)⟩])
              (.block 2
               (.seq
                (.reg [
                  ⟨(some 38), none, .ibin .eql (.t 28) (.c (.int .i64 3))⟩,
                  ⟨(some 37), none, .mov (.t 38)⟩])
                (.cond (.t 37)
                 (.reg [
                   ⟨(some 39), none, .mov (.t 3)⟩,
                   ⟨(some 40), none, .faddr 1 (.t 5)⟩,
                   ⟨(some 41), none, .load false 1 (.t 40)⟩,
                   ⟨(some 42), none, .call (.c (.fn 24 [] [])) [(.t 39), (.t 41)]⟩])
                 (.seq
                  (.reg [
                    ⟨(some 44), none, .ibin .eql (.t 28) (.c (.int .i64 4))⟩,
                    ⟨(some 43), none, .mov (.t 44)⟩])
                  (.cond (.t 43)
                   (.reg [
                     ⟨(some 45), none, .mov (.t 3)⟩,
                     ⟨(some 46), none, .faddr 1 (.t 5)⟩,
                     ⟨(some 47), none, .load false 1 (.t 46)⟩,
                     ⟨(some 48), none, .faddr 2 (.t 5)⟩,
                     ⟨(some 49), none, .load false 1 (.t 48)⟩,
                     ⟨(some 50), none, .call (.c (.fn 26 [] [])) [(.t 45), (.t 47), (.t 49)]⟩])
                   (.reg [
                     ⟨(some 29), none, .mov (.t 3)⟩,
                     ⟨(some 30), none, .faddr 1 (.t 5)⟩,
                     ⟨(some 31), none, .load false 1 (.t 30)⟩,
                     ⟨(some 32), none, .faddr 2 (.t 5)⟩,
                     ⟨(some 33), none, .load false 1 (.t 32)⟩,
                     ⟨(some 34), none, .faddr 3 (.t 5)⟩,
                     ⟨(some 35), none, .load true 4 (.t 34)⟩,
                     ⟨(some 36), none, .call (.c (.fn 28 [] [])) [(.t 29), (.t 31), (.t 33), (.t 35)]⟩])))))))))
           (.reg [
             ⟨(some 21), none, .mov (.t 4)⟩,
             ⟨(some 22), none, .ibin .add (.t 21) (.c (.int .i64 1))⟩,
             ⟨(some 4), none, .mov (.t 22)⟩]))))))
      (.seq
       (.reg [
         ⟨(some 51), none, .mov (.t 3)⟩,
         ⟨(some 52), none, .call (.c (.fn 35 [] [])) [(.t 51)]⟩,
         ⟨(some 6), none, .mov (.t 52)⟩])
       (.seq
        (.seq
         (.reg [
           ⟨(some 7), none, .mov (.c (.int .i64 0))⟩])
         (.block 3
          (.loop
           (.seq
            (.seq
             (.reg [
               ⟨(some 53), none, .mov (.t 7)⟩,
               ⟨(some 54), none, .mov (.t 6)⟩,
               ⟨(some 55), none, .len .sl (.t 54)⟩,
               ⟨(some 56), none, .ibin .lss (.t 53) (.t 55)⟩])
             (.cond (.t 56)
              .skip
              (.exit 3)))
            (.seq
             (.block 4
              (.seq
               (.reg [
                 ⟨(some 59), none, .mov (.t 3)⟩,
                 ⟨(some 60), none, .mov (.t 6)⟩,
                 ⟨(some 61), none, .mov (.t 7)⟩,
                 ⟨(some 62), none, .iaddrSl 7 (.t 60) (.t 61)⟩,
                 ⟨(some 63), none, .faddr 0 (.t 62)⟩,
                 ⟨(some 64), none, .load false 1 (.t 63)⟩,
                 ⟨(some 65), none, .call (.c (.fn 24 [] [])) [(.t 59), (.t 64)]⟩,
                 ⟨(some 66), none, .eq true .iface true (.t 65) (.c .nili)⟩])
               (.cond (.t 66)
                (.seq
                 (.reg [
                   ⟨(some 2), none, .mov (.c (.bool false))⟩])
                 .ret)
                .skip)))
             (.reg [
               ⟨(some 57), none, .mov (.t 7)⟩,
               ⟨(some 58), none, .ibin .add (.t 57) (.c (.int .i64 1))⟩,
               ⟨(some 7), none, .mov (.t 58)⟩]))))))
        (.seq
         (.seq
          (.reg [
            ⟨(some 8), none, .mov (.c (.int .i64 1))⟩])
          (.block 5
           (.loop
            (.seq
             (.seq
              (.reg [
                ⟨(some 67), none, .mov (.t 8)⟩,
                ⟨(some 68), none, .ibin .leq (.t 67) (.c (.int .i64 4))⟩])
              (.cond (.t 68)
               .skip
               (.exit 5)))
             (.seq
              (.block 6
               (.seq
                (.reg [
                  ⟨(some 71), none, .mov (.t 3)⟩,
                  ⟨(some 72), none, .mov (.t 8)⟩,
                  ⟨(some 73), none, .call (.c (.fn 32 [] [])) [(.t 71), (.t 72)]⟩,
                  ⟨(some 74), none, .build [(.int .i64 0), (.int .i64 0), (.int .i64 0), (.int .i64 0)] []⟩,
                  ⟨(some 75), none, .eq true (.flat [.int, .int, .int, .int]) false (.t 73) (.t 74)⟩,
                  ⟨(some 76), none, .mov (.t 75)⟩,
                  ⟨(some 77), (some (76, false)), .mov (.t 3)⟩,
                  ⟨(some 78), (some (76, false)), .mov (.t 8)⟩,
                  ⟨(some 79), (some (76, false)), .call (.c (.fn 34 [] [])) [(.t 77), (.t 78)]⟩,
                  ⟨(some 80), (some (76, false)), .len .sl (.t 79)⟩,
                  ⟨(some 81), (some (76, false)), .ibin .neq (.t 80) (.c (.int .i64 0))⟩,
                  ⟨(some 82), none, .pick (.t 76) (.c (.bool true)) (.t 81)⟩])
                (.cond (.t 82)
                 (.seq
                  (.reg [
                    ⟨(some 2), none, .mov (.c (.bool false))⟩])
                  .ret)
                 .skip)))
              (.reg [
                ⟨(some 69), none, .mov (.t 8)⟩,
                ⟨(some 70), none, .ibin .add (.t 69) (.c (.int .i64 1))⟩,
                ⟨(some 8), none, .mov (.t 70)⟩]))))))
         (.seq
          (.seq
           (.reg [
             ⟨(some 9), none, .mov (.c (.int .i64 0))⟩])
           (.block 7
            (.loop
             (.seq
              (.seq
               (.reg [
                 ⟨(some 83), none, .mov (.t 9)⟩,
                 ⟨(some 84), none, .mov (.t 6)⟩,
                 ⟨(some 85), none, .len .sl (.t 84)⟩,
                 ⟨(some 86), none, .ibin .lss (.t 83) (.t 85)⟩])
               (.cond (.t 86)
                .skip
                (.exit 7)))
              (.seq
               (.block 8
                (.seq
                 (.draw [
                   ⟨(some 89), none, .mov (.t 3)⟩,
                   ⟨(some 90), none, .mov (.t 6)⟩,
                   ⟨(some 91), none, .mov (.t 9)⟩,
                   ⟨(some 92), none, .iaddrSl 7 (.t 90) (.t 91)⟩,
                   ⟨(some 93), none, .faddr 0 (.t 92)⟩,
                   ⟨(some 94), none, .load false 1 (.t 93)⟩,
                   ⟨(some 95), none, .mov (.t 6)⟩,
                   ⟨(some 96), none, .mov (.t 9)⟩,
                   ⟨(some 97), none, .iaddrSl 7 (.t 95) (.t 96)⟩,
                   ⟨(some 98), none, .faddr 1 (.t 97)⟩,
                   ⟨(some 99), none, .load false 1 (.t 98)⟩,
                   ⟨(some 100), none, .mov (.t 6)⟩,
                   ⟨(some 101), none, .mov (.t 9)⟩,
                   ⟨(some 102), none, .iaddrSl 7 (.t 100) (.t 101)⟩,
                   ⟨(some 103), none, .faddr 2 (.t 102)⟩,
                   ⟨(some 104), none, .load true 4 (.t 103)⟩,
                   ⟨(some 105), none, .call (.c (.fn 28 [] [])) [(.t 89), (.t 94), (.t 99), (.t 104)]⟩,
                   ⟨(some 106), none, .eq true .iface true (.t 105) (.c .nili)⟩]
                   [[], [], [], [1, 2], [3, 1, 2], [4, 3, 1, 2], [], [], [6, 7], [8, 6, 7], [9, 8, 6, 7], [], [], [11, 12], [13, 11, 12], [14, 13, 11, 12], [0, 5, 10, 15, 4, 3, 1, 2, 9, 8, 6, 7, 14, 13, 11, 12], [16, 0, 5, 10, 15, 4, 3, 1, 2, 9, 8, 6, 7, 14, 13, 11, 12]])
                 (.cond (.t 106)
                  (.seq
                   (.reg [
                     ⟨(some 2), none, .mov (.c (.bool false))⟩])
                   .ret)
                  .skip)))
               (.reg [
                 ⟨(some 87), none, .mov (.t 9)⟩,
                 ⟨(some 88), none, .ibin .add (.t 87) (.c (.int .i64 1))⟩,
                 ⟨(some 9), none, .mov (.t 88)⟩]))))))
          (.seq
           (.reg [
             ⟨(some 107), none, .mov (.t 3)⟩,
             ⟨(some 108), none, .call (.c (.fn 35 [] [])) [(.t 107)]⟩,
             ⟨(some 109), none, .len .sl (.t 108)⟩,
             ⟨(some 110), none, .mov (.t 6)⟩,
             ⟨(some 111), none, .len .sl (.t 110)⟩,
             ⟨(some 112), none, .ibin .eql (.t 109) (.t 111)⟩,
             ⟨(some 2), none, .mov (.t 112)⟩])
           .ret)))))))))⟩

theorem c21 : cFun Tryd.prog [2, 3, 4, 0, 5, 6, 7, 8, 9, 10, 11, 12, 1, 13] Tryd.f21 = some F21 := by kernel_rfl
theorem c6 : cFun Tryd.prog [2, 3, 4, 0, 5, 6, 7, 8, 9, 10, 11, 12, 1, 13] Tryd.f6 = some F6 := by kernel_rfl
theorem c7 : cFun Tryd.prog [2, 3, 4, 0, 5, 6, 7, 8, 9, 10, 11, 12, 1, 13] Tryd.f7 = some F7 := by kernel_rfl
end Go.Proofs.YtnlolefgifeohaaDoor.E15
