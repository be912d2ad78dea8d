import Derived.Test.YtamkjgiemconbaaDoorFKinRD08
open Go AH
namespace Go.Proofs.YtamkjgiemconbaaDoor.D08
-- quitrent/quitrentlaw08.ints
def F41 : AFun := ⟨26, 2, [.tmp 4],
  (.seq
   (.reg [
     ⟨(some 4), none, .mov (.c (.bool false))⟩])
   (.seq
    (.seq
     (.reg [
       ⟨(some 6), none, .mov (.t 0)⟩,
       ⟨(some 7), none, .len .sl (.t 6)⟩,
       ⟨(some 8), none, .mov (.t 1)⟩,
       ⟨(some 9), none, .len .sl (.t 8)⟩,
       ⟨(some 10), none, .ibin .neq (.t 7) (.t 9)⟩])
     (.cond (.t 10)
      (.seq
       (.reg [
         ⟨(some 4), none, .mov (.c (.bool false))⟩])
       .ret)
      .skip))
    (.seq
     (.seq
      (.reg [
        ⟨(some 5), none, .mov (.c (.int .i64 0))⟩])
      (.block 0
       (.loop
        (.seq
         (.seq
          (.reg [
            ⟨(some 11), none, .mov (.t 5)⟩,
            ⟨(some 12), none, .mov (.t 0)⟩,
            ⟨(some 13), none, .len .sl (.t 12)⟩,
            ⟨(some 14), none, .ibin .lss (.t 11) (.t 13)⟩])
          (.cond (.t 14)
           .skip
           (.exit 0)))
         (.seq
          (.block 1
           (.seq
            (.draw [
              ⟨(some 17), none, .mov (.t 0)⟩,
              ⟨(some 18), none, .mov (.t 5)⟩,
              ⟨(some 19), none, .iaddrSl 1 (.t 17) (.t 18)⟩,
              ⟨(some 20), none, .load false 1 (.t 19)⟩,
              ⟨(some 21), none, .mov (.t 1)⟩,
              ⟨(some 22), none, .mov (.t 5)⟩,
              ⟨(some 23), none, .iaddrSl 1 (.t 21) (.t 22)⟩,
              ⟨(some 24), none, .load false 1 (.t 23)⟩,
              ⟨(some 25), none, .ibin .neq (.t 20) (.t 24)⟩]
              [[], [], [0, 1], [2, 0, 1], [], [], [4, 5], [6, 4, 5], [3, 7, 2, 0, 1, 6, 4, 5]])
            (.cond (.t 25)
             (.seq
              (.reg [
                ⟨(some 4), none, .mov (.c (.bool false))⟩])
              .ret)
             .skip)))
          (.reg [
            ⟨(some 15), none, .mov (.t 5)⟩,
            ⟨(some 16), none, .ibin .add (.t 15) (.c (.int .i64 1))⟩,
            ⟨(some 5), none, .mov (.t 16)⟩]))))))
     (.seq
      (.reg [
        ⟨(some 4), none, .mov (.c (.bool true))⟩])
      .ret))))⟩

-- quitrent/quitrentlaw08.awake
def F27 : AFun := ⟨49, 0, [.tmp 0],
  (.seq
   (.reg [
     ⟨(some 0), none, .mov (.c (.bool false))⟩])
   (.seq
    (.reg [
      ⟨(some 4), none, .call (.c (.fn 28 [] [])) []⟩,
      ⟨(some 1), none, .mov (.t 4)⟩])
    (.seq
     (.seq
      (.reg [
        ⟨(some 5), none, .mov (.t 1)⟩,
        ⟨(some 6), none, .eq false .ptr true (.t 5) (.c .nilp)⟩])
      (.cond (.t 6)
       (.seq
        (.reg [
          ⟨(some 0), none, .mov (.c (.bool false))⟩])
        .ret)
       .skip))
     (.seq
      (.reg [
        ⟨(some 7), none, .mov (.t 1)⟩,
        ⟨(some 8), none, .call (.c (.fn 33 [] [])) [(.t 7), (.c (.int .i64 2)), (.c (.int .i64 1))]⟩,
        ⟨(some 2), none, .mov (.t 8)⟩])
      (.seq
       (.reg [
         ⟨(some 9), none, .mov (.t 1)⟩,
         ⟨(some 10), none, .call (.c (.fn 33 [] [])) [(.t 9), (.c (.int .i64 3)), (.c (.int .i64 2))]⟩,
         ⟨(some 3), none, .mov (.t 10)⟩])
       (.seq
        (.reg [
          ⟨(some 11), none, .mov (.t 2)⟩,
          ⟨(some 12), none, .eq false .iface true (.t 11) (.c .nili)⟩,
          ⟨(some 13), none, .mov (.t 12)⟩,
          ⟨(some 14), (some (13, true)), .mov (.t 3)⟩,
          ⟨(some 15), (some (13, true)), .eq false .iface true (.t 14) (.c .nili)⟩,
          ⟨(some 16), none, .pick (.t 13) (.t 15) (.c (.bool false))⟩,
          ⟨(some 17), none, .mov (.t 16)⟩,
          ⟨(some 18), (some (17, true)), .mov (.t 1)⟩,
          ⟨(some 19), (some (17, true)), .call (.c (.fn 42 [] [])) [(.t 18), (.c (.int .i64 3))]⟩,
          ⟨(some 20), (some (17, true)), .bslice 1 3 [(.int .i64 0)] [(0, 1, (.c (.int .i64 1))), (1, 1, (.c (.int .i64 2))), (2, 1, (.c (.int .i64 3)))]⟩,
          ⟨(some 21), (some (17, true)), .call (.c (.fn 41 [] [])) [(.t 19), (.t 20)]⟩,
          ⟨(some 22), none, .pick (.t 17) (.t 21) (.c (.bool false))⟩,
          ⟨(some 23), none, .mov (.t 22)⟩,
          ⟨(some 24), (some (23, true)), .mov (.t 1)⟩,
          ⟨(some 25), (some (23, true)), .call (.c (.fn 39 [] [])) [(.t 24), (.c (.int .i64 3)), (.c (.int .i64 1))]⟩,
          ⟨(some 26), none, .pick (.t 23) (.t 25) (.c (.bool false))⟩,
          ⟨(some 27), none, .mov (.t 26)⟩,
          ⟨(some 28), (some (27, true)), .mov (.t 1)⟩,
          ⟨(some 29), (some (27, true)), .call (.c (.fn 39 [] [])) [(.t 28), (.c (.int .i64 1)), (.c (.int .i64 3))]⟩,
          ⟨(some 30), (some (27, true)), .un .not (.t 29)⟩,
          ⟨(some 31), none, .pick (.t 27) (.t 30) (.c (.bool false))⟩,
          ⟨(some 32), none, .mov (.t 31)⟩,
          ⟨(some 33), (some (32, true)), .mov (.t 1)⟩,
          ⟨(some 34), (some (32, true)), .call (.c (.fn 45 [] [])) [(.t 33), (.c (.int .i64 3))]⟩,
          ⟨(some 35), (some (32, true)), .ibin .eql (.t 34) (.c (.int .i64 2))⟩,
          ⟨(some 36), none, .pick (.t 32) (.t 35) (.c (.bool false))⟩,
          ⟨(some 37), none, .mov (.t 36)⟩,
          ⟨(some 38), (some (37, true)), .mov (.t 1)⟩,
          ⟨(some 39), (some (37, true)), .call (.c (.fn 33 [] [])) [(.t 38), (.c (.int .i64 3)), (.c (.int .i64 1))]⟩,
          ⟨(some 40), (some (37, true)), .call (.c (.fn 30 [] [])) [(.t 39)]⟩,
          ⟨(some 41), (some (37, true)), .ibin .eql (.t 40) (.c (.int .i64 6))⟩,
          ⟨(some 42), none, .pick (.t 37) (.t 41) (.c (.bool false))⟩,
          ⟨(some 43), none, .mov (.t 42)⟩,
          ⟨(some 44), (some (43, true)), .mov (.t 1)⟩,
          ⟨(some 45), (some (43, true)), .call (.c (.fn 31 [] [])) [(.t 44), (.c (.int .i64 2))]⟩,
          ⟨(some 46), (some (43, true)), .call (.c (.fn 30 [] [])) [(.t 45)]⟩,
          ⟨(some 47), (some (43, true)), .ibin .eql (.t 46) (.c (.int .i64 13))⟩,
          ⟨(some 48), none, .pick (.t 43) (.t 47) (.c (.bool false))⟩,
          ⟨(some 0), none, .mov (.t 48)⟩])
        .ret))))))⟩

-- quitrent/quitrentlaw08.KinExact
def F7 : AFun := ⟨219, 1, [.tmp 2],
  (.seq
   (.reg [
     ⟨(some 2), none, .mov (.c (.bool false))⟩])
   (.seq
    (.seq
     (.reg [
       ⟨(some 12), none, .call (.c (.fn 27 [] [])) []⟩,
       ⟨(some 13), none, .un .not (.t 12)⟩])
     (.cond (.t 13)
      (.seq
       (.reg [
         ⟨(some 2), none, .mov (.c (.bool false))⟩])
       .ret)
      .skip))
    (.seq
     (.reg [
       ⟨(some 14), none, .call (.c (.fn 28 [] [])) []⟩,
       ⟨(some 3), none, .mov (.t 14)⟩])
     (.seq
      (.reg [
        ⟨(some 15), none, .call (.c (.fn 29 [] [])) []⟩,
        ⟨(some 4), none, .mov (.t 15)⟩])
      (.seq
       (.seq
        (.reg [
          ⟨(some 5), none, .mov (.c (.int .i64 0))⟩])
        (.block 0
         (.loop
          (.seq
           (.seq
            (.reg [
              ⟨(some 16), none, .mov (.t 5)⟩,
              ⟨(some 17), none, .mov (.t 0)⟩,
              ⟨(some 18), none, .len .sl (.t 17)⟩,
              ⟨(some 19), none, .ibin .lss (.t 16) (.t 18)⟩,
              ⟨(some 20), none, .mov (.t 19)⟩,
              ⟨(some 21), (some (20, true)), .mov (.t 5)⟩,
              ⟨(some 22), (some (20, true)), .ibin .lss (.t 21) (.c (.int .i64 60))⟩,
              ⟨(some 23), none, .pick (.t 20) (.t 22) (.c (.bool false))⟩])
            (.cond (.t 23)
             .skip
             (.exit 0)))
           (.seq
            (.block 1
             (.seq
              (.reg [
                ⟨(some 26), none, .mov (.t 0)⟩,
                ⟨(some 27), none, .mov (.t 5)⟩,
                ⟨(some 28), none, .iaddrSl 3 (.t 26) (.t 27)⟩,
                ⟨(some 29), none, .load true 3 (.t 28)⟩,
                ⟨(some 6), none, .box 3 (.c (.agg [(.int .i64 0), (.int .i64 0), (.int .i64 0)]))⟩,
                ⟨none, none, .store 3 (.t 6) (.t 29)⟩])
              (.seq
               (.seq
                (.reg [
                  ⟨(some 30), none, .faddr 0 (.t 6)⟩,
                  ⟨(some 31), none, .load false 1 (.t 30)⟩,
                  ⟨(some 32), none, .ibin .eql (.t 31) (.c (.int .i64 4))⟩])
                (.cond (.t 32)
                 (.seq
                  (.draw [
                    ⟨(some 33), none, .mov (.t 3)⟩,
                    ⟨(some 34), none, .faddr 1 (.t 6)⟩,
                    ⟨(some 35), none, .load false 1 (.t 34)⟩,
                    ⟨(some 36), none, .call (.c (.fn 31 [] [])) [(.t 33), (.t 35)]⟩,
                    ⟨(some 37), none, .call (.c (.fn 30 [] [])) [(.t 36)]⟩,
                    ⟨(some 38), none, .mov (.t 4)⟩,
                    ⟨(some 39), none, .faddr 1 (.t 6)⟩,
                    ⟨(some 40), none, .load false 1 (.t 39)⟩,
                    ⟨(some 41), none, .call (.c (.fn 32 [] [])) [(.t 38), (.t 40)]⟩,
                    ⟨(some 42), none, .ibin .neq (.t 37) (.t 41)⟩]
                    [[], [], [1], [0, 2, 1], [3, 0, 2, 1], [], [], [6], [5, 7, 4, 6, 3, 0, 2, 1], [4, 8, 3, 0, 2, 1, 5, 7, 6]])
                  (.cond (.t 42)
                   (.seq
                    (.reg [
                      ⟨(some 2), none, .mov (.c (.bool false))⟩])
                    .ret)
                   .skip))
                 (.seq
                  (.draw [
                    ⟨(some 43), none, .mov (.t 3)⟩,
                    ⟨(some 44), none, .faddr 1 (.t 6)⟩,
                    ⟨(some 45), none, .load false 1 (.t 44)⟩,
                    ⟨(some 46), none, .faddr 2 (.t 6)⟩,
                    ⟨(some 47), none, .load false 1 (.t 46)⟩,
                    ⟨(some 48), none, .call (.c (.fn 33 [] [])) [(.t 43), (.t 45), (.t 47)]⟩,
                    ⟨(some 49), none, .call (.c (.fn 30 [] [])) [(.t 48)]⟩,
                    ⟨(some 50), none, .mov (.t 4)⟩,
                    ⟨(some 51), none, .faddr 1 (.t 6)⟩,
                    ⟨(some 52), none, .load false 1 (.t 51)⟩,
                    ⟨(some 53), none, .faddr 2 (.t 6)⟩,
                    ⟨(some 54), none, .load false 1 (.t 53)⟩,
                    ⟨(some 55), none, .call (.c (.fn 34 [] [])) [(.t 50), (.t 52), (.t 54)]⟩,
                    ⟨(some 56), none, .ibin .neq (.t 49) (.t 55)⟩]
                    [[], [], [1], [], [3], [0, 2, 4, 1, 3], [5, 0, 2, 4, 1, 3], [], [], [8], [], [10], [7, 9, 11, 6, 8, 10, 5, 0, 2, 4, 1, 3], [6, 12, 5, 0, 2, 4, 1, 3, 7, 9, 11, 8, 10]])
                  (.cond (.t 56)
                   (.seq
                    (.reg [
                      ⟨(some 2), none, .mov (.c (.bool false))⟩])
                    .ret)
                   .skip))))
               (.seq
                (.reg [
                  ⟨(some 7), none, .mov (.c (.int .i64 0))⟩])
                (.seq
                 (.seq
                  (.reg [
                    ⟨(some 57), none, .mov (.t 4)⟩,
                    ⟨(some 58), none, .faddr 1 (.t 6)⟩,
                    ⟨(some 59), none, .load false 1 (.t 58)⟩,
                    ⟨(some 60), none, .call (.c (.fn 35 [] [])) [(.t 57), (.t 59)]⟩])
                  (.cond (.t 60)
                   (.draw [
                     ⟨(some 61), none, .mov (.t 4)⟩,
                     ⟨(some 62), none, .faddr 1 (.t 6)⟩,
                     ⟨(some 63), none, .load false 1 (.t 62)⟩,
                     ⟨(some 64), none, .nilchk (.t 61)⟩,
                     ⟨(some 65), none, .iaddrArr 1000 1 (.t 64) (.t 63)⟩,
                     ⟨(some 66), none, .load false 1 (.t 65)⟩,
                     ⟨(some 7), none, .mov (.t 66)⟩]
                     [[], [], [1], [0], [3, 2, 0, 1], [4, 3, 2, 0, 1], [5, 0, 1, 2, 3, 4]])
                   .skip))
                 (.seq
                  (.reg [
                    ⟨(some 67), none, .mov (.t 4)⟩,
                    ⟨(some 68), none, .faddr 1 (.t 6)⟩,
                    ⟨(some 69), none, .load false 1 (.t 68)⟩,
                    ⟨(some 70), none, .call (.c (.fn 36 [] [])) [(.t 67), (.t 69)]⟩,
                    ⟨(some 8), none, .mov (.t 70)⟩])
                  (.seq
                   (.draw [
                     ⟨(some 71), none, .mov (.t 3)⟩,
                     ⟨(some 72), none, .faddr 1 (.t 6)⟩,
                     ⟨(some 73), none, .load false 1 (.t 72)⟩,
                     ⟨(some 74), none, .call (.c (.fn 37 [] [])) [(.t 71), (.t 73)]⟩,
                     ⟨(some 75), none, .mov (.t 4)⟩,
                     ⟨(some 76), none, .faddr 1 (.t 6)⟩,
                     ⟨(some 77), none, .load false 1 (.t 76)⟩,
                     ⟨(some 78), none, .call (.c (.fn 35 [] [])) [(.t 75), (.t 77)]⟩,
                     ⟨(some 79), none, .eq true .bool false (.t 74) (.t 78)⟩,
                     ⟨(some 80), none, .mov (.t 79)⟩,
                     ⟨(some 81), (some (80, false)), .mov (.t 3)⟩,
                     ⟨(some 82), (some (80, false)), .faddr 1 (.t 6)⟩,
                     ⟨(some 83), (some (80, false)), .load false 1 (.t 82)⟩,
                     ⟨(some 84), (some (80, false)), .call (.c (.fn 38 [] [])) [(.t 81), (.t 83)]⟩,
                     ⟨(some 85), (some (80, false)), .mov (.t 7)⟩,
                     ⟨(some 86), (some (80, false)), .ibin .neq (.t 84) (.t 85)⟩,
                     ⟨(some 87), none, .pick (.t 80) (.c (.bool true)) (.t 86)⟩,
                     ⟨(some 88), none, .mov (.t 87)⟩,
                     ⟨(some 89), (some (88, false)), .mov (.t 3)⟩,
                     ⟨(some 90), (some (88, false)), .faddr 1 (.t 6)⟩,
                     ⟨(some 91), (some (88, false)), .load false 1 (.t 90)⟩,
                     ⟨(some 92), (some (88, false)), .faddr 2 (.t 6)⟩,
                     ⟨(some 93), (some (88, false)), .load false 1 (.t 92)⟩,
                     ⟨(some 94), (some (88, false)), .call (.c (.fn 39 [] [])) [(.t 89), (.t 91), (.t 93)]⟩,
                     ⟨(some 95), (some (88, false)), .mov (.t 4)⟩,
                     ⟨(some 96), (some (88, false)), .faddr 1 (.t 6)⟩,
                     ⟨(some 97), (some (88, false)), .load false 1 (.t 96)⟩,
                     ⟨(some 98), (some (88, false)), .faddr 2 (.t 6)⟩,
                     ⟨(some 99), (some (88, false)), .load false 1 (.t 98)⟩,
                     ⟨(some 100), (some (88, false)), .call (.c (.fn 40 [] [])) [(.t 95), (.t 97), (.t 99)]⟩,
                     ⟨(some 101), (some (88, false)), .mov (.t 100)⟩,
                     ⟨(some 102), (some (101, true)), .mov (.t 4)⟩,
                     ⟨(some 103), (some (101, true)), .faddr 1 (.t 6)⟩,
                     ⟨(some 104), (some (101, true)), .load false 1 (.t 103)⟩,
                     ⟨(some 105), (some (101, true)), .call (.c (.fn 35 [] [])) [(.t 102), (.t 104)]⟩,
                     ⟨(some 106), (some (88, false)), .pick (.t 101) (.t 105) (.c (.bool false))⟩,
                     ⟨(some 107), (some (88, false)), .eq true .bool false (.t 94) (.t 106)⟩,
                     ⟨(some 108), none, .pick (.t 88) (.c (.bool true)) (.t 107)⟩,
                     ⟨(some 109), none, .mov (.t 108)⟩,
                     ⟨(some 110), (some (109, false)), .mov (.t 3)⟩,
                     ⟨(some 111), (some (109, false)), .faddr 1 (.t 6)⟩,
                     ⟨(some 112), (some (109, false)), .load false 1 (.t 111)⟩,
                     ⟨(some 113), (some (109, false)), .call (.c (.fn 42 [] [])) [(.t 110), (.t 112)]⟩,
                     ⟨(some 114), (some (109, false)), .mov (.t 8)⟩,
                     ⟨(some 115), (some (109, false)), .call (.c (.fn 41 [] [])) [(.t 113), (.t 114)]⟩,
                     ⟨(some 116), (some (109, false)), .un .not (.t 115)⟩,
                     ⟨(some 117), none, .pick (.t 109) (.c (.bool true)) (.t 116)⟩,
                     ⟨(some 118), none, .mov (.t 117)⟩,
                     ⟨(some 119), (some (118, false)), .mov (.t 3)⟩,
                     ⟨(some 120), (some (118, false)), .faddr 2 (.t 6)⟩,
                     ⟨(some 121), (some (118, false)), .load false 1 (.t 120)⟩,
                     ⟨(some 122), (some (118, false)), .call (.c (.fn 43 [] [])) [(.t 119), (.t 121)]⟩,
                     ⟨(some 123), (some (118, false)), .mov (.t 4)⟩,
                     ⟨(some 124), (some (118, false)), .faddr 2 (.t 6)⟩,
                     ⟨(some 125), (some (118, false)), .load false 1 (.t 124)⟩,
                     ⟨(some 126), (some (118, false)), .call (.c (.fn 44 [] [])) [(.t 123), (.t 125)]⟩,
                     ⟨(some 127), (some (118, false)), .call (.c (.fn 41 [] [])) [(.t 122), (.t 126)]⟩,
                     ⟨(some 128), (some (118, false)), .un .not (.t 127)⟩,
                     ⟨(some 129), none, .pick (.t 118) (.c (.bool true)) (.t 128)⟩,
                     ⟨(some 130), none, .mov (.t 129)⟩,
                     ⟨(some 131), (some (130, false)), .mov (.t 3)⟩,
                     ⟨(some 132), (some (130, false)), .faddr 1 (.t 6)⟩,
                     ⟨(some 133), (some (130, false)), .load false 1 (.t 132)⟩,
                     ⟨(some 134), (some (130, false)), .call (.c (.fn 45 [] [])) [(.t 131), (.t 133)]⟩,
                     ⟨(some 135), (some (130, false)), .mov (.t 8)⟩,
                     ⟨(some 136), (some (130, false)), .len .sl (.t 135)⟩,
                     ⟨(some 137), (some (130, false)), .ibin .sub (.t 136) (.c (.int .i64 1))⟩,
                     ⟨(some 138), (some (130, false)), .minmax true [(.t 137), (.c (.int .i64 0))]⟩,
                     ⟨(some 139), (some (130, false)), .ibin .neq (.t 134) (.t 138)⟩,
                     ⟨(some 140), none, .pick (.t 130) (.c (.bool true)) (.t 139)⟩]
                     [[], [], [1], [0, 2, 1], [], [], [5], [4, 6, 3, 5, 0, 2, 1], [3, 7, 0, 2, 1, 4, 6, 5], [8, 7, 3, 0, 2, 1, 4, 6, 5], [9, 8, 7, 3, 0, 2, 1, 4, 6, 5], [9, 8, 7, 3, 0, 2, 1, 4, 6, 5], [11, 9, 8, 7, 3, 0, 2, 1, 4, 6, 5], [10, 12, 9, 8, 7, 3, 0, 2, 1, 4, 6, 5, 11], [9, 8, 7, 3, 0, 2, 1, 4, 6, 5], [13, 14, 9, 10, 12, 8, 7, 3, 0, 2, 1, 4, 6, 5, 11], [9, 15, 8, 7, 3, 0, 2, 1, 4, 6, 5, 13, 14, 10, 12, 11], [16, 13, 9, 15, 8, 7, 3, 0, 2, 1, 4, 6, 5, 14, 10, 12, 11], [17, 16, 13, 9, 15, 8, 7, 3, 0, 2, 1, 4, 6, 5, 14, 10, 12, 11], [17, 16, 13, 9, 15, 8, 7, 3, 0, 2, 1, 4, 6, 5, 14, 10, 12, 11], [19, 17, 16, 13, 9, 15, 8, 7, 3, 0, 2, 1, 4, 6, 5, 14, 10, 12, 11], [17, 16, 13, 9, 15, 8, 7, 3, 0, 2, 1, 4, 6, 5, 14, 10, 12, 11], [21, 17, 16, 13, 9, 15, 8, 7, 3, 0, 2, 1, 4, 6, 5, 14, 10, 12, 11], [18, 20, 22, 17, 16, 13, 9, 15, 8, 7, 3, 0, 2, 1, 4, 6, 5, 14, 10, 12, 11, 19, 21], [17, 16, 13, 9, 15, 8, 7, 3, 0, 2, 1, 4, 6, 5, 14, 10, 12, 11], [17, 16, 13, 9, 15, 8, 7, 3, 0, 2, 1, 4, 6, 5, 14, 10, 12, 11], [25, 17, 16, 13, 9, 15, 8, 7, 3, 0, 2, 1, 4, 6, 5, 14, 10, 12, 11], [17, 16, 13, 9, 15, 8, 7, 3, 0, 2, 1, 4, 6, 5, 14, 10, 12, 11], [27, 17, 16, 13, 9, 15, 8, 7, 3, 0, 2, 1, 4, 6, 5, 14, 10, 12, 11], [24, 26, 28, 23, 17, 16, 13, 9, 15, 8, 7, 3, 0, 2, 1, 4, 6, 5, 14, 10, 12, 11, 25, 27, 18, 20, 22, 19, 21], [29, 17, 24, 26, 28, 23, 16, 13, 9, 15, 8, 7, 3, 0, 2, 1, 4, 6, 5, 14, 10, 12, 11, 25, 27, 18, 20, 22, 19, 21], [30, 29, 17, 24, 26, 28, 23, 16, 13, 9, 15, 8, 7, 3, 0, 2, 1, 4, 6, 5, 14, 10, 12, 11, 25, 27, 18, 20, 22, 19, 21], [30, 29, 17, 24, 26, 28, 23, 16, 13, 9, 15, 8, 7, 3, 0, 2, 1, 4, 6, 5, 14, 10, 12, 11, 25, 27, 18, 20, 22, 19, 21], [32, 30, 29, 17, 24, 26, 28, 23, 16, 13, 9, 15, 8, 7, 3, 0, 2, 1, 4, 6, 5, 14, 10, 12, 11, 25, 27, 18, 20, 22, 19, 21], [31, 33, 30, 29, 17, 24, 26, 28, 23, 16, 13, 9, 15, 8, 7, 3, 0, 2, 1, 4, 6, 5, 14, 10, 12, 11, 25, 27, 18, 20, 22, 19, 21, 32], [30, 34, 17, 29, 24, 26, 28, 23, 16, 13, 9, 15, 8, 7, 3, 0, 2, 1, 4, 6, 5, 14, 10, 12, 11, 25, 27, 18, 20, 22, 19, 21, 31, 33, 32], [23, 35, 17, 18, 20, 22, 16, 13, 9, 15, 8, 7, 3, 0, 2, 1, 4, 6, 5, 14, 10, 12, 11, 19, 21, 30, 34, 29, 24, 26, 28, 25, 27, 31, 33, 32], [17, 36, 16, 13, 9, 15, 8, 7, 3, 0, 2, 1, 4, 6, 5, 14, 10, 12, 11, 23, 35, 18, 20, 22, 19, 21, 30, 34, 29, 24, 26, 28, 25, 27, 31, 33, 32], [37, 34, 17, 36, 16, 13, 9, 15, 8, 7, 3, 0, 2, 1, 4, 6, 5, 14, 10, 12, 11, 23, 35, 18, 20, 22, 19, 21, 30, 29, 24, 26, 28, 25, 27, 31, 33, 32], [38, 37, 34, 17, 36, 16, 13, 9, 15, 8, 7, 3, 0, 2, 1, 4, 6, 5, 14, 10, 12, 11, 23, 35, 18, 20, 22, 19, 21, 30, 29, 24, 26, 28, 25, 27, 31, 33, 32], [38, 37, 34, 17, 36, 16, 13, 9, 15, 8, 7, 3, 0, 2, 1, 4, 6, 5, 14, 10, 12, 11, 23, 35, 18, 20, 22, 19, 21, 30, 29, 24, 26, 28, 25, 27, 31, 33, 32], [40, 38, 37, 34, 17, 36, 16, 13, 9, 15, 8, 7, 3, 0, 2, 1, 4, 6, 5, 14, 10, 12, 11, 23, 35, 18, 20, 22, 19, 21, 30, 29, 24, 26, 28, 25, 27, 31, 33, 32], [39, 41, 38, 37, 34, 17, 36, 16, 13, 9, 15, 8, 7, 3, 0, 2, 1, 4, 6, 5, 14, 10, 12, 11, 23, 35, 18, 20, 22, 19, 21, 30, 29, 24, 26, 28, 25, 27, 31, 33, 32, 40], [38, 37, 34, 17, 36, 16, 13, 9, 15, 8, 7, 3, 0, 2, 1, 4, 6, 5, 14, 10, 12, 11, 23, 35, 18, 20, 22, 19, 21, 30, 29, 24, 26, 28, 25, 27, 31, 33, 32], [42, 43, 38, 39, 41, 37, 34, 17, 36, 16, 13, 9, 15, 8, 7, 3, 0, 2, 1, 4, 6, 5, 14, 10, 12, 11, 23, 35, 18, 20, 22, 19, 21, 30, 29, 24, 26, 28, 25, 27, 31, 33, 32, 40], [44, 38, 42, 43, 39, 41, 37, 34, 17, 36, 16, 13, 9, 15, 8, 7, 3, 0, 2, 1, 4, 6, 5, 14, 10, 12, 11, 23, 35, 18, 20, 22, 19, 21, 30, 29, 24, 26, 28, 25, 27, 31, 33, 32, 40], [38, 45, 37, 34, 17, 36, 16, 13, 9, 15, 8, 7, 3, 0, 2, 1, 4, 6, 5, 14, 10, 12, 11, 23, 35, 18, 20, 22, 19, 21, 30, 29, 24, 26, 28, 25, 27, 31, 33, 32, 44, 42, 43, 39, 41, 40], [46, 44, 38, 45, 37, 34, 17, 36, 16, 13, 9, 15, 8, 7, 3, 0, 2, 1, 4, 6, 5, 14, 10, 12, 11, 23, 35, 18, 20, 22, 19, 21, 30, 29, 24, 26, 28, 25, 27, 31, 33, 32, 42, 43, 39, 41, 40], [47, 46, 44, 38, 45, 37, 34, 17, 36, 16, 13, 9, 15, 8, 7, 3, 0, 2, 1, 4, 6, 5, 14, 10, 12, 11, 23, 35, 18, 20, 22, 19, 21, 30, 29, 24, 26, 28, 25, 27, 31, 33, 32, 42, 43, 39, 41, 40], [47, 46, 44, 38, 45, 37, 34, 17, 36, 16, 13, 9, 15, 8, 7, 3, 0, 2, 1, 4, 6, 5, 14, 10, 12, 11, 23, 35, 18, 20, 22, 19, 21, 30, 29, 24, 26, 28, 25, 27, 31, 33, 32, 42, 43, 39, 41, 40], [49, 47, 46, 44, 38, 45, 37, 34, 17, 36, 16, 13, 9, 15, 8, 7, 3, 0, 2, 1, 4, 6, 5, 14, 10, 12, 11, 23, 35, 18, 20, 22, 19, 21, 30, 29, 24, 26, 28, 25, 27, 31, 33, 32, 42, 43, 39, 41, 40], [48, 50, 47, 46, 44, 38, 45, 37, 34, 17, 36, 16, 13, 9, 15, 8, 7, 3, 0, 2, 1, 4, 6, 5, 14, 10, 12, 11, 23, 35, 18, 20, 22, 19, 21, 30, 29, 24, 26, 28, 25, 27, 31, 33, 32, 42, 43, 39, 41, 40, 49], [47, 46, 44, 38, 45, 37, 34, 17, 36, 16, 13, 9, 15, 8, 7, 3, 0, 2, 1, 4, 6, 5, 14, 10, 12, 11, 23, 35, 18, 20, 22, 19, 21, 30, 29, 24, 26, 28, 25, 27, 31, 33, 32, 42, 43, 39, 41, 40], [47, 46, 44, 38, 45, 37, 34, 17, 36, 16, 13, 9, 15, 8, 7, 3, 0, 2, 1, 4, 6, 5, 14, 10, 12, 11, 23, 35, 18, 20, 22, 19, 21, 30, 29, 24, 26, 28, 25, 27, 31, 33, 32, 42, 43, 39, 41, 40], [53, 47, 46, 44, 38, 45, 37, 34, 17, 36, 16, 13, 9, 15, 8, 7, 3, 0, 2, 1, 4, 6, 5, 14, 10, 12, 11, 23, 35, 18, 20, 22, 19, 21, 30, 29, 24, 26, 28, 25, 27, 31, 33, 32, 42, 43, 39, 41, 40], [52, 54, 51, 47, 46, 44, 38, 45, 37, 34, 17, 36, 16, 13, 9, 15, 8, 7, 3, 0, 2, 1, 4, 6, 5, 14, 10, 12, 11, 23, 35, 18, 20, 22, 19, 21, 30, 29, 24, 26, 28, 25, 27, 31, 33, 32, 42, 43, 39, 41, 40, 53, 48, 50, 49], [51, 55, 47, 48, 50, 46, 44, 38, 45, 37, 34, 17, 36, 16, 13, 9, 15, 8, 7, 3, 0, 2, 1, 4, 6, 5, 14, 10, 12, 11, 23, 35, 18, 20, 22, 19, 21, 30, 29, 24, 26, 28, 25, 27, 31, 33, 32, 42, 43, 39, 41, 40, 49, 52, 54, 53], [56, 47, 51, 55, 48, 50, 46, 44, 38, 45, 37, 34, 17, 36, 16, 13, 9, 15, 8, 7, 3, 0, 2, 1, 4, 6, 5, 14, 10, 12, 11, 23, 35, 18, 20, 22, 19, 21, 30, 29, 24, 26, 28, 25, 27, 31, 33, 32, 42, 43, 39, 41, 40, 49, 52, 54, 53], [47, 57, 46, 44, 38, 45, 37, 34, 17, 36, 16, 13, 9, 15, 8, 7, 3, 0, 2, 1, 4, 6, 5, 14, 10, 12, 11, 23, 35, 18, 20, 22, 19, 21, 30, 29, 24, 26, 28, 25, 27, 31, 33, 32, 42, 43, 39, 41, 40, 56, 51, 55, 48, 50, 49, 52, 54, 53], [58, 56, 47, 57, 46, 44, 38, 45, 37, 34, 17, 36, 16, 13, 9, 15, 8, 7, 3, 0, 2, 1, 4, 6, 5, 14, 10, 12, 11, 23, 35, 18, 20, 22, 19, 21, 30, 29, 24, 26, 28, 25, 27, 31, 33, 32, 42, 43, 39, 41, 40, 51, 55, 48, 50, 49, 52, 54, 53], [59, 58, 56, 47, 57, 46, 44, 38, 45, 37, 34, 17, 36, 16, 13, 9, 15, 8, 7, 3, 0, 2, 1, 4, 6, 5, 14, 10, 12, 11, 23, 35, 18, 20, 22, 19, 21, 30, 29, 24, 26, 28, 25, 27, 31, 33, 32, 42, 43, 39, 41, 40, 51, 55, 48, 50, 49, 52, 54, 53], [59, 58, 56, 47, 57, 46, 44, 38, 45, 37, 34, 17, 36, 16, 13, 9, 15, 8, 7, 3, 0, 2, 1, 4, 6, 5, 14, 10, 12, 11, 23, 35, 18, 20, 22, 19, 21, 30, 29, 24, 26, 28, 25, 27, 31, 33, 32, 42, 43, 39, 41, 40, 51, 55, 48, 50, 49, 52, 54, 53], [61, 59, 58, 56, 47, 57, 46, 44, 38, 45, 37, 34, 17, 36, 16, 13, 9, 15, 8, 7, 3, 0, 2, 1, 4, 6, 5, 14, 10, 12, 11, 23, 35, 18, 20, 22, 19, 21, 30, 29, 24, 26, 28, 25, 27, 31, 33, 32, 42, 43, 39, 41, 40, 51, 55, 48, 50, 49, 52, 54, 53], [60, 62, 59, 58, 56, 47, 57, 46, 44, 38, 45, 37, 34, 17, 36, 16, 13, 9, 15, 8, 7, 3, 0, 2, 1, 4, 6, 5, 14, 10, 12, 11, 23, 35, 18, 20, 22, 19, 21, 30, 29, 24, 26, 28, 25, 27, 31, 33, 32, 42, 43, 39, 41, 40, 51, 55, 48, 50, 49, 52, 54, 53, 61], [59, 58, 56, 47, 57, 46, 44, 38, 45, 37, 34, 17, 36, 16, 13, 9, 15, 8, 7, 3, 0, 2, 1, 4, 6, 5, 14, 10, 12, 11, 23, 35, 18, 20, 22, 19, 21, 30, 29, 24, 26, 28, 25, 27, 31, 33, 32, 42, 43, 39, 41, 40, 51, 55, 48, 50, 49, 52, 54, 53], [64, 59, 58, 56, 47, 57, 46, 44, 38, 45, 37, 34, 17, 36, 16, 13, 9, 15, 8, 7, 3, 0, 2, 1, 4, 6, 5, 14, 10, 12, 11, 23, 35, 18, 20, 22, 19, 21, 30, 29, 24, 26, 28, 25, 27, 31, 33, 32, 42, 43, 39, 41, 40, 51, 55, 48, 50, 49, 52, 54, 53], [65, 59, 64, 58, 56, 47, 57, 46, 44, 38, 45, 37, 34, 17, 36, 16, 13, 9, 15, 8, 7, 3, 0, 2, 1, 4, 6, 5, 14, 10, 12, 11, 23, 35, 18, 20, 22, 19, 21, 30, 29, 24, 26, 28, 25, 27, 31, 33, 32, 42, 43, 39, 41, 40, 51, 55, 48, 50, 49, 52, 54, 53], [66, 59, 65, 64, 58, 56, 47, 57, 46, 44, 38, 45, 37, 34, 17, 36, 16, 13, 9, 15, 8, 7, 3, 0, 2, 1, 4, 6, 5, 14, 10, 12, 11, 23, 35, 18, 20, 22, 19, 21, 30, 29, 24, 26, 28, 25, 27, 31, 33, 32, 42, 43, 39, 41, 40, 51, 55, 48, 50, 49, 52, 54, 53], [63, 67, 59, 60, 62, 58, 56, 47, 57, 46, 44, 38, 45, 37, 34, 17, 36, 16, 13, 9, 15, 8, 7, 3, 0, 2, 1, 4, 6, 5, 14, 10, 12, 11, 23, 35, 18, 20, 22, 19, 21, 30, 29, 24, 26, 28, 25, 27, 31, 33, 32, 42, 43, 39, 41, 40, 51, 55, 48, 50, 49, 52, 54, 53, 61, 66, 65, 64], [59, 68, 58, 56, 47, 57, 46, 44, 38, 45, 37, 34, 17, 36, 16, 13, 9, 15, 8, 7, 3, 0, 2, 1, 4, 6, 5, 14, 10, 12, 11, 23, 35, 18, 20, 22, 19, 21, 30, 29, 24, 26, 28, 25, 27, 31, 33, 32, 42, 43, 39, 41, 40, 51, 55, 48, 50, 49, 52, 54, 53, 63, 67, 60, 62, 61, 66, 65, 64]])
                   (.cond (.t 140)
                    (.seq
                     (.reg [
                       ⟨(some 2), none, .mov (.c (.bool false))⟩])
                     .ret)
                    .skip))))))))
            (.reg [
              ⟨(some 24), none, .mov (.t 5)⟩,
              ⟨(some 25), none, .ibin .add (.t 24) (.c (.int .i64 1))⟩,
              ⟨(some 5), none, .mov (.t 25)⟩]))))))
       (.seq
        (.reg [
          ⟨(some 141), none, .mov (.t 3)⟩,
          ⟨(some 142), none, .call (.c (.fn 46 [] [])) [(.t 141)]⟩,
          ⟨(some 9), none, .mov (.t 142)⟩])
        (.seq
         (.seq
          (.reg [
            ⟨(some 143), none, .mov (.t 9)⟩,
            ⟨(some 144), none, .len .sl (.t 143)⟩,
            ⟨(some 145), none, .mov (.t 4)⟩,
            ⟨(some 146), none, .call (.c (.fn 47 [] [])) [(.t 145)]⟩,
            ⟨(some 147), none, .ibin .neq (.t 144) (.t 146)⟩])
          (.cond (.t 147)
           (.seq
            (.reg [
              ⟨(some 2), none, .mov (.c (.bool false))⟩])
            .ret)
           .skip))
         (.seq
          (.seq
           (.reg [
             ⟨(some 10), none, .mov (.c (.int .i64 0))⟩])
           (.block 2
            (.loop
             (.seq
              (.seq
               (.reg [
                 ⟨(some 148), none, .mov (.t 10)⟩,
                 ⟨(some 149), none, .mov (.t 9)⟩,
                 ⟨(some 150), none, .len .sl (.t 149)⟩,
                 ⟨(some 151), none, .ibin .lss (.t 148) (.t 150)⟩])
               (.cond (.t 151)
                .skip
                (.exit 2)))
              (.seq
               (.block 3
                (.seq
                 (.draw [
                   ⟨(some 154), none, .mov (.t 4)⟩,
                   ⟨(some 155), none, .mov (.t 9)⟩,
                   ⟨(some 156), none, .mov (.t 10)⟩,
                   ⟨(some 157), none, .iaddrSl 1 (.t 155) (.t 156)⟩,
                   ⟨(some 158), none, .load false 1 (.t 157)⟩,
                   ⟨(some 159), none, .call (.c (.fn 35 [] [])) [(.t 154), (.t 158)]⟩,
                   ⟨(some 160), none, .un .not (.t 159)⟩,
                   ⟨(some 161), none, .mov (.t 160)⟩,
                   ⟨(some 162), (some (161, false)), .mov (.t 10)⟩,
                   ⟨(some 163), (some (161, false)), .ibin .gtr (.t 162) (.c (.int .i64 0))⟩,
                   ⟨(some 164), (some (161, false)), .mov (.t 163)⟩,
                   ⟨(some 165), (some (164, true)), .mov (.t 9)⟩,
                   ⟨(some 166), (some (164, true)), .mov (.t 10)⟩,
                   ⟨(some 167), (some (164, true)), .ibin .sub (.t 166) (.c (.int .i64 1))⟩,
                   ⟨(some 168), (some (164, true)), .iaddrSl 1 (.t 165) (.t 167)⟩,
                   ⟨(some 169), (some (164, true)), .load false 1 (.t 168)⟩,
                   ⟨(some 170), (some (164, true)), .mov (.t 9)⟩,
                   ⟨(some 171), (some (164, true)), .mov (.t 10)⟩,
                   ⟨(some 172), (some (164, true)), .iaddrSl 1 (.t 170) (.t 171)⟩,
                   ⟨(some 173), (some (164, true)), .load false 1 (.t 172)⟩,
                   ⟨(some 174), (some (164, true)), .ibin .geq (.t 169) (.t 173)⟩,
                   ⟨(some 175), (some (161, false)), .pick (.t 164) (.t 174) (.c (.bool false))⟩,
                   ⟨(some 176), none, .pick (.t 161) (.c (.bool true)) (.t 175)⟩]
                   [[], [], [], [1, 2], [3, 1, 2], [0, 4, 3, 1, 2], [5, 0, 4, 3, 1, 2], [6, 5, 0, 4, 3, 1, 2], [7, 6, 5, 0, 4, 3, 1, 2], [8, 7, 6, 5, 0, 4, 3, 1, 2], [9, 7, 8, 6, 5, 0, 4, 3, 1, 2], [10, 9, 7, 8, 6, 5, 0, 4, 3, 1, 2], [10, 9, 7, 8, 6, 5, 0, 4, 3, 1, 2], [12, 10, 9, 7, 8, 6, 5, 0, 4, 3, 1, 2], [11, 13, 10, 9, 7, 8, 6, 5, 0, 4, 3, 1, 2, 12], [14, 10, 11, 13, 9, 7, 8, 6, 5, 0, 4, 3, 1, 2, 12], [10, 9, 7, 8, 6, 5, 0, 4, 3, 1, 2], [10, 9, 7, 8, 6, 5, 0, 4, 3, 1, 2], [16, 17, 10, 9, 7, 8, 6, 5, 0, 4, 3, 1, 2], [18, 10, 16, 17, 9, 7, 8, 6, 5, 0, 4, 3, 1, 2], [15, 19, 10, 14, 11, 13, 9, 7, 8, 6, 5, 0, 4, 3, 1, 2, 12, 18, 16, 17], [10, 20, 7, 9, 8, 6, 5, 0, 4, 3, 1, 2, 15, 19, 14, 11, 13, 12, 18, 16, 17], [7, 21, 6, 5, 0, 4, 3, 1, 2, 10, 20, 9, 8, 15, 19, 14, 11, 13, 12, 18, 16, 17]])
                 (.cond (.t 176)
                  (.seq
                   (.reg [
                     ⟨(some 2), none, .mov (.c (.bool false))⟩])
                   .ret)
                  .skip)))
               (.reg [
                 ⟨(some 152), none, .mov (.t 10)⟩,
                 ⟨(some 153), none, .ibin .add (.t 152) (.c (.int .i64 1))⟩,
                 ⟨(some 10), none, .mov (.t 153)⟩]))))))
          (.seq
           (.reg [
             ⟨(some 11), none, .mov (.c .nilp)⟩])
           (.seq
            (.reg [
              ⟨(some 177), none, .mov (.t 11)⟩,
              ⟨(some 178), none, .call (.c (.fn 33 [] [])) [(.t 177), (.c (.int .i64 1)), (.c (.int .i64 1))]⟩,
              ⟨(some 179), none, .call (.c (.fn 30 [] [])) [(.t 178)]⟩,
              ⟨(some 180), none, .ibin .eql (.t 179) (.c (.int .i64 2))⟩,
              ⟨(some 181), none, .mov (.t 180)⟩,
              ⟨(some 182), (some (181, true)), .mov (.t 11)⟩,
              ⟨(some 183), (some (181, true)), .call (.c (.fn 31 [] [])) [(.t 182), (.c (.int .i64 1))]⟩,
              ⟨(some 184), (some (181, true)), .call (.c (.fn 30 [] [])) [(.t 183)]⟩,
              ⟨(some 185), (some (181, true)), .ibin .eql (.t 184) (.c (.int .i64 2))⟩,
              ⟨(some 186), none, .pick (.t 181) (.t 185) (.c (.bool false))⟩,
              ⟨(some 187), none, .mov (.t 186)⟩,
              ⟨(some 188), (some (187, true)), .mov (.t 11)⟩,
              ⟨(some 189), (some (187, true)), .call (.c (.fn 38 [] [])) [(.t 188), (.c (.int .i64 1))]⟩,
              ⟨(some 190), (some (187, true)), .ibin .eql (.t 189) (.c (.int .i64 0))⟩,
              ⟨(some 191), none, .pick (.t 187) (.t 190) (.c (.bool false))⟩,
              ⟨(some 192), none, .mov (.t 191)⟩,
              ⟨(some 193), (some (192, true)), .mov (.t 11)⟩,
              ⟨(some 194), (some (192, true)), .call (.c (.fn 37 [] [])) [(.t 193), (.c (.int .i64 1))]⟩,
              ⟨(some 195), (some (192, true)), .un .not (.t 194)⟩,
              ⟨(some 196), none, .pick (.t 192) (.t 195) (.c (.bool false))⟩,
              ⟨(some 197), none, .mov (.t 196)⟩,
              ⟨(some 198), (some (197, true)), .mov (.t 11)⟩,
              ⟨(some 199), (some (197, true)), .call (.c (.fn 39 [] [])) [(.t 198), (.c (.int .i64 1)), (.c (.int .i64 1))]⟩,
              ⟨(some 200), (some (197, true)), .un .not (.t 199)⟩,
              ⟨(some 201), none, .pick (.t 197) (.t 200) (.c (.bool false))⟩,
              ⟨(some 202), none, .mov (.t 201)⟩,
              ⟨(some 203), (some (202, true)), .mov (.t 11)⟩,
              ⟨(some 204), (some (202, true)), .call (.c (.fn 42 [] [])) [(.t 203), (.c (.int .i64 1))]⟩,
              ⟨(some 205), (some (202, true)), .len .sl (.t 204)⟩,
              ⟨(some 206), (some (202, true)), .mov (.t 11)⟩,
              ⟨(some 207), (some (202, true)), .call (.c (.fn 43 [] [])) [(.t 206), (.c (.int .i64 1))]⟩,
              ⟨(some 208), (some (202, true)), .len .sl (.t 207)⟩,
              ⟨(some 209), (some (202, true)), .ibin .add (.t 205) (.t 208)⟩,
              ⟨(some 210), (some (202, true)), .mov (.t 11)⟩,
              ⟨(some 211), (some (202, true)), .call (.c (.fn 46 [] [])) [(.t 210)]⟩,
              ⟨(some 212), (some (202, true)), .len .sl (.t 211)⟩,
              ⟨(some 213), (some (202, true)), .ibin .add (.t 209) (.t 212)⟩,
              ⟨(some 214), (some (202, true)), .mov (.t 11)⟩,
              ⟨(some 215), (some (202, true)), .call (.c (.fn 45 [] [])) [(.t 214), (.c (.int .i64 1))]⟩,
              ⟨(some 216), (some (202, true)), .ibin .add (.t 213) (.t 215)⟩,
              ⟨(some 217), (some (202, true)), .ibin .eql (.t 216) (.c (.int .i64 0))⟩,
              ⟨(some 218), none, .pick (.t 202) (.t 217) (.c (.bool false))⟩,
              ⟨(some 2), none, .mov (.t 218)⟩])
            .ret))))))))))⟩

-- quitrent/quitrentlaw08.KinOrder
def F8 : AFun := ⟨217, 4, [.tmp 8],
  (.seq
   (.reg [
     ⟨(some 8), none, .mov (.c (.bool false))⟩])
   (.seq
    (.seq
     (.reg [
       ⟨(some 17), none, .call (.c (.fn 27 [] [])) []⟩,
       ⟨(some 18), none, .un .not (.t 17)⟩])
     (.cond (.t 18)
      (.seq
       (.reg [
         ⟨(some 8), none, .mov (.c (.bool false))⟩])
       .ret)
      .skip))
    (.seq
     (.reg [
       ⟨(some 19), none, .call (.c (.fn 28 [] [])) []⟩,
       ⟨(some 9), none, .mov (.t 19)⟩])
     (.seq
      (.reg [
        ⟨(some 10), none, .mov (.c (.int .i64 1))⟩])
      (.seq
       (.seq
        (.reg [
          ⟨(some 11), none, .mov (.c (.int .i64 0))⟩])
        (.block 0
         (.loop
          (.seq
           (.seq
            (.reg [
              ⟨(some 20), none, .mov (.t 11)⟩,
              ⟨(some 21), none, .mov (.t 0)⟩,
              ⟨(some 22), none, .len .sl (.t 21)⟩,
              ⟨(some 23), none, .ibin .lss (.t 20) (.t 22)⟩,
              ⟨(some 24), none, .mov (.t 23)⟩,
              ⟨(some 25), (some (24, true)), .mov (.t 11)⟩,
              ⟨(some 26), (some (24, true)), .ibin .lss (.t 25) (.c (.int .i64 15))⟩,
              ⟨(some 27), none, .pick (.t 24) (.t 26) (.c (.bool false))⟩])
            (.cond (.t 27)
             .skip
             (.exit 0)))
           (.seq
            (.block 1
             (.seq
              (.seq
               (.reg [
                 ⟨(some 30), none, .mov (.t 9)⟩,
                 ⟨(some 31), none, .mov (.t 10)⟩,
                 ⟨(some 32), none, .ibin .add (.t 31) (.c (.int .i64 1))⟩,
                 ⟨(some 33), none, .mov (.t 0)⟩,
                 ⟨(some 34), none, .mov (.t 11)⟩,
                 ⟨(some 35), none, .iaddrSl 1 (.t 33) (.t 34)⟩,
                 ⟨(some 36), none, .load false 1 (.t 35)⟩,
                 ⟨(some 37), none, .i2i .u64 (.t 36)⟩,
                 ⟨(some 38), none, .mov (.t 10)⟩,
                 ⟨(some 39), none, .i2i .u64 (.t 38)⟩,
                 ⟨(some 40), none, .ibin .rem (.t 37) (.t 39)⟩,
                 ⟨(some 41), none, .i2i .i64 (.t 40)⟩,
                 ⟨(some 42), none, .ibin .add (.c (.int .i64 1)) (.t 41)⟩,
                 ⟨(some 43), none, .call (.c (.fn 33 [] [])) [(.t 30), (.t 32), (.t 42)]⟩,
                 ⟨(some 44), none, .eq true .iface true (.t 43) (.c .nili)⟩])
               (.cond (.t 44)
                (.seq
                 (.reg [
                   ⟨(some 8), none, .mov (.c (.bool false))⟩])
                 .ret)
                .skip))
              (.reg [
                ⟨(some 45), none, .mov (.t 10)⟩,
                ⟨(some 46), none, .ibin .add (.t 45) (.c (.int .i64 1))⟩,
                ⟨(some 10), none, .mov (.t 46)⟩])))
            (.reg [
              ⟨(some 28), none, .mov (.t 11)⟩,
              ⟨(some 29), none, .ibin .add (.t 28) (.c (.int .i64 1))⟩,
              ⟨(some 11), none, .mov (.t 29)⟩]))))))
       (.seq
        (.reg [
          ⟨(some 47), none, .mov (.t 1)⟩,
          ⟨(some 48), none, .i2i .u64 (.t 47)⟩,
          ⟨(some 49), none, .mov (.t 10)⟩,
          ⟨(some 50), none, .i2i .u64 (.t 49)⟩,
          ⟨(some 51), none, .ibin .rem (.t 48) (.t 50)⟩,
          ⟨(some 52), none, .i2i .i64 (.t 51)⟩,
          ⟨(some 53), none, .ibin .add (.c (.int .i64 1)) (.t 52)⟩,
          ⟨(some 12), none, .mov (.t 53)⟩])
        (.seq
         (.reg [
           ⟨(some 54), none, .mov (.t 2)⟩,
           ⟨(some 55), none, .i2i .u64 (.t 54)⟩,
           ⟨(some 56), none, .mov (.t 10)⟩,
           ⟨(some 57), none, .i2i .u64 (.t 56)⟩,
           ⟨(some 58), none, .ibin .rem (.t 55) (.t 57)⟩,
           ⟨(some 59), none, .i2i .i64 (.t 58)⟩,
           ⟨(some 60), none, .ibin .add (.c (.int .i64 1)) (.t 59)⟩,
           ⟨(some 13), none, .mov (.t 60)⟩])
         (.seq
          (.reg [
            ⟨(some 61), none, .mov (.t 3)⟩,
            ⟨(some 62), none, .i2i .u64 (.t 61)⟩,
            ⟨(some 63), none, .mov (.t 10)⟩,
            ⟨(some 64), none, .i2i .u64 (.t 63)⟩,
            ⟨(some 65), none, .ibin .rem (.t 62) (.t 64)⟩,
            ⟨(some 66), none, .i2i .i64 (.t 65)⟩,
            ⟨(some 67), none, .ibin .add (.c (.int .i64 1)) (.t 66)⟩,
            ⟨(some 14), none, .mov (.t 67)⟩])
          (.seq
           (.seq
            (.reg [
              ⟨(some 68), none, .mov (.t 9)⟩,
              ⟨(some 69), none, .mov (.t 12)⟩,
              ⟨(some 70), none, .call (.c (.fn 39 [] [])) [(.t 68), (.t 69), (.c (.int .i64 1))]⟩,
              ⟨(some 71), none, .un .not (.t 70)⟩,
              ⟨(some 72), none, .mov (.t 71)⟩,
              ⟨(some 73), (some (72, false)), .mov (.t 9)⟩,
              ⟨(some 74), (some (72, false)), .mov (.t 12)⟩,
              ⟨(some 75), (some (72, false)), .mov (.t 12)⟩,
              ⟨(some 76), (some (72, false)), .call (.c (.fn 39 [] [])) [(.t 73), (.t 74), (.t 75)]⟩,
              ⟨(some 77), (some (72, false)), .un .not (.t 76)⟩,
              ⟨(some 78), none, .pick (.t 72) (.c (.bool true)) (.t 77)⟩,
              ⟨(some 79), none, .mov (.t 78)⟩,
              ⟨(some 80), (some (79, false)), .mov (.t 12)⟩,
              ⟨(some 81), (some (79, false)), .mov (.t 13)⟩,
              ⟨(some 82), (some (79, false)), .ibin .neq (.t 80) (.t 81)⟩,
              ⟨(some 83), (some (79, false)), .mov (.t 82)⟩,
              ⟨(some 84), (some (83, true)), .mov (.t 9)⟩,
              ⟨(some 85), (some (83, true)), .mov (.t 12)⟩,
              ⟨(some 86), (some (83, true)), .mov (.t 13)⟩,
              ⟨(some 87), (some (83, true)), .call (.c (.fn 39 [] [])) [(.t 84), (.t 85), (.t 86)]⟩,
              ⟨(some 88), (some (79, false)), .pick (.t 83) (.t 87) (.c (.bool false))⟩,
              ⟨(some 89), (some (79, false)), .mov (.t 88)⟩,
              ⟨(some 90), (some (89, true)), .mov (.t 9)⟩,
              ⟨(some 91), (some (89, true)), .mov (.t 13)⟩,
              ⟨(some 92), (some (89, true)), .mov (.t 12)⟩,
              ⟨(some 93), (some (89, true)), .call (.c (.fn 39 [] [])) [(.t 90), (.t 91), (.t 92)]⟩,
              ⟨(some 94), (some (79, false)), .pick (.t 89) (.t 93) (.c (.bool false))⟩,
              ⟨(some 95), none, .pick (.t 79) (.c (.bool true)) (.t 94)⟩,
              ⟨(some 96), none, .mov (.t 95)⟩,
              ⟨(some 97), (some (96, false)), .mov (.t 9)⟩,
              ⟨(some 98), (some (96, false)), .mov (.t 12)⟩,
              ⟨(some 99), (some (96, false)), .mov (.t 13)⟩,
              ⟨(some 100), (some (96, false)), .call (.c (.fn 39 [] [])) [(.t 97), (.t 98), (.t 99)]⟩,
              ⟨(some 101), (some (96, false)), .mov (.t 100)⟩,
              ⟨(some 102), (some (101, true)), .mov (.t 9)⟩,
              ⟨(some 103), (some (101, true)), .mov (.t 13)⟩,
              ⟨(some 104), (some (101, true)), .mov (.t 14)⟩,
              ⟨(some 105), (some (101, true)), .call (.c (.fn 39 [] [])) [(.t 102), (.t 103), (.t 104)]⟩,
              ⟨(some 106), (some (96, false)), .pick (.t 101) (.t 105) (.c (.bool false))⟩,
              ⟨(some 107), (some (96, false)), .mov (.t 106)⟩,
              ⟨(some 108), (some (107, true)), .mov (.t 9)⟩,
              ⟨(some 109), (some (107, true)), .mov (.t 12)⟩,
              ⟨(some 110), (some (107, true)), .mov (.t 14)⟩,
              ⟨(some 111), (some (107, true)), .call (.c (.fn 39 [] [])) [(.t 108), (.t 109), (.t 110)]⟩,
              ⟨(some 112), (some (107, true)), .un .not (.t 111)⟩,
              ⟨(some 113), (some (96, false)), .pick (.t 107) (.t 112) (.c (.bool false))⟩,
              ⟨(some 114), none, .pick (.t 96) (.c (.bool true)) (.t 113)⟩])
            (.cond (.t 114)
             (.seq
              (.reg [
                ⟨(some 8), none, .mov (.c (.bool false))⟩])
              .ret)
             .skip))
           (.seq
            (.seq
             (.reg [
               ⟨(some 115), none, .mov (.t 9)⟩,
               ⟨(some 116), none, .mov (.t 12)⟩,
               ⟨(some 117), none, .mov (.t 13)⟩,
               ⟨(some 118), none, .call (.c (.fn 39 [] [])) [(.t 115), (.t 116), (.t 117)]⟩,
               ⟨(some 119), none, .mov (.t 9)⟩,
               ⟨(some 120), none, .mov (.t 12)⟩,
               ⟨(some 121), none, .call (.c (.fn 45 [] [])) [(.t 119), (.t 120)]⟩,
               ⟨(some 122), none, .mov (.t 9)⟩,
               ⟨(some 123), none, .mov (.t 13)⟩,
               ⟨(some 124), none, .call (.c (.fn 45 [] [])) [(.t 122), (.t 123)]⟩,
               ⟨(some 125), none, .ibin .geq (.t 121) (.t 124)⟩,
               ⟨(some 126), none, .mov (.t 125)⟩,
               ⟨(some 127), (some (126, true)), .mov (.t 9)⟩,
               ⟨(some 128), (some (126, true)), .mov (.t 12)⟩,
               ⟨(some 129), (some (126, true)), .call (.c (.fn 42 [] [])) [(.t 127), (.t 128)]⟩,
               ⟨(some 130), (some (126, true)), .mov (.t 9)⟩,
               ⟨(some 131), (some (126, true)), .mov (.t 13)⟩,
               ⟨(some 132), (some (126, true)), .call (.c (.fn 45 [] [])) [(.t 130), (.t 131)]⟩,
               ⟨(some 133), (some (126, true)), .iaddrSl 1 (.t 129) (.t 132)⟩,
               ⟨(some 134), (some (126, true)), .load false 1 (.t 133)⟩,
               ⟨(some 135), (some (126, true)), .mov (.t 13)⟩,
               ⟨(some 136), (some (126, true)), .ibin .eql (.t 134) (.t 135)⟩,
               ⟨(some 137), none, .pick (.t 126) (.t 136) (.c (.bool false))⟩,
               ⟨(some 138), none, .eq true .bool false (.t 118) (.t 137)⟩])
             (.cond (.t 138)
              (.seq
               (.reg [
                 ⟨(some 8), none, .mov (.c (.bool false))⟩])
               .ret)
              .skip))
            (.seq
             (.reg [
               ⟨(some 139), none, .mov (.t 9)⟩,
               ⟨(some 140), none, .mov (.t 12)⟩,
               ⟨(some 141), none, .call (.c (.fn 43 [] [])) [(.t 139), (.t 140)]⟩,
               ⟨(some 15), none, .mov (.t 141)⟩])
             (.seq
              (.seq
               (.reg [
                 ⟨(some 16), none, .mov (.c (.int .i64 0))⟩])
               (.block 2
                (.loop
                 (.seq
                  (.seq
                   (.reg [
                     ⟨(some 142), none, .mov (.t 16)⟩,
                     ⟨(some 143), none, .mov (.t 15)⟩,
                     ⟨(some 144), none, .len .sl (.t 143)⟩,
                     ⟨(some 145), none, .ibin .lss (.t 142) (.t 144)⟩])
                   (.cond (.t 145)
                    .skip
                    (.exit 2)))
                  (.seq
                   (.block 3
                    (.seq
                     (.reg [
                       ⟨(some 148), none, .mov (.t 9)⟩,
                       ⟨(some 149), none, .mov (.t 15)⟩,
                       ⟨(some 150), none, .mov (.t 16)⟩,
                       ⟨(some 151), none, .iaddrSl 1 (.t 149) (.t 150)⟩,
                       ⟨(some 152), none, .load false 1 (.t 151)⟩,
                       ⟨(some 153), none, .call (.c (.fn 38 [] [])) [(.t 148), (.t 152)]⟩,
                       ⟨(some 154), none, .mov (.t 12)⟩,
                       ⟨(some 155), none, .ibin .neq (.t 153) (.t 154)⟩,
                       ⟨(some 156), none, .mov (.t 155)⟩,
                       ⟨(some 157), (some (156, false)), .mov (.t 9)⟩,
                       ⟨(some 158), (some (156, false)), .mov (.t 15)⟩,
                       ⟨(some 159), (some (156, false)), .mov (.t 16)⟩,
                       ⟨(some 160), (some (156, false)), .iaddrSl 1 (.t 158) (.t 159)⟩,
                       ⟨(some 161), (some (156, false)), .load false 1 (.t 160)⟩,
                       ⟨(some 162), (some (156, false)), .call (.c (.fn 45 [] [])) [(.t 157), (.t 161)]⟩,
                       ⟨(some 163), (some (156, false)), .mov (.t 9)⟩,
                       ⟨(some 164), (some (156, false)), .mov (.t 12)⟩,
                       ⟨(some 165), (some (156, false)), .call (.c (.fn 45 [] [])) [(.t 163), (.t 164)]⟩,
                       ⟨(some 166), (some (156, false)), .ibin .add (.t 165) (.c (.int .i64 1))⟩,
                       ⟨(some 167), (some (156, false)), .ibin .neq (.t 162) (.t 166)⟩,
                       ⟨(some 168), none, .pick (.t 156) (.c (.bool true)) (.t 167)⟩])
                     (.cond (.t 168)
                      (.seq
                       (.reg [
                         ⟨(some 8), none, .mov (.c (.bool false))⟩])
                       .ret)
                      .skip)))
                   (.reg [
                     ⟨(some 146), none, .mov (.t 16)⟩,
                     ⟨(some 147), none, .ibin .add (.t 146) (.c (.int .i64 1))⟩,
                     ⟨(some 16), none, .mov (.t 147)⟩]))))))
              (.seq
               (.seq
                (.reg [
                  ⟨(some 169), none, .mov (.t 15)⟩,
                  ⟨(some 170), none, .len .sl (.t 169)⟩,
                  ⟨(some 171), none, .ibin .gtr (.t 170) (.c (.int .i64 0))⟩,
                  ⟨(some 172), none, .mov (.t 171)⟩,
                  ⟨(some 173), (some (172, false)), .mov (.t 12)⟩,
                  ⟨(some 174), (some (172, false)), .ibin .eql (.t 173) (.c (.int .i64 1))⟩,
                  ⟨(some 175), none, .pick (.t 172) (.c (.bool true)) (.t 174)⟩])
                (.cond (.t 175)
                 (.seq
                  (.reg [
                    ⟨(some 176), none, .mov (.t 9)⟩,
                    ⟨(some 177), none, .mov (.t 12)⟩,
                    ⟨(some 178), none, .call (.c (.fn 31 [] [])) [(.t 176), (.t 177)]⟩,
                    ⟨(some 179), none, .call (.c (.fn 30 [] [])) [(.t 178)]⟩,
                    ⟨(some 180), none, .ibin .eql (.t 179) (.c (.int .i64 13))⟩,
                    ⟨(some 181), none, .mov (.t 180)⟩,
                    ⟨(some 182), (some (181, true)), .mov (.t 9)⟩,
                    ⟨(some 183), (some (181, true)), .mov (.t 12)⟩,
                    ⟨(some 184), (some (181, true)), .call (.c (.fn 37 [] [])) [(.t 182), (.t 183)]⟩,
                    ⟨(some 185), none, .pick (.t 181) (.t 184) (.c (.bool false))⟩,
                    ⟨(some 8), none, .mov (.t 185)⟩])
                  .ret)
                 .skip))
               (.seq
                (.reg [
                  ⟨(some 186), none, .mov (.t 9)⟩,
                  ⟨(some 187), none, .mov (.t 12)⟩,
                  ⟨(some 188), none, .call (.c (.fn 31 [] [])) [(.t 186), (.t 187)]⟩,
                  ⟨(some 189), none, .eq false .iface true (.t 188) (.c .nili)⟩,
                  ⟨(some 190), none, .mov (.t 189)⟩,
                  ⟨(some 191), (some (190, true)), .mov (.t 9)⟩,
                  ⟨(some 192), (some (190, true)), .mov (.t 12)⟩,
                  ⟨(some 193), (some (190, true)), .call (.c (.fn 37 [] [])) [(.t 191), (.t 192)]⟩,
                  ⟨(some 194), (some (190, true)), .un .not (.t 193)⟩,
                  ⟨(some 195), none, .pick (.t 190) (.t 194) (.c (.bool false))⟩,
                  ⟨(some 196), none, .mov (.t 195)⟩,
                  ⟨(some 197), (some (196, true)), .mov (.t 9)⟩,
                  ⟨(some 198), (some (196, true)), .mov (.t 12)⟩,
                  ⟨(some 199), (some (196, true)), .call (.c (.fn 39 [] [])) [(.t 197), (.t 198), (.c (.int .i64 1))]⟩,
                  ⟨(some 200), (some (196, true)), .un .not (.t 199)⟩,
                  ⟨(some 201), none, .pick (.t 196) (.t 200) (.c (.bool false))⟩,
                  ⟨(some 202), none, .mov (.t 201)⟩,
                  ⟨(some 203), (some (202, true)), .mov (.t 9)⟩,
                  ⟨(some 204), (some (202, true)), .call (.c (.fn 46 [] [])) [(.t 203)]⟩,
                  ⟨(some 205), (some (202, true)), .len .sl (.t 204)⟩,
                  ⟨(some 206), (some (202, true)), .mov (.t 10)⟩,
                  ⟨(some 207), (some (202, true)), .ibin .sub (.t 206) (.c (.int .i64 1))⟩,
                  ⟨(some 208), (some (202, true)), .ibin .eql (.t 205) (.t 207)⟩,
                  ⟨(some 209), none, .pick (.t 202) (.t 208) (.c (.bool false))⟩,
                  ⟨(some 210), none, .mov (.t 209)⟩,
                  ⟨(some 211), (some (210, true)), .mov (.t 9)⟩,
                  ⟨(some 212), (some (210, true)), .mov (.t 12)⟩,
                  ⟨(some 213), (some (210, true)), .call (.c (.fn 31 [] [])) [(.t 211), (.t 212)]⟩,
                  ⟨(some 214), (some (210, true)), .call (.c (.fn 30 [] [])) [(.t 213)]⟩,
                  ⟨(some 215), (some (210, true)), .ibin .eql (.t 214) (.c (.int .i64 5))⟩,
                  ⟨(some 216), none, .pick (.t 210) (.t 215) (.c (.bool false))⟩,
                  ⟨(some 8), none, .mov (.t 216)⟩])
                .ret))))))))))))))⟩

-- quitrent/quitrentlaw08.KinDown
def F9 : AFun := ⟨86, 1, [.tmp 2],
  (.seq
   (.reg [
     ⟨(some 2), none, .mov (.c (.bool false))⟩])
   (.seq
    (.seq
     (.reg [
       ⟨(some 9), none, .call (.c (.fn 27 [] [])) []⟩,
       ⟨(some 10), none, .un .not (.t 9)⟩])
     (.cond (.t 10)
      (.seq
       (.reg [
         ⟨(some 2), none, .mov (.c (.bool false))⟩])
       .ret)
      .skip))
    (.seq
     (.reg [
       ⟨(some 11), none, .call (.c (.fn 28 [] [])) []⟩,
       ⟨(some 3), none, .mov (.t 11)⟩])
     (.seq
      (.reg [
        ⟨(some 4), none, .mov (.c (.int .i64 1))⟩])
      (.seq
       (.seq
        (.reg [
          ⟨(some 5), none, .mov (.c (.int .i64 0))⟩])
        (.block 0
         (.loop
          (.seq
           (.seq
            (.reg [
              ⟨(some 12), none, .mov (.t 5)⟩,
              ⟨(some 13), none, .mov (.t 0)⟩,
              ⟨(some 14), none, .len .sl (.t 13)⟩,
              ⟨(some 15), none, .ibin .lss (.t 12) (.t 14)⟩,
              ⟨(some 16), none, .mov (.t 15)⟩,
              ⟨(some 17), (some (16, true)), .mov (.t 5)⟩,
              ⟨(some 18), (some (16, true)), .ibin .lss (.t 17) (.c (.int .i64 15))⟩,
              ⟨(some 19), none, .pick (.t 16) (.t 18) (.c (.bool false))⟩])
            (.cond (.t 19)
             .skip
             (.exit 0)))
           (.seq
            (.block 1
             (.seq
              (.seq
               (.reg [
                 ⟨(some 22), none, .mov (.t 3)⟩,
                 ⟨(some 23), none, .mov (.t 4)⟩,
                 ⟨(some 24), none, .ibin .add (.t 23) (.c (.int .i64 1))⟩,
                 ⟨(some 25), none, .mov (.t 0)⟩,
                 ⟨(some 26), none, .mov (.t 5)⟩,
                 ⟨(some 27), none, .iaddrSl 1 (.t 25) (.t 26)⟩,
                 ⟨(some 28), none, .load false 1 (.t 27)⟩,
                 ⟨(some 29), none, .i2i .u64 (.t 28)⟩,
                 ⟨(some 30), none, .mov (.t 4)⟩,
                 ⟨(some 31), none, .i2i .u64 (.t 30)⟩,
                 ⟨(some 32), none, .ibin .rem (.t 29) (.t 31)⟩,
                 ⟨(some 33), none, .i2i .i64 (.t 32)⟩,
                 ⟨(some 34), none, .ibin .add (.c (.int .i64 1)) (.t 33)⟩,
                 ⟨(some 35), none, .call (.c (.fn 33 [] [])) [(.t 22), (.t 24), (.t 34)]⟩,
                 ⟨(some 36), none, .eq true .iface true (.t 35) (.c .nili)⟩])
               (.cond (.t 36)
                (.seq
                 (.reg [
                   ⟨(some 2), none, .mov (.c (.bool false))⟩])
                 .ret)
                .skip))
              (.reg [
                ⟨(some 37), none, .mov (.t 4)⟩,
                ⟨(some 38), none, .ibin .add (.t 37) (.c (.int .i64 1))⟩,
                ⟨(some 4), none, .mov (.t 38)⟩])))
            (.reg [
              ⟨(some 20), none, .mov (.t 5)⟩,
              ⟨(some 21), none, .ibin .add (.t 20) (.c (.int .i64 1))⟩,
              ⟨(some 5), none, .mov (.t 21)⟩]))))))
       (.seq
        (.block 2
         (.loop
          (.seq
           (.seq
            (.reg [
              ⟨(some 39), none, .mov (.t 4)⟩,
              ⟨(some 40), none, .ibin .gtr (.t 39) (.c (.int .i64 1))⟩])
            (.cond (.t 40)
             .skip
             (.exit 2)))
           (.block 3
            (.seq
             (.reg [
               ⟨(some 41), none, .mov (.t 3)⟩,
               ⟨(some 42), none, .mov (.t 4)⟩,
               ⟨(some 43), none, .call (.c (.fn 38 [] [])) [(.t 41), (.t 42)]⟩,
               ⟨(some 6), none, .mov (.t 43)⟩])
             (.seq
              (.reg [
                ⟨(some 44), none, .mov (.t 3)⟩,
                ⟨(some 45), none, .mov (.t 6)⟩,
                ⟨(some 46), none, .call (.c (.fn 43 [] [])) [(.t 44), (.t 45)]⟩,
                ⟨(some 47), none, .len .sl (.t 46)⟩,
                ⟨(some 7), none, .mov (.t 47)⟩])
              (.seq
               (.seq
                (.reg [
                  ⟨(some 48), none, .mov (.t 3)⟩,
                  ⟨(some 49), none, .mov (.t 4)⟩,
                  ⟨(some 50), none, .call (.c (.fn 31 [] [])) [(.t 48), (.t 49)]⟩,
                  ⟨(some 51), none, .eq true .iface true (.t 50) (.c .nili)⟩,
                  ⟨(some 52), none, .mov (.t 51)⟩,
                  ⟨(some 53), (some (52, false)), .mov (.t 3)⟩,
                  ⟨(some 54), (some (52, false)), .mov (.t 6)⟩,
                  ⟨(some 55), (some (52, false)), .call (.c (.fn 43 [] [])) [(.t 53), (.t 54)]⟩,
                  ⟨(some 56), (some (52, false)), .len .sl (.t 55)⟩,
                  ⟨(some 57), (some (52, false)), .mov (.t 7)⟩,
                  ⟨(some 58), (some (52, false)), .ibin .sub (.t 57) (.c (.int .i64 1))⟩,
                  ⟨(some 59), (some (52, false)), .ibin .neq (.t 56) (.t 58)⟩,
                  ⟨(some 60), none, .pick (.t 52) (.c (.bool true)) (.t 59)⟩])
                (.cond (.t 60)
                 (.seq
                  (.reg [
                    ⟨(some 2), none, .mov (.c (.bool false))⟩])
                  .ret)
                 .skip))
               (.reg [
                 ⟨(some 61), none, .mov (.t 4)⟩,
                 ⟨(some 62), none, .ibin .sub (.t 61) (.c (.int .i64 1))⟩,
                 ⟨(some 4), none, .mov (.t 62)⟩]))))))))
        (.seq
         (.reg [
           ⟨(some 63), none, .mov (.t 3)⟩,
           ⟨(some 64), none, .call (.c (.fn 46 [] [])) [(.t 63)]⟩,
           ⟨(some 8), none, .mov (.t 64)⟩])
         (.seq
          (.reg [
            ⟨(some 65), none, .mov (.t 8)⟩,
            ⟨(some 66), none, .len .sl (.t 65)⟩,
            ⟨(some 67), none, .ibin .eql (.t 66) (.c (.int .i64 1))⟩,
            ⟨(some 68), none, .mov (.t 67)⟩,
            ⟨(some 69), (some (68, true)), .mov (.t 8)⟩,
            ⟨(some 70), (some (68, true)), .iaddrSl 1 (.t 69) (.c (.int .i64 0))⟩,
            ⟨(some 71), (some (68, true)), .load false 1 (.t 70)⟩,
            ⟨(some 72), (some (68, true)), .ibin .eql (.t 71) (.c (.int .i64 1))⟩,
            ⟨(some 73), none, .pick (.t 68) (.t 72) (.c (.bool false))⟩,
            ⟨(some 74), none, .mov (.t 73)⟩,
            ⟨(some 75), (some (74, true)), .mov (.t 3)⟩,
            ⟨(some 76), (some (74, true)), .call (.c (.fn 31 [] [])) [(.t 75), (.c (.int .i64 1))]⟩,
            ⟨(some 77), (some (74, true)), .call (.c (.fn 30 [] [])) [(.t 76)]⟩,
            ⟨(some 78), (some (74, true)), .ibin .eql (.t 77) (.c (.int .i64 13))⟩,
            ⟨(some 79), none, .pick (.t 74) (.t 78) (.c (.bool false))⟩,
            ⟨(some 80), none, .mov (.t 79)⟩,
            ⟨(some 81), (some (80, true)), .mov (.t 3)⟩,
            ⟨(some 82), (some (80, true)), .call (.c (.fn 43 [] [])) [(.t 81), (.c (.int .i64 1))]⟩,
            ⟨(some 83), (some (80, true)), .len .sl (.t 82)⟩,
            ⟨(some 84), (some (80, true)), .ibin .eql (.t 83) (.c (.int .i64 0))⟩,
            ⟨(some 85), none, .pick (.t 80) (.t 84) (.c (.bool false))⟩,
            ⟨(some 2), none, .mov (.t 85)⟩])
          .ret))))))))⟩

theorem c41 : cFun Tryd.prog [1, 0, 2, 3, 4, 5, 6, 7, 8, 9, 10, 11, 12, 13] Tryd.f41 = some F41 := by kernel_rfl
theorem c27 : cFun Tryd.prog [1, 0, 2, 3, 4, 5, 6, 7, 8, 9, 10, 11, 12, 13] Tryd.f27 = some F27 := by kernel_rfl
theorem c7 : cFun Tryd.prog [1, 0, 2, 3, 4, 5, 6, 7, 8, 9, 10, 11, 12, 13] Tryd.f7 = some F7 := by kernel_rfl
theorem c8 : cFun Tryd.prog [1, 0, 2, 3, 4, 5, 6, 7, 8, 9, 10, 11, 12, 13] Tryd.f8 = some F8 := by kernel_rfl
theorem c9 : cFun Tryd.prog [1, 0, 2, 3, 4, 5, 6, 7, 8, 9, 10, 11, 12, 13] Tryd.f9 = some F9 := by kernel_rfl
end Go.Proofs.YtamkjgiemconbaaDoor.D08
