import Derived.Test.YtcmnchmkoghfdaaDoorFVGC05h
open Go AH
namespace Go.Proofs.YtcmnchmkoghfdaaDoor.C05h
-- quitrent/quitrentlaw05.at
def F37 : AFun := ⟨34, 1, [.tmp 2],
  (.seq
   (.reg [
     ⟨(some 2), none, .mov (.c (.int .i64 0))⟩])
   (.seq
    (.seq
     (.reg [
       ⟨(some 4), none, .mov (.t 0)⟩,
       ⟨(some 5), none, .eq false .iface true (.t 4) (.c .nili)⟩])
     (.cond (.t 5)
      (.seq
       (.reg [
         ⟨(some 2), none, .mov (.c (.int .i64 (-1)))⟩])
       .ret)
      .skip))
    (.seq
     (.reg [
       ⟨(some 3), none, .box 1 (.c .nilp)⟩])
     (.seq
      (.seq
       (.reg [
         ⟨(some 6), none, .mov (.t 0)⟩,
         ⟨(some 7), none, .mkifc 90 (.t 3)⟩,
         ⟨(some 8), none, .call (.c (.fn 53 [] [])) [(.t 6), (.t 7)]⟩,
         ⟨(some 9), none, .un .not (.t 8)⟩,
         ⟨(some 10), none, .mov (.t 9)⟩,
         ⟨(some 11), (some (10, false)), .mov (.t 0)⟩,
         ⟨(some 12), (some (10, false)), .loadg 2⟩,
         ⟨(some 13), (some (10, false)), .call (.c (.fn 33 [] [])) [(.t 11), (.t 12)]⟩,
         ⟨(some 14), (some (10, false)), .un .not (.t 13)⟩,
         ⟨(some 15), none, .pick (.t 10) (.c (.bool true)) (.t 14)⟩,
         ⟨(some 16), none, .mov (.t 15)⟩,
         ⟨(some 17), (some (16, false)), .load false 1 (.t 3)⟩,
         ⟨(some 18), (some (16, false)), .nilchk (.t 17)⟩,
         ⟨(some 19), (some (16, false)), .faddr 0 (.t 18)⟩,
         ⟨(some 20), (some (16, false)), .load false 1 (.t 19)⟩,
         ⟨(some 21), (some (16, false)), .ibin .neq (.t 20) (.c (.str ⟨#[102, 114, 97, 109, 101]⟩))⟩,
         ⟨(some 22), none, .pick (.t 16) (.c (.bool true)) (.t 21)⟩,
         ⟨(some 23), none, .mov (.t 22)⟩,
         ⟨(some 24), (some (23, false)), .load false 1 (.t 3)⟩,
         ⟨(some 25), (some (23, false)), .nilchk (.t 24)⟩,
         ⟨(some 26), (some (23, false)), .faddr 1 (.t 25)⟩,
         ⟨(some 27), (some (23, false)), .load false 1 (.t 26)⟩,
         ⟨(some 28), (some (23, false)), .ibin .lss (.t 27) (.c (.int .i64 0))⟩,
         ⟨(some 29), none, .pick (.t 23) (.c (.bool true)) (.t 28)⟩])
       (.cond (.t 29)
        (.seq
         (.reg [
           ⟨(some 2), none, .mov (.c (.int .i64 (-2)))⟩])
         .ret)
        .skip))
      (.seq
       (.reg [
         ⟨(some 30), none, .load false 1 (.t 3)⟩,
         ⟨(some 31), none, .nilchk (.t 30)⟩,
         ⟨(some 32), none, .faddr 1 (.t 31)⟩,
         ⟨(some 33), none, .load false 1 (.t 32)⟩,
         ⟨(some 2), none, .mov (.t 33)⟩])
       .ret)))))⟩

-- quitrent/quitrentlaw05.FrameTorn
def F10 : AFun := ⟨178, 4, [.tmp 8],
  (.seq
   (.reg [
     ⟨(some 8), none, .mov (.c (.bool false))⟩])
   (.seq
    (.seq
     (.reg [
       ⟨(some 20), none, .call (.c (.fn 29 [] [])) []⟩,
       ⟨(some 21), none, .un .not (.t 20)⟩])
     (.cond (.t 21)
      (.seq
       (.reg [
         ⟨(some 8), none, .mov (.c (.bool false))⟩])
       .ret)
      .skip))
    (.seq
     (.seq
      (.reg [
        ⟨(some 22), none, .mov (.t 0)⟩,
        ⟨(some 23), none, .len .str (.t 22)⟩,
        ⟨(some 24), none, .ibin .gtr (.t 23) (.c (.int .i64 400))⟩])
      (.cond (.t 24)
       (.seq
        (.reg [
          ⟨(some 8), none, .mov (.c (.bool true))⟩])
        .ret)
       .skip))
     (.seq
      (.reg [
        ⟨(some 26), none, .mov (.t 1)⟩,
        ⟨(some 27), none, .i2i .u64 (.t 26)⟩,
        ⟨(some 28), none, .ibin .rem (.t 27) (.c (.int .u64 1000))⟩,
        ⟨(some 29), none, .i2i .i64 (.t 28)⟩,
        ⟨(some 30), none, .ibin .add (.c (.int .i64 1)) (.t 29)⟩,
        ⟨(some 31), none, .mov (.t 0)⟩,
        ⟨(some 32), none, .call (.c (.fn 30 [] [])) [(.t 30), (.t 31)]⟩,
        ⟨(some 25), none, .mov (.t 32)⟩,
        ⟨(some 33), none, .extract (.t 25) 0⟩,
        ⟨(some 34), none, .extract (.t 25) 1⟩,
        ⟨(some 9), none, .mov (.t 33)⟩,
        ⟨(some 10), none, .mov (.t 34)⟩])
      (.seq
       (.seq
        (.reg [
          ⟨(some 35), none, .mov (.t 10)⟩,
          ⟨(some 36), none, .eq true .iface true (.t 35) (.c .nili)⟩,
          ⟨(some 37), none, .mov (.t 36)⟩,
          ⟨(some 38), (some (37, false)), .mov (.t 9)⟩,
          ⟨(some 39), (some (37, false)), .len .sl (.t 38)⟩,
          ⟨(some 40), (some (37, false)), .ibin .eql (.t 39) (.c (.int .i64 0))⟩,
          ⟨(some 41), none, .pick (.t 37) (.c (.bool true)) (.t 40)⟩])
        (.cond (.t 41)
         (.seq
          (.reg [
            ⟨(some 8), none, .mov (.c (.bool false))⟩])
          .ret)
         .skip))
       (.seq
        (.reg [
          ⟨(some 42), none, .mov (.t 2)⟩,
          ⟨(some 43), none, .i2i .u64 (.t 42)⟩,
          ⟨(some 44), none, .mov (.t 9)⟩,
          ⟨(some 45), none, .len .sl (.t 44)⟩,
          ⟨(some 46), none, .i2i .u64 (.t 45)⟩,
          ⟨(some 47), none, .ibin .rem (.t 43) (.t 46)⟩,
          ⟨(some 48), none, .i2i .i64 (.t 47)⟩,
          ⟨(some 11), none, .mov (.t 48)⟩])
        (.seq
         (.reg [
           ⟨(some 49), none, .mov (.t 3)⟩,
           ⟨(some 50), none, .i2i .u64 (.t 49)⟩,
           ⟨(some 51), none, .ibin .rem (.t 50) (.c (.int .u64 65))⟩,
           ⟨(some 52), none, .i2i .i64 (.t 51)⟩,
           ⟨(some 12), none, .mov (.t 52)⟩])
         (.seq
          (.reg [
            ⟨(some 53), none, .mkslice 1 1 [(.int .u8 0)] (.c (.int .i64 64)) (.c (.int .i64 64))⟩,
            ⟨(some 54), none, .b2s (.t 53)⟩,
            ⟨(some 13), none, .mov (.t 54)⟩])
          (.seq
           (.reg [
             ⟨(some 55), none, .bslice 1 0 [(.str ⟨#[]⟩)] []⟩,
             ⟨(some 14), none, .mov (.t 55)⟩])
           (.seq
            (.seq
             (.reg [
               ⟨(some 15), none, .mov (.c (.int .i64 0))⟩])
             (.block 0
              (.loop
               (.seq
                (.seq
                 (.reg [
                   ⟨(some 56), none, .mov (.t 15)⟩,
                   ⟨(some 57), none, .mov (.t 9)⟩,
                   ⟨(some 58), none, .len .sl (.t 57)⟩,
                   ⟨(some 59), none, .ibin .lss (.t 56) (.t 58)⟩])
                 (.cond (.t 59)
                  .skip
                  (.exit 0)))
                (.seq
                 (.block 1
                  (.seq
                   (.reg [
                     ⟨(some 62), none, .mov (.t 15)⟩,
                     ⟨(some 63), none, .mov (.t 11)⟩,
                     ⟨(some 64), none, .ibin .lss (.t 62) (.t 63)⟩])
                   (.cond (.t 64)
                    (.reg [
                      ⟨(some 65), none, .mov (.t 14)⟩,
                      ⟨(some 66), none, .mov (.t 9)⟩,
                      ⟨(some 67), none, .mov (.t 15)⟩,
                      ⟨(some 68), none, .iaddrSl 1 (.t 66) (.t 67)⟩,
                      ⟨(some 69), none, .load false 1 (.t 68)⟩,
                      ⟨(some 70), none, .bslice 1 1 [(.str ⟨#[]⟩)] [(0, 1, (.t 69))]⟩,
                      ⟨(some 71), none, .append 1 16 [(.str ⟨#[]⟩)] (.t 65) (.t 70)⟩,
                      ⟨(some 14), none, .mov (.t 71)⟩])
                    (.seq
                     (.reg [
                       ⟨(some 72), none, .mov (.t 15)⟩,
                       ⟨(some 73), none, .mov (.t 11)⟩,
                       ⟨(some 74), none, .ibin .eql (.t 72) (.t 73)⟩])
                     (.cond (.t 74)
                      (.draw [
                        ⟨(some 75), none, .mov (.t 14)⟩,
                        ⟨(some 76), none, .mov (.t 9)⟩,
                        ⟨(some 77), none, .mov (.t 15)⟩,
                        ⟨(some 78), none, .iaddrSl 1 (.t 76) (.t 77)⟩,
                        ⟨(some 79), none, .load false 1 (.t 78)⟩,
                        ⟨(some 80), none, .mov (.t 12)⟩,
                        ⟨(some 81), none, .sliceStr (.t 79) none (some (.t 80))⟩,
                        ⟨(some 82), none, .mov (.t 13)⟩,
                        ⟨(some 83), none, .mov (.t 12)⟩,
                        ⟨(some 84), none, .sliceStr (.t 82) (some (.t 83)) none⟩,
                        ⟨(some 85), none, .ibin .add (.t 81) (.t 84)⟩,
                        ⟨(some 86), none, .bslice 1 1 [(.str ⟨#[]⟩)] [(0, 1, (.t 85))]⟩,
                        ⟨(some 87), none, .append 1 16 [(.str ⟨#[]⟩)] (.t 75) (.t 86)⟩,
                        ⟨(some 14), none, .mov (.t 87)⟩]
                        [[], [], [], [1, 2], [3, 1, 2], [], [4, 5, 3, 1, 2], [], [], [7, 8], [6, 9, 4, 5, 3, 1, 2, 7, 8], [10, 6, 9, 4, 5, 3, 1, 2, 7, 8], [0, 11, 10, 6, 9, 4, 5, 3, 1, 2, 7, 8], [12, 0, 1, 2, 3, 4, 5, 6, 7, 8, 9, 10, 11]])
                      (.reg [
                        ⟨(some 88), none, .mov (.t 14)⟩,
                        ⟨(some 89), none, .mov (.t 13)⟩,
                        ⟨(some 90), none, .bslice 1 1 [(.str ⟨#[]⟩)] [(0, 1, (.t 89))]⟩,
                        ⟨(some 91), none, .append 1 16 [(.str ⟨#[]⟩)] (.t 88) (.t 90)⟩,
                        ⟨(some 14), none, .mov (.t 91)⟩]))))))
                 (.reg [
                   ⟨(some 60), none, .mov (.t 15)⟩,
                   ⟨(some 61), none, .ibin .add (.t 60) (.c (.int .i64 1))⟩,
                   ⟨(some 15), none, .mov (.t 61)⟩]))))))
            (.seq
             (.reg [
               ⟨(some 93), none, .mov (.t 14)⟩,
               ⟨(some 94), none, .call (.c (.fn 32 [] [])) [(.t 93)]⟩,
               ⟨(some 92), none, .mov (.t 94)⟩,
               ⟨(some 95), none, .extract (.t 92) 0⟩,
               ⟨(some 96), none, .extract (.t 92) 1⟩,
               ⟨(some 97), none, .extract (.t 92) 2⟩,
               ⟨(some 98), none, .extract (.t 92) 3⟩,
               ⟨(some 16), none, .mov (.t 95)⟩,
               ⟨(some 17), none, .mov (.t 96)⟩,
               ⟨(some 18), none, .mov (.t 97)⟩,
               ⟨(some 19), none, .mov (.t 98)⟩])
             (.seq
              (.seq
               (.draw [
                 ⟨(some 99), none, .mov (.t 14)⟩,
                 ⟨(some 100), none, .mov (.t 11)⟩,
                 ⟨(some 101), none, .iaddrSl 1 (.t 99) (.t 100)⟩,
                 ⟨(some 102), none, .load false 1 (.t 101)⟩,
                 ⟨(some 103), none, .mov (.t 9)⟩,
                 ⟨(some 104), none, .mov (.t 11)⟩,
                 ⟨(some 105), none, .iaddrSl 1 (.t 103) (.t 104)⟩,
                 ⟨(some 106), none, .load false 1 (.t 105)⟩,
                 ⟨(some 107), none, .ibin .eql (.t 102) (.t 106)⟩]
                 [[], [], [0, 1], [2, 0, 1], [], [], [4, 5], [6, 4, 5], [3, 7, 2, 0, 1, 6, 4, 5]])
               (.cond (.t 107)
                (.seq
                 (.seq
                  (.reg [
                    ⟨(some 108), none, .mov (.t 11)⟩,
                    ⟨(some 109), none, .ibin .add (.t 108) (.c (.int .i64 1))⟩,
                    ⟨(some 110), none, .mov (.t 9)⟩,
                    ⟨(some 111), none, .len .sl (.t 110)⟩,
                    ⟨(some 112), none, .ibin .eql (.t 109) (.t 111)⟩])
                  (.cond (.t 112)
                   (.seq
                    (.reg [
                      ⟨(some 113), none, .mov (.t 19)⟩,
                      ⟨(some 114), none, .eq false .iface true (.t 113) (.c .nili)⟩,
                      ⟨(some 115), none, .mov (.t 114)⟩,
                      ⟨(some 116), (some (115, true)), .mov (.t 16)⟩,
                      ⟨(some 117), (some (115, true)), .mov (.t 0)⟩,
                      ⟨(some 118), (some (115, true)), .ibin .eql (.t 116) (.t 117)⟩,
                      ⟨(some 119), none, .pick (.t 115) (.t 118) (.c (.bool false))⟩,
                      ⟨(some 120), none, .mov (.t 119)⟩,
                      ⟨(some 121), (some (120, true)), .mov (.t 18)⟩,
                      ⟨(some 122), (some (120, true)), .mov (.t 9)⟩,
                      ⟨(some 123), (some (120, true)), .len .sl (.t 122)⟩,
                      ⟨(some 124), (some (120, true)), .ibin .eql (.t 121) (.t 123)⟩,
                      ⟨(some 125), none, .pick (.t 120) (.t 124) (.c (.bool false))⟩,
                      ⟨(some 8), none, .mov (.t 125)⟩])
                    .ret)
                   .skip))
                 (.seq
                  (.reg [
                    ⟨(some 126), none, .mov (.t 19)⟩,
                    ⟨(some 127), none, .call (.c (.fn 37 [] [])) [(.t 126)]⟩,
                    ⟨(some 128), none, .mov (.t 11)⟩,
                    ⟨(some 129), none, .ibin .add (.t 128) (.c (.int .i64 1))⟩,
                    ⟨(some 130), none, .ibin .eql (.t 127) (.t 129)⟩,
                    ⟨(some 131), none, .mov (.t 130)⟩,
                    ⟨(some 132), (some (131, true)), .mov (.t 16)⟩,
                    ⟨(some 133), (some (131, true)), .ibin .eql (.t 132) (.c (.str ⟨#[]⟩))⟩,
                    ⟨(some 134), none, .pick (.t 131) (.t 133) (.c (.bool false))⟩,
                    ⟨(some 135), none, .mov (.t 134)⟩,
                    ⟨(some 136), (some (135, true)), .mov (.t 17)⟩,
                    ⟨(some 137), (some (135, true)), .ibin .eql (.t 136) (.c (.int .i64 0))⟩,
                    ⟨(some 138), none, .pick (.t 135) (.t 137) (.c (.bool false))⟩,
                    ⟨(some 139), none, .mov (.t 138)⟩,
                    ⟨(some 140), (some (139, true)), .mov (.t 18)⟩,
                    ⟨(some 141), (some (139, true)), .ibin .eql (.t 140) (.c (.int .i64 0))⟩,
                    ⟨(some 142), none, .pick (.t 139) (.t 141) (.c (.bool false))⟩,
                    ⟨(some 8), none, .mov (.t 142)⟩])
                  .ret))
                .skip))
              (.seq
               (.seq
                (.reg [
                  ⟨(some 143), none, .mov (.t 12)⟩,
                  ⟨(some 144), none, .ibin .gtr (.t 143) (.c (.int .i64 56))⟩])
                (.cond (.t 144)
                 (.seq
                  (.reg [
                    ⟨(some 145), none, .mov (.t 19)⟩,
                    ⟨(some 146), none, .call (.c (.fn 37 [] [])) [(.t 145)]⟩,
                    ⟨(some 147), none, .mov (.t 11)⟩,
                    ⟨(some 148), none, .ibin .eql (.t 146) (.t 147)⟩,
                    ⟨(some 149), none, .mov (.t 148)⟩,
                    ⟨(some 150), (some (149, false)), .mov (.t 19)⟩,
                    ⟨(some 151), (some (149, false)), .call (.c (.fn 37 [] [])) [(.t 150)]⟩,
                    ⟨(some 152), (some (149, false)), .ibin .eql (.t 151) (.c (.int .i64 0))⟩,
                    ⟨(some 153), none, .pick (.t 149) (.c (.bool true)) (.t 152)⟩,
                    ⟨(some 154), none, .mov (.t 153)⟩,
                    ⟨(some 155), (some (154, true)), .mov (.t 16)⟩,
                    ⟨(some 156), (some (154, true)), .ibin .eql (.t 155) (.c (.str ⟨#[]⟩))⟩,
                    ⟨(some 157), none, .pick (.t 154) (.t 156) (.c (.bool false))⟩,
                    ⟨(some 158), none, .mov (.t 157)⟩,
                    ⟨(some 159), (some (158, true)), .mov (.t 18)⟩,
                    ⟨(some 160), (some (158, true)), .ibin .eql (.t 159) (.c (.int .i64 0))⟩,
                    ⟨(some 161), none, .pick (.t 158) (.t 160) (.c (.bool false))⟩,
                    ⟨(some 8), none, .mov (.t 161)⟩])
                  .ret)
                 .skip))
               (.seq
                (.reg [
                  ⟨(some 162), none, .mov (.t 19)⟩,
                  ⟨(some 163), none, .call (.c (.fn 37 [] [])) [(.t 162)]⟩,
                  ⟨(some 164), none, .mov (.t 11)⟩,
                  ⟨(some 165), none, .ibin .eql (.t 163) (.t 164)⟩,
                  ⟨(some 166), none, .mov (.t 165)⟩,
                  ⟨(some 167), (some (166, true)), .mov (.t 16)⟩,
                  ⟨(some 168), (some (166, true)), .ibin .eql (.t 167) (.c (.str ⟨#[]⟩))⟩,
                  ⟨(some 169), none, .pick (.t 166) (.t 168) (.c (.bool false))⟩,
                  ⟨(some 170), none, .mov (.t 169)⟩,
                  ⟨(some 171), (some (170, true)), .mov (.t 17)⟩,
                  ⟨(some 172), (some (170, true)), .ibin .eql (.t 171) (.c (.int .i64 0))⟩,
                  ⟨(some 173), none, .pick (.t 170) (.t 172) (.c (.bool false))⟩,
                  ⟨(some 174), none, .mov (.t 173)⟩,
                  ⟨(some 175), (some (174, true)), .mov (.t 18)⟩,
                  ⟨(some 176), (some (174, true)), .ibin .eql (.t 175) (.c (.int .i64 0))⟩,
                  ⟨(some 177), none, .pick (.t 174) (.t 176) (.c (.bool false))⟩,
                  ⟨(some 8), none, .mov (.t 177)⟩])
                .ret))))))))))))))⟩

-- quitrent/quitrentlaw05.FrameExact
def F9 : AFun := ⟨136, 3, [.tmp 6],
  (.seq
   (.reg [
     ⟨(some 6), none, .mov (.c (.bool false))⟩])
   (.seq
    (.seq
     (.reg [
       ⟨(some 21), none, .call (.c (.fn 29 [] [])) []⟩,
       ⟨(some 22), none, .un .not (.t 21)⟩])
     (.cond (.t 22)
      (.seq
       (.reg [
         ⟨(some 6), none, .mov (.c (.bool false))⟩])
       .ret)
      .skip))
    (.seq
     (.seq
      (.reg [
        ⟨(some 23), none, .mov (.t 1)⟩,
        ⟨(some 24), none, .len .str (.t 23)⟩,
        ⟨(some 25), none, .ibin .gtr (.t 24) (.c (.int .i64 7000))⟩,
        ⟨(some 26), none, .mov (.t 25)⟩,
        ⟨(some 27), (some (26, false)), .mov (.t 2)⟩,
        ⟨(some 28), (some (26, false)), .len .sl (.t 27)⟩,
        ⟨(some 29), (some (26, false)), .ibin .gtr (.t 28) (.c (.int .i64 20))⟩,
        ⟨(some 30), none, .pick (.t 26) (.c (.bool true)) (.t 29)⟩])
      (.cond (.t 30)
       (.seq
        (.reg [
          ⟨(some 6), none, .mov (.c (.bool true))⟩])
        .ret)
       .skip))
     (.seq
      (.seq
       (.reg [
         ⟨(some 7), none, .mov (.c (.int .i64 0))⟩])
       (.block 0
        (.loop
         (.seq
          (.seq
           (.reg [
             ⟨(some 31), none, .mov (.t 7)⟩,
             ⟨(some 32), none, .mov (.t 2)⟩,
             ⟨(some 33), none, .len .sl (.t 32)⟩,
             ⟨(some 34), none, .ibin .lss (.t 31) (.t 33)⟩])
           (.cond (.t 34)
            .skip
            (.exit 0)))
          (.seq
           (.block 1
            (.seq
             (.reg [
               ⟨(some 37), none, .mov (.t 2)⟩,
               ⟨(some 38), none, .mov (.t 7)⟩,
               ⟨(some 39), none, .iaddrSl 1 (.t 37) (.t 38)⟩,
               ⟨(some 40), none, .load false 1 (.t 39)⟩,
               ⟨(some 41), none, .len .str (.t 40)⟩,
               ⟨(some 42), none, .ibin .gtr (.t 41) (.c (.int .i64 100))⟩])
             (.cond (.t 42)
              (.seq
               (.reg [
                 ⟨(some 6), none, .mov (.c (.bool true))⟩])
               .ret)
              .skip)))
           (.reg [
             ⟨(some 35), none, .mov (.t 7)⟩,
             ⟨(some 36), none, .ibin .add (.t 35) (.c (.int .i64 1))⟩,
             ⟨(some 7), none, .mov (.t 36)⟩]))))))
      (.seq
       (.reg [
         ⟨(some 44), none, .mov (.t 0)⟩,
         ⟨(some 45), none, .mov (.t 1)⟩,
         ⟨(some 46), none, .call (.c (.fn 30 [] [])) [(.t 44), (.t 45)]⟩,
         ⟨(some 43), none, .mov (.t 46)⟩,
         ⟨(some 47), none, .extract (.t 43) 0⟩,
         ⟨(some 48), none, .extract (.t 43) 1⟩,
         ⟨(some 8), none, .mov (.t 47)⟩,
         ⟨(some 9), none, .mov (.t 48)⟩])
       (.seq
        (.reg [
          ⟨(some 50), none, .mov (.t 0)⟩,
          ⟨(some 51), none, .mov (.t 1)⟩,
          ⟨(some 52), none, .call (.c (.fn 34 [] [])) [(.t 50), (.t 51)]⟩,
          ⟨(some 49), none, .mov (.t 52)⟩,
          ⟨(some 53), none, .extract (.t 49) 0⟩,
          ⟨(some 54), none, .extract (.t 49) 1⟩,
          ⟨(some 10), none, .mov (.t 53)⟩,
          ⟨(some 11), none, .mov (.t 54)⟩])
        (.seq
         (.seq
          (.reg [
            ⟨(some 55), none, .mov (.t 11)⟩,
            ⟨(some 56), none, .mov (.t 9)⟩,
            ⟨(some 57), none, .eq false .iface true (.t 56) (.c .nili)⟩,
            ⟨(some 58), none, .eq true .bool false (.t 55) (.t 57)⟩,
            ⟨(some 59), none, .mov (.t 58)⟩,
            ⟨(some 60), (some (59, false)), .mov (.t 11)⟩,
            ⟨(some 61), (some (59, false)), .un .not (.t 60)⟩,
            ⟨(some 62), (some (59, false)), .mov (.t 61)⟩,
            ⟨(some 63), (some (62, true)), .mov (.t 9)⟩,
            ⟨(some 64), (some (62, true)), .loadg 0⟩,
            ⟨(some 65), (some (62, true)), .call (.c (.fn 33 [] [])) [(.t 63), (.t 64)]⟩,
            ⟨(some 66), (some (62, true)), .un .not (.t 65)⟩,
            ⟨(some 67), (some (62, true)), .mov (.t 66)⟩,
            ⟨(some 68), (some (67, false)), .mov (.t 8)⟩,
            ⟨(some 69), (some (67, false)), .len .sl (.t 68)⟩,
            ⟨(some 70), (some (67, false)), .ibin .neq (.t 69) (.c (.int .i64 0))⟩,
            ⟨(some 71), (some (62, true)), .pick (.t 67) (.c (.bool true)) (.t 70)⟩,
            ⟨(some 72), (some (59, false)), .pick (.t 62) (.t 71) (.c (.bool false))⟩,
            ⟨(some 73), none, .pick (.t 59) (.c (.bool true)) (.t 72)⟩,
            ⟨(some 74), none, .mov (.t 73)⟩,
            ⟨(some 75), (some (74, false)), .mov (.t 8)⟩,
            ⟨(some 76), (some (74, false)), .len .sl (.t 75)⟩,
            ⟨(some 77), (some (74, false)), .mov (.t 10)⟩,
            ⟨(some 78), (some (74, false)), .len .sl (.t 77)⟩,
            ⟨(some 79), (some (74, false)), .ibin .neq (.t 76) (.t 78)⟩,
            ⟨(some 80), none, .pick (.t 74) (.c (.bool true)) (.t 79)⟩,
            ⟨(some 81), none, .mov (.t 80)⟩,
            ⟨(some 82), (some (81, false)), .mov (.t 1)⟩,
            ⟨(some 83), (some (81, false)), .call (.c (.fn 31 [] [])) [(.t 82)]⟩,
            ⟨(some 84), (some (81, false)), .mov (.t 1)⟩,
            ⟨(some 85), (some (81, false)), .call (.c (.fn 35 [] [])) [(.t 84)]⟩,
            ⟨(some 86), (some (81, false)), .ibin .neq (.t 83) (.t 85)⟩,
            ⟨(some 87), none, .pick (.t 81) (.c (.bool true)) (.t 86)⟩])
          (.cond (.t 87)
           (.seq
            (.reg [
              ⟨(some 6), none, .mov (.c (.bool false))⟩])
            .ret)
           .skip))
         (.seq
          (.seq
           (.reg [
             ⟨(some 12), none, .mov (.c (.int .i64 0))⟩])
           (.block 2
            (.loop
             (.seq
              (.seq
               (.reg [
                 ⟨(some 88), none, .mov (.t 12)⟩,
                 ⟨(some 89), none, .mov (.t 8)⟩,
                 ⟨(some 90), none, .len .sl (.t 89)⟩,
                 ⟨(some 91), none, .ibin .lss (.t 88) (.t 90)⟩])
               (.cond (.t 91)
                .skip
                (.exit 2)))
              (.seq
               (.block 3
                (.seq
                 (.draw [
                   ⟨(some 94), none, .mov (.t 8)⟩,
                   ⟨(some 95), none, .mov (.t 12)⟩,
                   ⟨(some 96), none, .iaddrSl 1 (.t 94) (.t 95)⟩,
                   ⟨(some 97), none, .load false 1 (.t 96)⟩,
                   ⟨(some 98), none, .mov (.t 10)⟩,
                   ⟨(some 99), none, .mov (.t 12)⟩,
                   ⟨(some 100), none, .iaddrSl 1 (.t 98) (.t 99)⟩,
                   ⟨(some 101), none, .load false 1 (.t 100)⟩,
                   ⟨(some 102), none, .ibin .neq (.t 97) (.t 101)⟩]
                   [[], [], [0, 1], [2, 0, 1], [], [], [4, 5], [6, 4, 5], [3, 7, 2, 0, 1, 6, 4, 5]])
                 (.cond (.t 102)
                  (.seq
                   (.reg [
                     ⟨(some 6), none, .mov (.c (.bool false))⟩])
                   .ret)
                  .skip)))
               (.reg [
                 ⟨(some 92), none, .mov (.t 12)⟩,
                 ⟨(some 93), none, .ibin .add (.t 92) (.c (.int .i64 1))⟩,
                 ⟨(some 12), none, .mov (.t 93)⟩]))))))
          (.seq
           (.reg [
             ⟨(some 104), none, .mov (.t 2)⟩,
             ⟨(some 105), none, .call (.c (.fn 32 [] [])) [(.t 104)]⟩,
             ⟨(some 103), none, .mov (.t 105)⟩,
             ⟨(some 106), none, .extract (.t 103) 0⟩,
             ⟨(some 107), none, .extract (.t 103) 1⟩,
             ⟨(some 108), none, .extract (.t 103) 2⟩,
             ⟨(some 109), none, .extract (.t 103) 3⟩,
             ⟨(some 13), none, .mov (.t 106)⟩,
             ⟨(some 14), none, .mov (.t 107)⟩,
             ⟨(some 15), none, .mov (.t 108)⟩,
             ⟨(some 16), none, .mov (.t 109)⟩])
           (.seq
            (.reg [
              ⟨(some 111), none, .mov (.t 2)⟩,
              ⟨(some 112), none, .call (.c (.fn 36 [] [])) [(.t 111)]⟩,
              ⟨(some 110), none, .mov (.t 112)⟩,
              ⟨(some 113), none, .extract (.t 110) 0⟩,
              ⟨(some 114), none, .extract (.t 110) 1⟩,
              ⟨(some 115), none, .extract (.t 110) 2⟩,
              ⟨(some 116), none, .extract (.t 110) 3⟩,
              ⟨(some 17), none, .mov (.t 113)⟩,
              ⟨(some 18), none, .mov (.t 114)⟩,
              ⟨(some 19), none, .mov (.t 115)⟩,
              ⟨(some 20), none, .mov (.t 116)⟩])
            (.seq
             (.reg [
               ⟨(some 117), none, .mov (.t 13)⟩,
               ⟨(some 118), none, .mov (.t 17)⟩,
               ⟨(some 119), none, .ibin .eql (.t 117) (.t 118)⟩,
               ⟨(some 120), none, .mov (.t 119)⟩,
               ⟨(some 121), (some (120, true)), .mov (.t 14)⟩,
               ⟨(some 122), (some (120, true)), .mov (.t 18)⟩,
               ⟨(some 123), (some (120, true)), .ibin .eql (.t 121) (.t 122)⟩,
               ⟨(some 124), none, .pick (.t 120) (.t 123) (.c (.bool false))⟩,
               ⟨(some 125), none, .mov (.t 124)⟩,
               ⟨(some 126), (some (125, true)), .mov (.t 15)⟩,
               ⟨(some 127), (some (125, true)), .mov (.t 19)⟩,
               ⟨(some 128), (some (125, true)), .ibin .eql (.t 126) (.t 127)⟩,
               ⟨(some 129), none, .pick (.t 125) (.t 128) (.c (.bool false))⟩,
               ⟨(some 130), none, .mov (.t 129)⟩,
               ⟨(some 131), (some (130, true)), .mov (.t 16)⟩,
               ⟨(some 132), (some (130, true)), .call (.c (.fn 37 [] [])) [(.t 131)]⟩,
               ⟨(some 133), (some (130, true)), .mov (.t 20)⟩,
               ⟨(some 134), (some (130, true)), .ibin .eql (.t 132) (.t 133)⟩,
               ⟨(some 135), none, .pick (.t 130) (.t 134) (.c (.bool false))⟩,
               ⟨(some 6), none, .mov (.t 135)⟩])
             .ret)))))))))))⟩

theorem c37 : cFun Tryd.prog [0, 2] Tryd.f37 = some F37 := by kernel_rfl
theorem c10 : cFun Tryd.prog [0, 2] Tryd.f10 = some F10 := by kernel_rfl
theorem c9 : cFun Tryd.prog [0, 2] Tryd.f9 = some F9 := by kernel_rfl
end Go.Proofs.YtcmnchmkoghfdaaDoor.C05h
