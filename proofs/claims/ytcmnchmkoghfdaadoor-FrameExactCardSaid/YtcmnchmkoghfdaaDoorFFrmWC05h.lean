import Derived.Test.YtcmnchmkoghfdaaDoorFVGC05h
open Go AH
namespace Go.Proofs.YtcmnchmkoghfdaaDoor.C05h
-- quitrent/quitrentlaw05.awake
def F29 : AFun := ⟨75, 0, [.tmp 0],
  (.seq
   (.reg [
     ⟨(some 0), none, .mov (.c (.bool false))⟩])
   (.seq
    (.reg [
      ⟨(some 10), none, .call (.c (.fn 30 [] [])) [(.c (.int .i64 7)), (.c (.str ⟨#[97]⟩))]⟩,
      ⟨(some 9), none, .mov (.t 10)⟩,
      ⟨(some 11), none, .extract (.t 9) 0⟩,
      ⟨(some 12), none, .extract (.t 9) 1⟩,
      ⟨(some 1), none, .mov (.t 11)⟩,
      ⟨(some 2), none, .mov (.t 12)⟩])
    (.seq
     (.seq
      (.reg [
        ⟨(some 13), none, .mov (.t 2)⟩,
        ⟨(some 14), none, .eq true .iface true (.t 13) (.c .nili)⟩,
        ⟨(some 15), none, .mov (.t 14)⟩,
        ⟨(some 16), (some (15, false)), .mov (.t 1)⟩,
        ⟨(some 17), (some (15, false)), .len .sl (.t 16)⟩,
        ⟨(some 18), (some (15, false)), .ibin .neq (.t 17) (.c (.int .i64 1))⟩,
        ⟨(some 19), none, .pick (.t 15) (.c (.bool true)) (.t 18)⟩])
      (.cond (.t 19)
       (.seq
        (.reg [
          ⟨(some 0), none, .mov (.c (.bool false))⟩])
        .ret)
       .skip))
     (.seq
      (.reg [
        ⟨(some 21), none, .mov (.t 1)⟩,
        ⟨(some 22), none, .call (.c (.fn 32 [] [])) [(.t 21)]⟩,
        ⟨(some 20), none, .mov (.t 22)⟩,
        ⟨(some 23), none, .extract (.t 20) 0⟩,
        ⟨(some 24), none, .extract (.t 20) 1⟩,
        ⟨(some 25), none, .extract (.t 20) 2⟩,
        ⟨(some 26), none, .extract (.t 20) 3⟩,
        ⟨(some 3), none, .mov (.t 23)⟩,
        ⟨(some 4), none, .mov (.t 24)⟩,
        ⟨(some 5), none, .mov (.t 25)⟩,
        ⟨(some 6), none, .mov (.t 26)⟩])
      (.seq
       (.reg [
         ⟨(some 28), none, .call (.c (.fn 30 [] [])) [(.c (.int .i64 0)), (.c (.str ⟨#[97]⟩))]⟩,
         ⟨(some 27), none, .mov (.t 28)⟩,
         ⟨(some 29), none, .extract (.t 27) 0⟩,
         ⟨(some 30), none, .extract (.t 27) 1⟩,
         ⟨(some 7), none, .mov (.t 29)⟩,
         ⟨(some 8), none, .mov (.t 30)⟩])
       (.seq
        (.reg [
          ⟨(some 31), none, .mov (.t 1)⟩,
          ⟨(some 32), none, .iaddrSl 1 (.t 31) (.c (.int .i64 0))⟩,
          ⟨(some 33), none, .load false 1 (.t 32)⟩,
          ⟨(some 34), none, .len .str (.t 33)⟩,
          ⟨(some 35), none, .ibin .eql (.t 34) (.c (.int .i64 64))⟩,
          ⟨(some 36), none, .mov (.t 35)⟩,
          ⟨(some 37), (some (36, true)), .mov (.t 1)⟩,
          ⟨(some 38), (some (36, true)), .iaddrSl 1 (.t 37) (.c (.int .i64 0))⟩,
          ⟨(some 39), (some (36, true)), .load false 1 (.t 38)⟩,
          ⟨(some 40), (some (36, true)), .sliceStr (.t 39) none (some (.c (.int .i64 4)))⟩,
          ⟨(some 41), (some (36, true)), .ibin .eql (.t 40) (.c (.str ⟨#[1, 0, 0, 0]⟩))⟩,
          ⟨(some 42), none, .pick (.t 36) (.t 41) (.c (.bool false))⟩,
          ⟨(some 43), none, .mov (.t 42)⟩,
          ⟨(some 44), (some (43, true)), .mov (.t 1)⟩,
          ⟨(some 45), (some (43, true)), .iaddrSl 1 (.t 44) (.c (.int .i64 0))⟩,
          ⟨(some 46), (some (43, true)), .load false 1 (.t 45)⟩,
          ⟨(some 47), (some (43, true)), .sliceStr (.t 46) (some (.c (.int .i64 56))) none⟩,
          ⟨(some 48), (some (43, true)), .ibin .eql (.t 47) (.c (.str ⟨#[7, 0, 0, 0, 0, 0, 1, 0]⟩))⟩,
          ⟨(some 49), none, .pick (.t 43) (.t 48) (.c (.bool false))⟩,
          ⟨(some 50), none, .mov (.t 49)⟩,
          ⟨(some 51), (some (50, true)), .mov (.t 3)⟩,
          ⟨(some 52), (some (50, true)), .ibin .eql (.t 51) (.c (.str ⟨#[97]⟩))⟩,
          ⟨(some 53), none, .pick (.t 50) (.t 52) (.c (.bool false))⟩,
          ⟨(some 54), none, .mov (.t 53)⟩,
          ⟨(some 55), (some (54, true)), .mov (.t 4)⟩,
          ⟨(some 56), (some (54, true)), .ibin .eql (.t 55) (.c (.int .i64 7))⟩,
          ⟨(some 57), none, .pick (.t 54) (.t 56) (.c (.bool false))⟩,
          ⟨(some 58), none, .mov (.t 57)⟩,
          ⟨(some 59), (some (58, true)), .mov (.t 5)⟩,
          ⟨(some 60), (some (58, true)), .ibin .eql (.t 59) (.c (.int .i64 1))⟩,
          ⟨(some 61), none, .pick (.t 58) (.t 60) (.c (.bool false))⟩,
          ⟨(some 62), none, .mov (.t 61)⟩,
          ⟨(some 63), (some (62, true)), .mov (.t 6)⟩,
          ⟨(some 64), (some (62, true)), .eq false .iface true (.t 63) (.c .nili)⟩,
          ⟨(some 65), none, .pick (.t 62) (.t 64) (.c (.bool false))⟩,
          ⟨(some 66), none, .mov (.t 65)⟩,
          ⟨(some 67), (some (66, true)), .mov (.t 8)⟩,
          ⟨(some 68), (some (66, true)), .loadg 0⟩,
          ⟨(some 69), (some (66, true)), .call (.c (.fn 33 [] [])) [(.t 67), (.t 68)]⟩,
          ⟨(some 70), none, .pick (.t 66) (.t 69) (.c (.bool false))⟩,
          ⟨(some 71), none, .mov (.t 70)⟩,
          ⟨(some 72), (some (71, true)), .call (.c (.fn 31 [] [])) [(.c (.str ⟨#[]⟩))]⟩,
          ⟨(some 73), (some (71, true)), .ibin .eql (.t 72) (.c (.int .i64 1))⟩,
          ⟨(some 74), none, .pick (.t 71) (.t 73) (.c (.bool false))⟩,
          ⟨(some 0), none, .mov (.t 74)⟩])
        .ret))))))⟩

-- quitrent/quitrentlaw05.FrameBack
def F7 : AFun := ⟨135, 4, [.tmp 8],
  (.seq
   (.reg [
     ⟨(some 8), none, .mov (.c (.bool false))⟩])
   (.seq
    (.seq
     (.reg [
       ⟨(some 21), none, .call (.c (.fn 29 [] [])) []⟩,
       ⟨(some 22), none, .un .not (.t 21)⟩])
     (.cond (.t 22)
      (.seq
       (.reg [
         ⟨(some 8), none, .mov (.c (.bool false))⟩])
       .ret)
      .skip))
    (.seq
     (.seq
      (.reg [
        ⟨(some 23), none, .mov (.t 0)⟩,
        ⟨(some 24), none, .len .str (.t 23)⟩,
        ⟨(some 25), none, .ibin .gtr (.t 24) (.c (.int .i64 400))⟩,
        ⟨(some 26), none, .mov (.t 25)⟩,
        ⟨(some 27), (some (26, false)), .mov (.t 1)⟩,
        ⟨(some 28), (some (26, false)), .len .str (.t 27)⟩,
        ⟨(some 29), (some (26, false)), .ibin .gtr (.t 28) (.c (.int .i64 400))⟩,
        ⟨(some 30), none, .pick (.t 26) (.c (.bool true)) (.t 29)⟩])
      (.cond (.t 30)
       (.seq
        (.reg [
          ⟨(some 8), none, .mov (.c (.bool true))⟩])
        .ret)
       .skip))
     (.seq
      (.reg [
        ⟨(some 31), none, .mov (.t 2)⟩,
        ⟨(some 32), none, .i2i .u64 (.t 31)⟩,
        ⟨(some 33), none, .ibin .rem (.t 32) (.c (.int .u64 1000))⟩,
        ⟨(some 34), none, .i2i .i64 (.t 33)⟩,
        ⟨(some 35), none, .ibin .add (.c (.int .i64 1)) (.t 34)⟩,
        ⟨(some 9), none, .mov (.t 35)⟩])
      (.seq
       (.reg [
         ⟨(some 36), none, .mov (.t 3)⟩,
         ⟨(some 37), none, .i2i .u64 (.t 36)⟩,
         ⟨(some 38), none, .ibin .rem (.t 37) (.c (.int .u64 1000))⟩,
         ⟨(some 39), none, .i2i .i64 (.t 38)⟩,
         ⟨(some 40), none, .ibin .add (.c (.int .i64 1)) (.t 39)⟩,
         ⟨(some 10), none, .mov (.t 40)⟩])
       (.seq
        (.reg [
          ⟨(some 42), none, .mov (.t 9)⟩,
          ⟨(some 43), none, .mov (.t 0)⟩,
          ⟨(some 44), none, .call (.c (.fn 30 [] [])) [(.t 42), (.t 43)]⟩,
          ⟨(some 41), none, .mov (.t 44)⟩,
          ⟨(some 45), none, .extract (.t 41) 0⟩,
          ⟨(some 46), none, .extract (.t 41) 1⟩,
          ⟨(some 11), none, .mov (.t 45)⟩,
          ⟨(some 12), none, .mov (.t 46)⟩])
        (.seq
         (.reg [
           ⟨(some 48), none, .mov (.t 10)⟩,
           ⟨(some 49), none, .mov (.t 1)⟩,
           ⟨(some 50), none, .call (.c (.fn 30 [] [])) [(.t 48), (.t 49)]⟩,
           ⟨(some 47), none, .mov (.t 50)⟩,
           ⟨(some 51), none, .extract (.t 47) 0⟩,
           ⟨(some 52), none, .extract (.t 47) 1⟩,
           ⟨(some 13), none, .mov (.t 51)⟩,
           ⟨(some 14), none, .mov (.t 52)⟩])
         (.seq
          (.seq
           (.reg [
             ⟨(some 53), none, .mov (.t 12)⟩,
             ⟨(some 54), none, .eq true .iface true (.t 53) (.c .nili)⟩,
             ⟨(some 55), none, .mov (.t 54)⟩,
             ⟨(some 56), (some (55, false)), .mov (.t 14)⟩,
             ⟨(some 57), (some (55, false)), .eq true .iface true (.t 56) (.c .nili)⟩,
             ⟨(some 58), none, .pick (.t 55) (.c (.bool true)) (.t 57)⟩,
             ⟨(some 59), none, .mov (.t 58)⟩,
             ⟨(some 60), (some (59, false)), .mov (.t 11)⟩,
             ⟨(some 61), (some (59, false)), .len .sl (.t 60)⟩,
             ⟨(some 62), (some (59, false)), .mov (.t 0)⟩,
             ⟨(some 63), (some (59, false)), .call (.c (.fn 31 [] [])) [(.t 62)]⟩,
             ⟨(some 64), (some (59, false)), .ibin .neq (.t 61) (.t 63)⟩,
             ⟨(some 65), none, .pick (.t 59) (.c (.bool true)) (.t 64)⟩,
             ⟨(some 66), none, .mov (.t 65)⟩,
             ⟨(some 67), (some (66, false)), .mov (.t 13)⟩,
             ⟨(some 68), (some (66, false)), .len .sl (.t 67)⟩,
             ⟨(some 69), (some (66, false)), .mov (.t 1)⟩,
             ⟨(some 70), (some (66, false)), .call (.c (.fn 31 [] [])) [(.t 69)]⟩,
             ⟨(some 71), (some (66, false)), .ibin .neq (.t 68) (.t 70)⟩,
             ⟨(some 72), none, .pick (.t 66) (.c (.bool true)) (.t 71)⟩])
           (.cond (.t 72)
            (.seq
             (.reg [
               ⟨(some 8), none, .mov (.c (.bool false))⟩])
             .ret)
            .skip))
          (.seq
           (.reg [
             ⟨(some 74), none, .bslice 1 0 [(.str ⟨#[]⟩)] []⟩,
             ⟨(some 75), none, .mov (.t 11)⟩,
             ⟨(some 76), none, .append 1 16 [(.str ⟨#[]⟩)] (.t 74) (.t 75)⟩,
             ⟨(some 77), none, .mov (.t 13)⟩,
             ⟨(some 78), none, .append 1 16 [(.str ⟨#[]⟩)] (.t 76) (.t 77)⟩,
             ⟨(some 79), none, .call (.c (.fn 32 [] [])) [(.t 78)]⟩,
             ⟨(some 73), none, .mov (.t 79)⟩,
             ⟨(some 80), none, .extract (.t 73) 0⟩,
             ⟨(some 81), none, .extract (.t 73) 1⟩,
             ⟨(some 82), none, .extract (.t 73) 2⟩,
             ⟨(some 83), none, .extract (.t 73) 3⟩,
             ⟨(some 15), none, .mov (.t 80)⟩,
             ⟨(some 16), none, .mov (.t 81)⟩,
             ⟨(some 17), none, .mov (.t 82)⟩,
             ⟨(some 18), none, .mov (.t 83)⟩])
           (.seq
            (.seq
             (.reg [
               ⟨(some 84), none, .mov (.t 18)⟩,
               ⟨(some 85), none, .eq true .iface true (.t 84) (.c .nili)⟩,
               ⟨(some 86), none, .mov (.t 85)⟩,
               ⟨(some 87), (some (86, false)), .mov (.t 15)⟩,
               ⟨(some 88), (some (86, false)), .mov (.t 0)⟩,
               ⟨(some 89), (some (86, false)), .ibin .neq (.t 87) (.t 88)⟩,
               ⟨(some 90), none, .pick (.t 86) (.c (.bool true)) (.t 89)⟩,
               ⟨(some 91), none, .mov (.t 90)⟩,
               ⟨(some 92), (some (91, false)), .mov (.t 16)⟩,
               ⟨(some 93), (some (91, false)), .mov (.t 9)⟩,
               ⟨(some 94), (some (91, false)), .ibin .neq (.t 92) (.t 93)⟩,
               ⟨(some 95), none, .pick (.t 91) (.c (.bool true)) (.t 94)⟩,
               ⟨(some 96), none, .mov (.t 95)⟩,
               ⟨(some 97), (some (96, false)), .mov (.t 17)⟩,
               ⟨(some 98), (some (96, false)), .mov (.t 11)⟩,
               ⟨(some 99), (some (96, false)), .len .sl (.t 98)⟩,
               ⟨(some 100), (some (96, false)), .ibin .neq (.t 97) (.t 99)⟩,
               ⟨(some 101), none, .pick (.t 96) (.c (.bool true)) (.t 100)⟩])
             (.cond (.t 101)
              (.seq
               (.reg [
                 ⟨(some 8), none, .mov (.c (.bool false))⟩])
               .ret)
              .skip))
            (.seq
             (.reg [
               ⟨(some 102), none, .mov (.t 11)⟩,
               ⟨(some 103), none, .len .sl (.t 102)⟩,
               ⟨(some 104), none, .mov (.t 13)⟩,
               ⟨(some 105), none, .len .sl (.t 104)⟩,
               ⟨(some 106), none, .ibin .eql (.t 103) (.t 105)⟩,
               ⟨(some 19), none, .mov (.t 106)⟩])
             (.seq
              (.seq
               (.reg [
                 ⟨(some 20), none, .mov (.c (.int .i64 0))⟩])
               (.block 0
                (.loop
                 (.seq
                  (.seq
                   (.reg [
                     ⟨(some 107), none, .mov (.t 20)⟩,
                     ⟨(some 108), none, .mov (.t 11)⟩,
                     ⟨(some 109), none, .len .sl (.t 108)⟩,
                     ⟨(some 110), none, .ibin .lss (.t 107) (.t 109)⟩,
                     ⟨(some 111), none, .mov (.t 110)⟩,
                     ⟨(some 112), (some (111, true)), .mov (.t 19)⟩,
                     ⟨(some 113), none, .pick (.t 111) (.t 112) (.c (.bool false))⟩])
                   (.cond (.t 113)
                    .skip
                    (.exit 0)))
                  (.seq
                   (.block 1
                    (.draw [
                      ⟨(some 116), none, .mov (.t 11)⟩,
                      ⟨(some 117), none, .mov (.t 20)⟩,
                      ⟨(some 118), none, .iaddrSl 1 (.t 116) (.t 117)⟩,
                      ⟨(some 119), none, .load false 1 (.t 118)⟩,
                      ⟨(some 120), none, .mov (.t 13)⟩,
                      ⟨(some 121), none, .mov (.t 20)⟩,
                      ⟨(some 122), none, .iaddrSl 1 (.t 120) (.t 121)⟩,
                      ⟨(some 123), none, .load false 1 (.t 122)⟩,
                      ⟨(some 124), none, .ibin .eql (.t 119) (.t 123)⟩,
                      ⟨(some 19), none, .mov (.t 124)⟩]
                      [[], [], [0, 1], [2, 0, 1], [], [], [4, 5], [6, 4, 5], [3, 7, 2, 0, 1, 6, 4, 5], [8, 0, 1, 2, 3, 4, 5, 6, 7]]))
                   (.reg [
                     ⟨(some 114), none, .mov (.t 20)⟩,
                     ⟨(some 115), none, .ibin .add (.t 114) (.c (.int .i64 1))⟩,
                     ⟨(some 20), none, .mov (.t 115)⟩]))))))
              (.seq
               (.reg [
                 ⟨(some 125), none, .mov (.t 19)⟩,
                 ⟨(some 126), none, .mov (.t 0)⟩,
                 ⟨(some 127), none, .mov (.t 1)⟩,
                 ⟨(some 128), none, .ibin .eql (.t 126) (.t 127)⟩,
                 ⟨(some 129), none, .mov (.t 128)⟩,
                 ⟨(some 130), (some (129, true)), .mov (.t 9)⟩,
                 ⟨(some 131), (some (129, true)), .mov (.t 10)⟩,
                 ⟨(some 132), (some (129, true)), .ibin .eql (.t 130) (.t 131)⟩,
                 ⟨(some 133), none, .pick (.t 129) (.t 132) (.c (.bool false))⟩,
                 ⟨(some 134), none, .eq false .bool false (.t 125) (.t 133)⟩,
                 ⟨(some 8), none, .mov (.t 134)⟩])
               .ret)))))))))))))⟩

-- quitrent/quitrentlaw05.FrameSizes
def F8 : AFun := ⟨84, 2, [.tmp 4],
  (.seq
   (.reg [
     ⟨(some 4), none, .mov (.c (.bool false))⟩])
   (.seq
    (.seq
     (.reg [
       ⟨(some 14), none, .call (.c (.fn 29 [] [])) []⟩,
       ⟨(some 15), none, .un .not (.t 14)⟩])
     (.cond (.t 15)
      (.seq
       (.reg [
         ⟨(some 4), none, .mov (.c (.bool false))⟩])
       .ret)
      .skip))
    (.seq
     (.reg [
       ⟨(some 16), none, .mov (.t 0)⟩,
       ⟨(some 17), none, .i2i .u64 (.t 16)⟩,
       ⟨(some 18), none, .ibin .rem (.t 17) (.c (.int .u64 6100))⟩,
       ⟨(some 19), none, .i2i .i64 (.t 18)⟩,
       ⟨(some 5), none, .mov (.t 19)⟩])
     (.seq
      (.reg [
        ⟨(some 20), none, .mov (.t 5)⟩,
        ⟨(some 21), none, .mkslice 1 1 [(.int .u8 0)] (.t 20) (.t 20)⟩,
        ⟨(some 6), none, .mov (.t 21)⟩])
      (.seq
       (.seq
        (.reg [
          ⟨(some 7), none, .mov (.c (.int .i64 0))⟩])
        (.block 0
         (.loop
          (.seq
           (.seq
            (.reg [
              ⟨(some 22), none, .mov (.t 7)⟩,
              ⟨(some 23), none, .mov (.t 5)⟩,
              ⟨(some 24), none, .ibin .lss (.t 22) (.t 23)⟩])
            (.cond (.t 24)
             .skip
             (.exit 0)))
           (.seq
            (.block 1
             (.reg [
               ⟨(some 27), none, .mov (.t 6)⟩,
               ⟨(some 28), none, .mov (.t 7)⟩,
               ⟨(some 29), none, .mov (.t 1)⟩,
               ⟨(some 30), none, .iaddrSl 1 (.t 27) (.t 28)⟩,
               ⟨none, none, .store 1 (.t 30) (.t 29)⟩]))
            (.reg [
              ⟨(some 25), none, .mov (.t 7)⟩,
              ⟨(some 26), none, .ibin .add (.t 25) (.c (.int .i64 1))⟩,
              ⟨(some 7), none, .mov (.t 26)⟩]))))))
       (.seq
        (.reg [
          ⟨(some 32), none, .mov (.t 6)⟩,
          ⟨(some 33), none, .b2s (.t 32)⟩,
          ⟨(some 34), none, .call (.c (.fn 30 [] [])) [(.c (.int .i64 2147483647)), (.t 33)]⟩,
          ⟨(some 31), none, .mov (.t 34)⟩,
          ⟨(some 35), none, .extract (.t 31) 0⟩,
          ⟨(some 36), none, .extract (.t 31) 1⟩,
          ⟨(some 8), none, .mov (.t 35)⟩,
          ⟨(some 9), none, .mov (.t 36)⟩])
        (.seq
         (.seq
          (.reg [
            ⟨(some 37), none, .mov (.t 5)⟩,
            ⟨(some 38), none, .ibin .gtr (.t 37) (.c (.int .i64 6000))⟩])
          (.cond (.t 38)
           (.seq
            (.reg [
              ⟨(some 39), none, .mov (.t 9)⟩,
              ⟨(some 40), none, .loadg 0⟩,
              ⟨(some 41), none, .call (.c (.fn 33 [] [])) [(.t 39), (.t 40)]⟩,
              ⟨(some 42), none, .mov (.t 41)⟩,
              ⟨(some 43), (some (42, true)), .mov (.t 8)⟩,
              ⟨(some 44), (some (42, true)), .len .sl (.t 43)⟩,
              ⟨(some 45), (some (42, true)), .ibin .eql (.t 44) (.c (.int .i64 0))⟩,
              ⟨(some 46), none, .pick (.t 42) (.t 45) (.c (.bool false))⟩,
              ⟨(some 4), none, .mov (.t 46)⟩])
            .ret)
           .skip))
         (.seq
          (.reg [
            ⟨(some 48), none, .mov (.t 8)⟩,
            ⟨(some 49), none, .call (.c (.fn 32 [] [])) [(.t 48)]⟩,
            ⟨(some 47), none, .mov (.t 49)⟩,
            ⟨(some 50), none, .extract (.t 47) 0⟩,
            ⟨(some 51), none, .extract (.t 47) 1⟩,
            ⟨(some 52), none, .extract (.t 47) 2⟩,
            ⟨(some 53), none, .extract (.t 47) 3⟩,
            ⟨(some 10), none, .mov (.t 50)⟩,
            ⟨(some 11), none, .mov (.t 51)⟩,
            ⟨(some 12), none, .mov (.t 52)⟩,
            ⟨(some 13), none, .mov (.t 53)⟩])
          (.seq
           (.reg [
             ⟨(some 54), none, .mov (.t 9)⟩,
             ⟨(some 55), none, .eq false .iface true (.t 54) (.c .nili)⟩,
             ⟨(some 56), none, .mov (.t 55)⟩,
             ⟨(some 57), (some (56, true)), .mov (.t 13)⟩,
             ⟨(some 58), (some (56, true)), .eq false .iface true (.t 57) (.c .nili)⟩,
             ⟨(some 59), none, .pick (.t 56) (.t 58) (.c (.bool false))⟩,
             ⟨(some 60), none, .mov (.t 59)⟩,
             ⟨(some 61), (some (60, true)), .mov (.t 8)⟩,
             ⟨(some 62), (some (60, true)), .len .sl (.t 61)⟩,
             ⟨(some 63), (some (60, true)), .mov (.t 6)⟩,
             ⟨(some 64), (some (60, true)), .b2s (.t 63)⟩,
             ⟨(some 65), (some (60, true)), .call (.c (.fn 31 [] [])) [(.t 64)]⟩,
             ⟨(some 66), (some (60, true)), .ibin .eql (.t 62) (.t 65)⟩,
             ⟨(some 67), none, .pick (.t 60) (.t 66) (.c (.bool false))⟩,
             ⟨(some 68), none, .mov (.t 67)⟩,
             ⟨(some 69), (some (68, true)), .mov (.t 12)⟩,
             ⟨(some 70), (some (68, true)), .mov (.t 8)⟩,
             ⟨(some 71), (some (68, true)), .len .sl (.t 70)⟩,
             ⟨(some 72), (some (68, true)), .ibin .eql (.t 69) (.t 71)⟩,
             ⟨(some 73), none, .pick (.t 68) (.t 72) (.c (.bool false))⟩,
             ⟨(some 74), none, .mov (.t 73)⟩,
             ⟨(some 75), (some (74, true)), .mov (.t 11)⟩,
             ⟨(some 76), (some (74, true)), .ibin .eql (.t 75) (.c (.int .i64 2147483647))⟩,
             ⟨(some 77), none, .pick (.t 74) (.t 76) (.c (.bool false))⟩,
             ⟨(some 78), none, .mov (.t 77)⟩,
             ⟨(some 79), (some (78, true)), .mov (.t 10)⟩,
             ⟨(some 80), (some (78, true)), .mov (.t 6)⟩,
             ⟨(some 81), (some (78, true)), .b2s (.t 80)⟩,
             ⟨(some 82), (some (78, true)), .ibin .eql (.t 79) (.t 81)⟩,
             ⟨(some 83), none, .pick (.t 78) (.t 82) (.c (.bool false))⟩,
             ⟨(some 4), none, .mov (.t 83)⟩])
           .ret)))))))))⟩

theorem c29 : cFun Tryd.prog [0, 2] Tryd.f29 = some F29 := by kernel_rfl
theorem c7 : cFun Tryd.prog [0, 2] Tryd.f7 = some F7 := by kernel_rfl
theorem c8 : cFun Tryd.prog [0, 2] Tryd.f8 = some F8 := by kernel_rfl
end Go.Proofs.YtcmnchmkoghfdaaDoor.C05h
