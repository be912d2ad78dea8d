import Derived.Test.YtcmnchmkoghfdaaDoorFVGC05h
open Go AH
namespace Go.Proofs.YtcmnchmkoghfdaaDoor.C05h
-- quitrent/quitrentref05.number
def F50 : AFun := ⟨23, 2, [.tmp 4],
  (.seq
   (.reg [
     ⟨(some 4), none, .mov (.c (.str ⟨#[]⟩))⟩])
   (.seq
    (.reg [
      ⟨(some 7), none, .bslice 1 0 [(.int .u8 0)] []⟩,
      ⟨(some 5), none, .mov (.t 7)⟩])
    (.seq
     (.seq
      (.reg [
        ⟨(some 6), none, .mov (.c (.int .i64 0))⟩])
      (.block 0
       (.loop
        (.seq
         (.seq
          (.reg [
            ⟨(some 8), none, .mov (.t 6)⟩,
            ⟨(some 9), none, .mov (.t 1)⟩,
            ⟨(some 10), none, .ibin .lss (.t 8) (.t 9)⟩])
          (.cond (.t 10)
           .skip
           (.exit 0)))
         (.seq
          (.block 1
           (.reg [
             ⟨(some 13), none, .mov (.t 5)⟩,
             ⟨(some 14), none, .mov (.t 0)⟩,
             ⟨(some 15), none, .mov (.t 6)⟩,
             ⟨(some 16), none, .ibin .mul (.c (.int .i64 8)) (.t 15)⟩,
             ⟨(some 17), none, .ibin .shr (.t 14) (.t 16)⟩,
             ⟨(some 18), none, .i2i .u8 (.t 17)⟩,
             ⟨(some 19), none, .bslice 1 1 [(.int .u8 0)] [(0, 1, (.t 18))]⟩,
             ⟨(some 20), none, .append 1 1 [(.int .u8 0)] (.t 13) (.t 19)⟩,
             ⟨(some 5), none, .mov (.t 20)⟩]))
          (.reg [
            ⟨(some 11), none, .mov (.t 6)⟩,
            ⟨(some 12), none, .ibin .add (.t 11) (.c (.int .i64 1))⟩,
            ⟨(some 6), none, .mov (.t 12)⟩]))))))
     (.seq
      (.reg [
        ⟨(some 21), none, .mov (.t 5)⟩,
        ⟨(some 22), none, .b2s (.t 21)⟩,
        ⟨(some 4), none, .mov (.t 22)⟩])
      .ret))))⟩

-- quitrent/quitrentref05.value
def F52 : AFun := ⟨20, 1, [.tmp 2],
  (.seq
   (.reg [
     ⟨(some 2), none, .mov (.c (.int .i64 0))⟩])
   (.seq
    (.reg [
      ⟨(some 3), none, .mov (.c (.int .i64 0))⟩])
    (.seq
     (.seq
      (.reg [
        ⟨(some 5), none, .mov (.t 0)⟩,
        ⟨(some 6), none, .len .str (.t 5)⟩,
        ⟨(some 7), none, .ibin .sub (.t 6) (.c (.int .i64 1))⟩,
        ⟨(some 4), none, .mov (.t 7)⟩])
      (.block 0
       (.loop
        (.seq
         (.seq
          (.reg [
            ⟨(some 8), none, .mov (.t 4)⟩,
            ⟨(some 9), none, .ibin .geq (.t 8) (.c (.int .i64 0))⟩])
          (.cond (.t 9)
           .skip
           (.exit 0)))
         (.seq
          (.block 1
           (.reg [
             ⟨(some 12), none, .mov (.t 3)⟩,
             ⟨(some 13), none, .ibin .mul (.t 12) (.c (.int .i64 256))⟩,
             ⟨(some 14), none, .mov (.t 0)⟩,
             ⟨(some 15), none, .mov (.t 4)⟩,
             ⟨(some 16), none, .idxStr (.t 14) (.t 15)⟩,
             ⟨(some 17), none, .i2i .i64 (.t 16)⟩,
             ⟨(some 18), none, .ibin .add (.t 13) (.t 17)⟩,
             ⟨(some 3), none, .mov (.t 18)⟩]))
          (.reg [
            ⟨(some 10), none, .mov (.t 4)⟩,
            ⟨(some 11), none, .ibin .sub (.t 10) (.c (.int .i64 1))⟩,
            ⟨(some 4), none, .mov (.t 11)⟩]))))))
     (.seq
      (.reg [
        ⟨(some 19), none, .mov (.t 3)⟩,
        ⟨(some 2), none, .mov (.t 19)⟩])
      .ret))))⟩

-- quitrent/quitrentref05.Size
def F35 : AFun := ⟨8, 1, [.tmp 2],
  (.seq
   (.reg [
     ⟨(some 2), none, .mov (.c (.int .i64 0))⟩])
   (.seq
    (.reg [
      ⟨(some 3), none, .mov (.t 0)⟩,
      ⟨(some 4), none, .len .str (.t 3)⟩,
      ⟨(some 5), none, .ibin .add (.t 4) (.c (.int .i64 8))⟩,
      ⟨(some 6), none, .ibin .add (.t 5) (.c (.int .i64 55))⟩,
      ⟨(some 7), none, .ibin .quo (.t 6) (.c (.int .i64 56))⟩,
      ⟨(some 2), none, .mov (.t 7)⟩])
    .ret))⟩

-- quitrent/quitrentref05.Blocks
def F34 : AFun := ⟨66, 2, [.tmp 4, .tmp 5],
  (.seq
   (.reg [
     ⟨(some 4), none, .mov (.c .nils)⟩,
     ⟨(some 5), none, .mov (.c (.bool false))⟩])
   (.seq
    (.seq
     (.reg [
       ⟨(some 10), none, .mov (.t 0)⟩,
       ⟨(some 11), none, .ibin .lss (.t 10) (.c (.int .i64 1))⟩,
       ⟨(some 12), none, .mov (.t 11)⟩,
       ⟨(some 13), (some (12, false)), .mov (.t 0)⟩,
       ⟨(some 14), (some (12, false)), .ibin .gtr (.t 13) (.c (.int .i64 2147483647))⟩,
       ⟨(some 15), none, .pick (.t 12) (.c (.bool true)) (.t 14)⟩,
       ⟨(some 16), none, .mov (.t 15)⟩,
       ⟨(some 17), (some (16, false)), .mov (.t 1)⟩,
       ⟨(some 18), (some (16, false)), .len .str (.t 17)⟩,
       ⟨(some 19), (some (16, false)), .ibin .gtr (.t 18) (.c (.int .i64 6000))⟩,
       ⟨(some 20), none, .pick (.t 16) (.c (.bool true)) (.t 19)⟩])
     (.cond (.t 20)
      (.seq
       (.reg [
         ⟨(some 4), none, .mov (.c .nils)⟩,
         ⟨(some 5), none, .mov (.c (.bool false))⟩])
       .ret)
      .skip))
    (.seq
     (.reg [
       ⟨(some 21), none, .mov (.t 1)⟩,
       ⟨(some 22), none, .len .str (.t 21)⟩,
       ⟨(some 23), none, .call (.c (.fn 50 [] [])) [(.t 22), (.c (.int .i64 4))]⟩,
       ⟨(some 24), none, .mov (.t 1)⟩,
       ⟨(some 25), none, .call (.c (.fn 51 [] [])) [(.t 24)]⟩,
       ⟨(some 26), none, .i2i .i64 (.t 25)⟩,
       ⟨(some 27), none, .call (.c (.fn 50 [] [])) [(.t 26), (.c (.int .i64 4))]⟩,
       ⟨(some 28), none, .ibin .add (.t 23) (.t 27)⟩,
       ⟨(some 29), none, .mov (.t 1)⟩,
       ⟨(some 30), none, .ibin .add (.t 28) (.t 29)⟩,
       ⟨(some 6), none, .mov (.t 30)⟩])
     (.seq
      (.block 0
       (.loop
        (.seq
         (.seq
          (.reg [
            ⟨(some 31), none, .mov (.t 6)⟩,
            ⟨(some 32), none, .len .str (.t 31)⟩,
            ⟨(some 33), none, .ibin .rem (.t 32) (.c (.int .i64 56))⟩,
            ⟨(some 34), none, .ibin .neq (.t 33) (.c (.int .i64 0))⟩])
          (.cond (.t 34)
           .skip
           (.exit 0)))
         (.block 1
          (.reg [
            ⟨(some 35), none, .mov (.t 6)⟩,
            ⟨(some 36), none, .ibin .add (.t 35) (.c (.str ⟨#[0]⟩))⟩,
            ⟨(some 6), none, .mov (.t 36)⟩])))))
      (.seq
       (.reg [
         ⟨(some 37), none, .bslice 1 0 [(.str ⟨#[]⟩)] []⟩,
         ⟨(some 7), none, .mov (.t 37)⟩])
       (.seq
        (.reg [
          ⟨(some 38), none, .mov (.t 6)⟩,
          ⟨(some 39), none, .len .str (.t 38)⟩,
          ⟨(some 40), none, .ibin .quo (.t 39) (.c (.int .i64 56))⟩,
          ⟨(some 8), none, .mov (.t 40)⟩])
        (.seq
         (.seq
          (.reg [
            ⟨(some 9), none, .mov (.c (.int .i64 0))⟩])
          (.block 2
           (.loop
            (.seq
             (.seq
              (.reg [
                ⟨(some 41), none, .mov (.t 9)⟩,
                ⟨(some 42), none, .mov (.t 8)⟩,
                ⟨(some 43), none, .ibin .lss (.t 41) (.t 42)⟩])
              (.cond (.t 43)
               .skip
               (.exit 2)))
             (.seq
              (.block 3
               (.draw [
                 ⟨(some 46), none, .mov (.t 7)⟩,
                 ⟨(some 47), none, .mov (.t 6)⟩,
                 ⟨(some 48), none, .mov (.t 9)⟩,
                 ⟨(some 49), none, .ibin .mul (.c (.int .i64 56)) (.t 48)⟩,
                 ⟨(some 50), none, .mov (.t 9)⟩,
                 ⟨(some 51), none, .ibin .mul (.c (.int .i64 56)) (.t 50)⟩,
                 ⟨(some 52), none, .ibin .add (.t 51) (.c (.int .i64 56))⟩,
                 ⟨(some 53), none, .sliceStr (.t 47) (some (.t 49)) (some (.t 52))⟩,
                 ⟨(some 54), none, .mov (.t 0)⟩,
                 ⟨(some 55), none, .call (.c (.fn 50 [] [])) [(.t 54), (.c (.int .i64 4))]⟩,
                 ⟨(some 56), none, .ibin .add (.t 53) (.t 55)⟩,
                 ⟨(some 57), none, .mov (.t 9)⟩,
                 ⟨(some 58), none, .call (.c (.fn 50 [] [])) [(.t 57), (.c (.int .i64 2))]⟩,
                 ⟨(some 59), none, .ibin .add (.t 56) (.t 58)⟩,
                 ⟨(some 60), none, .mov (.t 8)⟩,
                 ⟨(some 61), none, .call (.c (.fn 50 [] [])) [(.t 60), (.c (.int .i64 2))]⟩,
                 ⟨(some 62), none, .ibin .add (.t 59) (.t 61)⟩,
                 ⟨(some 63), none, .bslice 1 1 [(.str ⟨#[]⟩)] [(0, 1, (.t 62))]⟩,
                 ⟨(some 64), none, .append 1 16 [(.str ⟨#[]⟩)] (.t 46) (.t 63)⟩,
                 ⟨(some 7), none, .mov (.t 64)⟩]
                 [[], [], [], [2], [], [4], [5, 4], [1, 3, 6, 2, 5, 4], [], [8], [7, 9, 1, 3, 6, 2, 5, 4, 8], [], [11, 9, 8], [10, 12, 7, 9, 1, 3, 6, 2, 5, 4, 8, 11], [], [14, 12, 11, 9, 8], [13, 15, 10, 12, 7, 9, 1, 3, 6, 2, 5, 4, 8, 11, 14], [16, 13, 15, 10, 12, 7, 9, 1, 3, 6, 2, 5, 4, 8, 11, 14], [0, 17, 15, 16, 13, 10, 12, 7, 9, 1, 3, 6, 2, 5, 4, 8, 11, 14], [18, 0, 1, 2, 3, 4, 5, 6, 7, 8, 9, 10, 11, 12, 13, 14, 15, 16, 17]]))
              (.reg [
                ⟨(some 44), none, .mov (.t 9)⟩,
                ⟨(some 45), none, .ibin .add (.t 44) (.c (.int .i64 1))⟩,
                ⟨(some 9), none, .mov (.t 45)⟩]))))))
         (.seq
          (.reg [
            ⟨(some 65), none, .mov (.t 7)⟩,
            ⟨(some 4), none, .mov (.t 65)⟩,
            ⟨(some 5), none, .mov (.c (.bool true))⟩])
          .ret))))))))⟩

-- quitrent/quitrentref05.Read
def F36 : AFun := ⟨146, 1, [.tmp 2, .tmp 3, .tmp 4, .tmp 5],
  (.seq
   (.reg [
     ⟨(some 2), none, .mov (.c (.str ⟨#[]⟩))⟩,
     ⟨(some 3), none, .mov (.c (.int .i64 0))⟩,
     ⟨(some 4), none, .mov (.c (.int .i64 0))⟩,
     ⟨(some 5), none, .mov (.c (.int .i64 0))⟩])
   (.seq
    (.seq
     (.reg [
       ⟨(some 14), none, .mov (.t 0)⟩,
       ⟨(some 15), none, .len .sl (.t 14)⟩,
       ⟨(some 16), none, .ibin .eql (.t 15) (.c (.int .i64 0))⟩,
       ⟨(some 17), none, .mov (.t 16)⟩,
       ⟨(some 18), (some (17, false)), .mov (.t 0)⟩,
       ⟨(some 19), (some (17, false)), .iaddrSl 1 (.t 18) (.c (.int .i64 0))⟩,
       ⟨(some 20), (some (17, false)), .load false 1 (.t 19)⟩,
       ⟨(some 21), (some (17, false)), .len .str (.t 20)⟩,
       ⟨(some 22), (some (17, false)), .ibin .neq (.t 21) (.c (.int .i64 64))⟩,
       ⟨(some 23), none, .pick (.t 17) (.c (.bool true)) (.t 22)⟩])
     (.cond (.t 23)
      (.seq
       (.reg [
         ⟨(some 2), none, .mov (.c (.str ⟨#[]⟩))⟩,
         ⟨(some 3), none, .mov (.c (.int .i64 0))⟩,
         ⟨(some 4), none, .mov (.c (.int .i64 0))⟩,
         ⟨(some 5), none, .mov (.c (.int .i64 0))⟩])
       .ret)
      .skip))
    (.seq
     (.reg [
       ⟨(some 24), none, .mov (.t 0)⟩,
       ⟨(some 25), none, .iaddrSl 1 (.t 24) (.c (.int .i64 0))⟩,
       ⟨(some 26), none, .load false 1 (.t 25)⟩,
       ⟨(some 27), none, .sliceStr (.t 26) (some (.c (.int .i64 56))) (some (.c (.int .i64 60)))⟩,
       ⟨(some 28), none, .call (.c (.fn 52 [] [])) [(.t 27)]⟩,
       ⟨(some 6), none, .mov (.t 28)⟩])
     (.seq
      (.reg [
        ⟨(some 29), none, .mov (.t 0)⟩,
        ⟨(some 30), none, .iaddrSl 1 (.t 29) (.c (.int .i64 0))⟩,
        ⟨(some 31), none, .load false 1 (.t 30)⟩,
        ⟨(some 32), none, .sliceStr (.t 31) (some (.c (.int .i64 62))) (some (.c (.int .i64 64)))⟩,
        ⟨(some 33), none, .call (.c (.fn 52 [] [])) [(.t 32)]⟩,
        ⟨(some 7), none, .mov (.t 33)⟩])
      (.seq
       (.seq
        (.reg [
          ⟨(some 34), none, .mov (.t 6)⟩,
          ⟨(some 35), none, .ibin .lss (.t 34) (.c (.int .i64 1))⟩,
          ⟨(some 36), none, .mov (.t 35)⟩,
          ⟨(some 37), (some (36, false)), .mov (.t 6)⟩,
          ⟨(some 38), (some (36, false)), .ibin .gtr (.t 37) (.c (.int .i64 2147483647))⟩,
          ⟨(some 39), none, .pick (.t 36) (.c (.bool true)) (.t 38)⟩,
          ⟨(some 40), none, .mov (.t 39)⟩,
          ⟨(some 41), (some (40, false)), .mov (.t 0)⟩,
          ⟨(some 42), (some (40, false)), .iaddrSl 1 (.t 41) (.c (.int .i64 0))⟩,
          ⟨(some 43), (some (40, false)), .load false 1 (.t 42)⟩,
          ⟨(some 44), (some (40, false)), .sliceStr (.t 43) (some (.c (.int .i64 60))) (some (.c (.int .i64 62)))⟩,
          ⟨(some 45), (some (40, false)), .call (.c (.fn 52 [] [])) [(.t 44)]⟩,
          ⟨(some 46), (some (40, false)), .ibin .neq (.t 45) (.c (.int .i64 0))⟩,
          ⟨(some 47), none, .pick (.t 40) (.c (.bool true)) (.t 46)⟩,
          ⟨(some 48), none, .mov (.t 47)⟩,
          ⟨(some 49), (some (48, false)), .mov (.t 7)⟩,
          ⟨(some 50), (some (48, false)), .ibin .lss (.t 49) (.c (.int .i64 1))⟩,
          ⟨(some 51), none, .pick (.t 48) (.c (.bool true)) (.t 50)⟩,
          ⟨(some 52), none, .mov (.t 51)⟩,
          ⟨(some 53), (some (52, false)), .mov (.t 7)⟩,
          ⟨(some 54), (some (52, false)), .ibin .gtr (.t 53) (.c (.int .i64 108))⟩,
          ⟨(some 55), none, .pick (.t 52) (.c (.bool true)) (.t 54)⟩])
        (.cond (.t 55)
         (.seq
          (.reg [
            ⟨(some 2), none, .mov (.c (.str ⟨#[]⟩))⟩,
            ⟨(some 3), none, .mov (.c (.int .i64 0))⟩,
            ⟨(some 4), none, .mov (.c (.int .i64 0))⟩,
            ⟨(some 5), none, .mov (.c (.int .i64 0))⟩])
          .ret)
         .skip))
       (.seq
        (.reg [
          ⟨(some 8), none, .mov (.c (.str ⟨#[]⟩))⟩])
        (.seq
         (.seq
          (.reg [
            ⟨(some 9), none, .mov (.c (.int .i64 0))⟩])
          (.block 0
           (.loop
            (.seq
             (.seq
              (.reg [
                ⟨(some 56), none, .mov (.t 9)⟩,
                ⟨(some 57), none, .mov (.t 7)⟩,
                ⟨(some 58), none, .ibin .lss (.t 56) (.t 57)⟩])
              (.cond (.t 58)
               .skip
               (.exit 0)))
             (.seq
              (.block 1
               (.seq
                (.seq
                 (.draw [
                   ⟨(some 61), none, .mov (.t 9)⟩,
                   ⟨(some 62), none, .mov (.t 0)⟩,
                   ⟨(some 63), none, .len .sl (.t 62)⟩,
                   ⟨(some 64), none, .ibin .geq (.t 61) (.t 63)⟩,
                   ⟨(some 65), none, .mov (.t 64)⟩,
                   ⟨(some 66), (some (65, false)), .mov (.t 0)⟩,
                   ⟨(some 67), (some (65, false)), .mov (.t 9)⟩,
                   ⟨(some 68), (some (65, false)), .iaddrSl 1 (.t 66) (.t 67)⟩,
                   ⟨(some 69), (some (65, false)), .load false 1 (.t 68)⟩,
                   ⟨(some 70), (some (65, false)), .len .str (.t 69)⟩,
                   ⟨(some 71), (some (65, false)), .ibin .neq (.t 70) (.c (.int .i64 64))⟩,
                   ⟨(some 72), none, .pick (.t 65) (.c (.bool true)) (.t 71)⟩,
                   ⟨(some 73), none, .mov (.t 72)⟩,
                   ⟨(some 74), (some (73, false)), .mov (.t 0)⟩,
                   ⟨(some 75), (some (73, false)), .mov (.t 9)⟩,
                   ⟨(some 76), (some (73, false)), .iaddrSl 1 (.t 74) (.t 75)⟩,
                   ⟨(some 77), (some (73, false)), .load false 1 (.t 76)⟩,
                   ⟨(some 78), (some (73, false)), .sliceStr (.t 77) (some (.c (.int .i64 56))) none⟩,
                   ⟨(some 79), (some (73, false)), .mov (.t 6)⟩,
                   ⟨(some 80), (some (73, false)), .call (.c (.fn 50 [] [])) [(.t 79), (.c (.int .i64 4))]⟩,
                   ⟨(some 81), (some (73, false)), .mov (.t 9)⟩,
                   ⟨(some 82), (some (73, false)), .call (.c (.fn 50 [] [])) [(.t 81), (.c (.int .i64 2))]⟩,
                   ⟨(some 83), (some (73, false)), .ibin .add (.t 80) (.t 82)⟩,
                   ⟨(some 84), (some (73, false)), .mov (.t 7)⟩,
                   ⟨(some 85), (some (73, false)), .call (.c (.fn 50 [] [])) [(.t 84), (.c (.int .i64 2))]⟩,
                   ⟨(some 86), (some (73, false)), .ibin .add (.t 83) (.t 85)⟩,
                   ⟨(some 87), (some (73, false)), .ibin .neq (.t 78) (.t 86)⟩,
                   ⟨(some 88), none, .pick (.t 73) (.c (.bool true)) (.t 87)⟩]
                   [[], [], [1], [0, 2, 1], [3, 0, 2, 1], [4, 3, 0, 2, 1], [4, 3, 0, 2, 1], [5, 6, 4, 3, 0, 2, 1], [7, 4, 5, 6, 3, 0, 2, 1], [8, 4, 7, 5, 6, 3, 0, 2, 1], [9, 4, 8, 7, 5, 6, 3, 0, 2, 1], [4, 10, 3, 0, 2, 1, 9, 8, 7, 5, 6], [11, 4, 10, 3, 0, 2, 1, 9, 8, 7, 5, 6], [12, 11, 4, 10, 3, 0, 2, 1, 9, 8, 7, 5, 6], [12, 11, 4, 10, 3, 0, 2, 1, 9, 8, 7, 5, 6], [13, 14, 12, 11, 4, 10, 3, 0, 2, 1, 9, 8, 7, 5, 6], [15, 12, 13, 14, 11, 4, 10, 3, 0, 2, 1, 9, 8, 7, 5, 6], [16, 12, 15, 13, 14, 11, 4, 10, 3, 0, 2, 1, 9, 8, 7, 5, 6], [12, 11, 4, 10, 3, 0, 2, 1, 9, 8, 7, 5, 6], [18, 12, 11, 4, 10, 3, 0, 2, 1, 9, 8, 7, 5, 6], [12, 11, 4, 10, 3, 0, 2, 1, 9, 8, 7, 5, 6], [20, 19, 12, 11, 4, 10, 3, 0, 2, 1, 9, 8, 7, 5, 6, 18], [19, 21, 12, 18, 11, 4, 10, 3, 0, 2, 1, 9, 8, 7, 5, 6, 20], [12, 11, 4, 10, 3, 0, 2, 1, 9, 8, 7, 5, 6], [23, 21, 12, 11, 4, 10, 3, 0, 2, 1, 9, 8, 7, 5, 6, 20, 19, 18], [22, 24, 12, 19, 21, 18, 11, 4, 10, 3, 0, 2, 1, 9, 8, 7, 5, 6, 20, 23], [17, 25, 12, 16, 15, 13, 14, 11, 4, 10, 3, 0, 2, 1, 9, 8, 7, 5, 6, 22, 24, 19, 21, 18, 20, 23], [12, 26, 11, 4, 10, 3, 0, 2, 1, 9, 8, 7, 5, 6, 17, 25, 16, 15, 13, 14, 22, 24, 19, 21, 18, 20, 23]])
                 (.cond (.t 88)
                  (.seq
                   (.reg [
                     ⟨(some 89), none, .mov (.t 9)⟩,
                     ⟨(some 2), none, .mov (.c (.str ⟨#[]⟩))⟩,
                     ⟨(some 3), none, .mov (.c (.int .i64 0))⟩,
                     ⟨(some 4), none, .mov (.c (.int .i64 0))⟩,
                     ⟨(some 5), none, .mov (.t 89)⟩])
                   .ret)
                  .skip))
                (.reg [
                  ⟨(some 90), none, .mov (.t 8)⟩,
                  ⟨(some 91), none, .mov (.t 0)⟩,
                  ⟨(some 92), none, .mov (.t 9)⟩,
                  ⟨(some 93), none, .iaddrSl 1 (.t 91) (.t 92)⟩,
                  ⟨(some 94), none, .load false 1 (.t 93)⟩,
                  ⟨(some 95), none, .sliceStr (.t 94) none (some (.c (.int .i64 56)))⟩,
                  ⟨(some 96), none, .ibin .add (.t 90) (.t 95)⟩,
                  ⟨(some 8), none, .mov (.t 96)⟩])))
              (.reg [
                ⟨(some 59), none, .mov (.t 9)⟩,
                ⟨(some 60), none, .ibin .add (.t 59) (.c (.int .i64 1))⟩,
                ⟨(some 9), none, .mov (.t 60)⟩]))))))
         (.seq
          (.reg [
            ⟨(some 97), none, .mov (.t 8)⟩,
            ⟨(some 98), none, .sliceStr (.t 97) none (some (.c (.int .i64 4)))⟩,
            ⟨(some 99), none, .call (.c (.fn 52 [] [])) [(.t 98)]⟩,
            ⟨(some 10), none, .mov (.t 99)⟩])
          (.seq
           (.seq
            (.reg [
              ⟨(some 100), none, .mov (.t 10)⟩,
              ⟨(some 101), none, .ibin .gtr (.t 100) (.c (.int .i64 6000))⟩,
              ⟨(some 102), none, .mov (.t 101)⟩,
              ⟨(some 103), (some (102, false)), .mov (.t 10)⟩,
              ⟨(some 104), (some (102, false)), .mov (.t 8)⟩,
              ⟨(some 105), (some (102, false)), .len .str (.t 104)⟩,
              ⟨(some 106), (some (102, false)), .ibin .sub (.t 105) (.c (.int .i64 8))⟩,
              ⟨(some 107), (some (102, false)), .ibin .gtr (.t 103) (.t 106)⟩,
              ⟨(some 108), none, .pick (.t 102) (.c (.bool true)) (.t 107)⟩])
            (.cond (.t 108)
             (.seq
              (.reg [
                ⟨(some 2), none, .mov (.c (.str ⟨#[]⟩))⟩,
                ⟨(some 3), none, .mov (.c (.int .i64 0))⟩,
                ⟨(some 4), none, .mov (.c (.int .i64 0))⟩,
                ⟨(some 5), none, .mov (.c (.int .i64 0))⟩])
              .ret)
             .skip))
           (.seq
            (.reg [
              ⟨(some 110), none, .mov (.t 6)⟩,
              ⟨(some 111), none, .mov (.t 8)⟩,
              ⟨(some 112), none, .mov (.t 10)⟩,
              ⟨(some 113), none, .ibin .add (.c (.int .i64 8)) (.t 112)⟩,
              ⟨(some 114), none, .sliceStr (.t 111) (some (.c (.int .i64 8))) (some (.t 113))⟩,
              ⟨(some 115), none, .call (.c (.fn 34 [] [])) [(.t 110), (.t 114)]⟩,
              ⟨(some 109), none, .mov (.t 115)⟩,
              ⟨(some 116), none, .extract (.t 109) 0⟩,
              ⟨(some 117), none, .extract (.t 109) 1⟩,
              ⟨(some 11), none, .mov (.t 116)⟩,
              ⟨(some 12), none, .mov (.t 117)⟩])
            (.seq
             (.seq
              (.reg [
                ⟨(some 118), none, .mov (.t 12)⟩,
                ⟨(some 119), none, .un .not (.t 118)⟩,
                ⟨(some 120), none, .mov (.t 119)⟩,
                ⟨(some 121), (some (120, false)), .mov (.t 11)⟩,
                ⟨(some 122), (some (120, false)), .len .sl (.t 121)⟩,
                ⟨(some 123), (some (120, false)), .mov (.t 7)⟩,
                ⟨(some 124), (some (120, false)), .ibin .neq (.t 122) (.t 123)⟩,
                ⟨(some 125), none, .pick (.t 120) (.c (.bool true)) (.t 124)⟩])
              (.cond (.t 125)
               (.seq
                (.reg [
                  ⟨(some 2), none, .mov (.c (.str ⟨#[]⟩))⟩,
                  ⟨(some 3), none, .mov (.c (.int .i64 0))⟩,
                  ⟨(some 4), none, .mov (.c (.int .i64 0))⟩,
                  ⟨(some 5), none, .mov (.c (.int .i64 0))⟩])
                .ret)
               .skip))
             (.seq
              (.seq
               (.reg [
                 ⟨(some 13), none, .mov (.c (.int .i64 0))⟩])
               (.block 2
                (.loop
                 (.seq
                  (.seq
                   (.reg [
                     ⟨(some 126), none, .mov (.t 13)⟩,
                     ⟨(some 127), none, .mov (.t 7)⟩,
                     ⟨(some 128), none, .ibin .lss (.t 126) (.t 127)⟩])
                   (.cond (.t 128)
                    .skip
                    (.exit 2)))
                  (.seq
                   (.block 3
                    (.seq
                     (.draw [
                       ⟨(some 131), none, .mov (.t 11)⟩,
                       ⟨(some 132), none, .mov (.t 13)⟩,
                       ⟨(some 133), none, .iaddrSl 1 (.t 131) (.t 132)⟩,
                       ⟨(some 134), none, .load false 1 (.t 133)⟩,
                       ⟨(some 135), none, .mov (.t 0)⟩,
                       ⟨(some 136), none, .mov (.t 13)⟩,
                       ⟨(some 137), none, .iaddrSl 1 (.t 135) (.t 136)⟩,
                       ⟨(some 138), none, .load false 1 (.t 137)⟩,
                       ⟨(some 139), none, .ibin .neq (.t 134) (.t 138)⟩]
                       [[], [], [0, 1], [2, 0, 1], [], [], [4, 5], [6, 4, 5], [3, 7, 2, 0, 1, 6, 4, 5]])
                     (.cond (.t 139)
                      (.seq
                       (.reg [
                         ⟨(some 2), none, .mov (.c (.str ⟨#[]⟩))⟩,
                         ⟨(some 3), none, .mov (.c (.int .i64 0))⟩,
                         ⟨(some 4), none, .mov (.c (.int .i64 0))⟩,
                         ⟨(some 5), none, .mov (.c (.int .i64 0))⟩])
                       .ret)
                      .skip)))
                   (.reg [
                     ⟨(some 129), none, .mov (.t 13)⟩,
                     ⟨(some 130), none, .ibin .add (.t 129) (.c (.int .i64 1))⟩,
                     ⟨(some 13), none, .mov (.t 130)⟩]))))))
              (.seq
               (.reg [
                 ⟨(some 140), none, .mov (.t 8)⟩,
                 ⟨(some 141), none, .mov (.t 10)⟩,
                 ⟨(some 142), none, .ibin .add (.c (.int .i64 8)) (.t 141)⟩,
                 ⟨(some 143), none, .sliceStr (.t 140) (some (.c (.int .i64 8))) (some (.t 142))⟩,
                 ⟨(some 144), none, .mov (.t 6)⟩,
                 ⟨(some 145), none, .mov (.t 7)⟩,
                 ⟨(some 2), none, .mov (.t 143)⟩,
                 ⟨(some 3), none, .mov (.t 144)⟩,
                 ⟨(some 4), none, .mov (.t 145)⟩,
                 ⟨(some 5), none, .mov (.c (.int .i64 (-1)))⟩])
               .ret)))))))))))))⟩

-- quitrent/quitrentref02.Of
def F51 : AFun := ⟨5, 1, [.tmp 2],
  (.seq
   (.reg [
     ⟨(some 2), none, .mov (.c (.int .u32 0))⟩])
   (.seq
    (.reg [
      ⟨(some 3), none, .mov (.t 0)⟩,
      ⟨(some 4), none, .call (.c (.fn 63 [] [])) [(.c (.int .u32 1)), (.t 3)]⟩,
      ⟨(some 2), none, .mov (.t 4)⟩])
    .ret))⟩

-- quitrent/quitrentref02.More
def F63 : AFun := ⟨26, 2, [.tmp 4],
  (.seq
   (.reg [
     ⟨(some 4), none, .mov (.c (.int .u32 0))⟩])
   (.seq
    (.reg [
      ⟨(some 7), none, .mov (.t 0)⟩,
      ⟨(some 8), none, .i2i .u64 (.t 7)⟩,
      ⟨(some 5), none, .mov (.t 8)⟩])
    (.seq
     (.seq
      (.reg [
        ⟨(some 6), none, .mov (.c (.int .i64 0))⟩])
      (.block 0
       (.loop
        (.seq
         (.seq
          (.reg [
            ⟨(some 9), none, .mov (.t 6)⟩,
            ⟨(some 10), none, .mov (.t 1)⟩,
            ⟨(some 11), none, .len .str (.t 10)⟩,
            ⟨(some 12), none, .ibin .lss (.t 9) (.t 11)⟩])
          (.cond (.t 12)
           .skip
           (.exit 0)))
         (.seq
          (.block 1
           (.reg [
             ⟨(some 15), none, .mov (.t 5)⟩,
             ⟨(some 16), none, .ibin .mul (.t 15) (.c (.int .u64 257))⟩,
             ⟨(some 17), none, .mov (.t 1)⟩,
             ⟨(some 18), none, .mov (.t 6)⟩,
             ⟨(some 19), none, .idxStr (.t 17) (.t 18)⟩,
             ⟨(some 20), none, .i2i .u64 (.t 19)⟩,
             ⟨(some 21), none, .ibin .add (.t 16) (.t 20)⟩,
             ⟨(some 22), none, .ibin .add (.t 21) (.c (.int .u64 1))⟩,
             ⟨(some 23), none, .ibin .rem (.t 22) (.c (.int .u64 4294967296))⟩,
             ⟨(some 5), none, .mov (.t 23)⟩]))
          (.reg [
            ⟨(some 13), none, .mov (.t 6)⟩,
            ⟨(some 14), none, .ibin .add (.t 13) (.c (.int .i64 1))⟩,
            ⟨(some 6), none, .mov (.t 14)⟩]))))))
     (.seq
      (.reg [
        ⟨(some 24), none, .mov (.t 5)⟩,
        ⟨(some 25), none, .i2i .u32 (.t 24)⟩,
        ⟨(some 4), none, .mov (.t 25)⟩])
      .ret))))⟩

theorem c50 : cFun Tryd.prog [0, 2] Tryd.f50 = some F50 := by kernel_rfl
theorem c52 : cFun Tryd.prog [0, 2] Tryd.f52 = some F52 := by kernel_rfl
theorem c35 : cFun Tryd.prog [0, 2] Tryd.f35 = some F35 := by kernel_rfl
theorem c34 : cFun Tryd.prog [0, 2] Tryd.f34 = some F34 := by kernel_rfl
theorem c36 : cFun Tryd.prog [0, 2] Tryd.f36 = some F36 := by kernel_rfl
theorem c51 : cFun Tryd.prog [0, 2] Tryd.f51 = some F51 := by kernel_rfl
theorem c63 : cFun Tryd.prog [0, 2] Tryd.f63 = some F63 := by kernel_rfl
end Go.Proofs.YtcmnchmkoghfdaaDoor.C05h
