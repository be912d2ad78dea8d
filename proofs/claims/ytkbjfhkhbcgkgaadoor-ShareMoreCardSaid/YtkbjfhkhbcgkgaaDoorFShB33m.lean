import Derived.Test.YtkbjfhkhbcgkgaaDoorVecZB33m
import Derived.Test.YtkbjfhkhbcgkgaaDoorVecRB33m
open Go AH
namespace Go.Proofs.YtkbjfhkhbcgkgaaDoor.B33m
-- cmp.Compare[uint64]
def F58 : AFun := ⟨20, 2, [.tmp 4],
  (.seq
   (.reg [
     ⟨(some 4), none, .mov (.c (.int .i64 0))⟩])
   (.seq
    (.reg [
      ⟨(some 7), none, .mov (.t 0)⟩,
      ⟨(some 8), none, .call (.c (.fn 68 [] [])) [(.t 7)]⟩,
      ⟨(some 5), none, .mov (.t 8)⟩])
    (.seq
     (.reg [
       ⟨(some 9), none, .mov (.t 1)⟩,
       ⟨(some 10), none, .call (.c (.fn 68 [] [])) [(.t 9)]⟩,
       ⟨(some 6), none, .mov (.t 10)⟩])
     (.seq
      (.seq
       (.reg [
         ⟨(some 11), none, .mov (.t 5)⟩])
       (.cond (.t 11)
        (.seq
         (.seq
          (.reg [
            ⟨(some 12), none, .mov (.t 6)⟩])
          (.cond (.t 12)
           (.seq
            (.reg [
              ⟨(some 4), none, .mov (.c (.int .i64 0))⟩])
            .ret)
           .skip))
         (.seq
          (.reg [
            ⟨(some 4), none, .mov (.c (.int .i64 (-1)))⟩])
          .ret))
        .skip))
      (.seq
       (.seq
        (.reg [
          ⟨(some 13), none, .mov (.t 6)⟩])
        (.cond (.t 13)
         (.seq
          (.reg [
            ⟨(some 4), none, .mov (.c (.int .i64 1))⟩])
          .ret)
         .skip))
       (.seq
        (.seq
         (.reg [
           ⟨(some 14), none, .mov (.t 0)⟩,
           ⟨(some 15), none, .mov (.t 1)⟩,
           ⟨(some 16), none, .ibin .lss (.t 14) (.t 15)⟩])
         (.cond (.t 16)
          (.seq
           (.reg [
             ⟨(some 4), none, .mov (.c (.int .i64 (-1)))⟩])
           .ret)
          .skip))
        (.seq
         (.seq
          (.reg [
            ⟨(some 17), none, .mov (.t 0)⟩,
            ⟨(some 18), none, .mov (.t 1)⟩,
            ⟨(some 19), none, .ibin .gtr (.t 17) (.t 18)⟩])
          (.cond (.t 19)
           (.seq
            (.reg [
              ⟨(some 4), none, .mov (.c (.int .i64 1))⟩])
            .ret)
           .skip))
         (.seq
          (.reg [
            ⟨(some 4), none, .mov (.c (.int .i64 0))⟩])
          .ret))))))))⟩

-- cmp.isNaN[uint64]
def F68 : AFun := ⟨6, 1, [.tmp 2],
  (.seq
   (.reg [
     ⟨(some 2), none, .mov (.c (.bool false))⟩])
   (.seq
    (.reg [
      ⟨(some 3), none, .mov (.t 0)⟩,
      ⟨(some 4), none, .mov (.t 0)⟩,
      ⟨(some 5), none, .ibin .neq (.t 3) (.t 4)⟩,
      ⟨(some 2), none, .mov (.t 5)⟩])
    .ret))⟩

-- cmp.Or[int]
def F57 : AFun := ⟨18, 1, [.tmp 2],
  (.seq
   (.reg [
     ⟨(some 2), none, .mov (.c (.int .i64 0))⟩])
   (.seq
    (.reg [
      ⟨(some 3), none, .mov (.c (.int .i64 0))⟩])
    (.seq
     (.seq
      (.reg [
        ⟨(some 6), none, .mov (.t 0)⟩,
        ⟨(some 7), none, .len .sl (.t 6)⟩,
        ⟨(some 8), none, .mov (.c (.int .i64 0))⟩])
      (.block 0
       (.loop
        (.seq
         (.reg [
           ⟨(some 9), none, .ibin .lss (.t 8) (.t 7)⟩])
         (.seq
          (.cond (.t 9)
           .skip
           (.exit 0))
          (.seq
           (.block 1
            (.seq
             (.reg [
               ⟨(some 10), none, .iaddrSl 1 (.t 6) (.t 8)⟩,
               ⟨(some 11), none, .load false 1 (.t 10)⟩,
               ⟨(some 5), none, .mov (.t 11)⟩])
             (.seq
              (.reg [
                ⟨(some 12), none, .mov (.t 5)⟩,
                ⟨(some 13), none, .mov (.t 3)⟩,
                ⟨(some 14), none, .ibin .neq (.t 12) (.t 13)⟩])
              (.cond (.t 14)
               (.seq
                (.reg [
                  ⟨(some 15), none, .mov (.t 5)⟩,
                  ⟨(some 2), none, .mov (.t 15)⟩])
                .ret)
               .skip))))
           (.reg [
             ⟨(some 16), none, .ibin .add (.t 8) (.c (.int .i64 1))⟩,
             ⟨(some 8), none, .mov (.t 16)⟩])))))))
     (.seq
      (.reg [
        ⟨(some 17), none, .mov (.t 3)⟩,
        ⟨(some 2), none, .mov (.t 17)⟩])
      .ret))))⟩

-- math/bits.Mul64
def F56 : AFun := ⟨51, 2, [.tmp 4, .tmp 5],
  (.seq
   (.reg [
     ⟨(some 4), none, .mov (.c (.int .u64 0))⟩,
     ⟨(some 5), none, .mov (.c (.int .u64 0))⟩])
   (.seq
    (.reg [
      ⟨(some 14), none, .mov (.t 0)⟩,
      ⟨(some 15), none, .ibin .and (.t 14) (.c (.int .u64 4294967295))⟩,
      ⟨(some 6), none, .mov (.t 15)⟩])
    (.seq
     (.reg [
       ⟨(some 16), none, .mov (.t 0)⟩,
       ⟨(some 17), none, .ibin .shr (.t 16) (.c (.int .u64 32))⟩,
       ⟨(some 7), none, .mov (.t 17)⟩])
     (.seq
      (.reg [
        ⟨(some 18), none, .mov (.t 1)⟩,
        ⟨(some 19), none, .ibin .and (.t 18) (.c (.int .u64 4294967295))⟩,
        ⟨(some 8), none, .mov (.t 19)⟩])
      (.seq
       (.reg [
         ⟨(some 20), none, .mov (.t 1)⟩,
         ⟨(some 21), none, .ibin .shr (.t 20) (.c (.int .u64 32))⟩,
         ⟨(some 9), none, .mov (.t 21)⟩])
       (.seq
        (.reg [
          ⟨(some 22), none, .mov (.t 6)⟩,
          ⟨(some 23), none, .mov (.t 8)⟩,
          ⟨(some 24), none, .ibin .mul (.t 22) (.t 23)⟩,
          ⟨(some 10), none, .mov (.t 24)⟩])
        (.seq
         (.reg [
           ⟨(some 25), none, .mov (.t 7)⟩,
           ⟨(some 26), none, .mov (.t 8)⟩,
           ⟨(some 27), none, .ibin .mul (.t 25) (.t 26)⟩,
           ⟨(some 28), none, .mov (.t 10)⟩,
           ⟨(some 29), none, .ibin .shr (.t 28) (.c (.int .u64 32))⟩,
           ⟨(some 30), none, .ibin .add (.t 27) (.t 29)⟩,
           ⟨(some 11), none, .mov (.t 30)⟩])
         (.seq
          (.reg [
            ⟨(some 31), none, .mov (.t 11)⟩,
            ⟨(some 32), none, .ibin .and (.t 31) (.c (.int .u64 4294967295))⟩,
            ⟨(some 12), none, .mov (.t 32)⟩])
          (.seq
           (.reg [
             ⟨(some 33), none, .mov (.t 11)⟩,
             ⟨(some 34), none, .ibin .shr (.t 33) (.c (.int .u64 32))⟩,
             ⟨(some 13), none, .mov (.t 34)⟩])
           (.seq
            (.reg [
              ⟨(some 35), none, .mov (.t 12)⟩,
              ⟨(some 36), none, .mov (.t 6)⟩,
              ⟨(some 37), none, .mov (.t 9)⟩,
              ⟨(some 38), none, .ibin .mul (.t 36) (.t 37)⟩,
              ⟨(some 39), none, .ibin .add (.t 35) (.t 38)⟩,
              ⟨(some 12), none, .mov (.t 39)⟩])
            (.seq
             (.reg [
               ⟨(some 40), none, .mov (.t 7)⟩,
               ⟨(some 41), none, .mov (.t 9)⟩,
               ⟨(some 42), none, .ibin .mul (.t 40) (.t 41)⟩,
               ⟨(some 43), none, .mov (.t 13)⟩,
               ⟨(some 44), none, .ibin .add (.t 42) (.t 43)⟩,
               ⟨(some 45), none, .mov (.t 12)⟩,
               ⟨(some 46), none, .ibin .shr (.t 45) (.c (.int .u64 32))⟩,
               ⟨(some 47), none, .ibin .add (.t 44) (.t 46)⟩,
               ⟨(some 4), none, .mov (.t 47)⟩])
             (.seq
              (.reg [
                ⟨(some 48), none, .mov (.t 0)⟩,
                ⟨(some 49), none, .mov (.t 1)⟩,
                ⟨(some 50), none, .ibin .mul (.t 48) (.t 49)⟩,
                ⟨(some 5), none, .mov (.t 50)⟩])
              .ret))))))))))))⟩

-- math/bits.Div64
def F59 : AFun := ⟨135, 3, [.tmp 6, .tmp 7],
  (.seq
   (.reg [
     ⟨(some 6), none, .mov (.c (.int .u64 0))⟩,
     ⟨(some 7), none, .mov (.c (.int .u64 0))⟩])
   (.seq
    (.seq
     (.reg [
       ⟨(some 19), none, .mov (.t 2)⟩,
       ⟨(some 20), none, .ibin .eql (.t 19) (.c (.int .u64 0))⟩])
     (.cond (.t 20)
      (.reg [
        ⟨(some 21), none, .abort⟩,
        ⟨none, none, .abort⟩])
      .skip))
    (.seq
     (.seq
      (.reg [
        ⟨(some 22), none, .mov (.t 2)⟩,
        ⟨(some 23), none, .mov (.t 0)⟩,
        ⟨(some 24), none, .ibin .leq (.t 22) (.t 23)⟩])
      (.cond (.t 24)
       (.reg [
         ⟨(some 25), none, .abort⟩,
         ⟨none, none, .abort⟩])
       .skip))
     (.seq
      (.seq
       (.reg [
         ⟨(some 26), none, .mov (.t 0)⟩,
         ⟨(some 27), none, .ibin .eql (.t 26) (.c (.int .u64 0))⟩])
       (.cond (.t 27)
        (.seq
         (.draw [
           ⟨(some 28), none, .mov (.t 1)⟩,
           ⟨(some 29), none, .mov (.t 2)⟩,
           ⟨(some 30), none, .ibin .quo (.t 28) (.t 29)⟩,
           ⟨(some 31), none, .mov (.t 1)⟩,
           ⟨(some 32), none, .mov (.t 2)⟩,
           ⟨(some 33), none, .ibin .rem (.t 31) (.t 32)⟩,
           ⟨(some 6), none, .mov (.t 30)⟩,
           ⟨(some 7), none, .mov (.t 33)⟩]
           [[], [], [0, 1], [], [], [3, 4], [2, 0, 1], [5, 6, 0, 1, 2, 3, 4]])
         .ret)
        .skip))
      (.seq
       (.reg [
         ⟨(some 34), none, .mov (.t 2)⟩,
         ⟨(some 35), none, .call (.c (.fn 69 [] [])) [(.t 34)]⟩,
         ⟨(some 36), none, .i2i .u64 (.t 35)⟩,
         ⟨(some 8), none, .mov (.t 36)⟩])
       (.seq
        (.reg [
          ⟨(some 37), none, .mov (.t 2)⟩,
          ⟨(some 38), none, .mov (.t 8)⟩,
          ⟨(some 39), none, .ibin .shl (.t 37) (.t 38)⟩,
          ⟨(some 2), none, .mov (.t 39)⟩])
        (.seq
         (.reg [
           ⟨(some 40), none, .mov (.t 2)⟩,
           ⟨(some 41), none, .ibin .shr (.t 40) (.c (.int .u64 32))⟩,
           ⟨(some 9), none, .mov (.t 41)⟩])
         (.seq
          (.reg [
            ⟨(some 42), none, .mov (.t 2)⟩,
            ⟨(some 43), none, .ibin .and (.t 42) (.c (.int .u64 4294967295))⟩,
            ⟨(some 10), none, .mov (.t 43)⟩])
          (.seq
           (.reg [
             ⟨(some 44), none, .mov (.t 0)⟩,
             ⟨(some 45), none, .mov (.t 8)⟩,
             ⟨(some 46), none, .ibin .shl (.t 44) (.t 45)⟩,
             ⟨(some 47), none, .mov (.t 1)⟩,
             ⟨(some 48), none, .mov (.t 8)⟩,
             ⟨(some 49), none, .ibin .sub (.c (.int .u64 64)) (.t 48)⟩,
             ⟨(some 50), none, .ibin .shr (.t 47) (.t 49)⟩,
             ⟨(some 51), none, .ibin .or (.t 46) (.t 50)⟩,
             ⟨(some 11), none, .mov (.t 51)⟩])
           (.seq
            (.reg [
              ⟨(some 52), none, .mov (.t 1)⟩,
              ⟨(some 53), none, .mov (.t 8)⟩,
              ⟨(some 54), none, .ibin .shl (.t 52) (.t 53)⟩,
              ⟨(some 12), none, .mov (.t 54)⟩])
            (.seq
             (.reg [
               ⟨(some 55), none, .mov (.t 12)⟩,
               ⟨(some 56), none, .ibin .shr (.t 55) (.c (.int .u64 32))⟩,
               ⟨(some 13), none, .mov (.t 56)⟩])
             (.seq
              (.reg [
                ⟨(some 57), none, .mov (.t 12)⟩,
                ⟨(some 58), none, .ibin .and (.t 57) (.c (.int .u64 4294967295))⟩,
                ⟨(some 14), none, .mov (.t 58)⟩])
              (.seq
               (.reg [
                 ⟨(some 59), none, .mov (.t 11)⟩,
                 ⟨(some 60), none, .mov (.t 9)⟩,
                 ⟨(some 61), none, .ibin .quo (.t 59) (.t 60)⟩,
                 ⟨(some 15), none, .mov (.t 61)⟩])
               (.seq
                (.reg [
                  ⟨(some 62), none, .mov (.t 11)⟩,
                  ⟨(some 63), none, .mov (.t 15)⟩,
                  ⟨(some 64), none, .mov (.t 9)⟩,
                  ⟨(some 65), none, .ibin .mul (.t 63) (.t 64)⟩,
                  ⟨(some 66), none, .ibin .sub (.t 62) (.t 65)⟩,
                  ⟨(some 16), none, .mov (.t 66)⟩])
                (.seq
                 (.block 0
                  (.loop
                   (.seq
                    (.seq
                     (.reg [
                       ⟨(some 67), none, .mov (.t 15)⟩,
                       ⟨(some 68), none, .ibin .geq (.t 67) (.c (.int .u64 4294967296))⟩,
                       ⟨(some 69), none, .mov (.t 68)⟩,
                       ⟨(some 70), (some (69, false)), .mov (.t 15)⟩,
                       ⟨(some 71), (some (69, false)), .mov (.t 10)⟩,
                       ⟨(some 72), (some (69, false)), .ibin .mul (.t 70) (.t 71)⟩,
                       ⟨(some 73), (some (69, false)), .mov (.t 16)⟩,
                       ⟨(some 74), (some (69, false)), .ibin .mul (.c (.int .u64 4294967296)) (.t 73)⟩,
                       ⟨(some 75), (some (69, false)), .mov (.t 13)⟩,
                       ⟨(some 76), (some (69, false)), .ibin .add (.t 74) (.t 75)⟩,
                       ⟨(some 77), (some (69, false)), .ibin .gtr (.t 72) (.t 76)⟩,
                       ⟨(some 78), none, .pick (.t 69) (.c (.bool true)) (.t 77)⟩])
                     (.cond (.t 78)
                      .skip
                      (.exit 0)))
                    (.block 1
                     (.seq
                      (.reg [
                        ⟨(some 79), none, .mov (.t 15)⟩,
                        ⟨(some 80), none, .ibin .sub (.t 79) (.c (.int .u64 1))⟩,
                        ⟨(some 15), none, .mov (.t 80)⟩])
                      (.seq
                       (.reg [
                         ⟨(some 81), none, .mov (.t 16)⟩,
                         ⟨(some 82), none, .mov (.t 9)⟩,
                         ⟨(some 83), none, .ibin .add (.t 81) (.t 82)⟩,
                         ⟨(some 16), none, .mov (.t 83)⟩])
                       (.seq
                        (.reg [
                          ⟨(some 84), none, .mov (.t 16)⟩,
                          ⟨(some 85), none, .ibin .geq (.t 84) (.c (.int .u64 4294967296))⟩])
                        (.cond (.t 85)
                         (.exit 0)
                         .skip))))))))
                 (.seq
                  (.reg [
                    ⟨(some 86), none, .mov (.t 11)⟩,
                    ⟨(some 87), none, .ibin .mul (.t 86) (.c (.int .u64 4294967296))⟩,
                    ⟨(some 88), none, .mov (.t 13)⟩,
                    ⟨(some 89), none, .ibin .add (.t 87) (.t 88)⟩,
                    ⟨(some 90), none, .mov (.t 15)⟩,
                    ⟨(some 91), none, .mov (.t 2)⟩,
                    ⟨(some 92), none, .ibin .mul (.t 90) (.t 91)⟩,
                    ⟨(some 93), none, .ibin .sub (.t 89) (.t 92)⟩,
                    ⟨(some 17), none, .mov (.t 93)⟩])
                  (.seq
                   (.reg [
                     ⟨(some 94), none, .mov (.t 17)⟩,
                     ⟨(some 95), none, .mov (.t 9)⟩,
                     ⟨(some 96), none, .ibin .quo (.t 94) (.t 95)⟩,
                     ⟨(some 18), none, .mov (.t 96)⟩])
                   (.seq
                    (.reg [
                      ⟨(some 97), none, .mov (.t 17)⟩,
                      ⟨(some 98), none, .mov (.t 18)⟩,
                      ⟨(some 99), none, .mov (.t 9)⟩,
                      ⟨(some 100), none, .ibin .mul (.t 98) (.t 99)⟩,
                      ⟨(some 101), none, .ibin .sub (.t 97) (.t 100)⟩,
                      ⟨(some 16), none, .mov (.t 101)⟩])
                    (.seq
                     (.block 2
                      (.loop
                       (.seq
                        (.seq
                         (.reg [
                           ⟨(some 102), none, .mov (.t 18)⟩,
                           ⟨(some 103), none, .ibin .geq (.t 102) (.c (.int .u64 4294967296))⟩,
                           ⟨(some 104), none, .mov (.t 103)⟩,
                           ⟨(some 105), (some (104, false)), .mov (.t 18)⟩,
                           ⟨(some 106), (some (104, false)), .mov (.t 10)⟩,
                           ⟨(some 107), (some (104, false)), .ibin .mul (.t 105) (.t 106)⟩,
                           ⟨(some 108), (some (104, false)), .mov (.t 16)⟩,
                           ⟨(some 109), (some (104, false)), .ibin .mul (.c (.int .u64 4294967296)) (.t 108)⟩,
                           ⟨(some 110), (some (104, false)), .mov (.t 14)⟩,
                           ⟨(some 111), (some (104, false)), .ibin .add (.t 109) (.t 110)⟩,
                           ⟨(some 112), (some (104, false)), .ibin .gtr (.t 107) (.t 111)⟩,
                           ⟨(some 113), none, .pick (.t 104) (.c (.bool true)) (.t 112)⟩])
                         (.cond (.t 113)
                          .skip
                          (.exit 2)))
                        (.block 3
                         (.seq
                          (.reg [
                            ⟨(some 114), none, .mov (.t 18)⟩,
                            ⟨(some 115), none, .ibin .sub (.t 114) (.c (.int .u64 1))⟩,
                            ⟨(some 18), none, .mov (.t 115)⟩])
                          (.seq
                           (.reg [
                             ⟨(some 116), none, .mov (.t 16)⟩,
                             ⟨(some 117), none, .mov (.t 9)⟩,
                             ⟨(some 118), none, .ibin .add (.t 116) (.t 117)⟩,
                             ⟨(some 16), none, .mov (.t 118)⟩])
                           (.seq
                            (.reg [
                              ⟨(some 119), none, .mov (.t 16)⟩,
                              ⟨(some 120), none, .ibin .geq (.t 119) (.c (.int .u64 4294967296))⟩])
                            (.cond (.t 120)
                             (.exit 2)
                             .skip))))))))
                     (.seq
                      (.reg [
                        ⟨(some 121), none, .mov (.t 15)⟩,
                        ⟨(some 122), none, .ibin .mul (.t 121) (.c (.int .u64 4294967296))⟩,
                        ⟨(some 123), none, .mov (.t 18)⟩,
                        ⟨(some 124), none, .ibin .add (.t 122) (.t 123)⟩,
                        ⟨(some 125), none, .mov (.t 17)⟩,
                        ⟨(some 126), none, .ibin .mul (.t 125) (.c (.int .u64 4294967296))⟩,
                        ⟨(some 127), none, .mov (.t 14)⟩,
                        ⟨(some 128), none, .ibin .add (.t 126) (.t 127)⟩,
                        ⟨(some 129), none, .mov (.t 18)⟩,
                        ⟨(some 130), none, .mov (.t 2)⟩,
                        ⟨(some 131), none, .ibin .mul (.t 129) (.t 130)⟩,
                        ⟨(some 132), none, .ibin .sub (.t 128) (.t 131)⟩,
                        ⟨(some 133), none, .mov (.t 8)⟩,
                        ⟨(some 134), none, .ibin .shr (.t 132) (.t 133)⟩,
                        ⟨(some 6), none, .mov (.t 124)⟩,
                        ⟨(some 7), none, .mov (.t 134)⟩])
                      .ret))))))))))))))))))))⟩

-- math/bits.LeadingZeros64
def F69 : AFun := ⟨6, 1, [.tmp 2],
  (.seq
   (.reg [
     ⟨(some 2), none, .mov (.c (.int .i64 0))⟩])
   (.seq
    (.reg [
      ⟨(some 3), none, .mov (.t 0)⟩,
      ⟨(some 4), none, .call (.c (.fn 71 [] [])) [(.t 3)]⟩,
      ⟨(some 5), none, .ibin .sub (.c (.int .i64 64)) (.t 4)⟩,
      ⟨(some 2), none, .mov (.t 5)⟩])
    .ret))⟩

-- math/bits.Len64
def F71 : AFun := ⟨25, 1, [.tmp 2],
  (.seq
   (.reg [
     ⟨(some 2), none, .mov (.c (.int .i64 0))⟩])
   (.seq
    (.seq
     (.reg [
       ⟨(some 3), none, .mov (.t 0)⟩,
       ⟨(some 4), none, .ibin .geq (.t 3) (.c (.int .u64 4294967296))⟩])
     (.cond (.t 4)
      (.seq
       (.reg [
         ⟨(some 5), none, .mov (.t 0)⟩,
         ⟨(some 6), none, .ibin .shr (.t 5) (.c (.int .u64 32))⟩,
         ⟨(some 0), none, .mov (.t 6)⟩])
       (.reg [
         ⟨(some 2), none, .mov (.c (.int .i64 32))⟩]))
      .skip))
    (.seq
     (.seq
      (.reg [
        ⟨(some 7), none, .mov (.t 0)⟩,
        ⟨(some 8), none, .ibin .geq (.t 7) (.c (.int .u64 65536))⟩])
      (.cond (.t 8)
       (.seq
        (.reg [
          ⟨(some 9), none, .mov (.t 0)⟩,
          ⟨(some 10), none, .ibin .shr (.t 9) (.c (.int .u64 16))⟩,
          ⟨(some 0), none, .mov (.t 10)⟩])
        (.reg [
          ⟨(some 11), none, .mov (.t 2)⟩,
          ⟨(some 12), none, .ibin .add (.t 11) (.c (.int .i64 16))⟩,
          ⟨(some 2), none, .mov (.t 12)⟩]))
       .skip))
     (.seq
      (.seq
       (.reg [
         ⟨(some 13), none, .mov (.t 0)⟩,
         ⟨(some 14), none, .ibin .geq (.t 13) (.c (.int .u64 256))⟩])
       (.cond (.t 14)
        (.seq
         (.reg [
           ⟨(some 15), none, .mov (.t 0)⟩,
           ⟨(some 16), none, .ibin .shr (.t 15) (.c (.int .u64 8))⟩,
           ⟨(some 0), none, .mov (.t 16)⟩])
         (.reg [
           ⟨(some 17), none, .mov (.t 2)⟩,
           ⟨(some 18), none, .ibin .add (.t 17) (.c (.int .i64 8))⟩,
           ⟨(some 2), none, .mov (.t 18)⟩]))
        .skip))
      (.seq
       (.reg [
         ⟨(some 19), none, .mov (.t 2)⟩,
         ⟨(some 20), none, .mov (.t 0)⟩,
         ⟨(some 21), none, .i2i .u8 (.t 20)⟩,
         ⟨(some 22), none, .idxStr (.c (.str ⟨#[0, 1, 2, 2, 3, 3, 3, 3, 4, 4, 4, 4, 4, 4, 4, 4, 5, 5, 5, 5, 5, 5, 5, 5, 5, 5, 5, 5, 5, 5, 5, 5, 6, 6, 6, 6, 6, 6, 6, 6, 6, 6, 6, 6, 6, 6, 6, 6, 6, 6, 6, 6, 6, 6, 6, 6, 6, 6, 6, 6, 6, 6, 6, 6, 7, 7, 7, 7, 7, 7, 7, 7, 7, 7, 7, 7, 7, 7, 7, 7, 7, 7, 7, 7, 7, 7, 7, 7, 7, 7, 7, 7, 7, 7, 7, 7, 7, 7, 7, 7, 7, 7, 7, 7, 7, 7, 7, 7, 7, 7, 7, 7, 7, 7, 7, 7, 7, 7, 7, 7, 7, 7, 7, 7, 7, 7, 7, 7, 8, 8, 8, 8, 8, 8, 8, 8, 8, 8, 8, 8, 8, 8, 8, 8, 8, 8, 8, 8, 8, 8, 8, 8, 8, 8, 8, 8, 8, 8, 8, 8, 8, 8, 8, 8, 8, 8, 8, 8, 8, 8, 8, 8, 8, 8, 8, 8, 8, 8, 8, 8, 8, 8, 8, 8, 8, 8, 8, 8, 8, 8, 8, 8, 8, 8, 8, 8, 8, 8, 8, 8, 8, 8, 8, 8, 8, 8, 8, 8, 8, 8, 8, 8, 8, 8, 8, 8, 8, 8, 8, 8, 8, 8, 8, 8, 8, 8, 8, 8, 8, 8, 8, 8, 8, 8, 8, 8, 8, 8, 8, 8, 8, 8, 8, 8, 8, 8, 8, 8, 8, 8, 8, 8, 8, 8, 8, 8]⟩)) (.t 21)⟩,
         ⟨(some 23), none, .i2i .i64 (.t 22)⟩,
         ⟨(some 24), none, .ibin .add (.t 19) (.t 23)⟩,
         ⟨(some 2), none, .mov (.t 24)⟩])
       .ret)))))⟩

-- slices.SortStableFunc[[]int,int]
def F60 : AFun := ⟨9, 2, [],
  (.reg [
    ⟨(some 4), none, .mov (.t 0)⟩,
    ⟨(some 5), none, .mov (.t 0)⟩,
    ⟨(some 6), none, .len .sl (.t 5)⟩,
    ⟨(some 7), none, .mov (.t 1)⟩,
    ⟨(some 8), none, .call (.c (.fn 70 [] [])) [(.t 4), (.t 6), (.t 7)]⟩])⟩

-- slices.stableCmpFunc[int]
def F70 : AFun := ⟨63, 3, [],
  (.seq
   (.reg [
     ⟨(some 6), none, .mov (.c (.int .i64 20))⟩])
   (.seq
    (.reg [
      ⟨(some 10), none, .mov (.t 6)⟩,
      ⟨(some 7), none, .mov (.c (.int .i64 0))⟩,
      ⟨(some 8), none, .mov (.t 10)⟩])
    (.seq
     (.block 0
      (.loop
       (.seq
        (.seq
         (.reg [
           ⟨(some 11), none, .mov (.t 8)⟩,
           ⟨(some 12), none, .mov (.t 1)⟩,
           ⟨(some 13), none, .ibin .leq (.t 11) (.t 12)⟩])
         (.cond (.t 13)
          .skip
          (.exit 0)))
        (.block 1
         (.seq
          (.reg [
            ⟨(some 14), none, .mov (.t 0)⟩,
            ⟨(some 15), none, .mov (.t 7)⟩,
            ⟨(some 16), none, .mov (.t 8)⟩,
            ⟨(some 17), none, .mov (.t 2)⟩,
            ⟨(some 18), none, .call (.c (.fn 72 [] [])) [(.t 14), (.t 15), (.t 16), (.t 17)]⟩])
          (.seq
           (.reg [
             ⟨(some 19), none, .mov (.t 8)⟩,
             ⟨(some 7), none, .mov (.t 19)⟩])
           (.reg [
             ⟨(some 20), none, .mov (.t 8)⟩,
             ⟨(some 21), none, .mov (.t 6)⟩,
             ⟨(some 22), none, .ibin .add (.t 20) (.t 21)⟩,
             ⟨(some 8), none, .mov (.t 22)⟩])))))))
     (.seq
      (.reg [
        ⟨(some 23), none, .mov (.t 0)⟩,
        ⟨(some 24), none, .mov (.t 7)⟩,
        ⟨(some 25), none, .mov (.t 1)⟩,
        ⟨(some 26), none, .mov (.t 2)⟩,
        ⟨(some 27), none, .call (.c (.fn 72 [] [])) [(.t 23), (.t 24), (.t 25), (.t 26)]⟩])
      (.block 2
       (.loop
        (.seq
         (.seq
          (.reg [
            ⟨(some 28), none, .mov (.t 6)⟩,
            ⟨(some 29), none, .mov (.t 1)⟩,
            ⟨(some 30), none, .ibin .lss (.t 28) (.t 29)⟩])
          (.cond (.t 30)
           .skip
           (.exit 2)))
         (.block 3
          (.seq
           (.reg [
             ⟨(some 31), none, .mov (.t 6)⟩,
             ⟨(some 32), none, .ibin .mul (.c (.int .i64 2)) (.t 31)⟩,
             ⟨(some 7), none, .mov (.c (.int .i64 0))⟩,
             ⟨(some 8), none, .mov (.t 32)⟩])
           (.seq
            (.block 4
             (.loop
              (.seq
               (.seq
                (.reg [
                  ⟨(some 33), none, .mov (.t 8)⟩,
                  ⟨(some 34), none, .mov (.t 1)⟩,
                  ⟨(some 35), none, .ibin .leq (.t 33) (.t 34)⟩])
                (.cond (.t 35)
                 .skip
                 (.exit 4)))
               (.block 5
                (.seq
                 (.reg [
                   ⟨(some 36), none, .mov (.t 0)⟩,
                   ⟨(some 37), none, .mov (.t 7)⟩,
                   ⟨(some 38), none, .mov (.t 7)⟩,
                   ⟨(some 39), none, .mov (.t 6)⟩,
                   ⟨(some 40), none, .ibin .add (.t 38) (.t 39)⟩,
                   ⟨(some 41), none, .mov (.t 8)⟩,
                   ⟨(some 42), none, .mov (.t 2)⟩,
                   ⟨(some 43), none, .call (.c (.fn 73 [] [])) [(.t 36), (.t 37), (.t 40), (.t 41), (.t 42)]⟩])
                 (.seq
                  (.reg [
                    ⟨(some 44), none, .mov (.t 8)⟩,
                    ⟨(some 7), none, .mov (.t 44)⟩])
                  (.reg [
                    ⟨(some 45), none, .mov (.t 8)⟩,
                    ⟨(some 46), none, .mov (.t 6)⟩,
                    ⟨(some 47), none, .ibin .mul (.c (.int .i64 2)) (.t 46)⟩,
                    ⟨(some 48), none, .ibin .add (.t 45) (.t 47)⟩,
                    ⟨(some 8), none, .mov (.t 48)⟩])))))))
            (.seq
             (.seq
              (.reg [
                ⟨(some 49), none, .mov (.t 7)⟩,
                ⟨(some 50), none, .mov (.t 6)⟩,
                ⟨(some 51), none, .ibin .add (.t 49) (.t 50)⟩,
                ⟨(some 9), none, .mov (.t 51)⟩])
              (.seq
               (.reg [
                 ⟨(some 52), none, .mov (.t 9)⟩,
                 ⟨(some 53), none, .mov (.t 1)⟩,
                 ⟨(some 54), none, .ibin .lss (.t 52) (.t 53)⟩])
               (.cond (.t 54)
                (.reg [
                  ⟨(some 55), none, .mov (.t 0)⟩,
                  ⟨(some 56), none, .mov (.t 7)⟩,
                  ⟨(some 57), none, .mov (.t 9)⟩,
                  ⟨(some 58), none, .mov (.t 1)⟩,
                  ⟨(some 59), none, .mov (.t 2)⟩,
                  ⟨(some 60), none, .call (.c (.fn 73 [] [])) [(.t 55), (.t 56), (.t 57), (.t 58), (.t 59)]⟩])
                .skip)))
             (.reg [
               ⟨(some 61), none, .mov (.t 6)⟩,
               ⟨(some 62), none, .ibin .mul (.t 61) (.c (.int .i64 2))⟩,
               ⟨(some 6), none, .mov (.t 62)⟩]))))))))))))⟩

-- slices.insertionSortCmpFunc[int]
def F72 : AFun := ⟨53, 4, [],
  (.seq
   (.reg [
     ⟨(some 10), none, .mov (.t 1)⟩,
     ⟨(some 11), none, .ibin .add (.t 10) (.c (.int .i64 1))⟩,
     ⟨(some 8), none, .mov (.t 11)⟩])
   (.block 0
    (.loop
     (.seq
      (.seq
       (.reg [
         ⟨(some 12), none, .mov (.t 8)⟩,
         ⟨(some 13), none, .mov (.t 2)⟩,
         ⟨(some 14), none, .ibin .lss (.t 12) (.t 13)⟩])
       (.cond (.t 14)
        .skip
        (.exit 0)))
      (.seq
       (.block 1
        (.seq
         (.reg [
           ⟨(some 17), none, .mov (.t 8)⟩,
           ⟨(some 9), none, .mov (.t 17)⟩])
         (.block 2
          (.loop
           (.seq
            (.seq
             (.draw [
               ⟨(some 18), none, .mov (.t 9)⟩,
               ⟨(some 19), none, .mov (.t 1)⟩,
               ⟨(some 20), none, .ibin .gtr (.t 18) (.t 19)⟩,
               ⟨(some 21), none, .mov (.t 20)⟩,
               ⟨(some 22), (some (21, true)), .mov (.t 3)⟩,
               ⟨(some 23), (some (21, true)), .mov (.t 0)⟩,
               ⟨(some 24), (some (21, true)), .mov (.t 9)⟩,
               ⟨(some 25), (some (21, true)), .iaddrSl 1 (.t 23) (.t 24)⟩,
               ⟨(some 26), (some (21, true)), .load false 1 (.t 25)⟩,
               ⟨(some 27), (some (21, true)), .mov (.t 0)⟩,
               ⟨(some 28), (some (21, true)), .mov (.t 9)⟩,
               ⟨(some 29), (some (21, true)), .ibin .sub (.t 28) (.c (.int .i64 1))⟩,
               ⟨(some 30), (some (21, true)), .iaddrSl 1 (.t 27) (.t 29)⟩,
               ⟨(some 31), (some (21, true)), .load false 1 (.t 30)⟩,
               ⟨(some 32), (some (21, true)), .call (.t 22) [(.t 26), (.t 31)]⟩,
               ⟨(some 33), (some (21, true)), .ibin .lss (.t 32) (.c (.int .i64 0))⟩,
               ⟨(some 34), none, .pick (.t 21) (.t 33) (.c (.bool false))⟩]
               [[], [], [0, 1], [2, 0, 1], [3, 2, 0, 1], [3, 2, 0, 1], [3, 2, 0, 1], [5, 6, 3, 2, 0, 1], [7, 3, 5, 6, 2, 0, 1], [3, 2, 0, 1], [3, 2, 0, 1], [10, 3, 2, 0, 1], [9, 11, 3, 2, 0, 1, 10], [12, 3, 9, 11, 2, 0, 1, 10], [4, 8, 13, 3, 2, 0, 1, 7, 5, 6, 12, 9, 11, 10], [14, 3, 4, 8, 13, 2, 0, 1, 7, 5, 6, 12, 9, 11, 10], [3, 15, 2, 0, 1, 14, 4, 8, 13, 7, 5, 6, 12, 9, 11, 10]])
             (.cond (.t 34)
              .skip
              (.exit 2)))
            (.seq
             (.block 3
              (.draw [
                ⟨(some 37), none, .mov (.t 0)⟩,
                ⟨(some 38), none, .mov (.t 9)⟩,
                ⟨(some 39), none, .mov (.t 0)⟩,
                ⟨(some 40), none, .mov (.t 9)⟩,
                ⟨(some 41), none, .ibin .sub (.t 40) (.c (.int .i64 1))⟩,
                ⟨(some 42), none, .mov (.t 0)⟩,
                ⟨(some 43), none, .mov (.t 9)⟩,
                ⟨(some 44), none, .ibin .sub (.t 43) (.c (.int .i64 1))⟩,
                ⟨(some 45), none, .iaddrSl 1 (.t 42) (.t 44)⟩,
                ⟨(some 46), none, .load false 1 (.t 45)⟩,
                ⟨(some 47), none, .mov (.t 0)⟩,
                ⟨(some 48), none, .mov (.t 9)⟩,
                ⟨(some 49), none, .iaddrSl 1 (.t 47) (.t 48)⟩,
                ⟨(some 50), none, .load false 1 (.t 49)⟩,
                ⟨(some 51), none, .iaddrSl 1 (.t 37) (.t 38)⟩,
                ⟨none, none, .store 1 (.t 51) (.t 46)⟩,
                ⟨(some 52), none, .iaddrSl 1 (.t 39) (.t 41)⟩,
                ⟨none, none, .store 1 (.t 52) (.t 50)⟩]
                [[], [], [], [], [3], [], [], [6], [5, 7, 6], [8, 5, 7, 6], [], [], [10, 11], [12, 10, 11], [0, 1, 5, 6, 7, 8, 9, 13, 12, 10, 11], [14, 9, 0, 1, 5, 6, 7, 8, 13, 12, 10, 11], [2, 4, 0, 1, 3, 5, 6, 7, 8, 9, 10, 11, 12, 13, 14, 15], [16, 13, 15, 0, 1, 2, 3, 4, 5, 6, 7, 8, 9, 10, 11, 12, 14]]))
             (.reg [
               ⟨(some 35), none, .mov (.t 9)⟩,
               ⟨(some 36), none, .ibin .sub (.t 35) (.c (.int .i64 1))⟩,
               ⟨(some 9), none, .mov (.t 36)⟩])))))))
       (.reg [
         ⟨(some 15), none, .mov (.t 8)⟩,
         ⟨(some 16), none, .ibin .add (.t 15) (.c (.int .i64 1))⟩,
         ⟨(some 8), none, .mov (.t 16)⟩]))))))⟩

-- (quitrent/share.Share).class
def F55 : AFun := ⟨11, 1, [.tmp 2],
  (.seq
   (.reg [
     ⟨(some 1), none, .box 2 (.t 0)⟩,
     ⟨(some 2), none, .mov (.c (.int .i64 0))⟩])
   (.seq
    (.block 0
     (.seq
      (.reg [
        ⟨(some 4), none, .faddr 0 (.t 1)⟩,
        ⟨(some 5), none, .load false 1 (.t 4)⟩,
        ⟨(some 6), none, .ibin .leq (.t 5) (.c (.int .i64 0))⟩,
        ⟨(some 3), none, .mov (.t 6)⟩])
      (.cond (.t 3)
       (.seq
        (.reg [
          ⟨(some 2), none, .mov (.c (.int .i64 0))⟩])
        .ret)
       (.seq
        (.reg [
          ⟨(some 8), none, .faddr 1 (.t 1)⟩,
          ⟨(some 9), none, .load false 1 (.t 8)⟩,
          ⟨(some 10), none, .ibin .leq (.t 9) (.c (.int .i64 0))⟩,
          ⟨(some 7), none, .mov (.t 10)⟩])
        (.cond (.t 7)
         (.seq
          (.reg [
            ⟨(some 2), none, .mov (.c (.int .i64 2))⟩])
          .ret)
         .skip)))))
    (.seq
     (.reg [
       ⟨(some 2), none, .mov (.c (.int .i64 1))⟩])
     .ret)))⟩

-- quitrent/share.Compare
def F31 : AFun := ⟨51, 2, [.tmp 4],
  (.seq
   (.reg [
     ⟨(some 2), none, .box 2 (.t 0)⟩,
     ⟨(some 3), none, .box 2 (.t 1)⟩,
     ⟨(some 4), none, .mov (.c (.int .i64 0))⟩])
   (.seq
    (.seq
     (.draw [
       ⟨(some 10), none, .load true 2 (.t 2)⟩,
       ⟨(some 11), none, .call (.c (.fn 55 [] [])) [(.t 10)]⟩,
       ⟨(some 12), none, .load true 2 (.t 3)⟩,
       ⟨(some 13), none, .call (.c (.fn 55 [] [])) [(.t 12)]⟩,
       ⟨(some 14), none, .call (.c (.fn 54 [] [])) [(.t 11), (.t 13)]⟩,
       ⟨(some 5), none, .mov (.t 14)⟩]
       [[], [0], [], [2, 1, 0], [1, 3, 0, 2], [4, 0, 1, 2, 3]])
     (.seq
      (.reg [
        ⟨(some 15), none, .mov (.t 5)⟩,
        ⟨(some 16), none, .ibin .neq (.t 15) (.c (.int .i64 0))⟩,
        ⟨(some 17), none, .mov (.t 16)⟩,
        ⟨(some 18), (some (17, false)), .load true 2 (.t 2)⟩,
        ⟨(some 19), (some (17, false)), .call (.c (.fn 55 [] [])) [(.t 18)]⟩,
        ⟨(some 20), (some (17, false)), .ibin .neq (.t 19) (.c (.int .i64 1))⟩,
        ⟨(some 21), none, .pick (.t 17) (.c (.bool true)) (.t 20)⟩])
      (.cond (.t 21)
       (.seq
        (.reg [
          ⟨(some 22), none, .mov (.t 5)⟩,
          ⟨(some 4), none, .mov (.t 22)⟩])
        .ret)
       .skip)))
    (.seq
     (.reg [
       ⟨(some 24), none, .faddr 0 (.t 2)⟩,
       ⟨(some 25), none, .load false 1 (.t 24)⟩,
       ⟨(some 26), none, .i2i .u64 (.t 25)⟩,
       ⟨(some 27), none, .faddr 1 (.t 3)⟩,
       ⟨(some 28), none, .load false 1 (.t 27)⟩,
       ⟨(some 29), none, .i2i .u64 (.t 28)⟩,
       ⟨(some 30), none, .call (.c (.fn 56 [] [])) [(.t 26), (.t 29)]⟩,
       ⟨(some 23), none, .mov (.t 30)⟩,
       ⟨(some 31), none, .extract (.t 23) 0⟩,
       ⟨(some 32), none, .extract (.t 23) 1⟩,
       ⟨(some 6), none, .mov (.t 31)⟩,
       ⟨(some 7), none, .mov (.t 32)⟩])
     (.seq
      (.reg [
        ⟨(some 34), none, .faddr 0 (.t 3)⟩,
        ⟨(some 35), none, .load false 1 (.t 34)⟩,
        ⟨(some 36), none, .i2i .u64 (.t 35)⟩,
        ⟨(some 37), none, .faddr 1 (.t 2)⟩,
        ⟨(some 38), none, .load false 1 (.t 37)⟩,
        ⟨(some 39), none, .i2i .u64 (.t 38)⟩,
        ⟨(some 40), none, .call (.c (.fn 56 [] [])) [(.t 36), (.t 39)]⟩,
        ⟨(some 33), none, .mov (.t 40)⟩,
        ⟨(some 41), none, .extract (.t 33) 0⟩,
        ⟨(some 42), none, .extract (.t 33) 1⟩,
        ⟨(some 8), none, .mov (.t 41)⟩,
        ⟨(some 9), none, .mov (.t 42)⟩])
      (.seq
       (.reg [
         ⟨(some 43), none, .mov (.t 6)⟩,
         ⟨(some 44), none, .mov (.t 8)⟩,
         ⟨(some 45), none, .call (.c (.fn 58 [] [])) [(.t 43), (.t 44)]⟩,
         ⟨(some 46), none, .mov (.t 7)⟩,
         ⟨(some 47), none, .mov (.t 9)⟩,
         ⟨(some 48), none, .call (.c (.fn 58 [] [])) [(.t 46), (.t 47)]⟩,
         ⟨(some 49), none, .bslice 1 2 [(.int .i64 0)] [(0, 1, (.t 45)), (1, 1, (.t 48))]⟩,
         ⟨(some 50), none, .call (.c (.fn 57 [] [])) [(.t 49)]⟩,
         ⟨(some 4), none, .mov (.t 50)⟩])
       .ret)))))⟩

-- quitrent/share.Of
def F36 : AFun := ⟨42, 2, [.cell 4 true 2, .tmp 5],
  (.seq
   (.reg [
     ⟨(some 2), none, .box 4 (.t 0)⟩,
     ⟨(some 3), none, .box 4 (.t 1)⟩,
     ⟨(some 4), none, .box 2 (.c (.agg [(.int .i64 0), (.int .i64 0)]))⟩,
     ⟨(some 5), none, .mov (.c .nili)⟩])
   (.seq
    (.seq
     (.reg [
       ⟨(some 10), none, .load true 4 (.t 2)⟩,
       ⟨(some 11), none, .call (.c (.fn 16 [] [])) [(.t 10)]⟩,
       ⟨(some 12), none, .un .not (.t 11)⟩,
       ⟨(some 13), none, .mov (.t 12)⟩,
       ⟨(some 14), (some (13, false)), .load true 4 (.t 3)⟩,
       ⟨(some 15), (some (13, false)), .call (.c (.fn 16 [] [])) [(.t 14)]⟩,
       ⟨(some 16), (some (13, false)), .un .not (.t 15)⟩,
       ⟨(some 17), none, .pick (.t 13) (.c (.bool true)) (.t 16)⟩])
     (.cond (.t 17)
      (.seq
       (.draw [
         ⟨(some 18), none, .build [(.int .i64 0), (.int .i64 0)] []⟩,
         ⟨(some 19), none, .loadg 0⟩,
         ⟨none, none, .store 2 (.t 4) (.t 18)⟩,
         ⟨(some 5), none, .mov (.t 19)⟩]
         [[], [], [0], [1, 2, 0]])
       .ret)
      .skip))
    (.seq
     (.reg [
       ⟨(some 20), none, .iaddrArr 4 1 (.t 2) (.c (.int .i64 0))⟩,
       ⟨(some 21), none, .load false 1 (.t 20)⟩,
       ⟨(some 22), none, .iaddrArr 4 1 (.t 3) (.c (.int .i64 0))⟩,
       ⟨(some 23), none, .load false 1 (.t 22)⟩,
       ⟨(some 24), none, .build [(.int .i64 0), (.int .i64 0)] [(0, 1, (.t 21)), (1, 1, (.t 23))]⟩,
       ⟨(some 6), none, .box 2 (.c (.agg [(.int .i64 0), (.int .i64 0)]))⟩,
       ⟨none, none, .store 2 (.t 6) (.t 24)⟩])
     (.seq
      (.seq
       (.reg [
         ⟨(some 25), none, .load true 4 (.t 2)⟩,
         ⟨(some 26), none, .mov (.c (.int .i64 0))⟩])
       (.block 0
        (.loop
         (.seq
          (.reg [
            ⟨(some 27), none, .ibin .lss (.t 26) (.c (.int .i64 4))⟩])
          (.seq
           (.cond (.t 27)
            .skip
            (.exit 0))
           (.seq
            (.block 1
             (.seq
              (.reg [
                ⟨(some 28), none, .mov (.t 26)⟩,
                ⟨(some 29), none, .idxArr 4 false 1 (.t 25) (.t 26)⟩,
                ⟨(some 7), none, .mov (.t 28)⟩,
                ⟨(some 8), none, .mov (.t 29)⟩])
              (.seq
               (.reg [
                 ⟨(some 30), none, .mov (.t 8)⟩,
                 ⟨(some 31), none, .mov (.t 7)⟩,
                 ⟨(some 32), none, .iaddrArr 4 1 (.t 3) (.t 31)⟩,
                 ⟨(some 33), none, .load false 1 (.t 32)⟩,
                 ⟨(some 34), none, .build [(.int .i64 0), (.int .i64 0)] [(0, 1, (.t 30)), (1, 1, (.t 33))]⟩,
                 ⟨(some 9), none, .box 2 (.c (.agg [(.int .i64 0), (.int .i64 0)]))⟩,
                 ⟨none, none, .store 2 (.t 9) (.t 34)⟩])
               (.seq
                (.reg [
                  ⟨(some 35), none, .load true 2 (.t 9)⟩,
                  ⟨(some 36), none, .load true 2 (.t 6)⟩,
                  ⟨(some 37), none, .call (.c (.fn 31 [] [])) [(.t 35), (.t 36)]⟩,
                  ⟨(some 38), none, .ibin .gtr (.t 37) (.c (.int .i64 0))⟩])
                (.cond (.t 38)
                 (.reg [
                   ⟨(some 39), none, .load true 2 (.t 9)⟩,
                   ⟨none, none, .store 2 (.t 6) (.t 39)⟩])
                 .skip)))))
            (.reg [
              ⟨(some 40), none, .ibin .add (.t 26) (.c (.int .i64 1))⟩,
              ⟨(some 26), none, .mov (.t 40)⟩])))))))
      (.seq
       (.reg [
         ⟨(some 41), none, .load true 2 (.t 6)⟩,
         ⟨none, none, .store 2 (.t 4) (.t 41)⟩,
         ⟨(some 5), none, .mov (.c .nili)⟩])
       .ret)))))⟩

-- quitrent/share.Order
def F37 : AFun := ⟨49, 2, [.tmp 4, .tmp 5],
  (.seq
   (.reg [
     ⟨(some 3), none, .box 4 (.t 1)⟩,
     ⟨(some 4), none, .mov (.c .nils)⟩,
     ⟨(some 5), none, .mov (.c .nili)⟩])
   (.seq
    (.seq
     (.reg [
       ⟨(some 12), none, .mov (.t 0)⟩,
       ⟨(some 13), none, .len .sl (.t 12)⟩,
       ⟨(some 14), none, .ibin .gtr (.t 13) (.c (.int .i64 1000))⟩])
     (.cond (.t 14)
      (.seq
       (.draw [
         ⟨(some 15), none, .loadg 0⟩,
         ⟨(some 4), none, .mov (.c .nils)⟩,
         ⟨(some 5), none, .mov (.t 15)⟩]
         [[], [], [0, 1]])
       .ret)
      .skip))
    (.seq
     (.reg [
       ⟨(some 6), none, .box 1 (.c .nils)⟩])
     (.seq
      (.reg [
        ⟨(some 7), none, .mov (.c .nils)⟩])
      (.seq
       (.seq
        (.reg [
          ⟨(some 16), none, .mov (.t 0)⟩,
          ⟨(some 17), none, .len .sl (.t 16)⟩,
          ⟨(some 18), none, .mov (.c (.int .i64 0))⟩])
        (.block 0
         (.loop
          (.seq
           (.reg [
             ⟨(some 19), none, .ibin .lss (.t 18) (.t 17)⟩])
           (.seq
            (.cond (.t 19)
             .skip
             (.exit 0))
            (.seq
             (.block 1
              (.seq
               (.reg [
                 ⟨(some 20), none, .mov (.t 18)⟩,
                 ⟨(some 21), none, .iaddrSl 4 (.t 16) (.t 18)⟩,
                 ⟨(some 22), none, .load true 4 (.t 21)⟩,
                 ⟨(some 9), none, .box 4 (.c (.agg [(.int .i64 0), (.int .i64 0), (.int .i64 0), (.int .i64 0)]))⟩,
                 ⟨(some 8), none, .mov (.t 20)⟩,
                 ⟨none, none, .store 4 (.t 9) (.t 22)⟩])
               (.seq
                (.reg [
                  ⟨(some 24), none, .load true 4 (.t 9)⟩,
                  ⟨(some 25), none, .load true 4 (.t 3)⟩,
                  ⟨(some 26), none, .call (.c (.fn 36 [] [])) [(.t 24), (.t 25)]⟩,
                  ⟨(some 23), none, .mov (.t 26)⟩,
                  ⟨(some 27), none, .extract (.t 23) 0⟩,
                  ⟨(some 28), none, .extract (.t 23) 1⟩,
                  ⟨(some 10), none, .box 2 (.c (.agg [(.int .i64 0), (.int .i64 0)]))⟩,
                  ⟨none, none, .store 2 (.t 10) (.t 27)⟩,
                  ⟨(some 11), none, .mov (.t 28)⟩])
                (.seq
                 (.seq
                  (.reg [
                    ⟨(some 29), none, .mov (.t 11)⟩,
                    ⟨(some 30), none, .eq true .iface true (.t 29) (.c .nili)⟩])
                  (.cond (.t 30)
                   (.seq
                    (.reg [
                      ⟨(some 31), none, .mov (.t 11)⟩,
                      ⟨(some 4), none, .mov (.c .nils)⟩,
                      ⟨(some 5), none, .mov (.t 31)⟩])
                    .ret)
                   .skip))
                 (.reg [
                   ⟨(some 32), none, .load false 1 (.t 6)⟩,
                   ⟨(some 33), none, .load true 2 (.t 10)⟩,
                   ⟨(some 34), none, .bslice 2 1 [(.int .i64 0), (.int .i64 0)] [(0, 2, (.t 33))]⟩,
                   ⟨(some 35), none, .append 2 16 [(.int .i64 0), (.int .i64 0)] (.t 32) (.t 34)⟩,
                   ⟨(some 36), none, .mov (.t 7)⟩,
                   ⟨(some 37), none, .mov (.t 8)⟩,
                   ⟨(some 38), none, .bslice 1 1 [(.int .i64 0)] [(0, 1, (.t 37))]⟩,
                   ⟨(some 39), none, .append 1 8 [(.int .i64 0)] (.t 36) (.t 38)⟩,
                   ⟨none, none, .store 1 (.t 6) (.t 35)⟩,
                   ⟨(some 7), none, .mov (.t 39)⟩])))))
             (.reg [
               ⟨(some 40), none, .ibin .add (.t 18) (.c (.int .i64 1))⟩,
               ⟨(some 18), none, .mov (.t 40)⟩])))))))
       (.seq
        (.seq
         (.reg [
           ⟨(some 41), none, .load true 4 (.t 3)⟩,
           ⟨(some 42), none, .call (.c (.fn 16 [] [])) [(.t 41)]⟩,
           ⟨(some 43), none, .un .not (.t 42)⟩])
         (.cond (.t 43)
          (.seq
           (.draw [
             ⟨(some 44), none, .loadg 0⟩,
             ⟨(some 4), none, .mov (.c .nils)⟩,
             ⟨(some 5), none, .mov (.t 44)⟩]
             [[], [], [0, 1]])
           .ret)
          .skip))
        (.seq
         (.reg [
           ⟨(some 45), none, .mov (.t 7)⟩,
           ⟨(some 46), none, .mkfn 61 [] [(.t 6)]⟩,
           ⟨(some 47), none, .call (.c (.fn 60 [] [])) [(.t 45), (.t 46)]⟩])
         (.seq
          (.reg [
            ⟨(some 48), none, .mov (.t 7)⟩,
            ⟨(some 4), none, .mov (.t 48)⟩,
            ⟨(some 5), none, .mov (.c .nili)⟩])
          .ret))))))))⟩

-- quitrent/share.Order$1
def F61 : AFun := ⟨15, 3, [.tmp 5],
  (.seq
   (.reg [
     ⟨(some 5), none, .mov (.c (.int .i64 0))⟩])
   (.seq
    (.draw [
      ⟨(some 6), none, .load false 1 (.t 2)⟩,
      ⟨(some 7), none, .mov (.t 0)⟩,
      ⟨(some 8), none, .iaddrSl 2 (.t 6) (.t 7)⟩,
      ⟨(some 9), none, .load true 2 (.t 8)⟩,
      ⟨(some 10), none, .load false 1 (.t 2)⟩,
      ⟨(some 11), none, .mov (.t 1)⟩,
      ⟨(some 12), none, .iaddrSl 2 (.t 10) (.t 11)⟩,
      ⟨(some 13), none, .load true 2 (.t 12)⟩,
      ⟨(some 14), none, .call (.c (.fn 31 [] [])) [(.t 9), (.t 13)]⟩,
      ⟨(some 5), none, .mov (.t 14)⟩]
      [[], [], [0, 1], [2, 0, 1], [], [], [4, 5], [6, 4, 5], [3, 7, 2, 0, 1, 6, 4, 5], [8, 0, 1, 2, 3, 4, 5, 6, 7]])
    .ret))⟩

-- quitrent/share.Least
def F33 : AFun := ⟨32, 1, [.cell 2 true 2],
  (.seq
   (.reg [
     ⟨(some 1), none, .box 2 (.t 0)⟩,
     ⟨(some 2), none, .box 2 (.c (.agg [(.int .i64 0), (.int .i64 0)]))⟩])
   (.seq
    (.seq
     (.reg [
       ⟨(some 5), none, .load true 2 (.t 1)⟩,
       ⟨(some 6), none, .call (.c (.fn 55 [] [])) [(.t 5)]⟩])
     (.block 0
      (.seq
       (.reg [
         ⟨(some 8), none, .ibin .eql (.t 6) (.c (.int .i64 0))⟩,
         ⟨(some 7), none, .mov (.t 8)⟩])
       (.cond (.t 7)
        (.seq
         (.reg [
           ⟨(some 9), none, .build [(.int .i64 0), (.int .i64 0)] [(0, 1, (.c (.int .i64 0))), (1, 1, (.c (.int .i64 1)))]⟩,
           ⟨none, none, .store 2 (.t 2) (.t 9)⟩])
         .ret)
        (.seq
         (.reg [
           ⟨(some 11), none, .ibin .eql (.t 6) (.c (.int .i64 2))⟩,
           ⟨(some 10), none, .mov (.t 11)⟩])
         (.cond (.t 10)
          (.seq
           (.reg [
             ⟨(some 12), none, .build [(.int .i64 0), (.int .i64 0)] [(0, 1, (.c (.int .i64 1))), (1, 1, (.c (.int .i64 0)))]⟩,
             ⟨none, none, .store 2 (.t 2) (.t 12)⟩])
           .ret)
          .skip))))))
    (.seq
     (.draw [
       ⟨(some 13), none, .faddr 0 (.t 1)⟩,
       ⟨(some 14), none, .load false 1 (.t 13)⟩,
       ⟨(some 15), none, .faddr 1 (.t 1)⟩,
       ⟨(some 16), none, .load false 1 (.t 15)⟩,
       ⟨(some 3), none, .mov (.t 14)⟩,
       ⟨(some 4), none, .mov (.t 16)⟩]
       [[], [0], [], [2], [1, 0], [3, 4, 0, 1, 2]])
     (.seq
      (.block 1
       (.loop
        (.seq
         (.seq
          (.reg [
            ⟨(some 17), none, .mov (.t 4)⟩,
            ⟨(some 18), none, .ibin .neq (.t 17) (.c (.int .i64 0))⟩])
          (.cond (.t 18)
           .skip
           (.exit 1)))
         (.block 2
          (.draw [
            ⟨(some 19), none, .mov (.t 4)⟩,
            ⟨(some 20), none, .mov (.t 3)⟩,
            ⟨(some 21), none, .mov (.t 4)⟩,
            ⟨(some 22), none, .ibin .rem (.t 20) (.t 21)⟩,
            ⟨(some 3), none, .mov (.t 19)⟩,
            ⟨(some 4), none, .mov (.t 22)⟩]
            [[], [], [], [1, 2], [0, 1], [3, 4, 0, 1, 2]])))))
      (.seq
       (.draw [
         ⟨(some 23), none, .faddr 0 (.t 1)⟩,
         ⟨(some 24), none, .load false 1 (.t 23)⟩,
         ⟨(some 25), none, .mov (.t 3)⟩,
         ⟨(some 26), none, .ibin .quo (.t 24) (.t 25)⟩,
         ⟨(some 27), none, .faddr 1 (.t 1)⟩,
         ⟨(some 28), none, .load false 1 (.t 27)⟩,
         ⟨(some 29), none, .mov (.t 3)⟩,
         ⟨(some 30), none, .ibin .quo (.t 28) (.t 29)⟩,
         ⟨(some 31), none, .build [(.int .i64 0), (.int .i64 0)] [(0, 1, (.t 26)), (1, 1, (.t 30))]⟩,
         ⟨none, none, .store 2 (.t 2) (.t 31)⟩]
         [[], [0], [], [1, 2, 0], [], [4], [], [5, 6, 4], [3, 7, 1, 2, 0, 5, 6, 4], [8, 0, 1, 2, 3, 4, 5, 6, 7]])
       .ret)))))⟩

-- quitrent/share.Hundredths
def F34 : AFun := ⟨37, 1, [.tmp 2],
  (.seq
   (.reg [
     ⟨(some 1), none, .box 2 (.t 0)⟩,
     ⟨(some 2), none, .mov (.c (.int .i64 0))⟩])
   (.seq
    (.seq
     (.reg [
       ⟨(some 7), none, .load true 2 (.t 1)⟩,
       ⟨(some 8), none, .call (.c (.fn 55 [] [])) [(.t 7)]⟩])
     (.block 0
      (.seq
       (.reg [
         ⟨(some 10), none, .ibin .eql (.t 8) (.c (.int .i64 0))⟩,
         ⟨(some 9), none, .mov (.t 10)⟩])
       (.cond (.t 9)
        (.seq
         (.reg [
           ⟨(some 2), none, .mov (.c (.int .i64 0))⟩])
         .ret)
        (.seq
         (.reg [
           ⟨(some 12), none, .ibin .eql (.t 8) (.c (.int .i64 2))⟩,
           ⟨(some 11), none, .mov (.t 12)⟩])
         (.cond (.t 11)
          (.seq
           (.reg [
             ⟨(some 2), none, .mov (.c (.int .i64 4611686018427387904))⟩])
           .ret)
          .skip))))))
    (.seq
     (.reg [
       ⟨(some 14), none, .faddr 0 (.t 1)⟩,
       ⟨(some 15), none, .load false 1 (.t 14)⟩,
       ⟨(some 16), none, .i2i .u64 (.t 15)⟩,
       ⟨(some 17), none, .call (.c (.fn 56 [] [])) [(.t 16), (.c (.int .u64 100))]⟩,
       ⟨(some 13), none, .mov (.t 17)⟩,
       ⟨(some 18), none, .extract (.t 13) 0⟩,
       ⟨(some 19), none, .extract (.t 13) 1⟩,
       ⟨(some 3), none, .mov (.t 18)⟩,
       ⟨(some 4), none, .mov (.t 19)⟩])
     (.seq
      (.seq
       (.reg [
         ⟨(some 20), none, .mov (.t 3)⟩,
         ⟨(some 21), none, .faddr 1 (.t 1)⟩,
         ⟨(some 22), none, .load false 1 (.t 21)⟩,
         ⟨(some 23), none, .i2i .u64 (.t 22)⟩,
         ⟨(some 24), none, .ibin .geq (.t 20) (.t 23)⟩])
       (.cond (.t 24)
        (.seq
         (.reg [
           ⟨(some 2), none, .mov (.c (.int .i64 4611686018427387904))⟩])
         .ret)
        .skip))
      (.seq
       (.reg [
         ⟨(some 26), none, .mov (.t 3)⟩,
         ⟨(some 27), none, .mov (.t 4)⟩,
         ⟨(some 28), none, .faddr 1 (.t 1)⟩,
         ⟨(some 29), none, .load false 1 (.t 28)⟩,
         ⟨(some 30), none, .i2i .u64 (.t 29)⟩,
         ⟨(some 31), none, .call (.c (.fn 59 [] [])) [(.t 26), (.t 27), (.t 30)]⟩,
         ⟨(some 25), none, .mov (.t 31)⟩,
         ⟨(some 32), none, .extract (.t 25) 0⟩,
         ⟨(some 33), none, .extract (.t 25) 1⟩,
         ⟨(some 5), none, .mov (.t 32)⟩,
         ⟨(some 6), none, .mov (.t 33)⟩])
       (.seq
        (.reg [
          ⟨(some 34), none, .mov (.t 5)⟩,
          ⟨(some 35), none, .minmax false [(.t 34), (.c (.int .u64 4611686018427387904))]⟩,
          ⟨(some 36), none, .i2i .i64 (.t 35)⟩,
          ⟨(some 2), none, .mov (.t 36)⟩])
        .ret))))))⟩

-- quitrent/quitrentref33.class
def F53 : AFun := ⟨9, 2, [.tmp 4],
  (.seq
   (.reg [
     ⟨(some 4), none, .mov (.c (.int .i64 0))⟩])
   (.seq
    (.seq
     (.reg [
       ⟨(some 5), none, .mov (.t 0)⟩,
       ⟨(some 6), none, .ibin .leq (.t 5) (.c (.int .i64 0))⟩])
     (.cond (.t 6)
      (.seq
       (.reg [
         ⟨(some 4), none, .mov (.c (.int .i64 0))⟩])
       .ret)
      .skip))
    (.seq
     (.seq
      (.reg [
        ⟨(some 7), none, .mov (.t 1)⟩,
        ⟨(some 8), none, .ibin .leq (.t 7) (.c (.int .i64 0))⟩])
      (.cond (.t 8)
       (.seq
        (.reg [
          ⟨(some 4), none, .mov (.c (.int .i64 2))⟩])
        .ret)
       .skip))
     (.seq
      (.reg [
        ⟨(some 4), none, .mov (.c (.int .i64 1))⟩])
      .ret))))⟩

-- quitrent/quitrentref33.Compare
def F32 : AFun := ⟨77, 4, [.tmp 8],
  (.seq
   (.reg [
     ⟨(some 8), none, .mov (.c (.int .i64 0))⟩])
   (.seq
    (.reg [
      ⟨(some 15), none, .mov (.t 0)⟩,
      ⟨(some 16), none, .mov (.t 1)⟩,
      ⟨(some 17), none, .call (.c (.fn 53 [] [])) [(.t 15), (.t 16)]⟩,
      ⟨(some 9), none, .mov (.t 17)⟩])
    (.seq
     (.reg [
       ⟨(some 18), none, .mov (.t 2)⟩,
       ⟨(some 19), none, .mov (.t 3)⟩,
       ⟨(some 20), none, .call (.c (.fn 53 [] [])) [(.t 18), (.t 19)]⟩,
       ⟨(some 10), none, .mov (.t 20)⟩])
     (.seq
      (.seq
       (.reg [
         ⟨(some 21), none, .mov (.t 9)⟩,
         ⟨(some 22), none, .mov (.t 10)⟩,
         ⟨(some 23), none, .ibin .neq (.t 21) (.t 22)⟩])
       (.cond (.t 23)
        (.seq
         (.seq
          (.reg [
            ⟨(some 24), none, .mov (.t 9)⟩,
            ⟨(some 25), none, .mov (.t 10)⟩,
            ⟨(some 26), none, .ibin .lss (.t 24) (.t 25)⟩])
          (.cond (.t 26)
           (.seq
            (.reg [
              ⟨(some 8), none, .mov (.c (.int .i64 (-1)))⟩])
            .ret)
           .skip))
         (.seq
          (.reg [
            ⟨(some 8), none, .mov (.c (.int .i64 1))⟩])
          .ret))
        .skip))
      (.seq
       (.seq
        (.reg [
          ⟨(some 27), none, .mov (.t 9)⟩,
          ⟨(some 28), none, .ibin .neq (.t 27) (.c (.int .i64 1))⟩])
        (.cond (.t 28)
         (.seq
          (.reg [
            ⟨(some 8), none, .mov (.c (.int .i64 0))⟩])
          .ret)
         .skip))
       (.seq
        (.reg [
          ⟨(some 11), none, .mov (.c (.int .i64 1))⟩])
        (.seq
         (.seq
          (.reg [
            ⟨(some 12), none, .mov (.c (.int .i64 0))⟩])
          (.block 0
           (.loop
            (.seq
             (.seq
              (.reg [
                ⟨(some 29), none, .mov (.t 12)⟩,
                ⟨(some 30), none, .ibin .lss (.t 29) (.c (.int .i64 200))⟩])
              (.cond (.t 30)
               .skip
               (.exit 0)))
             (.seq
              (.block 1
               (.seq
                (.reg [
                  ⟨(some 33), none, .mov (.t 0)⟩,
                  ⟨(some 34), none, .mov (.t 1)⟩,
                  ⟨(some 35), none, .ibin .quo (.t 33) (.t 34)⟩,
                  ⟨(some 13), none, .mov (.t 35)⟩])
                (.seq
                 (.reg [
                   ⟨(some 36), none, .mov (.t 2)⟩,
                   ⟨(some 37), none, .mov (.t 3)⟩,
                   ⟨(some 38), none, .ibin .quo (.t 36) (.t 37)⟩,
                   ⟨(some 14), none, .mov (.t 38)⟩])
                 (.seq
                  (.seq
                   (.reg [
                     ⟨(some 39), none, .mov (.t 13)⟩,
                     ⟨(some 40), none, .mov (.t 14)⟩,
                     ⟨(some 41), none, .ibin .lss (.t 39) (.t 40)⟩])
                   (.cond (.t 41)
                    (.seq
                     (.reg [
                       ⟨(some 42), none, .mov (.t 11)⟩,
                       ⟨(some 43), none, .un .neg (.t 42)⟩,
                       ⟨(some 8), none, .mov (.t 43)⟩])
                     .ret)
                    .skip))
                  (.seq
                   (.seq
                    (.reg [
                      ⟨(some 44), none, .mov (.t 13)⟩,
                      ⟨(some 45), none, .mov (.t 14)⟩,
                      ⟨(some 46), none, .ibin .gtr (.t 44) (.t 45)⟩])
                    (.cond (.t 46)
                     (.seq
                      (.reg [
                        ⟨(some 47), none, .mov (.t 11)⟩,
                        ⟨(some 8), none, .mov (.t 47)⟩])
                      .ret)
                     .skip))
                   (.seq
                    (.reg [
                      ⟨(some 48), none, .mov (.t 0)⟩,
                      ⟨(some 49), none, .mov (.t 1)⟩,
                      ⟨(some 50), none, .ibin .rem (.t 48) (.t 49)⟩,
                      ⟨(some 0), none, .mov (.t 50)⟩])
                    (.seq
                     (.reg [
                       ⟨(some 51), none, .mov (.t 2)⟩,
                       ⟨(some 52), none, .mov (.t 3)⟩,
                       ⟨(some 53), none, .ibin .rem (.t 51) (.t 52)⟩,
                       ⟨(some 2), none, .mov (.t 53)⟩])
                     (.seq
                      (.seq
                       (.reg [
                         ⟨(some 54), none, .mov (.t 0)⟩,
                         ⟨(some 55), none, .ibin .eql (.t 54) (.c (.int .i64 0))⟩,
                         ⟨(some 56), none, .mov (.t 55)⟩,
                         ⟨(some 57), (some (56, false)), .mov (.t 2)⟩,
                         ⟨(some 58), (some (56, false)), .ibin .eql (.t 57) (.c (.int .i64 0))⟩,
                         ⟨(some 59), none, .pick (.t 56) (.c (.bool true)) (.t 58)⟩])
                       (.cond (.t 59)
                        (.seq
                         (.seq
                          (.reg [
                            ⟨(some 60), none, .mov (.t 0)⟩,
                            ⟨(some 61), none, .ibin .eql (.t 60) (.c (.int .i64 0))⟩,
                            ⟨(some 62), none, .mov (.t 61)⟩,
                            ⟨(some 63), (some (62, true)), .mov (.t 2)⟩,
                            ⟨(some 64), (some (62, true)), .ibin .eql (.t 63) (.c (.int .i64 0))⟩,
                            ⟨(some 65), none, .pick (.t 62) (.t 64) (.c (.bool false))⟩])
                          (.cond (.t 65)
                           (.seq
                            (.reg [
                              ⟨(some 8), none, .mov (.c (.int .i64 0))⟩])
                            .ret)
                           .skip))
                         (.seq
                          (.seq
                           (.reg [
                             ⟨(some 66), none, .mov (.t 0)⟩,
                             ⟨(some 67), none, .ibin .eql (.t 66) (.c (.int .i64 0))⟩])
                           (.cond (.t 67)
                            (.seq
                             (.reg [
                               ⟨(some 68), none, .mov (.t 11)⟩,
                               ⟨(some 69), none, .un .neg (.t 68)⟩,
                               ⟨(some 8), none, .mov (.t 69)⟩])
                             .ret)
                            .skip))
                          (.seq
                           (.reg [
                             ⟨(some 70), none, .mov (.t 11)⟩,
                             ⟨(some 8), none, .mov (.t 70)⟩])
                           .ret)))
                        .skip))
                      (.seq
                       (.reg [
                         ⟨(some 71), none, .mov (.t 1)⟩,
                         ⟨(some 72), none, .mov (.t 0)⟩,
                         ⟨(some 0), none, .mov (.t 71)⟩,
                         ⟨(some 1), none, .mov (.t 72)⟩])
                       (.seq
                        (.reg [
                          ⟨(some 73), none, .mov (.t 3)⟩,
                          ⟨(some 74), none, .mov (.t 2)⟩,
                          ⟨(some 2), none, .mov (.t 73)⟩,
                          ⟨(some 3), none, .mov (.t 74)⟩])
                        (.reg [
                          ⟨(some 75), none, .mov (.t 11)⟩,
                          ⟨(some 76), none, .un .neg (.t 75)⟩,
                          ⟨(some 11), none, .mov (.t 76)⟩])))))))))))
              (.reg [
                ⟨(some 31), none, .mov (.t 12)⟩,
                ⟨(some 32), none, .ibin .add (.t 31) (.c (.int .i64 1))⟩,
                ⟨(some 12), none, .mov (.t 32)⟩]))))))
         (.seq
          (.reg [
            ⟨(some 8), none, .mov (.c (.int .i64 0))⟩])
          .ret))))))))⟩

-- quitrent/quitrentref33.Least
def F30 : AFun := ⟨31, 2, [.tmp 4, .tmp 5],
  (.seq
   (.reg [
     ⟨(some 4), none, .mov (.c (.int .i64 0))⟩,
     ⟨(some 5), none, .mov (.c (.int .i64 0))⟩])
   (.seq
    (.seq
     (.reg [
       ⟨(some 9), none, .mov (.t 0)⟩,
       ⟨(some 10), none, .mov (.t 1)⟩,
       ⟨(some 11), none, .call (.c (.fn 53 [] [])) [(.t 9), (.t 10)]⟩])
     (.block 0
      (.seq
       (.reg [
         ⟨(some 13), none, .ibin .eql (.t 11) (.c (.int .i64 0))⟩,
         ⟨(some 12), none, .mov (.t 13)⟩])
       (.cond (.t 12)
        (.seq
         (.reg [
           ⟨(some 4), none, .mov (.c (.int .i64 0))⟩,
           ⟨(some 5), none, .mov (.c (.int .i64 1))⟩])
         .ret)
        (.seq
         (.reg [
           ⟨(some 15), none, .ibin .eql (.t 11) (.c (.int .i64 2))⟩,
           ⟨(some 14), none, .mov (.t 15)⟩])
         (.cond (.t 14)
          (.seq
           (.reg [
             ⟨(some 4), none, .mov (.c (.int .i64 1))⟩,
             ⟨(some 5), none, .mov (.c (.int .i64 0))⟩])
           .ret)
          .skip))))))
    (.seq
     (.reg [
       ⟨(some 16), none, .mov (.t 0)⟩,
       ⟨(some 6), none, .mov (.t 16)⟩])
     (.seq
      (.reg [
        ⟨(some 17), none, .mov (.t 1)⟩,
        ⟨(some 7), none, .mov (.t 17)⟩])
      (.seq
       (.block 1
        (.loop
         (.seq
          (.seq
           (.reg [
             ⟨(some 18), none, .mov (.t 7)⟩,
             ⟨(some 19), none, .ibin .neq (.t 18) (.c (.int .i64 0))⟩])
           (.cond (.t 19)
            .skip
            (.exit 1)))
          (.block 2
           (.seq
            (.reg [
              ⟨(some 20), none, .mov (.t 6)⟩,
              ⟨(some 21), none, .mov (.t 7)⟩,
              ⟨(some 22), none, .ibin .rem (.t 20) (.t 21)⟩,
              ⟨(some 8), none, .mov (.t 22)⟩])
            (.seq
             (.reg [
               ⟨(some 23), none, .mov (.t 7)⟩,
               ⟨(some 6), none, .mov (.t 23)⟩])
             (.reg [
               ⟨(some 24), none, .mov (.t 8)⟩,
               ⟨(some 7), none, .mov (.t 24)⟩])))))))
       (.seq
        (.draw [
          ⟨(some 25), none, .mov (.t 0)⟩,
          ⟨(some 26), none, .mov (.t 6)⟩,
          ⟨(some 27), none, .ibin .quo (.t 25) (.t 26)⟩,
          ⟨(some 28), none, .mov (.t 1)⟩,
          ⟨(some 29), none, .mov (.t 6)⟩,
          ⟨(some 30), none, .ibin .quo (.t 28) (.t 29)⟩,
          ⟨(some 4), none, .mov (.t 27)⟩,
          ⟨(some 5), none, .mov (.t 30)⟩]
          [[], [], [0, 1], [], [], [3, 4], [2, 0, 1], [5, 6, 0, 1, 2, 3, 4]])
        .ret))))))⟩

-- quitrent/quitrentref33.Hundredths
def F35 : AFun := ⟨56, 2, [.tmp 4],
  (.seq
   (.reg [
     ⟨(some 4), none, .mov (.c (.int .i64 0))⟩])
   (.seq
    (.seq
     (.reg [
       ⟨(some 11), none, .mov (.t 0)⟩,
       ⟨(some 12), none, .mov (.t 1)⟩,
       ⟨(some 13), none, .call (.c (.fn 53 [] [])) [(.t 11), (.t 12)]⟩])
     (.block 0
      (.seq
       (.reg [
         ⟨(some 15), none, .ibin .eql (.t 13) (.c (.int .i64 0))⟩,
         ⟨(some 14), none, .mov (.t 15)⟩])
       (.cond (.t 14)
        (.seq
         (.reg [
           ⟨(some 4), none, .mov (.c (.int .i64 0))⟩])
         .ret)
        (.seq
         (.reg [
           ⟨(some 17), none, .ibin .eql (.t 13) (.c (.int .i64 2))⟩,
           ⟨(some 16), none, .mov (.t 17)⟩])
         (.cond (.t 16)
          (.seq
           (.reg [
             ⟨(some 4), none, .mov (.c (.int .i64 4611686018427387904))⟩])
           .ret)
          .skip))))))
    (.seq
     (.reg [
       ⟨(some 18), none, .mov (.t 0)⟩,
       ⟨(some 19), none, .mov (.t 1)⟩,
       ⟨(some 20), none, .ibin .quo (.t 18) (.t 19)⟩,
       ⟨(some 5), none, .mov (.t 20)⟩])
     (.seq
      (.reg [
        ⟨(some 21), none, .mov (.t 0)⟩,
        ⟨(some 22), none, .mov (.t 1)⟩,
        ⟨(some 23), none, .ibin .rem (.t 21) (.t 22)⟩,
        ⟨(some 6), none, .mov (.t 23)⟩])
      (.seq
       (.seq
        (.reg [
          ⟨(some 7), none, .mov (.c (.int .i64 0))⟩])
        (.block 1
         (.loop
          (.seq
           (.seq
            (.reg [
              ⟨(some 24), none, .mov (.t 7)⟩,
              ⟨(some 25), none, .ibin .lss (.t 24) (.c (.int .i64 2))⟩])
            (.cond (.t 25)
             .skip
             (.exit 1)))
           (.seq
            (.block 2
             (.seq
              (.seq
               (.reg [
                 ⟨(some 28), none, .mov (.t 5)⟩,
                 ⟨(some 29), none, .ibin .gtr (.t 28) (.c (.int .i64 461168601842738790))⟩])
               (.cond (.t 29)
                (.seq
                 (.reg [
                   ⟨(some 4), none, .mov (.c (.int .i64 4611686018427387904))⟩])
                 .ret)
                .skip))
              (.seq
               (.reg [
                 ⟨(some 8), none, .mov (.c (.int .i64 0))⟩])
               (.seq
                (.reg [
                  ⟨(some 9), none, .mov (.c (.int .i64 0))⟩])
                (.seq
                 (.seq
                  (.reg [
                    ⟨(some 10), none, .mov (.c (.int .i64 0))⟩])
                  (.block 3
                   (.loop
                    (.seq
                     (.seq
                      (.reg [
                        ⟨(some 30), none, .mov (.t 10)⟩,
                        ⟨(some 31), none, .ibin .lss (.t 30) (.c (.int .i64 10))⟩])
                      (.cond (.t 31)
                       .skip
                       (.exit 3)))
                     (.seq
                      (.block 4
                       (.seq
                        (.reg [
                          ⟨(some 34), none, .mov (.t 9)⟩,
                          ⟨(some 35), none, .mov (.t 1)⟩,
                          ⟨(some 36), none, .mov (.t 6)⟩,
                          ⟨(some 37), none, .ibin .sub (.t 35) (.t 36)⟩,
                          ⟨(some 38), none, .ibin .geq (.t 34) (.t 37)⟩])
                        (.cond (.t 38)
                         (.seq
                          (.reg [
                            ⟨(some 39), none, .mov (.t 9)⟩,
                            ⟨(some 40), none, .mov (.t 1)⟩,
                            ⟨(some 41), none, .mov (.t 6)⟩,
                            ⟨(some 42), none, .ibin .sub (.t 40) (.t 41)⟩,
                            ⟨(some 43), none, .ibin .sub (.t 39) (.t 42)⟩,
                            ⟨(some 9), none, .mov (.t 43)⟩])
                          (.reg [
                            ⟨(some 44), none, .mov (.t 8)⟩,
                            ⟨(some 45), none, .ibin .add (.t 44) (.c (.int .i64 1))⟩,
                            ⟨(some 8), none, .mov (.t 45)⟩]))
                         (.reg [
                           ⟨(some 46), none, .mov (.t 9)⟩,
                           ⟨(some 47), none, .mov (.t 6)⟩,
                           ⟨(some 48), none, .ibin .add (.t 46) (.t 47)⟩,
                           ⟨(some 9), none, .mov (.t 48)⟩]))))
                      (.reg [
                        ⟨(some 32), none, .mov (.t 10)⟩,
                        ⟨(some 33), none, .ibin .add (.t 32) (.c (.int .i64 1))⟩,
                        ⟨(some 10), none, .mov (.t 33)⟩]))))))
                 (.seq
                  (.reg [
                    ⟨(some 49), none, .mov (.t 5)⟩,
                    ⟨(some 50), none, .ibin .mul (.t 49) (.c (.int .i64 10))⟩,
                    ⟨(some 51), none, .mov (.t 8)⟩,
                    ⟨(some 52), none, .ibin .add (.t 50) (.t 51)⟩,
                    ⟨(some 5), none, .mov (.t 52)⟩])
                  (.reg [
                    ⟨(some 53), none, .mov (.t 9)⟩,
                    ⟨(some 6), none, .mov (.t 53)⟩])))))))
            (.reg [
              ⟨(some 26), none, .mov (.t 7)⟩,
              ⟨(some 27), none, .ibin .add (.t 26) (.c (.int .i64 1))⟩,
              ⟨(some 7), none, .mov (.t 27)⟩]))))))
       (.seq
        (.reg [
          ⟨(some 54), none, .mov (.t 5)⟩,
          ⟨(some 55), none, .minmax false [(.t 54), (.c (.int .i64 4611686018427387904))]⟩,
          ⟨(some 4), none, .mov (.t 55)⟩])
        .ret))))))⟩

-- quitrent/quitrentlaw33.awake
def F29 : AFun := ⟨65, 0, [.tmp 0],
  (.seq
   (.reg [
     ⟨(some 0), none, .mov (.c (.bool false))⟩])
   (.seq
    (.reg [
      ⟨(some 6), none, .build [(.int .i64 0), (.int .i64 0), (.int .i64 0), (.int .i64 0)] [(0, 1, (.c (.int .i64 2))), (1, 1, (.c (.int .i64 0))), (2, 1, (.c (.int .i64 3)))]⟩,
      ⟨(some 7), none, .build [(.int .i64 0), (.int .i64 0), (.int .i64 0), (.int .i64 0)] [(0, 1, (.c (.int .i64 10))), (1, 1, (.c (.int .i64 1))), (2, 1, (.c (.int .i64 9))), (3, 1, (.c (.int .i64 1)))]⟩,
      ⟨(some 8), none, .call (.c (.fn 36 [] [])) [(.t 6), (.t 7)]⟩,
      ⟨(some 5), none, .mov (.t 8)⟩,
      ⟨(some 9), none, .extract (.t 5) 0⟩,
      ⟨(some 10), none, .extract (.t 5) 1⟩,
      ⟨(some 1), none, .box 2 (.c (.agg [(.int .i64 0), (.int .i64 0)]))⟩,
      ⟨none, none, .store 2 (.t 1) (.t 9)⟩,
      ⟨(some 2), none, .mov (.t 10)⟩])
    (.seq
     (.reg [
       ⟨(some 12), none, .build [(.int .i64 0), (.int .i64 0), (.int .i64 0), (.int .i64 0)] [(0, 1, (.c (.int .i64 3)))]⟩,
       ⟨(some 13), none, .build [(.int .i64 0), (.int .i64 0), (.int .i64 0), (.int .i64 0)] [(0, 1, (.c (.int .i64 1)))]⟩,
       ⟨(some 14), none, .build [(.int .i64 0), (.int .i64 0), (.int .i64 0), (.int .i64 0)] [(0, 1, (.c (.int .i64 2)))]⟩,
       ⟨(some 15), none, .bslice 4 3 [(.int .i64 0), (.int .i64 0), (.int .i64 0), (.int .i64 0)] [(0, 4, (.t 12)), (4, 4, (.t 13)), (8, 4, (.t 14))]⟩,
       ⟨(some 16), none, .build [(.int .i64 0), (.int .i64 0), (.int .i64 0), (.int .i64 0)] [(0, 1, (.c (.int .i64 9))), (1, 1, (.c (.int .i64 9))), (2, 1, (.c (.int .i64 9))), (3, 1, (.c (.int .i64 9)))]⟩,
       ⟨(some 17), none, .call (.c (.fn 37 [] [])) [(.t 15), (.t 16)]⟩,
       ⟨(some 11), none, .mov (.t 17)⟩,
       ⟨(some 18), none, .extract (.t 11) 0⟩,
       ⟨(some 19), none, .extract (.t 11) 1⟩,
       ⟨(some 3), none, .mov (.t 18)⟩,
       ⟨(some 4), none, .mov (.t 19)⟩])
     (.seq
      (.reg [
        ⟨(some 20), none, .load true 2 (.t 1)⟩,
        ⟨(some 21), none, .build [(.int .i64 0), (.int .i64 0)] [(0, 1, (.c (.int .i64 3))), (1, 1, (.c (.int .i64 9)))]⟩,
        ⟨(some 22), none, .eq false (.flat [.int, .int]) false (.t 20) (.t 21)⟩,
        ⟨(some 23), none, .mov (.t 22)⟩,
        ⟨(some 24), (some (23, true)), .mov (.t 2)⟩,
        ⟨(some 25), (some (23, true)), .eq false .iface true (.t 24) (.c .nili)⟩,
        ⟨(some 26), none, .pick (.t 23) (.t 25) (.c (.bool false))⟩,
        ⟨(some 27), none, .mov (.t 26)⟩,
        ⟨(some 28), (some (27, true)), .mov (.t 4)⟩,
        ⟨(some 29), (some (27, true)), .eq false .iface true (.t 28) (.c .nili)⟩,
        ⟨(some 30), none, .pick (.t 27) (.t 29) (.c (.bool false))⟩,
        ⟨(some 31), none, .mov (.t 30)⟩,
        ⟨(some 32), (some (31, true)), .mov (.t 3)⟩,
        ⟨(some 33), (some (31, true)), .len .sl (.t 32)⟩,
        ⟨(some 34), (some (31, true)), .ibin .eql (.t 33) (.c (.int .i64 3))⟩,
        ⟨(some 35), none, .pick (.t 31) (.t 34) (.c (.bool false))⟩,
        ⟨(some 36), none, .mov (.t 35)⟩,
        ⟨(some 37), (some (36, true)), .mov (.t 3)⟩,
        ⟨(some 38), (some (36, true)), .iaddrSl 1 (.t 37) (.c (.int .i64 0))⟩,
        ⟨(some 39), (some (36, true)), .load false 1 (.t 38)⟩,
        ⟨(some 40), (some (36, true)), .ibin .eql (.t 39) (.c (.int .i64 1))⟩,
        ⟨(some 41), none, .pick (.t 36) (.t 40) (.c (.bool false))⟩,
        ⟨(some 42), none, .mov (.t 41)⟩,
        ⟨(some 43), (some (42, true)), .mov (.t 3)⟩,
        ⟨(some 44), (some (42, true)), .iaddrSl 1 (.t 43) (.c (.int .i64 2))⟩,
        ⟨(some 45), (some (42, true)), .load false 1 (.t 44)⟩,
        ⟨(some 46), (some (42, true)), .ibin .eql (.t 45) (.c (.int .i64 0))⟩,
        ⟨(some 47), none, .pick (.t 42) (.t 46) (.c (.bool false))⟩,
        ⟨(some 48), none, .mov (.t 47)⟩,
        ⟨(some 49), (some (48, true)), .load true 2 (.t 1)⟩,
        ⟨(some 50), (some (48, true)), .call (.c (.fn 33 [] [])) [(.t 49)]⟩,
        ⟨(some 51), (some (48, true)), .build [(.int .i64 0), (.int .i64 0)] [(0, 1, (.c (.int .i64 1))), (1, 1, (.c (.int .i64 3)))]⟩,
        ⟨(some 52), (some (48, true)), .eq false (.flat [.int, .int]) false (.t 50) (.t 51)⟩,
        ⟨(some 53), none, .pick (.t 48) (.t 52) (.c (.bool false))⟩,
        ⟨(some 54), none, .mov (.t 53)⟩,
        ⟨(some 55), (some (54, true)), .load true 2 (.t 1)⟩,
        ⟨(some 56), (some (54, true)), .call (.c (.fn 34 [] [])) [(.t 55)]⟩,
        ⟨(some 57), (some (54, true)), .ibin .eql (.t 56) (.c (.int .i64 33))⟩,
        ⟨(some 58), none, .pick (.t 54) (.t 57) (.c (.bool false))⟩,
        ⟨(some 59), none, .mov (.t 58)⟩,
        ⟨(some 60), (some (59, true)), .load true 2 (.t 1)⟩,
        ⟨(some 61), (some (59, true)), .build [(.int .i64 0), (.int .i64 0)] [(0, 1, (.c (.int .i64 1))), (1, 1, (.c (.int .i64 3)))]⟩,
        ⟨(some 62), (some (59, true)), .call (.c (.fn 31 [] [])) [(.t 60), (.t 61)]⟩,
        ⟨(some 63), (some (59, true)), .ibin .eql (.t 62) (.c (.int .i64 0))⟩,
        ⟨(some 64), none, .pick (.t 59) (.t 63) (.c (.bool false))⟩,
        ⟨(some 0), none, .mov (.t 64)⟩])
      .ret))))⟩

-- quitrent/quitrentlaw33.ShareExact
def F7 : AFun := ⟨48, 2, [.tmp 4],
  (.seq
   (.reg [
     ⟨(some 2), none, .box 2 (.t 0)⟩,
     ⟨(some 3), none, .box 2 (.t 1)⟩,
     ⟨(some 4), none, .mov (.c (.bool false))⟩])
   (.seq
    (.seq
     (.reg [
       ⟨(some 7), none, .call (.c (.fn 29 [] [])) []⟩,
       ⟨(some 8), none, .un .not (.t 7)⟩])
     (.cond (.t 8)
      (.seq
       (.reg [
         ⟨(some 4), none, .mov (.c (.bool false))⟩])
       .ret)
      .skip))
    (.seq
     (.reg [
       ⟨(some 10), none, .faddr 0 (.t 2)⟩,
       ⟨(some 11), none, .load false 1 (.t 10)⟩,
       ⟨(some 12), none, .faddr 1 (.t 2)⟩,
       ⟨(some 13), none, .load false 1 (.t 12)⟩,
       ⟨(some 14), none, .call (.c (.fn 30 [] [])) [(.t 11), (.t 13)]⟩,
       ⟨(some 9), none, .mov (.t 14)⟩,
       ⟨(some 15), none, .extract (.t 9) 0⟩,
       ⟨(some 16), none, .extract (.t 9) 1⟩,
       ⟨(some 5), none, .mov (.t 15)⟩,
       ⟨(some 6), none, .mov (.t 16)⟩])
     (.seq
      (.draw [
        ⟨(some 17), none, .load true 2 (.t 2)⟩,
        ⟨(some 18), none, .load true 2 (.t 3)⟩,
        ⟨(some 19), none, .call (.c (.fn 31 [] [])) [(.t 17), (.t 18)]⟩,
        ⟨(some 20), none, .faddr 0 (.t 2)⟩,
        ⟨(some 21), none, .load false 1 (.t 20)⟩,
        ⟨(some 22), none, .faddr 1 (.t 2)⟩,
        ⟨(some 23), none, .load false 1 (.t 22)⟩,
        ⟨(some 24), none, .faddr 0 (.t 3)⟩,
        ⟨(some 25), none, .load false 1 (.t 24)⟩,
        ⟨(some 26), none, .faddr 1 (.t 3)⟩,
        ⟨(some 27), none, .load false 1 (.t 26)⟩,
        ⟨(some 28), none, .call (.c (.fn 32 [] [])) [(.t 21), (.t 23), (.t 25), (.t 27)]⟩,
        ⟨(some 29), none, .ibin .eql (.t 19) (.t 28)⟩,
        ⟨(some 30), none, .mov (.t 29)⟩,
        ⟨(some 31), (some (30, true)), .load true 2 (.t 2)⟩,
        ⟨(some 32), (some (30, true)), .call (.c (.fn 33 [] [])) [(.t 31)]⟩,
        ⟨(some 33), (some (30, true)), .mov (.t 5)⟩,
        ⟨(some 34), (some (30, true)), .mov (.t 6)⟩,
        ⟨(some 35), (some (30, true)), .build [(.int .i64 0), (.int .i64 0)] [(0, 1, (.t 33)), (1, 1, (.t 34))]⟩,
        ⟨(some 36), (some (30, true)), .eq false (.flat [.int, .int]) false (.t 32) (.t 35)⟩,
        ⟨(some 37), none, .pick (.t 30) (.t 36) (.c (.bool false))⟩,
        ⟨(some 38), none, .mov (.t 37)⟩,
        ⟨(some 39), (some (38, true)), .load true 2 (.t 2)⟩,
        ⟨(some 40), (some (38, true)), .call (.c (.fn 34 [] [])) [(.t 39)]⟩,
        ⟨(some 41), (some (38, true)), .faddr 0 (.t 2)⟩,
        ⟨(some 42), (some (38, true)), .load false 1 (.t 41)⟩,
        ⟨(some 43), (some (38, true)), .faddr 1 (.t 2)⟩,
        ⟨(some 44), (some (38, true)), .load false 1 (.t 43)⟩,
        ⟨(some 45), (some (38, true)), .call (.c (.fn 35 [] [])) [(.t 42), (.t 44)]⟩,
        ⟨(some 46), (some (38, true)), .ibin .eql (.t 40) (.t 45)⟩,
        ⟨(some 47), none, .pick (.t 38) (.t 46) (.c (.bool false))⟩,
        ⟨(some 4), none, .mov (.t 47)⟩]
        [[], [], [0, 1], [], [3], [], [5], [], [7], [], [9], [4, 6, 8, 10, 2, 3, 5, 7, 9, 0, 1], [2, 11, 0, 1, 4, 6, 8, 10, 3, 5, 7, 9], [12, 11, 2, 0, 1, 4, 6, 8, 10, 3, 5, 7, 9], [13, 12, 11, 2, 0, 1, 4, 6, 8, 10, 3, 5, 7, 9], [14, 13, 12, 11, 2, 0, 1, 4, 6, 8, 10, 3, 5, 7, 9], [13, 12, 11, 2, 0, 1, 4, 6, 8, 10, 3, 5, 7, 9], [13, 12, 11, 2, 0, 1, 4, 6, 8, 10, 3, 5, 7, 9], [16, 17, 13, 12, 11, 2, 0, 1, 4, 6, 8, 10, 3, 5, 7, 9], [15, 18, 13, 14, 12, 11, 2, 0, 1, 4, 6, 8, 10, 3, 5, 7, 9, 16, 17], [13, 19, 12, 11, 2, 0, 1, 4, 6, 8, 10, 3, 5, 7, 9, 15, 18, 14, 16, 17], [20, 15, 13, 19, 12, 11, 2, 0, 1, 4, 6, 8, 10, 3, 5, 7, 9, 18, 14, 16, 17], [21, 20, 15, 13, 19, 12, 11, 2, 0, 1, 4, 6, 8, 10, 3, 5, 7, 9, 18, 14, 16, 17], [22, 21, 20, 15, 13, 19, 12, 11, 2, 0, 1, 4, 6, 8, 10, 3, 5, 7, 9, 18, 14, 16, 17], [21, 20, 15, 13, 19, 12, 11, 2, 0, 1, 4, 6, 8, 10, 3, 5, 7, 9, 18, 14, 16, 17], [24, 21, 20, 15, 13, 19, 12, 11, 2, 0, 1, 4, 6, 8, 10, 3, 5, 7, 9, 18, 14, 16, 17], [21, 20, 15, 13, 19, 12, 11, 2, 0, 1, 4, 6, 8, 10, 3, 5, 7, 9, 18, 14, 16, 17], [26, 21, 20, 15, 13, 19, 12, 11, 2, 0, 1, 4, 6, 8, 10, 3, 5, 7, 9, 18, 14, 16, 17], [25, 27, 23, 21, 24, 20, 15, 13, 19, 12, 11, 2, 0, 1, 4, 6, 8, 10, 3, 5, 7, 9, 18, 14, 16, 17, 26, 22], [23, 28, 21, 22, 20, 15, 13, 19, 12, 11, 2, 0, 1, 4, 6, 8, 10, 3, 5, 7, 9, 18, 14, 16, 17, 25, 27, 24, 26], [21, 29, 20, 15, 13, 19, 12, 11, 2, 0, 1, 4, 6, 8, 10, 3, 5, 7, 9, 18, 14, 16, 17, 23, 28, 22, 25, 27, 24, 26], [30, 28, 0, 1, 2, 3, 4, 5, 6, 7, 8, 9, 10, 11, 12, 13, 14, 15, 16, 17, 18, 19, 20, 21, 22, 23, 24, 25, 26, 27, 29]])
      .ret))))⟩

-- quitrent/quitrentlaw33.ShareChain
def F8 : AFun := ⟨89, 3, [.tmp 6],
  (.seq
   (.reg [
     ⟨(some 3), none, .box 2 (.t 0)⟩,
     ⟨(some 4), none, .box 2 (.t 1)⟩,
     ⟨(some 5), none, .box 2 (.t 2)⟩,
     ⟨(some 6), none, .mov (.c (.bool false))⟩])
   (.seq
    (.seq
     (.reg [
       ⟨(some 10), none, .call (.c (.fn 29 [] [])) []⟩,
       ⟨(some 11), none, .un .not (.t 10)⟩])
     (.cond (.t 11)
      (.seq
       (.reg [
         ⟨(some 6), none, .mov (.c (.bool false))⟩])
       .ret)
      .skip))
    (.seq
     (.reg [
       ⟨(some 12), none, .load true 2 (.t 3)⟩,
       ⟨(some 13), none, .load true 2 (.t 4)⟩,
       ⟨(some 14), none, .call (.c (.fn 31 [] [])) [(.t 12), (.t 13)]⟩,
       ⟨(some 7), none, .mov (.t 14)⟩])
     (.seq
      (.reg [
        ⟨(some 15), none, .load true 2 (.t 4)⟩,
        ⟨(some 16), none, .load true 2 (.t 5)⟩,
        ⟨(some 17), none, .call (.c (.fn 31 [] [])) [(.t 15), (.t 16)]⟩,
        ⟨(some 8), none, .mov (.t 17)⟩])
      (.seq
       (.reg [
         ⟨(some 18), none, .load true 2 (.t 3)⟩,
         ⟨(some 19), none, .load true 2 (.t 5)⟩,
         ⟨(some 20), none, .call (.c (.fn 31 [] [])) [(.t 18), (.t 19)]⟩,
         ⟨(some 9), none, .mov (.t 20)⟩])
       (.seq
        (.seq
         (.reg [
           ⟨(some 21), none, .mov (.t 7)⟩,
           ⟨(some 22), none, .ibin .leq (.t 21) (.c (.int .i64 0))⟩,
           ⟨(some 23), none, .mov (.t 22)⟩,
           ⟨(some 24), (some (23, true)), .mov (.t 8)⟩,
           ⟨(some 25), (some (23, true)), .ibin .leq (.t 24) (.c (.int .i64 0))⟩,
           ⟨(some 26), none, .pick (.t 23) (.t 25) (.c (.bool false))⟩,
           ⟨(some 27), none, .mov (.t 26)⟩,
           ⟨(some 28), (some (27, true)), .mov (.t 9)⟩,
           ⟨(some 29), (some (27, true)), .ibin .gtr (.t 28) (.c (.int .i64 0))⟩,
           ⟨(some 30), none, .pick (.t 27) (.t 29) (.c (.bool false))⟩,
           ⟨(some 31), none, .mov (.t 30)⟩,
           ⟨(some 32), (some (31, false)), .mov (.t 7)⟩,
           ⟨(some 33), (some (31, false)), .ibin .geq (.t 32) (.c (.int .i64 0))⟩,
           ⟨(some 34), (some (31, false)), .mov (.t 33)⟩,
           ⟨(some 35), (some (34, true)), .mov (.t 8)⟩,
           ⟨(some 36), (some (34, true)), .ibin .geq (.t 35) (.c (.int .i64 0))⟩,
           ⟨(some 37), (some (31, false)), .pick (.t 34) (.t 36) (.c (.bool false))⟩,
           ⟨(some 38), (some (31, false)), .mov (.t 37)⟩,
           ⟨(some 39), (some (38, true)), .mov (.t 9)⟩,
           ⟨(some 40), (some (38, true)), .ibin .lss (.t 39) (.c (.int .i64 0))⟩,
           ⟨(some 41), (some (31, false)), .pick (.t 38) (.t 40) (.c (.bool false))⟩,
           ⟨(some 42), none, .pick (.t 31) (.c (.bool true)) (.t 41)⟩,
           ⟨(some 43), none, .mov (.t 42)⟩,
           ⟨(some 44), (some (43, false)), .mov (.t 7)⟩,
           ⟨(some 45), (some (43, false)), .ibin .eql (.t 44) (.c (.int .i64 0))⟩,
           ⟨(some 46), (some (43, false)), .mov (.t 45)⟩,
           ⟨(some 47), (some (46, true)), .mov (.t 8)⟩,
           ⟨(some 48), (some (46, true)), .ibin .eql (.t 47) (.c (.int .i64 0))⟩,
           ⟨(some 49), (some (43, false)), .pick (.t 46) (.t 48) (.c (.bool false))⟩,
           ⟨(some 50), (some (43, false)), .mov (.t 49)⟩,
           ⟨(some 51), (some (50, true)), .mov (.t 9)⟩,
           ⟨(some 52), (some (50, true)), .ibin .neq (.t 51) (.c (.int .i64 0))⟩,
           ⟨(some 53), (some (43, false)), .pick (.t 50) (.t 52) (.c (.bool false))⟩,
           ⟨(some 54), none, .pick (.t 43) (.c (.bool true)) (.t 53)⟩])
         (.cond (.t 54)
          (.seq
           (.reg [
             ⟨(some 6), none, .mov (.c (.bool false))⟩])
           .ret)
          .skip))
        (.seq
         (.draw [
           ⟨(some 55), none, .mov (.t 7)⟩,
           ⟨(some 56), none, .load true 2 (.t 4)⟩,
           ⟨(some 57), none, .load true 2 (.t 3)⟩,
           ⟨(some 58), none, .call (.c (.fn 31 [] [])) [(.t 56), (.t 57)]⟩,
           ⟨(some 59), none, .un .neg (.t 58)⟩,
           ⟨(some 60), none, .ibin .eql (.t 55) (.t 59)⟩,
           ⟨(some 61), none, .mov (.t 60)⟩,
           ⟨(some 62), (some (61, true)), .load true 2 (.t 3)⟩,
           ⟨(some 63), (some (61, true)), .load true 2 (.t 3)⟩,
           ⟨(some 64), (some (61, true)), .call (.c (.fn 31 [] [])) [(.t 62), (.t 63)]⟩,
           ⟨(some 65), (some (61, true)), .ibin .eql (.t 64) (.c (.int .i64 0))⟩,
           ⟨(some 66), none, .pick (.t 61) (.t 65) (.c (.bool false))⟩,
           ⟨(some 67), none, .mov (.t 66)⟩,
           ⟨(some 68), (some (67, true)), .mov (.t 7)⟩,
           ⟨(some 69), (some (67, true)), .ibin .neq (.t 68) (.c (.int .i64 0))⟩,
           ⟨(some 70), (some (67, true)), .mov (.t 69)⟩,
           ⟨(some 71), (some (70, false)), .load true 2 (.t 3)⟩,
           ⟨(some 72), (some (70, false)), .call (.c (.fn 33 [] [])) [(.t 71)]⟩,
           ⟨(some 73), (some (70, false)), .load true 2 (.t 4)⟩,
           ⟨(some 74), (some (70, false)), .call (.c (.fn 33 [] [])) [(.t 73)]⟩,
           ⟨(some 75), (some (70, false)), .eq false (.flat [.int, .int]) false (.t 72) (.t 74)⟩,
           ⟨(some 76), (some (67, true)), .pick (.t 70) (.c (.bool true)) (.t 75)⟩,
           ⟨(some 77), none, .pick (.t 67) (.t 76) (.c (.bool false))⟩,
           ⟨(some 78), none, .mov (.t 77)⟩,
           ⟨(some 79), (some (78, true)), .mov (.t 7)⟩,
           ⟨(some 80), (some (78, true)), .ibin .eql (.t 79) (.c (.int .i64 0))⟩,
           ⟨(some 81), (some (78, true)), .mov (.t 80)⟩,
           ⟨(some 82), (some (81, false)), .load true 2 (.t 3)⟩,
           ⟨(some 83), (some (81, false)), .call (.c (.fn 33 [] [])) [(.t 82)]⟩,
           ⟨(some 84), (some (81, false)), .load true 2 (.t 4)⟩,
           ⟨(some 85), (some (81, false)), .call (.c (.fn 33 [] [])) [(.t 84)]⟩,
           ⟨(some 86), (some (81, false)), .eq true (.flat [.int, .int]) false (.t 83) (.t 85)⟩,
           ⟨(some 87), (some (78, true)), .pick (.t 81) (.c (.bool true)) (.t 86)⟩,
           ⟨(some 88), none, .pick (.t 78) (.t 87) (.c (.bool false))⟩,
           ⟨(some 6), none, .mov (.t 88)⟩]
           [[], [], [], [1, 2], [3, 1, 2], [0, 4, 3, 1, 2], [5, 3, 0, 4, 1, 2], [6, 5, 3, 0, 4, 1, 2], [6, 5, 3, 0, 4, 1, 2], [7, 8, 6, 5, 3, 0, 4, 1, 2], [9, 6, 7, 8, 5, 3, 0, 4, 1, 2], [6, 10, 5, 3, 0, 4, 1, 2, 9, 7, 8], [11, 9, 6, 10, 5, 3, 0, 4, 1, 2, 7, 8], [12, 11, 9, 6, 10, 5, 3, 0, 4, 1, 2, 7, 8], [13, 12, 11, 9, 6, 10, 5, 3, 0, 4, 1, 2, 7, 8], [14, 12, 13, 11, 9, 6, 10, 5, 3, 0, 4, 1, 2, 7, 8], [15, 14, 12, 13, 11, 9, 6, 10, 5, 3, 0, 4, 1, 2, 7, 8], [16, 15, 14, 12, 13, 11, 9, 6, 10, 5, 3, 0, 4, 1, 2, 7, 8], [15, 14, 12, 13, 11, 9, 6, 10, 5, 3, 0, 4, 1, 2, 7, 8], [18, 17, 15, 14, 12, 13, 11, 9, 6, 10, 5, 3, 0, 4, 1, 2, 7, 8, 16], [17, 19, 15, 16, 14, 12, 13, 11, 9, 6, 10, 5, 3, 0, 4, 1, 2, 7, 8, 18], [15, 20, 12, 14, 13, 11, 9, 6, 10, 5, 3, 0, 4, 1, 2, 7, 8, 17, 19, 16, 18], [12, 21, 11, 9, 6, 10, 5, 3, 0, 4, 1, 2, 7, 8, 15, 20, 14, 13, 17, 19, 16, 18], [22, 19, 12, 21, 11, 9, 6, 10, 5, 3, 0, 4, 1, 2, 7, 8, 15, 20, 14, 13, 17, 16, 18], [23, 22, 19, 12, 21, 11, 9, 6, 10, 5, 3, 0, 4, 1, 2, 7, 8, 15, 20, 14, 13, 17, 16, 18], [24, 23, 22, 19, 12, 21, 11, 9, 6, 10, 5, 3, 0, 4, 1, 2, 7, 8, 15, 20, 14, 13, 17, 16, 18], [25, 23, 24, 22, 19, 12, 21, 11, 9, 6, 10, 5, 3, 0, 4, 1, 2, 7, 8, 15, 20, 14, 13, 17, 16, 18], [26, 25, 23, 24, 22, 19, 12, 21, 11, 9, 6, 10, 5, 3, 0, 4, 1, 2, 7, 8, 15, 20, 14, 13, 17, 16, 18], [27, 26, 25, 23, 24, 22, 19, 12, 21, 11, 9, 6, 10, 5, 3, 0, 4, 1, 2, 7, 8, 15, 20, 14, 13, 17, 16, 18], [26, 25, 23, 24, 22, 19, 12, 21, 11, 9, 6, 10, 5, 3, 0, 4, 1, 2, 7, 8, 15, 20, 14, 13, 17, 16, 18], [29, 28, 26, 25, 23, 24, 22, 19, 12, 21, 11, 9, 6, 10, 5, 3, 0, 4, 1, 2, 7, 8, 15, 20, 14, 13, 17, 16, 18, 27], [28, 30, 26, 27, 25, 23, 24, 22, 19, 12, 21, 11, 9, 6, 10, 5, 3, 0, 4, 1, 2, 7, 8, 15, 20, 14, 13, 17, 16, 18, 29], [26, 31, 23, 25, 24, 22, 19, 12, 21, 11, 9, 6, 10, 5, 3, 0, 4, 1, 2, 7, 8, 15, 20, 14, 13, 17, 16, 18, 28, 30, 27, 29], [23, 32, 22, 19, 12, 21, 11, 9, 6, 10, 5, 3, 0, 4, 1, 2, 7, 8, 15, 20, 14, 13, 17, 16, 18, 26, 31, 25, 24, 28, 30, 27, 29], [33, 30, 0, 1, 2, 3, 4, 5, 6, 7, 8, 9, 10, 11, 12, 13, 14, 15, 16, 17, 18, 19, 20, 21, 22, 23, 24, 25, 26, 27, 28, 29, 31, 32]])
         .ret)))))))⟩

theorem c58 : cFun Tryd.prog [0, 3] Tryd.f58 = some F58 := by kernel_rfl
theorem c68 : cFun Tryd.prog [0, 3] Tryd.f68 = some F68 := by kernel_rfl
theorem c57 : cFun Tryd.prog [0, 3] Tryd.f57 = some F57 := by kernel_rfl
theorem c56 : cFun Tryd.prog [0, 3] Tryd.f56 = some F56 := by kernel_rfl
theorem c59 : cFun Tryd.prog [0, 3] Tryd.f59 = some F59 := by kernel_rfl
theorem c69 : cFun Tryd.prog [0, 3] Tryd.f69 = some F69 := by kernel_rfl
theorem c71 : cFun Tryd.prog [0, 3] Tryd.f71 = some F71 := by kernel_rfl
theorem c60 : cFun Tryd.prog [0, 3] Tryd.f60 = some F60 := by kernel_rfl
theorem c70 : cFun Tryd.prog [0, 3] Tryd.f70 = some F70 := by kernel_rfl
theorem c72 : cFun Tryd.prog [0, 3] Tryd.f72 = some F72 := by kernel_rfl
theorem c55 : cFun Tryd.prog [0, 3] Tryd.f55 = some F55 := by kernel_rfl
theorem c31 : cFun Tryd.prog [0, 3] Tryd.f31 = some F31 := by kernel_rfl
theorem c36 : cFun Tryd.prog [0, 3] Tryd.f36 = some F36 := by kernel_rfl
theorem c37 : cFun Tryd.prog [0, 3] Tryd.f37 = some F37 := by kernel_rfl
theorem c61 : cFun Tryd.prog [0, 3] Tryd.f61 = some F61 := by kernel_rfl
theorem c33 : cFun Tryd.prog [0, 3] Tryd.f33 = some F33 := by kernel_rfl
theorem c34 : cFun Tryd.prog [0, 3] Tryd.f34 = some F34 := by kernel_rfl
theorem c53 : cFun Tryd.prog [0, 3] Tryd.f53 = some F53 := by kernel_rfl
theorem c32 : cFun Tryd.prog [0, 3] Tryd.f32 = some F32 := by kernel_rfl
theorem c30 : cFun Tryd.prog [0, 3] Tryd.f30 = some F30 := by kernel_rfl
theorem c35 : cFun Tryd.prog [0, 3] Tryd.f35 = some F35 := by kernel_rfl
theorem c29 : cFun Tryd.prog [0, 3] Tryd.f29 = some F29 := by kernel_rfl
theorem c7 : cFun Tryd.prog [0, 3] Tryd.f7 = some F7 := by kernel_rfl
theorem c8 : cFun Tryd.prog [0, 3] Tryd.f8 = some F8 := by kernel_rfl
end Go.Proofs.YtkbjfhkhbcgkgaaDoor.B33m
