import Derived.Test.YtcmnchmkoghfdaaDoorFBlkC04
open Go AH
namespace Go.Proofs.YtcmnchmkoghfdaaDoor.C04
-- quitrent/quitrentref04.Of
def F13 : AFun := ⟨37, 1, [.tmp 2],
  (.seq
   (.reg [
     ⟨(some 2), none, .mov (.c .nilp)⟩])
   (.seq
    (.reg [
      ⟨(some 5), none, .build [.nils, (.bool false), (.int .i64 0), (.int .i64 0), (.int .i64 0)] [(1, 1, (.c (.bool true))), (2, 1, (.c (.int .i64 (-1))))]⟩,
      ⟨(some 6), none, .box 5 (.t 5)⟩,
      ⟨(some 3), none, .mov (.t 6)⟩])
    (.seq
     (.seq
      (.reg [
        ⟨(some 4), none, .mov (.c (.int .i64 0))⟩])
      (.block 0
       (.loop
        (.seq
         (.seq
          (.reg [
            ⟨(some 7), none, .mov (.t 4)⟩,
            ⟨(some 8), none, .ibin .add (.t 7) (.c (.int .i64 64))⟩,
            ⟨(some 9), none, .mov (.t 0)⟩,
            ⟨(some 10), none, .len .str (.t 9)⟩,
            ⟨(some 11), none, .ibin .leq (.t 8) (.t 10)⟩,
            ⟨(some 12), none, .mov (.t 11)⟩,
            ⟨(some 13), (some (12, true)), .mov (.t 3)⟩,
            ⟨(some 14), (some (12, true)), .nilchk (.t 13)⟩,
            ⟨(some 15), (some (12, true)), .faddr 0 (.t 14)⟩,
            ⟨(some 16), (some (12, true)), .load false 1 (.t 15)⟩,
            ⟨(some 17), (some (12, true)), .len .sl (.t 16)⟩,
            ⟨(some 18), (some (12, true)), .ibin .lss (.t 17) (.c (.int .i64 4096))⟩,
            ⟨(some 19), none, .pick (.t 12) (.t 18) (.c (.bool false))⟩])
          (.cond (.t 19)
           .skip
           (.exit 0)))
         (.seq
          (.block 1
           (.draw [
             ⟨(some 22), none, .mov (.t 3)⟩,
             ⟨(some 23), none, .mov (.t 3)⟩,
             ⟨(some 24), none, .nilchk (.t 23)⟩,
             ⟨(some 25), none, .faddr 0 (.t 24)⟩,
             ⟨(some 26), none, .load false 1 (.t 25)⟩,
             ⟨(some 27), none, .mov (.t 0)⟩,
             ⟨(some 28), none, .mov (.t 4)⟩,
             ⟨(some 29), none, .mov (.t 4)⟩,
             ⟨(some 30), none, .ibin .add (.t 29) (.c (.int .i64 64))⟩,
             ⟨(some 31), none, .sliceStr (.t 27) (some (.t 28)) (some (.t 30))⟩,
             ⟨(some 32), none, .bslice 1 1 [(.str ⟨#[]⟩)] [(0, 1, (.t 31))]⟩,
             ⟨(some 33), none, .append 1 16 [(.str ⟨#[]⟩)] (.t 26) (.t 32)⟩,
             ⟨(some 34), none, .nilchk (.t 22)⟩,
             ⟨(some 35), none, .faddr 0 (.t 34)⟩,
             ⟨none, none, .store 1 (.t 35) (.t 33)⟩]
             [[], [], [1], [2, 1], [3, 2, 1], [], [], [], [7], [5, 6, 8, 7], [9, 5, 6, 8, 7], [4, 10, 3, 2, 1, 9, 5, 6, 8, 7], [0, 1, 2, 3, 4, 5, 6, 7, 8, 9, 10, 11], [12, 0, 1, 2, 3, 4, 5, 6, 7, 8, 9, 10, 11], [13, 11, 0, 1, 2, 3, 4, 5, 6, 7, 8, 9, 10, 12]]))
          (.reg [
            ⟨(some 20), none, .mov (.t 4)⟩,
            ⟨(some 21), none, .ibin .add (.t 20) (.c (.int .i64 64))⟩,
            ⟨(some 4), none, .mov (.t 21)⟩]))))))
     (.seq
      (.reg [
        ⟨(some 36), none, .mov (.t 3)⟩,
        ⟨(some 2), none, .mov (.t 36)⟩])
      .ret))))⟩

-- (*quitrent/quitrentref04.Disk).Write
def F22 : AFun := ⟨84, 3, [.tmp 6],
  (.seq
   (.reg [
     ⟨(some 6), none, .mov (.c (.int .i64 0))⟩])
   (.seq
    (.seq
     (.reg [
       ⟨(some 7), none, .mov (.t 1)⟩,
       ⟨(some 8), none, .ibin .lss (.t 7) (.c (.int .i64 0))⟩,
       ⟨(some 9), none, .mov (.t 8)⟩,
       ⟨(some 10), (some (9, false)), .mov (.t 1)⟩,
       ⟨(some 11), (some (9, false)), .mov (.t 0)⟩,
       ⟨(some 12), (some (9, false)), .nilchk (.t 11)⟩,
       ⟨(some 13), (some (9, false)), .faddr 0 (.t 12)⟩,
       ⟨(some 14), (some (9, false)), .load false 1 (.t 13)⟩,
       ⟨(some 15), (some (9, false)), .len .sl (.t 14)⟩,
       ⟨(some 16), (some (9, false)), .ibin .geq (.t 10) (.t 15)⟩,
       ⟨(some 17), none, .pick (.t 9) (.c (.bool true)) (.t 16)⟩,
       ⟨(some 18), none, .mov (.t 17)⟩,
       ⟨(some 19), (some (18, false)), .mov (.t 2)⟩,
       ⟨(some 20), (some (18, false)), .len .str (.t 19)⟩,
       ⟨(some 21), (some (18, false)), .ibin .neq (.t 20) (.c (.int .i64 64))⟩,
       ⟨(some 22), none, .pick (.t 18) (.c (.bool true)) (.t 21)⟩])
     (.cond (.t 22)
      (.seq
       (.reg [
         ⟨(some 6), none, .mov (.c (.int .i64 1))⟩])
       .ret)
      .skip))
    (.seq
     (.seq
      (.reg [
        ⟨(some 23), none, .mov (.t 0)⟩,
        ⟨(some 24), none, .nilchk (.t 23)⟩,
        ⟨(some 25), none, .faddr 1 (.t 24)⟩,
        ⟨(some 26), none, .load false 1 (.t 25)⟩,
        ⟨(some 27), none, .un .not (.t 26)⟩])
      (.cond (.t 27)
       (.seq
        (.reg [
          ⟨(some 6), none, .mov (.c (.int .i64 14))⟩])
        .ret)
       .skip))
     (.seq
      (.seq
       (.reg [
         ⟨(some 28), none, .mov (.t 0)⟩,
         ⟨(some 29), none, .nilchk (.t 28)⟩,
         ⟨(some 30), none, .faddr 2 (.t 29)⟩,
         ⟨(some 31), none, .load false 1 (.t 30)⟩,
         ⟨(some 32), none, .ibin .eql (.t 31) (.c (.int .i64 0))⟩])
       (.cond (.t 32)
        (.seq
         (.draw [
           ⟨(some 33), none, .mov (.t 0)⟩,
           ⟨(some 34), none, .nilchk (.t 33)⟩,
           ⟨(some 35), none, .faddr 0 (.t 34)⟩,
           ⟨(some 36), none, .load false 1 (.t 35)⟩,
           ⟨(some 37), none, .mov (.t 1)⟩,
           ⟨(some 38), none, .mov (.t 2)⟩,
           ⟨(some 39), none, .mov (.t 0)⟩,
           ⟨(some 40), none, .nilchk (.t 39)⟩,
           ⟨(some 41), none, .faddr 3 (.t 40)⟩,
           ⟨(some 42), none, .load false 1 (.t 41)⟩,
           ⟨(some 43), none, .sliceStr (.t 38) none (some (.t 42))⟩,
           ⟨(some 44), none, .mov (.t 0)⟩,
           ⟨(some 45), none, .nilchk (.t 44)⟩,
           ⟨(some 46), none, .faddr 0 (.t 45)⟩,
           ⟨(some 47), none, .load false 1 (.t 46)⟩,
           ⟨(some 48), none, .mov (.t 1)⟩,
           ⟨(some 49), none, .iaddrSl 1 (.t 47) (.t 48)⟩,
           ⟨(some 50), none, .load false 1 (.t 49)⟩,
           ⟨(some 51), none, .mov (.t 0)⟩,
           ⟨(some 52), none, .nilchk (.t 51)⟩,
           ⟨(some 53), none, .faddr 3 (.t 52)⟩,
           ⟨(some 54), none, .load false 1 (.t 53)⟩,
           ⟨(some 55), none, .sliceStr (.t 50) (some (.t 54)) none⟩,
           ⟨(some 56), none, .ibin .add (.t 43) (.t 55)⟩,
           ⟨(some 57), none, .iaddrSl 1 (.t 36) (.t 37)⟩,
           ⟨none, none, .store 1 (.t 57) (.t 56)⟩]
           [[], [0], [1, 0], [2, 1, 0], [], [], [], [6], [7, 6], [8, 7, 6], [5, 9, 8, 7, 6], [], [11], [12, 11], [13, 12, 11], [], [14, 15, 13, 12, 11], [16, 14, 15, 13, 12, 11], [], [18], [19, 18], [20, 19, 18], [17, 21, 16, 14, 15, 13, 12, 11, 20, 19, 18], [10, 22, 5, 9, 8, 7, 6, 17, 21, 16, 14, 15, 13, 12, 11, 20, 19, 18], [3, 4, 0, 1, 2, 5, 6, 7, 8, 9, 10, 11, 12, 13, 14, 15, 16, 17, 18, 19, 20, 21, 22, 23], [24, 23, 0, 1, 2, 3, 4, 5, 6, 7, 8, 9, 10, 11, 12, 13, 14, 15, 16, 17, 18, 19, 20, 21, 22]])
         (.seq
          (.reg [
            ⟨(some 58), none, .mov (.t 0)⟩,
            ⟨(some 59), none, .nilchk (.t 58)⟩,
            ⟨(some 60), none, .faddr 1 (.t 59)⟩,
            ⟨none, none, .store 1 (.t 60) (.c (.bool false))⟩])
          (.seq
           (.reg [
             ⟨(some 6), none, .mov (.c (.int .i64 14))⟩])
           .ret)))
        .skip))
      (.seq
       (.reg [
         ⟨(some 61), none, .mov (.t 0)⟩,
         ⟨(some 62), none, .nilchk (.t 61)⟩,
         ⟨(some 63), none, .faddr 0 (.t 62)⟩,
         ⟨(some 64), none, .load false 1 (.t 63)⟩,
         ⟨(some 65), none, .mov (.t 1)⟩,
         ⟨(some 66), none, .mov (.t 2)⟩,
         ⟨(some 67), none, .iaddrSl 1 (.t 64) (.t 65)⟩,
         ⟨none, none, .store 1 (.t 67) (.t 66)⟩])
       (.seq
        (.reg [
          ⟨(some 68), none, .mov (.t 0)⟩,
          ⟨(some 69), none, .mov (.t 0)⟩,
          ⟨(some 70), none, .nilchk (.t 69)⟩,
          ⟨(some 71), none, .faddr 2 (.t 70)⟩,
          ⟨(some 72), none, .load false 1 (.t 71)⟩,
          ⟨(some 73), none, .ibin .sub (.t 72) (.c (.int .i64 1))⟩,
          ⟨(some 74), none, .minmax true [(.t 73), (.c (.int .i64 (-1)))]⟩,
          ⟨(some 75), none, .nilchk (.t 68)⟩,
          ⟨(some 76), none, .faddr 2 (.t 75)⟩,
          ⟨none, none, .store 1 (.t 76) (.t 74)⟩])
        (.seq
         (.reg [
           ⟨(some 77), none, .mov (.t 0)⟩,
           ⟨(some 78), none, .nilchk (.t 77)⟩,
           ⟨(some 79), none, .faddr 4 (.t 78)⟩,
           ⟨(some 80), none, .load false 1 (.t 79)⟩,
           ⟨(some 81), none, .ibin .add (.t 80) (.c (.int .i64 1))⟩,
           ⟨(some 82), none, .nilchk (.t 77)⟩,
           ⟨(some 83), none, .faddr 4 (.t 82)⟩,
           ⟨none, none, .store 1 (.t 83) (.t 81)⟩])
         (.seq
          (.reg [
            ⟨(some 6), none, .mov (.c (.int .i64 0))⟩])
          .ret))))))))⟩

-- (*quitrent/quitrentref04.Disk).SetFuse
def F17 : AFun := ⟨21, 3, [],
  (.seq
   (.reg [
     ⟨(some 6), none, .mov (.t 0)⟩,
     ⟨(some 7), none, .nilchk (.t 6)⟩,
     ⟨(some 8), none, .faddr 1 (.t 7)⟩,
     ⟨(some 9), none, .load false 1 (.t 8)⟩])
   (.cond (.t 9)
    (.seq
     (.reg [
       ⟨(some 10), none, .mov (.t 0)⟩,
       ⟨(some 11), none, .mov (.t 1)⟩,
       ⟨(some 12), none, .minmax true [(.t 11), (.c (.int .i64 (-1)))]⟩,
       ⟨(some 13), none, .nilchk (.t 10)⟩,
       ⟨(some 14), none, .faddr 2 (.t 13)⟩,
       ⟨none, none, .store 1 (.t 14) (.t 12)⟩])
     (.reg [
       ⟨(some 15), none, .mov (.t 0)⟩,
       ⟨(some 16), none, .mov (.t 2)⟩,
       ⟨(some 17), none, .minmax true [(.t 16), (.c (.int .i64 0))]⟩,
       ⟨(some 18), none, .minmax false [(.t 17), (.c (.int .i64 64))]⟩,
       ⟨(some 19), none, .nilchk (.t 15)⟩,
       ⟨(some 20), none, .faddr 3 (.t 19)⟩,
       ⟨none, none, .store 1 (.t 20) (.t 18)⟩]))
    .skip))⟩

-- (*quitrent/quitrentref04.Disk).Come
def F19 : AFun := ⟨13, 1, [],
  (.seq
   (.reg [
     ⟨(some 2), none, .mov (.t 0)⟩,
     ⟨(some 3), none, .nilchk (.t 2)⟩,
     ⟨(some 4), none, .faddr 1 (.t 3)⟩,
     ⟨(some 5), none, .load false 1 (.t 4)⟩,
     ⟨(some 6), none, .un .not (.t 5)⟩])
   (.cond (.t 6)
    (.seq
     (.reg [
       ⟨(some 7), none, .mov (.t 0)⟩,
       ⟨(some 8), none, .nilchk (.t 7)⟩,
       ⟨(some 9), none, .faddr 1 (.t 8)⟩,
       ⟨none, none, .store 1 (.t 9) (.c (.bool true))⟩])
     (.reg [
       ⟨(some 10), none, .mov (.t 0)⟩,
       ⟨(some 11), none, .nilchk (.t 10)⟩,
       ⟨(some 12), none, .faddr 2 (.t 11)⟩,
       ⟨none, none, .store 1 (.t 12) (.c (.int .i64 (-1)))⟩]))
    .skip))⟩

-- (*quitrent/quitrentref04.Disk).Image
def F26 : AFun := ⟨24, 1, [.tmp 2],
  (.seq
   (.reg [
     ⟨(some 2), none, .mov (.c (.str ⟨#[]⟩))⟩])
   (.seq
    (.reg [
      ⟨(some 3), none, .mov (.c (.str ⟨#[]⟩))⟩])
    (.seq
     (.seq
      (.reg [
        ⟨(some 4), none, .mov (.c (.int .i64 0))⟩])
      (.block 0
       (.loop
        (.seq
         (.seq
          (.reg [
            ⟨(some 5), none, .mov (.t 4)⟩,
            ⟨(some 6), none, .mov (.t 0)⟩,
            ⟨(some 7), none, .nilchk (.t 6)⟩,
            ⟨(some 8), none, .faddr 0 (.t 7)⟩,
            ⟨(some 9), none, .load false 1 (.t 8)⟩,
            ⟨(some 10), none, .len .sl (.t 9)⟩,
            ⟨(some 11), none, .ibin .lss (.t 5) (.t 10)⟩])
          (.cond (.t 11)
           .skip
           (.exit 0)))
         (.seq
          (.block 1
           (.reg [
             ⟨(some 14), none, .mov (.t 3)⟩,
             ⟨(some 15), none, .mov (.t 0)⟩,
             ⟨(some 16), none, .nilchk (.t 15)⟩,
             ⟨(some 17), none, .faddr 0 (.t 16)⟩,
             ⟨(some 18), none, .load false 1 (.t 17)⟩,
             ⟨(some 19), none, .mov (.t 4)⟩,
             ⟨(some 20), none, .iaddrSl 1 (.t 18) (.t 19)⟩,
             ⟨(some 21), none, .load false 1 (.t 20)⟩,
             ⟨(some 22), none, .ibin .add (.t 14) (.t 21)⟩,
             ⟨(some 3), none, .mov (.t 22)⟩]))
          (.reg [
            ⟨(some 12), none, .mov (.t 4)⟩,
            ⟨(some 13), none, .ibin .add (.t 12) (.c (.int .i64 1))⟩,
            ⟨(some 4), none, .mov (.t 13)⟩]))))))
     (.seq
      (.reg [
        ⟨(some 23), none, .mov (.t 3)⟩,
        ⟨(some 2), none, .mov (.t 23)⟩])
      .ret))))⟩

-- quitrent/quitrentlaw04.of
def F21 : AFun := ⟨18, 1, [.tmp 2],
  (.seq
   (.reg [
     ⟨(some 2), none, .mov (.c (.str ⟨#[]⟩))⟩])
   (.seq
    (.reg [
      ⟨(some 5), none, .mkslice 1 1 [(.int .u8 0)] (.c (.int .i64 64)) (.c (.int .i64 64))⟩,
      ⟨(some 3), none, .mov (.t 5)⟩])
    (.seq
     (.seq
      (.reg [
        ⟨(some 4), none, .mov (.c (.int .i64 0))⟩])
      (.block 0
       (.loop
        (.seq
         (.seq
          (.reg [
            ⟨(some 6), none, .mov (.t 4)⟩,
            ⟨(some 7), none, .mov (.t 3)⟩,
            ⟨(some 8), none, .len .sl (.t 7)⟩,
            ⟨(some 9), none, .ibin .lss (.t 6) (.t 8)⟩])
          (.cond (.t 9)
           .skip
           (.exit 0)))
         (.seq
          (.block 1
           (.reg [
             ⟨(some 12), none, .mov (.t 3)⟩,
             ⟨(some 13), none, .mov (.t 4)⟩,
             ⟨(some 14), none, .mov (.t 0)⟩,
             ⟨(some 15), none, .iaddrSl 1 (.t 12) (.t 13)⟩,
             ⟨none, none, .store 1 (.t 15) (.t 14)⟩]))
          (.reg [
            ⟨(some 10), none, .mov (.t 4)⟩,
            ⟨(some 11), none, .ibin .add (.t 10) (.c (.int .i64 1))⟩,
            ⟨(some 4), none, .mov (.t 11)⟩]))))))
     (.seq
      (.reg [
        ⟨(some 16), none, .mov (.t 3)⟩,
        ⟨(some 17), none, .b2s (.t 16)⟩,
        ⟨(some 2), none, .mov (.t 17)⟩])
      .ret))))⟩

-- quitrent/quitrentlaw04.awake
def F11 : AFun := ⟨59, 0, [.tmp 0],
  (.seq
   (.reg [
     ⟨(some 0), none, .mov (.c (.bool false))⟩])
   (.seq
    (.reg [
      ⟨(some 7), none, .call (.c (.fn 28 [] [])) [(.c (.int .i64 2))]⟩,
      ⟨(some 1), none, .mov (.t 7)⟩])
    (.seq
     (.seq
      (.reg [
        ⟨(some 8), none, .mov (.t 1)⟩,
        ⟨(some 9), none, .eq false .ptr true (.t 8) (.c .nilp)⟩])
      (.cond (.t 9)
       (.seq
        (.reg [
          ⟨(some 0), none, .mov (.c (.bool false))⟩])
        .ret)
       .skip))
     (.seq
      (.reg [
        ⟨(some 10), none, .mov (.t 1)⟩,
        ⟨(some 11), none, .call (.c (.fn 21 [] [])) [(.c (.int .u8 97))]⟩,
        ⟨(some 12), none, .call (.c (.fn 20 [] [])) [(.t 10), (.c (.int .i64 1)), (.t 11)]⟩,
        ⟨(some 2), none, .mov (.t 12)⟩])
      (.seq
       (.reg [
         ⟨(some 13), none, .mov (.t 1)⟩,
         ⟨(some 14), none, .call (.c (.fn 16 [] [])) [(.t 13), (.c (.int .i64 0)), (.c (.int .i64 3))]⟩])
       (.seq
        (.reg [
          ⟨(some 15), none, .mov (.t 1)⟩,
          ⟨(some 16), none, .call (.c (.fn 21 [] [])) [(.c (.int .u8 98))]⟩,
          ⟨(some 17), none, .call (.c (.fn 20 [] [])) [(.t 15), (.c (.int .i64 1)), (.t 16)]⟩,
          ⟨(some 3), none, .mov (.t 17)⟩])
        (.seq
         (.reg [
           ⟨(some 18), none, .mov (.t 1)⟩,
           ⟨(some 19), none, .call (.c (.fn 23 [] [])) [(.t 18)]⟩,
           ⟨(some 4), none, .mov (.t 19)⟩])
         (.seq
          (.reg [
            ⟨(some 20), none, .mov (.t 1)⟩,
            ⟨(some 21), none, .call (.c (.fn 18 [] [])) [(.t 20)]⟩])
          (.seq
           (.reg [
             ⟨(some 23), none, .mov (.t 1)⟩,
             ⟨(some 24), none, .call (.c (.fn 14 [] [])) [(.t 23), (.c (.int .i64 1))]⟩,
             ⟨(some 22), none, .mov (.t 24)⟩,
             ⟨(some 25), none, .extract (.t 22) 0⟩,
             ⟨(some 26), none, .extract (.t 22) 1⟩,
             ⟨(some 5), none, .mov (.t 25)⟩,
             ⟨(some 6), none, .mov (.t 26)⟩])
           (.seq
            (.reg [
              ⟨(some 27), none, .mov (.t 2)⟩,
              ⟨(some 28), none, .eq false .iface true (.t 27) (.c .nili)⟩,
              ⟨(some 29), none, .mov (.t 28)⟩,
              ⟨(some 30), (some (29, true)), .mov (.t 3)⟩,
              ⟨(some 31), (some (29, true)), .call (.c (.fn 15 [] [])) [(.t 30)]⟩,
              ⟨(some 32), (some (29, true)), .ibin .eql (.t 31) (.c (.int .i64 14))⟩,
              ⟨(some 33), none, .pick (.t 29) (.t 32) (.c (.bool false))⟩,
              ⟨(some 34), none, .mov (.t 33)⟩,
              ⟨(some 35), (some (34, true)), .mov (.t 4)⟩,
              ⟨(some 36), (some (34, true)), .un .not (.t 35)⟩,
              ⟨(some 37), none, .pick (.t 34) (.t 36) (.c (.bool false))⟩,
              ⟨(some 38), none, .mov (.t 37)⟩,
              ⟨(some 39), (some (38, true)), .mov (.t 6)⟩,
              ⟨(some 40), (some (38, true)), .eq false .iface true (.t 39) (.c .nili)⟩,
              ⟨(some 41), none, .pick (.t 38) (.t 40) (.c (.bool false))⟩,
              ⟨(some 42), none, .mov (.t 41)⟩,
              ⟨(some 43), (some (42, true)), .mov (.t 5)⟩,
              ⟨(some 44), (some (42, true)), .call (.c (.fn 21 [] [])) [(.c (.int .u8 97))]⟩,
              ⟨(some 45), (some (42, true)), .sliceStr (.t 44) (some (.c (.int .i64 3))) none⟩,
              ⟨(some 46), (some (42, true)), .ibin .add (.c (.str ⟨#[98, 98, 98]⟩)) (.t 45)⟩,
              ⟨(some 47), (some (42, true)), .ibin .eql (.t 43) (.t 46)⟩,
              ⟨(some 48), none, .pick (.t 42) (.t 47) (.c (.bool false))⟩,
              ⟨(some 49), none, .mov (.t 48)⟩,
              ⟨(some 50), (some (49, true)), .mov (.t 1)⟩,
              ⟨(some 51), (some (49, true)), .call (.c (.fn 27 [] [])) [(.t 50)]⟩,
              ⟨(some 52), (some (49, true)), .ibin .eql (.t 51) (.c (.int .i64 2))⟩,
              ⟨(some 53), none, .pick (.t 49) (.t 52) (.c (.bool false))⟩,
              ⟨(some 54), none, .mov (.t 53)⟩,
              ⟨(some 55), (some (54, true)), .mov (.t 1)⟩,
              ⟨(some 56), (some (54, true)), .call (.c (.fn 24 [] [])) [(.t 55)]⟩,
              ⟨(some 57), (some (54, true)), .ibin .eql (.t 56) (.c (.int .i64 1))⟩,
              ⟨(some 58), none, .pick (.t 54) (.t 57) (.c (.bool false))⟩,
              ⟨(some 0), none, .mov (.t 58)⟩])
            .ret))))))))))⟩

-- quitrent/quitrentlaw04.BlockExact
def F3 : AFun := ⟨210, 2, [.tmp 4],
  (.seq
   (.reg [
     ⟨(some 4), none, .mov (.c (.bool false))⟩])
   (.seq
    (.seq
     (.reg [
       ⟨(some 14), none, .call (.c (.fn 11 [] [])) []⟩,
       ⟨(some 15), none, .un .not (.t 14)⟩])
     (.cond (.t 15)
      (.seq
       (.reg [
         ⟨(some 4), none, .mov (.c (.bool false))⟩])
       .ret)
      .skip))
    (.seq
     (.seq
      (.reg [
        ⟨(some 16), none, .mov (.t 0)⟩,
        ⟨(some 17), none, .len .str (.t 16)⟩,
        ⟨(some 18), none, .ibin .gtr (.t 17) (.c (.int .i64 768))⟩])
      (.cond (.t 18)
       (.seq
        (.reg [
          ⟨(some 4), none, .mov (.c (.bool true))⟩])
        .ret)
       .skip))
     (.seq
      (.reg [
        ⟨(some 19), none, .mov (.t 0)⟩,
        ⟨(some 20), none, .call (.c (.fn 12 [] [])) [(.t 19)]⟩,
        ⟨(some 5), none, .mov (.t 20)⟩])
      (.seq
       (.reg [
         ⟨(some 21), none, .mov (.t 0)⟩,
         ⟨(some 22), none, .call (.c (.fn 13 [] [])) [(.t 21)]⟩,
         ⟨(some 6), none, .mov (.t 22)⟩])
       (.seq
        (.seq
         (.reg [
           ⟨(some 7), none, .mov (.c (.int .i64 0))⟩])
         (.block 0
          (.loop
           (.seq
            (.seq
             (.reg [
               ⟨(some 23), none, .mov (.t 7)⟩,
               ⟨(some 24), none, .mov (.t 1)⟩,
               ⟨(some 25), none, .len .sl (.t 24)⟩,
               ⟨(some 26), none, .ibin .lss (.t 23) (.t 25)⟩,
               ⟨(some 27), none, .mov (.t 26)⟩,
               ⟨(some 28), (some (27, true)), .mov (.t 7)⟩,
               ⟨(some 29), (some (27, true)), .ibin .lss (.t 28) (.c (.int .i64 60))⟩,
               ⟨(some 30), none, .pick (.t 27) (.t 29) (.c (.bool false))⟩])
             (.cond (.t 30)
              .skip
              (.exit 0)))
            (.seq
             (.block 1
              (.seq
               (.reg [
                 ⟨(some 33), none, .mov (.t 1)⟩,
                 ⟨(some 34), none, .mov (.t 7)⟩,
                 ⟨(some 35), none, .iaddrSl 4 (.t 33) (.t 34)⟩,
                 ⟨(some 36), none, .load true 4 (.t 35)⟩,
                 ⟨(some 8), none, .box 4 (.c (.agg [(.int .i64 0), (.int .i64 0), (.int .i64 0), (.int .u8 0)]))⟩,
                 ⟨none, none, .store 4 (.t 8) (.t 36)⟩])
               (.seq
                (.seq
                 (.reg [
                   ⟨(some 37), none, .faddr 0 (.t 8)⟩,
                   ⟨(some 38), none, .load false 1 (.t 37)⟩])
                 (.block 2
                  (.seq
                   (.reg [
                     ⟨(some 64), none, .ibin .eql (.t 38) (.c (.int .i64 3))⟩,
                     ⟨(some 63), none, .mov (.t 64)⟩])
                   (.cond (.t 63)
                    (.seq
                     (.reg [
                       ⟨(some 66), none, .mov (.t 5)⟩,
                       ⟨(some 67), none, .faddr 1 (.t 8)⟩,
                       ⟨(some 68), none, .load false 1 (.t 67)⟩,
                       ⟨(some 69), none, .call (.c (.fn 14 [] [])) [(.t 66), (.t 68)]⟩,
                       ⟨(some 65), none, .mov (.t 69)⟩,
                       ⟨(some 70), none, .extract (.t 65) 0⟩,
                       ⟨(some 71), none, .extract (.t 65) 1⟩,
                       ⟨(some 9), none, .mov (.t 70)⟩,
                       ⟨(some 10), none, .mov (.t 71)⟩])
                     (.seq
                      (.draw [
                        ⟨(some 72), none, .faddr 1 (.t 8)⟩,
                        ⟨(some 73), none, .load false 1 (.t 72)⟩,
                        ⟨(some 74), none, .ibin .lss (.t 73) (.c (.int .i64 0))⟩,
                        ⟨(some 75), none, .mov (.t 74)⟩,
                        ⟨(some 76), (some (75, false)), .faddr 1 (.t 8)⟩,
                        ⟨(some 77), (some (75, false)), .load false 1 (.t 76)⟩,
                        ⟨(some 78), (some (75, false)), .mov (.t 6)⟩,
                        ⟨(some 79), (some (75, false)), .nilchk (.t 78)⟩,
                        ⟨(some 80), (some (75, false)), .faddr 0 (.t 79)⟩,
                        ⟨(some 81), (some (75, false)), .load false 1 (.t 80)⟩,
                        ⟨(some 82), (some (75, false)), .len .sl (.t 81)⟩,
                        ⟨(some 83), (some (75, false)), .ibin .geq (.t 77) (.t 82)⟩,
                        ⟨(some 84), none, .pick (.t 75) (.c (.bool true)) (.t 83)⟩]
                        [[], [0], [1, 0], [2, 1, 0], [3, 2, 1, 0], [4, 3, 2, 1, 0], [3, 2, 1, 0], [6, 3, 2, 1, 0], [7, 3, 6, 2, 1, 0], [8, 3, 7, 6, 2, 1, 0], [9, 3, 8, 7, 6, 2, 1, 0], [5, 10, 3, 4, 2, 1, 0, 9, 8, 7, 6], [3, 11, 2, 1, 0, 5, 10, 4, 9, 8, 7, 6]])
                      (.cond (.t 84)
                       (.seq
                        (.reg [
                          ⟨(some 85), none, .mov (.t 10)⟩,
                          ⟨(some 86), none, .call (.c (.fn 15 [] [])) [(.t 85)]⟩,
                          ⟨(some 87), none, .ibin .neq (.t 86) (.c (.int .i64 1))⟩,
                          ⟨(some 88), none, .mov (.t 87)⟩,
                          ⟨(some 89), (some (88, false)), .mov (.t 9)⟩,
                          ⟨(some 90), (some (88, false)), .ibin .neq (.t 89) (.c (.str ⟨#[]⟩))⟩,
                          ⟨(some 91), none, .pick (.t 88) (.c (.bool true)) (.t 90)⟩])
                        (.cond (.t 91)
                         (.seq
                          (.reg [
                            ⟨(some 4), none, .mov (.c (.bool false))⟩])
                          .ret)
                         .skip))
                       (.seq
                        (.reg [
                          ⟨(some 92), none, .mov (.t 6)⟩,
                          ⟨(some 93), none, .nilchk (.t 92)⟩,
                          ⟨(some 94), none, .faddr 1 (.t 93)⟩,
                          ⟨(some 95), none, .load false 1 (.t 94)⟩,
                          ⟨(some 96), none, .un .not (.t 95)⟩])
                        (.cond (.t 96)
                         (.seq
                          (.reg [
                            ⟨(some 97), none, .mov (.t 10)⟩,
                            ⟨(some 98), none, .call (.c (.fn 15 [] [])) [(.t 97)]⟩,
                            ⟨(some 99), none, .ibin .neq (.t 98) (.c (.int .i64 14))⟩,
                            ⟨(some 100), none, .mov (.t 99)⟩,
                            ⟨(some 101), (some (100, false)), .mov (.t 9)⟩,
                            ⟨(some 102), (some (100, false)), .ibin .neq (.t 101) (.c (.str ⟨#[]⟩))⟩,
                            ⟨(some 103), none, .pick (.t 100) (.c (.bool true)) (.t 102)⟩])
                          (.cond (.t 103)
                           (.seq
                            (.reg [
                              ⟨(some 4), none, .mov (.c (.bool false))⟩])
                            .ret)
                           .skip))
                         (.seq
                          (.draw [
                            ⟨(some 104), none, .mov (.t 10)⟩,
                            ⟨(some 105), none, .eq true .iface true (.t 104) (.c .nili)⟩,
                            ⟨(some 106), none, .mov (.t 105)⟩,
                            ⟨(some 107), (some (106, false)), .mov (.t 9)⟩,
                            ⟨(some 108), (some (106, false)), .mov (.t 6)⟩,
                            ⟨(some 109), (some (106, false)), .nilchk (.t 108)⟩,
                            ⟨(some 110), (some (106, false)), .faddr 0 (.t 109)⟩,
                            ⟨(some 111), (some (106, false)), .load false 1 (.t 110)⟩,
                            ⟨(some 112), (some (106, false)), .faddr 1 (.t 8)⟩,
                            ⟨(some 113), (some (106, false)), .load false 1 (.t 112)⟩,
                            ⟨(some 114), (some (106, false)), .iaddrSl 1 (.t 111) (.t 113)⟩,
                            ⟨(some 115), (some (106, false)), .load false 1 (.t 114)⟩,
                            ⟨(some 116), (some (106, false)), .ibin .neq (.t 107) (.t 115)⟩,
                            ⟨(some 117), none, .pick (.t 106) (.c (.bool true)) (.t 116)⟩]
                            [[], [0], [1, 0], [2, 1, 0], [2, 1, 0], [4, 2, 1, 0], [5, 2, 4, 1, 0], [6, 2, 5, 4, 1, 0], [2, 1, 0], [8, 2, 1, 0], [7, 9, 2, 6, 5, 4, 1, 0, 8], [10, 2, 7, 9, 6, 5, 4, 1, 0, 8], [3, 11, 2, 1, 0, 10, 7, 9, 6, 5, 4, 8], [2, 12, 1, 0, 3, 11, 10, 7, 9, 6, 5, 4, 8]])
                          (.cond (.t 117)
                           (.seq
                            (.reg [
                              ⟨(some 4), none, .mov (.c (.bool false))⟩])
                            .ret)
                           .skip)))))))
                    (.seq
                     (.reg [
                       ⟨(some 119), none, .ibin .eql (.t 38) (.c (.int .i64 4))⟩,
                       ⟨(some 118), none, .mov (.t 119)⟩])
                     (.cond (.t 118)
                      (.seq
                       (.reg [
                         ⟨(some 120), none, .mov (.t 5)⟩,
                         ⟨(some 121), none, .faddr 2 (.t 8)⟩,
                         ⟨(some 122), none, .load false 1 (.t 121)⟩,
                         ⟨(some 123), none, .faddr 1 (.t 8)⟩,
                         ⟨(some 124), none, .load false 1 (.t 123)⟩,
                         ⟨(some 125), none, .call (.c (.fn 16 [] [])) [(.t 120), (.t 122), (.t 124)]⟩])
                       (.reg [
                         ⟨(some 126), none, .mov (.t 6)⟩,
                         ⟨(some 127), none, .faddr 2 (.t 8)⟩,
                         ⟨(some 128), none, .load false 1 (.t 127)⟩,
                         ⟨(some 129), none, .faddr 1 (.t 8)⟩,
                         ⟨(some 130), none, .load false 1 (.t 129)⟩,
                         ⟨(some 131), none, .call (.c (.fn 17 [] [])) [(.t 126), (.t 128), (.t 130)]⟩]))
                      (.seq
                       (.reg [
                         ⟨(some 133), none, .ibin .eql (.t 38) (.c (.int .i64 5))⟩,
                         ⟨(some 132), none, .mov (.t 133)⟩])
                       (.cond (.t 132)
                        (.seq
                         (.reg [
                           ⟨(some 134), none, .mov (.t 5)⟩,
                           ⟨(some 135), none, .call (.c (.fn 18 [] [])) [(.t 134)]⟩])
                         (.reg [
                           ⟨(some 136), none, .mov (.t 6)⟩,
                           ⟨(some 137), none, .call (.c (.fn 19 [] [])) [(.t 136)]⟩]))
                        (.seq
                         (.draw [
                           ⟨(some 39), none, .mov (.t 5)⟩,
                           ⟨(some 40), none, .faddr 1 (.t 8)⟩,
                           ⟨(some 41), none, .load false 1 (.t 40)⟩,
                           ⟨(some 42), none, .faddr 3 (.t 8)⟩,
                           ⟨(some 43), none, .load false 1 (.t 42)⟩,
                           ⟨(some 44), none, .call (.c (.fn 21 [] [])) [(.t 43)]⟩,
                           ⟨(some 45), none, .call (.c (.fn 20 [] [])) [(.t 39), (.t 41), (.t 44)]⟩,
                           ⟨(some 46), none, .call (.c (.fn 15 [] [])) [(.t 45)]⟩,
                           ⟨(some 47), none, .mov (.t 6)⟩,
                           ⟨(some 48), none, .faddr 1 (.t 8)⟩,
                           ⟨(some 49), none, .load false 1 (.t 48)⟩,
                           ⟨(some 50), none, .faddr 3 (.t 8)⟩,
                           ⟨(some 51), none, .load false 1 (.t 50)⟩,
                           ⟨(some 52), none, .call (.c (.fn 21 [] [])) [(.t 51)]⟩,
                           ⟨(some 53), none, .call (.c (.fn 22 [] [])) [(.t 47), (.t 49), (.t 52)]⟩,
                           ⟨(some 54), none, .ibin .neq (.t 46) (.t 53)⟩,
                           ⟨(some 55), none, .mov (.t 54)⟩,
                           ⟨(some 56), (some (55, false)), .mov (.t 5)⟩,
                           ⟨(some 57), (some (55, false)), .faddr 1 (.t 8)⟩,
                           ⟨(some 58), (some (55, false)), .load false 1 (.t 57)⟩,
                           ⟨(some 59), (some (55, false)), .call (.c (.fn 20 [] [])) [(.t 56), (.t 58), (.c (.str ⟨#[115, 104, 111, 114, 116]⟩))]⟩,
                           ⟨(some 60), (some (55, false)), .call (.c (.fn 15 [] [])) [(.t 59)]⟩,
                           ⟨(some 61), (some (55, false)), .ibin .neq (.t 60) (.c (.int .i64 1))⟩,
                           ⟨(some 62), none, .pick (.t 55) (.c (.bool true)) (.t 61)⟩]
                           [[], [], [1], [], [3], [4, 3], [0, 2, 5, 1, 4, 3], [6, 0, 2, 5, 1, 4, 3], [], [], [9], [], [11], [12, 7, 11, 6, 0, 2, 5, 1, 4, 3], [8, 10, 13, 9, 12, 7, 11, 6, 0, 2, 5, 1, 4, 3], [7, 14, 6, 0, 2, 5, 1, 4, 3, 8, 10, 13, 9, 12, 11], [15, 14, 7, 6, 0, 2, 5, 1, 4, 3, 8, 10, 13, 9, 12, 11], [16, 15, 14, 7, 6, 0, 2, 5, 1, 4, 3, 8, 10, 13, 9, 12, 11], [16, 15, 14, 7, 6, 0, 2, 5, 1, 4, 3, 8, 10, 13, 9, 12, 11], [18, 16, 15, 14, 7, 6, 0, 2, 5, 1, 4, 3, 8, 10, 13, 9, 12, 11], [17, 19, 16, 15, 14, 7, 6, 0, 2, 5, 1, 4, 3, 8, 10, 13, 9, 12, 11, 18], [20, 16, 17, 19, 15, 14, 7, 6, 0, 2, 5, 1, 4, 3, 8, 10, 13, 9, 12, 11, 18], [21, 16, 20, 17, 19, 15, 14, 7, 6, 0, 2, 5, 1, 4, 3, 8, 10, 13, 9, 12, 11, 18], [16, 22, 15, 14, 7, 6, 0, 2, 5, 1, 4, 3, 8, 10, 13, 9, 12, 11, 21, 20, 17, 19, 18]])
                         (.cond (.t 62)
                          (.seq
                           (.reg [
                             ⟨(some 4), none, .mov (.c (.bool false))⟩])
                           .ret)
                          .skip))))))))))
                (.seq
                 (.draw [
                   ⟨(some 138), none, .mov (.t 5)⟩,
                   ⟨(some 139), none, .call (.c (.fn 23 [] [])) [(.t 138)]⟩,
                   ⟨(some 140), none, .mov (.t 6)⟩,
                   ⟨(some 141), none, .nilchk (.t 140)⟩,
                   ⟨(some 142), none, .faddr 1 (.t 141)⟩,
                   ⟨(some 143), none, .load false 1 (.t 142)⟩,
                   ⟨(some 144), none, .eq true .bool false (.t 139) (.t 143)⟩,
                   ⟨(some 145), none, .mov (.t 144)⟩,
                   ⟨(some 146), (some (145, false)), .mov (.t 5)⟩,
                   ⟨(some 147), (some (145, false)), .call (.c (.fn 24 [] [])) [(.t 146)]⟩,
                   ⟨(some 148), (some (145, false)), .mov (.t 6)⟩,
                   ⟨(some 149), (some (145, false)), .nilchk (.t 148)⟩,
                   ⟨(some 150), (some (145, false)), .faddr 4 (.t 149)⟩,
                   ⟨(some 151), (some (145, false)), .load false 1 (.t 150)⟩,
                   ⟨(some 152), (some (145, false)), .ibin .neq (.t 147) (.t 151)⟩,
                   ⟨(some 153), none, .pick (.t 145) (.c (.bool true)) (.t 152)⟩,
                   ⟨(some 154), none, .mov (.t 153)⟩,
                   ⟨(some 155), (some (154, false)), .mov (.t 5)⟩,
                   ⟨(some 156), (some (154, false)), .call (.c (.fn 25 [] [])) [(.t 155)]⟩,
                   ⟨(some 157), (some (154, false)), .mov (.t 6)⟩,
                   ⟨(some 158), (some (154, false)), .call (.c (.fn 26 [] [])) [(.t 157)]⟩,
                   ⟨(some 159), (some (154, false)), .ibin .neq (.t 156) (.t 158)⟩,
                   ⟨(some 160), none, .pick (.t 154) (.c (.bool true)) (.t 159)⟩,
                   ⟨(some 161), none, .mov (.t 160)⟩,
                   ⟨(some 162), (some (161, false)), .mov (.t 5)⟩,
                   ⟨(some 163), (some (161, false)), .call (.c (.fn 27 [] [])) [(.t 162)]⟩,
                   ⟨(some 164), (some (161, false)), .mov (.t 6)⟩,
                   ⟨(some 165), (some (161, false)), .nilchk (.t 164)⟩,
                   ⟨(some 166), (some (161, false)), .faddr 0 (.t 165)⟩,
                   ⟨(some 167), (some (161, false)), .load false 1 (.t 166)⟩,
                   ⟨(some 168), (some (161, false)), .len .sl (.t 167)⟩,
                   ⟨(some 169), (some (161, false)), .ibin .neq (.t 163) (.t 168)⟩,
                   ⟨(some 170), none, .pick (.t 161) (.c (.bool true)) (.t 169)⟩]
                   [[], [0], [], [2], [3, 2], [4, 3, 2], [1, 5, 0, 4, 3, 2], [6, 1, 5, 0, 4, 3, 2], [7, 6, 1, 5, 0, 4, 3, 2], [8, 7, 6, 1, 5, 0, 4, 3, 2], [7, 6, 1, 5, 0, 4, 3, 2], [10, 7, 6, 1, 5, 0, 4, 3, 2], [11, 7, 10, 6, 1, 5, 0, 4, 3, 2], [12, 7, 11, 10, 6, 1, 5, 0, 4, 3, 2], [9, 13, 7, 8, 6, 1, 5, 0, 4, 3, 2, 12, 11, 10], [7, 14, 6, 1, 5, 0, 4, 3, 2, 9, 13, 8, 12, 11, 10], [15, 9, 7, 14, 6, 1, 5, 0, 4, 3, 2, 13, 8, 12, 11, 10], [16, 15, 9, 7, 14, 6, 1, 5, 0, 4, 3, 2, 13, 8, 12, 11, 10], [17, 16, 15, 9, 7, 14, 6, 1, 5, 0, 4, 3, 2, 13, 8, 12, 11, 10], [16, 15, 9, 7, 14, 6, 1, 5, 0, 4, 3, 2, 13, 8, 12, 11, 10], [19, 18, 16, 15, 9, 7, 14, 6, 1, 5, 0, 4, 3, 2, 13, 8, 12, 11, 10, 17], [18, 20, 16, 17, 15, 9, 7, 14, 6, 1, 5, 0, 4, 3, 2, 13, 8, 12, 11, 10, 19], [16, 21, 15, 9, 7, 14, 6, 1, 5, 0, 4, 3, 2, 13, 8, 12, 11, 10, 18, 20, 17, 19], [22, 20, 16, 21, 15, 9, 7, 14, 6, 1, 5, 0, 4, 3, 2, 13, 8, 12, 11, 10, 18, 17, 19], [23, 22, 20, 16, 21, 15, 9, 7, 14, 6, 1, 5, 0, 4, 3, 2, 13, 8, 12, 11, 10, 18, 17, 19], [24, 23, 22, 20, 16, 21, 15, 9, 7, 14, 6, 1, 5, 0, 4, 3, 2, 13, 8, 12, 11, 10, 18, 17, 19], [23, 22, 20, 16, 21, 15, 9, 7, 14, 6, 1, 5, 0, 4, 3, 2, 13, 8, 12, 11, 10, 18, 17, 19], [26, 23, 22, 20, 16, 21, 15, 9, 7, 14, 6, 1, 5, 0, 4, 3, 2, 13, 8, 12, 11, 10, 18, 17, 19], [27, 23, 26, 22, 20, 16, 21, 15, 9, 7, 14, 6, 1, 5, 0, 4, 3, 2, 13, 8, 12, 11, 10, 18, 17, 19], [28, 23, 27, 26, 22, 20, 16, 21, 15, 9, 7, 14, 6, 1, 5, 0, 4, 3, 2, 13, 8, 12, 11, 10, 18, 17, 19], [29, 23, 28, 27, 26, 22, 20, 16, 21, 15, 9, 7, 14, 6, 1, 5, 0, 4, 3, 2, 13, 8, 12, 11, 10, 18, 17, 19], [25, 30, 23, 24, 22, 20, 16, 21, 15, 9, 7, 14, 6, 1, 5, 0, 4, 3, 2, 13, 8, 12, 11, 10, 18, 17, 19, 29, 28, 27, 26], [23, 31, 22, 20, 16, 21, 15, 9, 7, 14, 6, 1, 5, 0, 4, 3, 2, 13, 8, 12, 11, 10, 18, 17, 19, 25, 30, 24, 29, 28, 27, 26]])
                 (.cond (.t 170)
                  (.seq
                   (.reg [
                     ⟨(some 4), none, .mov (.c (.bool false))⟩])
                   .ret)
                  .skip)))))
             (.reg [
               ⟨(some 31), none, .mov (.t 7)⟩,
               ⟨(some 32), none, .ibin .add (.t 31) (.c (.int .i64 1))⟩,
               ⟨(some 7), none, .mov (.t 32)⟩]))))))
        (.seq
         (.reg [
           ⟨(some 11), none, .mov (.c .nilp)⟩])
         (.seq
          (.reg [
            ⟨(some 171), none, .mov (.t 11)⟩,
            ⟨(some 172), none, .call (.c (.fn 16 [] [])) [(.t 171), (.c (.int .i64 1)), (.c (.int .i64 1))]⟩])
          (.seq
           (.reg [
             ⟨(some 173), none, .mov (.t 11)⟩,
             ⟨(some 174), none, .call (.c (.fn 18 [] [])) [(.t 173)]⟩])
           (.seq
            (.reg [
              ⟨(some 176), none, .mov (.t 11)⟩,
              ⟨(some 177), none, .call (.c (.fn 14 [] [])) [(.t 176), (.c (.int .i64 0))]⟩,
              ⟨(some 175), none, .mov (.t 177)⟩,
              ⟨(some 178), none, .extract (.t 175) 0⟩,
              ⟨(some 179), none, .extract (.t 175) 1⟩,
              ⟨(some 12), none, .mov (.t 178)⟩,
              ⟨(some 13), none, .mov (.t 179)⟩])
            (.seq
             (.reg [
               ⟨(some 180), none, .mov (.t 13)⟩,
               ⟨(some 181), none, .call (.c (.fn 15 [] [])) [(.t 180)]⟩,
               ⟨(some 182), none, .ibin .eql (.t 181) (.c (.int .i64 2))⟩,
               ⟨(some 183), none, .mov (.t 182)⟩,
               ⟨(some 184), (some (183, true)), .mov (.t 11)⟩,
               ⟨(some 185), (some (183, true)), .call (.c (.fn 21 [] [])) [(.c (.int .u8 1))]⟩,
               ⟨(some 186), (some (183, true)), .call (.c (.fn 20 [] [])) [(.t 184), (.c (.int .i64 0)), (.t 185)]⟩,
               ⟨(some 187), (some (183, true)), .call (.c (.fn 15 [] [])) [(.t 186)]⟩,
               ⟨(some 188), (some (183, true)), .ibin .eql (.t 187) (.c (.int .i64 2))⟩,
               ⟨(some 189), none, .pick (.t 183) (.t 188) (.c (.bool false))⟩,
               ⟨(some 190), none, .mov (.t 189)⟩,
               ⟨(some 191), (some (190, true)), .mov (.t 11)⟩,
               ⟨(some 192), (some (190, true)), .call (.c (.fn 27 [] [])) [(.t 191)]⟩,
               ⟨(some 193), (some (190, true)), .ibin .eql (.t 192) (.c (.int .i64 0))⟩,
               ⟨(some 194), none, .pick (.t 190) (.t 193) (.c (.bool false))⟩,
               ⟨(some 195), none, .mov (.t 194)⟩,
               ⟨(some 196), (some (195, true)), .mov (.t 11)⟩,
               ⟨(some 197), (some (195, true)), .call (.c (.fn 23 [] [])) [(.t 196)]⟩,
               ⟨(some 198), (some (195, true)), .un .not (.t 197)⟩,
               ⟨(some 199), none, .pick (.t 195) (.t 198) (.c (.bool false))⟩,
               ⟨(some 200), none, .mov (.t 199)⟩,
               ⟨(some 201), (some (200, true)), .mov (.t 11)⟩,
               ⟨(some 202), (some (200, true)), .call (.c (.fn 24 [] [])) [(.t 201)]⟩,
               ⟨(some 203), (some (200, true)), .ibin .eql (.t 202) (.c (.int .i64 0))⟩,
               ⟨(some 204), none, .pick (.t 200) (.t 203) (.c (.bool false))⟩,
               ⟨(some 205), none, .mov (.t 204)⟩,
               ⟨(some 206), (some (205, true)), .mov (.t 11)⟩,
               ⟨(some 207), (some (205, true)), .call (.c (.fn 25 [] [])) [(.t 206)]⟩,
               ⟨(some 208), (some (205, true)), .ibin .eql (.t 207) (.c (.str ⟨#[]⟩))⟩,
               ⟨(some 209), none, .pick (.t 205) (.t 208) (.c (.bool false))⟩,
               ⟨(some 4), none, .mov (.t 209)⟩])
             .ret)))))))))))⟩

-- quitrent/quitrentlaw04.BlockTears
def F4 : AFun := ⟨135, 3, [.tmp 6],
  (.seq
   (.reg [
     ⟨(some 6), none, .mov (.c (.bool false))⟩])
   (.seq
    (.seq
     (.reg [
       ⟨(some 18), none, .call (.c (.fn 11 [] [])) []⟩,
       ⟨(some 19), none, .un .not (.t 18)⟩])
     (.cond (.t 19)
      (.seq
       (.reg [
         ⟨(some 6), none, .mov (.c (.bool false))⟩])
       .ret)
      .skip))
    (.seq
     (.seq
      (.reg [
        ⟨(some 20), none, .mov (.t 0)⟩,
        ⟨(some 21), none, .len .sl (.t 20)⟩,
        ⟨(some 22), none, .ibin .gtr (.t 21) (.c (.int .i64 30))⟩])
      (.cond (.t 22)
       (.seq
        (.reg [
          ⟨(some 6), none, .mov (.c (.bool true))⟩])
        .ret)
       .skip))
     (.seq
      (.reg [
        ⟨(some 23), none, .call (.c (.fn 28 [] [])) [(.c (.int .i64 10))]⟩,
        ⟨(some 7), none, .mov (.t 23)⟩])
      (.seq
       (.reg [
         ⟨(some 24), none, .build (List.replicate 10 (.str ⟨#[]⟩)) []⟩,
         ⟨(some 8), none, .box 10 (.c (.agg (List.replicate 10 (.str ⟨#[]⟩))))⟩,
         ⟨none, none, .store 10 (.t 8) (.t 24)⟩])
       (.seq
        (.seq
         (.reg [
           ⟨(some 9), none, .mov (.c (.int .i64 0))⟩])
         (.block 0
          (.loop
           (.seq
            (.seq
             (.reg [
               ⟨(some 25), none, .mov (.t 9)⟩,
               ⟨(some 26), none, .ibin .lss (.t 25) (.c (.int .i64 10))⟩])
             (.cond (.t 26)
              .skip
              (.exit 0)))
            (.seq
             (.block 1
              (.reg [
                ⟨(some 29), none, .mov (.t 9)⟩,
                ⟨(some 30), none, .call (.c (.fn 21 [] [])) [(.c (.int .u8 0))]⟩,
                ⟨(some 31), none, .iaddrArr 10 1 (.t 8) (.t 29)⟩,
                ⟨none, none, .store 1 (.t 31) (.t 30)⟩]))
             (.reg [
               ⟨(some 27), none, .mov (.t 9)⟩,
               ⟨(some 28), none, .ibin .add (.t 27) (.c (.int .i64 1))⟩,
               ⟨(some 9), none, .mov (.t 28)⟩]))))))
        (.seq
         (.reg [
           ⟨(some 32), none, .mov (.t 1)⟩,
           ⟨(some 33), none, .i2i .u64 (.t 32)⟩,
           ⟨(some 34), none, .ibin .rem (.t 33) (.c (.int .u64 31))⟩,
           ⟨(some 35), none, .i2i .i64 (.t 34)⟩,
           ⟨(some 10), none, .mov (.t 35)⟩])
         (.seq
          (.reg [
            ⟨(some 36), none, .mov (.t 2)⟩,
            ⟨(some 37), none, .i2i .u64 (.t 36)⟩,
            ⟨(some 38), none, .ibin .rem (.t 37) (.c (.int .u64 65))⟩,
            ⟨(some 39), none, .i2i .i64 (.t 38)⟩,
            ⟨(some 11), none, .mov (.t 39)⟩])
          (.seq
           (.reg [
             ⟨(some 40), none, .mov (.t 7)⟩,
             ⟨(some 41), none, .mov (.t 10)⟩,
             ⟨(some 42), none, .mov (.t 11)⟩,
             ⟨(some 43), none, .call (.c (.fn 16 [] [])) [(.t 40), (.t 41), (.t 42)]⟩])
           (.seq
            (.seq
             (.reg [
               ⟨(some 12), none, .mov (.c (.int .i64 0))⟩])
             (.block 2
              (.loop
               (.seq
                (.seq
                 (.reg [
                   ⟨(some 44), none, .mov (.t 12)⟩,
                   ⟨(some 45), none, .mov (.t 0)⟩,
                   ⟨(some 46), none, .len .sl (.t 45)⟩,
                   ⟨(some 47), none, .ibin .lss (.t 44) (.t 46)⟩])
                 (.cond (.t 47)
                  .skip
                  (.exit 2)))
                (.seq
                 (.block 3
                  (.seq
                   (.reg [
                     ⟨(some 50), none, .mov (.t 0)⟩,
                     ⟨(some 51), none, .mov (.t 12)⟩,
                     ⟨(some 52), none, .iaddrSl 1 (.t 50) (.t 51)⟩,
                     ⟨(some 53), none, .load false 1 (.t 52)⟩,
                     ⟨(some 54), none, .ibin .rem (.t 53) (.c (.int .u8 10))⟩,
                     ⟨(some 55), none, .i2i .i64 (.t 54)⟩,
                     ⟨(some 13), none, .mov (.t 55)⟩])
                   (.seq
                    (.reg [
                      ⟨(some 56), none, .mov (.t 7)⟩,
                      ⟨(some 57), none, .mov (.t 13)⟩,
                      ⟨(some 58), none, .mov (.t 0)⟩,
                      ⟨(some 59), none, .mov (.t 12)⟩,
                      ⟨(some 60), none, .iaddrSl 1 (.t 58) (.t 59)⟩,
                      ⟨(some 61), none, .load false 1 (.t 60)⟩,
                      ⟨(some 62), none, .call (.c (.fn 21 [] [])) [(.t 61)]⟩,
                      ⟨(some 63), none, .call (.c (.fn 20 [] [])) [(.t 56), (.t 57), (.t 62)]⟩,
                      ⟨(some 14), none, .mov (.t 63)⟩])
                    (.seq
                     (.seq
                      (.reg [
                        ⟨(some 64), none, .mov (.t 12)⟩,
                        ⟨(some 65), none, .mov (.t 10)⟩,
                        ⟨(some 66), none, .ibin .lss (.t 64) (.t 65)⟩])
                      (.cond (.t 66)
                       (.seq
                        (.seq
                         (.reg [
                           ⟨(some 67), none, .mov (.t 14)⟩,
                           ⟨(some 68), none, .eq true .iface true (.t 67) (.c .nili)⟩])
                         (.cond (.t 68)
                          (.seq
                           (.reg [
                             ⟨(some 6), none, .mov (.c (.bool false))⟩])
                           .ret)
                          .skip))
                        (.seq
                         (.reg [
                           ⟨(some 69), none, .mov (.t 13)⟩,
                           ⟨(some 70), none, .mov (.t 0)⟩,
                           ⟨(some 71), none, .mov (.t 12)⟩,
                           ⟨(some 72), none, .iaddrSl 1 (.t 70) (.t 71)⟩,
                           ⟨(some 73), none, .load false 1 (.t 72)⟩,
                           ⟨(some 74), none, .call (.c (.fn 21 [] [])) [(.t 73)]⟩,
                           ⟨(some 75), none, .iaddrArr 10 1 (.t 8) (.t 69)⟩,
                           ⟨none, none, .store 1 (.t 75) (.t 74)⟩])
                         (.exit 3)))
                       .skip))
                     (.seq
                      (.seq
                       (.reg [
                         ⟨(some 76), none, .mov (.t 14)⟩,
                         ⟨(some 77), none, .call (.c (.fn 15 [] [])) [(.t 76)]⟩,
                         ⟨(some 78), none, .ibin .neq (.t 77) (.c (.int .i64 14))⟩,
                         ⟨(some 79), none, .mov (.t 78)⟩,
                         ⟨(some 80), (some (79, false)), .mov (.t 7)⟩,
                         ⟨(some 81), (some (79, false)), .call (.c (.fn 23 [] [])) [(.t 80)]⟩,
                         ⟨(some 82), none, .pick (.t 79) (.c (.bool true)) (.t 81)⟩])
                       (.cond (.t 82)
                        (.seq
                         (.reg [
                           ⟨(some 6), none, .mov (.c (.bool false))⟩])
                         .ret)
                        .skip))
                      (.seq
                       (.reg [
                         ⟨(some 83), none, .mov (.t 12)⟩,
                         ⟨(some 84), none, .mov (.t 10)⟩,
                         ⟨(some 85), none, .ibin .eql (.t 83) (.t 84)⟩])
                       (.cond (.t 85)
                        (.draw [
                          ⟨(some 86), none, .mov (.t 13)⟩,
                          ⟨(some 87), none, .mov (.t 0)⟩,
                          ⟨(some 88), none, .mov (.t 12)⟩,
                          ⟨(some 89), none, .iaddrSl 1 (.t 87) (.t 88)⟩,
                          ⟨(some 90), none, .load false 1 (.t 89)⟩,
                          ⟨(some 91), none, .call (.c (.fn 21 [] [])) [(.t 90)]⟩,
                          ⟨(some 92), none, .mov (.t 11)⟩,
                          ⟨(some 93), none, .sliceStr (.t 91) none (some (.t 92))⟩,
                          ⟨(some 94), none, .mov (.t 13)⟩,
                          ⟨(some 95), none, .iaddrArr 10 1 (.t 8) (.t 94)⟩,
                          ⟨(some 96), none, .load false 1 (.t 95)⟩,
                          ⟨(some 97), none, .mov (.t 11)⟩,
                          ⟨(some 98), none, .sliceStr (.t 96) (some (.t 97)) none⟩,
                          ⟨(some 99), none, .ibin .add (.t 93) (.t 98)⟩,
                          ⟨(some 100), none, .iaddrArr 10 1 (.t 8) (.t 86)⟩,
                          ⟨none, none, .store 1 (.t 100) (.t 99)⟩]
                          [[], [], [], [1, 2], [3, 1, 2], [4, 3, 1, 2], [], [5, 6, 4, 3, 1, 2], [], [8], [9, 8], [], [10, 11, 9, 8], [7, 12, 5, 6, 4, 3, 1, 2, 10, 11, 9, 8], [0, 1, 2, 3, 4, 5, 6, 7, 8, 9, 10, 11, 12, 13], [14, 13, 5, 0, 1, 2, 3, 4, 6, 7, 8, 9, 10, 11, 12]])
                        .skip)))))))
                 (.reg [
                   ⟨(some 48), none, .mov (.t 12)⟩,
                   ⟨(some 49), none, .ibin .add (.t 48) (.c (.int .i64 1))⟩,
                   ⟨(some 12), none, .mov (.t 49)⟩]))))))
            (.seq
             (.reg [
               ⟨(some 101), none, .mov (.t 7)⟩,
               ⟨(some 102), none, .call (.c (.fn 18 [] [])) [(.t 101)]⟩])
             (.seq
              (.seq
               (.reg [
                 ⟨(some 15), none, .mov (.c (.int .i64 0))⟩])
               (.block 4
                (.loop
                 (.seq
                  (.seq
                   (.reg [
                     ⟨(some 103), none, .mov (.t 15)⟩,
                     ⟨(some 104), none, .ibin .lss (.t 103) (.c (.int .i64 10))⟩])
                   (.cond (.t 104)
                    .skip
                    (.exit 4)))
                  (.seq
                   (.block 5
                    (.seq
                     (.reg [
                       ⟨(some 108), none, .mov (.t 7)⟩,
                       ⟨(some 109), none, .mov (.t 15)⟩,
                       ⟨(some 110), none, .call (.c (.fn 14 [] [])) [(.t 108), (.t 109)]⟩,
                       ⟨(some 107), none, .mov (.t 110)⟩,
                       ⟨(some 111), none, .extract (.t 107) 0⟩,
                       ⟨(some 112), none, .extract (.t 107) 1⟩,
                       ⟨(some 16), none, .mov (.t 111)⟩,
                       ⟨(some 17), none, .mov (.t 112)⟩])
                     (.seq
                      (.reg [
                        ⟨(some 113), none, .mov (.t 17)⟩,
                        ⟨(some 114), none, .eq true .iface true (.t 113) (.c .nili)⟩,
                        ⟨(some 115), none, .mov (.t 114)⟩,
                        ⟨(some 116), (some (115, false)), .mov (.t 16)⟩,
                        ⟨(some 117), (some (115, false)), .mov (.t 15)⟩,
                        ⟨(some 118), (some (115, false)), .iaddrArr 10 1 (.t 8) (.t 117)⟩,
                        ⟨(some 119), (some (115, false)), .load false 1 (.t 118)⟩,
                        ⟨(some 120), (some (115, false)), .ibin .neq (.t 116) (.t 119)⟩,
                        ⟨(some 121), none, .pick (.t 115) (.c (.bool true)) (.t 120)⟩])
                      (.cond (.t 121)
                       (.seq
                        (.reg [
                          ⟨(some 6), none, .mov (.c (.bool false))⟩])
                        .ret)
                       .skip))))
                   (.reg [
                     ⟨(some 105), none, .mov (.t 15)⟩,
                     ⟨(some 106), none, .ibin .add (.t 105) (.c (.int .i64 1))⟩,
                     ⟨(some 15), none, .mov (.t 106)⟩]))))))
              (.seq
               (.reg [
                 ⟨(some 122), none, .mov (.t 7)⟩,
                 ⟨(some 123), none, .call (.c (.fn 24 [] [])) [(.t 122)]⟩,
                 ⟨(some 124), none, .mov (.t 10)⟩,
                 ⟨(some 125), none, .mov (.t 0)⟩,
                 ⟨(some 126), none, .len .sl (.t 125)⟩,
                 ⟨(some 127), none, .minmax false [(.t 124), (.t 126)]⟩,
                 ⟨(some 128), none, .ibin .eql (.t 123) (.t 127)⟩,
                 ⟨(some 129), none, .mov (.t 128)⟩,
                 ⟨(some 130), (some (129, true)), .mov (.t 7)⟩,
                 ⟨(some 131), (some (129, true)), .call (.c (.fn 25 [] [])) [(.t 130)]⟩,
                 ⟨(some 132), (some (129, true)), .len .str (.t 131)⟩,
                 ⟨(some 133), (some (129, true)), .ibin .eql (.t 132) (.c (.int .i64 640))⟩,
                 ⟨(some 134), none, .pick (.t 129) (.t 133) (.c (.bool false))⟩,
                 ⟨(some 6), none, .mov (.t 134)⟩])
               .ret)))))))))))))⟩

-- quitrent/quitrentlaw04.BlockSizes
def F5 : AFun := ⟨81, 2, [.tmp 4],
  (.seq
   (.reg [
     ⟨(some 4), none, .mov (.c (.bool false))⟩])
   (.seq
    (.seq
     (.reg [
       ⟨(some 13), none, .call (.c (.fn 11 [] [])) []⟩,
       ⟨(some 14), none, .un .not (.t 13)⟩])
     (.cond (.t 14)
      (.seq
       (.reg [
         ⟨(some 4), none, .mov (.c (.bool false))⟩])
       .ret)
      .skip))
    (.seq
     (.seq
      (.reg [
        ⟨(some 15), none, .mov (.t 1)⟩,
        ⟨(some 16), none, .len .str (.t 15)⟩,
        ⟨(some 17), none, .ibin .gtr (.t 16) (.c (.int .i64 1024))⟩])
      (.cond (.t 17)
       (.seq
        (.reg [
          ⟨(some 4), none, .mov (.c (.bool true))⟩])
        .ret)
       .skip))
     (.seq
      (.reg [
        ⟨(some 18), none, .mov (.t 0)⟩,
        ⟨(some 19), none, .call (.c (.fn 28 [] [])) [(.t 18)]⟩,
        ⟨(some 5), none, .mov (.t 19)⟩])
      (.seq
       (.reg [
         ⟨(some 20), none, .mov (.t 0)⟩,
         ⟨(some 21), none, .minmax true [(.t 20), (.c (.int .i64 0))]⟩,
         ⟨(some 22), none, .minmax false [(.t 21), (.c (.int .i64 4096))]⟩,
         ⟨(some 6), none, .mov (.t 22)⟩])
       (.seq
        (.seq
         (.reg [
           ⟨(some 23), none, .mov (.t 5)⟩,
           ⟨(some 24), none, .eq false .ptr true (.t 23) (.c .nilp)⟩,
           ⟨(some 25), none, .mov (.t 24)⟩,
           ⟨(some 26), (some (25, false)), .mov (.t 5)⟩,
           ⟨(some 27), (some (25, false)), .call (.c (.fn 27 [] [])) [(.t 26)]⟩,
           ⟨(some 28), (some (25, false)), .mov (.t 6)⟩,
           ⟨(some 29), (some (25, false)), .ibin .neq (.t 27) (.t 28)⟩,
           ⟨(some 30), none, .pick (.t 25) (.c (.bool true)) (.t 29)⟩,
           ⟨(some 31), none, .mov (.t 30)⟩,
           ⟨(some 32), (some (31, false)), .mov (.t 5)⟩,
           ⟨(some 33), (some (31, false)), .call (.c (.fn 23 [] [])) [(.t 32)]⟩,
           ⟨(some 34), (some (31, false)), .un .not (.t 33)⟩,
           ⟨(some 35), none, .pick (.t 31) (.c (.bool true)) (.t 34)⟩])
         (.cond (.t 35)
          (.seq
           (.reg [
             ⟨(some 4), none, .mov (.c (.bool false))⟩])
           .ret)
          .skip))
        (.seq
         (.seq
          (.reg [
            ⟨(some 36), none, .mov (.t 6)⟩,
            ⟨(some 37), none, .ibin .gtr (.t 36) (.c (.int .i64 0))⟩])
          (.cond (.t 37)
           (.seq
            (.reg [
              ⟨(some 39), none, .mov (.t 5)⟩,
              ⟨(some 40), none, .mov (.t 6)⟩,
              ⟨(some 41), none, .ibin .sub (.t 40) (.c (.int .i64 1))⟩,
              ⟨(some 42), none, .call (.c (.fn 14 [] [])) [(.t 39), (.t 41)]⟩,
              ⟨(some 38), none, .mov (.t 42)⟩,
              ⟨(some 43), none, .extract (.t 38) 0⟩,
              ⟨(some 44), none, .extract (.t 38) 1⟩,
              ⟨(some 7), none, .mov (.t 43)⟩,
              ⟨(some 8), none, .mov (.t 44)⟩])
            (.seq
             (.reg [
               ⟨(some 45), none, .mov (.t 8)⟩,
               ⟨(some 46), none, .eq true .iface true (.t 45) (.c .nili)⟩,
               ⟨(some 47), none, .mov (.t 46)⟩,
               ⟨(some 48), (some (47, false)), .mov (.t 7)⟩,
               ⟨(some 49), (some (47, false)), .call (.c (.fn 21 [] [])) [(.c (.int .u8 0))]⟩,
               ⟨(some 50), (some (47, false)), .ibin .neq (.t 48) (.t 49)⟩,
               ⟨(some 51), none, .pick (.t 47) (.c (.bool true)) (.t 50)⟩])
             (.cond (.t 51)
              (.seq
               (.reg [
                 ⟨(some 4), none, .mov (.c (.bool false))⟩])
               .ret)
              .skip)))
           .skip))
         (.seq
          (.reg [
            ⟨(some 53), none, .mov (.t 5)⟩,
            ⟨(some 54), none, .mov (.t 6)⟩,
            ⟨(some 55), none, .call (.c (.fn 14 [] [])) [(.t 53), (.t 54)]⟩,
            ⟨(some 52), none, .mov (.t 55)⟩,
            ⟨(some 56), none, .extract (.t 52) 0⟩,
            ⟨(some 57), none, .extract (.t 52) 1⟩,
            ⟨(some 9), none, .mov (.t 56)⟩,
            ⟨(some 10), none, .mov (.t 57)⟩])
          (.seq
           (.reg [
             ⟨(some 58), none, .mov (.t 1)⟩,
             ⟨(some 59), none, .call (.c (.fn 12 [] [])) [(.t 58)]⟩,
             ⟨(some 11), none, .mov (.t 59)⟩])
           (.seq
            (.reg [
              ⟨(some 60), none, .mov (.t 1)⟩,
              ⟨(some 61), none, .len .str (.t 60)⟩,
              ⟨(some 62), none, .ibin .quo (.t 61) (.c (.int .i64 64))⟩,
              ⟨(some 12), none, .mov (.t 62)⟩])
            (.seq
             (.draw [
               ⟨(some 63), none, .mov (.t 10)⟩,
               ⟨(some 64), none, .call (.c (.fn 15 [] [])) [(.t 63)]⟩,
               ⟨(some 65), none, .ibin .eql (.t 64) (.c (.int .i64 1))⟩,
               ⟨(some 66), none, .mov (.t 65)⟩,
               ⟨(some 67), (some (66, true)), .mov (.t 11)⟩,
               ⟨(some 68), (some (66, true)), .call (.c (.fn 27 [] [])) [(.t 67)]⟩,
               ⟨(some 69), (some (66, true)), .mov (.t 12)⟩,
               ⟨(some 70), (some (66, true)), .ibin .eql (.t 68) (.t 69)⟩,
               ⟨(some 71), none, .pick (.t 66) (.t 70) (.c (.bool false))⟩,
               ⟨(some 72), none, .mov (.t 71)⟩,
               ⟨(some 73), (some (72, true)), .mov (.t 11)⟩,
               ⟨(some 74), (some (72, true)), .call (.c (.fn 25 [] [])) [(.t 73)]⟩,
               ⟨(some 75), (some (72, true)), .mov (.t 1)⟩,
               ⟨(some 76), (some (72, true)), .mov (.t 12)⟩,
               ⟨(some 77), (some (72, true)), .ibin .mul (.t 76) (.c (.int .i64 64))⟩,
               ⟨(some 78), (some (72, true)), .sliceStr (.t 75) none (some (.t 77))⟩,
               ⟨(some 79), (some (72, true)), .ibin .eql (.t 74) (.t 78)⟩,
               ⟨(some 80), none, .pick (.t 72) (.t 79) (.c (.bool false))⟩,
               ⟨(some 4), none, .mov (.t 80)⟩]
               [[], [0], [1, 0], [2, 1, 0], [3, 2, 1, 0], [4, 3, 2, 1, 0], [3, 2, 1, 0], [5, 6, 3, 4, 2, 1, 0], [3, 7, 2, 1, 0, 5, 6, 4], [8, 5, 3, 7, 2, 1, 0, 6, 4], [9, 8, 5, 3, 7, 2, 1, 0, 6, 4], [10, 9, 8, 5, 3, 7, 2, 1, 0, 6, 4], [9, 8, 5, 3, 7, 2, 1, 0, 6, 4], [9, 8, 5, 3, 7, 2, 1, 0, 6, 4], [13, 9, 8, 5, 3, 7, 2, 1, 0, 6, 4], [12, 14, 9, 8, 5, 3, 7, 2, 1, 0, 6, 4, 13], [11, 15, 9, 10, 8, 5, 3, 7, 2, 1, 0, 6, 4, 12, 14, 13], [9, 16, 8, 5, 3, 7, 2, 1, 0, 6, 4, 11, 15, 10, 12, 14, 13], [17, 11, 0, 1, 2, 3, 4, 5, 6, 7, 8, 9, 10, 12, 13, 14, 15, 16]])
             .ret)))))))))))⟩

-- quitrent/quitrentlaw04.BlockAgain
def F6 : AFun := ⟨89, 3, [.tmp 6],
  (.seq
   (.reg [
     ⟨(some 6), none, .mov (.c (.bool false))⟩])
   (.seq
    (.seq
     (.reg [
       ⟨(some 13), none, .call (.c (.fn 11 [] [])) []⟩,
       ⟨(some 14), none, .un .not (.t 13)⟩])
     (.cond (.t 14)
      (.seq
       (.reg [
         ⟨(some 6), none, .mov (.c (.bool false))⟩])
       .ret)
      .skip))
    (.seq
     (.seq
      (.reg [
        ⟨(some 15), none, .mov (.t 0)⟩,
        ⟨(some 16), none, .len .str (.t 15)⟩,
        ⟨(some 17), none, .ibin .gtr (.t 16) (.c (.int .i64 1024))⟩])
      (.cond (.t 17)
       (.seq
        (.reg [
          ⟨(some 6), none, .mov (.c (.bool true))⟩])
        .ret)
       .skip))
     (.seq
      (.reg [
        ⟨(some 18), none, .mov (.t 0)⟩,
        ⟨(some 19), none, .call (.c (.fn 12 [] [])) [(.t 18)]⟩,
        ⟨(some 7), none, .mov (.t 19)⟩])
      (.seq
       (.reg [
         ⟨(some 20), none, .mov (.t 7)⟩,
         ⟨(some 21), none, .call (.c (.fn 25 [] [])) [(.t 20)]⟩,
         ⟨(some 22), none, .call (.c (.fn 12 [] [])) [(.t 21)]⟩,
         ⟨(some 8), none, .mov (.t 22)⟩])
       (.seq
        (.seq
         (.reg [
           ⟨(some 23), none, .mov (.t 8)⟩,
           ⟨(some 24), none, .call (.c (.fn 25 [] [])) [(.t 23)]⟩,
           ⟨(some 25), none, .mov (.t 7)⟩,
           ⟨(some 26), none, .call (.c (.fn 25 [] [])) [(.t 25)]⟩,
           ⟨(some 27), none, .ibin .neq (.t 24) (.t 26)⟩,
           ⟨(some 28), none, .mov (.t 27)⟩,
           ⟨(some 29), (some (28, false)), .mov (.t 8)⟩,
           ⟨(some 30), (some (28, false)), .call (.c (.fn 27 [] [])) [(.t 29)]⟩,
           ⟨(some 31), (some (28, false)), .mov (.t 7)⟩,
           ⟨(some 32), (some (28, false)), .call (.c (.fn 27 [] [])) [(.t 31)]⟩,
           ⟨(some 33), (some (28, false)), .ibin .neq (.t 30) (.t 32)⟩,
           ⟨(some 34), none, .pick (.t 28) (.c (.bool true)) (.t 33)⟩])
         (.cond (.t 34)
          (.seq
           (.reg [
             ⟨(some 6), none, .mov (.c (.bool false))⟩])
           .ret)
          .skip))
        (.seq
         (.seq
          (.reg [
            ⟨(some 35), none, .mov (.t 7)⟩,
            ⟨(some 36), none, .call (.c (.fn 27 [] [])) [(.t 35)]⟩,
            ⟨(some 37), none, .ibin .eql (.t 36) (.c (.int .i64 0))⟩])
          (.cond (.t 37)
           (.seq
            (.reg [
              ⟨(some 38), none, .mov (.t 8)⟩,
              ⟨(some 39), none, .mov (.t 2)⟩,
              ⟨(some 40), none, .call (.c (.fn 21 [] [])) [(.t 39)]⟩,
              ⟨(some 41), none, .call (.c (.fn 20 [] [])) [(.t 38), (.c (.int .i64 0)), (.t 40)]⟩,
              ⟨(some 42), none, .call (.c (.fn 15 [] [])) [(.t 41)]⟩,
              ⟨(some 43), none, .ibin .eql (.t 42) (.c (.int .i64 1))⟩,
              ⟨(some 6), none, .mov (.t 43)⟩])
            .ret)
           .skip))
         (.seq
          (.reg [
            ⟨(some 44), none, .mov (.t 1)⟩,
            ⟨(some 45), none, .i2i .u64 (.t 44)⟩,
            ⟨(some 46), none, .mov (.t 7)⟩,
            ⟨(some 47), none, .call (.c (.fn 27 [] [])) [(.t 46)]⟩,
            ⟨(some 48), none, .i2i .u64 (.t 47)⟩,
            ⟨(some 49), none, .ibin .rem (.t 45) (.t 48)⟩,
            ⟨(some 50), none, .i2i .i64 (.t 49)⟩,
            ⟨(some 9), none, .mov (.t 50)⟩])
          (.seq
           (.reg [
             ⟨(some 51), none, .mov (.t 7)⟩,
             ⟨(some 52), none, .call (.c (.fn 25 [] [])) [(.t 51)]⟩,
             ⟨(some 10), none, .mov (.t 52)⟩])
           (.seq
            (.seq
             (.reg [
               ⟨(some 53), none, .mov (.t 8)⟩,
               ⟨(some 54), none, .mov (.t 9)⟩,
               ⟨(some 55), none, .mov (.t 2)⟩,
               ⟨(some 56), none, .call (.c (.fn 21 [] [])) [(.t 55)]⟩,
               ⟨(some 57), none, .call (.c (.fn 20 [] [])) [(.t 53), (.t 54), (.t 56)]⟩,
               ⟨(some 58), none, .eq true .iface true (.t 57) (.c .nili)⟩,
               ⟨(some 59), none, .mov (.t 58)⟩,
               ⟨(some 60), (some (59, false)), .mov (.t 7)⟩,
               ⟨(some 61), (some (59, false)), .call (.c (.fn 25 [] [])) [(.t 60)]⟩,
               ⟨(some 62), (some (59, false)), .mov (.t 10)⟩,
               ⟨(some 63), (some (59, false)), .ibin .neq (.t 61) (.t 62)⟩,
               ⟨(some 64), none, .pick (.t 59) (.c (.bool true)) (.t 63)⟩,
               ⟨(some 65), none, .mov (.t 64)⟩,
               ⟨(some 66), (some (65, false)), .mov (.t 7)⟩,
               ⟨(some 67), (some (65, false)), .call (.c (.fn 24 [] [])) [(.t 66)]⟩,
               ⟨(some 68), (some (65, false)), .ibin .neq (.t 67) (.c (.int .i64 0))⟩,
               ⟨(some 69), none, .pick (.t 65) (.c (.bool true)) (.t 68)⟩,
               ⟨(some 70), none, .mov (.t 69)⟩,
               ⟨(some 71), (some (70, false)), .mov (.t 8)⟩,
               ⟨(some 72), (some (70, false)), .call (.c (.fn 24 [] [])) [(.t 71)]⟩,
               ⟨(some 73), (some (70, false)), .ibin .neq (.t 72) (.c (.int .i64 1))⟩,
               ⟨(some 74), none, .pick (.t 70) (.c (.bool true)) (.t 73)⟩])
             (.cond (.t 74)
              (.seq
               (.reg [
                 ⟨(some 6), none, .mov (.c (.bool false))⟩])
               .ret)
              .skip))
            (.seq
             (.reg [
               ⟨(some 76), none, .mov (.t 8)⟩,
               ⟨(some 77), none, .mov (.t 9)⟩,
               ⟨(some 78), none, .call (.c (.fn 14 [] [])) [(.t 76), (.t 77)]⟩,
               ⟨(some 75), none, .mov (.t 78)⟩,
               ⟨(some 79), none, .extract (.t 75) 0⟩,
               ⟨(some 80), none, .extract (.t 75) 1⟩,
               ⟨(some 11), none, .mov (.t 79)⟩,
               ⟨(some 12), none, .mov (.t 80)⟩])
             (.seq
              (.reg [
                ⟨(some 81), none, .mov (.t 12)⟩,
                ⟨(some 82), none, .eq false .iface true (.t 81) (.c .nili)⟩,
                ⟨(some 83), none, .mov (.t 82)⟩,
                ⟨(some 84), (some (83, true)), .mov (.t 11)⟩,
                ⟨(some 85), (some (83, true)), .mov (.t 2)⟩,
                ⟨(some 86), (some (83, true)), .call (.c (.fn 21 [] [])) [(.t 85)]⟩,
                ⟨(some 87), (some (83, true)), .ibin .eql (.t 84) (.t 86)⟩,
                ⟨(some 88), none, .pick (.t 83) (.t 87) (.c (.bool false))⟩,
                ⟨(some 6), none, .mov (.t 88)⟩])
              .ret))))))))))))⟩

theorem c13 : cFun Tryd.prog [0, 1, 2, 3, 4, 5, 6, 7, 8, 9, 10, 11, 12, 13] Tryd.f13 = some F13 := by kernel_rfl
theorem c22 : cFun Tryd.prog [0, 1, 2, 3, 4, 5, 6, 7, 8, 9, 10, 11, 12, 13] Tryd.f22 = some F22 := by kernel_rfl
theorem c17 : cFun Tryd.prog [0, 1, 2, 3, 4, 5, 6, 7, 8, 9, 10, 11, 12, 13] Tryd.f17 = some F17 := by kernel_rfl
theorem c19 : cFun Tryd.prog [0, 1, 2, 3, 4, 5, 6, 7, 8, 9, 10, 11, 12, 13] Tryd.f19 = some F19 := by kernel_rfl
theorem c26 : cFun Tryd.prog [0, 1, 2, 3, 4, 5, 6, 7, 8, 9, 10, 11, 12, 13] Tryd.f26 = some F26 := by kernel_rfl
theorem c21 : cFun Tryd.prog [0, 1, 2, 3, 4, 5, 6, 7, 8, 9, 10, 11, 12, 13] Tryd.f21 = some F21 := by kernel_rfl
theorem c11 : cFun Tryd.prog [0, 1, 2, 3, 4, 5, 6, 7, 8, 9, 10, 11, 12, 13] Tryd.f11 = some F11 := by kernel_rfl
theorem c3 : cFun Tryd.prog [0, 1, 2, 3, 4, 5, 6, 7, 8, 9, 10, 11, 12, 13] Tryd.f3 = some F3 := by kernel_rfl
theorem c4 : cFun Tryd.prog [0, 1, 2, 3, 4, 5, 6, 7, 8, 9, 10, 11, 12, 13] Tryd.f4 = some F4 := by kernel_rfl
theorem c5 : cFun Tryd.prog [0, 1, 2, 3, 4, 5, 6, 7, 8, 9, 10, 11, 12, 13] Tryd.f5 = some F5 := by kernel_rfl
theorem c6 : cFun Tryd.prog [0, 1, 2, 3, 4, 5, 6, 7, 8, 9, 10, 11, 12, 13] Tryd.f6 = some F6 := by kernel_rfl
end Go.Proofs.YtcmnchmkoghfdaaDoor.C04
