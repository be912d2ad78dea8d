import Derived.Test.YtcmnchmkoghfdaaDoorFVGC04
open Go AH
namespace Go.Proofs.YtcmnchmkoghfdaaDoor.C04
-- quitrent/block.New
def F28 : AFun := ⟨9, 1, [.tmp 2],
  (.seq
   (.reg [
     ⟨(some 2), none, .mov (.c .nilp)⟩])
   (.seq
    (.reg [
      ⟨(some 3), none, .mov (.t 0)⟩,
      ⟨(some 4), none, .minmax true [(.t 3), (.c (.int .i64 0))]⟩,
      ⟨(some 5), none, .minmax false [(.t 4), (.c (.int .i64 4096))]⟩,
      ⟨(some 6), none, .ibin .mul (.t 5) (.c (.int .i64 64))⟩,
      ⟨(some 7), none, .call (.c (.fn 40 [] [])) [(.c (.str ⟨#[0]⟩)), (.t 6)]⟩,
      ⟨(some 8), none, .call (.c (.fn 12 [] [])) [(.t 7)]⟩,
      ⟨(some 2), none, .mov (.t 8)⟩])
    .ret))⟩

-- quitrent/block.Of
def F12 : AFun := ⟨31, 1, [.tmp 2],
  (.seq
   (.reg [
     ⟨(some 2), none, .mov (.c .nilp)⟩])
   (.seq
    (.reg [
      ⟨(some 4), none, .build [.nils, (.bool false), (.int .i64 0), (.int .i64 0), (.int .i64 0)] [(2, 1, (.c (.int .i64 (-1))))]⟩,
      ⟨(some 5), none, .box 5 (.t 4)⟩,
      ⟨(some 3), none, .mov (.t 5)⟩])
    (.seq
     (.block 0
      (.loop
       (.seq
        (.seq
         (.reg [
           ⟨(some 6), none, .mov (.t 0)⟩,
           ⟨(some 7), none, .len .str (.t 6)⟩,
           ⟨(some 8), none, .ibin .geq (.t 7) (.c (.int .i64 64))⟩,
           ⟨(some 9), none, .mov (.t 8)⟩,
           ⟨(some 10), (some (9, true)), .mov (.t 3)⟩,
           ⟨(some 11), (some (9, true)), .nilchk (.t 10)⟩,
           ⟨(some 12), (some (9, true)), .faddr 0 (.t 11)⟩,
           ⟨(some 13), (some (9, true)), .load false 1 (.t 12)⟩,
           ⟨(some 14), (some (9, true)), .len .sl (.t 13)⟩,
           ⟨(some 15), (some (9, true)), .ibin .lss (.t 14) (.c (.int .i64 4096))⟩,
           ⟨(some 16), none, .pick (.t 9) (.t 15) (.c (.bool false))⟩])
         (.cond (.t 16)
          .skip
          (.exit 0)))
        (.block 1
         (.seq
          (.draw [
            ⟨(some 17), none, .mov (.t 3)⟩,
            ⟨(some 18), none, .mov (.t 3)⟩,
            ⟨(some 19), none, .nilchk (.t 18)⟩,
            ⟨(some 20), none, .faddr 0 (.t 19)⟩,
            ⟨(some 21), none, .load false 1 (.t 20)⟩,
            ⟨(some 22), none, .mov (.t 0)⟩,
            ⟨(some 23), none, .sliceStr (.t 22) none (some (.c (.int .i64 64)))⟩,
            ⟨(some 24), none, .bslice 1 1 [(.str ⟨#[]⟩)] [(0, 1, (.t 23))]⟩,
            ⟨(some 25), none, .append 1 16 [(.str ⟨#[]⟩)] (.t 21) (.t 24)⟩,
            ⟨(some 26), none, .nilchk (.t 17)⟩,
            ⟨(some 27), none, .faddr 0 (.t 26)⟩,
            ⟨none, none, .store 1 (.t 27) (.t 25)⟩]
            [[], [], [1], [2, 1], [3, 2, 1], [], [5], [6, 5], [4, 7, 3, 2, 1, 6, 5], [0, 1, 2, 3, 4, 5, 6, 7, 8], [9, 0, 1, 2, 3, 4, 5, 6, 7, 8], [10, 8, 0, 1, 2, 3, 4, 5, 6, 7, 9]])
          (.reg [
            ⟨(some 28), none, .mov (.t 0)⟩,
            ⟨(some 29), none, .sliceStr (.t 28) (some (.c (.int .i64 64))) none⟩,
            ⟨(some 0), none, .mov (.t 29)⟩]))))))
     (.seq
      (.reg [
        ⟨(some 30), none, .mov (.t 3)⟩,
        ⟨(some 2), none, .mov (.t 30)⟩])
      .ret))))⟩

-- (*quitrent/block.Disk).Len
def F27 : AFun := ⟨10, 1, [.tmp 2],
  (.seq
   (.reg [
     ⟨(some 2), none, .mov (.c (.int .i64 0))⟩])
   (.seq
    (.seq
     (.reg [
       ⟨(some 3), none, .mov (.t 0)⟩,
       ⟨(some 4), none, .eq false .ptr true (.t 3) (.c .nilp)⟩])
     (.cond (.t 4)
      (.seq
       (.reg [
         ⟨(some 2), none, .mov (.c (.int .i64 0))⟩])
       .ret)
      .skip))
    (.seq
     (.reg [
       ⟨(some 5), none, .mov (.t 0)⟩,
       ⟨(some 6), none, .nilchk (.t 5)⟩,
       ⟨(some 7), none, .faddr 0 (.t 6)⟩,
       ⟨(some 8), none, .load false 1 (.t 7)⟩,
       ⟨(some 9), none, .len .sl (.t 8)⟩,
       ⟨(some 2), none, .mov (.t 9)⟩])
     .ret)))⟩

-- (*quitrent/block.Disk).check
def F38 : AFun := ⟨28, 2, [.tmp 4],
  (.seq
   (.reg [
     ⟨(some 4), none, .mov (.c .nili)⟩])
   (.seq
    (.block 0
     (.seq
      (.reg [
        ⟨(some 6), none, .mov (.t 0)⟩,
        ⟨(some 7), none, .eq false .ptr true (.t 6) (.c .nilp)⟩,
        ⟨(some 5), none, .mov (.t 7)⟩])
      (.cond (.t 5)
       (.seq
        (.reg [
          ⟨(some 8), none, .loadg 1⟩,
          ⟨(some 4), none, .mov (.t 8)⟩])
        .ret)
       (.seq
        (.reg [
          ⟨(some 10), none, .mov (.t 1)⟩,
          ⟨(some 11), none, .ibin .lss (.t 10) (.c (.int .i64 0))⟩,
          ⟨(some 12), none, .mov (.t 11)⟩,
          ⟨(some 13), (some (12, false)), .mov (.t 1)⟩,
          ⟨(some 14), (some (12, false)), .mov (.t 0)⟩,
          ⟨(some 15), (some (12, false)), .nilchk (.t 14)⟩,
          ⟨(some 16), (some (12, false)), .faddr 0 (.t 15)⟩,
          ⟨(some 17), (some (12, false)), .load false 1 (.t 16)⟩,
          ⟨(some 18), (some (12, false)), .len .sl (.t 17)⟩,
          ⟨(some 19), (some (12, false)), .ibin .geq (.t 13) (.t 18)⟩,
          ⟨(some 20), none, .pick (.t 12) (.c (.bool true)) (.t 19)⟩,
          ⟨(some 9), none, .mov (.t 20)⟩])
        (.cond (.t 9)
         (.seq
          (.reg [
            ⟨(some 21), none, .loadg 0⟩,
            ⟨(some 4), none, .mov (.t 21)⟩])
          .ret)
         (.seq
          (.reg [
            ⟨(some 23), none, .mov (.t 0)⟩,
            ⟨(some 24), none, .nilchk (.t 23)⟩,
            ⟨(some 25), none, .faddr 1 (.t 24)⟩,
            ⟨(some 26), none, .load false 1 (.t 25)⟩,
            ⟨(some 22), none, .mov (.t 26)⟩])
          (.cond (.t 22)
           (.seq
            (.reg [
              ⟨(some 27), none, .loadg 13⟩,
              ⟨(some 4), none, .mov (.t 27)⟩])
            .ret)
           .skip)))))))
    (.seq
     (.reg [
       ⟨(some 4), none, .mov (.c .nili)⟩])
     .ret)))⟩

-- (*quitrent/block.Disk).Read
def F14 : AFun := ⟨20, 2, [.tmp 4, .tmp 5],
  (.seq
   (.reg [
     ⟨(some 4), none, .mov (.c (.str ⟨#[]⟩))⟩,
     ⟨(some 5), none, .mov (.c .nili)⟩])
   (.seq
    (.seq
     (.reg [
       ⟨(some 7), none, .mov (.t 0)⟩,
       ⟨(some 8), none, .mov (.t 1)⟩,
       ⟨(some 9), none, .call (.c (.fn 38 [] [])) [(.t 7), (.t 8)]⟩,
       ⟨(some 6), none, .mov (.t 9)⟩])
     (.seq
      (.reg [
        ⟨(some 10), none, .mov (.t 6)⟩,
        ⟨(some 11), none, .eq true .iface true (.t 10) (.c .nili)⟩])
      (.cond (.t 11)
       (.seq
        (.reg [
          ⟨(some 12), none, .mov (.t 6)⟩,
          ⟨(some 4), none, .mov (.c (.str ⟨#[]⟩))⟩,
          ⟨(some 5), none, .mov (.t 12)⟩])
        .ret)
       .skip)))
    (.seq
     (.reg [
       ⟨(some 13), none, .mov (.t 0)⟩,
       ⟨(some 14), none, .nilchk (.t 13)⟩,
       ⟨(some 15), none, .faddr 0 (.t 14)⟩,
       ⟨(some 16), none, .load false 1 (.t 15)⟩,
       ⟨(some 17), none, .mov (.t 1)⟩,
       ⟨(some 18), none, .iaddrSl 1 (.t 16) (.t 17)⟩,
       ⟨(some 19), none, .load false 1 (.t 18)⟩,
       ⟨(some 4), none, .mov (.t 19)⟩,
       ⟨(some 5), none, .mov (.c .nili)⟩])
     .ret)))⟩

-- (*quitrent/block.Disk).Write
def F20 : AFun := ⟨79, 3, [.tmp 6],
  (.seq
   (.reg [
     ⟨(some 6), none, .mov (.c .nili)⟩])
   (.seq
    (.seq
     (.reg [
       ⟨(some 8), none, .mov (.t 0)⟩,
       ⟨(some 9), none, .eq true .ptr true (.t 8) (.c .nilp)⟩,
       ⟨(some 10), none, .mov (.t 9)⟩,
       ⟨(some 11), (some (10, true)), .mov (.t 2)⟩,
       ⟨(some 12), (some (10, true)), .len .str (.t 11)⟩,
       ⟨(some 13), (some (10, true)), .ibin .neq (.t 12) (.c (.int .i64 64))⟩,
       ⟨(some 14), none, .pick (.t 10) (.t 13) (.c (.bool false))⟩])
     (.cond (.t 14)
      (.seq
       (.reg [
         ⟨(some 15), none, .loadg 0⟩,
         ⟨(some 6), none, .mov (.t 15)⟩])
       .ret)
      .skip))
    (.seq
     (.seq
      (.reg [
        ⟨(some 16), none, .mov (.t 0)⟩,
        ⟨(some 17), none, .mov (.t 1)⟩,
        ⟨(some 18), none, .call (.c (.fn 38 [] [])) [(.t 16), (.t 17)]⟩,
        ⟨(some 7), none, .mov (.t 18)⟩])
      (.seq
       (.reg [
         ⟨(some 19), none, .mov (.t 7)⟩,
         ⟨(some 20), none, .eq true .iface true (.t 19) (.c .nili)⟩])
       (.cond (.t 20)
        (.seq
         (.reg [
           ⟨(some 21), none, .mov (.t 7)⟩,
           ⟨(some 6), none, .mov (.t 21)⟩])
         .ret)
        .skip)))
     (.seq
      (.seq
       (.reg [
         ⟨(some 22), none, .mov (.t 0)⟩,
         ⟨(some 23), none, .nilchk (.t 22)⟩,
         ⟨(some 24), none, .faddr 2 (.t 23)⟩,
         ⟨(some 25), none, .load false 1 (.t 24)⟩,
         ⟨(some 26), none, .ibin .eql (.t 25) (.c (.int .i64 0))⟩])
       (.cond (.t 26)
        (.seq
         (.draw [
           ⟨(some 27), none, .mov (.t 0)⟩,
           ⟨(some 28), none, .nilchk (.t 27)⟩,
           ⟨(some 29), none, .faddr 0 (.t 28)⟩,
           ⟨(some 30), none, .load false 1 (.t 29)⟩,
           ⟨(some 31), none, .mov (.t 1)⟩,
           ⟨(some 32), none, .mov (.t 2)⟩,
           ⟨(some 33), none, .mov (.t 0)⟩,
           ⟨(some 34), none, .nilchk (.t 33)⟩,
           ⟨(some 35), none, .faddr 3 (.t 34)⟩,
           ⟨(some 36), none, .load false 1 (.t 35)⟩,
           ⟨(some 37), none, .sliceStr (.t 32) none (some (.t 36))⟩,
           ⟨(some 38), none, .mov (.t 0)⟩,
           ⟨(some 39), none, .nilchk (.t 38)⟩,
           ⟨(some 40), none, .faddr 0 (.t 39)⟩,
           ⟨(some 41), none, .load false 1 (.t 40)⟩,
           ⟨(some 42), none, .mov (.t 1)⟩,
           ⟨(some 43), none, .iaddrSl 1 (.t 41) (.t 42)⟩,
           ⟨(some 44), none, .load false 1 (.t 43)⟩,
           ⟨(some 45), none, .mov (.t 0)⟩,
           ⟨(some 46), none, .nilchk (.t 45)⟩,
           ⟨(some 47), none, .faddr 3 (.t 46)⟩,
           ⟨(some 48), none, .load false 1 (.t 47)⟩,
           ⟨(some 49), none, .sliceStr (.t 44) (some (.t 48)) none⟩,
           ⟨(some 50), none, .ibin .add (.t 37) (.t 49)⟩,
           ⟨(some 51), none, .iaddrSl 1 (.t 30) (.t 31)⟩,
           ⟨none, none, .store 1 (.t 51) (.t 50)⟩]
           [[], [0], [1, 0], [2, 1, 0], [], [], [], [6], [7, 6], [8, 7, 6], [5, 9, 8, 7, 6], [], [11], [12, 11], [13, 12, 11], [], [14, 15, 13, 12, 11], [16, 14, 15, 13, 12, 11], [], [18], [19, 18], [20, 19, 18], [17, 21, 16, 14, 15, 13, 12, 11, 20, 19, 18], [10, 22, 5, 9, 8, 7, 6, 17, 21, 16, 14, 15, 13, 12, 11, 20, 19, 18], [3, 4, 0, 1, 2, 5, 6, 7, 8, 9, 10, 11, 12, 13, 14, 15, 16, 17, 18, 19, 20, 21, 22, 23], [24, 23, 0, 1, 2, 3, 4, 5, 6, 7, 8, 9, 10, 11, 12, 13, 14, 15, 16, 17, 18, 19, 20, 21, 22]])
         (.seq
          (.reg [
            ⟨(some 52), none, .mov (.t 0)⟩,
            ⟨(some 53), none, .nilchk (.t 52)⟩,
            ⟨(some 54), none, .faddr 1 (.t 53)⟩,
            ⟨none, none, .store 1 (.t 54) (.c (.bool true))⟩])
          (.seq
           (.reg [
             ⟨(some 55), none, .loadg 13⟩,
             ⟨(some 6), none, .mov (.t 55)⟩])
           .ret)))
        .skip))
      (.seq
       (.reg [
         ⟨(some 56), none, .mov (.t 0)⟩,
         ⟨(some 57), none, .nilchk (.t 56)⟩,
         ⟨(some 58), none, .faddr 0 (.t 57)⟩,
         ⟨(some 59), none, .load false 1 (.t 58)⟩,
         ⟨(some 60), none, .mov (.t 1)⟩,
         ⟨(some 61), none, .mov (.t 2)⟩,
         ⟨(some 62), none, .iaddrSl 1 (.t 59) (.t 60)⟩,
         ⟨none, none, .store 1 (.t 62) (.t 61)⟩])
       (.seq
        (.reg [
          ⟨(some 63), none, .mov (.t 0)⟩,
          ⟨(some 64), none, .mov (.t 0)⟩,
          ⟨(some 65), none, .nilchk (.t 64)⟩,
          ⟨(some 66), none, .faddr 2 (.t 65)⟩,
          ⟨(some 67), none, .load false 1 (.t 66)⟩,
          ⟨(some 68), none, .ibin .sub (.t 67) (.c (.int .i64 1))⟩,
          ⟨(some 69), none, .minmax true [(.t 68), (.c (.int .i64 (-1)))]⟩,
          ⟨(some 70), none, .nilchk (.t 63)⟩,
          ⟨(some 71), none, .faddr 2 (.t 70)⟩,
          ⟨none, none, .store 1 (.t 71) (.t 69)⟩])
        (.seq
         (.reg [
           ⟨(some 72), none, .mov (.t 0)⟩,
           ⟨(some 73), none, .nilchk (.t 72)⟩,
           ⟨(some 74), none, .faddr 4 (.t 73)⟩,
           ⟨(some 75), none, .load false 1 (.t 74)⟩,
           ⟨(some 76), none, .ibin .add (.t 75) (.c (.int .i64 1))⟩,
           ⟨(some 77), none, .nilchk (.t 72)⟩,
           ⟨(some 78), none, .faddr 4 (.t 77)⟩,
           ⟨none, none, .store 1 (.t 78) (.t 76)⟩])
         (.seq
          (.reg [
            ⟨(some 6), none, .mov (.c .nili)⟩])
          .ret))))))))⟩

-- (*quitrent/block.Disk).Fuse
def F16 : AFun := ⟨26, 3, [],
  (.seq
   (.reg [
     ⟨(some 6), none, .mov (.t 0)⟩,
     ⟨(some 7), none, .eq true .ptr true (.t 6) (.c .nilp)⟩,
     ⟨(some 8), none, .mov (.t 7)⟩,
     ⟨(some 9), (some (8, true)), .mov (.t 0)⟩,
     ⟨(some 10), (some (8, true)), .nilchk (.t 9)⟩,
     ⟨(some 11), (some (8, true)), .faddr 1 (.t 10)⟩,
     ⟨(some 12), (some (8, true)), .load false 1 (.t 11)⟩,
     ⟨(some 13), (some (8, true)), .un .not (.t 12)⟩,
     ⟨(some 14), none, .pick (.t 8) (.t 13) (.c (.bool false))⟩])
   (.cond (.t 14)
    (.reg [
      ⟨(some 15), none, .mov (.t 0)⟩,
      ⟨(some 16), none, .mov (.t 0)⟩,
      ⟨(some 17), none, .mov (.t 1)⟩,
      ⟨(some 18), none, .minmax true [(.t 17), (.c (.int .i64 (-1)))]⟩,
      ⟨(some 19), none, .mov (.t 2)⟩,
      ⟨(some 20), none, .minmax true [(.t 19), (.c (.int .i64 0))]⟩,
      ⟨(some 21), none, .minmax false [(.t 20), (.c (.int .i64 64))]⟩,
      ⟨(some 22), none, .nilchk (.t 15)⟩,
      ⟨(some 23), none, .faddr 2 (.t 22)⟩,
      ⟨none, none, .store 1 (.t 23) (.t 18)⟩,
      ⟨(some 24), none, .nilchk (.t 16)⟩,
      ⟨(some 25), none, .faddr 3 (.t 24)⟩,
      ⟨none, none, .store 1 (.t 25) (.t 21)⟩])
    .skip))⟩

-- (*quitrent/block.Disk).Come
def F18 : AFun := ⟨16, 1, [],
  (.seq
   (.reg [
     ⟨(some 2), none, .mov (.t 0)⟩,
     ⟨(some 3), none, .eq true .ptr true (.t 2) (.c .nilp)⟩,
     ⟨(some 4), none, .mov (.t 3)⟩,
     ⟨(some 5), (some (4, true)), .mov (.t 0)⟩,
     ⟨(some 6), (some (4, true)), .nilchk (.t 5)⟩,
     ⟨(some 7), (some (4, true)), .faddr 1 (.t 6)⟩,
     ⟨(some 8), (some (4, true)), .load false 1 (.t 7)⟩,
     ⟨(some 9), none, .pick (.t 4) (.t 8) (.c (.bool false))⟩])
   (.cond (.t 9)
    (.reg [
      ⟨(some 10), none, .mov (.t 0)⟩,
      ⟨(some 11), none, .mov (.t 0)⟩,
      ⟨(some 12), none, .nilchk (.t 10)⟩,
      ⟨(some 13), none, .faddr 1 (.t 12)⟩,
      ⟨none, none, .store 1 (.t 13) (.c (.bool false))⟩,
      ⟨(some 14), none, .nilchk (.t 11)⟩,
      ⟨(some 15), none, .faddr 2 (.t 14)⟩,
      ⟨none, none, .store 1 (.t 15) (.c (.int .i64 (-1)))⟩])
    .skip))⟩

-- (*quitrent/block.Disk).IsOn
def F23 : AFun := ⟨12, 1, [.tmp 2],
  (.seq
   (.reg [
     ⟨(some 2), none, .mov (.c (.bool false))⟩])
   (.seq
    (.reg [
      ⟨(some 3), none, .mov (.t 0)⟩,
      ⟨(some 4), none, .eq true .ptr true (.t 3) (.c .nilp)⟩,
      ⟨(some 5), none, .mov (.t 4)⟩,
      ⟨(some 6), (some (5, true)), .mov (.t 0)⟩,
      ⟨(some 7), (some (5, true)), .nilchk (.t 6)⟩,
      ⟨(some 8), (some (5, true)), .faddr 1 (.t 7)⟩,
      ⟨(some 9), (some (5, true)), .load false 1 (.t 8)⟩,
      ⟨(some 10), (some (5, true)), .un .not (.t 9)⟩,
      ⟨(some 11), none, .pick (.t 5) (.t 10) (.c (.bool false))⟩,
      ⟨(some 2), none, .mov (.t 11)⟩])
    .ret))⟩

-- (*quitrent/block.Disk).Writes
def F24 : AFun := ⟨9, 1, [.tmp 2],
  (.seq
   (.reg [
     ⟨(some 2), none, .mov (.c (.int .i64 0))⟩])
   (.seq
    (.seq
     (.reg [
       ⟨(some 3), none, .mov (.t 0)⟩,
       ⟨(some 4), none, .eq false .ptr true (.t 3) (.c .nilp)⟩])
     (.cond (.t 4)
      (.seq
       (.reg [
         ⟨(some 2), none, .mov (.c (.int .i64 0))⟩])
       .ret)
      .skip))
    (.seq
     (.reg [
       ⟨(some 5), none, .mov (.t 0)⟩,
       ⟨(some 6), none, .nilchk (.t 5)⟩,
       ⟨(some 7), none, .faddr 4 (.t 6)⟩,
       ⟨(some 8), none, .load false 1 (.t 7)⟩,
       ⟨(some 2), none, .mov (.t 8)⟩])
     .ret)))⟩

-- (*quitrent/block.Disk).Image
def F25 : AFun := ⟨10, 1, [.tmp 2],
  (.seq
   (.reg [
     ⟨(some 2), none, .mov (.c (.str ⟨#[]⟩))⟩])
   (.seq
    (.seq
     (.reg [
       ⟨(some 3), none, .mov (.t 0)⟩,
       ⟨(some 4), none, .eq false .ptr true (.t 3) (.c .nilp)⟩])
     (.cond (.t 4)
      (.seq
       (.reg [
         ⟨(some 2), none, .mov (.c (.str ⟨#[]⟩))⟩])
       .ret)
      .skip))
    (.seq
     (.reg [
       ⟨(some 5), none, .mov (.t 0)⟩,
       ⟨(some 6), none, .nilchk (.t 5)⟩,
       ⟨(some 7), none, .faddr 0 (.t 6)⟩,
       ⟨(some 8), none, .load false 1 (.t 7)⟩,
       ⟨(some 9), none, .call (.c (.fn 39 [] [])) [(.t 8), (.c (.str ⟨#[]⟩))]⟩,
       ⟨(some 2), none, .mov (.t 9)⟩])
     .ret)))⟩

theorem c28 : cFun Tryd.prog [0, 1, 2, 3, 4, 5, 6, 7, 8, 9, 10, 11, 12, 13] Tryd.f28 = some F28 := by kernel_rfl
theorem c12 : cFun Tryd.prog [0, 1, 2, 3, 4, 5, 6, 7, 8, 9, 10, 11, 12, 13] Tryd.f12 = some F12 := by kernel_rfl
theorem c27 : cFun Tryd.prog [0, 1, 2, 3, 4, 5, 6, 7, 8, 9, 10, 11, 12, 13] Tryd.f27 = some F27 := by kernel_rfl
theorem c38 : cFun Tryd.prog [0, 1, 2, 3, 4, 5, 6, 7, 8, 9, 10, 11, 12, 13] Tryd.f38 = some F38 := by kernel_rfl
theorem c14 : cFun Tryd.prog [0, 1, 2, 3, 4, 5, 6, 7, 8, 9, 10, 11, 12, 13] Tryd.f14 = some F14 := by kernel_rfl
theorem c20 : cFun Tryd.prog [0, 1, 2, 3, 4, 5, 6, 7, 8, 9, 10, 11, 12, 13] Tryd.f20 = some F20 := by kernel_rfl
theorem c16 : cFun Tryd.prog [0, 1, 2, 3, 4, 5, 6, 7, 8, 9, 10, 11, 12, 13] Tryd.f16 = some F16 := by kernel_rfl
theorem c18 : cFun Tryd.prog [0, 1, 2, 3, 4, 5, 6, 7, 8, 9, 10, 11, 12, 13] Tryd.f18 = some F18 := by kernel_rfl
theorem c23 : cFun Tryd.prog [0, 1, 2, 3, 4, 5, 6, 7, 8, 9, 10, 11, 12, 13] Tryd.f23 = some F23 := by kernel_rfl
theorem c24 : cFun Tryd.prog [0, 1, 2, 3, 4, 5, 6, 7, 8, 9, 10, 11, 12, 13] Tryd.f24 = some F24 := by kernel_rfl
theorem c25 : cFun Tryd.prog [0, 1, 2, 3, 4, 5, 6, 7, 8, 9, 10, 11, 12, 13] Tryd.f25 = some F25 := by kernel_rfl
end Go.Proofs.YtcmnchmkoghfdaaDoor.C04
