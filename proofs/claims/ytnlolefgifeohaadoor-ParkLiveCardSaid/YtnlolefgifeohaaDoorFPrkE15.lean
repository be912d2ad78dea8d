import Derived.Test.YtnlolefgifeohaaDoorFVGE15
open Go AH
namespace Go.Proofs.YtnlolefgifeohaaDoor.E15
-- quitrent/park.New
def F22 : AFun := ⟨4, 0, [.tmp 0],
  (.seq
   (.reg [
     ⟨(some 0), none, .mov (.c .nilp)⟩])
   (.seq
    (.reg [
      ⟨(some 1), none, .mkmap⟩,
      ⟨(some 2), none, .build [.nilm] [(0, 1, (.t 1))]⟩,
      ⟨(some 3), none, .box 1 (.t 2)⟩,
      ⟨(some 0), none, .mov (.t 3)⟩])
    .ret))⟩

-- (*quitrent/park.Park).All
def F35 : AFun := ⟨29, 1, [.tmp 2],
  (.seq
   (.reg [
     ⟨(some 2), none, .mov (.c .nils)⟩])
   (.seq
    (.seq
     (.reg [
       ⟨(some 5), none, .mov (.t 0)⟩,
       ⟨(some 6), none, .eq false .ptr true (.t 5) (.c .nilp)⟩])
     (.cond (.t 6)
      (.seq
       (.reg [
         ⟨(some 2), none, .mov (.c .nils)⟩])
       .ret)
      .skip))
    (.seq
     (.seq
      (.reg [
        ⟨(some 7), none, .mov (.t 0)⟩,
        ⟨(some 8), none, .nilchk (.t 7)⟩,
        ⟨(some 9), none, .faddr 0 (.t 8)⟩,
        ⟨(some 10), none, .load false 1 (.t 9)⟩,
        ⟨(some 11), none, .call (.c (.fn 69 [] [])) [(.t 10)]⟩,
        ⟨(some 12), none, .call (.c (.fn 53 [] [])) [(.t 11)]⟩,
        ⟨(some 13), none, .len .sl (.t 12)⟩,
        ⟨(some 14), none, .mov (.c (.int .i64 0))⟩])
      (.block 0
       (.loop
        (.seq
         (.reg [
           ⟨(some 15), none, .ibin .lss (.t 14) (.t 13)⟩])
         (.seq
          (.cond (.t 15)
           .skip
           (.exit 0))
          (.seq
           (.block 1
            (.seq
             (.reg [
               ⟨(some 16), none, .iaddrSl 1 (.t 12) (.t 14)⟩,
               ⟨(some 17), none, .load false 1 (.t 16)⟩,
               ⟨(some 4), none, .mov (.t 17)⟩])
             (.reg [
               ⟨(some 18), none, .mov (.t 2)⟩,
               ⟨(some 19), none, .mov (.t 0)⟩,
               ⟨(some 20), none, .nilchk (.t 19)⟩,
               ⟨(some 21), none, .faddr 0 (.t 20)⟩,
               ⟨(some 22), none, .load false 1 (.t 21)⟩,
               ⟨(some 23), none, .mov (.t 4)⟩,
               ⟨(some 24), none, .lookup (.sc .int) (.agg [(.int .i64 0), (.int .i64 0), (.int .i64 0), (.int .i64 0), (.int .i64 0), (.int .i64 0), (.int .i64 0)]) (.t 22) (.t 23) false⟩,
               ⟨(some 25), none, .bslice 7 1 [(.int .i64 0), (.int .i64 0), (.int .i64 0), (.int .i64 0), (.int .i64 0), (.int .i64 0), (.int .i64 0)] [(0, 7, (.t 24))]⟩,
               ⟨(some 26), none, .append 7 56 [(.int .i64 0), (.int .i64 0), (.int .i64 0), (.int .i64 0), (.int .i64 0), (.int .i64 0), (.int .i64 0)] (.t 18) (.t 25)⟩,
               ⟨(some 2), none, .mov (.t 26)⟩])))
           (.reg [
             ⟨(some 27), none, .ibin .add (.t 14) (.c (.int .i64 1))⟩,
             ⟨(some 14), none, .mov (.t 27)⟩])))))))
     (.seq
      (.reg [
        ⟨(some 28), none, .mov (.t 2)⟩,
        ⟨(some 2), none, .mov (.t 28)⟩])
      .ret))))⟩

-- (*quitrent/park.Park).List
def F34 : AFun := ⟨9, 2, [.tmp 4],
  (.seq
   (.reg [
     ⟨(some 3), none, .box 1 (.t 1)⟩,
     ⟨(some 4), none, .mov (.c .nils)⟩])
   (.seq
    (.reg [
      ⟨(some 5), none, .mov (.t 0)⟩,
      ⟨(some 6), none, .call (.c (.fn 35 [] [])) [(.t 5)]⟩,
      ⟨(some 7), none, .mkfn 68 [] [(.t 3)]⟩,
      ⟨(some 8), none, .call (.c (.fn 67 [] [])) [(.t 6), (.t 7)]⟩,
      ⟨(some 4), none, .mov (.t 8)⟩])
    .ret))⟩

-- (*quitrent/park.Park).List$1
def F68 : AFun := ⟨8, 2, [.tmp 3],
  (.seq
   (.reg [
     ⟨(some 2), none, .box 7 (.t 0)⟩,
     ⟨(some 3), none, .mov (.c (.bool false))⟩])
   (.seq
    (.reg [
      ⟨(some 4), none, .faddr 1 (.t 2)⟩,
      ⟨(some 5), none, .load false 1 (.t 4)⟩,
      ⟨(some 6), none, .load false 1 (.t 1)⟩,
      ⟨(some 7), none, .ibin .neq (.t 5) (.t 6)⟩,
      ⟨(some 3), none, .mov (.t 7)⟩])
    .ret))⟩

-- (*quitrent/park.Park).Live
def F32 : AFun := ⟨9, 2, [.cell 4 true 4],
  (.seq
   (.reg [
     ⟨(some 4), none, .box 4 (.c (.agg [(.int .i64 0), (.int .i64 0), (.int .i64 0), (.int .i64 0)]))⟩])
   (.seq
    (.reg [
      ⟨(some 5), none, .mov (.t 0)⟩,
      ⟨(some 6), none, .mov (.t 1)⟩,
      ⟨(some 7), none, .call (.c (.fn 34 [] [])) [(.t 5), (.t 6)]⟩,
      ⟨(some 8), none, .call (.c (.fn 60 [] [])) [(.t 7), (.c (.fn 66 [] []))]⟩,
      ⟨none, none, .store 4 (.t 4) (.t 8)⟩])
    .ret))⟩

-- (*quitrent/park.Park).Live$1
def F66 : AFun := ⟨6, 1, [.tmp 2],
  (.seq
   (.reg [
     ⟨(some 1), none, .box 7 (.t 0)⟩,
     ⟨(some 2), none, .mov (.c (.bool false))⟩])
   (.seq
    (.reg [
      ⟨(some 3), none, .faddr 6 (.t 1)⟩,
      ⟨(some 4), none, .load false 1 (.t 3)⟩,
      ⟨(some 5), none, .ibin .eql (.t 4) (.c (.int .i64 0))⟩,
      ⟨(some 2), none, .mov (.t 5)⟩])
    .ret))⟩

-- (*quitrent/park.Park).Add
def F28 : AFun := ⟨80, 4, [.tmp 8],
  (.seq
   (.reg [
     ⟨(some 7), none, .box 4 (.t 3)⟩,
     ⟨(some 8), none, .mov (.c .nili)⟩])
   (.seq
    (.seq
     (.reg [
       ⟨(some 14), none, .mov (.t 0)⟩,
       ⟨(some 15), none, .eq false .ptr true (.t 14) (.c .nilp)⟩])
     (.cond (.t 15)
      (.seq
       (.reg [
         ⟨(some 16), none, .loadg 3⟩,
         ⟨(some 8), none, .mov (.t 16)⟩])
       .ret)
      .skip))
    (.seq
     (.reg [
       ⟨(some 18), none, .mov (.t 0)⟩,
       ⟨(some 19), none, .nilchk (.t 18)⟩,
       ⟨(some 20), none, .faddr 0 (.t 19)⟩,
       ⟨(some 21), none, .load false 1 (.t 20)⟩,
       ⟨(some 22), none, .mov (.t 1)⟩,
       ⟨(some 23), none, .lookup (.sc .int) (.agg [(.int .i64 0), (.int .i64 0), (.int .i64 0), (.int .i64 0), (.int .i64 0), (.int .i64 0), (.int .i64 0)]) (.t 21) (.t 22) true⟩,
       ⟨(some 17), none, .mov (.t 23)⟩,
       ⟨(some 24), none, .extract (.t 17) 0⟩,
       ⟨(some 25), none, .extract (.t 17) 1⟩,
       ⟨(some 9), none, .box 7 (.c (.agg [(.int .i64 0), (.int .i64 0), (.int .i64 0), (.int .i64 0), (.int .i64 0), (.int .i64 0), (.int .i64 0)]))⟩,
       ⟨none, none, .store 7 (.t 9) (.t 24)⟩,
       ⟨(some 10), none, .mov (.t 25)⟩])
     (.seq
      (.block 0
       (.seq
        (.reg [
          ⟨(some 27), none, .mov (.t 1)⟩,
          ⟨(some 28), none, .ibin .lss (.t 27) (.c (.int .i64 1))⟩,
          ⟨(some 29), none, .mov (.t 28)⟩,
          ⟨(some 30), (some (29, false)), .mov (.t 1)⟩,
          ⟨(some 31), (some (29, false)), .ibin .gtr (.t 30) (.c (.int .i64 999))⟩,
          ⟨(some 32), none, .pick (.t 29) (.c (.bool true)) (.t 31)⟩,
          ⟨(some 33), none, .mov (.t 32)⟩,
          ⟨(some 34), (some (33, false)), .mov (.t 2)⟩,
          ⟨(some 35), (some (33, false)), .ibin .lss (.t 34) (.c (.int .i64 1))⟩,
          ⟨(some 36), none, .pick (.t 33) (.c (.bool true)) (.t 35)⟩,
          ⟨(some 37), none, .mov (.t 36)⟩,
          ⟨(some 38), (some (37, false)), .mov (.t 2)⟩,
          ⟨(some 39), (some (37, false)), .ibin .gtr (.t 38) (.c (.int .i64 4))⟩,
          ⟨(some 40), none, .pick (.t 37) (.c (.bool true)) (.t 39)⟩,
          ⟨(some 41), none, .mov (.t 40)⟩,
          ⟨(some 42), (some (41, false)), .load true 4 (.t 7)⟩,
          ⟨(some 43), (some (41, false)), .call (.c (.fn 59 [] [])) [(.t 42)]⟩,
          ⟨(some 44), (some (41, false)), .un .not (.t 43)⟩,
          ⟨(some 45), none, .pick (.t 41) (.c (.bool true)) (.t 44)⟩,
          ⟨(some 26), none, .mov (.t 45)⟩])
        (.cond (.t 26)
         (.seq
          (.reg [
            ⟨(some 46), none, .loadg 2⟩,
            ⟨(some 8), none, .mov (.t 46)⟩])
          .ret)
         (.seq
          (.reg [
            ⟨(some 48), none, .mov (.t 10)⟩,
            ⟨(some 47), none, .mov (.t 48)⟩])
          (.cond (.t 47)
           (.seq
            (.reg [
              ⟨(some 49), none, .loadg 6⟩,
              ⟨(some 8), none, .mov (.t 49)⟩])
            .ret)
           (.seq
            (.reg [
              ⟨(some 51), none, .mov (.t 0)⟩,
              ⟨(some 52), none, .nilchk (.t 51)⟩,
              ⟨(some 53), none, .faddr 0 (.t 52)⟩,
              ⟨(some 54), none, .load false 1 (.t 53)⟩,
              ⟨(some 55), none, .len .map (.t 54)⟩,
              ⟨(some 56), none, .ibin .geq (.t 55) (.c (.int .i64 24))⟩,
              ⟨(some 50), none, .mov (.t 56)⟩])
            (.cond (.t 50)
             (.seq
              (.reg [
                ⟨(some 57), none, .loadg 7⟩,
                ⟨(some 8), none, .mov (.t 57)⟩])
              .ret)
             .skip)))))))
      (.seq
       (.reg [
         ⟨(some 58), none, .mov (.t 0)⟩,
         ⟨(some 59), none, .mov (.t 2)⟩,
         ⟨(some 60), none, .call (.c (.fn 34 [] [])) [(.t 58), (.t 59)]⟩,
         ⟨(some 61), none, .call (.c (.fn 60 [] [])) [(.t 60), (.c (.fn 61 [] []))]⟩,
         ⟨(some 11), none, .box 4 (.c (.agg [(.int .i64 0), (.int .i64 0), (.int .i64 0), (.int .i64 0)]))⟩,
         ⟨none, none, .store 4 (.t 11) (.t 61)⟩])
       (.seq
        (.seq
         (.reg [
           ⟨(some 63), none, .load true 4 (.t 11)⟩,
           ⟨(some 64), none, .load true 4 (.t 7)⟩,
           ⟨(some 65), none, .call (.c (.fn 62 [] [])) [(.t 63), (.t 64)]⟩,
           ⟨(some 62), none, .mov (.t 65)⟩,
           ⟨(some 66), none, .extract (.t 62) 0⟩,
           ⟨(some 67), none, .extract (.t 62) 1⟩,
           ⟨(some 12), none, .box 4 (.c (.agg [(.int .i64 0), (.int .i64 0), (.int .i64 0), (.int .i64 0)]))⟩,
           ⟨none, none, .store 4 (.t 12) (.t 66)⟩,
           ⟨(some 13), none, .mov (.t 67)⟩])
         (.seq
          (.reg [
            ⟨(some 68), none, .mov (.t 13)⟩,
            ⟨(some 69), none, .eq true .iface true (.t 68) (.c .nili)⟩])
          (.cond (.t 69)
           (.seq
            (.reg [
              ⟨(some 70), none, .mov (.t 13)⟩,
              ⟨(some 8), none, .mov (.t 70)⟩])
            .ret)
           .skip)))
        (.seq
         (.draw [
           ⟨(some 71), none, .mov (.t 0)⟩,
           ⟨(some 72), none, .nilchk (.t 71)⟩,
           ⟨(some 73), none, .faddr 0 (.t 72)⟩,
           ⟨(some 74), none, .load false 1 (.t 73)⟩,
           ⟨(some 75), none, .mov (.t 1)⟩,
           ⟨(some 76), none, .mov (.t 1)⟩,
           ⟨(some 77), none, .mov (.t 2)⟩,
           ⟨(some 78), none, .load true 4 (.t 7)⟩,
           ⟨(some 79), none, .build [(.int .i64 0), (.int .i64 0), (.int .i64 0), (.int .i64 0), (.int .i64 0), (.int .i64 0), (.int .i64 0)] [(0, 1, (.t 76)), (1, 1, (.t 77)), (2, 4, (.t 78))]⟩,
           ⟨none, none, .mapupd (.sc .int) (.t 74) (.t 75) (.t 79)⟩]
           [[], [0], [1, 0], [2, 1, 0], [], [], [], [], [5, 6, 7], [3, 4, 8, 0, 1, 2, 5, 6, 7]])
         (.seq
          (.reg [
            ⟨(some 8), none, .mov (.c .nili)⟩])
          .ret))))))))⟩

-- (*quitrent/park.Park).Add$1
def F61 : AFun := ⟨3, 1, [.tmp 2],
  (.seq
   (.reg [
     ⟨(some 1), none, .box 7 (.t 0)⟩,
     ⟨(some 2), none, .mov (.c (.bool false))⟩])
   (.seq
    (.reg [
      ⟨(some 2), none, .mov (.c (.bool true))⟩])
    .ret))⟩

-- quitrent/park.together
def F60 : AFun := ⟨34, 2, [.cell 4 true 4],
  (.seq
   (.reg [
     ⟨(some 4), none, .box 4 (.c (.agg [(.int .i64 0), (.int .i64 0), (.int .i64 0), (.int .i64 0)]))⟩])
   (.seq
    (.seq
     (.reg [
       ⟨(some 9), none, .mov (.t 0)⟩,
       ⟨(some 10), none, .len .sl (.t 9)⟩,
       ⟨(some 11), none, .mov (.c (.int .i64 0))⟩])
     (.block 0
      (.loop
       (.seq
        (.reg [
          ⟨(some 12), none, .ibin .lss (.t 11) (.t 10)⟩])
        (.seq
         (.cond (.t 12)
          .skip
          (.exit 0))
         (.seq
          (.block 1
           (.seq
            (.reg [
              ⟨(some 13), none, .iaddrSl 7 (.t 9) (.t 11)⟩,
              ⟨(some 14), none, .load true 7 (.t 13)⟩,
              ⟨(some 6), none, .box 7 (.c (.agg [(.int .i64 0), (.int .i64 0), (.int .i64 0), (.int .i64 0), (.int .i64 0), (.int .i64 0), (.int .i64 0)]))⟩,
              ⟨none, none, .store 7 (.t 6) (.t 14)⟩])
            (.seq
             (.seq
              (.reg [
                ⟨(some 15), none, .mov (.t 1)⟩,
                ⟨(some 16), none, .load true 7 (.t 6)⟩,
                ⟨(some 17), none, .call (.t 15) [(.t 16)]⟩,
                ⟨(some 18), none, .un .not (.t 17)⟩])
              (.cond (.t 18)
               (.exit 1)
               .skip))
             (.seq
              (.reg [
                ⟨(some 19), none, .faddr 2 (.t 6)⟩,
                ⟨(some 20), none, .load true 4 (.t 19)⟩,
                ⟨(some 21), none, .mov (.c (.int .i64 0))⟩])
              (.block 2
               (.loop
                (.seq
                 (.reg [
                   ⟨(some 22), none, .ibin .lss (.t 21) (.c (.int .i64 4))⟩])
                 (.seq
                  (.cond (.t 22)
                   .skip
                   (.exit 2))
                  (.seq
                   (.block 3
                    (.seq
                     (.reg [
                       ⟨(some 23), none, .mov (.t 21)⟩,
                       ⟨(some 24), none, .idxArr 4 false 1 (.t 20) (.t 21)⟩,
                       ⟨(some 7), none, .mov (.t 23)⟩,
                       ⟨(some 8), none, .mov (.t 24)⟩])
                     (.reg [
                       ⟨(some 25), none, .mov (.t 7)⟩,
                       ⟨(some 26), none, .iaddrArr 4 1 (.t 4) (.t 25)⟩,
                       ⟨(some 27), none, .load false 1 (.t 26)⟩,
                       ⟨(some 28), none, .mov (.t 8)⟩,
                       ⟨(some 29), none, .ibin .add (.t 27) (.t 28)⟩,
                       ⟨(some 30), none, .iaddrArr 4 1 (.t 4) (.t 25)⟩,
                       ⟨none, none, .store 1 (.t 30) (.t 29)⟩])))
                   (.reg [
                     ⟨(some 31), none, .ibin .add (.t 21) (.c (.int .i64 1))⟩,
                     ⟨(some 21), none, .mov (.t 31)⟩]))))))))))
          (.reg [
            ⟨(some 32), none, .ibin .add (.t 11) (.c (.int .i64 1))⟩,
            ⟨(some 11), none, .mov (.t 32)⟩])))))))
    (.seq
     (.reg [
       ⟨(some 33), none, .load true 4 (.t 4)⟩,
       ⟨none, none, .store 4 (.t 4) (.t 33)⟩])
     .ret)))⟩

-- (*quitrent/park.Park).Of
def F30 : AFun := ⟨22, 2, [.cell 4 true 7, .tmp 5],
  (.seq
   (.reg [
     ⟨(some 4), none, .box 7 (.c (.agg [(.int .i64 0), (.int .i64 0), (.int .i64 0), (.int .i64 0), (.int .i64 0), (.int .i64 0), (.int .i64 0)]))⟩,
     ⟨(some 5), none, .mov (.c (.bool false))⟩])
   (.seq
    (.seq
     (.reg [
       ⟨(some 8), none, .mov (.t 0)⟩,
       ⟨(some 9), none, .eq false .ptr true (.t 8) (.c .nilp)⟩])
     (.cond (.t 9)
      (.seq
       (.reg [
         ⟨(some 10), none, .build [(.int .i64 0), (.int .i64 0), (.int .i64 0), (.int .i64 0), (.int .i64 0), (.int .i64 0), (.int .i64 0)] []⟩,
         ⟨none, none, .store 7 (.t 4) (.t 10)⟩,
         ⟨(some 5), none, .mov (.c (.bool false))⟩])
       .ret)
      .skip))
    (.seq
     (.reg [
       ⟨(some 12), none, .mov (.t 0)⟩,
       ⟨(some 13), none, .nilchk (.t 12)⟩,
       ⟨(some 14), none, .faddr 0 (.t 13)⟩,
       ⟨(some 15), none, .load false 1 (.t 14)⟩,
       ⟨(some 16), none, .mov (.t 1)⟩,
       ⟨(some 17), none, .lookup (.sc .int) (.agg [(.int .i64 0), (.int .i64 0), (.int .i64 0), (.int .i64 0), (.int .i64 0), (.int .i64 0), (.int .i64 0)]) (.t 15) (.t 16) true⟩,
       ⟨(some 11), none, .mov (.t 17)⟩,
       ⟨(some 18), none, .extract (.t 11) 0⟩,
       ⟨(some 19), none, .extract (.t 11) 1⟩,
       ⟨(some 6), none, .box 7 (.c (.agg [(.int .i64 0), (.int .i64 0), (.int .i64 0), (.int .i64 0), (.int .i64 0), (.int .i64 0), (.int .i64 0)]))⟩,
       ⟨none, none, .store 7 (.t 6) (.t 18)⟩,
       ⟨(some 7), none, .mov (.t 19)⟩])
     (.seq
      (.reg [
        ⟨(some 20), none, .load true 7 (.t 6)⟩,
        ⟨(some 21), none, .mov (.t 7)⟩,
        ⟨none, none, .store 7 (.t 4) (.t 20)⟩,
        ⟨(some 5), none, .mov (.t 21)⟩])
      .ret))))⟩

-- (*quitrent/park.Park).Drop
def F24 : AFun := ⟨27, 2, [.tmp 4],
  (.seq
   (.reg [
     ⟨(some 4), none, .mov (.c .nili)⟩])
   (.seq
    (.seq
     (.reg [
       ⟨(some 7), none, .mov (.t 0)⟩,
       ⟨(some 8), none, .eq false .ptr true (.t 7) (.c .nilp)⟩])
     (.cond (.t 8)
      (.seq
       (.reg [
         ⟨(some 9), none, .loadg 3⟩,
         ⟨(some 4), none, .mov (.t 9)⟩])
       .ret)
      .skip))
    (.seq
     (.seq
      (.reg [
        ⟨(some 11), none, .mov (.t 0)⟩,
        ⟨(some 12), none, .nilchk (.t 11)⟩,
        ⟨(some 13), none, .faddr 0 (.t 12)⟩,
        ⟨(some 14), none, .load false 1 (.t 13)⟩,
        ⟨(some 15), none, .mov (.t 1)⟩,
        ⟨(some 16), none, .lookup (.sc .int) (.agg [(.int .i64 0), (.int .i64 0), (.int .i64 0), (.int .i64 0), (.int .i64 0), (.int .i64 0), (.int .i64 0)]) (.t 14) (.t 15) true⟩,
        ⟨(some 10), none, .mov (.t 16)⟩,
        ⟨(some 17), none, .extract (.t 10) 0⟩,
        ⟨(some 18), none, .extract (.t 10) 1⟩,
        ⟨(some 5), none, .box 7 (.c (.agg [(.int .i64 0), (.int .i64 0), (.int .i64 0), (.int .i64 0), (.int .i64 0), (.int .i64 0), (.int .i64 0)]))⟩,
        ⟨none, none, .store 7 (.t 5) (.t 17)⟩,
        ⟨(some 6), none, .mov (.t 18)⟩])
      (.seq
       (.reg [
         ⟨(some 19), none, .mov (.t 6)⟩,
         ⟨(some 20), none, .un .not (.t 19)⟩])
       (.cond (.t 20)
        (.seq
         (.reg [
           ⟨(some 21), none, .loadg 5⟩,
           ⟨(some 4), none, .mov (.t 21)⟩])
         .ret)
        .skip)))
     (.seq
      (.reg [
        ⟨(some 22), none, .mov (.t 0)⟩,
        ⟨(some 23), none, .nilchk (.t 22)⟩,
        ⟨(some 24), none, .faddr 0 (.t 23)⟩,
        ⟨(some 25), none, .load false 1 (.t 24)⟩,
        ⟨(some 26), none, .mov (.t 1)⟩,
        ⟨none, none, .mdel (.sc .int) (.t 25) (.t 26)⟩])
      (.seq
       (.reg [
         ⟨(some 4), none, .mov (.c .nili)⟩])
       .ret)))))⟩

-- (*quitrent/park.Park).Set
def F26 : AFun := ⟨47, 3, [.tmp 6],
  (.seq
   (.reg [
     ⟨(some 6), none, .mov (.c .nili)⟩])
   (.seq
    (.seq
     (.reg [
       ⟨(some 9), none, .mov (.t 0)⟩,
       ⟨(some 10), none, .eq false .ptr true (.t 9) (.c .nilp)⟩])
     (.cond (.t 10)
      (.seq
       (.reg [
         ⟨(some 11), none, .loadg 3⟩,
         ⟨(some 6), none, .mov (.t 11)⟩])
       .ret)
      .skip))
    (.seq
     (.reg [
       ⟨(some 13), none, .mov (.t 0)⟩,
       ⟨(some 14), none, .nilchk (.t 13)⟩,
       ⟨(some 15), none, .faddr 0 (.t 14)⟩,
       ⟨(some 16), none, .load false 1 (.t 15)⟩,
       ⟨(some 17), none, .mov (.t 1)⟩,
       ⟨(some 18), none, .lookup (.sc .int) (.agg [(.int .i64 0), (.int .i64 0), (.int .i64 0), (.int .i64 0), (.int .i64 0), (.int .i64 0), (.int .i64 0)]) (.t 16) (.t 17) true⟩,
       ⟨(some 12), none, .mov (.t 18)⟩,
       ⟨(some 19), none, .extract (.t 12) 0⟩,
       ⟨(some 20), none, .extract (.t 12) 1⟩,
       ⟨(some 7), none, .box 7 (.c (.agg [(.int .i64 0), (.int .i64 0), (.int .i64 0), (.int .i64 0), (.int .i64 0), (.int .i64 0), (.int .i64 0)]))⟩,
       ⟨none, none, .store 7 (.t 7) (.t 19)⟩,
       ⟨(some 8), none, .mov (.t 20)⟩])
     (.seq
      (.block 0
       (.seq
        (.reg [
          ⟨(some 22), none, .mov (.t 8)⟩,
          ⟨(some 23), none, .un .not (.t 22)⟩,
          ⟨(some 21), none, .mov (.t 23)⟩])
        (.cond (.t 21)
         (.seq
          (.reg [
            ⟨(some 24), none, .loadg 5⟩,
            ⟨(some 6), none, .mov (.t 24)⟩])
          .ret)
         (.seq
          (.reg [
            ⟨(some 26), none, .mov (.t 2)⟩,
            ⟨(some 27), none, .ibin .lss (.t 26) (.c (.int .i64 0))⟩,
            ⟨(some 28), none, .mov (.t 27)⟩,
            ⟨(some 29), (some (28, false)), .mov (.t 2)⟩,
            ⟨(some 30), (some (28, false)), .ibin .gtr (.t 29) (.c (.int .i64 2))⟩,
            ⟨(some 31), none, .pick (.t 28) (.c (.bool true)) (.t 30)⟩,
            ⟨(some 25), none, .mov (.t 31)⟩])
          (.cond (.t 25)
           (.seq
            (.reg [
              ⟨(some 32), none, .loadg 2⟩,
              ⟨(some 6), none, .mov (.t 32)⟩])
            .ret)
           (.seq
            (.reg [
              ⟨(some 34), none, .faddr 6 (.t 7)⟩,
              ⟨(some 35), none, .load false 1 (.t 34)⟩,
              ⟨(some 36), none, .mov (.t 2)⟩,
              ⟨(some 37), none, .ibin .eql (.t 35) (.t 36)⟩,
              ⟨(some 33), none, .mov (.t 37)⟩])
            (.cond (.t 33)
             (.seq
              (.reg [
                ⟨(some 38), none, .loadg 1⟩,
                ⟨(some 6), none, .mov (.t 38)⟩])
              .ret)
             .skip)))))))
      (.seq
       (.reg [
         ⟨(some 39), none, .mov (.t 2)⟩,
         ⟨(some 40), none, .faddr 6 (.t 7)⟩,
         ⟨none, none, .store 1 (.t 40) (.t 39)⟩])
       (.seq
        (.draw [
          ⟨(some 41), none, .mov (.t 0)⟩,
          ⟨(some 42), none, .nilchk (.t 41)⟩,
          ⟨(some 43), none, .faddr 0 (.t 42)⟩,
          ⟨(some 44), none, .load false 1 (.t 43)⟩,
          ⟨(some 45), none, .mov (.t 1)⟩,
          ⟨(some 46), none, .load true 7 (.t 7)⟩,
          ⟨none, none, .mapupd (.sc .int) (.t 44) (.t 45) (.t 46)⟩]
          [[], [0], [1, 0], [2, 1, 0], [], [], [3, 4, 5, 0, 1, 2]])
        (.seq
         (.reg [
           ⟨(some 6), none, .mov (.c .nili)⟩])
         .ret)))))))⟩

-- slices.DeleteFunc[[]quitrent/park.Machine,quitrent/park.Machine]
def F67 : AFun := ⟨42, 2, [.tmp 4],
  (.seq
   (.reg [
     ⟨(some 4), none, .mov (.c .nils)⟩])
   (.seq
    (.reg [
      ⟨(some 8), none, .mov (.t 0)⟩,
      ⟨(some 9), none, .mov (.t 1)⟩,
      ⟨(some 10), none, .call (.c (.fn 89 [] [])) [(.t 8), (.t 9)]⟩,
      ⟨(some 5), none, .mov (.t 10)⟩])
    (.seq
     (.seq
      (.reg [
        ⟨(some 11), none, .mov (.t 5)⟩,
        ⟨(some 12), none, .ibin .eql (.t 11) (.c (.int .i64 (-1)))⟩])
      (.cond (.t 12)
       (.seq
        (.reg [
          ⟨(some 13), none, .mov (.t 0)⟩,
          ⟨(some 4), none, .mov (.t 13)⟩])
        .ret)
       .skip))
     (.seq
      (.seq
       (.reg [
         ⟨(some 14), none, .mov (.t 5)⟩,
         ⟨(some 15), none, .ibin .add (.t 14) (.c (.int .i64 1))⟩,
         ⟨(some 6), none, .mov (.t 15)⟩])
       (.block 0
        (.loop
         (.seq
          (.seq
           (.reg [
             ⟨(some 16), none, .mov (.t 6)⟩,
             ⟨(some 17), none, .mov (.t 0)⟩,
             ⟨(some 18), none, .len .sl (.t 17)⟩,
             ⟨(some 19), none, .ibin .lss (.t 16) (.t 18)⟩])
           (.cond (.t 19)
            .skip
            (.exit 0)))
          (.seq
           (.block 1
            (.seq
             (.reg [
               ⟨(some 22), none, .mov (.t 0)⟩,
               ⟨(some 23), none, .mov (.t 6)⟩,
               ⟨(some 24), none, .iaddrSl 7 (.t 22) (.t 23)⟩,
               ⟨(some 25), none, .load true 7 (.t 24)⟩,
               ⟨(some 7), none, .box 7 (.c (.agg [(.int .i64 0), (.int .i64 0), (.int .i64 0), (.int .i64 0), (.int .i64 0), (.int .i64 0), (.int .i64 0)]))⟩,
               ⟨none, none, .store 7 (.t 7) (.t 25)⟩])
             (.seq
              (.reg [
                ⟨(some 26), none, .mov (.t 1)⟩,
                ⟨(some 27), none, .load true 7 (.t 7)⟩,
                ⟨(some 28), none, .call (.t 26) [(.t 27)]⟩,
                ⟨(some 29), none, .un .not (.t 28)⟩])
              (.cond (.t 29)
               (.seq
                (.reg [
                  ⟨(some 30), none, .mov (.t 0)⟩,
                  ⟨(some 31), none, .mov (.t 5)⟩,
                  ⟨(some 32), none, .load true 7 (.t 7)⟩,
                  ⟨(some 33), none, .iaddrSl 7 (.t 30) (.t 31)⟩,
                  ⟨none, none, .store 7 (.t 33) (.t 32)⟩])
                (.reg [
                  ⟨(some 34), none, .mov (.t 5)⟩,
                  ⟨(some 35), none, .ibin .add (.t 34) (.c (.int .i64 1))⟩,
                  ⟨(some 5), none, .mov (.t 35)⟩]))
               .skip))))
           (.reg [
             ⟨(some 20), none, .mov (.t 6)⟩,
             ⟨(some 21), none, .ibin .add (.t 20) (.c (.int .i64 1))⟩,
             ⟨(some 6), none, .mov (.t 21)⟩]))))))
      (.seq
       (.reg [
         ⟨(some 36), none, .mov (.t 0)⟩,
         ⟨(some 37), none, .mov (.t 5)⟩,
         ⟨(some 38), none, .slice 7 (.t 36) (some (.t 37)) none none⟩,
         ⟨none, none, .clr 7 [(.int .i64 0), (.int .i64 0), (.int .i64 0), (.int .i64 0), (.int .i64 0), (.int .i64 0), (.int .i64 0)] (.t 38)⟩])
       (.seq
        (.reg [
          ⟨(some 39), none, .mov (.t 0)⟩,
          ⟨(some 40), none, .mov (.t 5)⟩,
          ⟨(some 41), none, .slice 7 (.t 39) none (some (.t 40)) none⟩,
          ⟨(some 4), none, .mov (.t 41)⟩])
        .ret))))))⟩

-- slices.IndexFunc[[]quitrent/park.Machine,quitrent/park.Machine]
def F89 : AFun := ⟨19, 2, [.tmp 4],
  (.seq
   (.reg [
     ⟨(some 4), none, .mov (.c (.int .i64 0))⟩])
   (.seq
    (.seq
     (.reg [
       ⟨(some 6), none, .mov (.t 0)⟩,
       ⟨(some 7), none, .len .sl (.t 6)⟩,
       ⟨(some 8), none, .mov (.c (.int .i64 0))⟩])
     (.block 0
      (.loop
       (.seq
        (.reg [
          ⟨(some 9), none, .ibin .lss (.t 8) (.t 7)⟩])
        (.seq
         (.cond (.t 9)
          .skip
          (.exit 0))
         (.seq
          (.block 1
           (.seq
            (.reg [
              ⟨(some 10), none, .mov (.t 8)⟩,
              ⟨(some 5), none, .mov (.t 10)⟩])
            (.seq
             (.reg [
               ⟨(some 11), none, .mov (.t 1)⟩,
               ⟨(some 12), none, .mov (.t 0)⟩,
               ⟨(some 13), none, .mov (.t 5)⟩,
               ⟨(some 14), none, .iaddrSl 7 (.t 12) (.t 13)⟩,
               ⟨(some 15), none, .load true 7 (.t 14)⟩,
               ⟨(some 16), none, .call (.t 11) [(.t 15)]⟩])
             (.cond (.t 16)
              (.seq
               (.reg [
                 ⟨(some 17), none, .mov (.t 5)⟩,
                 ⟨(some 4), none, .mov (.t 17)⟩])
               .ret)
              .skip))))
          (.reg [
            ⟨(some 18), none, .ibin .add (.t 8) (.c (.int .i64 1))⟩,
            ⟨(some 8), none, .mov (.t 18)⟩])))))))
    (.seq
     (.reg [
       ⟨(some 4), none, .mov (.c (.int .i64 (-1)))⟩])
     .ret)))⟩

theorem c22 : cFun Tryd.prog [2, 3, 4, 0, 5, 6, 7, 8, 9, 10, 11, 12, 1, 13] Tryd.f22 = some F22 := by kernel_rfl
theorem c35 : cFun Tryd.prog [2, 3, 4, 0, 5, 6, 7, 8, 9, 10, 11, 12, 1, 13] Tryd.f35 = some F35 := by kernel_rfl
theorem c34 : cFun Tryd.prog [2, 3, 4, 0, 5, 6, 7, 8, 9, 10, 11, 12, 1, 13] Tryd.f34 = some F34 := by kernel_rfl
theorem c68 : cFun Tryd.prog [2, 3, 4, 0, 5, 6, 7, 8, 9, 10, 11, 12, 1, 13] Tryd.f68 = some F68 := by kernel_rfl
theorem c32 : cFun Tryd.prog [2, 3, 4, 0, 5, 6, 7, 8, 9, 10, 11, 12, 1, 13] Tryd.f32 = some F32 := by kernel_rfl
theorem c66 : cFun Tryd.prog [2, 3, 4, 0, 5, 6, 7, 8, 9, 10, 11, 12, 1, 13] Tryd.f66 = some F66 := by kernel_rfl
theorem c28 : cFun Tryd.prog [2, 3, 4, 0, 5, 6, 7, 8, 9, 10, 11, 12, 1, 13] Tryd.f28 = some F28 := by kernel_rfl
theorem c61 : cFun Tryd.prog [2, 3, 4, 0, 5, 6, 7, 8, 9, 10, 11, 12, 1, 13] Tryd.f61 = some F61 := by kernel_rfl
theorem c60 : cFun Tryd.prog [2, 3, 4, 0, 5, 6, 7, 8, 9, 10, 11, 12, 1, 13] Tryd.f60 = some F60 := by kernel_rfl
theorem c30 : cFun Tryd.prog [2, 3, 4, 0, 5, 6, 7, 8, 9, 10, 11, 12, 1, 13] Tryd.f30 = some F30 := by kernel_rfl
theorem c24 : cFun Tryd.prog [2, 3, 4, 0, 5, 6, 7, 8, 9, 10, 11, 12, 1, 13] Tryd.f24 = some F24 := by kernel_rfl
theorem c26 : cFun Tryd.prog [2, 3, 4, 0, 5, 6, 7, 8, 9, 10, 11, 12, 1, 13] Tryd.f26 = some F26 := by kernel_rfl
theorem c67 : cFun Tryd.prog [2, 3, 4, 0, 5, 6, 7, 8, 9, 10, 11, 12, 1, 13] Tryd.f67 = some F67 := by kernel_rfl
theorem c89 : cFun Tryd.prog [2, 3, 4, 0, 5, 6, 7, 8, 9, 10, 11, 12, 1, 13] Tryd.f89 = some F89 := by kernel_rfl
end Go.Proofs.YtnlolefgifeohaaDoor.E15
