import Derived.Test.YtdjcpmdjodhfeaaDoorFVecA12
open Go AH
namespace Go.Proofs.YtdjcpmdjodhfeaaDoor.A12
-- quitrent/ceil.Top
def F25 : AFun := ⟨34, 2, [.cell 4 true 4, .tmp 5],
  (.seq
   (.reg [
     ⟨(some 2), none, .box 4 (.t 0)⟩,
     ⟨(some 4), none, .box 4 (.c (.agg [(.int .i64 0), (.int .i64 0), (.int .i64 0), (.int .i64 0)]))⟩,
     ⟨(some 5), none, .mov (.c .nili)⟩])
   (.seq
    (.seq
     (.reg [
       ⟨(some 8), none, .load true 4 (.t 2)⟩,
       ⟨(some 9), none, .call (.c (.fn 12 [] [])) [(.t 8)]⟩,
       ⟨(some 10), none, .un .not (.t 9)⟩,
       ⟨(some 11), none, .mov (.t 10)⟩,
       ⟨(some 12), (some (11, false)), .mov (.t 1)⟩,
       ⟨(some 13), (some (11, false)), .ibin .lss (.t 12) (.c (.int .i64 1))⟩,
       ⟨(some 14), none, .pick (.t 11) (.c (.bool true)) (.t 13)⟩,
       ⟨(some 15), none, .mov (.t 14)⟩,
       ⟨(some 16), (some (15, false)), .mov (.t 1)⟩,
       ⟨(some 17), (some (15, false)), .ibin .gtr (.t 16) (.c (.int .i64 16))⟩,
       ⟨(some 18), none, .pick (.t 15) (.c (.bool true)) (.t 17)⟩])
     (.cond (.t 18)
      (.seq
       (.draw [
         ⟨(some 19), none, .build [(.int .i64 0), (.int .i64 0), (.int .i64 0), (.int .i64 0)] []⟩,
         ⟨(some 20), none, .loadg 1⟩,
         ⟨none, none, .store 4 (.t 4) (.t 19)⟩,
         ⟨(some 5), none, .mov (.t 20)⟩]
         [[], [], [0], [1, 2, 0]])
       .ret)
      .skip))
    (.seq
     (.seq
      (.reg [
        ⟨(some 21), none, .load true 4 (.t 2)⟩,
        ⟨(some 22), none, .mov (.c (.int .i64 0))⟩])
      (.block 0
       (.loop
        (.seq
         (.reg [
           ⟨(some 23), none, .ibin .lss (.t 22) (.c (.int .i64 4))⟩])
         (.seq
          (.cond (.t 23)
           .skip
           (.exit 0))
          (.seq
           (.block 1
            (.seq
             (.reg [
               ⟨(some 24), none, .mov (.t 22)⟩,
               ⟨(some 25), none, .idxArr 4 false 1 (.t 21) (.t 22)⟩,
               ⟨(some 6), none, .mov (.t 24)⟩,
               ⟨(some 7), none, .mov (.t 25)⟩])
             (.reg [
               ⟨(some 26), none, .mov (.t 6)⟩,
               ⟨(some 27), none, .mov (.t 7)⟩,
               ⟨(some 28), none, .mov (.t 1)⟩,
               ⟨(some 29), none, .ibin .mul (.t 27) (.t 28)⟩,
               ⟨(some 30), none, .minmax false [(.t 29), (.c (.int .i64 1099511627776))]⟩,
               ⟨(some 31), none, .iaddrArr 4 1 (.t 2) (.t 26)⟩,
               ⟨none, none, .store 1 (.t 31) (.t 30)⟩])))
           (.reg [
             ⟨(some 32), none, .ibin .add (.t 22) (.c (.int .i64 1))⟩,
             ⟨(some 22), none, .mov (.t 32)⟩])))))))
     (.seq
      (.reg [
        ⟨(some 33), none, .load true 4 (.t 2)⟩,
        ⟨none, none, .store 4 (.t 4) (.t 33)⟩,
        ⟨(some 5), none, .mov (.c .nili)⟩])
      .ret))))⟩

-- quitrent/ceil.above
def F49 : AFun := ⟨22, 2, [.cell 4 true 4],
  (.seq
   (.reg [
     ⟨(some 2), none, .box 4 (.t 0)⟩,
     ⟨(some 3), none, .box 4 (.t 1)⟩,
     ⟨(some 4), none, .box 4 (.c (.agg [(.int .i64 0), (.int .i64 0), (.int .i64 0), (.int .i64 0)]))⟩])
   (.seq
    (.seq
     (.reg [
       ⟨(some 7), none, .load true 4 (.t 3)⟩,
       ⟨(some 8), none, .mov (.c (.int .i64 0))⟩])
     (.block 0
      (.loop
       (.seq
        (.reg [
          ⟨(some 9), none, .ibin .lss (.t 8) (.c (.int .i64 4))⟩])
        (.seq
         (.cond (.t 9)
          .skip
          (.exit 0))
         (.seq
          (.block 1
           (.seq
            (.reg [
              ⟨(some 10), none, .mov (.t 8)⟩,
              ⟨(some 11), none, .idxArr 4 false 1 (.t 7) (.t 8)⟩,
              ⟨(some 5), none, .mov (.t 10)⟩,
              ⟨(some 6), none, .mov (.t 11)⟩])
            (.reg [
              ⟨(some 12), none, .mov (.t 5)⟩,
              ⟨(some 13), none, .mov (.t 5)⟩,
              ⟨(some 14), none, .iaddrArr 4 1 (.t 2) (.t 13)⟩,
              ⟨(some 15), none, .load false 1 (.t 14)⟩,
              ⟨(some 16), none, .mov (.t 6)⟩,
              ⟨(some 17), none, .ibin .sub (.t 15) (.t 16)⟩,
              ⟨(some 18), none, .minmax true [(.t 17), (.c (.int .i64 0))]⟩,
              ⟨(some 19), none, .iaddrArr 4 1 (.t 2) (.t 12)⟩,
              ⟨none, none, .store 1 (.t 19) (.t 18)⟩])))
          (.reg [
            ⟨(some 20), none, .ibin .add (.t 8) (.c (.int .i64 1))⟩,
            ⟨(some 8), none, .mov (.t 20)⟩])))))))
    (.seq
     (.reg [
       ⟨(some 21), none, .load true 4 (.t 2)⟩,
       ⟨none, none, .store 4 (.t 4) (.t 21)⟩])
     .ret)))⟩

-- quitrent/ceil.Excess
def F26 : AFun := ⟨28, 3, [.cell 6 true 4, .tmp 7],
  (.seq
   (.reg [
     ⟨(some 3), none, .box 4 (.t 0)⟩,
     ⟨(some 4), none, .box 4 (.t 1)⟩,
     ⟨(some 6), none, .box 4 (.c (.agg [(.int .i64 0), (.int .i64 0), (.int .i64 0), (.int .i64 0)]))⟩,
     ⟨(some 7), none, .mov (.c .nili)⟩])
   (.seq
    (.reg [
      ⟨(some 11), none, .load true 4 (.t 4)⟩,
      ⟨(some 12), none, .mov (.t 2)⟩,
      ⟨(some 13), none, .call (.c (.fn 25 [] [])) [(.t 11), (.t 12)]⟩,
      ⟨(some 10), none, .mov (.t 13)⟩,
      ⟨(some 14), none, .extract (.t 10) 0⟩,
      ⟨(some 15), none, .extract (.t 10) 1⟩,
      ⟨(some 8), none, .box 4 (.c (.agg [(.int .i64 0), (.int .i64 0), (.int .i64 0), (.int .i64 0)]))⟩,
      ⟨none, none, .store 4 (.t 8) (.t 14)⟩,
      ⟨(some 9), none, .mov (.t 15)⟩])
    (.seq
     (.seq
      (.reg [
        ⟨(some 16), none, .mov (.t 9)⟩,
        ⟨(some 17), none, .eq true .iface true (.t 16) (.c .nili)⟩,
        ⟨(some 18), none, .mov (.t 17)⟩,
        ⟨(some 19), (some (18, false)), .load true 4 (.t 3)⟩,
        ⟨(some 20), (some (18, false)), .call (.c (.fn 12 [] [])) [(.t 19)]⟩,
        ⟨(some 21), (some (18, false)), .un .not (.t 20)⟩,
        ⟨(some 22), none, .pick (.t 18) (.c (.bool true)) (.t 21)⟩])
      (.cond (.t 22)
       (.seq
        (.draw [
          ⟨(some 23), none, .build [(.int .i64 0), (.int .i64 0), (.int .i64 0), (.int .i64 0)] []⟩,
          ⟨(some 24), none, .loadg 1⟩,
          ⟨none, none, .store 4 (.t 6) (.t 23)⟩,
          ⟨(some 7), none, .mov (.t 24)⟩]
          [[], [], [0], [1, 2, 0]])
        .ret)
       .skip))
     (.seq
      (.reg [
        ⟨(some 25), none, .load true 4 (.t 3)⟩,
        ⟨(some 26), none, .load true 4 (.t 8)⟩,
        ⟨(some 27), none, .call (.c (.fn 49 [] [])) [(.t 25), (.t 26)]⟩,
        ⟨none, none, .store 4 (.t 6) (.t 27)⟩,
        ⟨(some 7), none, .mov (.c .nili)⟩])
      .ret))))⟩

-- quitrent/ceil.Room
def F27 : AFun := ⟨28, 3, [.cell 6 true 4, .tmp 7],
  (.seq
   (.reg [
     ⟨(some 3), none, .box 4 (.t 0)⟩,
     ⟨(some 4), none, .box 4 (.t 1)⟩,
     ⟨(some 6), none, .box 4 (.c (.agg [(.int .i64 0), (.int .i64 0), (.int .i64 0), (.int .i64 0)]))⟩,
     ⟨(some 7), none, .mov (.c .nili)⟩])
   (.seq
    (.reg [
      ⟨(some 11), none, .load true 4 (.t 4)⟩,
      ⟨(some 12), none, .mov (.t 2)⟩,
      ⟨(some 13), none, .call (.c (.fn 25 [] [])) [(.t 11), (.t 12)]⟩,
      ⟨(some 10), none, .mov (.t 13)⟩,
      ⟨(some 14), none, .extract (.t 10) 0⟩,
      ⟨(some 15), none, .extract (.t 10) 1⟩,
      ⟨(some 8), none, .box 4 (.c (.agg [(.int .i64 0), (.int .i64 0), (.int .i64 0), (.int .i64 0)]))⟩,
      ⟨none, none, .store 4 (.t 8) (.t 14)⟩,
      ⟨(some 9), none, .mov (.t 15)⟩])
    (.seq
     (.seq
      (.reg [
        ⟨(some 16), none, .mov (.t 9)⟩,
        ⟨(some 17), none, .eq true .iface true (.t 16) (.c .nili)⟩,
        ⟨(some 18), none, .mov (.t 17)⟩,
        ⟨(some 19), (some (18, false)), .load true 4 (.t 3)⟩,
        ⟨(some 20), (some (18, false)), .call (.c (.fn 12 [] [])) [(.t 19)]⟩,
        ⟨(some 21), (some (18, false)), .un .not (.t 20)⟩,
        ⟨(some 22), none, .pick (.t 18) (.c (.bool true)) (.t 21)⟩])
      (.cond (.t 22)
       (.seq
        (.draw [
          ⟨(some 23), none, .build [(.int .i64 0), (.int .i64 0), (.int .i64 0), (.int .i64 0)] []⟩,
          ⟨(some 24), none, .loadg 1⟩,
          ⟨none, none, .store 4 (.t 6) (.t 23)⟩,
          ⟨(some 7), none, .mov (.t 24)⟩]
          [[], [], [0], [1, 2, 0]])
        .ret)
       .skip))
     (.seq
      (.reg [
        ⟨(some 25), none, .load true 4 (.t 8)⟩,
        ⟨(some 26), none, .load true 4 (.t 3)⟩,
        ⟨(some 27), none, .call (.c (.fn 49 [] [])) [(.t 25), (.t 26)]⟩,
        ⟨none, none, .store 4 (.t 6) (.t 27)⟩,
        ⟨(some 7), none, .mov (.c .nili)⟩])
      .ret))))⟩

-- quitrent/ceil.May
def F21 : AFun := ⟨54, 4, [.tmp 8],
  (.seq
   (.reg [
     ⟨(some 4), none, .box 4 (.t 0)⟩,
     ⟨(some 5), none, .box 4 (.t 1)⟩,
     ⟨(some 6), none, .box 4 (.t 2)⟩,
     ⟨(some 8), none, .mov (.c .nili)⟩])
   (.seq
    (.reg [
      ⟨(some 15), none, .load true 4 (.t 6)⟩,
      ⟨(some 16), none, .mov (.t 3)⟩,
      ⟨(some 17), none, .call (.c (.fn 25 [] [])) [(.t 15), (.t 16)]⟩,
      ⟨(some 14), none, .mov (.t 17)⟩,
      ⟨(some 18), none, .extract (.t 14) 0⟩,
      ⟨(some 19), none, .extract (.t 14) 1⟩,
      ⟨(some 9), none, .box 4 (.c (.agg [(.int .i64 0), (.int .i64 0), (.int .i64 0), (.int .i64 0)]))⟩,
      ⟨none, none, .store 4 (.t 9) (.t 18)⟩,
      ⟨(some 10), none, .mov (.t 19)⟩])
    (.seq
     (.seq
      (.reg [
        ⟨(some 20), none, .mov (.t 10)⟩,
        ⟨(some 21), none, .eq true .iface true (.t 20) (.c .nili)⟩])
      (.cond (.t 21)
       (.seq
        (.reg [
          ⟨(some 22), none, .mov (.t 10)⟩,
          ⟨(some 8), none, .mov (.t 22)⟩])
        .ret)
       .skip))
     (.seq
      (.reg [
        ⟨(some 24), none, .load true 4 (.t 4)⟩,
        ⟨(some 25), none, .load true 4 (.t 5)⟩,
        ⟨(some 26), none, .call (.c (.fn 19 [] [])) [(.t 24), (.t 25)]⟩,
        ⟨(some 23), none, .mov (.t 26)⟩,
        ⟨(some 27), none, .extract (.t 23) 0⟩,
        ⟨(some 28), none, .extract (.t 23) 1⟩,
        ⟨(some 11), none, .box 4 (.c (.agg [(.int .i64 0), (.int .i64 0), (.int .i64 0), (.int .i64 0)]))⟩,
        ⟨none, none, .store 4 (.t 11) (.t 27)⟩,
        ⟨(some 10), none, .mov (.t 28)⟩])
      (.seq
       (.seq
        (.reg [
          ⟨(some 29), none, .mov (.t 10)⟩,
          ⟨(some 30), none, .eq true .iface true (.t 29) (.c .nili)⟩])
        (.cond (.t 30)
         (.seq
          (.reg [
            ⟨(some 31), none, .mov (.t 10)⟩,
            ⟨(some 8), none, .mov (.t 31)⟩])
          .ret)
         .skip))
       (.seq
        (.seq
         (.reg [
           ⟨(some 32), none, .load true 4 (.t 5)⟩,
           ⟨(some 33), none, .mov (.c (.int .i64 0))⟩])
         (.block 0
          (.loop
           (.seq
            (.reg [
              ⟨(some 34), none, .ibin .lss (.t 33) (.c (.int .i64 4))⟩])
            (.seq
             (.cond (.t 34)
              .skip
              (.exit 0))
             (.seq
              (.block 1
               (.seq
                (.reg [
                  ⟨(some 35), none, .mov (.t 33)⟩,
                  ⟨(some 36), none, .idxArr 4 false 1 (.t 32) (.t 33)⟩,
                  ⟨(some 12), none, .mov (.t 35)⟩,
                  ⟨(some 13), none, .mov (.t 36)⟩])
                (.seq
                 (.draw [
                   ⟨(some 37), none, .mov (.t 13)⟩,
                   ⟨(some 38), none, .ibin .gtr (.t 37) (.c (.int .i64 0))⟩,
                   ⟨(some 39), none, .mov (.t 38)⟩,
                   ⟨(some 40), (some (39, true)), .mov (.t 12)⟩,
                   ⟨(some 41), (some (39, true)), .iaddrArr 4 1 (.t 11) (.t 40)⟩,
                   ⟨(some 42), (some (39, true)), .load false 1 (.t 41)⟩,
                   ⟨(some 43), (some (39, true)), .mov (.t 12)⟩,
                   ⟨(some 44), (some (39, true)), .iaddrArr 4 1 (.t 9) (.t 43)⟩,
                   ⟨(some 45), (some (39, true)), .load false 1 (.t 44)⟩,
                   ⟨(some 46), (some (39, true)), .ibin .gtr (.t 42) (.t 45)⟩,
                   ⟨(some 47), none, .pick (.t 39) (.t 46) (.c (.bool false))⟩]
                   [[], [0], [1, 0], [2, 1, 0], [3, 2, 1, 0], [4, 2, 3, 1, 0], [2, 1, 0], [6, 2, 1, 0], [7, 2, 6, 1, 0], [5, 8, 2, 4, 3, 1, 0, 7, 6], [2, 9, 1, 0, 5, 8, 4, 3, 7, 6]])
                 (.cond (.t 47)
                  (.seq
                   (.reg [
                     ⟨(some 48), none, .mov (.t 12)⟩,
                     ⟨(some 49), none, .loadg 0⟩,
                     ⟨(some 50), none, .build [(.str ⟨#[]⟩), (.int .i64 0), .nili] [(0, 1, (.c (.str ⟨#[99, 101, 105, 108]⟩))), (1, 1, (.t 48)), (2, 1, (.t 49))]⟩,
                     ⟨(some 51), none, .box 3 (.t 50)⟩,
                     ⟨(some 52), none, .mkifc 55 (.t 51)⟩,
                     ⟨(some 8), none, .mov (.t 52)⟩])
                   .ret)
                  .skip))))
              (.reg [
                ⟨(some 53), none, .ibin .add (.t 33) (.c (.int .i64 1))⟩,
                ⟨(some 33), none, .mov (.t 53)⟩])))))))
        (.seq
         (.reg [
           ⟨(some 8), none, .mov (.c .nili)⟩])
         .ret)))))))⟩

-- quitrent/quitrentref12.Good
def F28 : AFun := ⟨15, 2, [.tmp 4],
  (.seq
   (.reg [
     ⟨(some 2), none, .box 4 (.t 0)⟩,
     ⟨(some 4), none, .mov (.c (.bool false))⟩])
   (.seq
    (.reg [
      ⟨(some 5), none, .load true 4 (.t 2)⟩,
      ⟨(some 6), none, .call (.c (.fn 30 [] [])) [(.t 5)]⟩,
      ⟨(some 7), none, .mov (.t 6)⟩,
      ⟨(some 8), (some (7, true)), .mov (.t 1)⟩,
      ⟨(some 9), (some (7, true)), .ibin .geq (.t 8) (.c (.int .i64 1))⟩,
      ⟨(some 10), none, .pick (.t 7) (.t 9) (.c (.bool false))⟩,
      ⟨(some 11), none, .mov (.t 10)⟩,
      ⟨(some 12), (some (11, true)), .mov (.t 1)⟩,
      ⟨(some 13), (some (11, true)), .ibin .leq (.t 12) (.c (.int .i64 16))⟩,
      ⟨(some 14), none, .pick (.t 11) (.t 13) (.c (.bool false))⟩,
      ⟨(some 4), none, .mov (.t 14)⟩])
    .ret))⟩

-- quitrent/quitrentref12.Top
def F29 : AFun := ⟨21, 2, [.cell 4 true 4],
  (.seq
   (.reg [
     ⟨(some 2), none, .box 4 (.t 0)⟩,
     ⟨(some 4), none, .box 4 (.c (.agg [(.int .i64 0), (.int .i64 0), (.int .i64 0), (.int .i64 0)]))⟩])
   (.seq
    (.reg [
      ⟨(some 7), none, .build [(.int .i64 0), (.int .i64 0), (.int .i64 0), (.int .i64 0)] []⟩,
      ⟨(some 5), none, .box 4 (.c (.agg [(.int .i64 0), (.int .i64 0), (.int .i64 0), (.int .i64 0)]))⟩,
      ⟨none, none, .store 4 (.t 5) (.t 7)⟩])
    (.seq
     (.seq
      (.reg [
        ⟨(some 6), none, .mov (.c (.int .i64 0))⟩])
      (.block 0
       (.loop
        (.seq
         (.seq
          (.reg [
            ⟨(some 8), none, .mov (.t 6)⟩,
            ⟨(some 9), none, .ibin .lss (.t 8) (.c (.int .i64 4))⟩])
          (.cond (.t 9)
           .skip
           (.exit 0)))
         (.seq
          (.block 1
           (.reg [
             ⟨(some 12), none, .mov (.t 6)⟩,
             ⟨(some 13), none, .mov (.t 6)⟩,
             ⟨(some 14), none, .iaddrArr 4 1 (.t 2) (.t 13)⟩,
             ⟨(some 15), none, .load false 1 (.t 14)⟩,
             ⟨(some 16), none, .mov (.t 1)⟩,
             ⟨(some 17), none, .ibin .mul (.t 15) (.t 16)⟩,
             ⟨(some 18), none, .minmax false [(.t 17), (.c (.int .i64 1099511627776))]⟩,
             ⟨(some 19), none, .iaddrArr 4 1 (.t 5) (.t 12)⟩,
             ⟨none, none, .store 1 (.t 19) (.t 18)⟩]))
          (.reg [
            ⟨(some 10), none, .mov (.t 6)⟩,
            ⟨(some 11), none, .ibin .add (.t 10) (.c (.int .i64 1))⟩,
            ⟨(some 6), none, .mov (.t 11)⟩]))))))
     (.seq
      (.reg [
        ⟨(some 20), none, .load true 4 (.t 5)⟩,
        ⟨none, none, .store 4 (.t 4) (.t 20)⟩])
      .ret))))⟩

-- quitrent/quitrentref12.May
def F22 : AFun := ⟨57, 4, [.tmp 8, .tmp 9],
  (.seq
   (.reg [
     ⟨(some 4), none, .box 4 (.t 0)⟩,
     ⟨(some 5), none, .box 4 (.t 1)⟩,
     ⟨(some 6), none, .box 4 (.t 2)⟩,
     ⟨(some 8), none, .mov (.c (.int .i64 0))⟩,
     ⟨(some 9), none, .mov (.c (.int .i64 0))⟩])
   (.seq
    (.seq
     (.reg [
       ⟨(some 14), none, .load true 4 (.t 6)⟩,
       ⟨(some 15), none, .mov (.t 3)⟩,
       ⟨(some 16), none, .call (.c (.fn 28 [] [])) [(.t 14), (.t 15)]⟩,
       ⟨(some 17), none, .un .not (.t 16)⟩,
       ⟨(some 18), none, .mov (.t 17)⟩,
       ⟨(some 19), (some (18, false)), .load true 4 (.t 4)⟩,
       ⟨(some 20), (some (18, false)), .call (.c (.fn 30 [] [])) [(.t 19)]⟩,
       ⟨(some 21), (some (18, false)), .un .not (.t 20)⟩,
       ⟨(some 22), none, .pick (.t 18) (.c (.bool true)) (.t 21)⟩,
       ⟨(some 23), none, .mov (.t 22)⟩,
       ⟨(some 24), (some (23, false)), .load true 4 (.t 5)⟩,
       ⟨(some 25), (some (23, false)), .call (.c (.fn 30 [] [])) [(.t 24)]⟩,
       ⟨(some 26), (some (23, false)), .un .not (.t 25)⟩,
       ⟨(some 27), none, .pick (.t 23) (.c (.bool true)) (.t 26)⟩])
     (.cond (.t 27)
      (.seq
       (.reg [
         ⟨(some 8), none, .mov (.c (.int .i64 1))⟩,
         ⟨(some 9), none, .mov (.c (.int .i64 0))⟩])
       .ret)
      .skip))
    (.seq
     (.reg [
       ⟨(some 29), none, .load true 4 (.t 4)⟩,
       ⟨(some 30), none, .load true 4 (.t 5)⟩,
       ⟨(some 31), none, .call (.c (.fn 43 [] [])) [(.t 29), (.t 30)]⟩,
       ⟨(some 28), none, .mov (.t 31)⟩,
       ⟨(some 32), none, .extract (.t 28) 0⟩,
       ⟨(some 33), none, .extract (.t 28) 1⟩,
       ⟨(some 10), none, .box 4 (.c (.agg [(.int .i64 0), (.int .i64 0), (.int .i64 0), (.int .i64 0)]))⟩,
       ⟨none, none, .store 4 (.t 10) (.t 32)⟩,
       ⟨(some 11), none, .mov (.t 33)⟩])
     (.seq
      (.seq
       (.reg [
         ⟨(some 34), none, .mov (.t 11)⟩,
         ⟨(some 35), none, .ibin .neq (.t 34) (.c (.int .i64 0))⟩])
       (.cond (.t 35)
        (.seq
         (.reg [
           ⟨(some 8), none, .mov (.c (.int .i64 4))⟩,
           ⟨(some 9), none, .mov (.c (.int .i64 0))⟩])
         .ret)
        .skip))
      (.seq
       (.reg [
         ⟨(some 36), none, .load true 4 (.t 6)⟩,
         ⟨(some 37), none, .mov (.t 3)⟩,
         ⟨(some 38), none, .call (.c (.fn 29 [] [])) [(.t 36), (.t 37)]⟩,
         ⟨(some 12), none, .box 4 (.c (.agg [(.int .i64 0), (.int .i64 0), (.int .i64 0), (.int .i64 0)]))⟩,
         ⟨none, none, .store 4 (.t 12) (.t 38)⟩])
       (.seq
        (.seq
         (.reg [
           ⟨(some 13), none, .mov (.c (.int .i64 0))⟩])
         (.block 0
          (.loop
           (.seq
            (.seq
             (.reg [
               ⟨(some 39), none, .mov (.t 13)⟩,
               ⟨(some 40), none, .ibin .lss (.t 39) (.c (.int .i64 4))⟩])
             (.cond (.t 40)
              .skip
              (.exit 0)))
            (.seq
             (.block 1
              (.seq
               (.draw [
                 ⟨(some 43), none, .mov (.t 13)⟩,
                 ⟨(some 44), none, .iaddrArr 4 1 (.t 5) (.t 43)⟩,
                 ⟨(some 45), none, .load false 1 (.t 44)⟩,
                 ⟨(some 46), none, .ibin .gtr (.t 45) (.c (.int .i64 0))⟩,
                 ⟨(some 47), none, .mov (.t 46)⟩,
                 ⟨(some 48), (some (47, true)), .mov (.t 13)⟩,
                 ⟨(some 49), (some (47, true)), .iaddrArr 4 1 (.t 10) (.t 48)⟩,
                 ⟨(some 50), (some (47, true)), .load false 1 (.t 49)⟩,
                 ⟨(some 51), (some (47, true)), .mov (.t 13)⟩,
                 ⟨(some 52), (some (47, true)), .iaddrArr 4 1 (.t 12) (.t 51)⟩,
                 ⟨(some 53), (some (47, true)), .load false 1 (.t 52)⟩,
                 ⟨(some 54), (some (47, true)), .ibin .gtr (.t 50) (.t 53)⟩,
                 ⟨(some 55), none, .pick (.t 47) (.t 54) (.c (.bool false))⟩]
                 [[], [0], [1, 0], [2, 1, 0], [3, 2, 1, 0], [4, 3, 2, 1, 0], [5, 4, 3, 2, 1, 0], [6, 4, 5, 3, 2, 1, 0], [4, 3, 2, 1, 0], [8, 4, 3, 2, 1, 0], [9, 4, 8, 3, 2, 1, 0], [7, 10, 4, 6, 5, 3, 2, 1, 0, 9, 8], [4, 11, 3, 2, 1, 0, 7, 10, 6, 5, 9, 8]])
               (.cond (.t 55)
                (.seq
                 (.reg [
                   ⟨(some 56), none, .mov (.t 13)⟩,
                   ⟨(some 8), none, .mov (.c (.int .i64 9))⟩,
                   ⟨(some 9), none, .mov (.t 56)⟩])
                 .ret)
                .skip)))
             (.reg [
               ⟨(some 41), none, .mov (.t 13)⟩,
               ⟨(some 42), none, .ibin .add (.t 41) (.c (.int .i64 1))⟩,
               ⟨(some 13), none, .mov (.t 42)⟩]))))))
        (.seq
         (.reg [
           ⟨(some 8), none, .mov (.c (.int .i64 0))⟩,
           ⟨(some 9), none, .mov (.c (.int .i64 0))⟩])
         .ret)))))))⟩

-- quitrent/quitrentlaw12.awake
def F20 : AFun := ⟨56, 0, [.tmp 0],
  (.seq
   (.reg [
     ⟨(some 0), none, .mov (.c (.bool false))⟩])
   (.seq
    (.reg [
      ⟨(some 7), none, .build [(.int .i64 0), (.int .i64 0), (.int .i64 0), (.int .i64 0)] [(0, 1, (.c (.int .i64 10))), (1, 1, (.c (.int .i64 10))), (2, 1, (.c (.int .i64 10))), (3, 1, (.c (.int .i64 10)))]⟩,
      ⟨(some 1), none, .box 4 (.c (.agg [(.int .i64 0), (.int .i64 0), (.int .i64 0), (.int .i64 0)]))⟩,
      ⟨none, none, .store 4 (.t 1) (.t 7)⟩])
    (.seq
     (.reg [
       ⟨(some 8), none, .build [(.int .i64 0), (.int .i64 0), (.int .i64 0), (.int .i64 0)] [(0, 1, (.c (.int .i64 28)))]⟩,
       ⟨(some 9), none, .build [(.int .i64 0), (.int .i64 0), (.int .i64 0), (.int .i64 0)] [(0, 1, (.c (.int .i64 2)))]⟩,
       ⟨(some 10), none, .load true 4 (.t 1)⟩,
       ⟨(some 11), none, .call (.c (.fn 21 [] [])) [(.t 8), (.t 9), (.t 10), (.c (.int .i64 3))]⟩,
       ⟨(some 2), none, .mov (.t 11)⟩])
     (.seq
      (.reg [
        ⟨(some 12), none, .build [(.int .i64 0), (.int .i64 0), (.int .i64 0), (.int .i64 0)] [(0, 1, (.c (.int .i64 0))), (1, 1, (.c (.int .i64 28)))]⟩,
        ⟨(some 13), none, .build [(.int .i64 0), (.int .i64 0), (.int .i64 0), (.int .i64 0)] [(0, 1, (.c (.int .i64 0))), (1, 1, (.c (.int .i64 3)))]⟩,
        ⟨(some 14), none, .load true 4 (.t 1)⟩,
        ⟨(some 15), none, .call (.c (.fn 21 [] [])) [(.t 12), (.t 13), (.t 14), (.c (.int .i64 3))]⟩,
        ⟨(some 3), none, .mov (.t 15)⟩])
      (.seq
       (.reg [
         ⟨(some 17), none, .load true 4 (.t 1)⟩,
         ⟨(some 18), none, .call (.c (.fn 25 [] [])) [(.t 17), (.c (.int .i64 3))]⟩,
         ⟨(some 16), none, .mov (.t 18)⟩,
         ⟨(some 19), none, .extract (.t 16) 0⟩,
         ⟨(some 20), none, .extract (.t 16) 1⟩,
         ⟨(some 4), none, .box 4 (.c (.agg [(.int .i64 0), (.int .i64 0), (.int .i64 0), (.int .i64 0)]))⟩,
         ⟨none, none, .store 4 (.t 4) (.t 19)⟩,
         ⟨(some 5), none, .mov (.t 20)⟩])
       (.seq
        (.reg [
          ⟨(some 6), none, .box 1 (.c .nilp)⟩])
        (.seq
         (.reg [
           ⟨(some 21), none, .mov (.t 2)⟩,
           ⟨(some 22), none, .eq false .iface true (.t 21) (.c .nili)⟩,
           ⟨(some 23), none, .mov (.t 22)⟩,
           ⟨(some 24), (some (23, true)), .mov (.t 3)⟩,
           ⟨(some 25), (some (23, true)), .call (.c (.fn 23 [] [])) [(.t 24)]⟩,
           ⟨(some 26), (some (23, true)), .ibin .eql (.t 25) (.c (.int .i64 9))⟩,
           ⟨(some 27), none, .pick (.t 23) (.t 26) (.c (.bool false))⟩,
           ⟨(some 28), none, .mov (.t 27)⟩,
           ⟨(some 29), (some (28, true)), .mov (.t 3)⟩,
           ⟨(some 30), (some (28, true)), .mkifc 57 (.t 6)⟩,
           ⟨(some 31), (some (28, true)), .call (.c (.fn 24 [] [])) [(.t 29), (.t 30)]⟩,
           ⟨(some 32), none, .pick (.t 28) (.t 31) (.c (.bool false))⟩,
           ⟨(some 33), none, .mov (.t 32)⟩,
           ⟨(some 34), (some (33, true)), .load false 1 (.t 6)⟩,
           ⟨(some 35), (some (33, true)), .nilchk (.t 34)⟩,
           ⟨(some 36), (some (33, true)), .faddr 1 (.t 35)⟩,
           ⟨(some 37), (some (33, true)), .load false 1 (.t 36)⟩,
           ⟨(some 38), (some (33, true)), .ibin .eql (.t 37) (.c (.int .i64 1))⟩,
           ⟨(some 39), none, .pick (.t 33) (.t 38) (.c (.bool false))⟩,
           ⟨(some 40), none, .mov (.t 39)⟩,
           ⟨(some 41), (some (40, true)), .load false 1 (.t 6)⟩,
           ⟨(some 42), (some (40, true)), .nilchk (.t 41)⟩,
           ⟨(some 43), (some (40, true)), .faddr 0 (.t 42)⟩,
           ⟨(some 44), (some (40, true)), .load false 1 (.t 43)⟩,
           ⟨(some 45), (some (40, true)), .ibin .eql (.t 44) (.c (.str ⟨#[99, 101, 105, 108]⟩))⟩,
           ⟨(some 46), none, .pick (.t 40) (.t 45) (.c (.bool false))⟩,
           ⟨(some 47), none, .mov (.t 46)⟩,
           ⟨(some 48), (some (47, true)), .mov (.t 5)⟩,
           ⟨(some 49), (some (47, true)), .eq false .iface true (.t 48) (.c .nili)⟩,
           ⟨(some 50), none, .pick (.t 47) (.t 49) (.c (.bool false))⟩,
           ⟨(some 51), none, .mov (.t 50)⟩,
           ⟨(some 52), (some (51, true)), .load true 4 (.t 4)⟩,
           ⟨(some 53), (some (51, true)), .build [(.int .i64 0), (.int .i64 0), (.int .i64 0), (.int .i64 0)] [(0, 1, (.c (.int .i64 30))), (1, 1, (.c (.int .i64 30))), (2, 1, (.c (.int .i64 30))), (3, 1, (.c (.int .i64 30)))]⟩,
           ⟨(some 54), (some (51, true)), .eq false (.flat [.int, .int, .int, .int]) false (.t 52) (.t 53)⟩,
           ⟨(some 55), none, .pick (.t 51) (.t 54) (.c (.bool false))⟩,
           ⟨(some 0), none, .mov (.t 55)⟩])
         .ret)))))))⟩

-- quitrent/quitrentlaw12.CeilExact
def F6 : AFun := ⟨180, 4, [.tmp 8],
  (.seq
   (.reg [
     ⟨(some 4), none, .box 4 (.t 0)⟩,
     ⟨(some 5), none, .box 4 (.t 1)⟩,
     ⟨(some 6), none, .box 4 (.t 2)⟩,
     ⟨(some 8), none, .mov (.c (.bool false))⟩])
   (.seq
    (.seq
     (.reg [
       ⟨(some 21), none, .call (.c (.fn 20 [] [])) []⟩,
       ⟨(some 22), none, .un .not (.t 21)⟩])
     (.cond (.t 22)
      (.seq
       (.reg [
         ⟨(some 8), none, .mov (.c (.bool false))⟩])
       .ret)
      .skip))
    (.seq
     (.reg [
       ⟨(some 23), none, .load true 4 (.t 4)⟩,
       ⟨(some 24), none, .load true 4 (.t 5)⟩,
       ⟨(some 25), none, .load true 4 (.t 6)⟩,
       ⟨(some 26), none, .mov (.t 3)⟩,
       ⟨(some 27), none, .call (.c (.fn 21 [] [])) [(.t 23), (.t 24), (.t 25), (.t 26)]⟩,
       ⟨(some 9), none, .mov (.t 27)⟩])
     (.seq
      (.reg [
        ⟨(some 29), none, .load true 4 (.t 4)⟩,
        ⟨(some 30), none, .load true 4 (.t 5)⟩,
        ⟨(some 31), none, .load true 4 (.t 6)⟩,
        ⟨(some 32), none, .mov (.t 3)⟩,
        ⟨(some 33), none, .call (.c (.fn 22 [] [])) [(.t 29), (.t 30), (.t 31), (.t 32)]⟩,
        ⟨(some 28), none, .mov (.t 33)⟩,
        ⟨(some 34), none, .extract (.t 28) 0⟩,
        ⟨(some 35), none, .extract (.t 28) 1⟩,
        ⟨(some 10), none, .mov (.t 34)⟩,
        ⟨(some 11), none, .mov (.t 35)⟩])
      (.seq
       (.seq
        (.reg [
          ⟨(some 36), none, .mov (.t 9)⟩,
          ⟨(some 37), none, .call (.c (.fn 23 [] [])) [(.t 36)]⟩,
          ⟨(some 38), none, .mov (.t 10)⟩,
          ⟨(some 39), none, .ibin .neq (.t 37) (.t 38)⟩])
        (.cond (.t 39)
         (.seq
          (.reg [
            ⟨(some 8), none, .mov (.c (.bool false))⟩])
          .ret)
         .skip))
       (.seq
        (.seq
         (.reg [
           ⟨(some 40), none, .mov (.t 10)⟩,
           ⟨(some 41), none, .ibin .eql (.t 40) (.c (.int .i64 9))⟩])
         (.cond (.t 41)
          (.seq
           (.reg [
             ⟨(some 12), none, .box 1 (.c .nilp)⟩])
           (.seq
            (.reg [
              ⟨(some 42), none, .mov (.t 9)⟩,
              ⟨(some 43), none, .mkifc 57 (.t 12)⟩,
              ⟨(some 44), none, .call (.c (.fn 24 [] [])) [(.t 42), (.t 43)]⟩,
              ⟨(some 45), none, .un .not (.t 44)⟩,
              ⟨(some 46), none, .mov (.t 45)⟩,
              ⟨(some 47), (some (46, false)), .load false 1 (.t 12)⟩,
              ⟨(some 48), (some (46, false)), .nilchk (.t 47)⟩,
              ⟨(some 49), (some (46, false)), .faddr 0 (.t 48)⟩,
              ⟨(some 50), (some (46, false)), .load false 1 (.t 49)⟩,
              ⟨(some 51), (some (46, false)), .ibin .neq (.t 50) (.c (.str ⟨#[99, 101, 105, 108]⟩))⟩,
              ⟨(some 52), none, .pick (.t 46) (.c (.bool true)) (.t 51)⟩,
              ⟨(some 53), none, .mov (.t 52)⟩,
              ⟨(some 54), (some (53, false)), .load false 1 (.t 12)⟩,
              ⟨(some 55), (some (53, false)), .nilchk (.t 54)⟩,
              ⟨(some 56), (some (53, false)), .faddr 1 (.t 55)⟩,
              ⟨(some 57), (some (53, false)), .load false 1 (.t 56)⟩,
              ⟨(some 58), (some (53, false)), .mov (.t 11)⟩,
              ⟨(some 59), (some (53, false)), .ibin .neq (.t 57) (.t 58)⟩,
              ⟨(some 60), none, .pick (.t 53) (.c (.bool true)) (.t 59)⟩])
            (.cond (.t 60)
             (.seq
              (.reg [
                ⟨(some 8), none, .mov (.c (.bool false))⟩])
              .ret)
             .skip)))
          .skip))
        (.seq
         (.reg [
           ⟨(some 62), none, .load true 4 (.t 6)⟩,
           ⟨(some 63), none, .mov (.t 3)⟩,
           ⟨(some 64), none, .call (.c (.fn 25 [] [])) [(.t 62), (.t 63)]⟩,
           ⟨(some 61), none, .mov (.t 64)⟩,
           ⟨(some 65), none, .extract (.t 61) 0⟩,
           ⟨(some 66), none, .extract (.t 61) 1⟩,
           ⟨(some 13), none, .box 4 (.c (.agg [(.int .i64 0), (.int .i64 0), (.int .i64 0), (.int .i64 0)]))⟩,
           ⟨none, none, .store 4 (.t 13) (.t 65)⟩,
           ⟨(some 14), none, .mov (.t 66)⟩])
         (.seq
          (.reg [
            ⟨(some 68), none, .load true 4 (.t 4)⟩,
            ⟨(some 69), none, .load true 4 (.t 6)⟩,
            ⟨(some 70), none, .mov (.t 3)⟩,
            ⟨(some 71), none, .call (.c (.fn 26 [] [])) [(.t 68), (.t 69), (.t 70)]⟩,
            ⟨(some 67), none, .mov (.t 71)⟩,
            ⟨(some 72), none, .extract (.t 67) 0⟩,
            ⟨(some 73), none, .extract (.t 67) 1⟩,
            ⟨(some 15), none, .box 4 (.c (.agg [(.int .i64 0), (.int .i64 0), (.int .i64 0), (.int .i64 0)]))⟩,
            ⟨none, none, .store 4 (.t 15) (.t 72)⟩,
            ⟨(some 16), none, .mov (.t 73)⟩])
          (.seq
           (.reg [
             ⟨(some 75), none, .load true 4 (.t 4)⟩,
             ⟨(some 76), none, .load true 4 (.t 6)⟩,
             ⟨(some 77), none, .mov (.t 3)⟩,
             ⟨(some 78), none, .call (.c (.fn 27 [] [])) [(.t 75), (.t 76), (.t 77)]⟩,
             ⟨(some 74), none, .mov (.t 78)⟩,
             ⟨(some 79), none, .extract (.t 74) 0⟩,
             ⟨(some 80), none, .extract (.t 74) 1⟩,
             ⟨(some 17), none, .box 4 (.c (.agg [(.int .i64 0), (.int .i64 0), (.int .i64 0), (.int .i64 0)]))⟩,
             ⟨none, none, .store 4 (.t 17) (.t 79)⟩,
             ⟨(some 18), none, .mov (.t 80)⟩])
           (.seq
            (.seq
             (.reg [
               ⟨(some 81), none, .load true 4 (.t 6)⟩,
               ⟨(some 82), none, .mov (.t 3)⟩,
               ⟨(some 83), none, .call (.c (.fn 28 [] [])) [(.t 81), (.t 82)]⟩,
               ⟨(some 84), none, .un .not (.t 83)⟩])
             (.cond (.t 84)
              (.seq
               (.reg [
                 ⟨(some 85), none, .mov (.t 14)⟩,
                 ⟨(some 86), none, .call (.c (.fn 23 [] [])) [(.t 85)]⟩,
                 ⟨(some 87), none, .ibin .eql (.t 86) (.c (.int .i64 1))⟩,
                 ⟨(some 88), none, .mov (.t 87)⟩,
                 ⟨(some 89), (some (88, true)), .mov (.t 16)⟩,
                 ⟨(some 90), (some (88, true)), .call (.c (.fn 23 [] [])) [(.t 89)]⟩,
                 ⟨(some 91), (some (88, true)), .ibin .eql (.t 90) (.c (.int .i64 1))⟩,
                 ⟨(some 92), none, .pick (.t 88) (.t 91) (.c (.bool false))⟩,
                 ⟨(some 93), none, .mov (.t 92)⟩,
                 ⟨(some 94), (some (93, true)), .mov (.t 18)⟩,
                 ⟨(some 95), (some (93, true)), .call (.c (.fn 23 [] [])) [(.t 94)]⟩,
                 ⟨(some 96), (some (93, true)), .ibin .eql (.t 95) (.c (.int .i64 1))⟩,
                 ⟨(some 97), none, .pick (.t 93) (.t 96) (.c (.bool false))⟩,
                 ⟨(some 98), none, .mov (.t 97)⟩,
                 ⟨(some 99), (some (98, true)), .load true 4 (.t 13)⟩,
                 ⟨(some 100), (some (98, true)), .build [(.int .i64 0), (.int .i64 0), (.int .i64 0), (.int .i64 0)] []⟩,
                 ⟨(some 101), (some (98, true)), .eq false (.flat [.int, .int, .int, .int]) false (.t 99) (.t 100)⟩,
                 ⟨(some 102), none, .pick (.t 98) (.t 101) (.c (.bool false))⟩,
                 ⟨(some 103), none, .mov (.t 102)⟩,
                 ⟨(some 104), (some (103, true)), .load true 4 (.t 15)⟩,
                 ⟨(some 105), (some (103, true)), .build [(.int .i64 0), (.int .i64 0), (.int .i64 0), (.int .i64 0)] []⟩,
                 ⟨(some 106), (some (103, true)), .eq false (.flat [.int, .int, .int, .int]) false (.t 104) (.t 105)⟩,
                 ⟨(some 107), none, .pick (.t 103) (.t 106) (.c (.bool false))⟩,
                 ⟨(some 108), none, .mov (.t 107)⟩,
                 ⟨(some 109), (some (108, true)), .load true 4 (.t 17)⟩,
                 ⟨(some 110), (some (108, true)), .build [(.int .i64 0), (.int .i64 0), (.int .i64 0), (.int .i64 0)] []⟩,
                 ⟨(some 111), (some (108, true)), .eq false (.flat [.int, .int, .int, .int]) false (.t 109) (.t 110)⟩,
                 ⟨(some 112), none, .pick (.t 108) (.t 111) (.c (.bool false))⟩,
                 ⟨(some 8), none, .mov (.t 112)⟩])
               .ret)
              .skip))
            (.seq
             (.reg [
               ⟨(some 113), none, .load true 4 (.t 6)⟩,
               ⟨(some 114), none, .mov (.t 3)⟩,
               ⟨(some 115), none, .call (.c (.fn 29 [] [])) [(.t 113), (.t 114)]⟩,
               ⟨(some 19), none, .box 4 (.c (.agg [(.int .i64 0), (.int .i64 0), (.int .i64 0), (.int .i64 0)]))⟩,
               ⟨none, none, .store 4 (.t 19) (.t 115)⟩])
             (.seq
              (.seq
               (.reg [
                 ⟨(some 116), none, .mov (.t 14)⟩,
                 ⟨(some 117), none, .eq true .iface true (.t 116) (.c .nili)⟩,
                 ⟨(some 118), none, .mov (.t 117)⟩,
                 ⟨(some 119), (some (118, false)), .load true 4 (.t 13)⟩,
                 ⟨(some 120), (some (118, false)), .load true 4 (.t 19)⟩,
                 ⟨(some 121), (some (118, false)), .eq true (.flat [.int, .int, .int, .int]) false (.t 119) (.t 120)⟩,
                 ⟨(some 122), none, .pick (.t 118) (.c (.bool true)) (.t 121)⟩])
               (.cond (.t 122)
                (.seq
                 (.reg [
                   ⟨(some 8), none, .mov (.c (.bool false))⟩])
                 .ret)
                .skip))
              (.seq
               (.seq
                (.reg [
                  ⟨(some 123), none, .load true 4 (.t 4)⟩,
                  ⟨(some 124), none, .call (.c (.fn 30 [] [])) [(.t 123)]⟩,
                  ⟨(some 125), none, .un .not (.t 124)⟩])
                (.cond (.t 125)
                 (.seq
                  (.reg [
                    ⟨(some 126), none, .mov (.t 16)⟩,
                    ⟨(some 127), none, .call (.c (.fn 23 [] [])) [(.t 126)]⟩,
                    ⟨(some 128), none, .ibin .eql (.t 127) (.c (.int .i64 1))⟩,
                    ⟨(some 129), none, .mov (.t 128)⟩,
                    ⟨(some 130), (some (129, true)), .mov (.t 18)⟩,
                    ⟨(some 131), (some (129, true)), .call (.c (.fn 23 [] [])) [(.t 130)]⟩,
                    ⟨(some 132), (some (129, true)), .ibin .eql (.t 131) (.c (.int .i64 1))⟩,
                    ⟨(some 133), none, .pick (.t 129) (.t 132) (.c (.bool false))⟩,
                    ⟨(some 134), none, .mov (.t 133)⟩,
                    ⟨(some 135), (some (134, true)), .load true 4 (.t 15)⟩,
                    ⟨(some 136), (some (134, true)), .build [(.int .i64 0), (.int .i64 0), (.int .i64 0), (.int .i64 0)] []⟩,
                    ⟨(some 137), (some (134, true)), .eq false (.flat [.int, .int, .int, .int]) false (.t 135) (.t 136)⟩,
                    ⟨(some 138), none, .pick (.t 134) (.t 137) (.c (.bool false))⟩,
                    ⟨(some 139), none, .mov (.t 138)⟩,
                    ⟨(some 140), (some (139, true)), .load true 4 (.t 17)⟩,
                    ⟨(some 141), (some (139, true)), .build [(.int .i64 0), (.int .i64 0), (.int .i64 0), (.int .i64 0)] []⟩,
                    ⟨(some 142), (some (139, true)), .eq false (.flat [.int, .int, .int, .int]) false (.t 140) (.t 141)⟩,
                    ⟨(some 143), none, .pick (.t 139) (.t 142) (.c (.bool false))⟩,
                    ⟨(some 8), none, .mov (.t 143)⟩])
                  .ret)
                 .skip))
               (.seq
                (.seq
                 (.reg [
                   ⟨(some 20), none, .mov (.c (.int .i64 0))⟩])
                 (.block 0
                  (.loop
                   (.seq
                    (.seq
                     (.reg [
                       ⟨(some 144), none, .mov (.t 20)⟩,
                       ⟨(some 145), none, .ibin .lss (.t 144) (.c (.int .i64 4))⟩])
                     (.cond (.t 145)
                      .skip
                      (.exit 0)))
                    (.seq
                     (.block 1
                      (.seq
                       (.draw [
                         ⟨(some 148), none, .mov (.t 20)⟩,
                         ⟨(some 149), none, .iaddrArr 4 1 (.t 15) (.t 148)⟩,
                         ⟨(some 150), none, .load false 1 (.t 149)⟩,
                         ⟨(some 151), none, .mov (.t 20)⟩,
                         ⟨(some 152), none, .iaddrArr 4 1 (.t 4) (.t 151)⟩,
                         ⟨(some 153), none, .load false 1 (.t 152)⟩,
                         ⟨(some 154), none, .mov (.t 20)⟩,
                         ⟨(some 155), none, .iaddrArr 4 1 (.t 19) (.t 154)⟩,
                         ⟨(some 156), none, .load false 1 (.t 155)⟩,
                         ⟨(some 157), none, .ibin .sub (.t 153) (.t 156)⟩,
                         ⟨(some 158), none, .minmax true [(.t 157), (.c (.int .i64 0))]⟩,
                         ⟨(some 159), none, .ibin .neq (.t 150) (.t 158)⟩,
                         ⟨(some 160), none, .mov (.t 159)⟩,
                         ⟨(some 161), (some (160, false)), .mov (.t 20)⟩,
                         ⟨(some 162), (some (160, false)), .iaddrArr 4 1 (.t 17) (.t 161)⟩,
                         ⟨(some 163), (some (160, false)), .load false 1 (.t 162)⟩,
                         ⟨(some 164), (some (160, false)), .mov (.t 20)⟩,
                         ⟨(some 165), (some (160, false)), .iaddrArr 4 1 (.t 19) (.t 164)⟩,
                         ⟨(some 166), (some (160, false)), .load false 1 (.t 165)⟩,
                         ⟨(some 167), (some (160, false)), .mov (.t 20)⟩,
                         ⟨(some 168), (some (160, false)), .iaddrArr 4 1 (.t 4) (.t 167)⟩,
                         ⟨(some 169), (some (160, false)), .load false 1 (.t 168)⟩,
                         ⟨(some 170), (some (160, false)), .ibin .sub (.t 166) (.t 169)⟩,
                         ⟨(some 171), (some (160, false)), .minmax true [(.t 170), (.c (.int .i64 0))]⟩,
                         ⟨(some 172), (some (160, false)), .ibin .neq (.t 163) (.t 171)⟩,
                         ⟨(some 173), none, .pick (.t 160) (.c (.bool true)) (.t 172)⟩]
                         [[], [0], [1, 0], [], [3], [4, 3], [], [6], [7, 6], [5, 8, 4, 3, 7, 6], [9, 5, 8, 4, 3, 7, 6], [2, 10, 1, 0, 9, 5, 8, 4, 3, 7, 6], [11, 2, 10, 1, 0, 9, 5, 8, 4, 3, 7, 6], [12, 11, 2, 10, 1, 0, 9, 5, 8, 4, 3, 7, 6], [13, 12, 11, 2, 10, 1, 0, 9, 5, 8, 4, 3, 7, 6], [14, 12, 13, 11, 2, 10, 1, 0, 9, 5, 8, 4, 3, 7, 6], [12, 11, 2, 10, 1, 0, 9, 5, 8, 4, 3, 7, 6], [16, 12, 11, 2, 10, 1, 0, 9, 5, 8, 4, 3, 7, 6], [17, 12, 16, 11, 2, 10, 1, 0, 9, 5, 8, 4, 3, 7, 6], [12, 11, 2, 10, 1, 0, 9, 5, 8, 4, 3, 7, 6], [19, 12, 11, 2, 10, 1, 0, 9, 5, 8, 4, 3, 7, 6], [20, 12, 19, 11, 2, 10, 1, 0, 9, 5, 8, 4, 3, 7, 6], [18, 21, 12, 17, 16, 11, 2, 10, 1, 0, 9, 5, 8, 4, 3, 7, 6, 20, 19], [22, 12, 18, 21, 17, 16, 11, 2, 10, 1, 0, 9, 5, 8, 4, 3, 7, 6, 20, 19], [15, 23, 12, 14, 13, 11, 2, 10, 1, 0, 9, 5, 8, 4, 3, 7, 6, 22, 18, 21, 17, 16, 20, 19], [12, 24, 11, 2, 10, 1, 0, 9, 5, 8, 4, 3, 7, 6, 15, 23, 14, 13, 22, 18, 21, 17, 16, 20, 19]])
                       (.cond (.t 173)
                        (.seq
                         (.reg [
                           ⟨(some 8), none, .mov (.c (.bool false))⟩])
                         .ret)
                        .skip)))
                     (.reg [
                       ⟨(some 146), none, .mov (.t 20)⟩,
                       ⟨(some 147), none, .ibin .add (.t 146) (.c (.int .i64 1))⟩,
                       ⟨(some 20), none, .mov (.t 147)⟩]))))))
                (.seq
                 (.reg [
                   ⟨(some 174), none, .mov (.t 16)⟩,
                   ⟨(some 175), none, .eq false .iface true (.t 174) (.c .nili)⟩,
                   ⟨(some 176), none, .mov (.t 175)⟩,
                   ⟨(some 177), (some (176, true)), .mov (.t 18)⟩,
                   ⟨(some 178), (some (176, true)), .eq false .iface true (.t 177) (.c .nili)⟩,
                   ⟨(some 179), none, .pick (.t 176) (.t 178) (.c (.bool false))⟩,
                   ⟨(some 8), none, .mov (.t 179)⟩])
                 .ret)))))))))))))))⟩

-- quitrent/quitrentlaw12.CeilKeeps
def F7 : AFun := ⟨143, 4, [.tmp 8],
  (.seq
   (.reg [
     ⟨(some 4), none, .box 4 (.t 0)⟩,
     ⟨(some 5), none, .box 4 (.t 1)⟩,
     ⟨(some 6), none, .box 4 (.t 2)⟩,
     ⟨(some 8), none, .mov (.c (.bool false))⟩])
   (.seq
    (.seq
     (.reg [
       ⟨(some 20), none, .call (.c (.fn 20 [] [])) []⟩,
       ⟨(some 21), none, .un .not (.t 20)⟩])
     (.cond (.t 21)
      (.seq
       (.reg [
         ⟨(some 8), none, .mov (.c (.bool false))⟩])
       .ret)
      .skip))
    (.seq
     (.seq
      (.reg [
        ⟨(some 22), none, .load true 4 (.t 4)⟩,
        ⟨(some 23), none, .call (.c (.fn 12 [] [])) [(.t 22)]⟩,
        ⟨(some 24), none, .un .not (.t 23)⟩,
        ⟨(some 25), none, .mov (.t 24)⟩,
        ⟨(some 26), (some (25, false)), .load true 4 (.t 5)⟩,
        ⟨(some 27), (some (25, false)), .call (.c (.fn 12 [] [])) [(.t 26)]⟩,
        ⟨(some 28), (some (25, false)), .un .not (.t 27)⟩,
        ⟨(some 29), none, .pick (.t 25) (.c (.bool true)) (.t 28)⟩,
        ⟨(some 30), none, .mov (.t 29)⟩,
        ⟨(some 31), (some (30, false)), .load true 4 (.t 6)⟩,
        ⟨(some 32), (some (30, false)), .call (.c (.fn 12 [] [])) [(.t 31)]⟩,
        ⟨(some 33), (some (30, false)), .un .not (.t 32)⟩,
        ⟨(some 34), none, .pick (.t 30) (.c (.bool true)) (.t 33)⟩,
        ⟨(some 35), none, .mov (.t 34)⟩,
        ⟨(some 36), (some (35, false)), .mov (.t 3)⟩,
        ⟨(some 37), (some (35, false)), .ibin .lss (.t 36) (.c (.int .i64 1))⟩,
        ⟨(some 38), none, .pick (.t 35) (.c (.bool true)) (.t 37)⟩,
        ⟨(some 39), none, .mov (.t 38)⟩,
        ⟨(some 40), (some (39, false)), .mov (.t 3)⟩,
        ⟨(some 41), (some (39, false)), .ibin .gtr (.t 40) (.c (.int .i64 15))⟩,
        ⟨(some 42), none, .pick (.t 39) (.c (.bool true)) (.t 41)⟩])
      (.cond (.t 42)
       (.seq
        (.reg [
          ⟨(some 8), none, .mov (.c (.bool true))⟩])
        .ret)
       .skip))
     (.seq
      (.reg [
        ⟨(some 43), none, .load true 4 (.t 4)⟩,
        ⟨(some 44), none, .load true 4 (.t 5)⟩,
        ⟨(some 45), none, .load true 4 (.t 6)⟩,
        ⟨(some 46), none, .mov (.t 3)⟩,
        ⟨(some 47), none, .call (.c (.fn 21 [] [])) [(.t 43), (.t 44), (.t 45), (.t 46)]⟩,
        ⟨(some 9), none, .mov (.t 47)⟩])
      (.seq
       (.reg [
         ⟨(some 49), none, .load true 4 (.t 4)⟩,
         ⟨(some 50), none, .load true 4 (.t 6)⟩,
         ⟨(some 51), none, .mov (.t 3)⟩,
         ⟨(some 52), none, .call (.c (.fn 27 [] [])) [(.t 49), (.t 50), (.t 51)]⟩,
         ⟨(some 48), none, .mov (.t 52)⟩,
         ⟨(some 53), none, .extract (.t 48) 0⟩,
         ⟨(some 54), none, .extract (.t 48) 1⟩,
         ⟨(some 10), none, .box 4 (.c (.agg [(.int .i64 0), (.int .i64 0), (.int .i64 0), (.int .i64 0)]))⟩,
         ⟨none, none, .store 4 (.t 10) (.t 53)⟩,
         ⟨(some 11), none, .mov (.t 54)⟩])
       (.seq
        (.reg [
          ⟨(some 56), none, .load true 4 (.t 4)⟩,
          ⟨(some 57), none, .load true 4 (.t 6)⟩,
          ⟨(some 58), none, .mov (.t 3)⟩,
          ⟨(some 59), none, .call (.c (.fn 26 [] [])) [(.t 56), (.t 57), (.t 58)]⟩,
          ⟨(some 55), none, .mov (.t 59)⟩,
          ⟨(some 60), none, .extract (.t 55) 0⟩,
          ⟨(some 61), none, .extract (.t 55) 1⟩,
          ⟨(some 12), none, .box 4 (.c (.agg [(.int .i64 0), (.int .i64 0), (.int .i64 0), (.int .i64 0)]))⟩,
          ⟨none, none, .store 4 (.t 12) (.t 60)⟩,
          ⟨(some 13), none, .mov (.t 61)⟩])
        (.seq
         (.seq
          (.reg [
            ⟨(some 62), none, .mov (.t 11)⟩,
            ⟨(some 63), none, .eq true .iface true (.t 62) (.c .nili)⟩,
            ⟨(some 64), none, .mov (.t 63)⟩,
            ⟨(some 65), (some (64, false)), .mov (.t 13)⟩,
            ⟨(some 66), (some (64, false)), .eq true .iface true (.t 65) (.c .nili)⟩,
            ⟨(some 67), none, .pick (.t 64) (.c (.bool true)) (.t 66)⟩])
          (.cond (.t 67)
           (.seq
            (.reg [
              ⟨(some 8), none, .mov (.c (.bool false))⟩])
            .ret)
           .skip))
         (.seq
          (.seq
           (.reg [
             ⟨(some 68), none, .mov (.t 9)⟩,
             ⟨(some 69), none, .call (.c (.fn 23 [] [])) [(.t 68)]⟩,
             ⟨(some 70), none, .ibin .eql (.t 69) (.c (.int .i64 4))⟩])
           (.cond (.t 70)
            (.seq
             (.reg [
               ⟨(some 8), none, .mov (.c (.bool true))⟩])
             .ret)
            .skip))
          (.seq
           (.reg [
             ⟨(some 14), none, .mov (.c (.bool true))⟩])
           (.seq
            (.seq
             (.reg [
               ⟨(some 15), none, .mov (.c (.int .i64 0))⟩])
             (.block 0
              (.loop
               (.seq
                (.seq
                 (.reg [
                   ⟨(some 71), none, .mov (.t 15)⟩,
                   ⟨(some 72), none, .ibin .lss (.t 71) (.c (.int .i64 4))⟩])
                 (.cond (.t 72)
                  .skip
                  (.exit 0)))
                (.seq
                 (.block 1
                  (.seq
                   (.draw [
                     ⟨(some 75), none, .mov (.t 14)⟩,
                     ⟨(some 76), none, .mov (.t 75)⟩,
                     ⟨(some 77), (some (76, true)), .mov (.t 15)⟩,
                     ⟨(some 78), (some (76, true)), .iaddrArr 4 1 (.t 5) (.t 77)⟩,
                     ⟨(some 79), (some (76, true)), .load false 1 (.t 78)⟩,
                     ⟨(some 80), (some (76, true)), .ibin .eql (.t 79) (.c (.int .i64 0))⟩,
                     ⟨(some 81), (some (76, true)), .mov (.t 80)⟩,
                     ⟨(some 82), (some (81, false)), .mov (.t 15)⟩,
                     ⟨(some 83), (some (81, false)), .iaddrArr 4 1 (.t 5) (.t 82)⟩,
                     ⟨(some 84), (some (81, false)), .load false 1 (.t 83)⟩,
                     ⟨(some 85), (some (81, false)), .mov (.t 15)⟩,
                     ⟨(some 86), (some (81, false)), .iaddrArr 4 1 (.t 10) (.t 85)⟩,
                     ⟨(some 87), (some (81, false)), .load false 1 (.t 86)⟩,
                     ⟨(some 88), (some (81, false)), .ibin .leq (.t 84) (.t 87)⟩,
                     ⟨(some 89), (some (76, true)), .pick (.t 81) (.c (.bool true)) (.t 88)⟩,
                     ⟨(some 90), none, .pick (.t 76) (.t 89) (.c (.bool false))⟩,
                     ⟨(some 14), none, .mov (.t 90)⟩]
                     [[], [0], [1, 0], [2, 1, 0], [3, 1, 2, 0], [4, 1, 3, 2, 0], [5, 1, 4, 3, 2, 0], [6, 5, 1, 4, 3, 2, 0], [7, 6, 5, 1, 4, 3, 2, 0], [8, 6, 7, 5, 1, 4, 3, 2, 0], [6, 5, 1, 4, 3, 2, 0], [10, 6, 5, 1, 4, 3, 2, 0], [11, 6, 10, 5, 1, 4, 3, 2, 0], [9, 12, 6, 8, 7, 5, 1, 4, 3, 2, 0, 11, 10], [6, 13, 1, 5, 4, 3, 2, 0, 9, 12, 8, 7, 11, 10], [1, 14, 0, 6, 13, 5, 4, 3, 2, 9, 12, 8, 7, 11, 10], [15, 6, 0, 1, 2, 3, 4, 5, 7, 8, 9, 10, 11, 12, 13, 14]])
                   (.seq
                    (.reg [
                      ⟨(some 91), none, .mov (.t 15)⟩,
                      ⟨(some 92), none, .iaddrArr 4 1 (.t 10) (.t 91)⟩,
                      ⟨(some 93), none, .load false 1 (.t 92)⟩,
                      ⟨(some 94), none, .ibin .gtr (.t 93) (.c (.int .i64 0))⟩,
                      ⟨(some 95), none, .mov (.t 94)⟩,
                      ⟨(some 96), (some (95, true)), .mov (.t 15)⟩,
                      ⟨(some 97), (some (95, true)), .iaddrArr 4 1 (.t 12) (.t 96)⟩,
                      ⟨(some 98), (some (95, true)), .load false 1 (.t 97)⟩,
                      ⟨(some 99), (some (95, true)), .ibin .gtr (.t 98) (.c (.int .i64 0))⟩,
                      ⟨(some 100), none, .pick (.t 95) (.t 99) (.c (.bool false))⟩])
                    (.cond (.t 100)
                     (.seq
                      (.reg [
                        ⟨(some 8), none, .mov (.c (.bool false))⟩])
                      .ret)
                     .skip))))
                 (.reg [
                   ⟨(some 73), none, .mov (.t 15)⟩,
                   ⟨(some 74), none, .ibin .add (.t 73) (.c (.int .i64 1))⟩,
                   ⟨(some 15), none, .mov (.t 74)⟩]))))))
            (.seq
             (.seq
              (.reg [
                ⟨(some 101), none, .mov (.t 14)⟩,
                ⟨(some 102), none, .mov (.t 9)⟩,
                ⟨(some 103), none, .eq false .iface true (.t 102) (.c .nili)⟩,
                ⟨(some 104), none, .eq true .bool false (.t 101) (.t 103)⟩])
              (.cond (.t 104)
               (.seq
                (.reg [
                  ⟨(some 8), none, .mov (.c (.bool false))⟩])
                .ret)
               .skip))
             (.seq
              (.seq
               (.reg [
                 ⟨(some 105), none, .mov (.t 9)⟩,
                 ⟨(some 106), none, .eq true .iface true (.t 105) (.c .nili)⟩])
               (.cond (.t 106)
                (.seq
                 (.reg [
                   ⟨(some 107), none, .mov (.t 9)⟩,
                   ⟨(some 108), none, .call (.c (.fn 23 [] [])) [(.t 107)]⟩,
                   ⟨(some 109), none, .ibin .eql (.t 108) (.c (.int .i64 9))⟩,
                   ⟨(some 8), none, .mov (.t 109)⟩])
                 .ret)
                .skip))
              (.seq
               (.reg [
                 ⟨(some 111), none, .load true 4 (.t 4)⟩,
                 ⟨(some 112), none, .load true 4 (.t 5)⟩,
                 ⟨(some 113), none, .call (.c (.fn 19 [] [])) [(.t 111), (.t 112)]⟩,
                 ⟨(some 110), none, .mov (.t 113)⟩,
                 ⟨(some 114), none, .extract (.t 110) 0⟩,
                 ⟨(some 115), none, .extract (.t 110) 1⟩,
                 ⟨(some 16), none, .box 4 (.c (.agg [(.int .i64 0), (.int .i64 0), (.int .i64 0), (.int .i64 0)]))⟩,
                 ⟨none, none, .store 4 (.t 16) (.t 114)⟩,
                 ⟨(some 17), none, .mov (.t 115)⟩])
               (.seq
                (.reg [
                  ⟨(some 117), none, .load true 4 (.t 16)⟩,
                  ⟨(some 118), none, .load true 4 (.t 6)⟩,
                  ⟨(some 119), none, .mov (.t 3)⟩,
                  ⟨(some 120), none, .call (.c (.fn 26 [] [])) [(.t 117), (.t 118), (.t 119)]⟩,
                  ⟨(some 116), none, .mov (.t 120)⟩,
                  ⟨(some 121), none, .extract (.t 116) 0⟩,
                  ⟨(some 122), none, .extract (.t 116) 1⟩,
                  ⟨(some 18), none, .box 4 (.c (.agg [(.int .i64 0), (.int .i64 0), (.int .i64 0), (.int .i64 0)]))⟩,
                  ⟨none, none, .store 4 (.t 18) (.t 121)⟩,
                  ⟨(some 19), none, .mov (.t 122)⟩])
                (.seq
                 (.reg [
                   ⟨(some 123), none, .mov (.t 17)⟩,
                   ⟨(some 124), none, .eq false .iface true (.t 123) (.c .nili)⟩,
                   ⟨(some 125), none, .mov (.t 124)⟩,
                   ⟨(some 126), (some (125, true)), .mov (.t 19)⟩,
                   ⟨(some 127), (some (125, true)), .eq false .iface true (.t 126) (.c .nili)⟩,
                   ⟨(some 128), none, .pick (.t 125) (.t 127) (.c (.bool false))⟩,
                   ⟨(some 129), none, .mov (.t 128)⟩,
                   ⟨(some 130), (some (129, true)), .load true 4 (.t 18)⟩,
                   ⟨(some 131), (some (129, true)), .load true 4 (.t 12)⟩,
                   ⟨(some 132), (some (129, true)), .eq false (.flat [.int, .int, .int, .int]) false (.t 130) (.t 131)⟩,
                   ⟨(some 133), none, .pick (.t 129) (.t 132) (.c (.bool false))⟩,
                   ⟨(some 134), none, .mov (.t 133)⟩,
                   ⟨(some 135), (some (134, true)), .load true 4 (.t 4)⟩,
                   ⟨(some 136), (some (134, true)), .load true 4 (.t 5)⟩,
                   ⟨(some 137), (some (134, true)), .load true 4 (.t 6)⟩,
                   ⟨(some 138), (some (134, true)), .mov (.t 3)⟩,
                   ⟨(some 139), (some (134, true)), .ibin .add (.t 138) (.c (.int .i64 1))⟩,
                   ⟨(some 140), (some (134, true)), .call (.c (.fn 21 [] [])) [(.t 135), (.t 136), (.t 137), (.t 139)]⟩,
                   ⟨(some 141), (some (134, true)), .eq false .iface true (.t 140) (.c .nili)⟩,
                   ⟨(some 142), none, .pick (.t 134) (.t 141) (.c (.bool false))⟩,
                   ⟨(some 8), none, .mov (.t 142)⟩])
                 .ret)))))))))))))))⟩

-- quitrent/quitrentlaw12.CeilTwice
def F8 : AFun := ⟨110, 5, [.tmp 10],
  (.seq
   (.reg [
     ⟨(some 5), none, .box 4 (.t 0)⟩,
     ⟨(some 6), none, .box 4 (.t 1)⟩,
     ⟨(some 7), none, .box 4 (.t 2)⟩,
     ⟨(some 8), none, .box 4 (.t 3)⟩,
     ⟨(some 10), none, .mov (.c (.bool false))⟩])
   (.seq
    (.seq
     (.reg [
       ⟨(some 21), none, .call (.c (.fn 20 [] [])) []⟩,
       ⟨(some 22), none, .un .not (.t 21)⟩])
     (.cond (.t 22)
      (.seq
       (.reg [
         ⟨(some 10), none, .mov (.c (.bool false))⟩])
       .ret)
      .skip))
    (.seq
     (.reg [
       ⟨(some 23), none, .mov (.t 4)⟩,
       ⟨(some 24), none, .i2i .u64 (.t 23)⟩,
       ⟨(some 25), none, .ibin .rem (.t 24) (.c (.int .u64 16))⟩,
       ⟨(some 26), none, .i2i .i64 (.t 25)⟩,
       ⟨(some 27), none, .ibin .add (.c (.int .i64 1)) (.t 26)⟩,
       ⟨(some 11), none, .mov (.t 27)⟩])
     (.seq
      (.reg [
        ⟨(some 29), none, .load true 4 (.t 5)⟩,
        ⟨(some 30), none, .load true 4 (.t 6)⟩,
        ⟨(some 31), none, .call (.c (.fn 19 [] [])) [(.t 29), (.t 30)]⟩,
        ⟨(some 28), none, .mov (.t 31)⟩,
        ⟨(some 32), none, .extract (.t 28) 0⟩,
        ⟨(some 33), none, .extract (.t 28) 1⟩,
        ⟨(some 12), none, .box 4 (.c (.agg [(.int .i64 0), (.int .i64 0), (.int .i64 0), (.int .i64 0)]))⟩,
        ⟨none, none, .store 4 (.t 12) (.t 32)⟩,
        ⟨(some 13), none, .mov (.t 33)⟩])
      (.seq
       (.reg [
         ⟨(some 35), none, .load true 4 (.t 6)⟩,
         ⟨(some 36), none, .load true 4 (.t 7)⟩,
         ⟨(some 37), none, .call (.c (.fn 19 [] [])) [(.t 35), (.t 36)]⟩,
         ⟨(some 34), none, .mov (.t 37)⟩,
         ⟨(some 38), none, .extract (.t 34) 0⟩,
         ⟨(some 39), none, .extract (.t 34) 1⟩,
         ⟨(some 14), none, .box 4 (.c (.agg [(.int .i64 0), (.int .i64 0), (.int .i64 0), (.int .i64 0)]))⟩,
         ⟨none, none, .store 4 (.t 14) (.t 38)⟩,
         ⟨(some 15), none, .mov (.t 39)⟩])
       (.seq
        (.seq
         (.reg [
           ⟨(some 40), none, .mov (.t 13)⟩,
           ⟨(some 41), none, .eq true .iface true (.t 40) (.c .nili)⟩,
           ⟨(some 42), none, .mov (.t 41)⟩,
           ⟨(some 43), (some (42, false)), .mov (.t 15)⟩,
           ⟨(some 44), (some (42, false)), .eq true .iface true (.t 43) (.c .nili)⟩,
           ⟨(some 45), none, .pick (.t 42) (.c (.bool true)) (.t 44)⟩,
           ⟨(some 46), none, .mov (.t 45)⟩,
           ⟨(some 47), (some (46, false)), .load true 4 (.t 8)⟩,
           ⟨(some 48), (some (46, false)), .call (.c (.fn 12 [] [])) [(.t 47)]⟩,
           ⟨(some 49), (some (46, false)), .un .not (.t 48)⟩,
           ⟨(some 50), none, .pick (.t 46) (.c (.bool true)) (.t 49)⟩])
         (.cond (.t 50)
          (.seq
           (.reg [
             ⟨(some 10), none, .mov (.c (.bool true))⟩])
           .ret)
          .skip))
        (.seq
         (.seq
          (.reg [
            ⟨(some 51), none, .load true 4 (.t 5)⟩,
            ⟨(some 52), none, .load true 4 (.t 6)⟩,
            ⟨(some 53), none, .load true 4 (.t 8)⟩,
            ⟨(some 54), none, .mov (.t 11)⟩,
            ⟨(some 55), none, .call (.c (.fn 21 [] [])) [(.t 51), (.t 52), (.t 53), (.t 54)]⟩,
            ⟨(some 56), none, .eq false .iface true (.t 55) (.c .nili)⟩,
            ⟨(some 57), none, .mov (.t 56)⟩,
            ⟨(some 58), (some (57, true)), .load true 4 (.t 12)⟩,
            ⟨(some 59), (some (57, true)), .load true 4 (.t 7)⟩,
            ⟨(some 60), (some (57, true)), .load true 4 (.t 8)⟩,
            ⟨(some 61), (some (57, true)), .mov (.t 11)⟩,
            ⟨(some 62), (some (57, true)), .call (.c (.fn 21 [] [])) [(.t 58), (.t 59), (.t 60), (.t 61)]⟩,
            ⟨(some 63), (some (57, true)), .eq false .iface true (.t 62) (.c .nili)⟩,
            ⟨(some 64), none, .pick (.t 57) (.t 63) (.c (.bool false))⟩,
            ⟨(some 65), none, .mov (.t 64)⟩,
            ⟨(some 66), (some (65, true)), .load true 4 (.t 5)⟩,
            ⟨(some 67), (some (65, true)), .load true 4 (.t 14)⟩,
            ⟨(some 68), (some (65, true)), .load true 4 (.t 8)⟩,
            ⟨(some 69), (some (65, true)), .mov (.t 11)⟩,
            ⟨(some 70), (some (65, true)), .call (.c (.fn 21 [] [])) [(.t 66), (.t 67), (.t 68), (.t 69)]⟩,
            ⟨(some 71), (some (65, true)), .eq true .iface true (.t 70) (.c .nili)⟩,
            ⟨(some 72), none, .pick (.t 65) (.t 71) (.c (.bool false))⟩])
          (.cond (.t 72)
           (.seq
            (.reg [
              ⟨(some 10), none, .mov (.c (.bool false))⟩])
            .ret)
           .skip))
         (.seq
          (.reg [
            ⟨(some 74), none, .load true 4 (.t 5)⟩,
            ⟨(some 75), none, .load true 4 (.t 8)⟩,
            ⟨(some 76), none, .mov (.t 11)⟩,
            ⟨(some 77), none, .call (.c (.fn 27 [] [])) [(.t 74), (.t 75), (.t 76)]⟩,
            ⟨(some 73), none, .mov (.t 77)⟩,
            ⟨(some 78), none, .extract (.t 73) 0⟩,
            ⟨(some 79), none, .extract (.t 73) 1⟩,
            ⟨(some 16), none, .box 4 (.c (.agg [(.int .i64 0), (.int .i64 0), (.int .i64 0), (.int .i64 0)]))⟩,
            ⟨none, none, .store 4 (.t 16) (.t 78)⟩,
            ⟨(some 17), none, .mov (.t 79)⟩])
          (.seq
           (.reg [
             ⟨(some 81), none, .load true 4 (.t 5)⟩,
             ⟨(some 82), none, .load true 4 (.t 8)⟩,
             ⟨(some 83), none, .mov (.t 11)⟩,
             ⟨(some 84), none, .call (.c (.fn 26 [] [])) [(.t 81), (.t 82), (.t 83)]⟩,
             ⟨(some 80), none, .mov (.t 84)⟩,
             ⟨(some 85), none, .extract (.t 80) 0⟩,
             ⟨(some 86), none, .extract (.t 80) 1⟩,
             ⟨(some 18), none, .box 4 (.c (.agg [(.int .i64 0), (.int .i64 0), (.int .i64 0), (.int .i64 0)]))⟩,
             ⟨none, none, .store 4 (.t 18) (.t 85)⟩,
             ⟨(some 19), none, .mov (.t 86)⟩])
           (.seq
            (.seq
             (.reg [
               ⟨(some 87), none, .mov (.t 17)⟩,
               ⟨(some 88), none, .eq true .iface true (.t 87) (.c .nili)⟩,
               ⟨(some 89), none, .mov (.t 88)⟩,
               ⟨(some 90), (some (89, false)), .mov (.t 19)⟩,
               ⟨(some 91), (some (89, false)), .eq true .iface true (.t 90) (.c .nili)⟩,
               ⟨(some 92), none, .pick (.t 89) (.c (.bool true)) (.t 91)⟩])
             (.cond (.t 92)
              (.seq
               (.reg [
                 ⟨(some 10), none, .mov (.c (.bool false))⟩])
               .ret)
              .skip))
            (.seq
             (.reg [
               ⟨(some 93), none, .load true 4 (.t 5)⟩,
               ⟨(some 94), none, .load true 4 (.t 16)⟩,
               ⟨(some 95), none, .load true 4 (.t 8)⟩,
               ⟨(some 96), none, .mov (.t 11)⟩,
               ⟨(some 97), none, .call (.c (.fn 21 [] [])) [(.t 93), (.t 94), (.t 95), (.t 96)]⟩,
               ⟨(some 20), none, .mov (.t 97)⟩])
             (.seq
              (.reg [
                ⟨(some 98), none, .mov (.t 20)⟩,
                ⟨(some 99), none, .eq false .iface true (.t 98) (.c .nili)⟩,
                ⟨(some 100), none, .mov (.t 99)⟩,
                ⟨(some 101), (some (100, true)), .load true 4 (.t 18)⟩,
                ⟨(some 102), (some (100, true)), .call (.c (.fn 31 [] [])) [(.t 101)]⟩,
                ⟨(some 103), (some (100, true)), .mov (.t 102)⟩,
                ⟨(some 104), (some (103, false)), .load true 4 (.t 18)⟩,
                ⟨(some 105), (some (103, false)), .load true 4 (.t 16)⟩,
                ⟨(some 106), (some (103, false)), .call (.c (.fn 13 [] [])) [(.t 104), (.t 105)]⟩,
                ⟨(some 107), (some (103, false)), .un .not (.t 106)⟩,
                ⟨(some 108), (some (100, true)), .pick (.t 103) (.c (.bool true)) (.t 107)⟩,
                ⟨(some 109), none, .pick (.t 100) (.t 108) (.c (.bool false))⟩,
                ⟨(some 10), none, .mov (.t 109)⟩])
              .ret))))))))))))⟩

theorem c25 : cFun Tryd.prog [1, 2, 3, 4, 5, 6, 7, 8, 0, 9, 10, 11, 12, 13] Tryd.f25 = some F25 := by kernel_rfl
theorem c49 : cFun Tryd.prog [1, 2, 3, 4, 5, 6, 7, 8, 0, 9, 10, 11, 12, 13] Tryd.f49 = some F49 := by kernel_rfl
theorem c26 : cFun Tryd.prog [1, 2, 3, 4, 5, 6, 7, 8, 0, 9, 10, 11, 12, 13] Tryd.f26 = some F26 := by kernel_rfl
theorem c27 : cFun Tryd.prog [1, 2, 3, 4, 5, 6, 7, 8, 0, 9, 10, 11, 12, 13] Tryd.f27 = some F27 := by kernel_rfl
theorem c21 : cFun Tryd.prog [1, 2, 3, 4, 5, 6, 7, 8, 0, 9, 10, 11, 12, 13] Tryd.f21 = some F21 := by kernel_rfl
theorem c28 : cFun Tryd.prog [1, 2, 3, 4, 5, 6, 7, 8, 0, 9, 10, 11, 12, 13] Tryd.f28 = some F28 := by kernel_rfl
theorem c29 : cFun Tryd.prog [1, 2, 3, 4, 5, 6, 7, 8, 0, 9, 10, 11, 12, 13] Tryd.f29 = some F29 := by kernel_rfl
theorem c22 : cFun Tryd.prog [1, 2, 3, 4, 5, 6, 7, 8, 0, 9, 10, 11, 12, 13] Tryd.f22 = some F22 := by kernel_rfl
theorem c20 : cFun Tryd.prog [1, 2, 3, 4, 5, 6, 7, 8, 0, 9, 10, 11, 12, 13] Tryd.f20 = some F20 := by kernel_rfl
theorem c6 : cFun Tryd.prog [1, 2, 3, 4, 5, 6, 7, 8, 0, 9, 10, 11, 12, 13] Tryd.f6 = some F6 := by kernel_rfl
theorem c7 : cFun Tryd.prog [1, 2, 3, 4, 5, 6, 7, 8, 0, 9, 10, 11, 12, 13] Tryd.f7 = some F7 := by kernel_rfl
theorem c8 : cFun Tryd.prog [1, 2, 3, 4, 5, 6, 7, 8, 0, 9, 10, 11, 12, 13] Tryd.f8 = some F8 := by kernel_rfl
end Go.Proofs.YtdjcpmdjodhfeaaDoor.A12
