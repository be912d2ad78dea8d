import Derived.Test.YtkbjfhkhbcgkgaaDoorFVGB33m
open Go AH
namespace Go.Proofs.YtkbjfhkhbcgkgaaDoor.B33m
-- quitrent/vec.made
def F48 : AFun := ⟨40, 3, [.cell 6 true 4, .tmp 7],
  (.seq
   (.reg [
     ⟨(some 3), none, .box 4 (.t 0)⟩,
     ⟨(some 4), none, .box 4 (.t 1)⟩,
     ⟨(some 6), none, .box 4 (.c (.agg [(.int .i64 0), (.int .i64 0), (.int .i64 0), (.int .i64 0)]))⟩,
     ⟨(some 7), none, .mov (.c .nili)⟩])
   (.seq
    (.seq
     (.reg [
       ⟨(some 10), none, .load true 4 (.t 3)⟩,
       ⟨(some 11), none, .call (.c (.fn 16 [] [])) [(.t 10)]⟩,
       ⟨(some 12), none, .un .not (.t 11)⟩,
       ⟨(some 13), none, .mov (.t 12)⟩,
       ⟨(some 14), (some (13, false)), .load true 4 (.t 4)⟩,
       ⟨(some 15), (some (13, false)), .call (.c (.fn 16 [] [])) [(.t 14)]⟩,
       ⟨(some 16), (some (13, false)), .un .not (.t 15)⟩,
       ⟨(some 17), none, .pick (.t 13) (.c (.bool true)) (.t 16)⟩])
     (.cond (.t 17)
      (.seq
       (.draw [
         ⟨(some 18), none, .build [(.int .i64 0), (.int .i64 0), (.int .i64 0), (.int .i64 0)] []⟩,
         ⟨(some 19), none, .loadg 0⟩,
         ⟨none, none, .store 4 (.t 6) (.t 18)⟩,
         ⟨(some 7), none, .mov (.t 19)⟩]
         [[], [], [0], [1, 2, 0]])
       .ret)
      .skip))
    (.seq
     (.seq
      (.reg [
        ⟨(some 20), none, .load true 4 (.t 4)⟩,
        ⟨(some 21), none, .mov (.c (.int .i64 0))⟩])
      (.block 0
       (.loop
        (.seq
         (.reg [
           ⟨(some 22), none, .ibin .lss (.t 21) (.c (.int .i64 4))⟩])
         (.seq
          (.cond (.t 22)
           .skip
           (.exit 0))
          (.seq
           (.block 1
            (.seq
             (.reg [
               ⟨(some 23), none, .mov (.t 21)⟩,
               ⟨(some 24), none, .idxArr 4 false 1 (.t 20) (.t 21)⟩,
               ⟨(some 8), none, .mov (.t 23)⟩,
               ⟨(some 9), none, .mov (.t 24)⟩])
             (.reg [
               ⟨(some 25), none, .mov (.t 8)⟩,
               ⟨(some 26), none, .mov (.t 2)⟩,
               ⟨(some 27), none, .mov (.t 8)⟩,
               ⟨(some 28), none, .iaddrArr 4 1 (.t 3) (.t 27)⟩,
               ⟨(some 29), none, .load false 1 (.t 28)⟩,
               ⟨(some 30), none, .mov (.t 9)⟩,
               ⟨(some 31), none, .call (.t 26) [(.t 29), (.t 30)]⟩,
               ⟨(some 32), none, .iaddrArr 4 1 (.t 3) (.t 25)⟩,
               ⟨none, none, .store 1 (.t 32) (.t 31)⟩])))
           (.reg [
             ⟨(some 33), none, .ibin .add (.t 21) (.c (.int .i64 1))⟩,
             ⟨(some 21), none, .mov (.t 33)⟩])))))))
     (.seq
      (.seq
       (.reg [
         ⟨(some 34), none, .load true 4 (.t 3)⟩,
         ⟨(some 35), none, .call (.c (.fn 16 [] [])) [(.t 34)]⟩,
         ⟨(some 36), none, .un .not (.t 35)⟩])
       (.cond (.t 36)
        (.seq
         (.draw [
           ⟨(some 37), none, .build [(.int .i64 0), (.int .i64 0), (.int .i64 0), (.int .i64 0)] []⟩,
           ⟨(some 38), none, .loadg 3⟩,
           ⟨none, none, .store 4 (.t 6) (.t 37)⟩,
           ⟨(some 7), none, .mov (.t 38)⟩]
           [[], [], [0], [1, 2, 0]])
         .ret)
        .skip))
      (.seq
       (.reg [
         ⟨(some 39), none, .load true 4 (.t 3)⟩,
         ⟨none, none, .store 4 (.t 6) (.t 39)⟩,
         ⟨(some 7), none, .mov (.c .nili)⟩])
       .ret)))))⟩

-- quitrent/vec.Add$1
def F50 : AFun := ⟨8, 2, [.tmp 4],
  (.seq
   (.reg [
     ⟨(some 4), none, .mov (.c (.int .i64 0))⟩])
   (.seq
    (.reg [
      ⟨(some 5), none, .mov (.t 0)⟩,
      ⟨(some 6), none, .mov (.t 1)⟩,
      ⟨(some 7), none, .ibin .add (.t 5) (.t 6)⟩,
      ⟨(some 4), none, .mov (.t 7)⟩])
    .ret))⟩

-- quitrent/vec.Add
def F18 : AFun := ⟨11, 2, [.cell 4 true 4, .tmp 5],
  (.seq
   (.reg [
     ⟨(some 2), none, .box 4 (.t 0)⟩,
     ⟨(some 3), none, .box 4 (.t 1)⟩,
     ⟨(some 4), none, .box 4 (.c (.agg [(.int .i64 0), (.int .i64 0), (.int .i64 0), (.int .i64 0)]))⟩,
     ⟨(some 5), none, .mov (.c .nili)⟩])
   (.seq
    (.reg [
      ⟨(some 6), none, .load true 4 (.t 2)⟩,
      ⟨(some 7), none, .load true 4 (.t 3)⟩,
      ⟨(some 8), none, .call (.c (.fn 48 [] [])) [(.t 6), (.t 7), (.c (.fn 50 [] []))]⟩,
      ⟨(some 9), none, .extract (.t 8) 0⟩,
      ⟨(some 10), none, .extract (.t 8) 1⟩,
      ⟨none, none, .store 4 (.t 4) (.t 9)⟩,
      ⟨(some 5), none, .mov (.t 10)⟩])
    .ret))⟩

-- quitrent/vec.Sub$1
def F49 : AFun := ⟨8, 2, [.tmp 4],
  (.seq
   (.reg [
     ⟨(some 4), none, .mov (.c (.int .i64 0))⟩])
   (.seq
    (.reg [
      ⟨(some 5), none, .mov (.t 0)⟩,
      ⟨(some 6), none, .mov (.t 1)⟩,
      ⟨(some 7), none, .ibin .sub (.t 5) (.t 6)⟩,
      ⟨(some 4), none, .mov (.t 7)⟩])
    .ret))⟩

-- quitrent/vec.Sub
def F17 : AFun := ⟨11, 2, [.cell 4 true 4, .tmp 5],
  (.seq
   (.reg [
     ⟨(some 2), none, .box 4 (.t 0)⟩,
     ⟨(some 3), none, .box 4 (.t 1)⟩,
     ⟨(some 4), none, .box 4 (.c (.agg [(.int .i64 0), (.int .i64 0), (.int .i64 0), (.int .i64 0)]))⟩,
     ⟨(some 5), none, .mov (.c .nili)⟩])
   (.seq
    (.reg [
      ⟨(some 6), none, .load true 4 (.t 2)⟩,
      ⟨(some 7), none, .load true 4 (.t 3)⟩,
      ⟨(some 8), none, .call (.c (.fn 48 [] [])) [(.t 6), (.t 7), (.c (.fn 49 [] []))]⟩,
      ⟨(some 9), none, .extract (.t 8) 0⟩,
      ⟨(some 10), none, .extract (.t 8) 1⟩,
      ⟨none, none, .store 4 (.t 4) (.t 9)⟩,
      ⟨(some 5), none, .mov (.t 10)⟩])
    .ret))⟩

-- quitrent/vec.Less
def F20 : AFun := ⟨9, 2, [.tmp 4],
  (.seq
   (.reg [
     ⟨(some 2), none, .box 4 (.t 0)⟩,
     ⟨(some 3), none, .box 4 (.t 1)⟩,
     ⟨(some 4), none, .mov (.c (.bool false))⟩])
   (.seq
    (.draw [
      ⟨(some 5), none, .sliceArr 4 1 (.t 2) none none⟩,
      ⟨(some 6), none, .sliceArr 4 1 (.t 3) none none⟩,
      ⟨(some 7), none, .call (.c (.fn 51 [] [])) [(.t 5), (.t 6)]⟩,
      ⟨(some 8), none, .ibin .lss (.t 7) (.c (.int .i64 0))⟩,
      ⟨(some 4), none, .mov (.t 8)⟩]
      [[], [], [0, 1], [2, 0, 1], [3, 2, 0, 1]])
    .ret))⟩

-- slices.Compare[[]int,int]
def F51 : AFun := ⟨36, 2, [.tmp 4],
  (.seq
   (.reg [
     ⟨(some 4), none, .mov (.c (.int .i64 0))⟩])
   (.seq
    (.seq
     (.reg [
       ⟨(some 9), none, .mov (.t 0)⟩,
       ⟨(some 10), none, .len .sl (.t 9)⟩,
       ⟨(some 11), none, .mov (.c (.int .i64 0))⟩])
     (.block 0
      (.loop
       (.seq
        (.reg [
          ⟨(some 12), none, .ibin .lss (.t 11) (.t 10)⟩])
        (.seq
         (.cond (.t 12)
          .skip
          (.exit 0))
         (.seq
          (.block 1
           (.seq
            (.reg [
              ⟨(some 13), none, .mov (.t 11)⟩,
              ⟨(some 14), none, .iaddrSl 1 (.t 9) (.t 11)⟩,
              ⟨(some 15), none, .load false 1 (.t 14)⟩,
              ⟨(some 5), none, .mov (.t 13)⟩,
              ⟨(some 6), none, .mov (.t 15)⟩])
            (.seq
             (.seq
              (.reg [
                ⟨(some 16), none, .mov (.t 5)⟩,
                ⟨(some 17), none, .mov (.t 1)⟩,
                ⟨(some 18), none, .len .sl (.t 17)⟩,
                ⟨(some 19), none, .ibin .geq (.t 16) (.t 18)⟩])
              (.cond (.t 19)
               (.seq
                (.reg [
                  ⟨(some 4), none, .mov (.c (.int .i64 1))⟩])
                .ret)
               .skip))
             (.seq
              (.reg [
                ⟨(some 20), none, .mov (.t 1)⟩,
                ⟨(some 21), none, .mov (.t 5)⟩,
                ⟨(some 22), none, .iaddrSl 1 (.t 20) (.t 21)⟩,
                ⟨(some 23), none, .load false 1 (.t 22)⟩,
                ⟨(some 7), none, .mov (.t 23)⟩])
              (.seq
               (.reg [
                 ⟨(some 24), none, .mov (.t 6)⟩,
                 ⟨(some 25), none, .mov (.t 7)⟩,
                 ⟨(some 26), none, .call (.c (.fn 54 [] [])) [(.t 24), (.t 25)]⟩,
                 ⟨(some 8), none, .mov (.t 26)⟩])
               (.seq
                (.reg [
                  ⟨(some 27), none, .mov (.t 8)⟩,
                  ⟨(some 28), none, .ibin .neq (.t 27) (.c (.int .i64 0))⟩])
                (.cond (.t 28)
                 (.seq
                  (.reg [
                    ⟨(some 29), none, .mov (.t 8)⟩,
                    ⟨(some 4), none, .mov (.t 29)⟩])
                  .ret)
                 .skip)))))))
          (.reg [
            ⟨(some 30), none, .ibin .add (.t 11) (.c (.int .i64 1))⟩,
            ⟨(some 11), none, .mov (.t 30)⟩])))))))
    (.seq
     (.seq
      (.reg [
        ⟨(some 31), none, .mov (.t 0)⟩,
        ⟨(some 32), none, .len .sl (.t 31)⟩,
        ⟨(some 33), none, .mov (.t 1)⟩,
        ⟨(some 34), none, .len .sl (.t 33)⟩,
        ⟨(some 35), none, .ibin .lss (.t 32) (.t 34)⟩])
      (.cond (.t 35)
       (.seq
        (.reg [
          ⟨(some 4), none, .mov (.c (.int .i64 (-1)))⟩])
        .ret)
       .skip))
     (.seq
      (.reg [
        ⟨(some 4), none, .mov (.c (.int .i64 0))⟩])
      .ret))))⟩

-- quitrent/vec.Fits
def F19 : AFun := ⟨18, 2, [.tmp 4],
  (.seq
   (.reg [
     ⟨(some 2), none, .box 4 (.t 0)⟩,
     ⟨(some 3), none, .box 4 (.t 1)⟩,
     ⟨(some 4), none, .mov (.c (.bool false))⟩])
   (.seq
    (.seq
     (.reg [
       ⟨(some 7), none, .load true 4 (.t 2)⟩,
       ⟨(some 8), none, .mov (.c (.int .i64 0))⟩])
     (.block 0
      (.loop
       (.seq
        (.reg [
          ⟨(some 9), none, .ibin .lss (.t 8) (.c (.int .i64 4))⟩])
        (.seq
         (.cond (.t 9)
          .skip
          (.exit 0))
         (.seq
          (.block 1
           (.seq
            (.reg [
              ⟨(some 10), none, .mov (.t 8)⟩,
              ⟨(some 11), none, .idxArr 4 false 1 (.t 7) (.t 8)⟩,
              ⟨(some 5), none, .mov (.t 10)⟩,
              ⟨(some 6), none, .mov (.t 11)⟩])
            (.seq
             (.reg [
               ⟨(some 12), none, .mov (.t 6)⟩,
               ⟨(some 13), none, .mov (.t 5)⟩,
               ⟨(some 14), none, .iaddrArr 4 1 (.t 3) (.t 13)⟩,
               ⟨(some 15), none, .load false 1 (.t 14)⟩,
               ⟨(some 16), none, .ibin .gtr (.t 12) (.t 15)⟩])
             (.cond (.t 16)
              (.seq
               (.reg [
                 ⟨(some 4), none, .mov (.c (.bool false))⟩])
               .ret)
              .skip))))
          (.reg [
            ⟨(some 17), none, .ibin .add (.t 8) (.c (.int .i64 1))⟩,
            ⟨(some 8), none, .mov (.t 17)⟩])))))))
    (.seq
     (.reg [
       ⟨(some 4), none, .mov (.c (.bool true))⟩])
     .ret)))⟩

-- quitrent/vec.None
def F28 : AFun := ⟨6, 1, [.tmp 2],
  (.seq
   (.reg [
     ⟨(some 1), none, .box 4 (.t 0)⟩,
     ⟨(some 2), none, .mov (.c (.bool false))⟩])
   (.seq
    (.reg [
      ⟨(some 3), none, .load true 4 (.t 1)⟩,
      ⟨(some 4), none, .build [(.int .i64 0), (.int .i64 0), (.int .i64 0), (.int .i64 0)] []⟩,
      ⟨(some 5), none, .eq false (.flat [.int, .int, .int, .int]) false (.t 3) (.t 4)⟩,
      ⟨(some 2), none, .mov (.t 5)⟩])
    .ret))⟩

-- quitrent/quitrentref01.Add
def F22 : AFun := ⟨36, 2, [.cell 4 true 4, .tmp 5],
  (.seq
   (.reg [
     ⟨(some 2), none, .box 4 (.t 0)⟩,
     ⟨(some 3), none, .box 4 (.t 1)⟩,
     ⟨(some 4), none, .box 4 (.c (.agg [(.int .i64 0), (.int .i64 0), (.int .i64 0), (.int .i64 0)]))⟩,
     ⟨(some 5), none, .mov (.c (.int .i64 0))⟩])
   (.seq
    (.seq
     (.reg [
       ⟨(some 8), none, .load true 4 (.t 2)⟩,
       ⟨(some 9), none, .call (.c (.fn 25 [] [])) [(.t 8)]⟩,
       ⟨(some 10), none, .un .not (.t 9)⟩,
       ⟨(some 11), none, .mov (.t 10)⟩,
       ⟨(some 12), (some (11, false)), .load true 4 (.t 3)⟩,
       ⟨(some 13), (some (11, false)), .call (.c (.fn 25 [] [])) [(.t 12)]⟩,
       ⟨(some 14), (some (11, false)), .un .not (.t 13)⟩,
       ⟨(some 15), none, .pick (.t 11) (.c (.bool true)) (.t 14)⟩])
     (.cond (.t 15)
      (.seq
       (.reg [
         ⟨(some 16), none, .build [(.int .i64 0), (.int .i64 0), (.int .i64 0), (.int .i64 0)] []⟩,
         ⟨none, none, .store 4 (.t 4) (.t 16)⟩,
         ⟨(some 5), none, .mov (.c (.int .i64 1))⟩])
       .ret)
      .skip))
    (.seq
     (.reg [
       ⟨(some 17), none, .build [(.int .i64 0), (.int .i64 0), (.int .i64 0), (.int .i64 0)] []⟩,
       ⟨(some 6), none, .box 4 (.c (.agg [(.int .i64 0), (.int .i64 0), (.int .i64 0), (.int .i64 0)]))⟩,
       ⟨none, none, .store 4 (.t 6) (.t 17)⟩])
     (.seq
      (.seq
       (.reg [
         ⟨(some 7), none, .mov (.c (.int .i64 0))⟩])
       (.block 0
        (.loop
         (.seq
          (.seq
           (.reg [
             ⟨(some 18), none, .mov (.t 7)⟩,
             ⟨(some 19), none, .ibin .lss (.t 18) (.c (.int .i64 4))⟩])
           (.cond (.t 19)
            .skip
            (.exit 0)))
          (.seq
           (.block 1
            (.draw [
              ⟨(some 22), none, .mov (.t 7)⟩,
              ⟨(some 23), none, .mov (.t 7)⟩,
              ⟨(some 24), none, .iaddrArr 4 1 (.t 2) (.t 23)⟩,
              ⟨(some 25), none, .load false 1 (.t 24)⟩,
              ⟨(some 26), none, .mov (.t 7)⟩,
              ⟨(some 27), none, .iaddrArr 4 1 (.t 3) (.t 26)⟩,
              ⟨(some 28), none, .load false 1 (.t 27)⟩,
              ⟨(some 29), none, .ibin .add (.t 25) (.t 28)⟩,
              ⟨(some 30), none, .iaddrArr 4 1 (.t 6) (.t 22)⟩,
              ⟨none, none, .store 1 (.t 30) (.t 29)⟩]
              [[], [], [1], [2, 1], [], [4], [5, 4], [3, 6, 2, 1, 5, 4], [0, 1, 2, 3, 4, 5, 6, 7], [8, 7, 0, 1, 2, 3, 4, 5, 6]]))
           (.reg [
             ⟨(some 20), none, .mov (.t 7)⟩,
             ⟨(some 21), none, .ibin .add (.t 20) (.c (.int .i64 1))⟩,
             ⟨(some 7), none, .mov (.t 21)⟩]))))))
      (.seq
       (.seq
        (.reg [
          ⟨(some 31), none, .load true 4 (.t 6)⟩,
          ⟨(some 32), none, .call (.c (.fn 25 [] [])) [(.t 31)]⟩,
          ⟨(some 33), none, .un .not (.t 32)⟩])
        (.cond (.t 33)
         (.seq
          (.reg [
            ⟨(some 34), none, .build [(.int .i64 0), (.int .i64 0), (.int .i64 0), (.int .i64 0)] []⟩,
            ⟨none, none, .store 4 (.t 4) (.t 34)⟩,
            ⟨(some 5), none, .mov (.c (.int .i64 4))⟩])
          .ret)
         .skip))
       (.seq
        (.reg [
          ⟨(some 35), none, .load true 4 (.t 6)⟩,
          ⟨none, none, .store 4 (.t 4) (.t 35)⟩,
          ⟨(some 5), none, .mov (.c (.int .i64 0))⟩])
        .ret))))))⟩

-- quitrent/quitrentref01.Sub
def F23 : AFun := ⟨36, 2, [.cell 4 true 4, .tmp 5],
  (.seq
   (.reg [
     ⟨(some 2), none, .box 4 (.t 0)⟩,
     ⟨(some 3), none, .box 4 (.t 1)⟩,
     ⟨(some 4), none, .box 4 (.c (.agg [(.int .i64 0), (.int .i64 0), (.int .i64 0), (.int .i64 0)]))⟩,
     ⟨(some 5), none, .mov (.c (.int .i64 0))⟩])
   (.seq
    (.seq
     (.reg [
       ⟨(some 8), none, .load true 4 (.t 2)⟩,
       ⟨(some 9), none, .call (.c (.fn 25 [] [])) [(.t 8)]⟩,
       ⟨(some 10), none, .un .not (.t 9)⟩,
       ⟨(some 11), none, .mov (.t 10)⟩,
       ⟨(some 12), (some (11, false)), .load true 4 (.t 3)⟩,
       ⟨(some 13), (some (11, false)), .call (.c (.fn 25 [] [])) [(.t 12)]⟩,
       ⟨(some 14), (some (11, false)), .un .not (.t 13)⟩,
       ⟨(some 15), none, .pick (.t 11) (.c (.bool true)) (.t 14)⟩])
     (.cond (.t 15)
      (.seq
       (.reg [
         ⟨(some 16), none, .build [(.int .i64 0), (.int .i64 0), (.int .i64 0), (.int .i64 0)] []⟩,
         ⟨none, none, .store 4 (.t 4) (.t 16)⟩,
         ⟨(some 5), none, .mov (.c (.int .i64 1))⟩])
       .ret)
      .skip))
    (.seq
     (.reg [
       ⟨(some 17), none, .build [(.int .i64 0), (.int .i64 0), (.int .i64 0), (.int .i64 0)] []⟩,
       ⟨(some 6), none, .box 4 (.c (.agg [(.int .i64 0), (.int .i64 0), (.int .i64 0), (.int .i64 0)]))⟩,
       ⟨none, none, .store 4 (.t 6) (.t 17)⟩])
     (.seq
      (.seq
       (.reg [
         ⟨(some 7), none, .mov (.c (.int .i64 0))⟩])
       (.block 0
        (.loop
         (.seq
          (.seq
           (.reg [
             ⟨(some 18), none, .mov (.t 7)⟩,
             ⟨(some 19), none, .ibin .lss (.t 18) (.c (.int .i64 4))⟩])
           (.cond (.t 19)
            .skip
            (.exit 0)))
          (.seq
           (.block 1
            (.draw [
              ⟨(some 22), none, .mov (.t 7)⟩,
              ⟨(some 23), none, .mov (.t 7)⟩,
              ⟨(some 24), none, .iaddrArr 4 1 (.t 2) (.t 23)⟩,
              ⟨(some 25), none, .load false 1 (.t 24)⟩,
              ⟨(some 26), none, .mov (.t 7)⟩,
              ⟨(some 27), none, .iaddrArr 4 1 (.t 3) (.t 26)⟩,
              ⟨(some 28), none, .load false 1 (.t 27)⟩,
              ⟨(some 29), none, .ibin .sub (.t 25) (.t 28)⟩,
              ⟨(some 30), none, .iaddrArr 4 1 (.t 6) (.t 22)⟩,
              ⟨none, none, .store 1 (.t 30) (.t 29)⟩]
              [[], [], [1], [2, 1], [], [4], [5, 4], [3, 6, 2, 1, 5, 4], [0, 1, 2, 3, 4, 5, 6, 7], [8, 7, 0, 1, 2, 3, 4, 5, 6]]))
           (.reg [
             ⟨(some 20), none, .mov (.t 7)⟩,
             ⟨(some 21), none, .ibin .add (.t 20) (.c (.int .i64 1))⟩,
             ⟨(some 7), none, .mov (.t 21)⟩]))))))
      (.seq
       (.seq
        (.reg [
          ⟨(some 31), none, .load true 4 (.t 6)⟩,
          ⟨(some 32), none, .call (.c (.fn 25 [] [])) [(.t 31)]⟩,
          ⟨(some 33), none, .un .not (.t 32)⟩])
        (.cond (.t 33)
         (.seq
          (.reg [
            ⟨(some 34), none, .build [(.int .i64 0), (.int .i64 0), (.int .i64 0), (.int .i64 0)] []⟩,
            ⟨none, none, .store 4 (.t 4) (.t 34)⟩,
            ⟨(some 5), none, .mov (.c (.int .i64 4))⟩])
          .ret)
         .skip))
       (.seq
        (.reg [
          ⟨(some 35), none, .load true 4 (.t 6)⟩,
          ⟨none, none, .store 4 (.t 4) (.t 35)⟩,
          ⟨(some 5), none, .mov (.c (.int .i64 0))⟩])
        .ret))))))⟩

-- quitrent/quitrentref01.Less
def F27 : AFun := ⟨24, 2, [.tmp 4],
  (.seq
   (.reg [
     ⟨(some 2), none, .box 4 (.t 0)⟩,
     ⟨(some 3), none, .box 4 (.t 1)⟩,
     ⟨(some 4), none, .mov (.c (.bool false))⟩])
   (.seq
    (.seq
     (.reg [
       ⟨(some 5), none, .mov (.c (.int .i64 0))⟩])
     (.block 0
      (.loop
       (.seq
        (.seq
         (.reg [
           ⟨(some 6), none, .mov (.t 5)⟩,
           ⟨(some 7), none, .ibin .lss (.t 6) (.c (.int .i64 4))⟩])
         (.cond (.t 7)
          .skip
          (.exit 0)))
        (.seq
         (.block 1
          (.seq
           (.draw [
             ⟨(some 10), none, .mov (.t 5)⟩,
             ⟨(some 11), none, .iaddrArr 4 1 (.t 2) (.t 10)⟩,
             ⟨(some 12), none, .load false 1 (.t 11)⟩,
             ⟨(some 13), none, .mov (.t 5)⟩,
             ⟨(some 14), none, .iaddrArr 4 1 (.t 3) (.t 13)⟩,
             ⟨(some 15), none, .load false 1 (.t 14)⟩,
             ⟨(some 16), none, .ibin .neq (.t 12) (.t 15)⟩]
             [[], [0], [1, 0], [], [3], [4, 3], [2, 5, 1, 0, 4, 3]])
           (.cond (.t 16)
            (.seq
             (.draw [
               ⟨(some 17), none, .mov (.t 5)⟩,
               ⟨(some 18), none, .iaddrArr 4 1 (.t 2) (.t 17)⟩,
               ⟨(some 19), none, .load false 1 (.t 18)⟩,
               ⟨(some 20), none, .mov (.t 5)⟩,
               ⟨(some 21), none, .iaddrArr 4 1 (.t 3) (.t 20)⟩,
               ⟨(some 22), none, .load false 1 (.t 21)⟩,
               ⟨(some 23), none, .ibin .lss (.t 19) (.t 22)⟩,
               ⟨(some 4), none, .mov (.t 23)⟩]
               [[], [0], [1, 0], [], [3], [4, 3], [2, 5, 1, 0, 4, 3], [6, 0, 1, 2, 3, 4, 5]])
             .ret)
            .skip)))
         (.reg [
           ⟨(some 8), none, .mov (.t 5)⟩,
           ⟨(some 9), none, .ibin .add (.t 8) (.c (.int .i64 1))⟩,
           ⟨(some 5), none, .mov (.t 9)⟩]))))))
    (.seq
     (.reg [
       ⟨(some 4), none, .mov (.c (.bool false))⟩])
     .ret)))⟩

theorem c48 : cFun Tryd.prog [0, 3] Tryd.f48 = some F48 := by kernel_rfl
theorem c50 : cFun Tryd.prog [0, 3] Tryd.f50 = some F50 := by kernel_rfl
theorem c18 : cFun Tryd.prog [0, 3] Tryd.f18 = some F18 := by kernel_rfl
theorem c49 : cFun Tryd.prog [0, 3] Tryd.f49 = some F49 := by kernel_rfl
theorem c17 : cFun Tryd.prog [0, 3] Tryd.f17 = some F17 := by kernel_rfl
theorem c20 : cFun Tryd.prog [0, 3] Tryd.f20 = some F20 := by kernel_rfl
theorem c51 : cFun Tryd.prog [0, 3] Tryd.f51 = some F51 := by kernel_rfl
theorem c19 : cFun Tryd.prog [0, 3] Tryd.f19 = some F19 := by kernel_rfl
theorem c28 : cFun Tryd.prog [0, 3] Tryd.f28 = some F28 := by kernel_rfl
theorem c22 : cFun Tryd.prog [0, 3] Tryd.f22 = some F22 := by kernel_rfl
theorem c23 : cFun Tryd.prog [0, 3] Tryd.f23 = some F23 := by kernel_rfl
theorem c27 : cFun Tryd.prog [0, 3] Tryd.f27 = some F27 := by kernel_rfl
end Go.Proofs.YtkbjfhkhbcgkgaaDoor.B33m
