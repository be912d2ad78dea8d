import Derived.Test.YtdjcpmdjodhfeaaDoorFVecA16
open Go AH
namespace Go.Proofs.YtdjcpmdjodhfeaaDoor.A16
-- (quitrent/fit.Spot).rest
def F34 : AFun := ⟨18, 2, [.cell 4 true 4, .tmp 5],
  (.seq
   (.reg [
     ⟨(some 2), none, .box 5 (.t 0)⟩,
     ⟨(some 3), none, .box 4 (.t 1)⟩,
     ⟨(some 4), none, .box 4 (.c (.agg [(.int .i64 0), (.int .i64 0), (.int .i64 0), (.int .i64 0)]))⟩,
     ⟨(some 5), none, .mov (.c (.bool false))⟩])
   (.seq
    (.reg [
      ⟨(some 9), none, .faddr 1 (.t 2)⟩,
      ⟨(some 10), none, .load true 4 (.t 9)⟩,
      ⟨(some 11), none, .load true 4 (.t 3)⟩,
      ⟨(some 12), none, .call (.c (.fn 51 [] [])) [(.t 10), (.t 11)]⟩,
      ⟨(some 8), none, .mov (.t 12)⟩,
      ⟨(some 13), none, .extract (.t 8) 0⟩,
      ⟨(some 14), none, .extract (.t 8) 1⟩,
      ⟨(some 6), none, .box 4 (.c (.agg [(.int .i64 0), (.int .i64 0), (.int .i64 0), (.int .i64 0)]))⟩,
      ⟨none, none, .store 4 (.t 6) (.t 13)⟩,
      ⟨(some 7), none, .mov (.t 14)⟩])
    (.seq
     (.draw [
       ⟨(some 15), none, .load true 4 (.t 6)⟩,
       ⟨(some 16), none, .mov (.t 7)⟩,
       ⟨(some 17), none, .eq false .iface true (.t 16) (.c .nili)⟩,
       ⟨none, none, .store 4 (.t 4) (.t 15)⟩,
       ⟨(some 5), none, .mov (.t 17)⟩]
       [[], [], [1], [0], [2, 3, 0, 1]])
     .ret)))⟩

-- quitrent/fit.better
def F50 : AFun := ⟨24, 4, [.tmp 8],
  (.seq
   (.reg [
     ⟨(some 4), none, .box 5 (.t 0)⟩,
     ⟨(some 5), none, .box 4 (.t 1)⟩,
     ⟨(some 6), none, .box 5 (.t 2)⟩,
     ⟨(some 7), none, .box 4 (.t 3)⟩,
     ⟨(some 8), none, .mov (.c (.bool false))⟩])
   (.seq
    (.reg [
      ⟨(some 9), none, .load true 4 (.t 5)⟩,
      ⟨(some 10), none, .load true 4 (.t 7)⟩,
      ⟨(some 11), none, .call (.c (.fn 58 [] [])) [(.t 9), (.t 10)]⟩,
      ⟨(some 12), none, .mov (.t 11)⟩,
      ⟨(some 13), (some (12, false)), .load true 4 (.t 5)⟩,
      ⟨(some 14), (some (12, false)), .load true 4 (.t 7)⟩,
      ⟨(some 15), (some (12, false)), .eq false (.flat [.int, .int, .int, .int]) false (.t 13) (.t 14)⟩,
      ⟨(some 16), (some (12, false)), .mov (.t 15)⟩,
      ⟨(some 17), (some (16, true)), .faddr 0 (.t 4)⟩,
      ⟨(some 18), (some (16, true)), .load false 1 (.t 17)⟩,
      ⟨(some 19), (some (16, true)), .faddr 0 (.t 6)⟩,
      ⟨(some 20), (some (16, true)), .load false 1 (.t 19)⟩,
      ⟨(some 21), (some (16, true)), .ibin .lss (.t 18) (.t 20)⟩,
      ⟨(some 22), (some (12, false)), .pick (.t 16) (.t 21) (.c (.bool false))⟩,
      ⟨(some 23), none, .pick (.t 12) (.c (.bool true)) (.t 22)⟩,
      ⟨(some 8), none, .mov (.t 23)⟩])
    .ret))⟩

-- quitrent/fit.best
def F32 : AFun := ⟨43, 2, [.tmp 4],
  (.seq
   (.reg [
     ⟨(some 3), none, .box 4 (.t 1)⟩,
     ⟨(some 4), none, .mov (.c (.int .i64 0))⟩])
   (.seq
    (.reg [
      ⟨(some 5), none, .mov (.c (.int .i64 (-1)))⟩])
    (.seq
     (.reg [
       ⟨(some 6), none, .box 4 (.c (.agg [(.int .i64 0), (.int .i64 0), (.int .i64 0), (.int .i64 0)]))⟩])
     (.seq
      (.seq
       (.reg [
         ⟨(some 11), none, .mov (.t 0)⟩,
         ⟨(some 12), none, .len .sl (.t 11)⟩,
         ⟨(some 13), none, .mov (.c (.int .i64 0))⟩])
       (.block 0
        (.loop
         (.seq
          (.reg [
            ⟨(some 14), none, .ibin .lss (.t 13) (.t 12)⟩])
          (.seq
           (.cond (.t 14)
            .skip
            (.exit 0))
           (.seq
            (.block 1
             (.seq
              (.reg [
                ⟨(some 15), none, .mov (.t 13)⟩,
                ⟨(some 16), none, .iaddrSl 5 (.t 11) (.t 13)⟩,
                ⟨(some 17), none, .load true 5 (.t 16)⟩,
                ⟨(some 8), none, .box 5 (.c (.agg [(.int .i64 0), (.int .i64 0), (.int .i64 0), (.int .i64 0), (.int .i64 0)]))⟩,
                ⟨(some 7), none, .mov (.t 15)⟩,
                ⟨none, none, .store 5 (.t 8) (.t 17)⟩])
              (.seq
               (.reg [
                 ⟨(some 19), none, .load true 5 (.t 8)⟩,
                 ⟨(some 20), none, .load true 4 (.t 3)⟩,
                 ⟨(some 21), none, .call (.c (.fn 34 [] [])) [(.t 19), (.t 20)]⟩,
                 ⟨(some 18), none, .mov (.t 21)⟩,
                 ⟨(some 22), none, .extract (.t 18) 0⟩,
                 ⟨(some 23), none, .extract (.t 18) 1⟩,
                 ⟨(some 9), none, .box 4 (.c (.agg [(.int .i64 0), (.int .i64 0), (.int .i64 0), (.int .i64 0)]))⟩,
                 ⟨none, none, .store 4 (.t 9) (.t 22)⟩,
                 ⟨(some 10), none, .mov (.t 23)⟩])
               (.seq
                (.draw [
                  ⟨(some 24), none, .mov (.t 10)⟩,
                  ⟨(some 25), none, .mov (.t 24)⟩,
                  ⟨(some 26), (some (25, true)), .mov (.t 5)⟩,
                  ⟨(some 27), (some (25, true)), .ibin .eql (.t 26) (.c (.int .i64 (-1)))⟩,
                  ⟨(some 28), (some (25, true)), .mov (.t 27)⟩,
                  ⟨(some 29), (some (28, false)), .load true 5 (.t 8)⟩,
                  ⟨(some 30), (some (28, false)), .load true 4 (.t 9)⟩,
                  ⟨(some 31), (some (28, false)), .mov (.t 0)⟩,
                  ⟨(some 32), (some (28, false)), .mov (.t 5)⟩,
                  ⟨(some 33), (some (28, false)), .iaddrSl 5 (.t 31) (.t 32)⟩,
                  ⟨(some 34), (some (28, false)), .load true 5 (.t 33)⟩,
                  ⟨(some 35), (some (28, false)), .load true 4 (.t 6)⟩,
                  ⟨(some 36), (some (28, false)), .call (.c (.fn 50 [] [])) [(.t 29), (.t 30), (.t 34), (.t 35)]⟩,
                  ⟨(some 37), (some (25, true)), .pick (.t 28) (.c (.bool true)) (.t 36)⟩,
                  ⟨(some 38), none, .pick (.t 25) (.t 37) (.c (.bool false))⟩]
                  [[], [0], [1, 0], [2, 1, 0], [3, 1, 2, 0], [4, 3, 1, 2, 0], [4, 3, 1, 2, 0], [4, 3, 1, 2, 0], [4, 3, 1, 2, 0], [7, 8, 4, 3, 1, 2, 0], [9, 4, 7, 8, 3, 1, 2, 0], [4, 3, 1, 2, 0], [5, 6, 10, 11, 4, 3, 1, 2, 0, 9, 7, 8], [4, 12, 1, 3, 2, 0, 5, 6, 10, 11, 9, 7, 8], [1, 13, 0, 4, 12, 3, 2, 5, 6, 10, 11, 9, 7, 8]])
                (.cond (.t 38)
                 (.draw [
                   ⟨(some 39), none, .mov (.t 7)⟩,
                   ⟨(some 40), none, .load true 4 (.t 9)⟩,
                   ⟨(some 5), none, .mov (.t 39)⟩,
                   ⟨none, none, .store 4 (.t 6) (.t 40)⟩]
                   [[], [], [0], [1, 2, 0]])
                 .skip)))))
            (.reg [
              ⟨(some 41), none, .ibin .add (.t 13) (.c (.int .i64 1))⟩,
              ⟨(some 13), none, .mov (.t 41)⟩])))))))
      (.seq
       (.reg [
         ⟨(some 42), none, .mov (.t 5)⟩,
         ⟨(some 4), none, .mov (.t 42)⟩])
       .ret)))))⟩

-- quitrent/fit.Best
def F10 : AFun := ⟨17, 2, [.tmp 4, .tmp 5],
  (.seq
   (.reg [
     ⟨(some 3), none, .box 4 (.t 1)⟩,
     ⟨(some 4), none, .mov (.c (.int .i64 0))⟩,
     ⟨(some 5), none, .mov (.c (.bool false))⟩])
   (.seq
    (.reg [
      ⟨(some 7), none, .mov (.t 0)⟩,
      ⟨(some 8), none, .load true 4 (.t 3)⟩,
      ⟨(some 9), none, .call (.c (.fn 32 [] [])) [(.t 7), (.t 8)]⟩,
      ⟨(some 6), none, .mov (.t 9)⟩])
    (.seq
     (.seq
      (.reg [
        ⟨(some 10), none, .mov (.t 6)⟩,
        ⟨(some 11), none, .ibin .eql (.t 10) (.c (.int .i64 (-1)))⟩])
      (.cond (.t 11)
       (.seq
        (.reg [
          ⟨(some 4), none, .mov (.c (.int .i64 0))⟩,
          ⟨(some 5), none, .mov (.c (.bool false))⟩])
        .ret)
       .skip))
     (.seq
      (.reg [
        ⟨(some 12), none, .mov (.t 0)⟩,
        ⟨(some 13), none, .mov (.t 6)⟩,
        ⟨(some 14), none, .iaddrSl 5 (.t 12) (.t 13)⟩,
        ⟨(some 15), none, .faddr 0 (.t 14)⟩,
        ⟨(some 16), none, .load false 1 (.t 15)⟩,
        ⟨(some 4), none, .mov (.t 16)⟩,
        ⟨(some 5), none, .mov (.c (.bool true))⟩])
      .ret))))⟩

-- slices.Clone[[]quitrent/fit.Spot,quitrent/fit.Spot]
def F33 : AFun := ⟨8, 1, [.tmp 2],
  (.seq
   (.reg [
     ⟨(some 2), none, .mov (.c .nils)⟩])
   (.seq
    (.seq
     (.reg [
       ⟨(some 3), none, .mov (.t 0)⟩,
       ⟨(some 4), none, .eq false .slice true (.t 3) (.c .nils)⟩])
     (.cond (.t 4)
      (.seq
       (.reg [
         ⟨(some 2), none, .mov (.c .nils)⟩])
       .ret)
      .skip))
    (.seq
     (.reg [
       ⟨(some 5), none, .bslice 5 0 [(.int .i64 0), (.int .i64 0), (.int .i64 0), (.int .i64 0), (.int .i64 0)] []⟩,
       ⟨(some 6), none, .mov (.t 0)⟩,
       ⟨(some 7), none, .append 5 40 [(.int .i64 0), (.int .i64 0), (.int .i64 0), (.int .i64 0), (.int .i64 0)] (.t 5) (.t 6)⟩,
       ⟨(some 2), none, .mov (.t 7)⟩])
     .ret)))⟩

-- quitrent/fit.All
def F11 : AFun := ⟨48, 2, [.tmp 4, .tmp 5],
  (.seq
   (.reg [
     ⟨(some 4), none, .mov (.c .nils)⟩,
     ⟨(some 5), none, .mov (.c (.int .i64 0))⟩])
   (.seq
    (.reg [
      ⟨(some 10), none, .mov (.t 0)⟩,
      ⟨(some 11), none, .call (.c (.fn 33 [] [])) [(.t 10)]⟩,
      ⟨(some 0), none, .mov (.t 11)⟩])
    (.seq
     (.reg [
       ⟨(some 6), none, .mov (.c .nils)⟩])
     (.seq
      (.seq
       (.reg [
         ⟨(some 12), none, .mov (.t 1)⟩,
         ⟨(some 13), none, .len .sl (.t 12)⟩,
         ⟨(some 14), none, .mov (.c (.int .i64 0))⟩])
       (.block 0
        (.loop
         (.seq
          (.reg [
            ⟨(some 15), none, .ibin .lss (.t 14) (.t 13)⟩])
          (.seq
           (.cond (.t 15)
            .skip
            (.exit 0))
           (.seq
            (.block 1
             (.seq
              (.reg [
                ⟨(some 16), none, .mov (.t 14)⟩,
                ⟨(some 17), none, .iaddrSl 4 (.t 12) (.t 14)⟩,
                ⟨(some 18), none, .load true 4 (.t 17)⟩,
                ⟨(some 8), none, .box 4 (.c (.agg [(.int .i64 0), (.int .i64 0), (.int .i64 0), (.int .i64 0)]))⟩,
                ⟨(some 7), none, .mov (.t 16)⟩,
                ⟨none, none, .store 4 (.t 8) (.t 18)⟩])
              (.seq
               (.reg [
                 ⟨(some 19), none, .mov (.t 0)⟩,
                 ⟨(some 20), none, .load true 4 (.t 8)⟩,
                 ⟨(some 21), none, .call (.c (.fn 32 [] [])) [(.t 19), (.t 20)]⟩,
                 ⟨(some 9), none, .mov (.t 21)⟩])
               (.seq
                (.seq
                 (.reg [
                   ⟨(some 22), none, .mov (.t 9)⟩,
                   ⟨(some 23), none, .ibin .eql (.t 22) (.c (.int .i64 (-1)))⟩])
                 (.cond (.t 23)
                  (.seq
                   (.reg [
                     ⟨(some 24), none, .mov (.t 7)⟩,
                     ⟨(some 4), none, .mov (.c .nils)⟩,
                     ⟨(some 5), none, .mov (.t 24)⟩])
                   .ret)
                  .skip))
                (.seq
                 (.draw [
                   ⟨(some 26), none, .mov (.t 0)⟩,
                   ⟨(some 27), none, .mov (.t 9)⟩,
                   ⟨(some 28), none, .mov (.t 0)⟩,
                   ⟨(some 29), none, .mov (.t 9)⟩,
                   ⟨(some 30), none, .iaddrSl 5 (.t 28) (.t 29)⟩,
                   ⟨(some 31), none, .load true 5 (.t 30)⟩,
                   ⟨(some 32), none, .load true 4 (.t 8)⟩,
                   ⟨(some 33), none, .call (.c (.fn 34 [] [])) [(.t 31), (.t 32)]⟩,
                   ⟨(some 25), none, .mov (.t 33)⟩,
                   ⟨(some 34), none, .extract (.t 25) 0⟩,
                   ⟨(some 35), none, .extract (.t 25) 1⟩,
                   ⟨(some 36), none, .iaddrSl 5 (.t 26) (.t 27)⟩,
                   ⟨(some 37), none, .faddr 1 (.t 36)⟩,
                   ⟨none, none, .store 4 (.t 37) (.t 34)⟩]
                   [[], [], [], [], [2, 3], [4, 2, 3], [], [5, 6, 4, 2, 3], [7, 5, 6, 4, 2, 3], [8, 7, 5, 6, 4, 2, 3], [8, 7, 5, 6, 4, 2, 3], [0, 1, 2, 3, 4, 5, 6, 7, 8, 9], [11, 0, 1, 2, 3, 4, 5, 6, 7, 8, 9], [12, 9, 7, 0, 1, 2, 3, 4, 5, 6, 8, 11]])
                 (.reg [
                   ⟨(some 38), none, .mov (.t 6)⟩,
                   ⟨(some 39), none, .mov (.t 0)⟩,
                   ⟨(some 40), none, .mov (.t 9)⟩,
                   ⟨(some 41), none, .iaddrSl 5 (.t 39) (.t 40)⟩,
                   ⟨(some 42), none, .faddr 0 (.t 41)⟩,
                   ⟨(some 43), none, .load false 1 (.t 42)⟩,
                   ⟨(some 44), none, .bslice 1 1 [(.int .i64 0)] [(0, 1, (.t 43))]⟩,
                   ⟨(some 45), none, .append 1 8 [(.int .i64 0)] (.t 38) (.t 44)⟩,
                   ⟨(some 6), none, .mov (.t 45)⟩]))))))
            (.reg [
              ⟨(some 46), none, .ibin .add (.t 14) (.c (.int .i64 1))⟩,
              ⟨(some 14), none, .mov (.t 46)⟩])))))))
      (.seq
       (.reg [
         ⟨(some 47), none, .mov (.t 6)⟩,
         ⟨(some 4), none, .mov (.t 47)⟩,
         ⟨(some 5), none, .mov (.c (.int .i64 (-1)))⟩])
       .ret)))))⟩

-- quitrent/fit.Rest
def F17 : AFun := ⟨48, 3, [.tmp 6],
  (.seq
   (.reg [
     ⟨(some 4), none, .box 1 (.t 1)⟩,
     ⟨(some 6), none, .mov (.c .nils)⟩])
   (.seq
    (.reg [
      ⟨(some 10), none, .mov (.t 0)⟩,
      ⟨(some 11), none, .call (.c (.fn 33 [] [])) [(.t 10)]⟩,
      ⟨(some 0), none, .mov (.t 11)⟩])
    (.seq
     (.seq
      (.reg [
        ⟨(some 12), none, .mov (.t 2)⟩,
        ⟨(some 13), none, .mov (.t 2)⟩,
        ⟨(some 14), none, .len .sl (.t 13)⟩,
        ⟨(some 15), none, .load false 1 (.t 4)⟩,
        ⟨(some 16), none, .len .sl (.t 15)⟩,
        ⟨(some 17), none, .minmax false [(.t 14), (.t 16)]⟩,
        ⟨(some 18), none, .slice 1 (.t 12) none (some (.t 17)) none⟩,
        ⟨(some 19), none, .len .sl (.t 18)⟩,
        ⟨(some 20), none, .mov (.c (.int .i64 0))⟩])
      (.block 0
       (.loop
        (.seq
         (.reg [
           ⟨(some 21), none, .ibin .lss (.t 20) (.t 19)⟩])
         (.seq
          (.cond (.t 21)
           .skip
           (.exit 0))
          (.seq
           (.block 1
            (.seq
             (.reg [
               ⟨(some 22), none, .mov (.t 20)⟩,
               ⟨(some 23), none, .iaddrSl 1 (.t 18) (.t 20)⟩,
               ⟨(some 24), none, .load false 1 (.t 23)⟩,
               ⟨(some 7), none, .box 1 (.c (.int .i64 0))⟩,
               ⟨(some 8), none, .box 1 (.c (.int .i64 0))⟩,
               ⟨none, none, .store 1 (.t 7) (.t 22)⟩,
               ⟨none, none, .store 1 (.t 8) (.t 24)⟩])
             (.seq
              (.reg [
                ⟨(some 25), none, .mov (.t 0)⟩,
                ⟨(some 26), none, .mkfn 40 [] [(.t 4), (.t 7), (.t 8)]⟩,
                ⟨(some 27), none, .call (.c (.fn 39 [] [])) [(.t 25), (.t 26)]⟩,
                ⟨(some 9), none, .mov (.t 27)⟩])
              (.seq
               (.reg [
                 ⟨(some 28), none, .mov (.t 9)⟩,
                 ⟨(some 29), none, .ibin .geq (.t 28) (.c (.int .i64 0))⟩])
               (.cond (.t 29)
                (.draw [
                  ⟨(some 31), none, .mov (.t 0)⟩,
                  ⟨(some 32), none, .mov (.t 9)⟩,
                  ⟨(some 33), none, .mov (.t 0)⟩,
                  ⟨(some 34), none, .mov (.t 9)⟩,
                  ⟨(some 35), none, .iaddrSl 5 (.t 33) (.t 34)⟩,
                  ⟨(some 36), none, .load true 5 (.t 35)⟩,
                  ⟨(some 37), none, .load false 1 (.t 4)⟩,
                  ⟨(some 38), none, .load false 1 (.t 7)⟩,
                  ⟨(some 39), none, .iaddrSl 4 (.t 37) (.t 38)⟩,
                  ⟨(some 40), none, .load true 4 (.t 39)⟩,
                  ⟨(some 41), none, .call (.c (.fn 34 [] [])) [(.t 36), (.t 40)]⟩,
                  ⟨(some 30), none, .mov (.t 41)⟩,
                  ⟨(some 42), none, .extract (.t 30) 0⟩,
                  ⟨(some 43), none, .extract (.t 30) 1⟩,
                  ⟨(some 44), none, .iaddrSl 5 (.t 31) (.t 32)⟩,
                  ⟨(some 45), none, .faddr 1 (.t 44)⟩,
                  ⟨none, none, .store 4 (.t 45) (.t 42)⟩]
                  [[], [], [], [], [2, 3], [4, 2, 3], [], [], [6, 7], [8, 6, 7], [5, 9, 4, 2, 3, 8, 6, 7], [10, 5, 9, 4, 2, 3, 8, 6, 7], [11, 10, 5, 9, 4, 2, 3, 8, 6, 7], [11, 10, 5, 9, 4, 2, 3, 8, 6, 7], [0, 1, 2, 3, 4, 5, 6, 7, 8, 9, 10, 11, 12], [14, 0, 1, 2, 3, 4, 5, 6, 7, 8, 9, 10, 11, 12], [15, 12, 10, 0, 1, 2, 3, 4, 5, 6, 7, 8, 9, 11, 14]])
                .skip)))))
           (.reg [
             ⟨(some 46), none, .ibin .add (.t 20) (.c (.int .i64 1))⟩,
             ⟨(some 20), none, .mov (.t 46)⟩])))))))
     (.seq
      (.reg [
        ⟨(some 47), none, .mov (.t 0)⟩,
        ⟨(some 6), none, .mov (.t 47)⟩])
      .ret))))⟩

-- quitrent/fit.Rest$1
def F40 : AFun := ⟨24, 4, [.tmp 5],
  (.seq
   (.reg [
     ⟨(some 4), none, .box 5 (.t 0)⟩,
     ⟨(some 5), none, .mov (.c (.bool false))⟩])
   (.seq
    (.draw [
      ⟨(some 9), none, .load true 5 (.t 4)⟩,
      ⟨(some 10), none, .load false 1 (.t 1)⟩,
      ⟨(some 11), none, .load false 1 (.t 2)⟩,
      ⟨(some 12), none, .iaddrSl 4 (.t 10) (.t 11)⟩,
      ⟨(some 13), none, .load true 4 (.t 12)⟩,
      ⟨(some 14), none, .call (.c (.fn 34 [] [])) [(.t 9), (.t 13)]⟩,
      ⟨(some 8), none, .mov (.t 14)⟩,
      ⟨(some 15), none, .extract (.t 8) 0⟩,
      ⟨(some 16), none, .extract (.t 8) 1⟩,
      ⟨(some 6), none, .box 4 (.c (.agg [(.int .i64 0), (.int .i64 0), (.int .i64 0), (.int .i64 0)]))⟩,
      ⟨none, none, .store 4 (.t 6) (.t 15)⟩,
      ⟨(some 7), none, .mov (.t 16)⟩]
      [[], [], [], [1, 2], [3, 1, 2], [0, 4, 3, 1, 2], [5, 0, 4, 3, 1, 2], [6, 5, 0, 4, 3, 1, 2], [6, 5, 0, 4, 3, 1, 2], [], [9, 7, 5, 0, 1, 2, 3, 4, 6], [8, 10, 0, 1, 2, 3, 4, 5, 6, 7, 9]])
    (.seq
     (.reg [
       ⟨(some 17), none, .mov (.t 7)⟩,
       ⟨(some 18), none, .mov (.t 17)⟩,
       ⟨(some 19), (some (18, true)), .faddr 0 (.t 4)⟩,
       ⟨(some 20), (some (18, true)), .load false 1 (.t 19)⟩,
       ⟨(some 21), (some (18, true)), .load false 1 (.t 3)⟩,
       ⟨(some 22), (some (18, true)), .ibin .eql (.t 20) (.t 21)⟩,
       ⟨(some 23), none, .pick (.t 18) (.t 22) (.c (.bool false))⟩,
       ⟨(some 5), none, .mov (.t 23)⟩])
     .ret)))⟩

-- slices.IndexFunc[[]quitrent/fit.Spot,quitrent/fit.Spot]
def F39 : AFun := ⟨19, 2, [.tmp 4],
  (.seq
   (.reg [
     ⟨(some 4), none, .mov (.c (.int .i64 0))⟩])
   (.seq
    (.seq
     (.reg [
       ⟨(some 6), none, .mov (.t 0)⟩,
       ⟨(some 7), none, .len .sl (.t 6)⟩,
       ⟨(some 8), none, .mov (.c (.int .i64 0))⟩])
     (.block 0
      (.loop
       (.seq
        (.reg [
          ⟨(some 9), none, .ibin .lss (.t 8) (.t 7)⟩])
        (.seq
         (.cond (.t 9)
          .skip
          (.exit 0))
         (.seq
          (.block 1
           (.seq
            (.reg [
              ⟨(some 10), none, .mov (.t 8)⟩,
              ⟨(some 5), none, .mov (.t 10)⟩])
            (.seq
             (.reg [
               ⟨(some 11), none, .mov (.t 1)⟩,
               ⟨(some 12), none, .mov (.t 0)⟩,
               ⟨(some 13), none, .mov (.t 5)⟩,
               ⟨(some 14), none, .iaddrSl 5 (.t 12) (.t 13)⟩,
               ⟨(some 15), none, .load true 5 (.t 14)⟩,
               ⟨(some 16), none, .call (.t 11) [(.t 15)]⟩])
             (.cond (.t 16)
              (.seq
               (.reg [
                 ⟨(some 17), none, .mov (.t 5)⟩,
                 ⟨(some 4), none, .mov (.t 17)⟩])
               .ret)
              .skip))))
          (.reg [
            ⟨(some 18), none, .ibin .add (.t 8) (.c (.int .i64 1))⟩,
            ⟨(some 8), none, .mov (.t 18)⟩])))))))
    (.seq
     (.reg [
       ⟨(some 4), none, .mov (.c (.int .i64 (-1)))⟩])
     .ret)))⟩

-- quitrent/quitrentref16.fits
def F37 : AFun := ⟨18, 2, [.cell 4 true 4, .tmp 5],
  (.seq
   (.reg [
     ⟨(some 2), none, .box 5 (.t 0)⟩,
     ⟨(some 3), none, .box 4 (.t 1)⟩,
     ⟨(some 4), none, .box 4 (.c (.agg [(.int .i64 0), (.int .i64 0), (.int .i64 0), (.int .i64 0)]))⟩,
     ⟨(some 5), none, .mov (.c (.bool false))⟩])
   (.seq
    (.reg [
      ⟨(some 9), none, .faddr 1 (.t 2)⟩,
      ⟨(some 10), none, .load true 4 (.t 9)⟩,
      ⟨(some 11), none, .load true 4 (.t 3)⟩,
      ⟨(some 12), none, .call (.c (.fn 53 [] [])) [(.t 10), (.t 11)]⟩,
      ⟨(some 8), none, .mov (.t 12)⟩,
      ⟨(some 13), none, .extract (.t 8) 0⟩,
      ⟨(some 14), none, .extract (.t 8) 1⟩,
      ⟨(some 6), none, .box 4 (.c (.agg [(.int .i64 0), (.int .i64 0), (.int .i64 0), (.int .i64 0)]))⟩,
      ⟨none, none, .store 4 (.t 6) (.t 13)⟩,
      ⟨(some 7), none, .mov (.t 14)⟩])
    (.seq
     (.reg [
       ⟨(some 15), none, .load true 4 (.t 6)⟩,
       ⟨(some 16), none, .mov (.t 7)⟩,
       ⟨(some 17), none, .ibin .eql (.t 16) (.c (.int .i64 0))⟩,
       ⟨none, none, .store 4 (.t 4) (.t 15)⟩,
       ⟨(some 5), none, .mov (.t 17)⟩])
     .ret)))⟩

-- quitrent/quitrentref16.At
def F15 : AFun := ⟨63, 2, [.tmp 4],
  (.seq
   (.reg [
     ⟨(some 3), none, .box 4 (.t 1)⟩,
     ⟨(some 4), none, .mov (.c (.int .i64 0))⟩])
   (.seq
    (.reg [
      ⟨(some 5), none, .mov (.c (.int .i64 (-1)))⟩])
    (.seq
     (.seq
      (.reg [
        ⟨(some 6), none, .mov (.c (.int .i64 0))⟩])
      (.block 0
       (.loop
        (.seq
         (.seq
          (.reg [
            ⟨(some 11), none, .mov (.t 6)⟩,
            ⟨(some 12), none, .mov (.t 0)⟩,
            ⟨(some 13), none, .len .sl (.t 12)⟩,
            ⟨(some 14), none, .ibin .lss (.t 11) (.t 13)⟩])
          (.cond (.t 14)
           .skip
           (.exit 0)))
         (.seq
          (.block 1
           (.seq
            (.draw [
              ⟨(some 18), none, .mov (.t 0)⟩,
              ⟨(some 19), none, .mov (.t 6)⟩,
              ⟨(some 20), none, .iaddrSl 5 (.t 18) (.t 19)⟩,
              ⟨(some 21), none, .load true 5 (.t 20)⟩,
              ⟨(some 22), none, .load true 4 (.t 3)⟩,
              ⟨(some 23), none, .call (.c (.fn 37 [] [])) [(.t 21), (.t 22)]⟩,
              ⟨(some 17), none, .mov (.t 23)⟩,
              ⟨(some 24), none, .extract (.t 17) 0⟩,
              ⟨(some 25), none, .extract (.t 17) 1⟩,
              ⟨(some 7), none, .box 4 (.c (.agg [(.int .i64 0), (.int .i64 0), (.int .i64 0), (.int .i64 0)]))⟩,
              ⟨none, none, .store 4 (.t 7) (.t 24)⟩,
              ⟨(some 8), none, .mov (.t 25)⟩]
              [[], [], [0, 1], [2, 0, 1], [], [3, 4, 2, 0, 1], [5, 3, 4, 2, 0, 1], [6, 5, 3, 4, 2, 0, 1], [6, 5, 3, 4, 2, 0, 1], [], [9, 7, 5, 0, 1, 2, 3, 4, 6], [8, 10, 0, 1, 2, 3, 4, 5, 6, 7, 9]])
            (.seq
             (.seq
              (.reg [
                ⟨(some 26), none, .mov (.t 8)⟩,
                ⟨(some 27), none, .un .not (.t 26)⟩])
              (.cond (.t 27)
               (.exit 1)
               .skip))
             (.seq
              (.seq
               (.reg [
                 ⟨(some 28), none, .mov (.t 5)⟩,
                 ⟨(some 29), none, .ibin .lss (.t 28) (.c (.int .i64 0))⟩])
               (.cond (.t 29)
                (.seq
                 (.reg [
                   ⟨(some 30), none, .mov (.t 6)⟩,
                   ⟨(some 5), none, .mov (.t 30)⟩])
                 (.exit 1))
                .skip))
              (.seq
               (.draw [
                 ⟨(some 32), none, .mov (.t 0)⟩,
                 ⟨(some 33), none, .mov (.t 5)⟩,
                 ⟨(some 34), none, .iaddrSl 5 (.t 32) (.t 33)⟩,
                 ⟨(some 35), none, .load true 5 (.t 34)⟩,
                 ⟨(some 36), none, .load true 4 (.t 3)⟩,
                 ⟨(some 37), none, .call (.c (.fn 37 [] [])) [(.t 35), (.t 36)]⟩,
                 ⟨(some 31), none, .mov (.t 37)⟩,
                 ⟨(some 38), none, .extract (.t 31) 0⟩,
                 ⟨(some 39), none, .extract (.t 31) 1⟩,
                 ⟨(some 9), none, .box 4 (.c (.agg [(.int .i64 0), (.int .i64 0), (.int .i64 0), (.int .i64 0)]))⟩,
                 ⟨none, none, .store 4 (.t 9) (.t 38)⟩,
                 ⟨(some 10), none, .mov (.t 39)⟩]
                 [[], [], [0, 1], [2, 0, 1], [], [3, 4, 2, 0, 1], [5, 3, 4, 2, 0, 1], [6, 5, 3, 4, 2, 0, 1], [6, 5, 3, 4, 2, 0, 1], [], [9, 7, 5, 0, 1, 2, 3, 4, 6], [8, 10, 0, 1, 2, 3, 4, 5, 6, 7, 9]])
               (.seq
                (.draw [
                  ⟨(some 40), none, .load true 4 (.t 7)⟩,
                  ⟨(some 41), none, .load true 4 (.t 9)⟩,
                  ⟨(some 42), none, .call (.c (.fn 38 [] [])) [(.t 40), (.t 41)]⟩,
                  ⟨(some 43), none, .mov (.t 42)⟩,
                  ⟨(some 44), (some (43, false)), .load true 4 (.t 7)⟩,
                  ⟨(some 45), (some (43, false)), .load true 4 (.t 9)⟩,
                  ⟨(some 46), (some (43, false)), .eq false (.flat [.int, .int, .int, .int]) false (.t 44) (.t 45)⟩,
                  ⟨(some 47), (some (43, false)), .mov (.t 46)⟩,
                  ⟨(some 48), (some (47, true)), .mov (.t 0)⟩,
                  ⟨(some 49), (some (47, true)), .mov (.t 6)⟩,
                  ⟨(some 50), (some (47, true)), .iaddrSl 5 (.t 48) (.t 49)⟩,
                  ⟨(some 51), (some (47, true)), .faddr 0 (.t 50)⟩,
                  ⟨(some 52), (some (47, true)), .load false 1 (.t 51)⟩,
                  ⟨(some 53), (some (47, true)), .mov (.t 0)⟩,
                  ⟨(some 54), (some (47, true)), .mov (.t 5)⟩,
                  ⟨(some 55), (some (47, true)), .iaddrSl 5 (.t 53) (.t 54)⟩,
                  ⟨(some 56), (some (47, true)), .faddr 0 (.t 55)⟩,
                  ⟨(some 57), (some (47, true)), .load false 1 (.t 56)⟩,
                  ⟨(some 58), (some (47, true)), .ibin .lss (.t 52) (.t 57)⟩,
                  ⟨(some 59), (some (43, false)), .pick (.t 47) (.t 58) (.c (.bool false))⟩,
                  ⟨(some 60), none, .pick (.t 43) (.c (.bool true)) (.t 59)⟩]
                  [[], [], [0, 1], [2, 0, 1], [3, 2, 0, 1], [3, 2, 0, 1], [4, 5, 3, 2, 0, 1], [6, 3, 4, 5, 2, 0, 1], [7, 6, 3, 4, 5, 2, 0, 1], [7, 6, 3, 4, 5, 2, 0, 1], [8, 9, 7, 6, 3, 4, 5, 2, 0, 1], [10, 7, 8, 9, 6, 3, 4, 5, 2, 0, 1], [11, 7, 10, 8, 9, 6, 3, 4, 5, 2, 0, 1], [7, 6, 3, 4, 5, 2, 0, 1], [7, 6, 3, 4, 5, 2, 0, 1], [13, 14, 7, 6, 3, 4, 5, 2, 0, 1], [15, 7, 13, 14, 6, 3, 4, 5, 2, 0, 1], [16, 7, 15, 13, 14, 6, 3, 4, 5, 2, 0, 1], [12, 17, 7, 11, 10, 8, 9, 6, 3, 4, 5, 2, 0, 1, 16, 15, 13, 14], [7, 18, 3, 6, 4, 5, 2, 0, 1, 12, 17, 11, 10, 8, 9, 16, 15, 13, 14], [3, 19, 2, 0, 1, 7, 18, 6, 4, 5, 12, 17, 11, 10, 8, 9, 16, 15, 13, 14]])
                (.cond (.t 60)
                 (.reg [
                   ⟨(some 61), none, .mov (.t 6)⟩,
                   ⟨(some 5), none, .mov (.t 61)⟩])
                 .skip)))))))
          (.reg [
            ⟨(some 15), none, .mov (.t 6)⟩,
            ⟨(some 16), none, .ibin .add (.t 15) (.c (.int .i64 1))⟩,
            ⟨(some 6), none, .mov (.t 16)⟩]))))))
     (.seq
      (.reg [
        ⟨(some 62), none, .mov (.t 5)⟩,
        ⟨(some 4), none, .mov (.t 62)⟩])
      .ret))))⟩

-- quitrent/quitrentref16.All
def F16 : AFun := ⟨54, 2, [.tmp 4, .tmp 5],
  (.seq
   (.reg [
     ⟨(some 4), none, .mov (.c .nils)⟩,
     ⟨(some 5), none, .mov (.c (.int .i64 0))⟩])
   (.seq
    (.reg [
      ⟨(some 10), none, .bslice 5 0 [(.int .i64 0), (.int .i64 0), (.int .i64 0), (.int .i64 0), (.int .i64 0)] []⟩,
      ⟨(some 11), none, .mov (.t 0)⟩,
      ⟨(some 12), none, .append 5 40 [(.int .i64 0), (.int .i64 0), (.int .i64 0), (.int .i64 0), (.int .i64 0)] (.t 10) (.t 11)⟩,
      ⟨(some 6), none, .mov (.t 12)⟩])
    (.seq
     (.reg [
       ⟨(some 13), none, .bslice 1 0 [(.int .i64 0)] []⟩,
       ⟨(some 7), none, .mov (.t 13)⟩])
     (.seq
      (.seq
       (.reg [
         ⟨(some 8), none, .mov (.c (.int .i64 0))⟩])
       (.block 0
        (.loop
         (.seq
          (.seq
           (.reg [
             ⟨(some 14), none, .mov (.t 8)⟩,
             ⟨(some 15), none, .mov (.t 1)⟩,
             ⟨(some 16), none, .len .sl (.t 15)⟩,
             ⟨(some 17), none, .ibin .lss (.t 14) (.t 16)⟩])
           (.cond (.t 17)
            .skip
            (.exit 0)))
          (.seq
           (.block 1
            (.seq
             (.reg [
               ⟨(some 20), none, .mov (.t 6)⟩,
               ⟨(some 21), none, .mov (.t 1)⟩,
               ⟨(some 22), none, .mov (.t 8)⟩,
               ⟨(some 23), none, .iaddrSl 4 (.t 21) (.t 22)⟩,
               ⟨(some 24), none, .load true 4 (.t 23)⟩,
               ⟨(some 25), none, .call (.c (.fn 15 [] [])) [(.t 20), (.t 24)]⟩,
               ⟨(some 9), none, .mov (.t 25)⟩])
             (.seq
              (.seq
               (.reg [
                 ⟨(some 26), none, .mov (.t 9)⟩,
                 ⟨(some 27), none, .ibin .lss (.t 26) (.c (.int .i64 0))⟩])
               (.cond (.t 27)
                (.seq
                 (.reg [
                   ⟨(some 28), none, .mov (.t 8)⟩,
                   ⟨(some 4), none, .mov (.c .nils)⟩,
                   ⟨(some 5), none, .mov (.t 28)⟩])
                 .ret)
                .skip))
              (.seq
               (.draw [
                 ⟨(some 30), none, .mov (.t 6)⟩,
                 ⟨(some 31), none, .mov (.t 9)⟩,
                 ⟨(some 32), none, .mov (.t 6)⟩,
                 ⟨(some 33), none, .mov (.t 9)⟩,
                 ⟨(some 34), none, .iaddrSl 5 (.t 32) (.t 33)⟩,
                 ⟨(some 35), none, .load true 5 (.t 34)⟩,
                 ⟨(some 36), none, .mov (.t 1)⟩,
                 ⟨(some 37), none, .mov (.t 8)⟩,
                 ⟨(some 38), none, .iaddrSl 4 (.t 36) (.t 37)⟩,
                 ⟨(some 39), none, .load true 4 (.t 38)⟩,
                 ⟨(some 40), none, .call (.c (.fn 37 [] [])) [(.t 35), (.t 39)]⟩,
                 ⟨(some 29), none, .mov (.t 40)⟩,
                 ⟨(some 41), none, .extract (.t 29) 0⟩,
                 ⟨(some 42), none, .extract (.t 29) 1⟩,
                 ⟨(some 43), none, .iaddrSl 5 (.t 30) (.t 31)⟩,
                 ⟨(some 44), none, .faddr 1 (.t 43)⟩,
                 ⟨none, none, .store 4 (.t 44) (.t 41)⟩]
                 [[], [], [], [], [2, 3], [4, 2, 3], [], [], [6, 7], [8, 6, 7], [5, 9, 4, 2, 3, 8, 6, 7], [10, 5, 9, 4, 2, 3, 8, 6, 7], [11, 10, 5, 9, 4, 2, 3, 8, 6, 7], [11, 10, 5, 9, 4, 2, 3, 8, 6, 7], [0, 1, 2, 3, 4, 5, 6, 7, 8, 9, 10, 11, 12], [14, 0, 1, 2, 3, 4, 5, 6, 7, 8, 9, 10, 11, 12], [15, 12, 10, 0, 1, 2, 3, 4, 5, 6, 7, 8, 9, 11, 14]])
               (.reg [
                 ⟨(some 45), none, .mov (.t 7)⟩,
                 ⟨(some 46), none, .mov (.t 6)⟩,
                 ⟨(some 47), none, .mov (.t 9)⟩,
                 ⟨(some 48), none, .iaddrSl 5 (.t 46) (.t 47)⟩,
                 ⟨(some 49), none, .faddr 0 (.t 48)⟩,
                 ⟨(some 50), none, .load false 1 (.t 49)⟩,
                 ⟨(some 51), none, .bslice 1 1 [(.int .i64 0)] [(0, 1, (.t 50))]⟩,
                 ⟨(some 52), none, .append 1 8 [(.int .i64 0)] (.t 45) (.t 51)⟩,
                 ⟨(some 7), none, .mov (.t 52)⟩])))))
           (.reg [
             ⟨(some 18), none, .mov (.t 8)⟩,
             ⟨(some 19), none, .ibin .add (.t 18) (.c (.int .i64 1))⟩,
             ⟨(some 8), none, .mov (.t 19)⟩]))))))
      (.seq
       (.reg [
         ⟨(some 53), none, .mov (.t 7)⟩,
         ⟨(some 4), none, .mov (.t 53)⟩,
         ⟨(some 5), none, .mov (.c (.int .i64 (-1)))⟩])
       .ret)))))⟩

-- quitrent/quitrentref16.Rest
def F18 : AFun := ⟨64, 3, [.tmp 6],
  (.seq
   (.reg [
     ⟨(some 6), none, .mov (.c .nils)⟩])
   (.seq
    (.reg [
      ⟨(some 12), none, .bslice 5 0 [(.int .i64 0), (.int .i64 0), (.int .i64 0), (.int .i64 0), (.int .i64 0)] []⟩,
      ⟨(some 13), none, .mov (.t 0)⟩,
      ⟨(some 14), none, .append 5 40 [(.int .i64 0), (.int .i64 0), (.int .i64 0), (.int .i64 0), (.int .i64 0)] (.t 12) (.t 13)⟩,
      ⟨(some 7), none, .mov (.t 14)⟩])
    (.seq
     (.seq
      (.reg [
        ⟨(some 8), none, .mov (.c (.int .i64 0))⟩])
      (.block 0
       (.loop
        (.seq
         (.seq
          (.reg [
            ⟨(some 15), none, .mov (.t 8)⟩,
            ⟨(some 16), none, .mov (.t 2)⟩,
            ⟨(some 17), none, .len .sl (.t 16)⟩,
            ⟨(some 18), none, .ibin .lss (.t 15) (.t 17)⟩,
            ⟨(some 19), none, .mov (.t 18)⟩,
            ⟨(some 20), (some (19, true)), .mov (.t 8)⟩,
            ⟨(some 21), (some (19, true)), .mov (.t 1)⟩,
            ⟨(some 22), (some (19, true)), .len .sl (.t 21)⟩,
            ⟨(some 23), (some (19, true)), .ibin .lss (.t 20) (.t 22)⟩,
            ⟨(some 24), none, .pick (.t 19) (.t 23) (.c (.bool false))⟩])
          (.cond (.t 24)
           .skip
           (.exit 0)))
         (.seq
          (.block 1
           (.seq
            (.reg [
              ⟨(some 9), none, .mov (.c (.int .i64 0))⟩])
            (.block 2
             (.loop
              (.seq
               (.seq
                (.reg [
                  ⟨(some 27), none, .mov (.t 9)⟩,
                  ⟨(some 28), none, .mov (.t 7)⟩,
                  ⟨(some 29), none, .len .sl (.t 28)⟩,
                  ⟨(some 30), none, .ibin .lss (.t 27) (.t 29)⟩])
                (.cond (.t 30)
                 .skip
                 (.exit 2)))
               (.seq
                (.block 3
                 (.seq
                  (.draw [
                    ⟨(some 34), none, .mov (.t 7)⟩,
                    ⟨(some 35), none, .mov (.t 9)⟩,
                    ⟨(some 36), none, .iaddrSl 5 (.t 34) (.t 35)⟩,
                    ⟨(some 37), none, .load true 5 (.t 36)⟩,
                    ⟨(some 38), none, .mov (.t 1)⟩,
                    ⟨(some 39), none, .mov (.t 8)⟩,
                    ⟨(some 40), none, .iaddrSl 4 (.t 38) (.t 39)⟩,
                    ⟨(some 41), none, .load true 4 (.t 40)⟩,
                    ⟨(some 42), none, .call (.c (.fn 37 [] [])) [(.t 37), (.t 41)]⟩,
                    ⟨(some 33), none, .mov (.t 42)⟩,
                    ⟨(some 43), none, .extract (.t 33) 0⟩,
                    ⟨(some 44), none, .extract (.t 33) 1⟩,
                    ⟨(some 10), none, .box 4 (.c (.agg [(.int .i64 0), (.int .i64 0), (.int .i64 0), (.int .i64 0)]))⟩,
                    ⟨none, none, .store 4 (.t 10) (.t 43)⟩,
                    ⟨(some 11), none, .mov (.t 44)⟩]
                    [[], [], [0, 1], [2, 0, 1], [], [], [4, 5], [6, 4, 5], [3, 7, 2, 0, 1, 6, 4, 5], [8, 3, 7, 2, 0, 1, 6, 4, 5], [9, 8, 3, 7, 2, 0, 1, 6, 4, 5], [9, 8, 3, 7, 2, 0, 1, 6, 4, 5], [], [12, 10, 8, 0, 1, 2, 3, 4, 5, 6, 7, 9], [11, 13, 0, 1, 2, 3, 4, 5, 6, 7, 8, 9, 10, 12]])
                  (.seq
                   (.draw [
                     ⟨(some 45), none, .mov (.t 7)⟩,
                     ⟨(some 46), none, .mov (.t 9)⟩,
                     ⟨(some 47), none, .iaddrSl 5 (.t 45) (.t 46)⟩,
                     ⟨(some 48), none, .faddr 0 (.t 47)⟩,
                     ⟨(some 49), none, .load false 1 (.t 48)⟩,
                     ⟨(some 50), none, .mov (.t 2)⟩,
                     ⟨(some 51), none, .mov (.t 8)⟩,
                     ⟨(some 52), none, .iaddrSl 1 (.t 50) (.t 51)⟩,
                     ⟨(some 53), none, .load false 1 (.t 52)⟩,
                     ⟨(some 54), none, .ibin .eql (.t 49) (.t 53)⟩,
                     ⟨(some 55), none, .mov (.t 54)⟩,
                     ⟨(some 56), (some (55, true)), .mov (.t 11)⟩,
                     ⟨(some 57), none, .pick (.t 55) (.t 56) (.c (.bool false))⟩]
                     [[], [], [0, 1], [2, 0, 1], [3, 2, 0, 1], [], [], [5, 6], [7, 5, 6], [4, 8, 3, 2, 0, 1, 7, 5, 6], [9, 4, 8, 3, 2, 0, 1, 7, 5, 6], [10, 9, 4, 8, 3, 2, 0, 1, 7, 5, 6], [10, 11, 9, 4, 8, 3, 2, 0, 1, 7, 5, 6]])
                   (.cond (.t 57)
                    (.seq
                     (.reg [
                       ⟨(some 58), none, .mov (.t 7)⟩,
                       ⟨(some 59), none, .mov (.t 9)⟩,
                       ⟨(some 60), none, .load true 4 (.t 10)⟩,
                       ⟨(some 61), none, .iaddrSl 5 (.t 58) (.t 59)⟩,
                       ⟨(some 62), none, .faddr 1 (.t 61)⟩,
                       ⟨none, none, .store 4 (.t 62) (.t 60)⟩])
                     (.exit 2))
                    .skip))))
                (.reg [
                  ⟨(some 31), none, .mov (.t 9)⟩,
                  ⟨(some 32), none, .ibin .add (.t 31) (.c (.int .i64 1))⟩,
                  ⟨(some 9), none, .mov (.t 32)⟩])))))))
          (.reg [
            ⟨(some 25), none, .mov (.t 8)⟩,
            ⟨(some 26), none, .ibin .add (.t 25) (.c (.int .i64 1))⟩,
            ⟨(some 8), none, .mov (.t 26)⟩]))))))
     (.seq
      (.reg [
        ⟨(some 63), none, .mov (.t 7)⟩,
        ⟨(some 6), none, .mov (.t 63)⟩])
      .ret))))⟩

-- quitrent/quitrentlaw16.form
def F14 : AFun := ⟨27, 1, [.tmp 2],
  (.seq
   (.reg [
     ⟨(some 2), none, .mov (.c .nils)⟩])
   (.seq
    (.reg [
      ⟨(some 5), none, .bslice 5 0 [(.int .i64 0), (.int .i64 0), (.int .i64 0), (.int .i64 0), (.int .i64 0)] []⟩,
      ⟨(some 3), none, .mov (.t 5)⟩])
    (.seq
     (.seq
      (.reg [
        ⟨(some 4), none, .mov (.c (.int .i64 0))⟩])
      (.block 0
       (.loop
        (.seq
         (.seq
          (.reg [
            ⟨(some 6), none, .mov (.t 4)⟩,
            ⟨(some 7), none, .mov (.t 0)⟩,
            ⟨(some 8), none, .len .sl (.t 7)⟩,
            ⟨(some 9), none, .ibin .lss (.t 6) (.t 8)⟩])
          (.cond (.t 9)
           .skip
           (.exit 0)))
         (.seq
          (.block 1
           (.draw [
             ⟨(some 12), none, .mov (.t 3)⟩,
             ⟨(some 13), none, .mov (.t 0)⟩,
             ⟨(some 14), none, .mov (.t 4)⟩,
             ⟨(some 15), none, .iaddrSl 5 (.t 13) (.t 14)⟩,
             ⟨(some 16), none, .faddr 0 (.t 15)⟩,
             ⟨(some 17), none, .load false 1 (.t 16)⟩,
             ⟨(some 18), none, .mov (.t 0)⟩,
             ⟨(some 19), none, .mov (.t 4)⟩,
             ⟨(some 20), none, .iaddrSl 5 (.t 18) (.t 19)⟩,
             ⟨(some 21), none, .faddr 1 (.t 20)⟩,
             ⟨(some 22), none, .load true 4 (.t 21)⟩,
             ⟨(some 23), none, .build [(.int .i64 0), (.int .i64 0), (.int .i64 0), (.int .i64 0), (.int .i64 0)] [(0, 1, (.t 17)), (1, 4, (.t 22))]⟩,
             ⟨(some 24), none, .bslice 5 1 [(.int .i64 0), (.int .i64 0), (.int .i64 0), (.int .i64 0), (.int .i64 0)] [(0, 5, (.t 23))]⟩,
             ⟨(some 25), none, .append 5 40 [(.int .i64 0), (.int .i64 0), (.int .i64 0), (.int .i64 0), (.int .i64 0)] (.t 12) (.t 24)⟩,
             ⟨(some 3), none, .mov (.t 25)⟩]
             [[], [], [], [1, 2], [3, 1, 2], [4, 3, 1, 2], [], [], [6, 7], [8, 6, 7], [9, 8, 6, 7], [5, 10, 4, 3, 1, 2, 9, 8, 6, 7], [11, 5, 10, 4, 3, 1, 2, 9, 8, 6, 7], [0, 12, 11, 5, 10, 4, 3, 1, 2, 9, 8, 6, 7], [13, 0, 1, 2, 3, 4, 5, 6, 7, 8, 9, 10, 11, 12]]))
          (.reg [
            ⟨(some 10), none, .mov (.t 4)⟩,
            ⟨(some 11), none, .ibin .add (.t 10) (.c (.int .i64 1))⟩,
            ⟨(some 4), none, .mov (.t 11)⟩]))))))
     (.seq
      (.reg [
        ⟨(some 26), none, .mov (.t 3)⟩,
        ⟨(some 2), none, .mov (.t 26)⟩])
      .ret))))⟩

-- quitrent/quitrentlaw16.awake
def F9 : AFun := ⟨52, 0, [.tmp 0],
  (.seq
   (.reg [
     ⟨(some 0), none, .mov (.c (.bool false))⟩])
   (.seq
    (.reg [
      ⟨(some 8), none, .build [(.int .i64 0), (.int .i64 0), (.int .i64 0), (.int .i64 0)] [(0, 1, (.c (.int .i64 5)))]⟩,
      ⟨(some 9), none, .build [(.int .i64 0), (.int .i64 0), (.int .i64 0), (.int .i64 0), (.int .i64 0)] [(0, 1, (.c (.int .i64 1))), (1, 4, (.t 8))]⟩,
      ⟨(some 10), none, .build [(.int .i64 0), (.int .i64 0), (.int .i64 0), (.int .i64 0)] [(0, 1, (.c (.int .i64 4)))]⟩,
      ⟨(some 11), none, .build [(.int .i64 0), (.int .i64 0), (.int .i64 0), (.int .i64 0), (.int .i64 0)] [(0, 1, (.c (.int .i64 2))), (1, 4, (.t 10))]⟩,
      ⟨(some 12), none, .bslice 5 2 [(.int .i64 0), (.int .i64 0), (.int .i64 0), (.int .i64 0), (.int .i64 0)] [(0, 5, (.t 9)), (5, 5, (.t 11))]⟩,
      ⟨(some 1), none, .mov (.t 12)⟩])
    (.seq
     (.reg [
       ⟨(some 14), none, .mov (.t 1)⟩,
       ⟨(some 15), none, .build [(.int .i64 0), (.int .i64 0), (.int .i64 0), (.int .i64 0)] [(0, 1, (.c (.int .i64 4)))]⟩,
       ⟨(some 16), none, .call (.c (.fn 10 [] [])) [(.t 14), (.t 15)]⟩,
       ⟨(some 13), none, .mov (.t 16)⟩,
       ⟨(some 17), none, .extract (.t 13) 0⟩,
       ⟨(some 18), none, .extract (.t 13) 1⟩,
       ⟨(some 2), none, .mov (.t 17)⟩,
       ⟨(some 3), none, .mov (.t 18)⟩])
     (.seq
      (.reg [
        ⟨(some 20), none, .mov (.t 1)⟩,
        ⟨(some 21), none, .build [(.int .i64 0), (.int .i64 0), (.int .i64 0), (.int .i64 0)] [(0, 1, (.c (.int .i64 4)))]⟩,
        ⟨(some 22), none, .build [(.int .i64 0), (.int .i64 0), (.int .i64 0), (.int .i64 0)] [(0, 1, (.c (.int .i64 5)))]⟩,
        ⟨(some 23), none, .build [(.int .i64 0), (.int .i64 0), (.int .i64 0), (.int .i64 0)] [(0, 1, (.c (.int .i64 1)))]⟩,
        ⟨(some 24), none, .bslice 4 3 [(.int .i64 0), (.int .i64 0), (.int .i64 0), (.int .i64 0)] [(0, 4, (.t 21)), (4, 4, (.t 22)), (8, 4, (.t 23))]⟩,
        ⟨(some 25), none, .call (.c (.fn 11 [] [])) [(.t 20), (.t 24)]⟩,
        ⟨(some 19), none, .mov (.t 25)⟩,
        ⟨(some 26), none, .extract (.t 19) 0⟩,
        ⟨(some 27), none, .extract (.t 19) 1⟩,
        ⟨(some 4), none, .mov (.t 26)⟩,
        ⟨(some 5), none, .mov (.t 27)⟩])
      (.seq
       (.reg [
         ⟨(some 29), none, .mov (.t 1)⟩,
         ⟨(some 30), none, .build [(.int .i64 0), (.int .i64 0), (.int .i64 0), (.int .i64 0)] [(0, 1, (.c (.int .i64 6)))]⟩,
         ⟨(some 31), none, .call (.c (.fn 10 [] [])) [(.t 29), (.t 30)]⟩,
         ⟨(some 28), none, .mov (.t 31)⟩,
         ⟨(some 32), none, .extract (.t 28) 0⟩,
         ⟨(some 33), none, .extract (.t 28) 1⟩,
         ⟨(some 6), none, .mov (.t 32)⟩,
         ⟨(some 7), none, .mov (.t 33)⟩])
       (.seq
        (.reg [
          ⟨(some 34), none, .mov (.t 2)⟩,
          ⟨(some 35), none, .ibin .eql (.t 34) (.c (.int .i64 2))⟩,
          ⟨(some 36), none, .mov (.t 35)⟩,
          ⟨(some 37), (some (36, true)), .mov (.t 3)⟩,
          ⟨(some 38), none, .pick (.t 36) (.t 37) (.c (.bool false))⟩,
          ⟨(some 39), none, .mov (.t 38)⟩,
          ⟨(some 40), (some (39, true)), .mov (.t 4)⟩,
          ⟨(some 41), (some (39, true)), .len .sl (.t 40)⟩,
          ⟨(some 42), (some (39, true)), .ibin .eql (.t 41) (.c (.int .i64 0))⟩,
          ⟨(some 43), none, .pick (.t 39) (.t 42) (.c (.bool false))⟩,
          ⟨(some 44), none, .mov (.t 43)⟩,
          ⟨(some 45), (some (44, true)), .mov (.t 5)⟩,
          ⟨(some 46), (some (44, true)), .ibin .eql (.t 45) (.c (.int .i64 2))⟩,
          ⟨(some 47), none, .pick (.t 44) (.t 46) (.c (.bool false))⟩,
          ⟨(some 48), none, .mov (.t 47)⟩,
          ⟨(some 49), (some (48, true)), .mov (.t 7)⟩,
          ⟨(some 50), (some (48, true)), .un .not (.t 49)⟩,
          ⟨(some 51), none, .pick (.t 48) (.t 50) (.c (.bool false))⟩,
          ⟨(some 0), none, .mov (.t 51)⟩])
        .ret))))))⟩

-- quitrent/quitrentlaw16.FitOne
def F3 : AFun := ⟨137, 2, [.tmp 4],
  (.seq
   (.reg [
     ⟨(some 4), none, .mov (.c (.bool false))⟩])
   (.seq
    (.seq
     (.reg [
       ⟨(some 12), none, .call (.c (.fn 9 [] [])) []⟩,
       ⟨(some 13), none, .un .not (.t 12)⟩])
     (.cond (.t 13)
      (.seq
       (.reg [
         ⟨(some 4), none, .mov (.c (.bool false))⟩])
       .ret)
      .skip))
    (.seq
     (.seq
      (.reg [
        ⟨(some 14), none, .mov (.t 0)⟩,
        ⟨(some 15), none, .len .sl (.t 14)⟩,
        ⟨(some 16), none, .ibin .gtr (.t 15) (.c (.int .i64 12))⟩,
        ⟨(some 17), none, .mov (.t 16)⟩,
        ⟨(some 18), (some (17, false)), .mov (.t 1)⟩,
        ⟨(some 19), (some (17, false)), .len .sl (.t 18)⟩,
        ⟨(some 20), (some (17, false)), .ibin .gtr (.t 19) (.c (.int .i64 12))⟩,
        ⟨(some 21), none, .pick (.t 17) (.c (.bool true)) (.t 20)⟩,
        ⟨(some 22), none, .mov (.t 21)⟩,
        ⟨(some 23), (some (22, false)), .mov (.t 1)⟩,
        ⟨(some 24), (some (22, false)), .len .sl (.t 23)⟩,
        ⟨(some 25), (some (22, false)), .ibin .eql (.t 24) (.c (.int .i64 0))⟩,
        ⟨(some 26), none, .pick (.t 22) (.c (.bool true)) (.t 25)⟩])
      (.cond (.t 26)
       (.seq
        (.reg [
          ⟨(some 4), none, .mov (.c (.bool true))⟩])
        .ret)
       .skip))
     (.seq
      (.reg [
        ⟨(some 28), none, .mov (.t 0)⟩,
        ⟨(some 29), none, .mov (.t 1)⟩,
        ⟨(some 30), none, .iaddrSl 4 (.t 29) (.c (.int .i64 0))⟩,
        ⟨(some 31), none, .load true 4 (.t 30)⟩,
        ⟨(some 32), none, .call (.c (.fn 10 [] [])) [(.t 28), (.t 31)]⟩,
        ⟨(some 27), none, .mov (.t 32)⟩,
        ⟨(some 33), none, .extract (.t 27) 0⟩,
        ⟨(some 34), none, .extract (.t 27) 1⟩,
        ⟨(some 5), none, .mov (.t 33)⟩,
        ⟨(some 6), none, .mov (.t 34)⟩])
      (.seq
       (.reg [
         ⟨(some 36), none, .mov (.t 0)⟩,
         ⟨(some 37), none, .mov (.t 1)⟩,
         ⟨(some 38), none, .slice 4 (.t 37) none (some (.c (.int .i64 1))) none⟩,
         ⟨(some 39), none, .call (.c (.fn 11 [] [])) [(.t 36), (.t 38)]⟩,
         ⟨(some 35), none, .mov (.t 39)⟩,
         ⟨(some 40), none, .extract (.t 35) 0⟩,
         ⟨(some 41), none, .extract (.t 35) 1⟩,
         ⟨(some 7), none, .mov (.t 40)⟩,
         ⟨(some 8), none, .mov (.t 41)⟩])
       (.seq
        (.seq
         (.reg [
           ⟨(some 42), none, .mov (.t 6)⟩,
           ⟨(some 43), none, .mov (.t 8)⟩,
           ⟨(some 44), none, .ibin .eql (.t 43) (.c (.int .i64 (-1)))⟩,
           ⟨(some 45), none, .eq true .bool false (.t 42) (.t 44)⟩,
           ⟨(some 46), none, .mov (.t 45)⟩,
           ⟨(some 47), (some (46, false)), .mov (.t 6)⟩,
           ⟨(some 48), (some (46, false)), .mov (.t 47)⟩,
           ⟨(some 49), (some (48, true)), .mov (.t 7)⟩,
           ⟨(some 50), (some (48, true)), .len .sl (.t 49)⟩,
           ⟨(some 51), (some (48, true)), .ibin .neq (.t 50) (.c (.int .i64 1))⟩,
           ⟨(some 52), (some (48, true)), .mov (.t 51)⟩,
           ⟨(some 53), (some (52, false)), .mov (.t 7)⟩,
           ⟨(some 54), (some (52, false)), .iaddrSl 1 (.t 53) (.c (.int .i64 0))⟩,
           ⟨(some 55), (some (52, false)), .load false 1 (.t 54)⟩,
           ⟨(some 56), (some (52, false)), .mov (.t 5)⟩,
           ⟨(some 57), (some (52, false)), .ibin .neq (.t 55) (.t 56)⟩,
           ⟨(some 58), (some (48, true)), .pick (.t 52) (.c (.bool true)) (.t 57)⟩,
           ⟨(some 59), (some (46, false)), .pick (.t 48) (.t 58) (.c (.bool false))⟩,
           ⟨(some 60), none, .pick (.t 46) (.c (.bool true)) (.t 59)⟩,
           ⟨(some 61), none, .mov (.t 60)⟩,
           ⟨(some 62), (some (61, false)), .mov (.t 6)⟩,
           ⟨(some 63), (some (61, false)), .un .not (.t 62)⟩,
           ⟨(some 64), (some (61, false)), .mov (.t 63)⟩,
           ⟨(some 65), (some (64, true)), .mov (.t 8)⟩,
           ⟨(some 66), (some (64, true)), .ibin .neq (.t 65) (.c (.int .i64 0))⟩,
           ⟨(some 67), (some (61, false)), .pick (.t 64) (.t 66) (.c (.bool false))⟩,
           ⟨(some 68), none, .pick (.t 61) (.c (.bool true)) (.t 67)⟩])
         (.cond (.t 68)
          (.seq
           (.reg [
             ⟨(some 4), none, .mov (.c (.bool false))⟩])
           .ret)
          .skip))
        (.seq
         (.seq
          (.reg [
            ⟨(some 69), none, .mov (.t 6)⟩,
            ⟨(some 70), none, .un .not (.t 69)⟩])
          (.cond (.t 70)
           (.seq
            (.seq
             (.reg [
               ⟨(some 9), none, .mov (.c (.int .i64 0))⟩])
             (.block 0
              (.loop
               (.seq
                (.seq
                 (.reg [
                   ⟨(some 71), none, .mov (.t 9)⟩,
                   ⟨(some 72), none, .mov (.t 0)⟩,
                   ⟨(some 73), none, .len .sl (.t 72)⟩,
                   ⟨(some 74), none, .ibin .lss (.t 71) (.t 73)⟩])
                 (.cond (.t 74)
                  .skip
                  (.exit 0)))
                (.seq
                 (.block 1
                  (.seq
                   (.draw [
                     ⟨(some 77), none, .mov (.t 0)⟩,
                     ⟨(some 78), none, .mov (.t 9)⟩,
                     ⟨(some 79), none, .iaddrSl 5 (.t 77) (.t 78)⟩,
                     ⟨(some 80), none, .faddr 1 (.t 79)⟩,
                     ⟨(some 81), none, .load true 4 (.t 80)⟩,
                     ⟨(some 82), none, .call (.c (.fn 12 [] [])) [(.t 81)]⟩,
                     ⟨(some 83), none, .mov (.t 82)⟩,
                     ⟨(some 84), (some (83, true)), .mov (.t 1)⟩,
                     ⟨(some 85), (some (83, true)), .iaddrSl 4 (.t 84) (.c (.int .i64 0))⟩,
                     ⟨(some 86), (some (83, true)), .load true 4 (.t 85)⟩,
                     ⟨(some 87), (some (83, true)), .call (.c (.fn 12 [] [])) [(.t 86)]⟩,
                     ⟨(some 88), none, .pick (.t 83) (.t 87) (.c (.bool false))⟩,
                     ⟨(some 89), none, .mov (.t 88)⟩,
                     ⟨(some 90), (some (89, true)), .mov (.t 1)⟩,
                     ⟨(some 91), (some (89, true)), .iaddrSl 4 (.t 90) (.c (.int .i64 0))⟩,
                     ⟨(some 92), (some (89, true)), .load true 4 (.t 91)⟩,
                     ⟨(some 93), (some (89, true)), .mov (.t 0)⟩,
                     ⟨(some 94), (some (89, true)), .mov (.t 9)⟩,
                     ⟨(some 95), (some (89, true)), .iaddrSl 5 (.t 93) (.t 94)⟩,
                     ⟨(some 96), (some (89, true)), .faddr 1 (.t 95)⟩,
                     ⟨(some 97), (some (89, true)), .load true 4 (.t 96)⟩,
                     ⟨(some 98), (some (89, true)), .call (.c (.fn 13 [] [])) [(.t 92), (.t 97)]⟩,
                     ⟨(some 99), none, .pick (.t 89) (.t 98) (.c (.bool false))⟩]
                     [[], [], [0, 1], [2, 0, 1], [3, 2, 0, 1], [4, 3, 2, 0, 1], [5, 4, 3, 2, 0, 1], [6, 5, 4, 3, 2, 0, 1], [7, 6, 5, 4, 3, 2, 0, 1], [8, 6, 7, 5, 4, 3, 2, 0, 1], [9, 6, 8, 7, 5, 4, 3, 2, 0, 1], [6, 10, 5, 4, 3, 2, 0, 1, 9, 8, 7], [11, 10, 6, 5, 4, 3, 2, 0, 1, 9, 8, 7], [12, 11, 10, 6, 5, 4, 3, 2, 0, 1, 9, 8, 7], [13, 12, 11, 10, 6, 5, 4, 3, 2, 0, 1, 9, 8, 7], [14, 12, 13, 11, 10, 6, 5, 4, 3, 2, 0, 1, 9, 8, 7], [12, 11, 10, 6, 5, 4, 3, 2, 0, 1, 9, 8, 7], [12, 11, 10, 6, 5, 4, 3, 2, 0, 1, 9, 8, 7], [16, 17, 12, 11, 10, 6, 5, 4, 3, 2, 0, 1, 9, 8, 7], [18, 12, 16, 17, 11, 10, 6, 5, 4, 3, 2, 0, 1, 9, 8, 7], [19, 12, 18, 16, 17, 11, 10, 6, 5, 4, 3, 2, 0, 1, 9, 8, 7], [15, 20, 12, 14, 13, 11, 10, 6, 5, 4, 3, 2, 0, 1, 9, 8, 7, 19, 18, 16, 17], [12, 21, 11, 10, 6, 5, 4, 3, 2, 0, 1, 9, 8, 7, 15, 20, 14, 13, 19, 18, 16, 17]])
                   (.cond (.t 99)
                    (.seq
                     (.reg [
                       ⟨(some 4), none, .mov (.c (.bool false))⟩])
                     .ret)
                    .skip)))
                 (.reg [
                   ⟨(some 75), none, .mov (.t 9)⟩,
                   ⟨(some 76), none, .ibin .add (.t 75) (.c (.int .i64 1))⟩,
                   ⟨(some 9), none, .mov (.t 76)⟩]))))))
            (.seq
             (.reg [
               ⟨(some 4), none, .mov (.c (.bool true))⟩])
             .ret))
           .skip))
         (.seq
          (.reg [
            ⟨(some 101), none, .mov (.t 0)⟩,
            ⟨(some 102), none, .mov (.t 1)⟩,
            ⟨(some 103), none, .call (.c (.fn 11 [] [])) [(.t 101), (.t 102)]⟩,
            ⟨(some 100), none, .mov (.t 103)⟩,
            ⟨(some 104), none, .extract (.t 100) 0⟩,
            ⟨(some 105), none, .extract (.t 100) 1⟩,
            ⟨(some 10), none, .mov (.t 104)⟩,
            ⟨(some 11), none, .mov (.t 105)⟩])
          (.seq
           (.reg [
             ⟨(some 106), none, .mov (.t 11)⟩,
             ⟨(some 107), none, .ibin .geq (.t 106) (.c (.int .i64 0))⟩,
             ⟨(some 108), none, .mov (.t 107)⟩,
             ⟨(some 109), (some (108, true)), .mov (.t 11)⟩,
             ⟨(some 110), (some (108, true)), .mov (.t 1)⟩,
             ⟨(some 111), (some (108, true)), .len .sl (.t 110)⟩,
             ⟨(some 112), (some (108, true)), .ibin .lss (.t 109) (.t 111)⟩,
             ⟨(some 113), none, .pick (.t 108) (.t 112) (.c (.bool false))⟩,
             ⟨(some 114), none, .mov (.t 113)⟩,
             ⟨(some 115), (some (114, true)), .mov (.t 10)⟩,
             ⟨(some 116), (some (114, true)), .len .sl (.t 115)⟩,
             ⟨(some 117), (some (114, true)), .ibin .eql (.t 116) (.c (.int .i64 0))⟩,
             ⟨(some 118), none, .pick (.t 114) (.t 117) (.c (.bool false))⟩,
             ⟨(some 119), none, .mov (.t 118)⟩,
             ⟨(some 120), (some (119, false)), .mov (.t 11)⟩,
             ⟨(some 121), (some (119, false)), .ibin .eql (.t 120) (.c (.int .i64 (-1)))⟩,
             ⟨(some 122), (some (119, false)), .mov (.t 121)⟩,
             ⟨(some 123), (some (122, true)), .mov (.t 10)⟩,
             ⟨(some 124), (some (122, true)), .len .sl (.t 123)⟩,
             ⟨(some 125), (some (122, true)), .mov (.t 1)⟩,
             ⟨(some 126), (some (122, true)), .len .sl (.t 125)⟩,
             ⟨(some 127), (some (122, true)), .ibin .eql (.t 124) (.t 126)⟩,
             ⟨(some 128), (some (119, false)), .pick (.t 122) (.t 127) (.c (.bool false))⟩,
             ⟨(some 129), (some (119, false)), .mov (.t 128)⟩,
             ⟨(some 130), (some (129, true)), .mov (.t 10)⟩,
             ⟨(some 131), (some (129, true)), .iaddrSl 1 (.t 130) (.c (.int .i64 0))⟩,
             ⟨(some 132), (some (129, true)), .load false 1 (.t 131)⟩,
             ⟨(some 133), (some (129, true)), .mov (.t 5)⟩,
             ⟨(some 134), (some (129, true)), .ibin .eql (.t 132) (.t 133)⟩,
             ⟨(some 135), (some (119, false)), .pick (.t 129) (.t 134) (.c (.bool false))⟩,
             ⟨(some 136), none, .pick (.t 119) (.c (.bool true)) (.t 135)⟩,
             ⟨(some 4), none, .mov (.t 136)⟩])
           .ret)))))))))⟩

-- quitrent/quitrentlaw16.FitExact
def F4 : AFun := ⟨162, 3, [.tmp 6],
  (.seq
   (.reg [
     ⟨(some 6), none, .mov (.c (.bool false))⟩])
   (.seq
    (.seq
     (.reg [
       ⟨(some 20), none, .call (.c (.fn 9 [] [])) []⟩,
       ⟨(some 21), none, .un .not (.t 20)⟩])
     (.cond (.t 21)
      (.seq
       (.reg [
         ⟨(some 6), none, .mov (.c (.bool false))⟩])
       .ret)
      .skip))
    (.seq
     (.seq
      (.reg [
        ⟨(some 22), none, .mov (.t 0)⟩,
        ⟨(some 23), none, .len .sl (.t 22)⟩,
        ⟨(some 24), none, .ibin .gtr (.t 23) (.c (.int .i64 20))⟩,
        ⟨(some 25), none, .mov (.t 24)⟩,
        ⟨(some 26), (some (25, false)), .mov (.t 1)⟩,
        ⟨(some 27), (some (25, false)), .len .sl (.t 26)⟩,
        ⟨(some 28), (some (25, false)), .ibin .gtr (.t 27) (.c (.int .i64 20))⟩,
        ⟨(some 29), none, .pick (.t 25) (.c (.bool true)) (.t 28)⟩,
        ⟨(some 30), none, .mov (.t 29)⟩,
        ⟨(some 31), (some (30, false)), .mov (.t 2)⟩,
        ⟨(some 32), (some (30, false)), .len .sl (.t 31)⟩,
        ⟨(some 33), (some (30, false)), .ibin .gtr (.t 32) (.c (.int .i64 20))⟩,
        ⟨(some 34), none, .pick (.t 30) (.c (.bool true)) (.t 33)⟩])
      (.cond (.t 34)
       (.seq
        (.reg [
          ⟨(some 6), none, .mov (.c (.bool true))⟩])
        .ret)
       .skip))
     (.seq
      (.reg [
        ⟨(some 35), none, .mov (.t 0)⟩,
        ⟨(some 36), none, .call (.c (.fn 14 [] [])) [(.t 35)]⟩,
        ⟨(some 7), none, .mov (.t 36)⟩])
      (.seq
       (.seq
        (.reg [
          ⟨(some 8), none, .mov (.c (.int .i64 0))⟩])
        (.block 0
         (.loop
          (.seq
           (.seq
            (.reg [
              ⟨(some 37), none, .mov (.t 8)⟩,
              ⟨(some 38), none, .mov (.t 1)⟩,
              ⟨(some 39), none, .len .sl (.t 38)⟩,
              ⟨(some 40), none, .ibin .lss (.t 37) (.t 39)⟩])
            (.cond (.t 40)
             .skip
             (.exit 0)))
           (.seq
            (.block 1
             (.seq
              (.reg [
                ⟨(some 44), none, .mov (.t 0)⟩,
                ⟨(some 45), none, .mov (.t 1)⟩,
                ⟨(some 46), none, .mov (.t 8)⟩,
                ⟨(some 47), none, .iaddrSl 4 (.t 45) (.t 46)⟩,
                ⟨(some 48), none, .load true 4 (.t 47)⟩,
                ⟨(some 49), none, .call (.c (.fn 10 [] [])) [(.t 44), (.t 48)]⟩,
                ⟨(some 43), none, .mov (.t 49)⟩,
                ⟨(some 50), none, .extract (.t 43) 0⟩,
                ⟨(some 51), none, .extract (.t 43) 1⟩,
                ⟨(some 9), none, .mov (.t 50)⟩,
                ⟨(some 10), none, .mov (.t 51)⟩])
              (.seq
               (.reg [
                 ⟨(some 52), none, .mov (.t 7)⟩,
                 ⟨(some 53), none, .mov (.t 1)⟩,
                 ⟨(some 54), none, .mov (.t 8)⟩,
                 ⟨(some 55), none, .iaddrSl 4 (.t 53) (.t 54)⟩,
                 ⟨(some 56), none, .load true 4 (.t 55)⟩,
                 ⟨(some 57), none, .call (.c (.fn 15 [] [])) [(.t 52), (.t 56)]⟩,
                 ⟨(some 11), none, .mov (.t 57)⟩])
               (.seq
                (.reg [
                  ⟨(some 58), none, .mov (.t 10)⟩,
                  ⟨(some 59), none, .mov (.t 11)⟩,
                  ⟨(some 60), none, .ibin .geq (.t 59) (.c (.int .i64 0))⟩,
                  ⟨(some 61), none, .eq true .bool false (.t 58) (.t 60)⟩,
                  ⟨(some 62), none, .mov (.t 61)⟩,
                  ⟨(some 63), (some (62, false)), .mov (.t 10)⟩,
                  ⟨(some 64), (some (62, false)), .mov (.t 63)⟩,
                  ⟨(some 65), (some (64, true)), .mov (.t 9)⟩,
                  ⟨(some 66), (some (64, true)), .mov (.t 7)⟩,
                  ⟨(some 67), (some (64, true)), .mov (.t 11)⟩,
                  ⟨(some 68), (some (64, true)), .iaddrSl 5 (.t 66) (.t 67)⟩,
                  ⟨(some 69), (some (64, true)), .faddr 0 (.t 68)⟩,
                  ⟨(some 70), (some (64, true)), .load false 1 (.t 69)⟩,
                  ⟨(some 71), (some (64, true)), .ibin .neq (.t 65) (.t 70)⟩,
                  ⟨(some 72), (some (62, false)), .pick (.t 64) (.t 71) (.c (.bool false))⟩,
                  ⟨(some 73), none, .pick (.t 62) (.c (.bool true)) (.t 72)⟩,
                  ⟨(some 74), none, .mov (.t 73)⟩,
                  ⟨(some 75), (some (74, false)), .mov (.t 10)⟩,
                  ⟨(some 76), (some (74, false)), .un .not (.t 75)⟩,
                  ⟨(some 77), (some (74, false)), .mov (.t 76)⟩,
                  ⟨(some 78), (some (77, true)), .mov (.t 9)⟩,
                  ⟨(some 79), (some (77, true)), .ibin .neq (.t 78) (.c (.int .i64 0))⟩,
                  ⟨(some 80), (some (74, false)), .pick (.t 77) (.t 79) (.c (.bool false))⟩,
                  ⟨(some 81), none, .pick (.t 74) (.c (.bool true)) (.t 80)⟩])
                (.cond (.t 81)
                 (.seq
                  (.reg [
                    ⟨(some 6), none, .mov (.c (.bool false))⟩])
                  .ret)
                 .skip)))))
            (.reg [
              ⟨(some 41), none, .mov (.t 8)⟩,
              ⟨(some 42), none, .ibin .add (.t 41) (.c (.int .i64 1))⟩,
              ⟨(some 8), none, .mov (.t 42)⟩]))))))
       (.seq
        (.reg [
          ⟨(some 83), none, .mov (.t 0)⟩,
          ⟨(some 84), none, .mov (.t 1)⟩,
          ⟨(some 85), none, .call (.c (.fn 11 [] [])) [(.t 83), (.t 84)]⟩,
          ⟨(some 82), none, .mov (.t 85)⟩,
          ⟨(some 86), none, .extract (.t 82) 0⟩,
          ⟨(some 87), none, .extract (.t 82) 1⟩,
          ⟨(some 12), none, .mov (.t 86)⟩,
          ⟨(some 13), none, .mov (.t 87)⟩])
        (.seq
         (.reg [
           ⟨(some 89), none, .mov (.t 7)⟩,
           ⟨(some 90), none, .mov (.t 1)⟩,
           ⟨(some 91), none, .call (.c (.fn 16 [] [])) [(.t 89), (.t 90)]⟩,
           ⟨(some 88), none, .mov (.t 91)⟩,
           ⟨(some 92), none, .extract (.t 88) 0⟩,
           ⟨(some 93), none, .extract (.t 88) 1⟩,
           ⟨(some 14), none, .mov (.t 92)⟩,
           ⟨(some 15), none, .mov (.t 93)⟩])
         (.seq
          (.seq
           (.reg [
             ⟨(some 94), none, .mov (.t 13)⟩,
             ⟨(some 95), none, .mov (.t 15)⟩,
             ⟨(some 96), none, .ibin .neq (.t 94) (.t 95)⟩,
             ⟨(some 97), none, .mov (.t 96)⟩,
             ⟨(some 98), (some (97, false)), .mov (.t 12)⟩,
             ⟨(some 99), (some (97, false)), .len .sl (.t 98)⟩,
             ⟨(some 100), (some (97, false)), .mov (.t 14)⟩,
             ⟨(some 101), (some (97, false)), .len .sl (.t 100)⟩,
             ⟨(some 102), (some (97, false)), .ibin .neq (.t 99) (.t 101)⟩,
             ⟨(some 103), none, .pick (.t 97) (.c (.bool true)) (.t 102)⟩])
           (.cond (.t 103)
            (.seq
             (.reg [
               ⟨(some 6), none, .mov (.c (.bool false))⟩])
             .ret)
            .skip))
          (.seq
           (.seq
            (.reg [
              ⟨(some 16), none, .mov (.c (.int .i64 0))⟩])
            (.block 2
             (.loop
              (.seq
               (.seq
                (.reg [
                  ⟨(some 104), none, .mov (.t 16)⟩,
                  ⟨(some 105), none, .mov (.t 12)⟩,
                  ⟨(some 106), none, .len .sl (.t 105)⟩,
                  ⟨(some 107), none, .ibin .lss (.t 104) (.t 106)⟩])
                (.cond (.t 107)
                 .skip
                 (.exit 2)))
               (.seq
                (.block 3
                 (.seq
                  (.draw [
                    ⟨(some 110), none, .mov (.t 12)⟩,
                    ⟨(some 111), none, .mov (.t 16)⟩,
                    ⟨(some 112), none, .iaddrSl 1 (.t 110) (.t 111)⟩,
                    ⟨(some 113), none, .load false 1 (.t 112)⟩,
                    ⟨(some 114), none, .mov (.t 14)⟩,
                    ⟨(some 115), none, .mov (.t 16)⟩,
                    ⟨(some 116), none, .iaddrSl 1 (.t 114) (.t 115)⟩,
                    ⟨(some 117), none, .load false 1 (.t 116)⟩,
                    ⟨(some 118), none, .ibin .neq (.t 113) (.t 117)⟩]
                    [[], [], [0, 1], [2, 0, 1], [], [], [4, 5], [6, 4, 5], [3, 7, 2, 0, 1, 6, 4, 5]])
                  (.cond (.t 118)
                   (.seq
                    (.reg [
                      ⟨(some 6), none, .mov (.c (.bool false))⟩])
                    .ret)
                   .skip)))
                (.reg [
                  ⟨(some 108), none, .mov (.t 16)⟩,
                  ⟨(some 109), none, .ibin .add (.t 108) (.c (.int .i64 1))⟩,
                  ⟨(some 16), none, .mov (.t 109)⟩]))))))
           (.seq
            (.reg [
              ⟨(some 119), none, .mov (.t 0)⟩,
              ⟨(some 120), none, .mov (.t 1)⟩,
              ⟨(some 121), none, .mov (.t 2)⟩,
              ⟨(some 122), none, .call (.c (.fn 17 [] [])) [(.t 119), (.t 120), (.t 121)]⟩,
              ⟨(some 17), none, .mov (.t 122)⟩])
            (.seq
             (.reg [
               ⟨(some 123), none, .mov (.t 7)⟩,
               ⟨(some 124), none, .mov (.t 1)⟩,
               ⟨(some 125), none, .mov (.t 2)⟩,
               ⟨(some 126), none, .call (.c (.fn 18 [] [])) [(.t 123), (.t 124), (.t 125)]⟩,
               ⟨(some 18), none, .mov (.t 126)⟩])
             (.seq
              (.seq
               (.reg [
                 ⟨(some 127), none, .mov (.t 17)⟩,
                 ⟨(some 128), none, .len .sl (.t 127)⟩,
                 ⟨(some 129), none, .mov (.t 18)⟩,
                 ⟨(some 130), none, .len .sl (.t 129)⟩,
                 ⟨(some 131), none, .ibin .neq (.t 128) (.t 130)⟩])
               (.cond (.t 131)
                (.seq
                 (.reg [
                   ⟨(some 6), none, .mov (.c (.bool false))⟩])
                 .ret)
                .skip))
              (.seq
               (.seq
                (.reg [
                  ⟨(some 19), none, .mov (.c (.int .i64 0))⟩])
                (.block 4
                 (.loop
                  (.seq
                   (.seq
                    (.reg [
                      ⟨(some 132), none, .mov (.t 19)⟩,
                      ⟨(some 133), none, .mov (.t 17)⟩,
                      ⟨(some 134), none, .len .sl (.t 133)⟩,
                      ⟨(some 135), none, .ibin .lss (.t 132) (.t 134)⟩])
                    (.cond (.t 135)
                     .skip
                     (.exit 4)))
                   (.seq
                    (.block 5
                     (.seq
                      (.draw [
                        ⟨(some 138), none, .mov (.t 17)⟩,
                        ⟨(some 139), none, .mov (.t 19)⟩,
                        ⟨(some 140), none, .iaddrSl 5 (.t 138) (.t 139)⟩,
                        ⟨(some 141), none, .faddr 0 (.t 140)⟩,
                        ⟨(some 142), none, .load false 1 (.t 141)⟩,
                        ⟨(some 143), none, .mov (.t 18)⟩,
                        ⟨(some 144), none, .mov (.t 19)⟩,
                        ⟨(some 145), none, .iaddrSl 5 (.t 143) (.t 144)⟩,
                        ⟨(some 146), none, .faddr 0 (.t 145)⟩,
                        ⟨(some 147), none, .load false 1 (.t 146)⟩,
                        ⟨(some 148), none, .ibin .neq (.t 142) (.t 147)⟩,
                        ⟨(some 149), none, .mov (.t 148)⟩,
                        ⟨(some 150), (some (149, false)), .mov (.t 17)⟩,
                        ⟨(some 151), (some (149, false)), .mov (.t 19)⟩,
                        ⟨(some 152), (some (149, false)), .iaddrSl 5 (.t 150) (.t 151)⟩,
                        ⟨(some 153), (some (149, false)), .faddr 1 (.t 152)⟩,
                        ⟨(some 154), (some (149, false)), .load true 4 (.t 153)⟩,
                        ⟨(some 155), (some (149, false)), .mov (.t 18)⟩,
                        ⟨(some 156), (some (149, false)), .mov (.t 19)⟩,
                        ⟨(some 157), (some (149, false)), .iaddrSl 5 (.t 155) (.t 156)⟩,
                        ⟨(some 158), (some (149, false)), .faddr 1 (.t 157)⟩,
                        ⟨(some 159), (some (149, false)), .load true 4 (.t 158)⟩,
                        ⟨(some 160), (some (149, false)), .eq true (.flat [.int, .int, .int, .int]) false (.t 154) (.t 159)⟩,
                        ⟨(some 161), none, .pick (.t 149) (.c (.bool true)) (.t 160)⟩]
                        [[], [], [0, 1], [2, 0, 1], [3, 2, 0, 1], [], [], [5, 6], [7, 5, 6], [8, 7, 5, 6], [4, 9, 3, 2, 0, 1, 8, 7, 5, 6], [10, 4, 9, 3, 2, 0, 1, 8, 7, 5, 6], [11, 10, 4, 9, 3, 2, 0, 1, 8, 7, 5, 6], [11, 10, 4, 9, 3, 2, 0, 1, 8, 7, 5, 6], [12, 13, 11, 10, 4, 9, 3, 2, 0, 1, 8, 7, 5, 6], [14, 11, 12, 13, 10, 4, 9, 3, 2, 0, 1, 8, 7, 5, 6], [15, 11, 14, 12, 13, 10, 4, 9, 3, 2, 0, 1, 8, 7, 5, 6], [11, 10, 4, 9, 3, 2, 0, 1, 8, 7, 5, 6], [11, 10, 4, 9, 3, 2, 0, 1, 8, 7, 5, 6], [17, 18, 11, 10, 4, 9, 3, 2, 0, 1, 8, 7, 5, 6], [19, 11, 17, 18, 10, 4, 9, 3, 2, 0, 1, 8, 7, 5, 6], [20, 11, 19, 17, 18, 10, 4, 9, 3, 2, 0, 1, 8, 7, 5, 6], [16, 21, 11, 15, 14, 12, 13, 10, 4, 9, 3, 2, 0, 1, 8, 7, 5, 6, 20, 19, 17, 18], [11, 22, 10, 4, 9, 3, 2, 0, 1, 8, 7, 5, 6, 16, 21, 15, 14, 12, 13, 20, 19, 17, 18]])
                      (.cond (.t 161)
                       (.seq
                        (.reg [
                          ⟨(some 6), none, .mov (.c (.bool false))⟩])
                        .ret)
                       .skip)))
                    (.reg [
                      ⟨(some 136), none, .mov (.t 19)⟩,
                      ⟨(some 137), none, .ibin .add (.t 136) (.c (.int .i64 1))⟩,
                      ⟨(some 19), none, .mov (.t 137)⟩]))))))
               (.seq
                (.reg [
                  ⟨(some 6), none, .mov (.c (.bool true))⟩])
                .ret))))))))))))))⟩

-- quitrent/quitrentlaw16.FitKeeps
def F5 : AFun := ⟨187, 3, [.tmp 6],
  (.seq
   (.reg [
     ⟨(some 6), none, .mov (.c (.bool false))⟩])
   (.seq
    (.seq
     (.reg [
       ⟨(some 21), none, .call (.c (.fn 9 [] [])) []⟩,
       ⟨(some 22), none, .un .not (.t 21)⟩])
     (.cond (.t 22)
      (.seq
       (.reg [
         ⟨(some 6), none, .mov (.c (.bool false))⟩])
       .ret)
      .skip))
    (.seq
     (.seq
      (.reg [
        ⟨(some 23), none, .mov (.t 0)⟩,
        ⟨(some 24), none, .len .sl (.t 23)⟩,
        ⟨(some 25), none, .ibin .gtr (.t 24) (.c (.int .i64 12))⟩,
        ⟨(some 26), none, .mov (.t 25)⟩,
        ⟨(some 27), (some (26, false)), .mov (.t 1)⟩,
        ⟨(some 28), (some (26, false)), .len .sl (.t 27)⟩,
        ⟨(some 29), (some (26, false)), .ibin .gtr (.t 28) (.c (.int .i64 12))⟩,
        ⟨(some 30), none, .pick (.t 26) (.c (.bool true)) (.t 29)⟩,
        ⟨(some 31), none, .mov (.t 30)⟩,
        ⟨(some 32), (some (31, false)), .mov (.t 0)⟩,
        ⟨(some 33), (some (31, false)), .len .sl (.t 32)⟩,
        ⟨(some 34), (some (31, false)), .ibin .eql (.t 33) (.c (.int .i64 0))⟩,
        ⟨(some 35), none, .pick (.t 31) (.c (.bool true)) (.t 34)⟩])
      (.cond (.t 35)
       (.seq
        (.reg [
          ⟨(some 6), none, .mov (.c (.bool true))⟩])
        .ret)
       .skip))
     (.seq
      (.reg [
        ⟨(some 36), none, .bslice 5 0 [(.int .i64 0), (.int .i64 0), (.int .i64 0), (.int .i64 0), (.int .i64 0)] []⟩,
        ⟨(some 7), none, .mov (.t 36)⟩])
      (.seq
       (.seq
        (.reg [
          ⟨(some 8), none, .mov (.c (.int .i64 0))⟩])
        (.block 0
         (.loop
          (.seq
           (.seq
            (.reg [
              ⟨(some 37), none, .mov (.t 8)⟩,
              ⟨(some 38), none, .mov (.t 0)⟩,
              ⟨(some 39), none, .len .sl (.t 38)⟩,
              ⟨(some 40), none, .ibin .lss (.t 37) (.t 39)⟩])
            (.cond (.t 40)
             .skip
             (.exit 0)))
           (.seq
            (.block 1
             (.seq
              (.seq
               (.reg [
                 ⟨(some 43), none, .mov (.t 0)⟩,
                 ⟨(some 44), none, .mov (.t 8)⟩,
                 ⟨(some 45), none, .iaddrSl 4 (.t 43) (.t 44)⟩,
                 ⟨(some 46), none, .load true 4 (.t 45)⟩,
                 ⟨(some 47), none, .call (.c (.fn 12 [] [])) [(.t 46)]⟩,
                 ⟨(some 48), none, .un .not (.t 47)⟩])
               (.cond (.t 48)
                (.seq
                 (.reg [
                   ⟨(some 6), none, .mov (.c (.bool true))⟩])
                 .ret)
                .skip))
              (.reg [
                ⟨(some 49), none, .mov (.t 7)⟩,
                ⟨(some 50), none, .mov (.t 8)⟩,
                ⟨(some 51), none, .ibin .add (.t 50) (.c (.int .i64 1))⟩,
                ⟨(some 52), none, .mov (.t 0)⟩,
                ⟨(some 53), none, .mov (.t 8)⟩,
                ⟨(some 54), none, .iaddrSl 4 (.t 52) (.t 53)⟩,
                ⟨(some 55), none, .load true 4 (.t 54)⟩,
                ⟨(some 56), none, .build [(.int .i64 0), (.int .i64 0), (.int .i64 0), (.int .i64 0), (.int .i64 0)] [(0, 1, (.t 51)), (1, 4, (.t 55))]⟩,
                ⟨(some 57), none, .bslice 5 1 [(.int .i64 0), (.int .i64 0), (.int .i64 0), (.int .i64 0), (.int .i64 0)] [(0, 5, (.t 56))]⟩,
                ⟨(some 58), none, .append 5 40 [(.int .i64 0), (.int .i64 0), (.int .i64 0), (.int .i64 0), (.int .i64 0)] (.t 49) (.t 57)⟩,
                ⟨(some 7), none, .mov (.t 58)⟩])))
            (.reg [
              ⟨(some 41), none, .mov (.t 8)⟩,
              ⟨(some 42), none, .ibin .add (.t 41) (.c (.int .i64 1))⟩,
              ⟨(some 8), none, .mov (.t 42)⟩]))))))
       (.seq
        (.reg [
          ⟨(some 60), none, .mov (.t 7)⟩,
          ⟨(some 61), none, .mov (.t 1)⟩,
          ⟨(some 62), none, .call (.c (.fn 11 [] [])) [(.t 60), (.t 61)]⟩,
          ⟨(some 59), none, .mov (.t 62)⟩,
          ⟨(some 63), none, .extract (.t 59) 0⟩,
          ⟨(some 64), none, .extract (.t 59) 1⟩,
          ⟨(some 9), none, .mov (.t 63)⟩,
          ⟨(some 10), none, .mov (.t 64)⟩])
        (.seq
         (.seq
          (.reg [
            ⟨(some 65), none, .mov (.t 10)⟩,
            ⟨(some 66), none, .ibin .geq (.t 65) (.c (.int .i64 0))⟩])
          (.cond (.t 66)
           (.seq
            (.reg [
              ⟨(some 67), none, .mov (.t 9)⟩,
              ⟨(some 68), none, .len .sl (.t 67)⟩,
              ⟨(some 69), none, .ibin .eql (.t 68) (.c (.int .i64 0))⟩,
              ⟨(some 70), none, .mov (.t 69)⟩,
              ⟨(some 71), (some (70, true)), .mov (.t 10)⟩,
              ⟨(some 72), (some (70, true)), .mov (.t 1)⟩,
              ⟨(some 73), (some (70, true)), .len .sl (.t 72)⟩,
              ⟨(some 74), (some (70, true)), .ibin .lss (.t 71) (.t 73)⟩,
              ⟨(some 75), none, .pick (.t 70) (.t 74) (.c (.bool false))⟩,
              ⟨(some 6), none, .mov (.t 75)⟩])
            .ret)
           .skip))
         (.seq
          (.seq
           (.reg [
             ⟨(some 76), none, .mov (.t 9)⟩,
             ⟨(some 77), none, .len .sl (.t 76)⟩,
             ⟨(some 78), none, .mov (.t 1)⟩,
             ⟨(some 79), none, .len .sl (.t 78)⟩,
             ⟨(some 80), none, .ibin .neq (.t 77) (.t 79)⟩])
           (.cond (.t 80)
            (.seq
             (.reg [
               ⟨(some 6), none, .mov (.c (.bool false))⟩])
             .ret)
            .skip))
          (.seq
           (.reg [
             ⟨(some 81), none, .mov (.t 7)⟩,
             ⟨(some 82), none, .mov (.t 1)⟩,
             ⟨(some 83), none, .mov (.t 9)⟩,
             ⟨(some 84), none, .call (.c (.fn 17 [] [])) [(.t 81), (.t 82), (.t 83)]⟩,
             ⟨(some 11), none, .mov (.t 84)⟩])
           (.seq
            (.seq
             (.reg [
               ⟨(some 12), none, .mov (.c (.int .i64 0))⟩])
             (.block 2
              (.loop
               (.seq
                (.seq
                 (.reg [
                   ⟨(some 85), none, .mov (.t 12)⟩,
                   ⟨(some 86), none, .ibin .lss (.t 85) (.c (.int .i64 4))⟩])
                 (.cond (.t 86)
                  .skip
                  (.exit 2)))
                (.seq
                 (.block 3
                  (.seq
                   (.reg [
                     ⟨(some 13), none, .mov (.c (.int .i64 0))⟩])
                   (.seq
                    (.seq
                     (.reg [
                       ⟨(some 14), none, .mov (.c (.int .i64 0))⟩])
                     (.block 4
                      (.loop
                       (.seq
                        (.seq
                         (.reg [
                           ⟨(some 89), none, .mov (.t 14)⟩,
                           ⟨(some 90), none, .mov (.t 11)⟩,
                           ⟨(some 91), none, .len .sl (.t 90)⟩,
                           ⟨(some 92), none, .ibin .lss (.t 89) (.t 91)⟩])
                         (.cond (.t 92)
                          .skip
                          (.exit 4)))
                        (.seq
                         (.block 5
                          (.seq
                           (.seq
                            (.draw [
                              ⟨(some 95), none, .mov (.t 11)⟩,
                              ⟨(some 96), none, .mov (.t 14)⟩,
                              ⟨(some 97), none, .mov (.t 12)⟩,
                              ⟨(some 98), none, .iaddrSl 5 (.t 95) (.t 96)⟩,
                              ⟨(some 99), none, .faddr 1 (.t 98)⟩,
                              ⟨(some 100), none, .iaddrArr 4 1 (.t 99) (.t 97)⟩,
                              ⟨(some 101), none, .load false 1 (.t 100)⟩,
                              ⟨(some 102), none, .ibin .lss (.t 101) (.c (.int .i64 0))⟩,
                              ⟨(some 103), none, .mov (.t 102)⟩,
                              ⟨(some 104), (some (103, false)), .mov (.t 11)⟩,
                              ⟨(some 105), (some (103, false)), .mov (.t 14)⟩,
                              ⟨(some 106), (some (103, false)), .mov (.t 12)⟩,
                              ⟨(some 107), (some (103, false)), .iaddrSl 5 (.t 104) (.t 105)⟩,
                              ⟨(some 108), (some (103, false)), .faddr 1 (.t 107)⟩,
                              ⟨(some 109), (some (103, false)), .iaddrArr 4 1 (.t 108) (.t 106)⟩,
                              ⟨(some 110), (some (103, false)), .load false 1 (.t 109)⟩,
                              ⟨(some 111), (some (103, false)), .mov (.t 0)⟩,
                              ⟨(some 112), (some (103, false)), .mov (.t 14)⟩,
                              ⟨(some 113), (some (103, false)), .mov (.t 12)⟩,
                              ⟨(some 114), (some (103, false)), .iaddrSl 4 (.t 111) (.t 112)⟩,
                              ⟨(some 115), (some (103, false)), .iaddrArr 4 1 (.t 114) (.t 113)⟩,
                              ⟨(some 116), (some (103, false)), .load false 1 (.t 115)⟩,
                              ⟨(some 117), (some (103, false)), .ibin .gtr (.t 110) (.t 116)⟩,
                              ⟨(some 118), none, .pick (.t 103) (.c (.bool true)) (.t 117)⟩]
                              [[], [], [], [0, 1], [3, 0, 1], [4, 2, 3, 0, 1], [5, 4, 2, 3, 0, 1], [6, 5, 4, 2, 3, 0, 1], [7, 6, 5, 4, 2, 3, 0, 1], [8, 7, 6, 5, 4, 2, 3, 0, 1], [8, 7, 6, 5, 4, 2, 3, 0, 1], [8, 7, 6, 5, 4, 2, 3, 0, 1], [9, 10, 8, 7, 6, 5, 4, 2, 3, 0, 1], [12, 8, 9, 10, 7, 6, 5, 4, 2, 3, 0, 1], [13, 11, 8, 12, 9, 10, 7, 6, 5, 4, 2, 3, 0, 1], [14, 8, 13, 11, 12, 9, 10, 7, 6, 5, 4, 2, 3, 0, 1], [8, 7, 6, 5, 4, 2, 3, 0, 1], [8, 7, 6, 5, 4, 2, 3, 0, 1], [8, 7, 6, 5, 4, 2, 3, 0, 1], [16, 17, 8, 7, 6, 5, 4, 2, 3, 0, 1], [19, 18, 8, 16, 17, 7, 6, 5, 4, 2, 3, 0, 1], [20, 8, 19, 18, 16, 17, 7, 6, 5, 4, 2, 3, 0, 1], [15, 21, 8, 14, 13, 11, 12, 9, 10, 7, 6, 5, 4, 2, 3, 0, 1, 20, 19, 18, 16, 17], [8, 22, 7, 6, 5, 4, 2, 3, 0, 1, 15, 21, 14, 13, 11, 12, 9, 10, 20, 19, 18, 16, 17]])
                            (.cond (.t 118)
                             (.seq
                              (.reg [
                                ⟨(some 6), none, .mov (.c (.bool false))⟩])
                              .ret)
                             .skip))
                           (.draw [
                             ⟨(some 119), none, .mov (.t 13)⟩,
                             ⟨(some 120), none, .mov (.t 0)⟩,
                             ⟨(some 121), none, .mov (.t 14)⟩,
                             ⟨(some 122), none, .mov (.t 12)⟩,
                             ⟨(some 123), none, .iaddrSl 4 (.t 120) (.t 121)⟩,
                             ⟨(some 124), none, .iaddrArr 4 1 (.t 123) (.t 122)⟩,
                             ⟨(some 125), none, .load false 1 (.t 124)⟩,
                             ⟨(some 126), none, .ibin .add (.t 119) (.t 125)⟩,
                             ⟨(some 127), none, .mov (.t 11)⟩,
                             ⟨(some 128), none, .mov (.t 14)⟩,
                             ⟨(some 129), none, .mov (.t 12)⟩,
                             ⟨(some 130), none, .iaddrSl 5 (.t 127) (.t 128)⟩,
                             ⟨(some 131), none, .faddr 1 (.t 130)⟩,
                             ⟨(some 132), none, .iaddrArr 4 1 (.t 131) (.t 129)⟩,
                             ⟨(some 133), none, .load false 1 (.t 132)⟩,
                             ⟨(some 134), none, .ibin .sub (.t 126) (.t 133)⟩,
                             ⟨(some 13), none, .mov (.t 134)⟩]
                             [[], [], [], [], [1, 2], [4, 3, 1, 2], [5, 4, 3, 1, 2], [0, 6, 5, 4, 3, 1, 2], [], [], [], [8, 9], [11, 8, 9], [12, 10, 11, 8, 9], [13, 12, 10, 11, 8, 9], [7, 14, 0, 6, 5, 4, 3, 1, 2, 13, 12, 10, 11, 8, 9], [15, 0, 1, 2, 3, 4, 5, 6, 7, 8, 9, 10, 11, 12, 13, 14]])))
                         (.reg [
                           ⟨(some 93), none, .mov (.t 14)⟩,
                           ⟨(some 94), none, .ibin .add (.t 93) (.c (.int .i64 1))⟩,
                           ⟨(some 14), none, .mov (.t 94)⟩]))))))
                    (.seq
                     (.seq
                      (.reg [
                        ⟨(some 15), none, .mov (.c (.int .i64 0))⟩])
                      (.block 6
                       (.loop
                        (.seq
                         (.seq
                          (.reg [
                            ⟨(some 135), none, .mov (.t 15)⟩,
                            ⟨(some 136), none, .mov (.t 1)⟩,
                            ⟨(some 137), none, .len .sl (.t 136)⟩,
                            ⟨(some 138), none, .ibin .lss (.t 135) (.t 137)⟩])
                          (.cond (.t 138)
                           .skip
                           (.exit 6)))
                         (.seq
                          (.block 7
                           (.reg [
                             ⟨(some 141), none, .mov (.t 13)⟩,
                             ⟨(some 142), none, .mov (.t 1)⟩,
                             ⟨(some 143), none, .mov (.t 15)⟩,
                             ⟨(some 144), none, .mov (.t 12)⟩,
                             ⟨(some 145), none, .iaddrSl 4 (.t 142) (.t 143)⟩,
                             ⟨(some 146), none, .iaddrArr 4 1 (.t 145) (.t 144)⟩,
                             ⟨(some 147), none, .load false 1 (.t 146)⟩,
                             ⟨(some 148), none, .ibin .sub (.t 141) (.t 147)⟩,
                             ⟨(some 13), none, .mov (.t 148)⟩]))
                          (.reg [
                            ⟨(some 139), none, .mov (.t 15)⟩,
                            ⟨(some 140), none, .ibin .add (.t 139) (.c (.int .i64 1))⟩,
                            ⟨(some 15), none, .mov (.t 140)⟩]))))))
                     (.seq
                      (.reg [
                        ⟨(some 149), none, .mov (.t 13)⟩,
                        ⟨(some 150), none, .ibin .neq (.t 149) (.c (.int .i64 0))⟩])
                      (.cond (.t 150)
                       (.seq
                        (.reg [
                          ⟨(some 6), none, .mov (.c (.bool false))⟩])
                        .ret)
                       .skip))))))
                 (.reg [
                   ⟨(some 87), none, .mov (.t 12)⟩,
                   ⟨(some 88), none, .ibin .add (.t 87) (.c (.int .i64 1))⟩,
                   ⟨(some 12), none, .mov (.t 88)⟩]))))))
            (.seq
             (.seq
              (.reg [
                ⟨(some 151), none, .mov (.t 1)⟩,
                ⟨(some 152), none, .len .sl (.t 151)⟩,
                ⟨(some 153), none, .ibin .eql (.t 152) (.c (.int .i64 0))⟩])
              (.cond (.t 153)
               (.seq
                (.reg [
                  ⟨(some 6), none, .mov (.c (.bool true))⟩])
                .ret)
               .skip))
             (.seq
              (.reg [
                ⟨(some 154), none, .mov (.t 2)⟩,
                ⟨(some 155), none, .i2i .u64 (.t 154)⟩,
                ⟨(some 156), none, .mov (.t 7)⟩,
                ⟨(some 157), none, .len .sl (.t 156)⟩,
                ⟨(some 158), none, .i2i .u64 (.t 157)⟩,
                ⟨(some 159), none, .ibin .rem (.t 155) (.t 158)⟩,
                ⟨(some 160), none, .i2i .i64 (.t 159)⟩,
                ⟨(some 16), none, .mov (.t 160)⟩])
              (.seq
               (.reg [
                 ⟨(some 162), none, .mov (.t 7)⟩,
                 ⟨(some 163), none, .mov (.t 16)⟩,
                 ⟨(some 164), none, .iaddrSl 5 (.t 162) (.t 163)⟩,
                 ⟨(some 165), none, .faddr 1 (.t 164)⟩,
                 ⟨(some 166), none, .load true 4 (.t 165)⟩,
                 ⟨(some 167), none, .build [(.int .i64 0), (.int .i64 0), (.int .i64 0), (.int .i64 0)] [(0, 1, (.c (.int .i64 1))), (1, 1, (.c (.int .i64 1))), (2, 1, (.c (.int .i64 1))), (3, 1, (.c (.int .i64 1)))]⟩,
                 ⟨(some 168), none, .call (.c (.fn 19 [] [])) [(.t 166), (.t 167)]⟩,
                 ⟨(some 161), none, .mov (.t 168)⟩,
                 ⟨(some 169), none, .extract (.t 161) 0⟩,
                 ⟨(some 170), none, .extract (.t 161) 1⟩,
                 ⟨(some 17), none, .box 4 (.c (.agg [(.int .i64 0), (.int .i64 0), (.int .i64 0), (.int .i64 0)]))⟩,
                 ⟨none, none, .store 4 (.t 17) (.t 169)⟩,
                 ⟨(some 18), none, .mov (.t 170)⟩])
               (.seq
                (.seq
                 (.reg [
                   ⟨(some 171), none, .mov (.t 18)⟩,
                   ⟨(some 172), none, .eq true .iface true (.t 171) (.c .nili)⟩])
                 (.cond (.t 172)
                  (.seq
                   (.reg [
                     ⟨(some 6), none, .mov (.c (.bool true))⟩])
                   .ret)
                  .skip))
                (.seq
                 (.reg [
                   ⟨(some 173), none, .mov (.t 7)⟩,
                   ⟨(some 174), none, .mov (.t 16)⟩,
                   ⟨(some 175), none, .load true 4 (.t 17)⟩,
                   ⟨(some 176), none, .iaddrSl 5 (.t 173) (.t 174)⟩,
                   ⟨(some 177), none, .faddr 1 (.t 176)⟩,
                   ⟨none, none, .store 4 (.t 177) (.t 175)⟩])
                 (.seq
                  (.reg [
                    ⟨(some 179), none, .mov (.t 7)⟩,
                    ⟨(some 180), none, .mov (.t 1)⟩,
                    ⟨(some 181), none, .iaddrSl 4 (.t 180) (.c (.int .i64 0))⟩,
                    ⟨(some 182), none, .load true 4 (.t 181)⟩,
                    ⟨(some 183), none, .call (.c (.fn 10 [] [])) [(.t 179), (.t 182)]⟩,
                    ⟨(some 178), none, .mov (.t 183)⟩,
                    ⟨(some 184), none, .extract (.t 178) 0⟩,
                    ⟨(some 185), none, .extract (.t 178) 1⟩,
                    ⟨(some 19), none, .mov (.t 184)⟩,
                    ⟨(some 20), none, .mov (.t 185)⟩])
                  (.seq
                   (.reg [
                     ⟨(some 186), none, .mov (.t 20)⟩,
                     ⟨(some 6), none, .mov (.t 186)⟩])
                   .ret)))))))))))))))))⟩

theorem c34 : cFun Tryd.prog [1, 4] Tryd.f34 = some F34 := by kernel_rfl
theorem c50 : cFun Tryd.prog [1, 4] Tryd.f50 = some F50 := by kernel_rfl
theorem c32 : cFun Tryd.prog [1, 4] Tryd.f32 = some F32 := by kernel_rfl
theorem c10 : cFun Tryd.prog [1, 4] Tryd.f10 = some F10 := by kernel_rfl
theorem c33 : cFun Tryd.prog [1, 4] Tryd.f33 = some F33 := by kernel_rfl
theorem c11 : cFun Tryd.prog [1, 4] Tryd.f11 = some F11 := by kernel_rfl
theorem c17 : cFun Tryd.prog [1, 4] Tryd.f17 = some F17 := by kernel_rfl
theorem c40 : cFun Tryd.prog [1, 4] Tryd.f40 = some F40 := by kernel_rfl
theorem c39 : cFun Tryd.prog [1, 4] Tryd.f39 = some F39 := by kernel_rfl
theorem c37 : cFun Tryd.prog [1, 4] Tryd.f37 = some F37 := by kernel_rfl
theorem c15 : cFun Tryd.prog [1, 4] Tryd.f15 = some F15 := by kernel_rfl
theorem c16 : cFun Tryd.prog [1, 4] Tryd.f16 = some F16 := by kernel_rfl
theorem c18 : cFun Tryd.prog [1, 4] Tryd.f18 = some F18 := by kernel_rfl
theorem c14 : cFun Tryd.prog [1, 4] Tryd.f14 = some F14 := by kernel_rfl
theorem c9 : cFun Tryd.prog [1, 4] Tryd.f9 = some F9 := by kernel_rfl
theorem c3 : cFun Tryd.prog [1, 4] Tryd.f3 = some F3 := by kernel_rfl
theorem c4 : cFun Tryd.prog [1, 4] Tryd.f4 = some F4 := by kernel_rfl
theorem c5 : cFun Tryd.prog [1, 4] Tryd.f5 = some F5 := by kernel_rfl
end Go.Proofs.YtdjcpmdjodhfeaaDoor.A16
