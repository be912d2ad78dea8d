import Derived.Test.YtkbjfhkhbcgkgaaDoorFKindB01
open Go AH
namespace Go.Proofs.YtkbjfhkhbcgkgaaDoor.B01
-- quitrent/vec.Scale
def F21 : AFun := ⟨20, 2, [.cell 4 true 4, .tmp 5],
  (.seq
   (.reg [
     ⟨(some 2), none, .box 4 (.t 0)⟩,
     ⟨(some 3), none, .box 1 (.t 1)⟩,
     ⟨(some 4), none, .box 4 (.c (.agg [(.int .i64 0), (.int .i64 0), (.int .i64 0), (.int .i64 0)]))⟩,
     ⟨(some 5), none, .mov (.c .nili)⟩])
   (.seq
    (.seq
     (.reg [
       ⟨(some 6), none, .load false 1 (.t 3)⟩,
       ⟨(some 7), none, .ibin .lss (.t 6) (.c (.int .i64 0))⟩,
       ⟨(some 8), none, .mov (.t 7)⟩,
       ⟨(some 9), (some (8, false)), .load false 1 (.t 3)⟩,
       ⟨(some 10), (some (8, false)), .ibin .gtr (.t 9) (.c (.int .i64 16))⟩,
       ⟨(some 11), none, .pick (.t 8) (.c (.bool true)) (.t 10)⟩])
     (.cond (.t 11)
      (.seq
       (.draw [
         ⟨(some 12), none, .build [(.int .i64 0), (.int .i64 0), (.int .i64 0), (.int .i64 0)] []⟩,
         ⟨(some 13), none, .loadg 0⟩,
         ⟨none, none, .store 4 (.t 4) (.t 12)⟩,
         ⟨(some 5), none, .mov (.t 13)⟩]
         [[], [], [0], [1, 2, 0]])
       .ret)
      .skip))
    (.seq
     (.reg [
       ⟨(some 14), none, .load true 4 (.t 2)⟩,
       ⟨(some 15), none, .build [(.int .i64 0), (.int .i64 0), (.int .i64 0), (.int .i64 0)] []⟩,
       ⟨(some 16), none, .mkfn 52 [] [(.t 3)]⟩,
       ⟨(some 17), none, .call (.c (.fn 48 [] [])) [(.t 14), (.t 15), (.t 16)]⟩,
       ⟨(some 18), none, .extract (.t 17) 0⟩,
       ⟨(some 19), none, .extract (.t 17) 1⟩,
       ⟨none, none, .store 4 (.t 4) (.t 18)⟩,
       ⟨(some 5), none, .mov (.t 19)⟩])
     .ret)))⟩

-- quitrent/vec.Scale$1
def F52 : AFun := ⟨9, 3, [.tmp 5],
  (.seq
   (.reg [
     ⟨(some 5), none, .mov (.c (.int .i64 0))⟩])
   (.seq
    (.reg [
      ⟨(some 6), none, .mov (.t 0)⟩,
      ⟨(some 7), none, .load false 1 (.t 2)⟩,
      ⟨(some 8), none, .ibin .mul (.t 6) (.t 7)⟩,
      ⟨(some 5), none, .mov (.t 8)⟩])
    .ret))⟩

-- quitrent/vec.Sum
def F12 : AFun := ⟨33, 1, [.cell 2 true 4, .tmp 3],
  (.seq
   (.reg [
     ⟨(some 2), none, .box 4 (.c (.agg [(.int .i64 0), (.int .i64 0), (.int .i64 0), (.int .i64 0)]))⟩,
     ⟨(some 3), none, .mov (.c .nili)⟩])
   (.seq
    (.reg [
      ⟨(some 4), none, .box 4 (.c (.agg [(.int .i64 0), (.int .i64 0), (.int .i64 0), (.int .i64 0)]))⟩])
    (.seq
     (.seq
      (.reg [
        ⟨(some 9), none, .mov (.t 0)⟩,
        ⟨(some 10), none, .len .sl (.t 9)⟩,
        ⟨(some 11), none, .mov (.c (.int .i64 0))⟩])
      (.block 0
       (.loop
        (.seq
         (.reg [
           ⟨(some 12), none, .ibin .lss (.t 11) (.t 10)⟩])
         (.seq
          (.cond (.t 12)
           .skip
           (.exit 0))
          (.seq
           (.block 1
            (.seq
             (.reg [
               ⟨(some 13), none, .mov (.t 11)⟩,
               ⟨(some 14), none, .iaddrSl 4 (.t 9) (.t 11)⟩,
               ⟨(some 15), none, .load true 4 (.t 14)⟩,
               ⟨(some 6), none, .box 4 (.c (.agg [(.int .i64 0), (.int .i64 0), (.int .i64 0), (.int .i64 0)]))⟩,
               ⟨(some 5), none, .mov (.t 13)⟩,
               ⟨none, none, .store 4 (.t 6) (.t 15)⟩])
             (.seq
              (.reg [
                ⟨(some 17), none, .load true 4 (.t 4)⟩,
                ⟨(some 18), none, .load true 4 (.t 6)⟩,
                ⟨(some 19), none, .call (.c (.fn 18 [] [])) [(.t 17), (.t 18)]⟩,
                ⟨(some 16), none, .mov (.t 19)⟩,
                ⟨(some 20), none, .extract (.t 16) 0⟩,
                ⟨(some 21), none, .extract (.t 16) 1⟩,
                ⟨(some 7), none, .box 4 (.c (.agg [(.int .i64 0), (.int .i64 0), (.int .i64 0), (.int .i64 0)]))⟩,
                ⟨none, none, .store 4 (.t 7) (.t 20)⟩,
                ⟨(some 8), none, .mov (.t 21)⟩])
              (.seq
               (.seq
                (.reg [
                  ⟨(some 22), none, .mov (.t 8)⟩,
                  ⟨(some 23), none, .eq true .iface true (.t 22) (.c .nili)⟩])
                (.cond (.t 23)
                 (.seq
                  (.reg [
                    ⟨(some 24), none, .build [(.int .i64 0), (.int .i64 0), (.int .i64 0), (.int .i64 0)] []⟩,
                    ⟨(some 25), none, .mov (.t 5)⟩,
                    ⟨(some 26), none, .mov (.t 8)⟩,
                    ⟨(some 27), none, .build [(.str ⟨#[]⟩), (.int .i64 0), .nili] [(0, 1, (.c (.str ⟨#[115, 117, 109]⟩))), (1, 1, (.t 25)), (2, 1, (.t 26))]⟩,
                    ⟨(some 28), none, .box 3 (.t 27)⟩,
                    ⟨(some 29), none, .mkifc 33 (.t 28)⟩,
                    ⟨none, none, .store 4 (.t 2) (.t 24)⟩,
                    ⟨(some 3), none, .mov (.t 29)⟩])
                  .ret)
                 .skip))
               (.reg [
                 ⟨(some 30), none, .load true 4 (.t 7)⟩,
                 ⟨none, none, .store 4 (.t 4) (.t 30)⟩])))))
           (.reg [
             ⟨(some 31), none, .ibin .add (.t 11) (.c (.int .i64 1))⟩,
             ⟨(some 11), none, .mov (.t 31)⟩])))))))
     (.seq
      (.reg [
        ⟨(some 32), none, .load true 4 (.t 4)⟩,
        ⟨none, none, .store 4 (.t 2) (.t 32)⟩,
        ⟨(some 3), none, .mov (.c .nili)⟩])
      .ret))))⟩

-- quitrent/quitrentref01.Scale
def F24 : AFun := ⟨37, 2, [.cell 4 true 4, .tmp 5],
  (.seq
   (.reg [
     ⟨(some 2), none, .box 4 (.t 0)⟩,
     ⟨(some 4), none, .box 4 (.c (.agg [(.int .i64 0), (.int .i64 0), (.int .i64 0), (.int .i64 0)]))⟩,
     ⟨(some 5), none, .mov (.c (.int .i64 0))⟩])
   (.seq
    (.seq
     (.reg [
       ⟨(some 8), none, .load true 4 (.t 2)⟩,
       ⟨(some 9), none, .call (.c (.fn 25 [] [])) [(.t 8)]⟩,
       ⟨(some 10), none, .un .not (.t 9)⟩,
       ⟨(some 11), none, .mov (.t 10)⟩,
       ⟨(some 12), (some (11, false)), .mov (.t 1)⟩,
       ⟨(some 13), (some (11, false)), .ibin .lss (.t 12) (.c (.int .i64 0))⟩,
       ⟨(some 14), none, .pick (.t 11) (.c (.bool true)) (.t 13)⟩,
       ⟨(some 15), none, .mov (.t 14)⟩,
       ⟨(some 16), (some (15, false)), .mov (.t 1)⟩,
       ⟨(some 17), (some (15, false)), .ibin .gtr (.t 16) (.c (.int .i64 16))⟩,
       ⟨(some 18), none, .pick (.t 15) (.c (.bool true)) (.t 17)⟩])
     (.cond (.t 18)
      (.seq
       (.reg [
         ⟨(some 19), none, .build [(.int .i64 0), (.int .i64 0), (.int .i64 0), (.int .i64 0)] []⟩,
         ⟨none, none, .store 4 (.t 4) (.t 19)⟩,
         ⟨(some 5), none, .mov (.c (.int .i64 1))⟩])
       .ret)
      .skip))
    (.seq
     (.reg [
       ⟨(some 20), none, .build [(.int .i64 0), (.int .i64 0), (.int .i64 0), (.int .i64 0)] []⟩,
       ⟨(some 6), none, .box 4 (.c (.agg [(.int .i64 0), (.int .i64 0), (.int .i64 0), (.int .i64 0)]))⟩,
       ⟨none, none, .store 4 (.t 6) (.t 20)⟩])
     (.seq
      (.seq
       (.reg [
         ⟨(some 7), none, .mov (.c (.int .i64 0))⟩])
       (.block 0
        (.loop
         (.seq
          (.seq
           (.reg [
             ⟨(some 21), none, .mov (.t 7)⟩,
             ⟨(some 22), none, .ibin .lss (.t 21) (.c (.int .i64 4))⟩])
           (.cond (.t 22)
            .skip
            (.exit 0)))
          (.seq
           (.block 1
            (.reg [
              ⟨(some 25), none, .mov (.t 7)⟩,
              ⟨(some 26), none, .mov (.t 7)⟩,
              ⟨(some 27), none, .iaddrArr 4 1 (.t 2) (.t 26)⟩,
              ⟨(some 28), none, .load false 1 (.t 27)⟩,
              ⟨(some 29), none, .mov (.t 1)⟩,
              ⟨(some 30), none, .ibin .mul (.t 28) (.t 29)⟩,
              ⟨(some 31), none, .iaddrArr 4 1 (.t 6) (.t 25)⟩,
              ⟨none, none, .store 1 (.t 31) (.t 30)⟩]))
           (.reg [
             ⟨(some 23), none, .mov (.t 7)⟩,
             ⟨(some 24), none, .ibin .add (.t 23) (.c (.int .i64 1))⟩,
             ⟨(some 7), none, .mov (.t 24)⟩]))))))
      (.seq
       (.seq
        (.reg [
          ⟨(some 32), none, .load true 4 (.t 6)⟩,
          ⟨(some 33), none, .call (.c (.fn 25 [] [])) [(.t 32)]⟩,
          ⟨(some 34), none, .un .not (.t 33)⟩])
        (.cond (.t 34)
         (.seq
          (.reg [
            ⟨(some 35), none, .build [(.int .i64 0), (.int .i64 0), (.int .i64 0), (.int .i64 0)] []⟩,
            ⟨none, none, .store 4 (.t 4) (.t 35)⟩,
            ⟨(some 5), none, .mov (.c (.int .i64 4))⟩])
          .ret)
         .skip))
       (.seq
        (.reg [
          ⟨(some 36), none, .load true 4 (.t 6)⟩,
          ⟨none, none, .store 4 (.t 4) (.t 36)⟩,
          ⟨(some 5), none, .mov (.c (.int .i64 0))⟩])
        .ret))))))⟩

-- quitrent/quitrentref01.Sum
def F13 : AFun := ⟨32, 1, [.cell 2 true 4, .tmp 3, .tmp 4],
  (.seq
   (.reg [
     ⟨(some 2), none, .box 4 (.c (.agg [(.int .i64 0), (.int .i64 0), (.int .i64 0), (.int .i64 0)]))⟩,
     ⟨(some 3), none, .mov (.c (.int .i64 0))⟩,
     ⟨(some 4), none, .mov (.c (.int .i64 0))⟩])
   (.seq
    (.reg [
      ⟨(some 9), none, .build [(.int .i64 0), (.int .i64 0), (.int .i64 0), (.int .i64 0)] []⟩,
      ⟨(some 5), none, .box 4 (.c (.agg [(.int .i64 0), (.int .i64 0), (.int .i64 0), (.int .i64 0)]))⟩,
      ⟨none, none, .store 4 (.t 5) (.t 9)⟩])
    (.seq
     (.seq
      (.reg [
        ⟨(some 6), none, .mov (.c (.int .i64 0))⟩])
      (.block 0
       (.loop
        (.seq
         (.seq
          (.reg [
            ⟨(some 10), none, .mov (.t 6)⟩,
            ⟨(some 11), none, .mov (.t 0)⟩,
            ⟨(some 12), none, .len .sl (.t 11)⟩,
            ⟨(some 13), none, .ibin .lss (.t 10) (.t 12)⟩])
          (.cond (.t 13)
           .skip
           (.exit 0)))
         (.seq
          (.block 1
           (.seq
            (.draw [
              ⟨(some 17), none, .load true 4 (.t 5)⟩,
              ⟨(some 18), none, .mov (.t 0)⟩,
              ⟨(some 19), none, .mov (.t 6)⟩,
              ⟨(some 20), none, .iaddrSl 4 (.t 18) (.t 19)⟩,
              ⟨(some 21), none, .load true 4 (.t 20)⟩,
              ⟨(some 22), none, .call (.c (.fn 22 [] [])) [(.t 17), (.t 21)]⟩,
              ⟨(some 16), none, .mov (.t 22)⟩,
              ⟨(some 23), none, .extract (.t 16) 0⟩,
              ⟨(some 24), none, .extract (.t 16) 1⟩,
              ⟨(some 7), none, .box 4 (.c (.agg [(.int .i64 0), (.int .i64 0), (.int .i64 0), (.int .i64 0)]))⟩,
              ⟨none, none, .store 4 (.t 7) (.t 23)⟩,
              ⟨(some 8), none, .mov (.t 24)⟩]
              [[], [], [], [1, 2], [3, 1, 2], [0, 4, 3, 1, 2], [5, 0, 4, 3, 1, 2], [6, 5, 0, 4, 3, 1, 2], [6, 5, 0, 4, 3, 1, 2], [], [9, 7, 5, 0, 1, 2, 3, 4, 6], [8, 10, 0, 1, 2, 3, 4, 5, 6, 7, 9]])
            (.seq
             (.seq
              (.reg [
                ⟨(some 25), none, .mov (.t 8)⟩,
                ⟨(some 26), none, .ibin .neq (.t 25) (.c (.int .i64 0))⟩])
              (.cond (.t 26)
               (.seq
                (.reg [
                  ⟨(some 27), none, .build [(.int .i64 0), (.int .i64 0), (.int .i64 0), (.int .i64 0)] []⟩,
                  ⟨(some 28), none, .mov (.t 8)⟩,
                  ⟨(some 29), none, .mov (.t 6)⟩,
                  ⟨none, none, .store 4 (.t 2) (.t 27)⟩,
                  ⟨(some 3), none, .mov (.t 28)⟩,
                  ⟨(some 4), none, .mov (.t 29)⟩])
                .ret)
               .skip))
             (.reg [
               ⟨(some 30), none, .load true 4 (.t 7)⟩,
               ⟨none, none, .store 4 (.t 5) (.t 30)⟩]))))
          (.reg [
            ⟨(some 14), none, .mov (.t 6)⟩,
            ⟨(some 15), none, .ibin .add (.t 14) (.c (.int .i64 1))⟩,
            ⟨(some 6), none, .mov (.t 15)⟩]))))))
     (.seq
      (.reg [
        ⟨(some 31), none, .load true 4 (.t 5)⟩,
        ⟨none, none, .store 4 (.t 2) (.t 31)⟩,
        ⟨(some 3), none, .mov (.c (.int .i64 0))⟩,
        ⟨(some 4), none, .mov (.c (.int .i64 0))⟩])
      .ret))))⟩

-- quitrent/quitrentref01.Fits
def F26 : AFun := ⟨31, 2, [.tmp 4],
  (.seq
   (.reg [
     ⟨(some 2), none, .box 4 (.t 0)⟩,
     ⟨(some 3), none, .box 4 (.t 1)⟩,
     ⟨(some 4), none, .mov (.c (.bool false))⟩])
   (.seq
    (.reg [
      ⟨(some 5), none, .iaddrArr 4 1 (.t 2) (.c (.int .i64 0))⟩,
      ⟨(some 6), none, .load false 1 (.t 5)⟩,
      ⟨(some 7), none, .iaddrArr 4 1 (.t 3) (.c (.int .i64 0))⟩,
      ⟨(some 8), none, .load false 1 (.t 7)⟩,
      ⟨(some 9), none, .ibin .leq (.t 6) (.t 8)⟩,
      ⟨(some 10), none, .mov (.t 9)⟩,
      ⟨(some 11), (some (10, true)), .iaddrArr 4 1 (.t 2) (.c (.int .i64 1))⟩,
      ⟨(some 12), (some (10, true)), .load false 1 (.t 11)⟩,
      ⟨(some 13), (some (10, true)), .iaddrArr 4 1 (.t 3) (.c (.int .i64 1))⟩,
      ⟨(some 14), (some (10, true)), .load false 1 (.t 13)⟩,
      ⟨(some 15), (some (10, true)), .ibin .leq (.t 12) (.t 14)⟩,
      ⟨(some 16), none, .pick (.t 10) (.t 15) (.c (.bool false))⟩,
      ⟨(some 17), none, .mov (.t 16)⟩,
      ⟨(some 18), (some (17, true)), .iaddrArr 4 1 (.t 2) (.c (.int .i64 2))⟩,
      ⟨(some 19), (some (17, true)), .load false 1 (.t 18)⟩,
      ⟨(some 20), (some (17, true)), .iaddrArr 4 1 (.t 3) (.c (.int .i64 2))⟩,
      ⟨(some 21), (some (17, true)), .load false 1 (.t 20)⟩,
      ⟨(some 22), (some (17, true)), .ibin .leq (.t 19) (.t 21)⟩,
      ⟨(some 23), none, .pick (.t 17) (.t 22) (.c (.bool false))⟩,
      ⟨(some 24), none, .mov (.t 23)⟩,
      ⟨(some 25), (some (24, true)), .iaddrArr 4 1 (.t 2) (.c (.int .i64 3))⟩,
      ⟨(some 26), (some (24, true)), .load false 1 (.t 25)⟩,
      ⟨(some 27), (some (24, true)), .iaddrArr 4 1 (.t 3) (.c (.int .i64 3))⟩,
      ⟨(some 28), (some (24, true)), .load false 1 (.t 27)⟩,
      ⟨(some 29), (some (24, true)), .ibin .leq (.t 26) (.t 28)⟩,
      ⟨(some 30), none, .pick (.t 24) (.t 29) (.c (.bool false))⟩,
      ⟨(some 4), none, .mov (.t 30)⟩])
    .ret))⟩

-- quitrent/quitrentlaw01.awake
def F11 : AFun := ⟨77, 0, [.tmp 0],
  (.seq
   (.reg [
     ⟨(some 0), none, .mov (.c (.bool false))⟩])
   (.seq
    (.reg [
      ⟨(some 9), none, .build [(.int .i64 0), (.int .i64 0), (.int .i64 0), (.int .i64 0)] [(0, 1, (.c (.int .i64 1))), (1, 1, (.c (.int .i64 2))), (2, 1, (.c (.int .i64 3))), (3, 1, (.c (.int .i64 4)))]⟩,
      ⟨(some 10), none, .build [(.int .i64 0), (.int .i64 0), (.int .i64 0), (.int .i64 0)] [(0, 1, (.c (.int .i64 1))), (1, 1, (.c (.int .i64 1))), (2, 1, (.c (.int .i64 1))), (3, 1, (.c (.int .i64 1)))]⟩,
      ⟨(some 11), none, .call (.c (.fn 18 [] [])) [(.t 9), (.t 10)]⟩,
      ⟨(some 8), none, .mov (.t 11)⟩,
      ⟨(some 12), none, .extract (.t 8) 0⟩,
      ⟨(some 13), none, .extract (.t 8) 1⟩,
      ⟨(some 1), none, .box 4 (.c (.agg [(.int .i64 0), (.int .i64 0), (.int .i64 0), (.int .i64 0)]))⟩,
      ⟨none, none, .store 4 (.t 1) (.t 12)⟩,
      ⟨(some 2), none, .mov (.t 13)⟩])
    (.seq
     (.reg [
       ⟨(some 15), none, .build [(.int .i64 0), (.int .i64 0), (.int .i64 0), (.int .i64 0)] []⟩,
       ⟨(some 16), none, .build [(.int .i64 0), (.int .i64 0), (.int .i64 0), (.int .i64 0)] [(0, 1, (.c (.int .i64 0))), (1, 1, (.c (.int .i64 0))), (2, 1, (.c (.int .i64 0))), (3, 1, (.c (.int .i64 1)))]⟩,
       ⟨(some 17), none, .call (.c (.fn 17 [] [])) [(.t 15), (.t 16)]⟩,
       ⟨(some 14), none, .mov (.t 17)⟩,
       ⟨(some 18), none, .extract (.t 14) 0⟩,
       ⟨(some 19), none, .extract (.t 14) 1⟩,
       ⟨(some 3), none, .box 4 (.c (.agg [(.int .i64 0), (.int .i64 0), (.int .i64 0), (.int .i64 0)]))⟩,
       ⟨none, none, .store 4 (.t 3) (.t 18)⟩,
       ⟨(some 4), none, .mov (.t 19)⟩])
     (.seq
      (.reg [
        ⟨(some 21), none, .build [(.int .i64 0), (.int .i64 0), (.int .i64 0), (.int .i64 0)] [(0, 1, (.c (.int .i64 1)))]⟩,
        ⟨(some 22), none, .build [(.int .i64 0), (.int .i64 0), (.int .i64 0), (.int .i64 0)] [(0, 1, (.c (.int .i64 (-1))))]⟩,
        ⟨(some 23), none, .bslice 4 2 [(.int .i64 0), (.int .i64 0), (.int .i64 0), (.int .i64 0)] [(0, 4, (.t 21)), (4, 4, (.t 22))]⟩,
        ⟨(some 24), none, .call (.c (.fn 12 [] [])) [(.t 23)]⟩,
        ⟨(some 20), none, .mov (.t 24)⟩,
        ⟨(some 25), none, .extract (.t 20) 0⟩,
        ⟨(some 26), none, .extract (.t 20) 1⟩,
        ⟨(some 5), none, .box 4 (.c (.agg [(.int .i64 0), (.int .i64 0), (.int .i64 0), (.int .i64 0)]))⟩,
        ⟨none, none, .store 4 (.t 5) (.t 25)⟩,
        ⟨(some 6), none, .mov (.t 26)⟩])
      (.seq
       (.reg [
         ⟨(some 7), none, .box 1 (.c .nilp)⟩])
       (.seq
        (.reg [
          ⟨(some 27), none, .mov (.t 2)⟩,
          ⟨(some 28), none, .eq false .iface true (.t 27) (.c .nili)⟩,
          ⟨(some 29), none, .mov (.t 28)⟩,
          ⟨(some 30), (some (29, true)), .load true 4 (.t 1)⟩,
          ⟨(some 31), (some (29, true)), .build [(.int .i64 0), (.int .i64 0), (.int .i64 0), (.int .i64 0)] [(0, 1, (.c (.int .i64 2))), (1, 1, (.c (.int .i64 3))), (2, 1, (.c (.int .i64 4))), (3, 1, (.c (.int .i64 5)))]⟩,
          ⟨(some 32), (some (29, true)), .eq false (.flat [.int, .int, .int, .int]) false (.t 30) (.t 31)⟩,
          ⟨(some 33), none, .pick (.t 29) (.t 32) (.c (.bool false))⟩,
          ⟨(some 34), none, .mov (.t 33)⟩,
          ⟨(some 35), (some (34, true)), .mov (.t 4)⟩,
          ⟨(some 36), (some (34, true)), .call (.c (.fn 14 [] [])) [(.t 35)]⟩,
          ⟨(some 37), (some (34, true)), .ibin .eql (.t 36) (.c (.int .i64 4))⟩,
          ⟨(some 38), none, .pick (.t 34) (.t 37) (.c (.bool false))⟩,
          ⟨(some 39), none, .mov (.t 38)⟩,
          ⟨(some 40), (some (39, true)), .mov (.t 6)⟩,
          ⟨(some 41), (some (39, true)), .call (.c (.fn 14 [] [])) [(.t 40)]⟩,
          ⟨(some 42), (some (39, true)), .ibin .eql (.t 41) (.c (.int .i64 1))⟩,
          ⟨(some 43), none, .pick (.t 39) (.t 42) (.c (.bool false))⟩,
          ⟨(some 44), none, .mov (.t 43)⟩,
          ⟨(some 45), (some (44, true)), .mov (.t 6)⟩,
          ⟨(some 46), (some (44, true)), .mkifc 35 (.t 7)⟩,
          ⟨(some 47), (some (44, true)), .call (.c (.fn 15 [] [])) [(.t 45), (.t 46)]⟩,
          ⟨(some 48), none, .pick (.t 44) (.t 47) (.c (.bool false))⟩,
          ⟨(some 49), none, .mov (.t 48)⟩,
          ⟨(some 50), (some (49, true)), .load false 1 (.t 7)⟩,
          ⟨(some 51), (some (49, true)), .nilchk (.t 50)⟩,
          ⟨(some 52), (some (49, true)), .faddr 0 (.t 51)⟩,
          ⟨(some 53), (some (49, true)), .load false 1 (.t 52)⟩,
          ⟨(some 54), (some (49, true)), .ibin .eql (.t 53) (.c (.str ⟨#[115, 117, 109]⟩))⟩,
          ⟨(some 55), none, .pick (.t 49) (.t 54) (.c (.bool false))⟩,
          ⟨(some 56), none, .mov (.t 55)⟩,
          ⟨(some 57), (some (56, true)), .load false 1 (.t 7)⟩,
          ⟨(some 58), (some (56, true)), .nilchk (.t 57)⟩,
          ⟨(some 59), (some (56, true)), .faddr 1 (.t 58)⟩,
          ⟨(some 60), (some (56, true)), .load false 1 (.t 59)⟩,
          ⟨(some 61), (some (56, true)), .ibin .eql (.t 60) (.c (.int .i64 1))⟩,
          ⟨(some 62), none, .pick (.t 56) (.t 61) (.c (.bool false))⟩,
          ⟨(some 63), none, .mov (.t 62)⟩,
          ⟨(some 64), (some (63, true)), .build [(.int .i64 0), (.int .i64 0), (.int .i64 0), (.int .i64 0)] [(0, 1, (.c (.int .i64 1)))]⟩,
          ⟨(some 65), (some (63, true)), .build [(.int .i64 0), (.int .i64 0), (.int .i64 0), (.int .i64 0)] [(0, 1, (.c (.int .i64 1))), (1, 1, (.c (.int .i64 1)))]⟩,
          ⟨(some 66), (some (63, true)), .call (.c (.fn 19 [] [])) [(.t 64), (.t 65)]⟩,
          ⟨(some 67), none, .pick (.t 63) (.t 66) (.c (.bool false))⟩,
          ⟨(some 68), none, .mov (.t 67)⟩,
          ⟨(some 69), (some (68, true)), .build [(.int .i64 0), (.int .i64 0), (.int .i64 0), (.int .i64 0)] [(0, 1, (.c (.int .i64 1)))]⟩,
          ⟨(some 70), (some (68, true)), .build [(.int .i64 0), (.int .i64 0), (.int .i64 0), (.int .i64 0)] [(0, 1, (.c (.int .i64 1))), (1, 1, (.c (.int .i64 1)))]⟩,
          ⟨(some 71), (some (68, true)), .call (.c (.fn 20 [] [])) [(.t 69), (.t 70)]⟩,
          ⟨(some 72), none, .pick (.t 68) (.t 71) (.c (.bool false))⟩,
          ⟨(some 73), none, .mov (.t 72)⟩,
          ⟨(some 74), (some (73, true)), .build [(.int .i64 0), (.int .i64 0), (.int .i64 0), (.int .i64 0)] []⟩,
          ⟨(some 75), (some (73, true)), .call (.c (.fn 28 [] [])) [(.t 74)]⟩,
          ⟨(some 76), none, .pick (.t 73) (.t 75) (.c (.bool false))⟩,
          ⟨(some 0), none, .mov (.t 76)⟩])
        .ret))))))⟩

-- quitrent/quitrentlaw01.VecExact
def F5 : AFun := ⟨119, 3, [.tmp 6],
  (.seq
   (.reg [
     ⟨(some 3), none, .box 4 (.t 0)⟩,
     ⟨(some 4), none, .box 4 (.t 1)⟩,
     ⟨(some 6), none, .mov (.c (.bool false))⟩])
   (.seq
    (.seq
     (.reg [
       ⟨(some 19), none, .call (.c (.fn 11 [] [])) []⟩,
       ⟨(some 20), none, .un .not (.t 19)⟩])
     (.cond (.t 20)
      (.seq
       (.reg [
         ⟨(some 6), none, .mov (.c (.bool false))⟩])
       .ret)
      .skip))
    (.seq
     (.reg [
       ⟨(some 22), none, .load true 4 (.t 3)⟩,
       ⟨(some 23), none, .load true 4 (.t 4)⟩,
       ⟨(some 24), none, .call (.c (.fn 18 [] [])) [(.t 22), (.t 23)]⟩,
       ⟨(some 21), none, .mov (.t 24)⟩,
       ⟨(some 25), none, .extract (.t 21) 0⟩,
       ⟨(some 26), none, .extract (.t 21) 1⟩,
       ⟨(some 7), none, .box 4 (.c (.agg [(.int .i64 0), (.int .i64 0), (.int .i64 0), (.int .i64 0)]))⟩,
       ⟨none, none, .store 4 (.t 7) (.t 25)⟩,
       ⟨(some 8), none, .mov (.t 26)⟩])
     (.seq
      (.reg [
        ⟨(some 28), none, .load true 4 (.t 3)⟩,
        ⟨(some 29), none, .load true 4 (.t 4)⟩,
        ⟨(some 30), none, .call (.c (.fn 17 [] [])) [(.t 28), (.t 29)]⟩,
        ⟨(some 27), none, .mov (.t 30)⟩,
        ⟨(some 31), none, .extract (.t 27) 0⟩,
        ⟨(some 32), none, .extract (.t 27) 1⟩,
        ⟨(some 9), none, .box 4 (.c (.agg [(.int .i64 0), (.int .i64 0), (.int .i64 0), (.int .i64 0)]))⟩,
        ⟨none, none, .store 4 (.t 9) (.t 31)⟩,
        ⟨(some 10), none, .mov (.t 32)⟩])
      (.seq
       (.reg [
         ⟨(some 34), none, .load true 4 (.t 3)⟩,
         ⟨(some 35), none, .mov (.t 2)⟩,
         ⟨(some 36), none, .call (.c (.fn 21 [] [])) [(.t 34), (.t 35)]⟩,
         ⟨(some 33), none, .mov (.t 36)⟩,
         ⟨(some 37), none, .extract (.t 33) 0⟩,
         ⟨(some 38), none, .extract (.t 33) 1⟩,
         ⟨(some 11), none, .box 4 (.c (.agg [(.int .i64 0), (.int .i64 0), (.int .i64 0), (.int .i64 0)]))⟩,
         ⟨none, none, .store 4 (.t 11) (.t 37)⟩,
         ⟨(some 12), none, .mov (.t 38)⟩])
       (.seq
        (.reg [
          ⟨(some 40), none, .load true 4 (.t 3)⟩,
          ⟨(some 41), none, .load true 4 (.t 4)⟩,
          ⟨(some 42), none, .call (.c (.fn 22 [] [])) [(.t 40), (.t 41)]⟩,
          ⟨(some 39), none, .mov (.t 42)⟩,
          ⟨(some 43), none, .extract (.t 39) 0⟩,
          ⟨(some 44), none, .extract (.t 39) 1⟩,
          ⟨(some 13), none, .box 4 (.c (.agg [(.int .i64 0), (.int .i64 0), (.int .i64 0), (.int .i64 0)]))⟩,
          ⟨none, none, .store 4 (.t 13) (.t 43)⟩,
          ⟨(some 14), none, .mov (.t 44)⟩])
        (.seq
         (.reg [
           ⟨(some 46), none, .load true 4 (.t 3)⟩,
           ⟨(some 47), none, .load true 4 (.t 4)⟩,
           ⟨(some 48), none, .call (.c (.fn 23 [] [])) [(.t 46), (.t 47)]⟩,
           ⟨(some 45), none, .mov (.t 48)⟩,
           ⟨(some 49), none, .extract (.t 45) 0⟩,
           ⟨(some 50), none, .extract (.t 45) 1⟩,
           ⟨(some 15), none, .box 4 (.c (.agg [(.int .i64 0), (.int .i64 0), (.int .i64 0), (.int .i64 0)]))⟩,
           ⟨none, none, .store 4 (.t 15) (.t 49)⟩,
           ⟨(some 16), none, .mov (.t 50)⟩])
         (.seq
          (.reg [
            ⟨(some 52), none, .load true 4 (.t 3)⟩,
            ⟨(some 53), none, .mov (.t 2)⟩,
            ⟨(some 54), none, .call (.c (.fn 24 [] [])) [(.t 52), (.t 53)]⟩,
            ⟨(some 51), none, .mov (.t 54)⟩,
            ⟨(some 55), none, .extract (.t 51) 0⟩,
            ⟨(some 56), none, .extract (.t 51) 1⟩,
            ⟨(some 17), none, .box 4 (.c (.agg [(.int .i64 0), (.int .i64 0), (.int .i64 0), (.int .i64 0)]))⟩,
            ⟨none, none, .store 4 (.t 17) (.t 55)⟩,
            ⟨(some 18), none, .mov (.t 56)⟩])
          (.seq
           (.seq
            (.reg [
              ⟨(some 57), none, .load true 4 (.t 7)⟩,
              ⟨(some 58), none, .load true 4 (.t 13)⟩,
              ⟨(some 59), none, .eq true (.flat [.int, .int, .int, .int]) false (.t 57) (.t 58)⟩,
              ⟨(some 60), none, .mov (.t 59)⟩,
              ⟨(some 61), (some (60, false)), .mov (.t 8)⟩,
              ⟨(some 62), (some (60, false)), .call (.c (.fn 14 [] [])) [(.t 61)]⟩,
              ⟨(some 63), (some (60, false)), .mov (.t 14)⟩,
              ⟨(some 64), (some (60, false)), .ibin .neq (.t 62) (.t 63)⟩,
              ⟨(some 65), none, .pick (.t 60) (.c (.bool true)) (.t 64)⟩,
              ⟨(some 66), none, .mov (.t 65)⟩,
              ⟨(some 67), (some (66, false)), .load true 4 (.t 9)⟩,
              ⟨(some 68), (some (66, false)), .load true 4 (.t 15)⟩,
              ⟨(some 69), (some (66, false)), .eq true (.flat [.int, .int, .int, .int]) false (.t 67) (.t 68)⟩,
              ⟨(some 70), none, .pick (.t 66) (.c (.bool true)) (.t 69)⟩,
              ⟨(some 71), none, .mov (.t 70)⟩,
              ⟨(some 72), (some (71, false)), .mov (.t 10)⟩,
              ⟨(some 73), (some (71, false)), .call (.c (.fn 14 [] [])) [(.t 72)]⟩,
              ⟨(some 74), (some (71, false)), .mov (.t 16)⟩,
              ⟨(some 75), (some (71, false)), .ibin .neq (.t 73) (.t 74)⟩,
              ⟨(some 76), none, .pick (.t 71) (.c (.bool true)) (.t 75)⟩,
              ⟨(some 77), none, .mov (.t 76)⟩,
              ⟨(some 78), (some (77, false)), .load true 4 (.t 11)⟩,
              ⟨(some 79), (some (77, false)), .load true 4 (.t 17)⟩,
              ⟨(some 80), (some (77, false)), .eq true (.flat [.int, .int, .int, .int]) false (.t 78) (.t 79)⟩,
              ⟨(some 81), none, .pick (.t 77) (.c (.bool true)) (.t 80)⟩,
              ⟨(some 82), none, .mov (.t 81)⟩,
              ⟨(some 83), (some (82, false)), .mov (.t 12)⟩,
              ⟨(some 84), (some (82, false)), .call (.c (.fn 14 [] [])) [(.t 83)]⟩,
              ⟨(some 85), (some (82, false)), .mov (.t 18)⟩,
              ⟨(some 86), (some (82, false)), .ibin .neq (.t 84) (.t 85)⟩,
              ⟨(some 87), none, .pick (.t 82) (.c (.bool true)) (.t 86)⟩])
            (.cond (.t 87)
             (.seq
              (.reg [
                ⟨(some 6), none, .mov (.c (.bool false))⟩])
              .ret)
             .skip))
           (.seq
            (.draw [
              ⟨(some 88), none, .load true 4 (.t 3)⟩,
              ⟨(some 89), none, .call (.c (.fn 16 [] [])) [(.t 88)]⟩,
              ⟨(some 90), none, .load true 4 (.t 3)⟩,
              ⟨(some 91), none, .call (.c (.fn 25 [] [])) [(.t 90)]⟩,
              ⟨(some 92), none, .eq false .bool false (.t 89) (.t 91)⟩,
              ⟨(some 93), none, .mov (.t 92)⟩,
              ⟨(some 94), (some (93, true)), .load true 4 (.t 3)⟩,
              ⟨(some 95), (some (93, true)), .load true 4 (.t 4)⟩,
              ⟨(some 96), (some (93, true)), .call (.c (.fn 19 [] [])) [(.t 94), (.t 95)]⟩,
              ⟨(some 97), (some (93, true)), .load true 4 (.t 3)⟩,
              ⟨(some 98), (some (93, true)), .load true 4 (.t 4)⟩,
              ⟨(some 99), (some (93, true)), .call (.c (.fn 26 [] [])) [(.t 97), (.t 98)]⟩,
              ⟨(some 100), (some (93, true)), .eq false .bool false (.t 96) (.t 99)⟩,
              ⟨(some 101), none, .pick (.t 93) (.t 100) (.c (.bool false))⟩,
              ⟨(some 102), none, .mov (.t 101)⟩,
              ⟨(some 103), (some (102, true)), .load true 4 (.t 3)⟩,
              ⟨(some 104), (some (102, true)), .load true 4 (.t 4)⟩,
              ⟨(some 105), (some (102, true)), .call (.c (.fn 20 [] [])) [(.t 103), (.t 104)]⟩,
              ⟨(some 106), (some (102, true)), .load true 4 (.t 3)⟩,
              ⟨(some 107), (some (102, true)), .load true 4 (.t 4)⟩,
              ⟨(some 108), (some (102, true)), .call (.c (.fn 27 [] [])) [(.t 106), (.t 107)]⟩,
              ⟨(some 109), (some (102, true)), .eq false .bool false (.t 105) (.t 108)⟩,
              ⟨(some 110), none, .pick (.t 102) (.t 109) (.c (.bool false))⟩,
              ⟨(some 111), none, .mov (.t 110)⟩,
              ⟨(some 112), (some (111, true)), .load true 4 (.t 3)⟩,
              ⟨(some 113), (some (111, true)), .call (.c (.fn 28 [] [])) [(.t 112)]⟩,
              ⟨(some 114), (some (111, true)), .load true 4 (.t 3)⟩,
              ⟨(some 115), (some (111, true)), .build [(.int .i64 0), (.int .i64 0), (.int .i64 0), (.int .i64 0)] []⟩,
              ⟨(some 116), (some (111, true)), .eq false (.flat [.int, .int, .int, .int]) false (.t 114) (.t 115)⟩,
              ⟨(some 117), (some (111, true)), .eq false .bool false (.t 113) (.t 116)⟩,
              ⟨(some 118), none, .pick (.t 111) (.t 117) (.c (.bool false))⟩,
              ⟨(some 6), none, .mov (.t 118)⟩]
              [[], [0], [], [2, 1, 0], [1, 3, 0, 2], [4, 3, 1, 0, 2], [5, 4, 3, 1, 0, 2], [5, 4, 3, 1, 0, 2], [6, 7, 5, 4, 3, 1, 0, 2], [5, 4, 3, 1, 0, 2], [5, 4, 3, 1, 0, 2], [9, 10, 8, 5, 4, 3, 1, 0, 2, 6, 7], [8, 11, 5, 6, 7, 4, 3, 1, 0, 2, 9, 10], [5, 12, 4, 3, 1, 0, 2, 8, 11, 6, 7, 9, 10], [13, 11, 5, 12, 4, 3, 1, 0, 2, 8, 6, 7, 9, 10], [14, 13, 11, 5, 12, 4, 3, 1, 0, 2, 8, 6, 7, 9, 10], [14, 13, 11, 5, 12, 4, 3, 1, 0, 2, 8, 6, 7, 9, 10], [15, 16, 14, 13, 11, 5, 12, 4, 3, 1, 0, 2, 8, 6, 7, 9, 10], [14, 13, 11, 5, 12, 4, 3, 1, 0, 2, 8, 6, 7, 9, 10], [14, 13, 11, 5, 12, 4, 3, 1, 0, 2, 8, 6, 7, 9, 10], [18, 19, 17, 14, 13, 11, 5, 12, 4, 3, 1, 0, 2, 8, 6, 7, 9, 10, 15, 16], [17, 20, 14, 15, 16, 13, 11, 5, 12, 4, 3, 1, 0, 2, 8, 6, 7, 9, 10, 18, 19], [14, 21, 13, 11, 5, 12, 4, 3, 1, 0, 2, 8, 6, 7, 9, 10, 17, 20, 15, 16, 18, 19], [22, 20, 14, 21, 13, 11, 5, 12, 4, 3, 1, 0, 2, 8, 6, 7, 9, 10, 17, 15, 16, 18, 19], [23, 22, 20, 14, 21, 13, 11, 5, 12, 4, 3, 1, 0, 2, 8, 6, 7, 9, 10, 17, 15, 16, 18, 19], [24, 23, 22, 20, 14, 21, 13, 11, 5, 12, 4, 3, 1, 0, 2, 8, 6, 7, 9, 10, 17, 15, 16, 18, 19], [23, 22, 20, 14, 21, 13, 11, 5, 12, 4, 3, 1, 0, 2, 8, 6, 7, 9, 10, 17, 15, 16, 18, 19], [23, 22, 20, 14, 21, 13, 11, 5, 12, 4, 3, 1, 0, 2, 8, 6, 7, 9, 10, 17, 15, 16, 18, 19], [26, 27, 23, 22, 20, 14, 21, 13, 11, 5, 12, 4, 3, 1, 0, 2, 8, 6, 7, 9, 10, 17, 15, 16, 18, 19], [25, 28, 23, 24, 22, 20, 14, 21, 13, 11, 5, 12, 4, 3, 1, 0, 2, 8, 6, 7, 9, 10, 17, 15, 16, 18, 19, 26, 27], [23, 29, 22, 20, 14, 21, 13, 11, 5, 12, 4, 3, 1, 0, 2, 8, 6, 7, 9, 10, 17, 15, 16, 18, 19, 25, 28, 24, 26, 27], [30, 25, 0, 1, 2, 3, 4, 5, 6, 7, 8, 9, 10, 11, 12, 13, 14, 15, 16, 17, 18, 19, 20, 21, 22, 23, 24, 26, 27, 28, 29]])
            .ret))))))))))⟩

-- quitrent/quitrentlaw01.VecSum
def F3 : AFun := ⟨54, 1, [.tmp 2],
  (.seq
   (.reg [
     ⟨(some 2), none, .mov (.c (.bool false))⟩])
   (.seq
    (.seq
     (.reg [
       ⟨(some 9), none, .call (.c (.fn 11 [] [])) []⟩,
       ⟨(some 10), none, .un .not (.t 9)⟩])
     (.cond (.t 10)
      (.seq
       (.reg [
         ⟨(some 2), none, .mov (.c (.bool false))⟩])
       .ret)
      .skip))
    (.seq
     (.seq
      (.reg [
        ⟨(some 11), none, .mov (.t 0)⟩,
        ⟨(some 12), none, .len .sl (.t 11)⟩,
        ⟨(some 13), none, .ibin .gtr (.t 12) (.c (.int .i64 30))⟩])
      (.cond (.t 13)
       (.seq
        (.reg [
          ⟨(some 2), none, .mov (.c (.bool true))⟩])
        .ret)
       .skip))
     (.seq
      (.reg [
        ⟨(some 15), none, .mov (.t 0)⟩,
        ⟨(some 16), none, .call (.c (.fn 12 [] [])) [(.t 15)]⟩,
        ⟨(some 14), none, .mov (.t 16)⟩,
        ⟨(some 17), none, .extract (.t 14) 0⟩,
        ⟨(some 18), none, .extract (.t 14) 1⟩,
        ⟨(some 3), none, .box 4 (.c (.agg [(.int .i64 0), (.int .i64 0), (.int .i64 0), (.int .i64 0)]))⟩,
        ⟨none, none, .store 4 (.t 3) (.t 17)⟩,
        ⟨(some 4), none, .mov (.t 18)⟩])
      (.seq
       (.reg [
         ⟨(some 20), none, .mov (.t 0)⟩,
         ⟨(some 21), none, .call (.c (.fn 13 [] [])) [(.t 20)]⟩,
         ⟨(some 19), none, .mov (.t 21)⟩,
         ⟨(some 22), none, .extract (.t 19) 0⟩,
         ⟨(some 23), none, .extract (.t 19) 1⟩,
         ⟨(some 24), none, .extract (.t 19) 2⟩,
         ⟨(some 5), none, .box 4 (.c (.agg [(.int .i64 0), (.int .i64 0), (.int .i64 0), (.int .i64 0)]))⟩,
         ⟨none, none, .store 4 (.t 5) (.t 22)⟩,
         ⟨(some 6), none, .mov (.t 23)⟩,
         ⟨(some 7), none, .mov (.t 24)⟩])
       (.seq
        (.seq
         (.reg [
           ⟨(some 25), none, .load true 4 (.t 3)⟩,
           ⟨(some 26), none, .load true 4 (.t 5)⟩,
           ⟨(some 27), none, .eq true (.flat [.int, .int, .int, .int]) false (.t 25) (.t 26)⟩,
           ⟨(some 28), none, .mov (.t 27)⟩,
           ⟨(some 29), (some (28, false)), .mov (.t 4)⟩,
           ⟨(some 30), (some (28, false)), .call (.c (.fn 14 [] [])) [(.t 29)]⟩,
           ⟨(some 31), (some (28, false)), .mov (.t 6)⟩,
           ⟨(some 32), (some (28, false)), .ibin .neq (.t 30) (.t 31)⟩,
           ⟨(some 33), none, .pick (.t 28) (.c (.bool true)) (.t 32)⟩])
         (.cond (.t 33)
          (.seq
           (.reg [
             ⟨(some 2), none, .mov (.c (.bool false))⟩])
           .ret)
          .skip))
        (.seq
         (.seq
          (.reg [
            ⟨(some 34), none, .mov (.t 6)⟩,
            ⟨(some 35), none, .ibin .eql (.t 34) (.c (.int .i64 0))⟩])
          (.cond (.t 35)
           (.seq
            (.reg [
              ⟨(some 2), none, .mov (.c (.bool true))⟩])
            .ret)
           .skip))
         (.seq
          (.reg [
            ⟨(some 8), none, .box 1 (.c .nilp)⟩])
          (.seq
           (.reg [
             ⟨(some 36), none, .mov (.t 4)⟩,
             ⟨(some 37), none, .mkifc 35 (.t 8)⟩,
             ⟨(some 38), none, .call (.c (.fn 15 [] [])) [(.t 36), (.t 37)]⟩,
             ⟨(some 39), none, .mov (.t 38)⟩,
             ⟨(some 40), (some (39, true)), .load false 1 (.t 8)⟩,
             ⟨(some 41), (some (39, true)), .nilchk (.t 40)⟩,
             ⟨(some 42), (some (39, true)), .faddr 0 (.t 41)⟩,
             ⟨(some 43), (some (39, true)), .load false 1 (.t 42)⟩,
             ⟨(some 44), (some (39, true)), .ibin .eql (.t 43) (.c (.str ⟨#[115, 117, 109]⟩))⟩,
             ⟨(some 45), none, .pick (.t 39) (.t 44) (.c (.bool false))⟩,
             ⟨(some 46), none, .mov (.t 45)⟩,
             ⟨(some 47), (some (46, true)), .load false 1 (.t 8)⟩,
             ⟨(some 48), (some (46, true)), .nilchk (.t 47)⟩,
             ⟨(some 49), (some (46, true)), .faddr 1 (.t 48)⟩,
             ⟨(some 50), (some (46, true)), .load false 1 (.t 49)⟩,
             ⟨(some 51), (some (46, true)), .mov (.t 7)⟩,
             ⟨(some 52), (some (46, true)), .ibin .eql (.t 50) (.t 51)⟩,
             ⟨(some 53), none, .pick (.t 46) (.t 52) (.c (.bool false))⟩,
             ⟨(some 2), none, .mov (.t 53)⟩])
           .ret)))))))))⟩

-- quitrent/quitrentlaw01.VecOrder
def F4 : AFun := ⟨115, 3, [.tmp 6],
  (.seq
   (.reg [
     ⟨(some 3), none, .box 4 (.t 0)⟩,
     ⟨(some 4), none, .box 4 (.t 1)⟩,
     ⟨(some 5), none, .box 4 (.t 2)⟩,
     ⟨(some 6), none, .mov (.c (.bool false))⟩])
   (.seq
    (.seq
     (.reg [
       ⟨(some 15), none, .call (.c (.fn 11 [] [])) []⟩,
       ⟨(some 16), none, .un .not (.t 15)⟩])
     (.cond (.t 16)
      (.seq
       (.reg [
         ⟨(some 6), none, .mov (.c (.bool false))⟩])
       .ret)
      .skip))
    (.seq
     (.reg [
       ⟨(some 18), none, .load true 4 (.t 3)⟩,
       ⟨(some 19), none, .load true 4 (.t 4)⟩,
       ⟨(some 20), none, .load true 4 (.t 5)⟩,
       ⟨(some 21), none, .bslice 4 3 [(.int .i64 0), (.int .i64 0), (.int .i64 0), (.int .i64 0)] [(0, 4, (.t 18)), (4, 4, (.t 19)), (8, 4, (.t 20))]⟩,
       ⟨(some 22), none, .call (.c (.fn 12 [] [])) [(.t 21)]⟩,
       ⟨(some 17), none, .mov (.t 22)⟩,
       ⟨(some 23), none, .extract (.t 17) 0⟩,
       ⟨(some 24), none, .extract (.t 17) 1⟩,
       ⟨(some 7), none, .box 4 (.c (.agg [(.int .i64 0), (.int .i64 0), (.int .i64 0), (.int .i64 0)]))⟩,
       ⟨none, none, .store 4 (.t 7) (.t 23)⟩,
       ⟨(some 8), none, .mov (.t 24)⟩])
     (.seq
      (.reg [
        ⟨(some 26), none, .load true 4 (.t 5)⟩,
        ⟨(some 27), none, .load true 4 (.t 3)⟩,
        ⟨(some 28), none, .load true 4 (.t 4)⟩,
        ⟨(some 29), none, .bslice 4 3 [(.int .i64 0), (.int .i64 0), (.int .i64 0), (.int .i64 0)] [(0, 4, (.t 26)), (4, 4, (.t 27)), (8, 4, (.t 28))]⟩,
        ⟨(some 30), none, .call (.c (.fn 12 [] [])) [(.t 29)]⟩,
        ⟨(some 25), none, .mov (.t 30)⟩,
        ⟨(some 31), none, .extract (.t 25) 0⟩,
        ⟨(some 32), none, .extract (.t 25) 1⟩,
        ⟨(some 9), none, .box 4 (.c (.agg [(.int .i64 0), (.int .i64 0), (.int .i64 0), (.int .i64 0)]))⟩,
        ⟨none, none, .store 4 (.t 9) (.t 31)⟩,
        ⟨(some 10), none, .mov (.t 32)⟩])
      (.seq
       (.seq
        (.draw [
          ⟨(some 33), none, .mov (.t 8)⟩,
          ⟨(some 34), none, .eq false .iface true (.t 33) (.c .nili)⟩,
          ⟨(some 35), none, .mov (.t 10)⟩,
          ⟨(some 36), none, .eq false .iface true (.t 35) (.c .nili)⟩,
          ⟨(some 37), none, .eq true .bool false (.t 34) (.t 36)⟩,
          ⟨(some 38), none, .mov (.t 37)⟩,
          ⟨(some 39), (some (38, true)), .load true 4 (.t 3)⟩,
          ⟨(some 40), (some (38, true)), .call (.c (.fn 16 [] [])) [(.t 39)]⟩,
          ⟨(some 41), none, .pick (.t 38) (.t 40) (.c (.bool false))⟩,
          ⟨(some 42), none, .mov (.t 41)⟩,
          ⟨(some 43), (some (42, true)), .load true 4 (.t 4)⟩,
          ⟨(some 44), (some (42, true)), .call (.c (.fn 16 [] [])) [(.t 43)]⟩,
          ⟨(some 45), none, .pick (.t 42) (.t 44) (.c (.bool false))⟩,
          ⟨(some 46), none, .mov (.t 45)⟩,
          ⟨(some 47), (some (46, true)), .load true 4 (.t 5)⟩,
          ⟨(some 48), (some (46, true)), .call (.c (.fn 16 [] [])) [(.t 47)]⟩,
          ⟨(some 49), none, .pick (.t 46) (.t 48) (.c (.bool false))⟩]
          [[], [0], [], [2], [1, 3, 0, 2], [4, 1, 3, 0, 2], [5, 4, 1, 3, 0, 2], [6, 5, 4, 1, 3, 0, 2], [5, 7, 4, 1, 3, 0, 2, 6], [8, 7, 5, 4, 1, 3, 0, 2, 6], [9, 8, 7, 5, 4, 1, 3, 0, 2, 6], [10, 9, 8, 7, 5, 4, 1, 3, 0, 2, 6], [9, 11, 8, 7, 5, 4, 1, 3, 0, 2, 6, 10], [12, 11, 9, 8, 7, 5, 4, 1, 3, 0, 2, 6, 10], [13, 12, 11, 9, 8, 7, 5, 4, 1, 3, 0, 2, 6, 10], [14, 13, 12, 11, 9, 8, 7, 5, 4, 1, 3, 0, 2, 6, 10], [13, 15, 12, 11, 9, 8, 7, 5, 4, 1, 3, 0, 2, 6, 10, 14]])
        (.cond (.t 49)
         (.seq
          (.reg [
            ⟨(some 6), none, .mov (.c (.bool false))⟩])
          .ret)
         .skip))
       (.seq
        (.seq
         (.reg [
           ⟨(some 50), none, .mov (.t 8)⟩,
           ⟨(some 51), none, .eq true .iface true (.t 50) (.c .nili)⟩,
           ⟨(some 52), none, .mov (.t 51)⟩,
           ⟨(some 53), (some (52, false)), .mov (.t 10)⟩,
           ⟨(some 54), (some (52, false)), .eq true .iface true (.t 53) (.c .nili)⟩,
           ⟨(some 55), none, .pick (.t 52) (.c (.bool true)) (.t 54)⟩])
         (.cond (.t 55)
          (.seq
           (.reg [
             ⟨(some 6), none, .mov (.c (.bool true))⟩])
           .ret)
          .skip))
        (.seq
         (.reg [
           ⟨(some 57), none, .load true 4 (.t 7)⟩,
           ⟨(some 58), none, .load true 4 (.t 5)⟩,
           ⟨(some 59), none, .call (.c (.fn 17 [] [])) [(.t 57), (.t 58)]⟩,
           ⟨(some 56), none, .mov (.t 59)⟩,
           ⟨(some 60), none, .extract (.t 56) 0⟩,
           ⟨(some 61), none, .extract (.t 56) 1⟩,
           ⟨(some 11), none, .box 4 (.c (.agg [(.int .i64 0), (.int .i64 0), (.int .i64 0), (.int .i64 0)]))⟩,
           ⟨none, none, .store 4 (.t 11) (.t 60)⟩,
           ⟨(some 12), none, .mov (.t 61)⟩])
         (.seq
          (.reg [
            ⟨(some 63), none, .load true 4 (.t 3)⟩,
            ⟨(some 64), none, .load true 4 (.t 4)⟩,
            ⟨(some 65), none, .call (.c (.fn 18 [] [])) [(.t 63), (.t 64)]⟩,
            ⟨(some 62), none, .mov (.t 65)⟩,
            ⟨(some 66), none, .extract (.t 62) 0⟩,
            ⟨(some 67), none, .extract (.t 62) 1⟩,
            ⟨(some 13), none, .box 4 (.c (.agg [(.int .i64 0), (.int .i64 0), (.int .i64 0), (.int .i64 0)]))⟩,
            ⟨none, none, .store 4 (.t 13) (.t 66)⟩,
            ⟨(some 14), none, .mov (.t 67)⟩])
          (.seq
           (.seq
            (.reg [
              ⟨(some 68), none, .load true 4 (.t 7)⟩,
              ⟨(some 69), none, .load true 4 (.t 9)⟩,
              ⟨(some 70), none, .eq true (.flat [.int, .int, .int, .int]) false (.t 68) (.t 69)⟩,
              ⟨(some 71), none, .mov (.t 70)⟩,
              ⟨(some 72), (some (71, false)), .mov (.t 12)⟩,
              ⟨(some 73), (some (71, false)), .eq true .iface true (.t 72) (.c .nili)⟩,
              ⟨(some 74), none, .pick (.t 71) (.c (.bool true)) (.t 73)⟩,
              ⟨(some 75), none, .mov (.t 74)⟩,
              ⟨(some 76), (some (75, false)), .mov (.t 14)⟩,
              ⟨(some 77), (some (75, false)), .eq true .iface true (.t 76) (.c .nili)⟩,
              ⟨(some 78), none, .pick (.t 75) (.c (.bool true)) (.t 77)⟩,
              ⟨(some 79), none, .mov (.t 78)⟩,
              ⟨(some 80), (some (79, false)), .load true 4 (.t 11)⟩,
              ⟨(some 81), (some (79, false)), .load true 4 (.t 13)⟩,
              ⟨(some 82), (some (79, false)), .eq true (.flat [.int, .int, .int, .int]) false (.t 80) (.t 81)⟩,
              ⟨(some 83), none, .pick (.t 79) (.c (.bool true)) (.t 82)⟩])
            (.cond (.t 83)
             (.seq
              (.reg [
                ⟨(some 6), none, .mov (.c (.bool false))⟩])
              .ret)
             .skip))
           (.seq
            (.seq
             (.reg [
               ⟨(some 84), none, .load true 4 (.t 5)⟩,
               ⟨(some 85), none, .load true 4 (.t 3)⟩,
               ⟨(some 86), none, .call (.c (.fn 19 [] [])) [(.t 84), (.t 85)]⟩,
               ⟨(some 87), none, .mov (.t 86)⟩,
               ⟨(some 88), (some (87, true)), .load true 4 (.t 5)⟩,
               ⟨(some 89), (some (87, true)), .load true 4 (.t 13)⟩,
               ⟨(some 90), (some (87, true)), .call (.c (.fn 19 [] [])) [(.t 88), (.t 89)]⟩,
               ⟨(some 91), (some (87, true)), .un .not (.t 90)⟩,
               ⟨(some 92), none, .pick (.t 87) (.t 91) (.c (.bool false))⟩,
               ⟨(some 93), none, .mov (.t 92)⟩,
               ⟨(some 94), (some (93, false)), .load true 4 (.t 3)⟩,
               ⟨(some 95), (some (93, false)), .load true 4 (.t 4)⟩,
               ⟨(some 96), (some (93, false)), .call (.c (.fn 20 [] [])) [(.t 94), (.t 95)]⟩,
               ⟨(some 97), (some (93, false)), .mov (.t 96)⟩,
               ⟨(some 98), (some (97, true)), .load true 4 (.t 4)⟩,
               ⟨(some 99), (some (97, true)), .load true 4 (.t 3)⟩,
               ⟨(some 100), (some (97, true)), .call (.c (.fn 20 [] [])) [(.t 98), (.t 99)]⟩,
               ⟨(some 101), (some (93, false)), .pick (.t 97) (.t 100) (.c (.bool false))⟩,
               ⟨(some 102), none, .pick (.t 93) (.c (.bool true)) (.t 101)⟩])
             (.cond (.t 102)
              (.seq
               (.reg [
                 ⟨(some 6), none, .mov (.c (.bool false))⟩])
               .ret)
              .skip))
            (.seq
             (.draw [
               ⟨(some 103), none, .load true 4 (.t 3)⟩,
               ⟨(some 104), none, .load true 4 (.t 4)⟩,
               ⟨(some 105), none, .call (.c (.fn 20 [] [])) [(.t 103), (.t 104)]⟩,
               ⟨(some 106), none, .mov (.t 105)⟩,
               ⟨(some 107), (some (106, false)), .load true 4 (.t 4)⟩,
               ⟨(some 108), (some (106, false)), .load true 4 (.t 3)⟩,
               ⟨(some 109), (some (106, false)), .call (.c (.fn 20 [] [])) [(.t 107), (.t 108)]⟩,
               ⟨(some 110), none, .pick (.t 106) (.c (.bool true)) (.t 109)⟩,
               ⟨(some 111), none, .load true 4 (.t 3)⟩,
               ⟨(some 112), none, .load true 4 (.t 4)⟩,
               ⟨(some 113), none, .eq true (.flat [.int, .int, .int, .int]) false (.t 111) (.t 112)⟩,
               ⟨(some 114), none, .eq false .bool false (.t 110) (.t 113)⟩,
               ⟨(some 6), none, .mov (.t 114)⟩]
               [[], [], [0, 1], [2, 0, 1], [3, 2, 0, 1], [3, 2, 0, 1], [4, 5, 3, 2, 0, 1], [3, 6, 2, 0, 1, 4, 5], [], [], [8, 9], [7, 10, 3, 6, 2, 0, 1, 4, 5, 8, 9], [11, 6, 0, 1, 2, 3, 4, 5, 7, 8, 9, 10]])
             .ret)))))))))))⟩

-- quitrent/quitrentlaw01.VecScale
def F6 : AFun := ⟨75, 2, [.tmp 4],
  (.seq
   (.reg [
     ⟨(some 2), none, .box 4 (.t 0)⟩,
     ⟨(some 4), none, .mov (.c (.bool false))⟩])
   (.seq
    (.seq
     (.reg [
       ⟨(some 12), none, .call (.c (.fn 11 [] [])) []⟩,
       ⟨(some 13), none, .un .not (.t 12)⟩])
     (.cond (.t 13)
      (.seq
       (.reg [
         ⟨(some 4), none, .mov (.c (.bool false))⟩])
       .ret)
      .skip))
    (.seq
     (.reg [
       ⟨(some 14), none, .mov (.t 1)⟩,
       ⟨(some 15), none, .i2i .u64 (.t 14)⟩,
       ⟨(some 16), none, .ibin .rem (.t 15) (.c (.int .u64 17))⟩,
       ⟨(some 17), none, .i2i .i64 (.t 16)⟩,
       ⟨(some 5), none, .mov (.t 17)⟩])
     (.seq
      (.reg [
        ⟨(some 19), none, .load true 4 (.t 2)⟩,
        ⟨(some 20), none, .mov (.t 5)⟩,
        ⟨(some 21), none, .call (.c (.fn 21 [] [])) [(.t 19), (.t 20)]⟩,
        ⟨(some 18), none, .mov (.t 21)⟩,
        ⟨(some 22), none, .extract (.t 18) 0⟩,
        ⟨(some 23), none, .extract (.t 18) 1⟩,
        ⟨(some 6), none, .box 4 (.c (.agg [(.int .i64 0), (.int .i64 0), (.int .i64 0), (.int .i64 0)]))⟩,
        ⟨none, none, .store 4 (.t 6) (.t 22)⟩,
        ⟨(some 7), none, .mov (.t 23)⟩])
      (.seq
       (.reg [
         ⟨(some 24), none, .bslice 4 0 [(.int .i64 0), (.int .i64 0), (.int .i64 0), (.int .i64 0)] []⟩,
         ⟨(some 8), none, .mov (.t 24)⟩])
       (.seq
        (.seq
         (.reg [
           ⟨(some 9), none, .mov (.c (.int .i64 0))⟩])
         (.block 0
          (.loop
           (.seq
            (.seq
             (.reg [
               ⟨(some 25), none, .mov (.t 9)⟩,
               ⟨(some 26), none, .mov (.t 5)⟩,
               ⟨(some 27), none, .ibin .lss (.t 25) (.t 26)⟩])
             (.cond (.t 27)
              .skip
              (.exit 0)))
            (.seq
             (.block 1
              (.reg [
                ⟨(some 30), none, .mov (.t 8)⟩,
                ⟨(some 31), none, .load true 4 (.t 2)⟩,
                ⟨(some 32), none, .bslice 4 1 [(.int .i64 0), (.int .i64 0), (.int .i64 0), (.int .i64 0)] [(0, 4, (.t 31))]⟩,
                ⟨(some 33), none, .append 4 32 [(.int .i64 0), (.int .i64 0), (.int .i64 0), (.int .i64 0)] (.t 30) (.t 32)⟩,
                ⟨(some 8), none, .mov (.t 33)⟩]))
             (.reg [
               ⟨(some 28), none, .mov (.t 9)⟩,
               ⟨(some 29), none, .ibin .add (.t 28) (.c (.int .i64 1))⟩,
               ⟨(some 9), none, .mov (.t 29)⟩]))))))
        (.seq
         (.reg [
           ⟨(some 35), none, .mov (.t 8)⟩,
           ⟨(some 36), none, .call (.c (.fn 12 [] [])) [(.t 35)]⟩,
           ⟨(some 34), none, .mov (.t 36)⟩,
           ⟨(some 37), none, .extract (.t 34) 0⟩,
           ⟨(some 38), none, .extract (.t 34) 1⟩,
           ⟨(some 10), none, .box 4 (.c (.agg [(.int .i64 0), (.int .i64 0), (.int .i64 0), (.int .i64 0)]))⟩,
           ⟨none, none, .store 4 (.t 10) (.t 37)⟩,
           ⟨(some 11), none, .mov (.t 38)⟩])
         (.seq
          (.seq
           (.reg [
             ⟨(some 39), none, .load true 4 (.t 2)⟩,
             ⟨(some 40), none, .call (.c (.fn 16 [] [])) [(.t 39)]⟩,
             ⟨(some 41), none, .un .not (.t 40)⟩])
           (.cond (.t 41)
            (.seq
             (.reg [
               ⟨(some 42), none, .mov (.t 7)⟩,
               ⟨(some 43), none, .call (.c (.fn 14 [] [])) [(.t 42)]⟩,
               ⟨(some 44), none, .ibin .eql (.t 43) (.c (.int .i64 1))⟩,
               ⟨(some 45), none, .mov (.t 44)⟩,
               ⟨(some 46), (some (45, true)), .mov (.t 5)⟩,
               ⟨(some 47), (some (45, true)), .ibin .eql (.t 46) (.c (.int .i64 0))⟩,
               ⟨(some 48), (some (45, true)), .mov (.t 11)⟩,
               ⟨(some 49), (some (45, true)), .eq false .iface true (.t 48) (.c .nili)⟩,
               ⟨(some 50), (some (45, true)), .eq false .bool false (.t 47) (.t 49)⟩,
               ⟨(some 51), none, .pick (.t 45) (.t 50) (.c (.bool false))⟩,
               ⟨(some 4), none, .mov (.t 51)⟩])
             .ret)
            .skip))
          (.seq
           (.reg [
             ⟨(some 52), none, .mov (.t 7)⟩,
             ⟨(some 53), none, .call (.c (.fn 14 [] [])) [(.t 52)]⟩,
             ⟨(some 54), none, .mov (.t 11)⟩,
             ⟨(some 55), none, .call (.c (.fn 14 [] [])) [(.t 54)]⟩,
             ⟨(some 56), none, .ibin .eql (.t 53) (.t 55)⟩,
             ⟨(some 57), none, .mov (.t 56)⟩,
             ⟨(some 58), (some (57, true)), .load true 4 (.t 6)⟩,
             ⟨(some 59), (some (57, true)), .load true 4 (.t 10)⟩,
             ⟨(some 60), (some (57, true)), .eq false (.flat [.int, .int, .int, .int]) false (.t 58) (.t 59)⟩,
             ⟨(some 61), none, .pick (.t 57) (.t 60) (.c (.bool false))⟩,
             ⟨(some 62), none, .mov (.t 61)⟩,
             ⟨(some 63), (some (62, true)), .mov (.t 7)⟩,
             ⟨(some 64), (some (62, true)), .eq true .iface true (.t 63) (.c .nili)⟩,
             ⟨(some 65), (some (62, true)), .mov (.t 64)⟩,
             ⟨(some 66), (some (65, false)), .load true 4 (.t 2)⟩,
             ⟨(some 67), (some (65, false)), .load true 4 (.t 6)⟩,
             ⟨(some 68), (some (65, false)), .call (.c (.fn 19 [] [])) [(.t 66), (.t 67)]⟩,
             ⟨(some 69), (some (62, true)), .pick (.t 65) (.c (.bool true)) (.t 68)⟩,
             ⟨(some 70), (some (62, true)), .mov (.t 69)⟩,
             ⟨(some 71), (some (70, false)), .mov (.t 5)⟩,
             ⟨(some 72), (some (70, false)), .ibin .eql (.t 71) (.c (.int .i64 0))⟩,
             ⟨(some 73), (some (62, true)), .pick (.t 70) (.c (.bool true)) (.t 72)⟩,
             ⟨(some 74), none, .pick (.t 62) (.t 73) (.c (.bool false))⟩,
             ⟨(some 4), none, .mov (.t 74)⟩])
           .ret)))))))))⟩

theorem c21 : cFun Tryd.prog [0, 1, 2, 3, 4, 5, 6, 7, 8, 9, 10, 11, 12, 13] Tryd.f21 = some F21 := by kernel_rfl
theorem c52 : cFun Tryd.prog [0, 1, 2, 3, 4, 5, 6, 7, 8, 9, 10, 11, 12, 13] Tryd.f52 = some F52 := by kernel_rfl
theorem c12 : cFun Tryd.prog [0, 1, 2, 3, 4, 5, 6, 7, 8, 9, 10, 11, 12, 13] Tryd.f12 = some F12 := by kernel_rfl
theorem c24 : cFun Tryd.prog [0, 1, 2, 3, 4, 5, 6, 7, 8, 9, 10, 11, 12, 13] Tryd.f24 = some F24 := by kernel_rfl
theorem c13 : cFun Tryd.prog [0, 1, 2, 3, 4, 5, 6, 7, 8, 9, 10, 11, 12, 13] Tryd.f13 = some F13 := by kernel_rfl
theorem c26 : cFun Tryd.prog [0, 1, 2, 3, 4, 5, 6, 7, 8, 9, 10, 11, 12, 13] Tryd.f26 = some F26 := by kernel_rfl
theorem c11 : cFun Tryd.prog [0, 1, 2, 3, 4, 5, 6, 7, 8, 9, 10, 11, 12, 13] Tryd.f11 = some F11 := by kernel_rfl
theorem c5 : cFun Tryd.prog [0, 1, 2, 3, 4, 5, 6, 7, 8, 9, 10, 11, 12, 13] Tryd.f5 = some F5 := by kernel_rfl
theorem c3 : cFun Tryd.prog [0, 1, 2, 3, 4, 5, 6, 7, 8, 9, 10, 11, 12, 13] Tryd.f3 = some F3 := by kernel_rfl
theorem c4 : cFun Tryd.prog [0, 1, 2, 3, 4, 5, 6, 7, 8, 9, 10, 11, 12, 13] Tryd.f4 = some F4 := by kernel_rfl
theorem c6 : cFun Tryd.prog [0, 1, 2, 3, 4, 5, 6, 7, 8, 9, 10, 11, 12, 13] Tryd.f6 = some F6 := by kernel_rfl
end Go.Proofs.YtkbjfhkhbcgkgaaDoor.B01
