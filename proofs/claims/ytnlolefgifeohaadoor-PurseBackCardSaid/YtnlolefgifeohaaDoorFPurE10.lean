import Derived.Test.YtnlolefgifeohaaDoorFVGE10
open Go AH
namespace Go.Proofs.YtnlolefgifeohaaDoor.E10
-- quitrent/purse.New
def F11 : AFun := ⟨4, 0, [.tmp 0],
  (.seq
   (.reg [
     ⟨(some 0), none, .mov (.c .nilp)⟩])
   (.seq
    (.reg [
      ⟨(some 1), none, .mkmap⟩,
      ⟨(some 2), none, .build [.nilm] [(0, 1, (.t 1))]⟩,
      ⟨(some 3), none, .box 1 (.t 2)⟩,
      ⟨(some 0), none, .mov (.t 3)⟩])
    .ret))⟩

-- (*quitrent/purse.Book).Of
def F12 : AFun := ⟨14, 2, [.cell 4 true 2],
  (.seq
   (.reg [
     ⟨(some 4), none, .box 2 (.c (.agg [(.int .i64 0), (.int .i64 0)]))⟩])
   (.seq
    (.seq
     (.reg [
       ⟨(some 5), none, .mov (.t 0)⟩,
       ⟨(some 6), none, .eq false .ptr true (.t 5) (.c .nilp)⟩])
     (.cond (.t 6)
      (.seq
       (.reg [
         ⟨(some 7), none, .build [(.int .i64 0), (.int .i64 0)] []⟩,
         ⟨none, none, .store 2 (.t 4) (.t 7)⟩])
       .ret)
      .skip))
    (.seq
     (.reg [
       ⟨(some 8), none, .mov (.t 0)⟩,
       ⟨(some 9), none, .nilchk (.t 8)⟩,
       ⟨(some 10), none, .faddr 0 (.t 9)⟩,
       ⟨(some 11), none, .load false 1 (.t 10)⟩,
       ⟨(some 12), none, .mov (.t 1)⟩,
       ⟨(some 13), none, .lookup (.sc .int) (.agg [(.int .i64 0), (.int .i64 0)]) (.t 11) (.t 12) false⟩,
       ⟨none, none, .store 2 (.t 4) (.t 13)⟩])
     .ret)))⟩

-- (*quitrent/purse.Book).check
def F55 : AFun := ⟨17, 2, [.tmp 4],
  (.seq
   (.reg [
     ⟨(some 4), none, .mov (.c .nili)⟩])
   (.seq
    (.block 0
     (.seq
      (.reg [
        ⟨(some 6), none, .mov (.t 0)⟩,
        ⟨(some 7), none, .eq false .ptr true (.t 6) (.c .nilp)⟩,
        ⟨(some 5), none, .mov (.t 7)⟩])
      (.cond (.t 5)
       (.seq
        (.reg [
          ⟨(some 8), none, .loadg 3⟩,
          ⟨(some 4), none, .mov (.t 8)⟩])
        .ret)
       (.seq
        (.reg [
          ⟨(some 10), none, .mov (.t 1)⟩,
          ⟨(some 11), none, .ibin .lss (.t 10) (.c (.int .i64 0))⟩,
          ⟨(some 12), none, .mov (.t 11)⟩,
          ⟨(some 13), (some (12, false)), .mov (.t 1)⟩,
          ⟨(some 14), (some (12, false)), .ibin .gtr (.t 13) (.c (.int .i64 1125899906842624))⟩,
          ⟨(some 15), none, .pick (.t 12) (.c (.bool true)) (.t 14)⟩,
          ⟨(some 9), none, .mov (.t 15)⟩])
        (.cond (.t 9)
         (.seq
          (.reg [
            ⟨(some 16), none, .loadg 2⟩,
            ⟨(some 4), none, .mov (.t 16)⟩])
          .ret)
         .skip)))))
    (.seq
     (.reg [
       ⟨(some 4), none, .mov (.c .nili)⟩])
     .ret)))⟩

-- (*quitrent/purse.Book).move
def F56 : AFun := ⟨29, 4, [],
  (.seq
   (.reg [
     ⟨(some 9), none, .mov (.t 0)⟩,
     ⟨(some 10), none, .nilchk (.t 9)⟩,
     ⟨(some 11), none, .faddr 0 (.t 10)⟩,
     ⟨(some 12), none, .load false 1 (.t 11)⟩,
     ⟨(some 13), none, .mov (.t 1)⟩,
     ⟨(some 14), none, .lookup (.sc .int) (.agg [(.int .i64 0), (.int .i64 0)]) (.t 12) (.t 13) false⟩,
     ⟨(some 8), none, .box 2 (.c (.agg [(.int .i64 0), (.int .i64 0)]))⟩,
     ⟨none, none, .store 2 (.t 8) (.t 14)⟩])
   (.draw [
     ⟨(some 15), none, .mov (.t 0)⟩,
     ⟨(some 16), none, .nilchk (.t 15)⟩,
     ⟨(some 17), none, .faddr 0 (.t 16)⟩,
     ⟨(some 18), none, .load false 1 (.t 17)⟩,
     ⟨(some 19), none, .mov (.t 1)⟩,
     ⟨(some 20), none, .faddr 0 (.t 8)⟩,
     ⟨(some 21), none, .load false 1 (.t 20)⟩,
     ⟨(some 22), none, .mov (.t 2)⟩,
     ⟨(some 23), none, .ibin .add (.t 21) (.t 22)⟩,
     ⟨(some 24), none, .faddr 1 (.t 8)⟩,
     ⟨(some 25), none, .load false 1 (.t 24)⟩,
     ⟨(some 26), none, .mov (.t 3)⟩,
     ⟨(some 27), none, .ibin .add (.t 25) (.t 26)⟩,
     ⟨(some 28), none, .build [(.int .i64 0), (.int .i64 0)] [(0, 1, (.t 23)), (1, 1, (.t 27))]⟩,
     ⟨none, none, .mapupd (.sc .int) (.t 18) (.t 19) (.t 28)⟩]
     [[], [0], [1, 0], [2, 1, 0], [], [], [5], [], [6, 7, 5], [], [9], [], [10, 11, 9], [8, 12, 6, 7, 5, 10, 11, 9], [3, 4, 13, 0, 1, 2, 5, 6, 7, 8, 9, 10, 11, 12]]))⟩

-- (*quitrent/purse.Book).Give
def F16 : AFun := ⟨24, 3, [.tmp 6],
  (.seq
   (.reg [
     ⟨(some 6), none, .mov (.c .nili)⟩])
   (.seq
    (.seq
     (.reg [
       ⟨(some 8), none, .mov (.t 0)⟩,
       ⟨(some 9), none, .mov (.t 2)⟩,
       ⟨(some 10), none, .call (.c (.fn 55 [] [])) [(.t 8), (.t 9)]⟩,
       ⟨(some 7), none, .mov (.t 10)⟩])
     (.seq
      (.reg [
        ⟨(some 11), none, .mov (.t 7)⟩,
        ⟨(some 12), none, .eq true .iface true (.t 11) (.c .nili)⟩])
      (.cond (.t 12)
       (.seq
        (.reg [
          ⟨(some 13), none, .mov (.t 7)⟩,
          ⟨(some 6), none, .mov (.t 13)⟩])
        .ret)
       .skip)))
    (.seq
     (.seq
      (.reg [
        ⟨(some 14), none, .mov (.t 2)⟩,
        ⟨(some 15), none, .mov (.t 0)⟩,
        ⟨(some 16), none, .call (.c (.fn 14 [] [])) [(.t 15)]⟩,
        ⟨(some 17), none, .ibin .sub (.c (.int .i64 1125899906842624)) (.t 16)⟩,
        ⟨(some 18), none, .ibin .gtr (.t 14) (.t 17)⟩])
      (.cond (.t 18)
       (.seq
        (.reg [
          ⟨(some 19), none, .loadg 0⟩,
          ⟨(some 6), none, .mov (.t 19)⟩])
        .ret)
       .skip))
     (.seq
      (.reg [
        ⟨(some 20), none, .mov (.t 0)⟩,
        ⟨(some 21), none, .mov (.t 1)⟩,
        ⟨(some 22), none, .mov (.t 2)⟩,
        ⟨(some 23), none, .call (.c (.fn 56 [] [])) [(.t 20), (.t 21), (.t 22), (.c (.int .i64 0))]⟩])
      (.seq
       (.reg [
         ⟨(some 6), none, .mov (.c .nili)⟩])
       .ret)))))⟩

-- (*quitrent/purse.Book).spend
def F57 : AFun := ⟨32, 4, [.tmp 8],
  (.seq
   (.reg [
     ⟨(some 8), none, .mov (.c .nili)⟩])
   (.seq
    (.seq
     (.reg [
       ⟨(some 10), none, .mov (.t 0)⟩,
       ⟨(some 11), none, .mov (.t 2)⟩,
       ⟨(some 12), none, .call (.c (.fn 55 [] [])) [(.t 10), (.t 11)]⟩,
       ⟨(some 9), none, .mov (.t 12)⟩])
     (.seq
      (.reg [
        ⟨(some 13), none, .mov (.t 9)⟩,
        ⟨(some 14), none, .eq true .iface true (.t 13) (.c .nili)⟩])
      (.cond (.t 14)
       (.seq
        (.reg [
          ⟨(some 15), none, .mov (.t 9)⟩,
          ⟨(some 8), none, .mov (.t 15)⟩])
        .ret)
       .skip)))
    (.seq
     (.seq
      (.reg [
        ⟨(some 16), none, .mov (.t 0)⟩,
        ⟨(some 17), none, .nilchk (.t 16)⟩,
        ⟨(some 18), none, .faddr 0 (.t 17)⟩,
        ⟨(some 19), none, .load false 1 (.t 18)⟩,
        ⟨(some 20), none, .mov (.t 1)⟩,
        ⟨(some 21), none, .lookup (.sc .int) (.agg [(.int .i64 0), (.int .i64 0)]) (.t 19) (.t 20) false⟩,
        ⟨(some 22), none, .fld false 1 0 (.t 21)⟩,
        ⟨(some 23), none, .mov (.t 2)⟩,
        ⟨(some 24), none, .ibin .lss (.t 22) (.t 23)⟩])
      (.cond (.t 24)
       (.seq
        (.reg [
          ⟨(some 25), none, .loadg 12⟩,
          ⟨(some 8), none, .mov (.t 25)⟩])
        .ret)
       .skip))
     (.seq
      (.reg [
        ⟨(some 26), none, .mov (.t 0)⟩,
        ⟨(some 27), none, .mov (.t 1)⟩,
        ⟨(some 28), none, .mov (.t 2)⟩,
        ⟨(some 29), none, .un .neg (.t 28)⟩,
        ⟨(some 30), none, .mov (.t 3)⟩,
        ⟨(some 31), none, .call (.c (.fn 56 [] [])) [(.t 26), (.t 27), (.t 29), (.t 30)]⟩])
      (.seq
       (.reg [
         ⟨(some 8), none, .mov (.c .nili)⟩])
       .ret)))))⟩

-- (*quitrent/purse.Book).Take
def F52 : AFun := ⟨11, 3, [.tmp 6],
  (.seq
   (.reg [
     ⟨(some 6), none, .mov (.c .nili)⟩])
   (.seq
    (.reg [
      ⟨(some 7), none, .mov (.t 0)⟩,
      ⟨(some 8), none, .mov (.t 1)⟩,
      ⟨(some 9), none, .mov (.t 2)⟩,
      ⟨(some 10), none, .call (.c (.fn 57 [] [])) [(.t 7), (.t 8), (.t 9), (.c (.int .i64 0))]⟩,
      ⟨(some 6), none, .mov (.t 10)⟩])
    .ret))⟩

-- (*quitrent/purse.Book).Hold
def F17 : AFun := ⟨12, 3, [.tmp 6],
  (.seq
   (.reg [
     ⟨(some 6), none, .mov (.c .nili)⟩])
   (.seq
    (.reg [
      ⟨(some 7), none, .mov (.t 0)⟩,
      ⟨(some 8), none, .mov (.t 1)⟩,
      ⟨(some 9), none, .mov (.t 2)⟩,
      ⟨(some 10), none, .mov (.t 2)⟩,
      ⟨(some 11), none, .call (.c (.fn 57 [] [])) [(.t 7), (.t 8), (.t 9), (.t 10)]⟩,
      ⟨(some 6), none, .mov (.t 11)⟩])
    .ret))⟩

-- (*quitrent/purse.Book).Unhold
def F19 : AFun := ⟨12, 3, [.tmp 6],
  (.seq
   (.reg [
     ⟨(some 6), none, .mov (.c .nili)⟩])
   (.seq
    (.reg [
      ⟨(some 7), none, .mov (.t 0)⟩,
      ⟨(some 8), none, .mov (.t 1)⟩,
      ⟨(some 9), none, .mov (.t 1)⟩,
      ⟨(some 10), none, .mov (.t 2)⟩,
      ⟨(some 11), none, .call (.c (.fn 18 [] [])) [(.t 7), (.t 8), (.t 9), (.t 10)]⟩,
      ⟨(some 6), none, .mov (.t 11)⟩])
    .ret))⟩

-- (*quitrent/purse.Book).Pay
def F18 : AFun := ⟨35, 4, [.tmp 8],
  (.seq
   (.reg [
     ⟨(some 8), none, .mov (.c .nili)⟩])
   (.seq
    (.seq
     (.reg [
       ⟨(some 10), none, .mov (.t 0)⟩,
       ⟨(some 11), none, .mov (.t 3)⟩,
       ⟨(some 12), none, .call (.c (.fn 55 [] [])) [(.t 10), (.t 11)]⟩,
       ⟨(some 9), none, .mov (.t 12)⟩])
     (.seq
      (.reg [
        ⟨(some 13), none, .mov (.t 9)⟩,
        ⟨(some 14), none, .eq true .iface true (.t 13) (.c .nili)⟩])
      (.cond (.t 14)
       (.seq
        (.reg [
          ⟨(some 15), none, .mov (.t 9)⟩,
          ⟨(some 8), none, .mov (.t 15)⟩])
        .ret)
       .skip)))
    (.seq
     (.seq
      (.reg [
        ⟨(some 16), none, .mov (.t 0)⟩,
        ⟨(some 17), none, .nilchk (.t 16)⟩,
        ⟨(some 18), none, .faddr 0 (.t 17)⟩,
        ⟨(some 19), none, .load false 1 (.t 18)⟩,
        ⟨(some 20), none, .mov (.t 1)⟩,
        ⟨(some 21), none, .lookup (.sc .int) (.agg [(.int .i64 0), (.int .i64 0)]) (.t 19) (.t 20) false⟩,
        ⟨(some 22), none, .fld false 1 1 (.t 21)⟩,
        ⟨(some 23), none, .mov (.t 3)⟩,
        ⟨(some 24), none, .ibin .lss (.t 22) (.t 23)⟩])
      (.cond (.t 24)
       (.seq
        (.reg [
          ⟨(some 25), none, .loadg 1⟩,
          ⟨(some 8), none, .mov (.t 25)⟩])
        .ret)
       .skip))
     (.seq
      (.reg [
        ⟨(some 26), none, .mov (.t 0)⟩,
        ⟨(some 27), none, .mov (.t 1)⟩,
        ⟨(some 28), none, .mov (.t 3)⟩,
        ⟨(some 29), none, .un .neg (.t 28)⟩,
        ⟨(some 30), none, .call (.c (.fn 56 [] [])) [(.t 26), (.t 27), (.c (.int .i64 0)), (.t 29)]⟩])
      (.seq
       (.reg [
         ⟨(some 31), none, .mov (.t 0)⟩,
         ⟨(some 32), none, .mov (.t 2)⟩,
         ⟨(some 33), none, .mov (.t 3)⟩,
         ⟨(some 34), none, .call (.c (.fn 56 [] [])) [(.t 31), (.t 32), (.t 33), (.c (.int .i64 0))]⟩])
       (.seq
        (.reg [
          ⟨(some 8), none, .mov (.c .nili)⟩])
        .ret))))))⟩

-- (*quitrent/purse.Book).Total
def F14 : AFun := ⟨26, 1, [.tmp 2],
  (.seq
   (.reg [
     ⟨(some 2), none, .mov (.c (.int .i64 0))⟩])
   (.seq
    (.reg [
      ⟨(some 3), none, .mov (.c (.int .i64 0))⟩])
    (.seq
     (.seq
      (.reg [
        ⟨(some 6), none, .mov (.t 0)⟩,
        ⟨(some 7), none, .eq false .ptr true (.t 6) (.c .nilp)⟩])
      (.cond (.t 7)
       (.seq
        (.reg [
          ⟨(some 8), none, .mov (.t 3)⟩,
          ⟨(some 2), none, .mov (.t 8)⟩])
        .ret)
       .skip))
     (.seq
      (.seq
       (.reg [
         ⟨(some 9), none, .mov (.t 0)⟩,
         ⟨(some 10), none, .nilchk (.t 9)⟩,
         ⟨(some 11), none, .faddr 0 (.t 10)⟩,
         ⟨(some 12), none, .load false 1 (.t 11)⟩,
         ⟨(some 13), none, .mkiter (.t 12)⟩])
       (.block 0
        (.loop
         (.seq
          (.reg [
            ⟨(some 14), none, .next (.t 13)⟩,
            ⟨(some 15), none, .extract (.t 14) 0⟩])
          (.seq
           (.cond (.t 15)
            .skip
            (.exit 0))
           (.block 1
            (.seq
             (.reg [
               ⟨(some 16), none, .entry (.t 13)⟩,
               ⟨(some 17), none, .extract (.t 16) 1⟩,
               ⟨(some 5), none, .box 2 (.c (.agg [(.int .i64 0), (.int .i64 0)]))⟩,
               ⟨none, none, .store 2 (.t 5) (.t 17)⟩])
             (.reg [
               ⟨(some 18), none, .mov (.t 3)⟩,
               ⟨(some 19), none, .faddr 0 (.t 5)⟩,
               ⟨(some 20), none, .load false 1 (.t 19)⟩,
               ⟨(some 21), none, .faddr 1 (.t 5)⟩,
               ⟨(some 22), none, .load false 1 (.t 21)⟩,
               ⟨(some 23), none, .ibin .add (.t 20) (.t 22)⟩,
               ⟨(some 24), none, .ibin .add (.t 18) (.t 23)⟩,
               ⟨(some 3), none, .mov (.t 24)⟩]))))))))
      (.seq
       (.reg [
         ⟨(some 25), none, .mov (.t 3)⟩,
         ⟨(some 2), none, .mov (.t 25)⟩])
       .ret)))))⟩

-- (*quitrent/purse.Book).Owners
def F15 : AFun := ⟨32, 1, [.tmp 2],
  (.seq
   (.reg [
     ⟨(some 2), none, .mov (.c .nils)⟩])
   (.seq
    (.seq
     (.reg [
       ⟨(some 5), none, .mov (.t 0)⟩,
       ⟨(some 6), none, .eq false .ptr true (.t 5) (.c .nilp)⟩])
     (.cond (.t 6)
      (.seq
       (.reg [
         ⟨(some 2), none, .mov (.c .nils)⟩])
       .ret)
      .skip))
    (.seq
     (.seq
      (.reg [
        ⟨(some 7), none, .mov (.t 0)⟩,
        ⟨(some 8), none, .nilchk (.t 7)⟩,
        ⟨(some 9), none, .faddr 0 (.t 8)⟩,
        ⟨(some 10), none, .load false 1 (.t 9)⟩,
        ⟨(some 11), none, .call (.c (.fn 54 [] [])) [(.t 10)]⟩,
        ⟨(some 12), none, .call (.c (.fn 53 [] [])) [(.t 11)]⟩,
        ⟨(some 13), none, .len .sl (.t 12)⟩,
        ⟨(some 14), none, .mov (.c (.int .i64 0))⟩])
      (.block 0
       (.loop
        (.seq
         (.reg [
           ⟨(some 15), none, .ibin .lss (.t 14) (.t 13)⟩])
         (.seq
          (.cond (.t 15)
           .skip
           (.exit 0))
          (.seq
           (.block 1
            (.seq
             (.reg [
               ⟨(some 16), none, .iaddrSl 1 (.t 12) (.t 14)⟩,
               ⟨(some 17), none, .load false 1 (.t 16)⟩,
               ⟨(some 4), none, .mov (.t 17)⟩])
             (.seq
              (.reg [
                ⟨(some 18), none, .mov (.t 0)⟩,
                ⟨(some 19), none, .nilchk (.t 18)⟩,
                ⟨(some 20), none, .faddr 0 (.t 19)⟩,
                ⟨(some 21), none, .load false 1 (.t 20)⟩,
                ⟨(some 22), none, .mov (.t 4)⟩,
                ⟨(some 23), none, .lookup (.sc .int) (.agg [(.int .i64 0), (.int .i64 0)]) (.t 21) (.t 22) false⟩,
                ⟨(some 24), none, .build [(.int .i64 0), (.int .i64 0)] []⟩,
                ⟨(some 25), none, .eq true (.flat [.int, .int]) false (.t 23) (.t 24)⟩])
              (.cond (.t 25)
               (.reg [
                 ⟨(some 26), none, .mov (.t 2)⟩,
                 ⟨(some 27), none, .mov (.t 4)⟩,
                 ⟨(some 28), none, .bslice 1 1 [(.int .i64 0)] [(0, 1, (.t 27))]⟩,
                 ⟨(some 29), none, .append 1 8 [(.int .i64 0)] (.t 26) (.t 28)⟩,
                 ⟨(some 2), none, .mov (.t 29)⟩])
               .skip))))
           (.reg [
             ⟨(some 30), none, .ibin .add (.t 14) (.c (.int .i64 1))⟩,
             ⟨(some 14), none, .mov (.t 30)⟩])))))))
     (.seq
      (.reg [
        ⟨(some 31), none, .mov (.t 2)⟩,
        ⟨(some 2), none, .mov (.t 31)⟩])
      .ret))))⟩

-- quitrent/quitrentlaw10.do
def F13 : AFun := ⟨47, 2, [.tmp 4],
  (.seq
   (.reg [
     ⟨(some 3), none, .box 4 (.t 1)⟩,
     ⟨(some 4), none, .mov (.c .nili)⟩])
   (.seq
    (.seq
     (.reg [
       ⟨(some 5), none, .faddr 0 (.t 3)⟩,
       ⟨(some 6), none, .load false 1 (.t 5)⟩])
     (.block 0
      (.seq
       (.reg [
         ⟨(some 8), none, .ibin .eql (.t 6) (.c (.int .i64 1))⟩,
         ⟨(some 7), none, .mov (.t 8)⟩])
       (.cond (.t 7)
        (.seq
         (.reg [
           ⟨(some 9), none, .mov (.t 0)⟩,
           ⟨(some 10), none, .faddr 1 (.t 3)⟩,
           ⟨(some 11), none, .load false 1 (.t 10)⟩,
           ⟨(some 12), none, .faddr 3 (.t 3)⟩,
           ⟨(some 13), none, .load false 1 (.t 12)⟩,
           ⟨(some 14), none, .call (.c (.fn 16 [] [])) [(.t 9), (.t 11), (.t 13)]⟩,
           ⟨(some 4), none, .mov (.t 14)⟩])
         .ret)
        (.seq
         (.reg [
           ⟨(some 16), none, .ibin .eql (.t 6) (.c (.int .i64 2))⟩,
           ⟨(some 15), none, .mov (.t 16)⟩])
         (.cond (.t 15)
          (.seq
           (.reg [
             ⟨(some 17), none, .mov (.t 0)⟩,
             ⟨(some 18), none, .faddr 1 (.t 3)⟩,
             ⟨(some 19), none, .load false 1 (.t 18)⟩,
             ⟨(some 20), none, .faddr 3 (.t 3)⟩,
             ⟨(some 21), none, .load false 1 (.t 20)⟩,
             ⟨(some 22), none, .call (.c (.fn 52 [] [])) [(.t 17), (.t 19), (.t 21)]⟩,
             ⟨(some 4), none, .mov (.t 22)⟩])
           .ret)
          (.seq
           (.reg [
             ⟨(some 24), none, .ibin .eql (.t 6) (.c (.int .i64 3))⟩,
             ⟨(some 23), none, .mov (.t 24)⟩])
           (.cond (.t 23)
            (.seq
             (.reg [
               ⟨(some 25), none, .mov (.t 0)⟩,
               ⟨(some 26), none, .faddr 1 (.t 3)⟩,
               ⟨(some 27), none, .load false 1 (.t 26)⟩,
               ⟨(some 28), none, .faddr 3 (.t 3)⟩,
               ⟨(some 29), none, .load false 1 (.t 28)⟩,
               ⟨(some 30), none, .call (.c (.fn 17 [] [])) [(.t 25), (.t 27), (.t 29)]⟩,
               ⟨(some 4), none, .mov (.t 30)⟩])
             .ret)
            (.seq
             (.reg [
               ⟨(some 32), none, .ibin .eql (.t 6) (.c (.int .i64 4))⟩,
               ⟨(some 31), none, .mov (.t 32)⟩])
             (.cond (.t 31)
              (.seq
               (.reg [
                 ⟨(some 33), none, .mov (.t 0)⟩,
                 ⟨(some 34), none, .faddr 1 (.t 3)⟩,
                 ⟨(some 35), none, .load false 1 (.t 34)⟩,
                 ⟨(some 36), none, .faddr 3 (.t 3)⟩,
                 ⟨(some 37), none, .load false 1 (.t 36)⟩,
                 ⟨(some 38), none, .call (.c (.fn 19 [] [])) [(.t 33), (.t 35), (.t 37)]⟩,
                 ⟨(some 4), none, .mov (.t 38)⟩])
               .ret)
              .skip))))))))))
    (.seq
     (.reg [
       ⟨(some 39), none, .mov (.t 0)⟩,
       ⟨(some 40), none, .faddr 1 (.t 3)⟩,
       ⟨(some 41), none, .load false 1 (.t 40)⟩,
       ⟨(some 42), none, .faddr 2 (.t 3)⟩,
       ⟨(some 43), none, .load false 1 (.t 42)⟩,
       ⟨(some 44), none, .faddr 3 (.t 3)⟩,
       ⟨(some 45), none, .load false 1 (.t 44)⟩,
       ⟨(some 46), none, .call (.c (.fn 18 [] [])) [(.t 39), (.t 41), (.t 43), (.t 45)]⟩,
       ⟨(some 4), none, .mov (.t 46)⟩])
     .ret)))⟩

-- quitrent/quitrentlaw10.awake
def F10 : AFun := ⟨61, 0, [.tmp 0],
  (.seq
   (.reg [
     ⟨(some 0), none, .mov (.c (.bool false))⟩])
   (.seq
    (.reg [
      ⟨(some 6), none, .call (.c (.fn 11 [] [])) []⟩,
      ⟨(some 1), none, .mov (.t 6)⟩])
    (.seq
     (.seq
      (.reg [
        ⟨(some 7), none, .mov (.t 1)⟩,
        ⟨(some 8), none, .eq false .ptr true (.t 7) (.c .nilp)⟩])
      (.cond (.t 8)
       (.seq
        (.reg [
          ⟨(some 0), none, .mov (.c (.bool false))⟩])
        .ret)
       .skip))
     (.seq
      (.reg [
        ⟨(some 9), none, .mov (.t 1)⟩,
        ⟨(some 10), none, .call (.c (.fn 16 [] [])) [(.t 9), (.c (.int .i64 1)), (.c (.int .i64 10))]⟩,
        ⟨(some 2), none, .mov (.t 10)⟩])
      (.seq
       (.reg [
         ⟨(some 11), none, .mov (.t 1)⟩,
         ⟨(some 12), none, .call (.c (.fn 17 [] [])) [(.t 11), (.c (.int .i64 1)), (.c (.int .i64 4))]⟩,
         ⟨(some 3), none, .mov (.t 12)⟩])
       (.seq
        (.reg [
          ⟨(some 13), none, .mov (.t 1)⟩,
          ⟨(some 14), none, .call (.c (.fn 18 [] [])) [(.t 13), (.c (.int .i64 1)), (.c (.int .i64 2)), (.c (.int .i64 3))]⟩,
          ⟨(some 4), none, .mov (.t 14)⟩])
        (.seq
         (.reg [
           ⟨(some 15), none, .mov (.t 1)⟩,
           ⟨(some 16), none, .call (.c (.fn 15 [] [])) [(.t 15)]⟩,
           ⟨(some 5), none, .mov (.t 16)⟩])
         (.seq
          (.reg [
            ⟨(some 17), none, .mov (.t 2)⟩,
            ⟨(some 18), none, .eq false .iface true (.t 17) (.c .nili)⟩,
            ⟨(some 19), none, .mov (.t 18)⟩,
            ⟨(some 20), (some (19, true)), .mov (.t 3)⟩,
            ⟨(some 21), (some (19, true)), .eq false .iface true (.t 20) (.c .nili)⟩,
            ⟨(some 22), none, .pick (.t 19) (.t 21) (.c (.bool false))⟩,
            ⟨(some 23), none, .mov (.t 22)⟩,
            ⟨(some 24), (some (23, true)), .mov (.t 4)⟩,
            ⟨(some 25), (some (23, true)), .eq false .iface true (.t 24) (.c .nili)⟩,
            ⟨(some 26), none, .pick (.t 23) (.t 25) (.c (.bool false))⟩,
            ⟨(some 27), none, .mov (.t 26)⟩,
            ⟨(some 28), (some (27, true)), .mov (.t 1)⟩,
            ⟨(some 29), (some (27, true)), .call (.c (.fn 12 [] [])) [(.t 28), (.c (.int .i64 1))]⟩,
            ⟨(some 30), (some (27, true)), .build [(.int .i64 0), (.int .i64 0)] [(0, 1, (.c (.int .i64 6))), (1, 1, (.c (.int .i64 1)))]⟩,
            ⟨(some 31), (some (27, true)), .eq false (.flat [.int, .int]) false (.t 29) (.t 30)⟩,
            ⟨(some 32), none, .pick (.t 27) (.t 31) (.c (.bool false))⟩,
            ⟨(some 33), none, .mov (.t 32)⟩,
            ⟨(some 34), (some (33, true)), .mov (.t 1)⟩,
            ⟨(some 35), (some (33, true)), .call (.c (.fn 12 [] [])) [(.t 34), (.c (.int .i64 2))]⟩,
            ⟨(some 36), (some (33, true)), .fld false 1 0 (.t 35)⟩,
            ⟨(some 37), (some (33, true)), .ibin .eql (.t 36) (.c (.int .i64 3))⟩,
            ⟨(some 38), none, .pick (.t 33) (.t 37) (.c (.bool false))⟩,
            ⟨(some 39), none, .mov (.t 38)⟩,
            ⟨(some 40), (some (39, true)), .mov (.t 1)⟩,
            ⟨(some 41), (some (39, true)), .call (.c (.fn 14 [] [])) [(.t 40)]⟩,
            ⟨(some 42), (some (39, true)), .ibin .eql (.t 41) (.c (.int .i64 10))⟩,
            ⟨(some 43), none, .pick (.t 39) (.t 42) (.c (.bool false))⟩,
            ⟨(some 44), none, .mov (.t 43)⟩,
            ⟨(some 45), (some (44, true)), .mov (.t 5)⟩,
            ⟨(some 46), (some (44, true)), .len .sl (.t 45)⟩,
            ⟨(some 47), (some (44, true)), .ibin .eql (.t 46) (.c (.int .i64 2))⟩,
            ⟨(some 48), none, .pick (.t 44) (.t 47) (.c (.bool false))⟩,
            ⟨(some 49), none, .mov (.t 48)⟩,
            ⟨(some 50), (some (49, true)), .mov (.t 1)⟩,
            ⟨(some 51), (some (49, true)), .call (.c (.fn 52 [] [])) [(.t 50), (.c (.int .i64 2)), (.c (.int .i64 4))]⟩,
            ⟨(some 52), (some (49, true)), .call (.c (.fn 20 [] [])) [(.t 51)]⟩,
            ⟨(some 53), (some (49, true)), .ibin .eql (.t 52) (.c (.int .i64 12))⟩,
            ⟨(some 54), none, .pick (.t 49) (.t 53) (.c (.bool false))⟩,
            ⟨(some 55), none, .mov (.t 54)⟩,
            ⟨(some 56), (some (55, true)), .mov (.t 1)⟩,
            ⟨(some 57), (some (55, true)), .call (.c (.fn 19 [] [])) [(.t 56), (.c (.int .i64 1)), (.c (.int .i64 2))]⟩,
            ⟨(some 58), (some (55, true)), .call (.c (.fn 20 [] [])) [(.t 57)]⟩,
            ⟨(some 59), (some (55, true)), .ibin .eql (.t 58) (.c (.int .i64 13))⟩,
            ⟨(some 60), none, .pick (.t 55) (.t 59) (.c (.bool false))⟩,
            ⟨(some 0), none, .mov (.t 60)⟩])
          .ret))))))))⟩

-- quitrent/quitrentlaw10.PurseTotal
def F3 : AFun := ⟨127, 1, [.tmp 2],
  (.seq
   (.reg [
     ⟨(some 2), none, .mov (.c (.bool false))⟩])
   (.seq
    (.seq
     (.reg [
       ⟨(some 14), none, .call (.c (.fn 10 [] [])) []⟩,
       ⟨(some 15), none, .un .not (.t 14)⟩])
     (.cond (.t 15)
      (.seq
       (.reg [
         ⟨(some 2), none, .mov (.c (.bool false))⟩])
       .ret)
      .skip))
    (.seq
     (.reg [
       ⟨(some 16), none, .call (.c (.fn 11 [] [])) []⟩,
       ⟨(some 3), none, .mov (.t 16)⟩])
     (.seq
      (.reg [
        ⟨(some 4), none, .mov (.c (.int .i64 0))⟩])
      (.seq
       (.seq
        (.reg [
          ⟨(some 5), none, .mov (.c (.int .i64 0))⟩])
        (.block 0
         (.loop
          (.seq
           (.seq
            (.reg [
              ⟨(some 17), none, .mov (.t 5)⟩,
              ⟨(some 18), none, .mov (.t 0)⟩,
              ⟨(some 19), none, .len .sl (.t 18)⟩,
              ⟨(some 20), none, .ibin .lss (.t 17) (.t 19)⟩,
              ⟨(some 21), none, .mov (.t 20)⟩,
              ⟨(some 22), (some (21, true)), .mov (.t 5)⟩,
              ⟨(some 23), (some (21, true)), .ibin .lss (.t 22) (.c (.int .i64 80))⟩,
              ⟨(some 24), none, .pick (.t 21) (.t 23) (.c (.bool false))⟩])
            (.cond (.t 24)
             .skip
             (.exit 0)))
           (.seq
            (.block 1
             (.seq
              (.reg [
                ⟨(some 27), none, .mov (.t 0)⟩,
                ⟨(some 28), none, .mov (.t 5)⟩,
                ⟨(some 29), none, .iaddrSl 4 (.t 27) (.t 28)⟩,
                ⟨(some 30), none, .load true 4 (.t 29)⟩,
                ⟨(some 6), none, .box 4 (.c (.agg [(.int .i64 0), (.int .i64 0), (.int .i64 0), (.int .i64 0)]))⟩,
                ⟨none, none, .store 4 (.t 6) (.t 30)⟩])
              (.seq
               (.reg [
                 ⟨(some 31), none, .mov (.t 3)⟩,
                 ⟨(some 32), none, .faddr 1 (.t 6)⟩,
                 ⟨(some 33), none, .load false 1 (.t 32)⟩,
                 ⟨(some 34), none, .call (.c (.fn 12 [] [])) [(.t 31), (.t 33)]⟩,
                 ⟨(some 7), none, .box 2 (.c (.agg [(.int .i64 0), (.int .i64 0)]))⟩,
                 ⟨none, none, .store 2 (.t 7) (.t 34)⟩])
               (.seq
                (.reg [
                  ⟨(some 35), none, .mov (.t 3)⟩,
                  ⟨(some 36), none, .faddr 2 (.t 6)⟩,
                  ⟨(some 37), none, .load false 1 (.t 36)⟩,
                  ⟨(some 38), none, .call (.c (.fn 12 [] [])) [(.t 35), (.t 37)]⟩,
                  ⟨(some 8), none, .box 2 (.c (.agg [(.int .i64 0), (.int .i64 0)]))⟩,
                  ⟨none, none, .store 2 (.t 8) (.t 38)⟩])
                (.seq
                 (.reg [
                   ⟨(some 39), none, .mov (.t 3)⟩,
                   ⟨(some 40), none, .load true 4 (.t 6)⟩,
                   ⟨(some 41), none, .call (.c (.fn 13 [] [])) [(.t 39), (.t 40)]⟩,
                   ⟨(some 9), none, .mov (.t 41)⟩])
                 (.seq
                  (.seq
                   (.reg [
                     ⟨(some 42), none, .mov (.t 9)⟩,
                     ⟨(some 43), none, .eq false .iface true (.t 42) (.c .nili)⟩,
                     ⟨(some 44), none, .mov (.t 43)⟩,
                     ⟨(some 45), (some (44, true)), .faddr 0 (.t 6)⟩,
                     ⟨(some 46), (some (44, true)), .load false 1 (.t 45)⟩,
                     ⟨(some 47), (some (44, true)), .ibin .eql (.t 46) (.c (.int .i64 1))⟩,
                     ⟨(some 48), none, .pick (.t 44) (.t 47) (.c (.bool false))⟩])
                   (.cond (.t 48)
                    (.reg [
                      ⟨(some 49), none, .mov (.t 4)⟩,
                      ⟨(some 50), none, .faddr 3 (.t 6)⟩,
                      ⟨(some 51), none, .load false 1 (.t 50)⟩,
                      ⟨(some 52), none, .ibin .add (.t 49) (.t 51)⟩,
                      ⟨(some 4), none, .mov (.t 52)⟩])
                    .skip))
                  (.seq
                   (.seq
                    (.reg [
                      ⟨(some 53), none, .mov (.t 9)⟩,
                      ⟨(some 54), none, .eq false .iface true (.t 53) (.c .nili)⟩,
                      ⟨(some 55), none, .mov (.t 54)⟩,
                      ⟨(some 56), (some (55, true)), .faddr 0 (.t 6)⟩,
                      ⟨(some 57), (some (55, true)), .load false 1 (.t 56)⟩,
                      ⟨(some 58), (some (55, true)), .ibin .eql (.t 57) (.c (.int .i64 2))⟩,
                      ⟨(some 59), none, .pick (.t 55) (.t 58) (.c (.bool false))⟩])
                    (.cond (.t 59)
                     (.reg [
                       ⟨(some 60), none, .mov (.t 4)⟩,
                       ⟨(some 61), none, .faddr 3 (.t 6)⟩,
                       ⟨(some 62), none, .load false 1 (.t 61)⟩,
                       ⟨(some 63), none, .ibin .sub (.t 60) (.t 62)⟩,
                       ⟨(some 4), none, .mov (.t 63)⟩])
                     .skip))
                   (.seq
                    (.reg [
                      ⟨(some 64), none, .mov (.t 3)⟩,
                      ⟨(some 65), none, .faddr 1 (.t 6)⟩,
                      ⟨(some 66), none, .load false 1 (.t 65)⟩,
                      ⟨(some 67), none, .call (.c (.fn 12 [] [])) [(.t 64), (.t 66)]⟩,
                      ⟨(some 10), none, .box 2 (.c (.agg [(.int .i64 0), (.int .i64 0)]))⟩,
                      ⟨none, none, .store 2 (.t 10) (.t 67)⟩])
                    (.seq
                     (.draw [
                       ⟨(some 68), none, .mov (.t 3)⟩,
                       ⟨(some 69), none, .call (.c (.fn 14 [] [])) [(.t 68)]⟩,
                       ⟨(some 70), none, .mov (.t 4)⟩,
                       ⟨(some 71), none, .ibin .neq (.t 69) (.t 70)⟩,
                       ⟨(some 72), none, .mov (.t 71)⟩,
                       ⟨(some 73), (some (72, false)), .faddr 0 (.t 10)⟩,
                       ⟨(some 74), (some (72, false)), .load false 1 (.t 73)⟩,
                       ⟨(some 75), (some (72, false)), .ibin .lss (.t 74) (.c (.int .i64 0))⟩,
                       ⟨(some 76), none, .pick (.t 72) (.c (.bool true)) (.t 75)⟩,
                       ⟨(some 77), none, .mov (.t 76)⟩,
                       ⟨(some 78), (some (77, false)), .faddr 1 (.t 10)⟩,
                       ⟨(some 79), (some (77, false)), .load false 1 (.t 78)⟩,
                       ⟨(some 80), (some (77, false)), .ibin .lss (.t 79) (.c (.int .i64 0))⟩,
                       ⟨(some 81), none, .pick (.t 77) (.c (.bool true)) (.t 80)⟩,
                       ⟨(some 82), none, .mov (.t 81)⟩,
                       ⟨(some 83), (some (82, false)), .mov (.t 9)⟩,
                       ⟨(some 84), (some (82, false)), .eq true .iface true (.t 83) (.c .nili)⟩,
                       ⟨(some 85), (some (82, false)), .mov (.t 84)⟩,
                       ⟨(some 86), (some (85, true)), .load true 2 (.t 10)⟩,
                       ⟨(some 87), (some (85, true)), .load true 2 (.t 7)⟩,
                       ⟨(some 88), (some (85, true)), .eq true (.flat [.int, .int]) false (.t 86) (.t 87)⟩,
                       ⟨(some 89), (some (85, true)), .mov (.t 88)⟩,
                       ⟨(some 90), (some (89, false)), .mov (.t 3)⟩,
                       ⟨(some 91), (some (89, false)), .faddr 2 (.t 6)⟩,
                       ⟨(some 92), (some (89, false)), .load false 1 (.t 91)⟩,
                       ⟨(some 93), (some (89, false)), .call (.c (.fn 12 [] [])) [(.t 90), (.t 92)]⟩,
                       ⟨(some 94), (some (89, false)), .load true 2 (.t 8)⟩,
                       ⟨(some 95), (some (89, false)), .eq true (.flat [.int, .int]) false (.t 93) (.t 94)⟩,
                       ⟨(some 96), (some (85, true)), .pick (.t 89) (.c (.bool true)) (.t 95)⟩,
                       ⟨(some 97), (some (82, false)), .pick (.t 85) (.t 96) (.c (.bool false))⟩,
                       ⟨(some 98), none, .pick (.t 82) (.c (.bool true)) (.t 97)⟩]
                       [[], [0], [], [1, 2, 0], [3, 1, 2, 0], [4, 3, 1, 2, 0], [5, 4, 3, 1, 2, 0], [6, 4, 5, 3, 1, 2, 0], [4, 7, 3, 1, 2, 0, 6, 5], [8, 4, 7, 3, 1, 2, 0, 6, 5], [9, 8, 4, 7, 3, 1, 2, 0, 6, 5], [10, 9, 8, 4, 7, 3, 1, 2, 0, 6, 5], [11, 9, 10, 8, 4, 7, 3, 1, 2, 0, 6, 5], [9, 12, 8, 4, 7, 3, 1, 2, 0, 6, 5, 11, 10], [13, 9, 12, 8, 4, 7, 3, 1, 2, 0, 6, 5, 11, 10], [14, 13, 9, 12, 8, 4, 7, 3, 1, 2, 0, 6, 5, 11, 10], [15, 14, 13, 9, 12, 8, 4, 7, 3, 1, 2, 0, 6, 5, 11, 10], [16, 14, 15, 13, 9, 12, 8, 4, 7, 3, 1, 2, 0, 6, 5, 11, 10], [17, 16, 14, 15, 13, 9, 12, 8, 4, 7, 3, 1, 2, 0, 6, 5, 11, 10], [17, 16, 14, 15, 13, 9, 12, 8, 4, 7, 3, 1, 2, 0, 6, 5, 11, 10], [18, 19, 17, 16, 14, 15, 13, 9, 12, 8, 4, 7, 3, 1, 2, 0, 6, 5, 11, 10], [20, 17, 18, 19, 16, 14, 15, 13, 9, 12, 8, 4, 7, 3, 1, 2, 0, 6, 5, 11, 10], [21, 20, 17, 18, 19, 16, 14, 15, 13, 9, 12, 8, 4, 7, 3, 1, 2, 0, 6, 5, 11, 10], [21, 20, 17, 18, 19, 16, 14, 15, 13, 9, 12, 8, 4, 7, 3, 1, 2, 0, 6, 5, 11, 10], [23, 21, 20, 17, 18, 19, 16, 14, 15, 13, 9, 12, 8, 4, 7, 3, 1, 2, 0, 6, 5, 11, 10], [22, 24, 21, 20, 17, 18, 19, 16, 14, 15, 13, 9, 12, 8, 4, 7, 3, 1, 2, 0, 6, 5, 11, 10, 23], [21, 20, 17, 18, 19, 16, 14, 15, 13, 9, 12, 8, 4, 7, 3, 1, 2, 0, 6, 5, 11, 10], [25, 26, 21, 22, 24, 20, 17, 18, 19, 16, 14, 15, 13, 9, 12, 8, 4, 7, 3, 1, 2, 0, 6, 5, 11, 10, 23], [21, 27, 17, 20, 18, 19, 16, 14, 15, 13, 9, 12, 8, 4, 7, 3, 1, 2, 0, 6, 5, 11, 10, 25, 26, 22, 24, 23], [17, 28, 14, 16, 15, 13, 9, 12, 8, 4, 7, 3, 1, 2, 0, 6, 5, 11, 10, 21, 27, 20, 18, 19, 25, 26, 22, 24, 23], [14, 29, 13, 9, 12, 8, 4, 7, 3, 1, 2, 0, 6, 5, 11, 10, 17, 28, 16, 15, 21, 27, 20, 18, 19, 25, 26, 22, 24, 23]])
                     (.cond (.t 98)
                      (.seq
                       (.reg [
                         ⟨(some 2), none, .mov (.c (.bool false))⟩])
                       .ret)
                      .skip))))))))))
            (.reg [
              ⟨(some 25), none, .mov (.t 5)⟩,
              ⟨(some 26), none, .ibin .add (.t 25) (.c (.int .i64 1))⟩,
              ⟨(some 5), none, .mov (.t 26)⟩]))))))
       (.seq
        (.reg [
          ⟨(some 99), none, .mov (.t 3)⟩,
          ⟨(some 100), none, .call (.c (.fn 15 [] [])) [(.t 99)]⟩,
          ⟨(some 11), none, .mov (.t 100)⟩])
        (.seq
         (.reg [
           ⟨(some 12), none, .mov (.c (.int .i64 0))⟩])
         (.seq
          (.seq
           (.reg [
             ⟨(some 13), none, .mov (.c (.int .i64 0))⟩])
           (.block 2
            (.loop
             (.seq
              (.seq
               (.reg [
                 ⟨(some 101), none, .mov (.t 13)⟩,
                 ⟨(some 102), none, .mov (.t 11)⟩,
                 ⟨(some 103), none, .len .sl (.t 102)⟩,
                 ⟨(some 104), none, .ibin .lss (.t 101) (.t 103)⟩])
               (.cond (.t 104)
                .skip
                (.exit 2)))
              (.seq
               (.block 3
                (.draw [
                  ⟨(some 107), none, .mov (.t 12)⟩,
                  ⟨(some 108), none, .mov (.t 3)⟩,
                  ⟨(some 109), none, .mov (.t 11)⟩,
                  ⟨(some 110), none, .mov (.t 13)⟩,
                  ⟨(some 111), none, .iaddrSl 1 (.t 109) (.t 110)⟩,
                  ⟨(some 112), none, .load false 1 (.t 111)⟩,
                  ⟨(some 113), none, .call (.c (.fn 12 [] [])) [(.t 108), (.t 112)]⟩,
                  ⟨(some 114), none, .fld false 1 0 (.t 113)⟩,
                  ⟨(some 115), none, .ibin .add (.t 107) (.t 114)⟩,
                  ⟨(some 116), none, .mov (.t 3)⟩,
                  ⟨(some 117), none, .mov (.t 11)⟩,
                  ⟨(some 118), none, .mov (.t 13)⟩,
                  ⟨(some 119), none, .iaddrSl 1 (.t 117) (.t 118)⟩,
                  ⟨(some 120), none, .load false 1 (.t 119)⟩,
                  ⟨(some 121), none, .call (.c (.fn 12 [] [])) [(.t 116), (.t 120)]⟩,
                  ⟨(some 122), none, .fld false 1 1 (.t 121)⟩,
                  ⟨(some 123), none, .ibin .add (.t 115) (.t 122)⟩,
                  ⟨(some 12), none, .mov (.t 123)⟩]
                  [[], [], [], [], [2, 3], [4, 2, 3], [1, 5, 4, 2, 3], [6, 1, 5, 4, 2, 3], [0, 7, 6, 1, 5, 4, 2, 3], [], [], [], [10, 11], [12, 10, 11], [9, 13, 6, 12, 10, 11, 1, 5, 4, 2, 3], [14, 9, 13, 6, 12, 10, 11, 1, 5, 4, 2, 3], [8, 15, 0, 7, 6, 1, 5, 4, 2, 3, 14, 9, 13, 12, 10, 11], [16, 14, 0, 1, 2, 3, 4, 5, 6, 7, 8, 9, 10, 11, 12, 13, 15]]))
               (.reg [
                 ⟨(some 105), none, .mov (.t 13)⟩,
                 ⟨(some 106), none, .ibin .add (.t 105) (.c (.int .i64 1))⟩,
                 ⟨(some 13), none, .mov (.t 106)⟩]))))))
          (.seq
           (.reg [
             ⟨(some 124), none, .mov (.t 12)⟩,
             ⟨(some 125), none, .mov (.t 4)⟩,
             ⟨(some 126), none, .ibin .eql (.t 124) (.t 125)⟩,
             ⟨(some 2), none, .mov (.t 126)⟩])
           .ret)))))))))⟩

-- quitrent/quitrentlaw10.PurseBack
def F4 : AFun := ⟨87, 4, [.tmp 8],
  (.seq
   (.reg [
     ⟨(some 8), none, .mov (.c (.bool false))⟩])
   (.seq
    (.seq
     (.reg [
       ⟨(some 14), none, .call (.c (.fn 10 [] [])) []⟩,
       ⟨(some 15), none, .un .not (.t 14)⟩])
     (.cond (.t 15)
      (.seq
       (.reg [
         ⟨(some 8), none, .mov (.c (.bool false))⟩])
       .ret)
      .skip))
    (.seq
     (.reg [
       ⟨(some 16), none, .call (.c (.fn 11 [] [])) []⟩,
       ⟨(some 9), none, .mov (.t 16)⟩])
     (.seq
      (.reg [
        ⟨(some 17), none, .mov (.t 0)⟩,
        ⟨(some 18), none, .i2i .u64 (.t 17)⟩,
        ⟨(some 19), none, .ibin .rem (.t 18) (.c (.int .u64 1099511627776))⟩,
        ⟨(some 20), none, .i2i .i64 (.t 19)⟩,
        ⟨(some 10), none, .mov (.t 20)⟩])
      (.seq
       (.reg [
         ⟨(some 21), none, .mov (.t 1)⟩,
         ⟨(some 22), none, .i2i .u64 (.t 21)⟩,
         ⟨(some 23), none, .mov (.t 10)⟩,
         ⟨(some 24), none, .ibin .add (.t 23) (.c (.int .i64 1))⟩,
         ⟨(some 25), none, .i2i .u64 (.t 24)⟩,
         ⟨(some 26), none, .ibin .rem (.t 22) (.t 25)⟩,
         ⟨(some 27), none, .i2i .i64 (.t 26)⟩,
         ⟨(some 11), none, .mov (.t 27)⟩])
       (.seq
        (.reg [
          ⟨(some 28), none, .mov (.t 2)⟩,
          ⟨(some 29), none, .i2i .u64 (.t 28)⟩,
          ⟨(some 30), none, .mov (.t 11)⟩,
          ⟨(some 31), none, .ibin .add (.t 30) (.c (.int .i64 1))⟩,
          ⟨(some 32), none, .i2i .u64 (.t 31)⟩,
          ⟨(some 33), none, .ibin .rem (.t 29) (.t 32)⟩,
          ⟨(some 34), none, .i2i .i64 (.t 33)⟩,
          ⟨(some 12), none, .mov (.t 34)⟩])
        (.seq
         (.reg [
           ⟨(some 13), none, .mov (.c (.int .i64 8))⟩])
         (.seq
          (.seq
           (.reg [
             ⟨(some 35), none, .mov (.t 3)⟩])
           (.cond (.t 35)
            (.reg [
              ⟨(some 13), none, .mov (.c (.int .i64 7))⟩])
            .skip))
          (.seq
           (.seq
            (.reg [
              ⟨(some 36), none, .mov (.t 9)⟩,
              ⟨(some 37), none, .mov (.t 10)⟩,
              ⟨(some 38), none, .call (.c (.fn 16 [] [])) [(.t 36), (.c (.int .i64 7)), (.t 37)]⟩,
              ⟨(some 39), none, .eq true .iface true (.t 38) (.c .nili)⟩,
              ⟨(some 40), none, .mov (.t 39)⟩,
              ⟨(some 41), (some (40, false)), .mov (.t 9)⟩,
              ⟨(some 42), (some (40, false)), .mov (.t 11)⟩,
              ⟨(some 43), (some (40, false)), .call (.c (.fn 17 [] [])) [(.t 41), (.c (.int .i64 7)), (.t 42)]⟩,
              ⟨(some 44), (some (40, false)), .eq true .iface true (.t 43) (.c .nili)⟩,
              ⟨(some 45), none, .pick (.t 40) (.c (.bool true)) (.t 44)⟩,
              ⟨(some 46), none, .mov (.t 45)⟩,
              ⟨(some 47), (some (46, false)), .mov (.t 9)⟩,
              ⟨(some 48), (some (46, false)), .mov (.t 13)⟩,
              ⟨(some 49), (some (46, false)), .mov (.t 12)⟩,
              ⟨(some 50), (some (46, false)), .call (.c (.fn 18 [] [])) [(.t 47), (.c (.int .i64 7)), (.t 48), (.t 49)]⟩,
              ⟨(some 51), (some (46, false)), .eq true .iface true (.t 50) (.c .nili)⟩,
              ⟨(some 52), none, .pick (.t 46) (.c (.bool true)) (.t 51)⟩,
              ⟨(some 53), none, .mov (.t 52)⟩,
              ⟨(some 54), (some (53, false)), .mov (.t 9)⟩,
              ⟨(some 55), (some (53, false)), .mov (.t 11)⟩,
              ⟨(some 56), (some (53, false)), .mov (.t 12)⟩,
              ⟨(some 57), (some (53, false)), .ibin .sub (.t 55) (.t 56)⟩,
              ⟨(some 58), (some (53, false)), .call (.c (.fn 19 [] [])) [(.t 54), (.c (.int .i64 7)), (.t 57)]⟩,
              ⟨(some 59), (some (53, false)), .eq true .iface true (.t 58) (.c .nili)⟩,
              ⟨(some 60), none, .pick (.t 53) (.c (.bool true)) (.t 59)⟩])
            (.cond (.t 60)
             (.seq
              (.reg [
                ⟨(some 8), none, .mov (.c (.bool false))⟩])
              .ret)
             .skip))
           (.seq
            (.seq
             (.reg [
               ⟨(some 61), none, .mov (.t 3)⟩])
             (.cond (.t 61)
              (.seq
               (.reg [
                 ⟨(some 62), none, .mov (.t 9)⟩,
                 ⟨(some 63), none, .call (.c (.fn 12 [] [])) [(.t 62), (.c (.int .i64 7))]⟩,
                 ⟨(some 64), none, .mov (.t 10)⟩,
                 ⟨(some 65), none, .build [(.int .i64 0), (.int .i64 0)] [(0, 1, (.t 64))]⟩,
                 ⟨(some 66), none, .eq false (.flat [.int, .int]) false (.t 63) (.t 65)⟩,
                 ⟨(some 8), none, .mov (.t 66)⟩])
               .ret)
              .skip))
            (.seq
             (.reg [
               ⟨(some 67), none, .mov (.t 9)⟩,
               ⟨(some 68), none, .call (.c (.fn 12 [] [])) [(.t 67), (.c (.int .i64 7))]⟩,
               ⟨(some 69), none, .mov (.t 10)⟩,
               ⟨(some 70), none, .mov (.t 12)⟩,
               ⟨(some 71), none, .ibin .sub (.t 69) (.t 70)⟩,
               ⟨(some 72), none, .build [(.int .i64 0), (.int .i64 0)] [(0, 1, (.t 71))]⟩,
               ⟨(some 73), none, .eq false (.flat [.int, .int]) false (.t 68) (.t 72)⟩,
               ⟨(some 74), none, .mov (.t 73)⟩,
               ⟨(some 75), (some (74, true)), .mov (.t 9)⟩,
               ⟨(some 76), (some (74, true)), .call (.c (.fn 12 [] [])) [(.t 75), (.c (.int .i64 8))]⟩,
               ⟨(some 77), (some (74, true)), .mov (.t 12)⟩,
               ⟨(some 78), (some (74, true)), .build [(.int .i64 0), (.int .i64 0)] [(0, 1, (.t 77))]⟩,
               ⟨(some 79), (some (74, true)), .eq false (.flat [.int, .int]) false (.t 76) (.t 78)⟩,
               ⟨(some 80), none, .pick (.t 74) (.t 79) (.c (.bool false))⟩,
               ⟨(some 81), none, .mov (.t 80)⟩,
               ⟨(some 82), (some (81, true)), .mov (.t 9)⟩,
               ⟨(some 83), (some (81, true)), .call (.c (.fn 19 [] [])) [(.t 82), (.c (.int .i64 7)), (.c (.int .i64 1))]⟩,
               ⟨(some 84), (some (81, true)), .call (.c (.fn 20 [] [])) [(.t 83)]⟩,
               ⟨(some 85), (some (81, true)), .ibin .eql (.t 84) (.c (.int .i64 13))⟩,
               ⟨(some 86), none, .pick (.t 81) (.t 85) (.c (.bool false))⟩,
               ⟨(some 8), none, .mov (.t 86)⟩])
             .ret)))))))))))⟩

theorem c11 : cFun Tryd.prog [2, 3, 4, 0, 5, 6, 7, 8, 9, 10, 11, 12, 1, 13] Tryd.f11 = some F11 := by kernel_rfl
theorem c12 : cFun Tryd.prog [2, 3, 4, 0, 5, 6, 7, 8, 9, 10, 11, 12, 1, 13] Tryd.f12 = some F12 := by kernel_rfl
theorem c55 : cFun Tryd.prog [2, 3, 4, 0, 5, 6, 7, 8, 9, 10, 11, 12, 1, 13] Tryd.f55 = some F55 := by kernel_rfl
theorem c56 : cFun Tryd.prog [2, 3, 4, 0, 5, 6, 7, 8, 9, 10, 11, 12, 1, 13] Tryd.f56 = some F56 := by kernel_rfl
theorem c16 : cFun Tryd.prog [2, 3, 4, 0, 5, 6, 7, 8, 9, 10, 11, 12, 1, 13] Tryd.f16 = some F16 := by kernel_rfl
theorem c57 : cFun Tryd.prog [2, 3, 4, 0, 5, 6, 7, 8, 9, 10, 11, 12, 1, 13] Tryd.f57 = some F57 := by kernel_rfl
theorem c52 : cFun Tryd.prog [2, 3, 4, 0, 5, 6, 7, 8, 9, 10, 11, 12, 1, 13] Tryd.f52 = some F52 := by kernel_rfl
theorem c17 : cFun Tryd.prog [2, 3, 4, 0, 5, 6, 7, 8, 9, 10, 11, 12, 1, 13] Tryd.f17 = some F17 := by kernel_rfl
theorem c19 : cFun Tryd.prog [2, 3, 4, 0, 5, 6, 7, 8, 9, 10, 11, 12, 1, 13] Tryd.f19 = some F19 := by kernel_rfl
theorem c18 : cFun Tryd.prog [2, 3, 4, 0, 5, 6, 7, 8, 9, 10, 11, 12, 1, 13] Tryd.f18 = some F18 := by kernel_rfl
theorem c14 : cFun Tryd.prog [2, 3, 4, 0, 5, 6, 7, 8, 9, 10, 11, 12, 1, 13] Tryd.f14 = some F14 := by kernel_rfl
theorem c15 : cFun Tryd.prog [2, 3, 4, 0, 5, 6, 7, 8, 9, 10, 11, 12, 1, 13] Tryd.f15 = some F15 := by kernel_rfl
theorem c13 : cFun Tryd.prog [2, 3, 4, 0, 5, 6, 7, 8, 9, 10, 11, 12, 1, 13] Tryd.f13 = some F13 := by kernel_rfl
theorem c10 : cFun Tryd.prog [2, 3, 4, 0, 5, 6, 7, 8, 9, 10, 11, 12, 1, 13] Tryd.f10 = some F10 := by kernel_rfl
theorem c3 : cFun Tryd.prog [2, 3, 4, 0, 5, 6, 7, 8, 9, 10, 11, 12, 1, 13] Tryd.f3 = some F3 := by kernel_rfl
theorem c4 : cFun Tryd.prog [2, 3, 4, 0, 5, 6, 7, 8, 9, 10, 11, 12, 1, 13] Tryd.f4 = some F4 := by kernel_rfl
end Go.Proofs.YtnlolefgifeohaaDoor.E10
