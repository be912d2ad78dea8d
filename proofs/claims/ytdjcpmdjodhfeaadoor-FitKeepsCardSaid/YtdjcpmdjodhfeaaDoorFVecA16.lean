import Derived.Test.YtdjcpmdjodhfeaaDoorAHc
import Derived.Test.YtdjcpmdjodhfeaaDoorChecked
import Derived.KernelRfl
import Derived.Laws.Bits64
open Go AH
namespace Go.Proofs.YtdjcpmdjodhfeaaDoor.A16
noncomputable def S0 : AH.Sys := ⟨Tryd.prog, [1, 4], 115, []⟩
theorem mixed : Tryd.prog.follows .mixedOrders = true := by kernel_rfl
theorem errs0 : S0.errs ≠ [] := by simp [S0]
-- quitrent/vec.Good$1
def F36 : AFun := ⟨9, 1, [.tmp 2],
  (.seq
   (.reg [
     ⟨(some 2), none, .mov (.c (.bool false))⟩])
   (.seq
    (.reg [
      ⟨(some 3), none, .mov (.t 0)⟩,
      ⟨(some 4), none, .ibin .lss (.t 3) (.c (.int .i64 0))⟩,
      ⟨(some 5), none, .mov (.t 4)⟩,
      ⟨(some 6), (some (5, false)), .mov (.t 0)⟩,
      ⟨(some 7), (some (5, false)), .ibin .gtr (.t 6) (.c (.int .i64 1099511627776))⟩,
      ⟨(some 8), none, .pick (.t 5) (.c (.bool true)) (.t 7)⟩,
      ⟨(some 2), none, .mov (.t 8)⟩])
    .ret))⟩

-- slices.IndexFunc[[]int,int]
def F52 : AFun := ⟨19, 2, [.tmp 4],
  (.seq
   (.reg [
     ⟨(some 4), none, .mov (.c (.int .i64 0))⟩])
   (.seq
    (.seq
     (.reg [
       ⟨(some 6), none, .mov (.t 0)⟩,
       ⟨(some 7), none, .len .sl (.t 6)⟩,
       ⟨(some 8), none, .mov (.c (.int .i64 0))⟩])
     (.block 0
      (.loop
       (.seq
        (.reg [
          ⟨(some 9), none, .ibin .lss (.t 8) (.t 7)⟩])
        (.seq
         (.cond (.t 9)
          .skip
          (.exit 0))
         (.seq
          (.block 1
           (.seq
            (.reg [
              ⟨(some 10), none, .mov (.t 8)⟩,
              ⟨(some 5), none, .mov (.t 10)⟩])
            (.seq
             (.reg [
               ⟨(some 11), none, .mov (.t 1)⟩,
               ⟨(some 12), none, .mov (.t 0)⟩,
               ⟨(some 13), none, .mov (.t 5)⟩,
               ⟨(some 14), none, .iaddrSl 1 (.t 12) (.t 13)⟩,
               ⟨(some 15), none, .load false 1 (.t 14)⟩,
               ⟨(some 16), none, .call (.t 11) [(.t 15)]⟩])
             (.cond (.t 16)
              (.seq
               (.reg [
                 ⟨(some 17), none, .mov (.t 5)⟩,
                 ⟨(some 4), none, .mov (.t 17)⟩])
               .ret)
              .skip))))
          (.reg [
            ⟨(some 18), none, .ibin .add (.t 8) (.c (.int .i64 1))⟩,
            ⟨(some 8), none, .mov (.t 18)⟩])))))))
    (.seq
     (.reg [
       ⟨(some 4), none, .mov (.c (.int .i64 (-1)))⟩])
     .ret)))⟩

-- slices.ContainsFunc[[]int,int]
def F35 : AFun := ⟨9, 2, [.tmp 4],
  (.seq
   (.reg [
     ⟨(some 4), none, .mov (.c (.bool false))⟩])
   (.seq
    (.reg [
      ⟨(some 5), none, .mov (.t 0)⟩,
      ⟨(some 6), none, .mov (.t 1)⟩,
      ⟨(some 7), none, .call (.c (.fn 52 [] [])) [(.t 5), (.t 6)]⟩,
      ⟨(some 8), none, .ibin .geq (.t 7) (.c (.int .i64 0))⟩,
      ⟨(some 4), none, .mov (.t 8)⟩])
    .ret))⟩

-- quitrent/vec.Good
def F12 : AFun := ⟨6, 1, [.tmp 2],
  (.seq
   (.reg [
     ⟨(some 1), none, .box 4 (.t 0)⟩,
     ⟨(some 2), none, .mov (.c (.bool false))⟩])
   (.seq
    (.reg [
      ⟨(some 3), none, .sliceArr 4 1 (.t 1) none none⟩,
      ⟨(some 4), none, .call (.c (.fn 35 [] [])) [(.t 3), (.c (.fn 36 [] []))]⟩,
      ⟨(some 5), none, .un .not (.t 4)⟩,
      ⟨(some 2), none, .mov (.t 5)⟩])
    .ret))⟩

-- quitrent/vec.made
def F41 : AFun := ⟨40, 3, [.cell 6 true 4, .tmp 7],
  (.seq
   (.reg [
     ⟨(some 3), none, .box 4 (.t 0)⟩,
     ⟨(some 4), none, .box 4 (.t 1)⟩,
     ⟨(some 6), none, .box 4 (.c (.agg [(.int .i64 0), (.int .i64 0), (.int .i64 0), (.int .i64 0)]))⟩,
     ⟨(some 7), none, .mov (.c .nili)⟩])
   (.seq
    (.seq
     (.reg [
       ⟨(some 10), none, .load true 4 (.t 3)⟩,
       ⟨(some 11), none, .call (.c (.fn 12 [] [])) [(.t 10)]⟩,
       ⟨(some 12), none, .un .not (.t 11)⟩,
       ⟨(some 13), none, .mov (.t 12)⟩,
       ⟨(some 14), (some (13, false)), .load true 4 (.t 4)⟩,
       ⟨(some 15), (some (13, false)), .call (.c (.fn 12 [] [])) [(.t 14)]⟩,
       ⟨(some 16), (some (13, false)), .un .not (.t 15)⟩,
       ⟨(some 17), none, .pick (.t 13) (.c (.bool true)) (.t 16)⟩])
     (.cond (.t 17)
      (.seq
       (.draw [
         ⟨(some 18), none, .build [(.int .i64 0), (.int .i64 0), (.int .i64 0), (.int .i64 0)] []⟩,
         ⟨(some 19), none, .loadg 1⟩,
         ⟨none, none, .store 4 (.t 6) (.t 18)⟩,
         ⟨(some 7), none, .mov (.t 19)⟩]
         [[], [], [0], [1, 2, 0]])
       .ret)
      .skip))
    (.seq
     (.seq
      (.reg [
        ⟨(some 20), none, .load true 4 (.t 4)⟩,
        ⟨(some 21), none, .mov (.c (.int .i64 0))⟩])
      (.block 0
       (.loop
        (.seq
         (.reg [
           ⟨(some 22), none, .ibin .lss (.t 21) (.c (.int .i64 4))⟩])
         (.seq
          (.cond (.t 22)
           .skip
           (.exit 0))
          (.seq
           (.block 1
            (.seq
             (.reg [
               ⟨(some 23), none, .mov (.t 21)⟩,
               ⟨(some 24), none, .idxArr 4 false 1 (.t 20) (.t 21)⟩,
               ⟨(some 8), none, .mov (.t 23)⟩,
               ⟨(some 9), none, .mov (.t 24)⟩])
             (.reg [
               ⟨(some 25), none, .mov (.t 8)⟩,
               ⟨(some 26), none, .mov (.t 2)⟩,
               ⟨(some 27), none, .mov (.t 8)⟩,
               ⟨(some 28), none, .iaddrArr 4 1 (.t 3) (.t 27)⟩,
               ⟨(some 29), none, .load false 1 (.t 28)⟩,
               ⟨(some 30), none, .mov (.t 9)⟩,
               ⟨(some 31), none, .call (.t 26) [(.t 29), (.t 30)]⟩,
               ⟨(some 32), none, .iaddrArr 4 1 (.t 3) (.t 25)⟩,
               ⟨none, none, .store 1 (.t 32) (.t 31)⟩])))
           (.reg [
             ⟨(some 33), none, .ibin .add (.t 21) (.c (.int .i64 1))⟩,
             ⟨(some 21), none, .mov (.t 33)⟩])))))))
     (.seq
      (.seq
       (.reg [
         ⟨(some 34), none, .load true 4 (.t 3)⟩,
         ⟨(some 35), none, .call (.c (.fn 12 [] [])) [(.t 34)]⟩,
         ⟨(some 36), none, .un .not (.t 35)⟩])
       (.cond (.t 36)
        (.seq
         (.draw [
           ⟨(some 37), none, .build [(.int .i64 0), (.int .i64 0), (.int .i64 0), (.int .i64 0)] []⟩,
           ⟨(some 38), none, .loadg 4⟩,
           ⟨none, none, .store 4 (.t 6) (.t 37)⟩,
           ⟨(some 7), none, .mov (.t 38)⟩]
           [[], [], [0], [1, 2, 0]])
         .ret)
        .skip))
      (.seq
       (.reg [
         ⟨(some 39), none, .load true 4 (.t 3)⟩,
         ⟨none, none, .store 4 (.t 6) (.t 39)⟩,
         ⟨(some 7), none, .mov (.c .nili)⟩])
       .ret)))))⟩

-- quitrent/vec.Add$1
def F42 : AFun := ⟨8, 2, [.tmp 4],
  (.seq
   (.reg [
     ⟨(some 4), none, .mov (.c (.int .i64 0))⟩])
   (.seq
    (.reg [
      ⟨(some 5), none, .mov (.t 0)⟩,
      ⟨(some 6), none, .mov (.t 1)⟩,
      ⟨(some 7), none, .ibin .add (.t 5) (.t 6)⟩,
      ⟨(some 4), none, .mov (.t 7)⟩])
    .ret))⟩

-- quitrent/vec.Add
def F19 : AFun := ⟨11, 2, [.cell 4 true 4, .tmp 5],
  (.seq
   (.reg [
     ⟨(some 2), none, .box 4 (.t 0)⟩,
     ⟨(some 3), none, .box 4 (.t 1)⟩,
     ⟨(some 4), none, .box 4 (.c (.agg [(.int .i64 0), (.int .i64 0), (.int .i64 0), (.int .i64 0)]))⟩,
     ⟨(some 5), none, .mov (.c .nili)⟩])
   (.seq
    (.reg [
      ⟨(some 6), none, .load true 4 (.t 2)⟩,
      ⟨(some 7), none, .load true 4 (.t 3)⟩,
      ⟨(some 8), none, .call (.c (.fn 41 [] [])) [(.t 6), (.t 7), (.c (.fn 42 [] []))]⟩,
      ⟨(some 9), none, .extract (.t 8) 0⟩,
      ⟨(some 10), none, .extract (.t 8) 1⟩,
      ⟨none, none, .store 4 (.t 4) (.t 9)⟩,
      ⟨(some 5), none, .mov (.t 10)⟩])
    .ret))⟩

-- quitrent/vec.Sub$1
def F59 : AFun := ⟨8, 2, [.tmp 4],
  (.seq
   (.reg [
     ⟨(some 4), none, .mov (.c (.int .i64 0))⟩])
   (.seq
    (.reg [
      ⟨(some 5), none, .mov (.t 0)⟩,
      ⟨(some 6), none, .mov (.t 1)⟩,
      ⟨(some 7), none, .ibin .sub (.t 5) (.t 6)⟩,
      ⟨(some 4), none, .mov (.t 7)⟩])
    .ret))⟩

-- quitrent/vec.Sub
def F51 : AFun := ⟨11, 2, [.cell 4 true 4, .tmp 5],
  (.seq
   (.reg [
     ⟨(some 2), none, .box 4 (.t 0)⟩,
     ⟨(some 3), none, .box 4 (.t 1)⟩,
     ⟨(some 4), none, .box 4 (.c (.agg [(.int .i64 0), (.int .i64 0), (.int .i64 0), (.int .i64 0)]))⟩,
     ⟨(some 5), none, .mov (.c .nili)⟩])
   (.seq
    (.reg [
      ⟨(some 6), none, .load true 4 (.t 2)⟩,
      ⟨(some 7), none, .load true 4 (.t 3)⟩,
      ⟨(some 8), none, .call (.c (.fn 41 [] [])) [(.t 6), (.t 7), (.c (.fn 59 [] []))]⟩,
      ⟨(some 9), none, .extract (.t 8) 0⟩,
      ⟨(some 10), none, .extract (.t 8) 1⟩,
      ⟨none, none, .store 4 (.t 4) (.t 9)⟩,
      ⟨(some 5), none, .mov (.t 10)⟩])
    .ret))⟩

-- quitrent/vec.Less
def F58 : AFun := ⟨9, 2, [.tmp 4],
  (.seq
   (.reg [
     ⟨(some 2), none, .box 4 (.t 0)⟩,
     ⟨(some 3), none, .box 4 (.t 1)⟩,
     ⟨(some 4), none, .mov (.c (.bool false))⟩])
   (.seq
    (.draw [
      ⟨(some 5), none, .sliceArr 4 1 (.t 2) none none⟩,
      ⟨(some 6), none, .sliceArr 4 1 (.t 3) none none⟩,
      ⟨(some 7), none, .call (.c (.fn 60 [] [])) [(.t 5), (.t 6)]⟩,
      ⟨(some 8), none, .ibin .lss (.t 7) (.c (.int .i64 0))⟩,
      ⟨(some 4), none, .mov (.t 8)⟩]
      [[], [], [0, 1], [2, 0, 1], [3, 2, 0, 1]])
    .ret))⟩

-- slices.Compare[[]int,int]
def F60 : AFun := ⟨36, 2, [.tmp 4],
  (.seq
   (.reg [
     ⟨(some 4), none, .mov (.c (.int .i64 0))⟩])
   (.seq
    (.seq
     (.reg [
       ⟨(some 9), none, .mov (.t 0)⟩,
       ⟨(some 10), none, .len .sl (.t 9)⟩,
       ⟨(some 11), none, .mov (.c (.int .i64 0))⟩])
     (.block 0
      (.loop
       (.seq
        (.reg [
          ⟨(some 12), none, .ibin .lss (.t 11) (.t 10)⟩])
        (.seq
         (.cond (.t 12)
          .skip
          (.exit 0))
         (.seq
          (.block 1
           (.seq
            (.reg [
              ⟨(some 13), none, .mov (.t 11)⟩,
              ⟨(some 14), none, .iaddrSl 1 (.t 9) (.t 11)⟩,
              ⟨(some 15), none, .load false 1 (.t 14)⟩,
              ⟨(some 5), none, .mov (.t 13)⟩,
              ⟨(some 6), none, .mov (.t 15)⟩])
            (.seq
             (.seq
              (.reg [
                ⟨(some 16), none, .mov (.t 5)⟩,
                ⟨(some 17), none, .mov (.t 1)⟩,
                ⟨(some 18), none, .len .sl (.t 17)⟩,
                ⟨(some 19), none, .ibin .geq (.t 16) (.t 18)⟩])
              (.cond (.t 19)
               (.seq
                (.reg [
                  ⟨(some 4), none, .mov (.c (.int .i64 1))⟩])
                .ret)
               .skip))
             (.seq
              (.reg [
                ⟨(some 20), none, .mov (.t 1)⟩,
                ⟨(some 21), none, .mov (.t 5)⟩,
                ⟨(some 22), none, .iaddrSl 1 (.t 20) (.t 21)⟩,
                ⟨(some 23), none, .load false 1 (.t 22)⟩,
                ⟨(some 7), none, .mov (.t 23)⟩])
              (.seq
               (.reg [
                 ⟨(some 24), none, .mov (.t 6)⟩,
                 ⟨(some 25), none, .mov (.t 7)⟩,
                 ⟨(some 26), none, .call (.c (.fn 61 [] [])) [(.t 24), (.t 25)]⟩,
                 ⟨(some 8), none, .mov (.t 26)⟩])
               (.seq
                (.reg [
                  ⟨(some 27), none, .mov (.t 8)⟩,
                  ⟨(some 28), none, .ibin .neq (.t 27) (.c (.int .i64 0))⟩])
                (.cond (.t 28)
                 (.seq
                  (.reg [
                    ⟨(some 29), none, .mov (.t 8)⟩,
                    ⟨(some 4), none, .mov (.t 29)⟩])
                  .ret)
                 .skip)))))))
          (.reg [
            ⟨(some 30), none, .ibin .add (.t 11) (.c (.int .i64 1))⟩,
            ⟨(some 11), none, .mov (.t 30)⟩])))))))
    (.seq
     (.seq
      (.reg [
        ⟨(some 31), none, .mov (.t 0)⟩,
        ⟨(some 32), none, .len .sl (.t 31)⟩,
        ⟨(some 33), none, .mov (.t 1)⟩,
        ⟨(some 34), none, .len .sl (.t 33)⟩,
        ⟨(some 35), none, .ibin .lss (.t 32) (.t 34)⟩])
      (.cond (.t 35)
       (.seq
        (.reg [
          ⟨(some 4), none, .mov (.c (.int .i64 (-1)))⟩])
        .ret)
       .skip))
     (.seq
      (.reg [
        ⟨(some 4), none, .mov (.c (.int .i64 0))⟩])
      .ret))))⟩

-- cmp.Compare[int]
def F61 : AFun := ⟨20, 2, [.tmp 4],
  (.seq
   (.reg [
     ⟨(some 4), none, .mov (.c (.int .i64 0))⟩])
   (.seq
    (.reg [
      ⟨(some 7), none, .mov (.t 0)⟩,
      ⟨(some 8), none, .call (.c (.fn 62 [] [])) [(.t 7)]⟩,
      ⟨(some 5), none, .mov (.t 8)⟩])
    (.seq
     (.reg [
       ⟨(some 9), none, .mov (.t 1)⟩,
       ⟨(some 10), none, .call (.c (.fn 62 [] [])) [(.t 9)]⟩,
       ⟨(some 6), none, .mov (.t 10)⟩])
     (.seq
      (.seq
       (.reg [
         ⟨(some 11), none, .mov (.t 5)⟩])
       (.cond (.t 11)
        (.seq
         (.seq
          (.reg [
            ⟨(some 12), none, .mov (.t 6)⟩])
          (.cond (.t 12)
           (.seq
            (.reg [
              ⟨(some 4), none, .mov (.c (.int .i64 0))⟩])
            .ret)
           .skip))
         (.seq
          (.reg [
            ⟨(some 4), none, .mov (.c (.int .i64 (-1)))⟩])
          .ret))
        .skip))
      (.seq
       (.seq
        (.reg [
          ⟨(some 13), none, .mov (.t 6)⟩])
        (.cond (.t 13)
         (.seq
          (.reg [
            ⟨(some 4), none, .mov (.c (.int .i64 1))⟩])
          .ret)
         .skip))
       (.seq
        (.seq
         (.reg [
           ⟨(some 14), none, .mov (.t 0)⟩,
           ⟨(some 15), none, .mov (.t 1)⟩,
           ⟨(some 16), none, .ibin .lss (.t 14) (.t 15)⟩])
         (.cond (.t 16)
          (.seq
           (.reg [
             ⟨(some 4), none, .mov (.c (.int .i64 (-1)))⟩])
           .ret)
          .skip))
        (.seq
         (.seq
          (.reg [
            ⟨(some 17), none, .mov (.t 0)⟩,
            ⟨(some 18), none, .mov (.t 1)⟩,
            ⟨(some 19), none, .ibin .gtr (.t 17) (.t 18)⟩])
          (.cond (.t 19)
           (.seq
            (.reg [
              ⟨(some 4), none, .mov (.c (.int .i64 1))⟩])
            .ret)
           .skip))
         (.seq
          (.reg [
            ⟨(some 4), none, .mov (.c (.int .i64 0))⟩])
          .ret))))))))⟩

-- cmp.isNaN[int]
def F62 : AFun := ⟨6, 1, [.tmp 2],
  (.seq
   (.reg [
     ⟨(some 2), none, .mov (.c (.bool false))⟩])
   (.seq
    (.reg [
      ⟨(some 3), none, .mov (.t 0)⟩,
      ⟨(some 4), none, .mov (.t 0)⟩,
      ⟨(some 5), none, .ibin .neq (.t 3) (.t 4)⟩,
      ⟨(some 2), none, .mov (.t 5)⟩])
    .ret))⟩

-- quitrent/vec.Fits
def F13 : AFun := ⟨18, 2, [.tmp 4],
  (.seq
   (.reg [
     ⟨(some 2), none, .box 4 (.t 0)⟩,
     ⟨(some 3), none, .box 4 (.t 1)⟩,
     ⟨(some 4), none, .mov (.c (.bool false))⟩])
   (.seq
    (.seq
     (.reg [
       ⟨(some 7), none, .load true 4 (.t 2)⟩,
       ⟨(some 8), none, .mov (.c (.int .i64 0))⟩])
     (.block 0
      (.loop
       (.seq
        (.reg [
          ⟨(some 9), none, .ibin .lss (.t 8) (.c (.int .i64 4))⟩])
        (.seq
         (.cond (.t 9)
          .skip
          (.exit 0))
         (.seq
          (.block 1
           (.seq
            (.reg [
              ⟨(some 10), none, .mov (.t 8)⟩,
              ⟨(some 11), none, .idxArr 4 false 1 (.t 7) (.t 8)⟩,
              ⟨(some 5), none, .mov (.t 10)⟩,
              ⟨(some 6), none, .mov (.t 11)⟩])
            (.seq
             (.reg [
               ⟨(some 12), none, .mov (.t 6)⟩,
               ⟨(some 13), none, .mov (.t 5)⟩,
               ⟨(some 14), none, .iaddrArr 4 1 (.t 3) (.t 13)⟩,
               ⟨(some 15), none, .load false 1 (.t 14)⟩,
               ⟨(some 16), none, .ibin .gtr (.t 12) (.t 15)⟩])
             (.cond (.t 16)
              (.seq
               (.reg [
                 ⟨(some 4), none, .mov (.c (.bool false))⟩])
               .ret)
              .skip))))
          (.reg [
            ⟨(some 17), none, .ibin .add (.t 8) (.c (.int .i64 1))⟩,
            ⟨(some 8), none, .mov (.t 17)⟩])))))))
    (.seq
     (.reg [
       ⟨(some 4), none, .mov (.c (.bool true))⟩])
     .ret)))⟩

-- quitrent/vec.None
def F31 : AFun := ⟨6, 1, [.tmp 2],
  (.seq
   (.reg [
     ⟨(some 1), none, .box 4 (.t 0)⟩,
     ⟨(some 2), none, .mov (.c (.bool false))⟩])
   (.seq
    (.reg [
      ⟨(some 3), none, .load true 4 (.t 1)⟩,
      ⟨(some 4), none, .build [(.int .i64 0), (.int .i64 0), (.int .i64 0), (.int .i64 0)] []⟩,
      ⟨(some 5), none, .eq false (.flat [.int, .int, .int, .int]) false (.t 3) (.t 4)⟩,
      ⟨(some 2), none, .mov (.t 5)⟩])
    .ret))⟩

-- quitrent/quitrentref01.Good
def F30 : AFun := ⟨18, 1, [.tmp 2],
  (.seq
   (.reg [
     ⟨(some 1), none, .box 4 (.t 0)⟩,
     ⟨(some 2), none, .mov (.c (.bool false))⟩])
   (.seq
    (.seq
     (.reg [
       ⟨(some 3), none, .mov (.c (.int .i64 0))⟩])
     (.block 0
      (.loop
       (.seq
        (.seq
         (.reg [
           ⟨(some 4), none, .mov (.t 3)⟩,
           ⟨(some 5), none, .ibin .lss (.t 4) (.c (.int .i64 4))⟩])
         (.cond (.t 5)
          .skip
          (.exit 0)))
        (.seq
         (.block 1
          (.seq
           (.reg [
             ⟨(some 8), none, .mov (.t 3)⟩,
             ⟨(some 9), none, .iaddrArr 4 1 (.t 1) (.t 8)⟩,
             ⟨(some 10), none, .load false 1 (.t 9)⟩,
             ⟨(some 11), none, .ibin .lss (.t 10) (.c (.int .i64 0))⟩,
             ⟨(some 12), none, .mov (.t 11)⟩,
             ⟨(some 13), (some (12, false)), .mov (.t 3)⟩,
             ⟨(some 14), (some (12, false)), .iaddrArr 4 1 (.t 1) (.t 13)⟩,
             ⟨(some 15), (some (12, false)), .load false 1 (.t 14)⟩,
             ⟨(some 16), (some (12, false)), .ibin .gtr (.t 15) (.c (.int .i64 1099511627776))⟩,
             ⟨(some 17), none, .pick (.t 12) (.c (.bool true)) (.t 16)⟩])
           (.cond (.t 17)
            (.seq
             (.reg [
               ⟨(some 2), none, .mov (.c (.bool false))⟩])
             .ret)
            .skip)))
         (.reg [
           ⟨(some 6), none, .mov (.t 3)⟩,
           ⟨(some 7), none, .ibin .add (.t 6) (.c (.int .i64 1))⟩,
           ⟨(some 3), none, .mov (.t 7)⟩]))))))
    (.seq
     (.reg [
       ⟨(some 2), none, .mov (.c (.bool true))⟩])
     .ret)))⟩

-- quitrent/quitrentref01.Add
def F43 : AFun := ⟨36, 2, [.cell 4 true 4, .tmp 5],
  (.seq
   (.reg [
     ⟨(some 2), none, .box 4 (.t 0)⟩,
     ⟨(some 3), none, .box 4 (.t 1)⟩,
     ⟨(some 4), none, .box 4 (.c (.agg [(.int .i64 0), (.int .i64 0), (.int .i64 0), (.int .i64 0)]))⟩,
     ⟨(some 5), none, .mov (.c (.int .i64 0))⟩])
   (.seq
    (.seq
     (.reg [
       ⟨(some 8), none, .load true 4 (.t 2)⟩,
       ⟨(some 9), none, .call (.c (.fn 30 [] [])) [(.t 8)]⟩,
       ⟨(some 10), none, .un .not (.t 9)⟩,
       ⟨(some 11), none, .mov (.t 10)⟩,
       ⟨(some 12), (some (11, false)), .load true 4 (.t 3)⟩,
       ⟨(some 13), (some (11, false)), .call (.c (.fn 30 [] [])) [(.t 12)]⟩,
       ⟨(some 14), (some (11, false)), .un .not (.t 13)⟩,
       ⟨(some 15), none, .pick (.t 11) (.c (.bool true)) (.t 14)⟩])
     (.cond (.t 15)
      (.seq
       (.reg [
         ⟨(some 16), none, .build [(.int .i64 0), (.int .i64 0), (.int .i64 0), (.int .i64 0)] []⟩,
         ⟨none, none, .store 4 (.t 4) (.t 16)⟩,
         ⟨(some 5), none, .mov (.c (.int .i64 1))⟩])
       .ret)
      .skip))
    (.seq
     (.reg [
       ⟨(some 17), none, .build [(.int .i64 0), (.int .i64 0), (.int .i64 0), (.int .i64 0)] []⟩,
       ⟨(some 6), none, .box 4 (.c (.agg [(.int .i64 0), (.int .i64 0), (.int .i64 0), (.int .i64 0)]))⟩,
       ⟨none, none, .store 4 (.t 6) (.t 17)⟩])
     (.seq
      (.seq
       (.reg [
         ⟨(some 7), none, .mov (.c (.int .i64 0))⟩])
       (.block 0
        (.loop
         (.seq
          (.seq
           (.reg [
             ⟨(some 18), none, .mov (.t 7)⟩,
             ⟨(some 19), none, .ibin .lss (.t 18) (.c (.int .i64 4))⟩])
           (.cond (.t 19)
            .skip
            (.exit 0)))
          (.seq
           (.block 1
            (.draw [
              ⟨(some 22), none, .mov (.t 7)⟩,
              ⟨(some 23), none, .mov (.t 7)⟩,
              ⟨(some 24), none, .iaddrArr 4 1 (.t 2) (.t 23)⟩,
              ⟨(some 25), none, .load false 1 (.t 24)⟩,
              ⟨(some 26), none, .mov (.t 7)⟩,
              ⟨(some 27), none, .iaddrArr 4 1 (.t 3) (.t 26)⟩,
              ⟨(some 28), none, .load false 1 (.t 27)⟩,
              ⟨(some 29), none, .ibin .add (.t 25) (.t 28)⟩,
              ⟨(some 30), none, .iaddrArr 4 1 (.t 6) (.t 22)⟩,
              ⟨none, none, .store 1 (.t 30) (.t 29)⟩]
              [[], [], [1], [2, 1], [], [4], [5, 4], [3, 6, 2, 1, 5, 4], [0, 1, 2, 3, 4, 5, 6, 7], [8, 7, 0, 1, 2, 3, 4, 5, 6]]))
           (.reg [
             ⟨(some 20), none, .mov (.t 7)⟩,
             ⟨(some 21), none, .ibin .add (.t 20) (.c (.int .i64 1))⟩,
             ⟨(some 7), none, .mov (.t 21)⟩]))))))
      (.seq
       (.seq
        (.reg [
          ⟨(some 31), none, .load true 4 (.t 6)⟩,
          ⟨(some 32), none, .call (.c (.fn 30 [] [])) [(.t 31)]⟩,
          ⟨(some 33), none, .un .not (.t 32)⟩])
        (.cond (.t 33)
         (.seq
          (.reg [
            ⟨(some 34), none, .build [(.int .i64 0), (.int .i64 0), (.int .i64 0), (.int .i64 0)] []⟩,
            ⟨none, none, .store 4 (.t 4) (.t 34)⟩,
            ⟨(some 5), none, .mov (.c (.int .i64 4))⟩])
          .ret)
         .skip))
       (.seq
        (.reg [
          ⟨(some 35), none, .load true 4 (.t 6)⟩,
          ⟨none, none, .store 4 (.t 4) (.t 35)⟩,
          ⟨(some 5), none, .mov (.c (.int .i64 0))⟩])
        .ret))))))⟩

-- quitrent/quitrentref01.Sub
def F53 : AFun := ⟨36, 2, [.cell 4 true 4, .tmp 5],
  (.seq
   (.reg [
     ⟨(some 2), none, .box 4 (.t 0)⟩,
     ⟨(some 3), none, .box 4 (.t 1)⟩,
     ⟨(some 4), none, .box 4 (.c (.agg [(.int .i64 0), (.int .i64 0), (.int .i64 0), (.int .i64 0)]))⟩,
     ⟨(some 5), none, .mov (.c (.int .i64 0))⟩])
   (.seq
    (.seq
     (.reg [
       ⟨(some 8), none, .load true 4 (.t 2)⟩,
       ⟨(some 9), none, .call (.c (.fn 30 [] [])) [(.t 8)]⟩,
       ⟨(some 10), none, .un .not (.t 9)⟩,
       ⟨(some 11), none, .mov (.t 10)⟩,
       ⟨(some 12), (some (11, false)), .load true 4 (.t 3)⟩,
       ⟨(some 13), (some (11, false)), .call (.c (.fn 30 [] [])) [(.t 12)]⟩,
       ⟨(some 14), (some (11, false)), .un .not (.t 13)⟩,
       ⟨(some 15), none, .pick (.t 11) (.c (.bool true)) (.t 14)⟩])
     (.cond (.t 15)
      (.seq
       (.reg [
         ⟨(some 16), none, .build [(.int .i64 0), (.int .i64 0), (.int .i64 0), (.int .i64 0)] []⟩,
         ⟨none, none, .store 4 (.t 4) (.t 16)⟩,
         ⟨(some 5), none, .mov (.c (.int .i64 1))⟩])
       .ret)
      .skip))
    (.seq
     (.reg [
       ⟨(some 17), none, .build [(.int .i64 0), (.int .i64 0), (.int .i64 0), (.int .i64 0)] []⟩,
       ⟨(some 6), none, .box 4 (.c (.agg [(.int .i64 0), (.int .i64 0), (.int .i64 0), (.int .i64 0)]))⟩,
       ⟨none, none, .store 4 (.t 6) (.t 17)⟩])
     (.seq
      (.seq
       (.reg [
         ⟨(some 7), none, .mov (.c (.int .i64 0))⟩])
       (.block 0
        (.loop
         (.seq
          (.seq
           (.reg [
             ⟨(some 18), none, .mov (.t 7)⟩,
             ⟨(some 19), none, .ibin .lss (.t 18) (.c (.int .i64 4))⟩])
           (.cond (.t 19)
            .skip
            (.exit 0)))
          (.seq
           (.block 1
            (.draw [
              ⟨(some 22), none, .mov (.t 7)⟩,
              ⟨(some 23), none, .mov (.t 7)⟩,
              ⟨(some 24), none, .iaddrArr 4 1 (.t 2) (.t 23)⟩,
              ⟨(some 25), none, .load false 1 (.t 24)⟩,
              ⟨(some 26), none, .mov (.t 7)⟩,
              ⟨(some 27), none, .iaddrArr 4 1 (.t 3) (.t 26)⟩,
              ⟨(some 28), none, .load false 1 (.t 27)⟩,
              ⟨(some 29), none, .ibin .sub (.t 25) (.t 28)⟩,
              ⟨(some 30), none, .iaddrArr 4 1 (.t 6) (.t 22)⟩,
              ⟨none, none, .store 1 (.t 30) (.t 29)⟩]
              [[], [], [1], [2, 1], [], [4], [5, 4], [3, 6, 2, 1, 5, 4], [0, 1, 2, 3, 4, 5, 6, 7], [8, 7, 0, 1, 2, 3, 4, 5, 6]]))
           (.reg [
             ⟨(some 20), none, .mov (.t 7)⟩,
             ⟨(some 21), none, .ibin .add (.t 20) (.c (.int .i64 1))⟩,
             ⟨(some 7), none, .mov (.t 21)⟩]))))))
      (.seq
       (.seq
        (.reg [
          ⟨(some 31), none, .load true 4 (.t 6)⟩,
          ⟨(some 32), none, .call (.c (.fn 30 [] [])) [(.t 31)]⟩,
          ⟨(some 33), none, .un .not (.t 32)⟩])
        (.cond (.t 33)
         (.seq
          (.reg [
            ⟨(some 34), none, .build [(.int .i64 0), (.int .i64 0), (.int .i64 0), (.int .i64 0)] []⟩,
            ⟨none, none, .store 4 (.t 4) (.t 34)⟩,
            ⟨(some 5), none, .mov (.c (.int .i64 4))⟩])
          .ret)
         .skip))
       (.seq
        (.reg [
          ⟨(some 35), none, .load true 4 (.t 6)⟩,
          ⟨none, none, .store 4 (.t 4) (.t 35)⟩,
          ⟨(some 5), none, .mov (.c (.int .i64 0))⟩])
        .ret))))))⟩

-- quitrent/quitrentref01.Less
def F38 : AFun := ⟨24, 2, [.tmp 4],
  (.seq
   (.reg [
     ⟨(some 2), none, .box 4 (.t 0)⟩,
     ⟨(some 3), none, .box 4 (.t 1)⟩,
     ⟨(some 4), none, .mov (.c (.bool false))⟩])
   (.seq
    (.seq
     (.reg [
       ⟨(some 5), none, .mov (.c (.int .i64 0))⟩])
     (.block 0
      (.loop
       (.seq
        (.seq
         (.reg [
           ⟨(some 6), none, .mov (.t 5)⟩,
           ⟨(some 7), none, .ibin .lss (.t 6) (.c (.int .i64 4))⟩])
         (.cond (.t 7)
          .skip
          (.exit 0)))
        (.seq
         (.block 1
          (.seq
           (.draw [
             ⟨(some 10), none, .mov (.t 5)⟩,
             ⟨(some 11), none, .iaddrArr 4 1 (.t 2) (.t 10)⟩,
             ⟨(some 12), none, .load false 1 (.t 11)⟩,
             ⟨(some 13), none, .mov (.t 5)⟩,
             ⟨(some 14), none, .iaddrArr 4 1 (.t 3) (.t 13)⟩,
             ⟨(some 15), none, .load false 1 (.t 14)⟩,
             ⟨(some 16), none, .ibin .neq (.t 12) (.t 15)⟩]
             [[], [0], [1, 0], [], [3], [4, 3], [2, 5, 1, 0, 4, 3]])
           (.cond (.t 16)
            (.seq
             (.draw [
               ⟨(some 17), none, .mov (.t 5)⟩,
               ⟨(some 18), none, .iaddrArr 4 1 (.t 2) (.t 17)⟩,
               ⟨(some 19), none, .load false 1 (.t 18)⟩,
               ⟨(some 20), none, .mov (.t 5)⟩,
               ⟨(some 21), none, .iaddrArr 4 1 (.t 3) (.t 20)⟩,
               ⟨(some 22), none, .load false 1 (.t 21)⟩,
               ⟨(some 23), none, .ibin .lss (.t 19) (.t 22)⟩,
               ⟨(some 4), none, .mov (.t 23)⟩]
               [[], [0], [1, 0], [], [3], [4, 3], [2, 5, 1, 0, 4, 3], [6, 0, 1, 2, 3, 4, 5]])
             .ret)
            .skip)))
         (.reg [
           ⟨(some 8), none, .mov (.t 5)⟩,
           ⟨(some 9), none, .ibin .add (.t 8) (.c (.int .i64 1))⟩,
           ⟨(some 5), none, .mov (.t 9)⟩]))))))
    (.seq
     (.reg [
       ⟨(some 4), none, .mov (.c (.bool false))⟩])
     .ret)))⟩

theorem c36 : cFun Tryd.prog [1, 4] Tryd.f36 = some F36 := by kernel_rfl
theorem c52 : cFun Tryd.prog [1, 4] Tryd.f52 = some F52 := by kernel_rfl
theorem c35 : cFun Tryd.prog [1, 4] Tryd.f35 = some F35 := by kernel_rfl
theorem c12 : cFun Tryd.prog [1, 4] Tryd.f12 = some F12 := by kernel_rfl
theorem c41 : cFun Tryd.prog [1, 4] Tryd.f41 = some F41 := by kernel_rfl
theorem c42 : cFun Tryd.prog [1, 4] Tryd.f42 = some F42 := by kernel_rfl
theorem c19 : cFun Tryd.prog [1, 4] Tryd.f19 = some F19 := by kernel_rfl
theorem c59 : cFun Tryd.prog [1, 4] Tryd.f59 = some F59 := by kernel_rfl
theorem c51 : cFun Tryd.prog [1, 4] Tryd.f51 = some F51 := by kernel_rfl
theorem c58 : cFun Tryd.prog [1, 4] Tryd.f58 = some F58 := by kernel_rfl
theorem c60 : cFun Tryd.prog [1, 4] Tryd.f60 = some F60 := by kernel_rfl
theorem c61 : cFun Tryd.prog [1, 4] Tryd.f61 = some F61 := by kernel_rfl
theorem c62 : cFun Tryd.prog [1, 4] Tryd.f62 = some F62 := by kernel_rfl
theorem c13 : cFun Tryd.prog [1, 4] Tryd.f13 = some F13 := by kernel_rfl
theorem c31 : cFun Tryd.prog [1, 4] Tryd.f31 = some F31 := by kernel_rfl
theorem c30 : cFun Tryd.prog [1, 4] Tryd.f30 = some F30 := by kernel_rfl
theorem c43 : cFun Tryd.prog [1, 4] Tryd.f43 = some F43 := by kernel_rfl
theorem c53 : cFun Tryd.prog [1, 4] Tryd.f53 = some F53 := by kernel_rfl
theorem c38 : cFun Tryd.prog [1, 4] Tryd.f38 = some F38 := by kernel_rfl
end Go.Proofs.YtdjcpmdjodhfeaaDoor.A16
