import Derived.Test.YtamkjgiemconbaaDoorFVGD08
open Go AH
namespace Go.Proofs.YtamkjgiemconbaaDoor.D08
-- quitrent/kin.New
def F28 : AFun := ⟨5, 0, [.tmp 0],
  (.seq
   (.reg [
     ⟨(some 0), none, .mov (.c .nilp)⟩])
   (.seq
    (.reg [
      ⟨(some 1), none, .mkmap⟩,
      ⟨none, none, .mapupd (.sc .int) (.t 1) (.c (.int .i64 1)) (.c (.int .i64 0))⟩,
      ⟨(some 2), none, .mov (.t 1)⟩,
      ⟨(some 3), none, .build [.nilm] [(0, 1, (.t 2))]⟩,
      ⟨(some 4), none, .box 1 (.t 3)⟩,
      ⟨(some 0), none, .mov (.t 4)⟩])
    .ret))⟩

-- (*quitrent/kin.Tree).Is
def F37 : AFun := ⟨19, 2, [.tmp 4],
  (.seq
   (.reg [
     ⟨(some 4), none, .mov (.c (.bool false))⟩])
   (.seq
    (.seq
     (.reg [
       ⟨(some 7), none, .mov (.t 0)⟩,
       ⟨(some 8), none, .eq false .ptr true (.t 7) (.c .nilp)⟩])
     (.cond (.t 8)
      (.seq
       (.reg [
         ⟨(some 4), none, .mov (.c (.bool false))⟩])
       .ret)
      .skip))
    (.seq
     (.reg [
       ⟨(some 10), none, .mov (.t 0)⟩,
       ⟨(some 11), none, .nilchk (.t 10)⟩,
       ⟨(some 12), none, .faddr 0 (.t 11)⟩,
       ⟨(some 13), none, .load false 1 (.t 12)⟩,
       ⟨(some 14), none, .mov (.t 1)⟩,
       ⟨(some 15), none, .lookup (.sc .int) (.int .i64 0) (.t 13) (.t 14) true⟩,
       ⟨(some 9), none, .mov (.t 15)⟩,
       ⟨(some 16), none, .extract (.t 9) 0⟩,
       ⟨(some 17), none, .extract (.t 9) 1⟩,
       ⟨(some 5), none, .mov (.t 16)⟩,
       ⟨(some 6), none, .mov (.t 17)⟩])
     (.seq
      (.reg [
        ⟨(some 18), none, .mov (.t 6)⟩,
        ⟨(some 4), none, .mov (.t 18)⟩])
      .ret))))⟩

-- (*quitrent/kin.Tree).Add
def F33 : AFun := ⟨44, 3, [.tmp 6],
  (.seq
   (.reg [
     ⟨(some 6), none, .mov (.c .nili)⟩])
   (.seq
    (.block 0
     (.seq
      (.reg [
        ⟨(some 8), none, .mov (.t 0)⟩,
        ⟨(some 9), none, .eq false .ptr true (.t 8) (.c .nilp)⟩,
        ⟨(some 7), none, .mov (.t 9)⟩])
      (.cond (.t 7)
       (.seq
        (.reg [
          ⟨(some 10), none, .loadg 0⟩,
          ⟨(some 6), none, .mov (.t 10)⟩])
        .ret)
       (.seq
        (.reg [
          ⟨(some 12), none, .mov (.t 1)⟩,
          ⟨(some 13), none, .ibin .lss (.t 12) (.c (.int .i64 1))⟩,
          ⟨(some 14), none, .mov (.t 13)⟩,
          ⟨(some 15), (some (14, false)), .mov (.t 1)⟩,
          ⟨(some 16), (some (14, false)), .ibin .gtr (.t 15) (.c (.int .i64 999))⟩,
          ⟨(some 17), none, .pick (.t 14) (.c (.bool true)) (.t 16)⟩,
          ⟨(some 11), none, .mov (.t 17)⟩])
        (.cond (.t 11)
         (.seq
          (.reg [
            ⟨(some 18), none, .loadg 1⟩,
            ⟨(some 6), none, .mov (.t 18)⟩])
          .ret)
         (.seq
          (.reg [
            ⟨(some 20), none, .mov (.t 0)⟩,
            ⟨(some 21), none, .mov (.t 1)⟩,
            ⟨(some 22), none, .call (.c (.fn 37 [] [])) [(.t 20), (.t 21)]⟩,
            ⟨(some 19), none, .mov (.t 22)⟩])
          (.cond (.t 19)
           (.seq
            (.reg [
              ⟨(some 23), none, .loadg 5⟩,
              ⟨(some 6), none, .mov (.t 23)⟩])
            .ret)
           (.seq
            (.reg [
              ⟨(some 25), none, .mov (.t 0)⟩,
              ⟨(some 26), none, .mov (.t 2)⟩,
              ⟨(some 27), none, .call (.c (.fn 37 [] [])) [(.t 25), (.t 26)]⟩,
              ⟨(some 28), none, .un .not (.t 27)⟩,
              ⟨(some 24), none, .mov (.t 28)⟩])
            (.cond (.t 24)
             (.seq
              (.reg [
                ⟨(some 29), none, .loadg 4⟩,
                ⟨(some 6), none, .mov (.t 29)⟩])
              .ret)
             (.seq
              (.reg [
                ⟨(some 31), none, .mov (.t 0)⟩,
                ⟨(some 32), none, .nilchk (.t 31)⟩,
                ⟨(some 33), none, .faddr 0 (.t 32)⟩,
                ⟨(some 34), none, .load false 1 (.t 33)⟩,
                ⟨(some 35), none, .len .map (.t 34)⟩,
                ⟨(some 36), none, .ibin .geq (.t 35) (.c (.int .i64 16))⟩,
                ⟨(some 30), none, .mov (.t 36)⟩])
              (.cond (.t 30)
               (.seq
                (.reg [
                  ⟨(some 37), none, .loadg 6⟩,
                  ⟨(some 6), none, .mov (.t 37)⟩])
                .ret)
               .skip)))))))))))
    (.seq
     (.reg [
       ⟨(some 38), none, .mov (.t 0)⟩,
       ⟨(some 39), none, .nilchk (.t 38)⟩,
       ⟨(some 40), none, .faddr 0 (.t 39)⟩,
       ⟨(some 41), none, .load false 1 (.t 40)⟩,
       ⟨(some 42), none, .mov (.t 1)⟩,
       ⟨(some 43), none, .mov (.t 2)⟩,
       ⟨none, none, .mapupd (.sc .int) (.t 41) (.t 42) (.t 43)⟩])
     (.seq
      (.reg [
        ⟨(some 6), none, .mov (.c .nili)⟩])
      .ret))))⟩

-- (*quitrent/kin.Tree).Drop
def F31 : AFun := ⟨31, 2, [.tmp 4],
  (.seq
   (.reg [
     ⟨(some 4), none, .mov (.c .nili)⟩])
   (.seq
    (.block 0
     (.seq
      (.reg [
        ⟨(some 6), none, .mov (.t 0)⟩,
        ⟨(some 7), none, .eq false .ptr true (.t 6) (.c .nilp)⟩,
        ⟨(some 5), none, .mov (.t 7)⟩])
      (.cond (.t 5)
       (.seq
        (.reg [
          ⟨(some 8), none, .loadg 0⟩,
          ⟨(some 4), none, .mov (.t 8)⟩])
        .ret)
       (.seq
        (.reg [
          ⟨(some 10), none, .mov (.t 0)⟩,
          ⟨(some 11), none, .mov (.t 1)⟩,
          ⟨(some 12), none, .call (.c (.fn 37 [] [])) [(.t 10), (.t 11)]⟩,
          ⟨(some 13), none, .un .not (.t 12)⟩,
          ⟨(some 9), none, .mov (.t 13)⟩])
        (.cond (.t 9)
         (.seq
          (.reg [
            ⟨(some 14), none, .loadg 4⟩,
            ⟨(some 4), none, .mov (.t 14)⟩])
          .ret)
         (.seq
          (.reg [
            ⟨(some 16), none, .mov (.t 1)⟩,
            ⟨(some 17), none, .ibin .eql (.t 16) (.c (.int .i64 1))⟩,
            ⟨(some 18), none, .mov (.t 17)⟩,
            ⟨(some 19), (some (18, false)), .mov (.t 0)⟩,
            ⟨(some 20), (some (18, false)), .mov (.t 1)⟩,
            ⟨(some 21), (some (18, false)), .call (.c (.fn 43 [] [])) [(.t 19), (.t 20)]⟩,
            ⟨(some 22), (some (18, false)), .len .sl (.t 21)⟩,
            ⟨(some 23), (some (18, false)), .ibin .gtr (.t 22) (.c (.int .i64 0))⟩,
            ⟨(some 24), none, .pick (.t 18) (.c (.bool true)) (.t 23)⟩,
            ⟨(some 15), none, .mov (.t 24)⟩])
          (.cond (.t 15)
           (.seq
            (.reg [
              ⟨(some 25), none, .loadg 12⟩,
              ⟨(some 4), none, .mov (.t 25)⟩])
            .ret)
           .skip)))))))
    (.seq
     (.reg [
       ⟨(some 26), none, .mov (.t 0)⟩,
       ⟨(some 27), none, .nilchk (.t 26)⟩,
       ⟨(some 28), none, .faddr 0 (.t 27)⟩,
       ⟨(some 29), none, .load false 1 (.t 28)⟩,
       ⟨(some 30), none, .mov (.t 1)⟩,
       ⟨none, none, .mdel (.sc .int) (.t 29) (.t 30)⟩])
     (.seq
      (.reg [
        ⟨(some 4), none, .mov (.c .nili)⟩])
      .ret))))⟩

-- (*quitrent/kin.Tree).Parent
def F38 : AFun := ⟨13, 2, [.tmp 4],
  (.seq
   (.reg [
     ⟨(some 4), none, .mov (.c (.int .i64 0))⟩])
   (.seq
    (.seq
     (.reg [
       ⟨(some 5), none, .mov (.t 0)⟩,
       ⟨(some 6), none, .eq false .ptr true (.t 5) (.c .nilp)⟩])
     (.cond (.t 6)
      (.seq
       (.reg [
         ⟨(some 4), none, .mov (.c (.int .i64 0))⟩])
       .ret)
      .skip))
    (.seq
     (.reg [
       ⟨(some 7), none, .mov (.t 0)⟩,
       ⟨(some 8), none, .nilchk (.t 7)⟩,
       ⟨(some 9), none, .faddr 0 (.t 8)⟩,
       ⟨(some 10), none, .load false 1 (.t 9)⟩,
       ⟨(some 11), none, .mov (.t 1)⟩,
       ⟨(some 12), none, .lookup (.sc .int) (.int .i64 0) (.t 10) (.t 11) false⟩,
       ⟨(some 4), none, .mov (.t 12)⟩])
     .ret)))⟩

-- (*quitrent/kin.Tree).Path
def F42 : AFun := ⟨22, 2, [.tmp 4],
  (.seq
   (.reg [
     ⟨(some 4), none, .mov (.c .nils)⟩])
   (.seq
    (.reg [
      ⟨(some 5), none, .mov (.c .nils)⟩])
    (.seq
     (.block 0
      (.loop
       (.seq
        (.seq
         (.reg [
           ⟨(some 6), none, .mov (.t 0)⟩,
           ⟨(some 7), none, .mov (.t 1)⟩,
           ⟨(some 8), none, .call (.c (.fn 37 [] [])) [(.t 6), (.t 7)]⟩])
         (.cond (.t 8)
          .skip
          (.exit 0)))
        (.seq
         (.block 1
          (.reg [
            ⟨(some 15), none, .mov (.t 5)⟩,
            ⟨(some 16), none, .mov (.t 1)⟩,
            ⟨(some 17), none, .bslice 1 1 [(.int .i64 0)] [(0, 1, (.t 16))]⟩,
            ⟨(some 18), none, .append 1 8 [(.int .i64 0)] (.t 15) (.t 17)⟩,
            ⟨(some 5), none, .mov (.t 18)⟩]))
         (.reg [
           ⟨(some 9), none, .mov (.t 0)⟩,
           ⟨(some 10), none, .nilchk (.t 9)⟩,
           ⟨(some 11), none, .faddr 0 (.t 10)⟩,
           ⟨(some 12), none, .load false 1 (.t 11)⟩,
           ⟨(some 13), none, .mov (.t 1)⟩,
           ⟨(some 14), none, .lookup (.sc .int) (.int .i64 0) (.t 12) (.t 13) false⟩,
           ⟨(some 1), none, .mov (.t 14)⟩])))))
     (.seq
      (.reg [
        ⟨(some 19), none, .mov (.t 5)⟩,
        ⟨(some 20), none, .call (.c (.fn 63 [] [])) [(.t 19)]⟩])
      (.seq
       (.reg [
         ⟨(some 21), none, .mov (.t 5)⟩,
         ⟨(some 4), none, .mov (.t 21)⟩])
       .ret)))))⟩

-- (*quitrent/kin.Tree).Below
def F39 : AFun := ⟨12, 3, [.tmp 6],
  (.seq
   (.reg [
     ⟨(some 6), none, .mov (.c (.bool false))⟩])
   (.seq
    (.reg [
      ⟨(some 7), none, .mov (.t 0)⟩,
      ⟨(some 8), none, .mov (.t 1)⟩,
      ⟨(some 9), none, .call (.c (.fn 42 [] [])) [(.t 7), (.t 8)]⟩,
      ⟨(some 10), none, .mov (.t 2)⟩,
      ⟨(some 11), none, .call (.c (.fn 62 [] [])) [(.t 9), (.t 10)]⟩,
      ⟨(some 6), none, .mov (.t 11)⟩])
    .ret))⟩

-- (*quitrent/kin.Tree).Children
def F43 : AFun := ⟨32, 2, [.tmp 4],
  (.seq
   (.reg [
     ⟨(some 4), none, .mov (.c .nils)⟩])
   (.seq
    (.seq
     (.reg [
       ⟨(some 7), none, .mov (.t 0)⟩,
       ⟨(some 8), none, .call (.c (.fn 46 [] [])) [(.t 7)]⟩,
       ⟨(some 9), none, .len .sl (.t 8)⟩,
       ⟨(some 10), none, .mov (.c (.int .i64 0))⟩])
     (.block 0
      (.loop
       (.seq
        (.reg [
          ⟨(some 11), none, .ibin .lss (.t 10) (.t 9)⟩])
        (.seq
         (.cond (.t 11)
          .skip
          (.exit 0))
         (.seq
          (.block 1
           (.seq
            (.reg [
              ⟨(some 12), none, .iaddrSl 1 (.t 8) (.t 10)⟩,
              ⟨(some 13), none, .load false 1 (.t 12)⟩,
              ⟨(some 6), none, .mov (.t 13)⟩])
            (.seq
             (.reg [
               ⟨(some 14), none, .mov (.t 6)⟩,
               ⟨(some 15), none, .ibin .neq (.t 14) (.c (.int .i64 1))⟩,
               ⟨(some 16), none, .mov (.t 15)⟩,
               ⟨(some 17), (some (16, true)), .mov (.t 0)⟩,
               ⟨(some 18), (some (16, true)), .nilchk (.t 17)⟩,
               ⟨(some 19), (some (16, true)), .faddr 0 (.t 18)⟩,
               ⟨(some 20), (some (16, true)), .load false 1 (.t 19)⟩,
               ⟨(some 21), (some (16, true)), .mov (.t 6)⟩,
               ⟨(some 22), (some (16, true)), .lookup (.sc .int) (.int .i64 0) (.t 20) (.t 21) false⟩,
               ⟨(some 23), (some (16, true)), .mov (.t 1)⟩,
               ⟨(some 24), (some (16, true)), .ibin .eql (.t 22) (.t 23)⟩,
               ⟨(some 25), none, .pick (.t 16) (.t 24) (.c (.bool false))⟩])
             (.cond (.t 25)
              (.reg [
                ⟨(some 26), none, .mov (.t 4)⟩,
                ⟨(some 27), none, .mov (.t 6)⟩,
                ⟨(some 28), none, .bslice 1 1 [(.int .i64 0)] [(0, 1, (.t 27))]⟩,
                ⟨(some 29), none, .append 1 8 [(.int .i64 0)] (.t 26) (.t 28)⟩,
                ⟨(some 4), none, .mov (.t 29)⟩])
              .skip))))
          (.reg [
            ⟨(some 30), none, .ibin .add (.t 10) (.c (.int .i64 1))⟩,
            ⟨(some 10), none, .mov (.t 30)⟩])))))))
    (.seq
     (.reg [
       ⟨(some 31), none, .mov (.t 4)⟩,
       ⟨(some 4), none, .mov (.t 31)⟩])
     .ret)))⟩

-- (*quitrent/kin.Tree).All
def F46 : AFun := ⟨11, 1, [.tmp 2],
  (.seq
   (.reg [
     ⟨(some 2), none, .mov (.c .nils)⟩])
   (.seq
    (.seq
     (.reg [
       ⟨(some 3), none, .mov (.t 0)⟩,
       ⟨(some 4), none, .eq false .ptr true (.t 3) (.c .nilp)⟩])
     (.cond (.t 4)
      (.seq
       (.reg [
         ⟨(some 2), none, .mov (.c .nils)⟩])
       .ret)
      .skip))
    (.seq
     (.reg [
       ⟨(some 5), none, .mov (.t 0)⟩,
       ⟨(some 6), none, .nilchk (.t 5)⟩,
       ⟨(some 7), none, .faddr 0 (.t 6)⟩,
       ⟨(some 8), none, .load false 1 (.t 7)⟩,
       ⟨(some 9), none, .call (.c (.fn 65 [] [])) [(.t 8)]⟩,
       ⟨(some 10), none, .call (.c (.fn 64 [] [])) [(.t 9)]⟩,
       ⟨(some 2), none, .mov (.t 10)⟩])
     .ret)))⟩

-- (*quitrent/kin.Tree).Depth
def F45 : AFun := ⟨11, 2, [.tmp 4],
  (.seq
   (.reg [
     ⟨(some 4), none, .mov (.c (.int .i64 0))⟩])
   (.seq
    (.reg [
      ⟨(some 5), none, .mov (.t 0)⟩,
      ⟨(some 6), none, .mov (.t 1)⟩,
      ⟨(some 7), none, .call (.c (.fn 42 [] [])) [(.t 5), (.t 6)]⟩,
      ⟨(some 8), none, .len .sl (.t 7)⟩,
      ⟨(some 9), none, .ibin .sub (.t 8) (.c (.int .i64 1))⟩,
      ⟨(some 10), none, .minmax true [(.t 9), (.c (.int .i64 0))]⟩,
      ⟨(some 4), none, .mov (.t 10)⟩])
    .ret))⟩

theorem c28 : cFun Tryd.prog [1, 0, 2, 3, 4, 5, 6, 7, 8, 9, 10, 11, 12, 13] Tryd.f28 = some F28 := by kernel_rfl
theorem c37 : cFun Tryd.prog [1, 0, 2, 3, 4, 5, 6, 7, 8, 9, 10, 11, 12, 13] Tryd.f37 = some F37 := by kernel_rfl
theorem c33 : cFun Tryd.prog [1, 0, 2, 3, 4, 5, 6, 7, 8, 9, 10, 11, 12, 13] Tryd.f33 = some F33 := by kernel_rfl
theorem c31 : cFun Tryd.prog [1, 0, 2, 3, 4, 5, 6, 7, 8, 9, 10, 11, 12, 13] Tryd.f31 = some F31 := by kernel_rfl
theorem c38 : cFun Tryd.prog [1, 0, 2, 3, 4, 5, 6, 7, 8, 9, 10, 11, 12, 13] Tryd.f38 = some F38 := by kernel_rfl
theorem c42 : cFun Tryd.prog [1, 0, 2, 3, 4, 5, 6, 7, 8, 9, 10, 11, 12, 13] Tryd.f42 = some F42 := by kernel_rfl
theorem c39 : cFun Tryd.prog [1, 0, 2, 3, 4, 5, 6, 7, 8, 9, 10, 11, 12, 13] Tryd.f39 = some F39 := by kernel_rfl
theorem c43 : cFun Tryd.prog [1, 0, 2, 3, 4, 5, 6, 7, 8, 9, 10, 11, 12, 13] Tryd.f43 = some F43 := by kernel_rfl
theorem c46 : cFun Tryd.prog [1, 0, 2, 3, 4, 5, 6, 7, 8, 9, 10, 11, 12, 13] Tryd.f46 = some F46 := by kernel_rfl
theorem c45 : cFun Tryd.prog [1, 0, 2, 3, 4, 5, 6, 7, 8, 9, 10, 11, 12, 13] Tryd.f45 = some F45 := by kernel_rfl
end Go.Proofs.YtamkjgiemconbaaDoor.D08
