import Derived.Test.YtamkjgiemconbaaDoorFKinD08
open Go AH
namespace Go.Proofs.YtamkjgiemconbaaDoor.D08
-- quitrent/quitrentref08.New
def F29 : AFun := ⟨17, 0, [.tmp 0],
  (.seq
   (.reg [
     ⟨(some 0), none, .mov (.c .nilp)⟩])
   (.seq
    (.reg [
      ⟨(some 3), none, .build (List.replicate 1000 (.int .i64 0)) []⟩,
      ⟨(some 4), none, .box 1000 (.t 3)⟩,
      ⟨(some 1), none, .mov (.t 4)⟩])
    (.seq
     (.seq
      (.reg [
        ⟨(some 2), none, .mov (.c (.int .i64 0))⟩])
      (.block 0
       (.loop
        (.seq
         (.seq
          (.reg [
            ⟨(some 5), none, .mov (.t 2)⟩,
            ⟨(some 6), none, .ibin .lss (.t 5) (.c (.int .i64 1000))⟩])
          (.cond (.t 6)
           .skip
           (.exit 0)))
         (.seq
          (.block 1
           (.reg [
             ⟨(some 9), none, .mov (.t 1)⟩,
             ⟨(some 10), none, .mov (.t 2)⟩,
             ⟨(some 11), none, .nilchk (.t 9)⟩,
             ⟨(some 12), none, .iaddrArr 1000 1 (.t 11) (.t 10)⟩,
             ⟨none, none, .store 1 (.t 12) (.c (.int .i64 (-1)))⟩]))
          (.reg [
            ⟨(some 7), none, .mov (.t 2)⟩,
            ⟨(some 8), none, .ibin .add (.t 7) (.c (.int .i64 1))⟩,
            ⟨(some 2), none, .mov (.t 8)⟩]))))))
     (.seq
      (.reg [
        ⟨(some 13), none, .mov (.t 1)⟩,
        ⟨(some 14), none, .nilchk (.t 13)⟩,
        ⟨(some 15), none, .iaddrArr 1000 1 (.t 14) (.c (.int .i64 1))⟩,
        ⟨none, none, .store 1 (.t 15) (.c (.int .i64 0))⟩])
      (.seq
       (.reg [
         ⟨(some 16), none, .mov (.t 1)⟩,
         ⟨(some 0), none, .mov (.t 16)⟩])
       .ret)))))⟩

-- (*quitrent/quitrentref08.Tree).Is
def F35 : AFun := ⟨19, 2, [.tmp 4],
  (.seq
   (.reg [
     ⟨(some 4), none, .mov (.c (.bool false))⟩])
   (.seq
    (.reg [
      ⟨(some 5), none, .mov (.t 1)⟩,
      ⟨(some 6), none, .ibin .geq (.t 5) (.c (.int .i64 1))⟩,
      ⟨(some 7), none, .mov (.t 6)⟩,
      ⟨(some 8), (some (7, true)), .mov (.t 1)⟩,
      ⟨(some 9), (some (7, true)), .ibin .leq (.t 8) (.c (.int .i64 999))⟩,
      ⟨(some 10), none, .pick (.t 7) (.t 9) (.c (.bool false))⟩,
      ⟨(some 11), none, .mov (.t 10)⟩,
      ⟨(some 12), (some (11, true)), .mov (.t 0)⟩,
      ⟨(some 13), (some (11, true)), .mov (.t 1)⟩,
      ⟨(some 14), (some (11, true)), .nilchk (.t 12)⟩,
      ⟨(some 15), (some (11, true)), .iaddrArr 1000 1 (.t 14) (.t 13)⟩,
      ⟨(some 16), (some (11, true)), .load false 1 (.t 15)⟩,
      ⟨(some 17), (some (11, true)), .ibin .geq (.t 16) (.c (.int .i64 0))⟩,
      ⟨(some 18), none, .pick (.t 11) (.t 17) (.c (.bool false))⟩,
      ⟨(some 4), none, .mov (.t 18)⟩])
    .ret))⟩

-- (*quitrent/quitrentref08.Tree).Count
def F47 : AFun := ⟨18, 1, [.tmp 2],
  (.seq
   (.reg [
     ⟨(some 2), none, .mov (.c (.int .i64 0))⟩])
   (.seq
    (.reg [
      ⟨(some 3), none, .mov (.c (.int .i64 0))⟩])
    (.seq
     (.seq
      (.reg [
        ⟨(some 4), none, .mov (.c (.int .i64 1))⟩])
      (.block 0
       (.loop
        (.seq
         (.seq
          (.reg [
            ⟨(some 5), none, .mov (.t 4)⟩,
            ⟨(some 6), none, .ibin .lss (.t 5) (.c (.int .i64 1000))⟩])
          (.cond (.t 6)
           .skip
           (.exit 0)))
         (.seq
          (.block 1
           (.seq
            (.reg [
              ⟨(some 9), none, .mov (.t 0)⟩,
              ⟨(some 10), none, .mov (.t 4)⟩,
              ⟨(some 11), none, .nilchk (.t 9)⟩,
              ⟨(some 12), none, .iaddrArr 1000 1 (.t 11) (.t 10)⟩,
              ⟨(some 13), none, .load false 1 (.t 12)⟩,
              ⟨(some 14), none, .ibin .geq (.t 13) (.c (.int .i64 0))⟩])
            (.cond (.t 14)
             (.reg [
               ⟨(some 15), none, .mov (.t 3)⟩,
               ⟨(some 16), none, .ibin .add (.t 15) (.c (.int .i64 1))⟩,
               ⟨(some 3), none, .mov (.t 16)⟩])
             .skip)))
          (.reg [
            ⟨(some 7), none, .mov (.t 4)⟩,
            ⟨(some 8), none, .ibin .add (.t 7) (.c (.int .i64 1))⟩,
            ⟨(some 4), none, .mov (.t 8)⟩]))))))
     (.seq
      (.reg [
        ⟨(some 17), none, .mov (.t 3)⟩,
        ⟨(some 2), none, .mov (.t 17)⟩])
      .ret))))⟩

-- (*quitrent/quitrentref08.Tree).Children
def F44 : AFun := ⟨28, 2, [.tmp 4],
  (.seq
   (.reg [
     ⟨(some 4), none, .mov (.c .nils)⟩])
   (.seq
    (.reg [
      ⟨(some 7), none, .bslice 1 0 [(.int .i64 0)] []⟩,
      ⟨(some 5), none, .mov (.t 7)⟩])
    (.seq
     (.seq
      (.reg [
        ⟨(some 6), none, .mov (.c (.int .i64 1))⟩])
      (.block 0
       (.loop
        (.seq
         (.seq
          (.reg [
            ⟨(some 8), none, .mov (.t 6)⟩,
            ⟨(some 9), none, .ibin .lss (.t 8) (.c (.int .i64 1000))⟩])
          (.cond (.t 9)
           .skip
           (.exit 0)))
         (.seq
          (.block 1
           (.seq
            (.reg [
              ⟨(some 12), none, .mov (.t 0)⟩,
              ⟨(some 13), none, .mov (.t 6)⟩,
              ⟨(some 14), none, .nilchk (.t 12)⟩,
              ⟨(some 15), none, .iaddrArr 1000 1 (.t 14) (.t 13)⟩,
              ⟨(some 16), none, .load false 1 (.t 15)⟩,
              ⟨(some 17), none, .mov (.t 1)⟩,
              ⟨(some 18), none, .ibin .eql (.t 16) (.t 17)⟩,
              ⟨(some 19), none, .mov (.t 18)⟩,
              ⟨(some 20), (some (19, true)), .mov (.t 1)⟩,
              ⟨(some 21), (some (19, true)), .ibin .gtr (.t 20) (.c (.int .i64 0))⟩,
              ⟨(some 22), none, .pick (.t 19) (.t 21) (.c (.bool false))⟩])
            (.cond (.t 22)
             (.reg [
               ⟨(some 23), none, .mov (.t 5)⟩,
               ⟨(some 24), none, .mov (.t 6)⟩,
               ⟨(some 25), none, .bslice 1 1 [(.int .i64 0)] [(0, 1, (.t 24))]⟩,
               ⟨(some 26), none, .append 1 8 [(.int .i64 0)] (.t 23) (.t 25)⟩,
               ⟨(some 5), none, .mov (.t 26)⟩])
             .skip)))
          (.reg [
            ⟨(some 10), none, .mov (.t 6)⟩,
            ⟨(some 11), none, .ibin .add (.t 10) (.c (.int .i64 1))⟩,
            ⟨(some 6), none, .mov (.t 11)⟩]))))))
     (.seq
      (.reg [
        ⟨(some 27), none, .mov (.t 5)⟩,
        ⟨(some 4), none, .mov (.t 27)⟩])
      .ret))))⟩

-- (*quitrent/quitrentref08.Tree).Add
def F34 : AFun := ⟨28, 3, [.tmp 6],
  (.seq
   (.reg [
     ⟨(some 6), none, .mov (.c (.int .i64 0))⟩])
   (.seq
    (.seq
     (.reg [
       ⟨(some 7), none, .mov (.t 1)⟩,
       ⟨(some 8), none, .ibin .lss (.t 7) (.c (.int .i64 1))⟩,
       ⟨(some 9), none, .mov (.t 8)⟩,
       ⟨(some 10), (some (9, false)), .mov (.t 1)⟩,
       ⟨(some 11), (some (9, false)), .ibin .gtr (.t 10) (.c (.int .i64 999))⟩,
       ⟨(some 12), none, .pick (.t 9) (.c (.bool true)) (.t 11)⟩])
     (.cond (.t 12)
      (.seq
       (.reg [
         ⟨(some 6), none, .mov (.c (.int .i64 1))⟩])
       .ret)
      .skip))
    (.seq
     (.seq
      (.reg [
        ⟨(some 13), none, .mov (.t 0)⟩,
        ⟨(some 14), none, .mov (.t 1)⟩,
        ⟨(some 15), none, .call (.c (.fn 35 [] [])) [(.t 13), (.t 14)]⟩])
      (.cond (.t 15)
       (.seq
        (.reg [
          ⟨(some 6), none, .mov (.c (.int .i64 6))⟩])
        .ret)
       .skip))
     (.seq
      (.seq
       (.reg [
         ⟨(some 16), none, .mov (.t 0)⟩,
         ⟨(some 17), none, .mov (.t 2)⟩,
         ⟨(some 18), none, .call (.c (.fn 35 [] [])) [(.t 16), (.t 17)]⟩,
         ⟨(some 19), none, .un .not (.t 18)⟩])
       (.cond (.t 19)
        (.seq
         (.reg [
           ⟨(some 6), none, .mov (.c (.int .i64 5))⟩])
         .ret)
        .skip))
      (.seq
       (.seq
        (.reg [
          ⟨(some 20), none, .mov (.t 0)⟩,
          ⟨(some 21), none, .call (.c (.fn 47 [] [])) [(.t 20)]⟩,
          ⟨(some 22), none, .ibin .geq (.t 21) (.c (.int .i64 16))⟩])
        (.cond (.t 22)
         (.seq
          (.reg [
            ⟨(some 6), none, .mov (.c (.int .i64 7))⟩])
          .ret)
         .skip))
       (.seq
        (.reg [
          ⟨(some 23), none, .mov (.t 0)⟩,
          ⟨(some 24), none, .mov (.t 1)⟩,
          ⟨(some 25), none, .mov (.t 2)⟩,
          ⟨(some 26), none, .nilchk (.t 23)⟩,
          ⟨(some 27), none, .iaddrArr 1000 1 (.t 26) (.t 24)⟩,
          ⟨none, none, .store 1 (.t 27) (.t 25)⟩])
        (.seq
         (.reg [
           ⟨(some 6), none, .mov (.c (.int .i64 0))⟩])
         .ret)))))))⟩

-- (*quitrent/quitrentref08.Tree).Drop
def F32 : AFun := ⟨22, 2, [.tmp 4],
  (.seq
   (.reg [
     ⟨(some 4), none, .mov (.c (.int .i64 0))⟩])
   (.seq
    (.seq
     (.reg [
       ⟨(some 5), none, .mov (.t 0)⟩,
       ⟨(some 6), none, .mov (.t 1)⟩,
       ⟨(some 7), none, .call (.c (.fn 35 [] [])) [(.t 5), (.t 6)]⟩,
       ⟨(some 8), none, .un .not (.t 7)⟩])
     (.cond (.t 8)
      (.seq
       (.reg [
         ⟨(some 4), none, .mov (.c (.int .i64 5))⟩])
       .ret)
      .skip))
    (.seq
     (.seq
      (.reg [
        ⟨(some 9), none, .mov (.t 1)⟩,
        ⟨(some 10), none, .ibin .eql (.t 9) (.c (.int .i64 1))⟩,
        ⟨(some 11), none, .mov (.t 10)⟩,
        ⟨(some 12), (some (11, false)), .mov (.t 0)⟩,
        ⟨(some 13), (some (11, false)), .mov (.t 1)⟩,
        ⟨(some 14), (some (11, false)), .call (.c (.fn 44 [] [])) [(.t 12), (.t 13)]⟩,
        ⟨(some 15), (some (11, false)), .len .sl (.t 14)⟩,
        ⟨(some 16), (some (11, false)), .ibin .gtr (.t 15) (.c (.int .i64 0))⟩,
        ⟨(some 17), none, .pick (.t 11) (.c (.bool true)) (.t 16)⟩])
      (.cond (.t 17)
       (.seq
        (.reg [
          ⟨(some 4), none, .mov (.c (.int .i64 13))⟩])
        .ret)
       .skip))
     (.seq
      (.reg [
        ⟨(some 18), none, .mov (.t 0)⟩,
        ⟨(some 19), none, .mov (.t 1)⟩,
        ⟨(some 20), none, .nilchk (.t 18)⟩,
        ⟨(some 21), none, .iaddrArr 1000 1 (.t 20) (.t 19)⟩,
        ⟨none, none, .store 1 (.t 21) (.c (.int .i64 (-1)))⟩])
      (.seq
       (.reg [
         ⟨(some 4), none, .mov (.c (.int .i64 0))⟩])
       .ret)))))⟩

-- (*quitrent/quitrentref08.Tree).Path
def F36 : AFun := ⟨25, 2, [.tmp 4],
  (.seq
   (.reg [
     ⟨(some 4), none, .mov (.c .nils)⟩])
   (.seq
    (.reg [
      ⟨(some 6), none, .bslice 1 0 [(.int .i64 0)] []⟩,
      ⟨(some 5), none, .mov (.t 6)⟩])
    (.seq
     (.block 0
      (.loop
       (.seq
        (.seq
         (.reg [
           ⟨(some 7), none, .mov (.t 0)⟩,
           ⟨(some 8), none, .mov (.t 1)⟩,
           ⟨(some 9), none, .call (.c (.fn 35 [] [])) [(.t 7), (.t 8)]⟩,
           ⟨(some 10), none, .mov (.t 9)⟩,
           ⟨(some 11), (some (10, true)), .mov (.t 5)⟩,
           ⟨(some 12), (some (10, true)), .len .sl (.t 11)⟩,
           ⟨(some 13), (some (10, true)), .ibin .lss (.t 12) (.c (.int .i64 20))⟩,
           ⟨(some 14), none, .pick (.t 10) (.t 13) (.c (.bool false))⟩])
         (.cond (.t 14)
          .skip
          (.exit 0)))
        (.block 1
         (.seq
          (.reg [
            ⟨(some 15), none, .mov (.t 1)⟩,
            ⟨(some 16), none, .bslice 1 1 [(.int .i64 0)] [(0, 1, (.t 15))]⟩,
            ⟨(some 17), none, .mov (.t 5)⟩,
            ⟨(some 18), none, .append 1 8 [(.int .i64 0)] (.t 16) (.t 17)⟩,
            ⟨(some 5), none, .mov (.t 18)⟩])
          (.reg [
            ⟨(some 19), none, .mov (.t 0)⟩,
            ⟨(some 20), none, .mov (.t 1)⟩,
            ⟨(some 21), none, .nilchk (.t 19)⟩,
            ⟨(some 22), none, .iaddrArr 1000 1 (.t 21) (.t 20)⟩,
            ⟨(some 23), none, .load false 1 (.t 22)⟩,
            ⟨(some 1), none, .mov (.t 23)⟩]))))))
     (.seq
      (.reg [
        ⟨(some 24), none, .mov (.t 5)⟩,
        ⟨(some 4), none, .mov (.t 24)⟩])
      .ret))))⟩

-- (*quitrent/quitrentref08.Tree).Below
def F40 : AFun := ⟨24, 3, [.tmp 6],
  (.seq
   (.reg [
     ⟨(some 6), none, .mov (.c (.bool false))⟩])
   (.seq
    (.reg [
      ⟨(some 9), none, .mov (.t 0)⟩,
      ⟨(some 10), none, .mov (.t 1)⟩,
      ⟨(some 11), none, .call (.c (.fn 36 [] [])) [(.t 9), (.t 10)]⟩,
      ⟨(some 7), none, .mov (.t 11)⟩])
    (.seq
     (.seq
      (.reg [
        ⟨(some 8), none, .mov (.c (.int .i64 0))⟩])
      (.block 0
       (.loop
        (.seq
         (.seq
          (.reg [
            ⟨(some 12), none, .mov (.t 8)⟩,
            ⟨(some 13), none, .mov (.t 7)⟩,
            ⟨(some 14), none, .len .sl (.t 13)⟩,
            ⟨(some 15), none, .ibin .lss (.t 12) (.t 14)⟩])
          (.cond (.t 15)
           .skip
           (.exit 0)))
         (.seq
          (.block 1
           (.seq
            (.reg [
              ⟨(some 18), none, .mov (.t 7)⟩,
              ⟨(some 19), none, .mov (.t 8)⟩,
              ⟨(some 20), none, .iaddrSl 1 (.t 18) (.t 19)⟩,
              ⟨(some 21), none, .load false 1 (.t 20)⟩,
              ⟨(some 22), none, .mov (.t 2)⟩,
              ⟨(some 23), none, .ibin .eql (.t 21) (.t 22)⟩])
            (.cond (.t 23)
             (.seq
              (.reg [
                ⟨(some 6), none, .mov (.c (.bool true))⟩])
              .ret)
             .skip)))
          (.reg [
            ⟨(some 16), none, .mov (.t 8)⟩,
            ⟨(some 17), none, .ibin .add (.t 16) (.c (.int .i64 1))⟩,
            ⟨(some 8), none, .mov (.t 17)⟩]))))))
     (.seq
      (.reg [
        ⟨(some 6), none, .mov (.c (.bool false))⟩])
      .ret))))⟩

theorem c29 : cFun Tryd.prog [1, 0, 2, 3, 4, 5, 6, 7, 8, 9, 10, 11, 12, 13] Tryd.f29 = some F29 := by kernel_rfl
theorem c35 : cFun Tryd.prog [1, 0, 2, 3, 4, 5, 6, 7, 8, 9, 10, 11, 12, 13] Tryd.f35 = some F35 := by kernel_rfl
theorem c47 : cFun Tryd.prog [1, 0, 2, 3, 4, 5, 6, 7, 8, 9, 10, 11, 12, 13] Tryd.f47 = some F47 := by kernel_rfl
theorem c44 : cFun Tryd.prog [1, 0, 2, 3, 4, 5, 6, 7, 8, 9, 10, 11, 12, 13] Tryd.f44 = some F44 := by kernel_rfl
theorem c34 : cFun Tryd.prog [1, 0, 2, 3, 4, 5, 6, 7, 8, 9, 10, 11, 12, 13] Tryd.f34 = some F34 := by kernel_rfl
theorem c32 : cFun Tryd.prog [1, 0, 2, 3, 4, 5, 6, 7, 8, 9, 10, 11, 12, 13] Tryd.f32 = some F32 := by kernel_rfl
theorem c36 : cFun Tryd.prog [1, 0, 2, 3, 4, 5, 6, 7, 8, 9, 10, 11, 12, 13] Tryd.f36 = some F36 := by kernel_rfl
theorem c40 : cFun Tryd.prog [1, 0, 2, 3, 4, 5, 6, 7, 8, 9, 10, 11, 12, 13] Tryd.f40 = some F40 := by kernel_rfl
end Go.Proofs.YtamkjgiemconbaaDoor.D08
