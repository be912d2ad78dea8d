import Derived.Test.YtdjcpmdjodhfeaaAHFun
import Derived.Test.YtdjcpmdjodhfeaaChecked
import Derived.KernelRfl
open Go AH
namespace Go.Proofs.Ytdjcpmdjodhfeaa
-- gosem.cut.init
def F2 : AFun := ⟨1, 0, [],
  (.reg [
    ⟨(some 0), none, .call (.c (.fn 1 [] [])) []⟩])⟩
-- quitrent/quitrentlaw02.SumExact
def F3 : AFun := ⟨39, 3, [.tmp 6],
  (.seq
   (.reg [
     ⟨(some 6), none, .mov (.c (.bool false))⟩])
   (.seq
    (.seq
     (.reg [
       ⟨(some 8), none, .call (.c (.fn 6 [] [])) []⟩,
       ⟨(some 9), none, .un .not (.t 8)⟩])
     (.cond (.t 9)
      (.seq
       (.reg [
         ⟨(some 6), none, .mov (.c (.bool false))⟩])
       .ret)
      .skip))
    (.seq
     (.seq
      (.reg [
        ⟨(some 10), none, .mov (.t 1)⟩,
        ⟨(some 11), none, .len .str (.t 10)⟩,
        ⟨(some 12), none, .ibin .gtr (.t 11) (.c (.int .i64 1024))⟩])
      (.cond (.t 12)
       (.seq
        (.reg [
          ⟨(some 6), none, .mov (.c (.bool true))⟩])
        .ret)
       .skip))
     (.seq
      (.reg [
        ⟨(some 13), none, .mov (.t 0)⟩,
        ⟨(some 14), none, .mov (.t 2)⟩,
        ⟨(some 15), none, .call (.c (.fn 7 [] [])) [(.t 13), (.t 14)]⟩,
        ⟨(some 7), none, .mov (.t 15)⟩])
      (.seq
       (.reg [
         ⟨(some 16), none, .mov (.t 1)⟩,
         ⟨(some 17), none, .call (.c (.fn 8 [] [])) [(.t 16)]⟩,
         ⟨(some 18), none, .mov (.t 1)⟩,
         ⟨(some 19), none, .call (.c (.fn 9 [] [])) [(.t 18)]⟩,
         ⟨(some 20), none, .ibin .eql (.t 17) (.t 19)⟩,
         ⟨(some 21), none, .mov (.t 20)⟩,
         ⟨(some 22), (some (21, true)), .mov (.t 0)⟩,
         ⟨(some 23), (some (21, true)), .mov (.t 1)⟩,
         ⟨(some 24), (some (21, true)), .call (.c (.fn 10 [] [])) [(.t 22), (.t 23)]⟩,
         ⟨(some 25), (some (21, true)), .mov (.t 0)⟩,
         ⟨(some 26), (some (21, true)), .mov (.t 1)⟩,
         ⟨(some 27), (some (21, true)), .call (.c (.fn 11 [] [])) [(.t 25), (.t 26)]⟩,
         ⟨(some 28), (some (21, true)), .ibin .eql (.t 24) (.t 27)⟩,
         ⟨(some 29), none, .pick (.t 21) (.t 28) (.c (.bool false))⟩,
         ⟨(some 30), none, .mov (.t 29)⟩,
         ⟨(some 31), (some (30, true)), .mov (.t 7)⟩,
         ⟨(some 32), (some (30, true)), .mov (.t 2)⟩,
         ⟨(some 33), (some (30, true)), .bslice 1 1 [(.int .u8 0)] [(0, 1, (.t 32))]⟩,
         ⟨(some 34), (some (30, true)), .b2s (.t 33)⟩,
         ⟨(some 35), (some (30, true)), .call (.c (.fn 11 [] [])) [(.t 31), (.t 34)]⟩,
         ⟨(some 36), (some (30, true)), .mov (.t 0)⟩,
         ⟨(some 37), (some (30, true)), .ibin .eql (.t 35) (.t 36)⟩,
         ⟨(some 38), none, .pick (.t 30) (.t 37) (.c (.bool false))⟩,
         ⟨(some 6), none, .mov (.t 38)⟩])
       .ret)))))⟩
-- quitrent/quitrentlaw02.SumTells
def F4 : AFun := ⟨57, 4, [.tmp 8],
  (.seq
   (.reg [
     ⟨(some 8), none, .mov (.c (.bool false))⟩])
   (.seq
    (.seq
     (.reg [
       ⟨(some 11), none, .call (.c (.fn 6 [] [])) []⟩,
       ⟨(some 12), none, .un .not (.t 11)⟩])
     (.cond (.t 12)
      (.seq
       (.reg [
         ⟨(some 8), none, .mov (.c (.bool false))⟩])
       .ret)
      .skip))
    (.seq
     (.seq
      (.reg [
        ⟨(some 13), none, .mov (.t 0)⟩,
        ⟨(some 14), none, .len .str (.t 13)⟩,
        ⟨(some 15), none, .ibin .gtr (.t 14) (.c (.int .i64 512))⟩,
        ⟨(some 16), none, .mov (.t 15)⟩,
        ⟨(some 17), (some (16, false)), .mov (.t 1)⟩,
        ⟨(some 18), (some (16, false)), .len .str (.t 17)⟩,
        ⟨(some 19), (some (16, false)), .ibin .gtr (.t 18) (.c (.int .i64 512))⟩,
        ⟨(some 20), none, .pick (.t 16) (.c (.bool true)) (.t 19)⟩])
      (.cond (.t 20)
       (.seq
        (.reg [
          ⟨(some 8), none, .mov (.c (.bool true))⟩])
        .ret)
       .skip))
     (.seq
      (.reg [
        ⟨(some 21), none, .mov (.t 0)⟩,
        ⟨(some 22), none, .mov (.t 2)⟩,
        ⟨(some 23), none, .bslice 1 1 [(.int .u8 0)] [(0, 1, (.t 22))]⟩,
        ⟨(some 24), none, .b2s (.t 23)⟩,
        ⟨(some 25), none, .ibin .add (.t 21) (.t 24)⟩,
        ⟨(some 26), none, .mov (.t 1)⟩,
        ⟨(some 27), none, .ibin .add (.t 25) (.t 26)⟩,
        ⟨(some 9), none, .mov (.t 27)⟩])
      (.seq
       (.reg [
         ⟨(some 28), none, .mov (.t 0)⟩,
         ⟨(some 29), none, .mov (.t 3)⟩,
         ⟨(some 30), none, .bslice 1 1 [(.int .u8 0)] [(0, 1, (.t 29))]⟩,
         ⟨(some 31), none, .b2s (.t 30)⟩,
         ⟨(some 32), none, .ibin .add (.t 28) (.t 31)⟩,
         ⟨(some 33), none, .mov (.t 1)⟩,
         ⟨(some 34), none, .ibin .add (.t 32) (.t 33)⟩,
         ⟨(some 10), none, .mov (.t 34)⟩])
       (.seq
        (.draw [
          ⟨(some 35), none, .mov (.t 9)⟩,
          ⟨(some 36), none, .call (.c (.fn 8 [] [])) [(.t 35)]⟩,
          ⟨(some 37), none, .mov (.t 10)⟩,
          ⟨(some 38), none, .call (.c (.fn 8 [] [])) [(.t 37)]⟩,
          ⟨(some 39), none, .ibin .eql (.t 36) (.t 38)⟩,
          ⟨(some 40), none, .mov (.t 2)⟩,
          ⟨(some 41), none, .mov (.t 3)⟩,
          ⟨(some 42), none, .ibin .eql (.t 40) (.t 41)⟩,
          ⟨(some 43), none, .eq false .bool false (.t 39) (.t 42)⟩,
          ⟨(some 44), none, .mov (.t 43)⟩,
          ⟨(some 45), (some (44, true)), .mov (.t 0)⟩,
          ⟨(some 46), (some (44, true)), .call (.c (.fn 8 [] [])) [(.t 45)]⟩,
          ⟨(some 47), (some (44, true)), .mov (.t 2)⟩,
          ⟨(some 48), (some (44, true)), .bslice 1 1 [(.int .u8 0)] [(0, 1, (.t 47))]⟩,
          ⟨(some 49), (some (44, true)), .b2s (.t 48)⟩,
          ⟨(some 50), (some (44, true)), .mov (.t 1)⟩,
          ⟨(some 51), (some (44, true)), .ibin .add (.t 49) (.t 50)⟩,
          ⟨(some 52), (some (44, true)), .call (.c (.fn 10 [] [])) [(.t 46), (.t 51)]⟩,
          ⟨(some 53), (some (44, true)), .mov (.t 9)⟩,
          ⟨(some 54), (some (44, true)), .call (.c (.fn 8 [] [])) [(.t 53)]⟩,
          ⟨(some 55), (some (44, true)), .ibin .eql (.t 52) (.t 54)⟩,
          ⟨(some 56), none, .pick (.t 44) (.t 55) (.c (.bool false))⟩,
          ⟨(some 8), none, .mov (.t 56)⟩]
          [[], [0], [], [2, 1, 0], [1, 3, 0, 2], [], [], [5, 6], [4, 7, 1, 3, 0, 2, 5, 6], [8, 3, 4, 7, 1, 0, 2, 5, 6], [9, 8, 3, 4, 7, 1, 0, 2, 5, 6], [10, 9, 8, 3, 4, 7, 1, 0, 2, 5, 6], [9, 8, 3, 4, 7, 1, 0, 2, 5, 6], [12, 9, 8, 3, 4, 7, 1, 0, 2, 5, 6], [13, 9, 12, 8, 3, 4, 7, 1, 0, 2, 5, 6], [9, 8, 3, 4, 7, 1, 0, 2, 5, 6], [14, 15, 9, 13, 12, 8, 3, 4, 7, 1, 0, 2, 5, 6], [11, 16, 9, 10, 8, 3, 4, 7, 1, 0, 2, 5, 6, 14, 15, 13, 12], [9, 8, 3, 4, 7, 1, 0, 2, 5, 6], [18, 17, 9, 8, 3, 4, 7, 1, 0, 2, 5, 6, 11, 16, 10, 14, 15, 13, 12], [17, 19, 9, 11, 16, 10, 8, 3, 4, 7, 1, 0, 2, 5, 6, 14, 15, 13, 12, 18], [9, 20, 8, 3, 4, 7, 1, 0, 2, 5, 6, 17, 19, 11, 16, 10, 14, 15, 13, 12, 18], [21, 19, 0, 1, 2, 3, 4, 5, 6, 7, 8, 9, 10, 11, 12, 13, 14, 15, 16, 17, 18, 20]])
        .ret))))))⟩
-- quitrent/quitrentlaw02.SumBack
def F5 : AFun := ⟨30, 2, [.tmp 4],
  (.seq
   (.reg [
     ⟨(some 4), none, .mov (.c (.bool false))⟩])
   (.seq
    (.seq
     (.reg [
       ⟨(some 7), none, .call (.c (.fn 6 [] [])) []⟩,
       ⟨(some 8), none, .un .not (.t 7)⟩])
     (.cond (.t 8)
      (.seq
       (.reg [
         ⟨(some 4), none, .mov (.c (.bool false))⟩])
       .ret)
      .skip))
    (.seq
     (.seq
      (.reg [
        ⟨(some 9), none, .mov (.t 1)⟩,
        ⟨(some 10), none, .len .str (.t 9)⟩,
        ⟨(some 11), none, .ibin .gtr (.t 10) (.c (.int .i64 512))⟩])
      (.cond (.t 11)
       (.seq
        (.reg [
          ⟨(some 4), none, .mov (.c (.bool true))⟩])
        .ret)
       .skip))
     (.seq
      (.reg [
        ⟨(some 12), none, .mov (.t 0)⟩,
        ⟨(some 13), none, .mov (.t 1)⟩,
        ⟨(some 14), none, .call (.c (.fn 10 [] [])) [(.t 12), (.t 13)]⟩,
        ⟨(some 5), none, .mov (.t 14)⟩])
      (.seq
       (.seq
        (.reg [
          ⟨(some 15), none, .mov (.t 1)⟩,
          ⟨(some 16), none, .len .str (.t 15)⟩,
          ⟨(some 17), none, .ibin .sub (.t 16) (.c (.int .i64 1))⟩,
          ⟨(some 6), none, .mov (.t 17)⟩])
        (.block 0
         (.loop
          (.seq
           (.seq
            (.reg [
              ⟨(some 18), none, .mov (.t 6)⟩,
              ⟨(some 19), none, .ibin .geq (.t 18) (.c (.int .i64 0))⟩])
            (.cond (.t 19)
             .skip
             (.exit 0)))
           (.seq
            (.block 1
             (.reg [
               ⟨(some 22), none, .mov (.t 5)⟩,
               ⟨(some 23), none, .mov (.t 1)⟩,
               ⟨(some 24), none, .mov (.t 6)⟩,
               ⟨(some 25), none, .idxStr (.t 23) (.t 24)⟩,
               ⟨(some 26), none, .call (.c (.fn 7 [] [])) [(.t 22), (.t 25)]⟩,
               ⟨(some 5), none, .mov (.t 26)⟩]))
            (.reg [
              ⟨(some 20), none, .mov (.t 6)⟩,
              ⟨(some 21), none, .ibin .sub (.t 20) (.c (.int .i64 1))⟩,
              ⟨(some 6), none, .mov (.t 21)⟩]))))))
       (.seq
        (.reg [
          ⟨(some 27), none, .mov (.t 5)⟩,
          ⟨(some 28), none, .mov (.t 0)⟩,
          ⟨(some 29), none, .ibin .eql (.t 27) (.t 28)⟩,
          ⟨(some 4), none, .mov (.t 29)⟩])
        .ret))))))⟩
-- quitrent/quitrentlaw02.awake
def F6 : AFun := ⟨11, 0, [.tmp 0],
  (.seq
   (.reg [
     ⟨(some 0), none, .mov (.c (.bool false))⟩])
   (.seq
    (.reg [
      ⟨(some 1), none, .call (.c (.fn 8 [] [])) [(.c (.str ⟨#[]⟩))]⟩,
      ⟨(some 2), none, .ibin .eql (.t 1) (.c (.int .u32 1))⟩,
      ⟨(some 3), none, .mov (.t 2)⟩,
      ⟨(some 4), (some (3, true)), .call (.c (.fn 8 [] [])) [(.c (.str ⟨#[97]⟩))]⟩,
      ⟨(some 5), (some (3, true)), .ibin .eql (.t 4) (.c (.int .u32 355))⟩,
      ⟨(some 6), none, .pick (.t 3) (.t 5) (.c (.bool false))⟩,
      ⟨(some 7), none, .mov (.t 6)⟩,
      ⟨(some 8), (some (7, true)), .call (.c (.fn 7 [] [])) [(.c (.int .u32 355)), (.c (.int .u8 97))]⟩,
      ⟨(some 9), (some (7, true)), .ibin .eql (.t 8) (.c (.int .u32 1))⟩,
      ⟨(some 10), none, .pick (.t 7) (.t 9) (.c (.bool false))⟩,
      ⟨(some 0), none, .mov (.t 10)⟩])
    .ret))⟩
-- quitrent/sum.Back
def F7 : AFun := ⟨11, 2, [.tmp 4],
  (.seq
   (.reg [
     ⟨(some 4), none, .mov (.c (.int .u32 0))⟩])
   (.seq
    (.reg [
      ⟨(some 5), none, .mov (.t 0)⟩,
      ⟨(some 6), none, .mov (.t 1)⟩,
      ⟨(some 7), none, .i2i .u32 (.t 6)⟩,
      ⟨(some 8), none, .ibin .sub (.t 5) (.t 7)⟩,
      ⟨(some 9), none, .ibin .sub (.t 8) (.c (.int .u32 1))⟩,
      ⟨(some 10), none, .ibin .mul (.t 9) (.c (.int .u32 4278255361))⟩,
      ⟨(some 4), none, .mov (.t 10)⟩])
    .ret))⟩
-- quitrent/sum.Of
def F8 : AFun := ⟨5, 1, [.tmp 2],
  (.seq
   (.reg [
     ⟨(some 2), none, .mov (.c (.int .u32 0))⟩])
   (.seq
    (.reg [
      ⟨(some 3), none, .mov (.t 0)⟩,
      ⟨(some 4), none, .call (.c (.fn 10 [] [])) [(.c (.int .u32 1)), (.t 3)]⟩,
      ⟨(some 2), none, .mov (.t 4)⟩])
    .ret))⟩
-- quitrent/quitrentref02.Of
def F9 : AFun := ⟨5, 1, [.tmp 2],
  (.seq
   (.reg [
     ⟨(some 2), none, .mov (.c (.int .u32 0))⟩])
   (.seq
    (.reg [
      ⟨(some 3), none, .mov (.t 0)⟩,
      ⟨(some 4), none, .call (.c (.fn 11 [] [])) [(.c (.int .u32 1)), (.t 3)]⟩,
      ⟨(some 2), none, .mov (.t 4)⟩])
    .ret))⟩
-- quitrent/sum.More
def F10 : AFun := ⟨22, 2, [.tmp 4],
  (.seq
   (.reg [
     ⟨(some 4), none, .mov (.c (.int .u32 0))⟩])
   (.seq
    (.seq
     (.reg [
       ⟨(some 7), none, .mov (.t 1)⟩,
       ⟨(some 8), none, .s2b (.t 7)⟩,
       ⟨(some 9), none, .len .sl (.t 8)⟩,
       ⟨(some 10), none, .mov (.c (.int .i64 0))⟩])
     (.block 0
      (.loop
       (.seq
        (.reg [
          ⟨(some 11), none, .ibin .lss (.t 10) (.t 9)⟩])
        (.seq
         (.cond (.t 11)
          .skip
          (.exit 0))
         (.seq
          (.block 1
           (.seq
            (.reg [
              ⟨(some 12), none, .iaddrSl 1 (.t 8) (.t 10)⟩,
              ⟨(some 13), none, .load false 1 (.t 12)⟩,
              ⟨(some 6), none, .mov (.t 13)⟩])
            (.reg [
              ⟨(some 14), none, .mov (.t 0)⟩,
              ⟨(some 15), none, .ibin .mul (.t 14) (.c (.int .u32 257))⟩,
              ⟨(some 16), none, .mov (.t 6)⟩,
              ⟨(some 17), none, .i2i .u32 (.t 16)⟩,
              ⟨(some 18), none, .ibin .add (.t 15) (.t 17)⟩,
              ⟨(some 19), none, .ibin .add (.t 18) (.c (.int .u32 1))⟩,
              ⟨(some 0), none, .mov (.t 19)⟩])))
          (.reg [
            ⟨(some 20), none, .ibin .add (.t 10) (.c (.int .i64 1))⟩,
            ⟨(some 10), none, .mov (.t 20)⟩])))))))
    (.seq
     (.reg [
       ⟨(some 21), none, .mov (.t 0)⟩,
       ⟨(some 4), none, .mov (.t 21)⟩])
     .ret)))⟩
-- quitrent/quitrentref02.More
def F11 : AFun := ⟨26, 2, [.tmp 4],
  (.seq
   (.reg [
     ⟨(some 4), none, .mov (.c (.int .u32 0))⟩])
   (.seq
    (.reg [
      ⟨(some 7), none, .mov (.t 0)⟩,
      ⟨(some 8), none, .i2i .u64 (.t 7)⟩,
      ⟨(some 5), none, .mov (.t 8)⟩])
    (.seq
     (.seq
      (.reg [
        ⟨(some 6), none, .mov (.c (.int .i64 0))⟩])
      (.block 0
       (.loop
        (.seq
         (.seq
          (.reg [
            ⟨(some 9), none, .mov (.t 6)⟩,
            ⟨(some 10), none, .mov (.t 1)⟩,
            ⟨(some 11), none, .len .str (.t 10)⟩,
            ⟨(some 12), none, .ibin .lss (.t 9) (.t 11)⟩])
          (.cond (.t 12)
           .skip
           (.exit 0)))
         (.seq
          (.block 1
           (.reg [
             ⟨(some 15), none, .mov (.t 5)⟩,
             ⟨(some 16), none, .ibin .mul (.t 15) (.c (.int .u64 257))⟩,
             ⟨(some 17), none, .mov (.t 1)⟩,
             ⟨(some 18), none, .mov (.t 6)⟩,
             ⟨(some 19), none, .idxStr (.t 17) (.t 18)⟩,
             ⟨(some 20), none, .i2i .u64 (.t 19)⟩,
             ⟨(some 21), none, .ibin .add (.t 16) (.t 20)⟩,
             ⟨(some 22), none, .ibin .add (.t 21) (.c (.int .u64 1))⟩,
             ⟨(some 23), none, .ibin .rem (.t 22) (.c (.int .u64 4294967296))⟩,
             ⟨(some 5), none, .mov (.t 23)⟩]))
          (.reg [
            ⟨(some 13), none, .mov (.t 6)⟩,
            ⟨(some 14), none, .ibin .add (.t 13) (.c (.int .i64 1))⟩,
            ⟨(some 6), none, .mov (.t 14)⟩]))))))
     (.seq
      (.reg [
        ⟨(some 24), none, .mov (.t 5)⟩,
        ⟨(some 25), none, .i2i .u32 (.t 24)⟩,
        ⟨(some 4), none, .mov (.t 25)⟩])
      .ret))))⟩
theorem c3 : cFun Try.prog [] Try.f3 = some F3 := by kernel_rfl
theorem c4 : cFun Try.prog [] Try.f4 = some F4 := by kernel_rfl
theorem c5 : cFun Try.prog [] Try.f5 = some F5 := by kernel_rfl
theorem c6 : cFun Try.prog [] Try.f6 = some F6 := by kernel_rfl
theorem c7 : cFun Try.prog [] Try.f7 = some F7 := by kernel_rfl
theorem c8 : cFun Try.prog [] Try.f8 = some F8 := by kernel_rfl
theorem c9 : cFun Try.prog [] Try.f9 = some F9 := by kernel_rfl
theorem c10 : cFun Try.prog [] Try.f10 = some F10 := by kernel_rfl
theorem c11 : cFun Try.prog [] Try.f11 = some F11 := by kernel_rfl
theorem mixed : Try.prog.follows .mixedOrders = true := by kernel_rfl
noncomputable def S0 : AH.Sys := ⟨Try.prog, [], 0⟩
end Go.Proofs.Ytdjcpmdjodhfeaa
