import Derived.Test.YtcmnchmkoghfdaaDoorFVGC05h
open Go AH
namespace Go.Proofs.YtcmnchmkoghfdaaDoor.C05h
-- quitrent/frame.number
def F41 : AFun := ⟨24, 2, [.tmp 4],
  (.seq
   (.reg [
     ⟨(some 4), none, .mov (.c (.str ⟨#[]⟩))⟩])
   (.seq
    (.reg [
      ⟨(some 7), none, .mov (.t 1)⟩,
      ⟨(some 8), none, .mkslice 1 1 [(.int .u8 0)] (.t 7) (.t 7)⟩,
      ⟨(some 5), none, .mov (.t 8)⟩])
    (.seq
     (.seq
      (.reg [
        ⟨(some 9), none, .mov (.t 5)⟩,
        ⟨(some 10), none, .len .sl (.t 9)⟩,
        ⟨(some 11), none, .mov (.c (.int .i64 0))⟩])
      (.block 0
       (.loop
        (.seq
         (.reg [
           ⟨(some 12), none, .ibin .lss (.t 11) (.t 10)⟩])
         (.seq
          (.cond (.t 12)
           .skip
           (.exit 0))
          (.seq
           (.block 1
            (.seq
             (.reg [
               ⟨(some 13), none, .mov (.t 11)⟩,
               ⟨(some 6), none, .mov (.t 13)⟩])
             (.seq
              (.reg [
                ⟨(some 14), none, .mov (.t 5)⟩,
                ⟨(some 15), none, .mov (.t 6)⟩,
                ⟨(some 16), none, .mov (.t 0)⟩,
                ⟨(some 17), none, .i2i .u8 (.t 16)⟩,
                ⟨(some 18), none, .iaddrSl 1 (.t 14) (.t 15)⟩,
                ⟨none, none, .store 1 (.t 18) (.t 17)⟩])
              (.reg [
                ⟨(some 19), none, .mov (.t 0)⟩,
                ⟨(some 20), none, .ibin .shr (.t 19) (.c (.int .u64 8))⟩,
                ⟨(some 0), none, .mov (.t 20)⟩]))))
           (.reg [
             ⟨(some 21), none, .ibin .add (.t 11) (.c (.int .i64 1))⟩,
             ⟨(some 11), none, .mov (.t 21)⟩])))))))
     (.seq
      (.reg [
        ⟨(some 22), none, .mov (.t 5)⟩,
        ⟨(some 23), none, .b2s (.t 22)⟩,
        ⟨(some 4), none, .mov (.t 23)⟩])
      .ret))))⟩

-- quitrent/frame.value
def F61 : AFun := ⟨23, 1, [.tmp 2],
  (.seq
   (.reg [
     ⟨(some 2), none, .mov (.c (.int .i64 0))⟩])
   (.seq
    (.reg [
      ⟨(some 3), none, .mov (.c (.int .i64 0))⟩])
    (.seq
     (.seq
      (.reg [
        ⟨(some 6), none, .mov (.t 0)⟩,
        ⟨(some 7), none, .s2b (.t 6)⟩,
        ⟨(some 8), none, .len .sl (.t 7)⟩,
        ⟨(some 9), none, .mov (.c (.int .i64 0))⟩])
      (.block 0
       (.loop
        (.seq
         (.reg [
           ⟨(some 10), none, .ibin .lss (.t 9) (.t 8)⟩])
         (.seq
          (.cond (.t 10)
           .skip
           (.exit 0))
          (.seq
           (.block 1
            (.seq
             (.reg [
               ⟨(some 11), none, .mov (.t 9)⟩,
               ⟨(some 12), none, .iaddrSl 1 (.t 7) (.t 9)⟩,
               ⟨(some 13), none, .load false 1 (.t 12)⟩,
               ⟨(some 4), none, .mov (.t 11)⟩,
               ⟨(some 5), none, .mov (.t 13)⟩])
             (.reg [
               ⟨(some 14), none, .mov (.t 3)⟩,
               ⟨(some 15), none, .mov (.t 5)⟩,
               ⟨(some 16), none, .i2i .i64 (.t 15)⟩,
               ⟨(some 17), none, .mov (.t 4)⟩,
               ⟨(some 18), none, .ibin .mul (.c (.int .i64 8)) (.t 17)⟩,
               ⟨(some 19), none, .ibin .shl (.t 16) (.t 18)⟩,
               ⟨(some 20), none, .ibin .or (.t 14) (.t 19)⟩,
               ⟨(some 3), none, .mov (.t 20)⟩])))
           (.reg [
             ⟨(some 21), none, .ibin .add (.t 9) (.c (.int .i64 1))⟩,
             ⟨(some 9), none, .mov (.t 21)⟩])))))))
     (.seq
      (.reg [
        ⟨(some 22), none, .mov (.t 3)⟩,
        ⟨(some 2), none, .mov (.t 22)⟩])
      .ret))))⟩

-- quitrent/frame.end
def F43 : AFun := ⟨18, 3, [.tmp 6],
  (.seq
   (.reg [
     ⟨(some 6), none, .mov (.c (.str ⟨#[]⟩))⟩])
   (.seq
    (.reg [
      ⟨(some 7), none, .mov (.t 0)⟩,
      ⟨(some 8), none, .i2i .u64 (.t 7)⟩,
      ⟨(some 9), none, .call (.c (.fn 41 [] [])) [(.t 8), (.c (.int .i64 4))]⟩,
      ⟨(some 10), none, .mov (.t 1)⟩,
      ⟨(some 11), none, .i2i .u64 (.t 10)⟩,
      ⟨(some 12), none, .call (.c (.fn 41 [] [])) [(.t 11), (.c (.int .i64 2))]⟩,
      ⟨(some 13), none, .ibin .add (.t 9) (.t 12)⟩,
      ⟨(some 14), none, .mov (.t 2)⟩,
      ⟨(some 15), none, .i2i .u64 (.t 14)⟩,
      ⟨(some 16), none, .call (.c (.fn 41 [] [])) [(.t 15), (.c (.int .i64 2))]⟩,
      ⟨(some 17), none, .ibin .add (.t 13) (.t 16)⟩,
      ⟨(some 6), none, .mov (.t 17)⟩])
    .ret))⟩

-- quitrent/frame.Size
def F31 : AFun := ⟨9, 1, [.tmp 2],
  (.seq
   (.reg [
     ⟨(some 2), none, .mov (.c (.int .i64 0))⟩])
   (.seq
    (.reg [
      ⟨(some 3), none, .mov (.t 0)⟩,
      ⟨(some 4), none, .len .str (.t 3)⟩,
      ⟨(some 5), none, .ibin .add (.t 4) (.c (.int .i64 8))⟩,
      ⟨(some 6), none, .ibin .add (.t 5) (.c (.int .i64 56))⟩,
      ⟨(some 7), none, .ibin .sub (.t 6) (.c (.int .i64 1))⟩,
      ⟨(some 8), none, .ibin .quo (.t 7) (.c (.int .i64 56))⟩,
      ⟨(some 2), none, .mov (.t 8)⟩])
    .ret))⟩

-- quitrent/sum.Of
def F42 : AFun := ⟨5, 1, [.tmp 2],
  (.seq
   (.reg [
     ⟨(some 2), none, .mov (.c (.int .u32 0))⟩])
   (.seq
    (.reg [
      ⟨(some 3), none, .mov (.t 0)⟩,
      ⟨(some 4), none, .call (.c (.fn 60 [] [])) [(.c (.int .u32 1)), (.t 3)]⟩,
      ⟨(some 2), none, .mov (.t 4)⟩])
    .ret))⟩

-- quitrent/sum.More
def F60 : AFun := ⟨22, 2, [.tmp 4],
  (.seq
   (.reg [
     ⟨(some 4), none, .mov (.c (.int .u32 0))⟩])
   (.seq
    (.seq
     (.reg [
       ⟨(some 7), none, .mov (.t 1)⟩,
       ⟨(some 8), none, .s2b (.t 7)⟩,
       ⟨(some 9), none, .len .sl (.t 8)⟩,
       ⟨(some 10), none, .mov (.c (.int .i64 0))⟩])
     (.block 0
      (.loop
       (.seq
        (.reg [
          ⟨(some 11), none, .ibin .lss (.t 10) (.t 9)⟩])
        (.seq
         (.cond (.t 11)
          .skip
          (.exit 0))
         (.seq
          (.block 1
           (.seq
            (.reg [
              ⟨(some 12), none, .iaddrSl 1 (.t 8) (.t 10)⟩,
              ⟨(some 13), none, .load false 1 (.t 12)⟩,
              ⟨(some 6), none, .mov (.t 13)⟩])
            (.reg [
              ⟨(some 14), none, .mov (.t 0)⟩,
              ⟨(some 15), none, .ibin .mul (.t 14) (.c (.int .u32 257))⟩,
              ⟨(some 16), none, .mov (.t 6)⟩,
              ⟨(some 17), none, .i2i .u32 (.t 16)⟩,
              ⟨(some 18), none, .ibin .add (.t 15) (.t 17)⟩,
              ⟨(some 19), none, .ibin .add (.t 18) (.c (.int .u32 1))⟩,
              ⟨(some 0), none, .mov (.t 19)⟩])))
          (.reg [
            ⟨(some 20), none, .ibin .add (.t 10) (.c (.int .i64 1))⟩,
            ⟨(some 10), none, .mov (.t 20)⟩])))))))
    (.seq
     (.reg [
       ⟨(some 21), none, .mov (.t 0)⟩,
       ⟨(some 4), none, .mov (.t 21)⟩])
     .ret)))⟩

-- quitrent/frame.Blocks
def F30 : AFun := ⟨64, 2, [.tmp 4, .tmp 5],
  (.seq
   (.reg [
     ⟨(some 4), none, .mov (.c .nils)⟩,
     ⟨(some 5), none, .mov (.c .nili)⟩])
   (.seq
    (.seq
     (.reg [
       ⟨(some 10), none, .mov (.t 0)⟩,
       ⟨(some 11), none, .ibin .lss (.t 10) (.c (.int .i64 1))⟩,
       ⟨(some 12), none, .mov (.t 11)⟩,
       ⟨(some 13), (some (12, false)), .mov (.t 0)⟩,
       ⟨(some 14), (some (12, false)), .ibin .gtr (.t 13) (.c (.int .i64 2147483647))⟩,
       ⟨(some 15), none, .pick (.t 12) (.c (.bool true)) (.t 14)⟩,
       ⟨(some 16), none, .mov (.t 15)⟩,
       ⟨(some 17), (some (16, false)), .mov (.t 1)⟩,
       ⟨(some 18), (some (16, false)), .len .str (.t 17)⟩,
       ⟨(some 19), (some (16, false)), .ibin .gtr (.t 18) (.c (.int .i64 6000))⟩,
       ⟨(some 20), none, .pick (.t 16) (.c (.bool true)) (.t 19)⟩])
     (.cond (.t 20)
      (.seq
       (.draw [
         ⟨(some 21), none, .loadg 0⟩,
         ⟨(some 4), none, .mov (.c .nils)⟩,
         ⟨(some 5), none, .mov (.t 21)⟩]
         [[], [], [0, 1]])
       .ret)
      .skip))
    (.seq
     (.reg [
       ⟨(some 22), none, .mov (.t 1)⟩,
       ⟨(some 23), none, .call (.c (.fn 31 [] [])) [(.t 22)]⟩,
       ⟨(some 6), none, .mov (.t 23)⟩])
     (.seq
      (.reg [
        ⟨(some 24), none, .mov (.t 1)⟩,
        ⟨(some 25), none, .len .str (.t 24)⟩,
        ⟨(some 26), none, .i2i .u64 (.t 25)⟩,
        ⟨(some 27), none, .call (.c (.fn 41 [] [])) [(.t 26), (.c (.int .i64 4))]⟩,
        ⟨(some 28), none, .mov (.t 1)⟩,
        ⟨(some 29), none, .call (.c (.fn 42 [] [])) [(.t 28)]⟩,
        ⟨(some 30), none, .i2i .u64 (.t 29)⟩,
        ⟨(some 31), none, .call (.c (.fn 41 [] [])) [(.t 30), (.c (.int .i64 4))]⟩,
        ⟨(some 32), none, .ibin .add (.t 27) (.t 31)⟩,
        ⟨(some 33), none, .mov (.t 1)⟩,
        ⟨(some 34), none, .ibin .add (.t 32) (.t 33)⟩,
        ⟨(some 7), none, .mov (.t 34)⟩])
      (.seq
       (.reg [
         ⟨(some 35), none, .mov (.t 7)⟩,
         ⟨(some 36), none, .mov (.t 6)⟩,
         ⟨(some 37), none, .ibin .mul (.t 36) (.c (.int .i64 56))⟩,
         ⟨(some 38), none, .mov (.t 7)⟩,
         ⟨(some 39), none, .len .str (.t 38)⟩,
         ⟨(some 40), none, .ibin .sub (.t 37) (.t 39)⟩,
         ⟨(some 41), none, .call (.c (.fn 40 [] [])) [(.c (.str ⟨#[0]⟩)), (.t 40)]⟩,
         ⟨(some 42), none, .ibin .add (.t 35) (.t 41)⟩,
         ⟨(some 7), none, .mov (.t 42)⟩])
       (.seq
        (.reg [
          ⟨(some 8), none, .mov (.c .nils)⟩])
        (.seq
         (.seq
          (.reg [
            ⟨(some 43), none, .mov (.t 6)⟩,
            ⟨(some 44), none, .mov (.c (.int .i64 0))⟩])
          (.block 0
           (.loop
            (.seq
             (.reg [
               ⟨(some 45), none, .ibin .lss (.t 44) (.t 43)⟩])
             (.seq
              (.cond (.t 45)
               .skip
               (.exit 0))
              (.seq
               (.block 1
                (.seq
                 (.reg [
                   ⟨(some 46), none, .mov (.t 44)⟩,
                   ⟨(some 9), none, .mov (.t 46)⟩])
                 (.draw [
                   ⟨(some 47), none, .mov (.t 8)⟩,
                   ⟨(some 48), none, .mov (.t 7)⟩,
                   ⟨(some 49), none, .mov (.t 9)⟩,
                   ⟨(some 50), none, .ibin .mul (.t 49) (.c (.int .i64 56))⟩,
                   ⟨(some 51), none, .mov (.t 9)⟩,
                   ⟨(some 52), none, .ibin .add (.t 51) (.c (.int .i64 1))⟩,
                   ⟨(some 53), none, .ibin .mul (.t 52) (.c (.int .i64 56))⟩,
                   ⟨(some 54), none, .sliceStr (.t 48) (some (.t 50)) (some (.t 53))⟩,
                   ⟨(some 55), none, .mov (.t 0)⟩,
                   ⟨(some 56), none, .mov (.t 9)⟩,
                   ⟨(some 57), none, .mov (.t 6)⟩,
                   ⟨(some 58), none, .call (.c (.fn 43 [] [])) [(.t 55), (.t 56), (.t 57)]⟩,
                   ⟨(some 59), none, .ibin .add (.t 54) (.t 58)⟩,
                   ⟨(some 60), none, .bslice 1 1 [(.str ⟨#[]⟩)] [(0, 1, (.t 59))]⟩,
                   ⟨(some 61), none, .append 1 16 [(.str ⟨#[]⟩)] (.t 47) (.t 60)⟩,
                   ⟨(some 8), none, .mov (.t 61)⟩]
                   [[], [], [], [2], [], [4], [5, 4], [1, 3, 6, 2, 5, 4], [], [], [], [8, 9, 10], [7, 11, 1, 3, 6, 2, 5, 4, 8, 9, 10], [12, 7, 11, 1, 3, 6, 2, 5, 4, 8, 9, 10], [0, 13, 11, 12, 7, 1, 3, 6, 2, 5, 4, 8, 9, 10], [14, 0, 1, 2, 3, 4, 5, 6, 7, 8, 9, 10, 11, 12, 13]])))
               (.reg [
                 ⟨(some 62), none, .ibin .add (.t 44) (.c (.int .i64 1))⟩,
                 ⟨(some 44), none, .mov (.t 62)⟩])))))))
         (.seq
          (.reg [
            ⟨(some 63), none, .mov (.t 8)⟩,
            ⟨(some 4), none, .mov (.t 63)⟩,
            ⟨(some 5), none, .mov (.c .nili)⟩])
          .ret))))))))⟩

-- quitrent/frame.wrong
def F45 : AFun := ⟨8, 1, [.tmp 2],
  (.seq
   (.reg [
     ⟨(some 2), none, .mov (.c .nili)⟩])
   (.seq
    (.reg [
      ⟨(some 3), none, .mov (.t 0)⟩,
      ⟨(some 4), none, .loadg 2⟩,
      ⟨(some 5), none, .build [(.str ⟨#[]⟩), (.int .i64 0), .nili] [(0, 1, (.c (.str ⟨#[102, 114, 97, 109, 101]⟩))), (1, 1, (.t 3)), (2, 1, (.t 4))]⟩,
      ⟨(some 6), none, .box 3 (.t 5)⟩,
      ⟨(some 7), none, .mkifc 88 (.t 6)⟩,
      ⟨(some 2), none, .mov (.t 7)⟩])
    .ret))⟩

-- quitrent/frame.first
def F44 : AFun := ⟨51, 1, [.tmp 2, .tmp 3, .tmp 4],
  (.seq
   (.reg [
     ⟨(some 2), none, .mov (.c (.int .i64 0))⟩,
     ⟨(some 3), none, .mov (.c (.int .i64 0))⟩,
     ⟨(some 4), none, .mov (.c (.bool false))⟩])
   (.seq
    (.seq
     (.reg [
       ⟨(some 8), none, .mov (.t 0)⟩,
       ⟨(some 9), none, .len .sl (.t 8)⟩,
       ⟨(some 10), none, .ibin .eql (.t 9) (.c (.int .i64 0))⟩,
       ⟨(some 11), none, .mov (.t 10)⟩,
       ⟨(some 12), (some (11, false)), .mov (.t 0)⟩,
       ⟨(some 13), (some (11, false)), .iaddrSl 1 (.t 12) (.c (.int .i64 0))⟩,
       ⟨(some 14), (some (11, false)), .load false 1 (.t 13)⟩,
       ⟨(some 15), (some (11, false)), .len .str (.t 14)⟩,
       ⟨(some 16), (some (11, false)), .ibin .neq (.t 15) (.c (.int .i64 64))⟩,
       ⟨(some 17), none, .pick (.t 11) (.c (.bool true)) (.t 16)⟩])
     (.cond (.t 17)
      (.seq
       (.reg [
         ⟨(some 2), none, .mov (.c (.int .i64 0))⟩,
         ⟨(some 3), none, .mov (.c (.int .i64 0))⟩,
         ⟨(some 4), none, .mov (.c (.bool false))⟩])
       .ret)
      .skip))
    (.seq
     (.reg [
       ⟨(some 18), none, .mov (.t 0)⟩,
       ⟨(some 19), none, .iaddrSl 1 (.t 18) (.c (.int .i64 0))⟩,
       ⟨(some 20), none, .load false 1 (.t 19)⟩,
       ⟨(some 21), none, .sliceStr (.t 20) (some (.c (.int .i64 56))) none⟩,
       ⟨(some 5), none, .mov (.t 21)⟩])
     (.seq
      (.draw [
        ⟨(some 22), none, .mov (.t 5)⟩,
        ⟨(some 23), none, .sliceStr (.t 22) none (some (.c (.int .i64 4)))⟩,
        ⟨(some 24), none, .call (.c (.fn 61 [] [])) [(.t 23)]⟩,
        ⟨(some 25), none, .mov (.t 5)⟩,
        ⟨(some 26), none, .sliceStr (.t 25) (some (.c (.int .i64 6))) none⟩,
        ⟨(some 27), none, .call (.c (.fn 61 [] [])) [(.t 26)]⟩,
        ⟨(some 6), none, .mov (.t 24)⟩,
        ⟨(some 7), none, .mov (.t 27)⟩]
        [[], [0], [1, 0], [], [3], [4, 2, 3, 1, 0], [2, 5, 0, 1, 4, 3], [5, 6, 0, 1, 2, 3, 4]])
      (.seq
       (.reg [
         ⟨(some 28), none, .mov (.t 6)⟩,
         ⟨(some 29), none, .mov (.t 7)⟩,
         ⟨(some 30), none, .mov (.t 6)⟩,
         ⟨(some 31), none, .ibin .geq (.t 30) (.c (.int .i64 1))⟩,
         ⟨(some 32), none, .mov (.t 31)⟩,
         ⟨(some 33), (some (32, true)), .mov (.t 6)⟩,
         ⟨(some 34), (some (32, true)), .ibin .leq (.t 33) (.c (.int .i64 2147483647))⟩,
         ⟨(some 35), none, .pick (.t 32) (.t 34) (.c (.bool false))⟩,
         ⟨(some 36), none, .mov (.t 35)⟩,
         ⟨(some 37), (some (36, true)), .mov (.t 7)⟩,
         ⟨(some 38), (some (36, true)), .ibin .geq (.t 37) (.c (.int .i64 1))⟩,
         ⟨(some 39), none, .pick (.t 36) (.t 38) (.c (.bool false))⟩,
         ⟨(some 40), none, .mov (.t 39)⟩,
         ⟨(some 41), (some (40, true)), .mov (.t 7)⟩,
         ⟨(some 42), (some (40, true)), .ibin .leq (.t 41) (.c (.int .i64 108))⟩,
         ⟨(some 43), none, .pick (.t 40) (.t 42) (.c (.bool false))⟩,
         ⟨(some 44), none, .mov (.t 43)⟩,
         ⟨(some 45), (some (44, true)), .mov (.t 5)⟩,
         ⟨(some 46), (some (44, true)), .mov (.t 6)⟩,
         ⟨(some 47), (some (44, true)), .mov (.t 7)⟩,
         ⟨(some 48), (some (44, true)), .call (.c (.fn 43 [] [])) [(.t 46), (.c (.int .i64 0)), (.t 47)]⟩,
         ⟨(some 49), (some (44, true)), .ibin .eql (.t 45) (.t 48)⟩,
         ⟨(some 50), none, .pick (.t 44) (.t 49) (.c (.bool false))⟩,
         ⟨(some 2), none, .mov (.t 28)⟩,
         ⟨(some 3), none, .mov (.t 29)⟩,
         ⟨(some 4), none, .mov (.t 50)⟩])
       .ret)))))⟩

-- quitrent/frame.data
def F47 : AFun := ⟨50, 1, [.tmp 2, .tmp 3],
  (.seq
   (.reg [
     ⟨(some 2), none, .mov (.c (.str ⟨#[]⟩))⟩,
     ⟨(some 3), none, .mov (.c (.bool false))⟩])
   (.seq
    (.reg [
      ⟨(some 8), none, .mov (.t 0)⟩,
      ⟨(some 9), none, .sliceStr (.t 8) none (some (.c (.int .i64 4)))⟩,
      ⟨(some 10), none, .call (.c (.fn 61 [] [])) [(.t 9)]⟩,
      ⟨(some 4), none, .mov (.t 10)⟩])
    (.seq
     (.seq
      (.reg [
        ⟨(some 11), none, .mov (.t 4)⟩,
        ⟨(some 12), none, .ibin .gtr (.t 11) (.c (.int .i64 6000))⟩,
        ⟨(some 13), none, .mov (.t 12)⟩,
        ⟨(some 14), (some (13, false)), .mov (.t 4)⟩,
        ⟨(some 15), (some (13, false)), .mov (.t 0)⟩,
        ⟨(some 16), (some (13, false)), .len .str (.t 15)⟩,
        ⟨(some 17), (some (13, false)), .ibin .sub (.t 16) (.c (.int .i64 8))⟩,
        ⟨(some 18), (some (13, false)), .ibin .gtr (.t 14) (.t 17)⟩,
        ⟨(some 19), none, .pick (.t 13) (.c (.bool true)) (.t 18)⟩])
      (.cond (.t 19)
       (.seq
        (.reg [
          ⟨(some 2), none, .mov (.c (.str ⟨#[]⟩))⟩,
          ⟨(some 3), none, .mov (.c (.bool false))⟩])
        .ret)
       .skip))
     (.seq
      (.reg [
        ⟨(some 20), none, .mov (.t 0)⟩,
        ⟨(some 21), none, .mov (.t 4)⟩,
        ⟨(some 22), none, .ibin .add (.c (.int .i64 8)) (.t 21)⟩,
        ⟨(some 23), none, .sliceStr (.t 20) (some (.c (.int .i64 8))) (some (.t 22))⟩,
        ⟨(some 5), none, .mov (.t 23)⟩])
      (.seq
       (.reg [
         ⟨(some 24), none, .mov (.t 0)⟩,
         ⟨(some 25), none, .mov (.t 4)⟩,
         ⟨(some 26), none, .ibin .add (.c (.int .i64 8)) (.t 25)⟩,
         ⟨(some 27), none, .sliceStr (.t 24) (some (.t 26)) none⟩,
         ⟨(some 6), none, .mov (.t 27)⟩])
       (.seq
        (.reg [
          ⟨(some 28), none, .mov (.t 5)⟩,
          ⟨(some 29), none, .call (.c (.fn 31 [] [])) [(.t 28)]⟩,
          ⟨(some 30), none, .ibin .mul (.t 29) (.c (.int .i64 56))⟩,
          ⟨(some 31), none, .mov (.t 0)⟩,
          ⟨(some 32), none, .len .str (.t 31)⟩,
          ⟨(some 33), none, .ibin .eql (.t 30) (.t 32)⟩,
          ⟨(some 34), none, .mov (.t 33)⟩,
          ⟨(some 35), (some (34, true)), .mov (.t 6)⟩,
          ⟨(some 36), (some (34, true)), .call (.c (.fn 62 [] [])) [(.t 35), (.c (.str ⟨#[0]⟩))]⟩,
          ⟨(some 37), (some (34, true)), .ibin .eql (.t 36) (.c (.str ⟨#[]⟩))⟩,
          ⟨(some 38), none, .pick (.t 34) (.t 37) (.c (.bool false))⟩,
          ⟨(some 7), none, .mov (.t 38)⟩])
        (.seq
         (.reg [
           ⟨(some 39), none, .mov (.t 5)⟩,
           ⟨(some 40), none, .mov (.t 7)⟩,
           ⟨(some 41), none, .mov (.t 40)⟩,
           ⟨(some 42), (some (41, true)), .mov (.t 0)⟩,
           ⟨(some 43), (some (41, true)), .sliceStr (.t 42) (some (.c (.int .i64 4))) (some (.c (.int .i64 8)))⟩,
           ⟨(some 44), (some (41, true)), .call (.c (.fn 61 [] [])) [(.t 43)]⟩,
           ⟨(some 45), (some (41, true)), .mov (.t 5)⟩,
           ⟨(some 46), (some (41, true)), .call (.c (.fn 42 [] [])) [(.t 45)]⟩,
           ⟨(some 47), (some (41, true)), .i2i .i64 (.t 46)⟩,
           ⟨(some 48), (some (41, true)), .ibin .eql (.t 44) (.t 47)⟩,
           ⟨(some 49), none, .pick (.t 41) (.t 48) (.c (.bool false))⟩,
           ⟨(some 2), none, .mov (.t 39)⟩,
           ⟨(some 3), none, .mov (.t 49)⟩])
         .ret)))))))⟩

-- quitrent/frame.Read
def F32 : AFun := ⟨43, 1, [.tmp 2, .tmp 3, .tmp 4, .tmp 5],
  (.seq
   (.reg [
     ⟨(some 2), none, .mov (.c (.str ⟨#[]⟩))⟩,
     ⟨(some 3), none, .mov (.c (.int .i64 0))⟩,
     ⟨(some 4), none, .mov (.c (.int .i64 0))⟩,
     ⟨(some 5), none, .mov (.c .nili)⟩])
   (.seq
    (.reg [
      ⟨(some 13), none, .mov (.t 0)⟩,
      ⟨(some 14), none, .call (.c (.fn 44 [] [])) [(.t 13)]⟩,
      ⟨(some 12), none, .mov (.t 14)⟩,
      ⟨(some 15), none, .extract (.t 12) 0⟩,
      ⟨(some 16), none, .extract (.t 12) 1⟩,
      ⟨(some 17), none, .extract (.t 12) 2⟩,
      ⟨(some 6), none, .mov (.t 15)⟩,
      ⟨(some 7), none, .mov (.t 16)⟩,
      ⟨(some 8), none, .mov (.t 17)⟩])
    (.seq
     (.seq
      (.reg [
        ⟨(some 18), none, .mov (.t 8)⟩,
        ⟨(some 19), none, .un .not (.t 18)⟩])
      (.cond (.t 19)
       (.seq
        (.reg [
          ⟨(some 20), none, .call (.c (.fn 45 [] [])) [(.c (.int .i64 0))]⟩,
          ⟨(some 2), none, .mov (.c (.str ⟨#[]⟩))⟩,
          ⟨(some 3), none, .mov (.c (.int .i64 0))⟩,
          ⟨(some 4), none, .mov (.c (.int .i64 0))⟩,
          ⟨(some 5), none, .mov (.t 20)⟩])
        .ret)
       .skip))
     (.seq
      (.reg [
        ⟨(some 22), none, .mov (.t 0)⟩,
        ⟨(some 23), none, .mov (.t 6)⟩,
        ⟨(some 24), none, .mov (.t 7)⟩,
        ⟨(some 25), none, .call (.c (.fn 46 [] [])) [(.t 22), (.t 23), (.t 24)]⟩,
        ⟨(some 21), none, .mov (.t 25)⟩,
        ⟨(some 26), none, .extract (.t 21) 0⟩,
        ⟨(some 27), none, .extract (.t 21) 1⟩,
        ⟨(some 9), none, .mov (.t 26)⟩,
        ⟨(some 10), none, .mov (.t 27)⟩])
      (.seq
       (.seq
        (.reg [
          ⟨(some 28), none, .mov (.t 10)⟩,
          ⟨(some 29), none, .ibin .geq (.t 28) (.c (.int .i64 0))⟩])
        (.cond (.t 29)
         (.seq
          (.reg [
            ⟨(some 30), none, .mov (.t 10)⟩,
            ⟨(some 31), none, .call (.c (.fn 45 [] [])) [(.t 30)]⟩,
            ⟨(some 2), none, .mov (.c (.str ⟨#[]⟩))⟩,
            ⟨(some 3), none, .mov (.c (.int .i64 0))⟩,
            ⟨(some 4), none, .mov (.c (.int .i64 0))⟩,
            ⟨(some 5), none, .mov (.t 31)⟩])
          .ret)
         .skip))
       (.seq
        (.reg [
          ⟨(some 33), none, .mov (.t 9)⟩,
          ⟨(some 34), none, .call (.c (.fn 47 [] [])) [(.t 33)]⟩,
          ⟨(some 32), none, .mov (.t 34)⟩,
          ⟨(some 35), none, .extract (.t 32) 0⟩,
          ⟨(some 36), none, .extract (.t 32) 1⟩,
          ⟨(some 11), none, .mov (.t 35)⟩,
          ⟨(some 8), none, .mov (.t 36)⟩])
        (.seq
         (.seq
          (.reg [
            ⟨(some 37), none, .mov (.t 8)⟩,
            ⟨(some 38), none, .un .not (.t 37)⟩])
          (.cond (.t 38)
           (.seq
            (.reg [
              ⟨(some 39), none, .call (.c (.fn 45 [] [])) [(.c (.int .i64 0))]⟩,
              ⟨(some 2), none, .mov (.c (.str ⟨#[]⟩))⟩,
              ⟨(some 3), none, .mov (.c (.int .i64 0))⟩,
              ⟨(some 4), none, .mov (.c (.int .i64 0))⟩,
              ⟨(some 5), none, .mov (.t 39)⟩])
            .ret)
           .skip))
         (.seq
          (.reg [
            ⟨(some 40), none, .mov (.t 11)⟩,
            ⟨(some 41), none, .mov (.t 6)⟩,
            ⟨(some 42), none, .mov (.t 7)⟩,
            ⟨(some 2), none, .mov (.t 40)⟩,
            ⟨(some 3), none, .mov (.t 41)⟩,
            ⟨(some 4), none, .mov (.t 42)⟩,
            ⟨(some 5), none, .mov (.c .nili)⟩])
          .ret))))))))⟩

-- strings.Trim
def F62 : AFun := ⟨43, 2, [.tmp 4],
  (.seq
   (.reg [
     ⟨(some 4), none, .mov (.c (.str ⟨#[]⟩))⟩])
   (.seq
    (.seq
     (.reg [
       ⟨(some 7), none, .mov (.t 0)⟩,
       ⟨(some 8), none, .ibin .eql (.t 7) (.c (.str ⟨#[]⟩))⟩,
       ⟨(some 9), none, .mov (.t 8)⟩,
       ⟨(some 10), (some (9, false)), .mov (.t 1)⟩,
       ⟨(some 11), (some (9, false)), .ibin .eql (.t 10) (.c (.str ⟨#[]⟩))⟩,
       ⟨(some 12), none, .pick (.t 9) (.c (.bool true)) (.t 11)⟩])
     (.cond (.t 12)
      (.seq
       (.reg [
         ⟨(some 13), none, .mov (.t 0)⟩,
         ⟨(some 4), none, .mov (.t 13)⟩])
       .ret)
      .skip))
    (.seq
     (.seq
      (.reg [
        ⟨(some 14), none, .mov (.t 1)⟩,
        ⟨(some 15), none, .len .str (.t 14)⟩,
        ⟨(some 16), none, .ibin .eql (.t 15) (.c (.int .i64 1))⟩,
        ⟨(some 17), none, .mov (.t 16)⟩,
        ⟨(some 18), (some (17, true)), .mov (.t 1)⟩,
        ⟨(some 19), (some (17, true)), .idxStr (.t 18) (.c (.int .i64 0))⟩,
        ⟨(some 20), (some (17, true)), .ibin .lss (.t 19) (.c (.int .u8 128))⟩,
        ⟨(some 21), none, .pick (.t 17) (.t 20) (.c (.bool false))⟩])
      (.cond (.t 21)
       (.seq
        (.draw [
          ⟨(some 22), none, .mov (.t 0)⟩,
          ⟨(some 23), none, .mov (.t 1)⟩,
          ⟨(some 24), none, .idxStr (.t 23) (.c (.int .i64 0))⟩,
          ⟨(some 25), none, .call (.c (.fn 74 [] [])) [(.t 22), (.t 24)]⟩,
          ⟨(some 26), none, .mov (.t 1)⟩,
          ⟨(some 27), none, .idxStr (.t 26) (.c (.int .i64 0))⟩,
          ⟨(some 28), none, .call (.c (.fn 73 [] [])) [(.t 25), (.t 27)]⟩,
          ⟨(some 4), none, .mov (.t 28)⟩]
          [[], [], [1], [0, 2, 1], [], [4], [3, 5, 0, 2, 1, 4], [6, 0, 1, 2, 3, 4, 5]])
        .ret)
       .skip))
     (.seq
      (.seq
       (.reg [
         ⟨(some 30), none, .mov (.t 1)⟩,
         ⟨(some 31), none, .call (.c (.fn 75 [] [])) [(.t 30)]⟩,
         ⟨(some 29), none, .mov (.t 31)⟩,
         ⟨(some 32), none, .extract (.t 29) 0⟩,
         ⟨(some 33), none, .extract (.t 29) 1⟩,
         ⟨(some 5), none, .box 256 (.c (.agg (List.replicate 256 (.bool false))))⟩,
         ⟨none, none, .store 256 (.t 5) (.t 32)⟩,
         ⟨(some 6), none, .mov (.t 33)⟩])
       (.seq
        (.reg [
          ⟨(some 34), none, .mov (.t 6)⟩])
        (.cond (.t 34)
         (.seq
          (.reg [
            ⟨(some 35), none, .mov (.t 0)⟩,
            ⟨(some 36), none, .call (.c (.fn 77 [] [])) [(.t 35), (.t 5)]⟩,
            ⟨(some 37), none, .call (.c (.fn 76 [] [])) [(.t 36), (.t 5)]⟩,
            ⟨(some 4), none, .mov (.t 37)⟩])
          .ret)
         .skip)))
      (.seq
       (.reg [
         ⟨(some 38), none, .mov (.t 0)⟩,
         ⟨(some 39), none, .mov (.t 1)⟩,
         ⟨(some 40), none, .call (.c (.fn 79 [] [])) [(.t 38), (.t 39)]⟩,
         ⟨(some 41), none, .mov (.t 1)⟩,
         ⟨(some 42), none, .call (.c (.fn 78 [] [])) [(.t 40), (.t 41)]⟩,
         ⟨(some 4), none, .mov (.t 42)⟩])
       .ret)))))⟩

-- strings.trimLeftByte
def F73 : AFun := ⟨17, 2, [.tmp 4],
  (.seq
   (.reg [
     ⟨(some 4), none, .mov (.c (.str ⟨#[]⟩))⟩])
   (.seq
    (.block 0
     (.loop
      (.seq
       (.seq
        (.reg [
          ⟨(some 5), none, .mov (.t 0)⟩,
          ⟨(some 6), none, .len .str (.t 5)⟩,
          ⟨(some 7), none, .ibin .gtr (.t 6) (.c (.int .i64 0))⟩,
          ⟨(some 8), none, .mov (.t 7)⟩,
          ⟨(some 9), (some (8, true)), .mov (.t 0)⟩,
          ⟨(some 10), (some (8, true)), .idxStr (.t 9) (.c (.int .i64 0))⟩,
          ⟨(some 11), (some (8, true)), .mov (.t 1)⟩,
          ⟨(some 12), (some (8, true)), .ibin .eql (.t 10) (.t 11)⟩,
          ⟨(some 13), none, .pick (.t 8) (.t 12) (.c (.bool false))⟩])
        (.cond (.t 13)
         .skip
         (.exit 0)))
       (.block 1
        (.reg [
          ⟨(some 14), none, .mov (.t 0)⟩,
          ⟨(some 15), none, .sliceStr (.t 14) (some (.c (.int .i64 1))) none⟩,
          ⟨(some 0), none, .mov (.t 15)⟩])))))
    (.seq
     (.reg [
       ⟨(some 16), none, .mov (.t 0)⟩,
       ⟨(some 4), none, .mov (.t 16)⟩])
     .ret)))⟩

-- strings.trimRightByte
def F74 : AFun := ⟨23, 2, [.tmp 4],
  (.seq
   (.reg [
     ⟨(some 4), none, .mov (.c (.str ⟨#[]⟩))⟩])
   (.seq
    (.block 0
     (.loop
      (.seq
       (.seq
        (.reg [
          ⟨(some 5), none, .mov (.t 0)⟩,
          ⟨(some 6), none, .len .str (.t 5)⟩,
          ⟨(some 7), none, .ibin .gtr (.t 6) (.c (.int .i64 0))⟩,
          ⟨(some 8), none, .mov (.t 7)⟩,
          ⟨(some 9), (some (8, true)), .mov (.t 0)⟩,
          ⟨(some 10), (some (8, true)), .mov (.t 0)⟩,
          ⟨(some 11), (some (8, true)), .len .str (.t 10)⟩,
          ⟨(some 12), (some (8, true)), .ibin .sub (.t 11) (.c (.int .i64 1))⟩,
          ⟨(some 13), (some (8, true)), .idxStr (.t 9) (.t 12)⟩,
          ⟨(some 14), (some (8, true)), .mov (.t 1)⟩,
          ⟨(some 15), (some (8, true)), .ibin .eql (.t 13) (.t 14)⟩,
          ⟨(some 16), none, .pick (.t 8) (.t 15) (.c (.bool false))⟩])
        (.cond (.t 16)
         .skip
         (.exit 0)))
       (.block 1
        (.reg [
          ⟨(some 17), none, .mov (.t 0)⟩,
          ⟨(some 18), none, .mov (.t 0)⟩,
          ⟨(some 19), none, .len .str (.t 18)⟩,
          ⟨(some 20), none, .ibin .sub (.t 19) (.c (.int .i64 1))⟩,
          ⟨(some 21), none, .sliceStr (.t 17) none (some (.t 20))⟩,
          ⟨(some 0), none, .mov (.t 21)⟩])))))
    (.seq
     (.reg [
       ⟨(some 22), none, .mov (.t 0)⟩,
       ⟨(some 4), none, .mov (.t 22)⟩])
     .ret)))⟩

theorem c41 : cFun Tryd.prog [0, 2] Tryd.f41 = some F41 := by kernel_rfl
theorem c61 : cFun Tryd.prog [0, 2] Tryd.f61 = some F61 := by kernel_rfl
theorem c43 : cFun Tryd.prog [0, 2] Tryd.f43 = some F43 := by kernel_rfl
theorem c31 : cFun Tryd.prog [0, 2] Tryd.f31 = some F31 := by kernel_rfl
theorem c42 : cFun Tryd.prog [0, 2] Tryd.f42 = some F42 := by kernel_rfl
theorem c60 : cFun Tryd.prog [0, 2] Tryd.f60 = some F60 := by kernel_rfl
theorem c30 : cFun Tryd.prog [0, 2] Tryd.f30 = some F30 := by kernel_rfl
theorem c45 : cFun Tryd.prog [0, 2] Tryd.f45 = some F45 := by kernel_rfl
theorem c44 : cFun Tryd.prog [0, 2] Tryd.f44 = some F44 := by kernel_rfl
theorem c47 : cFun Tryd.prog [0, 2] Tryd.f47 = some F47 := by kernel_rfl
theorem c32 : cFun Tryd.prog [0, 2] Tryd.f32 = some F32 := by kernel_rfl
theorem c62 : cFun Tryd.prog [0, 2] Tryd.f62 = some F62 := by kernel_rfl
theorem c73 : cFun Tryd.prog [0, 2] Tryd.f73 = some F73 := by kernel_rfl
theorem c74 : cFun Tryd.prog [0, 2] Tryd.f74 = some F74 := by kernel_rfl
end Go.Proofs.YtcmnchmkoghfdaaDoor.C05h
