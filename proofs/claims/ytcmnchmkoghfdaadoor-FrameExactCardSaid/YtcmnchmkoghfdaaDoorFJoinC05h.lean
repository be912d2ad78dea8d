import Derived.Test.YtcmnchmkoghfdaaDoorFVGC05h
open Go AH
namespace Go.Proofs.YtcmnchmkoghfdaaDoor.C05h
-- quitrent/frame.joined
def F46 : AFun := ⟨47, 3, [.tmp 6, .tmp 7],
  (.seq
   (.reg [
     ⟨(some 6), none, .mov (.c (.str ⟨#[]⟩))⟩,
     ⟨(some 7), none, .mov (.c (.int .i64 0))⟩])
   (.seq
    (.reg [
      ⟨(some 8), none, .box 2 (.c (.agg [.nilp, .nils]))⟩])
    (.seq
     (.seq
      (.reg [
        ⟨(some 10), none, .mov (.t 2)⟩,
        ⟨(some 11), none, .mov (.c (.int .i64 0))⟩])
      (.block 0
       (.loop
        (.seq
         (.reg [
           ⟨(some 12), none, .ibin .lss (.t 11) (.t 10)⟩])
         (.seq
          (.cond (.t 12)
           .skip
           (.exit 0))
          (.seq
           (.block 1
            (.seq
             (.reg [
               ⟨(some 13), none, .mov (.t 11)⟩,
               ⟨(some 9), none, .mov (.t 13)⟩])
             (.seq
              (.seq
               (.draw [
                 ⟨(some 14), none, .mov (.t 9)⟩,
                 ⟨(some 15), none, .mov (.t 0)⟩,
                 ⟨(some 16), none, .len .sl (.t 15)⟩,
                 ⟨(some 17), none, .ibin .geq (.t 14) (.t 16)⟩,
                 ⟨(some 18), none, .mov (.t 17)⟩,
                 ⟨(some 19), (some (18, false)), .mov (.t 0)⟩,
                 ⟨(some 20), (some (18, false)), .mov (.t 9)⟩,
                 ⟨(some 21), (some (18, false)), .iaddrSl 1 (.t 19) (.t 20)⟩,
                 ⟨(some 22), (some (18, false)), .load false 1 (.t 21)⟩,
                 ⟨(some 23), (some (18, false)), .len .str (.t 22)⟩,
                 ⟨(some 24), (some (18, false)), .ibin .neq (.t 23) (.c (.int .i64 64))⟩,
                 ⟨(some 25), none, .pick (.t 18) (.c (.bool true)) (.t 24)⟩,
                 ⟨(some 26), none, .mov (.t 25)⟩,
                 ⟨(some 27), (some (26, false)), .mov (.t 0)⟩,
                 ⟨(some 28), (some (26, false)), .mov (.t 9)⟩,
                 ⟨(some 29), (some (26, false)), .iaddrSl 1 (.t 27) (.t 28)⟩,
                 ⟨(some 30), (some (26, false)), .load false 1 (.t 29)⟩,
                 ⟨(some 31), (some (26, false)), .sliceStr (.t 30) (some (.c (.int .i64 56))) none⟩,
                 ⟨(some 32), (some (26, false)), .mov (.t 1)⟩,
                 ⟨(some 33), (some (26, false)), .mov (.t 9)⟩,
                 ⟨(some 34), (some (26, false)), .mov (.t 2)⟩,
                 ⟨(some 35), (some (26, false)), .call (.c (.fn 43 [] [])) [(.t 32), (.t 33), (.t 34)]⟩,
                 ⟨(some 36), (some (26, false)), .ibin .neq (.t 31) (.t 35)⟩,
                 ⟨(some 37), none, .pick (.t 26) (.c (.bool true)) (.t 36)⟩]
                 [[], [], [1], [0, 2, 1], [3, 0, 2, 1], [4, 3, 0, 2, 1], [4, 3, 0, 2, 1], [5, 6, 4, 3, 0, 2, 1], [7, 4, 5, 6, 3, 0, 2, 1], [8, 4, 7, 5, 6, 3, 0, 2, 1], [9, 4, 8, 7, 5, 6, 3, 0, 2, 1], [4, 10, 3, 0, 2, 1, 9, 8, 7, 5, 6], [11, 4, 10, 3, 0, 2, 1, 9, 8, 7, 5, 6], [12, 11, 4, 10, 3, 0, 2, 1, 9, 8, 7, 5, 6], [12, 11, 4, 10, 3, 0, 2, 1, 9, 8, 7, 5, 6], [13, 14, 12, 11, 4, 10, 3, 0, 2, 1, 9, 8, 7, 5, 6], [15, 12, 13, 14, 11, 4, 10, 3, 0, 2, 1, 9, 8, 7, 5, 6], [16, 12, 15, 13, 14, 11, 4, 10, 3, 0, 2, 1, 9, 8, 7, 5, 6], [12, 11, 4, 10, 3, 0, 2, 1, 9, 8, 7, 5, 6], [12, 11, 4, 10, 3, 0, 2, 1, 9, 8, 7, 5, 6], [12, 11, 4, 10, 3, 0, 2, 1, 9, 8, 7, 5, 6], [18, 19, 20, 12, 11, 4, 10, 3, 0, 2, 1, 9, 8, 7, 5, 6], [17, 21, 12, 16, 15, 13, 14, 11, 4, 10, 3, 0, 2, 1, 9, 8, 7, 5, 6, 18, 19, 20], [12, 22, 11, 4, 10, 3, 0, 2, 1, 9, 8, 7, 5, 6, 17, 21, 16, 15, 13, 14, 18, 19, 20]])
               (.cond (.t 37)
                (.seq
                 (.reg [
                   ⟨(some 38), none, .mov (.t 9)⟩,
                   ⟨(some 6), none, .mov (.c (.str ⟨#[]⟩))⟩,
                   ⟨(some 7), none, .mov (.t 38)⟩])
                 .ret)
                .skip))
              (.reg [
                ⟨(some 39), none, .mov (.t 0)⟩,
                ⟨(some 40), none, .mov (.t 9)⟩,
                ⟨(some 41), none, .iaddrSl 1 (.t 39) (.t 40)⟩,
                ⟨(some 42), none, .load false 1 (.t 41)⟩,
                ⟨(some 43), none, .sliceStr (.t 42) none (some (.c (.int .i64 56)))⟩,
                ⟨(some 44), none, .call (.c (.fn 55 [] [])) [(.t 8), (.t 43)]⟩]))))
           (.reg [
             ⟨(some 45), none, .ibin .add (.t 11) (.c (.int .i64 1))⟩,
             ⟨(some 11), none, .mov (.t 45)⟩])))))))
     (.seq
      (.reg [
        ⟨(some 46), none, .call (.c (.fn 56 [] [])) [(.t 8)]⟩,
        ⟨(some 6), none, .mov (.t 46)⟩,
        ⟨(some 7), none, .mov (.c (.int .i64 (-1)))⟩])
      .ret))))⟩

theorem c46 : cFun Tryd.prog [0, 2] Tryd.f46 = some F46 := by kernel_rfl
end Go.Proofs.YtcmnchmkoghfdaaDoor.C05h
