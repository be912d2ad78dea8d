import Derived.Test.YtnlolefgifeohaaDoorIsTE15
open Go AH
namespace Go.Proofs.YtnlolefgifeohaaDoor.E15
-- quitrent/quitrentlaw15.kind
def F23 : AFun := ⟨33, 1, [.tmp 2],
  (.seq
   (.reg [
     ⟨(some 2), none, .mov (.c (.int .i64 0))⟩])
   (.seq
    (.seq
     (.reg [
       ⟨(some 5), none, .mov (.t 0)⟩,
       ⟨(some 6), none, .eq false .iface true (.t 5) (.c .nili)⟩])
     (.cond (.t 6)
      (.seq
       (.reg [
         ⟨(some 2), none, .mov (.c (.int .i64 0))⟩])
       .ret)
      .skip))
    (.seq
     (.reg [
       ⟨(some 7), none, .loadg 2⟩,
       ⟨(some 8), none, .loadg 3⟩,
       ⟨(some 9), none, .loadg 4⟩,
       ⟨(some 10), none, .loadg 0⟩,
       ⟨(some 11), none, .loadg 5⟩,
       ⟨(some 12), none, .loadg 6⟩,
       ⟨(some 13), none, .loadg 7⟩,
       ⟨(some 14), none, .loadg 8⟩,
       ⟨(some 15), none, .loadg 9⟩,
       ⟨(some 16), none, .loadg 10⟩,
       ⟨(some 17), none, .loadg 11⟩,
       ⟨(some 18), none, .loadg 12⟩,
       ⟨(some 19), none, .loadg 1⟩,
       ⟨(some 20), none, .loadg 13⟩,
       ⟨(some 21), none, .build (List.replicate 14 .nili) [(0, 1, (.t 7)), (1, 1, (.t 8)), (2, 1, (.t 9)), (3, 1, (.t 10)), (4, 1, (.t 11)), (5, 1, (.t 12)), (6, 1, (.t 13)), (7, 1, (.t 14)), (8, 1, (.t 15)), (9, 1, (.t 16)), (10, 1, (.t 17)), (11, 1, (.t 18)), (12, 1, (.t 19)), (13, 1, (.t 20))]⟩,
       ⟨(some 3), none, .box 14 (.c (.agg (List.replicate 14 .nili)))⟩,
       ⟨none, none, .store 14 (.t 3) (.t 21)⟩])
     (.seq
      (.seq
       (.reg [
         ⟨(some 4), none, .mov (.c (.int .i64 0))⟩])
       (.block 0
        (.loop
         (.seq
          (.seq
           (.reg [
             ⟨(some 22), none, .mov (.t 4)⟩,
             ⟨(some 23), none, .ibin .lss (.t 22) (.c (.int .i64 14))⟩])
           (.cond (.t 23)
            .skip
            (.exit 0)))
          (.seq
           (.block 1
            (.seq
             (.reg [
               ⟨(some 26), none, .mov (.t 0)⟩,
               ⟨(some 27), none, .mov (.t 4)⟩,
               ⟨(some 28), none, .iaddrArr 14 1 (.t 3) (.t 27)⟩,
               ⟨(some 29), none, .load false 1 (.t 28)⟩,
               ⟨(some 30), none, .call (.c (.fn 58 [] [])) [(.t 26), (.t 29)]⟩])
             (.cond (.t 30)
              (.seq
               (.reg [
                 ⟨(some 31), none, .mov (.t 4)⟩,
                 ⟨(some 32), none, .ibin .add (.t 31) (.c (.int .i64 1))⟩,
                 ⟨(some 2), none, .mov (.t 32)⟩])
               .ret)
              .skip)))
           (.reg [
             ⟨(some 24), none, .mov (.t 4)⟩,
             ⟨(some 25), none, .ibin .add (.t 24) (.c (.int .i64 1))⟩,
             ⟨(some 4), none, .mov (.t 25)⟩]))))))
      (.seq
       (.reg [
         ⟨(some 2), none, .mov (.c (.int .i64 (-1)))⟩])
       .ret)))))⟩

theorem c23 : cFun Tryd.prog [2, 3, 4, 0, 5, 6, 7, 8, 9, 10, 11, 12, 1, 13] Tryd.f23 = some F23 := by kernel_rfl
end Go.Proofs.YtnlolefgifeohaaDoor.E15
