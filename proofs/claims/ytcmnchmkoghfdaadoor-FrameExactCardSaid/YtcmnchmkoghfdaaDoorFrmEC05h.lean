import Derived.Test.YtcmnchmkoghfdaaDoorFrmDC05h
open Go AH
set_option linter.unusedSimpArgs false
set_option maxRecDepth 100000
namespace Go.Proofs.YtcmnchmkoghfdaaDoor.C05h
def tailE (s : ByteArray) : ByteArray := s.extract 56 64
def firB (seq n : Int) (e : ByteArray) : Bool :=
  bif (bif (bif (bif decide (seq ≥ 1) then decide (seq ≤ 2147483647) else false) then decide (n ≥ 1) else false) then decide (n ≤ 108) else false) then e.toList == (endS seq 0 n).toList else false
def firS (s : ByteArray) : Int × Int × Bool :=
  bif ((s.size : Int) != 64) then (0, 0, false) else (valS ((tailE s).extract 0 4), valS ((tailE s).extract 6 8), firB (valS ((tailE s).extract 0 4)) (valS ((tailE s).extract 6 8)) (tailE s))
/-- What the end of the first block tells. -/
def firZ : List ByteArray → Int × Int × Bool
  | [] => (0, 0, false)
  | s :: _ => firS s
def firA (x : Int × Int × Bool) : AV := .tup [.int .i64 x.1, .int .i64 x.2.1, .bool x.2.2]
theorem okFir : CtxOK S0 (ctxU S0 [(61, valT), (43, endT)] []) := ctxU_ok ⟨valT_ok, endT_ok, trivial⟩ trivial mixed
set_option maxHeartbeats 4000000 in
theorem first_ok (l : List ByteArray) (hl : l.length ≤ 1048576) : CallA1 S0 44 [.slc 0 0 l.length none] [some (.row true 1 (l.map strC))] fun r _ => r = firA (firZ l) := by
  refine fun_sound okFir Tryd.func44 c44 ?_
  unfold wpF F44
  cases l with
  | nil =>
    simp only [AH.SD, AH.wpOp, AOp.call?, AOp.next?, bstep, AOp.map, Opd.ev, tget, argTm, evs, AV.cells, St.eff, St.put, applyWr, mset, terase, pureE, unAV, intOp, binAV, fill, mget, AH.rowAt, AH.part, retQ, rvs, retV, AH.splice, AH.sliceElems, AH.bytesOf, AH.strOp, AH.bound, AH.addLog, AH.missQ, AH.minmaxAV, AH.wpOpD, AH.readOf, AH.effOf, AH.mapAt, AH.iterAt, Nat.reduceBEq, Nat.reduceAdd, Nat.reduceLT, ↓reduceIte, Nat.reduceEqDiff, Nat.reduceLeDiff, Nat.reduceSub, Nat.reduceMul, Int.reduceSub, Int.reduceToNat, Int.reduceBEq, Int.reduceBNe, Int.reduceLT, Int.reduceGT, Int.reduceLE, Int.reduceGE, Int.reduceNeg, Int.reduceAdd, List.map_nil, firZ, firA]
    repeat (refine ⟨by first | rfl | decide | omega | (simp only [List.length_map, and_true]; omega) | (simp only [List.length_map, List.length_set, and_true]; omega), ?_⟩)
  | cons s r =>
    have z : (((r.length + 1 : Nat) : Int) == 0) = false := by simp; omega
    cases h64 : ((s.size : Int) != 64)
    · have hs0 : (s.size : Int) = 64 := by simpa using h64
      have hs : s.size = 64 := by omega
      have hz : (tailE s).size = 8 := by rw [tailE, ByteArray.size_extract]; omega
      have v1 : okVal ((tailE s).extract 0 4) := .inr (by rw [ByteArray.size_extract]; omega)
      have v2 : okVal ((tailE s).extract 6 8) := .inl (by rw [ByteArray.size_extract]; omega)
      have et : s.extract 56 64 = tailE s := rfl
      have p1 := fun M => valT_p (M := M) v1
      have p2 := fun M => valT_p (M := M) v2
      generalize hseq : valS ((tailE s).extract 0 4) = seq at *
      generalize hn : valS ((tailE s).extract 6 8) = n at *
      cases c1 : decide (seq ≥ 1) <;> cases c2 : decide (seq ≤ 2147483647) <;> cases c3 : decide (n ≥ 1) <;> cases c4 : decide (n ≤ 108)
      all_goals
        simp only [AH.SD, AH.wpOp, AOp.call?, AOp.next?, bstep, AOp.map, Opd.ev, tget, argTm, evs, AV.cells, St.eff, St.put, applyWr, mset, terase, pureE, unAV, intOp, binAV, fill, mget, AH.rowAt, AH.part, retQ, rvs, retV, AH.splice, AH.sliceElems, AH.bytesOf, AH.strOp, AH.bound, AH.addLog, AH.missQ, AH.minmaxAV, AH.wpOpD, AH.readOf, AH.effOf, AH.mapAt, AH.iterAt, Nat.reduceBEq, Nat.reduceAdd, Nat.reduceLT, ↓reduceIte, Nat.reduceEqDiff, Nat.reduceLeDiff, Nat.reduceSub, Nat.reduceMul, Int.reduceSub, Int.reduceToNat, Int.reduceBEq, Int.reduceBNe, Int.reduceLT, Int.reduceGT, Int.reduceLE, Int.reduceGE, Int.reduceNeg, Int.reduceAdd, List.map_cons, strC_eq, z, h64, hs, et, hz, p1, p2, c1, c2, c3, c4, endT_p, firZ, firS, firA, firB, hseq, hn]
        repeat (refine ⟨by first | rfl | decide | omega | (simp only [List.length_map, and_true]; omega) | (simp only [List.length_map, List.length_set, and_true]; omega), ?_⟩)
        trivial
    · simp only [AH.SD, AH.wpOp, AOp.call?, AOp.next?, bstep, AOp.map, Opd.ev, tget, argTm, evs, AV.cells, St.eff, St.put, applyWr, mset, terase, pureE, unAV, intOp, binAV, fill, mget, AH.rowAt, AH.part, retQ, rvs, retV, AH.splice, AH.sliceElems, AH.bytesOf, AH.strOp, AH.bound, AH.addLog, AH.missQ, AH.minmaxAV, AH.wpOpD, AH.readOf, AH.effOf, AH.mapAt, AH.iterAt, Nat.reduceBEq, Nat.reduceAdd, Nat.reduceLT, ↓reduceIte, Nat.reduceEqDiff, Nat.reduceLeDiff, Nat.reduceSub, Nat.reduceMul, Int.reduceSub, Int.reduceToNat, Int.reduceBEq, Int.reduceBNe, Int.reduceLT, Int.reduceGT, Int.reduceLE, Int.reduceGE, Int.reduceNeg, Int.reduceAdd, List.map_cons, strC_eq, z, h64, firZ, firS, firA]
      repeat (refine ⟨by first | rfl | decide | omega | (simp only [List.length_map, and_true]; omega) | (simp only [List.length_map, List.length_set, and_true]; omega), ?_⟩)
      trivial
def firT : RT := rt1 1 cStr c0 fun l _ => firA (firZ l)
theorem firT_ok : ReadF S0 44 firT := rt1_ok errs0 fun l _ h => ⟨rfl, first_ok l h⟩
theorem firT_p {i n : Nat} {p : Option Nat} {M : Nat → Option Blk} : firT [.slc i 0 n p] M = rt1Q 1 cStr (fun l (_ : Unit) => firA (firZ l)) n i (M i) (some ()) := rfl
theorem firT_e {l : List ByteArray} {i : Nat} {ro : Bool} (h : l.length ≤ 1048576) : rt1Q 1 cStr (fun l (_ : Unit) => firA (firZ l)) l.length i (some (.row ro 1 (l.map strC))) (some ()) = some (firA (firZ l), [i]) := rt1Q_eq (c := cStr) h
end Go.Proofs.YtcmnchmkoghfdaaDoor.C05h
