import Derived.Test.YtcmnchmkoghfdaaDoorFrmTC05h
open Go AH
set_option linter.unusedSimpArgs false
set_option maxRecDepth 100000
namespace Go.Proofs.YtcmnchmkoghfdaaDoor.C05h
/-- A text's bytes as a number. -/
def valS (s : ByteArray) : Int := match s.data.toList with
  | [a, b] => val2 a b
  | [a, b, c, d] => val4 a b c d
  | _ => 0
def okVal (s : ByteArray) : Prop := s.size = 2 ∨ s.size = 4
instance (s : ByteArray) : Decidable (okVal s) := by unfold okVal; infer_instance
theorem value_ok (s : ByteArray) (h : okVal s) : Pure S0 61 [.str s] (.int .i64 (valS s)) := by
  obtain ⟨⟨l⟩⟩ := s
  rcases h with h | h
  · match l, h with
    | [a, b], _ => exact value2 a b
  · match l, h with
    | [a, b, c, d], _ => exact value4 a b c d
def valT : RT := rtC (cC aS c0) (fun x => okVal x.1) fun x => .int .i64 (valS x.1)
theorem valT_ok : ReadF S0 61 valT := rtC_ok (fun x h => value_ok x.1 h) fun _ => rfl
theorem valT_p {s : ByteArray} {M : Nat → Option Blk} (h : okVal s) : valT [.str s] M = some (.int .i64 (valS s), []) := by
  simp only [valT, rtC_p, cC_dec, aS_dec, c0_dec, pairO_some]
  exact rtC1_eq h
theorem valS_in {s : ByteArray} (h : okVal s) : 0 ≤ valS s ∧ valS s < 4294967296 := by
  obtain ⟨⟨l⟩⟩ := s
  rcases h with h | h
  · match l, h with
    | [a, b], _ =>
      have ha := a.toNat_lt; have hb := b.toNat_lt
      show 0 ≤ val2 a b ∧ val2 a b < 4294967296
      unfold val2; omega
  · match l, h with
    | [a, b, c, d], _ =>
      have ha := a.toNat_lt; have hb := b.toNat_lt; have hc := c.toNat_lt; have hd := d.toNat_lt
      show 0 ≤ val4 a b c d ∧ val4 a b c d < 4294967296
      unfold val4; omega

def datT (s : ByteArray) (k : Nat) : ByteArray := s.extract 8 (8 + k)
def datQ (s : ByteArray) (k : Nat) : Bool :=
  bif (bif ((sizeN (datT s k).size * 56 : Nat) : Int) == (s.size : Int) then (trim0 (s.extract (8 + k) s.size)).toList == (⟨#[]⟩ : ByteArray).toList else false) then valS (s.extract 4 8) == IntKind.i64.wrap (sumZ (datT s k)) else false
/-- The text of bodies, and whether there is one. -/
def datZ (s : ByteArray) : ByteArray × Bool :=
  bif decide (valS (s.extract 0 4) > 6000) then (⟨#[]⟩, false) else bif decide (valS (s.extract 0 4) > (s.size : Int) - 8) then (⟨#[]⟩, false) else
    (datT s (valS (s.extract 0 4)).toNat, datQ s (valS (s.extract 0 4)).toNat)
theorem okDat : CtxOK S0 (ctxU S0 [(61, valT), (31, sizeT), (62, trimT), (42, sumT)] []) := ctxU_ok ⟨valT_ok, sizeT_ok, trimT_ok, sumT_ok, trivial⟩ trivial mixed
theorem data_ok (s : ByteArray) (h8 : 8 ≤ s.size) (hs : okSz s) : Pure S0 47 [.str s] (.tup [.str (datZ s).1, .bool (datZ s).2]) := by
  have h1 : s.size ≤ 1048576 := hs
  have hv0 : okVal (s.extract 0 4) := .inr (by rw [ByteArray.size_extract]; omega)
  have hv4 : okVal (s.extract 4 8) := .inr (by rw [ByteArray.size_extract]; omega)
  have hin := valS_in hv0
  refine fun_sound okDat Tryd.func47 c47 ?_
  unfold wpF F47
  have w8 : IntKind.i64.wrap ((s.size : Int) - 8) = (s.size : Int) - 8 := by rw [IntKind.wrap_i64]; omega
  cases d1 : decide (valS (s.extract 0 4) > 6000)
  · cases d2 : decide (valS (s.extract 0 4) > (s.size : Int) - 8)
    · simp only [decide_eq_false_iff_not] at d1 d2
      obtain ⟨k, hk⟩ := Int.eq_ofNat_of_zero_le hin.1
      rw [hk] at d1 d2
      have d1' : decide ((k : Int) > 6000) = false := by simp only [decide_eq_false_iff_not]; omega
      have d2' : decide ((k : Int) > (s.size : Int) - 8) = false := by simp only [decide_eq_false_iff_not]; omega
      have wk : IntKind.i64.wrap (8 + (k : Int)) = ((8 + k : Nat) : Int) := by rw [IntKind.wrap_i64]; omega
      have ht : okSz (s.extract 8 (8 + k)) := by show (s.extract 8 (8 + k)).size ≤ 1048576; rw [ByteArray.size_extract]; omega
      have hr : okSz (s.extract (8 + k) s.size) := by show (s.extract (8 + k) s.size).size ≤ 1048576; rw [ByteArray.size_extract]; omega
      have hsn : sizeN (s.extract 8 (8 + k)).size ≤ 200 := by unfold sizeN; rw [ByteArray.size_extract]; omega
      have w56 : IntKind.i64.wrap (((sizeN (s.extract 8 (8 + k)).size : Nat) : Int) * 56) = ((sizeN (s.extract 8 (8 + k)).size * 56 : Nat) : Int) := by rw [IntKind.wrap_i64]; omega
      cases q1 : (((sizeN (s.extract 8 (8 + k)).size * 56 : Nat) : Int) == (s.size : Int))
      · simp only [AH.SD, AH.wpOp, AOp.call?, AOp.next?, bstep, AOp.map, Opd.ev, tget, argTm, evs, AV.cells, St.eff, St.put, applyWr, mset, terase, pureE, unAV, intOp, binAV, fill, mget, AH.rowAt, AH.part, retQ, rvs, retV, AH.splice, AH.sliceElems, AH.bytesOf, AH.strOp, AH.bound, AH.addLog, AH.missQ, AH.minmaxAV, AH.wpOpD, AH.readOf, AH.effOf, AH.mapAt, AH.iterAt, Nat.reduceBEq, Nat.reduceAdd, Nat.reduceLT, ↓reduceIte, Nat.reduceEqDiff, Nat.reduceLeDiff, Nat.reduceSub, Nat.reduceMul, Int.reduceSub, Int.reduceToNat, Int.reduceBEq, Int.reduceBNe, Int.reduceLT, Int.reduceGT, Int.reduceLE, Int.reduceGE, Int.reduceNeg, Int.reduceAdd, valT_p hv0, hk, d1', d2', w8, wk, Int.toNat_natCast, sizeT_p, rtC1, ht, if_true, w56, q1, datZ, datQ, datT]
        repeat (refine ⟨by first | rfl | decide | omega | (simp only [List.length_map, and_true]; omega) | (simp only [List.length_map, List.length_set, and_true]; omega), ?_⟩)
        trivial
      · cases q2 : ((trim0 (s.extract (8 + k) s.size)).toList == (⟨#[]⟩ : ByteArray).toList)
        · simp only [AH.SD, AH.wpOp, AOp.call?, AOp.next?, bstep, AOp.map, Opd.ev, tget, argTm, evs, AV.cells, St.eff, St.put, applyWr, mset, terase, pureE, unAV, intOp, binAV, fill, mget, AH.rowAt, AH.part, retQ, rvs, retV, AH.splice, AH.sliceElems, AH.bytesOf, AH.strOp, AH.bound, AH.addLog, AH.missQ, AH.minmaxAV, AH.wpOpD, AH.readOf, AH.effOf, AH.mapAt, AH.iterAt, Nat.reduceBEq, Nat.reduceAdd, Nat.reduceLT, ↓reduceIte, Nat.reduceEqDiff, Nat.reduceLeDiff, Nat.reduceSub, Nat.reduceMul, Int.reduceSub, Int.reduceToNat, Int.reduceBEq, Int.reduceBNe, Int.reduceLT, Int.reduceGT, Int.reduceLE, Int.reduceGE, Int.reduceNeg, Int.reduceAdd, valT_p hv0, hk, d1', d2', w8, wk, Int.toNat_natCast, sizeT_p, rtC1, ht, if_true, w56, q1, trimT_p hr, q2, datZ, datQ, datT]
          repeat (refine ⟨by first | rfl | decide | omega | (simp only [List.length_map, and_true]; omega) | (simp only [List.length_map, List.length_set, and_true]; omega), ?_⟩)
          trivial
        · simp only [AH.SD, AH.wpOp, AOp.call?, AOp.next?, bstep, AOp.map, Opd.ev, tget, argTm, evs, AV.cells, St.eff, St.put, applyWr, mset, terase, pureE, unAV, intOp, binAV, fill, mget, AH.rowAt, AH.part, retQ, rvs, retV, AH.splice, AH.sliceElems, AH.bytesOf, AH.strOp, AH.bound, AH.addLog, AH.missQ, AH.minmaxAV, AH.wpOpD, AH.readOf, AH.effOf, AH.mapAt, AH.iterAt, Nat.reduceBEq, Nat.reduceAdd, Nat.reduceLT, ↓reduceIte, Nat.reduceEqDiff, Nat.reduceLeDiff, Nat.reduceSub, Nat.reduceMul, Int.reduceSub, Int.reduceToNat, Int.reduceBEq, Int.reduceBNe, Int.reduceLT, Int.reduceGT, Int.reduceLE, Int.reduceGE, Int.reduceNeg, Int.reduceAdd, valT_p hv0, valT_p hv4, hk, d1', d2', w8, wk, Int.toNat_natCast, sizeT_p, rtC1, ht, if_true, w56, q1, trimT_p hr, q2, sumT_p, datZ, datQ, datT]
          repeat (refine ⟨by first | rfl | decide | omega | (simp only [List.length_map, and_true]; omega) | (simp only [List.length_map, List.length_set, and_true]; omega), ?_⟩)
          trivial
    · simp only [AH.SD, AH.wpOp, AOp.call?, AOp.next?, bstep, AOp.map, Opd.ev, tget, argTm, evs, AV.cells, St.eff, St.put, applyWr, mset, terase, pureE, unAV, intOp, binAV, fill, mget, AH.rowAt, AH.part, retQ, rvs, retV, AH.splice, AH.sliceElems, AH.bytesOf, AH.strOp, AH.bound, AH.addLog, AH.missQ, AH.minmaxAV, AH.wpOpD, AH.readOf, AH.effOf, AH.mapAt, AH.iterAt, Nat.reduceBEq, Nat.reduceAdd, Nat.reduceLT, ↓reduceIte, Nat.reduceEqDiff, Nat.reduceLeDiff, Nat.reduceSub, Nat.reduceMul, Int.reduceSub, Int.reduceToNat, Int.reduceBEq, Int.reduceBNe, Int.reduceLT, Int.reduceGT, Int.reduceLE, Int.reduceGE, Int.reduceNeg, Int.reduceAdd, valT_p hv0, d1, d2, w8, datZ]
      repeat (refine ⟨by first | rfl | decide | omega | (simp only [List.length_map, and_true]; omega) | (simp only [List.length_map, List.length_set, and_true]; omega), ?_⟩)
      trivial
  · simp only [AH.SD, AH.wpOp, AOp.call?, AOp.next?, bstep, AOp.map, Opd.ev, tget, argTm, evs, AV.cells, St.eff, St.put, applyWr, mset, terase, pureE, unAV, intOp, binAV, fill, mget, AH.rowAt, AH.part, retQ, rvs, retV, AH.splice, AH.sliceElems, AH.bytesOf, AH.strOp, AH.bound, AH.addLog, AH.missQ, AH.minmaxAV, AH.wpOpD, AH.readOf, AH.effOf, AH.mapAt, AH.iterAt, Nat.reduceBEq, Nat.reduceAdd, Nat.reduceLT, ↓reduceIte, Nat.reduceEqDiff, Nat.reduceLeDiff, Nat.reduceSub, Nat.reduceMul, Int.reduceSub, Int.reduceToNat, Int.reduceBEq, Int.reduceBNe, Int.reduceLT, Int.reduceGT, Int.reduceLE, Int.reduceGE, Int.reduceNeg, Int.reduceAdd, valT_p hv0, d1, datZ]
    repeat (refine ⟨by first | rfl | decide | omega | (simp only [List.length_map, and_true]; omega) | (simp only [List.length_map, List.length_set, and_true]; omega), ?_⟩)
    trivial
def datRT : RT := rtC (cC aS c0) (fun x => 8 ≤ x.1.size ∧ okSz x.1) fun x => .tup [.str (datZ x.1).1, .bool (datZ x.1).2]
theorem datRT_ok : ReadF S0 47 datRT := rtC_ok (fun x h => data_ok x.1 h.1 h.2) fun _ => rfl
theorem datRT_p {s : ByteArray} {M : Nat → Option Blk} (h8 : 8 ≤ s.size) (hs : okSz s) : datRT [.str s] M = some (.tup [.str (datZ s).1, .bool (datZ s).2], []) := by
  simp only [datRT, rtC_p, cC_dec, aS_dec, c0_dec, pairO_some]
  exact rtC1_eq ⟨h8, hs⟩
end Go.Proofs.YtcmnchmkoghfdaaDoor.C05h
