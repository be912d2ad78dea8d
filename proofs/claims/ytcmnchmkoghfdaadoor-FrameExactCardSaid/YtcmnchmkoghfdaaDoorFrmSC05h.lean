import Derived.Test.YtcmnchmkoghfdaaDoorFrmC05h
import Derived.Test.YtcmnchmkoghfdaaDoorAHd
open Go AH
set_option linter.unusedSimpArgs false
set_option maxRecDepth 100000
namespace Go.Proofs.YtcmnchmkoghfdaaDoor.C05h
def bytC (b : UInt8) : List AV := [.int .u8 (b.toNat : Int)]
def decByt : List AV → Option UInt8
  | [.int .u8 n] => if n = ((UInt8.ofNat n.toNat).toNat : Int) then some (UInt8.ofNat n.toNat) else none
  | _ => none
theorem decByt_ok (l : List AV) (b : UInt8) (h : decByt l = some b) : l = bytC b := by
  unfold decByt at h
  split at h
  · split at h
    · rename_i n hn
      simp only [Option.some.injEq] at h
      subst h
      rw [bytC, ← hn]
    · cases h
  · cases h
theorem decByt_de (b : UInt8) : decByt (bytC b) = some b := by
  simp [decByt, bytC]
def cByt : Cod UInt8 := ⟨bytC, decByt, decByt_ok, decByt_de, fun _ => rfl⟩
instance : FlatE bytC := ⟨cByt.flat⟩
theorem bytC_eq (b : UInt8) : bytC b = [.int .u8 (b.toNat : Int)] := rfl
def moreB (n : Int) (b : UInt8) : Int := IntKind.u32.wrap (IntKind.u32.wrap (IntKind.u32.wrap (n * 257) + IntKind.u32.wrap (b.toNat : Int)) + 1)
def moreL (n : Int) (l : List UInt8) : Int := l.foldl moreB n
def moSt (s : ByteArray) (n : Int) (i : Nat) : St := ⟨[(10, .int .i64 i), (9, .int .i64 s.size), (8, .slc 0 0 s.size none), (0, .int .u32 (moreL n (s.data.toList.take i)))], [some (.row false 1 (s.data.toList.map bytC))]⟩
theorem more_ok (n : Int) (s : ByteArray) (hs : s.size ≤ 1048576) : Pure S0 60 [.int .u32 n, .str s] (.int .u32 (moreL n s.data.toList)) := by
  refine fun_sound okF0 Tryd.func60 c60 ?_
  unfold wpF F60
  simp only [AH.SD, AH.wpOp, AOp.call?, AOp.next?, bstep, AOp.map, Opd.ev, tget, argTm, evs, AV.cells, St.eff, St.put, applyWr, mset, terase, pureE, unAV, intOp, binAV, fill, mget, AH.rowAt, AH.part, retQ, rvs, retV, AH.splice, AH.sliceElems, AH.bytesOf, AH.strOp, AH.bound, AH.addLog, AH.missQ, AH.minmaxAV, AH.wpOpD, AH.readOf, AH.effOf, AH.mapAt, AH.iterAt, Nat.reduceBEq, Nat.reduceAdd, Nat.reduceLT, ↓reduceIte, Nat.reduceEqDiff, Nat.reduceLeDiff, Nat.reduceSub, Nat.reduceMul, Int.reduceSub, Int.reduceToNat, Int.reduceBEq, Int.reduceBNe, Int.reduceLT, Int.reduceGT, Int.reduceLE, Int.reduceGE, Int.reduceNeg, Int.reduceAdd]
  have e0 : (s.data.toList.map fun b => [AV.int .u8 (b.toNat : Int)]) = s.data.toList.map bytC := rfl
  have hsz : s.data.toList.length = s.size := by rw [Array.length_toList]; rfl
  refine loop_do [0] [10, 9, 8, 0] [] (α := Nat) (fun i => s.size - i) (moSt s n) (fun i => i ≤ s.size) 0 (Nat.zero_le _) (by simp only [AH.SD, AH.wpOp, AOp.call?, AOp.next?, bstep, AOp.map, Opd.ev, tget, argTm, evs, AV.cells, St.eff, St.put, applyWr, mset, terase, pureE, unAV, intOp, binAV, fill, mget, AH.rowAt, AH.part, retQ, rvs, retV, AH.splice, AH.sliceElems, AH.bytesOf, AH.strOp, AH.bound, AH.addLog, AH.missQ, AH.minmaxAV, AH.wpOpD, AH.readOf, AH.effOf, AH.mapAt, AH.iterAt, Nat.reduceBEq, Nat.reduceAdd, Nat.reduceLT, ↓reduceIte, Nat.reduceEqDiff, Nat.reduceLeDiff, Nat.reduceSub, Nat.reduceMul, Int.reduceSub, Int.reduceToNat, Int.reduceBEq, Int.reduceBNe, Int.reduceLT, Int.reduceGT, Int.reduceLE, Int.reduceGE, Int.reduceNeg, Int.reduceAdd, AH.PD, heads, distN, AH.inN, posN, packM, packB, packTm, liveB, AV.inB, AV.insB, AV.ren, AV.rens, Blk.ren, Blk.inB, vstep, tput, moSt, e0, moreL, List.foldl_nil]) ?_
  intro X i hi ih
  simp only [AH.SD, AH.wpOp, AOp.call?, AOp.next?, bstep, AOp.map, Opd.ev, tget, argTm, evs, AV.cells, St.eff, St.put, applyWr, mset, terase, pureE, unAV, intOp, binAV, fill, mget, AH.rowAt, AH.part, retQ, rvs, retV, AH.splice, AH.sliceElems, AH.bytesOf, AH.strOp, AH.bound, AH.addLog, AH.missQ, AH.minmaxAV, AH.wpOpD, AH.readOf, AH.effOf, AH.mapAt, AH.iterAt, Nat.reduceBEq, Nat.reduceAdd, Nat.reduceLT, ↓reduceIte, Nat.reduceEqDiff, Nat.reduceLeDiff, Nat.reduceSub, Nat.reduceMul, Int.reduceSub, Int.reduceToNat, Int.reduceBEq, Int.reduceBNe, Int.reduceLT, Int.reduceGT, Int.reduceLE, Int.reduceGE, Int.reduceNeg, Int.reduceAdd, moSt]
  refine ⟨fun hlt => ?_, fun hlt => ?_⟩
  · have hi1 := lt_of_dec hlt
    have hi2 : i < s.data.toList.length := by omega
    have wi := wrapS (i := i) (by omega)
    have done := ih (i + 1) hi1 (by omega)
    simp only [moSt, List.take_succ_eq_append_getElem hi2, moreL, List.foldl_append, List.foldl_cons, List.foldl_nil] at done
    simp only [AH.SD, AH.wpOp, AOp.call?, AOp.next?, bstep, AOp.map, Opd.ev, tget, argTm, evs, AV.cells, St.eff, St.put, applyWr, mset, terase, pureE, unAV, intOp, binAV, fill, mget, AH.rowAt, AH.part, retQ, rvs, retV, AH.splice, AH.sliceElems, AH.bytesOf, AH.strOp, AH.bound, AH.addLog, AH.missQ, AH.minmaxAV, AH.wpOpD, AH.readOf, AH.effOf, AH.mapAt, AH.iterAt, Nat.reduceBEq, Nat.reduceAdd, Nat.reduceLT, ↓reduceIte, Nat.reduceEqDiff, Nat.reduceLeDiff, Nat.reduceSub, Nat.reduceMul, Int.reduceSub, Int.reduceToNat, Int.reduceBEq, Int.reduceBNe, Int.reduceLT, Int.reduceGT, Int.reduceLE, Int.reduceGE, Int.reduceNeg, Int.reduceAdd, getD_enc, hi2, bytC_eq, wi, List.length_map]
    repeat (refine ⟨by first | rfl | decide | omega | (simp only [List.length_map, and_true]; omega) | (simp only [List.length_map, List.length_set, and_true]; omega), ?_⟩)
    refine gc_auto [0] [10, 9, 8, 0] [] ?_
    simp only [AH.SD, AH.wpOp, AOp.call?, AOp.next?, bstep, AOp.map, Opd.ev, tget, argTm, evs, AV.cells, St.eff, St.put, applyWr, mset, terase, pureE, unAV, intOp, binAV, fill, mget, AH.rowAt, AH.part, retQ, rvs, retV, AH.splice, AH.sliceElems, AH.bytesOf, AH.strOp, AH.bound, AH.addLog, AH.missQ, AH.minmaxAV, AH.wpOpD, AH.readOf, AH.effOf, AH.mapAt, AH.iterAt, Nat.reduceBEq, Nat.reduceAdd, Nat.reduceLT, ↓reduceIte, Nat.reduceEqDiff, Nat.reduceLeDiff, Nat.reduceSub, Nat.reduceMul, Int.reduceSub, Int.reduceToNat, Int.reduceBEq, Int.reduceBNe, Int.reduceLT, Int.reduceGT, Int.reduceLE, Int.reduceGE, Int.reduceNeg, Int.reduceAdd, AH.PD, heads, distN, AH.inN, posN, packM, packB, packTm, liveB, AV.inB, AV.insB, AV.ren, AV.rens, Blk.ren, Blk.inB, vstep, tput]
    exact done
  · have hi1 := ge_of_dec hlt
    obtain rfl : i = s.size := by omega
    rw [show s.data.toList.take s.size = s.data.toList by rw [← hsz, List.take_length]]
    simp only [AH.SD, AH.wpOp, AOp.call?, AOp.next?, bstep, AOp.map, Opd.ev, tget, argTm, evs, AV.cells, St.eff, St.put, applyWr, mset, terase, pureE, unAV, intOp, binAV, fill, mget, AH.rowAt, AH.part, retQ, rvs, retV, AH.splice, AH.sliceElems, AH.bytesOf, AH.strOp, AH.bound, AH.addLog, AH.missQ, AH.minmaxAV, AH.wpOpD, AH.readOf, AH.effOf, AH.mapAt, AH.iterAt, Nat.reduceBEq, Nat.reduceAdd, Nat.reduceLT, ↓reduceIte, Nat.reduceEqDiff, Nat.reduceLeDiff, Nat.reduceSub, Nat.reduceMul, Int.reduceSub, Int.reduceToNat, Int.reduceBEq, Int.reduceBNe, Int.reduceLT, Int.reduceGT, Int.reduceLE, Int.reduceGE, Int.reduceNeg, Int.reduceAdd]
/-- A text's number. -/
def sumZ (s : ByteArray) : Int := moreL 1 s.data.toList
def okSz (s : ByteArray) : Prop := s.size ≤ 1048576
instance (s : ByteArray) : Decidable (okSz s) := by unfold okSz; infer_instance
def moreT : RT := rtC (cC (aI .u32) (cC aS c0)) (fun x => okSz x.2.1) fun x => .int .u32 (moreL x.1 x.2.1.data.toList)
theorem moreT_ok : ReadF S0 60 moreT := rtC_ok (fun x h => more_ok x.1 x.2.1 h) fun _ => rfl
theorem moreT_p {n : Int} {s : ByteArray} {M : Nat → Option Blk} : moreT [.int .u32 n, .str s] M = rtC1 (fun (x : Int × ByteArray × Unit) => okSz x.2.1) (fun x => .int .u32 (moreL x.1 x.2.1.data.toList)) (some (n, s, ())) := by
  simp only [moreT, rtC_p, cC_dec, aI_dec, aS_dec, c0_dec, pairO_some]
theorem okSum : CtxOK S0 (ctxU S0 [(60, moreT)] []) := ctxU_ok ⟨moreT_ok, trivial⟩ trivial mixed
theorem sum_ok (s : ByteArray) (hs : okSz s) : Pure S0 42 [.str s] (.int .u32 (sumZ s)) := by
  refine fun_sound okSum Tryd.func42 c42 ?_
  unfold wpF F42
  simp only [AH.SD, AH.wpOp, AOp.call?, AOp.next?, bstep, AOp.map, Opd.ev, tget, argTm, evs, AV.cells, St.eff, St.put, applyWr, mset, terase, pureE, unAV, intOp, binAV, fill, mget, AH.rowAt, AH.part, retQ, rvs, retV, AH.splice, AH.sliceElems, AH.bytesOf, AH.strOp, AH.bound, AH.addLog, AH.missQ, AH.minmaxAV, AH.wpOpD, AH.readOf, AH.effOf, AH.mapAt, AH.iterAt, Nat.reduceBEq, Nat.reduceAdd, Nat.reduceLT, ↓reduceIte, Nat.reduceEqDiff, Nat.reduceLeDiff, Nat.reduceSub, Nat.reduceMul, Int.reduceSub, Int.reduceToNat, Int.reduceBEq, Int.reduceBNe, Int.reduceLT, Int.reduceGT, Int.reduceLE, Int.reduceGE, Int.reduceNeg, Int.reduceAdd, moreT_p, rtC1, hs, if_true, sumZ]
def sumT : RT := rtC (cC aS c0) (fun x => okSz x.1) fun x => .int .u32 (sumZ x.1)
theorem sumT_ok : ReadF S0 42 sumT := rtC_ok (fun x h => sum_ok x.1 h) fun _ => rfl
theorem sumT_p {s : ByteArray} {M : Nat → Option Blk} : sumT [.str s] M = rtC1 (fun (x : ByteArray × Unit) => okSz x.1) (fun x => .int .u32 (sumZ x.1)) (some (s, ())) := by
  simp only [sumT, rtC_p, cC_dec, aS_dec, c0_dec, pairO_some]

def num4T : Int → AV := fun n => .str (num4 n)
def numP (x : Int × Int × Unit) : Prop := x.2.1 = 4 ∨ x.2.1 = 2
instance : DecidablePred numP := fun x => by unfold numP; infer_instance
def numF (x : Int × Int × Unit) : AV := .str (if x.2.1 = 4 then num4 x.1 else num2 x.1)
def numT : RT := rtC (cC (aI .u64) (cC (aI .i64) c0)) numP numF
theorem numT_ok : ReadF S0 41 numT := rtC_ok (fun x h => by
  obtain ⟨n, k, u⟩ := x
  rcases h with h | h
  · simp only at h; subst h; exact number4 n
  · simp only at h; subst h; exact number2 n) fun _ => rfl
theorem numT_4 {n : Int} {M : Nat → Option Blk} : numT [.int .u64 n, .int .i64 4] M = some (.str (num4 n), []) := by
  simp only [numT, rtC_p, cC_dec, aI_dec, c0_dec, pairO_some]
  exact rtC1_eq (.inl rfl)
theorem numT_2 {n : Int} {M : Nat → Option Blk} : numT [.int .u64 n, .int .i64 2] M = some (.str (num2 n), []) := by
  simp only [numT, rtC_p, cC_dec, aI_dec, c0_dec, pairO_some]
  exact rtC1_eq (.inr rfl)
theorem num4_sz (n : Int) : (num4 n).size = 4 := rfl
theorem num2_sz (n : Int) : (num2 n).size = 2 := rfl
/-- A block's end. -/
def endS (seq at_ n : Int) : ByteArray := num4 (IntKind.u64.wrap seq) ++ num2 (IntKind.u64.wrap at_) ++ num2 (IntKind.u64.wrap n)
theorem okEnd : CtxOK S0 (ctxU S0 [(41, numT)] []) := ctxU_ok ⟨numT_ok, trivial⟩ trivial mixed
theorem end_ok (seq at_ n : Int) : Pure S0 43 [.int .i64 seq, .int .i64 at_, .int .i64 n] (.str (endS seq at_ n)) := by
  refine fun_sound okEnd Tryd.func43 c43 ?_
  unfold wpF F43
  simp only [AH.SD, AH.wpOp, AOp.call?, AOp.next?, bstep, AOp.map, Opd.ev, tget, argTm, evs, AV.cells, St.eff, St.put, applyWr, mset, terase, pureE, unAV, intOp, binAV, fill, mget, AH.rowAt, AH.part, retQ, rvs, retV, AH.splice, AH.sliceElems, AH.bytesOf, AH.strOp, AH.bound, AH.addLog, AH.missQ, AH.minmaxAV, AH.wpOpD, AH.readOf, AH.effOf, AH.mapAt, AH.iterAt, Nat.reduceBEq, Nat.reduceAdd, Nat.reduceLT, ↓reduceIte, Nat.reduceEqDiff, Nat.reduceLeDiff, Nat.reduceSub, Nat.reduceMul, Int.reduceSub, Int.reduceToNat, Int.reduceBEq, Int.reduceBNe, Int.reduceLT, Int.reduceGT, Int.reduceLE, Int.reduceGE, Int.reduceNeg, Int.reduceAdd, numT_4, numT_2, endS, num4_sz, num2_sz, ByteArray.size_append]
  decide
def endT : RT := rtP (cC (aI .i64) (cC (aI .i64) (cC (aI .i64) c0))) fun x => .str (endS x.1 x.2.1 x.2.2.1)
theorem endT_ok : ReadF S0 43 endT := rtP_ok (fun x => end_ok x.1 x.2.1 x.2.2.1) fun _ => rfl
theorem endT_p {a b c : Int} {M : Nat → Option Blk} : endT [.int .i64 a, .int .i64 b, .int .i64 c] M = some (.str (endS a b c), []) := by
  simp only [endT, rtP, cC_dec, aI_dec, c0_dec, pairO_some, Option.map_some]
def sizeN (n : Nat) : Nat := (n + 63) / 56
theorem size_ok (s : ByteArray) (hs : okSz s) : Pure S0 31 [.str s] (.int .i64 (sizeN s.size)) := by
  have h1 : s.size ≤ 1048576 := hs
  refine fun_sound okF0 Tryd.func31 c31 ?_
  unfold wpF F31
  have w1 : IntKind.i64.wrap ((s.size : Int) + 8) = ((s.size + 8 : Nat) : Int) := by rw [IntKind.wrap_i64]; omega
  have w2 : IntKind.i64.wrap (((s.size + 8 : Nat) : Int) + 56) = ((s.size + 64 : Nat) : Int) := by rw [IntKind.wrap_i64]; omega
  have w3 : IntKind.i64.wrap (((s.size + 64 : Nat) : Int) - 1) = ((s.size + 63 : Nat) : Int) := by rw [IntKind.wrap_i64]; omega
  have w4 : ((s.size + 63 : Nat) : Int).tdiv 56 = ((sizeN s.size : Nat) : Int) := by
    rw [Int.tdiv_eq_ediv_of_nonneg (by omega)]; unfold sizeN; omega
  have h5 : sizeN s.size ≤ 1048576 := by unfold sizeN; omega
  have w5 : IntKind.i64.wrap ((sizeN s.size : Nat) : Int) = ((sizeN s.size : Nat) : Int) := by rw [IntKind.wrap_i64]; omega
  simp only [AH.SD, AH.wpOp, AOp.call?, AOp.next?, bstep, AOp.map, Opd.ev, tget, argTm, evs, AV.cells, St.eff, St.put, applyWr, mset, terase, pureE, unAV, intOp, binAV, fill, mget, AH.rowAt, AH.part, retQ, rvs, retV, AH.splice, AH.sliceElems, AH.bytesOf, AH.strOp, AH.bound, AH.addLog, AH.missQ, AH.minmaxAV, AH.wpOpD, AH.readOf, AH.effOf, AH.mapAt, AH.iterAt, Nat.reduceBEq, Nat.reduceAdd, Nat.reduceLT, ↓reduceIte, Nat.reduceEqDiff, Nat.reduceLeDiff, Nat.reduceSub, Nat.reduceMul, Int.reduceSub, Int.reduceToNat, Int.reduceBEq, Int.reduceBNe, Int.reduceLT, Int.reduceGT, Int.reduceLE, Int.reduceGE, Int.reduceNeg, Int.reduceAdd, w1, w2, w3, w4, w5]
  decide
def sizeT : RT := rtC (cC aS c0) (fun x => okSz x.1) fun x => .int .i64 (sizeN x.1.size)
theorem sizeT_ok : ReadF S0 31 sizeT := rtC_ok (fun x h => size_ok x.1 h) fun _ => rfl
theorem sizeT_p {s : ByteArray} {M : Nat → Option Blk} : sizeT [.str s] M = rtC1 (fun (x : ByteArray × Unit) => okSz x.1) (fun x => .int .i64 (sizeN x.1.size)) (some (s, ())) := by
  simp only [sizeT, rtC_p, cC_dec, aS_dec, c0_dec, pairO_some]
end Go.Proofs.YtcmnchmkoghfdaaDoor.C05h
