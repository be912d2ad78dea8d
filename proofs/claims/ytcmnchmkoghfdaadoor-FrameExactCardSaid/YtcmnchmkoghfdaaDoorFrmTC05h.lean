import Derived.Test.YtcmnchmkoghfdaaDoorFrmBC05h
open Go AH
set_option linter.unusedSimpArgs false
set_option maxRecDepth 100000
namespace Go.Proofs.YtcmnchmkoghfdaaDoor.C05h
/-- How long a text is without its last bytes of one kind. -/
def trN (s : ByteArray) (b : UInt8) : Nat → Nat
  | 0 => 0
  | k + 1 => bif s.data.toList.getD k 0 == b then trN s b k else k + 1
theorem trN_le (s : ByteArray) (b : UInt8) : ∀ k, trN s b k ≤ k
  | 0 => Nat.le_refl _
  | k + 1 => by
    unfold trN
    cases s.data.toList.getD k 0 == b
    · exact Nat.le_refl _
    · exact Nat.le_succ_of_le (trN_le s b k)
theorem ex_get (s : ByteArray) {k j : Nat} (hk : k ≤ s.size) (hj : j < k) : (s.extract 0 k).data.toList.getD j 0 = s.data.toList.getD j 0 := by
  rw [Lib.extract_data]
  simp only [List.drop_zero, Nat.sub_zero]
  rw [List.getD_eq_getElem?_getD, List.getElem?_take_of_lt hj, ← List.getD_eq_getElem?_getD]
def trSt (s : ByteArray) (b : UInt8) (k : Nat) : St := ⟨[(1, .int .u8 (b.toNat : Int)), (0, .str (s.extract 0 k))], []⟩
theorem trimR_ok (s : ByteArray) (b : UInt8) (hs : okSz s) : Pure S0 74 [.str s, .int .u8 (b.toNat : Int)] (.str (s.extract 0 (trN s b s.size))) := by
  have h1 : s.size ≤ 1048576 := hs
  refine fun_sound okF0 Tryd.func74 c74 ?_
  unfold wpF F74
  simp only [AH.SD, AH.wpOp, AOp.call?, AOp.next?, bstep, AOp.map, Opd.ev, tget, argTm, evs, AV.cells, St.eff, St.put, applyWr, mset, terase, pureE, unAV, intOp, binAV, fill, mget, AH.rowAt, AH.part, retQ, rvs, retV, AH.splice, AH.sliceElems, AH.bytesOf, AH.strOp, AH.bound, AH.addLog, AH.missQ, AH.minmaxAV, AH.wpOpD, AH.readOf, AH.effOf, AH.mapAt, AH.iterAt, Nat.reduceBEq, Nat.reduceAdd, Nat.reduceLT, ↓reduceIte, Nat.reduceEqDiff, Nat.reduceLeDiff, Nat.reduceSub, Nat.reduceMul, Int.reduceSub, Int.reduceToNat, Int.reduceBEq, Int.reduceBNe, Int.reduceLT, Int.reduceGT, Int.reduceLE, Int.reduceGE, Int.reduceNeg, Int.reduceAdd]
  refine loop_do [] [1, 0] [] (α := Nat) (fun k => k) (trSt s b) (fun k => k ≤ s.size ∧ trN s b k = trN s b s.size) s.size ⟨Nat.le_refl _, rfl⟩ (by simp only [AH.SD, AH.wpOp, AOp.call?, AOp.next?, bstep, AOp.map, Opd.ev, tget, argTm, evs, AV.cells, St.eff, St.put, applyWr, mset, terase, pureE, unAV, intOp, binAV, fill, mget, AH.rowAt, AH.part, retQ, rvs, retV, AH.splice, AH.sliceElems, AH.bytesOf, AH.strOp, AH.bound, AH.addLog, AH.missQ, AH.minmaxAV, AH.wpOpD, AH.readOf, AH.effOf, AH.mapAt, AH.iterAt, Nat.reduceBEq, Nat.reduceAdd, Nat.reduceLT, ↓reduceIte, Nat.reduceEqDiff, Nat.reduceLeDiff, Nat.reduceSub, Nat.reduceMul, Int.reduceSub, Int.reduceToNat, Int.reduceBEq, Int.reduceBNe, Int.reduceLT, Int.reduceGT, Int.reduceLE, Int.reduceGE, Int.reduceNeg, Int.reduceAdd, AH.PD, heads, distN, AH.inN, posN, packM, packB, packTm, liveB, AV.inB, AV.insB, AV.ren, AV.rens, Blk.ren, Blk.inB, vstep, tput, trSt, ByteArray.extract_zero_size]) ?_
  rintro X k ⟨hk, hp⟩ ih
  have hsz : (s.extract 0 k).size = k := by rw [ByteArray.size_extract]; omega
  cases k with
  | zero =>
    have z : decide (((0 : Nat) : Int) > 0) = false := by decide
    simp only [AH.SD, AH.wpOp, AOp.call?, AOp.next?, bstep, AOp.map, Opd.ev, tget, argTm, evs, AV.cells, St.eff, St.put, applyWr, mset, terase, pureE, unAV, intOp, binAV, fill, mget, AH.rowAt, AH.part, retQ, rvs, retV, AH.splice, AH.sliceElems, AH.bytesOf, AH.strOp, AH.bound, AH.addLog, AH.missQ, AH.minmaxAV, AH.wpOpD, AH.readOf, AH.effOf, AH.mapAt, AH.iterAt, Nat.reduceBEq, Nat.reduceAdd, Nat.reduceLT, ↓reduceIte, Nat.reduceEqDiff, Nat.reduceLeDiff, Nat.reduceSub, Nat.reduceMul, Int.reduceSub, Int.reduceToNat, Int.reduceBEq, Int.reduceBNe, Int.reduceLT, Int.reduceGT, Int.reduceLE, Int.reduceGE, Int.reduceNeg, Int.reduceAdd, trSt, hsz, z]
    rw [← hp]; rfl
  | succ k =>
    have z : decide (((k + 1 : Nat) : Int) > 0) = true := by simp only [decide_eq_true_eq]; omega
    have w : IntKind.i64.wrap (((k + 1 : Nat) : Int) - 1) = (k : Int) := by rw [IntKind.wrap_i64]; omega
    have hg := ex_get s (k := k + 1) (j := k) hk (Nat.lt_succ_self _)
    have hcmp : ∀ x y : UInt8, ((x.toNat : Int) == (y.toNat : Int)) = (x == y) := fun x y => by
      rw [Bool.eq_iff_iff, beq_iff_eq, beq_iff_eq, ← UInt8.toNat_inj]; omega
    cases hb : (s.data.toList.getD k 0 == b)
    · rw [trN, hb, cond_false] at hp
      simp only [AH.SD, AH.wpOp, AOp.call?, AOp.next?, bstep, AOp.map, Opd.ev, tget, argTm, evs, AV.cells, St.eff, St.put, applyWr, mset, terase, pureE, unAV, intOp, binAV, fill, mget, AH.rowAt, AH.part, retQ, rvs, retV, AH.splice, AH.sliceElems, AH.bytesOf, AH.strOp, AH.bound, AH.addLog, AH.missQ, AH.minmaxAV, AH.wpOpD, AH.readOf, AH.effOf, AH.mapAt, AH.iterAt, Nat.reduceBEq, Nat.reduceAdd, Nat.reduceLT, ↓reduceIte, Nat.reduceEqDiff, Nat.reduceLeDiff, Nat.reduceSub, Nat.reduceMul, Int.reduceSub, Int.reduceToNat, Int.reduceBEq, Int.reduceBNe, Int.reduceLT, Int.reduceGT, Int.reduceLE, Int.reduceGE, Int.reduceNeg, Int.reduceAdd, trSt, hsz, z, w, Int.toNat_natCast, hg, hcmp, hb]
      rw [hp]
      exact ⟨by omega, rfl⟩
    · rw [trN, hb, cond_true] at hp
      simp only [AH.SD, AH.wpOp, AOp.call?, AOp.next?, bstep, AOp.map, Opd.ev, tget, argTm, evs, AV.cells, St.eff, St.put, applyWr, mset, terase, pureE, unAV, intOp, binAV, fill, mget, AH.rowAt, AH.part, retQ, rvs, retV, AH.splice, AH.sliceElems, AH.bytesOf, AH.strOp, AH.bound, AH.addLog, AH.missQ, AH.minmaxAV, AH.wpOpD, AH.readOf, AH.effOf, AH.mapAt, AH.iterAt, Nat.reduceBEq, Nat.reduceAdd, Nat.reduceLT, ↓reduceIte, Nat.reduceEqDiff, Nat.reduceLeDiff, Nat.reduceSub, Nat.reduceMul, Int.reduceSub, Int.reduceToNat, Int.reduceBEq, Int.reduceBNe, Int.reduceLT, Int.reduceGT, Int.reduceLE, Int.reduceGE, Int.reduceNeg, Int.reduceAdd, trSt, hsz, z, w, Int.toNat_natCast, hg, hcmp, hb]
      have e : (s.extract 0 (k + 1)).extract 0 k = s.extract 0 k := by
        rw [ByteArray.extract_extract]; congr 1; omega
      refine ⟨by omega, by omega, ?_⟩
      rw [e]
      refine gc_auto [] [1, 0] [] ?_
      simp only [AH.SD, AH.wpOp, AOp.call?, AOp.next?, bstep, AOp.map, Opd.ev, tget, argTm, evs, AV.cells, St.eff, St.put, applyWr, mset, terase, pureE, unAV, intOp, binAV, fill, mget, AH.rowAt, AH.part, retQ, rvs, retV, AH.splice, AH.sliceElems, AH.bytesOf, AH.strOp, AH.bound, AH.addLog, AH.missQ, AH.minmaxAV, AH.wpOpD, AH.readOf, AH.effOf, AH.mapAt, AH.iterAt, Nat.reduceBEq, Nat.reduceAdd, Nat.reduceLT, ↓reduceIte, Nat.reduceEqDiff, Nat.reduceLeDiff, Nat.reduceSub, Nat.reduceMul, Int.reduceSub, Int.reduceToNat, Int.reduceBEq, Int.reduceBNe, Int.reduceLT, Int.reduceGT, Int.reduceLE, Int.reduceGE, Int.reduceNeg, Int.reduceAdd, AH.PD, heads, distN, AH.inN, posN, packM, packB, packTm, liveB, AV.inB, AV.insB, AV.ren, AV.rens, Blk.ren, Blk.inB, vstep, tput]
      exact ih k ⟨by omega, hp⟩ (Nat.lt_succ_self _)
/-- Where a text begins without its first bytes of one kind; fuel for as many steps as there are bytes. -/
def tlN (s : ByteArray) (b : UInt8) : Nat → Nat → Nat
  | i, 0 => i
  | i, f + 1 => bif s.data.toList.getD i 0 == b then tlN s b (i + 1) f else i
def tlSt (s : ByteArray) (b : UInt8) (i : Nat) : St := ⟨[(1, .int .u8 (b.toNat : Int)), (0, .str (s.extract i s.size))], []⟩
theorem dr_get (s : ByteArray) {i : Nat} (hi : i < s.size) : (s.extract i s.size).data.toList.getD 0 0 = s.data.toList.getD i 0 := by
  rw [Lib.extract_data, List.getD_eq_getElem?_getD, List.getElem?_take_of_lt (by omega), List.getElem?_drop, Nat.add_zero, ← List.getD_eq_getElem?_getD]
theorem trimL_ok (s : ByteArray) (b : UInt8) (hs : okSz s) : Pure S0 73 [.str s, .int .u8 (b.toNat : Int)] (.str (s.extract (tlN s b 0 s.size) s.size)) := by
  have h1 : s.size ≤ 1048576 := hs
  refine fun_sound okF0 Tryd.func73 c73 ?_
  unfold wpF F73
  simp only [AH.SD, AH.wpOp, AOp.call?, AOp.next?, bstep, AOp.map, Opd.ev, tget, argTm, evs, AV.cells, St.eff, St.put, applyWr, mset, terase, pureE, unAV, intOp, binAV, fill, mget, AH.rowAt, AH.part, retQ, rvs, retV, AH.splice, AH.sliceElems, AH.bytesOf, AH.strOp, AH.bound, AH.addLog, AH.missQ, AH.minmaxAV, AH.wpOpD, AH.readOf, AH.effOf, AH.mapAt, AH.iterAt, Nat.reduceBEq, Nat.reduceAdd, Nat.reduceLT, ↓reduceIte, Nat.reduceEqDiff, Nat.reduceLeDiff, Nat.reduceSub, Nat.reduceMul, Int.reduceSub, Int.reduceToNat, Int.reduceBEq, Int.reduceBNe, Int.reduceLT, Int.reduceGT, Int.reduceLE, Int.reduceGE, Int.reduceNeg, Int.reduceAdd]
  refine loop_do [] [1, 0] [] (α := Nat) (fun i => s.size - i) (tlSt s b) (fun i => i ≤ s.size ∧ tlN s b i (s.size - i) = tlN s b 0 s.size) 0 ⟨Nat.zero_le _, rfl⟩ (by simp only [AH.SD, AH.wpOp, AOp.call?, AOp.next?, bstep, AOp.map, Opd.ev, tget, argTm, evs, AV.cells, St.eff, St.put, applyWr, mset, terase, pureE, unAV, intOp, binAV, fill, mget, AH.rowAt, AH.part, retQ, rvs, retV, AH.splice, AH.sliceElems, AH.bytesOf, AH.strOp, AH.bound, AH.addLog, AH.missQ, AH.minmaxAV, AH.wpOpD, AH.readOf, AH.effOf, AH.mapAt, AH.iterAt, Nat.reduceBEq, Nat.reduceAdd, Nat.reduceLT, ↓reduceIte, Nat.reduceEqDiff, Nat.reduceLeDiff, Nat.reduceSub, Nat.reduceMul, Int.reduceSub, Int.reduceToNat, Int.reduceBEq, Int.reduceBNe, Int.reduceLT, Int.reduceGT, Int.reduceLE, Int.reduceGE, Int.reduceNeg, Int.reduceAdd, AH.PD, heads, distN, AH.inN, posN, packM, packB, packTm, liveB, AV.inB, AV.insB, AV.ren, AV.rens, Blk.ren, Blk.inB, vstep, tput, tlSt, ByteArray.extract_zero_size]) ?_
  rintro X i ⟨hi, hp⟩ ih
  have hsz : (s.extract i s.size).size = s.size - i := by rw [ByteArray.size_extract]; omega
  rcases Nat.lt_or_ge i s.size with hlt | hge
  · have z : decide (((s.size - i : Nat) : Int) > 0) = true := by simp only [decide_eq_true_eq]; omega
    have hg := dr_get s hlt
    have hcmp : ∀ x y : UInt8, ((x.toNat : Int) == (y.toNat : Int)) = (x == y) := fun x y => by
      rw [Bool.eq_iff_iff, beq_iff_eq, beq_iff_eq, ← UInt8.toNat_inj]; omega
    have hf : s.size - i = (s.size - (i + 1)) + 1 := by omega
    cases hb : (s.data.toList.getD i 0 == b)
    · rw [hf, tlN, hb, cond_false] at hp
      simp only [AH.SD, AH.wpOp, AOp.call?, AOp.next?, bstep, AOp.map, Opd.ev, tget, argTm, evs, AV.cells, St.eff, St.put, applyWr, mset, terase, pureE, unAV, intOp, binAV, fill, mget, AH.rowAt, AH.part, retQ, rvs, retV, AH.splice, AH.sliceElems, AH.bytesOf, AH.strOp, AH.bound, AH.addLog, AH.missQ, AH.minmaxAV, AH.wpOpD, AH.readOf, AH.effOf, AH.mapAt, AH.iterAt, Nat.reduceBEq, Nat.reduceAdd, Nat.reduceLT, ↓reduceIte, Nat.reduceEqDiff, Nat.reduceLeDiff, Nat.reduceSub, Nat.reduceMul, Int.reduceSub, Int.reduceToNat, Int.reduceBEq, Int.reduceBNe, Int.reduceLT, Int.reduceGT, Int.reduceLE, Int.reduceGE, Int.reduceNeg, Int.reduceAdd, tlSt, hsz, z, hg, hcmp, hb, Int.toNat_zero]
      rw [hp]
      exact ⟨by omega, rfl⟩
    · rw [hf, tlN, hb, cond_true] at hp
      simp only [AH.SD, AH.wpOp, AOp.call?, AOp.next?, bstep, AOp.map, Opd.ev, tget, argTm, evs, AV.cells, St.eff, St.put, applyWr, mset, terase, pureE, unAV, intOp, binAV, fill, mget, AH.rowAt, AH.part, retQ, rvs, retV, AH.splice, AH.sliceElems, AH.bytesOf, AH.strOp, AH.bound, AH.addLog, AH.missQ, AH.minmaxAV, AH.wpOpD, AH.readOf, AH.effOf, AH.mapAt, AH.iterAt, Nat.reduceBEq, Nat.reduceAdd, Nat.reduceLT, ↓reduceIte, Nat.reduceEqDiff, Nat.reduceLeDiff, Nat.reduceSub, Nat.reduceMul, Int.reduceSub, Int.reduceToNat, Int.reduceBEq, Int.reduceBNe, Int.reduceLT, Int.reduceGT, Int.reduceLE, Int.reduceGE, Int.reduceNeg, Int.reduceAdd, tlSt, hsz, z, hg, hcmp, hb, Int.toNat_zero]
      have e : (s.extract i s.size).extract 1 (s.size - i) = s.extract (i + 1) s.size := by
        rw [ByteArray.extract_extract]; congr 1; omega
      refine ⟨by omega, by omega, ?_⟩
      rw [e]
      refine gc_auto [] [1, 0] [] ?_
      simp only [AH.SD, AH.wpOp, AOp.call?, AOp.next?, bstep, AOp.map, Opd.ev, tget, argTm, evs, AV.cells, St.eff, St.put, applyWr, mset, terase, pureE, unAV, intOp, binAV, fill, mget, AH.rowAt, AH.part, retQ, rvs, retV, AH.splice, AH.sliceElems, AH.bytesOf, AH.strOp, AH.bound, AH.addLog, AH.missQ, AH.minmaxAV, AH.wpOpD, AH.readOf, AH.effOf, AH.mapAt, AH.iterAt, Nat.reduceBEq, Nat.reduceAdd, Nat.reduceLT, ↓reduceIte, Nat.reduceEqDiff, Nat.reduceLeDiff, Nat.reduceSub, Nat.reduceMul, Int.reduceSub, Int.reduceToNat, Int.reduceBEq, Int.reduceBNe, Int.reduceLT, Int.reduceGT, Int.reduceLE, Int.reduceGE, Int.reduceNeg, Int.reduceAdd, AH.PD, heads, distN, AH.inN, posN, packM, packB, packTm, liveB, AV.inB, AV.insB, AV.ren, AV.rens, Blk.ren, Blk.inB, vstep, tput]
      exact ih (i + 1) ⟨hlt, hp⟩ (by omega)
  · have z : decide (((s.size - i : Nat) : Int) > 0) = false := by simp only [decide_eq_false_iff_not]; omega
    obtain rfl : i = s.size := by omega
    rw [Nat.sub_self, tlN] at hp
    simp only [AH.SD, AH.wpOp, AOp.call?, AOp.next?, bstep, AOp.map, Opd.ev, tget, argTm, evs, AV.cells, St.eff, St.put, applyWr, mset, terase, pureE, unAV, intOp, binAV, fill, mget, AH.rowAt, AH.part, retQ, rvs, retV, AH.splice, AH.sliceElems, AH.bytesOf, AH.strOp, AH.bound, AH.addLog, AH.missQ, AH.minmaxAV, AH.wpOpD, AH.readOf, AH.effOf, AH.mapAt, AH.iterAt, Nat.reduceBEq, Nat.reduceAdd, Nat.reduceLT, ↓reduceIte, Nat.reduceEqDiff, Nat.reduceLeDiff, Nat.reduceSub, Nat.reduceMul, Int.reduceSub, Int.reduceToNat, Int.reduceBEq, Int.reduceBNe, Int.reduceLT, Int.reduceGT, Int.reduceLE, Int.reduceGE, Int.reduceNeg, Int.reduceAdd, tlSt, hsz, z]
    rw [← hp]
def okTr (x : ByteArray × UInt8) : Prop := okSz x.1
def aU8 : Arg UInt8 where
  enc b := .int .u8 (b.toNat : Int)
  dec v := match v with
    | .int .u8 n => if n = ((UInt8.ofNat n.toNat).toNat : Int) then some (UInt8.ofNat n.toNat) else none
    | _ => none
  ok v b h := by
    split at h
    · split at h
      · rename_i n hn
        simp only [Option.some.injEq] at h
        subst h
        rw [← hn]
      · cases h
    · cases h
  de b := by simp
  flat _ := rfl
theorem aU8_dec {b : UInt8} : aU8.dec (.int .u8 (b.toNat : Int)) = some b := aU8.de b
def trRT : RT := rtC (cC aS (cC aU8 c0)) (fun x => okSz x.1) fun x => .str (x.1.extract 0 (trN x.1 x.2.1 x.1.size))
theorem trRT_ok : ReadF S0 74 trRT := rtC_ok (fun x h => trimR_ok x.1 x.2.1 h) fun _ => rfl
def trLT : RT := rtC (cC aS (cC aU8 c0)) (fun x => okSz x.1) fun x => .str (x.1.extract (tlN x.1 x.2.1 0 x.1.size) x.1.size)
theorem trLT_ok : ReadF S0 73 trLT := rtC_ok (fun x h => trimL_ok x.1 x.2.1 h) fun _ => rfl
theorem trRT_p {s : ByteArray} {b : UInt8} {M : Nat → Option Blk} (h : okSz s) : trRT [.str s, .int .u8 (b.toNat : Int)] M = some (.str (s.extract 0 (trN s b s.size)), []) := by
  simp only [trRT, rtC_p, cC_dec, aS_dec, aU8_dec, c0_dec, pairO_some]
  exact rtC1_eq h
theorem trLT_p {s : ByteArray} {b : UInt8} {M : Nat → Option Blk} (h : okSz s) : trLT [.str s, .int .u8 (b.toNat : Int)] M = some (.str (s.extract (tlN s b 0 s.size) s.size), []) := by
  simp only [trLT, rtC_p, cC_dec, aS_dec, aU8_dec, c0_dec, pairO_some]
  exact rtC1_eq h
def trim0 (s : ByteArray) : ByteArray := bif s.toList == (⟨#[]⟩ : ByteArray).toList then s else (s.extract 0 (trN s 0 s.size)).extract (tlN (s.extract 0 (trN s 0 s.size)) 0 0 (s.extract 0 (trN s 0 s.size)).size) (s.extract 0 (trN s 0 s.size)).size
theorem okTrim : CtxOK S0 (ctxU S0 [(74, trRT), (73, trLT)] []) := ctxU_ok ⟨trRT_ok, trLT_ok, trivial⟩ trivial mixed
theorem trim_ok (s : ByteArray) (hs : okSz s) : Pure S0 62 [.str s, .str ⟨#[0]⟩] (.str (trim0 s)) := by
  refine fun_sound okTrim Tryd.func62 c62 ?_
  unfold wpF F62
  have h2 : okSz (s.extract 0 (trN s 0 s.size)) := by
    have h1 : s.size ≤ 1048576 := hs
    show (s.extract 0 (trN s 0 s.size)).size ≤ 1048576
    rw [ByteArray.size_extract]; omega
  have h0 : ((⟨#[0]⟩ : ByteArray).toList == (⟨#[]⟩ : ByteArray).toList) = false := by decide +kernel
  have h3 : (⟨#[0]⟩ : ByteArray).size = 1 := rfl
  have hb0 : (⟨#[0]⟩ : ByteArray).data.toList.getD 0 0 = (0 : UInt8) := rfl
  have hd0 : decide (((0 : UInt8).toNat : Int) < 128) = true := by decide
  have e1 := fun M => trRT_p (s := s) (b := 0) (M := M) hs
  have e2 := fun M => trLT_p (b := 0) (M := M) h2
  cases he : (s.toList == (⟨#[]⟩ : ByteArray).toList)
  · simp only [AH.SD, AH.wpOp, AOp.call?, AOp.next?, bstep, AOp.map, Opd.ev, tget, argTm, evs, AV.cells, St.eff, St.put, applyWr, mset, terase, pureE, unAV, intOp, binAV, fill, mget, AH.rowAt, AH.part, retQ, rvs, retV, AH.splice, AH.sliceElems, AH.bytesOf, AH.strOp, AH.bound, AH.addLog, AH.missQ, AH.minmaxAV, AH.wpOpD, AH.readOf, AH.effOf, AH.mapAt, AH.iterAt, Nat.reduceBEq, Nat.reduceAdd, Nat.reduceLT, ↓reduceIte, Nat.reduceEqDiff, Nat.reduceLeDiff, Nat.reduceSub, Nat.reduceMul, Int.reduceSub, Int.reduceToNat, Int.reduceBEq, Int.reduceBNe, Int.reduceLT, Int.reduceGT, Int.reduceLE, Int.reduceGE, Int.reduceNeg, Int.reduceAdd, he, h0, h3, trim0, hb0, hd0, e1, e2]
    repeat (refine ⟨by first | rfl | decide | omega | (simp only [List.length_map, and_true]; omega) | (simp only [List.length_map, List.length_set, and_true]; omega), ?_⟩)
    trivial
  · simp only [AH.SD, AH.wpOp, AOp.call?, AOp.next?, bstep, AOp.map, Opd.ev, tget, argTm, evs, AV.cells, St.eff, St.put, applyWr, mset, terase, pureE, unAV, intOp, binAV, fill, mget, AH.rowAt, AH.part, retQ, rvs, retV, AH.splice, AH.sliceElems, AH.bytesOf, AH.strOp, AH.bound, AH.addLog, AH.missQ, AH.minmaxAV, AH.wpOpD, AH.readOf, AH.effOf, AH.mapAt, AH.iterAt, Nat.reduceBEq, Nat.reduceAdd, Nat.reduceLT, ↓reduceIte, Nat.reduceEqDiff, Nat.reduceLeDiff, Nat.reduceSub, Nat.reduceMul, Int.reduceSub, Int.reduceToNat, Int.reduceBEq, Int.reduceBNe, Int.reduceLT, Int.reduceGT, Int.reduceLE, Int.reduceGE, Int.reduceNeg, Int.reduceAdd, he, trim0]
def trimT : RT := rtC (cC aS (cC aS c0)) (fun x => okSz x.1 ∧ x.2.1 = ⟨#[0]⟩) fun x => .str (trim0 x.1)
theorem trimT_ok : ReadF S0 62 trimT := rtC_ok (fun x h => by
  obtain ⟨s, c, u⟩ := x
  obtain ⟨h1, h2⟩ := h
  simp only at h1 h2
  subst h2
  exact trim_ok s h1) fun _ => rfl
theorem trimT_p {s : ByteArray} {M : Nat → Option Blk} (h : okSz s) : trimT [.str s, .str ⟨#[0]⟩] M = some (.str (trim0 s), []) := by
  simp only [trimT, rtC_p, cC_dec, aS_dec, c0_dec, pairO_some]
  exact rtC1_eq ⟨h, rfl⟩
/-- Is what trimming leaves nothing? Just where there is nothing but zeros. -/
def allZ (s : ByteArray) : Prop := ∀ b ∈ s.data.toList, b = 0
theorem trN_zero (s : ByteArray) : ∀ k, (∀ j, j < k → s.data.toList.getD j 0 = 0) → trN s 0 k = 0
  | 0, _ => rfl
  | k + 1, h => by
    rw [trN, h k (Nat.lt_succ_self _)]
    simp only [beq_self_eq_true, cond_true]
    exact trN_zero s k fun j hj => h j (Nat.lt_succ_of_lt hj)
theorem trN_last (s : ByteArray) : ∀ k, trN s 0 k = 0 ∨ ∃ j, trN s 0 k = j + 1 ∧ j < k ∧ s.data.toList.getD j 0 ≠ 0
  | 0 => .inl rfl
  | k + 1 => by
    unfold trN
    cases h : s.data.toList.getD k 0 == 0
    · exact .inr ⟨k, rfl, Nat.lt_succ_self _, by simpa using h⟩
    · simp only [cond_true]
      rcases trN_last s k with q | ⟨j, q1, q2, q3⟩
      · exact .inl q
      · exact .inr ⟨j, q1, Nat.lt_succ_of_lt q2, q3⟩
end Go.Proofs.YtcmnchmkoghfdaaDoor.C05h
