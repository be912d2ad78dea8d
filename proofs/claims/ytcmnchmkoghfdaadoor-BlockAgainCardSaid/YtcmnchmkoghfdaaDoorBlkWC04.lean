import Derived.Test.YtcmnchmkoghfdaaDoorBlkC04
open Go AH
set_option linter.unusedSimpArgs false
set_option maxRecDepth 100000
namespace Go.Proofs.YtcmnchmkoghfdaaDoor.C04
def rdT : RT := rtElse (cC aNil (cC (aI .i64) c0)) (fun _ => .tup [.str ⟨#[]⟩, errA 2]) (rtO dkO (cC (aI .i64) c0) fun d x => some (rdA d x.1))
set_option maxRecDepth 100000 in
theorem read_nil (at_ : Int) : Pure S0 14 [.nilp, .int .i64 at_] (.tup [.str ⟨#[]⟩, errA 2]) := by
  refine fun_sound okChk Tryd.func14 c14 ?_
  unfold wpF F14
  simp only [AH.SD, AH.wpOp, AOp.call?, AOp.next?, bstep, AOp.map, Opd.ev, tget, argTm, evs, AV.cells, St.eff, St.put, applyWr, mset, terase, pureE, unAV, intOp, binAV, fill, mget, AH.rowAt, AH.part, retQ, rvs, retV, AH.splice, AH.sliceElems, AH.bytesOf, AH.strOp, AH.bound, AH.addLog, AH.missQ, AH.minmaxAV, AH.wpOpD, AH.readOf, AH.effOf, AH.mapAt, AH.iterAt, Nat.reduceBEq, Nat.reduceAdd, Nat.reduceLT, ↓reduceIte, Nat.reduceEqDiff, Nat.reduceLeDiff, Nat.reduceSub, Nat.reduceMul, Int.reduceSub, Int.reduceToNat, Int.reduceBEq, Int.reduceBNe, Int.reduceLT, Int.reduceGT, Int.reduceLE, Int.reduceGE, Int.reduceNeg, Int.reduceAdd, checkT_n, errA_nil]
theorem rdA_flat (d : Dk) (at_ : Int) : (rdA d at_).lt 0 = true := by
  simp only [rdA, AV.lt, AV.lts, errA_flat, Bool.and_self]
theorem rdT_ok : ReadF S0 14 rdT := rtElse_ok (fun x => read_nil x.2.1) (fun _ => rfl) (rtO_ok fun d x v h => by
  simp only [Option.some.injEq] at h; subst h
  exact ⟨rdA_flat _ _, read_ok d x.1⟩)
theorem rdT_p {p : Nat} {at_ : Int} {M : Nat → Option Blk} : rdT [.ptr p 0 0, .int .i64 at_] M = rtO2 (fun d (x : Int × Unit) => some (rdA d x.1)) (dkR M p (M p)) (some (at_, ())) := by
  simp only [rdT, rtElse_eq, rtO_eq, cC_dec, aNil_ptr, aI_dec, c0_dec, pairO_none, pairO_some, Option.map_none, elseO_none, dkO_dec]
theorem rdT_n {at_ : Int} {M : Nat → Option Blk} : rdT [.nilp, .int .i64 at_] M = some (.tup [.str ⟨#[]⟩, errA 2], []) := by
  simp only [rdT, rtElse_eq, cC_dec, aNil_dec, aI_dec, c0_dec, pairO_some, Option.map_some, elseO_some]

def maxI (x y : Int) : Int := if y > x then y else x
def minI (x y : Int) : Int := if y < x then y else x
/-- Of a write: its error's kind, and the disk behind it. -/
def wrD (d : Dk) (at_ : Int) (s : ByteArray) : Nat × Dk :=
  if s.size ≠ 64 then (1, d) else
  if chk d at_ ≠ 0 then (chk d at_, d) else
  if d.fuse = 0 then (14, { d with L := d.L.set at_.toNat (s.extract 0 d.torn.toNat ++ (d.L.getD at_.toNat ⟨#[]⟩).extract d.torn.toNat 64), away := true }) else
  (0, { d with L := d.L.set at_.toNat s, fuse := maxI (IntKind.i64.wrap (d.fuse - 1)) (-1), writes := IntKind.i64.wrap (d.writes + 1) })
def Dk.ok (d : Dk) : Prop := (∀ b ∈ d.L, b.size = 64) ∧ 0 ≤ d.torn ∧ d.torn ≤ 64 ∧ d.L.length ≤ 4096
theorem set_strC (L : List ByteArray) (i : Nat) (s : ByteArray) : (L.map strC).set i [.str s] = (L.set i s).map strC := by rw [List.map_set]; rfl
set_option maxRecDepth 100000 in
theorem write_ok (d : Dk) (hd : d.ok) (at_ : Int) (s : ByteArray) : CallA1 S0 20 [.ptr 0 0 0, .int .i64 at_, .str s] (dkM d) fun r m => r = errA (wrD d at_ s).1 ∧ m = dkM (wrD d at_ s).2 := by
  refine fun_sound okChk Tryd.func20 c20 ?_
  unfold wpF F20
  by_cases hs : s.size = 64
  · have hs1 : ((s.size : Int) != 64) = false := by rw [hs]; rfl
    have hs2 : ¬ (s.size ≠ 64) := fun h => h hs
    simp only [AH.SD, AH.wpOp, AOp.call?, AOp.next?, bstep, AOp.map, Opd.ev, tget, argTm, evs, AV.cells, St.eff, St.put, applyWr, mset, terase, pureE, unAV, intOp, binAV, fill, mget, AH.rowAt, AH.part, retQ, rvs, retV, AH.splice, AH.sliceElems, AH.bytesOf, AH.strOp, AH.bound, AH.addLog, AH.missQ, AH.minmaxAV, AH.wpOpD, AH.readOf, AH.effOf, AH.mapAt, AH.iterAt, Nat.reduceBEq, Nat.reduceAdd, Nat.reduceLT, ↓reduceIte, Nat.reduceEqDiff, Nat.reduceLeDiff, Nat.reduceSub, Nat.reduceMul, Int.reduceSub, Int.reduceToNat, Int.reduceBEq, Int.reduceBNe, Int.reduceLT, Int.reduceGT, Int.reduceLE, Int.reduceGE, Int.reduceNeg, Int.reduceAdd, AH.PD, heads, distN, AH.inN, posN, packM, packB, packTm, liveB, AV.inB, AV.insB, AV.ren, AV.rens, Blk.ren, Blk.inB, vstep, tput, vw, shift, newOnes, rowsM, blkIn, rwB, @flat_lts, AV.lt, AV.lts, Nat.sub_self, AH.rtO_eq, AH.rtO2_eq, AH.rtO2_none, AH.etO_eq, AH.etO2_eq, AH.etO2_none, AH.useO_some, AH.rtElse_eq, AH.elseO_some, AH.elseO_none, AH.etN_eq, Option.bind_some, Option.bind_none, AH.pairO_some, AH.pairO_none, AH.cC_dec, AH.cC_nil, AH.c0_dec, AH.c0_dec1, AH.aI_dec, AH.aS_dec, AH.aB_dec, AH.aNil_dec, AH.aNil_ptr, Option.map_none, effS, wrS, newS, backNo, AH.isIn, AH.posOf, AH.rwB, List.all_cons, List.all_nil, List.getElem?_cons_zero, List.getElem?_cons_succ, List.getElem?_nil, AH.appE_some, List.contains_cons, List.contains_nil, Nat.add_zero, dkM, hs1, checkT_p, dkR_eq, dkB_eq, Dk.eta, ne_eq, Nat.reduceEqDiff, Nat.zero_ne_one, not_false_eq_true]
    rcases chk_cases d at_ with h | ⟨k, h, _⟩
    · obtain ⟨i, rfl, hi, ha⟩ := chk_in h
      have hg : d.L.getD i ⟨#[]⟩ = d.L[i] := by rw [List.getD_eq_getElem?_getD, List.getElem?_eq_getElem hi]; rfl
      have hz : d.L[i].size = 64 := hd.1 _ (List.getElem_mem hi)
      obtain ⟨q, hq⟩ := Int.eq_ofNat_of_zero_le hd.2.1
      have hq2 := hd.2.2.1
      have hh : ¬ (chk d (i : Int) ≠ 0) := fun z => z h
      by_cases hf : d.fuse = 0
      · have hf1 : ((0 : Int) == 0) = true := rfl
        have e : wrD d (i : Int) s = (14, { d with L := d.L.set i (s.extract 0 q ++ d.L[i].extract q 64), away := true }) := by
          simp only [wrD, hs2, hh, hf, hq, hg, Int.toNat_natCast, if_true, if_false]
        simp only [AH.SD, AH.wpOp, AOp.call?, AOp.next?, bstep, AOp.map, Opd.ev, tget, argTm, evs, AV.cells, St.eff, St.put, applyWr, mset, terase, pureE, unAV, intOp, binAV, fill, mget, AH.rowAt, AH.part, retQ, rvs, retV, AH.splice, AH.sliceElems, AH.bytesOf, AH.strOp, AH.bound, AH.addLog, AH.missQ, AH.minmaxAV, AH.wpOpD, AH.readOf, AH.effOf, AH.mapAt, AH.iterAt, Nat.reduceBEq, Nat.reduceAdd, Nat.reduceLT, ↓reduceIte, Nat.reduceEqDiff, Nat.reduceLeDiff, Nat.reduceSub, Nat.reduceMul, Int.reduceSub, Int.reduceToNat, Int.reduceBEq, Int.reduceBNe, Int.reduceLT, Int.reduceGT, Int.reduceLE, Int.reduceGE, Int.reduceNeg, Int.reduceAdd, h, errA_nil, hf, hf1, getD_enc, hi, strC_eq, hq, Int.toNat_natCast, hs, hz, e, errA14]
        repeat (refine ⟨by first | rfl | decide | omega | (simp only [List.length_map, and_true]; omega) | (simp only [List.length_map, List.length_set, and_true]; omega), ?_⟩)
        have e1 : ((s.extract 0 q).size + (d.L[i].extract q 64).size : Nat) = 64 := by
          rw [ByteArray.size_extract, ByteArray.size_extract, hz, hs]; omega
        simp only [AH.SD, AH.wpOp, AOp.call?, AOp.next?, bstep, AOp.map, Opd.ev, tget, argTm, evs, AV.cells, St.eff, St.put, applyWr, mset, terase, pureE, unAV, intOp, binAV, fill, mget, AH.rowAt, AH.part, retQ, rvs, retV, AH.splice, AH.sliceElems, AH.bytesOf, AH.strOp, AH.bound, AH.addLog, AH.missQ, AH.minmaxAV, AH.wpOpD, AH.readOf, AH.effOf, AH.mapAt, AH.iterAt, Nat.reduceBEq, Nat.reduceAdd, Nat.reduceLT, ↓reduceIte, Nat.reduceEqDiff, Nat.reduceLeDiff, Nat.reduceSub, Nat.reduceMul, Int.reduceSub, Int.reduceToNat, Int.reduceBEq, Int.reduceBNe, Int.reduceLT, Int.reduceGT, Int.reduceLE, Int.reduceGE, Int.reduceNeg, Int.reduceAdd, e1, set_strC, List.length_set, hq]
        repeat (refine ⟨by first | rfl | decide | omega | (simp only [List.length_map, and_true]; omega) | (simp only [List.length_map, List.length_set, and_true]; omega), ?_⟩)
        trivial
      · have hf1 : (d.fuse == 0) = false := by simpa using hf
        have e : wrD d (i : Int) s = (0, { d with L := d.L.set i s, fuse := if -1 > IntKind.i64.wrap (d.fuse - 1) then -1 else IntKind.i64.wrap (d.fuse - 1), writes := IntKind.i64.wrap (d.writes + 1) }) := by
          simp only [wrD, hs2, hh, hf, Int.toNat_natCast, if_true, if_false, maxI]
        simp only [AH.SD, AH.wpOp, AOp.call?, AOp.next?, bstep, AOp.map, Opd.ev, tget, argTm, evs, AV.cells, St.eff, St.put, applyWr, mset, terase, pureE, unAV, intOp, binAV, fill, mget, AH.rowAt, AH.part, retQ, rvs, retV, AH.splice, AH.sliceElems, AH.bytesOf, AH.strOp, AH.bound, AH.addLog, AH.missQ, AH.minmaxAV, AH.wpOpD, AH.readOf, AH.effOf, AH.mapAt, AH.iterAt, Nat.reduceBEq, Nat.reduceAdd, Nat.reduceLT, ↓reduceIte, Nat.reduceEqDiff, Nat.reduceLeDiff, Nat.reduceSub, Nat.reduceMul, Int.reduceSub, Int.reduceToNat, Int.reduceBEq, Int.reduceBNe, Int.reduceLT, Int.reduceGT, Int.reduceLE, Int.reduceGE, Int.reduceNeg, Int.reduceAdd, h, errA_nil, hf1, getD_enc, hi, Int.toNat_natCast, strC_eq, e, set_strC, errA0, List.length_set]
        repeat (refine ⟨by first | rfl | decide | omega | (simp only [List.length_map, and_true]; omega) | (simp only [List.length_map, List.length_set, and_true]; omega), ?_⟩)
        try trivial
    · have hh : chk d at_ ≠ 0 := by omega
      have e : wrD d at_ s = (chk d at_, d) := by simp only [wrD, hs2, hh, ne_eq, not_false_eq_true, if_true, if_false]
      simp only [AH.SD, AH.wpOp, AOp.call?, AOp.next?, bstep, AOp.map, Opd.ev, tget, argTm, evs, AV.cells, St.eff, St.put, applyWr, mset, terase, pureE, unAV, intOp, binAV, fill, mget, AH.rowAt, AH.part, retQ, rvs, retV, AH.splice, AH.sliceElems, AH.bytesOf, AH.strOp, AH.bound, AH.addLog, AH.missQ, AH.minmaxAV, AH.wpOpD, AH.readOf, AH.effOf, AH.mapAt, AH.iterAt, Nat.reduceBEq, Nat.reduceAdd, Nat.reduceLT, ↓reduceIte, Nat.reduceEqDiff, Nat.reduceLeDiff, Nat.reduceSub, Nat.reduceMul, Int.reduceSub, Int.reduceToNat, Int.reduceBEq, Int.reduceBNe, Int.reduceLT, Int.reduceGT, Int.reduceLE, Int.reduceGE, Int.reduceNeg, Int.reduceAdd, h, errA_nil, e]
  · have hs1 : ((s.size : Int) != 64) = true := by
      have : (s.size : Int) ≠ 64 := by omega
      simpa using this
    have e : wrD d at_ s = (1, d) := by simp only [wrD, hs, ne_eq, not_false_eq_true, if_true]
    simp only [AH.SD, AH.wpOp, AOp.call?, AOp.next?, bstep, AOp.map, Opd.ev, tget, argTm, evs, AV.cells, St.eff, St.put, applyWr, mset, terase, pureE, unAV, intOp, binAV, fill, mget, AH.rowAt, AH.part, retQ, rvs, retV, AH.splice, AH.sliceElems, AH.bytesOf, AH.strOp, AH.bound, AH.addLog, AH.missQ, AH.minmaxAV, AH.wpOpD, AH.readOf, AH.effOf, AH.mapAt, AH.iterAt, Nat.reduceBEq, Nat.reduceAdd, Nat.reduceLT, ↓reduceIte, Nat.reduceEqDiff, Nat.reduceLeDiff, Nat.reduceSub, Nat.reduceMul, Int.reduceSub, Int.reduceToNat, Int.reduceBEq, Int.reduceBNe, Int.reduceLT, Int.reduceGT, Int.reduceLE, Int.reduceGE, Int.reduceNeg, Int.reduceAdd, dkM, hs1, e, errA1]
theorem getD_mem {α : Type} {l : List α} {i : Nat} {x : α} (h : i < l.length) : l.getD i x ∈ l := by
  rw [List.getD_eq_getElem?_getD, List.getElem?_eq_getElem h]; exact List.getElem_mem h
theorem wr_ok {d : Dk} (hd : d.ok) (at_ : Int) (s : ByteArray) : (wrD d at_ s).2.ok := by
  unfold wrD
  split
  · exact hd
  · rename_i hs
    split
    · exact hd
    · rename_i hc
      obtain ⟨i, rfl, hi, _⟩ := chk_in (Decidable.not_not.1 hc)
      have hs' : s.size = 64 := Decidable.not_not.1 hs
      split
      · refine ⟨fun b hb => ?_, hd.2.1, hd.2.2.1, by simpa using hd.2.2.2⟩
        rcases List.mem_or_eq_of_mem_set hb with h | rfl
        · exact hd.1 b h
        · have hz : (d.L.getD ((i : Int)).toNat ⟨#[]⟩).size = 64 := hd.1 _ (getD_mem (by simpa using hi))
          have h1 := hd.2.1
          have h2 := hd.2.2.1
          rw [ByteArray.size_append, ByteArray.size_extract, ByteArray.size_extract, hz, hs']; omega
      · refine ⟨fun b hb => ?_, hd.2.1, hd.2.2.1, by simpa using hd.2.2.2⟩
        rcases List.mem_or_eq_of_mem_set hb with h | rfl
        · exact hd.1 b h
        · exact hs'
theorem wr_len (d : Dk) (at_ : Int) (s : ByteArray) : (wrD d at_ s).2.L.length = d.L.length := by
  unfold wrD
  split
  · rfl
  · split
    · rfl
    · split <;> simp
instance (d : Dk) : Decidable d.ok := by unfold Dk.ok; infer_instance
theorem wrD_kind (d : Dk) (at_ : Int) (s : ByteArray) : (wrD d at_ s).1 ≤ 14 := by
  unfold wrD
  split
  · simp
  · split
    · rcases chk_cases d at_ with h | ⟨k, h, hk⟩ <;> simp only <;> omega
    · split <;> simp
def writeT : ET := etO dkO (cC (aI .i64) (cC aS c0)) fun d x => if d.ok then some (errA (wrD d x.1 x.2.1).1, dkM (wrD d x.1 x.2.1).2) else none
theorem writeT_ok : EffF S0 20 writeT := etO_ok fun d x v m' h => by
  split at h
  · rename_i hd
    simp only [Option.some.injEq, Prod.mk.injEq] at h
    obtain ⟨rfl, rfl⟩ := h
    exact ⟨⟨Nat.le_refl 2, rfl⟩, write_ok d hd x.1 x.2.1⟩
  · cases h
theorem writeT_p {p n : Nat} {at_ : Int} {s : ByteArray} {M : Nat → Option Blk} : writeT [.ptr p 0 0, .int .i64 at_, .str s] M n = etO2 n (fun d (x : Int × ByteArray × Unit) => if d.ok then some (errA (wrD d x.1 x.2.1).1, dkM (wrD d x.1 x.2.1).2) else none) (dkR M p (M p)) (some (at_, s, ())) := by
  simp only [writeT, etO_eq, cC_dec, aI_dec, aS_dec, c0_dec, pairO_some, dkO_dec]
set_option maxRecDepth 100000 in
theorem write_nil (at_ : Int) (s : ByteArray) : Pure S0 20 [.nilp, .int .i64 at_, .str s] (errA 2) := by
  refine fun_sound okChk Tryd.func20 c20 ?_
  unfold wpF F20
  simp only [AH.SD, AH.wpOp, AOp.call?, AOp.next?, bstep, AOp.map, Opd.ev, tget, argTm, evs, AV.cells, St.eff, St.put, applyWr, mset, terase, pureE, unAV, intOp, binAV, fill, mget, AH.rowAt, AH.part, retQ, rvs, retV, AH.splice, AH.sliceElems, AH.bytesOf, AH.strOp, AH.bound, AH.addLog, AH.missQ, AH.minmaxAV, AH.wpOpD, AH.readOf, AH.effOf, AH.mapAt, AH.iterAt, Nat.reduceBEq, Nat.reduceAdd, Nat.reduceLT, ↓reduceIte, Nat.reduceEqDiff, Nat.reduceLeDiff, Nat.reduceSub, Nat.reduceMul, Int.reduceSub, Int.reduceToNat, Int.reduceBEq, Int.reduceBNe, Int.reduceLT, Int.reduceGT, Int.reduceLE, Int.reduceGE, Int.reduceNeg, Int.reduceAdd, checkT_n, errA_nil]
def writeNT : RT := rtP (cC aNil (cC (aI .i64) (cC aS c0))) fun _ => errA 2
theorem writeNT_ok : ReadF S0 20 writeNT := rtP_ok (fun x => write_nil x.2.1 x.2.2.1) fun _ => rfl
theorem writeNT_n {at_ : Int} {s : ByteArray} {M : Nat → Option Blk} : writeNT [.nilp, .int .i64 at_, .str s] M = some (errA 2, []) := by
  simp only [writeNT, rtP, cC_dec, aNil_dec, aI_dec, aS_dec, c0_dec, pairO_some, Option.map_some]
theorem writeNT_p {p : Nat} {at_ : Int} {s : ByteArray} {M : Nat → Option Blk} : writeNT [.ptr p 0 0, .int .i64 at_, .str s] M = none := by
  simp only [writeNT, rtP, cC_dec, aNil_ptr, pairO_none, Option.map_none]

def fuD (d : Dk) (n torn : Int) : Dk := bif d.away then d else { d with fuse := maxI n (-1), torn := minI (maxI torn 0) 64 }
theorem minI_in (x : Int) : 0 ≤ minI (maxI x 0) 64 ∧ minI (maxI x 0) 64 ≤ 64 := by
  unfold minI maxI
  split <;> split <;> omega
theorem fu_ok {d : Dk} (hd : d.ok) (n torn : Int) : (fuD d n torn).ok := by
  unfold fuD
  cases d.away
  · exact ⟨hd.1, (minI_in torn).1, (minI_in torn).2, hd.2.2.2⟩
  · exact hd
theorem fu_len (d : Dk) (n torn : Int) : (fuD d n torn).L = d.L := by unfold fuD; cases d.away <;> rfl
set_option maxRecDepth 100000 in
theorem fuse_ok (d : Dk) (n torn : Int) : CallA1 S0 16 [.ptr 0 0 0, .int .i64 n, .int .i64 torn] (dkM d) fun r m => r = .tup [] ∧ m = dkM (fuD d n torn) := by
  refine fun_sound okZ0 Tryd.func16 c16 ?_
  unfold wpF F16
  cases h : d.away
  · have e : fuD d n torn = { d with away := false, fuse := if -1 > n then -1 else n, torn := if 64 < (if 0 > torn then 0 else torn) then 64 else if 0 > torn then 0 else torn } := by
      rw [fuD, h]; rfl
    simp only [AH.SD, AH.wpOp, AOp.call?, AOp.next?, bstep, AOp.map, Opd.ev, tget, argTm, evs, AV.cells, St.eff, St.put, applyWr, mset, terase, pureE, unAV, intOp, binAV, fill, mget, AH.rowAt, AH.part, retQ, rvs, retV, AH.splice, AH.sliceElems, AH.bytesOf, AH.strOp, AH.bound, AH.addLog, AH.missQ, AH.minmaxAV, AH.wpOpD, AH.readOf, AH.effOf, AH.mapAt, AH.iterAt, Nat.reduceBEq, Nat.reduceAdd, Nat.reduceLT, ↓reduceIte, Nat.reduceEqDiff, Nat.reduceLeDiff, Nat.reduceSub, Nat.reduceMul, Int.reduceSub, Int.reduceToNat, Int.reduceBEq, Int.reduceBNe, Int.reduceLT, Int.reduceGT, Int.reduceLE, Int.reduceGE, Int.reduceNeg, Int.reduceAdd, dkM, h, e]
    try trivial
  · have e : fuD d n torn = d := by simp only [fuD, h, cond_true]
    simp only [AH.SD, AH.wpOp, AOp.call?, AOp.next?, bstep, AOp.map, Opd.ev, tget, argTm, evs, AV.cells, St.eff, St.put, applyWr, mset, terase, pureE, unAV, intOp, binAV, fill, mget, AH.rowAt, AH.part, retQ, rvs, retV, AH.splice, AH.sliceElems, AH.bytesOf, AH.strOp, AH.bound, AH.addLog, AH.missQ, AH.minmaxAV, AH.wpOpD, AH.readOf, AH.effOf, AH.mapAt, AH.iterAt, Nat.reduceBEq, Nat.reduceAdd, Nat.reduceLT, ↓reduceIte, Nat.reduceEqDiff, Nat.reduceLeDiff, Nat.reduceSub, Nat.reduceMul, Int.reduceSub, Int.reduceToNat, Int.reduceBEq, Int.reduceBNe, Int.reduceLT, Int.reduceGT, Int.reduceLE, Int.reduceGE, Int.reduceNeg, Int.reduceAdd, dkM, h, e]
set_option maxRecDepth 100000 in
theorem fuse_nil (n torn : Int) : Pure S0 16 [.nilp, .int .i64 n, .int .i64 torn] (.tup []) := by
  refine fun_sound okZ0 Tryd.func16 c16 ?_
  unfold wpF F16
  simp only [AH.SD, AH.wpOp, AOp.call?, AOp.next?, bstep, AOp.map, Opd.ev, tget, argTm, evs, AV.cells, St.eff, St.put, applyWr, mset, terase, pureE, unAV, intOp, binAV, fill, mget, AH.rowAt, AH.part, retQ, rvs, retV, AH.splice, AH.sliceElems, AH.bytesOf, AH.strOp, AH.bound, AH.addLog, AH.missQ, AH.minmaxAV, AH.wpOpD, AH.readOf, AH.effOf, AH.mapAt, AH.iterAt, Nat.reduceBEq, Nat.reduceAdd, Nat.reduceLT, ↓reduceIte, Nat.reduceEqDiff, Nat.reduceLeDiff, Nat.reduceSub, Nat.reduceMul, Int.reduceSub, Int.reduceToNat, Int.reduceBEq, Int.reduceBNe, Int.reduceLT, Int.reduceGT, Int.reduceLE, Int.reduceGE, Int.reduceNeg, Int.reduceAdd]
def fuseT : ET := etO dkO (cC (aI .i64) (cC (aI .i64) c0)) fun d x => some (.tup [], dkM (fuD d x.1 x.2.1))
theorem fuseT_ok : EffF S0 16 fuseT := etO_ok fun d x v m' h => by
  simp only [Option.some.injEq, Prod.mk.injEq] at h
  obtain ⟨rfl, rfl⟩ := h
  exact ⟨⟨Nat.le_refl 2, rfl⟩, fuse_ok d x.1 x.2.1⟩
theorem fuseT_p {p n : Nat} {k torn : Int} {M : Nat → Option Blk} : fuseT [.ptr p 0 0, .int .i64 k, .int .i64 torn] M n = etO2 n (fun d (x : Int × Int × Unit) => some (.tup [], dkM (fuD d x.1 x.2.1))) (dkR M p (M p)) (some (k, torn, ())) := by
  simp only [fuseT, etO_eq, cC_dec, aI_dec, c0_dec, pairO_some, dkO_dec]
def fuseNT : RT := rtP (cC aNil (cC (aI .i64) (cC (aI .i64) c0))) fun _ => .tup []
theorem fuseNT_ok : ReadF S0 16 fuseNT := rtP_ok (fun x => fuse_nil x.2.1 x.2.2.1) fun _ => rfl
theorem fuseNT_n {k torn : Int} {M : Nat → Option Blk} : fuseNT [.nilp, .int .i64 k, .int .i64 torn] M = some (.tup [], []) := by
  simp only [fuseNT, rtP, cC_dec, aNil_dec, aI_dec, c0_dec, pairO_some, Option.map_some]
theorem fuseNT_p {p : Nat} {k torn : Int} {M : Nat → Option Blk} : fuseNT [.ptr p 0 0, .int .i64 k, .int .i64 torn] M = none := by
  simp only [fuseNT, rtP, cC_dec, aNil_ptr, pairO_none, Option.map_none]

def coD (d : Dk) : Dk := bif d.away then { d with away := false, fuse := -1 } else d
theorem co_ok {d : Dk} (hd : d.ok) : (coD d).ok := by
  unfold coD
  cases d.away <;> exact hd
theorem co_len (d : Dk) : (coD d).L = d.L := by unfold coD; cases d.away <;> rfl
set_option maxRecDepth 100000 in
theorem come_ok (d : Dk) : CallA1 S0 18 [.ptr 0 0 0] (dkM d) fun r m => r = .tup [] ∧ m = dkM (coD d) := by
  refine fun_sound okZ0 Tryd.func18 c18 ?_
  unfold wpF F18
  cases h : d.away
  all_goals
    simp only [AH.SD, AH.wpOp, AOp.call?, AOp.next?, bstep, AOp.map, Opd.ev, tget, argTm, evs, AV.cells, St.eff, St.put, applyWr, mset, terase, pureE, unAV, intOp, binAV, fill, mget, AH.rowAt, AH.part, retQ, rvs, retV, AH.splice, AH.sliceElems, AH.bytesOf, AH.strOp, AH.bound, AH.addLog, AH.missQ, AH.minmaxAV, AH.wpOpD, AH.readOf, AH.effOf, AH.mapAt, AH.iterAt, Nat.reduceBEq, Nat.reduceAdd, Nat.reduceLT, ↓reduceIte, Nat.reduceEqDiff, Nat.reduceLeDiff, Nat.reduceSub, Nat.reduceMul, Int.reduceSub, Int.reduceToNat, Int.reduceBEq, Int.reduceBNe, Int.reduceLT, Int.reduceGT, Int.reduceLE, Int.reduceGE, Int.reduceNeg, Int.reduceAdd, dkM, h, coD]
set_option maxRecDepth 100000 in
theorem come_nil : Pure S0 18 [.nilp] (.tup []) := by
  refine fun_sound okZ0 Tryd.func18 c18 ?_
  unfold wpF F18
  simp only [AH.SD, AH.wpOp, AOp.call?, AOp.next?, bstep, AOp.map, Opd.ev, tget, argTm, evs, AV.cells, St.eff, St.put, applyWr, mset, terase, pureE, unAV, intOp, binAV, fill, mget, AH.rowAt, AH.part, retQ, rvs, retV, AH.splice, AH.sliceElems, AH.bytesOf, AH.strOp, AH.bound, AH.addLog, AH.missQ, AH.minmaxAV, AH.wpOpD, AH.readOf, AH.effOf, AH.mapAt, AH.iterAt, Nat.reduceBEq, Nat.reduceAdd, Nat.reduceLT, ↓reduceIte, Nat.reduceEqDiff, Nat.reduceLeDiff, Nat.reduceSub, Nat.reduceMul, Int.reduceSub, Int.reduceToNat, Int.reduceBEq, Int.reduceBNe, Int.reduceLT, Int.reduceGT, Int.reduceLE, Int.reduceGE, Int.reduceNeg, Int.reduceAdd]
def comeT : ET := etO dkO c0 fun d _ => some (.tup [], dkM (coD d))
theorem comeT_ok : EffF S0 18 comeT := etO_ok fun d x v m' h => by
  simp only [Option.some.injEq, Prod.mk.injEq] at h
  obtain ⟨rfl, rfl⟩ := h
  exact ⟨⟨Nat.le_refl 2, rfl⟩, come_ok d⟩
theorem comeT_p {p n : Nat} {M : Nat → Option Blk} : comeT [.ptr p 0 0] M n = etO2 n (fun (d : Dk) (_ : Unit) => some (.tup [], dkM (coD d))) (dkR M p (M p)) (some ()) := by
  simp only [comeT, etO_eq, c0_dec, dkO_dec]
def comeNT : RT := rtP (cC aNil c0) fun _ => .tup []
theorem comeNT_ok : ReadF S0 18 comeNT := rtP_ok (fun _ => come_nil) fun _ => rfl
theorem comeNT_n {M : Nat → Option Blk} : comeNT [.nilp] M = some (.tup [], []) := by
  simp only [comeNT, rtP, cC_dec, aNil_dec, c0_dec, pairO_some, Option.map_some]
theorem comeNT_p {p : Nat} {M : Nat → Option Blk} : comeNT [.ptr p 0 0] M = none := by
  simp only [comeNT, rtP, cC_dec, aNil_ptr, pairO_none, Option.map_none]
end Go.Proofs.YtcmnchmkoghfdaaDoor.C04
