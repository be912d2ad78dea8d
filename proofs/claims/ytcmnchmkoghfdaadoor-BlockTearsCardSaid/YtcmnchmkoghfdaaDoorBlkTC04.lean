import Derived.Test.YtcmnchmkoghfdaaDoorBlkZC04
open Go AH
set_option linter.unusedSimpArgs false
set_option maxRecDepth 100000
namespace Go.Proofs.YtcmnchmkoghfdaaDoor.C04
def u8C (b : UInt8) : List AV := [.int .u8 (b.toNat : Nat)]
def decU8 : List AV → Option UInt8
  | [.int .u8 n] => if 0 ≤ n ∧ n < 256 then some (UInt8.ofNat n.toNat) else none
  | _ => none
theorem decU8_ok (l : List AV) (b : UInt8) (h : decU8 l = some b) : l = u8C b := by
  unfold decU8 at h
  split at h
  · rename_i n
    split at h
    · rename_i hc
      simp only [Option.some.injEq] at h; subst h
      have : ((UInt8.ofNat n.toNat).toNat : Int) = n := by rw [UInt8.toNat_ofNat']; omega
      rw [u8C, this]
    · cases h
  · cases h
def cU8 : Cod UInt8 := ⟨u8C, decU8, decU8_ok, fun b => by
  have := b.toNat_lt
  simp only [u8C, decU8, Int.toNat_natCast]
  rw [if_pos (by omega)]; simp, fun _ => rfl⟩
instance : FlatE u8C := ⟨cU8.flat⟩
theorem u8C_eq (b : UInt8) : u8C b = [.int .u8 (b.toNat : Nat)] := rfl

theorem splice_one (x : AV) : ∀ (e : List AV) (s : Nat), s < e.length → AH.splice e s [x] = e.set s x
  | [], s, h => by simp at h
  | c :: e, 0, _ => by simp [AH.splice]
  | c :: e, s + 1, h => by
    rw [AH.splice, List.set_cons_succ, splice_one x e s (by simpa using h)]
theorem strs_set (L : List ByteArray) (i : Nat) (s : ByteArray) : (L.map AV.str).set i (.str s) = (L.set i s).map AV.str := by rw [List.map_set]
theorem strs_get {L : List ByteArray} {i : Nat} (h : i < L.length) : (L.map AV.str).getD i .undef = .str L[i] := getD_map_lt _ _ _ _ h
theorem strs_in (p : Nat → Bool) : ∀ L : List ByteArray, AV.insB p (L.map AV.str) = true
  | [] => rfl
  | a :: r => by simp only [List.map_cons, AV.insB, AV.inB, Bool.true_and, strs_in p r]
theorem strs_ren (ρ : Nat → Nat) : ∀ L : List ByteArray, AV.rens ρ (L.map AV.str) = L.map AV.str
  | [] => rfl
  | a :: r => by simp only [List.map_cons, AV.rens, AV.ren, strs_ren ρ r]

def t1M (l : List UInt8) (d : Dk) (was : List ByteArray) : Mem := [some (.row true 1 (l.map u8C)), some (.row false 5 [[.slc 2 0 d.L.length none, .bool d.away, .int .i64 d.fuse, .int .i64 d.torn, .int .i64 d.writes]]), some (.row false 1 (d.L.map strC)), some (.row false 10 [was.map AV.str])]
def t1St (l : List UInt8) (fu tr : Int) (d : Dk) (i : Nat) : St := ⟨[(9, .int .i64 i), (8, .ptr 3 0 0), (7, .ptr 1 0 0), (2, .int .i64 tr), (1, .int .i64 fu), (0, .slc 0 0 l.length none)], t1M l d (List.replicate i (fillS 0) ++ List.replicate (10 - i) ⟨#[]⟩)⟩
def t2St (l : List UInt8) (N K : Nat) (x : Nat × Dk) : St := ⟨[(12, .int .i64 x.1), (11, .int .i64 K), (10, .int .i64 N), (8, .ptr 3 0 0), (7, .ptr 1 0 0), (0, .slc 0 0 l.length none)], t1M l x.2 x.2.L⟩
def t3St (l : List UInt8) (N : Nat) (d : Dk) (i : Nat) : St := ⟨[(15, .int .i64 i), (10, .int .i64 N), (8, .ptr 3 0 0), (7, .ptr 1 0 0), (0, .slc 0 0 l.length none)], t1M l d d.L⟩

/-- What holds behind so many writes. -/
def tearI (N K i : Nat) (d : Dk) : Prop := d.ok ∧ d.L.length = 10 ∧ d.torn = K ∧ ((i ≤ N ∧ d.away = false ∧ d.fuse = (N : Int) - (i : Int) ∧ d.writes = i) ∨ (N < i ∧ d.away = true ∧ d.writes = N))
set_option maxHeartbeats 8000000 in
set_option maxRecDepth 100000 in
theorem tears_ok (l : List UInt8) (fu tr : Int) : CallA1 S0 4 [.slc 0 0 l.length none, .int .i64 fu, .int .i64 tr] [some (.row true 1 (l.map u8C))] fun r _ => r = .bool true := by
  refine fun_sound okB Tryd.func4 c4 ?_
  unfold wpF F4
  simp only [AH.SD, AH.wpOp, AOp.call?, AOp.next?, bstep, AOp.map, Opd.ev, tget, argTm, evs, AV.cells, St.eff, St.put, applyWr, mset, terase, pureE, unAV, intOp, binAV, fill, mget, AH.rowAt, AH.part, retQ, rvs, retV, AH.splice, AH.sliceElems, AH.bytesOf, AH.strOp, AH.bound, AH.addLog, AH.missQ, AH.minmaxAV, AH.wpOpD, AH.readOf, AH.effOf, AH.mapAt, AH.iterAt, Nat.reduceBEq, Nat.reduceAdd, Nat.reduceLT, ↓reduceIte, Nat.reduceEqDiff, Nat.reduceLeDiff, Nat.reduceSub, Nat.reduceMul, Int.reduceSub, Int.reduceToNat, Int.reduceBEq, Int.reduceBNe, Int.reduceLT, Int.reduceGT, Int.reduceLE, Int.reduceGE, Int.reduceNeg, Int.reduceAdd, awakeT_eq]
  cases h1 : decide ((l.length : Int) > 30)
  rotate_left
  · simp only [AH.SD, AH.wpOp, AOp.call?, AOp.next?, bstep, AOp.map, Opd.ev, tget, argTm, evs, AV.cells, St.eff, St.put, applyWr, mset, terase, pureE, unAV, intOp, binAV, fill, mget, AH.rowAt, AH.part, retQ, rvs, retV, AH.splice, AH.sliceElems, AH.bytesOf, AH.strOp, AH.bound, AH.addLog, AH.missQ, AH.minmaxAV, AH.wpOpD, AH.readOf, AH.effOf, AH.mapAt, AH.iterAt, Nat.reduceBEq, Nat.reduceAdd, Nat.reduceLT, ↓reduceIte, Nat.reduceEqDiff, Nat.reduceLeDiff, Nat.reduceSub, Nat.reduceMul, Int.reduceSub, Int.reduceToNat, Int.reduceBEq, Int.reduceBNe, Int.reduceLT, Int.reduceGT, Int.reduceLE, Int.reduceGE, Int.reduceNeg, Int.reduceAdd]
  have hl30 : l.length ≤ 30 := by simp only [decide_eq_false_iff_not] at h1; omega
  have hd0 : (newD 10).ok := ofD_ok _
  have hL0 : (newD 10).L = List.replicate 10 (fillS 0) := by
    apply List.ext_getElem?
    intro i
    by_cases hi : i < 10
    · rw [newD_get 10 i (by show i < 10; exact hi), List.getElem?_replicate, if_pos hi]
    · rw [List.getElem?_eq_none (by rw [newD_len]; show 10 ≤ i; omega), List.getElem?_replicate, if_neg hi]
  simp only [AH.SD, AH.wpOp, AOp.call?, AOp.next?, bstep, AOp.map, Opd.ev, tget, argTm, evs, AV.cells, St.eff, St.put, applyWr, mset, terase, pureE, unAV, intOp, binAV, fill, mget, AH.rowAt, AH.part, retQ, rvs, retV, AH.splice, AH.sliceElems, AH.bytesOf, AH.strOp, AH.bound, AH.addLog, AH.missQ, AH.minmaxAV, AH.wpOpD, AH.readOf, AH.effOf, AH.mapAt, AH.iterAt, Nat.reduceBEq, Nat.reduceAdd, Nat.reduceLT, ↓reduceIte, Nat.reduceEqDiff, Nat.reduceLeDiff, Nat.reduceSub, Nat.reduceMul, Int.reduceSub, Int.reduceToNat, Int.reduceBEq, Int.reduceBNe, Int.reduceLT, Int.reduceGT, Int.reduceLE, Int.reduceGE, Int.reduceNeg, Int.reduceAdd, AH.PD, heads, distN, AH.inN, posN, packM, packB, packTm, liveB, AV.inB, AV.insB, AV.ren, AV.rens, Blk.ren, Blk.inB, vstep, tput, vw, shift, newOnes, rowsM, blkIn, rwB, @flat_lts, AV.lt, AV.lts, Nat.sub_self, AH.rtO_eq, AH.rtO2_eq, AH.rtO2_none, AH.etO_eq, AH.etO2_eq, AH.etO2_none, AH.useO_some, AH.rtElse_eq, AH.elseO_some, AH.elseO_none, AH.etN_eq, Option.bind_some, Option.bind_none, AH.pairO_some, AH.pairO_none, AH.cC_dec, AH.cC_nil, AH.c0_dec, AH.c0_dec1, AH.aI_dec, AH.aS_dec, AH.aB_dec, AH.aNil_dec, AH.aNil_ptr, Option.map_none, effS, wrS, newS, backNo, AH.isIn, AH.posOf, AH.rwB, List.all_cons, List.all_nil, List.getElem?_cons_zero, List.getElem?_cons_succ, List.getElem?_nil, AH.appE_some, List.contains_cons, List.contains_nil, Nat.add_zero, errA_ren, dkM, dkR_eq, dkB_eq, Dk.eta, ne_eq, Nat.reduceEqDiff, Nat.zero_ne_one, not_false_eq_true, rdT_p, rdT_n, isOnT_p, isOnT_n, writesT_p, writesT_n, imgT_p, imgT_n, lenT_p, lenT_n, rimgT_p, fillT_eq, writeNT_p, writeNT_n, fuseNT_p, fuseNT_n, comeNT_p, comeNT_n, newT_eq, ofT_eq, rofT_eq, writeT_p, rwriteT_p, fuseT_p, rfuseT_p, comeT_p, rcomeT_p]
  refine loop_do [0, 1, 2, 3] [9, 8, 7, 2, 1, 0] [] (α := Nat) (fun i => 10 - i) (t1St l fu tr (newD 10)) (fun i => i ≤ 10) 0 (Nat.zero_le _) (by simp only [AH.SD, AH.wpOp, AOp.call?, AOp.next?, bstep, AOp.map, Opd.ev, tget, argTm, evs, AV.cells, St.eff, St.put, applyWr, mset, terase, pureE, unAV, intOp, binAV, fill, mget, AH.rowAt, AH.part, retQ, rvs, retV, AH.splice, AH.sliceElems, AH.bytesOf, AH.strOp, AH.bound, AH.addLog, AH.missQ, AH.minmaxAV, AH.wpOpD, AH.readOf, AH.effOf, AH.mapAt, AH.iterAt, Nat.reduceBEq, Nat.reduceAdd, Nat.reduceLT, ↓reduceIte, Nat.reduceEqDiff, Nat.reduceLeDiff, Nat.reduceSub, Nat.reduceMul, Int.reduceSub, Int.reduceToNat, Int.reduceBEq, Int.reduceBNe, Int.reduceLT, Int.reduceGT, Int.reduceLE, Int.reduceGE, Int.reduceNeg, Int.reduceAdd, AH.PD, heads, distN, AH.inN, posN, packM, packB, packTm, liveB, AV.inB, AV.insB, AV.ren, AV.rens, Blk.ren, Blk.inB, vstep, tput, t1St, t1M]) ?_
  intro X i hi ih
  have hlen : (List.replicate i (fillS 0) ++ List.replicate (10 - i) (⟨#[]⟩ : ByteArray)).length = 10 := by simp; omega
  have hs0 : i < 10 → AH.splice ((List.replicate i (fillS 0) ++ List.replicate (10 - i) (⟨#[]⟩ : ByteArray)).map AV.str) i [.str (fillS 0)] = (List.replicate (i + 1) (fillS 0) ++ List.replicate (10 - (i + 1)) (⟨#[]⟩ : ByteArray)).map AV.str := fun hil => by
    rw [splice_one _ _ _ (by rw [List.length_map, hlen]; exact hil), strs_set, rep_set _ _ 10 i hil]
  have done0 : i < 10 → X (t1St l fu tr (newD 10) (i + 1)) := fun hil => ih (i + 1) hil (by omega)
  have hend : i = 10 → List.replicate i (fillS 0) ++ List.replicate (10 - i) (⟨#[]⟩ : ByteArray) = (newD 10).L := fun h => by subst h; rw [hL0]; rfl
  simp only [t1St, t1M] at done0 ⊢
  generalize hW : List.replicate i (fillS 0) ++ List.replicate (10 - i) (⟨#[]⟩ : ByteArray) = W at *
  generalize hW' : List.replicate (i + 1) (fillS 0) ++ List.replicate (10 - (i + 1)) (⟨#[]⟩ : ByteArray) = W' at *
  simp only [AH.SD, AH.wpOp, AOp.call?, AOp.next?, bstep, AOp.map, Opd.ev, tget, argTm, evs, AV.cells, St.eff, St.put, applyWr, mset, terase, pureE, unAV, intOp, binAV, fill, mget, AH.rowAt, AH.part, retQ, rvs, retV, AH.splice, AH.sliceElems, AH.bytesOf, AH.strOp, AH.bound, AH.addLog, AH.missQ, AH.minmaxAV, AH.wpOpD, AH.readOf, AH.effOf, AH.mapAt, AH.iterAt, Nat.reduceBEq, Nat.reduceAdd, Nat.reduceLT, ↓reduceIte, Nat.reduceEqDiff, Nat.reduceLeDiff, Nat.reduceSub, Nat.reduceMul, Int.reduceSub, Int.reduceToNat, Int.reduceBEq, Int.reduceBNe, Int.reduceLT, Int.reduceGT, Int.reduceLE, Int.reduceGE, Int.reduceNeg, Int.reduceAdd, AH.PD, heads, distN, AH.inN, posN, packM, packB, packTm, liveB, AV.inB, AV.insB, AV.ren, AV.rens, Blk.ren, Blk.inB, vstep, tput, vw, shift, newOnes, rowsM, blkIn, rwB, @flat_lts, AV.lt, AV.lts, Nat.sub_self, AH.rtO_eq, AH.rtO2_eq, AH.rtO2_none, AH.etO_eq, AH.etO2_eq, AH.etO2_none, AH.useO_some, AH.rtElse_eq, AH.elseO_some, AH.elseO_none, AH.etN_eq, Option.bind_some, Option.bind_none, AH.pairO_some, AH.pairO_none, AH.cC_dec, AH.cC_nil, AH.c0_dec, AH.c0_dec1, AH.aI_dec, AH.aS_dec, AH.aB_dec, AH.aNil_dec, AH.aNil_ptr, Option.map_none, effS, wrS, newS, backNo, AH.isIn, AH.posOf, AH.rwB, List.all_cons, List.all_nil, List.getElem?_cons_zero, List.getElem?_cons_succ, List.getElem?_nil, AH.appE_some, List.contains_cons, List.contains_nil, Nat.add_zero]
  refine ⟨fun hlt => ?_, fun hlt => ?_⟩
  · have hil : i < 10 := by simp only [decide_eq_true_eq] at hlt; omega
    have hw := wrapS (i := i) (by omega)
    have done := done0 hil
    have hs := hs0 hil
    simp only [AH.SD, AH.wpOp, AOp.call?, AOp.next?, bstep, AOp.map, Opd.ev, tget, argTm, evs, AV.cells, St.eff, St.put, applyWr, mset, terase, pureE, unAV, intOp, binAV, fill, mget, AH.rowAt, AH.part, retQ, rvs, retV, AH.splice, AH.sliceElems, AH.bytesOf, AH.strOp, AH.bound, AH.addLog, AH.missQ, AH.minmaxAV, AH.wpOpD, AH.readOf, AH.effOf, AH.mapAt, AH.iterAt, Nat.reduceBEq, Nat.reduceAdd, Nat.reduceLT, ↓reduceIte, Nat.reduceEqDiff, Nat.reduceLeDiff, Nat.reduceSub, Nat.reduceMul, Int.reduceSub, Int.reduceToNat, Int.reduceBEq, Int.reduceBNe, Int.reduceLT, Int.reduceGT, Int.reduceLE, Int.reduceGE, Int.reduceNeg, Int.reduceAdd, AH.PD, heads, distN, AH.inN, posN, packM, packB, packTm, liveB, AV.inB, AV.insB, AV.ren, AV.rens, Blk.ren, Blk.inB, vstep, tput, vw, shift, newOnes, rowsM, blkIn, rwB, @flat_lts, AV.lt, AV.lts, Nat.sub_self, AH.rtO_eq, AH.rtO2_eq, AH.rtO2_none, AH.etO_eq, AH.etO2_eq, AH.etO2_none, AH.useO_some, AH.rtElse_eq, AH.elseO_some, AH.elseO_none, AH.etN_eq, Option.bind_some, Option.bind_none, AH.pairO_some, AH.pairO_none, AH.cC_dec, AH.cC_nil, AH.c0_dec, AH.c0_dec1, AH.aI_dec, AH.aS_dec, AH.aB_dec, AH.aNil_dec, AH.aNil_ptr, Option.map_none, effS, wrS, newS, backNo, AH.isIn, AH.posOf, AH.rwB, List.all_cons, List.all_nil, List.getElem?_cons_zero, List.getElem?_cons_succ, List.getElem?_nil, AH.appE_some, List.contains_cons, List.contains_nil, Nat.add_zero, fillT_eq, Int.toNat_natCast, Nat.mul_one, Nat.zero_add, hs]
    repeat (refine ⟨by first | rfl | decide | omega | (simp only [List.length_map, and_true]; omega) | (simp only [List.length_map, List.length_set, and_true]; omega), ?_⟩)
    simp only [AH.SD, AH.wpOp, AOp.call?, AOp.next?, bstep, AOp.map, Opd.ev, tget, argTm, evs, AV.cells, St.eff, St.put, applyWr, mset, terase, pureE, unAV, intOp, binAV, fill, mget, AH.rowAt, AH.part, retQ, rvs, retV, AH.splice, AH.sliceElems, AH.bytesOf, AH.strOp, AH.bound, AH.addLog, AH.missQ, AH.minmaxAV, AH.wpOpD, AH.readOf, AH.effOf, AH.mapAt, AH.iterAt, Nat.reduceBEq, Nat.reduceAdd, Nat.reduceLT, ↓reduceIte, Nat.reduceEqDiff, Nat.reduceLeDiff, Nat.reduceSub, Nat.reduceMul, Int.reduceSub, Int.reduceToNat, Int.reduceBEq, Int.reduceBNe, Int.reduceLT, Int.reduceGT, Int.reduceLE, Int.reduceGE, Int.reduceNeg, Int.reduceAdd, AH.PD, heads, distN, AH.inN, posN, packM, packB, packTm, liveB, AV.inB, AV.insB, AV.ren, AV.rens, Blk.ren, Blk.inB, vstep, tput, vw, shift, newOnes, rowsM, blkIn, rwB, @flat_lts, AV.lt, AV.lts, Nat.sub_self, AH.rtO_eq, AH.rtO2_eq, AH.rtO2_none, AH.etO_eq, AH.etO2_eq, AH.etO2_none, AH.useO_some, AH.rtElse_eq, AH.elseO_some, AH.elseO_none, AH.etN_eq, Option.bind_some, Option.bind_none, AH.pairO_some, AH.pairO_none, AH.cC_dec, AH.cC_nil, AH.c0_dec, AH.c0_dec1, AH.aI_dec, AH.aS_dec, AH.aB_dec, AH.aNil_dec, AH.aNil_ptr, Option.map_none, effS, wrS, newS, backNo, AH.isIn, AH.posOf, AH.rwB, List.all_cons, List.all_nil, List.getElem?_cons_zero, List.getElem?_cons_succ, List.getElem?_nil, AH.appE_some, List.contains_cons, List.contains_nil, Nat.add_zero, hw]
    refine gc_auto [0, 1, 2, 3] [9, 8, 7, 2, 1, 0] [] ?_
    simp only [AH.SD, AH.wpOp, AOp.call?, AOp.next?, bstep, AOp.map, Opd.ev, tget, argTm, evs, AV.cells, St.eff, St.put, applyWr, mset, terase, pureE, unAV, intOp, binAV, fill, mget, AH.rowAt, AH.part, retQ, rvs, retV, AH.splice, AH.sliceElems, AH.bytesOf, AH.strOp, AH.bound, AH.addLog, AH.missQ, AH.minmaxAV, AH.wpOpD, AH.readOf, AH.effOf, AH.mapAt, AH.iterAt, Nat.reduceBEq, Nat.reduceAdd, Nat.reduceLT, ↓reduceIte, Nat.reduceEqDiff, Nat.reduceLeDiff, Nat.reduceSub, Nat.reduceMul, Int.reduceSub, Int.reduceToNat, Int.reduceBEq, Int.reduceBNe, Int.reduceLT, Int.reduceGT, Int.reduceLE, Int.reduceGE, Int.reduceNeg, Int.reduceAdd, AH.PD, heads, distN, AH.inN, posN, packM, packB, packTm, liveB, AV.inB, AV.insB, AV.ren, AV.rens, Blk.ren, Blk.inB, vstep, tput, strs_in, strs_ren]
    exact done
  · have : i = 10 := by simp only [decide_eq_false_iff_not] at hlt; omega
    have hW0 := hend this
    have hL10 : (newD 10).L.length = 10 := by rw [hL0]; rfl
    have hta : (newD 10).away = false := rfl
    have htf : (newD 10).fuse = -1 := rfl
    have htw : (newD 10).writes = 0 := rfl
    clear hs0 done0 hend hlen hi ih hlt hW hW' W' h1 hL0
    subst this
    rw [hW0]
    clear hW0
    generalize newD 10 = d0 at *
    obtain ⟨N, hN, hN31⟩ : ∃ N : Nat, IntKind.i64.wrap ((IntKind.u64.wrap fu).tmod 31) = (N : Int) ∧ N < 31 := by
      have h0 : 0 ≤ IntKind.u64.wrap fu := by rw [IntKind.wrap_u64]; omega
      obtain ⟨A, hA⟩ := Int.eq_ofNat_of_zero_le h0
      refine ⟨A % 31, ?_, by omega⟩
      rw [hA, show (31 : Int) = ((31 : Nat) : Int) from rfl, ← Int.ofNat_tmod, IntKind.wrap_i64]; omega
    obtain ⟨K, hK, hK65⟩ : ∃ K : Nat, IntKind.i64.wrap ((IntKind.u64.wrap tr).tmod 65) = (K : Int) ∧ K < 65 := by
      have h0 : 0 ≤ IntKind.u64.wrap tr := by rw [IntKind.wrap_u64]; omega
      obtain ⟨A, hA⟩ := Int.eq_ofNat_of_zero_le h0
      refine ⟨A % 65, ?_, by omega⟩
      rw [hA, show (65 : Int) = ((65 : Nat) : Int) from rfl, ← Int.ofNat_tmod, IntKind.wrap_i64]; omega
    have hfu : fuD d0 (N : Int) (K : Int) = { d0 with fuse := (N : Int), torn := (K : Int) } := by
      rw [fuD, hta, cond_false, maxI, if_neg (by omega), minI, maxI, if_neg (by omega), if_neg (by omega)]
    have hd1 := fu_ok hd0 (N : Int) (K : Int)
    have hLf := fu_len d0 (N : Int) (K : Int)
    have f1 : (fuD d0 (N : Int) (K : Int)).away = false := by rw [hfu]; exact hta
    have f2 : (fuD d0 (N : Int) (K : Int)).fuse = N := by rw [hfu]
    have f3 : (fuD d0 (N : Int) (K : Int)).torn = K := by rw [hfu]
    have f4 : (fuD d0 (N : Int) (K : Int)).writes = 0 := by rw [hfu]; exact htw
    rw [← hLf] at hL10
    clear hfu hta htf htw
    simp only [AH.SD, AH.wpOp, AOp.call?, AOp.next?, bstep, AOp.map, Opd.ev, tget, argTm, evs, AV.cells, St.eff, St.put, applyWr, mset, terase, pureE, unAV, intOp, binAV, fill, mget, AH.rowAt, AH.part, retQ, rvs, retV, AH.splice, AH.sliceElems, AH.bytesOf, AH.strOp, AH.bound, AH.addLog, AH.missQ, AH.minmaxAV, AH.wpOpD, AH.readOf, AH.effOf, AH.mapAt, AH.iterAt, Nat.reduceBEq, Nat.reduceAdd, Nat.reduceLT, ↓reduceIte, Nat.reduceEqDiff, Nat.reduceLeDiff, Nat.reduceSub, Nat.reduceMul, Int.reduceSub, Int.reduceToNat, Int.reduceBEq, Int.reduceBNe, Int.reduceLT, Int.reduceGT, Int.reduceLE, Int.reduceGE, Int.reduceNeg, Int.reduceAdd, AH.PD, heads, distN, AH.inN, posN, packM, packB, packTm, liveB, AV.inB, AV.insB, AV.ren, AV.rens, Blk.ren, Blk.inB, vstep, tput, vw, shift, newOnes, rowsM, blkIn, rwB, @flat_lts, AV.lt, AV.lts, Nat.sub_self, AH.rtO_eq, AH.rtO2_eq, AH.rtO2_none, AH.etO_eq, AH.etO2_eq, AH.etO2_none, AH.useO_some, AH.rtElse_eq, AH.elseO_some, AH.elseO_none, AH.etN_eq, Option.bind_some, Option.bind_none, AH.pairO_some, AH.pairO_none, AH.cC_dec, AH.cC_nil, AH.c0_dec, AH.c0_dec1, AH.aI_dec, AH.aS_dec, AH.aB_dec, AH.aNil_dec, AH.aNil_ptr, Option.map_none, effS, wrS, newS, backNo, AH.isIn, AH.posOf, AH.rwB, List.all_cons, List.all_nil, List.getElem?_cons_zero, List.getElem?_cons_succ, List.getElem?_nil, AH.appE_some, List.contains_cons, List.contains_nil, Nat.add_zero, errA_ren, dkM, dkR_eq, dkB_eq, Dk.eta, ne_eq, Nat.reduceEqDiff, Nat.zero_ne_one, not_false_eq_true, rdT_p, rdT_n, isOnT_p, isOnT_n, writesT_p, writesT_n, imgT_p, imgT_n, lenT_p, lenT_n, rimgT_p, fillT_eq, writeNT_p, writeNT_n, fuseNT_p, fuseNT_n, comeNT_p, comeNT_n, newT_eq, ofT_eq, rofT_eq, writeT_p, rwriteT_p, fuseT_p, rfuseT_p, comeT_p, rcomeT_p, hN, hK, hd0]
    repeat (refine ⟨by first | rfl | decide | omega | (simp only [List.length_map, and_true]; omega) | (simp only [List.length_map, List.length_set, and_true]; omega), ?_⟩)
    refine loop_do [0, 1, 2, 3] [12, 11, 10, 8, 7, 0] [] (α := Nat × Dk) (fun x => l.length - x.1) (t2St l N K) (fun x => x.1 ≤ l.length ∧ tearI N K x.1 x.2) (0, fuD d0 N K) ⟨Nat.zero_le _, hd1, hL10, f3, .inl ⟨Nat.zero_le _, f1, by rw [f2]; simp, by rw [f4]; rfl⟩⟩ (by simp only [AH.SD, AH.wpOp, AOp.call?, AOp.next?, bstep, AOp.map, Opd.ev, tget, argTm, evs, AV.cells, St.eff, St.put, applyWr, mset, terase, pureE, unAV, intOp, binAV, fill, mget, AH.rowAt, AH.part, retQ, rvs, retV, AH.splice, AH.sliceElems, AH.bytesOf, AH.strOp, AH.bound, AH.addLog, AH.missQ, AH.minmaxAV, AH.wpOpD, AH.readOf, AH.effOf, AH.mapAt, AH.iterAt, Nat.reduceBEq, Nat.reduceAdd, Nat.reduceLT, ↓reduceIte, Nat.reduceEqDiff, Nat.reduceLeDiff, Nat.reduceSub, Nat.reduceMul, Int.reduceSub, Int.reduceToNat, Int.reduceBEq, Int.reduceBNe, Int.reduceLT, Int.reduceGT, Int.reduceLE, Int.reduceGE, Int.reduceNeg, Int.reduceAdd, AH.PD, heads, distN, AH.inN, posN, packM, packB, packTm, liveB, AV.inB, AV.insB, AV.ren, AV.rens, Blk.ren, Blk.inB, vstep, tput, t2St, t1M, strs_in, strs_ren, hLf]) ?_
    clear hd1 f1 f2 f3 f4 hL10 hLf hd0 W X d0
    rintro X ⟨i, d⟩ ⟨hi, hd, hL, ht, hI⟩ ih
    simp only at hi hd hL ht hI
    simp only [AH.SD, AH.wpOp, AOp.call?, AOp.next?, bstep, AOp.map, Opd.ev, tget, argTm, evs, AV.cells, St.eff, St.put, applyWr, mset, terase, pureE, unAV, intOp, binAV, fill, mget, AH.rowAt, AH.part, retQ, rvs, retV, AH.splice, AH.sliceElems, AH.bytesOf, AH.strOp, AH.bound, AH.addLog, AH.missQ, AH.minmaxAV, AH.wpOpD, AH.readOf, AH.effOf, AH.mapAt, AH.iterAt, Nat.reduceBEq, Nat.reduceAdd, Nat.reduceLT, ↓reduceIte, Nat.reduceEqDiff, Nat.reduceLeDiff, Nat.reduceSub, Nat.reduceMul, Int.reduceSub, Int.reduceToNat, Int.reduceBEq, Int.reduceBNe, Int.reduceLT, Int.reduceGT, Int.reduceLE, Int.reduceGE, Int.reduceNeg, Int.reduceAdd, AH.PD, heads, distN, AH.inN, posN, packM, packB, packTm, liveB, AV.inB, AV.insB, AV.ren, AV.rens, Blk.ren, Blk.inB, vstep, tput, vw, shift, newOnes, rowsM, blkIn, rwB, @flat_lts, AV.lt, AV.lts, Nat.sub_self, AH.rtO_eq, AH.rtO2_eq, AH.rtO2_none, AH.etO_eq, AH.etO2_eq, AH.etO2_none, AH.useO_some, AH.rtElse_eq, AH.elseO_some, AH.elseO_none, AH.etN_eq, Option.bind_some, Option.bind_none, AH.pairO_some, AH.pairO_none, AH.cC_dec, AH.cC_nil, AH.c0_dec, AH.c0_dec1, AH.aI_dec, AH.aS_dec, AH.aB_dec, AH.aNil_dec, AH.aNil_ptr, Option.map_none, effS, wrS, newS, backNo, AH.isIn, AH.posOf, AH.rwB, List.all_cons, List.all_nil, List.getElem?_cons_zero, List.getElem?_cons_succ, List.getElem?_nil, AH.appE_some, List.contains_cons, List.contains_nil, Nat.add_zero, t2St, t1M]
    refine ⟨fun hlt => ?_, fun hlt => ?_⟩
    · have hil := lt_of_dec hlt
      have hw := wrapS (i := i) (by omega)
      obtain ⟨j, hj, hj10⟩ : ∃ j : Nat, IntKind.i64.wrap (((l[i].toNat : Nat) : Int).tmod 10) = (j : Int) ∧ j < 10 := by
        refine ⟨l[i].toNat % 10, ?_, by omega⟩
        rw [show (10 : Int) = ((10 : Nat) : Int) from rfl, ← Int.ofNat_tmod, IntKind.wrap_i64]; omega
      have done := fun d' (h' : tearI N K (i + 1) d') => ih (i + 1, d') ⟨hil, h'⟩ (by simp only; omega)
      simp only [t2St, t1M] at done
      have hjl : j < d.L.length := by omega
      have q1 : decide ((j : Int) < 0) = false := by simp only [decide_eq_false_iff_not]; omega
      have q2 : decide ((j : Int) ≥ (d.L.length : Int)) = false := by simp only [decide_eq_false_iff_not]; omega
      generalize hS : fillS ((l[i].toNat : Nat) : Int) = S at *
      have hSz : S.size = 64 := by rw [← hS]; rfl
      have hsp : ∀ x, AH.splice (d.L.map AV.str) j [.str x] = (d.L.set j x).map AV.str := fun x => by rw [splice_one _ _ _ (by rw [List.length_map]; exact hjl), strs_set]
      rcases hI with ⟨hN1, ha, hf, hwr⟩ | ⟨hN1, ha, hwr⟩
      · have hc : chk d j = 0 := by rw [chk, q1, q2, ha]; rfl
        rcases Nat.lt_or_ge i N with hiN | hiN
        · have e : wrD d j S = (0, { d with L := d.L.set j S, fuse := (N : Int) - ((i + 1 : Nat) : Int), writes := ((i + 1 : Nat) : Int) }) := by
            unfold wrD
            rw [if_neg (by rw [hSz]; decide), if_neg (by omega), if_neg (by omega), Int.toNat_natCast, hf, hwr, hw]
            have : maxI (IntKind.i64.wrap ((N : Int) - (i : Int) - 1)) (-1) = (N : Int) - ((i + 1 : Nat) : Int) := by
              rw [IntKind.wrap_i64, maxI, if_neg (by omega)]; omega
            rw [this]
          have e1 : (wrD d j S).1 = 0 := by rw [e]
          have hlt1 : decide ((i : Int) < (N : Int)) = true := by simp only [decide_eq_true_eq]; omega
          have fin := done (wrD d j S).2 ⟨wr_ok hd _ _, by rw [wr_len]; exact hL, by rw [e]; exact ht, .inl ⟨hiN, by rw [e]; exact ha, by rw [e], by rw [e]⟩⟩
          have eL : (wrD d j S).2.L = d.L.set j S := by rw [e]
          generalize hE : wrD d j S = E at *
          simp only [AH.SD, AH.wpOp, AOp.call?, AOp.next?, bstep, AOp.map, Opd.ev, tget, argTm, evs, AV.cells, St.eff, St.put, applyWr, mset, terase, pureE, unAV, intOp, binAV, fill, mget, AH.rowAt, AH.part, retQ, rvs, retV, AH.splice, AH.sliceElems, AH.bytesOf, AH.strOp, AH.bound, AH.addLog, AH.missQ, AH.minmaxAV, AH.wpOpD, AH.readOf, AH.effOf, AH.mapAt, AH.iterAt, Nat.reduceBEq, Nat.reduceAdd, Nat.reduceLT, ↓reduceIte, Nat.reduceEqDiff, Nat.reduceLeDiff, Nat.reduceSub, Nat.reduceMul, Int.reduceSub, Int.reduceToNat, Int.reduceBEq, Int.reduceBNe, Int.reduceLT, Int.reduceGT, Int.reduceLE, Int.reduceGE, Int.reduceNeg, Int.reduceAdd, AH.PD, heads, distN, AH.inN, posN, packM, packB, packTm, liveB, AV.inB, AV.insB, AV.ren, AV.rens, Blk.ren, Blk.inB, vstep, tput, vw, shift, newOnes, rowsM, blkIn, rwB, @flat_lts, AV.lt, AV.lts, Nat.sub_self, AH.rtO_eq, AH.rtO2_eq, AH.rtO2_none, AH.etO_eq, AH.etO2_eq, AH.etO2_none, AH.useO_some, AH.rtElse_eq, AH.elseO_some, AH.elseO_none, AH.etN_eq, Option.bind_some, Option.bind_none, AH.pairO_some, AH.pairO_none, AH.cC_dec, AH.cC_nil, AH.c0_dec, AH.c0_dec1, AH.aI_dec, AH.aS_dec, AH.aB_dec, AH.aNil_dec, AH.aNil_ptr, Option.map_none, effS, wrS, newS, backNo, AH.isIn, AH.posOf, AH.rwB, List.all_cons, List.all_nil, List.getElem?_cons_zero, List.getElem?_cons_succ, List.getElem?_nil, AH.appE_some, List.contains_cons, List.contains_nil, Nat.add_zero, errA_ren, dkM, dkR_eq, dkB_eq, Dk.eta, ne_eq, Nat.reduceEqDiff, Nat.zero_ne_one, not_false_eq_true, rdT_p, rdT_n, isOnT_p, isOnT_n, writesT_p, writesT_n, imgT_p, imgT_n, lenT_p, lenT_n, rimgT_p, fillT_eq, writeNT_p, writeNT_n, fuseNT_p, fuseNT_n, comeNT_p, comeNT_n, newT_eq, ofT_eq, rofT_eq, writeT_p, rwriteT_p, fuseT_p, rfuseT_p, comeT_p, rcomeT_p, getD_enc, hil, u8C_eq, hj, hS, hd, hE, e1, hlt1, errA_nil, hw]
          repeat (refine ⟨by first | rfl | decide | omega | (simp only [List.length_map, and_true]; omega) | (simp only [List.length_map, List.length_set, and_true]; omega), ?_⟩)
          refine gc_auto [0, 1, 2, 3] [12, 11, 10, 8, 7, 0] [] ?_
          simp only [AH.SD, AH.wpOp, AOp.call?, AOp.next?, bstep, AOp.map, Opd.ev, tget, argTm, evs, AV.cells, St.eff, St.put, applyWr, mset, terase, pureE, unAV, intOp, binAV, fill, mget, AH.rowAt, AH.part, retQ, rvs, retV, AH.splice, AH.sliceElems, AH.bytesOf, AH.strOp, AH.bound, AH.addLog, AH.missQ, AH.minmaxAV, AH.wpOpD, AH.readOf, AH.effOf, AH.mapAt, AH.iterAt, Nat.reduceBEq, Nat.reduceAdd, Nat.reduceLT, ↓reduceIte, Nat.reduceEqDiff, Nat.reduceLeDiff, Nat.reduceSub, Nat.reduceMul, Int.reduceSub, Int.reduceToNat, Int.reduceBEq, Int.reduceBNe, Int.reduceLT, Int.reduceGT, Int.reduceLE, Int.reduceGE, Int.reduceNeg, Int.reduceAdd, AH.PD, heads, distN, AH.inN, posN, packM, packB, packTm, liveB, AV.inB, AV.insB, AV.ren, AV.rens, Blk.ren, Blk.inB, vstep, tput, strs_in, strs_ren, hsp, eL]
          simp only [eL, List.length_set] at fin
          exact fin
        · have hiN' : i = N := by omega
          have hz : d.L[j].size = 64 := hd.1 _ (List.getElem_mem hjl)
          have hg : d.L.getD j ⟨#[]⟩ = d.L[j] := by rw [List.getD_eq_getElem?_getD, List.getElem?_eq_getElem hjl]; rfl
          have e : wrD d j S = (14, { d with L := d.L.set j (S.extract 0 K ++ d.L[j].extract K 64), away := true }) := by
            unfold wrD
            rw [if_neg (by rw [hSz]; decide), if_neg (by omega), if_pos (by omega), Int.toNat_natCast, hg, ht, Int.toNat_natCast]
          have e1 : (wrD d j S).1 = 14 := by rw [e]
          have e2 : (!(wrD d j S).2.away) = false := by rw [e]; rfl
          have hlt1 : decide ((i : Int) < (N : Int)) = false := by simp only [decide_eq_false_iff_not]; omega
          have heq1 : ((i : Int) == (N : Int)) = true := by rw [hiN']; exact beq_self_eq_true _
          have fin := done (wrD d j S).2 ⟨wr_ok hd _ _, by rw [wr_len]; exact hL, by rw [e]; exact ht, .inr ⟨by omega, by rw [e], by rw [e]; show d.writes = _; rw [hwr, hiN']⟩⟩
          have eL : (wrD d j S).2.L = d.L.set j (S.extract 0 K ++ d.L[j].extract K 64) := by rw [e]
          have hsz : (S.extract 0 K).size + (d.L[j].extract K 64).size = 64 := by rw [ByteArray.size_extract, ByteArray.size_extract, hz, hSz]; omega
          generalize hE : wrD d j S = E at *
          have hE2 := wr_ok hd j S
          rw [hE] at hE2
          simp only [AH.SD, AH.wpOp, AOp.call?, AOp.next?, bstep, AOp.map, Opd.ev, tget, argTm, evs, AV.cells, St.eff, St.put, applyWr, mset, terase, pureE, unAV, intOp, binAV, fill, mget, AH.rowAt, AH.part, retQ, rvs, retV, AH.splice, AH.sliceElems, AH.bytesOf, AH.strOp, AH.bound, AH.addLog, AH.missQ, AH.minmaxAV, AH.wpOpD, AH.readOf, AH.effOf, AH.mapAt, AH.iterAt, Nat.reduceBEq, Nat.reduceAdd, Nat.reduceLT, ↓reduceIte, Nat.reduceEqDiff, Nat.reduceLeDiff, Nat.reduceSub, Nat.reduceMul, Int.reduceSub, Int.reduceToNat, Int.reduceBEq, Int.reduceBNe, Int.reduceLT, Int.reduceGT, Int.reduceLE, Int.reduceGE, Int.reduceNeg, Int.reduceAdd, AH.PD, heads, distN, AH.inN, posN, packM, packB, packTm, liveB, AV.inB, AV.insB, AV.ren, AV.rens, Blk.ren, Blk.inB, vstep, tput, vw, shift, newOnes, rowsM, blkIn, rwB, @flat_lts, AV.lt, AV.lts, Nat.sub_self, AH.rtO_eq, AH.rtO2_eq, AH.rtO2_none, AH.etO_eq, AH.etO2_eq, AH.etO2_none, AH.useO_some, AH.rtElse_eq, AH.elseO_some, AH.elseO_none, AH.etN_eq, Option.bind_some, Option.bind_none, AH.pairO_some, AH.pairO_none, AH.cC_dec, AH.cC_nil, AH.c0_dec, AH.c0_dec1, AH.aI_dec, AH.aS_dec, AH.aB_dec, AH.aNil_dec, AH.aNil_ptr, Option.map_none, effS, wrS, newS, backNo, AH.isIn, AH.posOf, AH.rwB, List.all_cons, List.all_nil, List.getElem?_cons_zero, List.getElem?_cons_succ, List.getElem?_nil, AH.appE_some, List.contains_cons, List.contains_nil, Nat.add_zero, errA_ren, dkM, dkR_eq, dkB_eq, Dk.eta, ne_eq, Nat.reduceEqDiff, Nat.zero_ne_one, not_false_eq_true, rdT_p, rdT_n, isOnT_p, isOnT_n, writesT_p, writesT_n, imgT_p, imgT_n, lenT_p, lenT_n, rimgT_p, fillT_eq, writeNT_p, writeNT_n, fuseNT_p, fuseNT_n, comeNT_p, comeNT_n, newT_eq, ofT_eq, rofT_eq, writeT_p, rwriteT_p, fuseT_p, rfuseT_p, comeT_p, rcomeT_p, getD_enc, hil, u8C_eq, hj, hS, hd, hE, hE2, e1, e2, hlt1, heq1, errA_nil, hw, kindT_err, show (14 : Nat) ≤ 14 by decide, Nat.mul_one, Nat.zero_add, Int.toNat_natCast, strs_get hjl, hz, hSz, hsz, i64max, bne_self_eq_false]
          repeat (refine ⟨by first | rfl | decide | omega | (simp only [List.length_map, and_true]; omega) | (simp only [List.length_map, List.length_set, and_true]; omega), ?_⟩)
          refine gc_auto [0, 1, 2, 3] [12, 11, 10, 8, 7, 0] [] ?_
          simp only [AH.SD, AH.wpOp, AOp.call?, AOp.next?, bstep, AOp.map, Opd.ev, tget, argTm, evs, AV.cells, St.eff, St.put, applyWr, mset, terase, pureE, unAV, intOp, binAV, fill, mget, AH.rowAt, AH.part, retQ, rvs, retV, AH.splice, AH.sliceElems, AH.bytesOf, AH.strOp, AH.bound, AH.addLog, AH.missQ, AH.minmaxAV, AH.wpOpD, AH.readOf, AH.effOf, AH.mapAt, AH.iterAt, Nat.reduceBEq, Nat.reduceAdd, Nat.reduceLT, ↓reduceIte, Nat.reduceEqDiff, Nat.reduceLeDiff, Nat.reduceSub, Nat.reduceMul, Int.reduceSub, Int.reduceToNat, Int.reduceBEq, Int.reduceBNe, Int.reduceLT, Int.reduceGT, Int.reduceLE, Int.reduceGE, Int.reduceNeg, Int.reduceAdd, AH.PD, heads, distN, AH.inN, posN, packM, packB, packTm, liveB, AV.inB, AV.insB, AV.ren, AV.rens, Blk.ren, Blk.inB, vstep, tput, strs_in, strs_ren, hsp, eL]
          simp only [eL, List.length_set] at fin
          exact fin
      · have hc : chk d j = 14 := by rw [chk, q1, q2, ha]; rfl
        have e : wrD d j S = (14, d) := by
          unfold wrD
          rw [if_neg (by rw [hSz]; decide), if_pos (by omega), hc]
        have ha' : (!d.away) = false := by rw [ha]; rfl
        have hlt1 : decide ((i : Int) < (N : Int)) = false := by simp only [decide_eq_false_iff_not]; omega
        have heq1 : ((i : Int) == (N : Int)) = false := by
          have : (i : Int) ≠ (N : Int) := by omega
          simpa using this
        have fin := done d ⟨hd, hL, ht, .inr ⟨by omega, ha, hwr⟩⟩
        simp only [AH.SD, AH.wpOp, AOp.call?, AOp.next?, bstep, AOp.map, Opd.ev, tget, argTm, evs, AV.cells, St.eff, St.put, applyWr, mset, terase, pureE, unAV, intOp, binAV, fill, mget, AH.rowAt, AH.part, retQ, rvs, retV, AH.splice, AH.sliceElems, AH.bytesOf, AH.strOp, AH.bound, AH.addLog, AH.missQ, AH.minmaxAV, AH.wpOpD, AH.readOf, AH.effOf, AH.mapAt, AH.iterAt, Nat.reduceBEq, Nat.reduceAdd, Nat.reduceLT, ↓reduceIte, Nat.reduceEqDiff, Nat.reduceLeDiff, Nat.reduceSub, Nat.reduceMul, Int.reduceSub, Int.reduceToNat, Int.reduceBEq, Int.reduceBNe, Int.reduceLT, Int.reduceGT, Int.reduceLE, Int.reduceGE, Int.reduceNeg, Int.reduceAdd, AH.PD, heads, distN, AH.inN, posN, packM, packB, packTm, liveB, AV.inB, AV.insB, AV.ren, AV.rens, Blk.ren, Blk.inB, vstep, tput, vw, shift, newOnes, rowsM, blkIn, rwB, @flat_lts, AV.lt, AV.lts, Nat.sub_self, AH.rtO_eq, AH.rtO2_eq, AH.rtO2_none, AH.etO_eq, AH.etO2_eq, AH.etO2_none, AH.useO_some, AH.rtElse_eq, AH.elseO_some, AH.elseO_none, AH.etN_eq, Option.bind_some, Option.bind_none, AH.pairO_some, AH.pairO_none, AH.cC_dec, AH.cC_nil, AH.c0_dec, AH.c0_dec1, AH.aI_dec, AH.aS_dec, AH.aB_dec, AH.aNil_dec, AH.aNil_ptr, Option.map_none, effS, wrS, newS, backNo, AH.isIn, AH.posOf, AH.rwB, List.all_cons, List.all_nil, List.getElem?_cons_zero, List.getElem?_cons_succ, List.getElem?_nil, AH.appE_some, List.contains_cons, List.contains_nil, Nat.add_zero, errA_ren, dkM, dkR_eq, dkB_eq, Dk.eta, ne_eq, Nat.reduceEqDiff, Nat.zero_ne_one, not_false_eq_true, rdT_p, rdT_n, isOnT_p, isOnT_n, writesT_p, writesT_n, imgT_p, imgT_n, lenT_p, lenT_n, rimgT_p, fillT_eq, writeNT_p, writeNT_n, fuseNT_p, fuseNT_n, comeNT_p, comeNT_n, newT_eq, ofT_eq, rofT_eq, writeT_p, rwriteT_p, fuseT_p, rfuseT_p, comeT_p, rcomeT_p, getD_enc, hil, u8C_eq, hj, hS, hd, e, ha', hlt1, heq1, errA_nil, hw, kindT_err, show (14 : Nat) ≤ 14 by decide, bne_self_eq_false]
        repeat (refine ⟨by first | rfl | decide | omega | (simp only [List.length_map, and_true]; omega) | (simp only [List.length_map, List.length_set, and_true]; omega), ?_⟩)
        refine gc_auto [0, 1, 2, 3] [12, 11, 10, 8, 7, 0] [] ?_
        simp only [AH.SD, AH.wpOp, AOp.call?, AOp.next?, bstep, AOp.map, Opd.ev, tget, argTm, evs, AV.cells, St.eff, St.put, applyWr, mset, terase, pureE, unAV, intOp, binAV, fill, mget, AH.rowAt, AH.part, retQ, rvs, retV, AH.splice, AH.sliceElems, AH.bytesOf, AH.strOp, AH.bound, AH.addLog, AH.missQ, AH.minmaxAV, AH.wpOpD, AH.readOf, AH.effOf, AH.mapAt, AH.iterAt, Nat.reduceBEq, Nat.reduceAdd, Nat.reduceLT, ↓reduceIte, Nat.reduceEqDiff, Nat.reduceLeDiff, Nat.reduceSub, Nat.reduceMul, Int.reduceSub, Int.reduceToNat, Int.reduceBEq, Int.reduceBNe, Int.reduceLT, Int.reduceGT, Int.reduceLE, Int.reduceGE, Int.reduceNeg, Int.reduceAdd, AH.PD, heads, distN, AH.inN, posN, packM, packB, packTm, liveB, AV.inB, AV.insB, AV.ren, AV.rens, Blk.ren, Blk.inB, vstep, tput, strs_in, strs_ren]
        exact fin
    · have hil : i = l.length := by have := ge_of_dec hlt; omega
      subst hil
      have hd4 := co_ok hd
      have hL4 := co_len d
      have hwd : (coD d).writes = d.writes := by unfold coD; cases d.away <;> rfl
      have haw : (coD d).away = false := by
        unfold coD
        cases hq : d.away
        · exact hq
        · rfl
      have hmin : (if (l.length : Int) < (N : Int) then (l.length : Int) else N) = (coD d).writes := by
        rw [hwd]
        rcases hI with ⟨h1, _, _, h2⟩ | ⟨h1, _, h2⟩
        · rw [h2]
          split
          · rfl
          · omega
        · rw [h2, if_neg (by omega)]
      have hcat : (catS (coD d).L).size = 640 := by rw [catS_size _ hd4.1, hL4, hL]
      rw [← hL4] at hL
      simp only [AH.SD, AH.wpOp, AOp.call?, AOp.next?, bstep, AOp.map, Opd.ev, tget, argTm, evs, AV.cells, St.eff, St.put, applyWr, mset, terase, pureE, unAV, intOp, binAV, fill, mget, AH.rowAt, AH.part, retQ, rvs, retV, AH.splice, AH.sliceElems, AH.bytesOf, AH.strOp, AH.bound, AH.addLog, AH.missQ, AH.minmaxAV, AH.wpOpD, AH.readOf, AH.effOf, AH.mapAt, AH.iterAt, Nat.reduceBEq, Nat.reduceAdd, Nat.reduceLT, ↓reduceIte, Nat.reduceEqDiff, Nat.reduceLeDiff, Nat.reduceSub, Nat.reduceMul, Int.reduceSub, Int.reduceToNat, Int.reduceBEq, Int.reduceBNe, Int.reduceLT, Int.reduceGT, Int.reduceLE, Int.reduceGE, Int.reduceNeg, Int.reduceAdd, AH.PD, heads, distN, AH.inN, posN, packM, packB, packTm, liveB, AV.inB, AV.insB, AV.ren, AV.rens, Blk.ren, Blk.inB, vstep, tput, vw, shift, newOnes, rowsM, blkIn, rwB, @flat_lts, AV.lt, AV.lts, Nat.sub_self, AH.rtO_eq, AH.rtO2_eq, AH.rtO2_none, AH.etO_eq, AH.etO2_eq, AH.etO2_none, AH.useO_some, AH.rtElse_eq, AH.elseO_some, AH.elseO_none, AH.etN_eq, Option.bind_some, Option.bind_none, AH.pairO_some, AH.pairO_none, AH.cC_dec, AH.cC_nil, AH.c0_dec, AH.c0_dec1, AH.aI_dec, AH.aS_dec, AH.aB_dec, AH.aNil_dec, AH.aNil_ptr, Option.map_none, effS, wrS, newS, backNo, AH.isIn, AH.posOf, AH.rwB, List.all_cons, List.all_nil, List.getElem?_cons_zero, List.getElem?_cons_succ, List.getElem?_nil, AH.appE_some, List.contains_cons, List.contains_nil, Nat.add_zero, errA_ren, dkM, dkR_eq, dkB_eq, Dk.eta, ne_eq, Nat.reduceEqDiff, Nat.zero_ne_one, not_false_eq_true, rdT_p, rdT_n, isOnT_p, isOnT_n, writesT_p, writesT_n, imgT_p, imgT_n, lenT_p, lenT_n, rimgT_p, fillT_eq, writeNT_p, writeNT_n, fuseNT_p, fuseNT_n, comeNT_p, comeNT_n, newT_eq, ofT_eq, rofT_eq, writeT_p, rwriteT_p, fuseT_p, rfuseT_p, comeT_p, rcomeT_p, hd]
      clear hwd hI ht ih hi hlt hd
      generalize hG : coD d = G at *
      refine loop_do [0, 1, 2, 3] [15, 10, 8, 7, 0] [] (α := Nat) (fun i => 10 - i) (t3St l N G) (fun i => i ≤ 10) 0 (Nat.zero_le _) (by simp only [AH.SD, AH.wpOp, AOp.call?, AOp.next?, bstep, AOp.map, Opd.ev, tget, argTm, evs, AV.cells, St.eff, St.put, applyWr, mset, terase, pureE, unAV, intOp, binAV, fill, mget, AH.rowAt, AH.part, retQ, rvs, retV, AH.splice, AH.sliceElems, AH.bytesOf, AH.strOp, AH.bound, AH.addLog, AH.missQ, AH.minmaxAV, AH.wpOpD, AH.readOf, AH.effOf, AH.mapAt, AH.iterAt, Nat.reduceBEq, Nat.reduceAdd, Nat.reduceLT, ↓reduceIte, Nat.reduceEqDiff, Nat.reduceLeDiff, Nat.reduceSub, Nat.reduceMul, Int.reduceSub, Int.reduceToNat, Int.reduceBEq, Int.reduceBNe, Int.reduceLT, Int.reduceGT, Int.reduceLE, Int.reduceGE, Int.reduceNeg, Int.reduceAdd, AH.PD, heads, distN, AH.inN, posN, packM, packB, packTm, liveB, AV.inB, AV.insB, AV.ren, AV.rens, Blk.ren, Blk.inB, vstep, tput, t3St, t1M, strs_in, strs_ren, hL4]) ?_
      intro X i hi ih
      simp only [AH.SD, AH.wpOp, AOp.call?, AOp.next?, bstep, AOp.map, Opd.ev, tget, argTm, evs, AV.cells, St.eff, St.put, applyWr, mset, terase, pureE, unAV, intOp, binAV, fill, mget, AH.rowAt, AH.part, retQ, rvs, retV, AH.splice, AH.sliceElems, AH.bytesOf, AH.strOp, AH.bound, AH.addLog, AH.missQ, AH.minmaxAV, AH.wpOpD, AH.readOf, AH.effOf, AH.mapAt, AH.iterAt, Nat.reduceBEq, Nat.reduceAdd, Nat.reduceLT, ↓reduceIte, Nat.reduceEqDiff, Nat.reduceLeDiff, Nat.reduceSub, Nat.reduceMul, Int.reduceSub, Int.reduceToNat, Int.reduceBEq, Int.reduceBNe, Int.reduceLT, Int.reduceGT, Int.reduceLE, Int.reduceGE, Int.reduceNeg, Int.reduceAdd, AH.PD, heads, distN, AH.inN, posN, packM, packB, packTm, liveB, AV.inB, AV.insB, AV.ren, AV.rens, Blk.ren, Blk.inB, vstep, tput, vw, shift, newOnes, rowsM, blkIn, rwB, @flat_lts, AV.lt, AV.lts, Nat.sub_self, AH.rtO_eq, AH.rtO2_eq, AH.rtO2_none, AH.etO_eq, AH.etO2_eq, AH.etO2_none, AH.useO_some, AH.rtElse_eq, AH.elseO_some, AH.elseO_none, AH.etN_eq, Option.bind_some, Option.bind_none, AH.pairO_some, AH.pairO_none, AH.cC_dec, AH.cC_nil, AH.c0_dec, AH.c0_dec1, AH.aI_dec, AH.aS_dec, AH.aB_dec, AH.aNil_dec, AH.aNil_ptr, Option.map_none, effS, wrS, newS, backNo, AH.isIn, AH.posOf, AH.rwB, List.all_cons, List.all_nil, List.getElem?_cons_zero, List.getElem?_cons_succ, List.getElem?_nil, AH.appE_some, List.contains_cons, List.contains_nil, Nat.add_zero, t3St, t1M]
      refine ⟨fun hlt => ?_, fun hlt => ?_⟩
      · have hil : i < 10 := by simp only [decide_eq_true_eq] at hlt; omega
        have hw := wrapS (i := i) (by omega)
        have done := ih (i + 1) hil (by omega)
        simp only [t3St, t1M] at done
        have hjl : i < G.L.length := by omega
        have q1 : decide ((i : Int) < 0) = false := by simp only [decide_eq_false_iff_not]; omega
        have q2 : decide ((i : Int) ≥ (G.L.length : Int)) = false := by simp only [decide_eq_false_iff_not]; omega
        have hc : chk G i = 0 := by rw [chk, q1, q2, haw]; rfl
        have hr : rdS G i = G.L[i] := by
          rw [rdS, hc, Int.toNat_natCast, List.getD_eq_getElem?_getD, List.getElem?_eq_getElem hjl]; rfl
        simp only [AH.SD, AH.wpOp, AOp.call?, AOp.next?, bstep, AOp.map, Opd.ev, tget, argTm, evs, AV.cells, St.eff, St.put, applyWr, mset, terase, pureE, unAV, intOp, binAV, fill, mget, AH.rowAt, AH.part, retQ, rvs, retV, AH.splice, AH.sliceElems, AH.bytesOf, AH.strOp, AH.bound, AH.addLog, AH.missQ, AH.minmaxAV, AH.wpOpD, AH.readOf, AH.effOf, AH.mapAt, AH.iterAt, Nat.reduceBEq, Nat.reduceAdd, Nat.reduceLT, ↓reduceIte, Nat.reduceEqDiff, Nat.reduceLeDiff, Nat.reduceSub, Nat.reduceMul, Int.reduceSub, Int.reduceToNat, Int.reduceBEq, Int.reduceBNe, Int.reduceLT, Int.reduceGT, Int.reduceLE, Int.reduceGE, Int.reduceNeg, Int.reduceAdd, AH.PD, heads, distN, AH.inN, posN, packM, packB, packTm, liveB, AV.inB, AV.insB, AV.ren, AV.rens, Blk.ren, Blk.inB, vstep, tput, vw, shift, newOnes, rowsM, blkIn, rwB, @flat_lts, AV.lt, AV.lts, Nat.sub_self, AH.rtO_eq, AH.rtO2_eq, AH.rtO2_none, AH.etO_eq, AH.etO2_eq, AH.etO2_none, AH.useO_some, AH.rtElse_eq, AH.elseO_some, AH.elseO_none, AH.etN_eq, Option.bind_some, Option.bind_none, AH.pairO_some, AH.pairO_none, AH.cC_dec, AH.cC_nil, AH.c0_dec, AH.c0_dec1, AH.aI_dec, AH.aS_dec, AH.aB_dec, AH.aNil_dec, AH.aNil_ptr, Option.map_none, effS, wrS, newS, backNo, AH.isIn, AH.posOf, AH.rwB, List.all_cons, List.all_nil, List.getElem?_cons_zero, List.getElem?_cons_succ, List.getElem?_nil, AH.appE_some, List.contains_cons, List.contains_nil, Nat.add_zero, errA_ren, dkM, dkR_eq, dkB_eq, Dk.eta, ne_eq, Nat.reduceEqDiff, Nat.zero_ne_one, not_false_eq_true, rdT_p, rdT_n, isOnT_p, isOnT_n, writesT_p, writesT_n, imgT_p, imgT_n, lenT_p, lenT_n, rimgT_p, fillT_eq, writeNT_p, writeNT_n, fuseNT_p, fuseNT_n, comeNT_p, comeNT_n, newT_eq, ofT_eq, rofT_eq, writeT_p, rwriteT_p, fuseT_p, rfuseT_p, comeT_p, rcomeT_p, rdA, hc, hr, errA_nil, Int.toNat_natCast, Nat.mul_one, Nat.zero_add, strs_get hjl, bne_self_eq_false]
        repeat (refine ⟨by first | rfl | decide | omega | (simp only [List.length_map, and_true]; omega) | (simp only [List.length_map, List.length_set, and_true]; omega), ?_⟩)
        simp only [AH.SD, AH.wpOp, AOp.call?, AOp.next?, bstep, AOp.map, Opd.ev, tget, argTm, evs, AV.cells, St.eff, St.put, applyWr, mset, terase, pureE, unAV, intOp, binAV, fill, mget, AH.rowAt, AH.part, retQ, rvs, retV, AH.splice, AH.sliceElems, AH.bytesOf, AH.strOp, AH.bound, AH.addLog, AH.missQ, AH.minmaxAV, AH.wpOpD, AH.readOf, AH.effOf, AH.mapAt, AH.iterAt, Nat.reduceBEq, Nat.reduceAdd, Nat.reduceLT, ↓reduceIte, Nat.reduceEqDiff, Nat.reduceLeDiff, Nat.reduceSub, Nat.reduceMul, Int.reduceSub, Int.reduceToNat, Int.reduceBEq, Int.reduceBNe, Int.reduceLT, Int.reduceGT, Int.reduceLE, Int.reduceGE, Int.reduceNeg, Int.reduceAdd, AH.PD, heads, distN, AH.inN, posN, packM, packB, packTm, liveB, AV.inB, AV.insB, AV.ren, AV.rens, Blk.ren, Blk.inB, vstep, tput, vw, shift, newOnes, rowsM, blkIn, rwB, @flat_lts, AV.lt, AV.lts, Nat.sub_self, AH.rtO_eq, AH.rtO2_eq, AH.rtO2_none, AH.etO_eq, AH.etO2_eq, AH.etO2_none, AH.useO_some, AH.rtElse_eq, AH.elseO_some, AH.elseO_none, AH.etN_eq, Option.bind_some, Option.bind_none, AH.pairO_some, AH.pairO_none, AH.cC_dec, AH.cC_nil, AH.c0_dec, AH.c0_dec1, AH.aI_dec, AH.aS_dec, AH.aB_dec, AH.aNil_dec, AH.aNil_ptr, Option.map_none, effS, wrS, newS, backNo, AH.isIn, AH.posOf, AH.rwB, List.all_cons, List.all_nil, List.getElem?_cons_zero, List.getElem?_cons_succ, List.getElem?_nil, AH.appE_some, List.contains_cons, List.contains_nil, Nat.add_zero, hw]
        refine gc_auto [0, 1, 2, 3] [15, 10, 8, 7, 0] [] ?_
        simp only [AH.SD, AH.wpOp, AOp.call?, AOp.next?, bstep, AOp.map, Opd.ev, tget, argTm, evs, AV.cells, St.eff, St.put, applyWr, mset, terase, pureE, unAV, intOp, binAV, fill, mget, AH.rowAt, AH.part, retQ, rvs, retV, AH.splice, AH.sliceElems, AH.bytesOf, AH.strOp, AH.bound, AH.addLog, AH.missQ, AH.minmaxAV, AH.wpOpD, AH.readOf, AH.effOf, AH.mapAt, AH.iterAt, Nat.reduceBEq, Nat.reduceAdd, Nat.reduceLT, ↓reduceIte, Nat.reduceEqDiff, Nat.reduceLeDiff, Nat.reduceSub, Nat.reduceMul, Int.reduceSub, Int.reduceToNat, Int.reduceBEq, Int.reduceBNe, Int.reduceLT, Int.reduceGT, Int.reduceLE, Int.reduceGE, Int.reduceNeg, Int.reduceAdd, AH.PD, heads, distN, AH.inN, posN, packM, packB, packTm, liveB, AV.inB, AV.insB, AV.ren, AV.rens, Blk.ren, Blk.inB, vstep, tput, strs_in, strs_ren]
        exact done
      · simp only [AH.SD, AH.wpOp, AOp.call?, AOp.next?, bstep, AOp.map, Opd.ev, tget, argTm, evs, AV.cells, St.eff, St.put, applyWr, mset, terase, pureE, unAV, intOp, binAV, fill, mget, AH.rowAt, AH.part, retQ, rvs, retV, AH.splice, AH.sliceElems, AH.bytesOf, AH.strOp, AH.bound, AH.addLog, AH.missQ, AH.minmaxAV, AH.wpOpD, AH.readOf, AH.effOf, AH.mapAt, AH.iterAt, Nat.reduceBEq, Nat.reduceAdd, Nat.reduceLT, ↓reduceIte, Nat.reduceEqDiff, Nat.reduceLeDiff, Nat.reduceSub, Nat.reduceMul, Int.reduceSub, Int.reduceToNat, Int.reduceBEq, Int.reduceBNe, Int.reduceLT, Int.reduceGT, Int.reduceLE, Int.reduceGE, Int.reduceNeg, Int.reduceAdd, AH.PD, heads, distN, AH.inN, posN, packM, packB, packTm, liveB, AV.inB, AV.insB, AV.ren, AV.rens, Blk.ren, Blk.inB, vstep, tput, vw, shift, newOnes, rowsM, blkIn, rwB, @flat_lts, AV.lt, AV.lts, Nat.sub_self, AH.rtO_eq, AH.rtO2_eq, AH.rtO2_none, AH.etO_eq, AH.etO2_eq, AH.etO2_none, AH.useO_some, AH.rtElse_eq, AH.elseO_some, AH.elseO_none, AH.etN_eq, Option.bind_some, Option.bind_none, AH.pairO_some, AH.pairO_none, AH.cC_dec, AH.cC_nil, AH.c0_dec, AH.c0_dec1, AH.aI_dec, AH.aS_dec, AH.aB_dec, AH.aNil_dec, AH.aNil_ptr, Option.map_none, effS, wrS, newS, backNo, AH.isIn, AH.posOf, AH.rwB, List.all_cons, List.all_nil, List.getElem?_cons_zero, List.getElem?_cons_succ, List.getElem?_nil, AH.appE_some, List.contains_cons, List.contains_nil, Nat.add_zero, errA_ren, dkM, dkR_eq, dkB_eq, Dk.eta, ne_eq, Nat.reduceEqDiff, Nat.zero_ne_one, not_false_eq_true, rdT_p, rdT_n, isOnT_p, isOnT_n, writesT_p, writesT_n, imgT_p, imgT_n, lenT_p, lenT_n, rimgT_p, fillT_eq, writeNT_p, writeNT_n, fuseNT_p, fuseNT_n, comeNT_p, comeNT_n, newT_eq, ofT_eq, rofT_eq, writeT_p, rwriteT_p, fuseT_p, rfuseT_p, comeT_p, rcomeT_p, hd4, hmin, hcat]
end Go.Proofs.YtcmnchmkoghfdaaDoor.C04
