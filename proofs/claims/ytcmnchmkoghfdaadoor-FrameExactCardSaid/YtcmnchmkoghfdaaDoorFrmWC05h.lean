import Derived.Test.YtcmnchmkoghfdaaDoorFrmQC05h
import Derived.Test.YtcmnchmkoghfdaaDoorFFrmWC05h
import Derived.Test.YtcmnchmkoghfdaaDoorIsTC05h
open Go AH
set_option linter.unusedSimpArgs false
set_option maxRecDepth 100000
namespace Go.Proofs.YtcmnchmkoghfdaaDoor.C05h
theorem bksT_p {q : Int} {d : ByteArray} {n : Nat} {M : Nat → Option Blk} : bksT [.int .i64 q, .str d] M n = useO [] n (if okBl (q, d, ()) then some (.tup [.slc 0 0 (sizeN d.size) none, .nili], [some (.row false 1 ((blkL q d (sizeN d.size)).map strC))]) else none) := by
  simp only [bksT, etN_eq, cC_dec, aI_dec, aS_dec, c0_dec, pairO_some, Option.bind_some]
theorem okSz_of {d : ByteArray} (h : d.size ≤ 7000) : okSz d := by unfold okSz; omega
theorem sizeT_q {d : ByteArray} {M : Nat → Option Blk} (h : okSz d) : sizeT [.str d] M = some (.int .i64 (sizeN d.size), []) := by
  rw [sizeT_p]; exact rtC1_eq h
noncomputable abbrev tW : List (FuncId × RT) := [(31, sizeT), (30, bksN), (33, isT)]
noncomputable abbrev eW : List (FuncId × ET) := [(30, bksT), (32, rdT)]
theorem tW_ok : AllF S0 tW := ⟨sizeT_ok, bksN_ok, isT_ok, trivial⟩
theorem eW_ok : AllE S0 eW := ⟨bksT_ok, rdT_ok, trivial⟩
theorem okW0 : CtxOK S0 (ctxE S0 tW [] eW) := ctxE_ok tW_ok trivial eW_ok mixed
def oneS : ByteArray := ⟨#[97]⟩
theorem aw1 : okBl (7, oneS, ()) := ⟨by decide, by decide, by decide⟩
theorem aw2 : ¬ okBl (0, oneS, ()) := fun h => by have := h.1; simp at this
theorem aw3 : sizeN oneS.size = 1 := rfl
theorem aw4 : rdZ (blkL 7 oneS 1) = ⟨oneS, 7, 1, -1⟩ := by
  have := read_back (seq := 7) (d := oneS) (by decide) (by decide) (by decide) []
  rw [List.append_nil] at this
  exact this
theorem aw5 : blkL 7 oneS 1 = [blkS 7 oneS 0] := rfl
theorem aw6 : (blkS 7 oneS 0).size = 64 := blk_sz (by decide)
theorem aw7 : (blkS 7 oneS 0).extract 0 4 = ⟨#[1, 0, 0, 0]⟩ := by decide +kernel
theorem aw8 : (blkS 7 oneS 0).extract 56 64 = ⟨#[7, 0, 0, 0, 0, 0, 1, 0]⟩ := by decide +kernel
theorem rdA_ok {x : Rd} (h : (x.bad == -1) = true) : rdA x = .tup [.str x.t, .int .i64 x.q, .int .i64 x.n, .nili] := by rw [rdA, h]; rfl
theorem rdM_ok {l : List ByteArray} {x : Rd} (h : (x.bad == -1) = true) : rdM l x = [some (.row true 1 (l.map strC))] := by rw [rdM, h]; rfl
theorem rdA_g {s : ByteArray} {q n : Int} : rdA ⟨s, q, n, -1⟩ = .tup [.str s, .int .i64 q, .int .i64 n, .nili] := rfl
theorem rdM_g {l : List ByteArray} {s : ByteArray} {q n : Int} : rdM l ⟨s, q, n, -1⟩ = [some (.row true 1 (l.map strC))] := rfl
theorem sxR_s {id n : Nat} {ro : Bool} {L : List ByteArray} (h : n = L.length) : sxR cStr 1 n id (some (.row ro 1 (L.map strC))) = some (L, [(id, true)]) := by rw [h]; exact sxR_eq (c := cStr)
theorem row1 (s : ByteArray) : [[AV.str s]] = [s].map strC := rfl
theorem sz0 : okSz ⟨#[]⟩ := okSz_of (by decide)
theorem aw9 : sizeN (⟨#[]⟩ : ByteArray).size = 1 := rfl
theorem oneS_eq : (⟨#[97]⟩ : ByteArray) = oneS := rfl
theorem aw5' : [blkS 7 oneS 0] = blkL 7 oneS 1 := rfl
theorem isA : ∀ M, isT [.err 0, .err 0] M = some (.bool true, []) := fun M => rfl
theorem awake_ok : Pure S0 29 [] (.bool true) := by
  refine fun_sound okW0 Tryd.func29 c29 ?_
  unfold wpF F29
  have hl : (blkL 7 oneS 1).length ≤ 1048576 := by decide
  simp only [AH.SD, AH.wpOp, AOp.call?, AOp.next?, bstep, AOp.map, Opd.ev, tget, argTm, evs, AV.cells, St.eff, St.put, applyWr, mset, terase, pureE, unAV, intOp, binAV, fill, mget, AH.rowAt, AH.part, retQ, rvs, retV, AH.splice, AH.sliceElems, AH.bytesOf, AH.strOp, AH.bound, AH.addLog, AH.missQ, AH.minmaxAV, AH.wpOpD, AH.readOf, AH.effOf, AH.mapAt, AH.iterAt, Nat.reduceBEq, Nat.reduceAdd, Nat.reduceLT, ↓reduceIte, Nat.reduceEqDiff, Nat.reduceLeDiff, Nat.reduceSub, Nat.reduceMul, Int.reduceSub, Int.reduceToNat, Int.reduceBEq, Int.reduceBNe, Int.reduceLT, Int.reduceGT, Int.reduceLE, Int.reduceGE, Int.reduceNeg, Int.reduceAdd, AH.PD, heads, distN, AH.inN, posN, packM, packB, packTm, liveB, AV.inB, AV.insB, AV.ren, AV.rens, Blk.ren, Blk.inB, vstep, tput, vw, shift, newOnes, rowsM, blkIn, rwB, @flat_lts, AV.lt, AV.lts, Nat.sub_self, AH.rtO_eq, AH.rtO2_eq, AH.rtO2_none, AH.etO_eq, AH.etO2_eq, AH.etO2_none, AH.useO_some, AH.rtElse_eq, AH.elseO_some, AH.elseO_none, AH.etN_eq, Option.bind_some, Option.bind_none, AH.pairO_some, AH.pairO_none, AH.cC_dec, AH.cC_nil, AH.c0_dec, AH.c0_dec1, AH.aI_dec, AH.aS_dec, AH.aB_dec, AH.aNil_dec, AH.aNil_ptr, Option.map_none, effS, wrS, newS, backNo, AH.isIn, AH.posOf, AH.rwB, List.all_cons, List.all_nil, List.getElem?_cons_zero, List.getElem?_cons_succ, List.getElem?_nil, AH.appE_some, List.contains_cons, List.contains_nil, Nat.add_zero, oneS_eq, bksN_p, rtC1, aw1, not_true_eq_false, if_false, bksT_p, if_true, aw3]
  repeat (refine ⟨by first | rfl | decide | omega | (simp only [List.length_map, and_true]; omega) | (simp only [List.length_map, List.length_set, and_true]; omega), ?_⟩)
  have e0 : ((blkL 7 oneS 1).map strC).getD 0 [] = [.str (blkS 7 oneS 0)] := rfl
  simp only [AH.SD, AH.wpOp, AOp.call?, AOp.next?, bstep, AOp.map, Opd.ev, tget, argTm, evs, AV.cells, St.eff, St.put, applyWr, mset, terase, pureE, unAV, intOp, binAV, fill, mget, AH.rowAt, AH.part, retQ, rvs, retV, AH.splice, AH.sliceElems, AH.bytesOf, AH.strOp, AH.bound, AH.addLog, AH.missQ, AH.minmaxAV, AH.wpOpD, AH.readOf, AH.effOf, AH.mapAt, AH.iterAt, Nat.reduceBEq, Nat.reduceAdd, Nat.reduceLT, ↓reduceIte, Nat.reduceEqDiff, Nat.reduceLeDiff, Nat.reduceSub, Nat.reduceMul, Int.reduceSub, Int.reduceToNat, Int.reduceBEq, Int.reduceBNe, Int.reduceLT, Int.reduceGT, Int.reduceLE, Int.reduceGE, Int.reduceNeg, Int.reduceAdd, AH.PD, heads, distN, AH.inN, posN, packM, packB, packTm, liveB, AV.inB, AV.insB, AV.ren, AV.rens, Blk.ren, Blk.inB, vstep, tput, vw, shift, newOnes, rowsM, blkIn, rwB, @flat_lts, AV.lt, AV.lts, Nat.sub_self, AH.rtO_eq, AH.rtO2_eq, AH.rtO2_none, AH.etO_eq, AH.etO2_eq, AH.etO2_none, AH.useO_some, AH.rtElse_eq, AH.elseO_some, AH.elseO_none, AH.etN_eq, Option.bind_some, Option.bind_none, AH.pairO_some, AH.pairO_none, AH.cC_dec, AH.cC_nil, AH.c0_dec, AH.c0_dec1, AH.aI_dec, AH.aS_dec, AH.aB_dec, AH.aNil_dec, AH.aNil_ptr, Option.map_none, effS, wrS, newS, backNo, AH.isIn, AH.posOf, AH.rwB, List.all_cons, List.all_nil, List.getElem?_cons_zero, List.getElem?_cons_succ, List.getElem?_nil, AH.appE_some, List.contains_cons, List.contains_nil, Nat.add_zero, rdT_p, sxR_s, blkL_len, hl, rdA_g, rdM_g, aw4, bksN_p, rtC1, aw2, not_false_eq_true, if_true, e0, aw6, aw7, aw8, tl_self, isA, sizeT_q sz0, aw9, List.length_map, Int.toNat_natCast]
  repeat (refine ⟨by first | rfl | decide | omega | (simp only [List.length_map, and_true]; omega) | (simp only [List.length_map, List.length_set, and_true]; omega), ?_⟩)
def awakeT : RT := rtP c0 fun _ => .bool true
theorem awakeT_ok : ReadF S0 29 awakeT := rtP_ok (fun _ => awake_ok) fun _ => rfl
theorem awakeT_eq (M : Nat → Option Blk) : awakeT [] M = some (.bool true, []) := rfl
theorem okW : CtxOK S0 (ctxE S0 ((29, awakeT) :: tW) [] eW) := ctxE_ok ⟨awakeT_ok, tW_ok⟩ trivial eW_ok mixed
end Go.Proofs.YtcmnchmkoghfdaaDoor.C05h
