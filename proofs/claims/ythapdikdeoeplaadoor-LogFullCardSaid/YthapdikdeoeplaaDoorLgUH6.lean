import Derived.Test.YthapdikdeoeplaaDoorPcLgVH6
open Go AH
set_option linter.unusedSimpArgs false
set_option maxRecDepth 100000
namespace Go.Proofs.YthapdikdeoeplaaDoor.H6
/- LogFull. -/
theorem mod_u (x : Int) {m : Int} (h1 : 1 ≤ m) (h2 : m ≤ 2199023255552) : ∃ k : Nat, IntKind.i64.wrap ((IntKind.u64.wrap x).tmod m) = (k : Int) ∧ (k : Int) < m := by
  have h0 : 0 ≤ IntKind.u64.wrap x := by rw [IntKind.wrap_u64]; omega
  have h3 : (IntKind.u64.wrap x).tmod m = IntKind.u64.wrap x % m := Int.tmod_eq_emod_of_nonneg h0
  have h4 := Int.emod_nonneg (IntKind.u64.wrap x) (by omega : m ≠ 0)
  have h5 := Int.emod_lt_of_pos (IntKind.u64.wrap x) (by omega : (0 : Int) < m)
  rw [h3]
  generalize IntKind.u64.wrap x % m = r at *
  refine ⟨r.toNat, ?_, by omega⟩
  rw [IntKind.wrap_i64]
  omega
def Z1 : List ByteArray := [zeB]
def lfL (W : List ByteArray) : List ByteArray := lgL Z1 (frs 1 W) Z1 10
def lfD (W : List ByteArray) (w : Int) : Dk := ⟨lfL W, false, -1, 0, w⟩
def lfG (W : List ByteArray) (w : Int) : Lg := ⟨lfD W w, 1, 11, 0, ((1 + (frs 1 W).length : Nat) : Int), W, false⟩
theorem newD_rep12 : newD 12 = lfD [] 0 := newD_rep (n := 12) (by decide)
theorem lfL_0 : List.replicate 12 zeB = lfL [] := rfl
theorem lfL_ok {W : List ByteArray} {w : Int} (h : (frs 1 W).length ≤ 10) : (lfD W w).ok := by
  have hz : ∀ s ∈ Z1, s.size = 64 := fun s hs => by
    simp only [Z1, List.mem_singleton] at hs
    rw [hs]; exact zeB_sz
  exact dOn_ok (lgL_sz (n := 10) hz (frs_sz W 1) hz) (by show (lgL Z1 (frs 1 W) Z1 10).length ≤ 4096; rw [lgL_len h]; decide)
theorem lfG_ok {W : List ByteArray} {w : Int} (h : (frs 1 W).length ≤ 10) : (lfG W w).ok := by
  have h1 := frs_le W 1
  have h2 : (lfL W).length = 12 := lgL_len h
  refine ⟨lfL_ok h, (by decide : isBase 0), by show (0 : Int) ≤ 1; decide, ?_, ?_, ?_, ?_⟩
  · show (1 : Int) ≤ ((1 + (frs 1 W).length : Nat) : Int); omega
  · show ((1 + (frs 1 W).length : Nat) : Int) ≤ 11; omega
  · show (11 : Int) ≤ ((lfL W).length : Int); omega
  · show (W.length : Int) ≤ ((1 + (frs 1 W).length : Nat) : Int) - 1; omega
theorem lf_open {W : List ByteArray} {w : Int} (h : (frs 1 W).length ≤ 10) (hW : ∀ s ∈ W, s.size ≤ 6000) : ∃ w', opnZ (lfD W w) 1 11 0 = (0, lfG W w') :=
  opn_frs (A := Z1) (C := Z1) (n := 10) (b := 0) (w := w) (W := W) (by decide) h (by decide) hW (by have := frs_le W 1; omega)
theorem lf_add {W : List ByteArray} {w : Int} {s : ByteArray} (hs : s.size ≤ 6000) (hr : (frs 1 W).length + sizeN s.size ≤ 10) : ∃ w', addL (lfG W w) s = (0, lfG (W ++ [s]) w') := by
  have h1 := frs_le W 1
  obtain ⟨w', h⟩ := add_on (A := Z1) (B := frs 1 W) (C := Z1) (n := 10) (w := w) (b := 0) (W := W) hs hr (by omega)
  have e := frs_snoc W 1 s
  refine ⟨w', ?_⟩
  have e2 : (0 : Int) + (W.length : Int) + 1 = 1 + (W.length : Int) := by omega
  rw [e2, ← e] at h
  have e3 : (frs 1 W).length + sizeN s.size = (frs 1 (W ++ [s])).length := by rw [e, List.length_append, blkL_len]
  rw [e3] at h
  exact h
theorem lf_full {W : List ByteArray} {w : Int} {s : ByteArray} (hs : s.size ≤ 6000) (h : (frs 1 W).length ≤ 10) (hr : ¬ (frs 1 W).length + sizeN s.size ≤ 10) : addL (lfG W w) s = (7, lfG W w) := by
  unfold addL
  rw [if_neg (by omega), if_pos (.inl (by
    show (sizeN s.size : Int) > (11 : Int) - ((1 + (frs 1 W).length : Nat) : Int)
    omega))]
noncomputable abbrev tLf : List (FuncId × RT) := (7, lawakeT) :: (22, imgT) :: tLg
theorem okLf : CtxOK S0 (ctxE S0 tLf [] eLg) := ctxE_ok ⟨lawakeT_ok, imgT_ok, tLg_ok⟩ trivial eLg_ok mixed
def liC (n : Int) : List AV := [.int .i64 n]
instance : FlatE liC := ⟨fun _ => rfl⟩
theorem liC_eq (n : Int) : liC n = [.int .i64 n] := rfl
def lfSt (l : List Int) (x : Nat × List ByteArray × Int) : St :=
  ⟨[(7, .int .i64 x.1), (6, .slc 5 0 x.2.1.length none), (4, .ptr 3 0 0), (3, .ptr 1 0 0), (0, .slc 0 0 l.length none)],
   [some (.row true 1 (l.map liC)), some (.row false 5 [[.slc 2 0 (lfL x.2.1).length none, .bool false, .int .i64 (-1), .int .i64 0, .int .i64 x.2.2]]), some (.row false 1 ((lfL x.2.1).map strC)),
    some (.row false 7 [[.ptr 1 0 0, .int .i64 1, .int .i64 11, .int .i64 0, .int .i64 ((1 + (frs 1 x.2.1).length : Nat) : Int), .slc 4 0 x.2.1.length none, .bool false]]), some (.row false 1 (x.2.1.map strC)), some (.row false 1 (x.2.1.map strC))]⟩
theorem lfD_eta (W : List ByteArray) (w : Int) : (⟨lfL W, false, -1, 0, w⟩ : Dk) = lfD W w := rfl
theorem lfG_eta (W : List ByteArray) (w : Int) : (⟨lfD W w, 1, 11, 0, ((1 + (frs 1 W).length : Nat) : Int), W, false⟩ : Lg) = lfG W w := rfl
theorem lfD_L (W : List ByteArray) (w : Int) : (lfD W w).L = lfL W := rfl
theorem lfD_a (W : List ByteArray) (w : Int) : (lfD W w).away = false := rfl
theorem lfD_f (W : List ByteArray) (w : Int) : (lfD W w).fuse = -1 := rfl
theorem lfD_t (W : List ByteArray) (w : Int) : (lfD W w).torn = 0 := rfl
theorem lfD_w (W : List ByteArray) (w : Int) : (lfD W w).writes = w := rfl
theorem lfG_d (W : List ByteArray) (w : Int) : (lfG W w).d = lfD W w := rfl
theorem lfG_f (W : List ByteArray) (w : Int) : (lfG W w).f = 1 := rfl
theorem lfG_t (W : List ByteArray) (w : Int) : (lfG W w).t = 11 := rfl
theorem lfG_b (W : List ByteArray) (w : Int) : (lfG W w).b = 0 := rfl
theorem lfG_a (W : List ByteArray) (w : Int) : (lfG W w).a = ((1 + (frs 1 W).length : Nat) : Int) := rfl
theorem lfG_R (W : List ByteArray) (w : Int) : (lfG W w).R = W := rfl
theorem lfG_o (W : List ByteArray) (w : Int) : (lfG W w).down = false := rfl
theorem lfG_rm {W : List ByteArray} {w : Int} (h : (frs 1 W).length ≤ 10) : (lfG W w).room = ((10 - (frs 1 W).length : Nat) : Int) := by
  show (11 : Int) - ((1 + (frs 1 W).length : Nat) : Int) = _; omega
theorem lfG_nx (W : List ByteArray) (w : Int) : (lfG W w).next = ((W.length + 1 : Nat) : Int) := by
  show (0 : Int) + (W.length : Int) + 1 = _; omega
theorem sm_eq {W : List ByteArray} (h : W.length ≤ 1048576) (n1 n2 i j : Nat) (r1 r2 : Bool) (h1 : n1 = W.length) (h2 : n2 = W.length) : rt2Q 1 1 cStr cStr (fun L1 L2 (_ : Unit) => .bool (decide (L1 = L2))) n1 i n2 j (some (.row r1 1 (W.map strC))) (some (.row r2 1 (W.map strC))) (some ()) = some (.bool true, [i, j]) := by
  rw [saQ_eq h1 h2 h h]
  simp
theorem qt56 (k : Nat) (h : k < 200) : IntKind.i64.wrap (((IntKind.i64.wrap (IntKind.i64.wrap ((k : Int) + 8) + 55))).tdiv 56) = ((sizeN k : Nat) : Int) := by
  have h1 : IntKind.i64.wrap ((k : Int) + 8) = ((k + 8 : Nat) : Int) := by rw [IntKind.wrap_i64]; omega
  have h2 : IntKind.i64.wrap (((k + 8 : Nat) : Int) + 55) = ((k + 63 : Nat) : Int) := by rw [IntKind.wrap_i64]; omega
  rw [h1, h2, show (56 : Int) = ((56 : Nat) : Int) from rfl, ← Int.ofNat_tdiv, IntKind.wrap_i64]
  unfold sizeN
  omega
theorem snocS (a : List ByteArray) (s : ByteArray) : a.map strC ++ [[.str s]] = (a ++ [s]).map strC := by rw [List.map_append]; rfl
theorem rep_all {α : Type} (k : Nat) (x : α) : (List.replicate k x).take k = List.replicate k x := by simp
set_option maxHeartbeats 8000000 in
theorem lfull_ok (l : List Int) : CallA1 S0 5 [.slc 0 0 l.length none] [some (.row true 1 (l.map liC))] fun r _ => r = .bool true := by
  refine fun_sound okLf Tryd.func5 c5 ?_
  unfold wpF F5
  obtain ⟨w0, ho⟩ := lf_open (W := []) (w := 0) (Nat.zero_le _) (fun s hs => by cases hs)
  have hf0 : (frs 1 []).length ≤ 10 := Nat.zero_le _
  have hd0 : (lfD [] 0).ok := lfL_ok hf0
  simp only [AH.SD, AH.wpOp, AOp.call?, AOp.next?, bstep, AOp.map, Opd.ev, tget, argTm, evs, AV.cells, St.eff, St.put, applyWr, mset, terase, pureE, unAV, intOp, binAV, fill, mget, AH.rowAt, AH.part, retQ, rvs, retV, AH.splice, AH.sliceElems, AH.bytesOf, AH.strOp, AH.bound, AH.addLog, AH.missQ, AH.minmaxAV, AH.wpOpD, AH.readOf, AH.effOf, AH.mapAt, AH.iterAt, Nat.reduceBEq, Nat.reduceAdd, Nat.reduceLT, ↓reduceIte, Nat.reduceEqDiff, Nat.reduceLeDiff, Nat.reduceSub, Nat.reduceMul, Int.reduceSub, Int.reduceToNat, Int.reduceBEq, Int.reduceBNe, Int.reduceLT, Int.reduceGT, Int.reduceLE, Int.reduceGE, Int.reduceNeg, Int.reduceAdd, AH.PD, heads, distN, AH.inN, posN, packM, packB, packTm, liveB, AV.inB, AV.insB, AV.ren, AV.rens, Blk.ren, Blk.inB, vstep, tput, vw, shift, newOnes, rowsM, blkIn, rwB, @flat_lts, AV.lt, AV.lts, Nat.sub_self, AH.rtO_eq, AH.rtO2_eq, AH.rtO2_none, AH.etO_eq, AH.etO2_eq, AH.etO2_none, AH.useO_some, AH.rtElse_eq, AH.elseO_some, AH.elseO_none, AH.etN_eq, Option.bind_some, Option.bind_none, AH.pairO_some, AH.pairO_none, AH.cC_dec, AH.cC_nil, AH.c0_dec, AH.c0_dec1, AH.aI_dec, AH.aS_dec, AH.aB_dec, AH.aNil_dec, AH.aNil_ptr, Option.map_none, effS, wrS, newS, backNo, AH.isIn, AH.posOf, AH.rwB, List.all_cons, List.all_nil, List.getElem?_cons_zero, List.getElem?_cons_succ, List.getElem?_nil, AH.appE_some, List.contains_cons, List.contains_nil, Nat.add_zero, lawakeT_eq, newT_eq, newD_rep12, dkM, opnN_p, opnT_p, lgR_eq, lgU_eq, lgU_nil, Lg.eta, ne4, Bool.not_false, Bool.and_self, if_true, dkR_eq, dkB_eq, Dk.eta, ne_eq, Nat.reduceEqDiff, Nat.zero_ne_one, not_false_eq_true, hd0, ho, opnA, opnM, opM, List.cons_append, List.nil_append, errA_nil, lfD_eta, lfG_eta, lfD_L, lfD_a, lfD_f, lfD_t, lfD_w, lfG_d, lfG_f, lfG_t, lfG_b, lfG_a, lfG_R, lfG_o]
  repeat ((with_reducible refine And.intro ?_ ?_); focus (first | rfl | decide | omega | (simp only [List.length_map, and_true]; omega) | (simp only [List.length_map, List.length_set, and_true]; omega)))
  try simp only [AH.SD, AH.wpOp, AOp.call?, AOp.next?, bstep, AOp.map, Opd.ev, tget, argTm, evs, AV.cells, St.eff, St.put, applyWr, mset, terase, pureE, unAV, intOp, binAV, fill, mget, AH.rowAt, AH.part, retQ, rvs, retV, AH.splice, AH.sliceElems, AH.bytesOf, AH.strOp, AH.bound, AH.addLog, AH.missQ, AH.minmaxAV, AH.wpOpD, AH.readOf, AH.effOf, AH.mapAt, AH.iterAt, Nat.reduceBEq, Nat.reduceAdd, Nat.reduceLT, ↓reduceIte, Nat.reduceEqDiff, Nat.reduceLeDiff, Nat.reduceSub, Nat.reduceMul, Int.reduceSub, Int.reduceToNat, Int.reduceBEq, Int.reduceBNe, Int.reduceLT, Int.reduceGT, Int.reduceLE, Int.reduceGE, Int.reduceNeg, Int.reduceAdd, AH.PD, heads, distN, AH.inN, posN, packM, packB, packTm, liveB, AV.inB, AV.insB, AV.ren, AV.rens, Blk.ren, Blk.inB, vstep, tput, vw, shift, newOnes, rowsM, blkIn, rwB, @flat_lts, AV.lt, AV.lts, Nat.sub_self, AH.rtO_eq, AH.rtO2_eq, AH.rtO2_none, AH.etO_eq, AH.etO2_eq, AH.etO2_none, AH.useO_some, AH.rtElse_eq, AH.elseO_some, AH.elseO_none, AH.etN_eq, Option.bind_some, Option.bind_none, AH.pairO_some, AH.pairO_none, AH.cC_dec, AH.cC_nil, AH.c0_dec, AH.c0_dec1, AH.aI_dec, AH.aS_dec, AH.aB_dec, AH.aNil_dec, AH.aNil_ptr, Option.map_none, effS, wrS, newS, backNo, AH.isIn, AH.posOf, AH.rwB, List.all_cons, List.all_nil, List.getElem?_cons_zero, List.getElem?_cons_succ, List.getElem?_nil, AH.appE_some, List.contains_cons, List.contains_nil, Nat.add_zero]
  refine loop_do [0, 1, 2, 3, 4, 5] [7, 6, 4, 3, 0] [.cap 6] (α := Nat × List ByteArray × Int) (fun x => 30 - x.1) (lfSt l) (fun x => x.1 ≤ 30 ∧ x.1 ≤ l.length ∧ (frs 1 x.2.1).length ≤ 10 ∧ ∀ s ∈ x.2.1, s.size ≤ 6000) (0, [], w0) ⟨Nat.zero_le _, Nat.zero_le _, hf0, fun s hs => by cases hs⟩ (by simp only [AH.SD, AH.wpOp, AOp.call?, AOp.next?, bstep, AOp.map, Opd.ev, tget, argTm, evs, AV.cells, St.eff, St.put, applyWr, mset, terase, pureE, unAV, intOp, binAV, fill, mget, AH.rowAt, AH.part, retQ, rvs, retV, AH.splice, AH.sliceElems, AH.bytesOf, AH.strOp, AH.bound, AH.addLog, AH.missQ, AH.minmaxAV, AH.wpOpD, AH.readOf, AH.effOf, AH.mapAt, AH.iterAt, Nat.reduceBEq, Nat.reduceAdd, Nat.reduceLT, ↓reduceIte, Nat.reduceEqDiff, Nat.reduceLeDiff, Nat.reduceSub, Nat.reduceMul, Int.reduceSub, Int.reduceToNat, Int.reduceBEq, Int.reduceBNe, Int.reduceLT, Int.reduceGT, Int.reduceLE, Int.reduceGE, Int.reduceNeg, Int.reduceAdd, AH.PD, heads, distN, AH.inN, posN, packM, packB, packTm, liveB, AV.inB, AV.insB, AV.ren, AV.rens, Blk.ren, Blk.inB, vstep, tput, lfSt, List.length_nil, List.map_nil]) ?_
  rintro X ⟨i, W, w⟩ ⟨hi, hil, hB, hW⟩ ih
  simp only at hi hil hB hW
  have hdk := lfL_ok (w := w) hB
  have hok := lfG_ok (w := w) hB
  have hrm := lfG_rm (w := w) hB
  have hnx := lfG_nx W w
  have hWl : W.length ≤ 1048576 := by have := frs_le W 1; omega
  simp only [AH.SD, AH.wpOp, AOp.call?, AOp.next?, bstep, AOp.map, Opd.ev, tget, argTm, evs, AV.cells, St.eff, St.put, applyWr, mset, terase, pureE, unAV, intOp, binAV, fill, mget, AH.rowAt, AH.part, retQ, rvs, retV, AH.splice, AH.sliceElems, AH.bytesOf, AH.strOp, AH.bound, AH.addLog, AH.missQ, AH.minmaxAV, AH.wpOpD, AH.readOf, AH.effOf, AH.mapAt, AH.iterAt, Nat.reduceBEq, Nat.reduceAdd, Nat.reduceLT, ↓reduceIte, Nat.reduceEqDiff, Nat.reduceLeDiff, Nat.reduceSub, Nat.reduceMul, Int.reduceSub, Int.reduceToNat, Int.reduceBEq, Int.reduceBNe, Int.reduceLT, Int.reduceGT, Int.reduceLE, Int.reduceGE, Int.reduceNeg, Int.reduceAdd, AH.PD, heads, distN, AH.inN, posN, packM, packB, packTm, liveB, AV.inB, AV.insB, AV.ren, AV.rens, Blk.ren, Blk.inB, vstep, tput, vw, shift, newOnes, rowsM, blkIn, rwB, @flat_lts, AV.lt, AV.lts, Nat.sub_self, AH.rtO_eq, AH.rtO2_eq, AH.rtO2_none, AH.etO_eq, AH.etO2_eq, AH.etO2_none, AH.useO_some, AH.rtElse_eq, AH.elseO_some, AH.elseO_none, AH.etN_eq, Option.bind_some, Option.bind_none, AH.pairO_some, AH.pairO_none, AH.cC_dec, AH.cC_nil, AH.c0_dec, AH.c0_dec1, AH.aI_dec, AH.aS_dec, AH.aB_dec, AH.aNil_dec, AH.aNil_ptr, Option.map_none, effS, wrS, newS, backNo, AH.isIn, AH.posOf, AH.rwB, List.all_cons, List.all_nil, List.getElem?_cons_zero, List.getElem?_cons_succ, List.getElem?_nil, AH.appE_some, List.contains_cons, List.contains_nil, Nat.add_zero, lfSt]
  have hfrl := frs_le W 1
  cases c1 : decide ((i : Int) < (l.length : Int))
  · simp only [AH.SD, AH.wpOp, AOp.call?, AOp.next?, bstep, AOp.map, Opd.ev, tget, argTm, evs, AV.cells, St.eff, St.put, applyWr, mset, terase, pureE, unAV, intOp, binAV, fill, mget, AH.rowAt, AH.part, retQ, rvs, retV, AH.splice, AH.sliceElems, AH.bytesOf, AH.strOp, AH.bound, AH.addLog, AH.missQ, AH.minmaxAV, AH.wpOpD, AH.readOf, AH.effOf, AH.mapAt, AH.iterAt, Nat.reduceBEq, Nat.reduceAdd, Nat.reduceLT, ↓reduceIte, Nat.reduceEqDiff, Nat.reduceLeDiff, Nat.reduceSub, Nat.reduceMul, Int.reduceSub, Int.reduceToNat, Int.reduceBEq, Int.reduceBNe, Int.reduceLT, Int.reduceGT, Int.reduceLE, Int.reduceGE, Int.reduceNeg, Int.reduceAdd, AH.PD, heads, distN, AH.inN, posN, packM, packB, packTm, liveB, AV.inB, AV.insB, AV.ren, AV.rens, Blk.ren, Blk.inB, vstep, tput, vw, shift, newOnes, rowsM, blkIn, rwB, @flat_lts, AV.lt, AV.lts, Nat.sub_self, AH.rtO_eq, AH.rtO2_eq, AH.rtO2_none, AH.etO_eq, AH.etO2_eq, AH.etO2_none, AH.useO_some, AH.rtElse_eq, AH.elseO_some, AH.elseO_none, AH.etN_eq, Option.bind_some, Option.bind_none, AH.pairO_some, AH.pairO_none, AH.cC_dec, AH.cC_nil, AH.c0_dec, AH.c0_dec1, AH.aI_dec, AH.aS_dec, AH.aB_dec, AH.aNil_dec, AH.aNil_ptr, Option.map_none, effS, wrS, newS, backNo, AH.isIn, AH.posOf, AH.rwB, List.all_cons, List.all_nil, List.getElem?_cons_zero, List.getElem?_cons_succ, List.getElem?_nil, AH.appE_some, List.contains_cons, List.contains_nil, Nat.add_zero]
    obtain ⟨w2, ho2⟩ := lf_open (w := w) hB hW
    have hok2 := lfG_ok (w := w2) hB
    have hrm2 := lfG_rm (w := w2) hB
    have hnx2 := lfG_nx W w2
    have wW := wrapS (i := W.length) (by omega)
    simp only [AH.SD, AH.wpOp, AOp.call?, AOp.next?, bstep, AOp.map, Opd.ev, tget, argTm, evs, AV.cells, St.eff, St.put, applyWr, mset, terase, pureE, unAV, intOp, binAV, fill, mget, AH.rowAt, AH.part, retQ, rvs, retV, AH.splice, AH.sliceElems, AH.bytesOf, AH.strOp, AH.bound, AH.addLog, AH.missQ, AH.minmaxAV, AH.wpOpD, AH.readOf, AH.effOf, AH.mapAt, AH.iterAt, Nat.reduceBEq, Nat.reduceAdd, Nat.reduceLT, ↓reduceIte, Nat.reduceEqDiff, Nat.reduceLeDiff, Nat.reduceSub, Nat.reduceMul, Int.reduceSub, Int.reduceToNat, Int.reduceBEq, Int.reduceBNe, Int.reduceLT, Int.reduceGT, Int.reduceLE, Int.reduceGE, Int.reduceNeg, Int.reduceAdd, AH.PD, heads, distN, AH.inN, posN, packM, packB, packTm, liveB, AV.inB, AV.insB, AV.ren, AV.rens, Blk.ren, Blk.inB, vstep, tput, vw, shift, newOnes, rowsM, blkIn, rwB, @flat_lts, AV.lt, AV.lts, Nat.sub_self, AH.rtO_eq, AH.rtO2_eq, AH.rtO2_none, AH.etO_eq, AH.etO2_eq, AH.etO2_none, AH.useO_some, AH.rtElse_eq, AH.elseO_some, AH.elseO_none, AH.etN_eq, Option.bind_some, Option.bind_none, AH.pairO_some, AH.pairO_none, AH.cC_dec, AH.cC_nil, AH.c0_dec, AH.c0_dec1, AH.aI_dec, AH.aS_dec, AH.aB_dec, AH.aNil_dec, AH.aNil_ptr, Option.map_none, effS, wrS, newS, backNo, AH.isIn, AH.posOf, AH.rwB, List.all_cons, List.all_nil, List.getElem?_cons_zero, List.getElem?_cons_succ, List.getElem?_nil, AH.appE_some, List.contains_cons, List.contains_nil, Nat.add_zero, opnN_p, opnT_p, lgR_eq, lgU_eq, lgU_nil, Lg.eta, ne4, Bool.not_false, Bool.and_self, if_true, dkR_eq, dkB_eq, Dk.eta, ne_eq, Nat.reduceEqDiff, Nat.zero_ne_one, not_false_eq_true, hdk, ho2, opnA, opnM, opM, List.cons_append, List.nil_append, lfD_eta, lfG_eta, lfD_L, lfD_a, lfD_f, lfD_t, lfD_w, lfG_d, lfG_f, lfG_t, lfG_b, lfG_a, lfG_R, lfG_o, errA_nil, recsN_p, recsT_p, hWl, lgM, saT_p, sm_eq hWl, roomT_p, hok2, hrm2, nextT_p, hnx2, wW, beq_self_eq_true]
  · have hil2 := lt_of_dec c1
    have hgi : (l.map liC).getD i [] = liC l[i] := getD_enc hil2
    simp only [AH.SD, AH.wpOp, AOp.call?, AOp.next?, bstep, AOp.map, Opd.ev, tget, argTm, evs, AV.cells, St.eff, St.put, applyWr, mset, terase, pureE, unAV, intOp, binAV, fill, mget, AH.rowAt, AH.part, retQ, rvs, retV, AH.splice, AH.sliceElems, AH.bytesOf, AH.strOp, AH.bound, AH.addLog, AH.missQ, AH.minmaxAV, AH.wpOpD, AH.readOf, AH.effOf, AH.mapAt, AH.iterAt, Nat.reduceBEq, Nat.reduceAdd, Nat.reduceLT, ↓reduceIte, Nat.reduceEqDiff, Nat.reduceLeDiff, Nat.reduceSub, Nat.reduceMul, Int.reduceSub, Int.reduceToNat, Int.reduceBEq, Int.reduceBNe, Int.reduceLT, Int.reduceGT, Int.reduceLE, Int.reduceGE, Int.reduceNeg, Int.reduceAdd, AH.PD, heads, distN, AH.inN, posN, packM, packB, packTm, liveB, AV.inB, AV.insB, AV.ren, AV.rens, Blk.ren, Blk.inB, vstep, tput, vw, shift, newOnes, rowsM, blkIn, rwB, @flat_lts, AV.lt, AV.lts, Nat.sub_self, AH.rtO_eq, AH.rtO2_eq, AH.rtO2_none, AH.etO_eq, AH.etO2_eq, AH.etO2_none, AH.useO_some, AH.rtElse_eq, AH.elseO_some, AH.elseO_none, AH.etN_eq, Option.bind_some, Option.bind_none, AH.pairO_some, AH.pairO_none, AH.cC_dec, AH.cC_nil, AH.c0_dec, AH.c0_dec1, AH.aI_dec, AH.aS_dec, AH.aB_dec, AH.aNil_dec, AH.aNil_ptr, Option.map_none, effS, wrS, newS, backNo, AH.isIn, AH.posOf, AH.rwB, List.all_cons, List.all_nil, List.getElem?_cons_zero, List.getElem?_cons_succ, List.getElem?_nil, AH.appE_some, List.contains_cons, List.contains_nil, Nat.add_zero]
    refine ⟨fun h30 => ?_, fun h30 => ?_⟩
    rotate_left
    · skip
      obtain ⟨w2, ho2⟩ := lf_open (w := w) hB hW
      have hok2 := lfG_ok (w := w2) hB
      have hrm2 := lfG_rm (w := w2) hB
      have hnx2 := lfG_nx W w2
      have wW := wrapS (i := W.length) (by omega)
      simp only [AH.SD, AH.wpOp, AOp.call?, AOp.next?, bstep, AOp.map, Opd.ev, tget, argTm, evs, AV.cells, St.eff, St.put, applyWr, mset, terase, pureE, unAV, intOp, binAV, fill, mget, AH.rowAt, AH.part, retQ, rvs, retV, AH.splice, AH.sliceElems, AH.bytesOf, AH.strOp, AH.bound, AH.addLog, AH.missQ, AH.minmaxAV, AH.wpOpD, AH.readOf, AH.effOf, AH.mapAt, AH.iterAt, Nat.reduceBEq, Nat.reduceAdd, Nat.reduceLT, ↓reduceIte, Nat.reduceEqDiff, Nat.reduceLeDiff, Nat.reduceSub, Nat.reduceMul, Int.reduceSub, Int.reduceToNat, Int.reduceBEq, Int.reduceBNe, Int.reduceLT, Int.reduceGT, Int.reduceLE, Int.reduceGE, Int.reduceNeg, Int.reduceAdd, AH.PD, heads, distN, AH.inN, posN, packM, packB, packTm, liveB, AV.inB, AV.insB, AV.ren, AV.rens, Blk.ren, Blk.inB, vstep, tput, vw, shift, newOnes, rowsM, blkIn, rwB, @flat_lts, AV.lt, AV.lts, Nat.sub_self, AH.rtO_eq, AH.rtO2_eq, AH.rtO2_none, AH.etO_eq, AH.etO2_eq, AH.etO2_none, AH.useO_some, AH.rtElse_eq, AH.elseO_some, AH.elseO_none, AH.etN_eq, Option.bind_some, Option.bind_none, AH.pairO_some, AH.pairO_none, AH.cC_dec, AH.cC_nil, AH.c0_dec, AH.c0_dec1, AH.aI_dec, AH.aS_dec, AH.aB_dec, AH.aNil_dec, AH.aNil_ptr, Option.map_none, effS, wrS, newS, backNo, AH.isIn, AH.posOf, AH.rwB, List.all_cons, List.all_nil, List.getElem?_cons_zero, List.getElem?_cons_succ, List.getElem?_nil, AH.appE_some, List.contains_cons, List.contains_nil, Nat.add_zero, opnN_p, opnT_p, lgR_eq, lgU_eq, lgU_nil, Lg.eta, ne4, Bool.not_false, Bool.and_self, if_true, dkR_eq, dkB_eq, Dk.eta, ne_eq, Nat.reduceEqDiff, Nat.zero_ne_one, not_false_eq_true, hdk, ho2, opnA, opnM, opM, List.cons_append, List.nil_append, lfD_eta, lfG_eta, lfD_L, lfD_a, lfD_f, lfD_t, lfD_w, lfG_d, lfG_f, lfG_t, lfG_b, lfG_a, lfG_R, lfG_o, errA_nil, recsN_p, recsT_p, hWl, lgM, saT_p, sm_eq hWl, roomT_p, hok2, hrm2, nextT_p, hnx2, wW, beq_self_eq_true]
    · have hi30 : i < 30 := by simp only [decide_eq_true_eq] at h30; omega
      have wi := wrapS (i := i) (by omega)
      obtain ⟨k, hk, hk2⟩ := mod_u l[i] (m := 200) (by decide) (by decide)
      have hk3 : k < 200 := by omega
      have hq := qt56 k hk3
      have hsl := repS_list k
      have hsz := repS_sz k
      simp only [AH.SD, AH.wpOp, AOp.call?, AOp.next?, bstep, AOp.map, Opd.ev, tget, argTm, evs, AV.cells, St.eff, St.put, applyWr, mset, terase, pureE, unAV, intOp, binAV, fill, mget, AH.rowAt, AH.part, retQ, rvs, retV, AH.splice, AH.sliceElems, AH.bytesOf, AH.strOp, AH.bound, AH.addLog, AH.missQ, AH.minmaxAV, AH.wpOpD, AH.readOf, AH.effOf, AH.mapAt, AH.iterAt, Nat.reduceBEq, Nat.reduceAdd, Nat.reduceLT, ↓reduceIte, Nat.reduceEqDiff, Nat.reduceLeDiff, Nat.reduceSub, Nat.reduceMul, Int.reduceSub, Int.reduceToNat, Int.reduceBEq, Int.reduceBNe, Int.reduceLT, Int.reduceGT, Int.reduceLE, Int.reduceGE, Int.reduceNeg, Int.reduceAdd, AH.PD, heads, distN, AH.inN, posN, packM, packB, packTm, liveB, AV.inB, AV.insB, AV.ren, AV.rens, Blk.ren, Blk.inB, vstep, tput, vw, shift, newOnes, rowsM, blkIn, rwB, @flat_lts, AV.lt, AV.lts, Nat.sub_self, AH.rtO_eq, AH.rtO2_eq, AH.rtO2_none, AH.etO_eq, AH.etO2_eq, AH.etO2_none, AH.useO_some, AH.rtElse_eq, AH.elseO_some, AH.elseO_none, AH.etN_eq, Option.bind_some, Option.bind_none, AH.pairO_some, AH.pairO_none, AH.cC_dec, AH.cC_nil, AH.c0_dec, AH.c0_dec1, AH.aI_dec, AH.aS_dec, AH.aB_dec, AH.aNil_dec, AH.aNil_ptr, Option.map_none, effS, wrS, newS, backNo, AH.isIn, AH.posOf, AH.rwB, List.all_cons, List.all_nil, List.getElem?_cons_zero, List.getElem?_cons_succ, List.getElem?_nil, AH.appE_some, List.contains_cons, List.contains_nil, Nat.add_zero, hgi, liC_eq, hk, Int.toNat_natCast, List.drop_zero, rep_all, List.length_replicate, List.length_map]
      repeat ((with_reducible refine And.intro ?_ ?_); focus (first | rfl | decide | omega | (simp only [List.length_map, and_true]; omega) | (simp only [List.length_map, List.length_set, and_true]; omega)))
      simp only [AH.SD, AH.wpOp, AOp.call?, AOp.next?, bstep, AOp.map, Opd.ev, tget, argTm, evs, AV.cells, St.eff, St.put, applyWr, mset, terase, pureE, unAV, intOp, binAV, fill, mget, AH.rowAt, AH.part, retQ, rvs, retV, AH.splice, AH.sliceElems, AH.bytesOf, AH.strOp, AH.bound, AH.addLog, AH.missQ, AH.minmaxAV, AH.wpOpD, AH.readOf, AH.effOf, AH.mapAt, AH.iterAt, Nat.reduceBEq, Nat.reduceAdd, Nat.reduceLT, ↓reduceIte, Nat.reduceEqDiff, Nat.reduceLeDiff, Nat.reduceSub, Nat.reduceMul, Int.reduceSub, Int.reduceToNat, Int.reduceBEq, Int.reduceBNe, Int.reduceLT, Int.reduceGT, Int.reduceLE, Int.reduceGE, Int.reduceNeg, Int.reduceAdd, AH.PD, heads, distN, AH.inN, posN, packM, packB, packTm, liveB, AV.inB, AV.insB, AV.ren, AV.rens, Blk.ren, Blk.inB, vstep, tput, vw, shift, newOnes, rowsM, blkIn, rwB, @flat_lts, AV.lt, AV.lts, Nat.sub_self, AH.rtO_eq, AH.rtO2_eq, AH.rtO2_none, AH.etO_eq, AH.etO2_eq, AH.etO2_none, AH.useO_some, AH.rtElse_eq, AH.elseO_some, AH.elseO_none, AH.etN_eq, Option.bind_some, Option.bind_none, AH.pairO_some, AH.pairO_none, AH.cC_dec, AH.cC_nil, AH.c0_dec, AH.c0_dec1, AH.aI_dec, AH.aS_dec, AH.aB_dec, AH.aNil_dec, AH.aNil_ptr, Option.map_none, effS, wrS, newS, backNo, AH.isIn, AH.posOf, AH.rwB, List.all_cons, List.all_nil, List.getElem?_cons_zero, List.getElem?_cons_succ, List.getElem?_nil, AH.appE_some, List.contains_cons, List.contains_nil, Nat.add_zero, bytesZ, hsl, List.length_replicate, rep_all, List.drop_zero]
      repeat ((with_reducible refine And.intro ?_ ?_); focus (first | rfl | decide | omega | (simp only [List.length_map, and_true]; omega) | (simp only [List.length_map, List.length_set, and_true]; omega)))
      generalize hS : repS ⟨#[0]⟩ k = s at *
      have hs6 : s.size ≤ 6000 := by omega
      have hsok : okSz s := okSz_of (by omega)
      by_cases hr : (frs 1 W).length + sizeN s.size ≤ 10
      · obtain ⟨w2, e⟩ := lf_add (w := w) hs6 hr
        have hBl : (frs 1 (W ++ [s])).length = (frs 1 W).length + sizeN s.size := by rw [frs_snoc, List.length_append, blkL_len]
        have hB2 : (frs 1 (W ++ [s])).length ≤ 10 := by omega
        have hW2 : ∀ x ∈ W ++ [s], x.size ≤ 6000 := fun x hx => (List.mem_append.1 hx).elim (hW x) fun h => by rw [List.mem_singleton.1 h]; exact hs6
        have hok2 := lfG_ok (w := w2) hB2
        have hrm2 := lfG_rm (w := w2) hB2
        have hsW := snocS W s
        have hWl2 : W.length + 1 = (W ++ [s]).length := by simp
        have done := ih (i + 1, W ++ [s], w2) ⟨hi30, hil2, hB2, hW2⟩ (by simp only; omega)
        simp only [lfSt] at done
        rw [hBl] at hrm2
        have wr : IntKind.i64.wrap (((10 - (frs 1 W).length : Nat) : Int) - ((sizeN s.size : Nat) : Int)) = ((10 - ((frs 1 W).length + sizeN s.size) : Nat) : Int) := by rw [IntKind.wrap_i64]; omega
        have dn : decide (((sizeN s.size : Nat) : Int) > ((10 - (frs 1 W).length : Nat) : Int)) = false := decide_eq_false (by omega)
        rw [← hsz] at hq
        generalize W ++ [s] = W2 at *
        simp only [AH.SD, AH.wpOp, AOp.call?, AOp.next?, bstep, AOp.map, Opd.ev, tget, argTm, evs, AV.cells, St.eff, St.put, applyWr, mset, terase, pureE, unAV, intOp, binAV, fill, mget, AH.rowAt, AH.part, retQ, rvs, retV, AH.splice, AH.sliceElems, AH.bytesOf, AH.strOp, AH.bound, AH.addLog, AH.missQ, AH.minmaxAV, AH.wpOpD, AH.readOf, AH.effOf, AH.mapAt, AH.iterAt, Nat.reduceBEq, Nat.reduceAdd, Nat.reduceLT, ↓reduceIte, Nat.reduceEqDiff, Nat.reduceLeDiff, Nat.reduceSub, Nat.reduceMul, Int.reduceSub, Int.reduceToNat, Int.reduceBEq, Int.reduceBNe, Int.reduceLT, Int.reduceGT, Int.reduceLE, Int.reduceGE, Int.reduceNeg, Int.reduceAdd, AH.PD, heads, distN, AH.inN, posN, packM, packB, packTm, liveB, AV.inB, AV.insB, AV.ren, AV.rens, Blk.ren, Blk.inB, vstep, tput, vw, shift, newOnes, rowsM, blkIn, rwB, @flat_lts, AV.lt, AV.lts, Nat.sub_self, AH.rtO_eq, AH.rtO2_eq, AH.rtO2_none, AH.etO_eq, AH.etO2_eq, AH.etO2_none, AH.useO_some, AH.rtElse_eq, AH.elseO_some, AH.elseO_none, AH.etN_eq, Option.bind_some, Option.bind_none, AH.pairO_some, AH.pairO_none, AH.cC_dec, AH.cC_nil, AH.c0_dec, AH.c0_dec1, AH.aI_dec, AH.aS_dec, AH.aB_dec, AH.aNil_dec, AH.aNil_ptr, Option.map_none, effS, wrS, newS, backNo, AH.isIn, AH.posOf, AH.rwB, List.all_cons, List.all_nil, List.getElem?_cons_zero, List.getElem?_cons_succ, List.getElem?_nil, AH.appE_some, List.contains_cons, List.contains_nil, Nat.add_zero, roomT_p, lgR_eq, lgU_eq, lgU_nil, Lg.eta, ne4, Bool.not_false, Bool.and_self, if_true, dkR_eq, dkB_eq, Dk.eta, ne_eq, Nat.reduceEqDiff, Nat.zero_ne_one, not_false_eq_true, lfD_eta, lfG_eta, lfD_L, lfD_a, lfD_f, lfD_t, lfD_w, lfG_d, lfG_f, lfG_t, lfG_b, lfG_a, lfG_R, lfG_o, hok, hrm, imgT_p, hdk, adN_p, adT_p, hsok, and_self, e, adM, lgM2, errA0, errA_nil, errA_ren, hq, dn, hok2, hrm2, wr, bne_self_eq_false, hsW, hWl2, List.length_map, List.drop_zero, take_all, strC_eq, wi, Int.toNat_natCast]
        repeat ((with_reducible refine And.intro ?_ ?_); focus (first | rfl | decide | omega | (simp only [List.length_map, and_true]; omega) | (simp only [List.length_map, List.length_set, and_true]; omega)))
        try simp only [AH.SD, AH.wpOp, AOp.call?, AOp.next?, bstep, AOp.map, Opd.ev, tget, argTm, evs, AV.cells, St.eff, St.put, applyWr, mset, terase, pureE, unAV, intOp, binAV, fill, mget, AH.rowAt, AH.part, retQ, rvs, retV, AH.splice, AH.sliceElems, AH.bytesOf, AH.strOp, AH.bound, AH.addLog, AH.missQ, AH.minmaxAV, AH.wpOpD, AH.readOf, AH.effOf, AH.mapAt, AH.iterAt, Nat.reduceBEq, Nat.reduceAdd, Nat.reduceLT, ↓reduceIte, Nat.reduceEqDiff, Nat.reduceLeDiff, Nat.reduceSub, Nat.reduceMul, Int.reduceSub, Int.reduceToNat, Int.reduceBEq, Int.reduceBNe, Int.reduceLT, Int.reduceGT, Int.reduceLE, Int.reduceGE, Int.reduceNeg, Int.reduceAdd, AH.PD, heads, distN, AH.inN, posN, packM, packB, packTm, liveB, AV.inB, AV.insB, AV.ren, AV.rens, Blk.ren, Blk.inB, vstep, tput, vw, shift, newOnes, rowsM, blkIn, rwB, @flat_lts, AV.lt, AV.lts, Nat.sub_self, AH.rtO_eq, AH.rtO2_eq, AH.rtO2_none, AH.etO_eq, AH.etO2_eq, AH.etO2_none, AH.useO_some, AH.rtElse_eq, AH.elseO_some, AH.elseO_none, AH.etN_eq, Option.bind_some, Option.bind_none, AH.pairO_some, AH.pairO_none, AH.cC_dec, AH.cC_nil, AH.c0_dec, AH.c0_dec1, AH.aI_dec, AH.aS_dec, AH.aB_dec, AH.aNil_dec, AH.aNil_ptr, Option.map_none, effS, wrS, newS, backNo, AH.isIn, AH.posOf, AH.rwB, List.all_cons, List.all_nil, List.getElem?_cons_zero, List.getElem?_cons_succ, List.getElem?_nil, AH.appE_some, List.contains_cons, List.contains_nil, Nat.add_zero, roomT_p, lgR_eq, lgU_eq, lgU_nil, Lg.eta, ne4, Bool.not_false, Bool.and_self, if_true, dkR_eq, dkB_eq, Dk.eta, ne_eq, Nat.reduceEqDiff, Nat.zero_ne_one, not_false_eq_true, lfD_eta, lfG_eta, lfD_L, lfD_a, lfD_f, lfD_t, lfD_w, lfG_d, lfG_f, lfG_t, lfG_b, lfG_a, lfG_R, lfG_o, hok, hrm, imgT_p, hdk, adN_p, adT_p, hsok, and_self, e, adM, lgM2, errA0, errA_nil, errA_ren, hq, dn, hok2, hrm2, wr, bne_self_eq_false, hsW, hWl2, List.length_map, List.drop_zero, take_all, strC_eq, wi, Int.toNat_natCast]
        refine gc_auto [0, 1, 2, 3, 7, 9] [7, 6, 4, 3, 0] [] ?_
        simp only [AH.SD, AH.wpOp, AOp.call?, AOp.next?, bstep, AOp.map, Opd.ev, tget, argTm, evs, AV.cells, St.eff, St.put, applyWr, mset, terase, pureE, unAV, intOp, binAV, fill, mget, AH.rowAt, AH.part, retQ, rvs, retV, AH.splice, AH.sliceElems, AH.bytesOf, AH.strOp, AH.bound, AH.addLog, AH.missQ, AH.minmaxAV, AH.wpOpD, AH.readOf, AH.effOf, AH.mapAt, AH.iterAt, Nat.reduceBEq, Nat.reduceAdd, Nat.reduceLT, ↓reduceIte, Nat.reduceEqDiff, Nat.reduceLeDiff, Nat.reduceSub, Nat.reduceMul, Int.reduceSub, Int.reduceToNat, Int.reduceBEq, Int.reduceBNe, Int.reduceLT, Int.reduceGT, Int.reduceLE, Int.reduceGE, Int.reduceNeg, Int.reduceAdd, AH.PD, heads, distN, AH.inN, posN, packM, packB, packTm, liveB, AV.inB, AV.insB, AV.ren, AV.rens, Blk.ren, Blk.inB, vstep, tput]
        exact done
      · have e := lf_full (w := w) hs6 hB hr
        have dn : decide (((sizeN s.size : Nat) : Int) > ((10 - (frs 1 W).length : Nat) : Int)) = true := decide_eq_true (by omega)
        have done := ih (i + 1, W, w) ⟨hi30, hil2, hB, hW⟩ (by simp only; omega)
        simp only [lfSt] at done
        rw [← hsz] at hq
        simp only [AH.SD, AH.wpOp, AOp.call?, AOp.next?, bstep, AOp.map, Opd.ev, tget, argTm, evs, AV.cells, St.eff, St.put, applyWr, mset, terase, pureE, unAV, intOp, binAV, fill, mget, AH.rowAt, AH.part, retQ, rvs, retV, AH.splice, AH.sliceElems, AH.bytesOf, AH.strOp, AH.bound, AH.addLog, AH.missQ, AH.minmaxAV, AH.wpOpD, AH.readOf, AH.effOf, AH.mapAt, AH.iterAt, Nat.reduceBEq, Nat.reduceAdd, Nat.reduceLT, ↓reduceIte, Nat.reduceEqDiff, Nat.reduceLeDiff, Nat.reduceSub, Nat.reduceMul, Int.reduceSub, Int.reduceToNat, Int.reduceBEq, Int.reduceBNe, Int.reduceLT, Int.reduceGT, Int.reduceLE, Int.reduceGE, Int.reduceNeg, Int.reduceAdd, AH.PD, heads, distN, AH.inN, posN, packM, packB, packTm, liveB, AV.inB, AV.insB, AV.ren, AV.rens, Blk.ren, Blk.inB, vstep, tput, vw, shift, newOnes, rowsM, blkIn, rwB, @flat_lts, AV.lt, AV.lts, Nat.sub_self, AH.rtO_eq, AH.rtO2_eq, AH.rtO2_none, AH.etO_eq, AH.etO2_eq, AH.etO2_none, AH.useO_some, AH.rtElse_eq, AH.elseO_some, AH.elseO_none, AH.etN_eq, Option.bind_some, Option.bind_none, AH.pairO_some, AH.pairO_none, AH.cC_dec, AH.cC_nil, AH.c0_dec, AH.c0_dec1, AH.aI_dec, AH.aS_dec, AH.aB_dec, AH.aNil_dec, AH.aNil_ptr, Option.map_none, effS, wrS, newS, backNo, AH.isIn, AH.posOf, AH.rwB, List.all_cons, List.all_nil, List.getElem?_cons_zero, List.getElem?_cons_succ, List.getElem?_nil, AH.appE_some, List.contains_cons, List.contains_nil, Nat.add_zero, roomT_p, lgR_eq, lgU_eq, lgU_nil, Lg.eta, ne4, Bool.not_false, Bool.and_self, if_true, dkR_eq, dkB_eq, Dk.eta, ne_eq, Nat.reduceEqDiff, Nat.zero_ne_one, not_false_eq_true, lfD_eta, lfG_eta, lfD_L, lfD_a, lfD_f, lfD_t, lfD_w, lfG_d, lfG_f, lfG_t, lfG_b, lfG_a, lfG_R, lfG_o, hok, hrm, imgT_p, hdk, adN_p, adT_p, hsok, and_self, e, adM, lgM, show ¬ ((7 : Nat) = 0) by decide, if_false, errA_ren, hq, dn, kindT_err, show (7 : Nat) ≤ 14 by decide, bne_self_eq_false, tl_self, Bool.not_true, wi, Int.toNat_natCast]
        repeat ((with_reducible refine And.intro ?_ ?_); focus (first | rfl | decide | omega | (simp only [List.length_map, and_true]; omega) | (simp only [List.length_map, List.length_set, and_true]; omega)))
        try simp only [AH.SD, AH.wpOp, AOp.call?, AOp.next?, bstep, AOp.map, Opd.ev, tget, argTm, evs, AV.cells, St.eff, St.put, applyWr, mset, terase, pureE, unAV, intOp, binAV, fill, mget, AH.rowAt, AH.part, retQ, rvs, retV, AH.splice, AH.sliceElems, AH.bytesOf, AH.strOp, AH.bound, AH.addLog, AH.missQ, AH.minmaxAV, AH.wpOpD, AH.readOf, AH.effOf, AH.mapAt, AH.iterAt, Nat.reduceBEq, Nat.reduceAdd, Nat.reduceLT, ↓reduceIte, Nat.reduceEqDiff, Nat.reduceLeDiff, Nat.reduceSub, Nat.reduceMul, Int.reduceSub, Int.reduceToNat, Int.reduceBEq, Int.reduceBNe, Int.reduceLT, Int.reduceGT, Int.reduceLE, Int.reduceGE, Int.reduceNeg, Int.reduceAdd, AH.PD, heads, distN, AH.inN, posN, packM, packB, packTm, liveB, AV.inB, AV.insB, AV.ren, AV.rens, Blk.ren, Blk.inB, vstep, tput, vw, shift, newOnes, rowsM, blkIn, rwB, @flat_lts, AV.lt, AV.lts, Nat.sub_self, AH.rtO_eq, AH.rtO2_eq, AH.rtO2_none, AH.etO_eq, AH.etO2_eq, AH.etO2_none, AH.useO_some, AH.rtElse_eq, AH.elseO_some, AH.elseO_none, AH.etN_eq, Option.bind_some, Option.bind_none, AH.pairO_some, AH.pairO_none, AH.cC_dec, AH.cC_nil, AH.c0_dec, AH.c0_dec1, AH.aI_dec, AH.aS_dec, AH.aB_dec, AH.aNil_dec, AH.aNil_ptr, Option.map_none, effS, wrS, newS, backNo, AH.isIn, AH.posOf, AH.rwB, List.all_cons, List.all_nil, List.getElem?_cons_zero, List.getElem?_cons_succ, List.getElem?_nil, AH.appE_some, List.contains_cons, List.contains_nil, Nat.add_zero, roomT_p, lgR_eq, lgU_eq, lgU_nil, Lg.eta, ne4, Bool.not_false, Bool.and_self, if_true, dkR_eq, dkB_eq, Dk.eta, ne_eq, Nat.reduceEqDiff, Nat.zero_ne_one, not_false_eq_true, lfD_eta, lfG_eta, lfD_L, lfD_a, lfD_f, lfD_t, lfD_w, lfG_d, lfG_f, lfG_t, lfG_b, lfG_a, lfG_R, lfG_o, hok, hrm, imgT_p, hdk, adN_p, adT_p, hsok, and_self, e, adM, lgM, show ¬ ((7 : Nat) = 0) by decide, if_false, errA_ren, hq, dn, kindT_err, show (7 : Nat) ≤ 14 by decide, bne_self_eq_false, tl_self, Bool.not_true, wi, Int.toNat_natCast]
        refine gc_auto [0, 1, 2, 3, 4, 5] [7, 6, 4, 3, 0] [] ?_
        simp only [AH.SD, AH.wpOp, AOp.call?, AOp.next?, bstep, AOp.map, Opd.ev, tget, argTm, evs, AV.cells, St.eff, St.put, applyWr, mset, terase, pureE, unAV, intOp, binAV, fill, mget, AH.rowAt, AH.part, retQ, rvs, retV, AH.splice, AH.sliceElems, AH.bytesOf, AH.strOp, AH.bound, AH.addLog, AH.missQ, AH.minmaxAV, AH.wpOpD, AH.readOf, AH.effOf, AH.mapAt, AH.iterAt, Nat.reduceBEq, Nat.reduceAdd, Nat.reduceLT, ↓reduceIte, Nat.reduceEqDiff, Nat.reduceLeDiff, Nat.reduceSub, Nat.reduceMul, Int.reduceSub, Int.reduceToNat, Int.reduceBEq, Int.reduceBNe, Int.reduceLT, Int.reduceGT, Int.reduceLE, Int.reduceGE, Int.reduceNeg, Int.reduceAdd, AH.PD, heads, distN, AH.inN, posN, packM, packB, packTm, liveB, AV.inB, AV.insB, AV.ren, AV.rens, Blk.ren, Blk.inB, vstep, tput]
        exact done
end Go.Proofs.YthapdikdeoeplaaDoor.H6
