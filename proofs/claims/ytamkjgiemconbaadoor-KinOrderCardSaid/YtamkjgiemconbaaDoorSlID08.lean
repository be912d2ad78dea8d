import Derived.Test.YtamkjgiemconbaaDoorFSlID08
open Go AH
set_option linter.unusedSimpArgs false
set_option maxRecDepth 100000
namespace Go.Proofs.YtamkjgiemconbaaDoor.D08
theorem okI0 : CtxOK S0 (ctxU S0 [] []) := ctxU_ok trivial trivial mixed

/-- Where a number stands first; -1: nowhere. -/
def idxZ (l : List Int) (x : Int) : Int := bif l.contains x then (l.idxOf x : Nat) else -1
theorem idx_ok (l : List Int) (x : Int) (hl : l.length ≤ 1048576) : CallA1 S0 77 [.slc 0 0 l.length none, .int .i64 x] [some (.row true 1 (l.map intC))] fun r _ => r = .int .i64 (idxZ l x) := by
  refine fun_sound okI0 Tryd.func77 c77 ?_
  unfold wpF F77
  simp only [AH.SD, AH.wpOp, AOp.call?, AOp.next?, bstep, AOp.map, Opd.ev, tget, argTm, evs, AV.cells, St.eff, St.put, applyWr, mset, terase, pureE, unAV, intOp, binAV, fill, mget, AH.rowAt, AH.part, retQ, rvs, retV, AH.splice, AH.sliceElems, AH.bytesOf, AH.strOp, AH.bound, AH.addLog, AH.missQ, AH.minmaxAV, AH.wpOpD, AH.readOf, AH.effOf, AH.mapAt, AH.iterAt, Nat.reduceBEq, Nat.reduceAdd, Nat.reduceLT, ↓reduceIte, Nat.reduceEqDiff, Nat.reduceLeDiff, Nat.reduceSub, Nat.reduceMul, Int.reduceSub, Int.reduceToNat, Int.reduceBEq, Int.reduceBNe, Int.reduceLT, Int.reduceGT, Int.reduceLE, Int.reduceGE, Int.reduceNeg, Int.reduceAdd]
  refine loop_do [0] [8, 7, 1, 0] [] (α := Nat) (fun i => l.length - i) (fun i => ⟨[(8, .int .i64 i), (7, .int .i64 l.length), (1, .int .i64 x), (0, .slc 0 0 l.length none)], [some (.row true 1 (l.map intC))]⟩) (fun i => i ≤ l.length ∧ x ∉ l.take i) 0 ⟨Nat.zero_le _, by simp⟩ (by simp only [AH.SD, AH.wpOp, AOp.call?, AOp.next?, bstep, AOp.map, Opd.ev, tget, argTm, evs, AV.cells, St.eff, St.put, applyWr, mset, terase, pureE, unAV, intOp, binAV, fill, mget, AH.rowAt, AH.part, retQ, rvs, retV, AH.splice, AH.sliceElems, AH.bytesOf, AH.strOp, AH.bound, AH.addLog, AH.missQ, AH.minmaxAV, AH.wpOpD, AH.readOf, AH.effOf, AH.mapAt, AH.iterAt, Nat.reduceBEq, Nat.reduceAdd, Nat.reduceLT, ↓reduceIte, Nat.reduceEqDiff, Nat.reduceLeDiff, Nat.reduceSub, Nat.reduceMul, Int.reduceSub, Int.reduceToNat, Int.reduceBEq, Int.reduceBNe, Int.reduceLT, Int.reduceGT, Int.reduceLE, Int.reduceGE, Int.reduceNeg, Int.reduceAdd, AH.PD, heads, distN, AH.inN, posN, packM, packB, packTm, liveB, AV.inB, AV.insB, AV.ren, AV.rens, Blk.ren, Blk.inB, vstep, tput]) ?_
  rintro X i ⟨hi, hn⟩ ih
  simp only [AH.SD, AH.wpOp, AOp.call?, AOp.next?, bstep, AOp.map, Opd.ev, tget, argTm, evs, AV.cells, St.eff, St.put, applyWr, mset, terase, pureE, unAV, intOp, binAV, fill, mget, AH.rowAt, AH.part, retQ, rvs, retV, AH.splice, AH.sliceElems, AH.bytesOf, AH.strOp, AH.bound, AH.addLog, AH.missQ, AH.minmaxAV, AH.wpOpD, AH.readOf, AH.effOf, AH.mapAt, AH.iterAt, Nat.reduceBEq, Nat.reduceAdd, Nat.reduceLT, ↓reduceIte, Nat.reduceEqDiff, Nat.reduceLeDiff, Nat.reduceSub, Nat.reduceMul, Int.reduceSub, Int.reduceToNat, Int.reduceBEq, Int.reduceBNe, Int.reduceLT, Int.reduceGT, Int.reduceLE, Int.reduceGE, Int.reduceNeg, Int.reduceAdd]
  refine ⟨fun hlt => ?_, fun hlt => ?_⟩
  · have hi1 := lt_of_dec hlt
    have wi := wrapS (i := i) (by omega)
    simp only [AH.SD, AH.wpOp, AOp.call?, AOp.next?, bstep, AOp.map, Opd.ev, tget, argTm, evs, AV.cells, St.eff, St.put, applyWr, mset, terase, pureE, unAV, intOp, binAV, fill, mget, AH.rowAt, AH.part, retQ, rvs, retV, AH.splice, AH.sliceElems, AH.bytesOf, AH.strOp, AH.bound, AH.addLog, AH.missQ, AH.minmaxAV, AH.wpOpD, AH.readOf, AH.effOf, AH.mapAt, AH.iterAt, Nat.reduceBEq, Nat.reduceAdd, Nat.reduceLT, ↓reduceIte, Nat.reduceEqDiff, Nat.reduceLeDiff, Nat.reduceSub, Nat.reduceMul, Int.reduceSub, Int.reduceToNat, Int.reduceBEq, Int.reduceBNe, Int.reduceLT, Int.reduceGT, Int.reduceLE, Int.reduceGE, Int.reduceNeg, Int.reduceAdd, getD_enc, hi1, intC_eq]
    repeat (refine ⟨by first | rfl | decide | omega | (simp only [List.length_map, and_true]; omega) | (simp only [List.length_map, List.length_set, and_true]; omega), ?_⟩)
    refine ⟨fun hq => ?_, fun hq => ?_⟩
    · have hq' : x = l[i] := by simpa using hq
      have hc : l.contains x = true := by rw [List.contains_iff_mem, hq']; exact List.getElem_mem _
      have hix : l.idxOf x = i := by
        have h1 : l.idxOf x ≤ i := by
          refine Nat.le_of_not_lt fun q => ?_
          have := List.not_of_lt_findIdx (p := fun y => y == x) (xs := l) (i := i) q
          simp [hq'] at this
        refine Nat.le_antisymm h1 (Nat.le_of_not_lt fun q => hn ?_)
        have h2 : l.idxOf x < l.length := by omega
        rw [List.mem_take_iff_getElem]
        exact ⟨l.idxOf x, by omega, List.getElem_idxOf _⟩
      simp only [AH.SD, AH.wpOp, AOp.call?, AOp.next?, bstep, AOp.map, Opd.ev, tget, argTm, evs, AV.cells, St.eff, St.put, applyWr, mset, terase, pureE, unAV, intOp, binAV, fill, mget, AH.rowAt, AH.part, retQ, rvs, retV, AH.splice, AH.sliceElems, AH.bytesOf, AH.strOp, AH.bound, AH.addLog, AH.missQ, AH.minmaxAV, AH.wpOpD, AH.readOf, AH.effOf, AH.mapAt, AH.iterAt, Nat.reduceBEq, Nat.reduceAdd, Nat.reduceLT, ↓reduceIte, Nat.reduceEqDiff, Nat.reduceLeDiff, Nat.reduceSub, Nat.reduceMul, Int.reduceSub, Int.reduceToNat, Int.reduceBEq, Int.reduceBNe, Int.reduceLT, Int.reduceGT, Int.reduceLE, Int.reduceGE, Int.reduceNeg, Int.reduceAdd, idxZ, hc, hix]
    · have hq' : ¬ x = l[i] := by simpa using hq
      simp only [AH.SD, AH.wpOp, AOp.call?, AOp.next?, bstep, AOp.map, Opd.ev, tget, argTm, evs, AV.cells, St.eff, St.put, applyWr, mset, terase, pureE, unAV, intOp, binAV, fill, mget, AH.rowAt, AH.part, retQ, rvs, retV, AH.splice, AH.sliceElems, AH.bytesOf, AH.strOp, AH.bound, AH.addLog, AH.missQ, AH.minmaxAV, AH.wpOpD, AH.readOf, AH.effOf, AH.mapAt, AH.iterAt, Nat.reduceBEq, Nat.reduceAdd, Nat.reduceLT, ↓reduceIte, Nat.reduceEqDiff, Nat.reduceLeDiff, Nat.reduceSub, Nat.reduceMul, Int.reduceSub, Int.reduceToNat, Int.reduceBEq, Int.reduceBNe, Int.reduceLT, Int.reduceGT, Int.reduceLE, Int.reduceGE, Int.reduceNeg, Int.reduceAdd, wi]
      refine gc_auto [0] [8, 7, 1, 0] [] ?_
      simp only [AH.SD, AH.wpOp, AOp.call?, AOp.next?, bstep, AOp.map, Opd.ev, tget, argTm, evs, AV.cells, St.eff, St.put, applyWr, mset, terase, pureE, unAV, intOp, binAV, fill, mget, AH.rowAt, AH.part, retQ, rvs, retV, AH.splice, AH.sliceElems, AH.bytesOf, AH.strOp, AH.bound, AH.addLog, AH.missQ, AH.minmaxAV, AH.wpOpD, AH.readOf, AH.effOf, AH.mapAt, AH.iterAt, Nat.reduceBEq, Nat.reduceAdd, Nat.reduceLT, ↓reduceIte, Nat.reduceEqDiff, Nat.reduceLeDiff, Nat.reduceSub, Nat.reduceMul, Int.reduceSub, Int.reduceToNat, Int.reduceBEq, Int.reduceBNe, Int.reduceLT, Int.reduceGT, Int.reduceLE, Int.reduceGE, Int.reduceNeg, Int.reduceAdd, AH.PD, heads, distN, AH.inN, posN, packM, packB, packTm, liveB, AV.inB, AV.insB, AV.ren, AV.rens, Blk.ren, Blk.inB, vstep, tput]
      refine ih (i + 1) ⟨hi1, ?_⟩ (by omega)
      rw [List.take_succ_eq_append_getElem hi1, List.mem_append]
      rintro (q | q)
      · exact hn q
      · simp at q; exact hq' q
  · have hi1 := ge_of_dec hlt
    obtain rfl : i = l.length := by omega
    rw [List.take_length] at hn
    have hc : l.contains x = false := by
      cases h : l.contains x with
      | false => rfl
      | true => exact absurd (List.contains_iff_mem.1 h) hn
    simp only [AH.SD, AH.wpOp, AOp.call?, AOp.next?, bstep, AOp.map, Opd.ev, tget, argTm, evs, AV.cells, St.eff, St.put, applyWr, mset, terase, pureE, unAV, intOp, binAV, fill, mget, AH.rowAt, AH.part, retQ, rvs, retV, AH.splice, AH.sliceElems, AH.bytesOf, AH.strOp, AH.bound, AH.addLog, AH.missQ, AH.minmaxAV, AH.wpOpD, AH.readOf, AH.effOf, AH.mapAt, AH.iterAt, Nat.reduceBEq, Nat.reduceAdd, Nat.reduceLT, ↓reduceIte, Nat.reduceEqDiff, Nat.reduceLeDiff, Nat.reduceSub, Nat.reduceMul, Int.reduceSub, Int.reduceToNat, Int.reduceBEq, Int.reduceBNe, Int.reduceLT, Int.reduceGT, Int.reduceLE, Int.reduceGE, Int.reduceNeg, Int.reduceAdd, idxZ, hc]
def idxT : RT := rtV [1] (vf1 1 cInt (cC (aI .i64) c0) fun l x => .int .i64 (idxZ l x.1))
theorem idxT_ok : ReadF S0 77 idxT := vf1_ok errs0 fun l x h => ⟨rfl, idx_ok l x.1 h⟩
theorem idxT_eq {id ix n : Nat} {cap : Option Nat} {M : Nat → Option Blk} {es : List (List AV)} {l : List Int} {x : Int} (hM : rowE M id = some (1, es)) (hs : (es.drop ix).take n = l.map intC) (hle : ix + n ≤ es.length) (hb : n ≤ 1048576) :
    idxT [.slc id ix n cap, .int .i64 x] M = some (.int .i64 (idxZ l x), [id]) := vf1_eq (c := cInt) (x := cC (aI .i64) c0) (f := fun l x => .int .i64 (idxZ l x.1)) (r := [.int .i64 x]) (b := (x, ())) hM hs hle hb rfl
theorem okI1 : CtxOK S0 (ctxU S0 [(77, idxT)] []) := ctxU_ok ⟨idxT_ok, trivial⟩ trivial mixed
theorem con_ok (l : List Int) (x : Int) (hl : l.length ≤ 1048576) : CallA1 S0 62 [.slc 0 0 l.length none, .int .i64 x] [some (.row true 1 (l.map intC))] fun r _ => r = .bool (l.contains x) := by
  refine fun_sound okI1 Tryd.func62 c62 ?_
  unfold wpF F62
  have e := idxT_eq (id := 0) (ix := 0) (n := l.length) (cap := none) (M := mget [some (.row true 1 (l.map intC))]) (es := l.map intC) (l := l) (x := x) rfl (by rw [List.drop_zero, List.take_of_length_le (by simp)]) (by simp) hl
  simp only [AH.SD, AH.wpOp, AOp.call?, AOp.next?, bstep, AOp.map, Opd.ev, tget, argTm, evs, AV.cells, St.eff, St.put, applyWr, mset, terase, pureE, unAV, intOp, binAV, fill, mget, AH.rowAt, AH.part, retQ, rvs, retV, AH.splice, AH.sliceElems, AH.bytesOf, AH.strOp, AH.bound, AH.addLog, AH.missQ, AH.minmaxAV, AH.wpOpD, AH.readOf, AH.effOf, AH.mapAt, AH.iterAt, Nat.reduceBEq, Nat.reduceAdd, Nat.reduceLT, ↓reduceIte, Nat.reduceEqDiff, Nat.reduceLeDiff, Nat.reduceSub, Nat.reduceMul, Int.reduceSub, Int.reduceToNat, Int.reduceBEq, Int.reduceBNe, Int.reduceLT, Int.reduceGT, Int.reduceLE, Int.reduceGE, Int.reduceNeg, Int.reduceAdd, e]
  cases h : l.contains x
  · have h1 : decide (idxZ l x ≥ 0) = false := by unfold idxZ; rw [h]; rfl
    simp only [AH.SD, AH.wpOp, AOp.call?, AOp.next?, bstep, AOp.map, Opd.ev, tget, argTm, evs, AV.cells, St.eff, St.put, applyWr, mset, terase, pureE, unAV, intOp, binAV, fill, mget, AH.rowAt, AH.part, retQ, rvs, retV, AH.splice, AH.sliceElems, AH.bytesOf, AH.strOp, AH.bound, AH.addLog, AH.missQ, AH.minmaxAV, AH.wpOpD, AH.readOf, AH.effOf, AH.mapAt, AH.iterAt, Nat.reduceBEq, Nat.reduceAdd, Nat.reduceLT, ↓reduceIte, Nat.reduceEqDiff, Nat.reduceLeDiff, Nat.reduceSub, Nat.reduceMul, Int.reduceSub, Int.reduceToNat, Int.reduceBEq, Int.reduceBNe, Int.reduceLT, Int.reduceGT, Int.reduceLE, Int.reduceGE, Int.reduceNeg, Int.reduceAdd, h1]
  · have h1 : decide (idxZ l x ≥ 0) = true := by unfold idxZ; rw [h]; simp
    simp only [AH.SD, AH.wpOp, AOp.call?, AOp.next?, bstep, AOp.map, Opd.ev, tget, argTm, evs, AV.cells, St.eff, St.put, applyWr, mset, terase, pureE, unAV, intOp, binAV, fill, mget, AH.rowAt, AH.part, retQ, rvs, retV, AH.splice, AH.sliceElems, AH.bytesOf, AH.strOp, AH.bound, AH.addLog, AH.missQ, AH.minmaxAV, AH.wpOpD, AH.readOf, AH.effOf, AH.mapAt, AH.iterAt, Nat.reduceBEq, Nat.reduceAdd, Nat.reduceLT, ↓reduceIte, Nat.reduceEqDiff, Nat.reduceLeDiff, Nat.reduceSub, Nat.reduceMul, Int.reduceSub, Int.reduceToNat, Int.reduceBEq, Int.reduceBNe, Int.reduceLT, Int.reduceGT, Int.reduceLE, Int.reduceGE, Int.reduceNeg, Int.reduceAdd, h1]
def conT : RT := rtV [1] (vf1 1 cInt (cC (aI .i64) c0) fun l x => .bool (l.contains x.1))
theorem conT_ok : ReadF S0 62 conT := vf1_ok errs0 fun l x h => ⟨rfl, con_ok l x.1 h⟩
theorem conT_eq {id ix n : Nat} {cap : Option Nat} {M : Nat → Option Blk} {es : List (List AV)} {l : List Int} {x : Int} (hM : rowE M id = some (1, es)) (hs : (es.drop ix).take n = l.map intC) (hle : ix + n ≤ es.length) (hb : n ≤ 1048576) :
    conT [.slc id ix n cap, .int .i64 x] M = some (.bool (l.contains x), [id]) := vf1_eq (c := cInt) (x := cC (aI .i64) c0) (f := fun l x => .bool (l.contains x.1)) (r := [.int .i64 x]) (b := (x, ())) hM hs hle hb rfl

/-- A row with its first k and its last k turned. -/
def rvA (l : List Int) (k : Nat) : List Int := (List.range l.length).map fun p => if p < k ∨ l.length - k ≤ p then l.getD (l.length - 1 - p) 0 else l.getD p 0
theorem rvA_len (l : List Int) (k : Nat) : (rvA l k).length = l.length := by simp [rvA]
theorem rvA_get (l : List Int) (k p : Nat) (h : p < (rvA l k).length) : (rvA l k)[p] = if p < k ∨ l.length - k ≤ p then l.getD (l.length - 1 - p) 0 else l.getD p 0 := by simp [rvA]
theorem rvA_zero (l : List Int) : rvA l 0 = l := by
  refine List.ext_getElem (rvA_len _ _) fun p h1 h2 => ?_
  rw [rvA_get, if_neg (by omega), List.getD_eq_getElem?_getD, List.getElem?_eq_getElem h2]; rfl
theorem rvA_end (l : List Int) (k : Nat) (h : l.length ≤ 2 * k + 1) : rvA l k = l.reverse := by
  refine List.ext_getElem (by rw [rvA_len, List.length_reverse]) fun p h1 h2 => ?_
  rw [rvA_len] at h1
  rw [rvA_get, List.getElem_reverse]
  have e : ∀ q (hq : q < l.length), l.getD q 0 = l[q] := fun q hq => by rw [List.getD_eq_getElem?_getD, List.getElem?_eq_getElem hq]; rfl
  by_cases c : p < k ∨ l.length - k ≤ p
  · rw [if_pos c, e _ (by omega)]
  · rw [if_neg c, e _ h1]
    congr 1; omega
theorem rvA_step (l : List Int) (k : Nat) (h : 2 * k + 1 < l.length) : ((rvA l k).set k (l.getD (l.length - 1 - k) 0)).set (l.length - 1 - k) (l.getD k 0) = rvA l (k + 1) := by
  refine List.ext_getElem (by rw [List.length_set, List.length_set, rvA_len, rvA_len]) fun p h1 h2 => ?_
  rw [rvA_len] at h2
  rw [List.getElem_set, List.getElem_set, rvA_get, rvA_get]
  by_cases c1 : l.length - 1 - k = p
  · rw [if_pos c1, if_pos (by omega)]
    congr 1; omega
  · rw [if_neg c1]
    by_cases c2 : k = p
    · rw [if_pos c2, if_pos (by omega), c2]
    · rw [if_neg c2]
      by_cases c3 : p < k ∨ l.length - k ≤ p
      · rw [if_pos c3, if_pos (by omega)]
      · rw [if_neg c3, if_neg (by omega)]
theorem rev_ok (l : List Int) (hl : l.length ≤ 1048576) : CallA1 S0 63 [.slc 0 0 l.length none] [some (.row false 1 (l.map intC))] fun r m => r = .tup [] ∧ m = [some (.row false 1 (l.reverse.map intC))] := by
  refine fun_sound okI0 Tryd.func63 c63 ?_
  unfold wpF F63
  have w0 : IntKind.i64.wrap ((l.length : Int) - 1) = (l.length : Int) - 1 - (0 : Nat) := by rw [IntKind.wrap_i64]; omega
  simp only [AH.SD, AH.wpOp, AOp.call?, AOp.next?, bstep, AOp.map, Opd.ev, tget, argTm, evs, AV.cells, St.eff, St.put, applyWr, mset, terase, pureE, unAV, intOp, binAV, fill, mget, AH.rowAt, AH.part, retQ, rvs, retV, AH.splice, AH.sliceElems, AH.bytesOf, AH.strOp, AH.bound, AH.addLog, AH.missQ, AH.minmaxAV, AH.wpOpD, AH.readOf, AH.effOf, AH.mapAt, AH.iterAt, Nat.reduceBEq, Nat.reduceAdd, Nat.reduceLT, ↓reduceIte, Nat.reduceEqDiff, Nat.reduceLeDiff, Nat.reduceSub, Nat.reduceMul, Int.reduceSub, Int.reduceToNat, Int.reduceBEq, Int.reduceBNe, Int.reduceLT, Int.reduceGT, Int.reduceLE, Int.reduceGE, Int.reduceNeg, Int.reduceAdd, w0]
  refine loop_do [0] [3, 2, 0] [] (α := Nat) (fun k => l.length - k) (fun k => ⟨[(3, .int .i64 ((l.length : Int) - 1 - (k : Nat))), (2, .int .i64 k), (0, .slc 0 0 l.length none)], [some (.row false 1 ((rvA l k).map intC))]⟩) (fun k => 2 * k ≤ l.length) 0 (by omega) (by simp only [AH.SD, AH.wpOp, AOp.call?, AOp.next?, bstep, AOp.map, Opd.ev, tget, argTm, evs, AV.cells, St.eff, St.put, applyWr, mset, terase, pureE, unAV, intOp, binAV, fill, mget, AH.rowAt, AH.part, retQ, rvs, retV, AH.splice, AH.sliceElems, AH.bytesOf, AH.strOp, AH.bound, AH.addLog, AH.missQ, AH.minmaxAV, AH.wpOpD, AH.readOf, AH.effOf, AH.mapAt, AH.iterAt, Nat.reduceBEq, Nat.reduceAdd, Nat.reduceLT, ↓reduceIte, Nat.reduceEqDiff, Nat.reduceLeDiff, Nat.reduceSub, Nat.reduceMul, Int.reduceSub, Int.reduceToNat, Int.reduceBEq, Int.reduceBNe, Int.reduceLT, Int.reduceGT, Int.reduceLE, Int.reduceGE, Int.reduceNeg, Int.reduceAdd, AH.PD, heads, distN, AH.inN, posN, packM, packB, packTm, liveB, AV.inB, AV.insB, AV.ren, AV.rens, Blk.ren, Blk.inB, vstep, tput, rvA_zero]) ?_
  intro X k hk ih
  simp only [AH.SD, AH.wpOp, AOp.call?, AOp.next?, bstep, AOp.map, Opd.ev, tget, argTm, evs, AV.cells, St.eff, St.put, applyWr, mset, terase, pureE, unAV, intOp, binAV, fill, mget, AH.rowAt, AH.part, retQ, rvs, retV, AH.splice, AH.sliceElems, AH.bytesOf, AH.strOp, AH.bound, AH.addLog, AH.missQ, AH.minmaxAV, AH.wpOpD, AH.readOf, AH.effOf, AH.mapAt, AH.iterAt, Nat.reduceBEq, Nat.reduceAdd, Nat.reduceLT, ↓reduceIte, Nat.reduceEqDiff, Nat.reduceLeDiff, Nat.reduceSub, Nat.reduceMul, Int.reduceSub, Int.reduceToNat, Int.reduceBEq, Int.reduceBNe, Int.reduceLT, Int.reduceGT, Int.reduceLE, Int.reduceGE, Int.reduceNeg, Int.reduceAdd]
  refine ⟨fun hlt => ?_, fun hlt => ?_⟩
  · have hk1 : 2 * k + 1 < l.length := by simp only [decide_eq_true_eq] at hlt; omega
    have ej : (l.length : Int) - 1 - (k : Nat) = ((l.length - 1 - k : Nat) : Int) := by omega
    have wi := wrapS (i := k) (by omega)
    have wj : IntKind.i64.wrap (((l.length - 1 - k : Nat) : Int) - 1) = (l.length : Int) - 1 - ((k + 1 : Nat) : Int) := by rw [IntKind.wrap_i64]; omega
    have kA : k < (rvA l k).length := by rw [rvA_len]; omega
    have kB : l.length - 1 - k < (rvA l k).length := by rw [rvA_len]; omega
    have gA : (rvA l k)[k] = l.getD k 0 := by rw [rvA_get, if_neg (by omega)]
    have gB : (rvA l k)[l.length - 1 - k] = l.getD (l.length - 1 - k) 0 := by rw [rvA_get, if_neg (by omega)]
    simp only [AH.SD, AH.wpOp, AOp.call?, AOp.next?, bstep, AOp.map, Opd.ev, tget, argTm, evs, AV.cells, St.eff, St.put, applyWr, mset, terase, pureE, unAV, intOp, binAV, fill, mget, AH.rowAt, AH.part, retQ, rvs, retV, AH.splice, AH.sliceElems, AH.bytesOf, AH.strOp, AH.bound, AH.addLog, AH.missQ, AH.minmaxAV, AH.wpOpD, AH.readOf, AH.effOf, AH.mapAt, AH.iterAt, Nat.reduceBEq, Nat.reduceAdd, Nat.reduceLT, ↓reduceIte, Nat.reduceEqDiff, Nat.reduceLeDiff, Nat.reduceSub, Nat.reduceMul, Int.reduceSub, Int.reduceToNat, Int.reduceBEq, Int.reduceBNe, Int.reduceLT, Int.reduceGT, Int.reduceLE, Int.reduceGE, Int.reduceNeg, Int.reduceAdd, ej, Int.toNat_natCast, getD_enc, kA, kB, intC_eq, gA, gB, setC, rvA_step l k hk1]
    repeat (refine ⟨by first | rfl | decide | omega | (simp only [List.length_map, and_true]; omega) | (simp only [List.length_map, List.length_set, and_true]; omega), ?_⟩)
    simp only [AH.SD, AH.wpOp, AOp.call?, AOp.next?, bstep, AOp.map, Opd.ev, tget, argTm, evs, AV.cells, St.eff, St.put, applyWr, mset, terase, pureE, unAV, intOp, binAV, fill, mget, AH.rowAt, AH.part, retQ, rvs, retV, AH.splice, AH.sliceElems, AH.bytesOf, AH.strOp, AH.bound, AH.addLog, AH.missQ, AH.minmaxAV, AH.wpOpD, AH.readOf, AH.effOf, AH.mapAt, AH.iterAt, Nat.reduceBEq, Nat.reduceAdd, Nat.reduceLT, ↓reduceIte, Nat.reduceEqDiff, Nat.reduceLeDiff, Nat.reduceSub, Nat.reduceMul, Int.reduceSub, Int.reduceToNat, Int.reduceBEq, Int.reduceBNe, Int.reduceLT, Int.reduceGT, Int.reduceLE, Int.reduceGE, Int.reduceNeg, Int.reduceAdd, wi, wj]
    refine gc_auto [0] [3, 2, 0] [] ?_
    simp only [AH.SD, AH.wpOp, AOp.call?, AOp.next?, bstep, AOp.map, Opd.ev, tget, argTm, evs, AV.cells, St.eff, St.put, applyWr, mset, terase, pureE, unAV, intOp, binAV, fill, mget, AH.rowAt, AH.part, retQ, rvs, retV, AH.splice, AH.sliceElems, AH.bytesOf, AH.strOp, AH.bound, AH.addLog, AH.missQ, AH.minmaxAV, AH.wpOpD, AH.readOf, AH.effOf, AH.mapAt, AH.iterAt, Nat.reduceBEq, Nat.reduceAdd, Nat.reduceLT, ↓reduceIte, Nat.reduceEqDiff, Nat.reduceLeDiff, Nat.reduceSub, Nat.reduceMul, Int.reduceSub, Int.reduceToNat, Int.reduceBEq, Int.reduceBNe, Int.reduceLT, Int.reduceGT, Int.reduceLE, Int.reduceGE, Int.reduceNeg, Int.reduceAdd, AH.PD, heads, distN, AH.inN, posN, packM, packB, packTm, liveB, AV.inB, AV.insB, AV.ren, AV.rens, Blk.ren, Blk.inB, vstep, tput]
    exact ih (k + 1) (by omega) (by omega)
  · have : l.length ≤ 2 * k + 1 := by simp only [decide_eq_false_iff_not] at hlt; omega
    simp only [AH.SD, AH.wpOp, AOp.call?, AOp.next?, bstep, AOp.map, Opd.ev, tget, argTm, evs, AV.cells, St.eff, St.put, applyWr, mset, terase, pureE, unAV, intOp, binAV, fill, mget, AH.rowAt, AH.part, retQ, rvs, retV, AH.splice, AH.sliceElems, AH.bytesOf, AH.strOp, AH.bound, AH.addLog, AH.missQ, AH.minmaxAV, AH.wpOpD, AH.readOf, AH.effOf, AH.mapAt, AH.iterAt, Nat.reduceBEq, Nat.reduceAdd, Nat.reduceLT, ↓reduceIte, Nat.reduceEqDiff, Nat.reduceLeDiff, Nat.reduceSub, Nat.reduceMul, Int.reduceSub, Int.reduceToNat, Int.reduceBEq, Int.reduceBNe, Int.reduceLT, Int.reduceGT, Int.reduceLE, Int.reduceGE, Int.reduceNeg, Int.reduceAdd, rvA_end l k this]
def revT : ET := etO (slO cInt 1) c0 fun L _ => if L.length ≤ 1048576 then some (.tup [], [some (.row false 1 (L.reverse.map intC))]) else none
theorem revT_ok : EffF S0 63 revT := etO_ok fun L _ v m' h => by
  split at h
  · rename_i hl
    simp only [Option.some.injEq, Prod.mk.injEq] at h
    obtain ⟨rfl, rfl⟩ := h
    exact ⟨⟨Nat.le_refl _, rfl⟩, rev_ok L hl⟩
  · cases h
theorem revT_p {id n k : Nat} {M : Nat → Option Blk} : revT [.slc id 0 n none] M k = etO2 k (fun (L : List Int) (_ : Unit) => if L.length ≤ 1048576 then some (.tup [], [some (.row false 1 (L.reverse.map intC))]) else none) (slR cInt 1 n id (M id)) (some ()) := by
  simp only [revT, etO_eq, c0_dec, slO_dec]
theorem slI_eq {id : Nat} {L : List Int} : slR cInt 1 L.length id (some (.row false 1 (L.map intC))) = some (L, [(id, false)]) := slR_eq (c := cInt)
/-- The nil slice. -/
def decNils : AV → Option Unit
  | .nils => some ()
  | _ => none
def aNils : Arg Unit := ⟨fun _ => .nils, decNils, fun v a h => by unfold decNils at h; split at h <;> simp_all, fun _ => rfl, fun _ => rfl⟩
theorem rev_nil : Pure S0 63 [.nils] (.tup []) := by
  refine fun_sound okI0 Tryd.func63 c63 ?_
  unfold wpF F63
  have w : IntKind.i64.wrap (-1) = -1 := by decide
  simp only [AH.SD, AH.wpOp, AOp.call?, AOp.next?, bstep, AOp.map, Opd.ev, tget, argTm, evs, AV.cells, St.eff, St.put, applyWr, mset, terase, pureE, unAV, intOp, binAV, fill, mget, AH.rowAt, AH.part, retQ, rvs, retV, AH.splice, AH.sliceElems, AH.bytesOf, AH.strOp, AH.bound, AH.addLog, AH.missQ, AH.minmaxAV, AH.wpOpD, AH.readOf, AH.effOf, AH.mapAt, AH.iterAt, Nat.reduceBEq, Nat.reduceAdd, Nat.reduceLT, ↓reduceIte, Nat.reduceEqDiff, Nat.reduceLeDiff, Nat.reduceSub, Nat.reduceMul, Int.reduceSub, Int.reduceToNat, Int.reduceBEq, Int.reduceBNe, Int.reduceLT, Int.reduceGT, Int.reduceLE, Int.reduceGE, Int.reduceNeg, Int.reduceAdd, w]
  refine loop_unroll ctxU_monoB ?_
  simp only [AH.SD, AH.wpOp, AOp.call?, AOp.next?, bstep, AOp.map, Opd.ev, tget, argTm, evs, AV.cells, St.eff, St.put, applyWr, mset, terase, pureE, unAV, intOp, binAV, fill, mget, AH.rowAt, AH.part, retQ, rvs, retV, AH.splice, AH.sliceElems, AH.bytesOf, AH.strOp, AH.bound, AH.addLog, AH.missQ, AH.minmaxAV, AH.wpOpD, AH.readOf, AH.effOf, AH.mapAt, AH.iterAt, Nat.reduceBEq, Nat.reduceAdd, Nat.reduceLT, ↓reduceIte, Nat.reduceEqDiff, Nat.reduceLeDiff, Nat.reduceSub, Nat.reduceMul, Int.reduceSub, Int.reduceToNat, Int.reduceBEq, Int.reduceBNe, Int.reduceLT, Int.reduceGT, Int.reduceLE, Int.reduceGE, Int.reduceNeg, Int.reduceAdd]
def revN : RT := rtP (cC aNils c0) fun _ => .tup []
theorem revN_ok : ReadF S0 63 revN := rtP_ok (fun _ => rev_nil) fun _ => rfl
theorem revN_eq {M : Nat → Option Blk} : revN [.nils] M = some (.tup [], []) := by
  simp only [revN, rtP, cC_dec, c0_dec, pairO_some, show aNils.dec .nils = some () from rfl, Option.map_some]
theorem idx_nil (x : Int) : Pure S0 77 [.nils, .int .i64 x] (.int .i64 (-1)) := by
  refine fun_sound okI0 Tryd.func77 c77 ?_
  unfold wpF F77
  simp only [AH.SD, AH.wpOp, AOp.call?, AOp.next?, bstep, AOp.map, Opd.ev, tget, argTm, evs, AV.cells, St.eff, St.put, applyWr, mset, terase, pureE, unAV, intOp, binAV, fill, mget, AH.rowAt, AH.part, retQ, rvs, retV, AH.splice, AH.sliceElems, AH.bytesOf, AH.strOp, AH.bound, AH.addLog, AH.missQ, AH.minmaxAV, AH.wpOpD, AH.readOf, AH.effOf, AH.mapAt, AH.iterAt, Nat.reduceBEq, Nat.reduceAdd, Nat.reduceLT, ↓reduceIte, Nat.reduceEqDiff, Nat.reduceLeDiff, Nat.reduceSub, Nat.reduceMul, Int.reduceSub, Int.reduceToNat, Int.reduceBEq, Int.reduceBNe, Int.reduceLT, Int.reduceGT, Int.reduceLE, Int.reduceGE, Int.reduceNeg, Int.reduceAdd]
  refine loop_unroll ctxU_monoB ?_
  simp only [AH.SD, AH.wpOp, AOp.call?, AOp.next?, bstep, AOp.map, Opd.ev, tget, argTm, evs, AV.cells, St.eff, St.put, applyWr, mset, terase, pureE, unAV, intOp, binAV, fill, mget, AH.rowAt, AH.part, retQ, rvs, retV, AH.splice, AH.sliceElems, AH.bytesOf, AH.strOp, AH.bound, AH.addLog, AH.missQ, AH.minmaxAV, AH.wpOpD, AH.readOf, AH.effOf, AH.mapAt, AH.iterAt, Nat.reduceBEq, Nat.reduceAdd, Nat.reduceLT, ↓reduceIte, Nat.reduceEqDiff, Nat.reduceLeDiff, Nat.reduceSub, Nat.reduceMul, Int.reduceSub, Int.reduceToNat, Int.reduceBEq, Int.reduceBNe, Int.reduceLT, Int.reduceGT, Int.reduceLE, Int.reduceGE, Int.reduceNeg, Int.reduceAdd]
def idxN : RT := rtP (cC aNils (cC (aI .i64) c0)) fun _ => .int .i64 (-1)
theorem idxN_eq {x : Int} {M : Nat → Option Blk} : idxN [.nils, .int .i64 x] M = some (.int .i64 (-1), []) := by
  simp only [idxN, rtP, cC_dec, aI_dec, c0_dec, pairO_some, show aNils.dec .nils = some () from rfl, Option.map_some]
theorem okIN : CtxOK S0 (ctxU S0 [(77, idxN)] []) := ctxU_ok ⟨rtP_ok (fun y => idx_nil y.2.1) fun _ => rfl, trivial⟩ trivial mixed
theorem revN_p {M : Nat → Option Blk} {i j n : Nat} {c : Option Nat} : revN [.slc i j n c] M = none := rfl
theorem con_nil (x : Int) : Pure S0 62 [.nils, .int .i64 x] (.bool false) := by
  refine fun_sound okIN Tryd.func62 c62 ?_
  unfold wpF F62
  simp only [AH.SD, AH.wpOp, AOp.call?, AOp.next?, bstep, AOp.map, Opd.ev, tget, argTm, evs, AV.cells, St.eff, St.put, applyWr, mset, terase, pureE, unAV, intOp, binAV, fill, mget, AH.rowAt, AH.part, retQ, rvs, retV, AH.splice, AH.sliceElems, AH.bytesOf, AH.strOp, AH.bound, AH.addLog, AH.missQ, AH.minmaxAV, AH.wpOpD, AH.readOf, AH.effOf, AH.mapAt, AH.iterAt, Nat.reduceBEq, Nat.reduceAdd, Nat.reduceLT, ↓reduceIte, Nat.reduceEqDiff, Nat.reduceLeDiff, Nat.reduceSub, Nat.reduceMul, Int.reduceSub, Int.reduceToNat, Int.reduceBEq, Int.reduceBNe, Int.reduceLT, Int.reduceGT, Int.reduceLE, Int.reduceGE, Int.reduceNeg, Int.reduceAdd, idxN_eq]
def conN : RT := rtP (cC aNils (cC (aI .i64) c0)) fun _ => .bool false
theorem conN_ok : ReadF S0 62 conN := rtP_ok (fun y => con_nil y.2.1) fun _ => rfl
theorem conN_eq {x : Int} {M : Nat → Option Blk} : conN [.nils, .int .i64 x] M = some (.bool false, []) := by
  simp only [conN, rtP, cC_dec, aI_dec, c0_dec, pairO_some, show aNils.dec .nils = some () from rfl, Option.map_some]
end Go.Proofs.YtamkjgiemconbaaDoor.D08
