import Derived.Test.YtkbjfhkhbcgkgaaDoorVecB33m
import Derived.Test.YtkbjfhkhbcgkgaaDoorVecZB33m
open Go AH
set_option linter.unusedSimpArgs false
set_option maxRecDepth 100000
namespace Go.Proofs.YtkbjfhkhbcgkgaaDoor.B33m

def cmpL : List Int → List Int → Int
  | x :: r, y :: s => if cmpZ x y ≠ 0 then cmpZ x y else cmpL r s
  | _, _ => 0

theorem compare_ok (l r : List Int) (hl : l.length ≤ 1000) (he : r.length = l.length) (p q : Bool) {K : AV → Mem → Prop} (h : ∀ m, K (.int .i64 (cmpL l r)) m) :
    CallA1 S0 51 [.isl 0 0 0 l.length, .isl 1 0 0 l.length] [some (.row p l.length [l.map (AV.int .i64)]), some (.row q l.length [r.map (AV.int .i64)])] K := by
  have ok : CtxOK S0 (ctxU S0 [(54, cmpT)] []) := ctxU_ok ⟨cmpT_ok, trivial⟩ trivial mixed
  refine fun_sound ok Tryd.func51 c51 ?_
  unfold wpF F51
  simp only [AH.SD, AH.wpOp, AOp.call?, AOp.next?, bstep, AOp.map, Opd.ev, tget, argTm, evs, AV.cells, St.eff, St.put, applyWr, mset, terase, pureE, unAV, intOp, binAV, fill, mget, AH.rowAt, AH.part, retQ, rvs, retV, AH.splice, AH.sliceElems, AH.bytesOf, AH.strOp, AH.bound, AH.addLog, AH.missQ, AH.minmaxAV, AH.wpOpD, AH.readOf, AH.mapAt, AH.iterAt, Nat.reduceBEq, Nat.reduceAdd, Nat.reduceLT, ↓reduceIte, Nat.reduceEqDiff, Nat.reduceLeDiff, Nat.reduceSub, Nat.reduceMul, Int.reduceSub, Int.reduceToNat, Int.reduceBEq, Int.reduceBNe, Int.reduceLT, Int.reduceGT, Int.reduceLE, Int.reduceGE, Int.reduceNeg, Int.reduceAdd]
  refine loop_rule (α := Nat) (fun i => l.length - i) (fun i => ⟨[(11, .int .i64 i), (10, .int .i64 l.length), (9, .isl 0 0 0 l.length), (0, .isl 0 0 0 l.length), (1, .isl 1 0 0 l.length)], [some (.row p l.length [l.map (AV.int .i64)]), some (.row q l.length [r.map (AV.int .i64)])]⟩)
    (fun i => i ≤ l.length ∧ cmpL (l.drop i) (r.drop i) = cmpL l r) 0 ⟨Nat.zero_le _, rfl⟩
    (gc_keep (l := [(11, .int .i64 0), (10, .int .i64 l.length), (9, .isl 0 0 0 l.length), (0, .isl 0 0 0 l.length), (1, .isl 1 0 0 l.length)]) ⟨rfl, rfl, rfl, rfl, rfl, trivial⟩ rfl) ?_
  rintro X i ⟨hi, hb⟩ ih
  simp only [AH.SD, AH.wpOp, AOp.call?, AOp.next?, bstep, AOp.map, Opd.ev, tget, argTm, evs, AV.cells, St.eff, St.put, applyWr, mset, terase, pureE, unAV, intOp, binAV, fill, mget, AH.rowAt, AH.part, retQ, rvs, retV, AH.splice, AH.sliceElems, AH.bytesOf, AH.strOp, AH.bound, AH.addLog, AH.missQ, AH.minmaxAV, AH.wpOpD, AH.readOf, AH.mapAt, AH.iterAt, Nat.reduceBEq, Nat.reduceAdd, Nat.reduceLT, ↓reduceIte, Nat.reduceEqDiff, Nat.reduceLeDiff, Nat.reduceSub, Nat.reduceMul, Int.reduceSub, Int.reduceToNat, Int.reduceBEq, Int.reduceBNe, Int.reduceLT, Int.reduceGT, Int.reduceLE, Int.reduceGE, Int.reduceNeg, Int.reduceAdd]
  refine ⟨fun hlt => ?_, fun hlt => ?_⟩
  · simp only [decide_eq_true_eq] at hlt
    have hil : i < l.length := by omega
    have hir : i < r.length := by omega
    have hg : (l.map (AV.int .i64)).getD i .undef = .int .i64 l[i] := by
      rw [List.getD_eq_getElem?_getD, List.getElem?_map, List.getElem?_eq_getElem hil]; rfl
    have hg' : (r.map (AV.int .i64)).getD i .undef = .int .i64 r[i] := by
      rw [List.getD_eq_getElem?_getD, List.getElem?_map, List.getElem?_eq_getElem hir]; rfl
    have hw : IntKind.i64.wrap ((i : Int) + 1) = ((i + 1 : Nat) : Int) := by rw [IntKind.wrap_i64]; omega
    have hge : decide ((i : Int) ≥ (l.length : Int)) = false := by simp; omega
    rw [List.drop_eq_getElem_cons hil, List.drop_eq_getElem_cons hir, cmpL] at hb
    simp only [AH.SD, AH.wpOp, AOp.call?, AOp.next?, bstep, AOp.map, Opd.ev, tget, argTm, evs, AV.cells, St.eff, St.put, applyWr, mset, terase, pureE, unAV, intOp, binAV, fill, mget, AH.rowAt, AH.part, retQ, rvs, retV, AH.splice, AH.sliceElems, AH.bytesOf, AH.strOp, AH.bound, AH.addLog, AH.missQ, AH.minmaxAV, AH.wpOpD, AH.readOf, AH.mapAt, AH.iterAt, Nat.reduceBEq, Nat.reduceAdd, Nat.reduceLT, ↓reduceIte, Nat.reduceEqDiff, Nat.reduceLeDiff, Nat.reduceSub, Nat.reduceMul, Int.reduceSub, Int.reduceToNat, Int.reduceBEq, Int.reduceBNe, Int.reduceLT, Int.reduceGT, Int.reduceLE, Int.reduceGE, Int.reduceNeg, Int.reduceAdd, hg, hg', hge, cmpT_eq]
    refine ⟨⟨by omega, by omega⟩, by omega, ⟨by omega, by omega⟩, by omega, ?_⟩
    refine ⟨fun hz => ?_, fun hz => ?_⟩
    · have hz' : cmpZ l[i] r[i] ≠ 0 := by simpa using hz
      rw [if_pos hz'] at hb
      simp only [AH.SD, AH.wpOp, AOp.call?, AOp.next?, bstep, AOp.map, Opd.ev, tget, argTm, evs, AV.cells, St.eff, St.put, applyWr, mset, terase, pureE, unAV, intOp, binAV, fill, mget, AH.rowAt, AH.part, retQ, rvs, retV, AH.splice, AH.sliceElems, AH.bytesOf, AH.strOp, AH.bound, AH.addLog, AH.missQ, AH.minmaxAV, AH.wpOpD, AH.readOf, AH.mapAt, AH.iterAt, Nat.reduceBEq, Nat.reduceAdd, Nat.reduceLT, ↓reduceIte, Nat.reduceEqDiff, Nat.reduceLeDiff, Nat.reduceSub, Nat.reduceMul, Int.reduceSub, Int.reduceToNat, Int.reduceBEq, Int.reduceBNe, Int.reduceLT, Int.reduceGT, Int.reduceLE, Int.reduceGE, Int.reduceNeg, Int.reduceAdd, hb]
      exact h _
    · have hz' : ¬ cmpZ l[i] r[i] ≠ 0 := by simpa using hz
      rw [if_neg hz'] at hb
      simp only [AH.SD, AH.wpOp, AOp.call?, AOp.next?, bstep, AOp.map, Opd.ev, tget, argTm, evs, AV.cells, St.eff, St.put, applyWr, mset, terase, pureE, unAV, intOp, binAV, fill, mget, AH.rowAt, AH.part, retQ, rvs, retV, AH.splice, AH.sliceElems, AH.bytesOf, AH.strOp, AH.bound, AH.addLog, AH.missQ, AH.minmaxAV, AH.wpOpD, AH.readOf, AH.mapAt, AH.iterAt, Nat.reduceBEq, Nat.reduceAdd, Nat.reduceLT, ↓reduceIte, Nat.reduceEqDiff, Nat.reduceLeDiff, Nat.reduceSub, Nat.reduceMul, Int.reduceSub, Int.reduceToNat, Int.reduceBEq, Int.reduceBNe, Int.reduceLT, Int.reduceGT, Int.reduceLE, Int.reduceGE, Int.reduceNeg, Int.reduceAdd, hw]
      refine gc_keep (l := [(11, .int .i64 ((i + 1 : Nat) : Int)), (10, .int .i64 l.length), (9, .isl 0 0 0 l.length), (0, .isl 0 0 0 l.length), (1, .isl 1 0 0 l.length)]) ⟨rfl, rfl, rfl, rfl, rfl, trivial⟩ ?_
      exact ih (i + 1) ⟨by omega, hb⟩ (by omega)
  · simp only [decide_eq_false_iff_not] at hlt
    have hi' : i = l.length := by omega
    have e0 : cmpL l r = 0 := by
      rw [← hb, List.drop_eq_nil_of_le (by omega)]; rfl
    have hlt' : decide ((l.length : Int) < (l.length : Int)) = false := by simp
    simp only [AH.SD, AH.wpOp, AOp.call?, AOp.next?, bstep, AOp.map, Opd.ev, tget, argTm, evs, AV.cells, St.eff, St.put, applyWr, mset, terase, pureE, unAV, intOp, binAV, fill, mget, AH.rowAt, AH.part, retQ, rvs, retV, AH.splice, AH.sliceElems, AH.bytesOf, AH.strOp, AH.bound, AH.addLog, AH.missQ, AH.minmaxAV, AH.wpOpD, AH.readOf, AH.mapAt, AH.iterAt, Nat.reduceBEq, Nat.reduceAdd, Nat.reduceLT, ↓reduceIte, Nat.reduceEqDiff, Nat.reduceLeDiff, Nat.reduceSub, Nat.reduceMul, Int.reduceSub, Int.reduceToNat, Int.reduceBEq, Int.reduceBNe, Int.reduceLT, Int.reduceGT, Int.reduceLE, Int.reduceGE, Int.reduceNeg, Int.reduceAdd, hlt']
    rw [← e0]
    exact h _

def ints : List AV → Option (List Int)
  | [] => some []
  | .int .i64 n :: r => (ints r).map (n :: ·)
  | _ => none

theorem ints_map : ∀ {cs : List AV} {l : List Int}, ints cs = some l → cs = l.map (AV.int .i64)
  | [], l, h => by simp [ints] at h; subst h; rfl
  | c :: r, l, h => by
    unfold ints at h
    split at h
    · rename_i heq; cases heq
    · rename_i n r' heq
      cases heq
      simp only [Option.map_eq_some_iff] at h
      obtain ⟨l', h1, rfl⟩ := h
      rw [ints_map h1]; rfl
    · cases h

def compareT : RT := fun args M => match args with
  | [.isl i 0 0 n, .isl j 0 0 m] => match M i, M j with
    | some (.row _ k [cs]), some (.row _ k' [ds]) => match ints cs, ints ds with
      | some l, some r => if n = l.length ∧ m = l.length ∧ r.length = l.length ∧ k = l.length ∧ k' = l.length ∧ l.length ≤ 1000 ∧ i ≠ j then some (.int .i64 (cmpL l r), [i, j]) else none
      | _, _ => none
    | _, _ => none
  | _ => none

theorem insB_ints (p : Nat → Bool) : ∀ l : List Int, AV.insB p (l.map (AV.int .i64)) = true
  | [] => rfl
  | _ :: r => by simp only [List.map_cons, AV.insB, AV.inB, insB_ints p r, Bool.and_self]

theorem rens_ints (ρ : Nat → Nat) : ∀ l : List Int, AV.rens ρ (l.map (AV.int .i64)) = l.map (AV.int .i64)
  | [] => rfl
  | _ :: r => by simp only [List.map_cons, AV.rens, AV.ren, rens_ints ρ r]

set_option maxRecDepth 100000 in
theorem compareT_ok : ReadF S0 51 compareT := by
  intro args M v foot h
  unfold compareT at h
  split at h
  · rename_i i n j m
    split at h
    · rename_i ro k cs ro' k' ds hi hj
      split at h
      · rename_i l r hl hr
        split at h
        · rename_i hc
          simp only [Option.some.injEq, Prod.mk.injEq] at h
          obtain ⟨rfl, rfl⟩ := h
          refine ⟨fun M' hM' => ?_, fun eb φ own w0 w us hA hus hM hk => ?_⟩
          · simp only [compareT, hM' i (by simp), hM' j (by simp), hi, hj, hl, hr, if_pos hc]
          · obtain ⟨rfl, rfl, hc3, rfl, rfl, hc6, hne⟩ := hc
            have e1 := ints_map hl
            have e2 := ints_map hr
            refine reads_run (sel := [(i, true), (j, true)]) ?_ ?_ ?_ rfl ?_ hA hus hM hk
            · simp only [roOK, hi, hj, List.all_cons, List.all_nil, Bool.and_true, e1, e2, insB_ints]
            · have : (j == i) = false := by simp [Ne.symm hne]
              simp [AH.distinct, AH.isIn, this]
            · simp [AV.insB, AV.inB, AH.isIn]
            · have p0 : posOf [(i, true), (j, true)] i = 0 := by simp [posOf]
              have p1 : posOf [(i, true), (j, true)] j = 1 := by
                have : (i == j) = false := by simp [hne]
                simp [posOf, this]
              simp only [AV.rens, AV.ren, p0, p1, roMem, hi, hj, Option.map_some, Blk.ren, Blk.asRo, List.map_cons, List.map_nil, e1, e2, rens_ints]
              exact compare_ok l r hc6 hc3 true true fun _ => rfl
        · cases h
      · cases h
    · cases h
  · cases h

theorem compareT_vec (a0 a1 a2 a3 b0 b1 b2 b3 : Int) (p q : Bool) (r : Mem) : compareT [.isl 0 0 0 4, .isl 1 0 0 4] (mget (some (.row p 4 [[.int .i64 a0, .int .i64 a1, .int .i64 a2, .int .i64 a3]]) :: some (.row q 4 [[.int .i64 b0, .int .i64 b1, .int .i64 b2, .int .i64 b3]]) :: r)) = some (.int .i64 (cmpL [a0, a1, a2, a3] [b0, b1, b2, b3]), [0, 1]) := rfl

def lessV (x y : V4) : Bool := decide (cmpL x.l y.l < 0)

set_option maxRecDepth 100000 in
theorem less_ok (x y : V4) : Pure S0 20 [x.av, y.av] (.bool (lessV x y)) := by
  have ok : CtxOK S0 (ctxU S0 [(51, compareT)] []) := ctxU_ok ⟨compareT_ok, trivial⟩ trivial mixed
  refine fun_sound ok Tryd.func20 c20 ?_
  unfold wpF F20
  simp only [AH.SD, AH.wpOp, AOp.call?, AOp.next?, bstep, AOp.map, Opd.ev, tget, argTm, evs, AV.cells, St.eff, St.put, applyWr, mset, terase, pureE, unAV, intOp, binAV, fill, mget, AH.rowAt, AH.part, retQ, rvs, retV, AH.splice, AH.sliceElems, AH.bytesOf, AH.strOp, AH.bound, AH.addLog, AH.missQ, AH.minmaxAV, AH.wpOpD, AH.readOf, AH.mapAt, AH.iterAt, Nat.reduceBEq, Nat.reduceAdd, Nat.reduceLT, ↓reduceIte, Nat.reduceEqDiff, Nat.reduceLeDiff, Nat.reduceSub, Nat.reduceMul, Int.reduceSub, Int.reduceToNat, Int.reduceBEq, Int.reduceBNe, Int.reduceLT, Int.reduceGT, Int.reduceLE, Int.reduceGE, Int.reduceNeg, Int.reduceAdd, V4.av, compareT_vec]
  repeat (first | refine ⟨rfl, ?_⟩ | refine ⟨by decide, ?_⟩)
  trivial

def lessT : RT := rtP (cC (aA cV) (cC (aA cV) c0)) fun x => .bool (lessV x.1 x.2.1)
theorem lessT_ok : ReadF S0 20 lessT := rtP_ok (fun x => less_ok x.1 x.2.1) fun _ => rfl
theorem lessT_eq (a b c d x y z u : Int) (M : Nat → Option Blk) : lessT [.agg [.int .i64 a, .int .i64 b, .int .i64 c, .int .i64 d], .agg [.int .i64 x, .int .i64 y, .int .i64 z, .int .i64 u]] M = some (.bool (lessV ⟨a, b, c, d⟩ ⟨x, y, z, u⟩), []) := rfl

/-- Equality of vectors, as it is reckoned. -/
def fitsV (x y : V4) : Bool := !(decide (x.a > y.a) || decide (x.b > y.b) || decide (x.c > y.c) || decide (x.d > y.d))

set_option maxRecDepth 100000 in
theorem fits_ok (x y : V4) : Pure S0 19 [x.av, y.av] (.bool (fitsV x y)) := by
  refine fun_sound okZ Tryd.func19 c19 ?_
  unfold wpF F19
  simp only [AH.SD, AH.wpOp, AOp.call?, AOp.next?, bstep, AOp.map, Opd.ev, tget, argTm, evs, AV.cells, St.eff, St.put, applyWr, mset, terase, pureE, unAV, intOp, binAV, fill, mget, AH.rowAt, AH.part, retQ, rvs, retV, AH.splice, AH.sliceElems, AH.bytesOf, AH.strOp, AH.bound, AH.addLog, AH.missQ, AH.minmaxAV, AH.wpOpD, AH.readOf, AH.mapAt, AH.iterAt, Nat.reduceBEq, Nat.reduceAdd, Nat.reduceLT, ↓reduceIte, Nat.reduceEqDiff, Nat.reduceLeDiff, Nat.reduceSub, Nat.reduceMul, Int.reduceSub, Int.reduceToNat, Int.reduceBEq, Int.reduceBNe, Int.reduceLT, Int.reduceGT, Int.reduceLE, Int.reduceGE, Int.reduceNeg, Int.reduceAdd, V4.av]
  have w1 : IntKind.i64.wrap 1 = 1 := by decide
  have w2 : IntKind.i64.wrap 2 = 2 := by decide
  have w3 : IntKind.i64.wrap 3 = 3 := by decide
  have w4 : IntKind.i64.wrap 4 = 4 := by decide
  refine loop_unroll ctxU_monoB ?_
  simp only [AH.SD, AH.wpOp, AOp.call?, AOp.next?, bstep, AOp.map, Opd.ev, tget, argTm, evs, AV.cells, St.eff, St.put, applyWr, mset, terase, pureE, unAV, intOp, binAV, fill, mget, AH.rowAt, AH.part, retQ, rvs, retV, AH.splice, AH.sliceElems, AH.bytesOf, AH.strOp, AH.bound, AH.addLog, AH.missQ, AH.minmaxAV, AH.wpOpD, AH.readOf, AH.mapAt, AH.iterAt, Nat.reduceBEq, Nat.reduceAdd, Nat.reduceLT, ↓reduceIte, Nat.reduceEqDiff, Nat.reduceLeDiff, Nat.reduceSub, Nat.reduceMul, Int.reduceSub, Int.reduceToNat, Int.reduceBEq, Int.reduceBNe, Int.reduceLT, Int.reduceGT, Int.reduceLE, Int.reduceGE, Int.reduceNeg, Int.reduceAdd, Int.reduceLT, decide_true, Int.reduceToNat]
  repeat (refine ⟨by first | rfl | decide | omega | (simp only [List.length_map, and_true]; omega) | (simp only [List.length_map, List.length_set, and_true]; omega), ?_⟩)
  refine ⟨fun h0 => ?_, fun h0 => ?_⟩
  · simp only [AH.SD, AH.wpOp, AOp.call?, AOp.next?, bstep, AOp.map, Opd.ev, tget, argTm, evs, AV.cells, St.eff, St.put, applyWr, mset, terase, pureE, unAV, intOp, binAV, fill, mget, AH.rowAt, AH.part, retQ, rvs, retV, AH.splice, AH.sliceElems, AH.bytesOf, AH.strOp, AH.bound, AH.addLog, AH.missQ, AH.minmaxAV, AH.wpOpD, AH.readOf, AH.mapAt, AH.iterAt, Nat.reduceBEq, Nat.reduceAdd, Nat.reduceLT, ↓reduceIte, Nat.reduceEqDiff, Nat.reduceLeDiff, Nat.reduceSub, Nat.reduceMul, Int.reduceSub, Int.reduceToNat, Int.reduceBEq, Int.reduceBNe, Int.reduceLT, Int.reduceGT, Int.reduceLE, Int.reduceGE, Int.reduceNeg, Int.reduceAdd, fitsV, h0, Bool.true_or, Bool.not_true]
  simp only [AH.SD, AH.wpOp, AOp.call?, AOp.next?, bstep, AOp.map, Opd.ev, tget, argTm, evs, AV.cells, St.eff, St.put, applyWr, mset, terase, pureE, unAV, intOp, binAV, fill, mget, AH.rowAt, AH.part, retQ, rvs, retV, AH.splice, AH.sliceElems, AH.bytesOf, AH.strOp, AH.bound, AH.addLog, AH.missQ, AH.minmaxAV, AH.wpOpD, AH.readOf, AH.mapAt, AH.iterAt, Nat.reduceBEq, Nat.reduceAdd, Nat.reduceLT, ↓reduceIte, Nat.reduceEqDiff, Nat.reduceLeDiff, Nat.reduceSub, Nat.reduceMul, Int.reduceSub, Int.reduceToNat, Int.reduceBEq, Int.reduceBNe, Int.reduceLT, Int.reduceGT, Int.reduceLE, Int.reduceGE, Int.reduceNeg, Int.reduceAdd, Int.reduceAdd, w1]
  refine loop_unroll ctxU_monoB ?_
  simp only [AH.SD, AH.wpOp, AOp.call?, AOp.next?, bstep, AOp.map, Opd.ev, tget, argTm, evs, AV.cells, St.eff, St.put, applyWr, mset, terase, pureE, unAV, intOp, binAV, fill, mget, AH.rowAt, AH.part, retQ, rvs, retV, AH.splice, AH.sliceElems, AH.bytesOf, AH.strOp, AH.bound, AH.addLog, AH.missQ, AH.minmaxAV, AH.wpOpD, AH.readOf, AH.mapAt, AH.iterAt, Nat.reduceBEq, Nat.reduceAdd, Nat.reduceLT, ↓reduceIte, Nat.reduceEqDiff, Nat.reduceLeDiff, Nat.reduceSub, Nat.reduceMul, Int.reduceSub, Int.reduceToNat, Int.reduceBEq, Int.reduceBNe, Int.reduceLT, Int.reduceGT, Int.reduceLE, Int.reduceGE, Int.reduceNeg, Int.reduceAdd, Int.reduceLT, decide_true, Int.reduceToNat]
  repeat (refine ⟨by first | rfl | decide | omega | (simp only [List.length_map, and_true]; omega) | (simp only [List.length_map, List.length_set, and_true]; omega), ?_⟩)
  refine ⟨fun h1 => ?_, fun h1 => ?_⟩
  · simp only [AH.SD, AH.wpOp, AOp.call?, AOp.next?, bstep, AOp.map, Opd.ev, tget, argTm, evs, AV.cells, St.eff, St.put, applyWr, mset, terase, pureE, unAV, intOp, binAV, fill, mget, AH.rowAt, AH.part, retQ, rvs, retV, AH.splice, AH.sliceElems, AH.bytesOf, AH.strOp, AH.bound, AH.addLog, AH.missQ, AH.minmaxAV, AH.wpOpD, AH.readOf, AH.mapAt, AH.iterAt, Nat.reduceBEq, Nat.reduceAdd, Nat.reduceLT, ↓reduceIte, Nat.reduceEqDiff, Nat.reduceLeDiff, Nat.reduceSub, Nat.reduceMul, Int.reduceSub, Int.reduceToNat, Int.reduceBEq, Int.reduceBNe, Int.reduceLT, Int.reduceGT, Int.reduceLE, Int.reduceGE, Int.reduceNeg, Int.reduceAdd, fitsV, h0, h1, Bool.true_or, Bool.or_true, Bool.not_true]
  simp only [AH.SD, AH.wpOp, AOp.call?, AOp.next?, bstep, AOp.map, Opd.ev, tget, argTm, evs, AV.cells, St.eff, St.put, applyWr, mset, terase, pureE, unAV, intOp, binAV, fill, mget, AH.rowAt, AH.part, retQ, rvs, retV, AH.splice, AH.sliceElems, AH.bytesOf, AH.strOp, AH.bound, AH.addLog, AH.missQ, AH.minmaxAV, AH.wpOpD, AH.readOf, AH.mapAt, AH.iterAt, Nat.reduceBEq, Nat.reduceAdd, Nat.reduceLT, ↓reduceIte, Nat.reduceEqDiff, Nat.reduceLeDiff, Nat.reduceSub, Nat.reduceMul, Int.reduceSub, Int.reduceToNat, Int.reduceBEq, Int.reduceBNe, Int.reduceLT, Int.reduceGT, Int.reduceLE, Int.reduceGE, Int.reduceNeg, Int.reduceAdd, Int.reduceAdd, w2]
  refine loop_unroll ctxU_monoB ?_
  simp only [AH.SD, AH.wpOp, AOp.call?, AOp.next?, bstep, AOp.map, Opd.ev, tget, argTm, evs, AV.cells, St.eff, St.put, applyWr, mset, terase, pureE, unAV, intOp, binAV, fill, mget, AH.rowAt, AH.part, retQ, rvs, retV, AH.splice, AH.sliceElems, AH.bytesOf, AH.strOp, AH.bound, AH.addLog, AH.missQ, AH.minmaxAV, AH.wpOpD, AH.readOf, AH.mapAt, AH.iterAt, Nat.reduceBEq, Nat.reduceAdd, Nat.reduceLT, ↓reduceIte, Nat.reduceEqDiff, Nat.reduceLeDiff, Nat.reduceSub, Nat.reduceMul, Int.reduceSub, Int.reduceToNat, Int.reduceBEq, Int.reduceBNe, Int.reduceLT, Int.reduceGT, Int.reduceLE, Int.reduceGE, Int.reduceNeg, Int.reduceAdd, Int.reduceLT, decide_true, Int.reduceToNat]
  repeat (refine ⟨by first | rfl | decide | omega | (simp only [List.length_map, and_true]; omega) | (simp only [List.length_map, List.length_set, and_true]; omega), ?_⟩)
  refine ⟨fun h2 => ?_, fun h2 => ?_⟩
  · simp only [AH.SD, AH.wpOp, AOp.call?, AOp.next?, bstep, AOp.map, Opd.ev, tget, argTm, evs, AV.cells, St.eff, St.put, applyWr, mset, terase, pureE, unAV, intOp, binAV, fill, mget, AH.rowAt, AH.part, retQ, rvs, retV, AH.splice, AH.sliceElems, AH.bytesOf, AH.strOp, AH.bound, AH.addLog, AH.missQ, AH.minmaxAV, AH.wpOpD, AH.readOf, AH.mapAt, AH.iterAt, Nat.reduceBEq, Nat.reduceAdd, Nat.reduceLT, ↓reduceIte, Nat.reduceEqDiff, Nat.reduceLeDiff, Nat.reduceSub, Nat.reduceMul, Int.reduceSub, Int.reduceToNat, Int.reduceBEq, Int.reduceBNe, Int.reduceLT, Int.reduceGT, Int.reduceLE, Int.reduceGE, Int.reduceNeg, Int.reduceAdd, fitsV, h0, h1, h2, Bool.true_or, Bool.or_true, Bool.not_true]
  simp only [AH.SD, AH.wpOp, AOp.call?, AOp.next?, bstep, AOp.map, Opd.ev, tget, argTm, evs, AV.cells, St.eff, St.put, applyWr, mset, terase, pureE, unAV, intOp, binAV, fill, mget, AH.rowAt, AH.part, retQ, rvs, retV, AH.splice, AH.sliceElems, AH.bytesOf, AH.strOp, AH.bound, AH.addLog, AH.missQ, AH.minmaxAV, AH.wpOpD, AH.readOf, AH.mapAt, AH.iterAt, Nat.reduceBEq, Nat.reduceAdd, Nat.reduceLT, ↓reduceIte, Nat.reduceEqDiff, Nat.reduceLeDiff, Nat.reduceSub, Nat.reduceMul, Int.reduceSub, Int.reduceToNat, Int.reduceBEq, Int.reduceBNe, Int.reduceLT, Int.reduceGT, Int.reduceLE, Int.reduceGE, Int.reduceNeg, Int.reduceAdd, Int.reduceAdd, w3]
  refine loop_unroll ctxU_monoB ?_
  simp only [AH.SD, AH.wpOp, AOp.call?, AOp.next?, bstep, AOp.map, Opd.ev, tget, argTm, evs, AV.cells, St.eff, St.put, applyWr, mset, terase, pureE, unAV, intOp, binAV, fill, mget, AH.rowAt, AH.part, retQ, rvs, retV, AH.splice, AH.sliceElems, AH.bytesOf, AH.strOp, AH.bound, AH.addLog, AH.missQ, AH.minmaxAV, AH.wpOpD, AH.readOf, AH.mapAt, AH.iterAt, Nat.reduceBEq, Nat.reduceAdd, Nat.reduceLT, ↓reduceIte, Nat.reduceEqDiff, Nat.reduceLeDiff, Nat.reduceSub, Nat.reduceMul, Int.reduceSub, Int.reduceToNat, Int.reduceBEq, Int.reduceBNe, Int.reduceLT, Int.reduceGT, Int.reduceLE, Int.reduceGE, Int.reduceNeg, Int.reduceAdd, Int.reduceLT, decide_true, Int.reduceToNat]
  repeat (refine ⟨by first | rfl | decide | omega | (simp only [List.length_map, and_true]; omega) | (simp only [List.length_map, List.length_set, and_true]; omega), ?_⟩)
  refine ⟨fun h3 => ?_, fun h3 => ?_⟩
  · simp only [AH.SD, AH.wpOp, AOp.call?, AOp.next?, bstep, AOp.map, Opd.ev, tget, argTm, evs, AV.cells, St.eff, St.put, applyWr, mset, terase, pureE, unAV, intOp, binAV, fill, mget, AH.rowAt, AH.part, retQ, rvs, retV, AH.splice, AH.sliceElems, AH.bytesOf, AH.strOp, AH.bound, AH.addLog, AH.missQ, AH.minmaxAV, AH.wpOpD, AH.readOf, AH.mapAt, AH.iterAt, Nat.reduceBEq, Nat.reduceAdd, Nat.reduceLT, ↓reduceIte, Nat.reduceEqDiff, Nat.reduceLeDiff, Nat.reduceSub, Nat.reduceMul, Int.reduceSub, Int.reduceToNat, Int.reduceBEq, Int.reduceBNe, Int.reduceLT, Int.reduceGT, Int.reduceLE, Int.reduceGE, Int.reduceNeg, Int.reduceAdd, fitsV, h0, h1, h2, h3, Bool.true_or, Bool.or_true, Bool.not_true]
  simp only [AH.SD, AH.wpOp, AOp.call?, AOp.next?, bstep, AOp.map, Opd.ev, tget, argTm, evs, AV.cells, St.eff, St.put, applyWr, mset, terase, pureE, unAV, intOp, binAV, fill, mget, AH.rowAt, AH.part, retQ, rvs, retV, AH.splice, AH.sliceElems, AH.bytesOf, AH.strOp, AH.bound, AH.addLog, AH.missQ, AH.minmaxAV, AH.wpOpD, AH.readOf, AH.mapAt, AH.iterAt, Nat.reduceBEq, Nat.reduceAdd, Nat.reduceLT, ↓reduceIte, Nat.reduceEqDiff, Nat.reduceLeDiff, Nat.reduceSub, Nat.reduceMul, Int.reduceSub, Int.reduceToNat, Int.reduceBEq, Int.reduceBNe, Int.reduceLT, Int.reduceGT, Int.reduceLE, Int.reduceGE, Int.reduceNeg, Int.reduceAdd, Int.reduceAdd, w4]
  refine loop_unroll ctxU_monoB ?_
  simp only [AH.SD, AH.wpOp, AOp.call?, AOp.next?, bstep, AOp.map, Opd.ev, tget, argTm, evs, AV.cells, St.eff, St.put, applyWr, mset, terase, pureE, unAV, intOp, binAV, fill, mget, AH.rowAt, AH.part, retQ, rvs, retV, AH.splice, AH.sliceElems, AH.bytesOf, AH.strOp, AH.bound, AH.addLog, AH.missQ, AH.minmaxAV, AH.wpOpD, AH.readOf, AH.mapAt, AH.iterAt, Nat.reduceBEq, Nat.reduceAdd, Nat.reduceLT, ↓reduceIte, Nat.reduceEqDiff, Nat.reduceLeDiff, Nat.reduceSub, Nat.reduceMul, Int.reduceSub, Int.reduceToNat, Int.reduceBEq, Int.reduceBNe, Int.reduceLT, Int.reduceGT, Int.reduceLE, Int.reduceGE, Int.reduceNeg, Int.reduceAdd, Int.reduceLT, decide_false, fitsV, h0, h1, h2, h3, Bool.or_self, Bool.not_false]

def fitsT : RT := rtP (cC (aA cV) (cC (aA cV) c0)) fun x => .bool (fitsV x.1 x.2.1)
theorem fitsT_ok : ReadF S0 19 fitsT := rtP_ok (fun x => fits_ok x.1 x.2.1) fun _ => rfl
theorem fitsT_eq (a b c d x y z u : Int) (M : Nat → Option Blk) : fitsT [.agg [.int .i64 a, .int .i64 b, .int .i64 c, .int .i64 d], .agg [.int .i64 x, .int .i64 y, .int .i64 z, .int .i64 u]] M = some (.bool (fitsV ⟨a, b, c, d⟩ ⟨x, y, z, u⟩), []) := rfl

end Go.Proofs.YtkbjfhkhbcgkgaaDoor.B33m
