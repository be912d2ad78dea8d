import Derived.Test.YtdjcpmdjodhfeaaDoorVecBA16
import Derived.Test.YtdjcpmdjodhfeaaDoorFFitA16
open Go AH
set_option linter.unusedSimpArgs false
set_option maxRecDepth 100000
namespace Go.Proofs.YtdjcpmdjodhfeaaDoor.A16

/-- A spot. -/
structure Sp where
  id : Int
  v : V4

def Sp.cells (s : Sp) : List AV := [.int .i64 s.id, .int .i64 s.v.a, .int .i64 s.v.b, .int .i64 s.v.c, .int .i64 s.v.d]
def decSp : List AV → Option Sp
  | [.int .i64 i, .int .i64 a, .int .i64 b, .int .i64 c, .int .i64 d] => some ⟨i, a, b, c, d⟩
  | _ => none
theorem decSp_ok (l : List AV) (v : Sp) (h : decSp l = some v) : l = v.cells := by
  unfold decSp at h
  split at h
  · simp only [Option.some.injEq] at h; subst h; rfl
  · cases h
def cSp : Cod Sp := ⟨Sp.cells, decSp, decSp_ok, fun _ => rfl, fun _ => rfl⟩

abbrev tRest : List (FuncId × RT) := [(51, subT)]
theorem okRest : CtxOK S0 (ctxU S0 tRest []) := ctxU_ok ⟨subT_ok, trivial⟩ trivial mixed

/-- Does something fit, and what is left? -/
def fit (v need : V4) : Bool := subK v need == 0
def restA (s : Sp) (need : V4) : AV := .tup [.agg [.int .i64 (subR s.v need).a, .int .i64 (subR s.v need).b, .int .i64 (subR s.v need).c, .int .i64 (subR s.v need).d], .bool (fit s.v need)]

set_option maxRecDepth 100000 in
theorem rest_ok (s : Sp) (need : V4) : Pure S0 34 [.agg s.cells, need.av] (restA s need) := by
  refine fun_sound okRest Tryd.func34 c34 ?_
  unfold wpF F34
  simp only [AH.SD, AH.wpOp, AOp.call?, AOp.next?, bstep, AOp.map, Opd.ev, tget, argTm, evs, AV.cells, St.eff, St.put, applyWr, mset, terase, pureE, unAV, intOp, binAV, fill, mget, AH.rowAt, AH.part, retQ, rvs, retV, AH.splice, AH.sliceElems, AH.bytesOf, AH.strOp, AH.bound, AH.addLog, AH.missQ, AH.minmaxAV, AH.wpOpD, AH.readOf, AH.mapAt, AH.iterAt, Nat.reduceBEq, Nat.reduceAdd, Nat.reduceLT, ↓reduceIte, Nat.reduceEqDiff, Nat.reduceLeDiff, Nat.reduceSub, Nat.reduceMul, Int.reduceSub, Int.reduceToNat, Int.reduceBEq, Int.reduceBNe, Int.reduceLT, Int.reduceGT, Int.reduceLE, Int.reduceGE, Int.reduceNeg, Int.reduceAdd, Sp.cells, V4.av, subT_eq, vecE, errA_nil]
  repeat (refine ⟨by first | rfl | decide | omega | (simp only [List.length_map, and_true]; omega) | (simp only [List.length_map, List.length_set, and_true]; omega), ?_⟩)
  rfl

def restT : RT := rtP (cC (aA cSp) (cC (aA cV) c0)) fun x => restA x.1 x.2.1
theorem restT_ok : ReadF S0 34 restT := rtP_ok (fun x => rest_ok x.1 x.2.1) fun _ => rfl
theorem restT_eq (i a b c d x y z u : Int) (M : Nat → Option Blk) : restT [.agg [.int .i64 i, .int .i64 a, .int .i64 b, .int .i64 c, .int .i64 d], .agg [.int .i64 x, .int .i64 y, .int .i64 z, .int .i64 u]] M = some (restA ⟨i, a, b, c, d⟩ ⟨x, y, z, u⟩, []) := rfl

def betterV (s : Sp) (x : V4) (t : Sp) (y : V4) : Bool := lessV x y || (eqV x y && decide (s.id < t.id))

set_option maxRecDepth 100000 in
theorem better_ok (s : Sp) (x : V4) (t : Sp) (y : V4) : Pure S0 50 [.agg s.cells, x.av, .agg t.cells, y.av] (.bool (betterV s x t y)) := by
  have ok : CtxOK S0 (ctxU S0 [(58, lessT)] []) := ctxU_ok ⟨lessT_ok, trivial⟩ trivial mixed
  refine fun_sound ok Tryd.func50 c50 ?_
  unfold wpF F50
  simp only [AH.SD, AH.wpOp, AOp.call?, AOp.next?, bstep, AOp.map, Opd.ev, tget, argTm, evs, AV.cells, St.eff, St.put, applyWr, mset, terase, pureE, unAV, intOp, binAV, fill, mget, AH.rowAt, AH.part, retQ, rvs, retV, AH.splice, AH.sliceElems, AH.bytesOf, AH.strOp, AH.bound, AH.addLog, AH.missQ, AH.minmaxAV, AH.wpOpD, AH.readOf, AH.mapAt, AH.iterAt, Nat.reduceBEq, Nat.reduceAdd, Nat.reduceLT, ↓reduceIte, Nat.reduceEqDiff, Nat.reduceLeDiff, Nat.reduceSub, Nat.reduceMul, Int.reduceSub, Int.reduceToNat, Int.reduceBEq, Int.reduceBNe, Int.reduceLT, Int.reduceGT, Int.reduceLE, Int.reduceGE, Int.reduceNeg, Int.reduceAdd, Sp.cells, V4.av, lessT_eq, eqFlat_vec]
  cases hl : lessV x y
  · cases he : eqV x y
    · simp only [AH.SD, AH.wpOp, AOp.call?, AOp.next?, bstep, AOp.map, Opd.ev, tget, argTm, evs, AV.cells, St.eff, St.put, applyWr, mset, terase, pureE, unAV, intOp, binAV, fill, mget, AH.rowAt, AH.part, retQ, rvs, retV, AH.splice, AH.sliceElems, AH.bytesOf, AH.strOp, AH.bound, AH.addLog, AH.missQ, AH.minmaxAV, AH.wpOpD, AH.readOf, AH.mapAt, AH.iterAt, Nat.reduceBEq, Nat.reduceAdd, Nat.reduceLT, ↓reduceIte, Nat.reduceEqDiff, Nat.reduceLeDiff, Nat.reduceSub, Nat.reduceMul, Int.reduceSub, Int.reduceToNat, Int.reduceBEq, Int.reduceBNe, Int.reduceLT, Int.reduceGT, Int.reduceLE, Int.reduceGE, Int.reduceNeg, Int.reduceAdd, betterV, hl, he, eqFlat_vec, Bool.false_or, Bool.false_and]
    · simp only [AH.SD, AH.wpOp, AOp.call?, AOp.next?, bstep, AOp.map, Opd.ev, tget, argTm, evs, AV.cells, St.eff, St.put, applyWr, mset, terase, pureE, unAV, intOp, binAV, fill, mget, AH.rowAt, AH.part, retQ, rvs, retV, AH.splice, AH.sliceElems, AH.bytesOf, AH.strOp, AH.bound, AH.addLog, AH.missQ, AH.minmaxAV, AH.wpOpD, AH.readOf, AH.mapAt, AH.iterAt, Nat.reduceBEq, Nat.reduceAdd, Nat.reduceLT, ↓reduceIte, Nat.reduceEqDiff, Nat.reduceLeDiff, Nat.reduceSub, Nat.reduceMul, Int.reduceSub, Int.reduceToNat, Int.reduceBEq, Int.reduceBNe, Int.reduceLT, Int.reduceGT, Int.reduceLE, Int.reduceGE, Int.reduceNeg, Int.reduceAdd, betterV, hl, he, eqFlat_vec, Bool.false_or, Bool.true_and]
  · simp only [AH.SD, AH.wpOp, AOp.call?, AOp.next?, bstep, AOp.map, Opd.ev, tget, argTm, evs, AV.cells, St.eff, St.put, applyWr, mset, terase, pureE, unAV, intOp, binAV, fill, mget, AH.rowAt, AH.part, retQ, rvs, retV, AH.splice, AH.sliceElems, AH.bytesOf, AH.strOp, AH.bound, AH.addLog, AH.missQ, AH.minmaxAV, AH.wpOpD, AH.readOf, AH.mapAt, AH.iterAt, Nat.reduceBEq, Nat.reduceAdd, Nat.reduceLT, ↓reduceIte, Nat.reduceEqDiff, Nat.reduceLeDiff, Nat.reduceSub, Nat.reduceMul, Int.reduceSub, Int.reduceToNat, Int.reduceBEq, Int.reduceBNe, Int.reduceLT, Int.reduceGT, Int.reduceLE, Int.reduceGE, Int.reduceNeg, Int.reduceAdd, betterV, hl, Bool.true_or]

def betterT : RT := rtP (cC (aA cSp) (cC (aA cV) (cC (aA cSp) (cC (aA cV) c0)))) fun x => .bool (betterV x.1 x.2.1 x.2.2.1 x.2.2.2.1)
theorem betterT_ok : ReadF S0 50 betterT := rtP_ok (fun _ => better_ok _ _ _ _) fun _ => rfl
theorem betterT_eq (i a b c d x y z u j e f g h p q r s : Int) (M : Nat → Option Blk) : betterT [.agg [.int .i64 i, .int .i64 a, .int .i64 b, .int .i64 c, .int .i64 d], .agg [.int .i64 x, .int .i64 y, .int .i64 z, .int .i64 u], .agg [.int .i64 j, .int .i64 e, .int .i64 f, .int .i64 g, .int .i64 h], .agg [.int .i64 p, .int .i64 q, .int .i64 r, .int .i64 s]] M = some (.bool (betterV ⟨i, a, b, c, d⟩ ⟨x, y, z, u⟩ ⟨j, e, f, g, h⟩ ⟨p, q, r, s⟩), []) := rfl
theorem restT_sp (s : Sp) (x : V4) (M : Nat → Option Blk) : restT [.agg s.cells, .agg [.int .i64 x.a, .int .i64 x.b, .int .i64 x.c, .int .i64 x.d]] M = some (restA s x, []) := rfl

/-- The best of the first so many spots: its place, or -1; what is left there. -/
def bestF (l : List Sp) (need : V4) : Nat → Int × V4
  | 0 => (-1, .zero)
  | i + 1 => match l[i]? with
    | some s => bif fit s.v need && ((bestF l need i).1 == -1 || betterV s (subR s.v need) (l.getD (bestF l need i).1.toNat ⟨0, .zero⟩) (bestF l need i).2) then (i, subR s.v need) else bestF l need i
    | none => bestF l need i

theorem bestF_range (l : List Sp) (need : V4) : ∀ i, (bestF l need i).1 = -1 ∨ (0 ≤ (bestF l need i).1 ∧ (bestF l need i).1 < i)
  | 0 => .inl rfl
  | i + 1 => by
    have ih := bestF_range l need i
    simp only [bestF]
    split
    · rename_i s _
      cases (fit s.v need && ((bestF l need i).1 == -1 || betterV s (subR s.v need) (l.getD (bestF l need i).1.toNat ⟨0, .zero⟩) (bestF l need i).2)) with
      | true => right; simp only [cond_true]; omega
      | false => simp only [cond_false]; omega
    · omega

def bestI (l : List Sp) (need : V4) : Int := (bestF l need l.length).1

abbrev tBest : List (FuncId × RT) := [(34, restT), (50, betterT)]
theorem okBest : CtxOK S0 (ctxU S0 tBest []) := ctxU_ok ⟨restT_ok, betterT_ok, trivial⟩ trivial mixed

def bestSt (l : List Sp) (need : V4) (i : Nat) : St := ⟨[(13, .int .i64 i), (12, .int .i64 l.length), (11, .slc 0 0 l.length none), (6, .ptr 2 0 0), (5, .int .i64 (bestF l need i).1), (3, .ptr 1 0 0), (0, .slc 0 0 l.length none)],
  [some (.row true 5 (l.map Sp.cells)), some (.row false 4 [need.cells]), some (.row false 4 [(bestF l need i).2.cells])]⟩

set_option maxRecDepth 100000 in
theorem best_ok (l : List Sp) (need : V4) (hl : l.length ≤ 1048576) : CallA1 S0 32 [.slc 0 0 l.length none, need.av] [some (.row true 5 (l.map Sp.cells))] fun r _ => r = .int .i64 (bestI l need) := by
  refine fun_sound okBest Tryd.func32 c32 ?_
  unfold wpF F32
  simp only [AH.SD, AH.wpOp, AOp.call?, AOp.next?, bstep, AOp.map, Opd.ev, tget, argTm, evs, AV.cells, St.eff, St.put, applyWr, mset, terase, pureE, unAV, intOp, binAV, fill, mget, AH.rowAt, AH.part, retQ, rvs, retV, AH.splice, AH.sliceElems, AH.bytesOf, AH.strOp, AH.bound, AH.addLog, AH.missQ, AH.minmaxAV, AH.wpOpD, AH.readOf, AH.mapAt, AH.iterAt, Nat.reduceBEq, Nat.reduceAdd, Nat.reduceLT, ↓reduceIte, Nat.reduceEqDiff, Nat.reduceLeDiff, Nat.reduceSub, Nat.reduceMul, Int.reduceSub, Int.reduceToNat, Int.reduceBEq, Int.reduceBNe, Int.reduceLT, Int.reduceGT, Int.reduceLE, Int.reduceGE, Int.reduceNeg, Int.reduceAdd, V4.av]
  refine loop_rule (α := Nat) (fun i => l.length - i) (bestSt l need) (fun i => i ≤ l.length) 0 (Nat.zero_le _) (gc_keep (l := (bestSt l need 0).tm) ⟨rfl, rfl, rfl, rfl, rfl, rfl, rfl, trivial⟩ rfl) ?_
  intro X i hi ih
  simp only [AH.SD, AH.wpOp, AOp.call?, AOp.next?, bstep, AOp.map, Opd.ev, tget, argTm, evs, AV.cells, St.eff, St.put, applyWr, mset, terase, pureE, unAV, intOp, binAV, fill, mget, AH.rowAt, AH.part, retQ, rvs, retV, AH.splice, AH.sliceElems, AH.bytesOf, AH.strOp, AH.bound, AH.addLog, AH.missQ, AH.minmaxAV, AH.wpOpD, AH.readOf, AH.mapAt, AH.iterAt, Nat.reduceBEq, Nat.reduceAdd, Nat.reduceLT, ↓reduceIte, Nat.reduceEqDiff, Nat.reduceLeDiff, Nat.reduceSub, Nat.reduceMul, Int.reduceSub, Int.reduceToNat, Int.reduceBEq, Int.reduceBNe, Int.reduceLT, Int.reduceGT, Int.reduceLE, Int.reduceGE, Int.reduceNeg, Int.reduceAdd, bestSt]
  refine ⟨fun hlt => ?_, fun hlt => ?_⟩
  · simp only [decide_eq_true_eq] at hlt
    have hil : i < l.length := by omega
    have hg : (l.map Sp.cells).getD i [] = l[i].cells := getD_map_lt _ _ _ _ hil
    have hc : l[i].cells = [.int .i64 l[i].id, .int .i64 l[i].v.a, .int .i64 l[i].v.b, .int .i64 l[i].v.c, .int .i64 l[i].v.d] := rfl
    have hw : IntKind.i64.wrap ((i : Int) + 1) = ((i + 1 : Nat) : Int) := by rw [IntKind.wrap_i64]; omega
    have hbi : bestF l need (i + 1) = bif fit l[i].v need && ((bestF l need i).1 == -1 || betterV l[i] (subR l[i].v need) (l.getD (bestF l need i).1.toNat ⟨0, .zero⟩) (bestF l need i).2) then ((i : Int), subR l[i].v need) else bestF l need i := by
      simp only [bestF, List.getElem?_eq_getElem hil]
    have hr := bestF_range l need i
    generalize hB : bestF l need i = B at *
    obtain ⟨at0, least⟩ := B
    simp only at hr hbi ⊢
    have done : ∀ (B' : Int × V4), bestF l need (i + 1) = B' → X ⟨[(13, .int .i64 ((i + 1 : Nat) : Int)), (12, .int .i64 l.length), (11, .slc 0 0 l.length none), (6, .ptr 2 0 0), (5, .int .i64 B'.1), (3, .ptr 1 0 0), (0, .slc 0 0 l.length none)],
        [some (.row true 5 (l.map Sp.cells)), some (.row false 4 [need.cells]), some (.row false 4 [B'.2.cells])]⟩ := by
      rintro B' rfl
      exact ih (i + 1) (by omega) (by omega)
    simp only [AH.SD, AH.wpOp, AOp.call?, AOp.next?, bstep, AOp.map, Opd.ev, tget, argTm, evs, AV.cells, St.eff, St.put, applyWr, mset, terase, pureE, unAV, intOp, binAV, fill, mget, AH.rowAt, AH.part, retQ, rvs, retV, AH.splice, AH.sliceElems, AH.bytesOf, AH.strOp, AH.bound, AH.addLog, AH.missQ, AH.minmaxAV, AH.wpOpD, AH.readOf, AH.mapAt, AH.iterAt, Nat.reduceBEq, Nat.reduceAdd, Nat.reduceLT, ↓reduceIte, Nat.reduceEqDiff, Nat.reduceLeDiff, Nat.reduceSub, Nat.reduceMul, Int.reduceSub, Int.reduceToNat, Int.reduceBEq, Int.reduceBNe, Int.reduceLT, Int.reduceGT, Int.reduceLE, Int.reduceGE, Int.reduceNeg, Int.reduceAdd, hg, hc, restT_eq, restA, V4.cells]
    refine ⟨⟨by omega, by omega⟩, ⟨by rw [List.length_map]; exact hil, trivial⟩, ?_⟩
    have hm : ∀ v : V4, memLt 3 [some (.row true 5 (l.map Sp.cells)), some (.row false 4 [need.cells]), some (.row false 4 [v.cells])] = true := fun v => by
      rw [memLt_row, show (l.map Sp.cells).all (AV.lts 3) = true from cSp.all_lt 3 l]; rfl
    cases hf : fit l[i].v need
    · rw [hf] at hbi
      simp only [AH.SD, AH.wpOp, AOp.call?, AOp.next?, bstep, AOp.map, Opd.ev, tget, argTm, evs, AV.cells, St.eff, St.put, applyWr, mset, terase, pureE, unAV, intOp, binAV, fill, mget, AH.rowAt, AH.part, retQ, rvs, retV, AH.splice, AH.sliceElems, AH.bytesOf, AH.strOp, AH.bound, AH.addLog, AH.missQ, AH.minmaxAV, AH.wpOpD, AH.readOf, AH.mapAt, AH.iterAt, Nat.reduceBEq, Nat.reduceAdd, Nat.reduceLT, ↓reduceIte, Nat.reduceEqDiff, Nat.reduceLeDiff, Nat.reduceSub, Nat.reduceMul, Int.reduceSub, Int.reduceToNat, Int.reduceBEq, Int.reduceBNe, Int.reduceLT, Int.reduceGT, Int.reduceLE, Int.reduceGE, Int.reduceNeg, Int.reduceAdd, hf, hw]
      repeat (refine ⟨by first | rfl | decide | omega | (simp only [List.length_map, and_true]; omega) | (simp only [List.length_map, List.length_set, and_true]; omega), ?_⟩)
      exact gc_cutE 3 (done _ hbi) (hm _) (by decide) rfl rfl rfl ⟨rfl, rfl, rfl, rfl, rfl, rfl, rfl, trivial⟩
    · rw [hf] at hbi
      rcases hr with rfl | ⟨h0, h1⟩
      · simp only [AH.SD, AH.wpOp, AOp.call?, AOp.next?, bstep, AOp.map, Opd.ev, tget, argTm, evs, AV.cells, St.eff, St.put, applyWr, mset, terase, pureE, unAV, intOp, binAV, fill, mget, AH.rowAt, AH.part, retQ, rvs, retV, AH.splice, AH.sliceElems, AH.bytesOf, AH.strOp, AH.bound, AH.addLog, AH.missQ, AH.minmaxAV, AH.wpOpD, AH.readOf, AH.mapAt, AH.iterAt, Nat.reduceBEq, Nat.reduceAdd, Nat.reduceLT, ↓reduceIte, Nat.reduceEqDiff, Nat.reduceLeDiff, Nat.reduceSub, Nat.reduceMul, Int.reduceSub, Int.reduceToNat, Int.reduceBEq, Int.reduceBNe, Int.reduceLT, Int.reduceGT, Int.reduceLE, Int.reduceGE, Int.reduceNeg, Int.reduceAdd, hf, hw, V4.cells]
        repeat (refine ⟨by first | rfl | decide | omega | (simp only [List.length_map, and_true]; omega) | (simp only [List.length_map, List.length_set, and_true]; omega), ?_⟩)
        exact gc_cutE 3 (done (i, subR l[i].v need) hbi) (hm _) (by decide) rfl rfl rfl ⟨rfl, rfl, rfl, rfl, rfl, rfl, rfl, trivial⟩
      · obtain ⟨k, rfl⟩ := Int.eq_ofNat_of_zero_le h0
        have hkl : k < l.length := by omega
        have hg2 : (l.map Sp.cells).getD k [] = l[k].cells := getD_map_lt _ _ _ _ hkl
        have hc2 : l[k].cells = [.int .i64 l[k].id, .int .i64 l[k].v.a, .int .i64 l[k].v.b, .int .i64 l[k].v.c, .int .i64 l[k].v.d] := rfl
        have hk1 : ((k : Int) == -1) = false := by
          simp
        have hd : l.getD k ⟨0, .zero⟩ = l[k] := by rw [List.getD_eq_getElem?_getD, List.getElem?_eq_getElem hkl]; rfl
        simp only [hk1, Int.toNat_natCast, hd, Bool.true_and, Bool.false_or] at hbi
        simp only [AH.SD, AH.wpOp, AOp.call?, AOp.next?, bstep, AOp.map, Opd.ev, tget, argTm, evs, AV.cells, St.eff, St.put, applyWr, mset, terase, pureE, unAV, intOp, binAV, fill, mget, AH.rowAt, AH.part, retQ, rvs, retV, AH.splice, AH.sliceElems, AH.bytesOf, AH.strOp, AH.bound, AH.addLog, AH.missQ, AH.minmaxAV, AH.wpOpD, AH.readOf, AH.mapAt, AH.iterAt, Nat.reduceBEq, Nat.reduceAdd, Nat.reduceLT, ↓reduceIte, Nat.reduceEqDiff, Nat.reduceLeDiff, Nat.reduceSub, Nat.reduceMul, Int.reduceSub, Int.reduceToNat, Int.reduceBEq, Int.reduceBNe, Int.reduceLT, Int.reduceGT, Int.reduceLE, Int.reduceGE, Int.reduceNeg, Int.reduceAdd, hf, hw, hk1, hg2, hc2, betterT_eq, V4.cells]
        cases hbt : betterV l[i] (subR l[i].v need) l[k] least
        · rw [hbt] at hbi
          simp only [AH.SD, AH.wpOp, AOp.call?, AOp.next?, bstep, AOp.map, Opd.ev, tget, argTm, evs, AV.cells, St.eff, St.put, applyWr, mset, terase, pureE, unAV, intOp, binAV, fill, mget, AH.rowAt, AH.part, retQ, rvs, retV, AH.splice, AH.sliceElems, AH.bytesOf, AH.strOp, AH.bound, AH.addLog, AH.missQ, AH.minmaxAV, AH.wpOpD, AH.readOf, AH.mapAt, AH.iterAt, Nat.reduceBEq, Nat.reduceAdd, Nat.reduceLT, ↓reduceIte, Nat.reduceEqDiff, Nat.reduceLeDiff, Nat.reduceSub, Nat.reduceMul, Int.reduceSub, Int.reduceToNat, Int.reduceBEq, Int.reduceBNe, Int.reduceLT, Int.reduceGT, Int.reduceLE, Int.reduceGE, Int.reduceNeg, Int.reduceAdd, hbt, hw]
          repeat (refine ⟨by first | rfl | decide | omega | (simp only [List.length_map, and_true]; omega) | (simp only [List.length_map, List.length_set, and_true]; omega), ?_⟩)
          exact gc_cutE 3 (done _ hbi) (hm _) (by decide) rfl rfl rfl ⟨rfl, rfl, rfl, rfl, rfl, rfl, rfl, trivial⟩
        · rw [hbt] at hbi
          simp only [AH.SD, AH.wpOp, AOp.call?, AOp.next?, bstep, AOp.map, Opd.ev, tget, argTm, evs, AV.cells, St.eff, St.put, applyWr, mset, terase, pureE, unAV, intOp, binAV, fill, mget, AH.rowAt, AH.part, retQ, rvs, retV, AH.splice, AH.sliceElems, AH.bytesOf, AH.strOp, AH.bound, AH.addLog, AH.missQ, AH.minmaxAV, AH.wpOpD, AH.readOf, AH.mapAt, AH.iterAt, Nat.reduceBEq, Nat.reduceAdd, Nat.reduceLT, ↓reduceIte, Nat.reduceEqDiff, Nat.reduceLeDiff, Nat.reduceSub, Nat.reduceMul, Int.reduceSub, Int.reduceToNat, Int.reduceBEq, Int.reduceBNe, Int.reduceLT, Int.reduceGT, Int.reduceLE, Int.reduceGE, Int.reduceNeg, Int.reduceAdd, hbt, hw, V4.cells]
          repeat (refine ⟨by first | rfl | decide | omega | (simp only [List.length_map, and_true]; omega) | (simp only [List.length_map, List.length_set, and_true]; omega), ?_⟩)
          exact gc_cutE 3 (done (i, subR l[i].v need) hbi) (hm _) (by decide) rfl rfl rfl ⟨rfl, rfl, rfl, rfl, rfl, rfl, rfl, trivial⟩
  · simp only [decide_eq_false_iff_not] at hlt
    have : i = l.length := by omega
    subst this
    simp only [AH.SD, AH.wpOp, AOp.call?, AOp.next?, bstep, AOp.map, Opd.ev, tget, argTm, evs, AV.cells, St.eff, St.put, applyWr, mset, terase, pureE, unAV, intOp, binAV, fill, mget, AH.rowAt, AH.part, retQ, rvs, retV, AH.splice, AH.sliceElems, AH.bytesOf, AH.strOp, AH.bound, AH.addLog, AH.missQ, AH.minmaxAV, AH.wpOpD, AH.readOf, AH.mapAt, AH.iterAt, Nat.reduceBEq, Nat.reduceAdd, Nat.reduceLT, ↓reduceIte, Nat.reduceEqDiff, Nat.reduceLeDiff, Nat.reduceSub, Nat.reduceMul, Int.reduceSub, Int.reduceToNat, Int.reduceBEq, Int.reduceBNe, Int.reduceLT, Int.reduceGT, Int.reduceLE, Int.reduceGE, Int.reduceNeg, Int.reduceAdd]
    rfl

def bestT : RT := rtV [5] (vf1 5 cSp (cC (aA cV) c0) fun l x => .int .i64 (bestI l x.1))
theorem bestT_ok : ReadF S0 32 bestT := vf1_ok errs0 fun l x hl => ⟨rfl, best_ok l x.1 hl⟩
theorem bestT_eq {l : List Sp} {id : Nat} {cap : Option Nat} {a b c d : Int} {M : Nat → Option Blk} (hM : rowE M id = some (5, l.map Sp.cells)) (hl : l.length ≤ 1048576) :
    bestT [.slc id 0 l.length cap, .agg [.int .i64 a, .int .i64 b, .int .i64 c, .int .i64 d]] M = some (.int .i64 (bestI l ⟨a, b, c, d⟩), [id]) :=
  vf1_eq (k := 5) (c := cSp) (x := cC (aA cV) c0) (f := fun l x => .int .i64 (bestI l x.1)) (l := l) (b := (⟨a, b, c, d⟩, ())) hM (by rw [List.drop_zero]; exact take_map_len _ _) (by simp) hl rfl

/-- The best spot: its number, if there is one. -/
def bestA (l : List Sp) (need : V4) : AV := bif bestI l need == -1 then .tup [.int .i64 0, .bool false] else .tup [.int .i64 (l.getD (bestI l need).toNat ⟨0, .zero⟩).id, .bool true]

theorem okB2 : CtxOK S0 (ctxU S0 [(32, bestT)] []) := ctxU_ok ⟨bestT_ok, trivial⟩ trivial mixed

set_option maxRecDepth 100000 in
theorem Best_ok (l : List Sp) (need : V4) (hl : l.length ≤ 1048576) : CallA1 S0 10 [.slc 0 0 l.length none, need.av] [some (.row true 5 (l.map Sp.cells))] fun r _ => r = bestA l need := by
  refine fun_sound okB2 Tryd.func10 c10 ?_
  unfold wpF F10
  simp only [AH.SD, AH.wpOp, AOp.call?, AOp.next?, bstep, AOp.map, Opd.ev, tget, argTm, evs, AV.cells, St.eff, St.put, applyWr, mset, terase, pureE, unAV, intOp, binAV, fill, mget, AH.rowAt, AH.part, retQ, rvs, retV, AH.splice, AH.sliceElems, AH.bytesOf, AH.strOp, AH.bound, AH.addLog, AH.missQ, AH.minmaxAV, AH.wpOpD, AH.readOf, AH.mapAt, AH.iterAt, Nat.reduceBEq, Nat.reduceAdd, Nat.reduceLT, ↓reduceIte, Nat.reduceEqDiff, Nat.reduceLeDiff, Nat.reduceSub, Nat.reduceMul, Int.reduceSub, Int.reduceToNat, Int.reduceBEq, Int.reduceBNe, Int.reduceLT, Int.reduceGT, Int.reduceLE, Int.reduceGE, Int.reduceNeg, Int.reduceAdd, V4.av, bestT_eq, hl, V4.eta]
  have hr := bestF_range l need l.length
  rw [show (bestF l need l.length).1 = bestI l need from rfl] at hr
  rcases hr with h | ⟨h0, h1⟩
  · simp only [AH.SD, AH.wpOp, AOp.call?, AOp.next?, bstep, AOp.map, Opd.ev, tget, argTm, evs, AV.cells, St.eff, St.put, applyWr, mset, terase, pureE, unAV, intOp, binAV, fill, mget, AH.rowAt, AH.part, retQ, rvs, retV, AH.splice, AH.sliceElems, AH.bytesOf, AH.strOp, AH.bound, AH.addLog, AH.missQ, AH.minmaxAV, AH.wpOpD, AH.readOf, AH.mapAt, AH.iterAt, Nat.reduceBEq, Nat.reduceAdd, Nat.reduceLT, ↓reduceIte, Nat.reduceEqDiff, Nat.reduceLeDiff, Nat.reduceSub, Nat.reduceMul, Int.reduceSub, Int.reduceToNat, Int.reduceBEq, Int.reduceBNe, Int.reduceLT, Int.reduceGT, Int.reduceLE, Int.reduceGE, Int.reduceNeg, Int.reduceAdd, h, bestA]
  · obtain ⟨k, hk⟩ := Int.eq_ofNat_of_zero_le h0
    rw [hk] at h1
    have hkl : k < l.length := by omega
    have hg2 : (l.map Sp.cells).getD k [] = l[k].cells := getD_map_lt _ _ _ _ hkl
    have hk1 : ((k : Int) == -1) = false := by simp
    have hd : l.getD k ⟨0, .zero⟩ = l[k] := by rw [List.getD_eq_getElem?_getD, List.getElem?_eq_getElem hkl]; rfl
    simp only [AH.SD, AH.wpOp, AOp.call?, AOp.next?, bstep, AOp.map, Opd.ev, tget, argTm, evs, AV.cells, St.eff, St.put, applyWr, mset, terase, pureE, unAV, intOp, binAV, fill, mget, AH.rowAt, AH.part, retQ, rvs, retV, AH.splice, AH.sliceElems, AH.bytesOf, AH.strOp, AH.bound, AH.addLog, AH.missQ, AH.minmaxAV, AH.wpOpD, AH.readOf, AH.mapAt, AH.iterAt, Nat.reduceBEq, Nat.reduceAdd, Nat.reduceLT, ↓reduceIte, Nat.reduceEqDiff, Nat.reduceLeDiff, Nat.reduceSub, Nat.reduceMul, Int.reduceSub, Int.reduceToNat, Int.reduceBEq, Int.reduceBNe, Int.reduceLT, Int.reduceGT, Int.reduceLE, Int.reduceGE, Int.reduceNeg, Int.reduceAdd, hk, hk1, hg2, bestA, hd, Sp.cells]
    refine ⟨⟨by omega, by omega⟩, ⟨by rw [List.length_map]; exact hkl, by decide⟩, ?_⟩
    trivial

def BestT : RT := rtV [5] (vf1 5 cSp (cC (aA cV) c0) fun l x => bestA l x.1)
theorem bestA_flat (l : List Sp) (x : V4) : (bestA l x).lt 0 = true := by
  unfold bestA
  cases bestI l x == -1 <;> rfl
theorem BestT_ok : ReadF S0 10 BestT := vf1_ok errs0 fun l x hl => ⟨bestA_flat _ _, Best_ok l x.1 hl⟩
theorem BestT_eq {l : List Sp} {id : Nat} {cap : Option Nat} {a b c d : Int} {M : Nat → Option Blk} (hM : rowE M id = some (5, l.map Sp.cells)) (hl : l.length ≤ 1048576) :
    BestT [.slc id 0 l.length cap, .agg [.int .i64 a, .int .i64 b, .int .i64 c, .int .i64 d]] M = some (bestA l ⟨a, b, c, d⟩, [id]) :=
  vf1_eq (k := 5) (c := cSp) (x := cC (aA cV) c0) (f := fun l x => bestA l x.1) (l := l) (b := (⟨a, b, c, d⟩, ())) hM (by rw [List.drop_zero]; exact take_map_len _ _) (by simp) hl rfl

end Go.Proofs.YtdjcpmdjodhfeaaDoor.A16
