import Derived.Test.YtdjcpmdjodhfeaaDoorFitBA16
open Go AH
set_option linter.unusedSimpArgs false
set_option maxRecDepth 100000
namespace Go.Proofs.YtdjcpmdjodhfeaaDoor.A16

/-- Is it the spot with this number, and does something fit there? -/
def isAt (l : List Sp) (n : V4) (id : Int) (j : Nat) : Bool := fit (l.getD j ⟨0, .zero⟩).v n && (l.getD j ⟨0, .zero⟩).id == id
def putAt (l : List Sp) (n : V4) (k : Nat) : List Sp := l.set k ⟨(l.getD k ⟨0, .zero⟩).id, subR (l.getD k ⟨0, .zero⟩).v n⟩
def restOne (l : List Sp) (n : V4) (id : Int) : List Sp := match (List.range l.length).find? (isAt l n id) with
  | some k => putAt l n k
  | none => l
def restS (l : List Sp) : List V4 → List Int → List Sp
  | n :: ns, id :: ids => restS (restOne l n id) ns ids
  | _, _ => l

theorem restOne_len (l : List Sp) (n : V4) (id : Int) : (restOne l n id).length = l.length := by
  unfold restOne
  split
  · simp [putAt]
  · rfl

def restM (l l' : List Sp) (ns : List V4) (ids : List Int) (i id : Int) : Mem := [some (.row true 5 (l.map Sp.cells)), some (.row true 4 (ns.map V4.cells)), some (.row true 1 (ids.map intC)), some (.row false 1 [[.slc 1 0 ns.length none]]), some (.row false 5 (l'.map Sp.cells)), some (.row false 1 [[.int .i64 i]]), some (.row false 1 [[.int .i64 id]])]

abbrev tRest1 : List (FuncId × RT) := [(34, restT)]
theorem okRest1 : CtxOK S0 (ctxU S0 tRest1 []) := ctxU_ok ⟨restT_ok, trivial⟩ trivial mixed

set_option maxRecDepth 100000 in
theorem rest1_ok (l l' : List Sp) (ns : List V4) (ids : List Int) (i : Nat) (id : Int) (s : Sp) (hi : i < ns.length) : CallA1 S0 40 [.agg s.cells, .ptr 3 0 0, .ptr 5 0 0, .ptr 6 0 0] (restM l l' ns ids i id) fun r m' => r = .bool (fit s.v ns[i] && s.id == id) ∧ m' = restM l l' ns ids i id := by
  refine CallA1.fin ?_
  refine fun_sound okRest1 Tryd.func40 c40 ?_
  unfold wpF F40
  simp only [AH.SD, AH.wpOp, AOp.call?, AOp.next?, bstep, AOp.map, Opd.ev, tget, argTm, evs, AV.cells, St.eff, St.put, applyWr, mset, terase, pureE, unAV, intOp, binAV, fill, mget, AH.rowAt, AH.part, retQ, rvs, retV, AH.splice, AH.sliceElems, AH.bytesOf, AH.strOp, AH.bound, AH.addLog, AH.missQ, AH.minmaxAV, AH.wpOpD, AH.readOf, AH.mapAt, AH.iterAt, Nat.reduceBEq, Nat.reduceAdd, Nat.reduceLT, ↓reduceIte, Nat.reduceEqDiff, Nat.reduceLeDiff, Nat.reduceSub, Nat.reduceMul, Int.reduceSub, Int.reduceToNat, Int.reduceBEq, Int.reduceBNe, Int.reduceLT, Int.reduceGT, Int.reduceLE, Int.reduceGE, Int.reduceNeg, Int.reduceAdd, restM, Sp.cells_eq, getD_enc, hi, V4.cells_eq, restT_eq, restA, V4.eta]
  repeat (refine ⟨by first | rfl | decide | omega | (simp only [List.length_map, and_true]; omega) | (simp only [List.length_map, List.length_set, and_true]; omega), ?_⟩)
  cases hf : fit s.v ns[i]
  all_goals
    simp only [AH.SD, AH.wpOp, AOp.call?, AOp.next?, bstep, AOp.map, Opd.ev, tget, argTm, evs, AV.cells, St.eff, St.put, applyWr, mset, terase, pureE, unAV, intOp, binAV, fill, mget, AH.rowAt, AH.part, retQ, rvs, retV, AH.splice, AH.sliceElems, AH.bytesOf, AH.strOp, AH.bound, AH.addLog, AH.missQ, AH.minmaxAV, AH.wpOpD, AH.readOf, AH.mapAt, AH.iterAt, Nat.reduceBEq, Nat.reduceAdd, Nat.reduceLT, ↓reduceIte, Nat.reduceEqDiff, Nat.reduceLeDiff, Nat.reduceSub, Nat.reduceMul, Int.reduceSub, Int.reduceToNat, Int.reduceBEq, Int.reduceBNe, Int.reduceLT, Int.reduceGT, Int.reduceLE, Int.reduceGE, Int.reduceNeg, Int.reduceAdd, hf]
    refine ⟨[0, 1, 2, 3, 4, 5, 6], [], ?_⟩
    simp only [AH.SD, AH.wpOp, AOp.call?, AOp.next?, bstep, AOp.map, Opd.ev, tget, argTm, evs, AV.cells, St.eff, St.put, applyWr, mset, terase, pureE, unAV, intOp, binAV, fill, mget, AH.rowAt, AH.part, retQ, rvs, retV, AH.splice, AH.sliceElems, AH.bytesOf, AH.strOp, AH.bound, AH.addLog, AH.missQ, AH.minmaxAV, AH.wpOpD, AH.readOf, AH.mapAt, AH.iterAt, Nat.reduceBEq, Nat.reduceAdd, Nat.reduceLT, ↓reduceIte, Nat.reduceEqDiff, Nat.reduceLeDiff, Nat.reduceSub, Nat.reduceMul, Int.reduceSub, Int.reduceToNat, Int.reduceBEq, Int.reduceBNe, Int.reduceLT, Int.reduceGT, Int.reduceLE, Int.reduceGE, Int.reduceNeg, Int.reduceAdd, AH.PD, heads, distN, AH.inN, posN, packM, packB, packTm, liveB, AV.inB, AV.insB, AV.ren, AV.rens, Blk.ren, Blk.inB, vstep, tput, hf]
  exact rfl

def restSt (l : List Sp) (ns : List V4) (ids : List Int) (k : Nat) (x : Nat × List Sp) : St := ⟨[(20, .int .i64 x.1), (19, .int .i64 k), (18, .slc 2 0 k none), (4, .ptr 3 0 0), (0, .slc 4 0 l.length none)],
  [some (.row true 5 (l.map Sp.cells)), some (.row true 4 (ns.map V4.cells)), some (.row true 1 (ids.map intC)), some (.row false 1 [[.slc 1 0 ns.length none]]), some (.row false 5 (x.2.map Sp.cells))]⟩

abbrev tRestF : List (FuncId × RT) := [(34, restT)]
theorem okRestF : CtxOK S0 (ctxU S0 tRestF uAll) := ctxU_ok ⟨restT_ok, trivial⟩ ⟨cloneSp_ok, trivial⟩ mixed

theorem intC_eq (n : Int) : intC n = [.int .i64 n] := rfl

set_option maxRecDepth 100000 in
theorem restF_ok (l : List Sp) (ns : List V4) (ids : List Int) (hl : l.length ≤ 1048576) (hn : ns.length ≤ 1048576) (hd : ids.length ≤ 1048576) : CallA1 S0 17 [.slc 0 0 l.length none, .slc 1 0 ns.length none, .slc 2 0 ids.length none] [some (.row true 5 (l.map Sp.cells)), some (.row true 4 (ns.map V4.cells)), some (.row true 1 (ids.map intC))]
    fun r m => r = .slc 3 0 l.length none ∧ m = [some (.row true 5 (l.map Sp.cells)), some (.row true 4 (ns.map V4.cells)), some (.row true 1 (ids.map intC)), some (.row false 5 ((restS l ns ids).map Sp.cells))] := by
  refine CallA1.fin ?_
  refine fun_sound okRestF Tryd.func17 c17 ?_
  unfold wpF F17
  simp only [AH.SD, AH.wpOp, AOp.call?, AOp.next?, bstep, AOp.map, Opd.ev, tget, argTm, evs, AV.cells, St.eff, St.put, applyWr, mset, terase, pureE, unAV, intOp, binAV, fill, mget, AH.rowAt, AH.part, retQ, rvs, retV, AH.splice, AH.sliceElems, AH.bytesOf, AH.strOp, AH.bound, AH.addLog, AH.missQ, AH.minmaxAV, AH.wpOpD, AH.readOf, AH.mapAt, AH.iterAt, Nat.reduceBEq, Nat.reduceAdd, Nat.reduceLT, ↓reduceIte, Nat.reduceEqDiff, Nat.reduceLeDiff, Nat.reduceSub, Nat.reduceMul, Int.reduceSub, Int.reduceToNat, Int.reduceBEq, Int.reduceBNe, Int.reduceLT, Int.reduceGT, Int.reduceLE, Int.reduceGE, Int.reduceNeg, Int.reduceAdd, cloneSp_eq, hl]
  repeat (refine ⟨by first | rfl | decide | omega | (simp only [List.length_map, and_true]; omega) | (simp only [List.length_map, List.length_set, and_true]; omega), ?_⟩)
  obtain ⟨k, hk, hk1, hk2, hk3⟩ : ∃ k : Nat, (if (ns.length : Int) < ids.length then (ns.length : Int) else ids.length) = k ∧ k ≤ ns.length ∧ k ≤ ids.length ∧ (k = ns.length ∨ k = ids.length) := by
    by_cases h : ns.length < ids.length
    · exact ⟨ns.length, by rw [if_pos (by omega)], by omega, by omega, .inl rfl⟩
    · exact ⟨ids.length, by rw [if_neg (by omega)], by omega, by omega, .inr rfl⟩
  simp only [AH.SD, AH.wpOp, AOp.call?, AOp.next?, bstep, AOp.map, Opd.ev, tget, argTm, evs, AV.cells, St.eff, St.put, applyWr, mset, terase, pureE, unAV, intOp, binAV, fill, mget, AH.rowAt, AH.part, retQ, rvs, retV, AH.splice, AH.sliceElems, AH.bytesOf, AH.strOp, AH.bound, AH.addLog, AH.missQ, AH.minmaxAV, AH.wpOpD, AH.readOf, AH.mapAt, AH.iterAt, Nat.reduceBEq, Nat.reduceAdd, Nat.reduceLT, ↓reduceIte, Nat.reduceEqDiff, Nat.reduceLeDiff, Nat.reduceSub, Nat.reduceMul, Int.reduceSub, Int.reduceToNat, Int.reduceBEq, Int.reduceBNe, Int.reduceLT, Int.reduceGT, Int.reduceLE, Int.reduceGE, Int.reduceNeg, Int.reduceAdd, hk, Nat.sub_zero]
  refine loop_do [0, 1, 2, 3, 4] [20, 19, 18, 4, 0] [] (α := Nat × List Sp) (fun x => k - x.1) (restSt l ns ids k) (fun x => x.1 ≤ k ∧ x.2.length = l.length ∧ restS l ns ids = restS x.2 (ns.drop x.1) (ids.drop x.1)) (0, l)
    ⟨Nat.zero_le _, rfl, rfl⟩ (by simp only [AH.SD, AH.wpOp, AOp.call?, AOp.next?, bstep, AOp.map, Opd.ev, tget, argTm, evs, AV.cells, St.eff, St.put, applyWr, mset, terase, pureE, unAV, intOp, binAV, fill, mget, AH.rowAt, AH.part, retQ, rvs, retV, AH.splice, AH.sliceElems, AH.bytesOf, AH.strOp, AH.bound, AH.addLog, AH.missQ, AH.minmaxAV, AH.wpOpD, AH.readOf, AH.mapAt, AH.iterAt, Nat.reduceBEq, Nat.reduceAdd, Nat.reduceLT, ↓reduceIte, Nat.reduceEqDiff, Nat.reduceLeDiff, Nat.reduceSub, Nat.reduceMul, Int.reduceSub, Int.reduceToNat, Int.reduceBEq, Int.reduceBNe, Int.reduceLT, Int.reduceGT, Int.reduceLE, Int.reduceGE, Int.reduceNeg, Int.reduceAdd, AH.PD, heads, distN, AH.inN, posN, packM, packB, packTm, liveB, AV.inB, AV.insB, AV.ren, AV.rens, Blk.ren, Blk.inB, vstep, tput, restSt]) ?_
  rintro X ⟨i, l'⟩ ⟨hi, hl', hx⟩ ih
  simp only at hi hl' hx
  simp only [AH.SD, AH.wpOp, AOp.call?, AOp.next?, bstep, AOp.map, Opd.ev, tget, argTm, evs, AV.cells, St.eff, St.put, applyWr, mset, terase, pureE, unAV, intOp, binAV, fill, mget, AH.rowAt, AH.part, retQ, rvs, retV, AH.splice, AH.sliceElems, AH.bytesOf, AH.strOp, AH.bound, AH.addLog, AH.missQ, AH.minmaxAV, AH.wpOpD, AH.readOf, AH.mapAt, AH.iterAt, Nat.reduceBEq, Nat.reduceAdd, Nat.reduceLT, ↓reduceIte, Nat.reduceEqDiff, Nat.reduceLeDiff, Nat.reduceSub, Nat.reduceMul, Int.reduceSub, Int.reduceToNat, Int.reduceBEq, Int.reduceBNe, Int.reduceLT, Int.reduceGT, Int.reduceLE, Int.reduceGE, Int.reduceNeg, Int.reduceAdd, restSt]
  refine ⟨fun hlt => ?_, fun hlt => ?_⟩
  · have hil := lt_of_dec hlt
    have hin : i < ns.length := by omega
    have hid : i < ids.length := by omega
    rw [List.drop_eq_getElem_cons hin, List.drop_eq_getElem_cons hid, restS] at hx
    have hw := wrapS (i := i) (by omega)
    simp only [AH.SD, AH.wpOp, AOp.call?, AOp.next?, bstep, AOp.map, Opd.ev, tget, argTm, evs, AV.cells, St.eff, St.put, applyWr, mset, terase, pureE, unAV, intOp, binAV, fill, mget, AH.rowAt, AH.part, retQ, rvs, retV, AH.splice, AH.sliceElems, AH.bytesOf, AH.strOp, AH.bound, AH.addLog, AH.missQ, AH.minmaxAV, AH.wpOpD, AH.readOf, AH.mapAt, AH.iterAt, Nat.reduceBEq, Nat.reduceAdd, Nat.reduceLT, ↓reduceIte, Nat.reduceEqDiff, Nat.reduceLeDiff, Nat.reduceSub, Nat.reduceMul, Int.reduceSub, Int.reduceToNat, Int.reduceBEq, Int.reduceBNe, Int.reduceLT, Int.reduceGT, Int.reduceLE, Int.reduceGE, Int.reduceNeg, Int.reduceAdd, getD_enc, hid, intC_eq]
    repeat (refine ⟨by first | rfl | decide | omega | (simp only [List.length_map, and_true]; omega) | (simp only [List.length_map, List.length_set, and_true]; omega), ?_⟩)
    rw [← hl']
    refine (indexFunc_ok (S := S0) (m := restM l l' ns ids i ids[i]) mixed Tryd.func39 c39 rfl (by simp) (Nat.le_refl 5) (by omega) (isAt l' ns[i] ids[i]) fun j hj => ?_).mono ?_
    · have := rest1_ok l l' ns ids i ids[i] l'[j] hin
      have e : isAt l' ns[i] ids[i] j = (fit l'[j].v ns[i] && l'[j].id == ids[i]) := by
        simp only [isAt, List.getD_eq_getElem?_getD, List.getElem?_eq_getElem hj, Option.getD_some]
      rw [e, Nat.zero_add, getD_enc hj]
      exact this
    rintro r m' ⟨rfl, rfl⟩
    rcases findI_cases (isAt l' ns[i] ids[i]) l'.length with ⟨hb, hno⟩ | ⟨q, hb, hq, hyes, _⟩
    · have e : restOne l' ns[i] ids[i] = l' := by
        unfold restOne
        rw [List.find?_eq_none.2 fun x hx => by simpa using hno x (by simpa using hx)]
      rw [e] at hx
      simp only [AH.SD, AH.wpOp, AOp.call?, AOp.next?, bstep, AOp.map, Opd.ev, tget, argTm, evs, AV.cells, St.eff, St.put, applyWr, mset, terase, pureE, unAV, intOp, binAV, fill, mget, AH.rowAt, AH.part, retQ, rvs, retV, AH.splice, AH.sliceElems, AH.bytesOf, AH.strOp, AH.bound, AH.addLog, AH.missQ, AH.minmaxAV, AH.wpOpD, AH.readOf, AH.mapAt, AH.iterAt, Nat.reduceBEq, Nat.reduceAdd, Nat.reduceLT, ↓reduceIte, Nat.reduceEqDiff, Nat.reduceLeDiff, Nat.reduceSub, Nat.reduceMul, Int.reduceSub, Int.reduceToNat, Int.reduceBEq, Int.reduceBNe, Int.reduceLT, Int.reduceGT, Int.reduceLE, Int.reduceGE, Int.reduceNeg, Int.reduceAdd, hb, restM, hw]
      refine gc_auto [0, 1, 2, 3, 4] [20, 19, 18, 4, 0] [] ?_
      simp only [AH.SD, AH.wpOp, AOp.call?, AOp.next?, bstep, AOp.map, Opd.ev, tget, argTm, evs, AV.cells, St.eff, St.put, applyWr, mset, terase, pureE, unAV, intOp, binAV, fill, mget, AH.rowAt, AH.part, retQ, rvs, retV, AH.splice, AH.sliceElems, AH.bytesOf, AH.strOp, AH.bound, AH.addLog, AH.missQ, AH.minmaxAV, AH.wpOpD, AH.readOf, AH.mapAt, AH.iterAt, Nat.reduceBEq, Nat.reduceAdd, Nat.reduceLT, ↓reduceIte, Nat.reduceEqDiff, Nat.reduceLeDiff, Nat.reduceSub, Nat.reduceMul, Int.reduceSub, Int.reduceToNat, Int.reduceBEq, Int.reduceBNe, Int.reduceLT, Int.reduceGT, Int.reduceLE, Int.reduceGE, Int.reduceNeg, Int.reduceAdd, AH.PD, heads, distN, AH.inN, posN, packM, packB, packTm, liveB, AV.inB, AV.insB, AV.ren, AV.rens, Blk.ren, Blk.inB, vstep, tput]
      have done := ih (i + 1, l') ⟨hil, hl', hx⟩ (by simp only; omega)
      simp only [restSt, List.map_append, List.map_cons, List.map_nil, List.length_append, List.length_cons, List.length_nil, Nat.zero_add, ← hl'] at done
      exact done
    · have e : restOne l' ns[i] ids[i] = putAt l' ns[i] q := by
        have h2 : (List.range l'.length).find? (isAt l' ns[i] ids[i]) = some q := by
          have := hb
          unfold findI at this
          split at this
          · rename_i z hz
            rw [hz]
            simp only [Int.natCast_inj] at this
            rw [this]
          · omega
        simp only [restOne, h2]
      have hdq : l'.getD q ⟨0, .zero⟩ = l'[q] := by rw [List.getD_eq_getElem?_getD, List.getElem?_eq_getElem hq]; rfl
      have e2 : (l'.map Sp.cells).set q [.int .i64 l'[q].id, .int .i64 (subR l'[q].v ns[i]).a, .int .i64 (subR l'[q].v ns[i]).b, .int .i64 (subR l'[q].v ns[i]).c, .int .i64 (subR l'[q].v ns[i]).d] = (putAt l' ns[i] q).map Sp.cells := by
        rw [putAt, List.map_set, hdq]; rfl
      have hge : decide ((q : Int) ≥ 0) = true := by simp
      rw [e] at hx
      simp only [AH.SD, AH.wpOp, AOp.call?, AOp.next?, bstep, AOp.map, Opd.ev, tget, argTm, evs, AV.cells, St.eff, St.put, applyWr, mset, terase, pureE, unAV, intOp, binAV, fill, mget, AH.rowAt, AH.part, retQ, rvs, retV, AH.splice, AH.sliceElems, AH.bytesOf, AH.strOp, AH.bound, AH.addLog, AH.missQ, AH.minmaxAV, AH.wpOpD, AH.readOf, AH.mapAt, AH.iterAt, Nat.reduceBEq, Nat.reduceAdd, Nat.reduceLT, ↓reduceIte, Nat.reduceEqDiff, Nat.reduceLeDiff, Nat.reduceSub, Nat.reduceMul, Int.reduceSub, Int.reduceToNat, Int.reduceBEq, Int.reduceBNe, Int.reduceLT, Int.reduceGT, Int.reduceLE, Int.reduceGE, Int.reduceNeg, Int.reduceAdd, hb, restM, hge, getD_enc, hq, hin, Sp.cells_eq, V4.cells_eq, restT_eq, restA, V4.eta]
      repeat (refine ⟨by first | rfl | decide | omega | (simp only [List.length_map, and_true]; omega) | (simp only [List.length_map, List.length_set, and_true]; omega), ?_⟩)
      simp only [AH.SD, AH.wpOp, AOp.call?, AOp.next?, bstep, AOp.map, Opd.ev, tget, argTm, evs, AV.cells, St.eff, St.put, applyWr, mset, terase, pureE, unAV, intOp, binAV, fill, mget, AH.rowAt, AH.part, retQ, rvs, retV, AH.splice, AH.sliceElems, AH.bytesOf, AH.strOp, AH.bound, AH.addLog, AH.missQ, AH.minmaxAV, AH.wpOpD, AH.readOf, AH.mapAt, AH.iterAt, Nat.reduceBEq, Nat.reduceAdd, Nat.reduceLT, ↓reduceIte, Nat.reduceEqDiff, Nat.reduceLeDiff, Nat.reduceSub, Nat.reduceMul, Int.reduceSub, Int.reduceToNat, Int.reduceBEq, Int.reduceBNe, Int.reduceLT, Int.reduceGT, Int.reduceLE, Int.reduceGE, Int.reduceNeg, Int.reduceAdd, hw]
      refine gc_auto [0, 1, 2, 3, 4] [20, 19, 18, 4, 0] [] ?_
      simp only [AH.SD, AH.wpOp, AOp.call?, AOp.next?, bstep, AOp.map, Opd.ev, tget, argTm, evs, AV.cells, St.eff, St.put, applyWr, mset, terase, pureE, unAV, intOp, binAV, fill, mget, AH.rowAt, AH.part, retQ, rvs, retV, AH.splice, AH.sliceElems, AH.bytesOf, AH.strOp, AH.bound, AH.addLog, AH.missQ, AH.minmaxAV, AH.wpOpD, AH.readOf, AH.mapAt, AH.iterAt, Nat.reduceBEq, Nat.reduceAdd, Nat.reduceLT, ↓reduceIte, Nat.reduceEqDiff, Nat.reduceLeDiff, Nat.reduceSub, Nat.reduceMul, Int.reduceSub, Int.reduceToNat, Int.reduceBEq, Int.reduceBNe, Int.reduceLT, Int.reduceGT, Int.reduceLE, Int.reduceGE, Int.reduceNeg, Int.reduceAdd, AH.PD, heads, distN, AH.inN, posN, packM, packB, packTm, liveB, AV.inB, AV.insB, AV.ren, AV.rens, Blk.ren, Blk.inB, vstep, tput, e2]
      have done := ih (i + 1, putAt l' ns[i] q) ⟨hil, by simp [putAt, hl'], hx⟩ (by simp only; omega)
      simp only [restSt, List.map_append, List.map_cons, List.map_nil, List.length_append, List.length_cons, List.length_nil, Nat.zero_add, ← hl'] at done
      exact done
  · have hil := ge_of_dec hlt
    obtain rfl : i = k := by omega
    have hend : restS l' (ns.drop i) (ids.drop i) = l' := by
      rcases hk3 with rfl | rfl
      · rw [List.drop_length]; cases ids.drop ns.length <;> rfl
      · rw [List.drop_length]; cases ns.drop ids.length <;> rfl
    rw [hend] at hx
    simp only [AH.SD, AH.wpOp, AOp.call?, AOp.next?, bstep, AOp.map, Opd.ev, tget, argTm, evs, AV.cells, St.eff, St.put, applyWr, mset, terase, pureE, unAV, intOp, binAV, fill, mget, AH.rowAt, AH.part, retQ, rvs, retV, AH.splice, AH.sliceElems, AH.bytesOf, AH.strOp, AH.bound, AH.addLog, AH.missQ, AH.minmaxAV, AH.wpOpD, AH.readOf, AH.mapAt, AH.iterAt, Nat.reduceBEq, Nat.reduceAdd, Nat.reduceLT, ↓reduceIte, Nat.reduceEqDiff, Nat.reduceLeDiff, Nat.reduceSub, Nat.reduceMul, Int.reduceSub, Int.reduceToNat, Int.reduceBEq, Int.reduceBNe, Int.reduceLT, Int.reduceGT, Int.reduceLE, Int.reduceGE, Int.reduceNeg, Int.reduceAdd]
    refine ⟨[0, 1, 2, 4], [], ?_⟩
    simp only [AH.SD, AH.wpOp, AOp.call?, AOp.next?, bstep, AOp.map, Opd.ev, tget, argTm, evs, AV.cells, St.eff, St.put, applyWr, mset, terase, pureE, unAV, intOp, binAV, fill, mget, AH.rowAt, AH.part, retQ, rvs, retV, AH.splice, AH.sliceElems, AH.bytesOf, AH.strOp, AH.bound, AH.addLog, AH.missQ, AH.minmaxAV, AH.wpOpD, AH.readOf, AH.mapAt, AH.iterAt, Nat.reduceBEq, Nat.reduceAdd, Nat.reduceLT, ↓reduceIte, Nat.reduceEqDiff, Nat.reduceLeDiff, Nat.reduceSub, Nat.reduceMul, Int.reduceSub, Int.reduceToNat, Int.reduceBEq, Int.reduceBNe, Int.reduceLT, Int.reduceGT, Int.reduceLE, Int.reduceGE, Int.reduceNeg, Int.reduceAdd, AH.PD, heads, distN, AH.inN, posN, packM, packB, packTm, liveB, AV.inB, AV.insB, AV.ren, AV.rens, Blk.ren, Blk.inB, vstep, tput, hx]

end Go.Proofs.YtdjcpmdjodhfeaaDoor.A16
