import Derived.Test.YtdjcpmdjodhfeaaDoorFitA16
open Go AH
set_option linter.unusedSimpArgs false
set_option maxRecDepth 100000
namespace Go.Proofs.YtdjcpmdjodhfeaaDoor.A16

theorem cloneSp_ok : CallF S0 33 (cloneU 5) := clone_ok (bytes := 40) (z := [.int .i64 0, .int .i64 0, .int .i64 0, .int .i64 0, .int .i64 0]) errs0 mixed Tryd.func33 c33 rfl (by decide) (by decide)

theorem cloneSp_eq {l : List Sp} {m : Mem} {id : Nat} {cap : Option Nat} (hM : rowE (mget m) id = some (5, l.map Sp.cells)) (hl : l.length ≤ 1048576) :
    cloneU 5 [.slc id 0 l.length cap] m = some (.slc m.length 0 l.length none, m ++ [some (.row false 5 (l.map Sp.cells))]) := by
  have h1 : (l.map Sp.cells).take l.length = l.map Sp.cells := take_all
  have h2 : (l.map Sp.cells).all (AV.lts 0) = true := cSp.all_flat l
  simp only [cloneU, hM, List.drop_zero, h1, h2, hl, beq_self_eq_true, List.length_map, Nat.zero_add, Nat.le_refl, decide_true, Bool.and_self, cond_true]

instance : FlatE Sp.cells := ⟨cSp.flat⟩

/-- One more thing where it fits best. -/
def putB (l : List Sp) (need : V4) : List Sp := l.set (bestI l need).toNat ⟨(l.getD (bestI l need).toNat ⟨0, .zero⟩).id, subR (l.getD (bestI l need).toNat ⟨0, .zero⟩).v need⟩
def idB (l : List Sp) (need : V4) : Int := (l.getD (bestI l need).toNat ⟨0, .zero⟩).id

theorem bestI_range (l : List Sp) (need : V4) : bestI l need = -1 ∨ ∃ k : Nat, bestI l need = k ∧ k < l.length := by
  rcases bestF_range l need l.length with h | ⟨h0, h1⟩
  · exact .inl h
  · obtain ⟨k, hk⟩ := Int.eq_ofNat_of_zero_le h0
    exact .inr ⟨k, hk, by omega⟩

theorem putB_len (l : List Sp) (need : V4) : (putB l need).length = l.length := by simp [putB]

def intC (n : Int) : List AV := [.int .i64 n]
def decIC : List AV → Option Int
  | [.int .i64 n] => some n
  | _ => none
theorem decIC_ok (l : List AV) (n : Int) (h : decIC l = some n) : l = intC n := by
  unfold decIC at h
  split at h
  · simp only [Option.some.injEq] at h; subst h; rfl
  · cases h
def cInt : Cod Int := ⟨intC, decIC, decIC_ok, fun _ => rfl, fun _ => rfl⟩
instance : FlatE intC := ⟨fun _ => rfl⟩

/-- What is still to do, behind i of them with these places. -/
def allR (l : List Sp) : List V4 → Nat → List Int → List Int × Int
  | [], _, out => (out, -1)
  | n :: ns, i, out => bif bestI l n == -1 then ([], i) else allR (putB l n) ns (i + 1) (out ++ [idB l n])

abbrev tAll : List (FuncId × RT) := [(34, restT), (32, bestT)]
abbrev uAll : List (FuncId × UT) := [(33, cloneU 5)]
theorem okAll : CtxOK S0 (ctxU S0 tAll uAll) := ctxU_ok ⟨restT_ok, bestT_ok, trivial⟩ ⟨cloneSp_ok, trivial⟩ mixed

theorem V4.cells_eq (v : V4) : v.cells = [.int .i64 v.a, .int .i64 v.b, .int .i64 v.c, .int .i64 v.d] := rfl
theorem Sp.cells_eq (s : Sp) : s.cells = [.int .i64 s.id, .int .i64 s.v.a, .int .i64 s.v.b, .int .i64 s.v.c, .int .i64 s.v.d] := rfl

def allSt (l : List Sp) (ns : List V4) (x : Nat × List Sp × List Int) : St := ⟨[(14, .int .i64 x.1), (13, .int .i64 ns.length), (12, .slc 1 0 ns.length none), (6, .slc 3 0 x.2.2.length none), (0, .slc 2 0 l.length none)],
  [some (.row true 5 (l.map Sp.cells)), some (.row true 4 (ns.map V4.cells)), some (.row false 5 (x.2.1.map Sp.cells)), some (.row false 1 (x.2.2.map intC))]⟩

theorem putB_at {l : List Sp} {n : V4} {k : Nat} (hb : bestI l n = k) (hk : k < l.length) : (l.map Sp.cells).set k [.int .i64 l[k].id, .int .i64 (subR l[k].v n).a, .int .i64 (subR l[k].v n).b, .int .i64 (subR l[k].v n).c, .int .i64 (subR l[k].v n).d] = (putB l n).map Sp.cells ∧ idB l n = l[k].id := by
  have hd : l.getD k ⟨0, .zero⟩ = l[k] := by rw [List.getD_eq_getElem?_getD, List.getElem?_eq_getElem hk]; rfl
  refine ⟨?_, by rw [idB, hb, Int.toNat_natCast, hd]⟩
  rw [putB, List.map_set, hb, Int.toNat_natCast, hd]; rfl

set_option maxRecDepth 100000 in
theorem all_ok (l : List Sp) (ns : List V4) (hl : l.length ≤ 1048576) (hn : ns.length ≤ 1048576) : CallA1 S0 11 [.slc 0 0 l.length none, .slc 1 0 ns.length none] [some (.row true 5 (l.map Sp.cells)), some (.row true 4 (ns.map V4.cells))]
    fun r m => r = .tup [.slc 2 0 (allR l ns 0 []).1.length none, .int .i64 (allR l ns 0 []).2] ∧ m = [some (.row true 5 (l.map Sp.cells)), some (.row true 4 (ns.map V4.cells)), some (.row false 1 ((allR l ns 0 []).1.map intC))] := by
  refine CallA1.fin ?_
  refine fun_sound okAll Tryd.func11 c11 ?_
  unfold wpF F11
  simp only [AH.SD, AH.wpOp, AOp.call?, AOp.next?, bstep, AOp.map, Opd.ev, tget, argTm, evs, AV.cells, St.eff, St.put, applyWr, mset, terase, pureE, unAV, intOp, binAV, fill, mget, AH.rowAt, AH.part, retQ, rvs, retV, AH.splice, AH.sliceElems, AH.bytesOf, AH.strOp, AH.bound, AH.addLog, AH.missQ, AH.minmaxAV, AH.wpOpD, AH.readOf, AH.mapAt, AH.iterAt, Nat.reduceBEq, Nat.reduceAdd, Nat.reduceLT, ↓reduceIte, Nat.reduceEqDiff, Nat.reduceLeDiff, Nat.reduceSub, Nat.reduceMul, Int.reduceSub, Int.reduceToNat, Int.reduceBEq, Int.reduceBNe, Int.reduceLT, Int.reduceGT, Int.reduceLE, Int.reduceGE, Int.reduceNeg, Int.reduceAdd, cloneSp_eq, hl]
  refine loop_do [0, 1, 2] [14, 13, 12, 6, 0] [.tm 6 1] (α := Nat × List Sp × List Int) (fun x => ns.length - x.1) (allSt l ns) (fun x => x.1 ≤ ns.length ∧ x.2.1.length = l.length ∧ x.2.2.length = x.1 ∧ allR l ns 0 [] = allR x.2.1 (ns.drop x.1) x.1 x.2.2) (0, l, [])
    ⟨Nat.zero_le _, rfl, rfl, rfl⟩ (by simp only [AH.SD, AH.wpOp, AOp.call?, AOp.next?, bstep, AOp.map, Opd.ev, tget, argTm, evs, AV.cells, St.eff, St.put, applyWr, mset, terase, pureE, unAV, intOp, binAV, fill, mget, AH.rowAt, AH.part, retQ, rvs, retV, AH.splice, AH.sliceElems, AH.bytesOf, AH.strOp, AH.bound, AH.addLog, AH.missQ, AH.minmaxAV, AH.wpOpD, AH.readOf, AH.mapAt, AH.iterAt, Nat.reduceBEq, Nat.reduceAdd, Nat.reduceLT, ↓reduceIte, Nat.reduceEqDiff, Nat.reduceLeDiff, Nat.reduceSub, Nat.reduceMul, Int.reduceSub, Int.reduceToNat, Int.reduceBEq, Int.reduceBNe, Int.reduceLT, Int.reduceGT, Int.reduceLE, Int.reduceGE, Int.reduceNeg, Int.reduceAdd, AH.PD, heads, distN, AH.inN, posN, packM, packB, packTm, liveB, AV.inB, AV.insB, AV.ren, AV.rens, Blk.ren, Blk.inB, vstep, tput, allSt]) ?_
  rintro X ⟨i, l', out⟩ ⟨hi, hl', hout, hx⟩ ih
  simp only at hi hl' hout hx
  simp only [AH.SD, AH.wpOp, AOp.call?, AOp.next?, bstep, AOp.map, Opd.ev, tget, argTm, evs, AV.cells, St.eff, St.put, applyWr, mset, terase, pureE, unAV, intOp, binAV, fill, mget, AH.rowAt, AH.part, retQ, rvs, retV, AH.splice, AH.sliceElems, AH.bytesOf, AH.strOp, AH.bound, AH.addLog, AH.missQ, AH.minmaxAV, AH.wpOpD, AH.readOf, AH.mapAt, AH.iterAt, Nat.reduceBEq, Nat.reduceAdd, Nat.reduceLT, ↓reduceIte, Nat.reduceEqDiff, Nat.reduceLeDiff, Nat.reduceSub, Nat.reduceMul, Int.reduceSub, Int.reduceToNat, Int.reduceBEq, Int.reduceBNe, Int.reduceLT, Int.reduceGT, Int.reduceLE, Int.reduceGE, Int.reduceNeg, Int.reduceAdd, allSt]
  refine ⟨fun hlt => ?_, fun hlt => ?_⟩
  · have hil := lt_of_dec hlt
    rw [List.drop_eq_getElem_cons hil, allR] at hx
    have hll : l'.length ≤ 1048576 := by omega
    have hw := wrapS (i := i) (by omega)
    simp only [AH.SD, AH.wpOp, AOp.call?, AOp.next?, bstep, AOp.map, Opd.ev, tget, argTm, evs, AV.cells, St.eff, St.put, applyWr, mset, terase, pureE, unAV, intOp, binAV, fill, mget, AH.rowAt, AH.part, retQ, rvs, retV, AH.splice, AH.sliceElems, AH.bytesOf, AH.strOp, AH.bound, AH.addLog, AH.missQ, AH.minmaxAV, AH.wpOpD, AH.readOf, AH.mapAt, AH.iterAt, Nat.reduceBEq, Nat.reduceAdd, Nat.reduceLT, ↓reduceIte, Nat.reduceEqDiff, Nat.reduceLeDiff, Nat.reduceSub, Nat.reduceMul, Int.reduceSub, Int.reduceToNat, Int.reduceBEq, Int.reduceBNe, Int.reduceLT, Int.reduceGT, Int.reduceLE, Int.reduceGE, Int.reduceNeg, Int.reduceAdd, getD_enc, hil, V4.cells_eq]
    repeat (refine ⟨by first | rfl | decide | omega | (simp only [List.length_map, and_true]; omega) | (simp only [List.length_map, List.length_set, and_true]; omega), ?_⟩)
    rw [← hl']
    simp only [AH.SD, AH.wpOp, AOp.call?, AOp.next?, bstep, AOp.map, Opd.ev, tget, argTm, evs, AV.cells, St.eff, St.put, applyWr, mset, terase, pureE, unAV, intOp, binAV, fill, mget, AH.rowAt, AH.part, retQ, rvs, retV, AH.splice, AH.sliceElems, AH.bytesOf, AH.strOp, AH.bound, AH.addLog, AH.missQ, AH.minmaxAV, AH.wpOpD, AH.readOf, AH.mapAt, AH.iterAt, Nat.reduceBEq, Nat.reduceAdd, Nat.reduceLT, ↓reduceIte, Nat.reduceEqDiff, Nat.reduceLeDiff, Nat.reduceSub, Nat.reduceMul, Int.reduceSub, Int.reduceToNat, Int.reduceBEq, Int.reduceBNe, Int.reduceLT, Int.reduceGT, Int.reduceLE, Int.reduceGE, Int.reduceNeg, Int.reduceAdd, bestT_eq, hll, V4.eta]
    rcases bestI_range l' ns[i] with hb | ⟨k, hb, hk⟩
    · rw [hb] at hx
      simp only [AH.SD, AH.wpOp, AOp.call?, AOp.next?, bstep, AOp.map, Opd.ev, tget, argTm, evs, AV.cells, St.eff, St.put, applyWr, mset, terase, pureE, unAV, intOp, binAV, fill, mget, AH.rowAt, AH.part, retQ, rvs, retV, AH.splice, AH.sliceElems, AH.bytesOf, AH.strOp, AH.bound, AH.addLog, AH.missQ, AH.minmaxAV, AH.wpOpD, AH.readOf, AH.mapAt, AH.iterAt, Nat.reduceBEq, Nat.reduceAdd, Nat.reduceLT, ↓reduceIte, Nat.reduceEqDiff, Nat.reduceLeDiff, Nat.reduceSub, Nat.reduceMul, Int.reduceSub, Int.reduceToNat, Int.reduceBEq, Int.reduceBNe, Int.reduceLT, Int.reduceGT, Int.reduceLE, Int.reduceGE, Int.reduceNeg, Int.reduceAdd, hb]
      refine ⟨[0, 1], [.tup 0 0 1], ?_⟩
      simp only [AH.SD, AH.wpOp, AOp.call?, AOp.next?, bstep, AOp.map, Opd.ev, tget, argTm, evs, AV.cells, St.eff, St.put, applyWr, mset, terase, pureE, unAV, intOp, binAV, fill, mget, AH.rowAt, AH.part, retQ, rvs, retV, AH.splice, AH.sliceElems, AH.bytesOf, AH.strOp, AH.bound, AH.addLog, AH.missQ, AH.minmaxAV, AH.wpOpD, AH.readOf, AH.mapAt, AH.iterAt, Nat.reduceBEq, Nat.reduceAdd, Nat.reduceLT, ↓reduceIte, Nat.reduceEqDiff, Nat.reduceLeDiff, Nat.reduceSub, Nat.reduceMul, Int.reduceSub, Int.reduceToNat, Int.reduceBEq, Int.reduceBNe, Int.reduceLT, Int.reduceGT, Int.reduceLE, Int.reduceGE, Int.reduceNeg, Int.reduceAdd, AH.PD, heads, distN, AH.inN, posN, packM, packB, packTm, liveB, AV.inB, AV.insB, AV.ren, AV.rens, Blk.ren, Blk.inB, vstep, tput, hx]
    · obtain ⟨h1, h2⟩ := putB_at hb hk
      have hk1 : ((k : Int) == -1) = false := by simp
      rw [hb, hk1, cond_false] at hx
      simp only [AH.SD, AH.wpOp, AOp.call?, AOp.next?, bstep, AOp.map, Opd.ev, tget, argTm, evs, AV.cells, St.eff, St.put, applyWr, mset, terase, pureE, unAV, intOp, binAV, fill, mget, AH.rowAt, AH.part, retQ, rvs, retV, AH.splice, AH.sliceElems, AH.bytesOf, AH.strOp, AH.bound, AH.addLog, AH.missQ, AH.minmaxAV, AH.wpOpD, AH.readOf, AH.mapAt, AH.iterAt, Nat.reduceBEq, Nat.reduceAdd, Nat.reduceLT, ↓reduceIte, Nat.reduceEqDiff, Nat.reduceLeDiff, Nat.reduceSub, Nat.reduceMul, Int.reduceSub, Int.reduceToNat, Int.reduceBEq, Int.reduceBNe, Int.reduceLT, Int.reduceGT, Int.reduceLE, Int.reduceGE, Int.reduceNeg, Int.reduceAdd, hb, hk1, getD_enc, hk, Sp.cells_eq, restT_eq, restA, V4.eta]
      repeat (refine ⟨by first | rfl | decide | omega | (simp only [List.length_map, and_true]; omega) | (simp only [List.length_map, List.length_set, and_true]; omega), ?_⟩)
      simp only [AH.SD, AH.wpOp, AOp.call?, AOp.next?, bstep, AOp.map, Opd.ev, tget, argTm, evs, AV.cells, St.eff, St.put, applyWr, mset, terase, pureE, unAV, intOp, binAV, fill, mget, AH.rowAt, AH.part, retQ, rvs, retV, AH.splice, AH.sliceElems, AH.bytesOf, AH.strOp, AH.bound, AH.addLog, AH.missQ, AH.minmaxAV, AH.wpOpD, AH.readOf, AH.mapAt, AH.iterAt, Nat.reduceBEq, Nat.reduceAdd, Nat.reduceLT, ↓reduceIte, Nat.reduceEqDiff, Nat.reduceLeDiff, Nat.reduceSub, Nat.reduceMul, Int.reduceSub, Int.reduceToNat, Int.reduceBEq, Int.reduceBNe, Int.reduceLT, Int.reduceGT, Int.reduceLE, Int.reduceGE, Int.reduceNeg, Int.reduceAdd, getD_set_self, hk, List.length_map, take_all, hw]
      repeat (refine ⟨by first | rfl | decide | omega | (simp only [List.length_map, and_true]; omega) | (simp only [List.length_map, List.length_set, and_true]; omega), ?_⟩)
      refine gc_auto [0, 1, 2, 6] [14, 13, 12, 6, 0] [] ?_
      simp only [AH.SD, AH.wpOp, AOp.call?, AOp.next?, bstep, AOp.map, Opd.ev, tget, argTm, evs, AV.cells, St.eff, St.put, applyWr, mset, terase, pureE, unAV, intOp, binAV, fill, mget, AH.rowAt, AH.part, retQ, rvs, retV, AH.splice, AH.sliceElems, AH.bytesOf, AH.strOp, AH.bound, AH.addLog, AH.missQ, AH.minmaxAV, AH.wpOpD, AH.readOf, AH.mapAt, AH.iterAt, Nat.reduceBEq, Nat.reduceAdd, Nat.reduceLT, ↓reduceIte, Nat.reduceEqDiff, Nat.reduceLeDiff, Nat.reduceSub, Nat.reduceMul, Int.reduceSub, Int.reduceToNat, Int.reduceBEq, Int.reduceBNe, Int.reduceLT, Int.reduceGT, Int.reduceLE, Int.reduceGE, Int.reduceNeg, Int.reduceAdd, AH.PD, heads, distN, AH.inN, posN, packM, packB, packTm, liveB, AV.inB, AV.insB, AV.ren, AV.rens, Blk.ren, Blk.inB, vstep, tput, h1]
      have done := ih (i + 1, putB l' ns[i], out ++ [idB l' ns[i]]) ⟨hil, by simp only [putB_len, hl'], by simp [hout], hx⟩ (by simp only; omega)
      simp only [allSt, List.map_append, List.map_cons, List.map_nil, List.length_append, List.length_cons, List.length_nil, Nat.zero_add, h2, ← hl'] at done
      exact done
  · have hil := ge_of_dec hlt
    obtain rfl : i = ns.length := by omega
    rw [List.drop_length, allR] at hx
    simp only [AH.SD, AH.wpOp, AOp.call?, AOp.next?, bstep, AOp.map, Opd.ev, tget, argTm, evs, AV.cells, St.eff, St.put, applyWr, mset, terase, pureE, unAV, intOp, binAV, fill, mget, AH.rowAt, AH.part, retQ, rvs, retV, AH.splice, AH.sliceElems, AH.bytesOf, AH.strOp, AH.bound, AH.addLog, AH.missQ, AH.minmaxAV, AH.wpOpD, AH.readOf, AH.mapAt, AH.iterAt, Nat.reduceBEq, Nat.reduceAdd, Nat.reduceLT, ↓reduceIte, Nat.reduceEqDiff, Nat.reduceLeDiff, Nat.reduceSub, Nat.reduceMul, Int.reduceSub, Int.reduceToNat, Int.reduceBEq, Int.reduceBNe, Int.reduceLT, Int.reduceGT, Int.reduceLE, Int.reduceGE, Int.reduceNeg, Int.reduceAdd]
    refine ⟨[0, 1, 3], [], ?_⟩
    simp only [AH.SD, AH.wpOp, AOp.call?, AOp.next?, bstep, AOp.map, Opd.ev, tget, argTm, evs, AV.cells, St.eff, St.put, applyWr, mset, terase, pureE, unAV, intOp, binAV, fill, mget, AH.rowAt, AH.part, retQ, rvs, retV, AH.splice, AH.sliceElems, AH.bytesOf, AH.strOp, AH.bound, AH.addLog, AH.missQ, AH.minmaxAV, AH.wpOpD, AH.readOf, AH.mapAt, AH.iterAt, Nat.reduceBEq, Nat.reduceAdd, Nat.reduceLT, ↓reduceIte, Nat.reduceEqDiff, Nat.reduceLeDiff, Nat.reduceSub, Nat.reduceMul, Int.reduceSub, Int.reduceToNat, Int.reduceBEq, Int.reduceBNe, Int.reduceLT, Int.reduceGT, Int.reduceLE, Int.reduceGE, Int.reduceNeg, Int.reduceAdd, AH.PD, heads, distN, AH.inN, posN, packM, packB, packTm, liveB, AV.inB, AV.insB, AV.ren, AV.rens, Blk.ren, Blk.inB, vstep, tput, hx]

end Go.Proofs.YtdjcpmdjodhfeaaDoor.A16
