import Derived.Test.YtkbjfhkhbcgkgaaDoorV02B01
open Go AH
set_option linter.unusedSimpArgs false
set_option maxRecDepth 100000
namespace Go.Proofs.YtkbjfhkhbcgkgaaDoor.B01

theorem errA_inB (p : Nat → Bool) (k : Nat) : (errA k).inB p = true := flat_inB (errA_flat k)
theorem errA_ren (ρ : Nat → Nat) (k : Nat) : (errA k).ren ρ = errA k := flat_ren (errA_flat k)

theorem smF_rep (f : V4 → Int) (v : V4) : ∀ k : Nat, smF f (List.replicate k v) = f v * k
  | 0 => by simp [smF]
  | k + 1 => by
    rw [List.replicate_succ, smF, smF_rep f v k, Int.natCast_succ, Int.mul_add, Int.mul_one, Int.add_comm]
theorem okSm_rep {v : V4} {k : Nat} (hv : good v = true) : okSm .zero (List.replicate k v) ↔ v.a * k ≤ 1099511627776 ∧ v.b * k ≤ 1099511627776 ∧ v.c * k ≤ 1099511627776 ∧ v.d * k ≤ 1099511627776 := by
  simp only [okSm, smF_rep, V4.zero, Int.zero_add, List.mem_replicate]
  exact ⟨fun h => h.2, fun h => ⟨fun x hx => hx.2 ▸ hv, h⟩⟩
theorem mul_in {x : Int} (h0 : 0 ≤ x) (h1 : x ≤ 1099511627776) {k : Nat} (hk : k ≤ 16) : 0 ≤ x * k ∧ x * k ≤ 17592186044416 := by
  have hk' : (k : Int) ≤ 16 := by omega
  refine ⟨Int.mul_nonneg h0 (Int.natCast_nonneg k), ?_⟩
  have := Int.mul_le_mul h1 hk' (Int.natCast_nonneg k) (by decide)
  omega
theorem scale_of {v : V4} {k : Nat} (hv : good v = true) (hk : k ≤ 16) : scaleV v k = ⟨v.a * k, v.b * k, v.c * k, v.d * k⟩ := by
  have hg := (goodR_iff v).1 hv
  simp only [inR] at hg
  apply V4.ext <;> (simp only [scaleV]; apply w64_in)
  · have := mul_in hg.1.1 hg.1.2 hk; omega
  · have := mul_in hg.1.1 hg.1.2 hk; omega
  · have := mul_in hg.2.1.1 hg.2.1.2 hk; omega
  · have := mul_in hg.2.1.1 hg.2.1.2 hk; omega
  · have := mul_in hg.2.2.1.1 hg.2.2.1.2 hk; omega
  · have := mul_in hg.2.2.1.1 hg.2.2.1.2 hk; omega
  · have := mul_in hg.2.2.2.1 hg.2.2.2.2 hk; omega
  · have := mul_in hg.2.2.2.1 hg.2.2.2.2 hk; omega
theorem cond_k {k : Nat} (hk : k ≤ 16) : (decide ((k : Int) < 0) || decide ((k : Int) > 16)) = false := by
  rw [decide_eq_false (by omega), decide_eq_false (by omega)]; rfl
theorem scaleK_bad {v : V4} {k : Nat} (hv : good v = false) (hk : k ≤ 16) : scaleK v k = 1 ∧ scaleR v k = .zero := by
  rw [scaleK, scaleR, cond_k hk]
  simp [cond_false, madeK, madeV, hv, Bool.false_and]
theorem scaleK_good {v : V4} {k : Nat} (hv : good v = true) (hk : k ≤ 16) : (okSm .zero (List.replicate k v) ∧ scaleK v k = 0 ∧ scaleR v k = ⟨v.a * k, v.b * k, v.c * k, v.d * k⟩) ∨ (¬ okSm .zero (List.replicate k v) ∧ scaleK v k = 4 ∧ scaleR v k = .zero) := by
  rw [okSm_rep hv, scaleK, scaleR, cond_k hk]
  have hg := (goodR_iff v).1 hv
  simp only [inR] at hg
  have e := goodR_iff (scaleV v k)
  have m1 := mul_in hg.1.1 hg.1.2 hk
  have m2 := mul_in hg.2.1.1 hg.2.1.2 hk
  have m3 := mul_in hg.2.2.1.1 hg.2.2.1.2 hk
  have m4 := mul_in hg.2.2.2.1 hg.2.2.2.2 hk
  cases hs : good (scaleV v k) with
  | true =>
    rw [hs, scale_of hv hk] at e
    simp only [inR] at e
    have := e.mp (by trivial)
    refine .inl ⟨by omega, ?_, ?_⟩
    · simp only [cond_false, madeK, hv, good_zero, hs]; rfl
    · rw [← scale_of hv hk]; simp only [cond_false, madeV, madeK, hv, good_zero, hs]; rfl
  | false =>
    refine .inr ⟨fun h => ?_, ?_, ?_⟩
    · rw [scale_of hv hk] at hs
      have : good ⟨v.a * k, v.b * k, v.c * k, v.d * k⟩ = true := (goodR_iff _).2 (by simp only [inR]; omega)
      rw [hs] at this; cases this
    · simp only [cond_false, madeK, hv, good_zero, hs]; rfl
    · simp only [cond_false, madeV, madeK, hv, good_zero, hs]; rfl
theorem addK_good {a b : V4} (ha : good a = true) (hb : good b = true) : addK a b = 0 ∨ addK a b = 4 := by
  simp only [addK, madeK, ha, hb]
  cases good (addV a b) <;> simp
theorem sumG_good : ∀ (l : List V4) (o : V4) (i : Nat), good o = true → (∀ x ∈ l, good x = true) → (sumG o i l).2.1 = 0 ∨ ((sumG o i l).1 = .zero ∧ (sumG o i l).2.1 = 4)
  | [], o, i, _, _ => .inl rfl
  | x :: r, o, i, ho, hl => by
    rw [sumG]
    rcases addK_good ho (hl x (List.mem_cons_self ..)) with h | h
    · rw [h]; exact sumG_good r _ _ (add_good h) fun y hy => hl y (List.mem_cons_of_mem _ hy)
    · rw [h]; exact .inr ⟨rfl, rfl⟩
/-- The multiple and the sum of so many: what they come to. -/
theorem scale_sum {v : V4} {k : Nat} (hk : k ≤ 16) :
    (good v = false ∧ scaleK v k = 1 ∧ ((k = 0 ∧ (sumG .zero 0 (List.replicate k v)).2.1 = 0) ∨ (k ≠ 0 ∧ (sumG .zero 0 (List.replicate k v)).2.1 ≠ 0))) ∨
    (good v = true ∧ scaleK v k = 0 ∧ (sumG .zero 0 (List.replicate k v)).2.1 = 0 ∧ (sumG .zero 0 (List.replicate k v)).1 = scaleR v k ∧ (k = 0 ∨ fitsV v (scaleR v k) = true)) ∨
    (good v = true ∧ scaleK v k = 4 ∧ (sumG .zero 0 (List.replicate k v)).2.1 = 4 ∧ (sumG .zero 0 (List.replicate k v)).1 = .zero ∧ scaleR v k = .zero) := by
  have h1 := sumG_iff (List.replicate k v) .zero 0 good_zero
  cases hv : good v with
  | false =>
    refine .inl ⟨rfl, (scaleK_bad hv hk).1, ?_⟩
    cases k with
    | zero => exact .inl ⟨rfl, rfl⟩
    | succ k =>
      refine .inr ⟨by omega, fun h0 => ?_⟩
      have := (h1.1.1 h0).1 v (by simp)
      rw [hv] at this; cases this
  | true =>
    rcases scaleK_good hv hk with ⟨ho, hK, hR⟩ | ⟨ho, hK, hR⟩
    · refine .inr (.inl ⟨rfl, hK, h1.1.2 ho, (h1.2 ho).trans ?_, ?_⟩)
      · rw [hR]; simp only [smF_rep, V4.zero, Int.zero_add]
      · cases k with
        | zero => exact .inl rfl
        | succ k =>
          refine .inr ?_
          rw [hR, fitsV_iff]
          have hg := (goodR_iff v).1 hv
          simp only [inR] at hg
          have p : ∀ x : Int, 0 ≤ x → x ≤ x * ((k + 1 : Nat) : Int) := fun x hx => by
            have := Int.mul_nonneg hx (Int.natCast_nonneg k)
            rw [Int.natCast_succ, Int.mul_add, Int.mul_one]; omega
          exact ⟨p _ (by omega), p _ (by omega), p _ (by omega), p _ (by omega)⟩
    · refine .inr (.inr ⟨rfl, hK, ?_⟩)
      rcases sumG_good (List.replicate k v) .zero 0 good_zero (fun x hx => (List.mem_replicate.1 hx).2 ▸ hv) with h | ⟨h2, h3⟩
      · exact absurd (h1.1.1 h) ho
      · exact ⟨h3, h2, hR⟩

def scSt (v : V4) (k : Nat) (x : Nat × List V4) : St := ⟨[(9, .int .i64 x.1), (8, .slc 2 0 x.2.length none), (7, errA (scaleK v k)), (6, .ptr 1 0 0), (5, .int .i64 k), (2, .ptr 0 0 0)],
  [some (.row false 4 [v.cells]), some (.row false 4 [(scaleR v k).cells]), some (.row false 4 (x.2.map V4.cells))]⟩

set_option maxRecDepth 100000 in
theorem vecScale_ok (v : V4) (n : Int) : Pure S0 6 [.agg v.cells, .int .i64 n] (.bool true) := by
  obtain ⟨k, hk, ek⟩ : ∃ k : Nat, k ≤ 16 ∧ IntKind.i64.wrap ((IntKind.u64.wrap n).tmod 17) = (k : Int) := by
    have h1 : 0 ≤ IntKind.u64.wrap n := by simp only [IntKind.wrap]; exact Int.emod_nonneg _ (by decide)
    have h2 : (IntKind.u64.wrap n).tmod 17 = (IntKind.u64.wrap n) % 17 := Int.tmod_eq_emod_of_nonneg h1
    refine ⟨((IntKind.u64.wrap n) % 17).toNat, by omega, ?_⟩
    rw [h2, IntKind.wrap_i64]; omega
  refine fun_sound okL Tryd.func6 c6 ?_
  unfold wpF F6
  simp only [AH.SD, AH.wpOp, AOp.call?, AOp.next?, bstep, AOp.map, Opd.ev, tget, argTm, evs, AV.cells, St.eff, St.put, applyWr, mset, terase, pureE, unAV, intOp, binAV, fill, mget, AH.rowAt, AH.part, retQ, rvs, retV, AH.splice, AH.sliceElems, AH.bytesOf, AH.strOp, AH.bound, AH.addLog, AH.missQ, AH.minmaxAV, AH.wpOpD, AH.readOf, AH.mapAt, AH.iterAt, Nat.reduceBEq, Nat.reduceAdd, Nat.reduceLT, ↓reduceIte, Nat.reduceEqDiff, Nat.reduceLeDiff, Nat.reduceSub, Nat.reduceMul, Int.reduceSub, Int.reduceToNat, Int.reduceBEq, Int.reduceBNe, Int.reduceLT, Int.reduceGT, Int.reduceLE, Int.reduceGE, Int.reduceNeg, Int.reduceAdd, awakeT_eq, addT_eq, subT_eq, scaleT_eq, goodT_eq, fitsT_eq, lessT_eq, raddT_eq, rsubT_eq, rscaleT_eq, noneT_eq, vecE, vecK, V4.cells_eq, V4.av, V4.eta, errA_nil, kindT_nil, kindT_fault, kindQ_1, kindQ_4, asU_of, asQ_some, eqFlat_vec, eqV_self, kindT_err, bne_self_eq_false]
  refine ⟨by decide, ?_⟩
  rw [ek]
  refine loop_do [0, 1, 2] [9, 8, 7, 6, 5, 2] [.cap 8] (α := Nat × List V4) (fun x => k - x.1) (scSt v k) (fun x => x.1 ≤ k ∧ x.2.length = x.1 ∧ x.2 = List.replicate x.1 v) (0, []) ⟨Nat.zero_le _, rfl, rfl⟩ (by simp only [AH.SD, AH.wpOp, AOp.call?, AOp.next?, bstep, AOp.map, Opd.ev, tget, argTm, evs, AV.cells, St.eff, St.put, applyWr, mset, terase, pureE, unAV, intOp, binAV, fill, mget, AH.rowAt, AH.part, retQ, rvs, retV, AH.splice, AH.sliceElems, AH.bytesOf, AH.strOp, AH.bound, AH.addLog, AH.missQ, AH.minmaxAV, AH.wpOpD, AH.readOf, AH.mapAt, AH.iterAt, Nat.reduceBEq, Nat.reduceAdd, Nat.reduceLT, ↓reduceIte, Nat.reduceEqDiff, Nat.reduceLeDiff, Nat.reduceSub, Nat.reduceMul, Int.reduceSub, Int.reduceToNat, Int.reduceBEq, Int.reduceBNe, Int.reduceLT, Int.reduceGT, Int.reduceLE, Int.reduceGE, Int.reduceNeg, Int.reduceAdd, AH.PD, heads, distN, AH.inN, posN, packM, packB, packTm, liveB, AV.inB, AV.insB, AV.ren, AV.rens, Blk.ren, Blk.inB, vstep, tput, scSt, errA_inB, errA_ren, V4.cells_eq]) ?_
  rintro X ⟨i, l⟩ ⟨hi, hl, hx⟩ ih
  simp only at hi hl hx
  simp only [AH.SD, AH.wpOp, AOp.call?, AOp.next?, bstep, AOp.map, Opd.ev, tget, argTm, evs, AV.cells, St.eff, St.put, applyWr, mset, terase, pureE, unAV, intOp, binAV, fill, mget, AH.rowAt, AH.part, retQ, rvs, retV, AH.splice, AH.sliceElems, AH.bytesOf, AH.strOp, AH.bound, AH.addLog, AH.missQ, AH.minmaxAV, AH.wpOpD, AH.readOf, AH.mapAt, AH.iterAt, Nat.reduceBEq, Nat.reduceAdd, Nat.reduceLT, ↓reduceIte, Nat.reduceEqDiff, Nat.reduceLeDiff, Nat.reduceSub, Nat.reduceMul, Int.reduceSub, Int.reduceToNat, Int.reduceBEq, Int.reduceBNe, Int.reduceLT, Int.reduceGT, Int.reduceLE, Int.reduceGE, Int.reduceNeg, Int.reduceAdd, scSt, V4.cells_eq]
  refine ⟨fun hlt => ?_, fun hlt => ?_⟩
  · have hil := lt_of_dec hlt
    have hw := wrapS (i := i) (by omega)
    have done := ih (i + 1, l ++ [v]) ⟨hil, by simp [hl], by rw [hx, List.replicate_succ']⟩ (by simp only; omega)
    simp only [scSt, V4.cells_eq, List.map_append, List.map_cons, List.map_nil, List.length_append, List.length_cons, List.length_nil, Nat.zero_add] at done
    simp only [AH.SD, AH.wpOp, AOp.call?, AOp.next?, bstep, AOp.map, Opd.ev, tget, argTm, evs, AV.cells, St.eff, St.put, applyWr, mset, terase, pureE, unAV, intOp, binAV, fill, mget, AH.rowAt, AH.part, retQ, rvs, retV, AH.splice, AH.sliceElems, AH.bytesOf, AH.strOp, AH.bound, AH.addLog, AH.missQ, AH.minmaxAV, AH.wpOpD, AH.readOf, AH.mapAt, AH.iterAt, Nat.reduceBEq, Nat.reduceAdd, Nat.reduceLT, ↓reduceIte, Nat.reduceEqDiff, Nat.reduceLeDiff, Nat.reduceSub, Nat.reduceMul, Int.reduceSub, Int.reduceToNat, Int.reduceBEq, Int.reduceBNe, Int.reduceLT, Int.reduceGT, Int.reduceLE, Int.reduceGE, Int.reduceNeg, Int.reduceAdd, take_all, List.length_map, hw]
    repeat (refine ⟨by first | rfl | decide | omega | (simp only [List.length_map, and_true]; omega) | (simp only [List.length_map, List.length_set, and_true]; omega), ?_⟩)
    refine gc_auto [0, 1, 4] [9, 8, 7, 6, 5, 2] [] ?_
    simp only [AH.SD, AH.wpOp, AOp.call?, AOp.next?, bstep, AOp.map, Opd.ev, tget, argTm, evs, AV.cells, St.eff, St.put, applyWr, mset, terase, pureE, unAV, intOp, binAV, fill, mget, AH.rowAt, AH.part, retQ, rvs, retV, AH.splice, AH.sliceElems, AH.bytesOf, AH.strOp, AH.bound, AH.addLog, AH.missQ, AH.minmaxAV, AH.wpOpD, AH.readOf, AH.mapAt, AH.iterAt, Nat.reduceBEq, Nat.reduceAdd, Nat.reduceLT, ↓reduceIte, Nat.reduceEqDiff, Nat.reduceLeDiff, Nat.reduceSub, Nat.reduceMul, Int.reduceSub, Int.reduceToNat, Int.reduceBEq, Int.reduceBNe, Int.reduceLT, Int.reduceGT, Int.reduceLE, Int.reduceGE, Int.reduceNeg, Int.reduceAdd, AH.PD, heads, distN, AH.inN, posN, packM, packB, packTm, liveB, AV.inB, AV.insB, AV.ren, AV.rens, Blk.ren, Blk.inB, vstep, tput, errA_inB, errA_ren]
    exact done
  · have hil := ge_of_dec hlt
    have hik : i = k := by omega
    subst hik
    have hll : l.length ≤ 1048576 := by omega
    have hs := scale_sum (v := v) hk
    rw [← hx] at hs
    generalize hq : sumG .zero 0 l = q at hs
    obtain ⟨u, c, j⟩ := q
    simp only at hs
    rcases hs with ⟨h1, h2, ⟨h3, h4⟩ | ⟨h3, h4⟩⟩ | ⟨h1, h2, h3, h4, h5⟩ | ⟨h1, h2, h3, h4, h5⟩
    · have hz : ((i : Int) == 0) = true := by simp [h3]
      subst h4
      simp only [AH.SD, AH.wpOp, AOp.call?, AOp.next?, bstep, AOp.map, Opd.ev, tget, argTm, evs, AV.cells, St.eff, St.put, applyWr, mset, terase, pureE, unAV, intOp, binAV, fill, mget, AH.rowAt, AH.part, retQ, rvs, retV, AH.splice, AH.sliceElems, AH.bytesOf, AH.strOp, AH.bound, AH.addLog, AH.missQ, AH.minmaxAV, AH.wpOpD, AH.readOf, AH.mapAt, AH.iterAt, Nat.reduceBEq, Nat.reduceAdd, Nat.reduceLT, ↓reduceIte, Nat.reduceEqDiff, Nat.reduceLeDiff, Nat.reduceSub, Nat.reduceMul, Int.reduceSub, Int.reduceToNat, Int.reduceBEq, Int.reduceBNe, Int.reduceLT, Int.reduceGT, Int.reduceLE, Int.reduceGE, Int.reduceNeg, Int.reduceAdd, addT_eq, subT_eq, scaleT_eq, goodT_eq, fitsT_eq, lessT_eq, raddT_eq, rsubT_eq, rscaleT_eq, noneT_eq, vecE, vecK, V4.cells_eq, V4.av, V4.eta, errA_nil, kindT_nil, kindT_fault, kindQ_1, kindQ_4, asU_of, asQ_some, eqFlat_vec, eqV_self, kindT_err, bne_self_eq_false, sumU_eq, hll, hq, sumA, sumM, h1, h2, hz]
      try repeat (refine ⟨by first | rfl | decide | omega | (simp only [List.length_map, and_true]; omega) | (simp only [List.length_map, List.length_set, and_true]; omega), ?_⟩)
      try trivial
    · have hz : ((i : Int) == 0) = false := by simp [h3]
      have h5 : (c == 0) = false := by simpa using h4
      simp only [AH.SD, AH.wpOp, AOp.call?, AOp.next?, bstep, AOp.map, Opd.ev, tget, argTm, evs, AV.cells, St.eff, St.put, applyWr, mset, terase, pureE, unAV, intOp, binAV, fill, mget, AH.rowAt, AH.part, retQ, rvs, retV, AH.splice, AH.sliceElems, AH.bytesOf, AH.strOp, AH.bound, AH.addLog, AH.missQ, AH.minmaxAV, AH.wpOpD, AH.readOf, AH.mapAt, AH.iterAt, Nat.reduceBEq, Nat.reduceAdd, Nat.reduceLT, ↓reduceIte, Nat.reduceEqDiff, Nat.reduceLeDiff, Nat.reduceSub, Nat.reduceMul, Int.reduceSub, Int.reduceToNat, Int.reduceBEq, Int.reduceBNe, Int.reduceLT, Int.reduceGT, Int.reduceLE, Int.reduceGE, Int.reduceNeg, Int.reduceAdd, addT_eq, subT_eq, scaleT_eq, goodT_eq, fitsT_eq, lessT_eq, raddT_eq, rsubT_eq, rscaleT_eq, noneT_eq, vecE, vecK, V4.cells_eq, V4.av, V4.eta, errA_nil, kindT_nil, kindT_fault, kindQ_1, kindQ_4, asU_of, asQ_some, eqFlat_vec, eqV_self, kindT_err, bne_self_eq_false, sumU_eq, hll, hq, sumA, sumM, h1, h2, hz, h5]
      try repeat (refine ⟨by first | rfl | decide | omega | (simp only [List.length_map, and_true]; omega) | (simp only [List.length_map, List.length_set, and_true]; omega), ?_⟩)
      try trivial
    · subst h3 h4
      rcases h5 with h5 | h5
      · have hz : ((i : Int) == 0) = true := by simp [h5]
        cases h6 : fitsV v (scaleR v i)
        all_goals
          simp only [AH.SD, AH.wpOp, AOp.call?, AOp.next?, bstep, AOp.map, Opd.ev, tget, argTm, evs, AV.cells, St.eff, St.put, applyWr, mset, terase, pureE, unAV, intOp, binAV, fill, mget, AH.rowAt, AH.part, retQ, rvs, retV, AH.splice, AH.sliceElems, AH.bytesOf, AH.strOp, AH.bound, AH.addLog, AH.missQ, AH.minmaxAV, AH.wpOpD, AH.readOf, AH.mapAt, AH.iterAt, Nat.reduceBEq, Nat.reduceAdd, Nat.reduceLT, ↓reduceIte, Nat.reduceEqDiff, Nat.reduceLeDiff, Nat.reduceSub, Nat.reduceMul, Int.reduceSub, Int.reduceToNat, Int.reduceBEq, Int.reduceBNe, Int.reduceLT, Int.reduceGT, Int.reduceLE, Int.reduceGE, Int.reduceNeg, Int.reduceAdd, addT_eq, subT_eq, scaleT_eq, goodT_eq, fitsT_eq, lessT_eq, raddT_eq, rsubT_eq, rscaleT_eq, noneT_eq, vecE, vecK, V4.cells_eq, V4.av, V4.eta, errA_nil, kindT_nil, kindT_fault, kindQ_1, kindQ_4, asU_of, asQ_some, eqFlat_vec, eqV_self, kindT_err, bne_self_eq_false, sumU_eq, hll, hq, sumA, sumM, h1, h2, hz, h6]
          try repeat (refine ⟨by first | rfl | decide | omega | (simp only [List.length_map, and_true]; omega) | (simp only [List.length_map, List.length_set, and_true]; omega), ?_⟩)
          try trivial
      · simp only [AH.SD, AH.wpOp, AOp.call?, AOp.next?, bstep, AOp.map, Opd.ev, tget, argTm, evs, AV.cells, St.eff, St.put, applyWr, mset, terase, pureE, unAV, intOp, binAV, fill, mget, AH.rowAt, AH.part, retQ, rvs, retV, AH.splice, AH.sliceElems, AH.bytesOf, AH.strOp, AH.bound, AH.addLog, AH.missQ, AH.minmaxAV, AH.wpOpD, AH.readOf, AH.mapAt, AH.iterAt, Nat.reduceBEq, Nat.reduceAdd, Nat.reduceLT, ↓reduceIte, Nat.reduceEqDiff, Nat.reduceLeDiff, Nat.reduceSub, Nat.reduceMul, Int.reduceSub, Int.reduceToNat, Int.reduceBEq, Int.reduceBNe, Int.reduceLT, Int.reduceGT, Int.reduceLE, Int.reduceGE, Int.reduceNeg, Int.reduceAdd, addT_eq, subT_eq, scaleT_eq, goodT_eq, fitsT_eq, lessT_eq, raddT_eq, rsubT_eq, rscaleT_eq, noneT_eq, vecE, vecK, V4.cells_eq, V4.av, V4.eta, errA_nil, kindT_nil, kindT_fault, kindQ_1, kindQ_4, asU_of, asQ_some, eqFlat_vec, eqV_self, kindT_err, bne_self_eq_false, sumU_eq, hll, hq, sumA, sumM, h1, h2, h5]
        try repeat (refine ⟨by first | rfl | decide | omega | (simp only [List.length_map, and_true]; omega) | (simp only [List.length_map, List.length_set, and_true]; omega), ?_⟩)
        try trivial
    · subst h3 h4
      simp only [AH.SD, AH.wpOp, AOp.call?, AOp.next?, bstep, AOp.map, Opd.ev, tget, argTm, evs, AV.cells, St.eff, St.put, applyWr, mset, terase, pureE, unAV, intOp, binAV, fill, mget, AH.rowAt, AH.part, retQ, rvs, retV, AH.splice, AH.sliceElems, AH.bytesOf, AH.strOp, AH.bound, AH.addLog, AH.missQ, AH.minmaxAV, AH.wpOpD, AH.readOf, AH.mapAt, AH.iterAt, Nat.reduceBEq, Nat.reduceAdd, Nat.reduceLT, ↓reduceIte, Nat.reduceEqDiff, Nat.reduceLeDiff, Nat.reduceSub, Nat.reduceMul, Int.reduceSub, Int.reduceToNat, Int.reduceBEq, Int.reduceBNe, Int.reduceLT, Int.reduceGT, Int.reduceLE, Int.reduceGE, Int.reduceNeg, Int.reduceAdd, addT_eq, subT_eq, scaleT_eq, goodT_eq, fitsT_eq, lessT_eq, raddT_eq, rsubT_eq, rscaleT_eq, noneT_eq, vecE, vecK, V4.cells_eq, V4.av, V4.eta, errA_nil, kindT_nil, kindT_fault, kindQ_1, kindQ_4, asU_of, asQ_some, eqFlat_vec, eqV_self, kindT_err, bne_self_eq_false, sumU_eq, hll, hq, sumA, sumM, h1, h2, h5]
      try repeat (refine ⟨by first | rfl | decide | omega | (simp only [List.length_map, and_true]; omega) | (simp only [List.length_map, List.length_set, and_true]; omega), ?_⟩)
      try trivial
end Go.Proofs.YtkbjfhkhbcgkgaaDoor.B01
