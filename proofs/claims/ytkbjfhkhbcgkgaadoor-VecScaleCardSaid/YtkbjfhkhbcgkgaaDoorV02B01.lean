import Derived.Test.YtkbjfhkhbcgkgaaDoorV01B01
open Go AH
set_option linter.unusedSimpArgs false
set_option maxRecDepth 100000
namespace Go.Proofs.YtkbjfhkhbcgkgaaDoor.B01


def smF (f : V4 → Int) : List V4 → Int
  | [] => 0
  | x :: r => f x + smF f r
theorem smF_nonneg {f : V4 → Int} : ∀ {l : List V4}, (∀ x ∈ l, 0 ≤ f x) → 0 ≤ smF f l
  | [], _ => Int.le_refl 0
  | x :: r, h => by
    have := smF_nonneg (l := r) fun y hy => h y (List.mem_cons_of_mem _ hy)
    have := h x (List.mem_cons_self ..)
    simp only [smF]; omega
def okSm (o : V4) (l : List V4) : Prop := (∀ x ∈ l, good x = true) ∧ o.a + smF V4.a l ≤ 1099511627776 ∧ o.b + smF V4.b l ≤ 1099511627776 ∧ o.c + smF V4.c l ≤ 1099511627776 ∧ o.d + smF V4.d l ≤ 1099511627776
theorem good_nonneg {l : List V4} (h : ∀ x ∈ l, good x = true) : 0 ≤ smF V4.a l ∧ 0 ≤ smF V4.b l ∧ 0 ≤ smF V4.c l ∧ 0 ≤ smF V4.d l := by
  refine ⟨smF_nonneg fun x hx => ?_, smF_nonneg fun x hx => ?_, smF_nonneg fun x hx => ?_, smF_nonneg fun x hx => ?_⟩ <;>
    (have := (goodR_iff x).1 (h x hx); simp only [inR] at this; omega)
theorem sumG_iff : ∀ (l : List V4) (o : V4) (i : Nat), good o = true → ((sumG o i l).2.1 = 0 ↔ okSm o l) ∧ (okSm o l → (sumG o i l).1 = ⟨o.a + smF V4.a l, o.b + smF V4.b l, o.c + smF V4.c l, o.d + smF V4.d l⟩)
  | [], o, i, ho => by
    have hg := (goodR_iff o).1 ho
    simp only [inR] at hg
    simp only [sumG, okSm, smF, Int.add_zero, true_iff]
    exact ⟨⟨fun x hx => absurd hx (List.not_mem_nil), by omega⟩, fun _ => trivial⟩
  | x :: r, o, i, ho => by
    have hg := (goodR_iff o).1 ho
    simp only [inR] at hg
    rcases addK_le o x with h | h | h
    · have e := addR_of h
      have ga := add_good h
      have ih := sumG_iff r (addR o x) (i + 1) ga
      have hh := (addK_iff o x).1 h
      have he : okSm o (x :: r) ↔ okSm (addR o x) r := by
        simp only [okSm, smF, e, List.mem_cons, forall_eq_or_imp, hh.2.1, true_and, Int.add_assoc]
      have hs : sumG o i (x :: r) = sumG (addR o x) (i + 1) r := by rw [sumG, h]; rfl
      rw [hs, he]
      refine ⟨ih.1, fun hk => ?_⟩
      rw [ih.2 hk, e]
      simp only [smF, Int.add_assoc]
    all_goals
      have hn : ¬ okSm o (x :: r) := fun ⟨hx, hk⟩ => by
        simp only [List.mem_cons, forall_eq_or_imp] at hx
        have hr := good_nonneg hx.2
        simp only [smF] at hk
        have := (addK_iff o x).2 ⟨ho, hx.1, by omega⟩
        omega
      have hs : (sumG o i (x :: r)).2.1 ≠ 0 := by rw [sumG, h]; simp
      exact ⟨⟨fun h0 => absurd h0 hs, fun h0 => absurd h0 hn⟩, fun h0 => absurd h0 hn⟩

theorem rot_ok (a b c : V4) : okSm .zero [a, b, c] ↔ okSm .zero [c, a, b] := by
  simp only [okSm, smF, V4.zero, List.mem_cons, List.not_mem_nil, or_false, forall_eq_or_imp, forall_eq]
  constructor <;> (rintro ⟨⟨h1, h2, h3⟩, h⟩; exact ⟨⟨by assumption, by assumption, by assumption⟩, by omega⟩)
theorem sumU_33 {x1 x2 x3 x4 y1 y2 y3 y4 z1 z2 z3 z4 : Int} {b0 b1 b2 : Option Blk} {r : Mem} : sumU [.slc 3 0 3 (some 3)] (b0 :: b1 :: b2 :: some (.row false 4 [[.int .i64 x1, .int .i64 x2, .int .i64 x3, .int .i64 x4], [.int .i64 y1, .int .i64 y2, .int .i64 y3, .int .i64 y4], [.int .i64 z1, .int .i64 z2, .int .i64 z3, .int .i64 z4]]) :: r) = some (sumA (sumG .zero 0 [⟨x1, x2, x3, x4⟩, ⟨y1, y2, y3, y4⟩, ⟨z1, z2, z3, z4⟩]) (r.length + 4), (b0 :: b1 :: b2 :: some (.row false 4 [[.int .i64 x1, .int .i64 x2, .int .i64 x3, .int .i64 x4], [.int .i64 y1, .int .i64 y2, .int .i64 y3, .int .i64 y4], [.int .i64 z1, .int .i64 z2, .int .i64 z3, .int .i64 z4]]) :: r) ++ sumM (sumG .zero 0 [⟨x1, x2, x3, x4⟩, ⟨y1, y2, y3, y4⟩, ⟨z1, z2, z3, z4⟩])) := by
  have := sumU_of (p := some 3) (es := [[.int .i64 x1, .int .i64 x2, .int .i64 x3, .int .i64 x4], [.int .i64 y1, .int .i64 y2, .int .i64 y3, .int .i64 y4], [.int .i64 z1, .int .i64 z2, .int .i64 z3, .int .i64 z4]]) (id := 3) (ix := 0) (n := 3) (m := b0 :: b1 :: b2 :: some (.row false 4 [[.int .i64 x1, .int .i64 x2, .int .i64 x3, .int .i64 x4], [.int .i64 y1, .int .i64 y2, .int .i64 y3, .int .i64 y4], [.int .i64 z1, .int .i64 z2, .int .i64 z3, .int .i64 z4]]) :: r) [⟨x1, x2, x3, x4⟩, ⟨y1, y2, y3, y4⟩, ⟨z1, z2, z3, z4⟩] (by simp only [rowE_next, rowE_hit]) rfl (Nat.le_refl 3) (by simp)
  simpa only [List.length_cons] using this
theorem sumU_35 {x1 x2 x3 x4 y1 y2 y3 y4 z1 z2 z3 z4 : Int} {b0 b1 b2 b3 b4 : Option Blk} {r : Mem} : sumU [.slc 5 0 3 (some 3)] (b0 :: b1 :: b2 :: b3 :: b4 :: some (.row false 4 [[.int .i64 x1, .int .i64 x2, .int .i64 x3, .int .i64 x4], [.int .i64 y1, .int .i64 y2, .int .i64 y3, .int .i64 y4], [.int .i64 z1, .int .i64 z2, .int .i64 z3, .int .i64 z4]]) :: r) = some (sumA (sumG .zero 0 [⟨x1, x2, x3, x4⟩, ⟨y1, y2, y3, y4⟩, ⟨z1, z2, z3, z4⟩]) (r.length + 6), (b0 :: b1 :: b2 :: b3 :: b4 :: some (.row false 4 [[.int .i64 x1, .int .i64 x2, .int .i64 x3, .int .i64 x4], [.int .i64 y1, .int .i64 y2, .int .i64 y3, .int .i64 y4], [.int .i64 z1, .int .i64 z2, .int .i64 z3, .int .i64 z4]]) :: r) ++ sumM (sumG .zero 0 [⟨x1, x2, x3, x4⟩, ⟨y1, y2, y3, y4⟩, ⟨z1, z2, z3, z4⟩])) := by
  have := sumU_of (p := some 3) (es := [[.int .i64 x1, .int .i64 x2, .int .i64 x3, .int .i64 x4], [.int .i64 y1, .int .i64 y2, .int .i64 y3, .int .i64 y4], [.int .i64 z1, .int .i64 z2, .int .i64 z3, .int .i64 z4]]) (id := 5) (ix := 0) (n := 3) (m := b0 :: b1 :: b2 :: b3 :: b4 :: some (.row false 4 [[.int .i64 x1, .int .i64 x2, .int .i64 x3, .int .i64 x4], [.int .i64 y1, .int .i64 y2, .int .i64 y3, .int .i64 y4], [.int .i64 z1, .int .i64 z2, .int .i64 z3, .int .i64 z4]]) :: r) [⟨x1, x2, x3, x4⟩, ⟨y1, y2, y3, y4⟩, ⟨z1, z2, z3, z4⟩] (by simp only [rowE_next, rowE_hit]) rfl (Nat.le_refl 3) (by simp)
  simpa only [List.length_cons] using this
theorem sumU_36 {x1 x2 x3 x4 y1 y2 y3 y4 z1 z2 z3 z4 : Int} {b0 b1 b2 b3 b4 b5 : Option Blk} {r : Mem} : sumU [.slc 6 0 3 (some 3)] (b0 :: b1 :: b2 :: b3 :: b4 :: b5 :: some (.row false 4 [[.int .i64 x1, .int .i64 x2, .int .i64 x3, .int .i64 x4], [.int .i64 y1, .int .i64 y2, .int .i64 y3, .int .i64 y4], [.int .i64 z1, .int .i64 z2, .int .i64 z3, .int .i64 z4]]) :: r) = some (sumA (sumG .zero 0 [⟨x1, x2, x3, x4⟩, ⟨y1, y2, y3, y4⟩, ⟨z1, z2, z3, z4⟩]) (r.length + 7), (b0 :: b1 :: b2 :: b3 :: b4 :: b5 :: some (.row false 4 [[.int .i64 x1, .int .i64 x2, .int .i64 x3, .int .i64 x4], [.int .i64 y1, .int .i64 y2, .int .i64 y3, .int .i64 y4], [.int .i64 z1, .int .i64 z2, .int .i64 z3, .int .i64 z4]]) :: r) ++ sumM (sumG .zero 0 [⟨x1, x2, x3, x4⟩, ⟨y1, y2, y3, y4⟩, ⟨z1, z2, z3, z4⟩])) := by
  have := sumU_of (p := some 3) (es := [[.int .i64 x1, .int .i64 x2, .int .i64 x3, .int .i64 x4], [.int .i64 y1, .int .i64 y2, .int .i64 y3, .int .i64 y4], [.int .i64 z1, .int .i64 z2, .int .i64 z3, .int .i64 z4]]) (id := 6) (ix := 0) (n := 3) (m := b0 :: b1 :: b2 :: b3 :: b4 :: b5 :: some (.row false 4 [[.int .i64 x1, .int .i64 x2, .int .i64 x3, .int .i64 x4], [.int .i64 y1, .int .i64 y2, .int .i64 y3, .int .i64 y4], [.int .i64 z1, .int .i64 z2, .int .i64 z3, .int .i64 z4]]) :: r) [⟨x1, x2, x3, x4⟩, ⟨y1, y2, y3, y4⟩, ⟨z1, z2, z3, z4⟩] (by simp only [rowE_next, rowE_hit]) rfl (Nat.le_refl 3) (by simp)
  simpa only [List.length_cons] using this

theorem less_tri (a b : V4) : (lessV a b && lessV b a) = false ∧ (lessV a b || lessV b a) = !eqV a b := by
  have key : ∀ x y : Int, x ≠ y → (decide (x < y) && decide (y < x)) = false ∧ (decide (x < y) || decide (y < x)) = true := fun x y h => by
    rcases Int.lt_or_gt_of_ne h with h | h
    · rw [decide_eq_true h, decide_eq_false (by omega : ¬ y < x)]; exact ⟨rfl, rfl⟩
    · rw [decide_eq_true h, decide_eq_false (by omega : ¬ x < y)]; exact ⟨rfl, rfl⟩
  have nb : ∀ x y : Int, x ≠ y → (x == y) = false := fun x y h => by simpa using h
  have sw : ∀ x y : Int, x ≠ y → (y ≠ x) := fun _ _ h e => h e.symm
  simp only [less_of, eqV]
  by_cases ha : a.a = b.a
  · by_cases hb : a.b = b.b
    · by_cases hc : a.c = b.c
      · by_cases hd : a.d = b.d
        · simp [ha, hb, hc, hd]
        · simpa [ha, hb, hc, hd, sw _ _ hd, nb _ _ hd] using key _ _ hd
      · simpa [ha, hb, hc, sw _ _ hc, nb _ _ hc] using key _ _ hc
    · simpa [ha, hb, sw _ _ hb, nb _ _ hb] using key _ _ hb
  · simpa [ha, sw _ _ ha, nb _ _ ha] using key _ _ ha

set_option maxHeartbeats 1000000 in
set_option maxRecDepth 100000 in
theorem vecOrder_ok (a b c : V4) : Pure S0 4 [.agg a.cells, .agg b.cells, .agg c.cells] (.bool true) := by
  refine fun_sound okL Tryd.func4 c4 ?_
  unfold wpF F4
  have h1 := sumG_iff [a, b, c] .zero 0 good_zero
  have h2 := sumG_iff [c, a, b] .zero 0 good_zero
  rw [← rot_ok] at h2
  have k1 := sumG_k [a, b, c] .zero 0
  have k2 := sumG_k [c, a, b] .zero 0
  simp only [AH.SD, AH.wpOp, AOp.call?, AOp.next?, bstep, AOp.map, Opd.ev, tget, argTm, evs, AV.cells, St.eff, St.put, applyWr, mset, terase, pureE, unAV, intOp, binAV, fill, mget, AH.rowAt, AH.part, retQ, rvs, retV, AH.splice, AH.sliceElems, AH.bytesOf, AH.strOp, AH.bound, AH.addLog, AH.missQ, AH.minmaxAV, AH.wpOpD, AH.readOf, AH.mapAt, AH.iterAt, Nat.reduceBEq, Nat.reduceAdd, Nat.reduceLT, ↓reduceIte, Nat.reduceEqDiff, Nat.reduceLeDiff, Nat.reduceSub, Nat.reduceMul, Int.reduceSub, Int.reduceToNat, Int.reduceBEq, Int.reduceBNe, Int.reduceLT, Int.reduceGT, Int.reduceLE, Int.reduceGE, Int.reduceNeg, Int.reduceAdd, awakeT_eq, addT_eq, subT_eq, scaleT_eq, goodT_eq, fitsT_eq, lessT_eq, raddT_eq, rsubT_eq, rscaleT_eq, noneT_eq, vecE, vecK, V4.cells_eq, V4.av, V4.eta, errA_nil, kindT_nil, kindT_fault, kindQ_1, kindQ_4, asU_of, asQ_some, eqFlat_vec, eqV_self, kindT_err, bne_self_eq_false, sumU_33, sumU_35, sumU_36]
  generalize hx : sumG .zero 0 [a, b, c] = x at *
  generalize hy : sumG .zero 0 [c, a, b] = y at *
  obtain ⟨u, k, i⟩ := x
  obtain ⟨w, l, j⟩ := y
  simp only at h1 h2 k1 k2
  by_cases hok : okSm .zero [a, b, c]
  · have e1 := h1.1.2 hok
    have e2 := h2.1.2 hok
    have e3 := h1.2 hok
    have e4 := h2.2 hok
    have e5 : u = ⟨a.a + b.a + c.a, a.b + b.b + c.b, a.c + b.c + c.c, a.d + b.d + c.d⟩ := e3.trans (by simp only [smF, V4.zero, Int.add_zero, Int.zero_add, Int.add_assoc])
    have e6 : w = ⟨a.a + b.a + c.a, a.b + b.b + c.b, a.c + b.c + c.c, a.d + b.d + c.d⟩ := e4.trans (by apply V4.ext <;> (simp only [smF, V4.zero]; omega))
    subst e1 e2 e5 e6
    have hg := hok.1
    have hl := hok.2
    simp only [smF, V4.zero, List.mem_cons, List.not_mem_nil, or_false, forall_eq_or_imp, forall_eq] at hg hl
    have pa := (goodR_iff a).1 hg.1
    have pb := (goodR_iff b).1 hg.2.1
    have pc := (goodR_iff c).1 hg.2.2
    simp only [inR] at pa pb pc
    have a1 : addK a b = 0 := (addK_iff a b).2 ⟨hg.1, hg.2.1, by omega⟩
    have a2 := addR_of a1
    have s1 : subK ⟨a.a + b.a + c.a, a.b + b.b + c.b, a.c + b.c + c.c, a.d + b.d + c.d⟩ c = 0 := (subK_iff _ c).2 ⟨(goodR_iff _).2 (by simp only [inR]; omega), hg.2.2, by simp only; omega⟩
    have s2 : subR ⟨a.a + b.a + c.a, a.b + b.b + c.b, a.c + b.c + c.c, a.d + b.d + c.d⟩ c = ⟨a.a + b.a, a.b + b.b, a.c + b.c, a.d + b.d⟩ := (subR_of s1).trans (by apply V4.ext <;> (simp only; omega))
    have f1 : fitsV c a = true → fitsV c ⟨a.a + b.a, a.b + b.b, a.c + b.c, a.d + b.d⟩ = true := fun h => (fitsV_iff _ _).2 (by have := (fitsV_iff _ _).1 h; simp only; omega)
    have l1 := less_tri a b
    simp only [AH.SD, AH.wpOp, AOp.call?, AOp.next?, bstep, AOp.map, Opd.ev, tget, argTm, evs, AV.cells, St.eff, St.put, applyWr, mset, terase, pureE, unAV, intOp, binAV, fill, mget, AH.rowAt, AH.part, retQ, rvs, retV, AH.splice, AH.sliceElems, AH.bytesOf, AH.strOp, AH.bound, AH.addLog, AH.missQ, AH.minmaxAV, AH.wpOpD, AH.readOf, AH.mapAt, AH.iterAt, Nat.reduceBEq, Nat.reduceAdd, Nat.reduceLT, ↓reduceIte, Nat.reduceEqDiff, Nat.reduceLeDiff, Nat.reduceSub, Nat.reduceMul, Int.reduceSub, Int.reduceToNat, Int.reduceBEq, Int.reduceBNe, Int.reduceLT, Int.reduceGT, Int.reduceLE, Int.reduceGE, Int.reduceNeg, Int.reduceAdd, addT_eq, subT_eq, scaleT_eq, goodT_eq, fitsT_eq, lessT_eq, raddT_eq, rsubT_eq, rscaleT_eq, noneT_eq, vecE, vecK, V4.cells_eq, V4.av, V4.eta, errA_nil, kindT_nil, kindT_fault, kindQ_1, kindQ_4, asU_of, asQ_some, eqFlat_vec, eqV_self, kindT_err, bne_self_eq_false, sumA, sumM, sumU_33, sumU_35, sumU_36, hy, a1, a2, s1, s2]
    repeat (refine ⟨by first | rfl | decide | omega | (simp only [List.length_map, and_true]; omega) | (simp only [List.length_map, List.length_set, and_true]; omega), ?_⟩)
    have l2 : (lessV a b = true ∧ lessV b a = false ∧ eqV a b = false) ∨ (lessV a b = false ∧ lessV b a = true ∧ eqV a b = false) ∨ (lessV a b = false ∧ lessV b a = false ∧ eqV a b = true) := by
      revert l1
      cases lessV a b <;> cases lessV b a <;> cases eqV a b <;> decide
    have f2 : (fitsV c a = false ∧ true = true) ∨ (fitsV c a = true ∧ fitsV c ⟨a.a + b.a, a.b + b.b, a.c + b.c, a.d + b.d⟩ = true) := by
      cases hf : fitsV c a
      · exact .inl ⟨rfl, rfl⟩
      · exact .inr ⟨rfl, f1 hf⟩
    clear h1 h2 k1 k2 e3 e4 hx hy hok
    rcases f2 with ⟨f2, f3⟩ | ⟨f2, f3⟩ <;> rcases l2 with ⟨h1, h2, h3⟩ | ⟨h1, h2, h3⟩ | ⟨h1, h2, h3⟩
    all_goals
      simp only [AH.SD, AH.wpOp, AOp.call?, AOp.next?, bstep, AOp.map, Opd.ev, tget, argTm, evs, AV.cells, St.eff, St.put, applyWr, mset, terase, pureE, unAV, intOp, binAV, fill, mget, AH.rowAt, AH.part, retQ, rvs, retV, AH.splice, AH.sliceElems, AH.bytesOf, AH.strOp, AH.bound, AH.addLog, AH.missQ, AH.minmaxAV, AH.wpOpD, AH.readOf, AH.mapAt, AH.iterAt, Nat.reduceBEq, Nat.reduceAdd, Nat.reduceLT, ↓reduceIte, Nat.reduceEqDiff, Nat.reduceLeDiff, Nat.reduceSub, Nat.reduceMul, Int.reduceSub, Int.reduceToNat, Int.reduceBEq, Int.reduceBNe, Int.reduceLT, Int.reduceGT, Int.reduceLE, Int.reduceGE, Int.reduceNeg, Int.reduceAdd, addT_eq, subT_eq, scaleT_eq, goodT_eq, fitsT_eq, lessT_eq, raddT_eq, rsubT_eq, rscaleT_eq, noneT_eq, vecE, vecK, V4.cells_eq, V4.av, V4.eta, errA_nil, kindT_nil, kindT_fault, kindQ_1, kindQ_4, asU_of, asQ_some, eqFlat_vec, eqV_self, kindT_err, bne_self_eq_false, h1, h2, h3, f2, f3]
      try repeat (refine ⟨by first | rfl | decide | omega | (simp only [List.length_map, and_true]; omega) | (simp only [List.length_map, List.length_set, and_true]; omega), ?_⟩)
      try trivial
  · have n1 : k ≠ 0 := fun h => hok (h1.1.1 h)
    have n2 : l ≠ 0 := fun h => hok (h2.1.1 h)
    rcases k1 with rfl | ⟨rfl, rfl | rfl⟩
    · exact absurd rfl n1
    all_goals
      rcases k2 with rfl | ⟨rfl, rfl | rfl⟩
      · exact absurd rfl n2
      all_goals
        simp only [AH.SD, AH.wpOp, AOp.call?, AOp.next?, bstep, AOp.map, Opd.ev, tget, argTm, evs, AV.cells, St.eff, St.put, applyWr, mset, terase, pureE, unAV, intOp, binAV, fill, mget, AH.rowAt, AH.part, retQ, rvs, retV, AH.splice, AH.sliceElems, AH.bytesOf, AH.strOp, AH.bound, AH.addLog, AH.missQ, AH.minmaxAV, AH.wpOpD, AH.readOf, AH.mapAt, AH.iterAt, Nat.reduceBEq, Nat.reduceAdd, Nat.reduceLT, ↓reduceIte, Nat.reduceEqDiff, Nat.reduceLeDiff, Nat.reduceSub, Nat.reduceMul, Int.reduceSub, Int.reduceToNat, Int.reduceBEq, Int.reduceBNe, Int.reduceLT, Int.reduceGT, Int.reduceLE, Int.reduceGE, Int.reduceNeg, Int.reduceAdd, addT_eq, subT_eq, scaleT_eq, goodT_eq, fitsT_eq, lessT_eq, raddT_eq, rsubT_eq, rscaleT_eq, noneT_eq, vecE, vecK, V4.cells_eq, V4.av, V4.eta, errA_nil, kindT_nil, kindT_fault, kindQ_1, kindQ_4, asU_of, asQ_some, eqFlat_vec, eqV_self, kindT_err, bne_self_eq_false, sumA, sumM, sumU_33, sumU_35, sumU_36, hy]
        repeat (refine ⟨by first | rfl | decide | omega | (simp only [List.length_map, and_true]; omega) | (simp only [List.length_map, List.length_set, and_true]; omega), ?_⟩)
        try trivial

end Go.Proofs.YtkbjfhkhbcgkgaaDoor.B01
