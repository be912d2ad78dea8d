import Derived.Test.YtdjcpmdjodhfeaaDoorFitBA16
open Go AH
set_option linter.unusedSimpArgs false
namespace Go.Proofs.YtdjcpmdjodhfeaaDoor.A16

theorem out_flat (out : List Int) : (outM out).all (blkIn fun j => decide (2 ≤ j)) = true ∧ (outM out).all rwB = true ∧ ∀ ρ, newOnes ρ (outM out) = outM out := by
  cases out with
  | nil => exact ⟨rfl, rfl, fun _ => rfl⟩
  | cons a r =>
    refine ⟨?_, rfl, fun ρ => ?_⟩
    · have := cInt.all_in (fun j => decide (2 ≤ j)) (a :: r)
      simp only [outM, List.all_cons, List.all_nil, Bool.and_true, blkIn, Blk.inB]
      exact this
    · have := cInt.map_rens ρ (a :: r)
      simp only [outM, newOnes, Option.map_some, Blk.ren]
      rw [show (a :: r).map intC = (a :: r).map cInt.enc from rfl, this]

theorem outV_ren (n : Nat) (out : List Int) : (outV 2 out).ren (shift n 2) = outV n out ∧ (outV 2 out).inB (fun j => decide (2 ≤ j)) = true := by
  cases out with
  | nil => exact ⟨rfl, rfl⟩
  | cons a r => exact ⟨by simp [outV, AV.ren, shift], rfl⟩

theorem allA_ren (l : List Sp) (ns : List V4) (n : Nat) : (allA l ns 2).ren (shift n 2) = allA l ns n ∧ (allA l ns 2).inB (fun j => decide (2 ≤ j)) = true := by
  unfold allA
  cases allS l ns ns.length with
  | none => exact ⟨rfl, rfl⟩
  | some x =>
    obtain ⟨a, out⟩ := x
    obtain ⟨h1, h2⟩ := outV_ren n out
    simp only [AV.ren, AV.rens, h1, AV.inB, AV.insB, h2, Bool.and_self, and_self]

theorem allM_flat (l : List Sp) (ns : List V4) : (allM l ns).all (blkIn fun j => decide (2 ≤ j)) = true ∧ (allM l ns).all rwB = true ∧ ∀ ρ, newOnes ρ (allM l ns) = allM l ns := by
  unfold allM
  cases allS l ns ns.length with
  | none => exact ⟨rfl, rfl, fun _ => rfl⟩
  | some x => exact out_flat x.2

def allU : UT := utN [5, 4] (nf2 5 4 cSp cV (fun l ns => allA l ns 2) allM)
theorem allU_ok : CallF S0 11 allU := nf2_ok errs0 fun l ns hl hn => ⟨(allA_ren l ns 0).2, (allM_flat l ns).1, (allM_flat l ns).2.1, all_ok l ns hl hn⟩
theorem allU_of {l : List Sp} {ns : List V4} {m : Mem} {id1 ix1 n1 id2 ix2 n2 : Nat} {p1 p2 : Option Nat} {es1 es2 : List (List AV)}
    (hM1 : rowE (mget m) id1 = some (5, es1)) (hM2 : rowE (mget m) id2 = some (4, es2)) (hs1 : (es1.drop ix1).take n1 = l.map Sp.cells) (hs2 : (es2.drop ix2).take n2 = ns.map V4.cells) (hle1 : ix1 + n1 ≤ es1.length) (hle2 : ix2 + n2 ≤ es2.length) (hb1 : n1 ≤ 1048576) (hb2 : n2 ≤ 1048576) :
    allU [.slc id1 ix1 n1 p1, .slc id2 ix2 n2 p2] m = some (allA l ns m.length, m ++ allM l ns) := by
  rw [allU, nf2_eq (c1 := cSp) (c2 := cV) (l1 := l) (l2 := ns) hM1 hM2 hs1 hs2 hle1 hle2 hb1 hb2, (allA_ren l ns _).1, (allM_flat l ns).2.2]

theorem allU_eq {l : List Sp} {ns : List V4} {m : Mem} {id1 id2 : Nat} {p1 p2 : Option Nat} (hM1 : rowE (mget m) id1 = some (5, l.map Sp.cells)) (hM2 : rowE (mget m) id2 = some (4, ns.map V4.cells)) (hb1 : l.length ≤ 1048576) (hb2 : ns.length ≤ 1048576) :
    allU [.slc id1 0 l.length p1, .slc id2 0 ns.length p2] m = some (allA l ns m.length, m ++ allM l ns) :=
  allU_of hM1 hM2 (by rw [List.drop_zero]; exact take_map_len _ _) (by rw [List.drop_zero]; exact take_map_len _ _) (by simp) (by simp) hb1 hb2

/-- Nothing fits where there is no best one. -/
theorem bestF_none {l : List Sp} {n : V4} : ∀ {i : Nat}, (bestF l n i).1 = -1 → ∀ j (hj : j < l.length), j < i → fit l[j].v n = false
  | 0, _, j, _, h => absurd h (Nat.not_lt_zero _)
  | i + 1, h, j, hj, hji => by
    by_cases hil : i < l.length
    · rw [bestF, List.getElem?_eq_getElem hil] at h
      simp only at h
      cases hf : fit l[i].v n with
      | false =>
        rw [hf] at h
        simp only [Bool.false_and, cond_false] at h
        by_cases e : j = i
        · subst e; exact hf
        · exact bestF_none h j hj (by omega)
      | true =>
        rw [hf] at h
        cases hc : ((bestF l n i).1 == -1 || betterV l[i] (subR l[i].v n) (l.getD (bestF l n i).1.toNat ⟨0, .zero⟩) (bestF l n i).2) with
        | true => rw [hc] at h; simp at h
        | false =>
          rw [hc] at h
          simp only [Bool.and_false, cond_false] at h
          rw [h] at hc
          simp at hc
    · rw [bestF, List.getElem?_eq_none (by omega)] at h
      exact bestF_none h j hj (by omega)

theorem good_iff (v : V4) : good v = true ↔ (0 ≤ v.a ∧ v.a ≤ 1099511627776) ∧ (0 ≤ v.b ∧ v.b ≤ 1099511627776) ∧ (0 ≤ v.c ∧ v.c ≤ 1099511627776) ∧ (0 ≤ v.d ∧ v.d ≤ 1099511627776) := by
  simp only [good, V4.l, List.any_cons, List.any_nil, Bool.or_false, Bool.not_eq_true', Bool.or_eq_false_iff, bad, decide_eq_false_iff_not]
  omega

theorem fits_iff (x y : V4) : fitsV x y = true ↔ x.a ≤ y.a ∧ x.b ≤ y.b ∧ x.c ≤ y.c ∧ x.d ≤ y.d := by
  simp only [fitsV, Bool.not_eq_true', Bool.or_eq_false_iff, decide_eq_false_iff_not]
  omega

theorem fits_fit {v n : V4} (hv : good v = true) (hn : good n = true) (h : fitsV n v = true) : fit v n = true := by
  have hs : good (subV v n) = true := by
    rw [good_iff] at hv hn ⊢
    rw [fits_iff] at h
    simp only [subV, w64, IntKind.wrap_i64]
    omega
  simp only [fit, subK, madeK, hv, hn, hs, Bool.and_self, cond_true, beq_self_eq_true]

theorem failAt_lt {l : List Sp} {ns : List V4} : ∀ {n : Nat}, 0 < n → failAt l ns n < n
  | n + 1, _ => by
    unfold failAt
    cases hq : allS l ns n with
    | some x => simp
    | none =>
      cases n with
      | zero => simp [allS] at hq
      | succ n =>
        have := failAt_lt (l := l) (ns := ns) (n := n + 1) (by omega)
        simp only
        omega

/-- The first one goes where it fits best. -/
theorem all_head {l : List Sp} {n : V4} {ns : List V4} : ∀ {i : Nat} {x : List Sp × List Int}, allS l (n :: ns) (i + 1) = some x → ∃ r, x.2 = idB l n :: r
  | 0, x, h => by
    simp only [allS, List.getElem?_cons_zero] at h
    cases hb : bestI l n == -1 with
    | true => rw [hb] at h; cases h
    | false =>
      rw [hb] at h
      simp only [cond_false, Option.some.injEq] at h
      subst h
      exact ⟨[], rfl⟩
  | i + 1, x, h => by
    rw [allS] at h
    cases hq : allS l (n :: ns) (i + 1) with
    | none => rw [hq] at h; cases h
    | some y =>
      obtain ⟨r, hr⟩ := all_head hq
      obtain ⟨l', out⟩ := y
      simp only at hr
      rw [hq] at h
      split at h
      · rename_i l2 o2 n2 h1 h2
        simp only [Option.some.injEq, Prod.mk.injEq] at h1
        obtain ⟨rfl, rfl⟩ := h1
        cases hb : bestI l' n2 == -1 with
        | true => rw [hb] at h; cases h
        | false =>
          rw [hb] at h
          simp only [cond_false, Option.some.injEq] at h
          subst h
          exact ⟨r ++ [idB l' n2], by simp [hr]⟩
      · cases h
        exact ⟨r, hr⟩

theorem all_one {l : List Sp} {n : V4} : allS l [n] 1 = bif bestI l n == -1 then none else some (putB l n, [idB l n]) := rfl

end Go.Proofs.YtdjcpmdjodhfeaaDoor.A16
