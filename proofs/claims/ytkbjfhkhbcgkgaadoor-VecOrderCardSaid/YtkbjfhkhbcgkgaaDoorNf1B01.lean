import Derived.Test.YtkbjfhkhbcgkgaaDoorFVecB01
open Go AH
set_option linter.unusedSimpArgs false
set_option maxRecDepth 100000
namespace Go.Proofs.YtkbjfhkhbcgkgaaDoor.B01

/-- Functions of one slice that make blocks. -/
def nf1 {α : Type} (k : Nat) (c : Cod α) (f : List α → AV) (h : List α → Mem) : NF := fun args rows => match args, rows with
  | [.slc i1 j1 n1 q1], [(w1, es1)] => match c.decL es1 with
    | some l1 => bif i1 == 0 && (j1 == 0 && (q1.isNone && (w1 == k && (n1 == l1.length && decide (n1 ≤ 1048576))))) then some (f l1, h l1) else none
    | none => none
  | _, _ => none

theorem nf1_ok {α : Type} {g : FuncId} {k : Nat} {c : Cod α} {f : List α → AV} {h : List α → Mem} (he : S0.errs ≠ [])
    (H : ∀ l, l.length ≤ 1048576 → (f l).inB (fun j => decide (1 ≤ j)) = true ∧ (h l).all (blkIn fun j => decide (1 ≤ j)) = true ∧ (h l).all rwB = true ∧
      CallA1 S0 g [.slc 0 0 l.length none] [some (.row true k (l.map c.enc))] fun r m' => r = f l ∧ m' = [some (.row true k (l.map c.enc))] ++ h l) :
    CallF S0 g (utN [k] (nf1 k c f h)) := by
  refine utN_ok he fun args rows v news e => ?_
  unfold nf1 at e
  split at e
  · rename_i i1 j1 n1 q1 w1 es1
    split at e
    · rename_i l1 h1
      cases hc : i1 == 0 && (j1 == 0 && (q1.isNone && (w1 == k && (n1 == l1.length && decide (n1 ≤ 1048576))))) with
      | false => rw [hc] at e; cases e
      | true =>
        rw [hc] at e
        simp only [cond_true, Option.some.injEq, Prod.mk.injEq] at e
        obtain ⟨rfl, rfl⟩ := e
        simp only [Bool.and_eq_true, beq_iff_eq, decide_eq_true_eq] at hc
        obtain ⟨rfl, rfl, hp1, rfl, rfl, hb1⟩ := hc
        have : q1 = none := by simpa using hp1
        subst this
        rw [c.decL_ok h1]
        exact H l1 hb1
    · cases e
  · cases e

theorem nf1_eq {α : Type} {k : Nat} {c : Cod α} {f : List α → AV} {h : List α → Mem} {id ix n : Nat} {p : Option Nat} {m : Mem} {es : List (List AV)} {l : List α}
    (hM : rowE (mget m) id = some (k, es)) (hs : (es.drop ix).take n = l.map c.enc) (hle : ix + n ≤ es.length) (hb : n ≤ 1048576) :
    utN [k] (nf1 k c f h) [.slc id ix n p] m = some ((f l).ren (shift m.length 1), m ++ newOnes (shift m.length 1) (h l)) := by
  obtain ⟨ro, hM⟩ := rowE_some hM
  have hn : n = l.length := by
    have := congrArg List.length hs
    rw [List.length_take, List.length_drop, List.length_map] at this
    omega
  have hv : vw (mget m) [k] [.slc id ix n p] 0 = some ([.slc 0 0 n none], [(k, l.map c.enc)], [id]) := by
    simp only [vw, hM, beq_self_eq_true, hle, decide_true, hs, c.all_flat, Bool.and_self, cond_true, Option.map_some]
  simp only [utN, hv, useN, nf1, c.decL_map]
  subst hn
  simp [hb]

end Go.Proofs.YtkbjfhkhbcgkgaaDoor.B01
