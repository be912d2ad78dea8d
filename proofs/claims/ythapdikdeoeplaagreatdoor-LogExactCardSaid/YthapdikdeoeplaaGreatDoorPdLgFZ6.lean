import Derived.Test.YthapdikdeoeplaaGreatDoorPcRefDZ6
import Derived.Test.YthapdikdeoeplaaGreatDoorPbNf1Z6
import Derived.Test.YthapdikdeoeplaaGreatDoorPaIsTZ6
section
set_option linter.unusedVariables false
set_option linter.unnecessarySimpa false
open Go AH
set_option linter.unusedSimpArgs false
set_option maxRecDepth 100000
namespace Go.Proofs.YthapdikdeoeplaaGreatDoor.Z6
theorem okRd5 : CtxOK S0 (ctxE S0 [(53, rnumT), (63, rvalT), (22, rbksN)] [] [(22, rbksT)]) := ctxE_ok ⟨rnumT_ok, rvalT_ok, rbksN_ok, trivial⟩ trivial ⟨rbksT_ok, trivial⟩ mixed
def rrA (x : Rd) : AV := .tup [.str x.t, .int .i64 x.q, .int .i64 x.n, .int .i64 x.bad]
theorem rowG {l : List ByteArray} {i : Nat} {x : ByteArray} (h : l[i]? = some x) : (l.map strC).getD i [] = [.str x] := by
  rw [List.getD_eq_getElem?_getD, List.getElem?_map, h]; rfl
theorem strsR_in (X : List ByteArray) (p : Nat → Bool) : (X.map strC).all (AV.insB p) = true := by
  simp only [List.all_eq_true, List.mem_map]
  rintro x ⟨y, _, rfl⟩; rfl
theorem strsR_ren (X : List ByteArray) (ρ : Nat → Nat) : (X.map strC).map (AV.rens ρ) = X.map strC := by
  rw [List.map_map]; rfl
def r5a (l : List ByteArray) (q : Int) (n : Nat) (x : Nat × ByteArray) : St := ⟨[(9, .int .i64 x.1), (8, .str x.2), (7, .int .i64 n), (6, .int .i64 q), (0, .slc 0 0 l.length none)], [some (.row true 1 (l.map strC))]⟩
def r5b (l : List ByteArray) (q : Int) (n k : Nat) (acc : ByteArray) (i : Nat) : St := ⟨[(13, .int .i64 i), (11, .slc 1 0 n none), (10, .int .i64 k), (8, .str acc), (7, .int .i64 n), (6, .int .i64 q), (0, .slc 0 0 l.length none)], [some (.row true 1 (l.map strC)), some (.row false 1 ((blkL q (datT acc k) n).map strC))]⟩
set_option maxHeartbeats 4000000 in
theorem rread_ok (l : List ByteArray) (hl : l.length ≤ 1048576) : CallA1 S0 46 [.slc 0 0 l.length none] [some (.row true 1 (l.map strC))] fun r _ => r = rrA (rdZ l) := by
  refine fun_sound okRd5 Tryz.func46 c46 ?_
  unfold wpF F46
  rcases Nat.eq_zero_or_pos l.length with hz | hpos
  · have hn : l = [] := List.eq_nil_of_length_eq_zero hz
    subst hn
    have hz := rdZ_no (l := []) rfl
    simp only [AH.SD, AH.SE, AOp.call?, AOp.next?, bstep, AV.cells, unAV, binAV, retQ, retV, AH.sliceElems, AH.bytesOf, AH.strOp, AH.bound, AH.missQ, AH.minmaxAV, AH.readOf, AH.effOf, Nat.reduceBEq, Nat.reduceAdd, Nat.reduceLT, ↓reduceIte, Nat.reduceEqDiff, Nat.reduceLeDiff, Nat.reduceSub, Nat.reduceMul, Int.reduceSub, Int.reduceToNat, Int.reduceBEq, Int.reduceBNe, Int.reduceLT, Int.reduceGT, Int.reduceLE, Int.reduceGE, Int.reduceNeg, Int.reduceAdd, AH.SP, AH.PD, AV.inB, vstep, vw, shift, newOnes, rowsM, blkIn, rwB, @flat_lts, AV.lt, AV.lts, Nat.sub_self, AH.SO, List.map_nil, hz, rrA]
  · obtain ⟨s, hs⟩ : ∃ s, l[0]? = some s := ⟨l[0], List.getElem?_eq_getElem hpos⟩
    have hfz : firZ l = firS s := by
      cases l with
      | nil => cases hpos
      | cons x r => simp at hs; subst hs; rfl
    have g0 := rowG hs
    have hl0 : ((l.length : Int) == 0) = false := by simp only [beq_eq_false_iff_ne]; omega
    cases h64 : ((s.size : Int) != 64)
    rotate_left
    · have hz := rdZ_no (l := l) (by rw [hfz, firS, h64]; rfl)
      simp only [AH.SD, AH.SE, AOp.call?, AOp.next?, bstep, AV.cells, unAV, binAV, retQ, retV, AH.sliceElems, AH.bytesOf, AH.strOp, AH.bound, AH.missQ, AH.minmaxAV, AH.readOf, AH.effOf, Nat.reduceBEq, Nat.reduceAdd, Nat.reduceLT, ↓reduceIte, Nat.reduceEqDiff, Nat.reduceLeDiff, Nat.reduceSub, Nat.reduceMul, Int.reduceSub, Int.reduceToNat, Int.reduceBEq, Int.reduceBNe, Int.reduceLT, Int.reduceGT, Int.reduceLE, Int.reduceGE, Int.reduceNeg, Int.reduceAdd, AH.SP, AH.PD, AV.inB, vstep, vw, shift, newOnes, rowsM, blkIn, rwB, @flat_lts, AV.lt, AV.lts, Nat.sub_self, AH.SO, h64, hl0, g0, hz, rrA, List.length_map]
      try repeat ((with_reducible refine And.intro ?_ ?_); focus (first | rfl | decide | omega | (simp only [List.length_map, and_true]; omega) | (simp only [List.length_map, List.length_set, and_true]; omega)))
      try simp only [AH.SD, AH.SE, AOp.call?, AOp.next?, bstep, AV.cells, unAV, binAV, retQ, retV, AH.sliceElems, AH.bytesOf, AH.strOp, AH.bound, AH.missQ, AH.minmaxAV, AH.readOf, AH.effOf, Nat.reduceBEq, Nat.reduceAdd, Nat.reduceLT, ↓reduceIte, Nat.reduceEqDiff, Nat.reduceLeDiff, Nat.reduceSub, Nat.reduceMul, Int.reduceSub, Int.reduceToNat, Int.reduceBEq, Int.reduceBNe, Int.reduceLT, Int.reduceGT, Int.reduceLE, Int.reduceGE, Int.reduceNeg, Int.reduceAdd, AH.SP, AH.PD, AV.inB, vstep, vw, shift, newOnes, rowsM, blkIn, rwB, @flat_lts, AV.lt, AV.lts, Nat.sub_self, AH.SO, h64, hl0, g0, hz, rrA, List.length_map]
      exact hpos
    · have hs64 : s.size = 64 := by simp only [bne_eq_false_iff_eq] at h64; omega
      have v1 : okVal (s.extract 56 60) := .inr (by rw [ByteArray.size_extract]; omega)
      have v2 : okVal (s.extract 60 62) := .inl (by rw [ByteArray.size_extract]; omega)
      have v3 : okVal (s.extract 62 64) := .inl (by rw [ByteArray.size_extract]; omega)
      have hr := first_ref hs64
      obtain ⟨w1, w2⟩ := first_val hs64
      rw [← hfz] at hr w1 w2
      cases d1 : decide (valS (s.extract 56 60) < 1)
      rotate_left
      · have hz := rdZ_no (l := l) (by rw [hr, d1]; rfl)
        simp only [AH.SD, AH.SE, AOp.call?, AOp.next?, bstep, AV.cells, unAV, binAV, retQ, retV, AH.sliceElems, AH.bytesOf, AH.strOp, AH.bound, AH.missQ, AH.minmaxAV, AH.readOf, AH.effOf, Nat.reduceBEq, Nat.reduceAdd, Nat.reduceLT, ↓reduceIte, Nat.reduceEqDiff, Nat.reduceLeDiff, Nat.reduceSub, Nat.reduceMul, Int.reduceSub, Int.reduceToNat, Int.reduceBEq, Int.reduceBNe, Int.reduceLT, Int.reduceGT, Int.reduceLE, Int.reduceGE, Int.reduceNeg, Int.reduceAdd, AH.SP, AH.PD, AV.inB, vstep, vw, shift, newOnes, rowsM, blkIn, rwB, @flat_lts, AV.lt, AV.lts, Nat.sub_self, AH.SO, h64, hl0, rvalT_p v1, rvalT_p v2, rvalT_p v3, g0, List.length_map, hs64, d1, hz, rrA]
        try repeat ((with_reducible refine And.intro ?_ ?_); focus (first | rfl | decide | omega | (simp only [List.length_map, and_true]; omega) | (simp only [List.length_map, List.length_set, and_true]; omega)))
        exact hpos
      · cases d2 : decide (valS (s.extract 56 60) > 2147483647)
        rotate_left
        · have hz := rdZ_no (l := l) (by rw [hr, d1, d2]; rfl)
          simp only [AH.SD, AH.SE, AOp.call?, AOp.next?, bstep, AV.cells, unAV, binAV, retQ, retV, AH.sliceElems, AH.bytesOf, AH.strOp, AH.bound, AH.missQ, AH.minmaxAV, AH.readOf, AH.effOf, Nat.reduceBEq, Nat.reduceAdd, Nat.reduceLT, ↓reduceIte, Nat.reduceEqDiff, Nat.reduceLeDiff, Nat.reduceSub, Nat.reduceMul, Int.reduceSub, Int.reduceToNat, Int.reduceBEq, Int.reduceBNe, Int.reduceLT, Int.reduceGT, Int.reduceLE, Int.reduceGE, Int.reduceNeg, Int.reduceAdd, AH.SP, AH.PD, AV.inB, vstep, vw, shift, newOnes, rowsM, blkIn, rwB, @flat_lts, AV.lt, AV.lts, Nat.sub_self, AH.SO, h64, hl0, rvalT_p v1, rvalT_p v2, rvalT_p v3, g0, List.length_map, hs64, d1, d2, hz, rrA]
          try repeat ((with_reducible refine And.intro ?_ ?_); focus (first | rfl | decide | omega | (simp only [List.length_map, and_true]; omega) | (simp only [List.length_map, List.length_set, and_true]; omega)))
          exact hpos
        · cases d3 : valS (s.extract 60 62) != 0
          rotate_left
          · have hz := rdZ_no (l := l) (by rw [hr, d1, d2, d3]; rfl)
            simp only [AH.SD, AH.SE, AOp.call?, AOp.next?, bstep, AV.cells, unAV, binAV, retQ, retV, AH.sliceElems, AH.bytesOf, AH.strOp, AH.bound, AH.missQ, AH.minmaxAV, AH.readOf, AH.effOf, Nat.reduceBEq, Nat.reduceAdd, Nat.reduceLT, ↓reduceIte, Nat.reduceEqDiff, Nat.reduceLeDiff, Nat.reduceSub, Nat.reduceMul, Int.reduceSub, Int.reduceToNat, Int.reduceBEq, Int.reduceBNe, Int.reduceLT, Int.reduceGT, Int.reduceLE, Int.reduceGE, Int.reduceNeg, Int.reduceAdd, AH.SP, AH.PD, AV.inB, vstep, vw, shift, newOnes, rowsM, blkIn, rwB, @flat_lts, AV.lt, AV.lts, Nat.sub_self, AH.SO, h64, hl0, rvalT_p v1, rvalT_p v2, rvalT_p v3, g0, List.length_map, hs64, d1, d2, d3, hz, rrA]
            try repeat ((with_reducible refine And.intro ?_ ?_); focus (first | rfl | decide | omega | (simp only [List.length_map, and_true]; omega) | (simp only [List.length_map, List.length_set, and_true]; omega)))
            exact hpos
          · cases d4 : decide (valS (s.extract 62 64) < 1)
            rotate_left
            · have hz := rdZ_no (l := l) (by rw [hr, d1, d2, d3, d4]; rfl)
              simp only [AH.SD, AH.SE, AOp.call?, AOp.next?, bstep, AV.cells, unAV, binAV, retQ, retV, AH.sliceElems, AH.bytesOf, AH.strOp, AH.bound, AH.missQ, AH.minmaxAV, AH.readOf, AH.effOf, Nat.reduceBEq, Nat.reduceAdd, Nat.reduceLT, ↓reduceIte, Nat.reduceEqDiff, Nat.reduceLeDiff, Nat.reduceSub, Nat.reduceMul, Int.reduceSub, Int.reduceToNat, Int.reduceBEq, Int.reduceBNe, Int.reduceLT, Int.reduceGT, Int.reduceLE, Int.reduceGE, Int.reduceNeg, Int.reduceAdd, AH.SP, AH.PD, AV.inB, vstep, vw, shift, newOnes, rowsM, blkIn, rwB, @flat_lts, AV.lt, AV.lts, Nat.sub_self, AH.SO, h64, hl0, rvalT_p v1, rvalT_p v2, rvalT_p v3, g0, List.length_map, hs64, d1, d2, d3, d4, hz, rrA]
              try repeat ((with_reducible refine And.intro ?_ ?_); focus (first | rfl | decide | omega | (simp only [List.length_map, and_true]; omega) | (simp only [List.length_map, List.length_set, and_true]; omega)))
              exact hpos
            · cases d5 : decide (valS (s.extract 62 64) > 108)
              rotate_left
              · have hz := rdZ_no (l := l) (by rw [hr, d1, d2, d3, d4, d5]; rfl)
                simp only [AH.SD, AH.SE, AOp.call?, AOp.next?, bstep, AV.cells, unAV, binAV, retQ, retV, AH.sliceElems, AH.bytesOf, AH.strOp, AH.bound, AH.missQ, AH.minmaxAV, AH.readOf, AH.effOf, Nat.reduceBEq, Nat.reduceAdd, Nat.reduceLT, ↓reduceIte, Nat.reduceEqDiff, Nat.reduceLeDiff, Nat.reduceSub, Nat.reduceMul, Int.reduceSub, Int.reduceToNat, Int.reduceBEq, Int.reduceBNe, Int.reduceLT, Int.reduceGT, Int.reduceLE, Int.reduceGE, Int.reduceNeg, Int.reduceAdd, AH.SP, AH.PD, AV.inB, vstep, vw, shift, newOnes, rowsM, blkIn, rwB, @flat_lts, AV.lt, AV.lts, Nat.sub_self, AH.SO, h64, hl0, rvalT_p v1, rvalT_p v2, rvalT_p v3, g0, List.length_map, hs64, d1, d2, d3, d4, d5, hz, rrA]
                try repeat ((with_reducible refine And.intro ?_ ?_); focus (first | rfl | decide | omega | (simp only [List.length_map, and_true]; omega) | (simp only [List.length_map, List.length_set, and_true]; omega)))
                exact hpos
              · have hf : (firZ l).2.2 = true := by rw [hr, d1, d2, d3, d4, d5]; rfl
                obtain ⟨q1, q2, q3, q4⟩ := firZ_in hf
                rw [w1] at q1 q2
                rw [w2] at q3 q4
                obtain ⟨n, hn⟩ := Int.eq_ofNat_of_zero_le (by omega : 0 ≤ valS (s.extract 62 64))
                obtain ⟨q, hq⟩ : ∃ q, valS (s.extract 56 60) = q := ⟨_, rfl⟩
                rw [hn] at d4 d5 q3 q4 w2
                rw [hq] at d1 d2 q1 q2 w1
                have hF : firZ l = (q, (n : Int), true) := by rw [← w1, ← w2, ← hf]
                simp only [AH.SD, AH.SE, AOp.call?, AOp.next?, bstep, AV.cells, unAV, binAV, retQ, retV, AH.sliceElems, AH.bytesOf, AH.strOp, AH.bound, AH.missQ, AH.minmaxAV, AH.readOf, AH.effOf, Nat.reduceBEq, Nat.reduceAdd, Nat.reduceLT, ↓reduceIte, Nat.reduceEqDiff, Nat.reduceLeDiff, Nat.reduceSub, Nat.reduceMul, Int.reduceSub, Int.reduceToNat, Int.reduceBEq, Int.reduceBNe, Int.reduceLT, Int.reduceGT, Int.reduceLE, Int.reduceGE, Int.reduceNeg, Int.reduceAdd, AH.SP, AH.PD, AV.inB, vstep, vw, shift, newOnes, rowsM, blkIn, rwB, @flat_lts, AV.lt, AV.lts, Nat.sub_self, AH.SO, h64, hl0, rvalT_p v1, rvalT_p v2, rvalT_p v3, g0, List.length_map, hs64, hn, hq, d1, d2, d3, d4, d5]
                try repeat ((with_reducible refine And.intro ?_ ?_); focus (first | rfl | decide | omega | (simp only [List.length_map, and_true]; omega) | (simp only [List.length_map, List.length_set, and_true]; omega)))
                try simp only [AH.SD, AH.SE, AOp.call?, AOp.next?, bstep, AV.cells, unAV, binAV, retQ, retV, AH.sliceElems, AH.bytesOf, AH.strOp, AH.bound, AH.missQ, AH.minmaxAV, AH.readOf, AH.effOf, Nat.reduceBEq, Nat.reduceAdd, Nat.reduceLT, ↓reduceIte, Nat.reduceEqDiff, Nat.reduceLeDiff, Nat.reduceSub, Nat.reduceMul, Int.reduceSub, Int.reduceToNat, Int.reduceBEq, Int.reduceBNe, Int.reduceLT, Int.reduceGT, Int.reduceLE, Int.reduceGE, Int.reduceNeg, Int.reduceAdd, AH.SP, AH.PD, AV.inB, vstep, vw, shift, newOnes, rowsM, blkIn, rwB, @flat_lts, AV.lt, AV.lts, Nat.sub_self, AH.SO, h64, hl0, rvalT_p v1, rvalT_p v2, rvalT_p v3, g0, List.length_map, hs64, hn, hq, d1, d2, d3, d4, d5]
                try repeat ((with_reducible refine And.intro ?_ ?_); focus (first | rfl | decide | omega | (simp only [List.length_map, and_true]; omega) | (simp only [List.length_map, List.length_set, and_true]; omega)))
                clear hr w1 w2 hf
                refine loop_do [0] [9, 8, 7, 6, 0] [] (α := Nat × ByteArray) (fun x => n - x.1) (r5a l q n) (fun x => x.1 ≤ n ∧ x.2.size = x.1 * 56 ∧ joinS l q n (n - x.1) x.1 x.2 = jnZ l q n) (0, ⟨#[]⟩) ⟨Nat.zero_le _, rfl, rfl⟩ (by simp only [AH.SD, AH.SE, AOp.call?, AOp.next?, bstep, AV.cells, unAV, binAV, retQ, retV, AH.sliceElems, AH.bytesOf, AH.strOp, AH.bound, AH.missQ, AH.minmaxAV, AH.readOf, AH.effOf, Nat.reduceBEq, Nat.reduceAdd, Nat.reduceLT, ↓reduceIte, Nat.reduceEqDiff, Nat.reduceLeDiff, Nat.reduceSub, Nat.reduceMul, Int.reduceSub, Int.reduceToNat, Int.reduceBEq, Int.reduceBNe, Int.reduceLT, Int.reduceGT, Int.reduceLE, Int.reduceGE, Int.reduceNeg, Int.reduceAdd, AH.SP, AH.PD, AV.inB, vstep, r5a, strsR_in, strsR_ren]) ?_
                rintro X ⟨i, acc⟩ ⟨hi, hsz, hj⟩ ih
                dsimp only at hi hsz hj
                cases hlt : decide ((i : Int) < (n : Int))
                rotate_left
                · have hi1 : i < n := by simp only [decide_eq_true_eq] at hlt; omega
                  have wi := wrapS (i := i) (by omega)
                  rw [show n - i = (n - (i + 1)) + 1 by omega, joinS] at hj
                  have eE : num4 q ++ num2 (i : Int) ++ num2 (n : Int) = endS q i n := by
                    rw [endS, u64_id (n := q) (by omega) (by omega), u64_id (n := (i : Int)) (by omega) (by omega), u64_id (n := (n : Int)) (by omega) (by omega)]
                  cases hx : l[i]? with
                  | none =>
                    have hge : decide ((i : Int) ≥ (l.length : Int)) = true := decide_eq_true (by have := List.getElem?_eq_none_iff.1 hx; omega)
                    have hb : badJ l q n i = true := by rw [badJ, hx]
                    rw [hb, cond_true] at hj
                    have hz := rdZ_bad (i := i) hF (by rw [← hj])
                    clear ih
                    simp only [AH.SD, AH.SE, AOp.call?, AOp.next?, bstep, AV.cells, unAV, binAV, retQ, retV, AH.sliceElems, AH.bytesOf, AH.strOp, AH.bound, AH.missQ, AH.minmaxAV, AH.readOf, AH.effOf, Nat.reduceBEq, Nat.reduceAdd, Nat.reduceLT, ↓reduceIte, Nat.reduceEqDiff, Nat.reduceLeDiff, Nat.reduceSub, Nat.reduceMul, Int.reduceSub, Int.reduceToNat, Int.reduceBEq, Int.reduceBNe, Int.reduceLT, Int.reduceGT, Int.reduceLE, Int.reduceGE, Int.reduceNeg, Int.reduceAdd, AH.SP, AH.PD, AV.inB, vstep, vw, shift, newOnes, rowsM, blkIn, rwB, @flat_lts, AV.lt, AV.lts, Nat.sub_self, AH.SO, r5a, hlt, hge, hz, rrA]
                    try repeat ((with_reducible refine And.intro ?_ ?_); focus (first | rfl | decide | omega | (simp only [List.length_map, and_true]; omega) | (simp only [List.length_map, List.length_set, and_true]; omega)))
                    try simp only [AH.SD, AH.SE, AOp.call?, AOp.next?, bstep, AV.cells, unAV, binAV, retQ, retV, AH.sliceElems, AH.bytesOf, AH.strOp, AH.bound, AH.missQ, AH.minmaxAV, AH.readOf, AH.effOf, Nat.reduceBEq, Nat.reduceAdd, Nat.reduceLT, ↓reduceIte, Nat.reduceEqDiff, Nat.reduceLeDiff, Nat.reduceSub, Nat.reduceMul, Int.reduceSub, Int.reduceToNat, Int.reduceBEq, Int.reduceBNe, Int.reduceLT, Int.reduceGT, Int.reduceLE, Int.reduceGE, Int.reduceNeg, Int.reduceAdd, AH.SP, AH.PD, AV.inB, vstep, vw, shift, newOnes, rowsM, blkIn, rwB, @flat_lts, AV.lt, AV.lts, Nat.sub_self, AH.SO, hz, rrA]
                    rfl
                  | some x =>
                    have hil : i < l.length := (List.getElem?_eq_some_iff.1 hx).1
                    have hge : decide ((i : Int) ≥ (l.length : Int)) = false := decide_eq_false (by omega)
                    have gi := rowG hx
                    cases hx64 : ((x.size : Int) != 64)
                    rotate_left
                    · have hb : badJ l q n i = true := by simp only [badJ, hx, hx64, Bool.true_or]
                      rw [hb, cond_true] at hj
                      have hz := rdZ_bad (i := i) hF (by rw [← hj])
                      clear ih
                      simp only [AH.SD, AH.SE, AOp.call?, AOp.next?, bstep, AV.cells, unAV, binAV, retQ, retV, AH.sliceElems, AH.bytesOf, AH.strOp, AH.bound, AH.missQ, AH.minmaxAV, AH.readOf, AH.effOf, Nat.reduceBEq, Nat.reduceAdd, Nat.reduceLT, ↓reduceIte, Nat.reduceEqDiff, Nat.reduceLeDiff, Nat.reduceSub, Nat.reduceMul, Int.reduceSub, Int.reduceToNat, Int.reduceBEq, Int.reduceBNe, Int.reduceLT, Int.reduceGT, Int.reduceLE, Int.reduceGE, Int.reduceNeg, Int.reduceAdd, AH.SP, AH.PD, AV.inB, vstep, vw, shift, newOnes, rowsM, blkIn, rwB, @flat_lts, AV.lt, AV.lts, Nat.sub_self, AH.SO, r5a, hlt, hge, gi, hx64, Int.toNat_natCast, List.length_map, hz, rrA]
                      try repeat ((with_reducible refine And.intro ?_ ?_); focus (first | rfl | decide | omega | (simp only [List.length_map, and_true]; omega) | (simp only [List.length_map, List.length_set, and_true]; omega)))
                      try simp only [AH.SD, AH.SE, AOp.call?, AOp.next?, bstep, AV.cells, unAV, binAV, retQ, retV, AH.sliceElems, AH.bytesOf, AH.strOp, AH.bound, AH.missQ, AH.minmaxAV, AH.readOf, AH.effOf, Nat.reduceBEq, Nat.reduceAdd, Nat.reduceLT, ↓reduceIte, Nat.reduceEqDiff, Nat.reduceLeDiff, Nat.reduceSub, Nat.reduceMul, Int.reduceSub, Int.reduceToNat, Int.reduceBEq, Int.reduceBNe, Int.reduceLT, Int.reduceGT, Int.reduceLE, Int.reduceGE, Int.reduceNeg, Int.reduceAdd, AH.SP, AH.PD, AV.inB, vstep, vw, shift, newOnes, rowsM, blkIn, rwB, @flat_lts, AV.lt, AV.lts, Nat.sub_self, AH.SO, hz, rrA]
                      rfl
                    · have hx1 : x.size = 64 := by simp only [bne_eq_false_iff_eq] at hx64; omega
                      cases hte : (x.extract 56 64).toList == (endS q i n).toList
                      · have hb : badJ l q n i = true := by rw [badJ, hx]; show ((x.size : Int) != 64 || !((x.extract 56 x.size).toList == (endS q i n).toList)) = _; rw [hx64, hx1, hte]; rfl
                        rw [hb, cond_true] at hj
                        have hz := rdZ_bad (i := i) hF (by rw [← hj])
                        clear ih
                        simp only [AH.SD, AH.SE, AOp.call?, AOp.next?, bstep, AV.cells, unAV, binAV, retQ, retV, AH.sliceElems, AH.bytesOf, AH.strOp, AH.bound, AH.missQ, AH.minmaxAV, AH.readOf, AH.effOf, Nat.reduceBEq, Nat.reduceAdd, Nat.reduceLT, ↓reduceIte, Nat.reduceEqDiff, Nat.reduceLeDiff, Nat.reduceSub, Nat.reduceMul, Int.reduceSub, Int.reduceToNat, Int.reduceBEq, Int.reduceBNe, Int.reduceLT, Int.reduceGT, Int.reduceLE, Int.reduceGE, Int.reduceNeg, Int.reduceAdd, AH.SP, AH.PD, AV.inB, vstep, vw, shift, newOnes, rowsM, blkIn, rwB, @flat_lts, AV.lt, AV.lts, Nat.sub_self, AH.SO, r5a, hlt, hge, gi, hx64, hx1, Int.toNat_natCast, List.length_map, rnumT_4, rnumT_2, eE, hte, hz, rrA]
                        try repeat ((with_reducible refine And.intro ?_ ?_); focus (first | rfl | decide | omega | (simp only [List.length_map, and_true]; omega) | (simp only [List.length_map, List.length_set, and_true]; omega)))
                        try simp only [AH.SD, AH.SE, AOp.call?, AOp.next?, bstep, AV.cells, unAV, binAV, retQ, retV, AH.sliceElems, AH.bytesOf, AH.strOp, AH.bound, AH.missQ, AH.minmaxAV, AH.readOf, AH.effOf, Nat.reduceBEq, Nat.reduceAdd, Nat.reduceLT, ↓reduceIte, Nat.reduceEqDiff, Nat.reduceLeDiff, Nat.reduceSub, Nat.reduceMul, Int.reduceSub, Int.reduceToNat, Int.reduceBEq, Int.reduceBNe, Int.reduceLT, Int.reduceGT, Int.reduceLE, Int.reduceGE, Int.reduceNeg, Int.reduceAdd, AH.SP, AH.PD, AV.inB, vstep, vw, shift, newOnes, rowsM, blkIn, rwB, @flat_lts, AV.lt, AV.lts, Nat.sub_self, AH.SO, hx1, Int.toNat_natCast, List.length_map, rnumT_4, rnumT_2, eE, hte, hz, rrA]
                        repeat ((with_reducible refine And.intro ?_ ?_); focus (first | rfl | decide | omega | (simp only [num4_sz, num2_sz, ByteArray.size_append, imax]; omega)))
                        rfl
                      · have hb : badJ l q n i = false := by rw [badJ, hx]; show ((x.size : Int) != 64 || !((x.extract 56 x.size).toList == (endS q i n).toList)) = _; rw [hx64, hx1, hte]; rfl
                        rw [hb, cond_false, hx, Option.getD_some] at hj
                        have hs0 : (x.extract 0 56).size = 56 := by rw [ByteArray.size_extract]; omega
                        have done := ih (i + 1, acc ++ x.extract 0 56) ⟨hi1, by rw [ByteArray.size_append, hs0, hsz]; omega, hj⟩ (show n - (i + 1) < n - i by omega)
                        simp only [r5a] at done
                        simp only [AH.SD, AH.SE, AOp.call?, AOp.next?, bstep, AV.cells, unAV, binAV, retQ, retV, AH.sliceElems, AH.bytesOf, AH.strOp, AH.bound, AH.missQ, AH.minmaxAV, AH.readOf, AH.effOf, Nat.reduceBEq, Nat.reduceAdd, Nat.reduceLT, ↓reduceIte, Nat.reduceEqDiff, Nat.reduceLeDiff, Nat.reduceSub, Nat.reduceMul, Int.reduceSub, Int.reduceToNat, Int.reduceBEq, Int.reduceBNe, Int.reduceLT, Int.reduceGT, Int.reduceLE, Int.reduceGE, Int.reduceNeg, Int.reduceAdd, AH.SP, AH.PD, AV.inB, vstep, vw, shift, newOnes, rowsM, blkIn, rwB, @flat_lts, AV.lt, AV.lts, Nat.sub_self, AH.SO, r5a, hlt, hge, gi, hx64, hx1, Int.toNat_natCast, List.length_map, rnumT_4, rnumT_2, eE, hte, wi]
                        try repeat ((with_reducible refine And.intro ?_ ?_); focus (first | rfl | decide | omega | (simp only [List.length_map, and_true]; omega) | (simp only [List.length_map, List.length_set, and_true]; omega)))
                        try simp only [AH.SD, AH.SE, AOp.call?, AOp.next?, bstep, AV.cells, unAV, binAV, retQ, retV, AH.sliceElems, AH.bytesOf, AH.strOp, AH.bound, AH.missQ, AH.minmaxAV, AH.readOf, AH.effOf, Nat.reduceBEq, Nat.reduceAdd, Nat.reduceLT, ↓reduceIte, Nat.reduceEqDiff, Nat.reduceLeDiff, Nat.reduceSub, Nat.reduceMul, Int.reduceSub, Int.reduceToNat, Int.reduceBEq, Int.reduceBNe, Int.reduceLT, Int.reduceGT, Int.reduceLE, Int.reduceGE, Int.reduceNeg, Int.reduceAdd, AH.SP, AH.PD, AV.inB, vstep, vw, shift, newOnes, rowsM, blkIn, rwB, @flat_lts, AV.lt, AV.lts, Nat.sub_self, AH.SO, hx1, gi, Int.toNat_natCast, List.length_map, rnumT_4, rnumT_2, eE, hte, wi]
                        try repeat ((with_reducible refine And.intro ?_ ?_); focus (first | rfl | decide | omega | (simp only [List.length_map, and_true]; omega) | (simp only [List.length_map, List.length_set, and_true]; omega)))
                        repeat ((with_reducible refine And.intro ?_ ?_); focus (first | rfl | decide | omega | (simp only [num4_sz, num2_sz, ByteArray.size_append, imax]; omega) | (rw [hs0, hsz, imax]; omega)))
                        refine gc_auto [0] [9, 8, 7, 6, 0] [] ?_
                        simp only [AH.SD, AH.SE, AOp.call?, AOp.next?, bstep, AV.cells, unAV, binAV, retQ, retV, AH.sliceElems, AH.bytesOf, AH.strOp, AH.bound, AH.missQ, AH.minmaxAV, AH.readOf, AH.effOf, Nat.reduceBEq, Nat.reduceAdd, Nat.reduceLT, ↓reduceIte, Nat.reduceEqDiff, Nat.reduceLeDiff, Nat.reduceSub, Nat.reduceMul, Int.reduceSub, Int.reduceToNat, Int.reduceBEq, Int.reduceBNe, Int.reduceLT, Int.reduceGT, Int.reduceLE, Int.reduceGE, Int.reduceNeg, Int.reduceAdd, AH.SP, AH.PD, AV.inB, vstep, strsR_in, strsR_ren]
                        exact done
                · have hi1 : n = i := by simp only [decide_eq_false_iff_not] at hlt; omega
                  subst hi1
                  rw [Nat.sub_self, joinS] at hj
                  clear ih
                  have hz := rdZ_join hF hj.symm
                  have v4 : okVal (acc.extract 0 4) := .inr (by rw [ByteArray.size_extract]; omega)
                  obtain ⟨k1, k2⟩ := valS_in v4
                  obtain ⟨k, hk⟩ := Int.eq_ofNat_of_zero_le k1
                  rw [hk] at k2
                  have w8 : IntKind.i64.wrap ((acc.size : Int) - 8) = (acc.size : Int) - 8 := by rw [IntKind.wrap_i64]; omega
                  have bad : (datZ acc).2 = false → rdZ l = ⟨⟨#[]⟩, 0, 0, 0⟩ := fun h => by rw [hz, h]; rfl
                  have hdz : ∀ a b : Bool, decide ((k : Int) > 6000) = a → decide ((k : Int) > (acc.size : Int) - 8) = b → datZ acc = bif a then (⟨#[]⟩, false) else bif b then (⟨#[]⟩, false) else (datT acc k, datQ acc k) := fun a b h1 h2 => by rw [datZ, hk, h1, h2, Int.toNat_natCast]
                  cases e1 : decide ((k : Int) > 6000)
                  rotate_left
                  · have hz' := bad (by rw [hdz _ _ e1 rfl]; rfl)
                    simp only [AH.SD, AH.SE, AOp.call?, AOp.next?, bstep, AV.cells, unAV, binAV, retQ, retV, AH.sliceElems, AH.bytesOf, AH.strOp, AH.bound, AH.missQ, AH.minmaxAV, AH.readOf, AH.effOf, Nat.reduceBEq, Nat.reduceAdd, Nat.reduceLT, ↓reduceIte, Nat.reduceEqDiff, Nat.reduceLeDiff, Nat.reduceSub, Nat.reduceMul, Int.reduceSub, Int.reduceToNat, Int.reduceBEq, Int.reduceBNe, Int.reduceLT, Int.reduceGT, Int.reduceLE, Int.reduceGE, Int.reduceNeg, Int.reduceAdd, AH.SP, AH.PD, AV.inB, vstep, vw, shift, newOnes, rowsM, blkIn, rwB, @flat_lts, AV.lt, AV.lts, Nat.sub_self, AH.SO, r5a, hlt, rvalT_p v4, hk, e1, hz', rrA]
                    try repeat ((with_reducible refine And.intro ?_ ?_); focus (first | rfl | decide | omega | (simp only [List.length_map, and_true]; omega) | (simp only [List.length_map, List.length_set, and_true]; omega)))
                    try simp only [AH.SD, AH.SE, AOp.call?, AOp.next?, bstep, AV.cells, unAV, binAV, retQ, retV, AH.sliceElems, AH.bytesOf, AH.strOp, AH.bound, AH.missQ, AH.minmaxAV, AH.readOf, AH.effOf, Nat.reduceBEq, Nat.reduceAdd, Nat.reduceLT, ↓reduceIte, Nat.reduceEqDiff, Nat.reduceLeDiff, Nat.reduceSub, Nat.reduceMul, Int.reduceSub, Int.reduceToNat, Int.reduceBEq, Int.reduceBNe, Int.reduceLT, Int.reduceGT, Int.reduceLE, Int.reduceGE, Int.reduceNeg, Int.reduceAdd, AH.SP, AH.PD, AV.inB, vstep, vw, shift, newOnes, rowsM, blkIn, rwB, @flat_lts, AV.lt, AV.lts, Nat.sub_self, AH.SO, rvalT_p v4, hk, e1, hz', rrA]
                    omega
                  · cases e2 : decide ((k : Int) > (acc.size : Int) - 8)
                    rotate_left
                    · have hz' := bad (by rw [hdz _ _ e1 e2]; rfl)
                      simp only [AH.SD, AH.SE, AOp.call?, AOp.next?, bstep, AV.cells, unAV, binAV, retQ, retV, AH.sliceElems, AH.bytesOf, AH.strOp, AH.bound, AH.missQ, AH.minmaxAV, AH.readOf, AH.effOf, Nat.reduceBEq, Nat.reduceAdd, Nat.reduceLT, ↓reduceIte, Nat.reduceEqDiff, Nat.reduceLeDiff, Nat.reduceSub, Nat.reduceMul, Int.reduceSub, Int.reduceToNat, Int.reduceBEq, Int.reduceBNe, Int.reduceLT, Int.reduceGT, Int.reduceLE, Int.reduceGE, Int.reduceNeg, Int.reduceAdd, AH.SP, AH.PD, AV.inB, vstep, vw, shift, newOnes, rowsM, blkIn, rwB, @flat_lts, AV.lt, AV.lts, Nat.sub_self, AH.SO, r5a, hlt, rvalT_p v4, hk, e1, e2, w8, hz', rrA]
                      try repeat ((with_reducible refine And.intro ?_ ?_); focus (first | rfl | decide | omega | (simp only [List.length_map, and_true]; omega) | (simp only [List.length_map, List.length_set, and_true]; omega)))
                      try simp only [AH.SD, AH.SE, AOp.call?, AOp.next?, bstep, AV.cells, unAV, binAV, retQ, retV, AH.sliceElems, AH.bytesOf, AH.strOp, AH.bound, AH.missQ, AH.minmaxAV, AH.readOf, AH.effOf, Nat.reduceBEq, Nat.reduceAdd, Nat.reduceLT, ↓reduceIte, Nat.reduceEqDiff, Nat.reduceLeDiff, Nat.reduceSub, Nat.reduceMul, Int.reduceSub, Int.reduceToNat, Int.reduceBEq, Int.reduceBNe, Int.reduceLT, Int.reduceGT, Int.reduceLE, Int.reduceGE, Int.reduceNeg, Int.reduceAdd, AH.SP, AH.PD, AV.inB, vstep, vw, shift, newOnes, rowsM, blkIn, rwB, @flat_lts, AV.lt, AV.lts, Nat.sub_self, AH.SO, rvalT_p v4, hk, e1, e2, w8, hz', rrA]
                      omega
                    · have e1' : k ≤ 6000 := by simp only [decide_eq_false_iff_not] at e1; omega
                      have e2' : 8 + k ≤ acc.size := by simp only [decide_eq_false_iff_not] at e2; omega
                      have wk : IntKind.i64.wrap (8 + (k : Int)) = ((8 + k : Nat) : Int) := by rw [IntKind.wrap_i64]; omega
                      have ht : (datT acc k).size = k := by rw [datT, ByteArray.size_extract]; omega
                      have etd : acc.extract 8 (8 + k) = datT acc k := rfl
                      have hdq := hdz _ _ e1 e2
                      rw [cond_false, cond_false] at hdq
                      rw [hdq] at bad
                      have o1 : okBl (q, datT acc k, ()) := ⟨q1, q2, by show (datT acc k).size ≤ 6000; omega⟩
                      cases e3 : ((sizeN k : Int) != (n : Int))
                      rotate_left
                      · have hz' := bad (by
                          have : (((sizeN k * 56 : Nat) : Int) == (acc.size : Int)) = false := by
                            simp only [bne_iff_ne] at e3
                            simp only [beq_eq_false_iff_ne]; omega
                          show datQ acc k = false
                          rw [datQ, ht, this]; rfl)
                        simp only [AH.SD, AH.SE, AOp.call?, AOp.next?, bstep, AV.cells, unAV, binAV, retQ, retV, AH.sliceElems, AH.bytesOf, AH.strOp, AH.bound, AH.missQ, AH.minmaxAV, AH.readOf, AH.effOf, Nat.reduceBEq, Nat.reduceAdd, Nat.reduceLT, ↓reduceIte, Nat.reduceEqDiff, Nat.reduceLeDiff, Nat.reduceSub, Nat.reduceMul, Int.reduceSub, Int.reduceToNat, Int.reduceBEq, Int.reduceBNe, Int.reduceLT, Int.reduceGT, Int.reduceLE, Int.reduceGE, Int.reduceNeg, Int.reduceAdd, AH.SP, AH.PD, AV.inB, vstep, vw, shift, newOnes, rowsM, blkIn, rwB, @flat_lts, AV.lt, AV.lts, Nat.sub_self, AH.SO, r5a, hlt, rvalT_p v4, hk, e1, e2, w8, wk, etd, rbksN_p, rtC1, o1, not_true_eq_false, if_false, rbksT_p, if_true, ht, e3, Int.toNat_natCast, hz', rrA]
                        try repeat ((with_reducible refine And.intro ?_ ?_); focus (first | rfl | decide | omega | (simp only [List.length_map, and_true]; omega) | (simp only [List.length_map, List.length_set, and_true]; omega)))
                        try simp only [AH.SD, AH.SE, AOp.call?, AOp.next?, bstep, AV.cells, unAV, binAV, retQ, retV, AH.sliceElems, AH.bytesOf, AH.strOp, AH.bound, AH.missQ, AH.minmaxAV, AH.readOf, AH.effOf, Nat.reduceBEq, Nat.reduceAdd, Nat.reduceLT, ↓reduceIte, Nat.reduceEqDiff, Nat.reduceLeDiff, Nat.reduceSub, Nat.reduceMul, Int.reduceSub, Int.reduceToNat, Int.reduceBEq, Int.reduceBNe, Int.reduceLT, Int.reduceGT, Int.reduceLE, Int.reduceGE, Int.reduceNeg, Int.reduceAdd, AH.SP, AH.PD, AV.inB, vstep, vw, shift, newOnes, rowsM, blkIn, rwB, @flat_lts, AV.lt, AV.lts, Nat.sub_self, AH.SO, etd, rbksN_p, rtC1, o1, not_true_eq_false, if_false, rbksT_p, if_true, ht, e3, Int.toNat_natCast, hz', rrA]
                        omega
                      · have hnk : sizeN k = n := by simp only [bne_eq_false_iff_eq] at e3; omega
                        obtain ⟨j1, j2, j3⟩ := join_parts n 0 ⟨#[]⟩ rfl hj.symm
                        rw [Nat.zero_add] at j1 j3
                        have hfs : (fullS (datT acc k)).size = n * 56 := by rw [full_sz, ht, hnk]
                        have blkE : ∀ i, blkS q (datT acc k) i = (fullS (datT acc k)).extract (i * 56) ((i + 1) * 56) ++ endS q i n := fun i => by rw [blkS, ht, hnk]
                        simp only [AH.SD, AH.SE, AOp.call?, AOp.next?, bstep, AV.cells, unAV, binAV, retQ, retV, AH.sliceElems, AH.bytesOf, AH.strOp, AH.bound, AH.missQ, AH.minmaxAV, AH.readOf, AH.effOf, Nat.reduceBEq, Nat.reduceAdd, Nat.reduceLT, ↓reduceIte, Nat.reduceEqDiff, Nat.reduceLeDiff, Nat.reduceSub, Nat.reduceMul, Int.reduceSub, Int.reduceToNat, Int.reduceBEq, Int.reduceBNe, Int.reduceLT, Int.reduceGT, Int.reduceLE, Int.reduceGE, Int.reduceNeg, Int.reduceAdd, AH.SP, AH.PD, AV.inB, vstep, vw, shift, newOnes, rowsM, blkIn, rwB, @flat_lts, AV.lt, AV.lts, Nat.sub_self, AH.SO, r5a, hlt, rvalT_p v4, hk, e1, e2, w8, wk, etd, rbksN_p, rtC1, o1, not_true_eq_false, if_false, rbksT_p, if_true, ht, e3, Int.toNat_natCast]
                        try repeat ((with_reducible refine And.intro ?_ ?_); focus (first | rfl | decide | omega | (simp only [List.length_map, and_true]; omega) | (simp only [List.length_map, List.length_set, and_true]; omega)))
                        try simp only [AH.SD, AH.SE, AOp.call?, AOp.next?, bstep, AV.cells, unAV, binAV, retQ, retV, AH.sliceElems, AH.bytesOf, AH.strOp, AH.bound, AH.missQ, AH.minmaxAV, AH.readOf, AH.effOf, Nat.reduceBEq, Nat.reduceAdd, Nat.reduceLT, ↓reduceIte, Nat.reduceEqDiff, Nat.reduceLeDiff, Nat.reduceSub, Nat.reduceMul, Int.reduceSub, Int.reduceToNat, Int.reduceBEq, Int.reduceBNe, Int.reduceLT, Int.reduceGT, Int.reduceLE, Int.reduceGE, Int.reduceNeg, Int.reduceAdd, AH.SP, AH.PD, AV.inB, vstep, vw, shift, newOnes, rowsM, blkIn, rwB, @flat_lts, AV.lt, AV.lts, Nat.sub_self, AH.SO, etd, rbksN_p, rtC1, o1, not_true_eq_false, if_false, rbksT_p, if_true, ht, e3, Int.toNat_natCast]
                        try repeat ((with_reducible refine And.intro ?_ ?_); focus (first | rfl | decide | omega | (simp only [List.length_map, and_true]; omega) | (simp only [List.length_map, List.length_set, and_true]; omega)))
                        rw [hnk]
                        refine loop_do [0, 1] [13, 11, 10, 8, 7, 6, 0] [] (α := Nat) (fun i => n - i) (r5b l q n k acc) (fun i => i ≤ n ∧ ∀ j, j < i → (fullS (datT acc k)).extract (j * 56) ((j + 1) * 56) = acc.extract (j * 56) ((j + 1) * 56)) 0 ⟨Nat.zero_le _, fun j h => by omega⟩ (by simp only [AH.SD, AH.SE, AOp.call?, AOp.next?, bstep, AV.cells, unAV, binAV, retQ, retV, AH.sliceElems, AH.bytesOf, AH.strOp, AH.bound, AH.missQ, AH.minmaxAV, AH.readOf, AH.effOf, Nat.reduceBEq, Nat.reduceAdd, Nat.reduceLT, ↓reduceIte, Nat.reduceEqDiff, Nat.reduceLeDiff, Nat.reduceSub, Nat.reduceMul, Int.reduceSub, Int.reduceToNat, Int.reduceBEq, Int.reduceBNe, Int.reduceLT, Int.reduceGT, Int.reduceLE, Int.reduceGE, Int.reduceNeg, Int.reduceAdd, AH.SP, AH.PD, AV.inB, vstep, r5b, strsR_in, strsR_ren]) ?_
                        rintro X i ⟨hi, hall⟩ ih
                        cases hlt : decide ((i : Int) < (n : Int))
                        · have hi1 : n = i := by simp only [decide_eq_false_iff_not] at hlt; omega
                          subst hi1
                          have hfull : fullS (datT acc k) = acc := pieces hfs j1 hall
                          have hq2 : datQ acc k = true := dat_of (by omega) hk e1' e2' hfull
                          have hz' : rdZ l = ⟨datT acc k, q, (n : Int), -1⟩ := by rw [hz, hdq]; simp only [hq2, cond_true]
                          clear ih
                          simp only [AH.SD, AH.SE, AOp.call?, AOp.next?, bstep, AV.cells, unAV, binAV, retQ, retV, AH.sliceElems, AH.bytesOf, AH.strOp, AH.bound, AH.missQ, AH.minmaxAV, AH.readOf, AH.effOf, Nat.reduceBEq, Nat.reduceAdd, Nat.reduceLT, ↓reduceIte, Nat.reduceEqDiff, Nat.reduceLeDiff, Nat.reduceSub, Nat.reduceMul, Int.reduceSub, Int.reduceToNat, Int.reduceBEq, Int.reduceBNe, Int.reduceLT, Int.reduceGT, Int.reduceLE, Int.reduceGE, Int.reduceNeg, Int.reduceAdd, AH.SP, AH.PD, AV.inB, vstep, vw, shift, newOnes, rowsM, blkIn, rwB, @flat_lts, AV.lt, AV.lts, Nat.sub_self, AH.SO, r5b, hlt, wk, etd, Int.toNat_natCast, hz', rrA]
                          try repeat ((with_reducible refine And.intro ?_ ?_); focus (first | rfl | decide | omega | (simp only [List.length_map, and_true]; omega) | (simp only [List.length_map, List.length_set, and_true]; omega)))
                          try simp only [AH.SD, AH.SE, AOp.call?, AOp.next?, bstep, AV.cells, unAV, binAV, retQ, retV, AH.sliceElems, AH.bytesOf, AH.strOp, AH.bound, AH.missQ, AH.minmaxAV, AH.readOf, AH.effOf, Nat.reduceBEq, Nat.reduceAdd, Nat.reduceLT, ↓reduceIte, Nat.reduceEqDiff, Nat.reduceLeDiff, Nat.reduceSub, Nat.reduceMul, Int.reduceSub, Int.reduceToNat, Int.reduceBEq, Int.reduceBNe, Int.reduceLT, Int.reduceGT, Int.reduceLE, Int.reduceGE, Int.reduceNeg, Int.reduceAdd, AH.SP, AH.PD, AV.inB, vstep, vw, shift, newOnes, rowsM, blkIn, rwB, @flat_lts, AV.lt, AV.lts, Nat.sub_self, AH.SO, wk, etd, Int.toNat_natCast, hz', rrA]
                          omega
                        · have hi1 : i < n := by simp only [decide_eq_true_eq] at hlt; omega
                          have wi := wrapS (i := i) (by omega)
                          obtain ⟨x, hx, hx64, hxe⟩ := j3 i (Nat.zero_le _) hi1
                          have hil : i < l.length := (List.getElem?_eq_some_iff.1 hx).1
                          have gi := rowG hx
                          have gb : ((blkL q (datT acc k) n).map strC).getD i [] = [.str (blkS q (datT acc k) i)] := rowG (by simp [blkL, hi1])
                          cases hc : (blkS q (datT acc k) i).toList == x.toList
                          · have hz' := bad (by
                              show datQ acc k = false
                              cases hdqq : datQ acc k
                              · rfl
                              · have hf2 := dat_full e2' e1' hk hdqq
                                rw [blkE, hf2, ← hxe, tl_self] at hc
                                cases hc)
                            clear ih
                            simp only [AH.SD, AH.SE, AOp.call?, AOp.next?, bstep, AV.cells, unAV, binAV, retQ, retV, AH.sliceElems, AH.bytesOf, AH.strOp, AH.bound, AH.missQ, AH.minmaxAV, AH.readOf, AH.effOf, Nat.reduceBEq, Nat.reduceAdd, Nat.reduceLT, ↓reduceIte, Nat.reduceEqDiff, Nat.reduceLeDiff, Nat.reduceSub, Nat.reduceMul, Int.reduceSub, Int.reduceToNat, Int.reduceBEq, Int.reduceBNe, Int.reduceLT, Int.reduceGT, Int.reduceLE, Int.reduceGE, Int.reduceNeg, Int.reduceAdd, AH.SP, AH.PD, AV.inB, vstep, vw, shift, newOnes, rowsM, blkIn, rwB, @flat_lts, AV.lt, AV.lts, Nat.sub_self, AH.SO, r5b, hlt, gi, gb, hc, Int.toNat_natCast, List.length_map, blkL_len, hz', rrA]
                            try repeat ((with_reducible refine And.intro ?_ ?_); focus (first | rfl | decide | omega | (simp only [List.length_map, and_true]; omega) | (simp only [List.length_map, List.length_set, and_true]; omega)))
                            try simp only [AH.SD, AH.SE, AOp.call?, AOp.next?, bstep, AV.cells, unAV, binAV, retQ, retV, AH.sliceElems, AH.bytesOf, AH.strOp, AH.bound, AH.missQ, AH.minmaxAV, AH.readOf, AH.effOf, Nat.reduceBEq, Nat.reduceAdd, Nat.reduceLT, ↓reduceIte, Nat.reduceEqDiff, Nat.reduceLeDiff, Nat.reduceSub, Nat.reduceMul, Int.reduceSub, Int.reduceToNat, Int.reduceBEq, Int.reduceBNe, Int.reduceLT, Int.reduceGT, Int.reduceLE, Int.reduceGE, Int.reduceNeg, Int.reduceAdd, AH.SP, AH.PD, AV.inB, vstep, vw, shift, newOnes, rowsM, blkIn, rwB, @flat_lts, AV.lt, AV.lts, Nat.sub_self, AH.SO, gi, gb, hc, Int.toNat_natCast, List.length_map, blkL_len, hz', rrA]
                            rfl
                          · have hxq := tl_eq hc
                            have done := ih (i + 1) ⟨hi1, fun j hj2 => by
                              rcases Nat.lt_or_ge j i with c | c
                              · exact hall j c
                              · obtain rfl : j = i := by omega
                                rw [blkE, hxe] at hxq
                                have h2 : ((fullS (datT acc k)).extract (j * 56) ((j + 1) * 56) ++ endS q j n).extract 0 56 = (acc.extract (j * 56) ((j + 1) * 56) ++ endS q j n).extract 0 56 := by rw [hxq]
                                rw [ex_left (by rw [ByteArray.size_extract]; omega), ex_left (by rw [ByteArray.size_extract]; omega), ex_all2 rfl (by rw [ByteArray.size_extract]; omega), ex_all2 rfl (by rw [ByteArray.size_extract]; omega)] at h2
                                exact h2⟩ (show n - (i + 1) < n - i by omega)
                            simp only [r5b] at done
                            simp only [AH.SD, AH.SE, AOp.call?, AOp.next?, bstep, AV.cells, unAV, binAV, retQ, retV, AH.sliceElems, AH.bytesOf, AH.strOp, AH.bound, AH.missQ, AH.minmaxAV, AH.readOf, AH.effOf, Nat.reduceBEq, Nat.reduceAdd, Nat.reduceLT, ↓reduceIte, Nat.reduceEqDiff, Nat.reduceLeDiff, Nat.reduceSub, Nat.reduceMul, Int.reduceSub, Int.reduceToNat, Int.reduceBEq, Int.reduceBNe, Int.reduceLT, Int.reduceGT, Int.reduceLE, Int.reduceGE, Int.reduceNeg, Int.reduceAdd, AH.SP, AH.PD, AV.inB, vstep, vw, shift, newOnes, rowsM, blkIn, rwB, @flat_lts, AV.lt, AV.lts, Nat.sub_self, AH.SO, r5b, hlt, gi, gb, hc, Int.toNat_natCast, List.length_map, blkL_len, wi]
                            try repeat ((with_reducible refine And.intro ?_ ?_); focus (first | rfl | decide | omega | (simp only [List.length_map, and_true]; omega) | (simp only [List.length_map, List.length_set, and_true]; omega)))
                            try simp only [AH.SD, AH.SE, AOp.call?, AOp.next?, bstep, AV.cells, unAV, binAV, retQ, retV, AH.sliceElems, AH.bytesOf, AH.strOp, AH.bound, AH.missQ, AH.minmaxAV, AH.readOf, AH.effOf, Nat.reduceBEq, Nat.reduceAdd, Nat.reduceLT, ↓reduceIte, Nat.reduceEqDiff, Nat.reduceLeDiff, Nat.reduceSub, Nat.reduceMul, Int.reduceSub, Int.reduceToNat, Int.reduceBEq, Int.reduceBNe, Int.reduceLT, Int.reduceGT, Int.reduceLE, Int.reduceGE, Int.reduceNeg, Int.reduceAdd, AH.SP, AH.PD, AV.inB, vstep, vw, shift, newOnes, rowsM, blkIn, rwB, @flat_lts, AV.lt, AV.lts, Nat.sub_self, AH.SO, gi, gb, hc, Int.toNat_natCast, List.length_map, blkL_len, wi]
                            try repeat ((with_reducible refine And.intro ?_ ?_); focus (first | rfl | decide | omega | (simp only [List.length_map, and_true]; omega) | (simp only [List.length_map, List.length_set, and_true]; omega)))
                            refine gc_auto [0, 1] [13, 11, 10, 8, 7, 6, 0] [] ?_
                            simp only [AH.SD, AH.SE, AOp.call?, AOp.next?, bstep, AV.cells, unAV, binAV, retQ, retV, AH.sliceElems, AH.bytesOf, AH.strOp, AH.bound, AH.missQ, AH.minmaxAV, AH.readOf, AH.effOf, Nat.reduceBEq, Nat.reduceAdd, Nat.reduceLT, ↓reduceIte, Nat.reduceEqDiff, Nat.reduceLeDiff, Nat.reduceSub, Nat.reduceMul, Int.reduceSub, Int.reduceToNat, Int.reduceBEq, Int.reduceBNe, Int.reduceLT, Int.reduceGT, Int.reduceLE, Int.reduceGE, Int.reduceNeg, Int.reduceAdd, AH.SP, AH.PD, AV.inB, vstep, strsR_in, strsR_ren]
                            exact done
def rrdT : RT := rt1 1 cStr c0 fun l _ => rrA (rdZ l)
theorem rrdT_ok : ReadF S0 46 rrdT := rt1_ok errs0 fun l _ h => ⟨rfl, rread_ok l h⟩
theorem rrdT_p {i n : Nat} {p : Option Nat} {M : Nat → Option Blk} : rrdT [.slc i 0 n p] M = rt1Q 1 cStr (fun l (_ : Unit) => rrA (rdZ l)) n i (M i) (some ()) := rfl
theorem rrdT_e {l : List ByteArray} {n i : Nat} {ro : Bool} (hn : n = l.length) (h : l.length ≤ 1048576) : rt1Q 1 cStr (fun l (_ : Unit) => rrA (rdZ l)) n i (some (.row ro 1 (l.map strC))) (some ()) = some (rrA (rdZ l), [i]) := by
  subst hn; exact rt1Q_eq (c := cStr) h
end Go.Proofs.YthapdikdeoeplaaGreatDoor.Z6
end
section
set_option linter.unusedVariables false
set_option linter.unnecessarySimpa false
open Go AH
set_option linter.unusedSimpArgs false
set_option maxRecDepth 100000
namespace Go.Proofs.YthapdikdeoeplaaGreatDoor.Z6
def prSt (s : ByteArray) (i : Nat) : St := ⟨[(4, .int .i64 ((64 * i : Nat) : Int)), (3, .slc 0 0 i none), (0, .str s)], [some (.row false 1 ((blks s i).map strC))]⟩
theorem parts_ok (s : ByteArray) (hs : s.size ≤ 1048576) : CallA1 S0 8 [.str s] [] fun r m => r = .slc 0 0 (s.size / 64) none ∧ m = [some (.row false 1 ((blks s (s.size / 64)).map strC))] := by
  refine CallA1.fin ?_
  refine fun_sound okL0 Tryz.func8 c8 ?_
  unfold wpF F8
  simp only [AH.SD, AH.SE, AOp.call?, AOp.next?, bstep, AV.cells, unAV, binAV, retQ, retV, AH.sliceElems, AH.bytesOf, AH.strOp, AH.bound, AH.missQ, AH.minmaxAV, AH.readOf, AH.effOf, Nat.reduceBEq, Nat.reduceAdd, Nat.reduceLT, ↓reduceIte, Nat.reduceEqDiff, Nat.reduceLeDiff, Nat.reduceSub, Nat.reduceMul, Int.reduceSub, Int.reduceToNat, Int.reduceBEq, Int.reduceBNe, Int.reduceLT, Int.reduceGT, Int.reduceLE, Int.reduceGE, Int.reduceNeg, Int.reduceAdd]
  repeat (refine ⟨by first | rfl | decide | omega | (simp only [List.length_map, and_true]; omega) | (simp only [List.length_map, List.length_set, and_true]; omega), ?_⟩)
  try simp only [AH.SD, AH.SE, AOp.call?, AOp.next?, bstep, AV.cells, unAV, binAV, retQ, retV, AH.sliceElems, AH.bytesOf, AH.strOp, AH.bound, AH.missQ, AH.minmaxAV, AH.readOf, AH.effOf, Nat.reduceBEq, Nat.reduceAdd, Nat.reduceLT, ↓reduceIte, Nat.reduceEqDiff, Nat.reduceLeDiff, Nat.reduceSub, Nat.reduceMul, Int.reduceSub, Int.reduceToNat, Int.reduceBEq, Int.reduceBNe, Int.reduceLT, Int.reduceGT, Int.reduceLE, Int.reduceGE, Int.reduceNeg, Int.reduceAdd]
  refine loop_do [0] [4, 3, 0] [.cap 3] (α := Nat) (fun i => s.size / 64 - i) (prSt s) (fun i => i ≤ s.size / 64) 0 (Nat.zero_le _) (by simp only [AH.SD, AH.SE, AOp.call?, AOp.next?, bstep, AV.cells, unAV, binAV, retQ, retV, AH.sliceElems, AH.bytesOf, AH.strOp, AH.bound, AH.missQ, AH.minmaxAV, AH.readOf, AH.effOf, Nat.reduceBEq, Nat.reduceAdd, Nat.reduceLT, ↓reduceIte, Nat.reduceEqDiff, Nat.reduceLeDiff, Nat.reduceSub, Nat.reduceMul, Int.reduceSub, Int.reduceToNat, Int.reduceBEq, Int.reduceBNe, Int.reduceLT, Int.reduceGT, Int.reduceLE, Int.reduceGE, Int.reduceNeg, Int.reduceAdd, AH.SP, AH.PD, AV.inB, vstep, prSt, blks, List.range_zero, List.map_nil]) ?_
  intro X i hi ih
  have w1 : IntKind.i64.wrap (((64 * i : Nat) : Int) + 64) = ((64 * (i + 1) : Nat) : Int) := by rw [IntKind.wrap_i64]; omega
  simp only [AH.SD, AH.SE, AOp.call?, AOp.next?, bstep, AV.cells, unAV, binAV, retQ, retV, AH.sliceElems, AH.bytesOf, AH.strOp, AH.bound, AH.missQ, AH.minmaxAV, AH.readOf, AH.effOf, Nat.reduceBEq, Nat.reduceAdd, Nat.reduceLT, ↓reduceIte, Nat.reduceEqDiff, Nat.reduceLeDiff, Nat.reduceSub, Nat.reduceMul, Int.reduceSub, Int.reduceToNat, Int.reduceBEq, Int.reduceBNe, Int.reduceLT, Int.reduceGT, Int.reduceLE, Int.reduceGE, Int.reduceNeg, Int.reduceAdd, prSt, w1]
  refine ⟨fun hlt => ?_, fun hlt => ?_⟩
  · have h1 : 64 * (i + 1) ≤ s.size := by simp only [decide_eq_true_eq] at hlt; omega
    have done := ih (i + 1) (by omega) (by omega)
    have htk : ((blks s i).map strC).take i = (blks s i).map strC := List.take_of_length_le (by rw [List.length_map, blks_len]; exact Nat.le_refl _)
    simp only [prSt, blks_succ, List.map_append, List.map_cons, List.map_nil, List.length_append, List.length_cons, List.length_nil, Nat.zero_add, strC_eq, show 64 * i + 64 = 64 * (i + 1) by omega] at done
    simp only [AH.SD, AH.SE, AOp.call?, AOp.next?, bstep, AV.cells, unAV, binAV, retQ, retV, AH.sliceElems, AH.bytesOf, AH.strOp, AH.bound, AH.missQ, AH.minmaxAV, AH.readOf, AH.effOf, Nat.reduceBEq, Nat.reduceAdd, Nat.reduceLT, ↓reduceIte, Nat.reduceEqDiff, Nat.reduceLeDiff, Nat.reduceSub, Nat.reduceMul, Int.reduceSub, Int.reduceToNat, Int.reduceBEq, Int.reduceBNe, Int.reduceLT, Int.reduceGT, Int.reduceLE, Int.reduceGE, Int.reduceNeg, Int.reduceAdd, w1, Int.toNat_natCast, List.length_map, blks_len, htk, List.drop_zero]
    repeat (refine ⟨by first | rfl | decide | omega | (simp only [List.length_map, and_true]; omega) | (simp only [List.length_map, List.length_set, and_true]; omega), ?_⟩)
    try simp only [AH.SD, AH.SE, AOp.call?, AOp.next?, bstep, AV.cells, unAV, binAV, retQ, retV, AH.sliceElems, AH.bytesOf, AH.strOp, AH.bound, AH.missQ, AH.minmaxAV, AH.readOf, AH.effOf, Nat.reduceBEq, Nat.reduceAdd, Nat.reduceLT, ↓reduceIte, Nat.reduceEqDiff, Nat.reduceLeDiff, Nat.reduceSub, Nat.reduceMul, Int.reduceSub, Int.reduceToNat, Int.reduceBEq, Int.reduceBNe, Int.reduceLT, Int.reduceGT, Int.reduceLE, Int.reduceGE, Int.reduceNeg, Int.reduceAdd, w1, Int.toNat_natCast, List.length_map, blks_len, htk, List.drop_zero]
    refine gc_auto [2] [4, 3, 0] [] ?_
    simp only [AH.SD, AH.SE, AOp.call?, AOp.next?, bstep, AV.cells, unAV, binAV, retQ, retV, AH.sliceElems, AH.bytesOf, AH.strOp, AH.bound, AH.missQ, AH.minmaxAV, AH.readOf, AH.effOf, Nat.reduceBEq, Nat.reduceAdd, Nat.reduceLT, ↓reduceIte, Nat.reduceEqDiff, Nat.reduceLeDiff, Nat.reduceSub, Nat.reduceMul, Int.reduceSub, Int.reduceToNat, Int.reduceBEq, Int.reduceBNe, Int.reduceLT, Int.reduceGT, Int.reduceLE, Int.reduceGE, Int.reduceNeg, Int.reduceAdd, AH.SP, AH.PD, AV.inB, vstep, List.length_append, List.length_map, blks_len, List.length_cons, List.length_nil, Nat.zero_add]
    exact done
  · have : i = s.size / 64 := by simp only [decide_eq_false_iff_not] at hlt; omega
    subst this
    simp only [AH.SD, AH.SE, AOp.call?, AOp.next?, bstep, AV.cells, unAV, binAV, retQ, retV, AH.sliceElems, AH.bytesOf, AH.strOp, AH.bound, AH.missQ, AH.minmaxAV, AH.readOf, AH.effOf, Nat.reduceBEq, Nat.reduceAdd, Nat.reduceLT, ↓reduceIte, Nat.reduceEqDiff, Nat.reduceLeDiff, Nat.reduceSub, Nat.reduceMul, Int.reduceSub, Int.reduceToNat, Int.reduceBEq, Int.reduceBNe, Int.reduceLT, Int.reduceGT, Int.reduceLE, Int.reduceGE, Int.reduceNeg, Int.reduceAdd]
    refine ⟨[0], [], ?_⟩
    simp only [AH.SD, AH.SE, AOp.call?, AOp.next?, bstep, AV.cells, unAV, binAV, retQ, retV, AH.sliceElems, AH.bytesOf, AH.strOp, AH.bound, AH.missQ, AH.minmaxAV, AH.readOf, AH.effOf, Nat.reduceBEq, Nat.reduceAdd, Nat.reduceLT, ↓reduceIte, Nat.reduceEqDiff, Nat.reduceLeDiff, Nat.reduceSub, Nat.reduceMul, Int.reduceSub, Int.reduceToNat, Int.reduceBEq, Int.reduceBNe, Int.reduceLT, Int.reduceGT, Int.reduceLE, Int.reduceGE, Int.reduceNeg, Int.reduceAdd, AH.SP, AH.PD, AV.inB, vstep]
    try simp
def partsT : ET := etN (cC aS c0) fun x => if x.1.size ≤ 1048576 then some (.slc 0 0 (x.1.size / 64) none, [some (.row false 1 ((blks x.1 (x.1.size / 64)).map strC))]) else none
theorem partsT_ok : EffF S0 8 partsT := etN_ok fun x v m' h => by
  split at h
  · rename_i hs
    simp only [Option.some.injEq, Prod.mk.injEq] at h
    obtain ⟨rfl, rfl⟩ := h
    exact ⟨rfl, parts_ok x.1 hs⟩
  · cases h
theorem partsT_p {s : ByteArray} {M : Nat → Option Blk} {n : Nat} : partsT [.str s] M n = useO [] n (if s.size ≤ 1048576 then some (.slc 0 0 (s.size / 64) none, [some (.row false 1 ((blks s (s.size / 64)).map strC))]) else none) := by
  simp only [partsT, etN_eq, cC_dec, aS_dec, c0_dec, pairO_some, Option.bind_some]
def rrdV : RT := rtV [1] (vf1 1 cStr c0 fun l (_ : Unit) => rrA (rdZ l))
theorem rrdV_ok : ReadF S0 46 rrdV := vf1_ok errs0 fun l _ hl => ⟨rfl, rread_ok l hl⟩
theorem rrdV_eq {id ix n : Nat} {cap : Option Nat} {M : Nat → Option Blk} {es : List (List AV)} {l : List ByteArray} (hM : rowE M id = some (1, es)) (hs : (es.drop ix).take n = l.map strC) (hle : ix + n ≤ es.length) (hb : n ≤ 1048576) :
    rrdV [.slc id ix n cap] M = some (rrA (rdZ l), [id]) := vf1_eq (c := cStr) (x := c0) hM hs hle hb rfl
theorem okRr : CtxOK S0 (ctxU S0 [(46, rrdV)] []) := ctxU_ok ⟨rrdV_ok, trivial⟩ trivial mixed
def rrSt (b : Int) (L : List ByteArray) (x : Nat × List ByteArray × Nat) : St := ⟨[(7, .int .i64 x.1), (6, .slc 1 0 x.2.1.length none), (1, .int .i64 b), (0, .slc 0 0 L.length none)], [some (.row true 1 (L.map strC)), some (.row false 1 (x.2.1.map strC))]⟩
theorem rowE0 {ro : Bool} {k : Nat} {es : List (List AV)} {r : Mem} : rowE (mget (some (.row ro k es) :: r)) 0 = some (k, es) := rowE_hit
theorem rdZ_pos {l : List ByteArray} (h : (rdZ l).bad ≠ -1) : 0 ≤ (rdZ l).bad := by
  unfold rdZ at h ⊢
  cases h1 : (firZ l).2.2
  · exact Int.le_refl 0
  · rw [h1, cond_true] at h
    rw [cond_true]
    cases h2 : decide ((jnZ l (firZ l).1 (firZ l).2.1.toNat).2 ≥ 0)
    · rw [h2, cond_false] at h
      rw [cond_false]
      cases h3 : (datZ (jnZ l (firZ l).1 (firZ l).2.1.toNat).1).2
      · exact Int.le_refl 0
      · rw [h3, cond_true] at h; exact absurd rfl h
    · rw [cond_true]; simpa using h2
set_option maxHeartbeats 4000000 in
theorem rlog_ok (L : List ByteArray) (hL : L.length ≤ 1048576) (b : Int) (hb : isBase b) : CallA1 S0 11 [.slc 0 0 L.length none, .int .i64 b] [some (.row true 1 (L.map strC))]
    fun r m => r = .tup [.slc 1 0 (logR L.length L (b + 1)).1.length none, .int .i64 (logR L.length L (b + 1)).2] ∧ m = [some (.row true 1 (L.map strC)), some (.row false 1 ((logR L.length L (b + 1)).1.map strC))] := by
  have hb1 := hb.1
  have hb2 := hb.2
  refine CallA1.fin ?_
  refine fun_sound okRr Tryz.func11 c11 ?_
  unfold wpF F11
  simp only [AH.SD, AH.SE, AOp.call?, AOp.next?, bstep, AV.cells, unAV, binAV, retQ, retV, AH.sliceElems, AH.bytesOf, AH.strOp, AH.bound, AH.missQ, AH.minmaxAV, AH.readOf, AH.effOf, Nat.reduceBEq, Nat.reduceAdd, Nat.reduceLT, ↓reduceIte, Nat.reduceEqDiff, Nat.reduceLeDiff, Nat.reduceSub, Nat.reduceMul, Int.reduceSub, Int.reduceToNat, Int.reduceBEq, Int.reduceBNe, Int.reduceLT, Int.reduceGT, Int.reduceLE, Int.reduceGE, Int.reduceNeg, Int.reduceAdd]
  repeat (refine ⟨by first | rfl | decide | omega | (simp only [List.length_map, and_true]; omega) | (simp only [List.length_map, List.length_set, and_true]; omega), ?_⟩)
  try simp only [AH.SD, AH.SE, AOp.call?, AOp.next?, bstep, AV.cells, unAV, binAV, retQ, retV, AH.sliceElems, AH.bytesOf, AH.strOp, AH.bound, AH.missQ, AH.minmaxAV, AH.readOf, AH.effOf, Nat.reduceBEq, Nat.reduceAdd, Nat.reduceLT, ↓reduceIte, Nat.reduceEqDiff, Nat.reduceLeDiff, Nat.reduceSub, Nat.reduceMul, Int.reduceSub, Int.reduceToNat, Int.reduceBEq, Int.reduceBNe, Int.reduceLT, Int.reduceGT, Int.reduceLE, Int.reduceGE, Int.reduceNeg, Int.reduceAdd]
  refine loop_do [0, 1] [7, 6, 1, 0] [.cap 6] (α := Nat × List ByteArray × Nat) (fun x => L.length - x.1) (rrSt b L)
    (fun x => x.1 ≤ L.length ∧ x.2.1.length ≤ x.1 ∧ L.length - x.1 ≤ x.2.2 ∧ (logR L.length L (b + 1)) = (x.2.1 ++ (logR x.2.2 (L.drop x.1) (b + (x.2.1.length : Int) + 1)).1, x.1 + (logR x.2.2 (L.drop x.1) (b + (x.2.1.length : Int) + 1)).2)) (0, [], L.length)
    ⟨Nat.zero_le _, Nat.le_refl _, by simp, by simp⟩ (by simp only [AH.SD, AH.SE, AOp.call?, AOp.next?, bstep, AV.cells, unAV, binAV, retQ, retV, AH.sliceElems, AH.bytesOf, AH.strOp, AH.bound, AH.missQ, AH.minmaxAV, AH.readOf, AH.effOf, Nat.reduceBEq, Nat.reduceAdd, Nat.reduceLT, ↓reduceIte, Nat.reduceEqDiff, Nat.reduceLeDiff, Nat.reduceSub, Nat.reduceMul, Int.reduceSub, Int.reduceToNat, Int.reduceBEq, Int.reduceBNe, Int.reduceLT, Int.reduceGT, Int.reduceLE, Int.reduceGE, Int.reduceNeg, Int.reduceAdd, AH.SP, AH.PD, AV.inB, vstep, rrSt, List.map_nil, List.length_nil]) ?_
  rintro X ⟨i, R, k⟩ ⟨hi, hRi, hk, hx⟩ ih
  simp only at hi hRi hk hx
  have hdl : (L.drop i).length = L.length - i := List.length_drop
  have hstop : ((rdZ (L.drop i)).bad ≠ -1 ∨ (rdZ (L.drop i)).q ≠ b + (R.length : Int) + 1) → logR L.length L (b + 1) = (R, i) := fun h => by
    rw [hx]
    cases k with
    | zero => simp [logR]
    | succ k =>
      unfold logR
      rw [if_neg (fun q => h.elim (fun z => z q.1) (fun z => z q.2))]
      simp
  simp only [AH.SD, AH.SE, AOp.call?, AOp.next?, bstep, AV.cells, unAV, binAV, retQ, retV, AH.sliceElems, AH.bytesOf, AH.strOp, AH.bound, AH.missQ, AH.minmaxAV, AH.readOf, AH.effOf, Nat.reduceBEq, Nat.reduceAdd, Nat.reduceLT, ↓reduceIte, Nat.reduceEqDiff, Nat.reduceLeDiff, Nat.reduceSub, Nat.reduceMul, Int.reduceSub, Int.reduceToNat, Int.reduceBEq, Int.reduceBNe, Int.reduceLT, Int.reduceGT, Int.reduceLE, Int.reduceGE, Int.reduceNeg, Int.reduceAdd, rrSt]
  refine ⟨fun hgt => ?_, fun hgt => ?_⟩
  · have hin : i < L.length := lt_of_dec hgt
    have hs : ((L.map strC).drop i).take (L.length - i) = (L.drop i).map strC := by
      rw [← List.map_drop]; exact List.take_of_length_le (by simp)
    have hle : i + (L.length - i) ≤ (L.map strC).length := by rw [List.length_map]; omega
    have hbd : L.length - i ≤ 1048576 := by omega
    have fG := fun (M : Nat → Option Blk) (hM : rowE M 0 = some (1, L.map strC)) => rrdV_eq (cap := none) hM hs hle hbd
    have w1 : IntKind.i64.wrap (b + (R.length : Int)) = b + (R.length : Int) := by rw [IntKind.wrap_i64]; omega
    have w2 : IntKind.i64.wrap (b + (R.length : Int) + 1) = b + (R.length : Int) + 1 := by rw [IntKind.wrap_i64]; omega
    by_cases hg : (rdZ (L.drop i)).bad = -1
    · obtain ⟨g1, g2, g3, g4, g5⟩ := rdZ_good hg
      rw [hdl] at g2
      obtain ⟨n, hn⟩ := Int.eq_ofNat_of_zero_le (show 0 ≤ (rdZ (L.drop i)).n by omega)
      have hn2 : (rdZ (L.drop i)).n.toNat = n := by omega
      have hng : decide ((-1 : Int) ≥ 0) = false := rfl
      cases hq : ((rdZ (L.drop i)).q != b + (R.length : Int) + 1)
      · have hq' : (rdZ (L.drop i)).q = b + (R.length : Int) + 1 := by simpa using hq
        obtain ⟨k', hk'⟩ : ∃ k', k = k' + 1 := ⟨k - 1, by omega⟩
        have e1 : IntKind.i64.wrap ((i : Int) + (n : Int)) = ((i + n : Nat) : Int) := by rw [IntKind.wrap_i64]; omega
        have done := ih (i + n, R ++ [(rdZ (L.drop i)).t], k') ⟨by simp only; omega, by simp only [List.length_append, List.length_cons, List.length_nil]; omega, by simp only; omega, by
          rw [hx, hk']
          conv => lhs; unfold logR
          rw [if_pos ⟨hg, hq'⟩, hn2, List.drop_drop]
          simp only [List.length_append, List.length_cons, List.length_nil, List.append_assoc, List.singleton_append, Nat.zero_add]
          rw [show b + ((R.length + 1 : Nat) : Int) + 1 = b + (R.length : Int) + 1 + 1 by omega, Nat.add_assoc]⟩ (by simp only; omega)
        simp only [rrSt, List.map_append, List.map_cons, List.map_nil, List.length_append, List.length_cons, List.length_nil, Nat.zero_add, strC_eq] at done
        simp only [AH.SD, AH.SE, AOp.call?, AOp.next?, bstep, AV.cells, unAV, binAV, retQ, retV, AH.sliceElems, AH.bytesOf, AH.strOp, AH.bound, AH.missQ, AH.minmaxAV, AH.readOf, AH.effOf, Nat.reduceBEq, Nat.reduceAdd, Nat.reduceLT, ↓reduceIte, Nat.reduceEqDiff, Nat.reduceLeDiff, Nat.reduceSub, Nat.reduceMul, Int.reduceSub, Int.reduceToNat, Int.reduceBEq, Int.reduceBNe, Int.reduceLT, Int.reduceGT, Int.reduceLE, Int.reduceGE, Int.reduceNeg, Int.reduceAdd, fG _ rowE0, rrA, hg, hng, hq, hn, w1, w2, e1, Int.toNat_natCast, List.length_map, List.drop_zero, take_all, List.length_append, List.length_cons, List.length_nil, Nat.zero_add]
        repeat ((with_reducible refine And.intro ?_ ?_); focus (first | rfl | decide | omega | (simp only [List.length_map, and_true]; omega) | (simp only [List.length_map, List.length_set, and_true]; omega)))
        try simp only [AH.SD, AH.SE, AOp.call?, AOp.next?, bstep, AV.cells, unAV, binAV, retQ, retV, AH.sliceElems, AH.bytesOf, AH.strOp, AH.bound, AH.missQ, AH.minmaxAV, AH.readOf, AH.effOf, Nat.reduceBEq, Nat.reduceAdd, Nat.reduceLT, ↓reduceIte, Nat.reduceEqDiff, Nat.reduceLeDiff, Nat.reduceSub, Nat.reduceMul, Int.reduceSub, Int.reduceToNat, Int.reduceBEq, Int.reduceBNe, Int.reduceLT, Int.reduceGT, Int.reduceLE, Int.reduceGE, Int.reduceNeg, Int.reduceAdd, fG _ rowE0, rrA, hg, hng, hq, hn, w1, w2, e1, Int.toNat_natCast, List.length_map, List.drop_zero, take_all, List.length_append, List.length_cons, List.length_nil, Nat.zero_add]
        repeat ((with_reducible refine And.intro ?_ ?_); focus (first | rfl | decide | omega | (simp only [List.length_map, and_true]; omega) | (simp only [List.length_map, List.length_set, and_true]; omega)))
        refine gc_auto [0, 3] [7, 6, 1, 0] [] ?_
        simp only [AH.SD, AH.SE, AOp.call?, AOp.next?, bstep, AV.cells, unAV, binAV, retQ, retV, AH.sliceElems, AH.bytesOf, AH.strOp, AH.bound, AH.missQ, AH.minmaxAV, AH.readOf, AH.effOf, Nat.reduceBEq, Nat.reduceAdd, Nat.reduceLT, ↓reduceIte, Nat.reduceEqDiff, Nat.reduceLeDiff, Nat.reduceSub, Nat.reduceMul, Int.reduceSub, Int.reduceToNat, Int.reduceBEq, Int.reduceBNe, Int.reduceLT, Int.reduceGT, Int.reduceLE, Int.reduceGE, Int.reduceNeg, Int.reduceAdd, AH.SP, AH.PD, AV.inB, vstep, List.length_append, List.length_map, List.length_cons, List.length_nil, Nat.zero_add]
        exact done
      · have e := hstop (.inr (by simpa using hq))
        simp only [AH.SD, AH.SE, AOp.call?, AOp.next?, bstep, AV.cells, unAV, binAV, retQ, retV, AH.sliceElems, AH.bytesOf, AH.strOp, AH.bound, AH.missQ, AH.minmaxAV, AH.readOf, AH.effOf, Nat.reduceBEq, Nat.reduceAdd, Nat.reduceLT, ↓reduceIte, Nat.reduceEqDiff, Nat.reduceLeDiff, Nat.reduceSub, Nat.reduceMul, Int.reduceSub, Int.reduceToNat, Int.reduceBEq, Int.reduceBNe, Int.reduceLT, Int.reduceGT, Int.reduceLE, Int.reduceGE, Int.reduceNeg, Int.reduceAdd, fG _ rowE0, rrA, hg, hng, hq, hn, w1, w2, Int.toNat_natCast, List.length_map, List.drop_zero]
        repeat ((with_reducible refine And.intro ?_ ?_); focus (first | rfl | decide | omega | (simp only [List.length_map, and_true]; omega) | (simp only [List.length_map, List.length_set, and_true]; omega)))
        try simp only [AH.SD, AH.SE, AOp.call?, AOp.next?, bstep, AV.cells, unAV, binAV, retQ, retV, AH.sliceElems, AH.bytesOf, AH.strOp, AH.bound, AH.missQ, AH.minmaxAV, AH.readOf, AH.effOf, Nat.reduceBEq, Nat.reduceAdd, Nat.reduceLT, ↓reduceIte, Nat.reduceEqDiff, Nat.reduceLeDiff, Nat.reduceSub, Nat.reduceMul, Int.reduceSub, Int.reduceToNat, Int.reduceBEq, Int.reduceBNe, Int.reduceLT, Int.reduceGT, Int.reduceLE, Int.reduceGE, Int.reduceNeg, Int.reduceAdd, fG _ rowE0, rrA, hg, hng, hq, hn, w1, w2, Int.toNat_natCast, List.length_map, List.drop_zero]
        repeat ((with_reducible refine And.intro ?_ ?_); focus (first | rfl | decide | omega | (simp only [List.length_map, and_true]; omega) | (simp only [List.length_map, List.length_set, and_true]; omega)))
        refine ⟨[0, 1], [], ?_⟩
        simp only [AH.SD, AH.SE, AOp.call?, AOp.next?, bstep, AV.cells, unAV, binAV, retQ, retV, AH.sliceElems, AH.bytesOf, AH.strOp, AH.bound, AH.missQ, AH.minmaxAV, AH.readOf, AH.effOf, Nat.reduceBEq, Nat.reduceAdd, Nat.reduceLT, ↓reduceIte, Nat.reduceEqDiff, Nat.reduceLeDiff, Nat.reduceSub, Nat.reduceMul, Int.reduceSub, Int.reduceToNat, Int.reduceBEq, Int.reduceBNe, Int.reduceLT, Int.reduceGT, Int.reduceLE, Int.reduceGE, Int.reduceNeg, Int.reduceAdd, AH.SP, AH.PD, AV.inB, vstep, e]
        try simp
    · have e := hstop (.inl hg)
      have hng : decide ((rdZ (L.drop i)).bad ≥ 0) = true := decide_eq_true (rdZ_pos hg)
      simp only [AH.SD, AH.SE, AOp.call?, AOp.next?, bstep, AV.cells, unAV, binAV, retQ, retV, AH.sliceElems, AH.bytesOf, AH.strOp, AH.bound, AH.missQ, AH.minmaxAV, AH.readOf, AH.effOf, Nat.reduceBEq, Nat.reduceAdd, Nat.reduceLT, ↓reduceIte, Nat.reduceEqDiff, Nat.reduceLeDiff, Nat.reduceSub, Nat.reduceMul, Int.reduceSub, Int.reduceToNat, Int.reduceBEq, Int.reduceBNe, Int.reduceLT, Int.reduceGT, Int.reduceLE, Int.reduceGE, Int.reduceNeg, Int.reduceAdd, fG _ rowE0, rrA, hng, Int.toNat_natCast, List.length_map, List.drop_zero]
      repeat ((with_reducible refine And.intro ?_ ?_); focus (first | rfl | decide | omega | (simp only [List.length_map, and_true]; omega) | (simp only [List.length_map, List.length_set, and_true]; omega)))
      try simp only [AH.SD, AH.SE, AOp.call?, AOp.next?, bstep, AV.cells, unAV, binAV, retQ, retV, AH.sliceElems, AH.bytesOf, AH.strOp, AH.bound, AH.missQ, AH.minmaxAV, AH.readOf, AH.effOf, Nat.reduceBEq, Nat.reduceAdd, Nat.reduceLT, ↓reduceIte, Nat.reduceEqDiff, Nat.reduceLeDiff, Nat.reduceSub, Nat.reduceMul, Int.reduceSub, Int.reduceToNat, Int.reduceBEq, Int.reduceBNe, Int.reduceLT, Int.reduceGT, Int.reduceLE, Int.reduceGE, Int.reduceNeg, Int.reduceAdd, fG _ rowE0, rrA, hng, Int.toNat_natCast, List.length_map, List.drop_zero]
      repeat ((with_reducible refine And.intro ?_ ?_); focus (first | rfl | decide | omega | (simp only [List.length_map, and_true]; omega) | (simp only [List.length_map, List.length_set, and_true]; omega)))
      refine ⟨[0, 1], [], ?_⟩
      simp only [AH.SD, AH.SE, AOp.call?, AOp.next?, bstep, AV.cells, unAV, binAV, retQ, retV, AH.sliceElems, AH.bytesOf, AH.strOp, AH.bound, AH.missQ, AH.minmaxAV, AH.readOf, AH.effOf, Nat.reduceBEq, Nat.reduceAdd, Nat.reduceLT, ↓reduceIte, Nat.reduceEqDiff, Nat.reduceLeDiff, Nat.reduceSub, Nat.reduceMul, Int.reduceSub, Int.reduceToNat, Int.reduceBEq, Int.reduceBNe, Int.reduceLT, Int.reduceGT, Int.reduceLE, Int.reduceGE, Int.reduceNeg, Int.reduceAdd, AH.SP, AH.PD, AV.inB, vstep, e]
      try simp
  · have : i = L.length := by have := ge_of_dec hgt; omega
    subst this
    have e := hstop (.inl (by rw [List.drop_length]; exact rdZ_nil))
    simp only [AH.SD, AH.SE, AOp.call?, AOp.next?, bstep, AV.cells, unAV, binAV, retQ, retV, AH.sliceElems, AH.bytesOf, AH.strOp, AH.bound, AH.missQ, AH.minmaxAV, AH.readOf, AH.effOf, Nat.reduceBEq, Nat.reduceAdd, Nat.reduceLT, ↓reduceIte, Nat.reduceEqDiff, Nat.reduceLeDiff, Nat.reduceSub, Nat.reduceMul, Int.reduceSub, Int.reduceToNat, Int.reduceBEq, Int.reduceBNe, Int.reduceLT, Int.reduceGT, Int.reduceLE, Int.reduceGE, Int.reduceNeg, Int.reduceAdd]
    refine ⟨[0, 1], [], ?_⟩
    simp only [AH.SD, AH.SE, AOp.call?, AOp.next?, bstep, AV.cells, unAV, binAV, retQ, retV, AH.sliceElems, AH.bytesOf, AH.strOp, AH.bound, AH.missQ, AH.minmaxAV, AH.readOf, AH.effOf, Nat.reduceBEq, Nat.reduceAdd, Nat.reduceLT, ↓reduceIte, Nat.reduceEqDiff, Nat.reduceLeDiff, Nat.reduceSub, Nat.reduceMul, Int.reduceSub, Int.reduceToNat, Int.reduceBEq, Int.reduceBNe, Int.reduceLT, Int.reduceGT, Int.reduceLE, Int.reduceGE, Int.reduceNeg, Int.reduceAdd, AH.SP, AH.PD, AV.inB, vstep, e]
    try simp
def rlgU : UT := utN [1] (nfX 1 cStr (cSub1 (cC (aI .i64) c0) fun x => isBase x.1) (fun L (x : {a : Int × Unit // isBase a.1}) => .tup [.slc 1 0 (logR L.length L (x.1.1 + 1)).1.length none, .int .i64 (logR L.length L (x.1.1 + 1)).2]) fun L x => [some (.row false 1 ((logR L.length L (x.1.1 + 1)).1.map strC))])
theorem rlgU_ok : CallF S0 11 rlgU := nfX_ok errs0 fun L b hl => by
  refine ⟨rfl, ?_, rfl, ?_⟩
  · simp only [List.all_cons, List.all_nil, blkIn, Blk.inB, flat_ins, Bool.and_true]
  · obtain ⟨⟨b, u⟩, h⟩ := b
    exact rlog_ok L hl b h
theorem rlgU_eq {id ix n : Nat} {p : Option Nat} {b : Int} {m : Mem} {es : List (List AV)} {l : List ByteArray} (hM : rowE (mget m) id = some (1, es)) (hs : (es.drop ix).take n = l.map strC) (hle : ix + n ≤ es.length) (hb : n ≤ 1048576) (hB : isBase b) :
    rlgU [.slc id ix n p, .int .i64 b] m = some (.tup [.slc m.length 0 (logR l.length l (b + 1)).1.length none, .int .i64 (logR l.length l (b + 1)).2], m ++ [some (.row false 1 ((logR l.length l (b + 1)).1.map strC))]) := by
  have hd : (cSub1 (cC (aI .i64) c0) fun x => isBase x.1).dec [.int .i64 b] = some ⟨(b, ()), hB⟩ := cSub1_dec (c := cC (aI .i64) c0) (p := fun x : Int × Unit => isBase x.1) (a := (b, ())) hB rfl
  rw [rlgU, nfX_eq (c := cStr) hM hs hle hb hd]
  simp [shift, AV.ren, AV.rens, newOnes, Blk.ren, flat_rens]
  exact fun a _ => flatE_ren _ a
end Go.Proofs.YthapdikdeoeplaaGreatDoor.Z6
end
section
set_option linter.unusedVariables false
set_option linter.unnecessarySimpa false
open Go AH
set_option linter.unusedSimpArgs false
set_option maxRecDepth 100000
namespace Go.Proofs.YthapdikdeoeplaaGreatDoor.Z6
noncomputable abbrev tLx : List (FuncId × RT) := (6, lawakeT) :: (12, joT) :: (18, zrT) :: (21, rsizeT) :: (17, imgT) :: tLg
noncomputable abbrev eLx : List (FuncId × ET) := (7, ofT) :: (8, partsT) :: (22, rbksT) :: eLg
theorem okLx : CtxOK S0 (ctxE S0 tLx [(11, rlgU)] eLx) := ctxE_ok ⟨lawakeT_ok, joT_ok, zrT_ok, rsizeT_ok, imgT_ok, tLg_ok⟩ ⟨rlgU_ok, trivial⟩ ⟨ofT_ok, partsT_ok, rbksT_ok, eLg_ok⟩ mixed
theorem rowE4 {a b c d : Option Blk} {ro : Bool} {k : Nat} {es : List (List AV)} {r : Mem} : rowE (mget (a :: b :: c :: d :: some (.row ro k es) :: r)) 4 = some (k, es) := by cases r <;> rfl
theorem rowE9 {a b c d e f g h i : Option Blk} {ro : Bool} {k : Nat} {es : List (List AV)} {r : Mem} : rowE (mget (a :: b :: c :: d :: e :: f :: g :: h :: i :: some (.row ro k es) :: r)) 9 = some (k, es) := by cases r <;> rfl
theorem rowE7 {a b c d e f g : Option Blk} {ro : Bool} {k : Nat} {es : List (List AV)} {r : Mem} : rowE (mget (a :: b :: c :: d :: e :: f :: g :: some (.row ro k es) :: r)) 7 = some (k, es) := by cases r <;> rfl
def liC (n : Int) : List AV := [.int .i64 n]
instance : FlatE liC := ⟨fun _ => rfl⟩
theorem liC_eq (n : Int) : liC n = [.int .i64 n] := rfl
structure LX where
  i : Nat
  b : Int
  W : List ByteArray
  B : List ByteArray
  w : Int
def lxSt (l : List ByteArray) (rs : List Int) (A C : List ByteArray) (n : Nat) (x : LX) : St :=
  ⟨[(22, .int .i64 x.i), (21, .slc 7 0 x.B.length none), (20, .str (catS C)), (19, .str (catS A)), (17, .slc 6 0 x.W.length none), (15, .ptr 4 0 0), (13, .ptr 2 0 0), (5, .slc 1 0 rs.length none), (4, .slc 0 0 l.length none), (3, .int .i64 x.b), (2, .int .i64 ((A.length + n : Nat) : Int)), (1, .int .i64 A.length)],
   [some (.row true 1 (l.map strC)), some (.row true 1 (rs.map liC)),
    some (.row false 5 [[.slc 3 0 (lgL A x.B C n).length none, .bool false, .int .i64 (-1), .int .i64 0, .int .i64 x.w]]), some (.row false 1 ((lgL A x.B C n).map strC)),
    some (.row false 7 [[.ptr 2 0 0, .int .i64 A.length, .int .i64 ((A.length + n : Nat) : Int), .int .i64 x.b, .int .i64 ((A.length + x.B.length : Nat) : Int), .slc 5 0 x.W.length none, .bool false]]), some (.row false 1 (x.W.map strC)),
    some (.row false 1 (x.W.map strC)), some (.row false 1 (x.B.map strC))]⟩
def lxI (l : List ByteArray) (n : Nat) (x : LX) : Prop := x.i ≤ l.length ∧ isBase x.b ∧ x.B.length ≤ n ∧ x.W.length ≤ x.B.length ∧ ∀ s ∈ x.B, s.size = 64
theorem appS (a b : List ByteArray) : a.map strC ++ b.map strC = (a ++ b).map strC := List.map_append.symm
theorem snocS (a : List ByteArray) (s : ByteArray) : a.map strC ++ [[.str s]] = (a ++ [s]).map strC := by rw [List.map_append]; rfl
theorem lgU_one {p r q k : Nat} {f t b a : Int} {down : Bool} {d : Dk} {s : ByteArray} : lgU p 1 r f t b a down (some (d, [(q, false), (k, false)])) (some (.row false 1 [[.str s]])) = if ne4 p q k r = true then some (⟨d, f, t, b, a, [s], down⟩, [(p, false), (q, false), (k, false), (r, false)]) else none := lgU_eq (R := [s])
structure LxF (A C : List ByteArray) (n : Nat) (b : Int) (W B : List ByteArray) (w : Int) : Prop where
  dk : (⟨lgL A B C n, false, -1, 0, w⟩ : Dk).ok
  ok : (⟨⟨lgL A B C n, false, -1, 0, w⟩, A.length, ((A.length + n : Nat) : Int), b, ((A.length + B.length : Nat) : Int), W, false⟩ : Lg).ok
  nx : (⟨⟨lgL A B C n, false, -1, 0, w⟩, A.length, ((A.length + n : Nat) : Int), b, ((A.length + B.length : Nat) : Int), W, false⟩ : Lg).next = b + (W.length : Int) + 1
  rm : (⟨⟨lgL A B C n, false, -1, 0, w⟩, A.length, ((A.length + n : Nat) : Int), b, ((A.length + B.length : Nat) : Int), W, false⟩ : Lg).room = ((n - B.length : Nat) : Int)
  cat : catS A ++ catS B ++ repS ⟨#[0]⟩ (64 * (n - B.length)) ++ catS C = catS (lgL A B C n)
  wl : W.length ≤ 1048576
  w1 : IntKind.i64.wrap (b + (W.length : Int)) = b + (W.length : Int)
  w2 : IntKind.i64.wrap (b + (W.length : Int) + 1) = b + (W.length : Int) + 1
  w3 : IntKind.i64.wrap (((A.length + n : Nat) : Int) - (A.length : Int)) = ((n : Nat) : Int)
  w4 : IntKind.i64.wrap ((n : Int) - (B.length : Int)) = ((n - B.length : Nat) : Int)
  jo : ∀ (m : Mem) (k : Nat) (cp : Option Nat), rowE (mget m) k = some (1, B.map strC) → joT [.slc k 0 B.length cp] (mget m) = some (.str (catS B), [k])
  zr : ∀ M, zrT [.int .i64 ((n - B.length : Nat) : Int)] M = some (.str (repS ⟨#[0]⟩ (64 * (n - B.length))), [])
  sm : ∀ (n1 n2 i j : Nat) (r1 r2 : Bool), n1 = W.length → n2 = W.length → rt2Q 1 1 cStr cStr (fun L1 L2 (_ : Unit) => .bool (decide (L1 = L2))) n1 i n2 j (some (.row r1 1 (W.map strC))) (some (.row r2 1 (W.map strC))) (some ()) = some (.bool true, [i, j])
  s1 : (((catS A).size + (catS B).size : Nat) : Int) ≤ 9223372036854775807
  s2 : (((catS A ++ catS B).size + (repS ⟨#[0]⟩ (64 * (n - B.length))).size : Nat) : Int) ≤ 9223372036854775807
  s3 : (((catS A ++ catS B ++ repS ⟨#[0]⟩ (64 * (n - B.length))).size + (catS C).size : Nat) : Int) ≤ 9223372036854775807
theorem lx_f {A C : List ByteArray} {n : Nat} {b : Int} {W B : List ByteArray} {w : Int} (hN : A.length + n + C.length ≤ 30) (hAz : ∀ s ∈ A, s.size = 64) (hCz : ∀ s ∈ C, s.size = 64) (hb : isBase b) (hB : B.length ≤ n) (hW : W.length ≤ B.length) (hBz : ∀ s ∈ B, s.size = 64) : LxF A C n b W B w := by
  have kb1 := hb.1
  have kb2 := hb.2
  have hLl := lgL_len (A := A) (C := C) (B := B) (n := n) hB
  have hLz := lgL_sz (n := n) hAz hBz hCz
  have hdk : (⟨lgL A B C n, false, -1, 0, w⟩ : Dk).ok := dOn_ok hLz (by omega)
  have okB : okJ B := ⟨fun x hx => by rw [hBz x hx]; decide, by omega⟩
  have sA := catS_le (L := A) (m := 64) fun x hx => by rw [hAz x hx]; exact Nat.le_refl _
  have sB := catS_le (L := B) (m := 64) fun x hx => by rw [hBz x hx]; exact Nat.le_refl _
  have sC := catS_le (L := C) (m := 64) fun x hx => by rw [hCz x hx]; exact Nat.le_refl _
  have sZ := repS_sz (64 * (n - B.length))
  refine ⟨hdk, ⟨hdk, hb, by simp only; omega, by simp only; omega, by simp only; omega, by simp only; omega, by simp only; omega⟩, rfl, ?_, lgL_cat A B C n, by omega, by rw [IntKind.wrap_i64]; omega, by rw [IntKind.wrap_i64]; omega, by rw [IntKind.wrap_i64]; omega, by rw [IntKind.wrap_i64]; omega, ?_, ?_, ?_, by omega, by rw [ByteArray.size_append, sZ]; omega, by rw [ByteArray.size_append, ByteArray.size_append, sZ]; omega⟩
  · show ((A.length + n : Nat) : Int) - ((A.length + B.length : Nat) : Int) = _; omega
  · intro m k cp hM
    exact joT_eq (cap := cp) (ix := 0) (n := B.length) hM (by rw [List.drop_zero, List.take_of_length_le (by rw [List.length_map]; exact Nat.le_refl _)]) (by rw [List.length_map]; omega) okB
  · intro M; exact zrT_p (M := M) (n := ((n - B.length : Nat) : Int)) (by omega)
  · intro n1 n2 i j r1 r2 h1 h2
    rw [saQ_eq h1 h2 (by omega) (by omega)]
    simp
end Go.Proofs.YthapdikdeoeplaaGreatDoor.Z6
end
section
set_option linter.unusedVariables false
set_option linter.unnecessarySimpa false
open Go AH
namespace Go.Proofs.YthapdikdeoeplaaGreatDoor.Z6
-- quitrent/quitrentlaw06.LogExact
def F3 : AFun := ⟨353,6,[.tmp 12],(.seq (.reg [⟨some 12,none,.mov (.c (.bool false))⟩]) (.seq (.seq (.reg [⟨some 31,none,.call (.c (.fn 6 [] [])) []⟩,⟨some 32,none,.un .not (.t 31)⟩]) (.cond (.t 32) (.seq (.reg [⟨some 12,none,.mov (.c (.bool false))⟩]) .ret) .skip)) (.seq (.seq (.reg [⟨some 33,none,.mov (.t 0)⟩,⟨some 34,none,.len .str (.t 33)⟩,⟨some 35,none,.ibin .gtr (.t 34) (.c (.int .i64 1920))⟩,⟨some 36,none,.mov (.t 35)⟩,⟨some 37,(some (36,false)),.mov (.t 4)⟩,⟨some 38,(some (36,false)),.len .sl (.t 37)⟩,⟨some 39,(some (36,false)),.ibin .gtr (.t 38) (.c (.int .i64 20))⟩,⟨some 40,none,.pick (.t 36) (.c (.bool true)) (.t 39)⟩]) (.cond (.t 40) (.seq (.reg [⟨some 12,none,.mov (.c (.bool true))⟩]) .ret) .skip)) (.seq (.reg [⟨some 41,none,.mov (.t 0)⟩,⟨some 42,none,.call (.c (.fn 7 [] [])) [(.t 41)]⟩,⟨some 13,none,.mov (.t 42)⟩]) (.seq (.reg [⟨some 43,none,.mov (.t 0)⟩,⟨some 44,none,.call (.c (.fn 8 [] [])) [(.t 43)]⟩,⟨some 14,none,.mov (.t 44)⟩]) (.seq (.reg [⟨some 46,none,.mov (.t 13)⟩,⟨some 47,none,.mov (.t 1)⟩,⟨some 48,none,.mov (.t 2)⟩,⟨some 49,none,.mov (.t 3)⟩,⟨some 50,none,.call (.c (.fn 9 [] [])) [(.t 46),(.t 47),(.t 48),(.t 49)]⟩,⟨some 45,none,.mov (.t 50)⟩,⟨some 51,none,.extract (.t 45) 0⟩,⟨some 52,none,.extract (.t 45) 1⟩,⟨some 15,none,.mov (.t 51)⟩,⟨some 16,none,.mov (.t 52)⟩]) (.seq (.seq (.reg [⟨some 53,none,.mov (.t 1)⟩,⟨some 54,none,.ibin .lss (.t 53) (.c (.int .i64 0))⟩,⟨some 55,none,.mov (.t 54)⟩,⟨some 56,(some (55,false)),.mov (.t 2)⟩,⟨some 57,(some (55,false)),.mov (.t 1)⟩,⟨some 58,(some (55,false)),.ibin .leq (.t 56) (.t 57)⟩,⟨some 59,none,.pick (.t 55) (.c (.bool true)) (.t 58)⟩,⟨some 60,none,.mov (.t 59)⟩,⟨some 61,(some (60,false)),.mov (.t 2)⟩,⟨some 62,(some (60,false)),.mov (.t 14)⟩,⟨some 63,(some (60,false)),.len .sl (.t 62)⟩,⟨some 64,(some (60,false)),.ibin .gtr (.t 61) (.t 63)⟩,⟨some 65,none,.pick (.t 60) (.c (.bool true)) (.t 64)⟩,⟨some 66,none,.mov (.t 65)⟩,⟨some 67,(some (66,false)),.mov (.t 3)⟩,⟨some 68,(some (66,false)),.ibin .lss (.t 67) (.c (.int .i64 0))⟩,⟨some 69,none,.pick (.t 66) (.c (.bool true)) (.t 68)⟩,⟨some 70,none,.mov (.t 69)⟩,⟨some 71,(some (70,false)),.mov (.t 3)⟩,⟨some 72,(some (70,false)),.ibin .gtr (.t 71) (.c (.int .i64 1073741824))⟩,⟨some 73,none,.pick (.t 70) (.c (.bool true)) (.t 72)⟩]) (.cond (.t 73) (.seq (.reg [⟨some 74,none,.mov (.t 15)⟩,⟨some 75,none,.eq false .ptr true (.t 74) (.c .nilp)⟩,⟨some 76,none,.mov (.t 75)⟩,⟨some 77,(some (76,true)),.mov (.t 16)⟩,⟨some 78,(some (76,true)),.call (.c (.fn 10 [] [])) [(.t 77)]⟩,⟨some 79,(some (76,true)),.ibin .eql (.t 78) (.c (.int .i64 1))⟩,⟨some 80,none,.pick (.t 76) (.t 79) (.c (.bool false))⟩,⟨some 12,none,.mov (.t 80)⟩]) .ret) .skip)) (.seq (.reg [⟨some 82,none,.mov (.t 14)⟩,⟨some 83,none,.mov (.t 1)⟩,⟨some 84,none,.mov (.t 2)⟩,⟨some 85,none,.slice 1 (.t 82) (some (.t 83)) (some (.t 84)) none⟩,⟨some 86,none,.mov (.t 3)⟩,⟨some 87,none,.call (.c (.fn 11 [] [])) [(.t 85),(.t 86)]⟩,⟨some 81,none,.mov (.t 87)⟩,⟨some 88,none,.extract (.t 81) 0⟩,⟨some 89,none,.extract (.t 81) 1⟩,⟨some 17,none,.mov (.t 88)⟩,⟨some 18,none,.mov (.t 89)⟩]) (.seq (.reg [⟨some 90,none,.mov (.t 14)⟩,⟨some 91,none,.mov (.t 1)⟩,⟨some 92,none,.slice 1 (.t 90) none (some (.t 91)) none⟩,⟨some 93,none,.call (.c (.fn 12 [] [])) [(.t 92)]⟩,⟨some 19,none,.mov (.t 93)⟩]) (.seq (.reg [⟨some 94,none,.mov (.t 14)⟩,⟨some 95,none,.mov (.t 2)⟩,⟨some 96,none,.slice 1 (.t 94) (some (.t 95)) none none⟩,⟨some 97,none,.call (.c (.fn 12 [] [])) [(.t 96)]⟩,⟨some 20,none,.mov (.t 97)⟩]) (.seq (.reg [⟨some 98,none,.bslice 1 0 [(.str ⟨#[]⟩)] []⟩,⟨some 99,none,.mov (.t 14)⟩,⟨some 100,none,.mov (.t 1)⟩,⟨some 101,none,.mov (.t 1)⟩,⟨some 102,none,.mov (.t 18)⟩,⟨some 103,none,.ibin .add (.t 101) (.t 102)⟩,⟨some 104,none,.slice 1 (.t 99) (some (.t 100)) (some (.t 103)) none⟩,⟨some 105,none,.append 1 16 [(.str ⟨#[]⟩)] (.t 98) (.t 104)⟩,⟨some 21,none,.mov (.t 105)⟩]) (.seq (.seq (.reg [⟨some 106,none,.mov (.t 16)⟩,⟨some 107,none,.eq true .iface true (.t 106) (.c .nili)⟩,⟨some 108,none,.mov (.t 107)⟩,⟨some 109,(some (108,false)),.mov (.t 15)⟩,⟨some 110,(some (108,false)),.eq false .ptr true (.t 109) (.c .nilp)⟩,⟨some 111,none,.pick (.t 108) (.c (.bool true)) (.t 110)⟩,⟨some 112,none,.mov (.t 111)⟩,⟨some 113,(some (112,false)),.mov (.t 15)⟩,⟨some 114,(some (112,false)),.call (.c (.fn 14 [] [])) [(.t 113)]⟩,⟨some 115,(some (112,false)),.mov (.t 17)⟩,⟨some 116,(some (112,false)),.call (.c (.fn 13 [] [])) [(.t 114),(.t 115)]⟩,⟨some 117,(some (112,false)),.un .not (.t 116)⟩,⟨some 118,none,.pick (.t 112) (.c (.bool true)) (.t 117)⟩,⟨some 119,none,.mov (.t 118)⟩,⟨some 120,(some (119,false)),.mov (.t 15)⟩,⟨some 121,(some (119,false)),.call (.c (.fn 15 [] [])) [(.t 120)]⟩,⟨some 122,(some (119,false)),.mov (.t 3)⟩,⟨some 123,(some (119,false)),.mov (.t 17)⟩,⟨some 124,(some (119,false)),.len .sl (.t 123)⟩,⟨some 125,(some (119,false)),.ibin .add (.t 122) (.t 124)⟩,⟨some 126,(some (119,false)),.ibin .add (.t 125) (.c (.int .i64 1))⟩,⟨some 127,(some (119,false)),.ibin .neq (.t 121) (.t 126)⟩,⟨some 128,none,.pick (.t 119) (.c (.bool true)) (.t 127)⟩,⟨some 129,none,.mov (.t 128)⟩,⟨some 130,(some (129,false)),.mov (.t 15)⟩,⟨some 131,(some (129,false)),.call (.c (.fn 16 [] [])) [(.t 130)]⟩,⟨some 132,(some (129,false)),.mov (.t 2)⟩,⟨some 133,(some (129,false)),.mov (.t 1)⟩,⟨some 134,(some (129,false)),.ibin .sub (.t 132) (.t 133)⟩,⟨some 135,(some (129,false)),.mov (.t 18)⟩,⟨some 136,(some (129,false)),.ibin .sub (.t 134) (.t 135)⟩,⟨some 137,(some (129,false)),.ibin .neq (.t 131) (.t 136)⟩,⟨some 138,none,.pick (.t 129) (.c (.bool true)) (.t 137)⟩,⟨some 139,none,.mov (.t 138)⟩,⟨some 140,(some (139,false)),.mov (.t 13)⟩,⟨some 141,(some (139,false)),.call (.c (.fn 17 [] [])) [(.t 140)]⟩,⟨some 142,(some (139,false)),.mov (.t 19)⟩,⟨some 143,(some (139,false)),.mov (.t 21)⟩,⟨some 144,(some (139,false)),.call (.c (.fn 12 [] [])) [(.t 143)]⟩,⟨some 145,(some (139,false)),.ibin .add (.t 142) (.t 144)⟩,⟨some 146,(some (139,false)),.mov (.t 2)⟩,⟨some 147,(some (139,false)),.mov (.t 1)⟩,⟨some 148,(some (139,false)),.ibin .sub (.t 146) (.t 147)⟩,⟨some 149,(some (139,false)),.mov (.t 18)⟩,⟨some 150,(some (139,false)),.ibin .sub (.t 148) (.t 149)⟩,⟨some 151,(some (139,false)),.call (.c (.fn 18 [] [])) [(.t 150)]⟩,⟨some 152,(some (139,false)),.ibin .add (.t 145) (.t 151)⟩,⟨some 153,(some (139,false)),.mov (.t 20)⟩,⟨some 154,(some (139,false)),.ibin .add (.t 152) (.t 153)⟩,⟨some 155,(some (139,false)),.ibin .neq (.t 141) (.t 154)⟩,⟨some 156,none,.pick (.t 139) (.c (.bool true)) (.t 155)⟩]) (.cond (.t 156) (.seq (.reg [⟨some 12,none,.mov (.c (.bool false))⟩]) .ret) .skip)) (.seq (.seq (.reg [⟨some 22,none,.mov (.c (.int .i64 0))⟩]) (.block 0 (.loop (.seq (.seq (.reg [⟨some 157,none,.mov (.t 22)⟩,⟨some 158,none,.mov (.t 4)⟩,⟨some 159,none,.len .sl (.t 158)⟩,⟨some 160,none,.ibin .lss (.t 157) (.t 159)⟩]) (.cond (.t 160) .skip (.exit 0))) (.seq (.block 1 (.seq (.seq (.reg [⟨some 163,none,.mov (.t 4)⟩,⟨some 164,none,.mov (.t 22)⟩,⟨some 165,none,.iaddrSl 1 (.t 163) (.t 164)⟩,⟨some 166,none,.load false 1 (.t 165)⟩,⟨some 167,none,.len .str (.t 166)⟩,⟨some 168,none,.ibin .gtr (.t 167) (.c (.int .i64 7000))⟩]) (.cond (.t 168) (.seq (.reg [⟨some 12,none,.mov (.c (.bool true))⟩]) .ret) .skip)) (.seq (.seq (.reg [⟨some 169,none,.mov (.t 22)⟩,⟨some 170,none,.mov (.t 5)⟩,⟨some 171,none,.len .sl (.t 170)⟩,⟨some 172,none,.ibin .lss (.t 169) (.t 171)⟩,⟨some 173,none,.mov (.t 172)⟩,⟨some 174,(some (173,true)),.mov (.t 5)⟩,⟨some 175,(some (173,true)),.mov (.t 22)⟩,⟨some 176,(some (173,true)),.iaddrSl 1 (.t 174) (.t 175)⟩,⟨some 177,(some (173,true)),.load false 1 (.t 176)⟩,⟨some 178,(some (173,true)),.ibin .gtr (.t 177) (.c (.int .i64 (-5)))⟩,⟨some 179,none,.pick (.t 173) (.t 178) (.c (.bool false))⟩]) (.cond (.t 179) (.seq (.reg [⟨some 180,none,.mov (.t 15)⟩,⟨some 181,none,.mov (.t 5)⟩,⟨some 182,none,.mov (.t 22)⟩,⟨some 183,none,.iaddrSl 1 (.t 181) (.t 182)⟩,⟨some 184,none,.load false 1 (.t 183)⟩,⟨some 185,none,.call (.c (.fn 19 [] [])) [(.t 180),(.t 184)]⟩,⟨some 23,none,.mov (.t 185)⟩]) (.seq (.reg [⟨some 186,none,.mov (.t 5)⟩,⟨some 187,none,.mov (.t 22)⟩,⟨some 188,none,.iaddrSl 1 (.t 186) (.t 187)⟩,⟨some 189,none,.load false 1 (.t 188)⟩,⟨some 190,none,.ibin .lss (.t 189) (.c (.int .i64 0))⟩,⟨some 191,none,.mov (.t 190)⟩,⟨some 192,(some (191,false)),.mov (.t 5)⟩,⟨some 193,(some (191,false)),.mov (.t 22)⟩,⟨some 194,(some (191,false)),.iaddrSl 1 (.t 192) (.t 193)⟩,⟨some 195,(some (191,false)),.load false 1 (.t 194)⟩,⟨some 196,(some (191,false)),.ibin .gtr (.t 195) (.c (.int .i64 1073741824))⟩,⟨some 197,none,.pick (.t 191) (.c (.bool true)) (.t 196)⟩]) (.cond (.t 197) (.seq (.reg [⟨some 198,none,.mov (.t 23)⟩,⟨some 199,none,.call (.c (.fn 10 [] [])) [(.t 198)]⟩,⟨some 200,none,.ibin .neq (.t 199) (.c (.int .i64 1))⟩]) (.cond (.t 200) (.seq (.reg [⟨some 12,none,.mov (.c (.bool false))⟩]) .ret) .skip)) (.seq (.seq (.reg [⟨some 201,none,.mov (.t 23)⟩,⟨some 202,none,.eq true .iface true (.t 201) (.c .nili)⟩]) (.cond (.t 202) (.seq (.reg [⟨some 12,none,.mov (.c (.bool false))⟩]) .ret) .skip)) (.seq (.reg [⟨some 203,none,.mov (.t 5)⟩,⟨some 204,none,.mov (.t 22)⟩,⟨some 205,none,.iaddrSl 1 (.t 203) (.t 204)⟩,⟨some 206,none,.load false 1 (.t 205)⟩,⟨some 3,none,.mov (.t 206)⟩]) (.seq (.reg [⟨some 207,none,.bslice 1 0 [(.str ⟨#[]⟩)] []⟩,⟨some 17,none,.mov (.t 207)⟩]) (.reg [⟨some 208,none,.bslice 1 0 [(.str ⟨#[]⟩)] []⟩,⟨some 21,none,.mov (.t 208)⟩]))))))) .skip)) (.seq (.reg [⟨some 209,none,.mov (.t 15)⟩,⟨some 210,none,.mov (.t 4)⟩,⟨some 211,none,.mov (.t 22)⟩,⟨some 212,none,.iaddrSl 1 (.t 210) (.t 211)⟩,⟨some 213,none,.load false 1 (.t 212)⟩,⟨some 214,none,.call (.c (.fn 20 [] [])) [(.t 209),(.t 213)]⟩,⟨some 24,none,.mov (.t 214)⟩]) (.seq (.reg [⟨some 215,none,.mov (.t 4)⟩,⟨some 216,none,.mov (.t 22)⟩,⟨some 217,none,.iaddrSl 1 (.t 215) (.t 216)⟩,⟨some 218,none,.load false 1 (.t 217)⟩,⟨some 219,none,.call (.c (.fn 21 [] [])) [(.t 218)]⟩,⟨some 25,none,.mov (.t 219)⟩]) (.seq (.seq (.reg [⟨some 220,none,.mov (.t 4)⟩,⟨some 221,none,.mov (.t 22)⟩,⟨some 222,none,.iaddrSl 1 (.t 220) (.t 221)⟩,⟨some 223,none,.load false 1 (.t 222)⟩,⟨some 224,none,.len .str (.t 223)⟩,⟨some 225,none,.ibin .gtr (.t 224) (.c (.int .i64 6000))⟩]) (.cond (.t 225) (.seq (.reg [⟨some 226,none,.mov (.t 24)⟩,⟨some 227,none,.call (.c (.fn 10 [] [])) [(.t 226)]⟩,⟨some 228,none,.ibin .neq (.t 227) (.c (.int .i64 1))⟩]) (.cond (.t 228) (.seq (.reg [⟨some 12,none,.mov (.c (.bool false))⟩]) .ret) .skip)) (.seq (.reg [⟨some 229,none,.mov (.t 25)⟩,⟨some 230,none,.mov (.t 2)⟩,⟨some 231,none,.mov (.t 1)⟩,⟨some 232,none,.ibin .sub (.t 230) (.t 231)⟩,⟨some 233,none,.mov (.t 21)⟩,⟨some 234,none,.len .sl (.t 233)⟩,⟨some 235,none,.ibin .sub (.t 232) (.t 234)⟩,⟨some 236,none,.ibin .gtr (.t 229) (.t 235)⟩,⟨some 237,none,.mov (.t 236)⟩,⟨some 238,(some (237,false)),.mov (.t 3)⟩,⟨some 239,(some (237,false)),.mov (.t 17)⟩,⟨some 240,(some (237,false)),.len .sl (.t 239)⟩,⟨some 241,(some (237,false)),.ibin .add (.t 238) (.t 240)⟩,⟨some 242,(some (237,false)),.ibin .add (.t 241) (.c (.int .i64 1))⟩,⟨some 243,(some (237,false)),.ibin .geq (.t 242) (.c (.int .i64 1073741824))⟩,⟨some 244,none,.pick (.t 237) (.c (.bool true)) (.t 243)⟩]) (.cond (.t 244) (.seq (.reg [⟨some 245,none,.mov (.t 24)⟩,⟨some 246,none,.call (.c (.fn 10 [] [])) [(.t 245)]⟩,⟨some 247,none,.ibin .neq (.t 246) (.c (.int .i64 7))⟩]) (.cond (.t 247) (.seq (.reg [⟨some 12,none,.mov (.c (.bool false))⟩]) .ret) .skip)) (.seq (.seq (.reg [⟨some 248,none,.mov (.t 24)⟩,⟨some 249,none,.eq true .iface true (.t 248) (.c .nili)⟩]) (.cond (.t 249) (.seq (.reg [⟨some 12,none,.mov (.c (.bool false))⟩]) .ret) .skip)) (.seq (.reg [⟨some 251,none,.mov (.t 3)⟩,⟨some 252,none,.mov (.t 17)⟩,⟨some 253,none,.len .sl (.t 252)⟩,⟨some 254,none,.ibin .add (.t 251) (.t 253)⟩,⟨some 255,none,.ibin .add (.t 254) (.c (.int .i64 1))⟩,⟨some 256,none,.mov (.t 4)⟩,⟨some 257,none,.mov (.t 22)⟩,⟨some 258,none,.iaddrSl 1 (.t 256) (.t 257)⟩,⟨some 259,none,.load false 1 (.t 258)⟩,⟨some 260,none,.call (.c (.fn 22 [] [])) [(.t 255),(.t 259)]⟩,⟨some 250,none,.mov (.t 260)⟩,⟨some 261,none,.extract (.t 250) 0⟩,⟨some 262,none,.extract (.t 250) 1⟩,⟨some 26,none,.mov (.t 261)⟩,⟨some 27,none,.mov (.t 262)⟩]) (.seq (.reg [⟨some 263,none,.mov (.t 21)⟩,⟨some 264,none,.mov (.t 26)⟩,⟨some 265,none,.append 1 16 [(.str ⟨#[]⟩)] (.t 263) (.t 264)⟩,⟨some 21,none,.mov (.t 265)⟩]) (.reg [⟨some 266,none,.mov (.t 17)⟩,⟨some 267,none,.mov (.t 4)⟩,⟨some 268,none,.mov (.t 22)⟩,⟨some 269,none,.iaddrSl 1 (.t 267) (.t 268)⟩,⟨some 270,none,.load false 1 (.t 269)⟩,⟨some 271,none,.bslice 1 1 [(.str ⟨#[]⟩)] [(0,1,(.t 270))]⟩,⟨some 272,none,.append 1 16 [(.str ⟨#[]⟩)] (.t 266) (.t 271)⟩,⟨some 17,none,.mov (.t 272)⟩])))))))) (.seq (.reg [⟨some 273,none,.mov (.t 15)⟩,⟨some 274,none,.call (.c (.fn 14 [] [])) [(.t 273)]⟩,⟨some 275,none,.mov (.t 17)⟩,⟨some 276,none,.call (.c (.fn 13 [] [])) [(.t 274),(.t 275)]⟩,⟨some 277,none,.un .not (.t 276)⟩,⟨some 278,none,.mov (.t 277)⟩,⟨some 279,(some (278,false)),.mov (.t 15)⟩,⟨some 280,(some (278,false)),.call (.c (.fn 15 [] [])) [(.t 279)]⟩,⟨some 281,(some (278,false)),.mov (.t 3)⟩,⟨some 282,(some (278,false)),.mov (.t 17)⟩,⟨some 283,(some (278,false)),.len .sl (.t 282)⟩,⟨some 284,(some (278,false)),.ibin .add (.t 281) (.t 283)⟩,⟨some 285,(some (278,false)),.ibin .add (.t 284) (.c (.int .i64 1))⟩,⟨some 286,(some (278,false)),.ibin .neq (.t 280) (.t 285)⟩,⟨some 287,none,.pick (.t 278) (.c (.bool true)) (.t 286)⟩,⟨some 288,none,.mov (.t 287)⟩,⟨some 289,(some (288,false)),.mov (.t 15)⟩,⟨some 290,(some (288,false)),.call (.c (.fn 16 [] [])) [(.t 289)]⟩,⟨some 291,(some (288,false)),.mov (.t 2)⟩,⟨some 292,(some (288,false)),.mov (.t 1)⟩,⟨some 293,(some (288,false)),.ibin .sub (.t 291) (.t 292)⟩,⟨some 294,(some (288,false)),.mov (.t 21)⟩,⟨some 295,(some (288,false)),.len .sl (.t 294)⟩,⟨some 296,(some (288,false)),.ibin .sub (.t 293) (.t 295)⟩,⟨some 297,(some (288,false)),.ibin .neq (.t 290) (.t 296)⟩,⟨some 298,none,.pick (.t 288) (.c (.bool true)) (.t 297)⟩,⟨some 299,none,.mov (.t 298)⟩,⟨some 300,(some (299,false)),.mov (.t 13)⟩,⟨some 301,(some (299,false)),.call (.c (.fn 17 [] [])) [(.t 300)]⟩,⟨some 302,(some (299,false)),.mov (.t 19)⟩,⟨some 303,(some (299,false)),.mov (.t 21)⟩,⟨some 304,(some (299,false)),.call (.c (.fn 12 [] [])) [(.t 303)]⟩,⟨some 305,(some (299,false)),.ibin .add (.t 302) (.t 304)⟩,⟨some 306,(some (299,false)),.mov (.t 2)⟩,⟨some 307,(some (299,false)),.mov (.t 1)⟩,⟨some 308,(some (299,false)),.ibin .sub (.t 306) (.t 307)⟩,⟨some 309,(some (299,false)),.mov (.t 21)⟩,⟨some 310,(some (299,false)),.len .sl (.t 309)⟩,⟨some 311,(some (299,false)),.ibin .sub (.t 308) (.t 310)⟩,⟨some 312,(some (299,false)),.call (.c (.fn 18 [] [])) [(.t 311)]⟩,⟨some 313,(some (299,false)),.ibin .add (.t 305) (.t 312)⟩,⟨some 314,(some (299,false)),.mov (.t 20)⟩,⟨some 315,(some (299,false)),.ibin .add (.t 313) (.t 314)⟩,⟨some 316,(some (299,false)),.ibin .neq (.t 301) (.t 315)⟩,⟨some 317,none,.pick (.t 299) (.c (.bool true)) (.t 316)⟩]) (.cond (.t 317) (.seq (.reg [⟨some 12,none,.mov (.c (.bool false))⟩]) .ret) .skip)))))))) (.reg [⟨some 161,none,.mov (.t 22)⟩,⟨some 162,none,.ibin .add (.t 161) (.c (.int .i64 1))⟩,⟨some 22,none,.mov (.t 162)⟩])))))) (.seq (.reg [⟨some 28,none,.mov (.c .nilp)⟩]) (.seq (.reg [⟨some 319,none,.call (.c (.fn 9 [] [])) [(.c .nilp),(.c (.int .i64 0)),(.c (.int .i64 1)),(.c (.int .i64 0))]⟩,⟨some 318,none,.mov (.t 319)⟩,⟨some 320,none,.extract (.t 318) 0⟩,⟨some 321,none,.extract (.t 318) 1⟩,⟨some 29,none,.mov (.t 320)⟩,⟨some 30,none,.mov (.t 321)⟩]) (.seq (.reg [⟨some 322,none,.mov (.t 30)⟩,⟨some 323,none,.call (.c (.fn 10 [] [])) [(.t 322)]⟩,⟨some 324,none,.ibin .eql (.t 323) (.c (.int .i64 2))⟩,⟨some 325,none,.mov (.t 324)⟩,⟨some 326,(some (325,true)),.mov (.t 28)⟩,⟨some 327,(some (325,true)),.call (.c (.fn 20 [] [])) [(.t 326),(.c (.str ⟨#[]⟩))]⟩,⟨some 328,(some (325,true)),.call (.c (.fn 10 [] [])) [(.t 327)]⟩,⟨some 329,(some (325,true)),.ibin .eql (.t 328) (.c (.int .i64 2))⟩,⟨some 330,none,.pick (.t 325) (.t 329) (.c (.bool false))⟩,⟨some 331,none,.mov (.t 330)⟩,⟨some 332,(some (331,true)),.mov (.t 28)⟩,⟨some 333,(some (331,true)),.call (.c (.fn 19 [] [])) [(.t 332),(.c (.int .i64 0))]⟩,⟨some 334,(some (331,true)),.call (.c (.fn 10 [] [])) [(.t 333)]⟩,⟨some 335,(some (331,true)),.ibin .eql (.t 334) (.c (.int .i64 2))⟩,⟨some 336,none,.pick (.t 331) (.t 335) (.c (.bool false))⟩,⟨some 337,none,.mov (.t 336)⟩,⟨some 338,(some (337,true)),.mov (.t 28)⟩,⟨some 339,(some (337,true)),.call (.c (.fn 14 [] [])) [(.t 338)]⟩,⟨some 340,(some (337,true)),.len .sl (.t 339)⟩,⟨some 341,(some (337,true)),.ibin .eql (.t 340) (.c (.int .i64 0))⟩,⟨some 342,none,.pick (.t 337) (.t 341) (.c (.bool false))⟩,⟨some 343,none,.mov (.t 342)⟩,⟨some 344,(some (343,true)),.mov (.t 28)⟩,⟨some 345,(some (343,true)),.call (.c (.fn 15 [] [])) [(.t 344)]⟩,⟨some 346,(some (343,true)),.ibin .eql (.t 345) (.c (.int .i64 0))⟩,⟨some 347,none,.pick (.t 343) (.t 346) (.c (.bool false))⟩,⟨some 348,none,.mov (.t 347)⟩,⟨some 349,(some (348,true)),.mov (.t 28)⟩,⟨some 350,(some (348,true)),.call (.c (.fn 16 [] [])) [(.t 349)]⟩,⟨some 351,(some (348,true)),.ibin .eql (.t 350) (.c (.int .i64 0))⟩,⟨some 352,none,.pick (.t 348) (.t 351) (.c (.bool false))⟩,⟨some 12,none,.mov (.t 352)⟩]) .ret))))))))))))))))⟩
theorem c3 : cFun Tryz.prog [1, 0, 2, 3, 4, 5, 6, 7, 8, 9, 10, 11, 12, 13] Tryz.f3 = some F3 := by kernel_rfl
end Go.Proofs.YthapdikdeoeplaaGreatDoor.Z6
end
section
set_option linter.unusedVariables false
set_option linter.unnecessarySimpa false
open Go AH
set_option linter.unusedSimpArgs false
set_option maxRecDepth 100000
namespace Go.Proofs.YthapdikdeoeplaaGreatDoor.Z6
theorem errA_1 : errA 1 = errA 1 := rfl
set_option maxHeartbeats 16000000 in
theorem lx_loop (l : List ByteArray) (rs : List Int) (A C : List ByteArray) (n : Nat) (hl20 : l.length ≤ 20) (hN : A.length + n + C.length ≤ 30) (hAz : ∀ s ∈ A, s.size = 64) (hCz : ∀ s ∈ C, s.size = 64) (x0 : LX) (hx0 : lxI l n x0) {Q : Exit → St → Prop} {st : St} {base : Nat} (hbase : base = 2)
    (h0 : (heads 2 0 [0, 1, 2, 3, 5, 6, 7, 9] = true ∧ distN [0, 1, 2, 3, 5, 6, 7, 9] = true) ∧ packB [0, 1, 2, 3, 5, 6, 7, 9] st.mem [0, 1, 2, 3, 5, 6, 7, 9] = true ∧ liveB [0, 1, 2, 3, 5, 6, 7, 9] st.tm [22, 21, 20, 19, 17, 15, 13, 5, 4, 3, 2, 1] = true ∧ wpV (fun s => s = lxSt l rs A C n x0) [] (some ⟨packTm [0, 1, 2, 3, 5, 6, 7, 9] st.tm [22, 21, 20, 19, 17, 15, 13, 5, 4, 3, 2, 1], packM [0, 1, 2, 3, 5, 6, 7, 9] st.mem [0, 1, 2, 3, 5, 6, 7, 9]⟩))
    (hR : ∀ s : St, tget s.tm 12 = .bool true → Q .ret s) (hE : ∀ s : St, Q (.exit 0) s) :
    wpA { call := (ctxE S0 tLx [(11, rlgU)] eLx).call, read := (ctxE S0 tLx [(11, rlgU)] eLx).read, eff := (ctxE S0 tLx [(11, rlgU)] eLx).eff, base := base } (F3.body.at [true, true, true, true, true, true, true, true, true, true, true, true, false, true, true]) Q st := by
  subst hbase
  unfold F3
  simp only [ACode.at]
  refine loop_do [0, 1, 2, 3, 5, 6, 7, 9] [22, 21, 20, 19, 17, 15, 13, 5, 4, 3, 2, 1] [] (α := LX) (fun x => l.length - x.i) (lxSt l rs A C n) (lxI l n) x0 hx0 h0 ?_
  clear h0 hx0 x0
  rintro X ⟨i, b, W, B, w⟩ ⟨hi, hb, hB, hW, hBz⟩ ih
  simp only at hi hb hB hW hBz
  have kb1 := hb.1
  have kb2 := hb.2
  have hLl := lgL_len (A := A) (C := C) (B := B) (n := n) hB
  have hLz := lgL_sz (n := n) hAz hBz hCz
  have hdk : (⟨lgL A B C n, false, -1, 0, w⟩ : Dk).ok := dOn_ok hLz (by omega)
  have hok : (⟨⟨lgL A B C n, false, -1, 0, w⟩, A.length, ((A.length + n : Nat) : Int), b, ((A.length + B.length : Nat) : Int), W, false⟩ : Lg).ok := ⟨hdk, hb, by simp only; omega, by simp only; omega, by simp only; omega, by simp only; omega, by simp only; omega⟩
  simp only [AH.SD, AH.SE, AOp.call?, AOp.next?, bstep, AV.cells, unAV, binAV, retQ, retV, AH.sliceElems, AH.bytesOf, AH.strOp, AH.bound, AH.missQ, AH.minmaxAV, AH.readOf, AH.effOf, Nat.reduceBEq, Nat.reduceAdd, Nat.reduceLT, ↓reduceIte, Nat.reduceEqDiff, Nat.reduceLeDiff, Nat.reduceSub, Nat.reduceMul, Int.reduceSub, Int.reduceToNat, Int.reduceBEq, Int.reduceBNe, Int.reduceLT, Int.reduceGT, Int.reduceLE, Int.reduceGE, Int.reduceNeg, Int.reduceAdd, AH.SP, AH.PD, AV.inB, vstep, vw, shift, newOnes, rowsM, blkIn, rwB, @flat_lts, AV.lt, AV.lts, Nat.sub_self, AH.SO, lxSt]
  refine ⟨fun hlt => ?_, fun hlt => ?_⟩
  rotate_left
  · exact hE _
  have hil := lt_of_dec hlt
  have wi := wrapS (i := i) (by omega)
  have hgi : (l.map strC).getD i [] = strC l[i] := getD_enc hil
  simp only [AH.SD, AH.SE, AOp.call?, AOp.next?, bstep, AV.cells, unAV, binAV, retQ, retV, AH.sliceElems, AH.bytesOf, AH.strOp, AH.bound, AH.missQ, AH.minmaxAV, AH.readOf, AH.effOf, Nat.reduceBEq, Nat.reduceAdd, Nat.reduceLT, ↓reduceIte, Nat.reduceEqDiff, Nat.reduceLeDiff, Nat.reduceSub, Nat.reduceMul, Int.reduceSub, Int.reduceToNat, Int.reduceBEq, Int.reduceBNe, Int.reduceLT, Int.reduceGT, Int.reduceLE, Int.reduceGE, Int.reduceNeg, Int.reduceAdd, AH.SP, AH.PD, AV.inB, vstep, vw, shift, newOnes, rowsM, blkIn, rwB, @flat_lts, AV.lt, AV.lts, Nat.sub_self, AH.SO, hgi, strC_eq, Int.toNat_natCast, List.length_map]
  refine ⟨by omega, hil, ?_⟩
  refine ⟨fun h7 => by simp only [AH.SD, AH.SE, AOp.call?, AOp.next?, bstep, AV.cells, unAV, binAV, retQ, retV, AH.sliceElems, AH.bytesOf, AH.strOp, AH.bound, AH.missQ, AH.minmaxAV, AH.readOf, AH.effOf, Nat.reduceBEq, Nat.reduceAdd, Nat.reduceLT, ↓reduceIte, Nat.reduceEqDiff, Nat.reduceLeDiff, Nat.reduceSub, Nat.reduceMul, Int.reduceSub, Int.reduceToNat, Int.reduceBEq, Int.reduceBNe, Int.reduceLT, Int.reduceGT, Int.reduceLE, Int.reduceGE, Int.reduceNeg, Int.reduceAdd, AH.SP, AH.PD, AV.inB, vstep, vw, shift, newOnes, rowsM, blkIn, rwB, @flat_lts, AV.lt, AV.lts, Nat.sub_self, AH.SO]; exact hR _ rfl, fun h7 => ?_⟩
  have hs7 : l[i].size ≤ 7000 := by simp only [decide_eq_false_iff_not] at h7; omega
  have hsz : okSz l[i] := okSz_of hs7
  generalize l[i] = s at *
  have FF := lx_f (w := w) hN hAz hCz hb hB hW hBz
  -- printed by tools/gen_lgg.py
  have hgr : ∀ hir : i < rs.length, (rs.map liC).getD i [] = liC rs[i] := fun hir => getD_enc hir
  cases hr : decide ((i : Int) < (rs.length : Int))
  rotate_left
  have hir := lt_of_dec hr
  replace hgr := hgr hir
  generalize rs[i] = r at *
  cases d5 : decide (r > -5)
  rotate_left
  by_cases hrb : isBase r
  · have d0 : decide (r < 0) = false := decide_eq_false (by have := hrb.1; omega)
    have d1 : decide (r > 1073741824) = false := decide_eq_false (by have := hrb.2; omega)
    obtain ⟨w2, er⟩ := rst_on (A := A) (B := B) (C := C) (n := n) (w := w) (b := b) (W := W) hrb hB
    simp only [dOn] at er
    have F2 := lx_f (w := w2) (W := []) (B := []) hN hAz hCz hrb (Nat.zero_le _) (Nat.le_refl _) (fun x hx => by cases hx)
    have fok := F2.ok
    try simp only [List.length_nil, Nat.add_zero, Nat.sub_zero, List.map_nil, Int.natCast_zero, Int.add_zero, Int.sub_zero] at fok
    have fwl := F2.wl
    try simp only [List.length_nil, Nat.add_zero, Nat.sub_zero, List.map_nil, Int.natCast_zero, Int.add_zero, Int.sub_zero] at fwl
    have fsm := F2.sm
    try simp only [List.length_nil, Nat.add_zero, Nat.sub_zero, List.map_nil, Int.natCast_zero, Int.add_zero, Int.sub_zero] at fsm
    have fnx := F2.nx
    try simp only [List.length_nil, Nat.add_zero, Nat.sub_zero, List.map_nil, Int.natCast_zero, Int.add_zero, Int.sub_zero] at fnx
    have frm := F2.rm
    try simp only [List.length_nil, Nat.add_zero, Nat.sub_zero, List.map_nil, Int.natCast_zero, Int.add_zero, Int.sub_zero] at frm
    have fw1 := F2.w1
    try simp only [List.length_nil, Nat.add_zero, Nat.sub_zero, List.map_nil, Int.natCast_zero, Int.add_zero, Int.sub_zero] at fw1
    have fw2 := F2.w2
    try simp only [List.length_nil, Nat.add_zero, Nat.sub_zero, List.map_nil, Int.natCast_zero, Int.add_zero, Int.sub_zero] at fw2
    have fw3 := F2.w3
    try simp only [List.length_nil, Nat.add_zero, Nat.sub_zero, List.map_nil, Int.natCast_zero, Int.add_zero, Int.sub_zero] at fw3
    have fw4 := F2.w4
    try simp only [List.length_nil, Nat.add_zero, Nat.sub_zero, List.map_nil, Int.natCast_zero, Int.add_zero, Int.sub_zero] at fw4
    have fdk := F2.dk
    try simp only [List.length_nil, Nat.add_zero, Nat.sub_zero, List.map_nil, Int.natCast_zero, Int.add_zero, Int.sub_zero] at fdk
    have fjo := F2.jo
    try simp only [List.length_nil, Nat.add_zero, Nat.sub_zero, List.map_nil, Int.natCast_zero, Int.add_zero, Int.sub_zero] at fjo
    have fzr := F2.zr
    try simp only [List.length_nil, Nat.add_zero, Nat.sub_zero, List.map_nil, Int.natCast_zero, Int.add_zero, Int.sub_zero] at fzr
    have fcat := F2.cat
    try simp only [List.length_nil, Nat.add_zero, Nat.sub_zero, List.map_nil, Int.natCast_zero, Int.add_zero, Int.sub_zero] at fcat
    iterate 2 ((try simp only [AH.SD, AH.SE, AOp.call?, AOp.next?, bstep, AV.cells, unAV, binAV, retQ, retV, AH.sliceElems, AH.bytesOf, AH.strOp, AH.bound, AH.missQ, AH.minmaxAV, AH.readOf, AH.effOf, Nat.reduceBEq, Nat.reduceAdd, Nat.reduceLT, ↓reduceIte, Nat.reduceEqDiff, Nat.reduceLeDiff, Nat.reduceSub, Nat.reduceMul, Int.reduceSub, Int.reduceToNat, Int.reduceBEq, Int.reduceBNe, Int.reduceLT, Int.reduceGT, Int.reduceLE, Int.reduceGE, Int.reduceNeg, Int.reduceAdd, AH.SP, AH.PD, AV.inB, vstep, vw, shift, newOnes, rowsM, blkIn, rwB, @flat_lts, AV.lt, AV.lts, Nat.sub_self, AH.SO, hr, hgr, liC_eq, d5, lgR_eq, lgU_eq, lgU_nil, Lg.eta, ne4, Bool.not_false, Bool.and_self, if_true, dkR_eq, dkB_eq, Dk.eta, ne_eq, Nat.reduceEqDiff, Nat.zero_ne_one, not_false_eq_true, rsN_p, rsT_p, FF.ok, er, rsM, lgM2, errA_ren, d0, d1, errA0, errA_nil, List.length_nil, List.map_nil, Nat.add_zero, List.length_map, Int.toNat_natCast]); repeat ((with_reducible refine And.intro ?_ ?_); focus (first | rfl | decide | omega | (simp only [List.length_map, and_true]; omega) | (simp only [List.length_map, List.length_set, and_true]; omega))))
    by_cases h6 : s.size > 6000
    · have e : addL ⟨⟨lgL A [] C n, false, -1, 0, w2⟩, A.length, ((A.length + n : Nat) : Int), r, A.length, [], false⟩ s = (1, ⟨⟨lgL A [] C n, false, -1, 0, w2⟩, A.length, ((A.length + n : Nat) : Int), r, A.length, [], false⟩) := by unfold addL; rw [if_pos h6]
      have d6 : decide ((s.size : Int) > 6000) = true := decide_eq_true (by omega)
      iterate 2 ((try simp only [AH.SD, AH.SE, AOp.call?, AOp.next?, bstep, AV.cells, unAV, binAV, retQ, retV, AH.sliceElems, AH.bytesOf, AH.strOp, AH.bound, AH.missQ, AH.minmaxAV, AH.readOf, AH.effOf, Nat.reduceBEq, Nat.reduceAdd, Nat.reduceLT, ↓reduceIte, Nat.reduceEqDiff, Nat.reduceLeDiff, Nat.reduceSub, Nat.reduceMul, Int.reduceSub, Int.reduceToNat, Int.reduceBEq, Int.reduceBNe, Int.reduceLT, Int.reduceGT, Int.reduceLE, Int.reduceGE, Int.reduceNeg, Int.reduceAdd, AH.SP, AH.PD, AV.inB, vstep, vw, shift, newOnes, rowsM, blkIn, rwB, @flat_lts, AV.lt, AV.lts, Nat.sub_self, AH.SO, lgM2, errA0, errA_nil, List.length_nil, Nat.add_zero, Nat.sub_zero, Int.natCast_zero, Int.add_zero, Int.sub_zero, hgi, strC_eq, Int.toNat_natCast, List.length_map, lgR_eq, lgU_eq, lgU_nil, Lg.eta, ne4, Bool.not_false, Bool.and_self, if_true, dkR_eq, dkB_eq, Dk.eta, ne_eq, Nat.reduceEqDiff, Nat.zero_ne_one, not_false_eq_true, adN_p, adT_p, hsz, adM, if_false, lgM, errA_ren, rsizeT_p hsz, bne_self_eq_false, recsN_p, recsT_p, saT_p, Bool.not_true, nextT_p, roomT_p, imgT_p, tl_self, imax, wi, fok, fwl, fsm, fnx, frm, fw1, fw2, fw3, fw4, fdk, fjo, fzr, fcat, e, show ¬ ((1 : Nat) = 0) by decide, d6, kindT_err, show (1 : Nat) ≤ 14 by decide]); repeat ((with_reducible refine And.intro ?_ ?_); focus (first | rfl | decide | omega | (simp only [List.length_map, and_true]; omega) | (simp only [List.length_map, List.length_set, and_true]; omega))))
      repeat ((with_reducible refine And.intro ?_ ?_); focus (first | exact F2.s1 | exact F2.s2 | exact F2.s3 | omega))
      have done := ih ⟨i + 1, r, [], [], w2⟩ ⟨hil, hrb, Nat.zero_le _, Nat.le_refl _, fun x hx => by cases hx⟩ (by simp only; omega)
      simp only [lxSt] at done
      refine gc_auto [0, 1, 2, 3, 4, 8, 9, 10] [22, 21, 20, 19, 17, 15, 13, 5, 4, 3, 2, 1] [.cap 17, .cap 21] ?_
      simp only [AH.SD, AH.SE, AOp.call?, AOp.next?, bstep, AV.cells, unAV, binAV, retQ, retV, AH.sliceElems, AH.bytesOf, AH.strOp, AH.bound, AH.missQ, AH.minmaxAV, AH.readOf, AH.effOf, Nat.reduceBEq, Nat.reduceAdd, Nat.reduceLT, ↓reduceIte, Nat.reduceEqDiff, Nat.reduceLeDiff, Nat.reduceSub, Nat.reduceMul, Int.reduceSub, Int.reduceToNat, Int.reduceBEq, Int.reduceBNe, Int.reduceLT, Int.reduceGT, Int.reduceLE, Int.reduceGE, Int.reduceNeg, Int.reduceAdd, AH.SP, AH.PD, AV.inB, vstep]
      exact done
    have d6 : decide ((s.size : Int) > 6000) = false := decide_eq_false (by omega)
    by_cases hfu : (sizeN s.size : Int) > ((n : Nat) : Int) ∨ r + 1 ≥ 1073741824
    · have e : addL ⟨⟨lgL A [] C n, false, -1, 0, w2⟩, A.length, ((A.length + n : Nat) : Int), r, A.length, [], false⟩ s = (7, ⟨⟨lgL A [] C n, false, -1, 0, w2⟩, A.length, ((A.length + n : Nat) : Int), r, A.length, [], false⟩) := by unfold addL; rw [if_neg h6, if_pos (by rw [frm, fnx]; exact hfu)]
      cases d7 : decide ((sizeN s.size : Int) > ((n : Nat) : Int))
      · skip
        have d8 : decide (r + 1 ≥ 1073741824) = true := decide_eq_true (hfu.resolve_left (by simpa using d7))
        iterate 2 ((try simp only [AH.SD, AH.SE, AOp.call?, AOp.next?, bstep, AV.cells, unAV, binAV, retQ, retV, AH.sliceElems, AH.bytesOf, AH.strOp, AH.bound, AH.missQ, AH.minmaxAV, AH.readOf, AH.effOf, Nat.reduceBEq, Nat.reduceAdd, Nat.reduceLT, ↓reduceIte, Nat.reduceEqDiff, Nat.reduceLeDiff, Nat.reduceSub, Nat.reduceMul, Int.reduceSub, Int.reduceToNat, Int.reduceBEq, Int.reduceBNe, Int.reduceLT, Int.reduceGT, Int.reduceLE, Int.reduceGE, Int.reduceNeg, Int.reduceAdd, AH.SP, AH.PD, AV.inB, vstep, vw, shift, newOnes, rowsM, blkIn, rwB, @flat_lts, AV.lt, AV.lts, Nat.sub_self, AH.SO, lgM2, errA0, errA_nil, List.length_nil, Nat.add_zero, Nat.sub_zero, Int.natCast_zero, Int.add_zero, Int.sub_zero, hgi, strC_eq, Int.toNat_natCast, List.length_map, lgR_eq, lgU_eq, lgU_nil, Lg.eta, ne4, Bool.not_false, Bool.and_self, if_true, dkR_eq, dkB_eq, Dk.eta, ne_eq, Nat.reduceEqDiff, Nat.zero_ne_one, not_false_eq_true, adN_p, adT_p, hsz, adM, if_false, lgM, errA_ren, rsizeT_p hsz, bne_self_eq_false, recsN_p, recsT_p, saT_p, Bool.not_true, nextT_p, roomT_p, imgT_p, tl_self, imax, wi, fok, fwl, fsm, fnx, frm, fw1, fw2, fw3, fw4, fdk, fjo, fzr, fcat, e, show ¬ ((7 : Nat) = 0) by decide, d6, d7, d8, kindT_err, show (7 : Nat) ≤ 14 by decide]); repeat ((with_reducible refine And.intro ?_ ?_); focus (first | rfl | decide | omega | (simp only [List.length_map, and_true]; omega) | (simp only [List.length_map, List.length_set, and_true]; omega))))
        repeat ((with_reducible refine And.intro ?_ ?_); focus (first | exact F2.s1 | exact F2.s2 | exact F2.s3 | omega))
        have done := ih ⟨i + 1, r, [], [], w2⟩ ⟨hil, hrb, Nat.zero_le _, Nat.le_refl _, fun x hx => by cases hx⟩ (by simp only; omega)
        simp only [lxSt] at done
        refine gc_auto [0, 1, 2, 3, 4, 8, 9, 10] [22, 21, 20, 19, 17, 15, 13, 5, 4, 3, 2, 1] [.cap 17, .cap 21] ?_
        simp only [AH.SD, AH.SE, AOp.call?, AOp.next?, bstep, AV.cells, unAV, binAV, retQ, retV, AH.sliceElems, AH.bytesOf, AH.strOp, AH.bound, AH.missQ, AH.minmaxAV, AH.readOf, AH.effOf, Nat.reduceBEq, Nat.reduceAdd, Nat.reduceLT, ↓reduceIte, Nat.reduceEqDiff, Nat.reduceLeDiff, Nat.reduceSub, Nat.reduceMul, Int.reduceSub, Int.reduceToNat, Int.reduceBEq, Int.reduceBNe, Int.reduceLT, Int.reduceGT, Int.reduceLE, Int.reduceGE, Int.reduceNeg, Int.reduceAdd, AH.SP, AH.PD, AV.inB, vstep]
        exact done
      · skip
        iterate 2 ((try simp only [AH.SD, AH.SE, AOp.call?, AOp.next?, bstep, AV.cells, unAV, binAV, retQ, retV, AH.sliceElems, AH.bytesOf, AH.strOp, AH.bound, AH.missQ, AH.minmaxAV, AH.readOf, AH.effOf, Nat.reduceBEq, Nat.reduceAdd, Nat.reduceLT, ↓reduceIte, Nat.reduceEqDiff, Nat.reduceLeDiff, Nat.reduceSub, Nat.reduceMul, Int.reduceSub, Int.reduceToNat, Int.reduceBEq, Int.reduceBNe, Int.reduceLT, Int.reduceGT, Int.reduceLE, Int.reduceGE, Int.reduceNeg, Int.reduceAdd, AH.SP, AH.PD, AV.inB, vstep, vw, shift, newOnes, rowsM, blkIn, rwB, @flat_lts, AV.lt, AV.lts, Nat.sub_self, AH.SO, lgM2, errA0, errA_nil, List.length_nil, Nat.add_zero, Nat.sub_zero, Int.natCast_zero, Int.add_zero, Int.sub_zero, hgi, strC_eq, Int.toNat_natCast, List.length_map, lgR_eq, lgU_eq, lgU_nil, Lg.eta, ne4, Bool.not_false, Bool.and_self, if_true, dkR_eq, dkB_eq, Dk.eta, ne_eq, Nat.reduceEqDiff, Nat.zero_ne_one, not_false_eq_true, adN_p, adT_p, hsz, adM, if_false, lgM, errA_ren, rsizeT_p hsz, bne_self_eq_false, recsN_p, recsT_p, saT_p, Bool.not_true, nextT_p, roomT_p, imgT_p, tl_self, imax, wi, fok, fwl, fsm, fnx, frm, fw1, fw2, fw3, fw4, fdk, fjo, fzr, fcat, e, show ¬ ((7 : Nat) = 0) by decide, d6, d7, kindT_err, show (7 : Nat) ≤ 14 by decide]); repeat ((with_reducible refine And.intro ?_ ?_); focus (first | rfl | decide | omega | (simp only [List.length_map, and_true]; omega) | (simp only [List.length_map, List.length_set, and_true]; omega))))
        repeat ((with_reducible refine And.intro ?_ ?_); focus (first | exact F2.s1 | exact F2.s2 | exact F2.s3 | omega))
        have done := ih ⟨i + 1, r, [], [], w2⟩ ⟨hil, hrb, Nat.zero_le _, Nat.le_refl _, fun x hx => by cases hx⟩ (by simp only; omega)
        simp only [lxSt] at done
        refine gc_auto [0, 1, 2, 3, 4, 8, 9, 10] [22, 21, 20, 19, 17, 15, 13, 5, 4, 3, 2, 1] [.cap 17, .cap 21] ?_
        simp only [AH.SD, AH.SE, AOp.call?, AOp.next?, bstep, AV.cells, unAV, binAV, retQ, retV, AH.sliceElems, AH.bytesOf, AH.strOp, AH.bound, AH.missQ, AH.minmaxAV, AH.readOf, AH.effOf, Nat.reduceBEq, Nat.reduceAdd, Nat.reduceLT, ↓reduceIte, Nat.reduceEqDiff, Nat.reduceLeDiff, Nat.reduceSub, Nat.reduceMul, Int.reduceSub, Int.reduceToNat, Int.reduceBEq, Int.reduceBNe, Int.reduceLT, Int.reduceGT, Int.reduceLE, Int.reduceGE, Int.reduceNeg, Int.reduceAdd, AH.SP, AH.PD, AV.inB, vstep]
        exact done
    have d7 : decide ((sizeN s.size : Int) > ((n : Nat) : Int)) = false := decide_eq_false fun q => hfu (.inl q)
    have d8 : decide (r + 1 ≥ 1073741824) = false := decide_eq_false fun q => hfu (.inr q)
    have hk : (blkL (r + 1) s (sizeN s.size)).length = sizeN s.size := blkL_len ..
    obtain ⟨w3, e⟩ := add_on (A := A) (B := []) (C := C) (n := n) (w := w2) (b := r) (W := []) (s := s) (by omega) (by simp only [decide_eq_false_iff_not] at d7; simp only [List.length_nil]; omega) (by simp only [decide_eq_false_iff_not] at d8; simp only [List.length_nil]; omega)
    simp only [List.length_nil, List.nil_append, Nat.zero_add, Nat.add_zero, Int.natCast_zero, Int.add_zero, dOn] at e
    have htk : ((blkL (r + 1) s (sizeN s.size)).map strC).take (sizeN s.size) = (blkL (r + 1) s (sizeN s.size)).map strC := List.take_of_length_le (by rw [List.length_map, hk]; exact Nat.le_refl _)
    have hbz := blkL_sz (q := r + 1) (s := s) (n := sizeN s.size) (Nat.le_refl _)
    have hbl : okBl (r + 1, s, ()) := by
      refine ⟨?_, ?_, ?_⟩
      · show 1 ≤ r + 1; have := hrb.1; omega
      · show r + 1 ≤ 2147483647; simp only [decide_eq_false_iff_not] at d8; omega
      · show s.size ≤ 6000; omega
    have hn1 := sizeN_pos s.size
    have hB2 : (blkL (r + 1) s (sizeN s.size)).length ≤ n := by simp only [decide_eq_false_iff_not] at d7; rw [hk]; omega
    have hW2 : [s].length ≤ (blkL (r + 1) s (sizeN s.size)).length := by rw [hk]; exact hn1
    have hBz2 : ∀ x ∈ (blkL (r + 1) s (sizeN s.size)), x.size = 64 := hbz
    have GG := lx_f (w := w3) hN hAz hCz hrb hB2 hW2 hBz2
    generalize hBg : (blkL (r + 1) s (sizeN s.size)) = B2 at *
    have hBg2 : blkL (r + 1) s B2.length = B2 := by rw [hk]; exact hBg
    rw [← hk] at e d7 htk
    have gok := GG.ok
    try simp only [List.length_cons, List.length_nil, Nat.zero_add, List.map_cons, List.map_nil, strC_eq] at gok
    have gwl := GG.wl
    try simp only [List.length_cons, List.length_nil, Nat.zero_add, List.map_cons, List.map_nil, strC_eq] at gwl
    have gsm := GG.sm
    try simp only [List.length_cons, List.length_nil, Nat.zero_add, List.map_cons, List.map_nil, strC_eq] at gsm
    have gnx := GG.nx
    try simp only [List.length_cons, List.length_nil, Nat.zero_add, List.map_cons, List.map_nil, strC_eq] at gnx
    have grm := GG.rm
    try simp only [List.length_cons, List.length_nil, Nat.zero_add, List.map_cons, List.map_nil, strC_eq] at grm
    have gw1 := GG.w1
    try simp only [List.length_cons, List.length_nil, Nat.zero_add, List.map_cons, List.map_nil, strC_eq] at gw1
    have gw2 := GG.w2
    try simp only [List.length_cons, List.length_nil, Nat.zero_add, List.map_cons, List.map_nil, strC_eq] at gw2
    have gw3 := GG.w3
    try simp only [List.length_cons, List.length_nil, Nat.zero_add, List.map_cons, List.map_nil, strC_eq] at gw3
    have gw4 := GG.w4
    try simp only [List.length_cons, List.length_nil, Nat.zero_add, List.map_cons, List.map_nil, strC_eq] at gw4
    have gdk := GG.dk
    try simp only [List.length_cons, List.length_nil, Nat.zero_add, List.map_cons, List.map_nil, strC_eq] at gdk
    have gjo := GG.jo
    try simp only [List.length_cons, List.length_nil, Nat.zero_add, List.map_cons, List.map_nil, strC_eq] at gjo
    have gzr := GG.zr
    try simp only [List.length_cons, List.length_nil, Nat.zero_add, List.map_cons, List.map_nil, strC_eq] at gzr
    have gcat := GG.cat
    try simp only [List.length_cons, List.length_nil, Nat.zero_add, List.map_cons, List.map_nil, strC_eq] at gcat
    have gx : IntKind.i64.wrap (r + 1 + 1) = r + 1 + 1 := by rw [IntKind.wrap_i64]; have := hrb.1; have := hrb.2; omega
    iterate 2 ((try simp only [AH.SD, AH.SE, AOp.call?, AOp.next?, bstep, AV.cells, unAV, binAV, retQ, retV, AH.sliceElems, AH.bytesOf, AH.strOp, AH.bound, AH.missQ, AH.minmaxAV, AH.readOf, AH.effOf, Nat.reduceBEq, Nat.reduceAdd, Nat.reduceLT, ↓reduceIte, Nat.reduceEqDiff, Nat.reduceLeDiff, Nat.reduceSub, Nat.reduceMul, Int.reduceSub, Int.reduceToNat, Int.reduceBEq, Int.reduceBNe, Int.reduceLT, Int.reduceGT, Int.reduceLE, Int.reduceGE, Int.reduceNeg, Int.reduceAdd, AH.SP, AH.PD, AV.inB, vstep, vw, shift, newOnes, rowsM, blkIn, rwB, @flat_lts, AV.lt, AV.lts, Nat.sub_self, AH.SO, lgM2, errA0, errA_nil, List.length_nil, Nat.add_zero, Nat.sub_zero, Int.natCast_zero, Int.add_zero, Int.sub_zero, hgi, strC_eq, Int.toNat_natCast, List.length_map, lgR_eq, lgU_eq, lgU_nil, Lg.eta, ne4, Bool.not_false, Bool.and_self, if_true, dkR_eq, dkB_eq, Dk.eta, ne_eq, Nat.reduceEqDiff, Nat.zero_ne_one, not_false_eq_true, adN_p, adT_p, hsz, adM, if_false, lgM, errA_ren, rsizeT_p hsz, bne_self_eq_false, recsN_p, recsT_p, saT_p, Bool.not_true, nextT_p, roomT_p, imgT_p, tl_self, imax, wi, gx, gok, gwl, gsm, gnx, grm, gw1, gw2, gw3, gw4, gdk, gjo, gzr, gcat, fok, e, d6, d7, d8, fw1, fw2, fw4, errA_nil, errA0, rbksN_p, rtC1, hbl, not_true_eq_false, rbksT_p, htk, lgM2, List.drop_zero, ← hk, hBg2, lgU_one, List.length_cons, List.length_nil, List.map_cons, List.map_nil, Nat.zero_add]); repeat ((with_reducible refine And.intro ?_ ?_); focus (first | rfl | decide | omega | (simp only [List.length_map, and_true]; omega) | (simp only [List.length_map, List.length_set, and_true]; omega))))
    repeat ((with_reducible refine And.intro ?_ ?_); focus (first | exact GG.s1 | exact GG.s2 | exact GG.s3 | omega))
    have done := ih ⟨i + 1, r, [s], B2, w3⟩ ⟨hil, hrb, hB2, hW2, hBz2⟩ (by simp only; omega)
    simp only [lxSt] at done
    refine gc_auto [0, 1, 2, 3, 4, 11, 15, 13] [22, 21, 20, 19, 17, 15, 13, 5, 4, 3, 2, 1] [] ?_
    simp only [AH.SD, AH.SE, AOp.call?, AOp.next?, bstep, AV.cells, unAV, binAV, retQ, retV, AH.sliceElems, AH.bytesOf, AH.strOp, AH.bound, AH.missQ, AH.minmaxAV, AH.readOf, AH.effOf, Nat.reduceBEq, Nat.reduceAdd, Nat.reduceLT, ↓reduceIte, Nat.reduceEqDiff, Nat.reduceLeDiff, Nat.reduceSub, Nat.reduceMul, Int.reduceSub, Int.reduceToNat, Int.reduceBEq, Int.reduceBNe, Int.reduceLT, Int.reduceGT, Int.reduceLE, Int.reduceGE, Int.reduceNeg, Int.reduceAdd, AH.SP, AH.PD, AV.inB, vstep]
    exact done
  have er : rstL ⟨⟨lgL A B C n, false, -1, 0, w⟩, A.length, ((A.length + n : Nat) : Int), b, ((A.length + B.length : Nat) : Int), W, false⟩ r = (1, ⟨⟨lgL A B C n, false, -1, 0, w⟩, A.length, ((A.length + n : Nat) : Int), b, ((A.length + B.length : Nat) : Int), W, false⟩) := by unfold rstL; rw [if_pos hrb]
  cases d0 : decide (r < 0)
  have d1 : decide (r > 1073741824) = true := by
    simp only [decide_eq_false_iff_not] at d0
    refine decide_eq_true ?_
    unfold isBase at hrb
    omega
  iterate 2 ((try simp only [AH.SD, AH.SE, AOp.call?, AOp.next?, bstep, AV.cells, unAV, binAV, retQ, retV, AH.sliceElems, AH.bytesOf, AH.strOp, AH.bound, AH.missQ, AH.minmaxAV, AH.readOf, AH.effOf, Nat.reduceBEq, Nat.reduceAdd, Nat.reduceLT, ↓reduceIte, Nat.reduceEqDiff, Nat.reduceLeDiff, Nat.reduceSub, Nat.reduceMul, Int.reduceSub, Int.reduceToNat, Int.reduceBEq, Int.reduceBNe, Int.reduceLT, Int.reduceGT, Int.reduceLE, Int.reduceGE, Int.reduceNeg, Int.reduceAdd, AH.SP, AH.PD, AV.inB, vstep, vw, shift, newOnes, rowsM, blkIn, rwB, @flat_lts, AV.lt, AV.lts, Nat.sub_self, AH.SO, hr, hgr, liC_eq, d5, lgR_eq, lgU_eq, lgU_nil, Lg.eta, ne4, Bool.not_false, Bool.and_self, if_true, dkR_eq, dkB_eq, Dk.eta, ne_eq, Nat.reduceEqDiff, Nat.zero_ne_one, not_false_eq_true, rsN_p, rsT_p, FF.ok, er, rsM, lgM, errA_ren, d0, d1, kindT_err, show (1 : Nat) ≤ 14 by decide, show ¬ ((1 : Nat) = 0) by decide, if_false, bne_self_eq_false, List.length_map, Int.toNat_natCast]); repeat ((with_reducible refine And.intro ?_ ?_); focus (first | rfl | decide | omega | (simp only [List.length_map, and_true]; omega) | (simp only [List.length_map, List.length_set, and_true]; omega))))
  rotate_left
  iterate 2 ((try simp only [AH.SD, AH.SE, AOp.call?, AOp.next?, bstep, AV.cells, unAV, binAV, retQ, retV, AH.sliceElems, AH.bytesOf, AH.strOp, AH.bound, AH.missQ, AH.minmaxAV, AH.readOf, AH.effOf, Nat.reduceBEq, Nat.reduceAdd, Nat.reduceLT, ↓reduceIte, Nat.reduceEqDiff, Nat.reduceLeDiff, Nat.reduceSub, Nat.reduceMul, Int.reduceSub, Int.reduceToNat, Int.reduceBEq, Int.reduceBNe, Int.reduceLT, Int.reduceGT, Int.reduceLE, Int.reduceGE, Int.reduceNeg, Int.reduceAdd, AH.SP, AH.PD, AV.inB, vstep, vw, shift, newOnes, rowsM, blkIn, rwB, @flat_lts, AV.lt, AV.lts, Nat.sub_self, AH.SO, hr, hgr, liC_eq, d5, lgR_eq, lgU_eq, lgU_nil, Lg.eta, ne4, Bool.not_false, Bool.and_self, if_true, dkR_eq, dkB_eq, Dk.eta, ne_eq, Nat.reduceEqDiff, Nat.zero_ne_one, not_false_eq_true, rsN_p, rsT_p, FF.ok, er, rsM, lgM, errA_ren, d0, kindT_err, show (1 : Nat) ≤ 14 by decide, show ¬ ((1 : Nat) = 0) by decide, if_false, bne_self_eq_false, List.length_map, Int.toNat_natCast]); repeat ((with_reducible refine And.intro ?_ ?_); focus (first | rfl | decide | omega | (simp only [List.length_map, and_true]; omega) | (simp only [List.length_map, List.length_set, and_true]; omega))))
  rotate_left
  iterate 2 ((try simp only [AH.SD, AH.SE, AOp.call?, AOp.next?, bstep, AV.cells, unAV, binAV, retQ, retV, AH.sliceElems, AH.bytesOf, AH.strOp, AH.bound, AH.missQ, AH.minmaxAV, AH.readOf, AH.effOf, Nat.reduceBEq, Nat.reduceAdd, Nat.reduceLT, ↓reduceIte, Nat.reduceEqDiff, Nat.reduceLeDiff, Nat.reduceSub, Nat.reduceMul, Int.reduceSub, Int.reduceToNat, Int.reduceBEq, Int.reduceBNe, Int.reduceLT, Int.reduceGT, Int.reduceLE, Int.reduceGE, Int.reduceNeg, Int.reduceAdd, AH.SP, AH.PD, AV.inB, vstep, vw, shift, newOnes, rowsM, blkIn, rwB, @flat_lts, AV.lt, AV.lts, Nat.sub_self, AH.SO, hr]); repeat ((with_reducible refine And.intro ?_ ?_); focus (first | rfl | decide | omega | (simp only [List.length_map, and_true]; omega) | (simp only [List.length_map, List.length_set, and_true]; omega))))
  rotate_left
  iterate 2 ((try simp only [AH.SD, AH.SE, AOp.call?, AOp.next?, bstep, AV.cells, unAV, binAV, retQ, retV, AH.sliceElems, AH.bytesOf, AH.strOp, AH.bound, AH.missQ, AH.minmaxAV, AH.readOf, AH.effOf, Nat.reduceBEq, Nat.reduceAdd, Nat.reduceLT, ↓reduceIte, Nat.reduceEqDiff, Nat.reduceLeDiff, Nat.reduceSub, Nat.reduceMul, Int.reduceSub, Int.reduceToNat, Int.reduceBEq, Int.reduceBNe, Int.reduceLT, Int.reduceGT, Int.reduceLE, Int.reduceGE, Int.reduceNeg, Int.reduceAdd, AH.SP, AH.PD, AV.inB, vstep, vw, shift, newOnes, rowsM, blkIn, rwB, @flat_lts, AV.lt, AV.lts, Nat.sub_self, AH.SO, hr, hgr, liC_eq, d5, List.length_map, Int.toNat_natCast]); repeat ((with_reducible refine And.intro ?_ ?_); focus (first | rfl | decide | omega | (simp only [List.length_map, and_true]; omega) | (simp only [List.length_map, List.length_set, and_true]; omega))))
  rotate_left
  all_goals
    by_cases h6 : s.size > 6000
    · have e : addL ⟨⟨lgL A B C n, false, -1, 0, w⟩, A.length, ((A.length + n : Nat) : Int), b, ((A.length + B.length : Nat) : Int), W, false⟩ s = (1, ⟨⟨lgL A B C n, false, -1, 0, w⟩, A.length, ((A.length + n : Nat) : Int), b, ((A.length + B.length : Nat) : Int), W, false⟩) := by unfold addL; rw [if_pos h6]
      have d6 : decide ((s.size : Int) > 6000) = true := decide_eq_true (by omega)
      iterate 2 ((try simp only [AH.SD, AH.SE, AOp.call?, AOp.next?, bstep, AV.cells, unAV, binAV, retQ, retV, AH.sliceElems, AH.bytesOf, AH.strOp, AH.bound, AH.missQ, AH.minmaxAV, AH.readOf, AH.effOf, Nat.reduceBEq, Nat.reduceAdd, Nat.reduceLT, ↓reduceIte, Nat.reduceEqDiff, Nat.reduceLeDiff, Nat.reduceSub, Nat.reduceMul, Int.reduceSub, Int.reduceToNat, Int.reduceBEq, Int.reduceBNe, Int.reduceLT, Int.reduceGT, Int.reduceLE, Int.reduceGE, Int.reduceNeg, Int.reduceAdd, AH.SP, AH.PD, AV.inB, vstep, vw, shift, newOnes, rowsM, blkIn, rwB, @flat_lts, AV.lt, AV.lts, Nat.sub_self, AH.SO, hgi, hgi, strC_eq, Int.toNat_natCast, List.length_map, lgR_eq, lgU_eq, lgU_nil, Lg.eta, ne4, Bool.not_false, Bool.and_self, if_true, dkR_eq, dkB_eq, Dk.eta, ne_eq, Nat.reduceEqDiff, Nat.zero_ne_one, not_false_eq_true, adN_p, adT_p, hsz, adM, if_false, lgM, errA_ren, rsizeT_p hsz, bne_self_eq_false, recsN_p, recsT_p, saT_p, Bool.not_true, nextT_p, roomT_p, imgT_p, tl_self, imax, wi, FF.ok, FF.wl, FF.sm, FF.nx, FF.rm, FF.w1, FF.w2, FF.w3, FF.w4, FF.dk, FF.jo, FF.zr, FF.cat, e, show ¬ ((1 : Nat) = 0) by decide, d6, kindT_err, show (1 : Nat) ≤ 14 by decide]); repeat ((with_reducible refine And.intro ?_ ?_); focus (first | rfl | decide | omega | (simp only [List.length_map, and_true]; omega) | (simp only [List.length_map, List.length_set, and_true]; omega))))
      repeat ((with_reducible refine And.intro ?_ ?_); focus (first | exact FF.s1 | exact FF.s2 | exact FF.s3 | omega))
      have done := ih ⟨i + 1, b, W, B, w⟩ ⟨hil, hb, hB, hW, hBz⟩ (by simp only; omega)
      simp only [lxSt] at done
      refine gc_auto [0, 1, 2, 3, 4, 5, 6, 7] [22, 21, 20, 19, 17, 15, 13, 5, 4, 3, 2, 1] [] ?_
      simp only [AH.SD, AH.SE, AOp.call?, AOp.next?, bstep, AV.cells, unAV, binAV, retQ, retV, AH.sliceElems, AH.bytesOf, AH.strOp, AH.bound, AH.missQ, AH.minmaxAV, AH.readOf, AH.effOf, Nat.reduceBEq, Nat.reduceAdd, Nat.reduceLT, ↓reduceIte, Nat.reduceEqDiff, Nat.reduceLeDiff, Nat.reduceSub, Nat.reduceMul, Int.reduceSub, Int.reduceToNat, Int.reduceBEq, Int.reduceBNe, Int.reduceLT, Int.reduceGT, Int.reduceLE, Int.reduceGE, Int.reduceNeg, Int.reduceAdd, AH.SP, AH.PD, AV.inB, vstep]
      exact done
    have d6 : decide ((s.size : Int) > 6000) = false := decide_eq_false (by omega)
    by_cases hfu : (sizeN s.size : Int) > ((n - B.length : Nat) : Int) ∨ b + (W.length : Int) + 1 ≥ 1073741824
    · have e : addL ⟨⟨lgL A B C n, false, -1, 0, w⟩, A.length, ((A.length + n : Nat) : Int), b, ((A.length + B.length : Nat) : Int), W, false⟩ s = (7, ⟨⟨lgL A B C n, false, -1, 0, w⟩, A.length, ((A.length + n : Nat) : Int), b, ((A.length + B.length : Nat) : Int), W, false⟩) := by unfold addL; rw [if_neg h6, if_pos (by rw [FF.rm, FF.nx]; exact hfu)]
      cases d7 : decide ((sizeN s.size : Int) > ((n - B.length : Nat) : Int))
      · skip
        have d8 : decide (b + (W.length : Int) + 1 ≥ 1073741824) = true := decide_eq_true (hfu.resolve_left (by simpa using d7))
        iterate 2 ((try simp only [AH.SD, AH.SE, AOp.call?, AOp.next?, bstep, AV.cells, unAV, binAV, retQ, retV, AH.sliceElems, AH.bytesOf, AH.strOp, AH.bound, AH.missQ, AH.minmaxAV, AH.readOf, AH.effOf, Nat.reduceBEq, Nat.reduceAdd, Nat.reduceLT, ↓reduceIte, Nat.reduceEqDiff, Nat.reduceLeDiff, Nat.reduceSub, Nat.reduceMul, Int.reduceSub, Int.reduceToNat, Int.reduceBEq, Int.reduceBNe, Int.reduceLT, Int.reduceGT, Int.reduceLE, Int.reduceGE, Int.reduceNeg, Int.reduceAdd, AH.SP, AH.PD, AV.inB, vstep, vw, shift, newOnes, rowsM, blkIn, rwB, @flat_lts, AV.lt, AV.lts, Nat.sub_self, AH.SO, hgi, hgi, strC_eq, Int.toNat_natCast, List.length_map, lgR_eq, lgU_eq, lgU_nil, Lg.eta, ne4, Bool.not_false, Bool.and_self, if_true, dkR_eq, dkB_eq, Dk.eta, ne_eq, Nat.reduceEqDiff, Nat.zero_ne_one, not_false_eq_true, adN_p, adT_p, hsz, adM, if_false, lgM, errA_ren, rsizeT_p hsz, bne_self_eq_false, recsN_p, recsT_p, saT_p, Bool.not_true, nextT_p, roomT_p, imgT_p, tl_self, imax, wi, FF.ok, FF.wl, FF.sm, FF.nx, FF.rm, FF.w1, FF.w2, FF.w3, FF.w4, FF.dk, FF.jo, FF.zr, FF.cat, e, show ¬ ((7 : Nat) = 0) by decide, d6, d7, d8, kindT_err, show (7 : Nat) ≤ 14 by decide]); repeat ((with_reducible refine And.intro ?_ ?_); focus (first | rfl | decide | omega | (simp only [List.length_map, and_true]; omega) | (simp only [List.length_map, List.length_set, and_true]; omega))))
        repeat ((with_reducible refine And.intro ?_ ?_); focus (first | exact FF.s1 | exact FF.s2 | exact FF.s3 | omega))
        have done := ih ⟨i + 1, b, W, B, w⟩ ⟨hil, hb, hB, hW, hBz⟩ (by simp only; omega)
        simp only [lxSt] at done
        refine gc_auto [0, 1, 2, 3, 4, 5, 6, 7] [22, 21, 20, 19, 17, 15, 13, 5, 4, 3, 2, 1] [] ?_
        simp only [AH.SD, AH.SE, AOp.call?, AOp.next?, bstep, AV.cells, unAV, binAV, retQ, retV, AH.sliceElems, AH.bytesOf, AH.strOp, AH.bound, AH.missQ, AH.minmaxAV, AH.readOf, AH.effOf, Nat.reduceBEq, Nat.reduceAdd, Nat.reduceLT, ↓reduceIte, Nat.reduceEqDiff, Nat.reduceLeDiff, Nat.reduceSub, Nat.reduceMul, Int.reduceSub, Int.reduceToNat, Int.reduceBEq, Int.reduceBNe, Int.reduceLT, Int.reduceGT, Int.reduceLE, Int.reduceGE, Int.reduceNeg, Int.reduceAdd, AH.SP, AH.PD, AV.inB, vstep]
        exact done
      · skip
        iterate 2 ((try simp only [AH.SD, AH.SE, AOp.call?, AOp.next?, bstep, AV.cells, unAV, binAV, retQ, retV, AH.sliceElems, AH.bytesOf, AH.strOp, AH.bound, AH.missQ, AH.minmaxAV, AH.readOf, AH.effOf, Nat.reduceBEq, Nat.reduceAdd, Nat.reduceLT, ↓reduceIte, Nat.reduceEqDiff, Nat.reduceLeDiff, Nat.reduceSub, Nat.reduceMul, Int.reduceSub, Int.reduceToNat, Int.reduceBEq, Int.reduceBNe, Int.reduceLT, Int.reduceGT, Int.reduceLE, Int.reduceGE, Int.reduceNeg, Int.reduceAdd, AH.SP, AH.PD, AV.inB, vstep, vw, shift, newOnes, rowsM, blkIn, rwB, @flat_lts, AV.lt, AV.lts, Nat.sub_self, AH.SO, hgi, hgi, strC_eq, Int.toNat_natCast, List.length_map, lgR_eq, lgU_eq, lgU_nil, Lg.eta, ne4, Bool.not_false, Bool.and_self, if_true, dkR_eq, dkB_eq, Dk.eta, ne_eq, Nat.reduceEqDiff, Nat.zero_ne_one, not_false_eq_true, adN_p, adT_p, hsz, adM, if_false, lgM, errA_ren, rsizeT_p hsz, bne_self_eq_false, recsN_p, recsT_p, saT_p, Bool.not_true, nextT_p, roomT_p, imgT_p, tl_self, imax, wi, FF.ok, FF.wl, FF.sm, FF.nx, FF.rm, FF.w1, FF.w2, FF.w3, FF.w4, FF.dk, FF.jo, FF.zr, FF.cat, e, show ¬ ((7 : Nat) = 0) by decide, d6, d7, kindT_err, show (7 : Nat) ≤ 14 by decide]); repeat ((with_reducible refine And.intro ?_ ?_); focus (first | rfl | decide | omega | (simp only [List.length_map, and_true]; omega) | (simp only [List.length_map, List.length_set, and_true]; omega))))
        repeat ((with_reducible refine And.intro ?_ ?_); focus (first | exact FF.s1 | exact FF.s2 | exact FF.s3 | omega))
        have done := ih ⟨i + 1, b, W, B, w⟩ ⟨hil, hb, hB, hW, hBz⟩ (by simp only; omega)
        simp only [lxSt] at done
        refine gc_auto [0, 1, 2, 3, 4, 5, 6, 7] [22, 21, 20, 19, 17, 15, 13, 5, 4, 3, 2, 1] [] ?_
        simp only [AH.SD, AH.SE, AOp.call?, AOp.next?, bstep, AV.cells, unAV, binAV, retQ, retV, AH.sliceElems, AH.bytesOf, AH.strOp, AH.bound, AH.missQ, AH.minmaxAV, AH.readOf, AH.effOf, Nat.reduceBEq, Nat.reduceAdd, Nat.reduceLT, ↓reduceIte, Nat.reduceEqDiff, Nat.reduceLeDiff, Nat.reduceSub, Nat.reduceMul, Int.reduceSub, Int.reduceToNat, Int.reduceBEq, Int.reduceBNe, Int.reduceLT, Int.reduceGT, Int.reduceLE, Int.reduceGE, Int.reduceNeg, Int.reduceAdd, AH.SP, AH.PD, AV.inB, vstep]
        exact done
    have d7 : decide ((sizeN s.size : Int) > ((n - B.length : Nat) : Int)) = false := decide_eq_false fun q => hfu (.inl q)
    have d8 : decide (b + (W.length : Int) + 1 ≥ 1073741824) = false := decide_eq_false fun q => hfu (.inr q)
    have hk : (blkL (b + (W.length : Int) + 1) s (sizeN s.size)).length = sizeN s.size := blkL_len ..
    obtain ⟨w3, e⟩ := add_on (A := A) (B := B) (C := C) (n := n) (w := w) (b := b) (W := W) (s := s) (by omega) (by simp only [decide_eq_false_iff_not] at d7; omega) (by simp only [decide_eq_false_iff_not] at d8; omega)
    have hB'l : B.length + sizeN s.size = (B ++ blkL (b + (W.length : Int) + 1) s (sizeN s.size)).length := by rw [List.length_append, hk]
    have hW'l : W.length + 1 = (W ++ [s]).length := by simp
    have hsB := appS B (blkL (b + (W.length : Int) + 1) s (sizeN s.size))
    have hsW := snocS W s
    have htk : ((blkL (b + (W.length : Int) + 1) s (sizeN s.size)).map strC).take (sizeN s.size) = (blkL (b + (W.length : Int) + 1) s (sizeN s.size)).map strC := List.take_of_length_le (by rw [List.length_map, hk]; exact Nat.le_refl _)
    have hbz := blkL_sz (q := b + (W.length : Int) + 1) (s := s) (n := sizeN s.size) (Nat.le_refl _)
    have hbl : okBl (b + (W.length : Int) + 1, s, ()) := by
      refine ⟨?_, ?_, ?_⟩
      · show 1 ≤ b + (W.length : Int) + 1; have := hb.1; omega
      · show b + (W.length : Int) + 1 ≤ 2147483647; simp only [decide_eq_false_iff_not] at d8; omega
      · show s.size ≤ 6000; omega
    have hn1 := sizeN_pos s.size
    have hB2 : (B ++ blkL (b + (W.length : Int) + 1) s (sizeN s.size)).length ≤ n := by simp only [decide_eq_false_iff_not] at d7; rw [← hB'l]; omega
    have hW2 : (W ++ [s]).length ≤ (B ++ blkL (b + (W.length : Int) + 1) s (sizeN s.size)).length := by rw [← hB'l, ← hW'l]; omega
    have hBz2 : ∀ x ∈ (B ++ blkL (b + (W.length : Int) + 1) s (sizeN s.size)), x.size = 64 := fun x hx => (List.mem_append.1 hx).elim (hBz x) (hbz x)
    have GG := lx_f (w := w3) hN hAz hCz hb hB2 hW2 hBz2
    simp only [dOn] at e
    rw [hB'l] at e
    generalize hBg : (B ++ blkL (b + (W.length : Int) + 1) s (sizeN s.size)) = B2 at *
    generalize hWg : (W ++ [s]) = W2 at *
    iterate 2 ((try simp only [AH.SD, AH.SE, AOp.call?, AOp.next?, bstep, AV.cells, unAV, binAV, retQ, retV, AH.sliceElems, AH.bytesOf, AH.strOp, AH.bound, AH.missQ, AH.minmaxAV, AH.readOf, AH.effOf, Nat.reduceBEq, Nat.reduceAdd, Nat.reduceLT, ↓reduceIte, Nat.reduceEqDiff, Nat.reduceLeDiff, Nat.reduceSub, Nat.reduceMul, Int.reduceSub, Int.reduceToNat, Int.reduceBEq, Int.reduceBNe, Int.reduceLT, Int.reduceGT, Int.reduceLE, Int.reduceGE, Int.reduceNeg, Int.reduceAdd, AH.SP, AH.PD, AV.inB, vstep, vw, shift, newOnes, rowsM, blkIn, rwB, @flat_lts, AV.lt, AV.lts, Nat.sub_self, AH.SO, hgi, hgi, strC_eq, Int.toNat_natCast, List.length_map, lgR_eq, lgU_eq, lgU_nil, Lg.eta, ne4, Bool.not_false, Bool.and_self, if_true, dkR_eq, dkB_eq, Dk.eta, ne_eq, Nat.reduceEqDiff, Nat.zero_ne_one, not_false_eq_true, adN_p, adT_p, hsz, adM, if_false, lgM, errA_ren, rsizeT_p hsz, bne_self_eq_false, recsN_p, recsT_p, saT_p, Bool.not_true, nextT_p, roomT_p, imgT_p, tl_self, imax, wi, GG.ok, GG.wl, GG.sm, GG.nx, GG.rm, GG.w1, GG.w2, GG.w3, GG.w4, GG.dk, GG.jo, GG.zr, GG.cat, FF.ok, e, d6, d7, d8, FF.w1, FF.w2, FF.w4, errA_nil, errA0, rbksN_p, rtC1, hbl, not_true_eq_false, rbksT_p, htk, hsB, hsW, hB'l, hW'l, lgM2, List.drop_zero, hk]); repeat ((with_reducible refine And.intro ?_ ?_); focus (first | rfl | decide | omega | (simp only [List.length_map, and_true]; omega) | (simp only [List.length_map, List.length_set, and_true]; omega))))
    repeat ((with_reducible refine And.intro ?_ ?_); focus (first | exact GG.s1 | exact GG.s2 | exact GG.s3 | omega))
    have done := ih ⟨i + 1, b, W2, B2, w3⟩ ⟨hil, hb, hB2, hW2, hBz2⟩ (by simp only; omega)
    simp only [lxSt] at done
    refine gc_auto [0, 1, 2, 3, 4, 8, 12, 10] [22, 21, 20, 19, 17, 15, 13, 5, 4, 3, 2, 1] [] ?_
    simp only [AH.SD, AH.SE, AOp.call?, AOp.next?, bstep, AV.cells, unAV, binAV, retQ, retV, AH.sliceElems, AH.bytesOf, AH.strOp, AH.bound, AH.missQ, AH.minmaxAV, AH.readOf, AH.effOf, Nat.reduceBEq, Nat.reduceAdd, Nat.reduceLT, ↓reduceIte, Nat.reduceEqDiff, Nat.reduceLeDiff, Nat.reduceSub, Nat.reduceMul, Int.reduceSub, Int.reduceToNat, Int.reduceBEq, Int.reduceBNe, Int.reduceLT, Int.reduceGT, Int.reduceLE, Int.reduceGE, Int.reduceNeg, Int.reduceAdd, AH.SP, AH.PD, AV.inB, vstep]
    exact done
end Go.Proofs.YthapdikdeoeplaaGreatDoor.Z6
end
section
set_option linter.unusedVariables false
set_option linter.unnecessarySimpa false
open Go AH
set_option linter.unusedSimpArgs false
set_option maxRecDepth 100000
namespace Go.Proofs.YthapdikdeoeplaaGreatDoor.Z6
theorem loop_at {C : Ctx} {c d : ACode} {Q : Exit → St → Prop} {st : St} (h : wpA C c Q st) (e : c = d) : wpA C d Q st := e ▸ h
set_option maxHeartbeats 8000000 in
theorem lexact_ok (s : ByteArray) (f t b : Int) (l : List ByteArray) (rs : List Int) : CallA1 S0 3 [.str s, .int .i64 f, .int .i64 t, .int .i64 b, .slc 0 0 l.length none, .slc 1 0 rs.length none] [some (.row true 1 (l.map strC)), some (.row true 1 (rs.map liC))] fun r _ => r = .bool true := by
  refine fun_sound okLx Tryz.func3 c3 ?_
  unfold wpF F3
  simp only [AH.SD, AH.SE, AOp.call?, AOp.next?, bstep, AV.cells, unAV, binAV, retQ, retV, AH.sliceElems, AH.bytesOf, AH.strOp, AH.bound, AH.missQ, AH.minmaxAV, AH.readOf, AH.effOf, Nat.reduceBEq, Nat.reduceAdd, Nat.reduceLT, ↓reduceIte, Nat.reduceEqDiff, Nat.reduceLeDiff, Nat.reduceSub, Nat.reduceMul, Int.reduceSub, Int.reduceToNat, Int.reduceBEq, Int.reduceBNe, Int.reduceLT, Int.reduceGT, Int.reduceLE, Int.reduceGE, Int.reduceNeg, Int.reduceAdd, AH.SP, AH.PD, AV.inB, vstep, vw, shift, newOnes, rowsM, blkIn, rwB, @flat_lts, AV.lt, AV.lts, Nat.sub_self, AH.SO, lawakeT_eq]
  cases h1 : decide ((s.size : Int) > 1920)
  rotate_left
  · simp only [AH.SD, AH.SE, AOp.call?, AOp.next?, bstep, AV.cells, unAV, binAV, retQ, retV, AH.sliceElems, AH.bytesOf, AH.strOp, AH.bound, AH.missQ, AH.minmaxAV, AH.readOf, AH.effOf, Nat.reduceBEq, Nat.reduceAdd, Nat.reduceLT, ↓reduceIte, Nat.reduceEqDiff, Nat.reduceLeDiff, Nat.reduceSub, Nat.reduceMul, Int.reduceSub, Int.reduceToNat, Int.reduceBEq, Int.reduceBNe, Int.reduceLT, Int.reduceGT, Int.reduceLE, Int.reduceGE, Int.reduceNeg, Int.reduceAdd, AH.SP, AH.PD, AV.inB, vstep, vw, shift, newOnes, rowsM, blkIn, rwB, @flat_lts, AV.lt, AV.lts, Nat.sub_self, AH.SO, h1]
  cases h2 : decide ((l.length : Int) > 20)
  rotate_left
  · simp only [AH.SD, AH.SE, AOp.call?, AOp.next?, bstep, AV.cells, unAV, binAV, retQ, retV, AH.sliceElems, AH.bytesOf, AH.strOp, AH.bound, AH.missQ, AH.minmaxAV, AH.readOf, AH.effOf, Nat.reduceBEq, Nat.reduceAdd, Nat.reduceLT, ↓reduceIte, Nat.reduceEqDiff, Nat.reduceLeDiff, Nat.reduceSub, Nat.reduceMul, Int.reduceSub, Int.reduceToNat, Int.reduceBEq, Int.reduceBNe, Int.reduceLT, Int.reduceGT, Int.reduceLE, Int.reduceGE, Int.reduceNeg, Int.reduceAdd, AH.SP, AH.PD, AV.inB, vstep, vw, shift, newOnes, rowsM, blkIn, rwB, @flat_lts, AV.lt, AV.lts, Nat.sub_self, AH.SO, h1, h2]
  have hs : s.size ≤ 1920 := by simp only [decide_eq_false_iff_not] at h1; omega
  have hl20 : l.length ≤ 20 := by simp only [decide_eq_false_iff_not] at h2; omega
  have hs2 : s.size ≤ 1048576 := by omega
  have hnb : nb s = s.size / 64 := by unfold nb; omega
  have hd0 : ofD s = dOn (blks s (s.size / 64)) 0 := by unfold ofD; rw [hnb]; rfl
  have hdo := ofD_ok s
  rw [hd0] at hdo
  have hal : (blks s (s.size / 64)).length = s.size / 64 := blks_len ..
  have hsz := hdo.1
  have hal30 : s.size / 64 ≤ 30 := by omega
  generalize hN : s.size / 64 = N at *
  have hsz' : ∀ x ∈ blks s N, x.size = 64 := hsz
  generalize hall : blks s N = all at *
  subst hal
  have hdo' : (⟨all, false, -1, 0, 0⟩ : Dk).ok := hdo
  by_cases hbad : f < 0 ∨ t ≤ f ∨ t > (all.length : Int) ∨ ¬ isBase b
  · have hz : opnZ ⟨all, false, -1, 0, 0⟩ f t b = (1, ⟨⟨all, false, -1, 0, 0⟩, f, t, b, f, [], false⟩) := by unfold opnZ; rw [if_pos hbad]
    have rest : ∀ K : St → Prop, True := fun _ => trivial
    cases c1 : decide (f < 0)
    rotate_left
    · simp only [AH.SD, AH.SE, AOp.call?, AOp.next?, bstep, AV.cells, unAV, binAV, retQ, retV, AH.sliceElems, AH.bytesOf, AH.strOp, AH.bound, AH.missQ, AH.minmaxAV, AH.readOf, AH.effOf, Nat.reduceBEq, Nat.reduceAdd, Nat.reduceLT, ↓reduceIte, Nat.reduceEqDiff, Nat.reduceLeDiff, Nat.reduceSub, Nat.reduceMul, Int.reduceSub, Int.reduceToNat, Int.reduceBEq, Int.reduceBNe, Int.reduceLT, Int.reduceGT, Int.reduceLE, Int.reduceGE, Int.reduceNeg, Int.reduceAdd, AH.SP, AH.PD, AV.inB, vstep, vw, shift, newOnes, rowsM, blkIn, rwB, @flat_lts, AV.lt, AV.lts, Nat.sub_self, AH.SO, h1, h2, ofT_eq, hd0, hdo', dkM, dOn, partsT_p, hs2, hN, hall, opnN_p, opnT_p, lgR_eq, lgU_eq, lgU_nil, Lg.eta, ne4, Bool.not_false, Bool.and_self, if_true, dkR_eq, dkB_eq, Dk.eta, ne_eq, Nat.reduceEqDiff, Nat.zero_ne_one, not_false_eq_true, opnM, hz, opnA, show ¬ ((1 : Nat) = 0) by decide, if_false, c1, errA_ren, kindT_err, show (1 : Nat) ≤ 14 by decide]
      try trivial
    cases c2 : decide (t ≤ f)
    rotate_left
    · simp only [AH.SD, AH.SE, AOp.call?, AOp.next?, bstep, AV.cells, unAV, binAV, retQ, retV, AH.sliceElems, AH.bytesOf, AH.strOp, AH.bound, AH.missQ, AH.minmaxAV, AH.readOf, AH.effOf, Nat.reduceBEq, Nat.reduceAdd, Nat.reduceLT, ↓reduceIte, Nat.reduceEqDiff, Nat.reduceLeDiff, Nat.reduceSub, Nat.reduceMul, Int.reduceSub, Int.reduceToNat, Int.reduceBEq, Int.reduceBNe, Int.reduceLT, Int.reduceGT, Int.reduceLE, Int.reduceGE, Int.reduceNeg, Int.reduceAdd, AH.SP, AH.PD, AV.inB, vstep, vw, shift, newOnes, rowsM, blkIn, rwB, @flat_lts, AV.lt, AV.lts, Nat.sub_self, AH.SO, h1, h2, ofT_eq, hd0, hdo', dkM, dOn, partsT_p, hs2, hN, hall, opnN_p, opnT_p, lgR_eq, lgU_eq, lgU_nil, Lg.eta, ne4, Bool.not_false, Bool.and_self, if_true, dkR_eq, dkB_eq, Dk.eta, ne_eq, Nat.reduceEqDiff, Nat.zero_ne_one, not_false_eq_true, opnM, hz, opnA, show ¬ ((1 : Nat) = 0) by decide, if_false, c1, c2, errA_ren, kindT_err, show (1 : Nat) ≤ 14 by decide]
      try trivial
    cases c3 : decide (t > (all.length : Int))
    rotate_left
    · simp only [AH.SD, AH.SE, AOp.call?, AOp.next?, bstep, AV.cells, unAV, binAV, retQ, retV, AH.sliceElems, AH.bytesOf, AH.strOp, AH.bound, AH.missQ, AH.minmaxAV, AH.readOf, AH.effOf, Nat.reduceBEq, Nat.reduceAdd, Nat.reduceLT, ↓reduceIte, Nat.reduceEqDiff, Nat.reduceLeDiff, Nat.reduceSub, Nat.reduceMul, Int.reduceSub, Int.reduceToNat, Int.reduceBEq, Int.reduceBNe, Int.reduceLT, Int.reduceGT, Int.reduceLE, Int.reduceGE, Int.reduceNeg, Int.reduceAdd, AH.SP, AH.PD, AV.inB, vstep, vw, shift, newOnes, rowsM, blkIn, rwB, @flat_lts, AV.lt, AV.lts, Nat.sub_self, AH.SO, h1, h2, ofT_eq, hd0, hdo', dkM, dOn, partsT_p, hs2, hN, hall, opnN_p, opnT_p, lgR_eq, lgU_eq, lgU_nil, Lg.eta, ne4, Bool.not_false, Bool.and_self, if_true, dkR_eq, dkB_eq, Dk.eta, ne_eq, Nat.reduceEqDiff, Nat.zero_ne_one, not_false_eq_true, opnM, hz, opnA, show ¬ ((1 : Nat) = 0) by decide, if_false, c1, c2, c3, errA_ren, kindT_err, show (1 : Nat) ≤ 14 by decide]
      try trivial
    cases c4 : decide (b < 0)
    rotate_left
    · simp only [AH.SD, AH.SE, AOp.call?, AOp.next?, bstep, AV.cells, unAV, binAV, retQ, retV, AH.sliceElems, AH.bytesOf, AH.strOp, AH.bound, AH.missQ, AH.minmaxAV, AH.readOf, AH.effOf, Nat.reduceBEq, Nat.reduceAdd, Nat.reduceLT, ↓reduceIte, Nat.reduceEqDiff, Nat.reduceLeDiff, Nat.reduceSub, Nat.reduceMul, Int.reduceSub, Int.reduceToNat, Int.reduceBEq, Int.reduceBNe, Int.reduceLT, Int.reduceGT, Int.reduceLE, Int.reduceGE, Int.reduceNeg, Int.reduceAdd, AH.SP, AH.PD, AV.inB, vstep, vw, shift, newOnes, rowsM, blkIn, rwB, @flat_lts, AV.lt, AV.lts, Nat.sub_self, AH.SO, h1, h2, ofT_eq, hd0, hdo', dkM, dOn, partsT_p, hs2, hN, hall, opnN_p, opnT_p, lgR_eq, lgU_eq, lgU_nil, Lg.eta, ne4, Bool.not_false, Bool.and_self, if_true, dkR_eq, dkB_eq, Dk.eta, ne_eq, Nat.reduceEqDiff, Nat.zero_ne_one, not_false_eq_true, opnM, hz, opnA, show ¬ ((1 : Nat) = 0) by decide, if_false, c1, c2, c3, c4, errA_ren, kindT_err, show (1 : Nat) ≤ 14 by decide]
      try trivial
    have c5 : decide (b > 1073741824) = true := by
      simp only [decide_eq_false_iff_not] at c1 c2 c3 c4
      refine decide_eq_true ?_
      rcases hbad with h | h | h | h
      · exact absurd h c1
      · exact absurd h c2
      · exact absurd h c3
      · unfold isBase at h; omega
    · simp only [AH.SD, AH.SE, AOp.call?, AOp.next?, bstep, AV.cells, unAV, binAV, retQ, retV, AH.sliceElems, AH.bytesOf, AH.strOp, AH.bound, AH.missQ, AH.minmaxAV, AH.readOf, AH.effOf, Nat.reduceBEq, Nat.reduceAdd, Nat.reduceLT, ↓reduceIte, Nat.reduceEqDiff, Nat.reduceLeDiff, Nat.reduceSub, Nat.reduceMul, Int.reduceSub, Int.reduceToNat, Int.reduceBEq, Int.reduceBNe, Int.reduceLT, Int.reduceGT, Int.reduceLE, Int.reduceGE, Int.reduceNeg, Int.reduceAdd, AH.SP, AH.PD, AV.inB, vstep, vw, shift, newOnes, rowsM, blkIn, rwB, @flat_lts, AV.lt, AV.lts, Nat.sub_self, AH.SO, h1, h2, ofT_eq, hd0, hdo', dkM, dOn, partsT_p, hs2, hN, hall, opnN_p, opnT_p, lgR_eq, lgU_eq, lgU_nil, Lg.eta, ne4, Bool.not_false, Bool.and_self, if_true, dkR_eq, dkB_eq, Dk.eta, ne_eq, Nat.reduceEqDiff, Nat.zero_ne_one, not_false_eq_true, opnM, hz, opnA, show ¬ ((1 : Nat) = 0) by decide, if_false, c1, c2, c3, c4, c5, errA_ren, kindT_err, show (1 : Nat) ≤ 14 by decide]
      try trivial
  · have k1 : 0 ≤ f := by omega
    have k2 : f < t := by omega
    have k3 : t ≤ (all.length : Int) := by omega
    have k4 : isBase b := Classical.byContradiction fun q => hbad (.inr (.inr (.inr q)))
    clear hbad
    obtain ⟨F, rfl⟩ := Int.eq_ofNat_of_zero_le k1
    obtain ⟨T, rfl⟩ := Int.eq_ofNat_of_zero_le (show 0 ≤ t by omega)
    have c1 : decide ((F : Int) < 0) = false := decide_eq_false (by omega)
    have c2 : decide ((T : Int) ≤ (F : Int)) = false := decide_eq_false (by omega)
    have c3 : decide ((T : Int) > (all.length : Int)) = false := decide_eq_false (by omega)
    have c4 : decide (b < 0) = false := decide_eq_false (by have := k4.1; omega)
    have c5 : decide (b > 1073741824) = false := decide_eq_false (by have := k4.2; omega)
    obtain ⟨w', hz⟩ := opn_on (all := all) (F := F) (T := T) (b := b) (w := 0) (by omega) (by omega) k4
    have hz' : opnZ ⟨all, false, -1, 0, 0⟩ F T b = _ := hz
    clear hz
    obtain ⟨u1, u2, u3⟩ := logR_le (T - F) ((all.drop F).take (T - F)) (b + 1)
    have hPl : ((all.drop F).take (T - F)).length = T - F := by rw [List.length_take, List.length_drop]; omega
    rw [hPl] at u1
    have hsP : ((all.map strC).drop F).take (T - F) = ((all.drop F).take (T - F)).map strC := by rw [← List.map_drop, ← List.map_take]
    have fR := fun (m : Mem) (hM : rowE (mget m) 4 = some (1, all.map strC)) => rlgU_eq (p := none) (b := b) hM hsP (by rw [List.length_map]; omega) (by omega) k4
    rw [hPl] at fR
    generalize hx : logR (T - F) ((all.drop F).take (T - F)) (b + 1) = x at *
    obtain ⟨W, u⟩ := x
    simp only at u1 u2 u3 hz' fR
    have hA : ((all.map strC).drop 0).take F = (all.take F).map strC := by rw [List.drop_zero, ← List.map_take]
    have hC : ((all.map strC).drop T).take (all.length - T) = (all.drop T).map strC := by rw [← List.map_drop]; exact List.take_of_length_le (by rw [List.length_map, List.length_drop]; omega)
    have okA : okJ (all.take F) := ⟨fun x hx => by rw [hsz' x (List.mem_of_mem_take hx)]; decide, by rw [List.length_take]; omega⟩
    have okC : okJ (all.drop T) := ⟨fun x hx => by rw [hsz' x (List.mem_of_mem_drop hx)]; decide, by rw [List.length_drop]; omega⟩
    have fA := fun (m : Mem) (hM : rowE (mget m) 4 = some (1, all.map strC)) => joT_eq (cap := none) hM hA (by rw [List.length_map]; omega) okA
    have fC := fun (m : Mem) (hM : rowE (mget m) 4 = some (1, all.map strC)) => joT_eq (cap := none) hM hC (by rw [List.length_map]; omega) okC
    have hAl : (all.take F).length = F := by rw [List.length_take]; omega
    have hBl : ((all.drop F).take u).length = u := by rw [List.length_take, List.length_drop]; omega
    have hBm : ((all.map strC).drop F).take u = ((all.drop F).take u).map strC := by rw [← List.map_drop, ← List.map_take]
    have hBz : ∀ x ∈ (all.drop F).take u, x.size = 64 := fun x hx => hsz' x (List.mem_of_mem_drop (List.mem_of_mem_take hx))
    have hAz : ∀ x ∈ all.take F, x.size = 64 := fun x hx => hsz' x (List.mem_of_mem_take hx)
    have hCz : ∀ x ∈ all.drop T, x.size = 64 := fun x hx => hsz' x (List.mem_of_mem_drop hx)
    have hCl : (all.drop T).length = all.length - T := List.length_drop
    generalize hB0 : (all.drop F).take u = B at *
    generalize hA0 : all.take F = A at *
    generalize hC0 : all.drop T = C at *
    have okB : okJ B := ⟨fun x hx => by rw [hBz x hx]; decide, by omega⟩
    have wF : IntKind.i64.wrap ((F : Int) + (u : Int)) = ((F + u : Nat) : Int) := by rw [IntKind.wrap_i64]; omega
    have hLl := lgL_len (A := A) (C := C) (B := B) (n := T - F) (by omega)
    have hLz := lgL_sz (n := T - F) hAz hBz hCz
    have hdk : (⟨lgL A B C (T - F), false, -1, 0, w'⟩ : Dk).ok := dOn_ok hLz (by omega)
    have hok : (⟨⟨lgL A B C (T - F), false, -1, 0, w'⟩, F, T, b, ((F + u : Nat) : Int), W, false⟩ : Lg).ok := ⟨hdk, k4, by simp only; omega, by simp only; omega, by simp only; omega, by simp only; omega, by simp only; omega⟩
    have hnx : (⟨⟨lgL A B C (T - F), false, -1, 0, w'⟩, F, T, b, ((F + u : Nat) : Int), W, false⟩ : Lg).next = b + (W.length : Int) + 1 := rfl
    have hrm : (⟨⟨lgL A B C (T - F), false, -1, 0, w'⟩, F, T, b, ((F + u : Nat) : Int), W, false⟩ : Lg).room = ((T - F - u : Nat) : Int) := by
      show (T : Int) - ((F + u : Nat) : Int) = _; omega
    have kb1 := k4.1
    have kb2 := k4.2
    have w1 : IntKind.i64.wrap (b + (W.length : Int)) = b + (W.length : Int) := by rw [IntKind.wrap_i64]; omega
    have w2 : IntKind.i64.wrap (b + (W.length : Int) + 1) = b + (W.length : Int) + 1 := by rw [IntKind.wrap_i64]; omega
    have w3 : IntKind.i64.wrap ((T : Int) - (F : Int)) = ((T - F : Nat) : Int) := by rw [IntKind.wrap_i64]; omega
    have w4 : IntKind.i64.wrap (((T - F : Nat) : Int) - (u : Int)) = ((T - F - u : Nat) : Int) := by rw [IntKind.wrap_i64]; omega
    have hWl : W.length ≤ 1048576 := by omega
    have fB := fun (m : Mem) (hM : rowE (mget m) 9 = some (1, B.map strC)) => joT_eq (cap := none) (ix := 0) (n := u) hM (by rw [List.drop_zero, List.take_of_length_le (by rw [List.length_map, hBl]; exact Nat.le_refl _)]) (by rw [List.length_map]; omega) okB
    have fZ := fun (M : Nat → Option Blk) => zrT_p (M := M) (n := ((T - F - u : Nat) : Int)) (by omega)
    have hcat := lgL_cat A B C (T - F)
    rw [hBl] at hcat
    have sA := catS_le (L := A) (m := 64) fun x hx => by rw [hAz x hx]; exact Nat.le_refl _
    have sB := catS_le (L := B) (m := 64) fun x hx => by rw [hBz x hx]; exact Nat.le_refl _
    have sC := catS_le (L := C) (m := 64) fun x hx => by rw [hCz x hx]; exact Nat.le_refl _
    have sZ := repS_sz (64 * (T - F - u))
    have sq := And.intro (beq_self_eq_true (W.length)) (saQ_eq (i := 10) (j := 7) (r1 := false) (r2 := false) (L1 := W) (L2 := W) rfl rfl hWl hWl)
    simp only [AH.SD, AH.SE, AOp.call?, AOp.next?, bstep, AV.cells, unAV, binAV, retQ, retV, AH.sliceElems, AH.bytesOf, AH.strOp, AH.bound, AH.missQ, AH.minmaxAV, AH.readOf, AH.effOf, Nat.reduceBEq, Nat.reduceAdd, Nat.reduceLT, ↓reduceIte, Nat.reduceEqDiff, Nat.reduceLeDiff, Nat.reduceSub, Nat.reduceMul, Int.reduceSub, Int.reduceToNat, Int.reduceBEq, Int.reduceBNe, Int.reduceLT, Int.reduceGT, Int.reduceLE, Int.reduceGE, Int.reduceNeg, Int.reduceAdd, AH.SP, AH.PD, AV.inB, vstep, vw, shift, newOnes, rowsM, blkIn, rwB, @flat_lts, AV.lt, AV.lts, Nat.sub_self, AH.SO, h1, h2, ofT_eq, hd0, hdo', dkM, dOn, partsT_p, hs2, hN, hall, opnN_p, opnT_p, lgR_eq, lgU_eq, lgU_nil, Lg.eta, ne4, Bool.not_false, Bool.and_self, if_true, dkR_eq, dkB_eq, Dk.eta, ne_eq, Nat.reduceEqDiff, Nat.zero_ne_one, not_false_eq_true, opnM, hz', opnA, opM, List.cons_append, List.nil_append, c1, c2, c3, c4, c5, fR _ rowE4, fA _ rowE4, fC _ rowE4, wF, Int.toNat_natCast, Nat.add_sub_cancel_left, hBm, List.length_map, hBl]
    repeat ((with_reducible refine And.intro ?_ ?_); focus (first | rfl | decide | omega | (simp only [List.length_map, and_true]; omega) | (simp only [List.length_map, List.length_set, and_true]; omega)))
    simp only [AH.SD, AH.SE, AOp.call?, AOp.next?, bstep, AV.cells, unAV, binAV, retQ, retV, AH.sliceElems, AH.bytesOf, AH.strOp, AH.bound, AH.missQ, AH.minmaxAV, AH.readOf, AH.effOf, Nat.reduceBEq, Nat.reduceAdd, Nat.reduceLT, ↓reduceIte, Nat.reduceEqDiff, Nat.reduceLeDiff, Nat.reduceSub, Nat.reduceMul, Int.reduceSub, Int.reduceToNat, Int.reduceBEq, Int.reduceBNe, Int.reduceLT, Int.reduceGT, Int.reduceLE, Int.reduceGE, Int.reduceNeg, Int.reduceAdd, AH.SP, AH.PD, AV.inB, vstep, vw, shift, newOnes, rowsM, blkIn, rwB, @flat_lts, AV.lt, AV.lts, Nat.sub_self, AH.SO, lgR_eq, lgU_eq, lgU_nil, Lg.eta, ne4, Bool.not_false, Bool.and_self, if_true, dkR_eq, dkB_eq, Dk.eta, ne_eq, Nat.reduceEqDiff, Nat.zero_ne_one, not_false_eq_true, recsN_p, recsT_p, hWl, lgM, saT_p, sq, decide_true, Bool.not_true, nextT_p, roomT_p, hok, hnx, hrm, w1, w2, w3, w4, bne_self_eq_false, imgT_p, hdk, fB _ rowE9, fZ, hcat, tl_self, Int.toNat_natCast, imax]
    refine ⟨by omega, by rw [ByteArray.size_append, sZ]; omega, by rw [ByteArray.size_append, ByteArray.size_append, sZ]; omega, ?_⟩
    clear hcat sA sB sC sZ sq fB fZ w1 w2 w3 w4 hWl hnx hrm hok hdk hLz hLl wF hz' fR fA fC hA hC okA okC hdo hdo' hd0 hall hsz hsz' hsP hPl c1 c2 c3 c4 c5 hnb hs hs2 h1 h2
    subst hAl
    obtain ⟨n, rfl⟩ : ∃ n, T = A.length + n := ⟨T - A.length, by omega⟩
    simp only [Nat.add_sub_cancel_left] at u1 ⊢
    subst hBl
    refine loop_at (lx_loop l rs A C n hl20 (by omega) hAz hCz ⟨0, b, W, B, w'⟩ ⟨Nat.zero_le _, k4, u1, u2, hBz⟩ rfl (by simp only [AH.SD, AH.SE, AOp.call?, AOp.next?, bstep, AV.cells, unAV, binAV, retQ, retV, AH.sliceElems, AH.bytesOf, AH.strOp, AH.bound, AH.missQ, AH.minmaxAV, AH.readOf, AH.effOf, Nat.reduceBEq, Nat.reduceAdd, Nat.reduceLT, ↓reduceIte, Nat.reduceEqDiff, Nat.reduceLeDiff, Nat.reduceSub, Nat.reduceMul, Int.reduceSub, Int.reduceToNat, Int.reduceBEq, Int.reduceBNe, Int.reduceLT, Int.reduceGT, Int.reduceLE, Int.reduceGE, Int.reduceNeg, Int.reduceAdd, AH.SP, AH.PD, AV.inB, vstep, lxSt]) ?_ ?_) (by unfold F3; rfl)
    · intro st h
      simp only [AH.SD, AH.SE, AOp.call?, AOp.next?, bstep, AV.cells, unAV, binAV, retQ, retV, AH.sliceElems, AH.bytesOf, AH.strOp, AH.bound, AH.missQ, AH.minmaxAV, AH.readOf, AH.effOf, Nat.reduceBEq, Nat.reduceAdd, Nat.reduceLT, ↓reduceIte, Nat.reduceEqDiff, Nat.reduceLeDiff, Nat.reduceSub, Nat.reduceMul, Int.reduceSub, Int.reduceToNat, Int.reduceBEq, Int.reduceBNe, Int.reduceLT, Int.reduceGT, Int.reduceLE, Int.reduceGE, Int.reduceNeg, Int.reduceAdd, AH.SP, AH.PD, AV.inB, vstep, vw, shift, newOnes, rowsM, blkIn, rwB, @flat_lts, AV.lt, AV.lts, Nat.sub_self, AH.SO, h]
    · intro st
      simp only [AH.SD, AH.SE, AOp.call?, AOp.next?, bstep, AV.cells, unAV, binAV, retQ, retV, AH.sliceElems, AH.bytesOf, AH.strOp, AH.bound, AH.missQ, AH.minmaxAV, AH.readOf, AH.effOf, Nat.reduceBEq, Nat.reduceAdd, Nat.reduceLT, ↓reduceIte, Nat.reduceEqDiff, Nat.reduceLeDiff, Nat.reduceSub, Nat.reduceMul, Int.reduceSub, Int.reduceToNat, Int.reduceBEq, Int.reduceBNe, Int.reduceLT, Int.reduceGT, Int.reduceLE, Int.reduceGE, Int.reduceNeg, Int.reduceAdd, AH.SP, AH.PD, AV.inB, vstep, vw, shift, newOnes, rowsM, blkIn, rwB, @flat_lts, AV.lt, AV.lts, Nat.sub_self, AH.SO, opnN_n, kindT_err, show (2 : Nat) ≤ 14 by decide, adN_n, rsN_n, recsN_n, nextT_n, roomT_n]
      try trivial
end Go.Proofs.YthapdikdeoeplaaGreatDoor.Z6
end
