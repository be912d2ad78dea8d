import Derived.Test.YtcmnchmkoghfdaaDoorJoinAC05h
open Go Go.RowKit
set_option linter.unusedSimpArgs false
set_option maxRecDepth 100000
namespace Go.Proofs.YtcmnchmkoghfdaaDoor.C05h
/- frame.joined, by the kit; its region of free order by AH's own soundness. -/
abbrev KeepW (w wr : World) : Prop := AH.Keeps (fun b => w.heap.size ≤ b) w wr
theorem keep_below {w wr w' : World} (h : KeepW w wr) (g : Below w.heap.size wr w') : KeepW w w' :=
  ⟨g.os.trans h.os, g.output.trans h.output, Nat.le_trans h.size g.size, fun b hb hn => (g.block b hb).trans (h.kept b hb hn), h.new⟩
theorem keep_keep {w wr w' : World} (h : KeepW w wr) (g : KeepW wr w') : KeepW w w' :=
  ⟨g.os.trans h.os, g.output.trans h.output, Nat.le_trans h.size g.size, fun b hb hn => (g.kept b (Nat.lt_of_lt_of_le hb h.size) (by have := h.size; omega)).trans (h.kept b hb hn), h.new⟩
def jnSt (l : List ByteArray) (c : Nat) (seq : Int) (n i : Nat) : AH.St := ⟨[(0, .slc 0 0 l.length (some c)), (1, .int .i64 seq), (2, .int .i64 n), (8, .ptr 1 0 0), (9, .int .i64 i), (10, .int .i64 n), (11, .int .i64 i), (3, .tup []), (4, .tup []), (5, .tup []), (46, .tup [])], [some (.row true 1 (l.map strC)), none]⟩
open AH in
theorem regA (l : List ByteArray) (c : Nat) (seq : Int) (n i : Nat) (hl : l.length ≤ 1048576) : wpA { call := (ctxU S0 [(43, endT)] []).call, read := (ctxU S0 [(43, endT)] []).read, eff := (ctxU S0 [(43, endT)] []).eff, base := 2 } (F46.body.at [true, true, false, true, true, true, true, true, false, true, true, false, false])
    (fun e s => e = .normal ∧ tget s.tm 37 = .bool (badJ l seq n i) ∧ tget s.tm 0 = .slc 0 0 l.length (some c) ∧ tget s.tm 1 = .int .i64 seq ∧ tget s.tm 2 = .int .i64 n ∧ tget s.tm 8 = .ptr 1 0 0 ∧ tget s.tm 9 = .int .i64 i ∧ tget s.tm 10 = .int .i64 n ∧ tget s.tm 11 = .int .i64 i ∧ tget s.tm 3 = .tup [] ∧ tget s.tm 4 = .tup [] ∧ tget s.tm 5 = .tup [] ∧ tget s.tm 46 = .tup []) (jnSt l c seq n i) := by
  unfold F46
  simp only [ACode.at]
  rcases Nat.lt_or_ge i l.length with hil | hil
  · have hd : decide ((i : Int) ≥ (l.length : Int)) = false := by simp only [decide_eq_false_iff_not]; omega
    have hg : l[i]? = some l[i] := List.getElem?_eq_getElem hil
    cases h64 : ((l[i].size : Int) != 64)
    · have hb : badJ l seq n i = !((l[i].extract 56 l[i].size).toList == (endS seq i n).toList) := by simp only [badJ, hg, h64, Bool.false_or]
      simp only [AH.SD, AH.wpOp, AOp.call?, AOp.next?, bstep, AOp.map, Opd.ev, tget, argTm, evs, AV.cells, St.eff, St.put, applyWr, mset, terase, pureE, unAV, intOp, binAV, fill, mget, AH.rowAt, AH.part, retQ, rvs, retV, AH.splice, AH.sliceElems, AH.bytesOf, AH.strOp, AH.bound, AH.addLog, AH.missQ, AH.minmaxAV, AH.wpOpD, AH.readOf, AH.effOf, AH.mapAt, AH.iterAt, Nat.reduceBEq, Nat.reduceAdd, Nat.reduceLT, ↓reduceIte, Nat.reduceEqDiff, Nat.reduceLeDiff, Nat.reduceSub, Nat.reduceMul, Int.reduceSub, Int.reduceToNat, Int.reduceBEq, Int.reduceBNe, Int.reduceLT, Int.reduceGT, Int.reduceLE, Int.reduceGE, Int.reduceNeg, Int.reduceAdd, jnSt, hd, getD_enc, hil, strC_eq, h64, hb, endT_p, List.length_map]
      have hs64 : l[i].size = 64 := by
        have : (l[i].size : Int) = 64 := by simpa using h64
        omega
      repeat ((with_reducible refine And.intro ?_ ?_); focus (first | rfl | decide | omega | (simp only [List.length_map, and_true]; omega) | (simp only [List.length_map, List.length_set, and_true]; omega)))
      try simp only [AH.SD, AH.wpOp, AOp.call?, AOp.next?, bstep, AOp.map, Opd.ev, tget, argTm, evs, AV.cells, St.eff, St.put, applyWr, mset, terase, pureE, unAV, intOp, binAV, fill, mget, AH.rowAt, AH.part, retQ, rvs, retV, AH.splice, AH.sliceElems, AH.bytesOf, AH.strOp, AH.bound, AH.addLog, AH.missQ, AH.minmaxAV, AH.wpOpD, AH.readOf, AH.effOf, AH.mapAt, AH.iterAt, Nat.reduceBEq, Nat.reduceAdd, Nat.reduceLT, ↓reduceIte, Nat.reduceEqDiff, Nat.reduceLeDiff, Nat.reduceSub, Nat.reduceMul, Int.reduceSub, Int.reduceToNat, Int.reduceBEq, Int.reduceBNe, Int.reduceLT, Int.reduceGT, Int.reduceLE, Int.reduceGE, Int.reduceNeg, Int.reduceAdd, jnSt, hd, getD_enc, hil, strC_eq, h64, hb, endT_p, List.length_map]
      repeat ((with_reducible refine And.intro ?_ ?_); focus (first | rfl | decide | omega | (simp only [List.length_map, and_true]; omega) | (simp only [List.length_map, List.length_set, and_true]; omega)))
      try trivial
    · have hb : badJ l seq n i = true := by simp only [badJ, hg, h64, Bool.true_or]
      simp only [AH.SD, AH.wpOp, AOp.call?, AOp.next?, bstep, AOp.map, Opd.ev, tget, argTm, evs, AV.cells, St.eff, St.put, applyWr, mset, terase, pureE, unAV, intOp, binAV, fill, mget, AH.rowAt, AH.part, retQ, rvs, retV, AH.splice, AH.sliceElems, AH.bytesOf, AH.strOp, AH.bound, AH.addLog, AH.missQ, AH.minmaxAV, AH.wpOpD, AH.readOf, AH.effOf, AH.mapAt, AH.iterAt, Nat.reduceBEq, Nat.reduceAdd, Nat.reduceLT, ↓reduceIte, Nat.reduceEqDiff, Nat.reduceLeDiff, Nat.reduceSub, Nat.reduceMul, Int.reduceSub, Int.reduceToNat, Int.reduceBEq, Int.reduceBNe, Int.reduceLT, Int.reduceGT, Int.reduceLE, Int.reduceGE, Int.reduceNeg, Int.reduceAdd, jnSt, hd, getD_enc, hil, strC_eq, h64, hb, List.length_map]
      repeat ((with_reducible refine And.intro ?_ ?_); focus (first | rfl | decide | omega | (simp only [List.length_map, and_true]; omega) | (simp only [List.length_map, List.length_set, and_true]; omega)))
      try simp only [AH.SD, AH.wpOp, AOp.call?, AOp.next?, bstep, AOp.map, Opd.ev, tget, argTm, evs, AV.cells, St.eff, St.put, applyWr, mset, terase, pureE, unAV, intOp, binAV, fill, mget, AH.rowAt, AH.part, retQ, rvs, retV, AH.splice, AH.sliceElems, AH.bytesOf, AH.strOp, AH.bound, AH.addLog, AH.missQ, AH.minmaxAV, AH.wpOpD, AH.readOf, AH.effOf, AH.mapAt, AH.iterAt, Nat.reduceBEq, Nat.reduceAdd, Nat.reduceLT, ↓reduceIte, Nat.reduceEqDiff, Nat.reduceLeDiff, Nat.reduceSub, Nat.reduceMul, Int.reduceSub, Int.reduceToNat, Int.reduceBEq, Int.reduceBNe, Int.reduceLT, Int.reduceGT, Int.reduceLE, Int.reduceGE, Int.reduceNeg, Int.reduceAdd, jnSt, hd, getD_enc, hil, strC_eq, h64, hb, List.length_map]
      repeat ((with_reducible refine And.intro ?_ ?_); focus (first | rfl | decide | omega | (simp only [List.length_map, and_true]; omega) | (simp only [List.length_map, List.length_set, and_true]; omega)))
      try trivial
  · have hd : decide ((i : Int) ≥ (l.length : Int)) = true := by simp only [decide_eq_true_eq]; omega
    have hb : badJ l seq n i = true := by simp only [badJ, List.getElem?_eq_none hil]
    simp only [AH.SD, AH.wpOp, AOp.call?, AOp.next?, bstep, AOp.map, Opd.ev, tget, argTm, evs, AV.cells, St.eff, St.put, applyWr, mset, terase, pureE, unAV, intOp, binAV, fill, mget, AH.rowAt, AH.part, retQ, rvs, retV, AH.splice, AH.sliceElems, AH.bytesOf, AH.strOp, AH.bound, AH.addLog, AH.missQ, AH.minmaxAV, AH.wpOpD, AH.readOf, AH.effOf, AH.mapAt, AH.iterAt, Nat.reduceBEq, Nat.reduceAdd, Nat.reduceLT, ↓reduceIte, Nat.reduceEqDiff, Nat.reduceLeDiff, Nat.reduceSub, Nat.reduceMul, Int.reduceSub, Int.reduceToNat, Int.reduceBEq, Int.reduceBNe, Int.reduceLT, Int.reduceGT, Int.reduceLE, Int.reduceGE, Int.reduceNeg, Int.reduceAdd, jnSt, hd, hb]
    repeat ((with_reducible refine And.intro ?_ ?_); focus (first | rfl | decide | omega | (simp only [List.length_map, and_true]; omega) | (simp only [List.length_map, List.length_set, and_true]; omega)))
    try trivial
theorem vr_int {S : AH.Sys} {eb : Nat → Addr} {φ : AH.Emb} {k : IntKind} {n : Int} {u : Value} (h : AH.VR S.errT eb φ (.int k n) u) : u = .int k n := by cases h; rfl
theorem vr_bool {S : AH.Sys} {eb : Nat → Addr} {φ : AH.Emb} {b : Bool} {u : Value} (h : AH.VR S.errT eb φ (.bool b) u) : u = .bool b := by cases h; rfl
theorem vr_tup0 {S : AH.Sys} {eb : Nat → Addr} {φ : AH.Emb} {u : Value} (h : AH.VR S.errT eb φ (.tup []) u) : u = undef := by
  cases h
  rename_i us h
  obtain ⟨l⟩ := us
  cases h
  rfl
/-- The region. -/
theorem regJ {eb : Nat → Addr} (l : List ByteArray) (hl : l.length ≤ 1048576) (cp : Nat) (seq : Int) (n i : Nat) {φ : AH.Emb} {w wr : World} {b : Nat} {a : Act} (hsz : a.tmps.size = 47) (hdf : a.defers = [])
    (hA : AH.Amb S0 eb (fun b => w.heap.size ≤ b) w) (hM : AH.MR S0.errT eb φ (AH.mget [some (.row true 1 (l.map strC))]) (fun b => w.heap.size ≤ b) w) (hd : ∀ id, φ.dom id → id < 1) (hk : KeepW w wr)
    (h0 : AH.VR S0.errT eb φ (.slc 0 0 l.length (some cp)) (a.tmps.getD 0 undef)) (h1 : a.tmps.getD 1 undef = .int .i64 seq) (h2 : a.tmps.getD 2 undef = .int .i64 n) (h8 : a.tmps.getD 8 undef = .pointer (some ⟨b, 0, none⟩)) (h9 : a.tmps.getD 9 undef = .int .i64 i) (h10 : a.tmps.getD 10 undef = .int .i64 n) (h11 : a.tmps.getD 11 undef = .int .i64 i) (h3 : a.tmps.getD 3 undef = undef) (h4 : a.tmps.getD 4 undef = undef) (h5 : a.tmps.getD 5 undef = undef) (h46 : a.tmps.getD 46 undef = undef)
    {c : Code} (hc : AH.cCode Tryd.prog [0, 2] 47 c = some (F46.body.at [true, true, false, true, true, true, true, true, false, true, true, false, false])) {Q : Exit → Act → World → Prop}
    (hQ : ∀ (a' : Act) (w' : World), a'.tmps.size = 47 → a'.defers = [] → KeepW wr w' → a'.tmps.getD 37 undef = .bool (badJ l seq n i) → (l ≠ [] → a'.tmps.getD 0 undef = a.tmps.getD 0 undef) → a'.tmps.getD 1 undef = .int .i64 seq → a'.tmps.getD 2 undef = .int .i64 n → a'.tmps.getD 8 undef = .pointer (some ⟨b, 0, none⟩) → a'.tmps.getD 9 undef = .int .i64 i → a'.tmps.getD 10 undef = .int .i64 n → a'.tmps.getD 11 undef = .int .i64 i → a'.tmps.getD 3 undef = undef → a'.tmps.getD 4 undef = undef → a'.tmps.getD 5 undef = undef → a'.tmps.getD 46 undef = undef → Q .normal a' w') :
    c.wp Tryd.prog Q a wr := by
  have hd1 : ¬ φ.dom 1 := fun q => by have := hd 1 q; omega
  have h0d : φ.dom 0 := hM.dom 0 _ rfl
  have ext := AH.Emb.add_ext (φ := φ) (b := b) (base := 0) (k := 2) (size := 2) hd1
  have hkk : ∀ k, k < w.heap.size → wr.heap[k]? = w.heap[k]? := fun k hk' => hk.kept k hk' (by omega)
  have hC : AH.CtxOK S0 { call := (AH.ctxU S0 [(43, endT)] []).call, read := (AH.ctxU S0 [(43, endT)] []).read, eff := (AH.ctxU S0 [(43, endT)] []).eff, base := 2 } := ⟨okJn.calls, okJn.reads, okJn.effs, okJn.mixed⟩
  refine wp_mono (AH.code_sound (S := S0) (own := fun x => wr.heap.size ≤ x) (w0 := wr) (φ0 := φ.add 1 b 0 2 2) (nt := 47) (hA.fresh hk) hC (fun id q => ?_) c _ hc _ (jnSt l cp seq n i) a wr (regA l cp seq n i hl) ⟨φ.add 1 b 0 2 2, .refl _, hsz, hdf, fun t => ?_, mr_join hM hd1 hkk _, .refl fun x hx => hx, fun id q => ?_⟩) ?_
  · rcases q with q | q
    · have := hd id q; show id < 2; omega
    · show id < 2; omega
  · show AH.VR S0.errT eb _ (AH.tget (jnSt l cp seq n i).tm t) _
    simp only [jnSt, AH.tget]
    cases e0 : (0 == t)
    · cases e1 : (1 == t)
      · cases e2 : (2 == t)
        · cases e8 : (8 == t)
          · cases e9 : (9 == t)
            · cases e10 : (10 == t)
              · cases e11 : (11 == t)
                · cases e3 : (3 == t)
                  · cases e4 : (4 == t)
                    · cases e5 : (5 == t)
                      · cases e46 : (46 == t)
                        · exact .undef _
                        · obtain rfl : 46 = t := by simpa using e46
                          rw [h46]; exact .tup _ _ .nil
                      · obtain rfl : 5 = t := by simpa using e5
                        rw [h5]; exact .tup _ _ .nil
                    · obtain rfl : 4 = t := by simpa using e4
                      rw [h4]; exact .tup _ _ .nil
                  · obtain rfl : 3 = t := by simpa using e3
                    rw [h3]; exact .tup _ _ .nil
                · obtain rfl : 11 = t := by simpa using e11
                  rw [h11]; exact .int _ _
              · obtain rfl : 10 = t := by simpa using e10
                rw [h10]; exact .int _ _
            · obtain rfl : 9 = t := by simpa using e9
              rw [h9]; exact .int _ _
          · obtain rfl : 8 = t := by simpa using e8
            rw [h8]
            have := AH.VR.ptr (T := S0.errT) (eb := eb) (φ := φ.add 1 b 0 2 2) 1 0 0 (.inr rfl)
            simpa [AH.Emb.add] using this
        · obtain rfl : 2 = t := by simpa using e2
          rw [h2]; exact .int _ _
      · obtain rfl : 1 = t := by simpa using e1
        rw [h1]; exact .int _ _
    · obtain rfl : 0 = t := by simpa using e0
      exact h0.mono ext
  · rcases q with q | q
    · have := hd id q; show id < 2; omega
    · show id < 2; omega
  · rintro e a' w' ⟨st, ⟨rfl, q37, q0, q1, q2, q8, q9, q10, q11, q3, q4, q5, q46⟩, φ', r⟩
    have tm : ∀ t v, AH.tget st.tm t = v → AH.VR S0.errT eb φ' v (a'.tmps.getD t undef) := fun t v h => h ▸ r.tm t
    refine hQ a' w' r.size r.defers r.keeps (vr_bool (tm 37 _ q37)) (fun hne => ?_) (vr_int (tm 1 _ q1)) (vr_int (tm 2 _ q2)) ?_ (vr_int (tm 9 _ q9)) (vr_int (tm 10 _ q10)) (vr_int (tm 11 _ q11)) (vr_tup0 (tm 3 _ q3)) (vr_tup0 (tm 4 _ q4)) (vr_tup0 (tm 5 _ q5)) (vr_tup0 (tm 46 _ q46))
    · have hlen : l.length ≠ 0 := fun q => hne (List.eq_nil_of_length_eq_zero q)
      obtain ⟨_, h⟩ := AH.slc_inv (tm 0 _ q0)
      obtain ⟨_, g⟩ := AH.slc_inv h0
      rcases h with ⟨c1, e1, _, f1, _⟩ | ⟨_, _, z, _⟩
      · rcases g with ⟨c2, e2, _, f2, _⟩ | ⟨_, _, z, _⟩
        · have b0 : φ'.blk 0 = φ.blk 0 := (r.ext.blk 0 (.inl h0d)).trans (ext.blk 0 h0d)
          have b1 : φ'.base 0 = φ.base 0 := (r.ext.base 0 (.inl h0d)).trans (ext.base 0 h0d)
          have b2 : φ'.k 0 = φ.k 0 := (r.ext.k 0 (.inl h0d)).trans (ext.k 0 h0d)
          rw [e1, e2, b0, b1, b2, f1 cp rfl, f2 cp rfl]
        · exact absurd z hlen
      · exact absurd z hlen
    · have h := tm 8 _ q8
      generalize a'.tmps.getD 8 undef = u at h
      cases h
      have b0 : φ'.blk 1 = b := (r.ext.blk 1 (.inr rfl)).trans (by simp [AH.Emb.add])
      have b1 : φ'.base 1 = 0 := (r.ext.base 1 (.inr rfl)).trans (by simp [AH.Emb.add])
      simp [b0, b1]
end Go.Proofs.YtcmnchmkoghfdaaDoor.C05h
