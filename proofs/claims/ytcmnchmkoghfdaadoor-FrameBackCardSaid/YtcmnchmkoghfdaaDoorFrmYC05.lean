import Derived.Test.YtcmnchmkoghfdaaDoorFrmXC05
open Go AH
set_option linter.unusedSimpArgs false
set_option maxRecDepth 100000
namespace Go.Proofs.YtcmnchmkoghfdaaDoor.C05
theorem num_k (x : Int) : ∃ k : Int, IntKind.i64.wrap (1 + IntKind.i64.wrap ((IntKind.u64.wrap x).tmod 1000)) = k ∧ 1 ≤ k ∧ k ≤ 1000 := by
  obtain ⟨k, h1, h2⟩ := mod_u x (m := 1000) (by decide) (by decide)
  refine ⟨1 + k, ?_, by omega, by omega⟩
  rw [h1, IntKind.wrap_i64]; omega
def txB (q : Int) (d : ByteArray) : List ByteArray := blkL q d (sizeN d.size)
theorem txB_eq (q : Int) (d : ByteArray) : blkL q d (sizeN d.size) = txB q d := rfl
theorem txB_len (q : Int) (d : ByteArray) : (txB q d).length = sizeN d.size := by rw [txB, blkL_len]
theorem tkB (q : Int) (d : ByteArray) : List.take (sizeN d.size) ((txB q d).map strC) = (txB q d).map strC := by
  rw [List.take_of_length_le]; rw [List.length_map, txB_len]; exact Nat.le_refl _
theorem mapA (X Y : List ByteArray) : X.map strC ++ Y.map strC = (X ++ Y).map strC := List.map_append.symm
/-- Two texts of blocks are the same where text and number are. -/
theorem txB_inj {p q : Int} {a b : ByteArray} (hp : 1 ≤ p) (hp2 : p ≤ 1000) (hq : 1 ≤ q) (hq2 : q ≤ 1000) (ha : a.size ≤ 400) (hb : b.size ≤ 400) (h : txB p a = txB q b) : a = b ∧ p = q := by
  have h1 := read_back (seq := p) (d := a) hp (by omega) (by omega) []
  have h2 := read_back (seq := q) (d := b) hq (by omega) (by omega) []
  rw [List.append_nil, txB_eq] at h1 h2
  rw [h] at h1
  have := h1.symm.trans h2
  exact ⟨congrArg Rd.t this, congrArg Rd.q this⟩
/-- What the loop's answer is at its i-th round. -/
noncomputable def smI (k1 k2 : Nat) (X Y : List ByteArray) (i : Nat) : Bool := ((k1 : Int) == (k2 : Int)) && decide (X.take i = Y.take i)
theorem smI_0 (k1 k2 : Nat) (X Y : List ByteArray) : ((k1 : Int) == (k2 : Int)) = smI k1 k2 X Y 0 := by simp [smI]
theorem smI_k {k1 k2 : Nat} {X Y : List ByteArray} {i : Nat} (h : smI k1 k2 X Y i = true) : k1 = k2 ∧ X.take i = Y.take i := by
  unfold smI at h
  rw [Bool.and_eq_true] at h
  exact ⟨by have := eq_of_beq h.1; omega, of_decide_eq_true h.2⟩
theorem getB {X : List ByteArray} {i : Nat} (h : i < X.length) : (X.map strC).getD i [] = [.str (X.getD i ⟨#[]⟩)] := by
  rw [List.getD_eq_getElem?_getD, List.getElem?_map, List.getD_eq_getElem?_getD, List.getElem?_eq_getElem h]; rfl
theorem tkS {X : List ByteArray} {i : Nat} (h : i < X.length) : X.take (i + 1) = X.take i ++ [X.getD i ⟨#[]⟩] := by
  rw [List.take_add_one, List.getElem?_eq_getElem h, List.getD_eq_getElem?_getD, List.getElem?_eq_getElem h]; rfl
theorem smI_s {k : Nat} {X Y : List ByteArray} {i : Nat} (hx : i < X.length) (hy : i < Y.length) (h : X.take i = Y.take i) : ((X.getD i ⟨#[]⟩).toList == (Y.getD i ⟨#[]⟩).toList) = smI k k X Y (i + 1) := by
  unfold smI
  rw [tkS hx, tkS hy, h]
  cases hc : (X.getD i ⟨#[]⟩).toList == (Y.getD i ⟨#[]⟩).toList
  · have : X.getD i ⟨#[]⟩ ≠ Y.getD i ⟨#[]⟩ := fun e => by rw [e, tl_self] at hc; cases hc
    have h2 : decide (Y.take i ++ [X.getD i ⟨#[]⟩] = Y.take i ++ [Y.getD i ⟨#[]⟩]) = false := by
      refine decide_eq_false fun e => ?_
      have := List.append_cancel_left e
      simp only [List.cons.injEq, and_true] at this
      contradiction
    rw [h2, Bool.and_false]
  · rw [tl_eq hc]; simp
theorem smI_end {p q : Int} {a b : ByteArray} {i : Nat} {s : Bool} (hp : 1 ≤ p) (hp2 : p ≤ 1000) (hq : 1 ≤ q) (hq2 : q ≤ 1000) (ha : a.size ≤ 400) (hb : b.size ≤ 400) (hs : s = smI (sizeN a.size) (sizeN b.size) (txB p a) (txB q b) i) (h : sizeN a.size ≤ i ∨ s = false) : s = ((a.toList == b.toList) && (p == q)) := by
  cases hc : (a.toList == b.toList) && (p == q)
  · cases s with
    | false => rfl
    | true =>
      have hi : sizeN a.size ≤ i := h.resolve_right (by simp)
      obtain ⟨e1, e2⟩ := smI_k hs.symm
      rw [List.take_of_length_le (by rw [txB_len]; exact hi), List.take_of_length_le (by rw [txB_len]; omega)] at e2
      obtain ⟨rfl, rfl⟩ := txB_inj hp hp2 hq hq2 ha hb e2
      rw [tl_self, beq_self_eq_true] at hc
      cases hc
  · rw [Bool.and_eq_true] at hc
    have e := tl_eq hc.1
    have e2 := eq_of_beq hc.2
    subst e e2
    rw [hs]; simp [smI]
def fbSt (a b : ByteArray) (p q : Int) (x : Nat × Bool) : St := ⟨[(20, .int .i64 x.1), (19, .bool x.2), (13, .slc 1 0 (sizeN b.size) none), (11, .slc 0 0 (sizeN a.size) none), (10, .int .i64 q), (9, .int .i64 p), (1, .str b), (0, .str a)], [some (.row false 1 ((txB p a).map strC)), some (.row false 1 ((txB q b).map strC))]⟩
theorem strs_in (X : List ByteArray) (p : Nat → Bool) : (X.map strC).all (AV.insB p) = true := by
  simp only [List.all_eq_true, List.mem_map]
  rintro x ⟨y, _, rfl⟩; rfl
theorem strs_ren (X : List ByteArray) (ρ : Nat → Nat) : (X.map strC).map (AV.rens ρ) = X.map strC := by
  rw [List.map_map]; rfl
set_option maxHeartbeats 4000000 in
theorem back_ok (a b : ByteArray) (m n : Int) : CallA1 S0 7 [.str a, .str b, .int .i64 m, .int .i64 n] [] fun r _ => r = .bool true := by
  refine fun_sound okW Tryd.func7 c7 ?_
  unfold wpF F7
  obtain ⟨p, hp, hp1, hp2⟩ := num_k m
  obtain ⟨q, hq, hq1, hq2⟩ := num_k n
  cases h1 : decide ((a.size : Int) > 400)
  · cases h2 : decide ((b.size : Int) > 400)
    · have h1' := h1
      have h2' := h2
      simp only [decide_eq_false_iff_not] at h1' h2'
      have o1 : okBl (p, a, ()) := ⟨hp1, show p ≤ 2147483647 by omega, show a.size ≤ 6000 by omega⟩
      have o2 : okBl (q, b, ()) := ⟨hq1, show q ≤ 2147483647 by omega, show b.size ≤ 6000 by omega⟩
      have s1 : okSz a := okSz_of (by omega)
      have s2 : okSz b := okSz_of (by omega)
      obtain ⟨z1, z2⟩ := sizeN_le (d := a) (by omega)
      obtain ⟨z3, z4⟩ := sizeN_le (d := b) (by omega)
      have hrd : rdZ (txB p a ++ txB q b) = ⟨a, p, (sizeN a.size : Int), -1⟩ := read_back hp1 (by omega) (by omega) _
      have hlen : (txB p a ++ txB q b).length = sizeN a.size + sizeN b.size := by rw [List.length_append, txB_len, txB_len]
      have hl : sizeN a.size + sizeN b.size ≤ 1048576 := by omega
      have hsx := fun (id : Nat) (ro : Bool) => show sxR cStr 1 (sizeN a.size + sizeN b.size) id (some (.row ro 1 ((txB p a).map strC ++ (txB q b).map strC))) = _ from mapA _ _ ▸ sxR_s (id := id) (ro := ro) hlen.symm
      simp only [AH.SD, AH.wpOp, AOp.call?, AOp.next?, bstep, AOp.map, Opd.ev, tget, argTm, evs, AV.cells, St.eff, St.put, applyWr, mset, terase, pureE, unAV, intOp, binAV, fill, mget, AH.rowAt, AH.part, retQ, rvs, retV, AH.splice, AH.sliceElems, AH.bytesOf, AH.strOp, AH.bound, AH.addLog, AH.missQ, AH.minmaxAV, AH.wpOpD, AH.readOf, AH.effOf, AH.mapAt, AH.iterAt, Nat.reduceBEq, Nat.reduceAdd, Nat.reduceLT, ↓reduceIte, Nat.reduceEqDiff, Nat.reduceLeDiff, Nat.reduceSub, Nat.reduceMul, Int.reduceSub, Int.reduceToNat, Int.reduceBEq, Int.reduceBNe, Int.reduceLT, Int.reduceGT, Int.reduceLE, Int.reduceGE, Int.reduceNeg, Int.reduceAdd, AH.PD, heads, distN, AH.inN, posN, packM, packB, packTm, liveB, AV.inB, AV.insB, AV.ren, AV.rens, Blk.ren, Blk.inB, vstep, tput, vw, shift, newOnes, rowsM, blkIn, rwB, @flat_lts, AV.lt, AV.lts, Nat.sub_self, AH.rtO_eq, AH.rtO2_eq, AH.rtO2_none, AH.etO_eq, AH.etO2_eq, AH.etO2_none, AH.useO_some, AH.rtElse_eq, AH.elseO_some, AH.elseO_none, AH.etN_eq, Option.bind_some, Option.bind_none, AH.pairO_some, AH.pairO_none, AH.cC_dec, AH.cC_nil, AH.c0_dec, AH.c0_dec1, AH.aI_dec, AH.aS_dec, AH.aB_dec, AH.aNil_dec, AH.aNil_ptr, Option.map_none, effS, wrS, newS, backNo, AH.isIn, AH.posOf, AH.rwB, List.all_cons, List.all_nil, List.getElem?_cons_zero, List.getElem?_cons_succ, List.getElem?_nil, AH.appE_some, List.contains_cons, List.contains_nil, Nat.add_zero, awakeT_eq, hp, hq, h1, h2]
      repeat ((with_reducible refine And.intro ?_ ?_); focus (first | rfl | decide | omega | (simp only [List.length_map, and_true]; omega) | (simp only [List.length_map, List.length_set, and_true]; omega)))
      simp only [AH.SD, AH.wpOp, AOp.call?, AOp.next?, bstep, AOp.map, Opd.ev, tget, argTm, evs, AV.cells, St.eff, St.put, applyWr, mset, terase, pureE, unAV, intOp, binAV, fill, mget, AH.rowAt, AH.part, retQ, rvs, retV, AH.splice, AH.sliceElems, AH.bytesOf, AH.strOp, AH.bound, AH.addLog, AH.missQ, AH.minmaxAV, AH.wpOpD, AH.readOf, AH.effOf, AH.mapAt, AH.iterAt, Nat.reduceBEq, Nat.reduceAdd, Nat.reduceLT, ↓reduceIte, Nat.reduceEqDiff, Nat.reduceLeDiff, Nat.reduceSub, Nat.reduceMul, Int.reduceSub, Int.reduceToNat, Int.reduceBEq, Int.reduceBNe, Int.reduceLT, Int.reduceGT, Int.reduceLE, Int.reduceGE, Int.reduceNeg, Int.reduceAdd, AH.PD, heads, distN, AH.inN, posN, packM, packB, packTm, liveB, AV.inB, AV.insB, AV.ren, AV.rens, Blk.ren, Blk.inB, vstep, tput, vw, shift, newOnes, rowsM, blkIn, rwB, @flat_lts, AV.lt, AV.lts, Nat.sub_self, AH.rtO_eq, AH.rtO2_eq, AH.rtO2_none, AH.etO_eq, AH.etO2_eq, AH.etO2_none, AH.useO_some, AH.rtElse_eq, AH.elseO_some, AH.elseO_none, AH.etN_eq, Option.bind_some, Option.bind_none, AH.pairO_some, AH.pairO_none, AH.cC_dec, AH.cC_nil, AH.c0_dec, AH.c0_dec1, AH.aI_dec, AH.aS_dec, AH.aB_dec, AH.aNil_dec, AH.aNil_ptr, Option.map_none, effS, wrS, newS, backNo, AH.isIn, AH.posOf, AH.rwB, List.all_cons, List.all_nil, List.getElem?_cons_zero, List.getElem?_cons_succ, List.getElem?_nil, AH.appE_some, List.contains_cons, List.contains_nil, Nat.add_zero, bksN_p, rtC1, o1, o2, not_true_eq_false, if_false, bksT_p, if_true, sizeT_q s1, sizeT_q s2, List.length_map, blkL_len, beq_self_eq_true, bne_self_eq_false]
      simp only [txB_eq, tkB, List.length_map, txB_len]
      repeat ((with_reducible refine And.intro ?_ ?_); focus (first | rfl | decide | omega | (simp only [List.length_map, and_true]; omega) | (simp only [List.length_map, List.length_set, and_true]; omega)))
      simp only [AH.SD, AH.wpOp, AOp.call?, AOp.next?, bstep, AOp.map, Opd.ev, tget, argTm, evs, AV.cells, St.eff, St.put, applyWr, mset, terase, pureE, unAV, intOp, binAV, fill, mget, AH.rowAt, AH.part, retQ, rvs, retV, AH.splice, AH.sliceElems, AH.bytesOf, AH.strOp, AH.bound, AH.addLog, AH.missQ, AH.minmaxAV, AH.wpOpD, AH.readOf, AH.effOf, AH.mapAt, AH.iterAt, Nat.reduceBEq, Nat.reduceAdd, Nat.reduceLT, ↓reduceIte, Nat.reduceEqDiff, Nat.reduceLeDiff, Nat.reduceSub, Nat.reduceMul, Int.reduceSub, Int.reduceToNat, Int.reduceBEq, Int.reduceBNe, Int.reduceLT, Int.reduceGT, Int.reduceLE, Int.reduceGE, Int.reduceNeg, Int.reduceAdd, AH.PD, heads, distN, AH.inN, posN, packM, packB, packTm, liveB, AV.inB, AV.insB, AV.ren, AV.rens, Blk.ren, Blk.inB, vstep, tput, vw, shift, newOnes, rowsM, blkIn, rwB, @flat_lts, AV.lt, AV.lts, Nat.sub_self, AH.rtO_eq, AH.rtO2_eq, AH.rtO2_none, AH.etO_eq, AH.etO2_eq, AH.etO2_none, AH.useO_some, AH.rtElse_eq, AH.elseO_some, AH.elseO_none, AH.etN_eq, Option.bind_some, Option.bind_none, AH.pairO_some, AH.pairO_none, AH.cC_dec, AH.cC_nil, AH.c0_dec, AH.c0_dec1, AH.aI_dec, AH.aS_dec, AH.aB_dec, AH.aNil_dec, AH.aNil_ptr, Option.map_none, effS, wrS, newS, backNo, AH.isIn, AH.posOf, AH.rwB, List.all_cons, List.all_nil, List.getElem?_cons_zero, List.getElem?_cons_succ, List.getElem?_nil, AH.appE_some, List.contains_cons, List.contains_nil, Nat.add_zero, rdT_p, hsx, hl, if_true, hrd, rdA_g, rdM_g, tl_self, txB_len, List.length_append, List.length_map, beq_self_eq_true, bne_self_eq_false]
      repeat ((with_reducible refine And.intro ?_ ?_); focus (first | rfl | decide | omega | (simp only [List.length_map, and_true]; omega) | (simp only [List.length_map, List.length_set, and_true]; omega)))
      refine loop_do [0, 1] [20, 19, 13, 11, 10, 9, 1, 0] [] (α := Nat × Bool) (fun x => sizeN a.size - x.1) (fbSt a b p q) (fun x => x.1 ≤ sizeN a.size ∧ x.2 = smI (sizeN a.size) (sizeN b.size) (txB p a) (txB q b) x.1) (0, ((sizeN a.size : Int) == (sizeN b.size : Int))) ⟨Nat.zero_le _, smI_0 _ _ _ _⟩ (by simp only [AH.SD, AH.wpOp, AOp.call?, AOp.next?, bstep, AOp.map, Opd.ev, tget, argTm, evs, AV.cells, St.eff, St.put, applyWr, mset, terase, pureE, unAV, intOp, binAV, fill, mget, AH.rowAt, AH.part, retQ, rvs, retV, AH.splice, AH.sliceElems, AH.bytesOf, AH.strOp, AH.bound, AH.addLog, AH.missQ, AH.minmaxAV, AH.wpOpD, AH.readOf, AH.effOf, AH.mapAt, AH.iterAt, Nat.reduceBEq, Nat.reduceAdd, Nat.reduceLT, ↓reduceIte, Nat.reduceEqDiff, Nat.reduceLeDiff, Nat.reduceSub, Nat.reduceMul, Int.reduceSub, Int.reduceToNat, Int.reduceBEq, Int.reduceBNe, Int.reduceLT, Int.reduceGT, Int.reduceLE, Int.reduceGE, Int.reduceNeg, Int.reduceAdd, AH.PD, heads, distN, AH.inN, posN, packM, packB, packTm, liveB, AV.inB, AV.insB, AV.ren, AV.rens, Blk.ren, Blk.inB, vstep, tput, fbSt, strs_in, strs_ren]) ?_
      rintro X ⟨i, s⟩ ⟨hi, hs⟩ ih
      dsimp only at hi hs
      cases hlt : decide ((i : Int) < ((sizeN a.size : Nat) : Int))
      · have hge : sizeN a.size ≤ i := by simp only [decide_eq_false_iff_not] at hlt; omega
        have hf := smI_end hp1 hp2 hq1 hq2 (by omega) (by omega) hs (.inl hge)
        clear ih hs
        cases e1 : a.toList == b.toList <;> cases e2 : p == q <;> rw [e1, e2] at hf <;> subst hf
        all_goals
          simp only [AH.SD, AH.wpOp, AOp.call?, AOp.next?, bstep, AOp.map, Opd.ev, tget, argTm, evs, AV.cells, St.eff, St.put, applyWr, mset, terase, pureE, unAV, intOp, binAV, fill, mget, AH.rowAt, AH.part, retQ, rvs, retV, AH.splice, AH.sliceElems, AH.bytesOf, AH.strOp, AH.bound, AH.addLog, AH.missQ, AH.minmaxAV, AH.wpOpD, AH.readOf, AH.effOf, AH.mapAt, AH.iterAt, Nat.reduceBEq, Nat.reduceAdd, Nat.reduceLT, ↓reduceIte, Nat.reduceEqDiff, Nat.reduceLeDiff, Nat.reduceSub, Nat.reduceMul, Int.reduceSub, Int.reduceToNat, Int.reduceBEq, Int.reduceBNe, Int.reduceLT, Int.reduceGT, Int.reduceLE, Int.reduceGE, Int.reduceNeg, Int.reduceAdd, AH.PD, heads, distN, AH.inN, posN, packM, packB, packTm, liveB, AV.inB, AV.insB, AV.ren, AV.rens, Blk.ren, Blk.inB, vstep, tput, vw, shift, newOnes, rowsM, blkIn, rwB, @flat_lts, AV.lt, AV.lts, Nat.sub_self, AH.rtO_eq, AH.rtO2_eq, AH.rtO2_none, AH.etO_eq, AH.etO2_eq, AH.etO2_none, AH.useO_some, AH.rtElse_eq, AH.elseO_some, AH.elseO_none, AH.etN_eq, Option.bind_some, Option.bind_none, AH.pairO_some, AH.pairO_none, AH.cC_dec, AH.cC_nil, AH.c0_dec, AH.c0_dec1, AH.aI_dec, AH.aS_dec, AH.aB_dec, AH.aNil_dec, AH.aNil_ptr, Option.map_none, effS, wrS, newS, backNo, AH.isIn, AH.posOf, AH.rwB, List.all_cons, List.all_nil, List.getElem?_cons_zero, List.getElem?_cons_succ, List.getElem?_nil, AH.appE_some, List.contains_cons, List.contains_nil, Nat.add_zero, fbSt, hlt, e1, e2]
          done
      · cases s with
        | false =>
          have hf := smI_end hp1 hp2 hq1 hq2 (by omega) (by omega) hs (.inr rfl)
          clear ih hs
          cases e1 : a.toList == b.toList <;> cases e2 : p == q <;> rw [e1, e2] at hf <;> cases hf
          all_goals
            simp only [AH.SD, AH.wpOp, AOp.call?, AOp.next?, bstep, AOp.map, Opd.ev, tget, argTm, evs, AV.cells, St.eff, St.put, applyWr, mset, terase, pureE, unAV, intOp, binAV, fill, mget, AH.rowAt, AH.part, retQ, rvs, retV, AH.splice, AH.sliceElems, AH.bytesOf, AH.strOp, AH.bound, AH.addLog, AH.missQ, AH.minmaxAV, AH.wpOpD, AH.readOf, AH.effOf, AH.mapAt, AH.iterAt, Nat.reduceBEq, Nat.reduceAdd, Nat.reduceLT, ↓reduceIte, Nat.reduceEqDiff, Nat.reduceLeDiff, Nat.reduceSub, Nat.reduceMul, Int.reduceSub, Int.reduceToNat, Int.reduceBEq, Int.reduceBNe, Int.reduceLT, Int.reduceGT, Int.reduceLE, Int.reduceGE, Int.reduceNeg, Int.reduceAdd, AH.PD, heads, distN, AH.inN, posN, packM, packB, packTm, liveB, AV.inB, AV.insB, AV.ren, AV.rens, Blk.ren, Blk.inB, vstep, tput, vw, shift, newOnes, rowsM, blkIn, rwB, @flat_lts, AV.lt, AV.lts, Nat.sub_self, AH.rtO_eq, AH.rtO2_eq, AH.rtO2_none, AH.etO_eq, AH.etO2_eq, AH.etO2_none, AH.useO_some, AH.rtElse_eq, AH.elseO_some, AH.elseO_none, AH.etN_eq, Option.bind_some, Option.bind_none, AH.pairO_some, AH.pairO_none, AH.cC_dec, AH.cC_nil, AH.c0_dec, AH.c0_dec1, AH.aI_dec, AH.aS_dec, AH.aB_dec, AH.aNil_dec, AH.aNil_ptr, Option.map_none, effS, wrS, newS, backNo, AH.isIn, AH.posOf, AH.rwB, List.all_cons, List.all_nil, List.getElem?_cons_zero, List.getElem?_cons_succ, List.getElem?_nil, AH.appE_some, List.contains_cons, List.contains_nil, Nat.add_zero, fbSt, hlt, e1, e2]
            done
        | true =>
          obtain ⟨k1, k2⟩ := smI_k hs.symm
          have hi1 : i < sizeN a.size := by simp only [decide_eq_true_eq] at hlt; omega
          have hx : i < (txB p a).length := by rw [txB_len]; exact hi1
          have hy : i < (txB q b).length := by rw [txB_len]; omega
          have wi := wrapS (i := i) (by omega)
          have h3 := smI_s (k := sizeN a.size) hx hy k2
          have done := ih (i + 1, _) ⟨hi1, by rw [← k1]; exact h3⟩ (show sizeN a.size - (i + 1) < sizeN a.size - i by omega)
          simp only [fbSt] at done
          simp only [AH.SD, AH.wpOp, AOp.call?, AOp.next?, bstep, AOp.map, Opd.ev, tget, argTm, evs, AV.cells, St.eff, St.put, applyWr, mset, terase, pureE, unAV, intOp, binAV, fill, mget, AH.rowAt, AH.part, retQ, rvs, retV, AH.splice, AH.sliceElems, AH.bytesOf, AH.strOp, AH.bound, AH.addLog, AH.missQ, AH.minmaxAV, AH.wpOpD, AH.readOf, AH.effOf, AH.mapAt, AH.iterAt, Nat.reduceBEq, Nat.reduceAdd, Nat.reduceLT, ↓reduceIte, Nat.reduceEqDiff, Nat.reduceLeDiff, Nat.reduceSub, Nat.reduceMul, Int.reduceSub, Int.reduceToNat, Int.reduceBEq, Int.reduceBNe, Int.reduceLT, Int.reduceGT, Int.reduceLE, Int.reduceGE, Int.reduceNeg, Int.reduceAdd, AH.PD, heads, distN, AH.inN, posN, packM, packB, packTm, liveB, AV.inB, AV.insB, AV.ren, AV.rens, Blk.ren, Blk.inB, vstep, tput, vw, shift, newOnes, rowsM, blkIn, rwB, @flat_lts, AV.lt, AV.lts, Nat.sub_self, AH.rtO_eq, AH.rtO2_eq, AH.rtO2_none, AH.etO_eq, AH.etO2_eq, AH.etO2_none, AH.useO_some, AH.rtElse_eq, AH.elseO_some, AH.elseO_none, AH.etN_eq, Option.bind_some, Option.bind_none, AH.pairO_some, AH.pairO_none, AH.cC_dec, AH.cC_nil, AH.c0_dec, AH.c0_dec1, AH.aI_dec, AH.aS_dec, AH.aB_dec, AH.aNil_dec, AH.aNil_ptr, Option.map_none, effS, wrS, newS, backNo, AH.isIn, AH.posOf, AH.rwB, List.all_cons, List.all_nil, List.getElem?_cons_zero, List.getElem?_cons_succ, List.getElem?_nil, AH.appE_some, List.contains_cons, List.contains_nil, Nat.add_zero, fbSt, hlt, Int.toNat_natCast, getB hx, getB hy, List.length_map, txB_len, wi]
          repeat ((with_reducible refine And.intro ?_ ?_); focus (first | rfl | decide | omega | (simp only [List.length_map, and_true]; omega) | (simp only [List.length_map, List.length_set, and_true]; omega)))
          try simp only [AH.SD, AH.wpOp, AOp.call?, AOp.next?, bstep, AOp.map, Opd.ev, tget, argTm, evs, AV.cells, St.eff, St.put, applyWr, mset, terase, pureE, unAV, intOp, binAV, fill, mget, AH.rowAt, AH.part, retQ, rvs, retV, AH.splice, AH.sliceElems, AH.bytesOf, AH.strOp, AH.bound, AH.addLog, AH.missQ, AH.minmaxAV, AH.wpOpD, AH.readOf, AH.effOf, AH.mapAt, AH.iterAt, Nat.reduceBEq, Nat.reduceAdd, Nat.reduceLT, ↓reduceIte, Nat.reduceEqDiff, Nat.reduceLeDiff, Nat.reduceSub, Nat.reduceMul, Int.reduceSub, Int.reduceToNat, Int.reduceBEq, Int.reduceBNe, Int.reduceLT, Int.reduceGT, Int.reduceLE, Int.reduceGE, Int.reduceNeg, Int.reduceAdd, AH.PD, heads, distN, AH.inN, posN, packM, packB, packTm, liveB, AV.inB, AV.insB, AV.ren, AV.rens, Blk.ren, Blk.inB, vstep, tput, vw, shift, newOnes, rowsM, blkIn, rwB, @flat_lts, AV.lt, AV.lts, Nat.sub_self, AH.rtO_eq, AH.rtO2_eq, AH.rtO2_none, AH.etO_eq, AH.etO2_eq, AH.etO2_none, AH.useO_some, AH.rtElse_eq, AH.elseO_some, AH.elseO_none, AH.etN_eq, Option.bind_some, Option.bind_none, AH.pairO_some, AH.pairO_none, AH.cC_dec, AH.cC_nil, AH.c0_dec, AH.c0_dec1, AH.aI_dec, AH.aS_dec, AH.aB_dec, AH.aNil_dec, AH.aNil_ptr, Option.map_none, effS, wrS, newS, backNo, AH.isIn, AH.posOf, AH.rwB, List.all_cons, List.all_nil, List.getElem?_cons_zero, List.getElem?_cons_succ, List.getElem?_nil, AH.appE_some, List.contains_cons, List.contains_nil, Nat.add_zero, Int.toNat_natCast, getB hx, getB hy, List.length_map, txB_len, wi]
          refine gc_auto [0, 1] [20, 19, 13, 11, 10, 9, 1, 0] [] ?_
          simp only [AH.SD, AH.wpOp, AOp.call?, AOp.next?, bstep, AOp.map, Opd.ev, tget, argTm, evs, AV.cells, St.eff, St.put, applyWr, mset, terase, pureE, unAV, intOp, binAV, fill, mget, AH.rowAt, AH.part, retQ, rvs, retV, AH.splice, AH.sliceElems, AH.bytesOf, AH.strOp, AH.bound, AH.addLog, AH.missQ, AH.minmaxAV, AH.wpOpD, AH.readOf, AH.effOf, AH.mapAt, AH.iterAt, Nat.reduceBEq, Nat.reduceAdd, Nat.reduceLT, ↓reduceIte, Nat.reduceEqDiff, Nat.reduceLeDiff, Nat.reduceSub, Nat.reduceMul, Int.reduceSub, Int.reduceToNat, Int.reduceBEq, Int.reduceBNe, Int.reduceLT, Int.reduceGT, Int.reduceLE, Int.reduceGE, Int.reduceNeg, Int.reduceAdd, AH.PD, heads, distN, AH.inN, posN, packM, packB, packTm, liveB, AV.inB, AV.insB, AV.ren, AV.rens, Blk.ren, Blk.inB, vstep, tput, strs_in, strs_ren]
          exact done
    · simp only [AH.SD, AH.wpOp, AOp.call?, AOp.next?, bstep, AOp.map, Opd.ev, tget, argTm, evs, AV.cells, St.eff, St.put, applyWr, mset, terase, pureE, unAV, intOp, binAV, fill, mget, AH.rowAt, AH.part, retQ, rvs, retV, AH.splice, AH.sliceElems, AH.bytesOf, AH.strOp, AH.bound, AH.addLog, AH.missQ, AH.minmaxAV, AH.wpOpD, AH.readOf, AH.effOf, AH.mapAt, AH.iterAt, Nat.reduceBEq, Nat.reduceAdd, Nat.reduceLT, ↓reduceIte, Nat.reduceEqDiff, Nat.reduceLeDiff, Nat.reduceSub, Nat.reduceMul, Int.reduceSub, Int.reduceToNat, Int.reduceBEq, Int.reduceBNe, Int.reduceLT, Int.reduceGT, Int.reduceLE, Int.reduceGE, Int.reduceNeg, Int.reduceAdd, AH.PD, heads, distN, AH.inN, posN, packM, packB, packTm, liveB, AV.inB, AV.insB, AV.ren, AV.rens, Blk.ren, Blk.inB, vstep, tput, vw, shift, newOnes, rowsM, blkIn, rwB, @flat_lts, AV.lt, AV.lts, Nat.sub_self, AH.rtO_eq, AH.rtO2_eq, AH.rtO2_none, AH.etO_eq, AH.etO2_eq, AH.etO2_none, AH.useO_some, AH.rtElse_eq, AH.elseO_some, AH.elseO_none, AH.etN_eq, Option.bind_some, Option.bind_none, AH.pairO_some, AH.pairO_none, AH.cC_dec, AH.cC_nil, AH.c0_dec, AH.c0_dec1, AH.aI_dec, AH.aS_dec, AH.aB_dec, AH.aNil_dec, AH.aNil_ptr, Option.map_none, effS, wrS, newS, backNo, AH.isIn, AH.posOf, AH.rwB, List.all_cons, List.all_nil, List.getElem?_cons_zero, List.getElem?_cons_succ, List.getElem?_nil, AH.appE_some, List.contains_cons, List.contains_nil, Nat.add_zero, awakeT_eq, hp, hq, h1, h2]
      done
  · simp only [AH.SD, AH.wpOp, AOp.call?, AOp.next?, bstep, AOp.map, Opd.ev, tget, argTm, evs, AV.cells, St.eff, St.put, applyWr, mset, terase, pureE, unAV, intOp, binAV, fill, mget, AH.rowAt, AH.part, retQ, rvs, retV, AH.splice, AH.sliceElems, AH.bytesOf, AH.strOp, AH.bound, AH.addLog, AH.missQ, AH.minmaxAV, AH.wpOpD, AH.readOf, AH.effOf, AH.mapAt, AH.iterAt, Nat.reduceBEq, Nat.reduceAdd, Nat.reduceLT, ↓reduceIte, Nat.reduceEqDiff, Nat.reduceLeDiff, Nat.reduceSub, Nat.reduceMul, Int.reduceSub, Int.reduceToNat, Int.reduceBEq, Int.reduceBNe, Int.reduceLT, Int.reduceGT, Int.reduceLE, Int.reduceGE, Int.reduceNeg, Int.reduceAdd, AH.PD, heads, distN, AH.inN, posN, packM, packB, packTm, liveB, AV.inB, AV.insB, AV.ren, AV.rens, Blk.ren, Blk.inB, vstep, tput, vw, shift, newOnes, rowsM, blkIn, rwB, @flat_lts, AV.lt, AV.lts, Nat.sub_self, AH.rtO_eq, AH.rtO2_eq, AH.rtO2_none, AH.etO_eq, AH.etO2_eq, AH.etO2_none, AH.useO_some, AH.rtElse_eq, AH.elseO_some, AH.elseO_none, AH.etN_eq, Option.bind_some, Option.bind_none, AH.pairO_some, AH.pairO_none, AH.cC_dec, AH.cC_nil, AH.c0_dec, AH.c0_dec1, AH.aI_dec, AH.aS_dec, AH.aB_dec, AH.aNil_dec, AH.aNil_ptr, Option.map_none, effS, wrS, newS, backNo, AH.isIn, AH.posOf, AH.rwB, List.all_cons, List.all_nil, List.getElem?_cons_zero, List.getElem?_cons_succ, List.getElem?_nil, AH.appE_some, List.contains_cons, List.contains_nil, Nat.add_zero, awakeT_eq, hp, hq, h1]
    done
end Go.Proofs.YtcmnchmkoghfdaaDoor.C05
