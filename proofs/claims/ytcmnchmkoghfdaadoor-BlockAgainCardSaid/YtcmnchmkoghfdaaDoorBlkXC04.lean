import Derived.Test.YtcmnchmkoghfdaaDoorBlkRC04
open Go AH
set_option linter.unusedSimpArgs false
set_option maxRecDepth 100000
namespace Go.Proofs.YtcmnchmkoghfdaaDoor.C04

theorem i64max : IntKind.i64.max = 9223372036854775807 := by decide
theorem catS_snoc (l : List ByteArray) (x : ByteArray) : catS (l ++ [x]) = catS l ++ x := by
  apply ByteArray.ext
  simp [catS]
theorem catS_size : ∀ (l : List ByteArray), (∀ s ∈ l, s.size = 64) → (catS l).size = 64 * l.length := by
  intro l h
  have : ∀ (l : List ByteArray), (∀ s ∈ l, s.size = 64) → ((l.map (·.data.toList)).flatten).length = 64 * l.length := by
    intro l
    induction l with
    | nil => intro _; rfl
    | cons a r ih =>
      intro h
      have h1 : a.data.toList.length = 64 := by rw [Array.length_toList]; exact h a (List.mem_cons_self ..)
      rw [List.map_cons, List.flatten_cons, List.length_append, ih (fun s hs => h s (List.mem_cons_of_mem _ hs)), h1, List.length_cons]; omega
  have := this l h
  rw [catS]
  simpa [ByteArray.size] using this
theorem catS_nil : catS [] = ⟨#[]⟩ := rfl
def rimSt (d : Dk) (i : Nat) : St := ⟨[(4, .int .i64 i), (3, .str (catS (d.L.take i))), (0, .ptr 0 0 0)], dkM d⟩
set_option maxRecDepth 100000 in
theorem rimage_ok (d : Dk) (hd : d.ok) : CallA1 S0 26 [.ptr 0 0 0] (dkM d) fun r m => r = .str (catS d.L) ∧ m = dkM d := by
  refine fun_sound okZ0 Tryd.func26 c26 ?_
  unfold wpF F26
  simp only [AH.SD, AH.wpOp, AOp.call?, AOp.next?, bstep, AOp.map, Opd.ev, tget, argTm, evs, AV.cells, St.eff, St.put, applyWr, mset, terase, pureE, unAV, intOp, binAV, fill, mget, AH.rowAt, AH.part, retQ, rvs, retV, AH.splice, AH.sliceElems, AH.bytesOf, AH.strOp, AH.bound, AH.addLog, AH.missQ, AH.minmaxAV, AH.wpOpD, AH.readOf, AH.effOf, AH.mapAt, AH.iterAt, Nat.reduceBEq, Nat.reduceAdd, Nat.reduceLT, ↓reduceIte, Nat.reduceEqDiff, Nat.reduceLeDiff, Nat.reduceSub, Nat.reduceMul, Int.reduceSub, Int.reduceToNat, Int.reduceBEq, Int.reduceBNe, Int.reduceLT, Int.reduceGT, Int.reduceLE, Int.reduceGE, Int.reduceNeg, Int.reduceAdd, dkM]
  refine loop_do [0, 1] [4, 3, 0] [] (α := Nat) (fun i => d.L.length - i) (rimSt d) (fun i => i ≤ d.L.length) 0 (Nat.zero_le _) (by simp only [AH.SD, AH.wpOp, AOp.call?, AOp.next?, bstep, AOp.map, Opd.ev, tget, argTm, evs, AV.cells, St.eff, St.put, applyWr, mset, terase, pureE, unAV, intOp, binAV, fill, mget, AH.rowAt, AH.part, retQ, rvs, retV, AH.splice, AH.sliceElems, AH.bytesOf, AH.strOp, AH.bound, AH.addLog, AH.missQ, AH.minmaxAV, AH.wpOpD, AH.readOf, AH.effOf, AH.mapAt, AH.iterAt, Nat.reduceBEq, Nat.reduceAdd, Nat.reduceLT, ↓reduceIte, Nat.reduceEqDiff, Nat.reduceLeDiff, Nat.reduceSub, Nat.reduceMul, Int.reduceSub, Int.reduceToNat, Int.reduceBEq, Int.reduceBNe, Int.reduceLT, Int.reduceGT, Int.reduceLE, Int.reduceGE, Int.reduceNeg, Int.reduceAdd, AH.PD, heads, distN, AH.inN, posN, packM, packB, packTm, liveB, AV.inB, AV.insB, AV.ren, AV.rens, Blk.ren, Blk.inB, vstep, tput, rimSt, dkM, List.take_zero, catS_nil]) ?_
  intro X i hi ih
  simp only [AH.SD, AH.wpOp, AOp.call?, AOp.next?, bstep, AOp.map, Opd.ev, tget, argTm, evs, AV.cells, St.eff, St.put, applyWr, mset, terase, pureE, unAV, intOp, binAV, fill, mget, AH.rowAt, AH.part, retQ, rvs, retV, AH.splice, AH.sliceElems, AH.bytesOf, AH.strOp, AH.bound, AH.addLog, AH.missQ, AH.minmaxAV, AH.wpOpD, AH.readOf, AH.effOf, AH.mapAt, AH.iterAt, Nat.reduceBEq, Nat.reduceAdd, Nat.reduceLT, ↓reduceIte, Nat.reduceEqDiff, Nat.reduceLeDiff, Nat.reduceSub, Nat.reduceMul, Int.reduceSub, Int.reduceToNat, Int.reduceBEq, Int.reduceBNe, Int.reduceLT, Int.reduceGT, Int.reduceLE, Int.reduceGE, Int.reduceNeg, Int.reduceAdd, rimSt, dkM]
  have hL := hd.2.2.2
  refine ⟨fun hlt => ?_, fun hlt => ?_⟩
  · have hil := lt_of_dec hlt
    have hw := wrapS (i := i) (by omega)
    have h1 : (catS (d.L.take i)).size = 64 * i := by
      rw [catS_size _ fun s hs => hd.1 s (List.mem_of_mem_take hs), List.length_take]; omega
    have h2 : d.L[i].size = 64 := hd.1 _ (List.getElem_mem hil)
    have done := ih (i + 1) hil (by omega)
    simp only [rimSt, dkM, List.take_succ_eq_append_getElem hil, catS_snoc] at done
    simp only [AH.SD, AH.wpOp, AOp.call?, AOp.next?, bstep, AOp.map, Opd.ev, tget, argTm, evs, AV.cells, St.eff, St.put, applyWr, mset, terase, pureE, unAV, intOp, binAV, fill, mget, AH.rowAt, AH.part, retQ, rvs, retV, AH.splice, AH.sliceElems, AH.bytesOf, AH.strOp, AH.bound, AH.addLog, AH.missQ, AH.minmaxAV, AH.wpOpD, AH.readOf, AH.effOf, AH.mapAt, AH.iterAt, Nat.reduceBEq, Nat.reduceAdd, Nat.reduceLT, ↓reduceIte, Nat.reduceEqDiff, Nat.reduceLeDiff, Nat.reduceSub, Nat.reduceMul, Int.reduceSub, Int.reduceToNat, Int.reduceBEq, Int.reduceBNe, Int.reduceLT, Int.reduceGT, Int.reduceLE, Int.reduceGE, Int.reduceNeg, Int.reduceAdd, getD_enc, hil, strC_eq, h1, h2, i64max]
    repeat (refine ⟨by first | rfl | decide | omega | (simp only [List.length_map, and_true]; omega) | (simp only [List.length_map, List.length_set, and_true]; omega), ?_⟩)
    simp only [AH.SD, AH.wpOp, AOp.call?, AOp.next?, bstep, AOp.map, Opd.ev, tget, argTm, evs, AV.cells, St.eff, St.put, applyWr, mset, terase, pureE, unAV, intOp, binAV, fill, mget, AH.rowAt, AH.part, retQ, rvs, retV, AH.splice, AH.sliceElems, AH.bytesOf, AH.strOp, AH.bound, AH.addLog, AH.missQ, AH.minmaxAV, AH.wpOpD, AH.readOf, AH.effOf, AH.mapAt, AH.iterAt, Nat.reduceBEq, Nat.reduceAdd, Nat.reduceLT, ↓reduceIte, Nat.reduceEqDiff, Nat.reduceLeDiff, Nat.reduceSub, Nat.reduceMul, Int.reduceSub, Int.reduceToNat, Int.reduceBEq, Int.reduceBNe, Int.reduceLT, Int.reduceGT, Int.reduceLE, Int.reduceGE, Int.reduceNeg, Int.reduceAdd, hw]
    refine gc_auto [0, 1] [4, 3, 0] [] ?_
    simp only [AH.SD, AH.wpOp, AOp.call?, AOp.next?, bstep, AOp.map, Opd.ev, tget, argTm, evs, AV.cells, St.eff, St.put, applyWr, mset, terase, pureE, unAV, intOp, binAV, fill, mget, AH.rowAt, AH.part, retQ, rvs, retV, AH.splice, AH.sliceElems, AH.bytesOf, AH.strOp, AH.bound, AH.addLog, AH.missQ, AH.minmaxAV, AH.wpOpD, AH.readOf, AH.effOf, AH.mapAt, AH.iterAt, Nat.reduceBEq, Nat.reduceAdd, Nat.reduceLT, ↓reduceIte, Nat.reduceEqDiff, Nat.reduceLeDiff, Nat.reduceSub, Nat.reduceMul, Int.reduceSub, Int.reduceToNat, Int.reduceBEq, Int.reduceBNe, Int.reduceLT, Int.reduceGT, Int.reduceLE, Int.reduceGE, Int.reduceNeg, Int.reduceAdd, AH.PD, heads, distN, AH.inN, posN, packM, packB, packTm, liveB, AV.inB, AV.insB, AV.ren, AV.rens, Blk.ren, Blk.inB, vstep, tput]
    exact done
  · have hil := ge_of_dec hlt
    obtain rfl : i = d.L.length := by omega
    simp only [AH.SD, AH.wpOp, AOp.call?, AOp.next?, bstep, AOp.map, Opd.ev, tget, argTm, evs, AV.cells, St.eff, St.put, applyWr, mset, terase, pureE, unAV, intOp, binAV, fill, mget, AH.rowAt, AH.part, retQ, rvs, retV, AH.splice, AH.sliceElems, AH.bytesOf, AH.strOp, AH.bound, AH.addLog, AH.missQ, AH.minmaxAV, AH.wpOpD, AH.readOf, AH.effOf, AH.mapAt, AH.iterAt, Nat.reduceBEq, Nat.reduceAdd, Nat.reduceLT, ↓reduceIte, Nat.reduceEqDiff, Nat.reduceLeDiff, Nat.reduceSub, Nat.reduceMul, Int.reduceSub, Int.reduceToNat, Int.reduceBEq, Int.reduceBNe, Int.reduceLT, Int.reduceGT, Int.reduceLE, Int.reduceGE, Int.reduceNeg, Int.reduceAdd, List.take_length]
    try trivial
def rimgT : RT := rtO dkO c0 fun d _ => if d.ok then some (.str (catS d.L)) else none
theorem rimgT_ok : ReadF S0 26 rimgT := rtO_ok fun d x v h => by
  split at h
  · rename_i hd
    simp only [Option.some.injEq] at h; subst h
    exact ⟨rfl, rimage_ok d hd⟩
  · cases h
theorem rimgT_p {p : Nat} {M : Nat → Option Blk} : rimgT [.ptr p 0 0] M = rtO2 (fun (d : Dk) (_ : Unit) => if d.ok then some (.str (catS d.L)) else none) (dkR M p (M p)) (some ()) := by
  simp only [rimgT, rtO_eq, c0_dec, dkO_dec]

/-- A block of a byte. -/
def fillS (b : Int) : ByteArray := ⟨(List.replicate 64 (UInt8.ofNat b.toNat)).toArray⟩
theorem fillS_size (b : Int) : (fillS b).size = 64 := rfl
theorem bytesOf_rep (b : Int) : ∀ n : Nat, AH.bytesOf (List.replicate n [.int .u8 b]) = some (List.replicate n (UInt8.ofNat b.toNat))
  | 0 => rfl
  | n + 1 => by rw [List.replicate_succ, List.replicate_succ, AH.bytesOf, bytesOf_rep b n]; rfl
theorem rep_set {α : Type} (x z : α) (n i : Nat) (h : i < n) : (List.replicate i x ++ List.replicate (n - i) z).set i x = List.replicate (i + 1) x ++ List.replicate (n - (i + 1)) z := by
  obtain ⟨k, hk⟩ : ∃ k, n - i = k + 1 := ⟨n - i - 1, by omega⟩
  rw [hk, show n - (i + 1) = k by omega, List.set_append_right _ _ (by simp), List.length_replicate, Nat.sub_self, List.replicate_succ, List.set_cons_zero, List.replicate_succ', List.append_assoc]
  rfl
theorem rep_get {α : Type} (x z d : α) (n i : Nat) (h : i < n) : (List.replicate i x ++ List.replicate (n - i) z).getD i d = z := by
  rw [List.getD_eq_getElem?_getD, List.getElem?_append_right (by simp), List.length_replicate, Nat.sub_self, List.getElem?_replicate, if_pos (by omega)]; rfl
def fillSt (b : Int) (i : Nat) : St := ⟨[(4, .int .i64 i), (3, .slc 0 0 64 (some 64)), (0, .int .u8 b)], [some (.row false 1 (List.replicate i [.int .u8 b] ++ List.replicate (64 - i) [.int .u8 0]))]⟩
set_option maxRecDepth 100000 in
theorem fill_ok (b : Int) : Pure S0 21 [.int .u8 b] (.str (fillS b)) := by
  refine fun_sound okZ0 Tryd.func21 c21 ?_
  unfold wpF F21
  simp only [AH.SD, AH.wpOp, AOp.call?, AOp.next?, bstep, AOp.map, Opd.ev, tget, argTm, evs, AV.cells, St.eff, St.put, applyWr, mset, terase, pureE, unAV, intOp, binAV, fill, mget, AH.rowAt, AH.part, retQ, rvs, retV, AH.splice, AH.sliceElems, AH.bytesOf, AH.strOp, AH.bound, AH.addLog, AH.missQ, AH.minmaxAV, AH.wpOpD, AH.readOf, AH.effOf, AH.mapAt, AH.iterAt, Nat.reduceBEq, Nat.reduceAdd, Nat.reduceLT, ↓reduceIte, Nat.reduceEqDiff, Nat.reduceLeDiff, Nat.reduceSub, Nat.reduceMul, Int.reduceSub, Int.reduceToNat, Int.reduceBEq, Int.reduceBNe, Int.reduceLT, Int.reduceGT, Int.reduceLE, Int.reduceGE, Int.reduceNeg, Int.reduceAdd]
  repeat (refine ⟨by first | rfl | decide | omega | (simp only [List.length_map, and_true]; omega) | (simp only [List.length_map, List.length_set, and_true]; omega), ?_⟩)
  refine loop_do [0] [4, 3, 0] [] (α := Nat) (fun i => 64 - i) (fillSt b) (fun i => i ≤ 64) 0 (Nat.zero_le _) ?_ ?_
  · simp only [AH.SD, AH.wpOp, AOp.call?, AOp.next?, bstep, AOp.map, Opd.ev, tget, argTm, evs, AV.cells, St.eff, St.put, applyWr, mset, terase, pureE, unAV, intOp, binAV, fill, mget, AH.rowAt, AH.part, retQ, rvs, retV, AH.splice, AH.sliceElems, AH.bytesOf, AH.strOp, AH.bound, AH.addLog, AH.missQ, AH.minmaxAV, AH.wpOpD, AH.readOf, AH.effOf, AH.mapAt, AH.iterAt, Nat.reduceBEq, Nat.reduceAdd, Nat.reduceLT, ↓reduceIte, Nat.reduceEqDiff, Nat.reduceLeDiff, Nat.reduceSub, Nat.reduceMul, Int.reduceSub, Int.reduceToNat, Int.reduceBEq, Int.reduceBNe, Int.reduceLT, Int.reduceGT, Int.reduceLE, Int.reduceGE, Int.reduceNeg, Int.reduceAdd, AH.PD, heads, distN, AH.inN, posN, packM, packB, packTm, liveB, AV.inB, AV.insB, AV.ren, AV.rens, Blk.ren, Blk.inB, vstep, tput, fillSt, List.map_replicate, List.replicate_zero, List.all_replicate, Nat.reduceBEq]
    try trivial
  intro X i hi ih
  simp only [AH.SD, AH.wpOp, AOp.call?, AOp.next?, bstep, AOp.map, Opd.ev, tget, argTm, evs, AV.cells, St.eff, St.put, applyWr, mset, terase, pureE, unAV, intOp, binAV, fill, mget, AH.rowAt, AH.part, retQ, rvs, retV, AH.splice, AH.sliceElems, AH.bytesOf, AH.strOp, AH.bound, AH.addLog, AH.missQ, AH.minmaxAV, AH.wpOpD, AH.readOf, AH.effOf, AH.mapAt, AH.iterAt, Nat.reduceBEq, Nat.reduceAdd, Nat.reduceLT, ↓reduceIte, Nat.reduceEqDiff, Nat.reduceLeDiff, Nat.reduceSub, Nat.reduceMul, Int.reduceSub, Int.reduceToNat, Int.reduceBEq, Int.reduceBNe, Int.reduceLT, Int.reduceGT, Int.reduceLE, Int.reduceGE, Int.reduceNeg, Int.reduceAdd, fillSt]
  refine ⟨fun hlt => ?_, fun hlt => ?_⟩
  · have hil : i < 64 := by simp only [decide_eq_true_eq] at hlt; omega
    have hw := wrapS (i := i) (by omega)
    have done := ih (i + 1) hil (by omega)
    simp only [fillSt] at done
    simp only [AH.SD, AH.wpOp, AOp.call?, AOp.next?, bstep, AOp.map, Opd.ev, tget, argTm, evs, AV.cells, St.eff, St.put, applyWr, mset, terase, pureE, unAV, intOp, binAV, fill, mget, AH.rowAt, AH.part, retQ, rvs, retV, AH.splice, AH.sliceElems, AH.bytesOf, AH.strOp, AH.bound, AH.addLog, AH.missQ, AH.minmaxAV, AH.wpOpD, AH.readOf, AH.effOf, AH.mapAt, AH.iterAt, Nat.reduceBEq, Nat.reduceAdd, Nat.reduceLT, ↓reduceIte, Nat.reduceEqDiff, Nat.reduceLeDiff, Nat.reduceSub, Nat.reduceMul, Int.reduceSub, Int.reduceToNat, Int.reduceBEq, Int.reduceBNe, Int.reduceLT, Int.reduceGT, Int.reduceLE, Int.reduceGE, Int.reduceNeg, Int.reduceAdd, rep_get _ _ _ 64 i hil, rep_set _ _ 64 i hil, List.length_append, List.length_replicate, Int.toNat_natCast]
    repeat (refine ⟨by first | rfl | decide | omega | (simp only [List.length_map, and_true]; omega) | (simp only [List.length_map, List.length_set, and_true]; omega), ?_⟩)
    simp only [AH.SD, AH.wpOp, AOp.call?, AOp.next?, bstep, AOp.map, Opd.ev, tget, argTm, evs, AV.cells, St.eff, St.put, applyWr, mset, terase, pureE, unAV, intOp, binAV, fill, mget, AH.rowAt, AH.part, retQ, rvs, retV, AH.splice, AH.sliceElems, AH.bytesOf, AH.strOp, AH.bound, AH.addLog, AH.missQ, AH.minmaxAV, AH.wpOpD, AH.readOf, AH.effOf, AH.mapAt, AH.iterAt, Nat.reduceBEq, Nat.reduceAdd, Nat.reduceLT, ↓reduceIte, Nat.reduceEqDiff, Nat.reduceLeDiff, Nat.reduceSub, Nat.reduceMul, Int.reduceSub, Int.reduceToNat, Int.reduceBEq, Int.reduceBNe, Int.reduceLT, Int.reduceGT, Int.reduceLE, Int.reduceGE, Int.reduceNeg, Int.reduceAdd, hw]
    refine gc_auto [0] [4, 3, 0] [] ?_
    simp only [AH.SD, AH.wpOp, AOp.call?, AOp.next?, bstep, AOp.map, Opd.ev, tget, argTm, evs, AV.cells, St.eff, St.put, applyWr, mset, terase, pureE, unAV, intOp, binAV, fill, mget, AH.rowAt, AH.part, retQ, rvs, retV, AH.splice, AH.sliceElems, AH.bytesOf, AH.strOp, AH.bound, AH.addLog, AH.missQ, AH.minmaxAV, AH.wpOpD, AH.readOf, AH.effOf, AH.mapAt, AH.iterAt, Nat.reduceBEq, Nat.reduceAdd, Nat.reduceLT, ↓reduceIte, Nat.reduceEqDiff, Nat.reduceLeDiff, Nat.reduceSub, Nat.reduceMul, Int.reduceSub, Int.reduceToNat, Int.reduceBEq, Int.reduceBNe, Int.reduceLT, Int.reduceGT, Int.reduceLE, Int.reduceGE, Int.reduceNeg, Int.reduceAdd, AH.PD, heads, distN, AH.inN, posN, packM, packB, packTm, liveB, AV.inB, AV.insB, AV.ren, AV.rens, Blk.ren, Blk.inB, vstep, tput, List.map_replicate, List.all_replicate]
    simp only [fillSt, List.replicate_succ, List.cons_append] at done ⊢
    exact ⟨by simp only [ite_self, Bool.and_self], done⟩
  · have : i = 64 := by simp only [decide_eq_false_iff_not] at hlt; omega
    subst this
    have e : (List.replicate 64 [AV.int .u8 b] ++ List.replicate (64 - 64) [AV.int .u8 0]).take 64 = List.replicate 64 [AV.int .u8 b] := by
      rw [Nat.sub_self, List.replicate_zero, List.append_nil, List.take_replicate, Nat.min_self]
    simp only [AH.SD, AH.wpOp, AOp.call?, AOp.next?, bstep, AOp.map, Opd.ev, tget, argTm, evs, AV.cells, St.eff, St.put, applyWr, mset, terase, pureE, unAV, intOp, binAV, fill, mget, AH.rowAt, AH.part, retQ, rvs, retV, AH.splice, AH.sliceElems, AH.bytesOf, AH.strOp, AH.bound, AH.addLog, AH.missQ, AH.minmaxAV, AH.wpOpD, AH.readOf, AH.effOf, AH.mapAt, AH.iterAt, Nat.reduceBEq, Nat.reduceAdd, Nat.reduceLT, ↓reduceIte, Nat.reduceEqDiff, Nat.reduceLeDiff, Nat.reduceSub, Nat.reduceMul, Int.reduceSub, Int.reduceToNat, Int.reduceBEq, Int.reduceBNe, Int.reduceLT, Int.reduceGT, Int.reduceLE, Int.reduceGE, Int.reduceNeg, Int.reduceAdd, e, bytesOf_rep, List.replicate_zero, List.take_replicate, List.length_replicate, Nat.min_self]
    try trivial
def fillT : RT := rtP (cC (aI .u8) c0) fun x => .str (fillS x.1)
theorem fillT_ok : ReadF S0 21 fillT := rtP_ok (fun x => fill_ok x.1) fun _ => rfl
theorem fillT_eq {b : Int} {M : Nat → Option Blk} : fillT [.int .u8 b] M = some (.str (fillS b), []) := by
  simp only [fillT, rtP, cC_dec, aI_dec, c0_dec, pairO_some, Option.map_some]
end Go.Proofs.YtcmnchmkoghfdaaDoor.C04
