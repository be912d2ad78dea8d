import Derived.Test.YtcmnchmkoghfdaaDoorAsTC05h
import Derived.Test.YtcmnchmkoghfdaaDoorFFrmHC05h
import Derived.Test.YtcmnchmkoghfdaaDoorFrmFC05h
open Go AH
set_option linter.unusedSimpArgs false
set_option maxRecDepth 100000
namespace Go.Proofs.YtcmnchmkoghfdaaDoor.C05h
/- At which block an error tells. -/
theorem okAt : CtxOK S0 (ctxU S0 [(33, isT)] [(53, asU)]) := ctxU_ok ⟨isT_ok, trivial⟩ ⟨asU_ok, trivial⟩ mixed
theorem at_nil : Pure S0 37 [.nili] (.int .i64 (-1)) := by
  refine fun_sound okAt Tryd.func37 c37 ?_
  unfold wpF F37
  simp only [AH.SD, AH.wpOp, AOp.call?, AOp.next?, bstep, AOp.map, Opd.ev, tget, argTm, evs, AV.cells, St.eff, St.put, applyWr, mset, terase, pureE, unAV, intOp, binAV, fill, mget, AH.rowAt, AH.part, retQ, rvs, retV, AH.splice, AH.sliceElems, AH.bytesOf, AH.strOp, AH.bound, AH.addLog, AH.missQ, AH.minmaxAV, AH.wpOpD, AH.readOf, AH.effOf, AH.mapAt, AH.iterAt, Nat.reduceBEq, Nat.reduceAdd, Nat.reduceLT, ↓reduceIte, Nat.reduceEqDiff, Nat.reduceLeDiff, Nat.reduceSub, Nat.reduceMul, Int.reduceSub, Int.reduceToNat, Int.reduceBEq, Int.reduceBNe, Int.reduceLT, Int.reduceGT, Int.reduceLE, Int.reduceGE, Int.reduceNeg, Int.reduceAdd]
  done
theorem isF {ro : Bool} {a b : AV} {r : Mem} : isT [.ifc 88 (.ptr 0 0 0), .err 2] (mget (some (.row ro 3 [[a, b, .err 2]]) :: r)) = some (.bool true, [0]) := rfl
theorem frm_eq : (⟨#[102, 114, 97, 109, 101]⟩ : ByteArray) = frmS := rfl
theorem tl_frm : (frmS.toList == frmS.toList) = true := beq_self_eq_true _
theorem at_f (n : Int) (h : 0 ≤ n) : CallA1 S0 37 [.ifc 88 (.ptr 0 0 0)] [some (.row true 3 [[.str frmS, .int .i64 n, .err 2]])] fun r _ => r = .int .i64 n := by
  refine fun_sound okAt Tryd.func37 c37 ?_
  unfold wpF F37
  have hn : decide (n < 0) = false := decide_eq_false (by omega)
  simp only [AH.SD, AH.wpOp, AOp.call?, AOp.next?, bstep, AOp.map, Opd.ev, tget, argTm, evs, AV.cells, St.eff, St.put, applyWr, mset, terase, pureE, unAV, intOp, binAV, fill, mget, AH.rowAt, AH.part, retQ, rvs, retV, AH.splice, AH.sliceElems, AH.bytesOf, AH.strOp, AH.bound, AH.addLog, AH.missQ, AH.minmaxAV, AH.wpOpD, AH.readOf, AH.effOf, AH.mapAt, AH.iterAt, Nat.reduceBEq, Nat.reduceAdd, Nat.reduceLT, ↓reduceIte, Nat.reduceEqDiff, Nat.reduceLeDiff, Nat.reduceSub, Nat.reduceMul, Int.reduceSub, Int.reduceToNat, Int.reduceBEq, Int.reduceBNe, Int.reduceLT, Int.reduceGT, Int.reduceLE, Int.reduceGE, Int.reduceNeg, Int.reduceAdd, asU_of, asQ_some, isF, hn, frm_eq, tl_frm]
  done
def atQ (id : Nat) : Option (Nat × List (List AV)) → Option (AV × List Nat)
  | some (3, [[.str s, .int .i64 n, .err g]]) => bif s.toList == frmS.toList && (decide (0 ≤ n) && g == 2) then some (.int .i64 n, [id]) else none
  | _ => none
def atT : RT := fun args M => match args with
  | [.nili] => some (.int .i64 (-1), [])
  | [.ifc t (.ptr id 0 0)] => bif t == 88 then atQ id (rowE M id) else none
  | _ => none
theorem atT_nil {M : Nat → Option Blk} : atT [.nili] M = some (.int .i64 (-1), []) := rfl
theorem atT_f {id : Nat} {M : Nat → Option Blk} : atT [.ifc 88 (.ptr id 0 0)] M = atQ id (rowE M id) := by
  simp only [atT, beq_self_eq_true, cond_true]
theorem atQ_f {id : Nat} {n : Int} (h : 0 ≤ n) : atQ id (some (3, [[.str frmS, .int .i64 n, .err 2]])) = some (.int .i64 n, [id]) := by
  simp only [atQ, tl_frm, decide_eq_true h, beq_self_eq_true, Bool.and_self, cond_true]
set_option maxRecDepth 100000 in
theorem atT_ok : ReadF S0 37 atT := by
  intro args M v foot h
  unfold atT at h
  split at h
  · simp only [Option.some.injEq, Prod.mk.injEq] at h
    obtain ⟨rfl, rfl⟩ := h
    exact ⟨fun M' _ => rfl, fun eb φ own w0 w us hA hus hM hk => at_nil.run rfl rfl hA hus hM hk⟩
  · rename_i t id
    cases ht : (t == 88) with
    | false => rw [ht] at h; cases h
    | true =>
      rw [ht] at h
      simp only [cond_true] at h
      have : t = 88 := by simpa using ht
      subst this
      unfold atQ at h
      split at h
      · rename_i s n g hid
        cases hc : s.toList == frmS.toList && (decide (0 ≤ n) && g == 2) with
        | false => rw [hc] at h; cases h
        | true =>
          rw [hc] at h
          simp only [cond_true, Option.some.injEq, Prod.mk.injEq] at h
          obtain ⟨rfl, rfl⟩ := h
          obtain ⟨ro, hid'⟩ := rowE_some hid
          have hc' := hc
          simp only [Bool.and_eq_true, decide_eq_true_eq] at hc'
          obtain ⟨c1, c2, c3⟩ := hc'
          have c4 : g = 2 := by simpa using c3
          have c5 : s = frmS := by
            have h1 := eq_of_beq c1
            rw [ByteArray.toList_eq, ByteArray.toList_eq] at h1
            exact ByteArray.ext (Array.ext' h1)
          refine ⟨fun M' hM' => ?_, fun eb φ own w0 w us hA hus hM hk => ?_⟩
          · have e1 : rowE M' id = some (3, [[.str s, .int .i64 n, .err g]]) := by rw [rowE, hM' id (by simp), hid']
            simp only [atT, e1, atQ, hc, beq_self_eq_true, cond_true]
          · refine reads_run (sel := [(id, true)]) ?_ rfl ?_ rfl ?_ hA hus hM hk
            · simp only [roOK, hid']; rfl
            · simp [AV.insB, AV.inB, AH.isIn]
            · have p0 : posOf [(id, true)] id = 0 := by simp [posOf]
              simp only [AV.rens, AV.ren, p0, roMem, hid', Option.map_some, Blk.ren, Blk.asRo, List.map_cons, List.map_nil]
              rw [c4, c5]
              exact at_f n c2
      · cases h
  · cases h
end Go.Proofs.YtcmnchmkoghfdaaDoor.C05h
