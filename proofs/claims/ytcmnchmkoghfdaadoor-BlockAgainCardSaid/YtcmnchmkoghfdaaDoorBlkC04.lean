import Derived.Test.YtcmnchmkoghfdaaDoorFBlkC04
import Derived.Test.YtcmnchmkoghfdaaDoorStrC04
import Derived.Test.YtcmnchmkoghfdaaDoorKindC04
open Go AH
set_option linter.unusedSimpArgs false
set_option maxRecDepth 100000
namespace Go.Proofs.YtcmnchmkoghfdaaDoor.C04

/-- A disk: its blocks, whether the power is away, the fuse, how many bytes a torn one gets, the writes. -/
structure Dk where
  L : List ByteArray
  away : Bool
  fuse : Int
  torn : Int
  writes : Int

def dkM (d : Dk) : Mem := [some (.row false 5 [[.slc 1 0 d.L.length none, .bool d.away, .int .i64 d.fuse, .int .i64 d.torn, .int .i64 d.writes]]), some (.row false 1 (d.L.map strC))]

def dkL (p b n : Nat) (away : Bool) (fuse torn writes : Int) : Option (List ByteArray) → Option (Dk × List (Nat × Bool))
  | some L => if L.length = n ∧ p ≠ b then some (⟨L, away, fuse, torn, writes⟩, [(p, false), (b, false)]) else none
  | none => none
def dkB (p b n : Nat) (away : Bool) (fuse torn writes : Int) : Option Blk → Option (Dk × List (Nat × Bool))
  | some (.row false 1 es) => dkL p b n away fuse torn writes (cStr.decL es)
  | _ => none
def dkR (M : Nat → Option Blk) (p : Nat) : Option Blk → Option (Dk × List (Nat × Bool))
  | some (.row false 5 [[.slc b 0 n none, .bool away, .int .i64 fuse, .int .i64 torn, .int .i64 writes]]) => dkB p b n away fuse torn writes (M b)
  | _ => none
def dkD (M : Nat → Option Blk) : AV → Option (Dk × List (Nat × Bool))
  | .ptr p 0 0 => dkR M p (M p)
  | _ => none
theorem decStr_map (L : List ByteArray) : cStr.decL (L.map strC) = some L := cStr.decL_map L
theorem dkD_inv {M : Nat → Option Blk} {v : AV} {d : Dk} {sel : List (Nat × Bool)} (h : dkD M v = some (d, sel)) :
    ∃ p b, v = .ptr p 0 0 ∧ sel = [(p, false), (b, false)] ∧ p ≠ b ∧ M p = some (.row false 5 [[.slc b 0 d.L.length none, .bool d.away, .int .i64 d.fuse, .int .i64 d.torn, .int .i64 d.writes]]) ∧ M b = some (.row false 1 (d.L.map strC)) := by
  unfold dkD at h
  split at h
  · rename_i p
    unfold dkR at h
    split at h
    · rename_i b n away fuse torn writes hp
      unfold dkB at h
      split at h
      · rename_i es hb
        unfold dkL at h
        split at h
        · rename_i L hL
          split at h
          · rename_i hc
            simp only [Option.some.injEq, Prod.mk.injEq] at h
            obtain ⟨rfl, rfl⟩ := h
            obtain ⟨rfl, hne⟩ := hc
            have := cStr.decL_ok hL
            subst this
            exact ⟨p, b, rfl, rfl, hne, hp, hb⟩
          · cases h
        · cases h
      · cases h
    · cases h
  · cases h
theorem dkD_of {M : Nat → Option Blk} {p b : Nat} (d : Dk) (hne : p ≠ b) (hp : M p = some (.row false 5 [[.slc b 0 d.L.length none, .bool d.away, .int .i64 d.fuse, .int .i64 d.torn, .int .i64 d.writes]])) (hb : M b = some (.row false 1 (d.L.map strC))) :
    dkD M (.ptr p 0 0) = some (d, [(p, false), (b, false)]) := by
  simp only [dkD, hp, dkR, hb, dkB, decStr_map, dkL, hne, ne_eq, not_false_eq_true, and_self, if_true]
def dkO : AH.Obj Dk where
  dec := dkD
  mem := dkM
  self := .ptr 0 0 0
  ok := by
    intro M v d sel h
    obtain ⟨p, b, rfl, rfl, hne, hp, hb⟩ := dkD_inv h
    have h1 : (p == b) = false := by simpa using hne
    have h2 : (b == p) = false := by simpa using Ne.symm hne
    refine ⟨⟨?_, ?_⟩, ?_, ?_, ?_⟩
    · simp [selF, hp, hb, AV.insB, AV.inB, AH.isIn]
      exact fun x _ => flatE_in _ x
    · simp [AH.distinct, AH.isIn, h2]
    · simp only [subF, hp, hb, Option.map_some, Blk.ren, Blk.asRo, List.map_cons, List.map_nil, AV.rens, AV.ren, AH.posOf, beq_self_eq_true, h1, cond_true, cond_false, flat_rens, dkM, Nat.zero_add]
    · simp [AV.inB, AH.isIn]
    · simp [AV.ren, AH.posOf]
  loc := by
    intro M v d sel h M' hM'
    obtain ⟨p, b, rfl, rfl, hne, hp, hb⟩ := dkD_inv h
    exact dkD_of d hne ((hM' p (by simp)).trans hp) ((hM' b (by simp)).trans hb)
theorem dkO_dec {M : Nat → Option Blk} {p : Nat} : dkO.dec M (.ptr p 0 0) = dkR M p (M p) := rfl
theorem dkR_eq {M : Nat → Option Blk} {p b n : Nat} {away : Bool} {fuse torn writes : Int} : dkR M p (some (.row false 5 [[.slc b 0 n none, .bool away, .int .i64 fuse, .int .i64 torn, .int .i64 writes]])) = dkB p b n away fuse torn writes (M b) := rfl
theorem dkB_eq {p b : Nat} {away : Bool} {fuse torn writes : Int} {L : List ByteArray} (hne : p ≠ b) : dkB p b L.length away fuse torn writes (some (.row false 1 (L.map strC))) = some (⟨L, away, fuse, torn, writes⟩, [(p, false), (b, false)]) := by
  simp only [dkB, decStr_map, dkL, hne, ne_eq, not_false_eq_true, and_self, if_true]
theorem Dk.eta (d : Dk) : (⟨d.L, d.away, d.fuse, d.torn, d.writes⟩ : Dk) = d := rfl

def chk (d : Dk) (at_ : Int) : Nat := bif decide (at_ < 0) || decide (at_ ≥ (d.L.length : Int)) then 1 else bif d.away then 14 else 0
theorem errA1 : errA 1 = .err 0 := rfl
theorem errA2 : errA 2 = .err 1 := rfl
theorem errA14 : errA 14 = .err 13 := rfl
theorem errA0 : errA 0 = .nili := rfl

theorem okZ0 : CtxOK S0 (ctxU S0 [] []) := ctxU_ok trivial trivial mixed
set_option maxRecDepth 100000 in
theorem check_ok (d : Dk) (at_ : Int) : CallA1 S0 38 [.ptr 0 0 0, .int .i64 at_] (dkM d) fun r m => r = errA (chk d at_) ∧ m = dkM d := by
  refine fun_sound okZ0 Tryd.func38 c38 ?_
  unfold wpF F38
  cases h1 : decide (at_ < 0)
  · cases h2 : decide (at_ ≥ (d.L.length : Int))
    · cases h3 : d.away
      all_goals
        simp only [AH.SD, AH.wpOp, AOp.call?, AOp.next?, bstep, AOp.map, Opd.ev, tget, argTm, evs, AV.cells, St.eff, St.put, applyWr, mset, terase, pureE, unAV, intOp, binAV, fill, mget, AH.rowAt, AH.part, retQ, rvs, retV, AH.splice, AH.sliceElems, AH.bytesOf, AH.strOp, AH.bound, AH.addLog, AH.missQ, AH.minmaxAV, AH.wpOpD, AH.readOf, AH.effOf, AH.mapAt, AH.iterAt, Nat.reduceBEq, Nat.reduceAdd, Nat.reduceLT, ↓reduceIte, Nat.reduceEqDiff, Nat.reduceLeDiff, Nat.reduceSub, Nat.reduceMul, Int.reduceSub, Int.reduceToNat, Int.reduceBEq, Int.reduceBNe, Int.reduceLT, Int.reduceGT, Int.reduceLE, Int.reduceGE, Int.reduceNeg, Int.reduceAdd, dkM, h1, h2, h3, chk, Bool.or_self, errA0, errA14]
    · simp only [AH.SD, AH.wpOp, AOp.call?, AOp.next?, bstep, AOp.map, Opd.ev, tget, argTm, evs, AV.cells, St.eff, St.put, applyWr, mset, terase, pureE, unAV, intOp, binAV, fill, mget, AH.rowAt, AH.part, retQ, rvs, retV, AH.splice, AH.sliceElems, AH.bytesOf, AH.strOp, AH.bound, AH.addLog, AH.missQ, AH.minmaxAV, AH.wpOpD, AH.readOf, AH.effOf, AH.mapAt, AH.iterAt, Nat.reduceBEq, Nat.reduceAdd, Nat.reduceLT, ↓reduceIte, Nat.reduceEqDiff, Nat.reduceLeDiff, Nat.reduceSub, Nat.reduceMul, Int.reduceSub, Int.reduceToNat, Int.reduceBEq, Int.reduceBNe, Int.reduceLT, Int.reduceGT, Int.reduceLE, Int.reduceGE, Int.reduceNeg, Int.reduceAdd, dkM, h1, h2, chk, Bool.or_true, errA1]
  · simp only [AH.SD, AH.wpOp, AOp.call?, AOp.next?, bstep, AOp.map, Opd.ev, tget, argTm, evs, AV.cells, St.eff, St.put, applyWr, mset, terase, pureE, unAV, intOp, binAV, fill, mget, AH.rowAt, AH.part, retQ, rvs, retV, AH.splice, AH.sliceElems, AH.bytesOf, AH.strOp, AH.bound, AH.addLog, AH.missQ, AH.minmaxAV, AH.wpOpD, AH.readOf, AH.effOf, AH.mapAt, AH.iterAt, Nat.reduceBEq, Nat.reduceAdd, Nat.reduceLT, ↓reduceIte, Nat.reduceEqDiff, Nat.reduceLeDiff, Nat.reduceSub, Nat.reduceMul, Int.reduceSub, Int.reduceToNat, Int.reduceBEq, Int.reduceBNe, Int.reduceLT, Int.reduceGT, Int.reduceLE, Int.reduceGE, Int.reduceNeg, Int.reduceAdd, dkM, h1, chk, Bool.true_or, errA1]
set_option maxRecDepth 100000 in
theorem check_nil (at_ : Int) : Pure S0 38 [.nilp, .int .i64 at_] (errA 2) := by
  refine fun_sound okZ0 Tryd.func38 c38 ?_
  unfold wpF F38
  simp only [AH.SD, AH.wpOp, AOp.call?, AOp.next?, bstep, AOp.map, Opd.ev, tget, argTm, evs, AV.cells, St.eff, St.put, applyWr, mset, terase, pureE, unAV, intOp, binAV, fill, mget, AH.rowAt, AH.part, retQ, rvs, retV, AH.splice, AH.sliceElems, AH.bytesOf, AH.strOp, AH.bound, AH.addLog, AH.missQ, AH.minmaxAV, AH.wpOpD, AH.readOf, AH.effOf, AH.mapAt, AH.iterAt, Nat.reduceBEq, Nat.reduceAdd, Nat.reduceLT, ↓reduceIte, Nat.reduceEqDiff, Nat.reduceLeDiff, Nat.reduceSub, Nat.reduceMul, Int.reduceSub, Int.reduceToNat, Int.reduceBEq, Int.reduceBNe, Int.reduceLT, Int.reduceGT, Int.reduceLE, Int.reduceGE, Int.reduceNeg, Int.reduceAdd, errA2]
def checkT : RT := rtElse (cC aNil (cC (aI .i64) c0)) (fun _ => errA 2) (rtO dkO (cC (aI .i64) c0) fun d x => some (errA (chk d x.1)))
theorem checkT_ok : ReadF S0 38 checkT := rtElse_ok (fun x => check_nil x.2.1) (fun _ => rfl) (rtO_ok fun d x v h => by
  simp only [Option.some.injEq] at h; subst h
  exact ⟨errA_flat _, check_ok d x.1⟩)
theorem checkT_p {p : Nat} {at_ : Int} {M : Nat → Option Blk} : checkT [.ptr p 0 0, .int .i64 at_] M = rtO2 (fun d (x : Int × Unit) => some (errA (chk d x.1))) (dkR M p (M p)) (some (at_, ())) := by
  simp only [checkT, rtElse_eq, rtO_eq, cC_dec, aNil_ptr, aI_dec, c0_dec, pairO_none, pairO_some, Option.map_none, elseO_none, dkO_dec]
theorem checkT_n {at_ : Int} {M : Nat → Option Blk} : checkT [.nilp, .int .i64 at_] M = some (errA 2, []) := by
  simp only [checkT, rtElse_eq, cC_dec, aNil_dec, aI_dec, c0_dec, pairO_some, Option.map_some, elseO_some]

set_option maxRecDepth 100000 in
theorem len_ok (d : Dk) : CallA1 S0 27 [.ptr 0 0 0] (dkM d) fun r m => r = .int .i64 d.L.length ∧ m = dkM d := by
  refine fun_sound okZ0 Tryd.func27 c27 ?_
  unfold wpF F27
  simp only [AH.SD, AH.wpOp, AOp.call?, AOp.next?, bstep, AOp.map, Opd.ev, tget, argTm, evs, AV.cells, St.eff, St.put, applyWr, mset, terase, pureE, unAV, intOp, binAV, fill, mget, AH.rowAt, AH.part, retQ, rvs, retV, AH.splice, AH.sliceElems, AH.bytesOf, AH.strOp, AH.bound, AH.addLog, AH.missQ, AH.minmaxAV, AH.wpOpD, AH.readOf, AH.effOf, AH.mapAt, AH.iterAt, Nat.reduceBEq, Nat.reduceAdd, Nat.reduceLT, ↓reduceIte, Nat.reduceEqDiff, Nat.reduceLeDiff, Nat.reduceSub, Nat.reduceMul, Int.reduceSub, Int.reduceToNat, Int.reduceBEq, Int.reduceBNe, Int.reduceLT, Int.reduceGT, Int.reduceLE, Int.reduceGE, Int.reduceNeg, Int.reduceAdd, dkM]
set_option maxRecDepth 100000 in
theorem len_nil : Pure S0 27 [.nilp] (.int .i64 0) := by
  refine fun_sound okZ0 Tryd.func27 c27 ?_
  unfold wpF F27
  simp only [AH.SD, AH.wpOp, AOp.call?, AOp.next?, bstep, AOp.map, Opd.ev, tget, argTm, evs, AV.cells, St.eff, St.put, applyWr, mset, terase, pureE, unAV, intOp, binAV, fill, mget, AH.rowAt, AH.part, retQ, rvs, retV, AH.splice, AH.sliceElems, AH.bytesOf, AH.strOp, AH.bound, AH.addLog, AH.missQ, AH.minmaxAV, AH.wpOpD, AH.readOf, AH.effOf, AH.mapAt, AH.iterAt, Nat.reduceBEq, Nat.reduceAdd, Nat.reduceLT, ↓reduceIte, Nat.reduceEqDiff, Nat.reduceLeDiff, Nat.reduceSub, Nat.reduceMul, Int.reduceSub, Int.reduceToNat, Int.reduceBEq, Int.reduceBNe, Int.reduceLT, Int.reduceGT, Int.reduceLE, Int.reduceGE, Int.reduceNeg, Int.reduceAdd]
def lenT : RT := rtElse (cC aNil c0) (fun _ => .int .i64 0) (rtO dkO c0 fun d _ => some (.int .i64 d.L.length))
theorem lenT_ok : ReadF S0 27 lenT := rtElse_ok (fun _ => len_nil) (fun _ => rfl) (rtO_ok fun d x v h => by
  simp only [Option.some.injEq] at h; subst h
  exact ⟨rfl, len_ok d⟩)
theorem lenT_p {p : Nat} {M : Nat → Option Blk} : lenT [.ptr p 0 0] M = rtO2 (fun (d : Dk) (_ : Unit) => some (.int .i64 d.L.length)) (dkR M p (M p)) (some ()) := by
  simp only [lenT, rtElse_eq, rtO_eq, cC_dec, aNil_ptr, c0_dec, pairO_none, Option.map_none, elseO_none, dkO_dec]
theorem lenT_n {M : Nat → Option Blk} : lenT [.nilp] M = some (.int .i64 0, []) := by
  simp only [lenT, rtElse_eq, cC_dec, aNil_dec, c0_dec, pairO_some, Option.map_some, elseO_some]
set_option maxRecDepth 100000 in
theorem isOn_ok (d : Dk) : CallA1 S0 23 [.ptr 0 0 0] (dkM d) fun r m => r = .bool !d.away ∧ m = dkM d := by
  refine fun_sound okZ0 Tryd.func23 c23 ?_
  unfold wpF F23
  simp only [AH.SD, AH.wpOp, AOp.call?, AOp.next?, bstep, AOp.map, Opd.ev, tget, argTm, evs, AV.cells, St.eff, St.put, applyWr, mset, terase, pureE, unAV, intOp, binAV, fill, mget, AH.rowAt, AH.part, retQ, rvs, retV, AH.splice, AH.sliceElems, AH.bytesOf, AH.strOp, AH.bound, AH.addLog, AH.missQ, AH.minmaxAV, AH.wpOpD, AH.readOf, AH.effOf, AH.mapAt, AH.iterAt, Nat.reduceBEq, Nat.reduceAdd, Nat.reduceLT, ↓reduceIte, Nat.reduceEqDiff, Nat.reduceLeDiff, Nat.reduceSub, Nat.reduceMul, Int.reduceSub, Int.reduceToNat, Int.reduceBEq, Int.reduceBNe, Int.reduceLT, Int.reduceGT, Int.reduceLE, Int.reduceGE, Int.reduceNeg, Int.reduceAdd, dkM]
set_option maxRecDepth 100000 in
theorem isOn_nil : Pure S0 23 [.nilp] (.bool false) := by
  refine fun_sound okZ0 Tryd.func23 c23 ?_
  unfold wpF F23
  simp only [AH.SD, AH.wpOp, AOp.call?, AOp.next?, bstep, AOp.map, Opd.ev, tget, argTm, evs, AV.cells, St.eff, St.put, applyWr, mset, terase, pureE, unAV, intOp, binAV, fill, mget, AH.rowAt, AH.part, retQ, rvs, retV, AH.splice, AH.sliceElems, AH.bytesOf, AH.strOp, AH.bound, AH.addLog, AH.missQ, AH.minmaxAV, AH.wpOpD, AH.readOf, AH.effOf, AH.mapAt, AH.iterAt, Nat.reduceBEq, Nat.reduceAdd, Nat.reduceLT, ↓reduceIte, Nat.reduceEqDiff, Nat.reduceLeDiff, Nat.reduceSub, Nat.reduceMul, Int.reduceSub, Int.reduceToNat, Int.reduceBEq, Int.reduceBNe, Int.reduceLT, Int.reduceGT, Int.reduceLE, Int.reduceGE, Int.reduceNeg, Int.reduceAdd]
def isOnT : RT := rtElse (cC aNil c0) (fun _ => .bool false) (rtO dkO c0 fun d _ => some (.bool !d.away))
theorem isOnT_ok : ReadF S0 23 isOnT := rtElse_ok (fun _ => isOn_nil) (fun _ => rfl) (rtO_ok fun d x v h => by
  simp only [Option.some.injEq] at h; subst h
  exact ⟨rfl, isOn_ok d⟩)
theorem isOnT_p {p : Nat} {M : Nat → Option Blk} : isOnT [.ptr p 0 0] M = rtO2 (fun (d : Dk) (_ : Unit) => some (.bool !d.away)) (dkR M p (M p)) (some ()) := by
  simp only [isOnT, rtElse_eq, rtO_eq, cC_dec, aNil_ptr, c0_dec, pairO_none, Option.map_none, elseO_none, dkO_dec]
theorem isOnT_n {M : Nat → Option Blk} : isOnT [.nilp] M = some (.bool false, []) := by
  simp only [isOnT, rtElse_eq, cC_dec, aNil_dec, c0_dec, pairO_some, Option.map_some, elseO_some]
set_option maxRecDepth 100000 in
theorem writes_ok (d : Dk) : CallA1 S0 24 [.ptr 0 0 0] (dkM d) fun r m => r = .int .i64 d.writes ∧ m = dkM d := by
  refine fun_sound okZ0 Tryd.func24 c24 ?_
  unfold wpF F24
  simp only [AH.SD, AH.wpOp, AOp.call?, AOp.next?, bstep, AOp.map, Opd.ev, tget, argTm, evs, AV.cells, St.eff, St.put, applyWr, mset, terase, pureE, unAV, intOp, binAV, fill, mget, AH.rowAt, AH.part, retQ, rvs, retV, AH.splice, AH.sliceElems, AH.bytesOf, AH.strOp, AH.bound, AH.addLog, AH.missQ, AH.minmaxAV, AH.wpOpD, AH.readOf, AH.effOf, AH.mapAt, AH.iterAt, Nat.reduceBEq, Nat.reduceAdd, Nat.reduceLT, ↓reduceIte, Nat.reduceEqDiff, Nat.reduceLeDiff, Nat.reduceSub, Nat.reduceMul, Int.reduceSub, Int.reduceToNat, Int.reduceBEq, Int.reduceBNe, Int.reduceLT, Int.reduceGT, Int.reduceLE, Int.reduceGE, Int.reduceNeg, Int.reduceAdd, dkM]
set_option maxRecDepth 100000 in
theorem writes_nil : Pure S0 24 [.nilp] (.int .i64 0) := by
  refine fun_sound okZ0 Tryd.func24 c24 ?_
  unfold wpF F24
  simp only [AH.SD, AH.wpOp, AOp.call?, AOp.next?, bstep, AOp.map, Opd.ev, tget, argTm, evs, AV.cells, St.eff, St.put, applyWr, mset, terase, pureE, unAV, intOp, binAV, fill, mget, AH.rowAt, AH.part, retQ, rvs, retV, AH.splice, AH.sliceElems, AH.bytesOf, AH.strOp, AH.bound, AH.addLog, AH.missQ, AH.minmaxAV, AH.wpOpD, AH.readOf, AH.effOf, AH.mapAt, AH.iterAt, Nat.reduceBEq, Nat.reduceAdd, Nat.reduceLT, ↓reduceIte, Nat.reduceEqDiff, Nat.reduceLeDiff, Nat.reduceSub, Nat.reduceMul, Int.reduceSub, Int.reduceToNat, Int.reduceBEq, Int.reduceBNe, Int.reduceLT, Int.reduceGT, Int.reduceLE, Int.reduceGE, Int.reduceNeg, Int.reduceAdd]
def writesT : RT := rtElse (cC aNil c0) (fun _ => .int .i64 0) (rtO dkO c0 fun d _ => some (.int .i64 d.writes))
theorem writesT_ok : ReadF S0 24 writesT := rtElse_ok (fun _ => writes_nil) (fun _ => rfl) (rtO_ok fun d x v h => by
  simp only [Option.some.injEq] at h; subst h
  exact ⟨rfl, writes_ok d⟩)
theorem writesT_p {p : Nat} {M : Nat → Option Blk} : writesT [.ptr p 0 0] M = rtO2 (fun (d : Dk) (_ : Unit) => some (.int .i64 d.writes)) (dkR M p (M p)) (some ()) := by
  simp only [writesT, rtElse_eq, rtO_eq, cC_dec, aNil_ptr, c0_dec, pairO_none, Option.map_none, elseO_none, dkO_dec]
theorem writesT_n {M : Nat → Option Blk} : writesT [.nilp] M = some (.int .i64 0, []) := by
  simp only [writesT, rtElse_eq, cC_dec, aNil_dec, c0_dec, pairO_some, Option.map_some, elseO_some]

def rdS (d : Dk) (at_ : Int) : ByteArray := bif chk d at_ == 0 then d.L.getD at_.toNat ⟨#[]⟩ else ⟨#[]⟩
def rdA (d : Dk) (at_ : Int) : AV := .tup [.str (rdS d at_), errA (chk d at_)]
theorem okChk : CtxOK S0 (ctxU S0 [(38, checkT)] []) := ctxU_ok ⟨checkT_ok, trivial⟩ trivial mixed
theorem chk_in {d : Dk} {at_ : Int} (h : chk d at_ = 0) : ∃ i : Nat, at_ = i ∧ i < d.L.length ∧ d.away = false := by
  unfold chk at h
  cases h1 : decide (at_ < 0) || decide (at_ ≥ (d.L.length : Int)) with
  | true => rw [h1] at h; cases h
  | false =>
    rw [h1, cond_false] at h
    simp only [Bool.or_eq_false_iff, decide_eq_false_iff_not] at h1
    obtain ⟨i, rfl⟩ := Int.eq_ofNat_of_zero_le (by omega : 0 ≤ at_)
    refine ⟨i, rfl, by omega, ?_⟩
    cases ha : d.away with
    | true => rw [ha] at h; cases h
    | false => rfl
theorem chk_cases (d : Dk) (at_ : Int) : chk d at_ = 0 ∨ ∃ k, chk d at_ = k + 1 ∧ k + 1 ≤ 14 := by
  unfold chk
  cases decide (at_ < 0) || decide (at_ ≥ (d.L.length : Int))
  · cases d.away
    · exact .inl rfl
    · exact .inr ⟨13, rfl, by omega⟩
  · exact .inr ⟨0, rfl, by omega⟩
set_option maxRecDepth 100000 in
theorem read_ok (d : Dk) (at_ : Int) : CallA1 S0 14 [.ptr 0 0 0, .int .i64 at_] (dkM d) fun r m => r = rdA d at_ ∧ m = dkM d := by
  refine fun_sound okChk Tryd.func14 c14 ?_
  unfold wpF F14
  simp only [AH.SD, AH.wpOp, AOp.call?, AOp.next?, bstep, AOp.map, Opd.ev, tget, argTm, evs, AV.cells, St.eff, St.put, applyWr, mset, terase, pureE, unAV, intOp, binAV, fill, mget, AH.rowAt, AH.part, retQ, rvs, retV, AH.splice, AH.sliceElems, AH.bytesOf, AH.strOp, AH.bound, AH.addLog, AH.missQ, AH.minmaxAV, AH.wpOpD, AH.readOf, AH.effOf, AH.mapAt, AH.iterAt, Nat.reduceBEq, Nat.reduceAdd, Nat.reduceLT, ↓reduceIte, Nat.reduceEqDiff, Nat.reduceLeDiff, Nat.reduceSub, Nat.reduceMul, Int.reduceSub, Int.reduceToNat, Int.reduceBEq, Int.reduceBNe, Int.reduceLT, Int.reduceGT, Int.reduceLE, Int.reduceGE, Int.reduceNeg, Int.reduceAdd, AH.PD, heads, distN, AH.inN, posN, packM, packB, packTm, liveB, AV.inB, AV.insB, AV.ren, AV.rens, Blk.ren, Blk.inB, vstep, tput, vw, shift, newOnes, rowsM, blkIn, rwB, @flat_lts, AV.lt, AV.lts, Nat.sub_self, AH.rtO_eq, AH.rtO2_eq, AH.rtO2_none, AH.etO_eq, AH.etO2_eq, AH.etO2_none, AH.useO_some, AH.rtElse_eq, AH.elseO_some, AH.elseO_none, AH.etN_eq, Option.bind_some, Option.bind_none, AH.pairO_some, AH.pairO_none, AH.cC_dec, AH.cC_nil, AH.c0_dec, AH.c0_dec1, AH.aI_dec, AH.aS_dec, AH.aB_dec, AH.aNil_dec, AH.aNil_ptr, Option.map_none, effS, wrS, newS, backNo, AH.isIn, AH.posOf, AH.rwB, List.all_cons, List.all_nil, List.getElem?_cons_zero, List.getElem?_cons_succ, List.getElem?_nil, AH.appE_some, List.contains_cons, List.contains_nil, Nat.add_zero, dkM, checkT_p, dkR_eq, dkB_eq, Dk.eta, ne_eq, Nat.reduceEqDiff, Nat.zero_ne_one, not_false_eq_true]
  rcases chk_cases d at_ with h | ⟨k, h, _⟩
  · obtain ⟨i, rfl, hi, ha⟩ := chk_in h
    have hg : d.L.getD i ⟨#[]⟩ = d.L[i] := by rw [List.getD_eq_getElem?_getD, List.getElem?_eq_getElem hi]; rfl
    simp only [AH.SD, AH.wpOp, AOp.call?, AOp.next?, bstep, AOp.map, Opd.ev, tget, argTm, evs, AV.cells, St.eff, St.put, applyWr, mset, terase, pureE, unAV, intOp, binAV, fill, mget, AH.rowAt, AH.part, retQ, rvs, retV, AH.splice, AH.sliceElems, AH.bytesOf, AH.strOp, AH.bound, AH.addLog, AH.missQ, AH.minmaxAV, AH.wpOpD, AH.readOf, AH.effOf, AH.mapAt, AH.iterAt, Nat.reduceBEq, Nat.reduceAdd, Nat.reduceLT, ↓reduceIte, Nat.reduceEqDiff, Nat.reduceLeDiff, Nat.reduceSub, Nat.reduceMul, Int.reduceSub, Int.reduceToNat, Int.reduceBEq, Int.reduceBNe, Int.reduceLT, Int.reduceGT, Int.reduceLE, Int.reduceGE, Int.reduceNeg, Int.reduceAdd, h, errA_nil, getD_enc, hi, strC_eq, rdA, rdS, hg, errA0, Int.toNat_natCast]
    repeat (refine ⟨by first | rfl | decide | omega | (simp only [List.length_map, and_true]; omega) | (simp only [List.length_map, List.length_set, and_true]; omega), ?_⟩)
    trivial
  · simp only [AH.SD, AH.wpOp, AOp.call?, AOp.next?, bstep, AOp.map, Opd.ev, tget, argTm, evs, AV.cells, St.eff, St.put, applyWr, mset, terase, pureE, unAV, intOp, binAV, fill, mget, AH.rowAt, AH.part, retQ, rvs, retV, AH.splice, AH.sliceElems, AH.bytesOf, AH.strOp, AH.bound, AH.addLog, AH.missQ, AH.minmaxAV, AH.wpOpD, AH.readOf, AH.effOf, AH.mapAt, AH.iterAt, Nat.reduceBEq, Nat.reduceAdd, Nat.reduceLT, ↓reduceIte, Nat.reduceEqDiff, Nat.reduceLeDiff, Nat.reduceSub, Nat.reduceMul, Int.reduceSub, Int.reduceToNat, Int.reduceBEq, Int.reduceBNe, Int.reduceLT, Int.reduceGT, Int.reduceLE, Int.reduceGE, Int.reduceNeg, Int.reduceAdd, h, errA_nil, rdA, rdS, Nat.add_one_ne_zero]
end Go.Proofs.YtcmnchmkoghfdaaDoor.C04
