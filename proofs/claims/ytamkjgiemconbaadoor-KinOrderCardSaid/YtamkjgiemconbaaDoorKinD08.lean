import Derived.Test.YtamkjgiemconbaaDoorFKinD08
import Derived.Test.YtamkjgiemconbaaDoorMapKD08
import Derived.Test.YtamkjgiemconbaaDoorSlID08
import Derived.Test.YtamkjgiemconbaaDoorKindD08
open Go AH
set_option linter.unusedSimpArgs false
set_option maxRecDepth 100000
namespace Go.Proofs.YtamkjgiemconbaaDoor.D08

/-- A tree: of each its parent, with the map's stamps. -/
structure Kn where
  L : List (En Int)
  c : Nat
def knM (t : Kn) : Mem := [some (.row false 1 [[.map 1]]), some (.map (t.L.map (enA (AV.int .i64))) t.c)]
def knL (p b c : Nat) : Option (List (En Int)) → Option (Kn × List (Nat × Bool))
  | some L => if p ≠ b then some (⟨L, c⟩, [(p, false), (b, false)]) else none
  | none => none
def knB (p b : Nat) : Option Blk → Option (Kn × List (Nat × Bool))
  | some (.map es c) => knL p b c (decEn (aI .i64) es)
  | _ => none
def knR (M : Nat → Option Blk) (p : Nat) : Option Blk → Option (Kn × List (Nat × Bool))
  | some (.row false 1 [[.map b]]) => knB p b (M b)
  | _ => none
def knD (M : Nat → Option Blk) : AV → Option (Kn × List (Nat × Bool))
  | .ptr p 0 0 => knR M p (M p)
  | _ => none
theorem decEnI_map (L : List (En Int)) : decEn (aI .i64) (L.map (enA (AV.int .i64))) = some L := decEn_map (aI .i64) L
theorem enA_in (p : Nat → Bool) (L : List (En Int)) : ((L.map (enA (AV.int .i64))).all fun e => AV.inB p e.1 && AV.inB p e.2.1) = true := by
  simp only [List.all_map, List.all_eq_true]
  intro e _
  rfl
theorem enA_ren (ρ : Nat → Nat) (L : List (En Int)) : (L.map (enA (AV.int .i64))).map (fun e => (AV.ren ρ e.1, AV.ren ρ e.2.1, e.2.2)) = L.map (enA (AV.int .i64)) := by
  rw [List.map_map]
  rfl
theorem knD_inv {M : Nat → Option Blk} {v : AV} {t : Kn} {sel : List (Nat × Bool)} (h : knD M v = some (t, sel)) :
    ∃ p b, v = .ptr p 0 0 ∧ sel = [(p, false), (b, false)] ∧ p ≠ b ∧ M p = some (.row false 1 [[.map b]]) ∧ M b = some (.map (t.L.map (enA (AV.int .i64))) t.c) := by
  unfold knD at h
  split at h
  · rename_i p
    unfold knR at h
    split at h
    · rename_i b hp
      unfold knB at h
      split at h
      · rename_i es c hb
        unfold knL at h
        split at h
        · rename_i L hL
          split at h
          · rename_i hne
            simp only [Option.some.injEq, Prod.mk.injEq] at h
            obtain ⟨rfl, rfl⟩ := h
            exact ⟨p, b, rfl, rfl, hne, hp, by rw [hb, decEn_ok hL]; rfl⟩
          · cases h
        · cases h
      · cases h
    · cases h
  · cases h
theorem knD_of {M : Nat → Option Blk} {p b : Nat} (t : Kn) (hne : p ≠ b) (hp : M p = some (.row false 1 [[.map b]])) (hb : M b = some (.map (t.L.map (enA (AV.int .i64))) t.c)) :
    knD M (.ptr p 0 0) = some (t, [(p, false), (b, false)]) := by
  simp only [knD, hp, knR, hb, knB, decEnI_map, knL, hne, ne_eq, not_false_eq_true, if_true]
def knO : AH.Obj Kn where
  dec := knD
  mem := knM
  self := fun _ => .ptr 0 0 0
  ok := by
    intro M v t sel h
    obtain ⟨p, b, rfl, rfl, hne, hp, hb⟩ := knD_inv h
    have h1 : (p == b) = false := by simpa using hne
    have h2 : (b == p) = false := by simpa using Ne.symm hne
    refine ⟨⟨?_, ?_⟩, ?_, ?_, ?_⟩
    · simp only [selF, hp, hb, Blk.inB, enA_in, List.all_cons, List.all_nil, AV.insB, AV.inB, AH.isIn, beq_self_eq_true, h1, h2, Bool.true_or, Bool.or_true, Bool.and_true, Bool.and_self]
      rfl
    · simp [AH.distinct, AH.isIn, h2]
    · simp only [subF, hp, hb, Option.map_some, Blk.ren, enA_ren, Blk.asRo, List.map_cons, List.map_nil, AV.rens, AV.ren, AH.posOf, beq_self_eq_true, h1, cond_true, cond_false, knM, Nat.zero_add]
    · simp [AV.inB, AH.isIn]
    · simp [AV.ren, AH.posOf]
  loc := by
    intro M v t sel h M' hM'
    obtain ⟨p, b, rfl, rfl, hne, hp, hb⟩ := knD_inv h
    exact knD_of t hne ((hM' p (by simp)).trans hp) ((hM' b (by simp)).trans hb)
theorem knO_dec {M : Nat → Option Blk} {p : Nat} : knO.dec M (.ptr p 0 0) = knR M p (M p) := rfl
theorem knR_eq {M : Nat → Option Blk} {p b : Nat} : knR M p (some (.row false 1 [[.map b]])) = knB p b (M b) := rfl
theorem knB_eq {p b c : Nat} {L : List (En Int)} (hne : p ≠ b) : knB p b (some (.map (L.map (enA (AV.int .i64))) c)) = some (⟨L, c⟩, [(p, false), (b, false)]) := by
  simp only [knB, decEnI_map, knL, hne, ne_eq, not_false_eq_true, if_true]
theorem Kn.eta (t : Kn) : (⟨t.L, t.c⟩ : Kn) = t := rfl

def isK (t : Kn) (id : Int) : Bool := (enF id t.L 0).isSome
def paV : Option (Nat × En Int) → Int
  | some x => x.2.v
  | none => 0
def paK (t : Kn) (id : Int) : Int := paV (enF id t.L 0)
def keysK (t : Kn) : List Int := t.L.map (·.k)
/-- Each stands behind its parent; the root has none. -/
def Up (L : List (En Int)) : Prop := ∀ (i : Nat) e, L[i]? = some e → (e.k = 1 ∧ e.v = 0) ∨ (e.k ≠ 1 ∧ ∃ (j : Nat) (e' : En Int), j < i ∧ L[j]? = some e' ∧ e'.k = e.v)
structure Kn.ok (t : Kn) : Prop where
  keys : (keysK t).Nodup
  stamps : (t.L.map (·.s)).Nodup
  lt : ∀ e ∈ t.L, e.s < t.c
  len : t.L.length ≤ 16
  key : ∀ e ∈ t.L, 1 ≤ e.k ∧ e.k ≤ 999 ∧ 0 ≤ e.v ∧ e.v ≤ 999
  root : (1 : Int) ∈ keysK t
  up : Up t.L
noncomputable instance (t : Kn) : Decidable t.ok := Classical.propDecidable _
theorem Kn.ok.good {t : Kn} (h : t.ok) : mapG (t.L.map (enA (AV.int .i64))) t.c (keysK t) := by
  refine ⟨h.keys, by rw [List.map_map]; exact h.stamps, ?_, by rw [List.length_map]; have := h.len; omega, ?_⟩
  · intro e he
    obtain ⟨x, hx, rfl⟩ := List.mem_map.1 he
    exact h.lt x hx
  · intro k hk
    obtain ⟨x, hx, rfl⟩ := List.mem_map.1 hk
    have := h.key x hx
    omega

theorem okC0 : CtxOK S0 (ctxU S0 [] []) := ctxU_ok trivial trivial mixed
theorem knIs_ok (t : Kn) (id : Int) : CallA1 S0 37 [.ptr 0 0 0, .int .i64 id] (knM t) fun r m => r = .bool (isK t id) ∧ m = knM t := by
  refine fun_sound okC0 Tryd.func37 c37 ?_
  unfold wpF F37
  cases h : enF id t.L 0
  · simp only [AH.SD, AH.wpOp, AOp.call?, AOp.next?, bstep, AOp.map, Opd.ev, tget, argTm, evs, AV.cells, St.eff, St.put, applyWr, mset, terase, pureE, unAV, intOp, binAV, fill, mget, AH.rowAt, AH.part, retQ, rvs, retV, AH.splice, AH.sliceElems, AH.bytesOf, AH.strOp, AH.bound, AH.addLog, AH.missQ, AH.minmaxAV, AH.wpOpD, AH.readOf, AH.effOf, AH.mapAt, AH.iterAt, Nat.reduceBEq, Nat.reduceAdd, Nat.reduceLT, ↓reduceIte, Nat.reduceEqDiff, Nat.reduceLeDiff, Nat.reduceSub, Nat.reduceMul, Int.reduceSub, Int.reduceToNat, Int.reduceBEq, Int.reduceBNe, Int.reduceLT, Int.reduceGT, Int.reduceLE, Int.reduceGE, Int.reduceNeg, Int.reduceAdd, knM, findK_en, h, isK, Option.isSome_none, keyIs]
  · simp only [AH.SD, AH.wpOp, AOp.call?, AOp.next?, bstep, AOp.map, Opd.ev, tget, argTm, evs, AV.cells, St.eff, St.put, applyWr, mset, terase, pureE, unAV, intOp, binAV, fill, mget, AH.rowAt, AH.part, retQ, rvs, retV, AH.splice, AH.sliceElems, AH.bytesOf, AH.strOp, AH.bound, AH.addLog, AH.missQ, AH.minmaxAV, AH.wpOpD, AH.readOf, AH.effOf, AH.mapAt, AH.iterAt, Nat.reduceBEq, Nat.reduceAdd, Nat.reduceLT, ↓reduceIte, Nat.reduceEqDiff, Nat.reduceLeDiff, Nat.reduceSub, Nat.reduceMul, Int.reduceSub, Int.reduceToNat, Int.reduceBEq, Int.reduceBNe, Int.reduceLT, Int.reduceGT, Int.reduceLE, Int.reduceGE, Int.reduceNeg, Int.reduceAdd, knM, findK_en, h, isK, Option.isSome_some, enV, keyIs]
theorem knIs_nil (id : Int) : Pure S0 37 [.nilp, .int .i64 id] (.bool false) := by
  refine fun_sound okC0 Tryd.func37 c37 ?_
  unfold wpF F37
  simp only [AH.SD, AH.wpOp, AOp.call?, AOp.next?, bstep, AOp.map, Opd.ev, tget, argTm, evs, AV.cells, St.eff, St.put, applyWr, mset, terase, pureE, unAV, intOp, binAV, fill, mget, AH.rowAt, AH.part, retQ, rvs, retV, AH.splice, AH.sliceElems, AH.bytesOf, AH.strOp, AH.bound, AH.addLog, AH.missQ, AH.minmaxAV, AH.wpOpD, AH.readOf, AH.effOf, AH.mapAt, AH.iterAt, Nat.reduceBEq, Nat.reduceAdd, Nat.reduceLT, ↓reduceIte, Nat.reduceEqDiff, Nat.reduceLeDiff, Nat.reduceSub, Nat.reduceMul, Int.reduceSub, Int.reduceToNat, Int.reduceBEq, Int.reduceBNe, Int.reduceLT, Int.reduceGT, Int.reduceLE, Int.reduceGE, Int.reduceNeg, Int.reduceAdd]
def knIsT : RT := rtElse (cC aNil (cC (aI .i64) c0)) (fun _ => .bool false) (rtO knO (cC (aI .i64) c0) fun t x => some (.bool (isK t x.1)))
theorem knIsT_ok : ReadF S0 37 knIsT := rtElse_ok (fun x => knIs_nil x.2.1) (fun _ => rfl) (rtO_ok fun t x v h => by
  simp only [Option.some.injEq] at h; subst h
  exact ⟨rfl, knIs_ok t x.1⟩)
theorem knIsT_p {p : Nat} {id : Int} {M : Nat → Option Blk} : knIsT [.ptr p 0 0, .int .i64 id] M = rtO2 (fun t (x : Int × Unit) => some (.bool (isK t x.1))) (knR M p (M p)) (some (id, ())) := by
  simp only [knIsT, rtElse_eq, rtO_eq, cC_dec, aNil_ptr, aI_dec, c0_dec, pairO_none, pairO_some, Option.map_none, elseO_none, knO_dec]
theorem knIsT_n {id : Int} {M : Nat → Option Blk} : knIsT [.nilp, .int .i64 id] M = some (.bool false, []) := by
  simp only [knIsT, rtElse_eq, cC_dec, aNil_dec, aI_dec, c0_dec, pairO_some, Option.map_some, elseO_some]

theorem knPa_ok (t : Kn) (id : Int) : CallA1 S0 38 [.ptr 0 0 0, .int .i64 id] (knM t) fun r m => r = .int .i64 (paK t id) ∧ m = knM t := by
  refine fun_sound okC0 Tryd.func38 c38 ?_
  unfold wpF F38
  cases h : enF id t.L 0
  · simp only [AH.SD, AH.wpOp, AOp.call?, AOp.next?, bstep, AOp.map, Opd.ev, tget, argTm, evs, AV.cells, St.eff, St.put, applyWr, mset, terase, pureE, unAV, intOp, binAV, fill, mget, AH.rowAt, AH.part, retQ, rvs, retV, AH.splice, AH.sliceElems, AH.bytesOf, AH.strOp, AH.bound, AH.addLog, AH.missQ, AH.minmaxAV, AH.wpOpD, AH.readOf, AH.effOf, AH.mapAt, AH.iterAt, Nat.reduceBEq, Nat.reduceAdd, Nat.reduceLT, ↓reduceIte, Nat.reduceEqDiff, Nat.reduceLeDiff, Nat.reduceSub, Nat.reduceMul, Int.reduceSub, Int.reduceToNat, Int.reduceBEq, Int.reduceBNe, Int.reduceLT, Int.reduceGT, Int.reduceLE, Int.reduceGE, Int.reduceNeg, Int.reduceAdd, knM, findK_en, h, paK, paV, keyIs]
  · simp only [AH.SD, AH.wpOp, AOp.call?, AOp.next?, bstep, AOp.map, Opd.ev, tget, argTm, evs, AV.cells, St.eff, St.put, applyWr, mset, terase, pureE, unAV, intOp, binAV, fill, mget, AH.rowAt, AH.part, retQ, rvs, retV, AH.splice, AH.sliceElems, AH.bytesOf, AH.strOp, AH.bound, AH.addLog, AH.missQ, AH.minmaxAV, AH.wpOpD, AH.readOf, AH.effOf, AH.mapAt, AH.iterAt, Nat.reduceBEq, Nat.reduceAdd, Nat.reduceLT, ↓reduceIte, Nat.reduceEqDiff, Nat.reduceLeDiff, Nat.reduceSub, Nat.reduceMul, Int.reduceSub, Int.reduceToNat, Int.reduceBEq, Int.reduceBNe, Int.reduceLT, Int.reduceGT, Int.reduceLE, Int.reduceGE, Int.reduceNeg, Int.reduceAdd, knM, findK_en, h, paK, paV, enV, keyIs]
theorem knPa_nil (id : Int) : Pure S0 38 [.nilp, .int .i64 id] (.int .i64 0) := by
  refine fun_sound okC0 Tryd.func38 c38 ?_
  unfold wpF F38
  simp only [AH.SD, AH.wpOp, AOp.call?, AOp.next?, bstep, AOp.map, Opd.ev, tget, argTm, evs, AV.cells, St.eff, St.put, applyWr, mset, terase, pureE, unAV, intOp, binAV, fill, mget, AH.rowAt, AH.part, retQ, rvs, retV, AH.splice, AH.sliceElems, AH.bytesOf, AH.strOp, AH.bound, AH.addLog, AH.missQ, AH.minmaxAV, AH.wpOpD, AH.readOf, AH.effOf, AH.mapAt, AH.iterAt, Nat.reduceBEq, Nat.reduceAdd, Nat.reduceLT, ↓reduceIte, Nat.reduceEqDiff, Nat.reduceLeDiff, Nat.reduceSub, Nat.reduceMul, Int.reduceSub, Int.reduceToNat, Int.reduceBEq, Int.reduceBNe, Int.reduceLT, Int.reduceGT, Int.reduceLE, Int.reduceGE, Int.reduceNeg, Int.reduceAdd]
def knPaT : RT := rtElse (cC aNil (cC (aI .i64) c0)) (fun _ => .int .i64 0) (rtO knO (cC (aI .i64) c0) fun t x => some (.int .i64 (paK t x.1)))
theorem knPaT_ok : ReadF S0 38 knPaT := rtElse_ok (fun x => knPa_nil x.2.1) (fun _ => rfl) (rtO_ok fun t x v h => by
  simp only [Option.some.injEq] at h; subst h
  exact ⟨rfl, knPa_ok t x.1⟩)
theorem knPaT_p {p : Nat} {id : Int} {M : Nat → Option Blk} : knPaT [.ptr p 0 0, .int .i64 id] M = rtO2 (fun t (x : Int × Unit) => some (.int .i64 (paK t x.1))) (knR M p (M p)) (some (id, ())) := by
  simp only [knPaT, rtElse_eq, rtO_eq, cC_dec, aNil_ptr, aI_dec, c0_dec, pairO_none, pairO_some, Option.map_none, elseO_none, knO_dec]
theorem knPaT_n {id : Int} {M : Nat → Option Blk} : knPaT [.nilp, .int .i64 id] M = some (.int .i64 0, []) := by
  simp only [knPaT, rtElse_eq, cC_dec, aNil_dec, aI_dec, c0_dec, pairO_some, Option.map_some, elseO_some]

/-- All, rising. -/
def alK (t : Kn) : List Int := sortI (keysK t)
theorem alK_len (t : Kn) : (alK t).length = t.L.length := by unfold alK; rw [sortI_len]; simp [keysK]
theorem okAl : CtxOK S0 (ctxE S0 [] [] [(65, keysT), (64, sortedT)]) := ctxE_ok trivial trivial ⟨keysT_ok, sortedT_ok, trivial⟩ mixed
def rowI (l : List Int) : Option Blk := some (.row false 1 (l.map intC))
theorem sortedT_p {b n : Nat} {M : Nat → Option Blk} : sortedT [.fn 80 [] [.ptr b 0 0]] M n = sortedI M n b (M b) := by simp only [sortedT, if_true]
theorem sortedI_p {b n id : Nat} {M : Nat → Option Blk} : sortedI M n b (some (.iter (some id) 1 0 [])) = sortedE n b id (AH.mapAt M id) := rfl
theorem sortedE_p {b n id c : Nat} {L : List (En Int)} (h : mapG (L.map (enA (AV.int .i64))) c (L.map (·.k))) : sortedE n b id (some (L.map (enA (AV.int .i64)), c)) = some (sortedR n b id (L.map (·.k))) := by
  simp only [sortedE, keysI_en, sortedM, h, if_true]
theorem sortedR_ne {b n id : Nat} {ks : List Int} (h : ks ≠ []) : sortedR n b id ks = ({ val := .slc n 0 ks.length none, foot := [b, id], wr := [(n, rowI (sortI ks))] }, 1) := by
  simp only [sortedR, h, if_false]; rfl
theorem knAll_ok (t : Kn) (ht : t.ok) : CallA1 S0 46 [.ptr 0 0 0] (knM t) fun r m => r = .slc 2 0 (alK t).length none ∧ m = knM t ++ [rowI (alK t)] := by
  refine CallA1.fin ?_
  refine fun_sound okAl Tryd.func46 c46 ?_
  unfold wpF F46
  have hg := ht.good
  have hne : t.L.map (·.k) ≠ [] := fun q => by have := ht.root; rw [keysK, q] at this; cases this
  simp only [AH.SD, AH.wpOp, AOp.call?, AOp.next?, bstep, AOp.map, Opd.ev, tget, argTm, evs, AV.cells, St.eff, St.put, applyWr, mset, terase, pureE, unAV, intOp, binAV, fill, mget, AH.rowAt, AH.part, retQ, rvs, retV, AH.splice, AH.sliceElems, AH.bytesOf, AH.strOp, AH.bound, AH.addLog, AH.missQ, AH.minmaxAV, AH.wpOpD, AH.readOf, AH.effOf, AH.mapAt, AH.iterAt, Nat.reduceBEq, Nat.reduceAdd, Nat.reduceLT, ↓reduceIte, Nat.reduceEqDiff, Nat.reduceLeDiff, Nat.reduceSub, Nat.reduceMul, Int.reduceSub, Int.reduceToNat, Int.reduceBEq, Int.reduceBNe, Int.reduceLT, Int.reduceGT, Int.reduceLE, Int.reduceGE, Int.reduceNeg, Int.reduceAdd, AH.PD, heads, distN, AH.inN, posN, packM, packB, packTm, liveB, AV.inB, AV.insB, AV.ren, AV.rens, Blk.ren, Blk.inB, vstep, tput, vw, shift, newOnes, rowsM, blkIn, rwB, @flat_lts, AV.lt, AV.lts, Nat.sub_self, AH.rtO_eq, AH.rtO2_eq, AH.rtO2_none, AH.etO_eq, AH.etO2_eq, AH.etO2_none, AH.useO_some, AH.rtElse_eq, AH.elseO_some, AH.elseO_none, AH.etN_eq, Option.bind_some, Option.bind_none, AH.pairO_some, AH.pairO_none, AH.cC_dec, AH.cC_nil, AH.c0_dec, AH.c0_dec1, AH.aI_dec, AH.aS_dec, AH.aB_dec, AH.aNil_dec, AH.aNil_ptr, Option.map_none, effS, wrS, newS, backNo, AH.isIn, AH.posOf, AH.rwB, List.all_cons, List.all_nil, List.getElem?_cons_zero, List.getElem?_cons_succ, List.getElem?_nil, AH.appE_some, List.contains_cons, List.contains_nil, Nat.add_zero, knM, keysT, sortedT_p, sortedI_p, sortedE_p hg, sortedR_ne hne]
  refine ⟨[0, 1, 3], [], ?_⟩
  simp only [AH.SD, AH.wpOp, AOp.call?, AOp.next?, bstep, AOp.map, Opd.ev, tget, argTm, evs, AV.cells, St.eff, St.put, applyWr, mset, terase, pureE, unAV, intOp, binAV, fill, mget, AH.rowAt, AH.part, retQ, rvs, retV, AH.splice, AH.sliceElems, AH.bytesOf, AH.strOp, AH.bound, AH.addLog, AH.missQ, AH.minmaxAV, AH.wpOpD, AH.readOf, AH.effOf, AH.mapAt, AH.iterAt, Nat.reduceBEq, Nat.reduceAdd, Nat.reduceLT, ↓reduceIte, Nat.reduceEqDiff, Nat.reduceLeDiff, Nat.reduceSub, Nat.reduceMul, Int.reduceSub, Int.reduceToNat, Int.reduceBEq, Int.reduceBNe, Int.reduceLT, Int.reduceGT, Int.reduceLE, Int.reduceGE, Int.reduceNeg, Int.reduceAdd, AH.PD, heads, distN, AH.inN, posN, packM, packB, packTm, liveB, AV.inB, AV.insB, AV.ren, AV.rens, Blk.ren, Blk.inB, vstep, tput, rowI, enA_in, enA_ren, alK_len, alK, keysK, sortI_len, List.length_map]
  try trivial
theorem knAll_nil : Pure S0 46 [.nilp] .nils := by
  refine fun_sound okAl Tryd.func46 c46 ?_
  unfold wpF F46
  simp only [AH.SD, AH.wpOp, AOp.call?, AOp.next?, bstep, AOp.map, Opd.ev, tget, argTm, evs, AV.cells, St.eff, St.put, applyWr, mset, terase, pureE, unAV, intOp, binAV, fill, mget, AH.rowAt, AH.part, retQ, rvs, retV, AH.splice, AH.sliceElems, AH.bytesOf, AH.strOp, AH.bound, AH.addLog, AH.missQ, AH.minmaxAV, AH.wpOpD, AH.readOf, AH.effOf, AH.mapAt, AH.iterAt, Nat.reduceBEq, Nat.reduceAdd, Nat.reduceLT, ↓reduceIte, Nat.reduceEqDiff, Nat.reduceLeDiff, Nat.reduceSub, Nat.reduceMul, Int.reduceSub, Int.reduceToNat, Int.reduceBEq, Int.reduceBNe, Int.reduceLT, Int.reduceGT, Int.reduceLE, Int.reduceGE, Int.reduceNeg, Int.reduceAdd]
def knAllN : RT := rtP (cC aNil c0) fun _ => .nils
theorem knAllN_ok : ReadF S0 46 knAllN := rtP_ok (fun _ => knAll_nil) fun _ => rfl
theorem knAllN_n {M : Nat → Option Blk} : knAllN [.nilp] M = some (.nils, []) := rfl
theorem knAllN_p {M : Nat → Option Blk} {p : Nat} : knAllN [.ptr p 0 0] M = none := rfl
noncomputable def knAllT : ET := etO knO c0 fun t _ => if t.ok then some (.slc 2 0 (alK t).length none, knM t ++ [rowI (alK t)]) else none
theorem knAllT_ok : EffF S0 46 knAllT := etO_ok fun t _ v m' h => by
  split at h
  · rename_i ht
    simp only [Option.some.injEq, Prod.mk.injEq] at h
    obtain ⟨rfl, rfl⟩ := h
    exact ⟨⟨by simp [knO, knM], rfl⟩, knAll_ok t ht⟩
  · cases h
theorem knAllT_p {p n : Nat} {M : Nat → Option Blk} : knAllT [.ptr p 0 0] M n = etO2 n (fun (t : Kn) (_ : Unit) => if t.ok then some (.slc 2 0 (alK t).length none, knM t ++ [rowI (alK t)]) else none) (knR M p (M p)) (some ()) := by
  simp only [knAllT, etO_eq, c0_dec, knO_dec]

/-- Upwards, from one on. -/
def upK (L : List (En Int)) : Nat → Int → List Int
  | 0, _ => []
  | n + 1, id => bif (enF id L 0).isSome then id :: upK L n (paV (enF id L 0)) else []
def posF : Option (Nat × En Int) → Nat
  | some x => x.1 + 1
  | none => 0
def posK (L : List (En Int)) (id : Int) : Nat := posF (enF id L 0)
theorem posK_up {L : List (En Int)} (hn : (L.map (·.k)).Nodup) (hu : Up L) (h0 : ∀ e ∈ L, 1 ≤ e.k) {id : Int} {i : Nat} {e : En Int} (h : enF id L 0 = some (i, e)) : posK L e.v ≤ i := by
  obtain ⟨_, h2, h3, _⟩ := enF_some h
  rw [Nat.sub_zero] at h2
  rcases hu i e h2 with ⟨_, hv⟩ | ⟨_, j, e', hj, he', hk⟩
  · have : enF e.v L 0 = none := by
      rw [hv, enF_none]
      intro q
      obtain ⟨x, hx, q⟩ := List.mem_map.1 q
      have := h0 x hx
      omega
    rw [posK, this]; exact Nat.zero_le _
  · rw [posK, enF_at hn he' hk]; exact hj
theorem posK_le {L : List (En Int)} (id : Int) : posK L id ≤ L.length := by
  unfold posK
  cases h : enF id L 0 with
  | none => exact Nat.zero_le _
  | some x =>
    obtain ⟨i, e⟩ := x
    obtain ⟨_, h2, _⟩ := enF_some h
    rw [Nat.sub_zero] at h2
    exact (List.getElem?_eq_some_iff.1 h2).1
theorem upK_fuel {L : List (En Int)} (hn : (L.map (·.k)).Nodup) (hu : Up L) (h0 : ∀ e ∈ L, 1 ≤ e.k) : ∀ (n m : Nat) (id : Int), posK L id ≤ n → posK L id ≤ m → upK L n id = upK L m id
  | 0, 0, _, _, _ => rfl
  | 0, m + 1, id, h, _ => by
    have : enF id L 0 = none := by
      cases hq : enF id L 0 with
      | none => rfl
      | some x => rw [posK, hq] at h; simp [posF] at h
    simp [upK, this]
  | n + 1, 0, id, _, h => by
    have : enF id L 0 = none := by
      cases hq : enF id L 0 with
      | none => rfl
      | some x => rw [posK, hq] at h; simp [posF] at h
    simp [upK, this]
  | n + 1, m + 1, id, h1, h2 => by
    unfold upK
    cases hq : enF id L 0 with
    | none => rfl
    | some x =>
      obtain ⟨i, e⟩ := x
      have := posK_up hn hu h0 hq
      rw [posK, hq] at h1 h2
      simp only [posF] at h1 h2
      simp only [Option.isSome_some, cond_true, paV]
      rw [upK_fuel hn hu h0 n m e.v (by omega) (by omega)]
theorem upK_len (L : List (En Int)) : ∀ (n : Nat) (id : Int), (upK L n id).length ≤ n
  | 0, _ => Nat.le_refl _
  | n + 1, id => by
    unfold upK
    cases (enF id L 0).isSome
    · exact Nat.zero_le _
    · simp only [cond_true, List.length_cons]; exact Nat.succ_le_succ (upK_len L n _)
theorem Kn.ok.key1 {t : Kn} (h : t.ok) : ∀ e ∈ t.L, 1 ≤ e.k := fun e he => (h.key e he).1
theorem upK_next {t : Kn} (h : t.ok) {id : Int} (hi : isK t id = true) : upK t.L 16 id = id :: upK t.L 16 (paK t id) := by
  rw [show upK t.L 16 id = upK t.L (15 + 1) id from rfl, upK]
  have hi' : (enF id t.L 0).isSome = true := hi
  rw [hi', cond_true]
  congr 1
  cases hq : enF id t.L 0 with
  | none => rw [hq] at hi'; cases hi'
  | some x =>
    obtain ⟨i, e⟩ := x
    have h1 := posK_up h.keys h.up h.key1 hq
    have h2 : i + 1 ≤ 16 := by
      have := posK_le (L := t.L) id
      rw [posK, hq] at this
      have := h.len
      simp only [posF] at *
      omega
    simp only [paK, hq, paV]
    exact upK_fuel h.keys h.up h.key1 15 16 e.v (by omega) (by omega)
theorem upK_out {t : Kn} {id : Int} (hi : isK t id = false) : upK t.L 16 id = [] := by
  rw [show upK t.L 16 id = upK t.L (15 + 1) id from rfl, upK]
  have hi' : (enF id t.L 0).isSome = false := hi
  rw [hi']; rfl
/-- Those from the root to one. -/
def ptK (t : Kn) (id : Int) : List Int := (upK t.L 16 id).reverse
theorem ptK_len (t : Kn) (id : Int) : (ptK t id).length ≤ 16 := by rw [ptK, List.length_reverse]; exact upK_len _ _ _

theorem okPt : CtxOK S0 (ctxE S0 [(37, knIsT)] [] [(63, revT)]) := ctxE_ok ⟨knIsT_ok, trivial⟩ trivial ⟨revT_ok, trivial⟩ mixed
def ptSt (t : Kn) (x : List Int × Int) : St := ⟨[(5, .slc 2 0 x.1.length none), (1, .int .i64 x.2), (0, .ptr 0 0 0)], knM t ++ [rowI x.1]⟩
theorem knPath_ok (t : Kn) (ht : t.ok) (id : Int) : CallA1 S0 42 [.ptr 0 0 0, .int .i64 id] (knM t) fun r m => r = .slc 2 0 (ptK t id).length none ∧ m = knM t ++ [rowI (ptK t id)] := by
  refine CallA1.fin ?_
  refine fun_sound okPt Tryd.func42 c42 ?_
  unfold wpF F42
  simp only [AH.SD, AH.wpOp, AOp.call?, AOp.next?, bstep, AOp.map, Opd.ev, tget, argTm, evs, AV.cells, St.eff, St.put, applyWr, mset, terase, pureE, unAV, intOp, binAV, fill, mget, AH.rowAt, AH.part, retQ, rvs, retV, AH.splice, AH.sliceElems, AH.bytesOf, AH.strOp, AH.bound, AH.addLog, AH.missQ, AH.minmaxAV, AH.wpOpD, AH.readOf, AH.effOf, AH.mapAt, AH.iterAt, Nat.reduceBEq, Nat.reduceAdd, Nat.reduceLT, ↓reduceIte, Nat.reduceEqDiff, Nat.reduceLeDiff, Nat.reduceSub, Nat.reduceMul, Int.reduceSub, Int.reduceToNat, Int.reduceBEq, Int.reduceBNe, Int.reduceLT, Int.reduceGT, Int.reduceLE, Int.reduceGE, Int.reduceNeg, Int.reduceAdd, AH.PD, heads, distN, AH.inN, posN, packM, packB, packTm, liveB, AV.inB, AV.insB, AV.ren, AV.rens, Blk.ren, Blk.inB, vstep, tput, vw, shift, newOnes, rowsM, blkIn, rwB, @flat_lts, AV.lt, AV.lts, Nat.sub_self, AH.rtO_eq, AH.rtO2_eq, AH.rtO2_none, AH.etO_eq, AH.etO2_eq, AH.etO2_none, AH.useO_some, AH.rtElse_eq, AH.elseO_some, AH.elseO_none, AH.etN_eq, Option.bind_some, Option.bind_none, AH.pairO_some, AH.pairO_none, AH.cC_dec, AH.cC_nil, AH.c0_dec, AH.c0_dec1, AH.aI_dec, AH.aS_dec, AH.aB_dec, AH.aNil_dec, AH.aNil_ptr, Option.map_none, effS, wrS, newS, backNo, AH.isIn, AH.posOf, AH.rwB, List.all_cons, List.all_nil, List.getElem?_cons_zero, List.getElem?_cons_succ, List.getElem?_nil, AH.appE_some, List.contains_cons, List.contains_nil, Nat.add_zero]
  refine loop_do [0, 1] [5, 1, 0] [.tm 5 1] (α := List Int × Int) (fun x => posK t.L x.2) (ptSt t) (fun x => x.1 ++ upK t.L 16 x.2 = upK t.L 16 id) ([], id) rfl (by simp only [AH.SD, AH.wpOp, AOp.call?, AOp.next?, bstep, AOp.map, Opd.ev, tget, argTm, evs, AV.cells, St.eff, St.put, applyWr, mset, terase, pureE, unAV, intOp, binAV, fill, mget, AH.rowAt, AH.part, retQ, rvs, retV, AH.splice, AH.sliceElems, AH.bytesOf, AH.strOp, AH.bound, AH.addLog, AH.missQ, AH.minmaxAV, AH.wpOpD, AH.readOf, AH.effOf, AH.mapAt, AH.iterAt, Nat.reduceBEq, Nat.reduceAdd, Nat.reduceLT, ↓reduceIte, Nat.reduceEqDiff, Nat.reduceLeDiff, Nat.reduceSub, Nat.reduceMul, Int.reduceSub, Int.reduceToNat, Int.reduceBEq, Int.reduceBNe, Int.reduceLT, Int.reduceGT, Int.reduceLE, Int.reduceGE, Int.reduceNeg, Int.reduceAdd, AH.PD, heads, distN, AH.inN, posN, packM, packB, packTm, liveB, AV.inB, AV.insB, AV.ren, AV.rens, Blk.ren, Blk.inB, vstep, tput, ptSt, knM, rowI, enA_in, enA_ren]) ?_
  rintro X ⟨out, x⟩ hp ih
  simp only at hp
  have hlen : out.length ≤ 16 := by
    have := congrArg List.length hp
    rw [List.length_append] at this
    have := upK_len t.L 16 id
    omega
  cases hx : isK t x
  · rw [upK_out hx, List.append_nil] at hp
    simp only [AH.SD, AH.wpOp, AOp.call?, AOp.next?, bstep, AOp.map, Opd.ev, tget, argTm, evs, AV.cells, St.eff, St.put, applyWr, mset, terase, pureE, unAV, intOp, binAV, fill, mget, AH.rowAt, AH.part, retQ, rvs, retV, AH.splice, AH.sliceElems, AH.bytesOf, AH.strOp, AH.bound, AH.addLog, AH.missQ, AH.minmaxAV, AH.wpOpD, AH.readOf, AH.effOf, AH.mapAt, AH.iterAt, Nat.reduceBEq, Nat.reduceAdd, Nat.reduceLT, ↓reduceIte, Nat.reduceEqDiff, Nat.reduceLeDiff, Nat.reduceSub, Nat.reduceMul, Int.reduceSub, Int.reduceToNat, Int.reduceBEq, Int.reduceBNe, Int.reduceLT, Int.reduceGT, Int.reduceLE, Int.reduceGE, Int.reduceNeg, Int.reduceAdd, AH.PD, heads, distN, AH.inN, posN, packM, packB, packTm, liveB, AV.inB, AV.insB, AV.ren, AV.rens, Blk.ren, Blk.inB, vstep, tput, vw, shift, newOnes, rowsM, blkIn, rwB, @flat_lts, AV.lt, AV.lts, Nat.sub_self, AH.rtO_eq, AH.rtO2_eq, AH.rtO2_none, AH.etO_eq, AH.etO2_eq, AH.etO2_none, AH.useO_some, AH.rtElse_eq, AH.elseO_some, AH.elseO_none, AH.etN_eq, Option.bind_some, Option.bind_none, AH.pairO_some, AH.pairO_none, AH.cC_dec, AH.cC_nil, AH.c0_dec, AH.c0_dec1, AH.aI_dec, AH.aS_dec, AH.aB_dec, AH.aNil_dec, AH.aNil_ptr, Option.map_none, effS, wrS, newS, backNo, AH.isIn, AH.posOf, AH.rwB, List.all_cons, List.all_nil, List.getElem?_cons_zero, List.getElem?_cons_succ, List.getElem?_nil, AH.appE_some, List.contains_cons, List.contains_nil, Nat.add_zero, ptSt, knM, knIsT_p, knR_eq, knB_eq, Kn.eta, ne_eq, Nat.reduceEqDiff, Nat.zero_ne_one, not_false_eq_true, hx, revT_p, rowI, slI_eq, show out.length ≤ 1048576 by omega]
    refine ⟨[0, 1, 2], [], ?_⟩
    simp only [AH.SD, AH.wpOp, AOp.call?, AOp.next?, bstep, AOp.map, Opd.ev, tget, argTm, evs, AV.cells, St.eff, St.put, applyWr, mset, terase, pureE, unAV, intOp, binAV, fill, mget, AH.rowAt, AH.part, retQ, rvs, retV, AH.splice, AH.sliceElems, AH.bytesOf, AH.strOp, AH.bound, AH.addLog, AH.missQ, AH.minmaxAV, AH.wpOpD, AH.readOf, AH.effOf, AH.mapAt, AH.iterAt, Nat.reduceBEq, Nat.reduceAdd, Nat.reduceLT, ↓reduceIte, Nat.reduceEqDiff, Nat.reduceLeDiff, Nat.reduceSub, Nat.reduceMul, Int.reduceSub, Int.reduceToNat, Int.reduceBEq, Int.reduceBNe, Int.reduceLT, Int.reduceGT, Int.reduceLE, Int.reduceGE, Int.reduceNeg, Int.reduceAdd, AH.PD, heads, distN, AH.inN, posN, packM, packB, packTm, liveB, AV.inB, AV.insB, AV.ren, AV.rens, Blk.ren, Blk.inB, vstep, tput, enA_in, enA_ren, ptK, hp, List.length_reverse]
  · have hn := upK_next ht hx
    rw [hn] at hp
    cases hq : enF x t.L 0 with
    | none => rw [isK, hq] at hx; cases hx
    | some y =>
      obtain ⟨i, e⟩ := y
      have hpos := posK_up ht.keys ht.up ht.key1 hq
      have hv : paK t x = e.v := by rw [paK, hq]; rfl
      rw [hv] at hp
      have done := ih (out ++ [x], e.v) (by simp only [List.append_assoc, List.cons_append, List.nil_append]; exact hp) (by
        have : posK t.L x = i + 1 := by rw [posK, hq]; rfl
        simp only [this]; omega)
      simp only [ptSt, knM, rowI, List.map_append, List.map_cons, List.map_nil, List.length_append, List.length_cons, List.length_nil, Nat.zero_add, intC_eq, List.cons_append, List.nil_append] at done
      have e3 : (out.map intC).take out.length = out.map intC := List.take_of_length_le (by simp)
      simp only [AH.SD, AH.wpOp, AOp.call?, AOp.next?, bstep, AOp.map, Opd.ev, tget, argTm, evs, AV.cells, St.eff, St.put, applyWr, mset, terase, pureE, unAV, intOp, binAV, fill, mget, AH.rowAt, AH.part, retQ, rvs, retV, AH.splice, AH.sliceElems, AH.bytesOf, AH.strOp, AH.bound, AH.addLog, AH.missQ, AH.minmaxAV, AH.wpOpD, AH.readOf, AH.effOf, AH.mapAt, AH.iterAt, Nat.reduceBEq, Nat.reduceAdd, Nat.reduceLT, ↓reduceIte, Nat.reduceEqDiff, Nat.reduceLeDiff, Nat.reduceSub, Nat.reduceMul, Int.reduceSub, Int.reduceToNat, Int.reduceBEq, Int.reduceBNe, Int.reduceLT, Int.reduceGT, Int.reduceLE, Int.reduceGE, Int.reduceNeg, Int.reduceAdd, AH.PD, heads, distN, AH.inN, posN, packM, packB, packTm, liveB, AV.inB, AV.insB, AV.ren, AV.rens, Blk.ren, Blk.inB, vstep, tput, vw, shift, newOnes, rowsM, blkIn, rwB, @flat_lts, AV.lt, AV.lts, Nat.sub_self, AH.rtO_eq, AH.rtO2_eq, AH.rtO2_none, AH.etO_eq, AH.etO2_eq, AH.etO2_none, AH.useO_some, AH.rtElse_eq, AH.elseO_some, AH.elseO_none, AH.etN_eq, Option.bind_some, Option.bind_none, AH.pairO_some, AH.pairO_none, AH.cC_dec, AH.cC_nil, AH.c0_dec, AH.c0_dec1, AH.aI_dec, AH.aS_dec, AH.aB_dec, AH.aNil_dec, AH.aNil_ptr, Option.map_none, effS, wrS, newS, backNo, AH.isIn, AH.posOf, AH.rwB, List.all_cons, List.all_nil, List.getElem?_cons_zero, List.getElem?_cons_succ, List.getElem?_nil, AH.appE_some, List.contains_cons, List.contains_nil, Nat.add_zero, ptSt, knM, knIsT_p, knR_eq, knB_eq, Kn.eta, ne_eq, Nat.reduceEqDiff, Nat.zero_ne_one, not_false_eq_true, hx, rowI, findK_en, hq, enV, keyIs, e3, List.length_map]
      repeat (refine ⟨by first | rfl | decide | omega | (simp only [List.length_map, and_true]; omega) | (simp only [List.length_map, List.length_set, and_true]; omega), ?_⟩)
      refine gc_auto [0, 1, 4] [5, 1, 0] [] ?_
      simp only [AH.SD, AH.wpOp, AOp.call?, AOp.next?, bstep, AOp.map, Opd.ev, tget, argTm, evs, AV.cells, St.eff, St.put, applyWr, mset, terase, pureE, unAV, intOp, binAV, fill, mget, AH.rowAt, AH.part, retQ, rvs, retV, AH.splice, AH.sliceElems, AH.bytesOf, AH.strOp, AH.bound, AH.addLog, AH.missQ, AH.minmaxAV, AH.wpOpD, AH.readOf, AH.effOf, AH.mapAt, AH.iterAt, Nat.reduceBEq, Nat.reduceAdd, Nat.reduceLT, ↓reduceIte, Nat.reduceEqDiff, Nat.reduceLeDiff, Nat.reduceSub, Nat.reduceMul, Int.reduceSub, Int.reduceToNat, Int.reduceBEq, Int.reduceBNe, Int.reduceLT, Int.reduceGT, Int.reduceLE, Int.reduceGE, Int.reduceNeg, Int.reduceAdd, AH.PD, heads, distN, AH.inN, posN, packM, packB, packTm, liveB, AV.inB, AV.insB, AV.ren, AV.rens, Blk.ren, Blk.inB, vstep, tput, enA_in, enA_ren]
      exact done
end Go.Proofs.YtamkjgiemconbaaDoor.D08
