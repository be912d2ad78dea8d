import Derived.Test.YthapdikdeoeplaaDoorPbNf1H6
import Derived.Test.YthapdikdeoeplaaDoorPaIsTH6
section
set_option linter.unusedVariables false
set_option linter.unnecessarySimpa false
open Go AH
set_option linter.unusedSimpArgs false
set_option maxRecDepth 100000
namespace Go.Proofs.YthapdikdeoeplaaDoor.H6
theorem rdA_ren (x : Rd) (h : x.bad = -1) (ρ : Nat → Nat) : (rdA x).ren ρ = .tup [.str x.t, .int .i64 x.q, .int .i64 x.n, .nili] := by
  rw [rdA, h]; rfl
def rdNew (x : Rd) : Mem := bif x.bad == -1 then [] else wrM x.bad
def frdU : UT := utN [1] (nf1 1 cStr (fun l => rdA (rdZ l)) fun l => rdNew (rdZ l))
theorem frdU_ok : CallF S0 56 frdU := nf1_ok errs0 fun l hl => by
  refine ⟨?_, ?_, ?_, ?_⟩
  · unfold rdA; cases (rdZ l).bad == -1 <;> rfl
  · unfold rdNew; cases (rdZ l).bad == -1 <;> rfl
  · unfold rdNew; cases (rdZ l).bad == -1 <;> rfl
  · exact read_ok l hl
theorem frdU_good {id ix n : Nat} {p : Option Nat} {m : Mem} {es : List (List AV)} {l : List ByteArray} (hM : rowE (mget m) id = some (1, es)) (hs : (es.drop ix).take n = l.map strC) (hle : ix + n ≤ es.length) (hb : n ≤ 1048576) (hg : (rdZ l).bad = -1) :
    frdU [.slc id ix n p] m = some (.tup [.str (rdZ l).t, .int .i64 (rdZ l).q, .int .i64 (rdZ l).n, .nili], m) := by
  rw [frdU, nf1_eq (c := cStr) hM hs hle hb, rdA_ren _ hg, rdNew, hg]
  simp [newOnes]
theorem frdU_bad {id ix n : Nat} {p : Option Nat} {m : Mem} {es : List (List AV)} {l : List ByteArray} (hM : rowE (mget m) id = some (1, es)) (hs : (es.drop ix).take n = l.map strC) (hle : ix + n ≤ es.length) (hb : n ≤ 1048576) (hg : (rdZ l).bad ≠ -1) :
    frdU [.slc id ix n p] m = some (.tup [.str (rdZ l).t, .int .i64 (rdZ l).q, .int .i64 (rdZ l).n, .ifc 121 (.ptr m.length 0 0)], m ++ wrM (rdZ l).bad) := by
  have h : ((rdZ l).bad == -1) = false := by simpa using hg
  rw [frdU, nf1_eq (c := cStr) hM hs hle hb, rdA, rdNew, h]
  simp [newOnes, wrM, shift, AV.ren, AV.rens, Blk.ren]
theorem rowE3 {a b c : Option Blk} {ro : Bool} {k : Nat} {es : List (List AV)} {r : Mem} : rowE (mget (a :: b :: c :: some (.row ro k es) :: r)) 3 = some (k, es) := by cases r <;> rfl
def opM (d : Dk) (f t b a : Int) (rc : AV) : Mem := [some (.row false 5 [[.slc 1 0 d.L.length none, .bool d.away, .int .i64 d.fuse, .int .i64 d.torn, .int .i64 d.writes]]), some (.row false 1 (d.L.map strC)),
  some (.row false 7 [[.ptr 0 0 0, .int .i64 f, .int .i64 t, .int .i64 b, .int .i64 a, rc, .bool false]])]
def bloSt (d : Dk) (F T : Nat) (b : Int) (i : Nat) : St := ⟨[(5, .int .i64 i), (4, .slc 3 0 (i - F) none), (0, .ptr 2 0 0)], opM d F T b F .nils ++ [some (.row false 1 (((d.L.drop F).take (i - F)).map strC))]⟩
noncomputable abbrev tBl : List (FuncId × RT) := [(55, drdT)]
theorem okBlo : CtxOK S0 (ctxU S0 tBl []) := ctxU_ok ⟨drdT_ok, trivial⟩ trivial mixed
theorem part_snoc {L : List ByteArray} {F i : Nat} (h1 : F ≤ i) (h2 : i < L.length) : (L.drop F).take (i + 1 - F) = (L.drop F).take (i - F) ++ [L[i]] := by
  have h3 : i - F < (L.drop F).length := by rw [List.length_drop]; omega
  have h4 : (L.drop F)[i - F] = L[i] := by rw [List.getElem_drop]; congr 1; omega
  rw [show i + 1 - F = (i - F) + 1 by omega, List.take_succ_eq_append_getElem h3, h4]
theorem blocks_on (d : Dk) (hd : d.ok) (ha : d.away = false) (F T : Nat) (b : Int) (h1 : F < T) (h2 : T ≤ d.L.length) : CallA1 S0 36 [.ptr 2 0 0] (opM d F T b F .nils)
    fun r m => r = .tup [.slc 3 0 (T - F) none, .nili] ∧ m = opM d F T b F .nils ++ [some (.row false 1 (((d.L.drop F).take (T - F)).map strC))] := by
  have hL := hd.2.2.2
  refine CallA1.fin ?_
  refine fun_sound okBlo Tryd.func36 c36 ?_
  unfold wpF F36
  simp only [AH.SD, AH.SE, AOp.call?, AOp.next?, bstep, AV.cells, unAV, binAV, retQ, retV, AH.sliceElems, AH.bytesOf, AH.strOp, AH.bound, AH.missQ, AH.minmaxAV, AH.readOf, AH.effOf, Nat.reduceBEq, Nat.reduceAdd, Nat.reduceLT, ↓reduceIte, Nat.reduceEqDiff, Nat.reduceLeDiff, Nat.reduceSub, Nat.reduceMul, Int.reduceSub, Int.reduceToNat, Int.reduceBEq, Int.reduceBNe, Int.reduceLT, Int.reduceGT, Int.reduceLE, Int.reduceGE, Int.reduceNeg, Int.reduceAdd, AH.SP, AH.PD, AV.inB, vstep, vw, shift, newOnes, rowsM, blkIn, rwB, @flat_lts, AV.lt, AV.lts, Nat.sub_self, AH.SO, opM]
  refine loop_do [0, 1, 2] [5, 4, 0] [.tm 4 1] (α := Nat) (fun i => T - i) (bloSt d F T b) (fun i => F ≤ i ∧ i ≤ T) F ⟨Nat.le_refl _, by omega⟩ (by simp only [AH.SD, AH.SE, AOp.call?, AOp.next?, bstep, AV.cells, unAV, binAV, retQ, retV, AH.sliceElems, AH.bytesOf, AH.strOp, AH.bound, AH.missQ, AH.minmaxAV, AH.readOf, AH.effOf, Nat.reduceBEq, Nat.reduceAdd, Nat.reduceLT, ↓reduceIte, Nat.reduceEqDiff, Nat.reduceLeDiff, Nat.reduceSub, Nat.reduceMul, Int.reduceSub, Int.reduceToNat, Int.reduceBEq, Int.reduceBNe, Int.reduceLT, Int.reduceGT, Int.reduceLE, Int.reduceGE, Int.reduceNeg, Int.reduceAdd, AH.SP, AH.PD, AV.inB, vstep, bloSt, opM, Nat.sub_self, List.take_zero, List.map_nil, List.cons_append, List.nil_append]) ?_
  intro X i ⟨hi1, hi2⟩ ih
  simp only [AH.SD, AH.SE, AOp.call?, AOp.next?, bstep, AV.cells, unAV, binAV, retQ, retV, AH.sliceElems, AH.bytesOf, AH.strOp, AH.bound, AH.missQ, AH.minmaxAV, AH.readOf, AH.effOf, Nat.reduceBEq, Nat.reduceAdd, Nat.reduceLT, ↓reduceIte, Nat.reduceEqDiff, Nat.reduceLeDiff, Nat.reduceSub, Nat.reduceMul, Int.reduceSub, Int.reduceToNat, Int.reduceBEq, Int.reduceBNe, Int.reduceLT, Int.reduceGT, Int.reduceLE, Int.reduceGE, Int.reduceNeg, Int.reduceAdd, AH.SP, AH.PD, AV.inB, vstep, vw, shift, newOnes, rowsM, blkIn, rwB, @flat_lts, AV.lt, AV.lts, Nat.sub_self, AH.SO, bloSt, opM, List.cons_append, List.nil_append]
  refine ⟨fun hlt => ?_, fun hlt => ?_⟩
  · have hiT := lt_of_dec hlt
    have wi := wrapS (i := i) (by omega)
    have hiL : i < d.L.length := by omega
    have hck := chk_at hiL
    rw [ha] at hck
    simp only [Bool.false_eq_true, if_false] at hck
    have hg : d.L.getD i ⟨#[]⟩ = d.L[i] := by rw [List.getD_eq_getElem?_getD, List.getElem?_eq_getElem hiL]; rfl
    have hrd : rdS d i = d.L[i] := by rw [rdS, hck, Int.toNat_natCast, hg]; rfl
    have done := ih (i + 1) ⟨by omega, hiT⟩ (by omega)
    have hln : ((d.L.drop F).take (i - F)).length = i - F := by rw [List.length_take, List.length_drop]; omega
    have hln2 : i - F ≤ ((d.L.drop F).take (i - F)).length := by omega
    have htk : (((d.L.drop F).take (i - F)).map strC).take (i - F) = ((d.L.drop F).take (i - F)).map strC := List.take_of_length_le (by rw [List.length_map]; omega)
    have hps := part_snoc hi1 hiL
    have e1 : i + 1 - F = i - F + 1 := by omega
    rw [e1] at hps
    simp only [bloSt, opM, e1, hps, List.map_append, List.map_cons, List.map_nil, List.length_append, List.length_cons, List.length_nil, Nat.zero_add, List.map_append, strC_eq, List.cons_append, List.nil_append] at done
    simp only [AH.SD, AH.SE, AOp.call?, AOp.next?, bstep, AV.cells, unAV, binAV, retQ, retV, AH.sliceElems, AH.bytesOf, AH.strOp, AH.bound, AH.missQ, AH.minmaxAV, AH.readOf, AH.effOf, Nat.reduceBEq, Nat.reduceAdd, Nat.reduceLT, ↓reduceIte, Nat.reduceEqDiff, Nat.reduceLeDiff, Nat.reduceSub, Nat.reduceMul, Int.reduceSub, Int.reduceToNat, Int.reduceBEq, Int.reduceBNe, Int.reduceLT, Int.reduceGT, Int.reduceLE, Int.reduceGE, Int.reduceNeg, Int.reduceAdd, AH.SP, AH.PD, AV.inB, vstep, vw, shift, newOnes, rowsM, blkIn, rwB, @flat_lts, AV.lt, AV.lts, Nat.sub_self, AH.SO, lgR_eq, lgU_eq, Lg.eta, ne4, Bool.not_false, Bool.and_self, if_true, dkR_eq, dkB_eq, Dk.eta, ne_eq, Nat.reduceEqDiff, Nat.zero_ne_one, not_false_eq_true, drdT_p, drdA, hck, hrd, errA_nil, errA0, wi, List.length_map, hln, htk, List.drop_zero]
    repeat ((with_reducible refine And.intro ?_ ?_); focus (first | rfl | decide | omega | (simp only [List.length_map, and_true]; omega) | (simp only [List.length_map, List.length_set, and_true]; omega)))
    try simp only [AH.SD, AH.SE, AOp.call?, AOp.next?, bstep, AV.cells, unAV, binAV, retQ, retV, AH.sliceElems, AH.bytesOf, AH.strOp, AH.bound, AH.missQ, AH.minmaxAV, AH.readOf, AH.effOf, Nat.reduceBEq, Nat.reduceAdd, Nat.reduceLT, ↓reduceIte, Nat.reduceEqDiff, Nat.reduceLeDiff, Nat.reduceSub, Nat.reduceMul, Int.reduceSub, Int.reduceToNat, Int.reduceBEq, Int.reduceBNe, Int.reduceLT, Int.reduceGT, Int.reduceLE, Int.reduceGE, Int.reduceNeg, Int.reduceAdd, AH.SP, AH.PD, AV.inB, vstep, vw, shift, newOnes, rowsM, blkIn, rwB, @flat_lts, AV.lt, AV.lts, Nat.sub_self, AH.SO, lgR_eq, lgU_eq, Lg.eta, ne4, Bool.not_false, Bool.and_self, if_true, dkR_eq, dkB_eq, Dk.eta, ne_eq, Nat.reduceEqDiff, Nat.zero_ne_one, not_false_eq_true, drdT_p, drdA, hck, hrd, errA_nil, errA0, wi, List.length_map, hln, htk, List.drop_zero]
    refine gc_auto [0, 1, 2, 5] [5, 4, 0] [] ?_
    simp only [AH.SD, AH.SE, AOp.call?, AOp.next?, bstep, AV.cells, unAV, binAV, retQ, retV, AH.sliceElems, AH.bytesOf, AH.strOp, AH.bound, AH.missQ, AH.minmaxAV, AH.readOf, AH.effOf, Nat.reduceBEq, Nat.reduceAdd, Nat.reduceLT, ↓reduceIte, Nat.reduceEqDiff, Nat.reduceLeDiff, Nat.reduceSub, Nat.reduceMul, Int.reduceSub, Int.reduceToNat, Int.reduceBEq, Int.reduceBNe, Int.reduceLT, Int.reduceGT, Int.reduceLE, Int.reduceGE, Int.reduceNeg, Int.reduceAdd, AH.SP, AH.PD, AV.inB, vstep, List.length_append, List.length_map, hln, List.length_cons, List.length_nil, Nat.zero_add]
    exact done
  · have : i = T := by
      have := ge_of_dec hlt
      omega
    subst this
    simp only [AH.SD, AH.SE, AOp.call?, AOp.next?, bstep, AV.cells, unAV, binAV, retQ, retV, AH.sliceElems, AH.bytesOf, AH.strOp, AH.bound, AH.missQ, AH.minmaxAV, AH.readOf, AH.effOf, Nat.reduceBEq, Nat.reduceAdd, Nat.reduceLT, ↓reduceIte, Nat.reduceEqDiff, Nat.reduceLeDiff, Nat.reduceSub, Nat.reduceMul, Int.reduceSub, Int.reduceToNat, Int.reduceBEq, Int.reduceBNe, Int.reduceLT, Int.reduceGT, Int.reduceLE, Int.reduceGE, Int.reduceNeg, Int.reduceAdd, AH.SP, AH.PD, AV.inB, vstep, vw, shift, newOnes, rowsM, blkIn, rwB, @flat_lts, AV.lt, AV.lts, Nat.sub_self, AH.SO]
    refine ⟨[0, 1, 2, 3], [], ?_⟩
    simp only [AH.SD, AH.SE, AOp.call?, AOp.next?, bstep, AV.cells, unAV, binAV, retQ, retV, AH.sliceElems, AH.bytesOf, AH.strOp, AH.bound, AH.missQ, AH.minmaxAV, AH.readOf, AH.effOf, Nat.reduceBEq, Nat.reduceAdd, Nat.reduceLT, ↓reduceIte, Nat.reduceEqDiff, Nat.reduceLeDiff, Nat.reduceSub, Nat.reduceMul, Int.reduceSub, Int.reduceToNat, Int.reduceBEq, Int.reduceBNe, Int.reduceLT, Int.reduceGT, Int.reduceLE, Int.reduceGE, Int.reduceNeg, Int.reduceAdd, AH.SP, AH.PD, AV.inB, vstep]
    try simp
theorem blocks_off (d : Dk) (hd : d.ok) (ha : d.away = true) (F T : Nat) (b : Int) (h1 : F < T) (h2 : T ≤ d.L.length) : CallA1 S0 36 [.ptr 2 0 0] (opM d F T b F .nils)
    fun r m => r = .tup [.nils, errA 14] ∧ m = opM d F T b F .nils := by
  have hL := hd.2.2.2
  have hlt : decide ((F : Int) < (T : Int)) = true := decide_eq_true (by omega)
  have hck := chk_at (d := d) (i := F) (by omega)
  rw [ha] at hck
  simp only [if_true] at hck
  refine CallA1.fin ?_
  refine fun_sound okBlo Tryd.func36 c36 ?_
  unfold wpF F36
  simp only [AH.SD, AH.SE, AOp.call?, AOp.next?, bstep, AV.cells, unAV, binAV, retQ, retV, AH.sliceElems, AH.bytesOf, AH.strOp, AH.bound, AH.missQ, AH.minmaxAV, AH.readOf, AH.effOf, Nat.reduceBEq, Nat.reduceAdd, Nat.reduceLT, ↓reduceIte, Nat.reduceEqDiff, Nat.reduceLeDiff, Nat.reduceSub, Nat.reduceMul, Int.reduceSub, Int.reduceToNat, Int.reduceBEq, Int.reduceBNe, Int.reduceLT, Int.reduceGT, Int.reduceLE, Int.reduceGE, Int.reduceNeg, Int.reduceAdd, AH.SP, AH.PD, AV.inB, vstep, vw, shift, newOnes, rowsM, blkIn, rwB, @flat_lts, AV.lt, AV.lts, Nat.sub_self, AH.SO, opM]
  refine loop_unroll ctxU_monoB ?_
  simp only [AH.SD, AH.SE, AOp.call?, AOp.next?, bstep, AV.cells, unAV, binAV, retQ, retV, AH.sliceElems, AH.bytesOf, AH.strOp, AH.bound, AH.missQ, AH.minmaxAV, AH.readOf, AH.effOf, Nat.reduceBEq, Nat.reduceAdd, Nat.reduceLT, ↓reduceIte, Nat.reduceEqDiff, Nat.reduceLeDiff, Nat.reduceSub, Nat.reduceMul, Int.reduceSub, Int.reduceToNat, Int.reduceBEq, Int.reduceBNe, Int.reduceLT, Int.reduceGT, Int.reduceLE, Int.reduceGE, Int.reduceNeg, Int.reduceAdd, AH.SP, AH.PD, AV.inB, vstep, vw, shift, newOnes, rowsM, blkIn, rwB, @flat_lts, AV.lt, AV.lts, Nat.sub_self, AH.SO, lgR_eq, lgU_eq, Lg.eta, ne4, Bool.not_false, Bool.and_self, if_true, dkR_eq, dkB_eq, Dk.eta, ne_eq, Nat.reduceEqDiff, Nat.zero_ne_one, not_false_eq_true, hlt, drdT_p, drdA, hck, errA_nil, errA14]
  refine ⟨[0, 1, 2], [], ?_⟩
  simp only [AH.SD, AH.SE, AOp.call?, AOp.next?, bstep, AV.cells, unAV, binAV, retQ, retV, AH.sliceElems, AH.bytesOf, AH.strOp, AH.bound, AH.missQ, AH.minmaxAV, AH.readOf, AH.effOf, Nat.reduceBEq, Nat.reduceAdd, Nat.reduceLT, ↓reduceIte, Nat.reduceEqDiff, Nat.reduceLeDiff, Nat.reduceSub, Nat.reduceMul, Int.reduceSub, Int.reduceToNat, Int.reduceBEq, Int.reduceBNe, Int.reduceLT, Int.reduceGT, Int.reduceLE, Int.reduceGE, Int.reduceNeg, Int.reduceAdd, AH.SP, AH.PD, AV.inB, vstep]
  try simp
theorem rdZ_nil : (rdZ []).bad ≠ -1 := by decide
def rdlSt (d : Dk) (F T : Nat) (b : Int) (L : List ByteArray) (x : Nat × List ByteArray × Nat) : St := ⟨[(1, .slc 3 x.1 (L.length - x.1) none), (0, .ptr 2 0 0)], opM d F T b ((F + x.1 : Nat) : Int) (.slc 4 0 x.2.1.length none) ++ [some (.row false 1 (L.map strC)), some (.row false 1 (x.2.1.map strC))]⟩
theorem okRdl : CtxOK S0 (ctxU S0 [(23, nextT)] [(56, frdU)]) := ctxU_ok ⟨nextT_ok, trivial⟩ ⟨frdU_ok, trivial⟩ mixed
set_option maxHeartbeats 8000000 in
theorem lread_ok (d : Dk) (hd : d.ok) (F T : Nat) (b : Int) (hb : isBase b) (L : List ByteArray) (hFT : F + L.length = T) (hT : T ≤ d.L.length) : CallA1 S0 37 [.ptr 2 0 0, .slc 3 0 L.length none] (opM d F T b F .nils ++ [some (.row false 1 (L.map strC))])
    fun r m => r = .tup [] ∧ m = opM d F T b ((F + (logR L.length L (b + 1)).2 : Nat) : Int) (.slc 4 0 (logR L.length L (b + 1)).1.length none) ++ [some (.row false 1 (L.map strC)), some (.row false 1 ((logR L.length L (b + 1)).1.map strC))] := by
  have hL := hd.2.2.2
  refine CallA1.fin ?_
  refine fun_sound okRdl Tryd.func37 c37 ?_
  unfold wpF F37
  simp only [AH.SD, AH.SE, AOp.call?, AOp.next?, bstep, AV.cells, unAV, binAV, retQ, retV, AH.sliceElems, AH.bytesOf, AH.strOp, AH.bound, AH.missQ, AH.minmaxAV, AH.readOf, AH.effOf, Nat.reduceBEq, Nat.reduceAdd, Nat.reduceLT, ↓reduceIte, Nat.reduceEqDiff, Nat.reduceLeDiff, Nat.reduceSub, Nat.reduceMul, Int.reduceSub, Int.reduceToNat, Int.reduceBEq, Int.reduceBNe, Int.reduceLT, Int.reduceGT, Int.reduceLE, Int.reduceGE, Int.reduceNeg, Int.reduceAdd, AH.SP, AH.PD, AV.inB, vstep, vw, shift, newOnes, rowsM, blkIn, rwB, @flat_lts, AV.lt, AV.lts, Nat.sub_self, AH.SO, opM, List.cons_append, List.nil_append]
  refine loop_do [0, 1, 2, 3] [1, 0] [.cell 2 0 5 1] (α := Nat × List ByteArray × Nat) (fun x => L.length - x.1) (rdlSt d F T b L)
    (fun x => x.1 ≤ L.length ∧ x.2.1.length ≤ x.1 ∧ L.length - x.1 ≤ x.2.2 ∧ (logR L.length L (b + 1)) = (x.2.1 ++ (logR x.2.2 (L.drop x.1) (b + (x.2.1.length : Int) + 1)).1, x.1 + (logR x.2.2 (L.drop x.1) (b + (x.2.1.length : Int) + 1)).2)) (0, [], L.length)
    ⟨Nat.zero_le _, Nat.le_refl _, by simp, by simp⟩ (by simp only [AH.SD, AH.SE, AOp.call?, AOp.next?, bstep, AV.cells, unAV, binAV, retQ, retV, AH.sliceElems, AH.bytesOf, AH.strOp, AH.bound, AH.missQ, AH.minmaxAV, AH.readOf, AH.effOf, Nat.reduceBEq, Nat.reduceAdd, Nat.reduceLT, ↓reduceIte, Nat.reduceEqDiff, Nat.reduceLeDiff, Nat.reduceSub, Nat.reduceMul, Int.reduceSub, Int.reduceToNat, Int.reduceBEq, Int.reduceBNe, Int.reduceLT, Int.reduceGT, Int.reduceLE, Int.reduceGE, Int.reduceNeg, Int.reduceAdd, AH.SP, AH.PD, AV.inB, vstep, rdlSt, opM, Nat.sub_zero, Nat.add_zero, List.map_nil, List.length_nil, List.cons_append, List.nil_append]) ?_
  rintro X ⟨i, R, k⟩ ⟨hi, hRi, hk, hx⟩ ih
  simp only at hi hRi hk hx
  have hdl : (L.drop i).length = L.length - i := List.length_drop
  have hstop : ((rdZ (L.drop i)).bad ≠ -1 ∨ (rdZ (L.drop i)).q ≠ b + (R.length : Int) + 1) → logR L.length L (b + 1) = (R, i) := fun h => by
    rw [hx]
    cases k with
    | zero => simp [logR]
    | succ k =>
      unfold logR
      rw [if_neg (fun q => h.elim (fun z => z q.1) (fun z => z q.2))]
      simp
  simp only [AH.SD, AH.SE, AOp.call?, AOp.next?, bstep, AV.cells, unAV, binAV, retQ, retV, AH.sliceElems, AH.bytesOf, AH.strOp, AH.bound, AH.missQ, AH.minmaxAV, AH.readOf, AH.effOf, Nat.reduceBEq, Nat.reduceAdd, Nat.reduceLT, ↓reduceIte, Nat.reduceEqDiff, Nat.reduceLeDiff, Nat.reduceSub, Nat.reduceMul, Int.reduceSub, Int.reduceToNat, Int.reduceBEq, Int.reduceBNe, Int.reduceLT, Int.reduceGT, Int.reduceLE, Int.reduceGE, Int.reduceNeg, Int.reduceAdd, AH.SP, AH.PD, AV.inB, vstep, vw, shift, newOnes, rowsM, blkIn, rwB, @flat_lts, AV.lt, AV.lts, Nat.sub_self, AH.SO, rdlSt, opM, List.cons_append, List.nil_append]
  refine ⟨fun hgt => ?_, fun hgt => ?_⟩
  · have hin : i < L.length := by simp only [decide_eq_true_eq] at hgt; omega
    have hs : ((L.map strC).drop i).take (L.length - i) = (L.drop i).map strC := by
      rw [← List.map_drop]; exact List.take_of_length_le (by simp)
    have hle : i + (L.length - i) ≤ (L.map strC).length := by rw [List.length_map]; omega
    have hbd : L.length - i ≤ 1048576 := by omega
    have fG := fun (m : Mem) (hM : rowE (mget m) 3 = some (1, L.map strC)) (hg : (rdZ (L.drop i)).bad = -1) => frdU_good (p := none) hM hs hle hbd hg
    have fB := fun (m : Mem) (hM : rowE (mget m) 3 = some (1, L.map strC)) (hg : (rdZ (L.drop i)).bad ≠ -1) => frdU_bad (p := none) hM hs hle hbd hg
    by_cases hg : (rdZ (L.drop i)).bad = -1
    · obtain ⟨g1, g2, g3, g4, g5⟩ := rdZ_good hg
      rw [hdl] at g2
      obtain ⟨n, hn⟩ := Int.eq_ofNat_of_zero_le (show 0 ≤ (rdZ (L.drop i)).n by omega)
      have hn2 : (rdZ (L.drop i)).n.toNat = n := by omega
      have hok : (⟨d, F, T, b, ((F + i : Nat) : Int), R, false⟩ : Lg).ok := ⟨hd, hb, by simp only; omega, by simp only; omega, by simp only; omega, by simp only; omega, by simp only; omega⟩
      have hnx : (⟨d, F, T, b, ((F + i : Nat) : Int), R, false⟩ : Lg).next = b + (R.length : Int) + 1 := rfl
      cases hq : ((rdZ (L.drop i)).q != b + (R.length : Int) + 1)
      · have hq' : (rdZ (L.drop i)).q = b + (R.length : Int) + 1 := by simpa using hq
        obtain ⟨k', hk'⟩ : ∃ k', k = k' + 1 := ⟨k - 1, by omega⟩
        have e1 : IntKind.i64.wrap (((F + i : Nat) : Int) + (n : Int)) = ((F + (i + n) : Nat) : Int) := by rw [IntKind.wrap_i64]; omega
        have done := ih (i + n, R ++ [(rdZ (L.drop i)).t], k') ⟨by simp only; omega, by simp only [List.length_append, List.length_cons, List.length_nil]; omega, by simp only; omega, by
          rw [hx, hk']
          conv => lhs; unfold logR
          rw [if_pos ⟨hg, hq'⟩, hn2, List.drop_drop]
          simp only [List.length_append, List.length_cons, List.length_nil, List.append_assoc, List.singleton_append, Nat.zero_add]
          rw [show b + ((R.length + 1 : Nat) : Int) + 1 = b + (R.length : Int) + 1 + 1 by omega, Nat.add_assoc]⟩ (by simp only; omega)
        simp only [rdlSt, opM, List.cons_append, List.nil_append, List.map_append, List.map_cons, List.map_nil, List.length_append, List.length_cons, List.length_nil, Nat.zero_add, strC_eq, show L.length - (i + n) = L.length - i - n by omega] at done
        simp only [AH.SD, AH.SE, AOp.call?, AOp.next?, bstep, AV.cells, unAV, binAV, retQ, retV, AH.sliceElems, AH.bytesOf, AH.strOp, AH.bound, AH.missQ, AH.minmaxAV, AH.readOf, AH.effOf, Nat.reduceBEq, Nat.reduceAdd, Nat.reduceLT, ↓reduceIte, Nat.reduceEqDiff, Nat.reduceLeDiff, Nat.reduceSub, Nat.reduceMul, Int.reduceSub, Int.reduceToNat, Int.reduceBEq, Int.reduceBNe, Int.reduceLT, Int.reduceGT, Int.reduceLE, Int.reduceGE, Int.reduceNeg, Int.reduceAdd, AH.SP, AH.PD, AV.inB, vstep, vw, shift, newOnes, rowsM, blkIn, rwB, @flat_lts, AV.lt, AV.lts, Nat.sub_self, AH.SO, fG _ rowE3 hg, nextT_p, lgR_eq, lgU_eq, Lg.eta, ne4, Bool.not_false, Bool.and_self, if_true, dkR_eq, dkB_eq, Dk.eta, ne_eq, Nat.reduceEqDiff, Nat.zero_ne_one, not_false_eq_true, hok, hnx, hq, hn, e1, Int.toNat_natCast, List.length_map, List.drop_zero, take_all, List.length_append, List.length_cons, List.length_nil, Nat.zero_add]
        refine ⟨⟨by omega, by omega⟩, ⟨by omega, by omega, by omega⟩, ?_⟩
        refine gc_auto [0, 1, 2, 3, 6] [1, 0] [] ?_
        simp only [AH.SD, AH.SE, AOp.call?, AOp.next?, bstep, AV.cells, unAV, binAV, retQ, retV, AH.sliceElems, AH.bytesOf, AH.strOp, AH.bound, AH.missQ, AH.minmaxAV, AH.readOf, AH.effOf, Nat.reduceBEq, Nat.reduceAdd, Nat.reduceLT, ↓reduceIte, Nat.reduceEqDiff, Nat.reduceLeDiff, Nat.reduceSub, Nat.reduceMul, Int.reduceSub, Int.reduceToNat, Int.reduceBEq, Int.reduceBNe, Int.reduceLT, Int.reduceGT, Int.reduceLE, Int.reduceGE, Int.reduceNeg, Int.reduceAdd, AH.SP, AH.PD, AV.inB, vstep, List.length_append, List.length_map, List.length_cons, List.length_nil, Nat.zero_add]
        exact done
      · have e := hstop (.inr (by simpa using hq))
        simp only [AH.SD, AH.SE, AOp.call?, AOp.next?, bstep, AV.cells, unAV, binAV, retQ, retV, AH.sliceElems, AH.bytesOf, AH.strOp, AH.bound, AH.missQ, AH.minmaxAV, AH.readOf, AH.effOf, Nat.reduceBEq, Nat.reduceAdd, Nat.reduceLT, ↓reduceIte, Nat.reduceEqDiff, Nat.reduceLeDiff, Nat.reduceSub, Nat.reduceMul, Int.reduceSub, Int.reduceToNat, Int.reduceBEq, Int.reduceBNe, Int.reduceLT, Int.reduceGT, Int.reduceLE, Int.reduceGE, Int.reduceNeg, Int.reduceAdd, AH.SP, AH.PD, AV.inB, vstep, vw, shift, newOnes, rowsM, blkIn, rwB, @flat_lts, AV.lt, AV.lts, Nat.sub_self, AH.SO, fG _ rowE3 hg, nextT_p, lgR_eq, lgU_eq, Lg.eta, ne4, Bool.not_false, Bool.and_self, if_true, dkR_eq, dkB_eq, Dk.eta, ne_eq, Nat.reduceEqDiff, Nat.zero_ne_one, not_false_eq_true, hok, hnx, hq, hn, Int.toNat_natCast, List.length_map, List.drop_zero]
        refine ⟨[0, 1, 2, 3, 4], [], ?_⟩
        simp only [AH.SD, AH.SE, AOp.call?, AOp.next?, bstep, AV.cells, unAV, binAV, retQ, retV, AH.sliceElems, AH.bytesOf, AH.strOp, AH.bound, AH.missQ, AH.minmaxAV, AH.readOf, AH.effOf, Nat.reduceBEq, Nat.reduceAdd, Nat.reduceLT, ↓reduceIte, Nat.reduceEqDiff, Nat.reduceLeDiff, Nat.reduceSub, Nat.reduceMul, Int.reduceSub, Int.reduceToNat, Int.reduceBEq, Int.reduceBNe, Int.reduceLT, Int.reduceGT, Int.reduceLE, Int.reduceGE, Int.reduceNeg, Int.reduceAdd, AH.SP, AH.PD, AV.inB, vstep, e]
        try simp
    · have e := hstop (.inl hg)
      simp only [AH.SD, AH.SE, AOp.call?, AOp.next?, bstep, AV.cells, unAV, binAV, retQ, retV, AH.sliceElems, AH.bytesOf, AH.strOp, AH.bound, AH.missQ, AH.minmaxAV, AH.readOf, AH.effOf, Nat.reduceBEq, Nat.reduceAdd, Nat.reduceLT, ↓reduceIte, Nat.reduceEqDiff, Nat.reduceLeDiff, Nat.reduceSub, Nat.reduceMul, Int.reduceSub, Int.reduceToNat, Int.reduceBEq, Int.reduceBNe, Int.reduceLT, Int.reduceGT, Int.reduceLE, Int.reduceGE, Int.reduceNeg, Int.reduceAdd, AH.SP, AH.PD, AV.inB, vstep, vw, shift, newOnes, rowsM, blkIn, rwB, @flat_lts, AV.lt, AV.lts, Nat.sub_self, AH.SO, fB _ rowE3 hg, wrM, List.cons_append, List.nil_append, List.length_cons, List.length_nil]
      refine ⟨[0, 1, 2, 3, 4], [], ?_⟩
      simp only [AH.SD, AH.SE, AOp.call?, AOp.next?, bstep, AV.cells, unAV, binAV, retQ, retV, AH.sliceElems, AH.bytesOf, AH.strOp, AH.bound, AH.missQ, AH.minmaxAV, AH.readOf, AH.effOf, Nat.reduceBEq, Nat.reduceAdd, Nat.reduceLT, ↓reduceIte, Nat.reduceEqDiff, Nat.reduceLeDiff, Nat.reduceSub, Nat.reduceMul, Int.reduceSub, Int.reduceToNat, Int.reduceBEq, Int.reduceBNe, Int.reduceLT, Int.reduceGT, Int.reduceLE, Int.reduceGE, Int.reduceNeg, Int.reduceAdd, AH.SP, AH.PD, AV.inB, vstep, e]
      try simp
  · have : i = L.length := by simp only [decide_eq_false_iff_not] at hgt; omega
    subst this
    have e := hstop (.inl (by rw [List.drop_length]; exact rdZ_nil))
    simp only [AH.SD, AH.SE, AOp.call?, AOp.next?, bstep, AV.cells, unAV, binAV, retQ, retV, AH.sliceElems, AH.bytesOf, AH.strOp, AH.bound, AH.missQ, AH.minmaxAV, AH.readOf, AH.effOf, Nat.reduceBEq, Nat.reduceAdd, Nat.reduceLT, ↓reduceIte, Nat.reduceEqDiff, Nat.reduceLeDiff, Nat.reduceSub, Nat.reduceMul, Int.reduceSub, Int.reduceToNat, Int.reduceBEq, Int.reduceBNe, Int.reduceLT, Int.reduceGT, Int.reduceLE, Int.reduceGE, Int.reduceNeg, Int.reduceAdd, AH.SP, AH.PD, AV.inB, vstep, vw, shift, newOnes, rowsM, blkIn, rwB, @flat_lts, AV.lt, AV.lts, Nat.sub_self, AH.SO]
    refine ⟨[0, 1, 2, 3, 4], [], ?_⟩
    simp only [AH.SD, AH.SE, AOp.call?, AOp.next?, bstep, AV.cells, unAV, binAV, retQ, retV, AH.sliceElems, AH.bytesOf, AH.strOp, AH.bound, AH.missQ, AH.minmaxAV, AH.readOf, AH.effOf, Nat.reduceBEq, Nat.reduceAdd, Nat.reduceLT, ↓reduceIte, Nat.reduceEqDiff, Nat.reduceLeDiff, Nat.reduceSub, Nat.reduceMul, Int.reduceSub, Int.reduceToNat, Int.reduceBEq, Int.reduceBNe, Int.reduceLT, Int.reduceGT, Int.reduceLE, Int.reduceGE, Int.reduceNeg, Int.reduceAdd, AH.SP, AH.PD, AV.inB, vstep, e]
    try simp
def opnZ (d : Dk) (f t b : Int) : Nat × Lg :=
  if f < 0 ∨ t ≤ f ∨ t > (d.L.length : Int) ∨ ¬ isBase b then (1, ⟨d, f, t, b, f, [], false⟩) else
  if d.away = true then (14, ⟨d, f, t, b, f, [], false⟩) else
  ((wipeD d (t.toNat - (f.toNat + (logR (t - f).toNat ((d.L.drop f.toNat).take (t - f).toNat) (b + 1)).2)) (f.toNat + (logR (t - f).toNat ((d.L.drop f.toNat).take (t - f).toNat) (b + 1)).2)).1,
   ⟨(wipeD d (t.toNat - (f.toNat + (logR (t - f).toNat ((d.L.drop f.toNat).take (t - f).toNat) (b + 1)).2)) (f.toNat + (logR (t - f).toNat ((d.L.drop f.toNat).take (t - f).toNat) (b + 1)).2)).2, f, t, b, ((f.toNat + (logR (t - f).toNat ((d.L.drop f.toNat).take (t - f).toNat) (b + 1)).2 : Nat) : Int), (logR (t - f).toNat ((d.L.drop f.toNat).take (t - f).toNat) (b + 1)).1, false⟩)
def opnA (x : Nat × Lg) : AV := if x.1 = 0 then .tup [.ptr 2 0 0, .nili] else .tup [.nilp, errA x.1]
def opnM (x : Nat × Lg) : Mem := if x.1 = 0 then opM x.2.d x.2.f x.2.t x.2.b x.2.a (.slc 3 0 x.2.R.length none) ++ [some (.row false 1 (x.2.R.map strC))] else dkM x.2.d
noncomputable abbrev tOp : List (FuncId × RT) := [(34, lenT), (35, isBaseT)]
theorem okOp : CtxOK S0 (ctxE S0 tOp [] [(38, wipeT)]) := ctxE_ok ⟨lenT_ok, isBaseT_ok, trivial⟩ trivial ⟨wipeT_ok, trivial⟩ mixed
set_option maxHeartbeats 8000000 in
theorem open_ok (d : Dk) (hd : d.ok) (f t b : Int) : CallA1 S0 9 [.ptr 0 0 0, .int .i64 f, .int .i64 t, .int .i64 b] (dkM d) fun r m => r = opnA (opnZ d f t b) ∧ m = opnM (opnZ d f t b) := by
  have hL := hd.2.2.2
  refine CallA1.fin ?_
  refine fun_sound okOp Tryd.func9 c9 ?_
  unfold wpF F9
  have bad : (f < 0 ∨ t ≤ f ∨ t > (d.L.length : Int) ∨ ¬ isBase b) → opnA (opnZ d f t b) = .tup [.nilp, .err 1] ∧ opnM (opnZ d f t b) = dkM d := fun h => by
    have e : opnZ d f t b = (1, ⟨d, f, t, b, f, [], false⟩) := by unfold opnZ; rw [if_pos h]
    rw [e]; exact ⟨rfl, rfl⟩
  cases c1 : decide (f < 0)
  rotate_left
  · obtain ⟨e1, e2⟩ := bad (.inl (by simpa using c1))
    simp only [AH.SD, AH.SE, AOp.call?, AOp.next?, bstep, AV.cells, unAV, binAV, retQ, retV, AH.sliceElems, AH.bytesOf, AH.strOp, AH.bound, AH.missQ, AH.minmaxAV, AH.readOf, AH.effOf, Nat.reduceBEq, Nat.reduceAdd, Nat.reduceLT, ↓reduceIte, Nat.reduceEqDiff, Nat.reduceLeDiff, Nat.reduceSub, Nat.reduceMul, Int.reduceSub, Int.reduceToNat, Int.reduceBEq, Int.reduceBNe, Int.reduceLT, Int.reduceGT, Int.reduceLE, Int.reduceGE, Int.reduceNeg, Int.reduceAdd, AH.SP, AH.PD, AV.inB, vstep, vw, shift, newOnes, rowsM, blkIn, rwB, @flat_lts, AV.lt, AV.lts, Nat.sub_self, AH.SO, dkM, c1]
    repeat ((with_reducible refine And.intro ?_ ?_); focus (first | rfl | decide | omega | (simp only [List.length_map, and_true]; omega) | (simp only [List.length_map, List.length_set, and_true]; omega)))
    refine ⟨[0, 1], [], ?_⟩
    simp only [AH.SD, AH.SE, AOp.call?, AOp.next?, bstep, AV.cells, unAV, binAV, retQ, retV, AH.sliceElems, AH.bytesOf, AH.strOp, AH.bound, AH.missQ, AH.minmaxAV, AH.readOf, AH.effOf, Nat.reduceBEq, Nat.reduceAdd, Nat.reduceLT, ↓reduceIte, Nat.reduceEqDiff, Nat.reduceLeDiff, Nat.reduceSub, Nat.reduceMul, Int.reduceSub, Int.reduceToNat, Int.reduceBEq, Int.reduceBNe, Int.reduceLT, Int.reduceGT, Int.reduceLE, Int.reduceGE, Int.reduceNeg, Int.reduceAdd, AH.SP, AH.PD, AV.inB, vstep, e1, e2, dkM]
    try simp
  cases c2 : decide (t ≤ f)
  rotate_left
  · obtain ⟨e1, e2⟩ := bad (.inr (.inl (by simpa using c2)))
    simp only [AH.SD, AH.SE, AOp.call?, AOp.next?, bstep, AV.cells, unAV, binAV, retQ, retV, AH.sliceElems, AH.bytesOf, AH.strOp, AH.bound, AH.missQ, AH.minmaxAV, AH.readOf, AH.effOf, Nat.reduceBEq, Nat.reduceAdd, Nat.reduceLT, ↓reduceIte, Nat.reduceEqDiff, Nat.reduceLeDiff, Nat.reduceSub, Nat.reduceMul, Int.reduceSub, Int.reduceToNat, Int.reduceBEq, Int.reduceBNe, Int.reduceLT, Int.reduceGT, Int.reduceLE, Int.reduceGE, Int.reduceNeg, Int.reduceAdd, AH.SP, AH.PD, AV.inB, vstep, vw, shift, newOnes, rowsM, blkIn, rwB, @flat_lts, AV.lt, AV.lts, Nat.sub_self, AH.SO, dkM, c1, c2]
    repeat ((with_reducible refine And.intro ?_ ?_); focus (first | rfl | decide | omega | (simp only [List.length_map, and_true]; omega) | (simp only [List.length_map, List.length_set, and_true]; omega)))
    refine ⟨[0, 1], [], ?_⟩
    simp only [AH.SD, AH.SE, AOp.call?, AOp.next?, bstep, AV.cells, unAV, binAV, retQ, retV, AH.sliceElems, AH.bytesOf, AH.strOp, AH.bound, AH.missQ, AH.minmaxAV, AH.readOf, AH.effOf, Nat.reduceBEq, Nat.reduceAdd, Nat.reduceLT, ↓reduceIte, Nat.reduceEqDiff, Nat.reduceLeDiff, Nat.reduceSub, Nat.reduceMul, Int.reduceSub, Int.reduceToNat, Int.reduceBEq, Int.reduceBNe, Int.reduceLT, Int.reduceGT, Int.reduceLE, Int.reduceGE, Int.reduceNeg, Int.reduceAdd, AH.SP, AH.PD, AV.inB, vstep, e1, e2, dkM]
    try simp
  cases c3 : decide (t > (d.L.length : Int))
  rotate_left
  · obtain ⟨e1, e2⟩ := bad (.inr (.inr (.inl (by simpa using c3))))
    simp only [AH.SD, AH.SE, AOp.call?, AOp.next?, bstep, AV.cells, unAV, binAV, retQ, retV, AH.sliceElems, AH.bytesOf, AH.strOp, AH.bound, AH.missQ, AH.minmaxAV, AH.readOf, AH.effOf, Nat.reduceBEq, Nat.reduceAdd, Nat.reduceLT, ↓reduceIte, Nat.reduceEqDiff, Nat.reduceLeDiff, Nat.reduceSub, Nat.reduceMul, Int.reduceSub, Int.reduceToNat, Int.reduceBEq, Int.reduceBNe, Int.reduceLT, Int.reduceGT, Int.reduceLE, Int.reduceGE, Int.reduceNeg, Int.reduceAdd, AH.SP, AH.PD, AV.inB, vstep, vw, shift, newOnes, rowsM, blkIn, rwB, @flat_lts, AV.lt, AV.lts, Nat.sub_self, AH.SO, dkM, c1, c2, lenT_p, lgR_eq, lgU_eq, Lg.eta, ne4, Bool.not_false, Bool.and_self, if_true, dkR_eq, dkB_eq, Dk.eta, ne_eq, Nat.reduceEqDiff, Nat.zero_ne_one, not_false_eq_true, c3]
    repeat ((with_reducible refine And.intro ?_ ?_); focus (first | rfl | decide | omega | (simp only [List.length_map, and_true]; omega) | (simp only [List.length_map, List.length_set, and_true]; omega)))
    refine ⟨[0, 1], [], ?_⟩
    simp only [AH.SD, AH.SE, AOp.call?, AOp.next?, bstep, AV.cells, unAV, binAV, retQ, retV, AH.sliceElems, AH.bytesOf, AH.strOp, AH.bound, AH.missQ, AH.minmaxAV, AH.readOf, AH.effOf, Nat.reduceBEq, Nat.reduceAdd, Nat.reduceLT, ↓reduceIte, Nat.reduceEqDiff, Nat.reduceLeDiff, Nat.reduceSub, Nat.reduceMul, Int.reduceSub, Int.reduceToNat, Int.reduceBEq, Int.reduceBNe, Int.reduceLT, Int.reduceGT, Int.reduceLE, Int.reduceGE, Int.reduceNeg, Int.reduceAdd, AH.SP, AH.PD, AV.inB, vstep, e1, e2, dkM]
    try simp
  cases c4 : decide (isBase b)
  · obtain ⟨e1, e2⟩ := bad (.inr (.inr (.inr (by simpa using c4))))
    simp only [AH.SD, AH.SE, AOp.call?, AOp.next?, bstep, AV.cells, unAV, binAV, retQ, retV, AH.sliceElems, AH.bytesOf, AH.strOp, AH.bound, AH.missQ, AH.minmaxAV, AH.readOf, AH.effOf, Nat.reduceBEq, Nat.reduceAdd, Nat.reduceLT, ↓reduceIte, Nat.reduceEqDiff, Nat.reduceLeDiff, Nat.reduceSub, Nat.reduceMul, Int.reduceSub, Int.reduceToNat, Int.reduceBEq, Int.reduceBNe, Int.reduceLT, Int.reduceGT, Int.reduceLE, Int.reduceGE, Int.reduceNeg, Int.reduceAdd, AH.SP, AH.PD, AV.inB, vstep, vw, shift, newOnes, rowsM, blkIn, rwB, @flat_lts, AV.lt, AV.lts, Nat.sub_self, AH.SO, dkM, c1, c2, lenT_p, lgR_eq, lgU_eq, Lg.eta, ne4, Bool.not_false, Bool.and_self, if_true, dkR_eq, dkB_eq, Dk.eta, ne_eq, Nat.reduceEqDiff, Nat.zero_ne_one, not_false_eq_true, c3, isBaseT_p, c4]
    repeat ((with_reducible refine And.intro ?_ ?_); focus (first | rfl | decide | omega | (simp only [List.length_map, and_true]; omega) | (simp only [List.length_map, List.length_set, and_true]; omega)))
    refine ⟨[0, 1], [], ?_⟩
    simp only [AH.SD, AH.SE, AOp.call?, AOp.next?, bstep, AV.cells, unAV, binAV, retQ, retV, AH.sliceElems, AH.bytesOf, AH.strOp, AH.bound, AH.missQ, AH.minmaxAV, AH.readOf, AH.effOf, Nat.reduceBEq, Nat.reduceAdd, Nat.reduceLT, ↓reduceIte, Nat.reduceEqDiff, Nat.reduceLeDiff, Nat.reduceSub, Nat.reduceMul, Int.reduceSub, Int.reduceToNat, Int.reduceBEq, Int.reduceBNe, Int.reduceLT, Int.reduceGT, Int.reduceLE, Int.reduceGE, Int.reduceNeg, Int.reduceAdd, AH.SP, AH.PD, AV.inB, vstep, e1, e2, dkM]
    try simp
  clear bad
  have k1 : 0 ≤ f := by simp only [decide_eq_false_iff_not] at c1; omega
  have k2 : f < t := by simp only [decide_eq_false_iff_not] at c2; omega
  have k3 : t ≤ (d.L.length : Int) := by simp only [decide_eq_false_iff_not] at c3; omega
  have k4 : isBase b := by simpa using c4
  have hno : ¬ (f < 0 ∨ t ≤ f ∨ t > (d.L.length : Int) ∨ ¬ isBase b) := by
    rintro (h | h | h | h)
    · omega
    · omega
    · omega
    · exact h k4
  obtain ⟨F, rfl⟩ := Int.eq_ofNat_of_zero_le k1
  obtain ⟨T, rfl⟩ := Int.eq_ofNat_of_zero_le (show 0 ≤ t by omega)
  simp only [AH.SD, AH.SE, AOp.call?, AOp.next?, bstep, AV.cells, unAV, binAV, retQ, retV, AH.sliceElems, AH.bytesOf, AH.strOp, AH.bound, AH.missQ, AH.minmaxAV, AH.readOf, AH.effOf, Nat.reduceBEq, Nat.reduceAdd, Nat.reduceLT, ↓reduceIte, Nat.reduceEqDiff, Nat.reduceLeDiff, Nat.reduceSub, Nat.reduceMul, Int.reduceSub, Int.reduceToNat, Int.reduceBEq, Int.reduceBNe, Int.reduceLT, Int.reduceGT, Int.reduceLE, Int.reduceGE, Int.reduceNeg, Int.reduceAdd, AH.SP, AH.PD, AV.inB, vstep, vw, shift, newOnes, rowsM, blkIn, rwB, @flat_lts, AV.lt, AV.lts, Nat.sub_self, AH.SO, dkM, c1, c2, lenT_p, lgR_eq, lgU_eq, Lg.eta, ne4, Bool.not_false, Bool.and_self, if_true, dkR_eq, dkB_eq, Dk.eta, ne_eq, Nat.reduceEqDiff, Nat.zero_ne_one, not_false_eq_true, c3, isBaseT_p, c4]
  have eM : opM d F T b F .nils = [some (.row false 5 [[.slc 1 0 d.L.length none, .bool d.away, .int .i64 d.fuse, .int .i64 d.torn, .int .i64 d.writes]]), some (.row false 1 (d.L.map strC)),
    some (.row false 7 [[.ptr 0 0 0, .int .i64 F, .int .i64 T, .int .i64 b, .int .i64 F, .nils, .bool false]])] := rfl
  rw [← eM]
  by_cases ha : d.away = true
  · have e : opnZ d F T b = (14, ⟨d, F, T, b, F, [], false⟩) := by unfold opnZ; rw [if_neg hno, if_pos ha]
    refine (blocks_off d hd ha F T b (by omega) (by omega)).mono ?_
    rintro r m ⟨rfl, rfl⟩
    simp only [AH.SD, AH.SE, AOp.call?, AOp.next?, bstep, AV.cells, unAV, binAV, retQ, retV, AH.sliceElems, AH.bytesOf, AH.strOp, AH.bound, AH.missQ, AH.minmaxAV, AH.readOf, AH.effOf, Nat.reduceBEq, Nat.reduceAdd, Nat.reduceLT, ↓reduceIte, Nat.reduceEqDiff, Nat.reduceLeDiff, Nat.reduceSub, Nat.reduceMul, Int.reduceSub, Int.reduceToNat, Int.reduceBEq, Int.reduceBNe, Int.reduceLT, Int.reduceGT, Int.reduceLE, Int.reduceGE, Int.reduceNeg, Int.reduceAdd, AH.SP, AH.PD, AV.inB, vstep, vw, shift, newOnes, rowsM, blkIn, rwB, @flat_lts, AV.lt, AV.lts, Nat.sub_self, AH.SO, opM, errA_nil, errA14]
    refine ⟨[0, 1], [], ?_⟩
    simp only [AH.SD, AH.SE, AOp.call?, AOp.next?, bstep, AV.cells, unAV, binAV, retQ, retV, AH.sliceElems, AH.bytesOf, AH.strOp, AH.bound, AH.missQ, AH.minmaxAV, AH.readOf, AH.effOf, Nat.reduceBEq, Nat.reduceAdd, Nat.reduceLT, ↓reduceIte, Nat.reduceEqDiff, Nat.reduceLeDiff, Nat.reduceSub, Nat.reduceMul, Int.reduceSub, Int.reduceToNat, Int.reduceBEq, Int.reduceBNe, Int.reduceLT, Int.reduceGT, Int.reduceLE, Int.reduceGE, Int.reduceNeg, Int.reduceAdd, AH.SP, AH.PD, AV.inB, vstep, e, opnA, opnM, errA14, dkM, show ¬ ((14 : Nat) = 0) by decide, if_false]
    try simp
  · have ha' : d.away = false := by simpa using ha
    have hLn : ((d.L.drop F).take (T - F)).length = T - F := by rw [List.length_take, List.length_drop]; omega
    refine (blocks_on d hd ha' F T b (by omega) (by omega)).mono ?_
    rintro r m ⟨rfl, rfl⟩
    have ee : opnZ d F T b = ((wipeD d (T - (F + (logR (T - F) ((d.L.drop F).take (T - F)) (b + 1)).2)) (F + (logR (T - F) ((d.L.drop F).take (T - F)) (b + 1)).2)).1,
      ⟨(wipeD d (T - (F + (logR (T - F) ((d.L.drop F).take (T - F)) (b + 1)).2)) (F + (logR (T - F) ((d.L.drop F).take (T - F)) (b + 1)).2)).2, F, T, b, ((F + (logR (T - F) ((d.L.drop F).take (T - F)) (b + 1)).2 : Nat) : Int), (logR (T - F) ((d.L.drop F).take (T - F)) (b + 1)).1, false⟩) := by
      unfold opnZ; rw [if_neg hno, if_neg ha]
      simp only [Int.toNat_natCast, show ((T : Int) - (F : Int)).toNat = T - F by omega]
    obtain ⟨z1, z2, _⟩ := logR_le (T - F) ((d.L.drop F).take (T - F)) (b + 1)
    have hrd := lread_ok d hd F T b k4 ((d.L.drop F).take (T - F)) (by omega) (by omega)
    rw [hLn] at hrd z1
    generalize hx : logR (T - F) ((d.L.drop F).take (T - F)) (b + 1) = x at *
    generalize (d.L.drop F).take (T - F) = B at *
    simp only [AH.SD, AH.SE, AOp.call?, AOp.next?, bstep, AV.cells, unAV, binAV, retQ, retV, AH.sliceElems, AH.bytesOf, AH.strOp, AH.bound, AH.missQ, AH.minmaxAV, AH.readOf, AH.effOf, Nat.reduceBEq, Nat.reduceAdd, Nat.reduceLT, ↓reduceIte, Nat.reduceEqDiff, Nat.reduceLeDiff, Nat.reduceSub, Nat.reduceMul, Int.reduceSub, Int.reduceToNat, Int.reduceBEq, Int.reduceBNe, Int.reduceLT, Int.reduceGT, Int.reduceLE, Int.reduceGE, Int.reduceNeg, Int.reduceAdd, AH.SP, AH.PD, AV.inB, vstep, vw, shift, newOnes, rowsM, blkIn, rwB, @flat_lts, AV.lt, AV.lts, Nat.sub_self, AH.SO, errA_nil]
    have key : ∀ (K : AV → Mem → Prop), K (.tup []) (opM d F T b ((F + x.2 : Nat) : Int) (.slc 4 0 x.1.length none) ++ [some (.row false 1 (B.map strC)), some (.row false 1 (x.1.map strC))]) → CallA1 S0 37 [.ptr 2 0 0, .slc 3 0 (T - F) none] (opM d F T b F .nils ++ [some (.row false 1 (B.map strC))]) K := fun K hK =>
      hrd.mono fun v m' ⟨h1, h2⟩ => by rw [h1, h2]; exact hK
    refine key _ ?_
    have hok : (⟨d, F, T, b, ((F + x.2 : Nat) : Int), x.1, false⟩ : Lg).ok := ⟨hd, k4, by simp only; omega, by simp only; omega, by simp only; omega, by simp only; omega, by simp only; omega⟩
    have h0 : (0 : Int) ≤ ((F + x.2 : Nat) : Int) := by omega
    have h1 : ((F + x.2 : Nat) : Int) ≤ (T : Int) := by omega
    have w1 : ((T : Int) - ((F + x.2 : Nat) : Int)).toNat = T - (F + x.2) := by omega
    have hkd := wipe_kind (T - (F + x.2)) (d := d) (F + x.2) (by omega)
    rcases hkd with hkd | hkd
    · simp only [AH.SD, AH.SE, AOp.call?, AOp.next?, bstep, AV.cells, unAV, binAV, retQ, retV, AH.sliceElems, AH.bytesOf, AH.strOp, AH.bound, AH.missQ, AH.minmaxAV, AH.readOf, AH.effOf, Nat.reduceBEq, Nat.reduceAdd, Nat.reduceLT, ↓reduceIte, Nat.reduceEqDiff, Nat.reduceLeDiff, Nat.reduceSub, Nat.reduceMul, Int.reduceSub, Int.reduceToNat, Int.reduceBEq, Int.reduceBNe, Int.reduceLT, Int.reduceGT, Int.reduceLE, Int.reduceGE, Int.reduceNeg, Int.reduceAdd, AH.SP, AH.PD, AV.inB, vstep, vw, shift, newOnes, rowsM, blkIn, rwB, @flat_lts, AV.lt, AV.lts, Nat.sub_self, AH.SO, opM, List.cons_append, List.nil_append, lgR_eq, lgU_eq, Lg.eta, ne4, Bool.not_false, Bool.and_self, if_true, dkR_eq, dkB_eq, Dk.eta, ne_eq, Nat.reduceEqDiff, Nat.zero_ne_one, not_false_eq_true, wipeT_p, hok, h0, h1, w1, Int.toNat_natCast, hkd, errA_nil, errA0, lgM]
      refine ⟨[0, 1, 2, 4], [], ?_⟩
      simp only [AH.SD, AH.SE, AOp.call?, AOp.next?, bstep, AV.cells, unAV, binAV, retQ, retV, AH.sliceElems, AH.bytesOf, AH.strOp, AH.bound, AH.missQ, AH.minmaxAV, AH.readOf, AH.effOf, Nat.reduceBEq, Nat.reduceAdd, Nat.reduceLT, ↓reduceIte, Nat.reduceEqDiff, Nat.reduceLeDiff, Nat.reduceSub, Nat.reduceMul, Int.reduceSub, Int.reduceToNat, Int.reduceBEq, Int.reduceBNe, Int.reduceLT, Int.reduceGT, Int.reduceLE, Int.reduceGE, Int.reduceNeg, Int.reduceAdd, AH.SP, AH.PD, AV.inB, vstep, ee, hkd, opnA, opnM, opM, errA0, List.cons_append, List.nil_append]
      try simp
    · simp only [AH.SD, AH.SE, AOp.call?, AOp.next?, bstep, AV.cells, unAV, binAV, retQ, retV, AH.sliceElems, AH.bytesOf, AH.strOp, AH.bound, AH.missQ, AH.minmaxAV, AH.readOf, AH.effOf, Nat.reduceBEq, Nat.reduceAdd, Nat.reduceLT, ↓reduceIte, Nat.reduceEqDiff, Nat.reduceLeDiff, Nat.reduceSub, Nat.reduceMul, Int.reduceSub, Int.reduceToNat, Int.reduceBEq, Int.reduceBNe, Int.reduceLT, Int.reduceGT, Int.reduceLE, Int.reduceGE, Int.reduceNeg, Int.reduceAdd, AH.SP, AH.PD, AV.inB, vstep, vw, shift, newOnes, rowsM, blkIn, rwB, @flat_lts, AV.lt, AV.lts, Nat.sub_self, AH.SO, opM, List.cons_append, List.nil_append, lgR_eq, lgU_eq, Lg.eta, ne4, Bool.not_false, Bool.and_self, if_true, dkR_eq, dkB_eq, Dk.eta, ne_eq, Nat.reduceEqDiff, Nat.zero_ne_one, not_false_eq_true, wipeT_p, hok, h0, h1, w1, Int.toNat_natCast, hkd, errA_nil, errA14, lgM]
      refine ⟨[0, 1], [], ?_⟩
      simp only [AH.SD, AH.SE, AOp.call?, AOp.next?, bstep, AV.cells, unAV, binAV, retQ, retV, AH.sliceElems, AH.bytesOf, AH.strOp, AH.bound, AH.missQ, AH.minmaxAV, AH.readOf, AH.effOf, Nat.reduceBEq, Nat.reduceAdd, Nat.reduceLT, ↓reduceIte, Nat.reduceEqDiff, Nat.reduceLeDiff, Nat.reduceSub, Nat.reduceMul, Int.reduceSub, Int.reduceToNat, Int.reduceBEq, Int.reduceBNe, Int.reduceLT, Int.reduceGT, Int.reduceLE, Int.reduceGE, Int.reduceNeg, Int.reduceAdd, AH.SP, AH.PD, AV.inB, vstep, ee, hkd, opnA, opnM, dkM, errA14, show ¬ ((14 : Nat) = 0) by decide, if_false]
      try simp
end Go.Proofs.YthapdikdeoeplaaDoor.H6
end
section
set_option linter.unusedVariables false
set_option linter.unnecessarySimpa false
open Go AH
set_option linter.unusedSimpArgs false
set_option maxRecDepth 100000
namespace Go.Proofs.YthapdikdeoeplaaDoor.H6
theorem catS_nil : catS [] = ⟨#[]⟩ := rfl
theorem catS_snoc (l : List ByteArray) (x : ByteArray) : catS (l ++ [x]) = catS l ++ x := by
  apply ByteArray.ext
  simp [catS]
theorem catS_app (a b : List ByteArray) : catS (a ++ b) = catS a ++ catS b := by
  apply ByteArray.ext
  simp [catS]
theorem catS_le {L : List ByteArray} {m : Nat} (h : ∀ s ∈ L, s.size ≤ m) : (catS L).size ≤ L.length * m := by
  have := flat_len (m := m) (L.map (·.data.toList)) fun x hx => by
    obtain ⟨s, hs, rfl⟩ := List.mem_map.1 hx
    have := h s hs
    rw [Array.length_toList]; exact this
  rw [List.length_map] at this
  simpa [catS, ByteArray.size] using this
theorem okL0 : CtxOK S0 (ctxU S0 [] []) := ctxU_ok trivial trivial mixed
theorem repS_list (k : Nat) : (⟨(List.replicate k (0 : UInt8)).toArray⟩ : ByteArray) = repS ⟨#[0]⟩ k := by
  have : ∀ k, Lib.repeatL [(0 : UInt8)] k = List.replicate k 0 := by
    intro k
    induction k with
    | zero => rfl
    | succ n ih => rw [Lib.repeatL, ih, List.replicate_succ]; rfl
  show _ = (⟨(Lib.repeatL [(0 : UInt8)] k).toArray⟩ : ByteArray)
  rw [this]
theorem opnM_len (x : Nat × Lg) : 2 ≤ (opnM x).length ∧ ((opnM x).drop 2).all rwB = true := by
  unfold opnM
  split
  · exact ⟨by simp [opM], rfl⟩
  · exact ⟨by simp [dkM], rfl⟩
def opnT : ET := etO dkO (cC (aI .i64) (cC (aI .i64) (cC (aI .i64) c0))) fun d x => if d.ok then some (opnA (opnZ d x.1 x.2.1 x.2.2.1), opnM (opnZ d x.1 x.2.1 x.2.2.1)) else none
theorem opnT_ok : EffF S0 9 opnT := etO_ok fun d x v m' h => by
  split at h
  · rename_i hd
    simp only [Option.some.injEq, Prod.mk.injEq] at h
    obtain ⟨rfl, rfl⟩ := h
    exact ⟨opnM_len _, open_ok d hd x.1 x.2.1 x.2.2.1⟩
  · cases h
theorem opnT_p {p n : Nat} {f t b : Int} {M : Nat → Option Blk} : opnT [.ptr p 0 0, .int .i64 f, .int .i64 t, .int .i64 b] M n = etO2 n (fun d (x : Int × Int × Int × Unit) => if d.ok then some (opnA (opnZ d x.1 x.2.1 x.2.2.1), opnM (opnZ d x.1 x.2.1 x.2.2.1)) else none) (dkR M p (M p)) (some (f, t, b, ())) := by
  simp only [opnT, etO_eq, cC_dec, aI_dec, c0_dec, pairO_some, dkO_dec]
theorem open_nil (f t b : Int) : Pure S0 9 [.nilp, .int .i64 f, .int .i64 t, .int .i64 b] (.tup [.nilp, errA 2]) := by
  refine fun_sound okOp Tryd.func9 c9 ?_
  unfold wpF F9
  simp only [AH.SD, AH.SE, AOp.call?, AOp.next?, bstep, AV.cells, unAV, binAV, retQ, retV, AH.sliceElems, AH.bytesOf, AH.strOp, AH.bound, AH.missQ, AH.minmaxAV, AH.readOf, AH.effOf, Nat.reduceBEq, Nat.reduceAdd, Nat.reduceLT, ↓reduceIte, Nat.reduceEqDiff, Nat.reduceLeDiff, Nat.reduceSub, Nat.reduceMul, Int.reduceSub, Int.reduceToNat, Int.reduceBEq, Int.reduceBNe, Int.reduceLT, Int.reduceGT, Int.reduceLE, Int.reduceGE, Int.reduceNeg, Int.reduceAdd, errA2]
  repeat ((with_reducible refine And.intro ?_ ?_); focus (first | rfl | decide | omega | (simp only [List.length_map, and_true]; omega) | (simp only [List.length_map, List.length_set, and_true]; omega)))
  try trivial
def opnN : RT := rtP (cC aNil (cC (aI .i64) (cC (aI .i64) (cC (aI .i64) c0)))) fun _ => .tup [.nilp, errA 2]
theorem opnN_ok : ReadF S0 9 opnN := rtP_ok (fun x => open_nil x.2.1 x.2.2.1 x.2.2.2.1) fun _ => rfl
theorem opnN_n {f t b : Int} {M : Nat → Option Blk} : opnN [.nilp, .int .i64 f, .int .i64 t, .int .i64 b] M = some (.tup [.nilp, errA 2], []) := by
  simp only [opnN, rtP, cC_dec, aNil_dec, aI_dec, c0_dec, pairO_some, Option.map_some]
theorem opnN_p {p : Nat} {f t b : Int} {M : Nat → Option Blk} : opnN [.ptr p 0 0, .int .i64 f, .int .i64 t, .int .i64 b] M = none := by
  simp only [opnN, rtP, cC_dec, aNil_ptr, pairO_none, Option.map_none]
theorem opnT_n {n : Nat} {f t b : Int} {M : Nat → Option Blk} : opnT [.nilp, .int .i64 f, .int .i64 t, .int .i64 b] M n = none := rfl
end Go.Proofs.YthapdikdeoeplaaDoor.H6
end
section
set_option linter.unusedVariables false
set_option linter.unnecessarySimpa false
open Go AH
set_option linter.unusedSimpArgs false
set_option maxRecDepth 100000
namespace Go.Proofs.YthapdikdeoeplaaDoor.H6
def dOn (L : List ByteArray) (w : Int) : Dk := ⟨L, false, -1, 0, w⟩
theorem dOn_ok {L : List ByteArray} {w : Int} (h : ∀ s ∈ L, s.size = 64) (hl : L.length ≤ 4096) : (dOn L w).ok := ⟨h, Int.le_refl 0, by show (0 : Int) ≤ 64; decide, hl⟩
theorem set_mid {α : Type} (P S : List α) (o s : α) : (P ++ o :: S).set P.length s = P ++ s :: S := by
  rw [List.set_append_right _ _ (Nat.le_refl _), Nat.sub_self, List.set_cons_zero]
theorem wr_on {P S : List ByteArray} {o s : ByteArray} {w : Int} (hs : s.size = 64) : ∃ w', wrD (dOn (P ++ o :: S) w) ((P.length : Nat) : Int) s = (0, dOn (P ++ s :: S) w') := by
  have hi : P.length < (dOn (P ++ o :: S) w).L.length := by show P.length < (P ++ o :: S).length; simp
  rw [wrD_at hi hs]
  refine ⟨IntKind.i64.wrap (w + 1), ?_⟩
  rw [if_neg (by simp [dOn]), if_neg (by simp [dOn])]
  simp only [dOn, set_mid, maxI, show IntKind.i64.wrap ((-1 : Int) - 1) = -2 by decide, show ((-1 : Int) > -2) = True by simp, if_true]
theorem lay_on : ∀ (B : List ByteArray) (P O S : List ByteArray) (w : Int), O.length = B.length → (∀ s ∈ B, s.size = 64) → ∃ w', layD (dOn (P ++ (O ++ S)) w) P.length B = (0, dOn (P ++ (B ++ S)) w')
  | [], P, O, S, w, h, _ => by
    have : O = [] := List.eq_nil_of_length_eq_zero h
    subst this
    exact ⟨w, rfl⟩
  | s :: r, P, O, S, w, h, hs => by
    cases O with
    | nil => simp at h
    | cons o O =>
      obtain ⟨w1, h1⟩ := wr_on (P := P) (S := O ++ S) (o := o) (s := s) (w := w) (hs s (List.mem_cons_self ..))
      obtain ⟨w2, h2⟩ := lay_on r (P ++ [s]) O S w1 (by simpa using h) fun x hx => hs x (List.mem_cons_of_mem _ hx)
      refine ⟨w2, ?_⟩
      rw [List.cons_append, layD, h1, if_pos rfl]
      simp only [List.append_assoc, List.singleton_append, List.length_append, List.length_cons, List.length_nil, Nat.zero_add] at h2
      exact h2
theorem getD_mid {α : Type} (P S : List α) (o d : α) : (P ++ o :: S).getD P.length d = o := by
  rw [List.getD_eq_getElem?_getD, List.getElem?_append_right (Nat.le_refl _), Nat.sub_self]; rfl
theorem wipe_on : ∀ (k : Nat) (P O S : List ByteArray) (w : Int), O.length = k → ∃ w', wipeD (dOn (P ++ (O ++ S)) w) k P.length = (0, dOn (P ++ (List.replicate k zeB ++ S)) w')
  | 0, P, O, S, w, h => by
    have : O = [] := List.eq_nil_of_length_eq_zero h
    subst this
    exact ⟨w, rfl⟩
  | k + 1, P, O, S, w, h => by
    cases O with
    | nil => simp at h
    | cons o O =>
      have hO : O.length = k := by simpa using h
      rw [wipeD, if_neg (by simp [dOn])]
      have e : (dOn (P ++ (o :: O ++ S)) w).L.getD P.length ⟨#[]⟩ = o := getD_mid P (O ++ S) o _
      rw [e]
      by_cases hz : o = zeB
      · obtain ⟨w2, h2⟩ := wipe_on k (P ++ [zeB]) O S w hO
        refine ⟨w2, ?_⟩
        rw [if_pos hz, hz, List.replicate_succ]
        simp only [List.append_assoc, List.singleton_append, List.length_append, List.length_cons, List.length_nil, Nat.zero_add, List.cons_append] at h2 ⊢
        exact h2
      · obtain ⟨w1, h1⟩ := wr_on (P := P) (S := O ++ S) (o := o) (s := zeB) (w := w) zeB_sz
        obtain ⟨w2, h2⟩ := wipe_on k (P ++ [zeB]) O S w1 hO
        refine ⟨w2, ?_⟩
        have h1' : wrD (dOn (P ++ (o :: O ++ S)) w) ((P.length : Nat) : Int) zeB = (0, dOn (P ++ zeB :: (O ++ S)) w1) := h1
        rw [if_neg hz, h1', if_pos rfl, List.replicate_succ]
        simp only [List.append_assoc, List.singleton_append, List.length_append, List.length_cons, List.length_nil, Nat.zero_add, List.cons_append] at h2 ⊢
        exact h2
theorem repS_cat (a b : Nat) : repS ⟨#[0]⟩ a ++ repS ⟨#[0]⟩ b = repS ⟨#[0]⟩ (a + b) := by
  rw [← repS_list, ← repS_list, ← repS_list]
  apply ByteArray.ext
  simp [List.replicate_append_replicate]
theorem catS_rep : ∀ n : Nat, catS (List.replicate n zeB) = repS ⟨#[0]⟩ (64 * n)
  | 0 => rfl
  | n + 1 => by
    rw [List.replicate_succ', catS_snoc, catS_rep n]
    show repS _ _ ++ repS _ _ = _
    rw [repS_cat, Nat.mul_succ]
def lgL (A B C : List ByteArray) (n : Nat) : List ByteArray := A ++ (B ++ (List.replicate (n - B.length) zeB ++ C))
theorem lgL_cat (A B C : List ByteArray) (n : Nat) : catS A ++ catS B ++ repS ⟨#[0]⟩ (64 * (n - B.length)) ++ catS C = catS (lgL A B C n) := by
  rw [lgL, catS_app, catS_app, catS_app, catS_rep, ByteArray.append_assoc, ByteArray.append_assoc]
theorem lgL_len {A B C : List ByteArray} {n : Nat} (h : B.length ≤ n) : (lgL A B C n).length = A.length + n + C.length := by
  simp [lgL]; omega
theorem lgL_sz {A B C : List ByteArray} {n : Nat} (hA : ∀ s ∈ A, s.size = 64) (hB : ∀ s ∈ B, s.size = 64) (hC : ∀ s ∈ C, s.size = 64) : ∀ s ∈ lgL A B C n, s.size = 64 := by
  intro s hs
  simp only [lgL, List.mem_append, List.mem_replicate] at hs
  rcases hs with h | h | ⟨_, rfl⟩ | h
  · exact hA s h
  · exact hB s h
  · exact zeB_sz
  · exact hC s h
theorem add_on {A B C : List ByteArray} {n : Nat} {w b : Int} {W : List ByteArray} {s : ByteArray} (hs : s.size ≤ 6000) (hr : B.length + sizeN s.size ≤ n) (hn : b + (W.length : Int) + 1 < 1073741824) :
    ∃ w', addL ⟨dOn (lgL A B C n) w, A.length, ((A.length + n : Nat) : Int), b, ((A.length + B.length : Nat) : Int), W, false⟩ s =
      (0, ⟨dOn (lgL A (B ++ blkL (b + (W.length : Int) + 1) s (sizeN s.size)) C n) w', A.length, ((A.length + n : Nat) : Int), b, ((A.length + (B.length + sizeN s.size) : Nat) : Int), W ++ [s], false⟩) := by
  have hbl := blkL_len (b + (W.length : Int) + 1) s (sizeN s.size)
  obtain ⟨w', h⟩ := lay_on (blkL (b + (W.length : Int) + 1) s (sizeN s.size)) (A ++ B) (List.replicate (sizeN s.size) zeB) (List.replicate (n - B.length - sizeN s.size) zeB ++ C) w (by rw [List.length_replicate, hbl]) (blkL_sz (Nat.le_refl _))
  have e1 : lgL A B C n = (A ++ B) ++ (List.replicate (sizeN s.size) zeB ++ (List.replicate (n - B.length - sizeN s.size) zeB ++ C)) := by
    rw [lgL, ← List.append_assoc (List.replicate _ _) (List.replicate _ _) C, List.replicate_append_replicate, List.append_assoc]
    congr 4; omega
  have e2 : lgL A (B ++ blkL (b + (W.length : Int) + 1) s (sizeN s.size)) C n = (A ++ B) ++ (blkL (b + (W.length : Int) + 1) s (sizeN s.size) ++ (List.replicate (n - B.length - sizeN s.size) zeB ++ C)) := by
    rw [lgL, List.length_append, hbl, Nat.sub_sub]
    simp only [List.append_assoc]
  refine ⟨w', ?_⟩
  unfold addL
  rw [if_neg (by omega), if_neg (by
    rintro (q | q)
    · have : (Lg.room ⟨dOn (lgL A B C n) w, A.length, ((A.length + n : Nat) : Int), b, ((A.length + B.length : Nat) : Int), W, false⟩) = ((A.length + n : Nat) : Int) - ((A.length + B.length : Nat) : Int) := rfl
      omega
    · have : (Lg.next ⟨dOn (lgL A B C n) w, A.length, ((A.length + n : Nat) : Int), b, ((A.length + B.length : Nat) : Int), W, false⟩) = b + (W.length : Int) + 1 := rfl
      omega), if_neg (by simp)]
  have hnx : (Lg.next ⟨dOn (lgL A B C n) w, A.length, ((A.length + n : Nat) : Int), b, ((A.length + B.length : Nat) : Int), W, false⟩) = b + (W.length : Int) + 1 := rfl
  rw [List.length_append] at h
  simp only [hnx, Int.toNat_natCast]
  rw [e1, h, if_pos rfl, e2]
  simp only [Prod.mk.injEq, true_and]
  congr 1
  omega
theorem rst_on {A B C : List ByteArray} {n : Nat} {w b b' : Int} {W : List ByteArray} (hb : isBase b') (hB : B.length ≤ n) :
    ∃ w', rstL ⟨dOn (lgL A B C n) w, A.length, ((A.length + n : Nat) : Int), b, ((A.length + B.length : Nat) : Int), W, false⟩ b' =
      (0, ⟨dOn (lgL A [] C n) w', A.length, ((A.length + n : Nat) : Int), b', A.length, [], false⟩) := by
  obtain ⟨w', h⟩ := wipe_on n A (B ++ List.replicate (n - B.length) zeB) C w (by simp; omega)
  have e1 : lgL A B C n = A ++ (B ++ List.replicate (n - B.length) zeB ++ C) := by rw [lgL, List.append_assoc]
  have e2 : lgL A [] C n = A ++ (List.replicate n zeB ++ C) := by simp [lgL]
  refine ⟨w', ?_⟩
  unfold rstL
  rw [if_neg (by simpa using hb), if_neg (by simp)]
  simp only [Int.toNat_natCast, show (((A.length + n : Nat) : Int) - (A.length : Int)).toNat = n by omega]
  rw [e1, h, if_pos rfl, e2]
end Go.Proofs.YthapdikdeoeplaaDoor.H6
end
section
set_option linter.unusedVariables false
set_option linter.unnecessarySimpa false
open Go AH
set_option linter.unusedSimpArgs false
set_option maxRecDepth 100000
namespace Go.Proofs.YthapdikdeoeplaaDoor.H6
def frs (q : Int) : List ByteArray → List ByteArray
  | [] => []
  | s :: r => blkL q s (sizeN s.size) ++ frs (q + 1) r
theorem frs_snoc : ∀ (W : List ByteArray) (q : Int) (s : ByteArray), frs q (W ++ [s]) = frs q W ++ blkL (q + (W.length : Int)) s (sizeN s.size)
  | [], q, s => by simp [frs]
  | a :: r, q, s => by
    rw [List.cons_append, frs, frs, frs_snoc r (q + 1) s, List.append_assoc]
    rw [show q + 1 + (r.length : Int) = q + ((a :: r).length : Int) by rw [List.length_cons]; omega]
theorem frs_sz : ∀ (W : List ByteArray) (q : Int), ∀ x ∈ frs q W, x.size = 64
  | [], _, _, h => by cases h
  | a :: r, q, x, h => by
    rcases List.mem_append.1 h with h | h
    · exact blkL_sz (Nat.le_refl _) x h
    · exact frs_sz r (q + 1) x h
theorem frs_le : ∀ (W : List ByteArray) (q : Int), W.length ≤ (frs q W).length
  | [], _ => Nat.le_refl _
  | a :: r, q => by
    have := frs_le r (q + 1)
    have h1 := sizeN_pos a.size
    rw [frs, List.length_append, blkL_len, List.length_cons]; omega
theorem firS_ze : (firS zeB).2.2 = false := by decide +kernel
theorem rdZ_no' {l : List ByteArray} (h : (firZ l).2.2 = false) : rdZ l = ⟨⟨#[]⟩, 0, 0, 0⟩ := by rw [rdZ, h]; rfl
theorem rdZ_ze (r : List ByteArray) : (rdZ (zeB :: r)).bad ≠ -1 := by
  have h : (firZ (zeB :: r)).2.2 = false := firS_ze
  rw [rdZ_no' h]; decide
theorem rdZ_zes (n : Nat) : (rdZ (List.replicate n zeB)).bad ≠ -1 := by
  cases n with
  | zero => exact rdZ_nil
  | succ n => rw [List.replicate_succ]; exact rdZ_ze _
theorem logR_stop {k : Nat} {Z : List ByteArray} {q : Int} (h : (rdZ Z).bad ≠ -1) : logR k Z q = ([], 0) := by
  cases k with
  | zero => rfl
  | succ k => unfold logR; rw [if_neg (fun z => h z.1)]
theorem logR_frs : ∀ (W : List ByteArray) (q : Int) (k : Nat) (Z : List ByteArray), 1 ≤ q → q + (W.length : Int) ≤ 2147483647 → (∀ s ∈ W, s.size ≤ 6000) → W.length ≤ k → (rdZ Z).bad ≠ -1 → logR k (frs q W ++ Z) q = (W, (frs q W).length)
  | [], q, k, Z, _, _, _, _, hZ => by rw [frs, List.nil_append, logR_stop hZ]; rfl
  | s :: r, q, k, Z, h1, h2, hs, hk, hZ => by
    obtain ⟨k, rfl⟩ : ∃ k', k = k' + 1 := ⟨k - 1, by rw [List.length_cons] at hk; omega⟩
    rw [List.length_cons] at h2 hk
    have hr := read_back (seq := q) (d := s) h1 (by omega) (hs s (List.mem_cons_self ..)) (frs (q + 1) r ++ Z)
    have hd : (blkL q s (sizeN s.size) ++ (frs (q + 1) r ++ Z)).drop (sizeN s.size) = frs (q + 1) r ++ Z := by
      have := List.drop_left (l₁ := blkL q s (sizeN s.size)) (l₂ := frs (q + 1) r ++ Z)
      rwa [blkL_len] at this
    have ih := logR_frs r (q + 1) k Z (by omega) (by omega) (fun x hx => hs x (List.mem_cons_of_mem _ hx)) (by omega) hZ
    rw [frs, List.append_assoc]
    unfold logR
    rw [hr]
    simp only [and_self, if_true, Int.toNat_natCast, hd, ih, List.length_append, blkL_len]
theorem parts_cut {all : List ByteArray} {F T : Nat} (h : F ≤ T) : all = all.take F ++ ((all.drop F).take (T - F) ++ all.drop T) := by
  have e : all.drop T = (all.drop F).drop (T - F) := by rw [List.drop_drop]; congr 1; omega
  rw [e, List.take_append_drop, List.take_append_drop]
theorem opn_on {all : List ByteArray} {F T : Nat} {b w : Int} (hFT : F < T) (hT : T ≤ all.length) (hb : isBase b) :
    ∃ w', opnZ (dOn all w) F T b = (0, ⟨dOn (lgL (all.take F) ((all.drop F).take (logR (T - F) ((all.drop F).take (T - F)) (b + 1)).2) (all.drop T) (T - F)) w', F, T, b, ((F + (logR (T - F) ((all.drop F).take (T - F)) (b + 1)).2 : Nat) : Int), (logR (T - F) ((all.drop F).take (T - F)) (b + 1)).1, false⟩) := by
  have hu := (logR_le (T - F) ((all.drop F).take (T - F)) (b + 1)).1
  rw [List.length_take, List.length_drop] at hu
  generalize hx : logR (T - F) ((all.drop F).take (T - F)) (b + 1) = x at *
  obtain ⟨W, u⟩ := x
  simp only at hu
  have hu' : u ≤ T - F := by omega
  have e1 : all = (all.take F ++ (all.drop F).take u) ++ ((all.drop (F + u)).take (T - F - u) ++ all.drop T) := by
    have := parts_cut (all := all) (F := F) (T := F + u) (by omega)
    have h2 := parts_cut (all := all.drop F) (F := u) (T := T - F) hu'
    rw [List.drop_drop, List.drop_drop, show F + (T - F) = T by omega] at h2
    conv => lhs; rw [← List.take_append_drop F all, h2]
    simp only [List.append_assoc]
  obtain ⟨w', h⟩ := wipe_on (T - F - u) (all.take F ++ (all.drop F).take u) ((all.drop (F + u)).take (T - F - u)) (all.drop T) w (by rw [List.length_take, List.length_drop]; omega)
  rw [← e1] at h
  have hlen : (all.take F ++ (all.drop F).take u).length = F + u := by rw [List.length_append, List.length_take, List.length_take, List.length_drop]; omega
  rw [hlen] at h
  refine ⟨w', ?_⟩
  unfold opnZ
  rw [if_neg (by rintro (q | q | q | q) <;> first | omega | exact q hb | (have : (dOn all w).L.length = all.length := rfl; omega)), if_neg (by simp [dOn])]
  have e2 : (dOn all w).L = all := rfl
  simp only [Int.toNat_natCast, show ((T : Int) - (F : Int)).toNat = T - F by omega, e2, hx, show T - (F + u) = T - F - u by omega]
  rw [h]
  simp only [lgL, List.length_take, List.length_drop, show min u (all.length - F) = u by omega, List.append_assoc]
theorem opn_frs {A C : List ByteArray} {n : Nat} {b w : Int} {W : List ByteArray} (hn : 0 < n) (hB : (frs (b + 1) W).length ≤ n) (hb : isBase b) (hW : ∀ s ∈ W, s.size ≤ 6000) (hl : W.length ≤ 4096) :
    ∃ w', opnZ (dOn (lgL A (frs (b + 1) W) C n) w) A.length ((A.length + n : Nat) : Int) b = (0, ⟨dOn (lgL A (frs (b + 1) W) C n) w', A.length, ((A.length + n : Nat) : Int), b, ((A.length + (frs (b + 1) W).length : Nat) : Int), W, false⟩) := by
  obtain ⟨w', h⟩ := opn_on (all := lgL A (frs (b + 1) W) C n) (F := A.length) (T := A.length + n) (b := b) (w := w) (by omega) (by rw [lgL_len hB]; omega) hb
  have e1 : (lgL A (frs (b + 1) W) C n).take A.length = A := by rw [lgL, List.take_left]
  have e2 : (lgL A (frs (b + 1) W) C n).drop A.length = frs (b + 1) W ++ (List.replicate (n - (frs (b + 1) W).length) zeB ++ C) := by rw [lgL, List.drop_left]
  have e3 : (frs (b + 1) W ++ (List.replicate (n - (frs (b + 1) W).length) zeB ++ C)).take n = frs (b + 1) W ++ List.replicate (n - (frs (b + 1) W).length) zeB := by
    rw [← List.append_assoc]
    exact List.take_left' (by simp; omega)
  have e4 : (lgL A (frs (b + 1) W) C n).drop (A.length + n) = C := by
    rw [← List.drop_drop, e2, ← List.append_assoc]
    exact List.drop_left' (by simp; omega)
  have hr := logR_frs W (b + 1) n (List.replicate (n - (frs (b + 1) W).length) zeB) (by have := hb.1; omega) (by have := hb.2; omega) hW (by have := frs_le W (b + 1); omega) (rdZ_zes _)
  rw [show A.length + n - A.length = n by omega, e1, e2, e3, e4, hr, List.take_left] at h
  exact ⟨w', h⟩
theorem rep_ex {k i j : Nat} (h : j ≤ k) (hij : i ≤ j) : (repS ⟨#[0]⟩ k).extract i j = repS ⟨#[0]⟩ (j - i) := by
  rw [← repS_list, ← repS_list]
  apply ByteArray.ext
  rw [ByteArray.data_extract]
  apply Array.ext'
  simp [List.extract_eq_take_drop]
  omega
theorem newD_rep {n : Nat} (h : n ≤ 4096) : newD n = dOn (List.replicate n zeB) 0 := by
  have hn : newN (n : Int) = n := by
    unfold newN minI maxI
    split <;> split <;> omega
  have hz : zeros (n : Int) = repS ⟨#[0]⟩ (64 * n) := by
    unfold zeros; rw [hn]; congr 1; omega
  have hs : (zeros (n : Int)).size = 64 * n := by rw [hz, repS_sz]
  have hb : nb (zeros (n : Int)) = n := by unfold nb; rw [hs]; omega
  have hL : blks (zeros (n : Int)) n = List.replicate n zeB := by
    refine List.ext_getElem? fun i => ?_
    rw [blks, List.getElem?_map, List.getElem?_replicate]
    by_cases hi : i < n
    · rw [List.getElem?_range hi, if_pos hi, Option.map_some, hz, rep_ex (by omega) (by omega), show 64 * i + 64 - 64 * i = 64 by omega]; rfl
    · rw [List.getElem?_eq_none (by simpa using hi), if_neg hi]; rfl
  show ofD (zeros (n : Int)) = _
  rw [ofD, hb, hL]; rfl
end Go.Proofs.YthapdikdeoeplaaDoor.H6
end
section
set_option linter.unusedVariables false
set_option linter.unnecessarySimpa false
open Go AH
set_option linter.unusedSimpArgs false
namespace Go.Proofs.YthapdikdeoeplaaDoor.H6
def z64 : ByteArray := ⟨(List.replicate 64 (0 : UInt8)).toArray⟩
theorem z64_sz : z64.size = 64 := rfl
def tornS (s : ByteArray) (t : Nat) : ByteArray := s.extract 0 t ++ z64.extract t 64
theorem tornS_sz {s : ByteArray} {t : Nat} (h : s.size = 64) (ht : t ≤ 64) : (tornS s t).size = 64 := by
  rw [tornS, ByteArray.size_append, ByteArray.size_extract, ByteArray.size_extract, h, z64_sz]; omega
theorem ex_toList (s : ByteArray) (i j : Nat) : (s.extract i j).data.toList = (s.data.toList.take j).drop i := by
  rw [ByteArray.data_extract]; simp [Array.toList_extract, List.extract_eq_take_drop, List.drop_take]
theorem torn_l {s : ByteArray} {t : Nat} : (tornS s t).data.toList = s.data.toList.take t ++ List.replicate (64 - t) 0 := by
  rw [tornS, ByteArray.data_append, Array.toList_append, ex_toList, ex_toList, List.drop_zero]
  congr 1
  have : z64.data.toList = List.replicate 64 0 := rfl
  rw [this, List.take_replicate, List.drop_replicate]
  rfl
theorem ba_ext {a b : ByteArray} (h : a.data.toList = b.data.toList) : a = b := ByteArray.ext (Array.ext' h)
theorem size_l (s : ByteArray) : s.data.toList.length = s.size := rfl
theorem torn_end {s : ByteArray} {t : Nat} (h : s.size = 64) (ht : t ≤ 64) : ((tornS s t).extract 56 64).data.toList = (s.extract 56 64).data.toList.take (t - 56) ++ List.replicate (8 - (t - 56)) 0 := by
  have hl : s.data.toList.length = 64 := h
  rw [ex_toList, ex_toList, torn_l]
  have e1 : s.data.toList.take 64 = s.data.toList := List.take_of_length_le (by omega)
  have e2 : (s.data.toList.take t ++ List.replicate (64 - t) 0).take 64 = s.data.toList.take t ++ List.replicate (64 - t) 0 := List.take_of_length_le (by rw [List.length_append, List.length_take, List.length_replicate]; omega)
  rw [e1, e2, List.drop_append, List.length_take, hl, List.drop_take, List.drop_replicate]
  congr 2
  omega
theorem torn_same {s : ByteArray} {t : Nat} (h : s.size = 64) (ht : t ≤ 64) (h2 : 56 ≤ t) (he : (tornS s t).extract 56 64 = s.extract 56 64) : tornS s t = s := by
  have hl : s.data.toList.length = 64 := h
  apply ba_ext
  have e : ((tornS s t).extract 56 64).data.toList = (s.extract 56 64).data.toList := by rw [he]
  rw [ex_toList, ex_toList] at e
  have e1 : s.data.toList.take 64 = s.data.toList := List.take_of_length_le (by omega)
  have e2 : (tornS s t).data.toList.take 64 = (tornS s t).data.toList := List.take_of_length_le (by rw [size_l, tornS_sz h ht]; omega)
  rw [e1, e2] at e
  rw [← List.take_append_drop 56 (tornS s t).data.toList, ← List.take_append_drop 56 s.data.toList, e]
  congr 1
  rw [torn_l, List.take_append_of_le_length (by rw [List.length_take]; omega), List.take_take]
  congr 1; omega
theorem byt_z {n : Int} {i : Nat} (h : byt n i = 0) : n / 256 ^ i % 256 = 0 := by
  rw [← byt_nat, h]; rfl
theorem end_l (p i n : Int) : (endS p i n).data.toList = [byt (IntKind.u64.wrap p) 0, byt (IntKind.u64.wrap p) 1, byt (IntKind.u64.wrap p) 2, byt (IntKind.u64.wrap p) 3, byt (IntKind.u64.wrap i) 0, byt (IntKind.u64.wrap i) 1, byt (IntKind.u64.wrap n) 0, byt (IntKind.u64.wrap n) 1] := rfl
theorem end_nz {p i n : Int} (h1 : 1 ≤ p) (h2 : p < 4294967296) : (endS p i n).data.toList ≠ List.replicate 8 0 := by
  rw [end_l, u64_id (by omega) h2]
  intro h
  simp only [List.replicate_succ, List.cons.injEq] at h
  obtain ⟨a, b, c, d, _⟩ := h
  have e0 := byt_z a
  have e1 := byt_z b
  have e2 := byt_z c
  have e3 := byt_z d
  simp only [Int.pow_zero, Int.ediv_one, show (256 : Int) ^ 1 = 256 from rfl, show (256 : Int) ^ 2 = 65536 from rfl, show (256 : Int) ^ 3 = 16777216 from rfl] at e0 e1 e2 e3
  omega
theorem tail_ne {p : Int} {d : ByteArray} {k t : Nat} (h1 : 1 ≤ p) (h2 : p < 4294967296) (hk : k < sizeN d.size) (ht : t ≤ 64) (hne : tornS (blkS p d k) t ≠ blkS p d k) : (tornS (blkS p d k) t).extract 56 64 ≠ endS p k (sizeN d.size) := by
  intro h
  have hs := blk_sz (seq := p) hk
  by_cases h5 : 56 ≤ t
  · exact hne (torn_same hs ht h5 (by rw [h, blk_end hk]))
  · have e := torn_end hs ht
    rw [h, show t - 56 = 0 by omega, List.take_zero, List.nil_append] at e
    exact end_nz h1 h2 e
theorem firB_0 (q : Int) (e : ByteArray) : firB q 0 e = false := by
  rw [firB, show decide ((0 : Int) ≥ 1) = false from rfl]
  generalize decide (q ≥ 1) = x
  generalize decide (q ≤ 2147483647) = y
  cases x <;> cases y <;> simp only [cond_true, cond_false]
theorem firS_no {s : ByteArray} (h : s.size = 64) (hn : valS ((tailE s).extract 6 8) = 0) : (firS s).2.2 = false := by
  have h64 : ((s.size : Int) != 64) = false := by rw [h]; rfl
  rw [firS, h64, cond_false, hn]
  dsimp only
  exact firB_0 (valS ((tailE s).extract 0 4)) (tailE s)
theorem valS_l {s : ByteArray} {a b : UInt8} (h : s.data.toList = [a, b]) : valS s = val2 a b := by unfold valS; rw [h]
theorem byt_1 {n : Int} (h0 : 0 ≤ n) (h : n < 256) : byt n 1 = 0 := by
  have e : n / 256 ^ 1 % 256 = 0 := by rw [show (256 : Int) ^ 1 = 256 from rfl]; omega
  unfold byt; rw [e]; rfl
theorem tail6 {s : ByteArray} {l : List UInt8} (hl : (tailE s).data.toList = l) (h6 : (l.take 8).drop 6 = [0, 0]) : valS ((tailE s).extract 6 8) = 0 := by
  rw [valS_l (s := (tailE s).extract 6 8) (a := 0) (b := 0) (by rw [ex_toList, hl]; exact h6)]; rfl
theorem first_no {p : Int} {d : ByteArray} {t : Nat} (h3 : d.size ≤ 6000) (ht : t ≤ 64) (hne : tornS (blkS p d 0) t ≠ blkS p d 0) : (firS (tornS (blkS p d 0) t)).2.2 = false := by
  obtain ⟨s1, s2⟩ := sizeN_le h3
  have h0 : 0 < sizeN d.size := by omega
  have hs := blk_sz (seq := p) h0
  refine firS_no (tornS_sz hs ht) ?_
  have e := torn_end hs ht
  rw [blk_end h0] at e
  have eE := end_l p ((0 : Nat) : Int) (sizeN d.size)
  rw [u64_id (n := (sizeN d.size : Int)) (by omega) (by omega), byt_1 (n := (sizeN d.size : Int)) (by omega) (by omega), show byt (IntKind.u64.wrap ((0 : Nat) : Int)) 0 = 0 from rfl, show byt (IntKind.u64.wrap ((0 : Nat) : Int)) 1 = 0 from rfl] at eE
  by_cases h7 : t - 56 ≤ 6
  · refine tail6 (s := tornS (blkS p d 0) t) (l := _) e ?_
    rw [eE]
    generalize t - 56 = j at h7
    match j, h7 with
    | 0, _ => rfl
    | 1, _ => rfl
    | 2, _ => rfl
    | 3, _ => rfl
    | 4, _ => rfl
    | 5, _ => rfl
    | 6, _ => rfl
    | j + 7, h => omega
  · refine absurd (torn_same hs ht (by omega) (ba_ext ?_)) hne
    rw [e, blk_end h0, eE]
    have : t - 56 = 7 ∨ t - 56 = 8 := by omega
    rcases this with h | h <;> rw [h] <;> rfl
theorem zero_no : (firS z64).2.2 = false := firS_no rfl rfl
theorem zero_tail {p i n : Int} (h1 : 1 ≤ p) (h2 : p < 4294967296) : z64.extract 56 64 ≠ endS p i n := by
  intro h
  refine end_nz (i := i) (n := n) h1 h2 ?_
  rw [← h]; rfl
theorem join_bad {l : List ByteArray} {p : Int} {d : ByteArray} {k : Nat} {s : ByteArray} (hg : ∀ j, j < k → l[j]? = some (blkS p d j)) (hk : k < sizeN d.size) (hs : l[k]? = some s) (h64 : s.size = 64) (hb : s.extract 56 64 ≠ endS p k (sizeN d.size)) : ∀ (m i : Nat) (acc : ByteArray), i ≤ k → k < i + m → (joinS l p (sizeN d.size) m i acc).2 = (k : Int)
  | 0, i, acc, h1, h2 => by omega
  | m + 1, i, acc, h1, h2 => by
    rcases Nat.lt_or_ge i k with h | h
    · have hz := blk_sz (seq := p) (d := d) (i := i) (by omega)
      have hq : (((blkS p d i).size : Int) != 64) = false := by rw [hz]; rfl
      have hbad : badJ l p (sizeN d.size) i = false := by
        simp only [badJ, hg i h, hq, Bool.false_or]
        rw [hz, blk_end (by omega), tl_self]; rfl
      rw [joinS, hbad, cond_false]
      exact join_bad hg hk hs h64 hb m (i + 1) _ (by omega) (by omega)
    · obtain rfl : i = k := by omega
      have hbad : badJ l p (sizeN d.size) i = true := by
        simp only [badJ, hs]
        rw [h64, tl_ne hb]; simp
      rw [joinS, hbad, cond_true]
theorem rd_bad {l : List ByteArray} {p : Int} {d : ByteArray} {k : Nat} {s : ByteArray} (h1 : 1 ≤ p) (h2 : p ≤ 2147483647) (h3 : d.size ≤ 6000) (hg : ∀ j, j < k → l[j]? = some (blkS p d j)) (hk : k < sizeN d.size) (hs : l[k]? = some s) (h64 : s.size = 64)
    (h0 : k = 0 → (firS s).2.2 = false) (hb : 0 < k → s.extract 56 64 ≠ endS p k (sizeN d.size)) : rdZ l = ⟨⟨#[]⟩, 0, 0, (k : Int)⟩ := by
  rcases Nat.eq_zero_or_pos k with e | e
  · subst e
    cases l with
    | nil => simp at hs
    | cons x r =>
      simp at hs
      subst hs
      have := h0 rfl
      rw [rdZ, firZ, this]; rfl
  · have hf : firZ l = (p, (sizeN d.size : Int), true) := by
      cases l with
      | nil => have := hg 0 e; simp at this
      | cons x r =>
        have hx := hg 0 e
        simp at hx
        subst hx
        exact blk_first h1 h2 h3 1 (by omega) r
    have hj := join_bad hg hk hs h64 (hb e) (sizeN d.size) 0 ⟨#[]⟩ (Nat.zero_le _) (by omega)
    have hj' : (jnZ l p (sizeN d.size)).2 = (k : Int) := hj
    rw [rdZ, hf]
    simp only [Int.toNat_natCast, hj', cond_true]
    rw [decide_eq_true (by omega : (k : Int) ≥ 0)]; rfl
def tnP (p : Int) (d : ByteArray) (k t j : Nat) : ByteArray := if j < k then blkS p d j else if j = k then tornS (blkS p d k) t else z64
def tnL (p : Int) (d : ByteArray) (k t i : Nat) : List ByteArray := (List.range i).map (tnP p d k t)
theorem tnL_len (p : Int) (d : ByteArray) (k t i : Nat) : (tnL p d k t i).length = i := by simp [tnL]
theorem tnL_succ (p : Int) (d : ByteArray) (k t i : Nat) : tnL p d k t (i + 1) = tnL p d k t i ++ [tnP p d k t i] := by simp [tnL, List.range_succ]
theorem tnL_at {p : Int} {d : ByteArray} {k t i j : Nat} (h : j < i) : (tnL p d k t i)[j]? = some (tnP p d k t j) := by simp [tnL, h]
theorem tn_lt {p : Int} {d : ByteArray} {k t j : Nat} (h : j < k) : tnP p d k t j = blkS p d j := by rw [tnP, if_pos h]
theorem tn_eq {p : Int} {d : ByteArray} {k t : Nat} : tnP p d k t k = tornS (blkS p d k) t := by rw [tnP, if_neg (by omega), if_pos rfl]
theorem tn_gt {p : Int} {d : ByteArray} {k t j : Nat} (h : k < j) : tnP p d k t j = z64 := by rw [tnP, if_neg (by omega), if_neg (by omega)]
theorem tn_whole {p : Int} {d : ByteArray} {k t : Nat} (h1 : 1 ≤ p) (h2 : p ≤ 2147483647) (h3 : d.size ≤ 6000) (hk : k + 1 = sizeN d.size) (he : tornS (blkS p d k) t = blkS p d k) : rdZ (tnL p d k t (sizeN d.size)) = ⟨d, p, (sizeN d.size : Int), -1⟩ := by
  have e : tnL p d k t (sizeN d.size) = blkL p d (sizeN d.size) ++ [] := by
    rw [List.append_nil, ← hk, tnL_succ, blkL_succ, tn_eq, he]
    congr 1
    exact List.map_congr_left fun j hj => tn_lt (List.mem_range.1 hj)
  rw [e]; exact read_back h1 h2 h3 []
theorem tn_part {p : Int} {d : ByteArray} {k t : Nat} (h1 : 1 ≤ p) (h2 : p ≤ 2147483647) (h3 : d.size ≤ 6000) (hk : k + 1 < sizeN d.size) (he : tornS (blkS p d k) t = blkS p d k) : rdZ (tnL p d k t (sizeN d.size)) = ⟨⟨#[]⟩, 0, 0, ((k + 1 : Nat) : Int)⟩ := by
  refine rd_bad (s := z64) h1 h2 h3 (fun j hj => ?_) hk ?_ rfl (by omega) (fun _ => zero_tail h1 (by omega))
  · rw [tnL_at (by omega)]
    rcases Nat.lt_or_ge j k with h | h
    · rw [tn_lt h]
    · obtain rfl : j = k := by omega
      rw [tn_eq, he]
  · rw [tnL_at hk, tn_gt (by omega)]
theorem tn_torn {p : Int} {d : ByteArray} {k t : Nat} (h1 : 1 ≤ p) (h2 : p ≤ 2147483647) (h3 : d.size ≤ 6000) (hk : k < sizeN d.size) (ht : t ≤ 64) (he : tornS (blkS p d k) t ≠ blkS p d k) : rdZ (tnL p d k t (sizeN d.size)) = ⟨⟨#[]⟩, 0, 0, (k : Int)⟩ := by
  refine rd_bad (s := tornS (blkS p d k) t) h1 h2 h3 (fun j hj => ?_) hk ?_ (tornS_sz (blk_sz hk) ht) (fun e => ?_) (fun _ => tail_ne h1 (by omega) hk ht he)
  · rw [tnL_at (by omega), tn_lt hj]
  · rw [tnL_at hk, tn_eq]
  · subst e; exact first_no h3 ht he
end Go.Proofs.YthapdikdeoeplaaDoor.H6
end
section
set_option linter.unusedVariables false
set_option linter.unnecessarySimpa false
open Go AH
set_option linter.unusedSimpArgs false
set_option maxRecDepth 100000
namespace Go.Proofs.YthapdikdeoeplaaDoor.H6
theorem trN_z2 {s : ByteArray} : ∀ k, trN s 0 k = 0 → ∀ j, j < k → s.data.toList.getD j 0 = 0
  | 0, _, j, hj => by omega
  | k + 1, h, j, hj => by
    rw [trN] at h
    cases hb : s.data.toList.getD k 0 == 0
    · rw [hb] at h; simp at h
    · rw [hb, cond_true] at h
      rcases Nat.lt_or_ge j k with c | c
      · exact trN_z2 k h j c
      · obtain rfl : j = k := by omega
        exact eq_of_beq hb
theorem trN_top2 {s : ByteArray} : ∀ k m, trN s 0 k = m + 1 → m < k ∧ s.data.toList.getD m 0 ≠ 0
  | 0, m, h => by simp [trN] at h
  | k + 1, m, h => by
    rw [trN] at h
    cases hb : s.data.toList.getD k 0 == 0
    · rw [hb, cond_false] at h
      obtain rfl : m = k := by omega
      exact ⟨by omega, by simpa using hb⟩
    · rw [hb, cond_true] at h
      have := trN_top2 k m h
      exact ⟨by omega, this.2⟩
theorem tlN_all2 {s : ByteArray} : ∀ f i, i + f ≤ tlN s 0 i f → ∀ j, i ≤ j → j < i + f → s.data.toList.getD j 0 = 0
  | 0, i, _, j, h1, h2 => by omega
  | f + 1, i, h, j, h1, h2 => by
    rw [tlN] at h
    cases hb : s.data.toList.getD i 0 == 0
    · rw [hb, cond_false] at h; omega
    · rw [hb, cond_true] at h
      rcases Nat.lt_or_ge i j with c | c
      · exact tlN_all2 f (i + 1) (by omega) j c (by omega)
      · obtain rfl : j = i := by omega
        exact eq_of_beq hb
theorem ex_get2 (s : ByteArray) {k j : Nat} (h : j < k) : (s.extract 0 k).data.toList.getD j 0 = s.data.toList.getD j 0 := by
  rw [ex_toList, List.drop_zero, List.getD_eq_getElem?_getD, List.getD_eq_getElem?_getD, List.getElem?_take, if_pos h]
theorem trim_emp {s : ByteArray} (h : trim0 s = ⟨#[]⟩) : ∀ j, j < s.size → s.data.toList.getD j 0 = 0 := by
  unfold trim0 at h
  cases hc : s.toList == (⟨#[]⟩ : ByteArray).toList
  · rw [hc, cond_false] at h
    cases hm : trN s 0 s.size with
    | zero => exact trN_z2 s.size hm
    | succ m =>
      rw [hm] at h
      obtain ⟨hlt, hne⟩ := trN_top2 s.size m hm
      have hsz : (s.extract 0 (m + 1)).size = m + 1 := by rw [ByteArray.size_extract]; omega
      have h0 := congrArg ByteArray.size h
      rw [ByteArray.size_extract, hsz] at h0
      rw [Nat.min_self, show (⟨#[]⟩ : ByteArray).size = 0 from rfl] at h0
      have h0' : m + 1 ≤ tlN (s.extract 0 (m + 1)) 0 0 (m + 1) := by omega
      have := tlN_all2 (s := s.extract 0 (m + 1)) (m + 1) 0 (by omega) m (Nat.zero_le _) (by omega)
      rw [ex_get2 s (Nat.lt_succ_self _)] at this
      exact absurd this hne
  · have : s = ⟨#[]⟩ := tl_eq hc
    subst this
    intro j hj
    cases hj
def tzS (B : ByteArray) (t : Nat) : ByteArray := zeB.extract 0 t ++ B.extract t 64
theorem zeB_l : zeB.data.toList = List.replicate 64 0 := by decide +kernel
theorem tz_l {B : ByteArray} {t : Nat} (h : B.size = 64) (ht : t ≤ 64) : (tzS B t).data.toList = List.replicate t 0 ++ B.data.toList.drop t := by
  have hl : B.data.toList.length = 64 := h
  rw [tzS, ByteArray.data_append, Array.toList_append, ex_toList, ex_toList, List.drop_zero, zeB_l, List.take_replicate, List.take_of_length_le (l := B.data.toList) (by omega)]
  congr 2; omega
theorem tz_sz {B : ByteArray} {t : Nat} (h : B.size = 64) (ht : t ≤ 64) : (tzS B t).size = 64 := by
  have hl : B.data.toList.length = 64 := h
  rw [← size_l, tz_l h ht, List.length_append, List.length_replicate, List.length_drop]; omega
theorem drop_rep_app {α : Type} (t k : Nat) (x : α) (l : List α) (h : t ≤ k) : (List.replicate t x ++ l.drop t).drop k = l.drop k := by
  rw [List.drop_append, List.drop_replicate, List.length_replicate, List.drop_drop, show t - k = 0 by omega, show t + (k - t) = k by omega]; rfl
theorem tz_end {B : ByteArray} {t : Nat} (h : B.size = 64) (ht : t ≤ 56) : (tzS B t).extract 56 64 = B.extract 56 64 := by
  have hl : B.data.toList.length = 64 := h
  apply ba_ext
  rw [ex_toList, ex_toList, List.take_of_length_le (by rw [size_l, tz_sz h (by omega)]; exact Nat.le_refl _), List.take_of_length_le (by omega), tz_l h (by omega), drop_rep_app _ _ _ _ ht]
theorem fir_tz57 {d : ByteArray} {t : Nat} (hd : 0 < sizeN d.size) (h1 : 57 ≤ t) (ht : t ≤ 64) : (firS (tzS (blkS 4 d 0) t)).2.2 = false := by
  have hs := blk_sz (seq := 4) hd
  have hz := tz_sz hs ht
  have h64 : (((tzS (blkS 4 d 0) t).size : Int) != 64) = false := by rw [hz]; rfl
  have he : (blkS 4 d 0).data.toList.drop 56 = (endS 4 ((0 : Nat) : Int) (sizeN d.size)).data.toList := by
    rw [← blk_end hd, ex_toList, List.take_of_length_le (by rw [size_l, hs]; exact Nat.le_refl _)]
  have hv : valS ((tailE (tzS (blkS 4 d 0) t)).extract 0 4) = 0 := by
    have e : ((tailE (tzS (blkS 4 d 0) t)).extract 0 4).data.toList = [0, 0, 0, 0] := by
      rw [ex_toList, tailE, ex_toList, List.take_of_length_le (l := (tzS (blkS 4 d 0) t).data.toList) (by rw [size_l, hz]; exact Nat.le_refl _), tz_l hs ht, List.drop_append, List.drop_replicate, List.length_replicate, show 56 - t = 0 by omega, List.drop_zero]
      have e2 : (blkS 4 d 0).data.toList.drop t = (endS 4 ((0 : Nat) : Int) (sizeN d.size)).data.toList.drop (t - 56) := by
        rw [← he, List.drop_drop]; congr 1; omega
      rw [e2, end_l]
      have b0 : byt (IntKind.u64.wrap 4) 1 = 0 := by decide
      have b1 : byt (IntKind.u64.wrap 4) 2 = 0 := by decide
      have b2 : byt (IntKind.u64.wrap 4) 3 = 0 := by decide
      rw [b0, b1, b2]
      have ht' : t - 56 = 1 ∨ t - 56 = 2 ∨ t - 56 = 3 ∨ t - 56 = 4 ∨ t - 56 = 5 ∨ t - 56 = 6 ∨ t - 56 = 7 ∨ t - 56 = 8 := by omega
      rcases ht' with h | h | h | h | h | h | h | h <;> rw [h] <;> rfl
    unfold valS
    rw [e]; rfl
  rw [firS, h64, cond_false, hv]
  dsimp only
  rw [firB, show decide ((0 : Int) ≥ 1) = false from rfl]
  simp only [cond_false]
theorem joinS_pre (l : List ByteArray) (q : Int) (n : Nat) : ∀ (m i : Nat) (a : ByteArray), (joinS l q n m i a).2 = -1 → ∃ z, (joinS l q n m i a).1 = a ++ z
  | 0, i, a, _ => ⟨⟨#[]⟩, by apply ByteArray.ext; simp [joinS]⟩
  | m + 1, i, a, h => by
    unfold joinS at h ⊢
    cases hb : badJ l q n i
    · rw [hb] at h
      simp only [cond_false] at h ⊢
      obtain ⟨z, hz⟩ := joinS_pre l q n m (i + 1) _ h
      exact ⟨_, by rw [hz, ByteArray.append_assoc]⟩
    · rw [hb] at h
      simp only [cond_true] at h
      omega
theorem sum_z : ∀ L, L < 49 → moreL 1 (List.replicate L 0) = 1 → L = 0 := by decide +kernel
theorem take_rep_app {α : Type} [BEq α] (t k : Nat) (x : α) (l : List α) (h : k ≤ t) : (List.replicate t x ++ l).take k = List.replicate k x := by
  rw [List.take_append_of_le_length (by rw [List.length_replicate]; exact h), List.take_replicate]; congr 1; omega
theorem num4_l (n : Int) : (num4 n).data.toList = [byt n 0, byt n 1, byt n 2, byt n 3] := rfl
theorem byt_0 {n : Int} {i : Nat} (h : n / 256 ^ i % 256 = 0) : byt n i = 0 := by unfold byt; rw [h]; rfl
theorem full_l (d : ByteArray) : (fullS d).data.toList = [byt (IntKind.u64.wrap (d.size : Int)) 0, byt (IntKind.u64.wrap (d.size : Int)) 1, byt (IntKind.u64.wrap (d.size : Int)) 2, byt (IntKind.u64.wrap (d.size : Int)) 3] ++ ([byt (IntKind.u64.wrap (sumZ d)) 0, byt (IntKind.u64.wrap (sumZ d)) 1, byt (IntKind.u64.wrap (sumZ d)) 2, byt (IntKind.u64.wrap (sumZ d)) 3] ++ (d.data.toList ++ (repS ⟨#[0]⟩ (padN d)).data.toList)) := by
  rw [full_eq]
  simp only [ByteArray.data_append, Array.toList_append, num4_l]
theorem emp_app (S : ByteArray) : (⟨#[]⟩ : ByteArray) ++ S = S := by apply ByteArray.ext; simp
theorem jn_pre {S : ByteArray} {r : List ByteArray} {q : Int} {m : Nat} (h : (jnZ (S :: r) q (m + 1)).2 = -1) : ∃ z, (jnZ (S :: r) q (m + 1)).1 = S.extract 0 56 ++ z := by
  unfold jnZ at h ⊢
  rw [joinS] at h ⊢
  cases hb : badJ (S :: r) q (m + 1) 0
  · rw [hb, cond_false] at h
    rw [cond_false]
    have e : (⟨#[]⟩ : ByteArray) ++ (((S :: r)[0]?).getD (⟨#[]⟩ : ByteArray)).extract 0 56 = S.extract 0 56 := by
      rw [emp_app]; rfl
    rw [e] at h ⊢
    exact joinS_pre _ q _ m 1 _ h
  · rw [hb, cond_true] at h
    simp only at h
    omega
theorem tz_same {q : Int} {d : ByteArray} {t : Nat} (hq : 1 ≤ q) (hq2 : q ≤ 2147483647) (hd : d.size ≤ 200) (ht : t ≤ 56) {r : List ByteArray} (hr : (rdZ (tzS (blkS q d 0) t :: r)).bad = -1) : tzS (blkS q d 0) t = blkS q d 0 := by
  have hn : 0 < sizeN d.size := by unfold sizeN; omega
  have hs := blk_sz (seq := q) hn
  have hz := tz_sz hs (show t ≤ 64 by omega)
  have hBl : (blkS q d 0).data.toList.length = 64 := hs
  have hTl := tz_l hs (show t ≤ 64 by omega)
  -- a block's first bytes
  have hB4 : ∃ X, (blkS q d 0).data.toList = [byt (d.size : Int) 0, 0, 0, 0] ++ X := by
    have e : (blkS q d 0).data.toList = (fullS d).data.toList.take 56 ++ (endS q ((0 : Nat) : Int) (sizeN d.size)).data.toList := by
      rw [blkS, ByteArray.data_append, Array.toList_append, ex_toList]; rfl
    rw [e, full_l, u64_id (by omega) (by omega)]
    have b1 : byt (d.size : Int) 1 = 0 := byt_0 (by rw [show (256 : Int) ^ 1 = 256 from rfl]; omega)
    have b2 : byt (d.size : Int) 2 = 0 := byt_0 (by rw [show (256 : Int) ^ 2 = 65536 from rfl]; omega)
    have b3 : byt (d.size : Int) 3 = 0 := byt_0 (by rw [show (256 : Int) ^ 3 = 16777216 from rfl]; omega)
    rw [b1, b2, b3]
    exact ⟨_, rfl⟩
  by_cases t0 : t = 0
  · subst t0
    apply ba_ext
    rw [hTl]; rfl
  have hf : firZ (tzS (blkS q d 0) t :: r) = (q, (sizeN d.size : Int), true) := by
    have h1 := blk_first (seq := q) (d := d) hq hq2 (by omega) 1 (by omega) []
    have h2 : firZ (blkL q d 1 ++ []) = firS (blkS q d 0) := rfl
    rw [h2] at h1
    show firS (tzS (blkS q d 0) t) = _
    rw [← h1]
    have e : tailE (tzS (blkS q d 0) t) = tailE (blkS q d 0) := tz_end hs ht
    unfold firS
    rw [e, hz, hs]
  obtain ⟨m, hm⟩ : ∃ m, sizeN d.size = m + 1 := ⟨sizeN d.size - 1, by omega⟩
  rw [rdZ, hf] at hr
  simp only [cond_true, Int.toNat_natCast] at hr
  cases hj : decide ((jnZ (tzS (blkS q d 0) t :: r) q (sizeN d.size)).2 ≥ 0)
  rotate_left
  · rw [hj, cond_true] at hr
    simp only at hr
    simp only [decide_eq_true_eq] at hj
    omega
  rw [hj, cond_false] at hr
  have hj1 : (jnZ (tzS (blkS q d 0) t :: r) q (sizeN d.size)).2 = -1 := (joinS_at _ q _ _ 0 ⟨#[]⟩).resolve_right (by simp only [decide_eq_false_iff_not] at hj; exact hj)
  have hsz := joinS_sz _ q _ _ 0 ⟨#[]⟩ hj1
  obtain ⟨z, hpre⟩ : ∃ z, (jnZ (tzS (blkS q d 0) t :: r) q (sizeN d.size)).1 = (tzS (blkS q d 0) t).extract 0 56 ++ z := by
    rw [hm] at hj1 ⊢
    exact jn_pre hj1
  have hsz' : (jnZ (tzS (blkS q d 0) t :: r) q (sizeN d.size)).1.size = 56 * sizeN d.size := by
    have : (jnZ (tzS (blkS q d 0) t :: r) q (sizeN d.size)).1.size = 0 + 56 * sizeN d.size := hsz
    omega
  generalize (jnZ (tzS (blkS q d 0) t :: r) q (sizeN d.size)).1 = acc at *
  subst hpre
  have h56 : ((tzS (blkS q d 0) t).extract 0 56).size = 56 := by rw [ByteArray.size_extract, hz]; omega
  have hdat : (datZ ((tzS (blkS q d 0) t).extract 0 56 ++ z)).2 = true := by
    cases h : (datZ ((tzS (blkS q d 0) t).extract 0 56 ++ z)).2
    · rw [h, cond_false] at hr; simp only at hr; omega
    · rfl
  obtain ⟨X, hX⟩ := hB4
  have hv0 : valS (((tzS (blkS q d 0) t).extract 0 56 ++ z).extract 0 4) = 0 := by
    have e : (((tzS (blkS q d 0) t).extract 0 56 ++ z).extract 0 4).data.toList = [0, 0, 0, 0] := by
      rw [ex_left (by omega), ex_toList, ex_toList, hTl, List.drop_zero, List.drop_zero, List.take_take, hX, show min 4 56 = 4 from rfl]
      have ht' : t = 1 ∨ t = 2 ∨ t = 3 ∨ 4 ≤ t := by omega
      rcases ht' with rfl | rfl | rfl | h
      · rfl
      · rfl
      · rfl
      · rw [take_rep_app _ _ _ _ h]; rfl
    unfold valS
    rw [e]; rfl
  have hdq : datQ ((tzS (blkS q d 0) t).extract 0 56 ++ z) 0 = true := by
    unfold datZ at hdat
    rw [hv0, show decide ((0 : Int) > 6000) = false from rfl, cond_false] at hdat
    have : decide ((0 : Int) > (((tzS (blkS q d 0) t).extract 0 56 ++ z).size : Int) - 8) = false := decide_eq_false (by rw [hsz']; omega)
    rw [this, cond_false] at hdat
    exact hdat
  unfold datQ at hdq
  have ht8 : (datT ((tzS (blkS q d 0) t).extract 0 56 ++ z) 0).size = 0 := by rw [datT, ByteArray.size_extract]; omega
  rw [ht8, show sizeN 0 = 1 from rfl] at hdq
  have hn1 : sizeN d.size = 1 := by
    cases h : (((1 * 56 : Nat) : Int) == ((((tzS (blkS q d 0) t).extract 0 56 ++ z).size : Nat) : Int))
    · rw [h] at hdq; simp at hdq
    · have := eq_of_beq h
      rw [hsz'] at this
      omega
  have hz0 : z = ⟨#[]⟩ := by
    apply ba_ext
    have : z.size = 0 := by
      rw [ByteArray.size_append, h56, hn1] at hsz'; omega
    have h0 : z.data.toList.length = 0 := this
    rw [List.eq_nil_of_length_eq_zero h0]
  have hd48 : d.size ≤ 48 := by unfold sizeN at hn1; omega
  subst hz0
  have hap : (tzS (blkS q d 0) t).extract 0 56 ++ (⟨#[]⟩ : ByteArray) = (tzS (blkS q d 0) t).extract 0 56 := by apply ByteArray.ext; simp
  rw [hap] at hdq
  have hA := h56
  have hAl : ((tzS (blkS q d 0) t).extract 0 56).data.toList = List.replicate t 0 ++ (fullS d).data.toList.drop t := by
    have hfl : (fullS d).data.toList.length = 56 := by rw [size_l, full_sz, hn1]
    have e : (blkS q d 0).data.toList = (fullS d).data.toList ++ (endS q ((0 : Nat) : Int) (sizeN d.size)).data.toList := by
      rw [blkS, ByteArray.data_append, Array.toList_append, ex_toList, List.take_of_length_le (by omega)]; rfl
    rw [ex_toList, hTl, List.drop_zero, e, List.drop_append_of_le_length (by omega), ← List.append_assoc, List.take_append_of_le_length (by rw [List.length_append, List.length_replicate, List.length_drop]; omega), List.take_of_length_le (by rw [List.length_append, List.length_replicate, List.length_drop]; omega)]
  rw [full_l] at hAl
  cases h1 : (((1 * 56 : Nat) : Int) == (((tzS (blkS q d 0) t).extract 0 56).size : Int))
  · rw [h1] at hdq; simp at hdq
  cases h2 : ((trim0 (((tzS (blkS q d 0) t).extract 0 56).extract (8 + 0) ((tzS (blkS q d 0) t).extract 0 56).size)).toList == (⟨#[]⟩ : ByteArray).toList)
  · rw [h1, h2] at hdq; simp at hdq
  rw [h1, h2, cond_true, cond_true] at hdq
  have h3 := eq_of_beq hdq
  have htr := trim_emp (tl_eq h2)
  have hs1 : IntKind.i64.wrap (sumZ (datT ((tzS (blkS q d 0) t).extract 0 56) 0)) = 1 := by
    have : datT ((tzS (blkS q d 0) t).extract 0 56) 0 = ⟨#[]⟩ := by
      apply ba_ext
      rw [datT, ex_toList]
      simp
    rw [this]; decide
  rw [hs1] at h3
  have hA8 : ((tzS (blkS q d 0) t).extract 0 56).data.toList.length = 56 := hA
  generalize (tzS (blkS q d 0) t).extract 0 56 = A at *
  have a1 : byt (IntKind.u64.wrap (d.size : Int)) 1 = 0 := by rw [u64_id (by omega) (by omega)]; exact byt_0 (by rw [show (256 : Int) ^ 1 = 256 from rfl]; omega)
  have a2 : byt (IntKind.u64.wrap (d.size : Int)) 2 = 0 := by rw [u64_id (by omega) (by omega)]; exact byt_0 (by rw [show (256 : Int) ^ 2 = 65536 from rfl]; omega)
  have a3 : byt (IntKind.u64.wrap (d.size : Int)) 3 = 0 := by rw [u64_id (by omega) (by omega)]; exact byt_0 (by rw [show (256 : Int) ^ 3 = 16777216 from rfl]; omega)
  obtain ⟨z1, z2⟩ := sumZ_in d
  rw [u64_id z1 z2, a1, a2, a3] at hAl
  by_cases t5 : 5 ≤ t
  · exfalso
    obtain ⟨t', rfl⟩ : ∃ t', t = t' + 5 := ⟨t - 5, by omega⟩
    generalize List.drop (t' + 5) _ = Y at hAl
    have e : (A.extract 4 8).data.toList = 0 :: (List.replicate t' 0 ++ Y).take 3 := by
      rw [ex_toList, hAl]; rfl
    have hl3 : ((List.replicate t' (0 : UInt8) ++ Y).take 3).length = 3 := by
      rw [hAl] at hA8
      rw [List.length_append, List.length_replicate] at hA8
      rw [List.length_take, List.length_append, List.length_replicate]; omega
    match hm3 : (List.replicate t' (0 : UInt8) ++ Y).take 3, hl3 with
    | [x, y, w], _ =>
      rw [hm3] at e
      unfold valS at h3
      rw [e] at h3
      simp only [val4] at h3
      have : (0 : UInt8).toNat = 0 := rfl
      omega
  · have hAl' : A.data.toList = [0, 0, 0, 0] ++ ([byt (sumZ d) 0, byt (sumZ d) 1, byt (sumZ d) 2, byt (sumZ d) 3] ++ (d.data.toList ++ (repS ⟨#[0]⟩ (padN d)).data.toList)) := by
      rw [hAl]
      have ht' : t = 1 ∨ t = 2 ∨ t = 3 ∨ t = 4 := by omega
      rcases ht' with rfl | rfl | rfl | rfl <;> rfl
    have e4 : A.extract 4 8 = num4 (sumZ d) := by
      apply ba_ext
      rw [ex_toList, hAl']; rfl
    rw [e4, val_num4 z1 z2] at h3
    have e8 : (A.extract (8 + 0) A.size).data.toList = d.data.toList ++ (repS ⟨#[0]⟩ (padN d)).data.toList := by
      rw [ex_toList, List.take_of_length_le (by rw [hA8, hA]; exact Nat.le_refl _), hAl']; rfl
    have hd0 : d.data.toList = List.replicate d.size 0 := by
      apply List.ext_getElem
      · rw [List.length_replicate]; rfl
      · intro j hj1 hj2
        have hj : j < d.size := hj1
        have := htr j (by rw [ByteArray.size_extract]; omega)
        rw [e8, List.getD_eq_getElem?_getD, List.getElem?_append_left hj1, List.getElem?_eq_getElem hj1] at this
        rw [List.getElem_replicate]
        exact this
    have hsz0 : d.size = 0 := sum_z d.size (by omega) (by rw [← hd0]; exact h3)
    apply ba_ext
    rw [hTl, hX, hsz0]
    have ht' : t = 1 ∨ t = 2 ∨ t = 3 ∨ t = 4 := by omega
    rcases ht' with rfl | rfl | rfl | rfl <;> rfl
end Go.Proofs.YthapdikdeoeplaaDoor.H6
end
section
set_option linter.unusedVariables false
set_option linter.unnecessarySimpa false
open Go AH
set_option linter.unusedSimpArgs false
set_option maxRecDepth 100000
namespace Go.Proofs.YthapdikdeoeplaaDoor.H6
theorem wr_keep {d : Dk} {a i : Nat} {s : ByteArray} (h : i ≠ a) : (wrD d (a : Int) s).2.L[i]? = d.L[i]? := by
  unfold wrD
  split
  · rfl
  · split
    · rfl
    · split
      · simp only [Int.toNat_natCast]; rw [List.getElem?_set_ne (by omega)]
      · simp only [Int.toNat_natCast]; rw [List.getElem?_set_ne (by omega)]
theorem wipe_keep : ∀ (k : Nat) (d : Dk) (a i : Nat), i < a → (wipeD d k a).2.L[i]? = d.L[i]?
  | 0, d, a, i, _ => rfl
  | k + 1, d, a, i, h => by
    unfold wipeD
    split
    · rfl
    · split
      · exact wipe_keep k d (a + 1) i (by omega)
      · split
        · rw [wipe_keep k _ (a + 1) i (by omega), wr_keep (by omega)]
        · rw [wr_keep (by omega)]
theorem wipe_zero : ∀ (k : Nat) (d : Dk) (a : Nat), a + k ≤ d.L.length → (wipeD d k a).1 = 0 → (0 < k → d.away = false) ∧ (wipeD d k a).2.away = d.away ∧ ∀ i, a ≤ i → i < a + k → (wipeD d k a).2.L[i]? = some zeB
  | 0, d, a, _, _ => ⟨fun h => absurd h (Nat.lt_irrefl _), rfl, fun i h1 h2 => by omega⟩
  | k + 1, d, a, hl, h => by
    unfold wipeD at h ⊢
    cases ha : d.away
    · rw [ha] at h
      rw [if_neg (by simp)] at h ⊢
      by_cases hz : d.L.getD a ⟨#[]⟩ = zeB
      · rw [if_pos hz] at h ⊢
        obtain ⟨_, h2, h3⟩ := wipe_zero k d (a + 1) (by omega) h
        refine ⟨fun _ => rfl, h2.trans ha, fun i i1 i2 => ?_⟩
        rcases Nat.lt_or_ge a i with g | g
        · exact h3 i (by omega) (by omega)
        · obtain rfl : i = a := by omega
          rw [wipe_keep k d (i + 1) i (by omega)]
          rw [List.getD_eq_getElem?_getD, List.getElem?_eq_getElem (by omega)] at hz
          rw [List.getElem?_eq_getElem (by omega)]
          exact congrArg some hz
      · rw [if_neg hz] at h ⊢
        have hw := wrD_at (d := d) (i := a) (s := zeB) (by omega) zeB_sz
        rw [ha, if_neg (by simp)] at hw
        by_cases hf : d.fuse = 0
        · rw [if_pos hf] at hw
          rw [hw] at h
          simp at h
        · rw [if_neg hf] at hw
          rw [hw] at h ⊢
          simp only [if_true] at h ⊢
          have hl' : a + 1 + k ≤ (d.L.set a zeB).length := by rw [List.length_set]; omega
          obtain ⟨_, h2, h3⟩ := wipe_zero k ⟨d.L.set a zeB, false, maxI (IntKind.i64.wrap (d.fuse - 1)) (-1), d.torn, IntKind.i64.wrap (d.writes + 1)⟩ (a + 1) hl' h
          refine ⟨fun _ => trivial, h2, fun i i1 i2 => ?_⟩
          rcases Nat.lt_or_ge a i with g | g
          · exact h3 i (by omega) (by omega)
          · obtain rfl : i = a := by omega
            rw [wipe_keep k _ (i + 1) i (by omega)]
            simp only
            rw [List.getElem?_set_self (by omega)]
    · rw [ha, if_pos rfl] at h; simp at h
theorem wipe_off : ∀ (k : Nat) (d : Dk) (a : Nat), a + k ≤ d.L.length → (wipeD d k a).1 ≠ 0 → (wipeD d k a).1 = 14 ∧ (wipeD d k a).2.away = true
  | 0, d, a, _, h => absurd rfl h
  | k + 1, d, a, hl, h => by
    unfold wipeD at h ⊢
    cases ha : d.away
    · rw [ha] at h
      rw [if_neg (by simp)] at h ⊢
      by_cases hz : d.L.getD a ⟨#[]⟩ = zeB
      · rw [if_pos hz] at h ⊢
        exact wipe_off k d (a + 1) (by omega) h
      · rw [if_neg hz] at h ⊢
        have hw := wrD_at (d := d) (i := a) (s := zeB) (by omega) zeB_sz
        rw [ha, if_neg (by simp)] at hw
        by_cases hf : d.fuse = 0
        · rw [if_pos hf] at hw
          rw [hw, if_neg (by simp)]
          exact ⟨rfl, rfl⟩
        · rw [if_neg hf] at hw
          rw [hw] at h ⊢
          simp only [if_true] at h ⊢
          exact wipe_off k _ (a + 1) (by simp only [List.length_set]; omega) h
    · rw [if_pos rfl]; exact ⟨rfl, ha⟩
theorem wipe_on0 : ∀ (k : Nat) (d : Dk) (a : Nat), a + k ≤ d.L.length → d.away = false → d.fuse = -1 → (wipeD d k a).1 = 0
  | 0, d, a, _, _, _ => rfl
  | k + 1, d, a, hl, ha, hf => by
    unfold wipeD
    rw [if_neg (by simp [ha])]
    by_cases hz : d.L.getD a ⟨#[]⟩ = zeB
    · rw [if_pos hz]
      exact wipe_on0 k d (a + 1) (by omega) ha hf
    · rw [if_neg hz]
      have hw := wrD_at (d := d) (i := a) (s := zeB) (by omega) zeB_sz
      rw [if_neg (by simp [ha]), if_neg (by omega)] at hw
      rw [hw, if_pos rfl]
      refine wipe_on0 k _ (a + 1) (by simp only [List.length_set]; omega) ha ?_
      simp only [hf, maxI]; rfl
theorem wipe_nil : ∀ (k : Nat) (d : Dk) (a : Nat), d.away = false → (∀ i, a ≤ i → i < a + k → d.L[i]? = some zeB) → wipeD d k a = (0, d)
  | 0, d, a, _, _ => rfl
  | k + 1, d, a, ha, h => by
    unfold wipeD
    rw [if_neg (by simp [ha]), if_pos (by rw [List.getD_eq_getElem?_getD, h a (Nat.le_refl _) (by omega)]; rfl)]
    exact wipe_nil k d (a + 1) ha fun i h1 h2 => h i (by omega) (by omega)
theorem opn_any {d : Dk} (ha : d.away = false) (hl : d.L.length = 60) (h : d.fuse = -1 ∨ ∀ i, i < 60 → d.L[i]? = some zeB) : ∃ Y, opnZ d 0 60 3 = (0, Y) ∧ Y.R = (logR 60 d.L 4).1 := by
  have hu := (logR_le 60 d.L 4).1
  unfold opnZ
  rw [if_neg (by rintro (q | q | q | q) <;> first | omega | exact q (by decide)), if_neg (by simp [ha])]
  have e1 : (d.L.drop (0 : Int).toNat).take ((60 : Int) - 0).toNat = d.L := by
    rw [show (0 : Int).toNat = 0 from rfl, List.drop_zero, List.take_of_length_le (by rw [hl]; decide)]
  rw [e1, show ((60 : Int) - 0).toNat = 60 from rfl, show (3 : Int) + 1 = 4 from rfl, show (0 : Int).toNat = 0 from rfl, show (60 : Int).toNat = 60 from rfl]
  generalize logR 60 d.L 4 = x at *
  have hz : (wipeD d (60 - (0 + x.2)) (0 + x.2)).1 = 0 := by
    rcases h with h | h
    · exact wipe_on0 _ d _ (by omega) ha h
    · rw [wipe_nil _ d _ ha fun i h1 h2 => h i (by omega)]
  exact ⟨_, by rw [hz], rfl⟩
theorem logR_head {k : Nat} {L : List ByteArray} {q : Int} (h : L[0]? = some zeB) : logR k L q = ([], 0) := by
  cases L with
  | nil => simp at h
  | cons a r =>
    simp at h
    subst h
    exact logR_stop (rdZ_ze r)
def lrL (W : List ByteArray) : List ByteArray := lgL [] (frs 4 W) [] 60
theorem lrL_eq (W : List ByteArray) : lrL W = frs 4 W ++ List.replicate (60 - (frs 4 W).length) zeB := by simp [lrL, lgL]
theorem lr_law {W : List ByteArray} {K T : Nat} {w : Int} (hW : (frs 4 W).length ≤ 60) (hs : ∀ x ∈ W, x.size ≤ 200) (hT : T ≤ 64) :
    ((wipeD ⟨lrL W, false, K, T, w⟩ 60 0).1 = 0 ∧ (wipeD ⟨lrL W, false, K, T, w⟩ 60 0).2.away = false ∧ ∃ Y, opnZ (wipeD ⟨lrL W, false, K, T, w⟩ 60 0).2 0 60 3 = (0, Y) ∧ Y.R = []) ∨
    ((wipeD ⟨lrL W, false, K, T, w⟩ 60 0).1 = 14 ∧ (wipeD ⟨lrL W, false, K, T, w⟩ 60 0).2.away = true ∧ ∃ Y, opnZ (coD (wipeD ⟨lrL W, false, K, T, w⟩ 60 0).2) 0 60 3 = (0, Y) ∧ (Y.R = [] ∨ (Y.R = W ∧ (wipeD ⟨lrL W, false, K, T, w⟩ 60 0).2.writes = w))) := by
  have hl : (lrL W).length = 60 := by rw [lrL, lgL_len hW]; rfl
  have hok : (⟨lrL W, false, K, T, w⟩ : Dk).ok := ⟨lgL_sz (fun _ h => by cases h) (frs_sz W 4) (fun _ h => by cases h), by show (0 : Int) ≤ (T : Int); omega, by show (T : Int) ≤ 64; omega, by show (lrL W).length ≤ 4096; omega⟩
  have hle := (wipe_ok 60 0 hok).2
  by_cases h0 : (wipeD ⟨lrL W, false, K, T, w⟩ 60 0).1 = 0
  · left
    obtain ⟨_, h2, h3⟩ := wipe_zero 60 ⟨lrL W, false, K, T, w⟩ 0 (by show 0 + 60 ≤ (lrL W).length; omega) h0
    refine ⟨h0, h2, ?_⟩
    obtain ⟨Y, e, r⟩ := opn_any h2 (hle.trans hl) (.inr fun i hi => h3 i (Nat.zero_le _) (by omega))
    exact ⟨Y, e, by rw [r, logR_head (h3 0 (Nat.le_refl _) (by decide))]⟩
  · right
    obtain ⟨h1, h2⟩ := wipe_off 60 ⟨lrL W, false, K, T, w⟩ 0 (by show 0 + 60 ≤ (lrL W).length; omega) h0
    refine ⟨h1, h2, ?_⟩
    have hco : coD (wipeD ⟨lrL W, false, K, T, w⟩ 60 0).2 = { (wipeD ⟨lrL W, false, K, T, w⟩ 60 0).2 with away := false, fuse := -1 } := by unfold coD; rw [h2]; rfl
    obtain ⟨Y, e, r⟩ := opn_any (d := coD (wipeD ⟨lrL W, false, K, T, w⟩ 60 0).2) (by rw [hco]) (by rw [co_len]; exact hle.trans hl) (.inl (by rw [hco]))
    refine ⟨Y, e, ?_⟩
    rw [co_len] at r
    -- the first block
    cases W with
    | nil =>
      exfalso
      apply h0
      rw [wipe_nil 60 _ 0 rfl]
      intro i _ hi
      show (lrL [])[i]? = some zeB
      rw [show lrL [] = List.replicate 60 zeB from rfl, List.getElem?_replicate, if_pos (by omega)]
    | cons s R =>
      have hs0 := hs s (List.mem_cons_self ..)
      have hn : 0 < sizeN s.size := by unfold sizeN; omega
      obtain ⟨Z, hZ⟩ : ∃ Z, lrL (s :: R) = blkS 4 s 0 :: Z := by
        obtain ⟨m, hm⟩ : ∃ m, sizeN s.size = m + 1 := ⟨sizeN s.size - 1, by omega⟩
        rw [lrL_eq, frs, hm, blkL, List.range_succ_eq_map]
        exact ⟨_, rfl⟩
      have hwhole : (logR 60 (lrL (s :: R)) 4).1 = s :: R := by
        have := frs_le (s :: R) 4
        rw [lrL_eq, logR_frs (s :: R) 4 60 _ (by decide) (by omega) (fun x hx => by have := hs x hx; omega) (by omega) (rdZ_zes _)]
      have hbz : blkS 4 s 0 ≠ zeB := by
        intro q
        have h1 := blk_first (seq := 4) (d := s) (by decide) (by decide) (by omega) 1 (by omega) []
        have h2 : firZ (blkL 4 s 1 ++ []) = firS (blkS 4 s 0) := rfl
        rw [h2, q] at h1
        have h3 := firS_ze
        rw [h1] at h3
        cases h3
      have hw := wrD_at (d := ⟨lrL (s :: R), false, K, T, w⟩) (i := 0) (s := zeB) (by show 0 < (lrL (s :: R)).length; omega) zeB_sz
      rw [if_neg (by simp)] at hw
      have hst : wipeD ⟨lrL (s :: R), false, K, T, w⟩ 60 0 = if (wrD ⟨lrL (s :: R), false, K, T, w⟩ ((0 : Nat) : Int) zeB).1 = 0 then wipeD (wrD ⟨lrL (s :: R), false, K, T, w⟩ ((0 : Nat) : Int) zeB).2 59 1 else wrD ⟨lrL (s :: R), false, K, T, w⟩ ((0 : Nat) : Int) zeB := by
        rw [wipeD, if_neg (by simp), if_neg (by
          show ¬ (lrL (s :: R)).getD 0 ⟨#[]⟩ = zeB
          rw [hZ]; exact hbz)]
      by_cases hK : K = 0
      · subst hK
        rw [if_pos (show (⟨lrL (s :: R), false, ((0 : Nat) : Int), T, w⟩ : Dk).fuse = 0 from rfl)] at hw
        rw [hw, if_neg (by simp)] at hst
        rw [hst] at r ⊢
        simp only at r ⊢
        have e3 : (lrL (s :: R)).set 0 (zeB.extract 0 ((T : Int)).toNat ++ ((lrL (s :: R)).getD 0 ⟨#[]⟩).extract ((T : Int)).toNat 64) = tzS (blkS 4 s 0) T :: Z := by
          rw [hZ]; rfl
        rw [e3] at r
        by_cases hg : (rdZ (tzS (blkS 4 s 0) T :: Z)).bad = -1
        · right
          refine ⟨?_, trivial⟩
          have h56 : T ≤ 56 := by
            rcases Nat.lt_or_ge 56 T with q | q
            · exfalso
              have := fir_tz57 (d := s) hn q hT
              have h4 : firZ (tzS (blkS 4 s 0) T :: Z) = firS (tzS (blkS 4 s 0) T) := rfl
              rw [← h4] at this
              rw [rdZ_no' this] at hg
              simp at hg
            · exact q
          have := tz_same (by decide) (by decide) hs0 h56 hg
          rw [this, ← hZ] at r
          rw [r, hwhole]
        · left
          rw [r, logR_stop hg]
      · rw [if_neg (show ¬ (⟨lrL (s :: R), false, (K : Int), T, w⟩ : Dk).fuse = 0 by show ¬ ((K : Int) = 0); omega)] at hw
        rw [hw, if_pos rfl] at hst
        left
        rw [r, logR_head]
        rw [hst, wipe_keep 59 _ 1 0 (by decide)]
        show ((lrL (s :: R)).set 0 zeB)[0]? = some zeB
        rw [hZ]; rfl
end Go.Proofs.YthapdikdeoeplaaDoor.H6
end
section
set_option linter.unusedVariables false
set_option linter.unnecessarySimpa false
open Go AH
set_option linter.unusedSimpArgs false
set_option maxRecDepth 100000
namespace Go.Proofs.YthapdikdeoeplaaDoor.H6
theorem z64_ze : z64 = zeB := ba_ext (by rw [zeB_l]; rfl)
theorem fuse_dn {f : Int} (h1 : -1 ≤ f) (h2 : f ≤ 1000) : f ≠ 0 → maxI (IntKind.i64.wrap (f - 1)) (-1) = if f = -1 then -1 else f - 1 := by
  intro _
  rw [IntKind.wrap_i64]
  unfold maxI
  split <;> split <;> omega
theorem wr_fu {P S : List ByteArray} {o s : ByteArray} {f t w : Int} (hs : s.size = 64) (h1 : -1 ≤ f) (h2 : f ≤ 1000) (h3 : f ≠ 0) : ∃ w', wrD ⟨P ++ o :: S, false, f, t, w⟩ ((P.length : Nat) : Int) s = (0, ⟨P ++ s :: S, false, if f = -1 then -1 else f - 1, t, w'⟩) := by
  have hi : P.length < (⟨P ++ o :: S, false, f, t, w⟩ : Dk).L.length := by show P.length < (P ++ o :: S).length; simp
  rw [wrD_at hi hs]
  refine ⟨IntKind.i64.wrap (w + 1), ?_⟩
  rw [if_neg (by simp), if_neg h3]
  simp only [set_mid, fuse_dn h1 h2 h3]
theorem lay_fu : ∀ (B : List ByteArray) (P S : List ByteArray) (f t w : Int), (∀ s ∈ B, s.size = 64) → -1 ≤ f → f ≤ 1000 → (f = -1 ∨ (B.length : Int) ≤ f) → ∃ w', layD ⟨P ++ (List.replicate B.length zeB ++ S), false, f, t, w⟩ P.length B = (0, ⟨P ++ (B ++ S), false, if f = -1 then -1 else f - B.length, t, w'⟩)
  | [], P, S, f, t, w, _, _, _, _ => ⟨w, by
    simp only [layD, List.length_nil, List.replicate_zero, List.nil_append]
    congr 2
    split
    · assumption
    · omega⟩
  | s :: r, P, S, f, t, w, hs, h1, h2, h3 => by
    have h4 : f ≠ 0 := by rcases h3 with h | h <;> (try rw [List.length_cons] at h) <;> omega
    obtain ⟨w1, e1⟩ := wr_fu (P := P) (S := List.replicate r.length zeB ++ S) (o := zeB) (s := s) (f := f) (t := t) (w := w) (hs s (List.mem_cons_self ..)) h1 h2 h4
    have g : (if f = -1 then -1 else f - 1 : Int) = -1 ∨ (r.length : Int) ≤ (if f = -1 then -1 else f - 1) := by
      rcases h3 with h | h
      · left; rw [if_pos h]
      · rw [List.length_cons] at h
        by_cases q : f = -1
        · left; rw [if_pos q]
        · right; rw [if_neg q]; omega
    obtain ⟨w2, e2⟩ := lay_fu r (P ++ [s]) S (if f = -1 then -1 else f - 1) t w1 (fun x hx => hs x (List.mem_cons_of_mem _ hx)) (by split <;> omega) (by split <;> omega) g
    refine ⟨w2, ?_⟩
    rw [layD, List.length_cons, List.replicate_succ, List.cons_append, e1, if_pos rfl]
    simp only [List.append_assoc, List.singleton_append, List.length_append, List.length_cons, List.length_nil, Nat.zero_add] at e2
    rw [e2]
    simp only [List.cons_append]
    congr 2
    by_cases q : f = -1
    · simp [q]
    · simp only [if_neg q]
      rw [if_neg (by rcases h3 with h | h <;> (try rw [List.length_cons] at h) <;> omega)]
      omega
theorem lay_cut : ∀ (j : Nat) (B P S : List ByteArray) (s : ByteArray) (T : Nat) (w : Int), (∀ s ∈ B, s.size = 64) → j ≤ 900 → B[j]? = some s → ∃ w', layD ⟨P ++ (List.replicate B.length zeB ++ S), false, (j : Int), (T : Int), w⟩ P.length B = (14, ⟨P ++ (B.take j ++ (tornS s T :: (List.replicate (B.length - j - 1) zeB ++ S))), true, 0, (T : Int), w'⟩)
  | _, [], P, S, s, T, w, _, _, h => by simp at h
  | 0, b :: r, P, S, s, T, w, hs, _, h => by
    simp at h
    subst h
    have hi : P.length < (⟨P ++ (zeB :: (List.replicate r.length zeB ++ S)), false, ((0 : Nat) : Int), (T : Int), w⟩ : Dk).L.length := by show P.length < (P ++ (zeB :: (List.replicate r.length zeB ++ S))).length; simp
    have hw := wrD_at (d := ⟨P ++ (zeB :: (List.replicate r.length zeB ++ S)), false, ((0 : Nat) : Int), (T : Int), w⟩) hi (hs b (List.mem_cons_self ..))
    rw [if_neg (by simp), if_pos (show (⟨P ++ (zeB :: (List.replicate r.length zeB ++ S)), false, ((0 : Nat) : Int), (T : Int), w⟩ : Dk).fuse = 0 from rfl)] at hw
    refine ⟨w, ?_⟩
    rw [layD, List.length_cons, List.replicate_succ, List.cons_append, hw, if_neg (by simp)]
    simp only [set_mid, getD_mid, Int.toNat_natCast, List.take_zero, List.nil_append, tornS, z64_ze]
    rfl
  | j + 1, b :: r, P, S, s, T, w, hs, hj, h => by
    obtain ⟨w1, e1⟩ := wr_fu (P := P) (S := List.replicate r.length zeB ++ S) (o := zeB) (s := b) (f := ((j + 1 : Nat) : Int)) (t := (T : Int)) (w := w) (hs b (List.mem_cons_self ..)) (by omega) (by omega) (by omega)
    rw [if_neg (by omega), show ((j + 1 : Nat) : Int) - 1 = (j : Int) by omega] at e1
    obtain ⟨w2, e2⟩ := lay_cut j r (P ++ [b]) S s T w1 (fun x hx => hs x (List.mem_cons_of_mem _ hx)) (by omega) (by simpa using h)
    refine ⟨w2, ?_⟩
    rw [layD, List.length_cons, List.replicate_succ, List.cons_append, e1, if_pos rfl]
    simp only [List.append_assoc, List.singleton_append, List.length_append, List.length_cons, List.length_nil, Nat.zero_add] at e2
    rw [e2]
    simp only [List.take_succ_cons, List.cons_append, Prod.mk.injEq, true_and]
    rw [show r.length + 1 - (j + 1) - 1 = r.length - j - 1 by omega]
theorem cut_read {q : Int} {s : ByteArray} {j T m : Nat} (h1 : 1 ≤ q) (h2 : q ≤ 2147483647) (h3 : s.size ≤ 6000) (hj : j < sizeN s.size) (hT : T ≤ 64) (hm : sizeN s.size ≤ j + 1 + m) :
    (rdZ ((blkL q s (sizeN s.size)).take j ++ (tornS (blkS q s j) T :: List.replicate m zeB))).bad ≠ -1 ∨ (j + 1 = sizeN s.size ∧ tornS (blkS q s j) T = blkS q s j) := by
  have hlen : ((blkL q s (sizeN s.size)).take j).length = j := by rw [List.length_take, blkL_len]; omega
  have hg : ∀ i, i < j → ((blkL q s (sizeN s.size)).take j ++ (tornS (blkS q s j) T :: List.replicate m zeB))[i]? = some (blkS q s i) := fun i hi => by
    rw [List.getElem?_append_left (by omega), List.getElem?_take, if_pos hi]
    simp only [blkL]
    rw [List.getElem?_map, List.getElem?_range (by omega)]; rfl
  have hat : ((blkL q s (sizeN s.size)).take j ++ (tornS (blkS q s j) T :: List.replicate m zeB))[j]? = some (tornS (blkS q s j) T) := by
    rw [List.getElem?_append_right (by omega), hlen, Nat.sub_self]; rfl
  have hs := blk_sz (seq := q) hj
  by_cases he : tornS (blkS q s j) T = blkS q s j
  · by_cases hn : j + 1 = sizeN s.size
    · exact .inr ⟨hn, he⟩
    · left
      have hz : ((blkL q s (sizeN s.size)).take j ++ (tornS (blkS q s j) T :: List.replicate m zeB))[j + 1]? = some z64 := by
        rw [List.getElem?_append_right (by omega), hlen, show j + 1 - j = 0 + 1 by omega, List.getElem?_cons_succ, List.getElem?_replicate, if_pos (by omega), z64_ze]
      rw [rd_bad (k := j + 1) (s := z64) h1 h2 h3 (fun i hi => by
        rcases Nat.lt_or_ge i j with g | g
        · exact hg i g
        · obtain rfl : i = j := by omega
          rw [hat, he]) (by omega) hz rfl (by omega) (fun _ => zero_tail h1 (by omega))]
      simp only; omega
  · left
    rw [rd_bad (k := j) (s := tornS (blkS q s j) T) h1 h2 h3 hg hj hat (tornS_sz hs hT) (fun e => by subst e; exact first_no h3 hT he) (fun _ => tail_ne h1 (by omega) hj hT he)]
    simp only; omega
theorem wipe_torn {t : Int} : ∀ (k : Nat) (L : List ByteArray) (w : Int) (a : Nat), a + k ≤ L.length → ∃ L' w', wipeD (dOn L w) k a = (0, dOn L' w') ∧ wipeD ⟨L, false, -1, t, w⟩ k a = (0, ⟨L', false, -1, t, w'⟩)
  | 0, L, w, a, _ => ⟨L, w, rfl, rfl⟩
  | k + 1, L, w, a, h => by
    by_cases hz : L.getD a ⟨#[]⟩ = zeB
    · obtain ⟨L', w', e1, e2⟩ := wipe_torn (t := t) k L w (a + 1) (by omega)
      refine ⟨L', w', ?_, ?_⟩
      · rw [wipeD, if_neg (by simp [dOn]), if_pos (show (dOn L w).L.getD a ⟨#[]⟩ = zeB from hz), e1]
      · rw [wipeD, if_neg (by simp), if_pos hz, e2]
    · have h1 := wrD_at (d := dOn L w) (i := a) (s := zeB) (by show a < L.length; omega) zeB_sz
      have h2 := wrD_at (d := ⟨L, false, -1, t, w⟩) (i := a) (s := zeB) (by show a < L.length; omega) zeB_sz
      rw [if_neg (by simp [dOn]), if_neg (by simp [dOn])] at h1
      rw [if_neg (by simp), if_neg (by simp)] at h2
      obtain ⟨L', w', e1, e2⟩ := wipe_torn (t := t) k (L.set a zeB) (IntKind.i64.wrap (w + 1)) (a + 1) (by rw [List.length_set]; omega)
      have m1 : maxI (IntKind.i64.wrap ((-1 : Int) - 1)) (-1) = -1 := by decide
      refine ⟨L', w', ?_, ?_⟩
      · rw [wipeD, if_neg (by simp [dOn]), if_neg (show ¬ (dOn L w).L.getD a ⟨#[]⟩ = zeB from hz), h1, if_pos rfl]
        simp only [dOn, m1] at e1 ⊢
        exact e1
      · rw [wipeD, if_neg (by simp), if_neg hz, h2, if_pos rfl]
        simp only [m1]
        exact e2
theorem opn_torn {L : List ByteArray} {w t b : Int} {F T : Nat} {L1 : List ByteArray} {w1 f1 t1 b1 a1 : Int} {R1 : List ByteArray} {o1 : Bool} (hFT : F < T) (hT : T ≤ L.length) (hb : isBase b) (h : opnZ (dOn L w) F T b = (0, ⟨dOn L1 w1, f1, t1, b1, a1, R1, o1⟩)) : opnZ ⟨L, false, -1, t, w⟩ F T b = (0, ⟨⟨L1, false, -1, t, w1⟩, f1, t1, b1, a1, R1, o1⟩) := by
  have hu := (logR_le (T - F) ((L.drop F).take (T - F)) (b + 1)).1
  rw [List.length_take, List.length_drop] at hu
  unfold opnZ at h ⊢
  rw [if_neg (by rintro (q | q | q | q) <;> first | omega | exact q hb | (have : (dOn L w).L.length = L.length := rfl; omega)), if_neg (by simp [dOn])] at h
  rw [if_neg (by rintro (q | q | q | q) <;> first | omega | exact q hb | (have : (⟨L, false, -1, t, w⟩ : Dk).L.length = L.length := rfl; omega)), if_neg (by simp)]
  have e2 : (dOn L w).L = L := rfl
  simp only [Int.toNat_natCast, show ((T : Int) - (F : Int)).toNat = T - F by omega, e2] at h ⊢
  generalize logR (T - F) ((L.drop F).take (T - F)) (b + 1) = x at *
  obtain ⟨L', w', q1, q2⟩ := wipe_torn (t := t) (T - (F + x.2)) L w (F + x.2) (by omega)
  rw [q1] at h
  rw [q2]
  simp only [Prod.mk.injEq, true_and, and_true, Lg.mk.injEq, dOn, Dk.mk.injEq] at h ⊢
  exact h
end Go.Proofs.YthapdikdeoeplaaDoor.H6
end
section
set_option linter.unusedVariables false
set_option linter.unnecessarySimpa false
open Go AH
set_option linter.unusedSimpArgs false
set_option maxRecDepth 100000
namespace Go.Proofs.YthapdikdeoeplaaDoor.H6
def lkA : List ByteArray := List.replicate 5 zeB
def lkC : List ByteArray := List.replicate 10 zeB
def lkL (R : List ByteArray) : List ByteArray := lgL lkA (frs 8 R) lkC 105
def lkD (R : List ByteArray) (f t w : Int) : Dk := ⟨lkL R, false, f, t, w⟩
def lkX (R : List ByteArray) (f t w : Int) : Lg := ⟨lkD R f t w, 5, 110, 7, ((5 + (frs 8 R).length : Nat) : Int), R, false⟩
structure lkI (R : List ByteArray) (f t : Int) : Prop where
  fl : (frs 8 R).length ≤ 105
  sz : ∀ s ∈ R, s.size ≤ 200
  f1 : -1 ≤ f
  f2 : f ≤ 30
  t1 : 0 ≤ t
  t2 : t ≤ 64
theorem rep_sz (n : Nat) : ∀ x ∈ List.replicate n zeB, x.size = 64 := fun x hx => by rw [(List.mem_replicate.1 hx).2]; exact zeB_sz
variable {R : List ByteArray} {f t w : Int}
theorem lkI.dok (h : lkI R f t) : (lkD R f t w).ok := by
  refine ⟨lgL_sz (rep_sz 5) (frs_sz R 8) (rep_sz 10), h.t1, h.t2, ?_⟩
  show (lkL R).length ≤ 4096
  rw [lkL, lgL_len h.fl]; decide
theorem lkI.len (h : lkI R f t) : (lkL R).length = 120 := by rw [lkL, lgL_len h.fl]; rfl
theorem lkI.ok (h : lkI R f t) : (lkX R f t w).ok := by
  have h1 := frs_le R 8
  have h2 := h.len
  have h3 := h.fl
  refine ⟨h.dok, (by decide : isBase 7), by show (0 : Int) ≤ 5; decide, ?_, ?_, ?_, ?_⟩
  · show (5 : Int) ≤ ((5 + (frs 8 R).length : Nat) : Int); omega
  · show ((5 + (frs 8 R).length : Nat) : Int) ≤ 110; omega
  · show (110 : Int) ≤ ((lkL R).length : Int); omega
  · show (R.length : Int) ≤ ((5 + (frs 8 R).length : Nat) : Int) - 5; omega
theorem lk_opn {L R Z : List ByteArray} {t w : Int} (hL : L = lkA ++ ((frs 8 R ++ Z) ++ lkC)) (hl : (frs 8 R ++ Z).length = 105) (hZ : (rdZ Z).bad ≠ -1) (hs : ∀ s ∈ R, s.size ≤ 200) : ∃ w', opnZ ⟨L, false, -1, t, w⟩ 5 110 7 = (0, lkX R (-1) t w') := by
  have h1 := frs_le R 8
  rw [List.length_append] at hl
  have e1 : L.take 5 = lkA := by rw [hL]; exact List.take_left' (by decide)
  have e2 : (L.drop 5).take (110 - 5) = frs 8 R ++ Z := by rw [hL, List.drop_left' (by decide)]; exact List.take_left' (by rw [List.length_append]; omega)
  have e3 : L.drop 110 = lkC := by
    rw [hL, ← List.append_assoc]; exact List.drop_left' (by rw [List.length_append, List.length_append]; show 5 + _ = _; omega)
  have hlog := logR_frs R (7 + 1) (110 - 5) Z (by decide) (by omega) (fun x hx => by have := hs x hx; omega) (by omega) hZ
  have hLl : L.length = 120 := by rw [hL, List.length_append, List.length_append, List.length_append]; show 5 + (_ + 10) = 120; omega
  obtain ⟨w', h⟩ := opn_on (all := L) (F := 5) (T := 110) (b := 7) (w := w) (by decide) (by omega) (by decide)
  rw [e2, e1, e3] at h
  have hlog' : logR (110 - 5) (frs 8 R ++ Z) (7 + 1) = (R, (frs 8 R).length) := hlog
  have e4 : (L.drop 5).take (frs 8 R).length = frs 8 R := by rw [hL, List.drop_left' (by decide), List.append_assoc, List.take_left]
  rw [hlog'] at h
  simp only [e4] at h
  exact ⟨w', opn_torn (t := t) (F := 5) (T := 110) (by decide) (by omega) (by decide) h⟩
theorem lk_new : newD 120 = ⟨lkL [], false, -1, 0, 0⟩ := newD_rep (n := 120) (by decide)
theorem lkI0 {t : Int} (h1 : 0 ≤ t) (h2 : t ≤ 64) : lkI [] (-1) t := ⟨Nat.zero_le _, (fun s h => by cases h), by decide, by decide, h1, h2⟩
theorem lkL_eq (R : List ByteArray) : lkL R = lkA ++ ((frs 8 R ++ List.replicate (105 - (frs 8 R).length) zeB) ++ lkC) := by
  rw [lkL, lgL]; simp only [List.append_assoc]
theorem lk_whole (h : lkI R f t) {t2 w : Int} : ∃ w', opnZ ⟨lkL R, false, -1, t2, w⟩ 5 110 7 = (0, lkX R (-1) t2 w') :=
  lk_opn (Z := List.replicate (105 - (frs 8 R).length) zeB) (lkL_eq R) (by rw [List.length_append, List.length_replicate]; have := h.fl; omega) (rdZ_zes _) h.sz
theorem lk_fuse {K T : Int} (hK : -1 ≤ K) (hT1 : 0 ≤ T) (hT2 : T ≤ 64) : fuD (lkD R f t w) K T = lkD R K T w := by
  show (⟨lkL R, false, maxI K (-1), minI (maxI T 0) 64, w⟩ : Dk) = _
  have m1 : maxI K (-1) = K := by unfold maxI; split <;> omega
  have m2 : minI (maxI T 0) 64 = T := by unfold minI maxI; split <;> split <;> omega
  rw [m1, m2]; rfl
theorem lk_rest (h : lkI R f t) : ∃ D, wrD (lkD R 0 0 w) 0 zeB = (14, D) ∧ D.ok ∧ ∃ w', opnZ (coD D) 5 110 7 = (0, lkX R (-1) 0 w') := by
  have hl := h.len
  have h0 : lkI R 0 0 := ⟨h.fl, h.sz, by decide, by decide, by decide, by decide⟩
  have hw := wrD_at (d := lkD R 0 0 w) (i := 0) (s := zeB) (by show 0 < (lkL R).length; omega) zeB_sz
  rw [if_neg (by simp [lkD]), if_pos (show (lkD R 0 0 w).fuse = 0 from rfl)] at hw
  have e : (lkD R 0 0 w).L.set 0 (zeB.extract 0 (lkD R 0 0 w).torn.toNat ++ ((lkD R 0 0 w).L.getD 0 ⟨#[]⟩).extract (lkD R 0 0 w).torn.toNat 64) = lkL R := by
    have hg : (lkL R).getD 0 ⟨#[]⟩ = zeB := rfl
    show (lkL R).set 0 (zeB.extract 0 0 ++ ((lkL R).getD 0 ⟨#[]⟩).extract 0 64) = _
    rw [hg]
    have : zeB.extract 0 0 ++ zeB.extract 0 64 = zeB := ba_ext (by rw [ByteArray.data_append, Array.toList_append, ex_toList, ex_toList, zeB_l]; rfl)
    rw [this]
    show (lkL R).set 0 zeB = lkL R
    rw [lkL, lgL, lkA, List.replicate_succ]; rfl
  rw [e] at hw
  obtain ⟨w', ho⟩ := lk_whole h (t2 := 0) (w := w)
  exact ⟨_, hw, h0.dok (w := w), w', ho⟩
theorem lk_add (h : lkI R f t) {s : ByteArray} (hs : s.size ≤ 200) :
    addL (lkX R f t w) s = (7, lkX R f t w) ∨
    (∃ f' w', addL (lkX R f t w) s = (0, lkX (R ++ [s]) f' t w') ∧ lkI (R ++ [s]) f' t) ∨
    ∃ D R' w', addL (lkX R f t w) s = (14, ⟨D, 5, 110, 7, ((5 + (frs 8 R).length : Nat) : Int), R, true⟩) ∧ D.ok ∧ D.away = true ∧ (frs 8 R).length < 105 ∧ D.L.length = 120 ∧ (R' = R ∨ R' = R ++ [s]) ∧ opnZ (coD D) 5 110 7 = (0, lkX R' (-1) t w') ∧ lkI R' (-1) t := by
  have h1 := frs_le R 8
  have hfl := h.fl
  have hnx : (lkX R f t w).next = 8 + (R.length : Int) := by show (7 : Int) + (R.length : Int) + 1 = _; omega
  have hrm : (lkX R f t w).room = ((105 - (frs 8 R).length : Nat) : Int) := by show (110 : Int) - ((5 + (frs 8 R).length : Nat) : Int) = _; omega
  have hat : (lkX R f t w).a.toNat = 5 + (frs 8 R).length := Int.toNat_natCast _
  by_cases hr : (frs 8 R).length + sizeN s.size ≤ 105
  · right
    have hn0 := sizeN_pos s.size
    have hbl := blkL_len (8 + (R.length : Int)) s (sizeN s.size)
    have hbz := blkL_sz (q := 8 + (R.length : Int)) (s := s) (n := sizeN s.size) (Nat.le_refl _)
    have e0 : addL (lkX R f t w) s = if (layD (lkD R f t w) (5 + (frs 8 R).length) (blkL (8 + (R.length : Int)) s (sizeN s.size))).1 = 0 then (0, { lkX R f t w with d := (layD (lkD R f t w) (5 + (frs 8 R).length) (blkL (8 + (R.length : Int)) s (sizeN s.size))).2, a := ((5 + (frs 8 R).length : Nat) : Int) + sizeN s.size, R := R ++ [s] }) else
        ((layD (lkD R f t w) (5 + (frs 8 R).length) (blkL (8 + (R.length : Int)) s (sizeN s.size))).1, { lkX R f t w with d := (layD (lkD R f t w) (5 + (frs 8 R).length) (blkL (8 + (R.length : Int)) s (sizeN s.size))).2, down := (layD (lkD R f t w) (5 + (frs 8 R).length) (blkL (8 + (R.length : Int)) s (sizeN s.size))).1 == 14 }) := by
      unfold addL
      rw [if_neg (by omega), if_neg (by rw [hrm, hnx]; omega), if_neg (by simp [lkX]), hnx, hat]
      rfl
    have hLe : lkL R = (lkA ++ frs 8 R) ++ (List.replicate (sizeN s.size) zeB ++ (List.replicate (105 - (frs 8 R).length - sizeN s.size) zeB ++ lkC)) := by
      rw [lkL, lgL, ← List.append_assoc (List.replicate _ _) (List.replicate _ _) lkC, List.replicate_append_replicate, List.append_assoc]
      congr 4; omega
    have hPl : (lkA ++ frs 8 R).length = 5 + (frs 8 R).length := by rw [List.length_append]; rfl
    have hsn := frs_snoc R 8 s
    have hI' : ∀ f', -1 ≤ f' → f' ≤ 30 → lkI (R ++ [s]) f' t := fun f' g1 g2 => ⟨by rw [hsn, List.length_append, hbl]; exact hr, fun x hx => (List.mem_append.1 hx).elim (h.sz x) fun q => by rw [List.mem_singleton.1 q]; exact hs, g1, g2, h.t1, h.t2⟩
    by_cases hc : f = -1 ∨ ((sizeN s.size : Nat) : Int) ≤ f
    · left
      obtain ⟨w', hl⟩ := lay_fu (blkL (8 + (R.length : Int)) s (sizeN s.size)) (lkA ++ frs 8 R) (List.replicate (105 - (frs 8 R).length - sizeN s.size) zeB ++ lkC) f t w hbz h.f1 (by have := h.f2; omega) (by rw [hbl]; exact hc)
      rw [hbl, ← hLe, hPl] at hl
      have hl' : layD (lkD R f t w) (5 + (frs 8 R).length) (blkL (8 + (R.length : Int)) s (sizeN s.size)) = _ := hl
      rw [hl', if_pos rfl] at e0
      refine ⟨if f = -1 then -1 else f - (sizeN s.size : Nat), w', ?_, hI' _ (by have := h.f1; split <;> omega) (by have := h.f2; split <;> omega)⟩
      rw [e0]
      have eL : (lkA ++ frs 8 R) ++ (blkL (8 + (R.length : Int)) s (sizeN s.size) ++ (List.replicate (105 - (frs 8 R).length - sizeN s.size) zeB ++ lkC)) = lkL (R ++ [s]) := by
        rw [lkL, lgL, hsn, List.length_append, hbl, Nat.sub_sub]
        simp only [List.append_assoc]
      rw [eL]
      simp only [lkX, lkD, hsn, List.length_append, hbl, Prod.mk.injEq, true_and, Lg.mk.injEq, and_true]
      omega
    · right
      obtain ⟨j, rfl⟩ : ∃ j : Nat, f = (j : Int) := Int.eq_ofNat_of_zero_le (by have := h.f1; omega)
      obtain ⟨T, rfl⟩ : ∃ T : Nat, t = (T : Int) := Int.eq_ofNat_of_zero_le h.t1
      have hj : j < sizeN s.size := by omega
      have hT : T ≤ 64 := by have := h.t2; omega
      obtain ⟨w', hl⟩ := lay_cut j (blkL (8 + (R.length : Int)) s (sizeN s.size)) (lkA ++ frs 8 R) (List.replicate (105 - (frs 8 R).length - sizeN s.size) zeB ++ lkC) (blkS (8 + (R.length : Int)) s j) T w hbz (by have := h.f2; omega) (by simp only [blkL]; rw [List.getElem?_map, List.getElem?_range hj]; rfl)
      rw [hbl, ← hLe, hPl] at hl
      have hl' : layD (lkD R j T w) (5 + (frs 8 R).length) (blkL (8 + (R.length : Int)) s (sizeN s.size)) = _ := hl
      have hzr : (List.replicate (sizeN s.size - j - 1) zeB ++ (List.replicate (105 - (frs 8 R).length - sizeN s.size) zeB ++ lkC)) = List.replicate (105 - (frs 8 R).length - j - 1) zeB ++ lkC := by
        rw [← List.append_assoc, List.replicate_append_replicate]; congr 2; omega
      rw [hzr] at hl'
      rw [hl', if_neg (by simp)] at e0
      have htk : ((blkL (8 + (R.length : Int)) s (sizeN s.size)).take j).length = j := by rw [List.length_take, hbl]; omega
      have hDok : (⟨(lkA ++ frs 8 R) ++ ((blkL (8 + (R.length : Int)) s (sizeN s.size)).take j ++ (tornS (blkS (8 + (R.length : Int)) s j) T :: (List.replicate (105 - (frs 8 R).length - j - 1) zeB ++ lkC))), true, 0, (T : Int), w'⟩ : Dk).ok := by
        have := (lay_ok (blkL (8 + (R.length : Int)) s (sizeN s.size)) (5 + (frs 8 R).length) (h.dok (w := w))).1
        rw [hl'] at this
        exact this
      have hDl : ((lkA ++ frs 8 R) ++ ((blkL (8 + (R.length : Int)) s (sizeN s.size)).take j ++ (tornS (blkS (8 + (R.length : Int)) s j) T :: (List.replicate (105 - (frs 8 R).length - j - 1) zeB ++ lkC)))).length = 120 := by
        have := (lay_ok (blkL (8 + (R.length : Int)) s (sizeN s.size)) (5 + (frs 8 R).length) (h.dok (w := w))).2
        rw [hl'] at this
        exact this.trans h.len
      have hcut := cut_read (q := 8 + (R.length : Int)) (s := s) (j := j) (T := T) (m := 105 - (frs 8 R).length - j - 1) (by omega) (by omega) (by omega) hj hT (by omega)
      have fin : ∃ R' w2, (R' = R ∨ R' = R ++ [s]) ∧ opnZ ⟨(lkA ++ frs 8 R) ++ ((blkL (8 + (R.length : Int)) s (sizeN s.size)).take j ++ (tornS (blkS (8 + (R.length : Int)) s j) T :: (List.replicate (105 - (frs 8 R).length - j - 1) zeB ++ lkC))), false, -1, (T : Int), w'⟩ 5 110 7 = (0, lkX R' (-1) T w2) ∧ lkI R' (-1) T := by
        rcases hcut with hbad | ⟨hn, hto⟩
        · obtain ⟨w2, ho⟩ := lk_opn (R := R) (Z := (blkL (8 + (R.length : Int)) s (sizeN s.size)).take j ++ (tornS (blkS (8 + (R.length : Int)) s j) T :: List.replicate (105 - (frs 8 R).length - j - 1) zeB)) (t := (T : Int)) (w := w') rfl (by
            rw [List.length_append, List.length_append, List.length_cons, List.length_replicate, htk]; omega) hbad h.sz
          refine ⟨R, w2, .inl rfl, ?_, ⟨h.fl, h.sz, by decide, by decide, by omega, by omega⟩⟩
          rw [← ho]
          simp only [List.append_assoc, List.cons_append]
        · obtain ⟨w2, ho⟩ := lk_opn (R := R ++ [s]) (Z := List.replicate (105 - (frs 8 R).length - j - 1) zeB) (t := (T : Int)) (w := w') rfl (by
            rw [hsn, List.length_append, List.length_append, List.length_replicate, hbl]; omega) (rdZ_zes _) (hI' (-1) (by decide) (by decide)).sz
          refine ⟨R ++ [s], w2, .inr rfl, ?_, hI' (-1) (by decide) (by decide)⟩
          rw [← ho]
          have eB : blkL (8 + (R.length : Int)) s (sizeN s.size) = (blkL (8 + (R.length : Int)) s (sizeN s.size)).take j ++ [tornS (blkS (8 + (R.length : Int)) s j) T] := by
            rw [hto]
            conv => lhs; rw [← hn, blkL_succ]
            congr 1
            rw [← hn, blkL_succ, List.take_left' (blkL_len ..)]
          rw [hsn]
          conv => rhs; rw [eB]
          simp only [List.append_assoc, List.cons_append, List.nil_append]
      obtain ⟨R', w2, g1, g2, g3⟩ := fin
      exact ⟨_, R', w2, e0, hDok, rfl, by omega, hDl, g1, g2, g3⟩
  · left
    unfold addL
    rw [if_neg (by omega), if_pos (.inl (by rw [hrm]; omega))]
end Go.Proofs.YthapdikdeoeplaaDoor.H6
end
section
set_option linter.unusedVariables false
set_option linter.unnecessarySimpa false
open Go AH
set_option linter.unusedSimpArgs false
set_option maxRecDepth 100000
namespace Go.Proofs.YthapdikdeoeplaaDoor.H6
def nfX {α β : Type} (k : Nat) (c : Cod α) (x : Cod β) (f : List α → β → AV) (h : List α → β → Mem) : NF := fun args rows => match args, rows with
  | .slc i1 j1 n1 q1 :: r, [(w1, es1)] => match c.decL es1, x.dec r with
    | some l1, some b => bif i1 == 0 && (j1 == 0 && (q1.isNone && (w1 == k && (n1 == l1.length && decide (n1 ≤ 1048576))))) then some (f l1 b, h l1 b) else none
    | _, _ => none
  | _, _ => none
theorem nfX_ok {α β : Type} {g : FuncId} {k : Nat} {c : Cod α} {x : Cod β} {f : List α → β → AV} {h : List α → β → Mem} (he : S0.errs ≠ [])
    (H : ∀ l b, l.length ≤ 1048576 → (f l b).inB (fun j => decide (1 ≤ j)) = true ∧ (h l b).all (blkIn fun j => decide (1 ≤ j)) = true ∧ (h l b).all rwB = true ∧
      CallA1 S0 g (.slc 0 0 l.length none :: x.enc b) [some (.row true k (l.map c.enc))] fun r m' => r = f l b ∧ m' = [some (.row true k (l.map c.enc))] ++ h l b) :
    CallF S0 g (utN [k] (nfX k c x f h)) := by
  refine utN_ok he fun args rows v news e => ?_
  unfold nfX at e
  split at e
  · rename_i i1 j1 n1 q1 r w1 es1
    split at e
    · rename_i l1 b h1 h2
      cases hc : i1 == 0 && (j1 == 0 && (q1.isNone && (w1 == k && (n1 == l1.length && decide (n1 ≤ 1048576))))) with
      | false => rw [hc] at e; cases e
      | true =>
        rw [hc] at e
        simp only [cond_true, Option.some.injEq, Prod.mk.injEq] at e
        obtain ⟨rfl, rfl⟩ := e
        simp only [Bool.and_eq_true, beq_iff_eq, decide_eq_true_eq] at hc
        obtain ⟨rfl, rfl, hp1, rfl, rfl, hb1⟩ := hc
        have : q1 = none := by simpa using hp1
        subst this
        rw [c.decL_ok h1, x.ok _ _ h2]
        exact H l1 b hb1
    · cases e
  · cases e
theorem nfX_eq {α β : Type} {k : Nat} {c : Cod α} {x : Cod β} {f : List α → β → AV} {h : List α → β → Mem} {id ix n : Nat} {p : Option Nat} {r : List AV} {b : β} {m : Mem} {es : List (List AV)} {l : List α}
    (hM : rowE (mget m) id = some (k, es)) (hs : (es.drop ix).take n = l.map c.enc) (hle : ix + n ≤ es.length) (hb : n ≤ 1048576) (hr : x.dec r = some b) :
    utN [k] (nfX k c x f h) (.slc id ix n p :: r) m = some ((f l b).ren (shift m.length 1), m ++ newOnes (shift m.length 1) (h l b)) := by
  obtain ⟨ro, hM⟩ := rowE_some hM
  have hn : n = l.length := by
    have := congrArg List.length hs
    rw [List.length_take, List.length_drop, List.length_map] at this
    omega
  have hrf := x.ok _ _ hr
  have hfl : AV.lts 0 r = true := by rw [hrf]; exact x.flat b
  have hv : vw (mget m) [k] (.slc id ix n p :: r) 0 = some (.slc 0 0 n none :: r, [(k, l.map c.enc)], [id]) := by
    simp only [vw, hM, beq_self_eq_true, hle, decide_true, hs, c.all_flat, Bool.and_self, cond_true, vw_flat hfl, Option.map_some]
  simp only [utN, hv, useN, nfX, c.decL_map, hr]
  subst hn
  simp [hb]
end Go.Proofs.YthapdikdeoeplaaDoor.H6
end
section
set_option linter.unusedVariables false
set_option linter.unnecessarySimpa false
open Go AH
set_option linter.unusedSimpArgs false
set_option maxRecDepth 100000
namespace Go.Proofs.YthapdikdeoeplaaDoor.H6
def vfC {α : Type} (k : Nat) (c : Cod α) (p : List α → Prop) [DecidablePred p] (f : List α → AV) : VF := fun args rows => match args, rows with
  | [.slc 0 0 n none], [(k', es)] => match c.decL es with
    | some L => if k' = k ∧ n = L.length ∧ p L then some (f L) else none
    | none => none
  | _, _ => none
theorem vfC_ok {α : Type} {g : FuncId} {k : Nat} {c : Cod α} {p : List α → Prop} [DecidablePred p] {f : List α → AV} (he : S0.errs ≠ []) (h : ∀ L, p L → (f L).lt 0 = true ∧ CallA1 S0 g [.slc 0 0 L.length none] [some (.row true k (L.map c.enc))] fun r _ => r = f L) :
    ReadF S0 g (rtV [k] (vfC k c p f)) := by
  refine rtV_ok he fun args rows v e => ?_
  unfold vfC at e
  split at e
  · rename_i n k' es
    split at e
    · rename_i L hL
      split at e
      · rename_i hc
        simp only [Option.some.injEq] at e
        subst e
        obtain ⟨rfl, rfl, h3⟩ := hc
        have := c.decL_ok hL
        subst this
        exact h L h3
      · cases e
    · cases e
  · cases e
theorem vfC_eq {α : Type} {k : Nat} {c : Cod α} {p : List α → Prop} [DecidablePred p] {f : List α → AV} {id ix n : Nat} {cap : Option Nat} {M : Nat → Option Blk} {es : List (List AV)} {l : List α} (hM : rowE M id = some (k, es)) (hs : (es.drop ix).take n = l.map c.enc) (hle : ix + n ≤ es.length) (hp : p l) :
    rtV [k] (vfC k c p f) [.slc id ix n cap] M = some (f l, [id]) := by
  obtain ⟨ro, hM⟩ := rowE_some hM
  have hn : n = l.length := by
    have := congrArg List.length hs
    rw [List.length_take, List.length_drop, List.length_map] at this
    omega
  have hv : vw M [k] [.slc id ix n cap] 0 = some ([.slc 0 0 n none], [(k, l.map c.enc)], [id]) := by
    simp only [vw, hM, beq_self_eq_true, hle, decide_true, hs, c.all_flat, Bool.and_self, cond_true, Option.map_some]
  simp only [rtV, hv, useV, vfC, c.decL_map]
  subst hn
  simp [hp]
end Go.Proofs.YthapdikdeoeplaaDoor.H6
end
section
set_option linter.unusedVariables false
set_option linter.unnecessarySimpa false
open Go AH
namespace Go.Proofs.YthapdikdeoeplaaDoor.H6
-- quitrent/quitrentlaw06.same
def F19 : AFun := ⟨26,2,[.tmp 4],(.seq (.reg [⟨some 4,none,.mov (.c (.bool false))⟩]) (.seq (.seq (.reg [⟨some 6,none,.mov (.t 0)⟩,⟨some 7,none,.len .sl (.t 6)⟩,⟨some 8,none,.mov (.t 1)⟩,⟨some 9,none,.len .sl (.t 8)⟩,⟨some 10,none,.ibin .neq (.t 7) (.t 9)⟩]) (.cond (.t 10) (.seq (.reg [⟨some 4,none,.mov (.c (.bool false))⟩]) .ret) .skip)) (.seq (.seq (.reg [⟨some 5,none,.mov (.c (.int .i64 0))⟩]) (.block 0 (.loop (.seq (.seq (.reg [⟨some 11,none,.mov (.t 5)⟩,⟨some 12,none,.mov (.t 0)⟩,⟨some 13,none,.len .sl (.t 12)⟩,⟨some 14,none,.ibin .lss (.t 11) (.t 13)⟩]) (.cond (.t 14) .skip (.exit 0))) (.seq (.block 1 (.seq (.draw [⟨some 17,none,.mov (.t 0)⟩,⟨some 18,none,.mov (.t 5)⟩,⟨some 19,none,.iaddrSl 1 (.t 17) (.t 18)⟩,⟨some 20,none,.load false 1 (.t 19)⟩,⟨some 21,none,.mov (.t 1)⟩,⟨some 22,none,.mov (.t 5)⟩,⟨some 23,none,.iaddrSl 1 (.t 21) (.t 22)⟩,⟨some 24,none,.load false 1 (.t 23)⟩,⟨some 25,none,.ibin .neq (.t 20) (.t 24)⟩] [[],[],[0,1],[2,0,1],[],[],[4,5],[6,4,5],[3,7,2,0,1,6,4,5]]) (.cond (.t 25) (.seq (.reg [⟨some 4,none,.mov (.c (.bool false))⟩]) .ret) .skip))) (.reg [⟨some 15,none,.mov (.t 5)⟩,⟨some 16,none,.ibin .add (.t 15) (.c (.int .i64 1))⟩,⟨some 5,none,.mov (.t 16)⟩])))))) (.seq (.reg [⟨some 4,none,.mov (.c (.bool true))⟩]) .ret))))⟩
-- quitrent/quitrentlaw06.zeros
def F16 : AFun := ⟨8,1,[.tmp 2],(.seq (.reg [⟨some 2,none,.mov (.c (.str ⟨#[]⟩))⟩]) (.seq (.reg [⟨some 3,none,.mov (.t 0)⟩,⟨some 4,none,.minmax true [(.t 3),(.c (.int .i64 0))]⟩,⟨some 5,none,.ibin .mul (.c (.int .i64 64)) (.t 4)⟩,⟨some 6,none,.mkslice 1 1 [(.int .u8 0)] (.t 5) (.t 5)⟩,⟨some 7,none,.b2s (.t 6)⟩,⟨some 2,none,.mov (.t 7)⟩]) .ret))⟩
-- quitrent/quitrentlaw06.awake
def F7 : AFun := ⟨53,0,[.tmp 0],(.seq (.reg [⟨some 0,none,.mov (.c (.bool false))⟩]) (.seq (.reg [⟨some 7,none,.call (.c (.fn 8 [] [])) [(.c (.int .i64 5))]⟩,⟨some 1,none,.mov (.t 7)⟩]) (.seq (.reg [⟨some 9,none,.mov (.t 1)⟩,⟨some 10,none,.call (.c (.fn 9 [] [])) [(.t 9),(.c (.int .i64 1)),(.c (.int .i64 4)),(.c (.int .i64 10))]⟩,⟨some 8,none,.mov (.t 10)⟩,⟨some 11,none,.extract (.t 8) 0⟩,⟨some 12,none,.extract (.t 8) 1⟩,⟨some 2,none,.mov (.t 11)⟩,⟨some 3,none,.mov (.t 12)⟩]) (.seq (.seq (.reg [⟨some 13,none,.mov (.t 3)⟩,⟨some 14,none,.eq true .iface true (.t 13) (.c .nili)⟩,⟨some 15,none,.mov (.t 14)⟩,⟨some 16,(some (15,false)),.mov (.t 2)⟩,⟨some 17,(some (15,false)),.eq false .ptr true (.t 16) (.c .nilp)⟩,⟨some 18,none,.pick (.t 15) (.c (.bool true)) (.t 17)⟩]) (.cond (.t 18) (.seq (.reg [⟨some 0,none,.mov (.c (.bool false))⟩]) .ret) .skip)) (.seq (.reg [⟨some 19,none,.mov (.t 2)⟩,⟨some 20,none,.call (.c (.fn 11 [] [])) [(.t 19),(.c (.str ⟨#[104,101,108,108,111]⟩))]⟩,⟨some 4,none,.mov (.t 20)⟩]) (.seq (.reg [⟨some 22,none,.mov (.t 1)⟩,⟨some 23,none,.call (.c (.fn 9 [] [])) [(.t 22),(.c (.int .i64 1)),(.c (.int .i64 4)),(.c (.int .i64 10))]⟩,⟨some 21,none,.mov (.t 23)⟩,⟨some 24,none,.extract (.t 21) 0⟩,⟨some 25,none,.extract (.t 21) 1⟩,⟨some 5,none,.mov (.t 24)⟩,⟨some 6,none,.mov (.t 25)⟩]) (.seq (.reg [⟨some 26,none,.mov (.t 4)⟩,⟨some 27,none,.eq false .iface true (.t 26) (.c .nili)⟩,⟨some 28,none,.mov (.t 27)⟩,⟨some 29,(some (28,true)),.mov (.t 6)⟩,⟨some 30,(some (28,true)),.eq false .iface true (.t 29) (.c .nili)⟩,⟨some 31,none,.pick (.t 28) (.t 30) (.c (.bool false))⟩,⟨some 32,none,.mov (.t 31)⟩,⟨some 33,(some (32,true)),.mov (.t 5)⟩,⟨some 34,(some (32,true)),.call (.c (.fn 18 [] [])) [(.t 33)]⟩,⟨some 35,(some (32,true)),.bslice 1 1 [(.str ⟨#[]⟩)] [(0,1,(.c (.str ⟨#[104,101,108,108,111]⟩)))]⟩,⟨some 36,(some (32,true)),.call (.c (.fn 19 [] [])) [(.t 34),(.t 35)]⟩,⟨some 37,none,.pick (.t 32) (.t 36) (.c (.bool false))⟩,⟨some 38,none,.mov (.t 37)⟩,⟨some 39,(some (38,true)),.mov (.t 5)⟩,⟨some 40,(some (38,true)),.call (.c (.fn 23 [] [])) [(.t 39)]⟩,⟨some 41,(some (38,true)),.ibin .eql (.t 40) (.c (.int .i64 12))⟩,⟨some 42,none,.pick (.t 38) (.t 41) (.c (.bool false))⟩,⟨some 43,none,.mov (.t 42)⟩,⟨some 44,(some (43,true)),.mov (.t 5)⟩,⟨some 45,(some (43,true)),.call (.c (.fn 21 [] [])) [(.t 44)]⟩,⟨some 46,(some (43,true)),.ibin .eql (.t 45) (.c (.int .i64 2))⟩,⟨some 47,none,.pick (.t 43) (.t 46) (.c (.bool false))⟩,⟨some 48,none,.mov (.t 47)⟩,⟨some 49,(some (48,true)),.mov (.t 2)⟩,⟨some 50,(some (48,true)),.call (.c (.fn 21 [] [])) [(.t 49)]⟩,⟨some 51,(some (48,true)),.ibin .eql (.t 50) (.c (.int .i64 2))⟩,⟨some 52,none,.pick (.t 48) (.t 51) (.c (.bool false))⟩,⟨some 0,none,.mov (.t 52)⟩]) .ret)))))))⟩
theorem c19 : cFun Tryd.prog [1, 0, 4, 5, 6, 7, 2, 8, 9, 10, 11, 12, 13, 3] Tryd.f19 = some F19 := by kernel_rfl
theorem c16 : cFun Tryd.prog [1, 0, 4, 5, 6, 7, 2, 8, 9, 10, 11, 12, 13, 3] Tryd.f16 = some F16 := by kernel_rfl
theorem c7 : cFun Tryd.prog [1, 0, 4, 5, 6, 7, 2, 8, 9, 10, 11, 12, 13, 3] Tryd.f7 = some F7 := by kernel_rfl
end Go.Proofs.YthapdikdeoeplaaDoor.H6
end
section
set_option linter.unusedVariables false
set_option linter.unnecessarySimpa false
open Go AH
set_option linter.unusedSimpArgs false
set_option maxRecDepth 100000
namespace Go.Proofs.YthapdikdeoeplaaDoor.H6
def saSt (L1 L2 : List ByteArray) (i : Nat) : St := ⟨[(5, .int .i64 i), (1, .slc 1 0 L2.length none), (0, .slc 0 0 L1.length none)], [some (.row true 1 (L1.map strC)), some (.row true 1 (L2.map strC))]⟩
theorem lsame_ok (L1 L2 : List ByteArray) (h1 : L1.length ≤ 1048576) (h2 : L2.length ≤ 1048576) : CallA1 S0 19 [.slc 0 0 L1.length none, .slc 1 0 L2.length none] [some (.row true 1 (L1.map strC)), some (.row true 1 (L2.map strC))] fun r _ => r = .bool (decide (L1 = L2)) := by
  refine fun_sound okL0 Tryd.func19 c19 ?_
  unfold wpF F19
  cases hn : ((L1.length : Int) != (L2.length : Int))
  rotate_left
  · have e : decide (L1 = L2) = false := decide_eq_false fun q => by rw [q] at hn; simp at hn
    simp only [AH.SD, AH.SE, AOp.call?, AOp.next?, bstep, AV.cells, unAV, binAV, retQ, retV, AH.sliceElems, AH.bytesOf, AH.strOp, AH.bound, AH.missQ, AH.minmaxAV, AH.readOf, AH.effOf, Nat.reduceBEq, Nat.reduceAdd, Nat.reduceLT, ↓reduceIte, Nat.reduceEqDiff, Nat.reduceLeDiff, Nat.reduceSub, Nat.reduceMul, Int.reduceSub, Int.reduceToNat, Int.reduceBEq, Int.reduceBNe, Int.reduceLT, Int.reduceGT, Int.reduceLE, Int.reduceGE, Int.reduceNeg, Int.reduceAdd, hn, e]
  have hn' : L1.length = L2.length := by
    simp only [bne_eq_false_iff_eq] at hn; omega
  simp only [AH.SD, AH.SE, AOp.call?, AOp.next?, bstep, AV.cells, unAV, binAV, retQ, retV, AH.sliceElems, AH.bytesOf, AH.strOp, AH.bound, AH.missQ, AH.minmaxAV, AH.readOf, AH.effOf, Nat.reduceBEq, Nat.reduceAdd, Nat.reduceLT, ↓reduceIte, Nat.reduceEqDiff, Nat.reduceLeDiff, Nat.reduceSub, Nat.reduceMul, Int.reduceSub, Int.reduceToNat, Int.reduceBEq, Int.reduceBNe, Int.reduceLT, Int.reduceGT, Int.reduceLE, Int.reduceGE, Int.reduceNeg, Int.reduceAdd, hn]
  refine loop_do [0, 1] [5, 1, 0] [] (α := Nat) (fun i => L1.length - i) (saSt L1 L2) (fun i => i ≤ L1.length ∧ L1.take i = L2.take i) 0 ⟨Nat.zero_le _, rfl⟩ (by simp only [AH.SD, AH.SE, AOp.call?, AOp.next?, bstep, AV.cells, unAV, binAV, retQ, retV, AH.sliceElems, AH.bytesOf, AH.strOp, AH.bound, AH.missQ, AH.minmaxAV, AH.readOf, AH.effOf, Nat.reduceBEq, Nat.reduceAdd, Nat.reduceLT, ↓reduceIte, Nat.reduceEqDiff, Nat.reduceLeDiff, Nat.reduceSub, Nat.reduceMul, Int.reduceSub, Int.reduceToNat, Int.reduceBEq, Int.reduceBNe, Int.reduceLT, Int.reduceGT, Int.reduceLE, Int.reduceGE, Int.reduceNeg, Int.reduceAdd, AH.SP, AH.PD, AV.inB, vstep, saSt]) ?_
  rintro X i ⟨hi, hq⟩ ih
  simp only [AH.SD, AH.SE, AOp.call?, AOp.next?, bstep, AV.cells, unAV, binAV, retQ, retV, AH.sliceElems, AH.bytesOf, AH.strOp, AH.bound, AH.missQ, AH.minmaxAV, AH.readOf, AH.effOf, Nat.reduceBEq, Nat.reduceAdd, Nat.reduceLT, ↓reduceIte, Nat.reduceEqDiff, Nat.reduceLeDiff, Nat.reduceSub, Nat.reduceMul, Int.reduceSub, Int.reduceToNat, Int.reduceBEq, Int.reduceBNe, Int.reduceLT, Int.reduceGT, Int.reduceLE, Int.reduceGE, Int.reduceNeg, Int.reduceAdd, saSt]
  refine ⟨fun hlt => ?_, fun hlt => ?_⟩
  · have hil := lt_of_dec hlt
    have hi2 : i < L2.length := by omega
    have wi := wrapS (i := i) (by omega)
    by_cases he : L1[i] = L2[i]
    · have done := ih (i + 1) ⟨hil, by rw [List.take_succ_eq_append_getElem hil, List.take_succ_eq_append_getElem hi2, hq, he]⟩ (by omega)
      simp only [saSt] at done
      simp only [AH.SD, AH.SE, AOp.call?, AOp.next?, bstep, AV.cells, unAV, binAV, retQ, retV, AH.sliceElems, AH.bytesOf, AH.strOp, AH.bound, AH.missQ, AH.minmaxAV, AH.readOf, AH.effOf, Nat.reduceBEq, Nat.reduceAdd, Nat.reduceLT, ↓reduceIte, Nat.reduceEqDiff, Nat.reduceLeDiff, Nat.reduceSub, Nat.reduceMul, Int.reduceSub, Int.reduceToNat, Int.reduceBEq, Int.reduceBNe, Int.reduceLT, Int.reduceGT, Int.reduceLE, Int.reduceGE, Int.reduceNeg, Int.reduceAdd, getD_enc, hil, hi2, strC_eq, Int.toNat_natCast, List.length_map, he, tl_self, Bool.not_true]
      repeat (refine ⟨by first | rfl | decide | omega | (simp only [List.length_map, and_true]; omega) | (simp only [List.length_map, List.length_set, and_true]; omega), ?_⟩)
      try simp only [AH.SD, AH.SE, AOp.call?, AOp.next?, bstep, AV.cells, unAV, binAV, retQ, retV, AH.sliceElems, AH.bytesOf, AH.strOp, AH.bound, AH.missQ, AH.minmaxAV, AH.readOf, AH.effOf, Nat.reduceBEq, Nat.reduceAdd, Nat.reduceLT, ↓reduceIte, Nat.reduceEqDiff, Nat.reduceLeDiff, Nat.reduceSub, Nat.reduceMul, Int.reduceSub, Int.reduceToNat, Int.reduceBEq, Int.reduceBNe, Int.reduceLT, Int.reduceGT, Int.reduceLE, Int.reduceGE, Int.reduceNeg, Int.reduceAdd, wi]
      refine gc_auto [0, 1] [5, 1, 0] [] ?_
      simp only [AH.SD, AH.SE, AOp.call?, AOp.next?, bstep, AV.cells, unAV, binAV, retQ, retV, AH.sliceElems, AH.bytesOf, AH.strOp, AH.bound, AH.missQ, AH.minmaxAV, AH.readOf, AH.effOf, Nat.reduceBEq, Nat.reduceAdd, Nat.reduceLT, ↓reduceIte, Nat.reduceEqDiff, Nat.reduceLeDiff, Nat.reduceSub, Nat.reduceMul, Int.reduceSub, Int.reduceToNat, Int.reduceBEq, Int.reduceBNe, Int.reduceLT, Int.reduceGT, Int.reduceLE, Int.reduceGE, Int.reduceNeg, Int.reduceAdd, AH.SP, AH.PD, AV.inB, vstep]
      exact done
    · have e : decide (L1 = L2) = false := decide_eq_false fun q => by subst q; exact he rfl
      simp only [AH.SD, AH.SE, AOp.call?, AOp.next?, bstep, AV.cells, unAV, binAV, retQ, retV, AH.sliceElems, AH.bytesOf, AH.strOp, AH.bound, AH.missQ, AH.minmaxAV, AH.readOf, AH.effOf, Nat.reduceBEq, Nat.reduceAdd, Nat.reduceLT, ↓reduceIte, Nat.reduceEqDiff, Nat.reduceLeDiff, Nat.reduceSub, Nat.reduceMul, Int.reduceSub, Int.reduceToNat, Int.reduceBEq, Int.reduceBNe, Int.reduceLT, Int.reduceGT, Int.reduceLE, Int.reduceGE, Int.reduceNeg, Int.reduceAdd, getD_enc, hil, hi2, strC_eq, Int.toNat_natCast, List.length_map, tl_ne he, Bool.not_false, e]
      repeat (refine ⟨by first | rfl | decide | omega | (simp only [List.length_map, and_true]; omega) | (simp only [List.length_map, List.length_set, and_true]; omega), ?_⟩)
      try trivial
  · have hil := ge_of_dec hlt
    obtain rfl : i = L1.length := by omega
    have e : decide (L1 = L2) = true := decide_eq_true (by rw [List.take_length, hn', List.take_length] at hq; exact hq)
    simp only [AH.SD, AH.SE, AOp.call?, AOp.next?, bstep, AV.cells, unAV, binAV, retQ, retV, AH.sliceElems, AH.bytesOf, AH.strOp, AH.bound, AH.missQ, AH.minmaxAV, AH.readOf, AH.effOf, Nat.reduceBEq, Nat.reduceAdd, Nat.reduceLT, ↓reduceIte, Nat.reduceEqDiff, Nat.reduceLeDiff, Nat.reduceSub, Nat.reduceMul, Int.reduceSub, Int.reduceToNat, Int.reduceBEq, Int.reduceBNe, Int.reduceLT, Int.reduceGT, Int.reduceLE, Int.reduceGE, Int.reduceNeg, Int.reduceAdd, e]
    try trivial
def saT : RT := rt2 1 1 cStr cStr c0 fun L1 L2 _ => .bool (decide (L1 = L2))
theorem saT_ok : ReadF S0 19 saT := rt2_ok errs0 fun L1 L2 _ h1 h2 => ⟨rfl, lsame_ok L1 L2 h1 h2⟩
theorem saT_p {i j n1 n2 : Nat} {p1 p2 : Option Nat} {M : Nat → Option Blk} : saT [.slc i 0 n1 p1, .slc j 0 n2 p2] M = rt2Q 1 1 cStr cStr (fun L1 L2 (_ : Unit) => .bool (decide (L1 = L2))) n1 i n2 j (M i) (M j) (some ()) := rfl
theorem saQ_eq {i j n1 n2 : Nat} {r1 r2 : Bool} {L1 L2 : List ByteArray} (h1 : n1 = L1.length) (h2 : n2 = L2.length) (h3 : L1.length ≤ 1048576) (h4 : L2.length ≤ 1048576) : rt2Q 1 1 cStr cStr (fun L1 L2 (_ : Unit) => .bool (decide (L1 = L2))) n1 i n2 j (some (.row r1 1 (L1.map strC))) (some (.row r2 1 (L2.map strC))) (some ()) = some (.bool (decide (L1 = L2)), [i, j]) := by
  subst h1 h2
  exact rt2Q_eq (c1 := cStr) (c2 := cStr) h3 h4
def zrN (n : Int) : Nat := n.toNat
def okZr (x : Int × Unit) : Prop := x.1 ≤ 1048576
instance (x : Int × Unit) : Decidable (okZr x) := by unfold okZr; infer_instance
theorem bytesZ : ∀ k, bytesOf (List.replicate k [.int .u8 0]) = some (List.replicate k 0)
  | 0 => rfl
  | k + 1 => by rw [List.replicate_succ, List.replicate_succ, bytesOf, bytesZ k]; rfl
theorem lzeros_ok (n : Int) (h : okZr (n, ())) : Pure S0 16 [.int .i64 n] (.str (repS ⟨#[0]⟩ (64 * n.toNat))) := by
  have h' : n ≤ 1048576 := h
  refine fun_sound okL0 Tryd.func16 c16 ?_
  unfold wpF F16
  by_cases hn : 0 > n
  · have e : n.toNat = 0 := by omega
    simp only [AH.SD, AH.SE, AOp.call?, AOp.next?, bstep, AV.cells, unAV, binAV, retQ, retV, AH.sliceElems, AH.bytesOf, AH.strOp, AH.bound, AH.missQ, AH.minmaxAV, AH.readOf, AH.effOf, Nat.reduceBEq, Nat.reduceAdd, Nat.reduceLT, ↓reduceIte, Nat.reduceEqDiff, Nat.reduceLeDiff, Nat.reduceSub, Nat.reduceMul, Int.reduceSub, Int.reduceToNat, Int.reduceBEq, Int.reduceBNe, Int.reduceLT, Int.reduceGT, Int.reduceLE, Int.reduceGE, Int.reduceNeg, Int.reduceAdd, hn, if_true, e]
    repeat (refine ⟨by first | rfl | decide | omega | (simp only [List.length_map, and_true]; omega) | (simp only [List.length_map, List.length_set, and_true]; omega), ?_⟩)
    try simp only [AH.SD, AH.SE, AOp.call?, AOp.next?, bstep, AV.cells, unAV, binAV, retQ, retV, AH.sliceElems, AH.bytesOf, AH.strOp, AH.bound, AH.missQ, AH.minmaxAV, AH.readOf, AH.effOf, Nat.reduceBEq, Nat.reduceAdd, Nat.reduceLT, ↓reduceIte, Nat.reduceEqDiff, Nat.reduceLeDiff, Nat.reduceSub, Nat.reduceMul, Int.reduceSub, Int.reduceToNat, Int.reduceBEq, Int.reduceBNe, Int.reduceLT, Int.reduceGT, Int.reduceLE, Int.reduceGE, Int.reduceNeg, Int.reduceAdd, hn, if_true, e]
    try trivial
  · obtain ⟨k, rfl⟩ := Int.eq_ofNat_of_zero_le (show 0 ≤ n by omega)
    have w1 : IntKind.i64.wrap (64 * (k : Int)) = ((64 * k : Nat) : Int) := by rw [IntKind.wrap_i64]; omega
    simp only [AH.SD, AH.SE, AOp.call?, AOp.next?, bstep, AV.cells, unAV, binAV, retQ, retV, AH.sliceElems, AH.bytesOf, AH.strOp, AH.bound, AH.missQ, AH.minmaxAV, AH.readOf, AH.effOf, Nat.reduceBEq, Nat.reduceAdd, Nat.reduceLT, ↓reduceIte, Nat.reduceEqDiff, Nat.reduceLeDiff, Nat.reduceSub, Nat.reduceMul, Int.reduceSub, Int.reduceToNat, Int.reduceBEq, Int.reduceBNe, Int.reduceLT, Int.reduceGT, Int.reduceLE, Int.reduceGE, Int.reduceNeg, Int.reduceAdd, hn, if_false, w1, Int.toNat_natCast]
    repeat (refine ⟨by first | rfl | decide | omega | (simp only [List.length_map, and_true]; omega) | (simp only [List.length_map, List.length_set, and_true]; omega), ?_⟩)
    try simp only [AH.SD, AH.SE, AOp.call?, AOp.next?, bstep, AV.cells, unAV, binAV, retQ, retV, AH.sliceElems, AH.bytesOf, AH.strOp, AH.bound, AH.missQ, AH.minmaxAV, AH.readOf, AH.effOf, Nat.reduceBEq, Nat.reduceAdd, Nat.reduceLT, ↓reduceIte, Nat.reduceEqDiff, Nat.reduceLeDiff, Nat.reduceSub, Nat.reduceMul, Int.reduceSub, Int.reduceToNat, Int.reduceBEq, Int.reduceBNe, Int.reduceLT, Int.reduceGT, Int.reduceLE, Int.reduceGE, Int.reduceNeg, Int.reduceAdd, hn, if_false, w1, Int.toNat_natCast, List.drop_zero, List.take_replicate, Nat.min_self, List.length_replicate, bytesZ, repS_list]
    repeat (refine ⟨by first | rfl | decide | omega | (simp only [List.length_map, and_true]; omega) | (simp only [List.length_map, List.length_set, and_true]; omega), ?_⟩)
    try simp only [AH.SD, AH.SE, AOp.call?, AOp.next?, bstep, AV.cells, unAV, binAV, retQ, retV, AH.sliceElems, AH.bytesOf, AH.strOp, AH.bound, AH.missQ, AH.minmaxAV, AH.readOf, AH.effOf, Nat.reduceBEq, Nat.reduceAdd, Nat.reduceLT, ↓reduceIte, Nat.reduceEqDiff, Nat.reduceLeDiff, Nat.reduceSub, Nat.reduceMul, Int.reduceSub, Int.reduceToNat, Int.reduceBEq, Int.reduceBNe, Int.reduceLT, Int.reduceGT, Int.reduceLE, Int.reduceGE, Int.reduceNeg, Int.reduceAdd, hn, if_false, w1, Int.toNat_natCast, List.drop_zero, List.take_replicate, Nat.min_self, List.length_replicate, bytesZ, repS_list]
    try trivial
def zrT : RT := rtC (cC (aI .i64) c0) okZr fun x => .str (repS ⟨#[0]⟩ (64 * x.1.toNat))
theorem zrT_ok : ReadF S0 16 zrT := rtC_ok (fun x h => lzeros_ok x.1 h) fun _ => rfl
theorem zrT_p {n : Int} {M : Nat → Option Blk} (h : n ≤ 1048576) : zrT [.int .i64 n] M = some (.str (repS ⟨#[0]⟩ (64 * n.toNat)), []) := by
  simp only [zrT, rtC_p, cC_dec, aI_dec, c0_dec, pairO_some]
  exact rtC1_eq h
end Go.Proofs.YthapdikdeoeplaaDoor.H6
end
section
set_option linter.unusedVariables false
set_option linter.unnecessarySimpa false
open Go AH
set_option linter.unusedSimpArgs false
set_option maxRecDepth 100000
namespace Go.Proofs.YthapdikdeoeplaaDoor.H6
def helloS : ByteArray := ⟨#[104, 101, 108, 108, 111]⟩
def awa : Dk := newD 5
def awb : Nat × Lg := opnZ awa 1 4 10
def awc : Nat × Lg := addL awb.2 helloS
def awd : Nat × Lg := opnZ awc.2.d 1 4 10
theorem awa_ok : awa.ok := ofD_ok _
theorem awb0 : awb.1 = 0 := by decide +kernel
theorem awb_ok : awb.2.ok := by decide +kernel
theorem awc0 : awc.1 = 0 := by decide +kernel
theorem awc_ok : awc.2.d.ok := by decide +kernel
theorem awc_ok2 : awc.2.ok := by decide +kernel
theorem awd0 : awd.1 = 0 := by decide +kernel
theorem awd_ok : awd.2.ok := by decide +kernel
theorem awd_R : awd.2.R = [helloS] := by decide +kernel
theorem awd_n : awd.2.next = 12 := by decide +kernel
theorem awd_r : awd.2.room = 2 := by decide +kernel
theorem awc_r : awc.2.room = 2 := by decide +kernel
theorem awd_l : awd.2.R.length ≤ 1048576 := by decide +kernel
theorem opn_down (d : Dk) (f t b : Int) : (opnZ d f t b).2.down = false := by
  unfold opnZ
  split
  · rfl
  · split <;> rfl
theorem opn_eta (d : Dk) (f t b : Int) : (⟨(opnZ d f t b).2.d, (opnZ d f t b).2.f, (opnZ d f t b).2.t, (opnZ d f t b).2.b, (opnZ d f t b).2.a, (opnZ d f t b).2.R, false⟩ : Lg) = (opnZ d f t b).2 := by
  have := opn_down d f t b
  generalize (opnZ d f t b).2 = x at *
  cases x; simp only at this; rw [this]
theorem awb_eta : (⟨awb.2.d, awb.2.f, awb.2.t, awb.2.b, awb.2.a, awb.2.R, false⟩ : Lg) = awb.2 := opn_eta awa 1 4 10
theorem awd_eta : (⟨awd.2.d, awd.2.f, awd.2.t, awd.2.b, awd.2.a, awd.2.R, false⟩ : Lg) = awd.2 := opn_eta awc.2.d 1 4 10
theorem hello_sz : okSz helloS := okSz_of (by decide)
theorem row_hello : [[AV.str helloS]] = [helloS].map strC := rfl
theorem awd_same : decide (awd.2.R = [helloS]) = true := decide_eq_true awd_R
theorem saQ_1 {i j n1 : Nat} {r1 r2 : Bool} {L1 : List ByteArray} {x : ByteArray} (h1 : n1 = L1.length) (h3 : L1.length ≤ 1048576) : rt2Q 1 1 cStr cStr (fun L1 L2 (_ : Unit) => .bool (decide (L1 = L2))) n1 i 1 j (some (.row r1 1 (L1.map strC))) (some (.row r2 1 [[.str x]])) (some ()) = some (.bool (decide (L1 = [x])), [i, j]) :=
  saQ_eq (L2 := [x]) h1 rfl h3 (by simp)
end Go.Proofs.YthapdikdeoeplaaDoor.H6
end
section
set_option linter.unusedVariables false
set_option linter.unnecessarySimpa false
open Go AH
set_option linter.unusedSimpArgs false
set_option maxRecDepth 100000
namespace Go.Proofs.YthapdikdeoeplaaDoor.H6
noncomputable abbrev tLg : List (FuncId × RT) := [(12, kindT), (23, nextT), (21, roomT), (18, recsN), (11, adN), (13, rsN), (9, opnN), (19, saT)]
noncomputable abbrev eLg : List (FuncId × ET) := [(8, newT), (9, opnT), (18, recsT), (13, rsT), (11, adT)]
theorem tLg_ok : AllF S0 tLg := ⟨kindT_ok, nextT_ok, roomT_ok, recsN_ok, adN_ok, rsN_ok, opnN_ok, saT_ok, trivial⟩
theorem eLg_ok : AllE S0 eLg := ⟨newT_ok, opnT_ok, recsT_ok, rsT_ok, adT_ok, trivial⟩
theorem okLg0 : CtxOK S0 (ctxE S0 tLg [] eLg) := ctxE_ok tLg_ok trivial eLg_ok mixed
theorem awl_ok : (⟨awd.2.d, awc.2.f, awc.2.t, awc.2.b, awc.2.a, awc.2.R, awc.2.down⟩ : Lg).ok := by decide +kernel
theorem awl_r : (⟨awd.2.d, awc.2.f, awc.2.t, awc.2.b, awc.2.a, awc.2.R, awc.2.down⟩ : Lg).room = 2 := awc_r
set_option maxHeartbeats 4000000 in
theorem lawake_ok : Pure S0 7 [] (.bool true) := by
  refine fun_sound okLg0 Tryd.func7 c7 ?_
  unfold wpF F7
  have z1 : newD 5 = awa := rfl
  have z2 : opnZ awa 1 4 10 = awb := rfl
  have z3 : addL awb.2 helloS = awc := rfl
  have z4 : opnZ awc.2.d 1 4 10 = awd := rfl
  have z5 : (⟨#[104, 101, 108, 108, 111]⟩ : ByteArray) = helloS := rfl
  simp only [AH.SD, AH.SE, AOp.call?, AOp.next?, bstep, AV.cells, unAV, binAV, retQ, retV, AH.sliceElems, AH.bytesOf, AH.strOp, AH.bound, AH.missQ, AH.minmaxAV, AH.readOf, AH.effOf, Nat.reduceBEq, Nat.reduceAdd, Nat.reduceLT, ↓reduceIte, Nat.reduceEqDiff, Nat.reduceLeDiff, Nat.reduceSub, Nat.reduceMul, Int.reduceSub, Int.reduceToNat, Int.reduceBEq, Int.reduceBNe, Int.reduceLT, Int.reduceGT, Int.reduceLE, Int.reduceGE, Int.reduceNeg, Int.reduceAdd, AH.SP, AH.PD, AV.inB, vstep, vw, shift, newOnes, rowsM, blkIn, rwB, @flat_lts, AV.lt, AV.lts, Nat.sub_self, AH.SO, newT_eq, z1, dkM, opnN_p, opnT_p, lgR_eq, lgU_eq, lgU_nil, Lg.eta, ne4, Bool.not_false, Bool.and_self, if_true, dkR_eq, dkB_eq, Dk.eta, ne_eq, Nat.reduceEqDiff, Nat.zero_ne_one, not_false_eq_true, awa_ok, z2, opnA, opnM, awb0, opM, List.cons_append, List.nil_append, z5, adN_p, adT_p, awb_eta, awb_ok, hello_sz, and_self, z3, awc0, adM, lgM2, errA0, errA_ren, awc_ok, z4, awd0, errA_nil, awd_eta, recsN_p, recsT_p, lgM, awd_l, saT_p, List.map_append, nextT_p, roomT_p, awd_ok, awc_ok2, awd_n, awd_r, awc_r, saQ_1, awd_same, awl_ok, awl_r]
  try decide
def lawakeT : RT := rtP c0 fun _ => .bool true
theorem lawakeT_ok : ReadF S0 7 lawakeT := rtP_ok (fun _ => lawake_ok) fun _ => rfl
theorem lawakeT_eq (M : Nat → Option Blk) : lawakeT [] M = some (.bool true, []) := rfl
end Go.Proofs.YthapdikdeoeplaaDoor.H6
end
section
set_option linter.unusedVariables false
set_option linter.unnecessarySimpa false
open Go AH
namespace Go.Proofs.YthapdikdeoeplaaDoor.H6
-- quitrent/quitrentlaw06.LogKeeps
def F3 : AFun := ⟨168,3,[.tmp 6],(.seq (.reg [⟨some 6,none,.mov (.c (.bool false))⟩]) (.seq (.seq (.reg [⟨some 17,none,.call (.c (.fn 7 [] [])) []⟩,⟨some 18,none,.un .not (.t 17)⟩]) (.cond (.t 18) (.seq (.reg [⟨some 6,none,.mov (.c (.bool false))⟩]) .ret) .skip)) (.seq (.seq (.reg [⟨some 19,none,.mov (.t 0)⟩,⟨some 20,none,.len .sl (.t 19)⟩,⟨some 21,none,.ibin .gtr (.t 20) (.c (.int .i64 4))⟩]) (.cond (.t 21) (.seq (.reg [⟨some 6,none,.mov (.c (.bool true))⟩]) .ret) .skip)) (.seq (.reg [⟨some 22,none,.call (.c (.fn 8 [] [])) [(.c (.int .i64 120))]⟩,⟨some 7,none,.mov (.t 22)⟩]) (.seq (.reg [⟨some 24,none,.mov (.t 7)⟩,⟨some 25,none,.call (.c (.fn 9 [] [])) [(.t 24),(.c (.int .i64 5)),(.c (.int .i64 110)),(.c (.int .i64 7))]⟩,⟨some 23,none,.mov (.t 25)⟩,⟨some 26,none,.extract (.t 23) 0⟩,⟨some 27,none,.extract (.t 23) 1⟩,⟨some 8,none,.mov (.t 26)⟩,⟨some 9,none,.mov (.t 27)⟩]) (.seq (.seq (.reg [⟨some 28,none,.mov (.t 9)⟩,⟨some 29,none,.eq true .iface true (.t 28) (.c .nili)⟩]) (.cond (.t 29) (.seq (.reg [⟨some 6,none,.mov (.c (.bool false))⟩]) .ret) .skip)) (.seq (.reg [⟨some 30,none,.bslice 1 0 [(.str ⟨#[]⟩)] []⟩,⟨some 10,none,.mov (.t 30)⟩]) (.seq (.seq (.reg [⟨some 11,none,.mov (.c (.int .i64 0))⟩]) (.block 0 (.loop (.seq (.seq (.reg [⟨some 31,none,.mov (.t 11)⟩,⟨some 32,none,.mov (.t 0)⟩,⟨some 33,none,.len .sl (.t 32)⟩,⟨some 34,none,.ibin .lss (.t 31) (.t 33)⟩]) (.cond (.t 34) .skip (.exit 0))) (.seq (.block 1 (.seq (.seq (.reg [⟨some 37,none,.mov (.t 11)⟩,⟨some 38,none,.mov (.t 1)⟩,⟨some 39,none,.len .sl (.t 38)⟩,⟨some 40,none,.ibin .lss (.t 37) (.t 39)⟩,⟨some 41,none,.mov (.t 40)⟩,⟨some 42,(some (41,true)),.mov (.t 11)⟩,⟨some 43,(some (41,true)),.mov (.t 2)⟩,⟨some 44,(some (41,true)),.len .sl (.t 43)⟩,⟨some 45,(some (41,true)),.ibin .lss (.t 42) (.t 44)⟩,⟨some 46,none,.pick (.t 41) (.t 45) (.c (.bool false))⟩]) (.cond (.t 46) (.draw [⟨some 47,none,.mov (.t 7)⟩,⟨some 48,none,.mov (.t 1)⟩,⟨some 49,none,.mov (.t 11)⟩,⟨some 50,none,.iaddrSl 1 (.t 48) (.t 49)⟩,⟨some 51,none,.load false 1 (.t 50)⟩,⟨some 52,none,.i2i .u64 (.t 51)⟩,⟨some 53,none,.ibin .rem (.t 52) (.c (.int .u64 30))⟩,⟨some 54,none,.i2i .i64 (.t 53)⟩,⟨some 55,none,.mov (.t 2)⟩,⟨some 56,none,.mov (.t 11)⟩,⟨some 57,none,.iaddrSl 1 (.t 55) (.t 56)⟩,⟨some 58,none,.load false 1 (.t 57)⟩,⟨some 59,none,.i2i .u64 (.t 58)⟩,⟨some 60,none,.ibin .rem (.t 59) (.c (.int .u64 65))⟩,⟨some 61,none,.i2i .i64 (.t 60)⟩,⟨some 62,none,.call (.c (.fn 10 [] [])) [(.t 47),(.t 54),(.t 61)]⟩] [[],[],[],[1,2],[3,1,2],[4,3,1,2],[5,4,3,1,2],[6,5,4,3,1,2],[],[],[8,9],[10,8,9],[11,10,8,9],[12,11,10,8,9],[13,12,11,10,8,9],[0,7,14,6,5,4,3,1,2,13,12,11,10,8,9]]) .skip)) (.seq (.reg [⟨some 12,none,.mov (.c (.str ⟨#[]⟩))⟩]) (.seq (.reg [⟨some 13,none,.mov (.c (.bool false))⟩]) (.seq (.seq (.reg [⟨some 14,none,.mov (.c (.int .i64 0))⟩]) (.block 2 (.loop (.seq (.seq (.reg [⟨some 63,none,.mov (.t 14)⟩,⟨some 64,none,.mov (.t 0)⟩,⟨some 65,none,.mov (.t 11)⟩,⟨some 66,none,.iaddrSl 1 (.t 64) (.t 65)⟩,⟨some 67,none,.load false 1 (.t 66)⟩,⟨some 68,none,.len .sl (.t 67)⟩,⟨some 69,none,.ibin .lss (.t 63) (.t 68)⟩,⟨some 70,none,.mov (.t 69)⟩,⟨some 71,(some (70,true)),.mov (.t 14)⟩,⟨some 72,(some (70,true)),.ibin .lss (.t 71) (.c (.int .i64 10))⟩,⟨some 73,none,.pick (.t 70) (.t 72) (.c (.bool false))⟩]) (.cond (.t 73) .skip (.exit 2))) (.seq (.block 3 (.seq (.seq (.reg [⟨some 76,none,.mov (.t 0)⟩,⟨some 77,none,.mov (.t 11)⟩,⟨some 78,none,.iaddrSl 1 (.t 76) (.t 77)⟩,⟨some 79,none,.load false 1 (.t 78)⟩,⟨some 80,none,.mov (.t 14)⟩,⟨some 81,none,.iaddrSl 1 (.t 79) (.t 80)⟩,⟨some 82,none,.load false 1 (.t 81)⟩,⟨some 83,none,.len .str (.t 82)⟩,⟨some 84,none,.ibin .gtr (.t 83) (.c (.int .i64 200))⟩]) (.cond (.t 84) (.seq (.reg [⟨some 6,none,.mov (.c (.bool true))⟩]) .ret) .skip)) (.seq (.reg [⟨some 85,none,.mov (.t 8)⟩,⟨some 86,none,.mov (.t 0)⟩,⟨some 87,none,.mov (.t 11)⟩,⟨some 88,none,.iaddrSl 1 (.t 86) (.t 87)⟩,⟨some 89,none,.load false 1 (.t 88)⟩,⟨some 90,none,.mov (.t 14)⟩,⟨some 91,none,.iaddrSl 1 (.t 89) (.t 90)⟩,⟨some 92,none,.load false 1 (.t 91)⟩,⟨some 93,none,.call (.c (.fn 11 [] [])) [(.t 85),(.t 92)]⟩,⟨some 15,none,.mov (.t 93)⟩]) (.seq (.seq (.reg [⟨some 94,none,.mov (.t 15)⟩,⟨some 95,none,.call (.c (.fn 12 [] [])) [(.t 94)]⟩,⟨some 96,none,.ibin .eql (.t 95) (.c (.int .i64 7))⟩]) (.cond (.t 96) (.exit 2) .skip)) (.seq (.seq (.reg [⟨some 97,none,.mov (.t 15)⟩,⟨some 98,none,.eq true .iface true (.t 97) (.c .nili)⟩]) (.cond (.t 98) (.seq (.seq (.reg [⟨some 99,none,.mov (.t 15)⟩,⟨some 100,none,.call (.c (.fn 12 [] [])) [(.t 99)]⟩,⟨some 101,none,.ibin .neq (.t 100) (.c (.int .i64 14))⟩,⟨some 102,none,.mov (.t 101)⟩,⟨some 103,(some (102,false)),.mov (.t 8)⟩,⟨some 104,(some (102,false)),.call (.c (.fn 11 [] [])) [(.t 103),(.c (.str ⟨#[120]⟩))]⟩,⟨some 105,(some (102,false)),.call (.c (.fn 12 [] [])) [(.t 104)]⟩,⟨some 106,(some (102,false)),.ibin .neq (.t 105) (.c (.int .i64 14))⟩,⟨some 107,none,.pick (.t 102) (.c (.bool true)) (.t 106)⟩,⟨some 108,none,.mov (.t 107)⟩,⟨some 109,(some (108,false)),.mov (.t 8)⟩,⟨some 110,(some (108,false)),.call (.c (.fn 13 [] [])) [(.t 109),(.c (.int .i64 0))]⟩,⟨some 111,(some (108,false)),.call (.c (.fn 12 [] [])) [(.t 110)]⟩,⟨some 112,(some (108,false)),.ibin .neq (.t 111) (.c (.int .i64 14))⟩,⟨some 113,none,.pick (.t 108) (.c (.bool true)) (.t 112)⟩]) (.cond (.t 113) (.seq (.reg [⟨some 6,none,.mov (.c (.bool false))⟩]) .ret) .skip)) (.seq (.reg [⟨some 114,none,.mov (.t 0)⟩,⟨some 115,none,.mov (.t 11)⟩,⟨some 116,none,.iaddrSl 1 (.t 114) (.t 115)⟩,⟨some 117,none,.load false 1 (.t 116)⟩,⟨some 118,none,.mov (.t 14)⟩,⟨some 119,none,.iaddrSl 1 (.t 117) (.t 118)⟩,⟨some 120,none,.load false 1 (.t 119)⟩,⟨some 12,none,.mov (.t 120)⟩]) (.seq (.reg [⟨some 13,none,.mov (.c (.bool true))⟩]) (.exit 2)))) .skip)) (.reg [⟨some 121,none,.mov (.t 10)⟩,⟨some 122,none,.mov (.t 0)⟩,⟨some 123,none,.mov (.t 11)⟩,⟨some 124,none,.iaddrSl 1 (.t 122) (.t 123)⟩,⟨some 125,none,.load false 1 (.t 124)⟩,⟨some 126,none,.mov (.t 14)⟩,⟨some 127,none,.iaddrSl 1 (.t 125) (.t 126)⟩,⟨some 128,none,.load false 1 (.t 127)⟩,⟨some 129,none,.bslice 1 1 [(.str ⟨#[]⟩)] [(0,1,(.t 128))]⟩,⟨some 130,none,.append 1 16 [(.str ⟨#[]⟩)] (.t 121) (.t 129)⟩,⟨some 10,none,.mov (.t 130)⟩])))))) (.reg [⟨some 74,none,.mov (.t 14)⟩,⟨some 75,none,.ibin .add (.t 74) (.c (.int .i64 1))⟩,⟨some 14,none,.mov (.t 75)⟩])))))) (.seq (.seq (.reg [⟨some 131,none,.mov (.t 7)⟩,⟨some 132,none,.call (.c (.fn 14 [] [])) [(.t 131)]⟩]) (.cond (.t 132) (.seq (.reg [⟨some 133,none,.mov (.t 7)⟩,⟨some 134,none,.call (.c (.fn 10 [] [])) [(.t 133),(.c (.int .i64 0)),(.c (.int .i64 0))]⟩]) (.reg [⟨some 135,none,.mov (.t 7)⟩,⟨some 136,none,.call (.c (.fn 16 [] [])) [(.c (.int .i64 1))]⟩,⟨some 137,none,.call (.c (.fn 15 [] [])) [(.t 135),(.c (.int .i64 0)),(.t 136)]⟩])) .skip)) (.seq (.reg [⟨some 138,none,.mov (.t 7)⟩,⟨some 139,none,.call (.c (.fn 17 [] [])) [(.t 138)]⟩]) (.seq (.reg [⟨some 141,none,.mov (.t 7)⟩,⟨some 142,none,.call (.c (.fn 9 [] [])) [(.t 141),(.c (.int .i64 5)),(.c (.int .i64 110)),(.c (.int .i64 7))]⟩,⟨some 140,none,.mov (.t 142)⟩,⟨some 143,none,.extract (.t 140) 0⟩,⟨some 144,none,.extract (.t 140) 1⟩,⟨some 8,none,.mov (.t 143)⟩,⟨some 9,none,.mov (.t 144)⟩]) (.seq (.seq (.reg [⟨some 145,none,.mov (.t 9)⟩,⟨some 146,none,.eq true .iface true (.t 145) (.c .nili)⟩]) (.cond (.t 146) (.seq (.reg [⟨some 6,none,.mov (.c (.bool false))⟩]) .ret) .skip)) (.seq (.reg [⟨some 147,none,.mov (.t 8)⟩,⟨some 148,none,.call (.c (.fn 18 [] [])) [(.t 147)]⟩,⟨some 16,none,.mov (.t 148)⟩]) (.seq (.reg [⟨some 149,none,.mov (.t 13)⟩,⟨some 150,none,.mov (.t 149)⟩,⟨some 151,(some (150,true)),.mov (.t 16)⟩,⟨some 152,(some (150,true)),.bslice 1 0 [(.str ⟨#[]⟩)] []⟩,⟨some 153,(some (150,true)),.mov (.t 10)⟩,⟨some 154,(some (150,true)),.append 1 16 [(.str ⟨#[]⟩)] (.t 152) (.t 153)⟩,⟨some 155,(some (150,true)),.mov (.t 12)⟩,⟨some 156,(some (150,true)),.bslice 1 1 [(.str ⟨#[]⟩)] [(0,1,(.t 155))]⟩,⟨some 157,(some (150,true)),.append 1 16 [(.str ⟨#[]⟩)] (.t 154) (.t 156)⟩,⟨some 158,(some (150,true)),.call (.c (.fn 19 [] [])) [(.t 151),(.t 157)]⟩,⟨some 159,none,.pick (.t 150) (.t 158) (.c (.bool false))⟩]) (.cond (.t 159) (.reg [⟨some 160,none,.mov (.t 10)⟩,⟨some 161,none,.mov (.t 12)⟩,⟨some 162,none,.bslice 1 1 [(.str ⟨#[]⟩)] [(0,1,(.t 161))]⟩,⟨some 163,none,.append 1 16 [(.str ⟨#[]⟩)] (.t 160) (.t 162)⟩,⟨some 10,none,.mov (.t 163)⟩]) (.seq (.reg [⟨some 164,none,.mov (.t 16)⟩,⟨some 165,none,.mov (.t 10)⟩,⟨some 166,none,.call (.c (.fn 19 [] [])) [(.t 164),(.t 165)]⟩,⟨some 167,none,.un .not (.t 166)⟩]) (.cond (.t 167) (.seq (.reg [⟨some 6,none,.mov (.c (.bool false))⟩]) .ret) .skip)))))))))))))) (.reg [⟨some 35,none,.mov (.t 11)⟩,⟨some 36,none,.ibin .add (.t 35) (.c (.int .i64 1))⟩,⟨some 11,none,.mov (.t 36)⟩])))))) (.seq (.reg [⟨some 6,none,.mov (.c (.bool true))⟩]) .ret)))))))))⟩
theorem c3 : cFun Tryd.prog [1, 0, 4, 5, 6, 7, 2, 8, 9, 10, 11, 12, 13, 3] Tryd.f3 = some F3 := by kernel_rfl
end Go.Proofs.YthapdikdeoeplaaDoor.H6
end
section
set_option linter.unusedVariables false
set_option linter.unnecessarySimpa false
open Go AH
set_option linter.unusedSimpArgs false
set_option maxRecDepth 100000
namespace Go.Proofs.YthapdikdeoeplaaDoor.H6
def exS : ByteArray := ⟨#[120]⟩
theorem lk_down {R : List ByteArray} {D : Dk} (h : D.ok) (hl : D.L.length = 120) (hR : (frs 8 R).length < 105) : (⟨D, 5, 110, 7, ((5 + (frs 8 R).length : Nat) : Int), R, true⟩ : Lg).ok ∧ addL ⟨D, 5, 110, 7, ((5 + (frs 8 R).length : Nat) : Int), R, true⟩ exS = (14, ⟨D, 5, 110, 7, ((5 + (frs 8 R).length : Nat) : Int), R, true⟩) ∧ rstL ⟨D, 5, 110, 7, ((5 + (frs 8 R).length : Nat) : Int), R, true⟩ 0 = (14, ⟨D, 5, 110, 7, ((5 + (frs 8 R).length : Nat) : Int), R, true⟩) := by
  have h1 := frs_le R 8
  refine ⟨⟨h, (by decide : isBase 7), by show (0 : Int) ≤ 5; decide, ?_, ?_, ?_, ?_⟩, ?_, ?_⟩
  · show (5 : Int) ≤ ((5 + (frs 8 R).length : Nat) : Int); omega
  · show ((5 + (frs 8 R).length : Nat) : Int) ≤ 110; omega
  · show (110 : Int) ≤ (D.L.length : Int); omega
  · show (R.length : Int) ≤ ((5 + (frs 8 R).length : Nat) : Int) - 5; omega
  · unfold addL
    have hs : exS.size = 1 := rfl
    have hn : sizeN exS.size = 1 := rfl
    rw [hn, if_neg (by omega), if_neg (by
      rintro (q | q)
      · have : (Lg.room ⟨D, 5, 110, 7, ((5 + (frs 8 R).length : Nat) : Int), R, true⟩) = 110 - ((5 + (frs 8 R).length : Nat) : Int) := rfl
        omega
      · have : (Lg.next ⟨D, 5, 110, 7, ((5 + (frs 8 R).length : Nat) : Int), R, true⟩) = 7 + (R.length : Int) + 1 := rfl
        omega), if_pos rfl]
  · unfold rstL
    rw [if_neg (by simp [isBase]), if_pos rfl]
theorem mod_u (x : Int) {m : Int} (h1 : 1 ≤ m) (h2 : m ≤ 2199023255552) : ∃ k : Nat, IntKind.i64.wrap ((IntKind.u64.wrap x).tmod m) = (k : Int) ∧ (k : Int) < m := by
  have h0 : 0 ≤ IntKind.u64.wrap x := by rw [IntKind.wrap_u64]; omega
  have h3 : (IntKind.u64.wrap x).tmod m = IntKind.u64.wrap x % m := Int.tmod_eq_emod_of_nonneg h0
  have h4 := Int.emod_nonneg (IntKind.u64.wrap x) (by omega : m ≠ 0)
  have h5 := Int.emod_lt_of_pos (IntKind.u64.wrap x) (by omega : (0 : Int) < m)
  rw [h3]
  generalize IntKind.u64.wrap x % m = r at *
  refine ⟨r.toNat, ?_, by omega⟩
  rw [IntKind.wrap_i64]
  omega
theorem sm_e2 {A W : List ByteArray} (e : A = W) (h : A.length ≤ 1048576) (n1 n2 i j : Nat) (r1 r2 : Bool) (h1 : n1 = A.length) (h2 : n2 = W.length) : rt2Q 1 1 cStr cStr (fun L1 L2 (_ : Unit) => .bool (decide (L1 = L2))) n1 i n2 j (some (.row r1 1 (A.map strC))) (some (.row r2 1 (W.map strC))) (some ()) = some (.bool true, [i, j]) := by
  subst e
  rw [saQ_eq h1 h2 h h]
  simp
theorem sm_n2 {A W : List ByteArray} (e : A ≠ W) (h : A.length ≤ 1048576) (g : W.length ≤ 1048576) (n1 n2 i j : Nat) (r1 r2 : Bool) (h1 : n1 = A.length) (h2 : n2 = W.length) : rt2Q 1 1 cStr cStr (fun L1 L2 (_ : Unit) => .bool (decide (L1 = L2))) n1 i n2 j (some (.row r1 1 (A.map strC))) (some (.row r2 1 (W.map strC))) (some ()) = some (.bool false, [i, j]) := by
  rw [saQ_eq h1 h2 h g, decide_eq_false e]
def liC (n : Int) : List AV := [.int .i64 n]
instance : FlatE liC := ⟨fun _ => rfl⟩
theorem liC_eq (n : Int) : liC n = [.int .i64 n] := rfl
def nsC (o : Nat) : List (List ByteArray) → List (List AV)
  | [] => []
  | x :: r => [.slc o 0 x.length none] :: nsC (o + 1) r
theorem nsC_len : ∀ {o : Nat} {l : List (List ByteArray)}, (nsC o l).length = l.length
  | _, [] => rfl
  | _, _ :: r => by simp [nsC, nsC_len (l := r)]
theorem nsC_get : ∀ {o : Nat} {l : List (List ByteArray)} {k : Nat} (h : k < l.length), (nsC o l).getD k [] = [.slc (k + o) 0 l[k].length none]
  | _, [], k, h => by simp at h
  | o, x :: r, 0, h => by simp [nsC]
  | o, x :: r, k + 1, h => by
    simp only [nsC, List.getD_cons_succ, List.getElem_cons_succ]
    rw [nsC_get (by simpa using h)]
    congr 2; omega
noncomputable abbrev tLw : List (FuncId × RT) := (7, lawakeT) :: (14, isOnT) :: (10, fuseNT) :: (17, comeNT) :: (15, writeNT) :: (16, zrT) :: tLg
noncomputable abbrev eLw : List (FuncId × ET) := (10, fuseT) :: (17, comeT) :: (15, writeT) :: eLg
theorem okLw : CtxOK S0 (ctxE S0 tLw [] eLw) := ctxE_ok ⟨lawakeT_ok, isOnT_ok, fuseNT_ok, comeNT_ok, writeNT_ok, zrT_ok, tLg_ok⟩ trivial ⟨fuseT_ok, comeT_ok, writeT_ok, eLg_ok⟩ mixed
def lwR (X : Lg) : Mem := [some (.row false 5 [[.slc 8 0 X.d.L.length none, .bool X.d.away, .int .i64 X.d.fuse, .int .i64 X.d.torn, .int .i64 X.d.writes]]), some (.row false 1 (X.d.L.map strC)),
  some (.row false 7 [[.ptr 7 0 0, .int .i64 X.f, .int .i64 X.t, .int .i64 X.b, .int .i64 X.a, .slc 10 0 X.R.length none, .bool X.down]]), some (.row false 1 (X.R.map strC)), some (.row false 1 (X.R.map strC))]
structure KX where
  k : Nat
  R : List ByteArray
  t : Int
  w : Int
def KX.x (y : KX) : Lg := lkX y.R (-1) y.t y.w
def lw7 (LL : List (List ByteArray)) (F T : List Int) (x0 x1 x2 x3 : List ByteArray) : Mem := [some (.row true 1 (nsC 3 LL)), some (.row true 1 (F.map liC)), some (.row true 1 (T.map liC)), some (.row true 1 (x0.map strC)), some (.row true 1 (x1.map strC)), some (.row true 1 (x2.map strC)), some (.row true 1 (x3.map strC))]
def lwSt (LL : List (List ByteArray)) (F T : List Int) (x0 x1 x2 x3 : List ByteArray) (y : KX) : St := ⟨[(11, .int .i64 y.k), (10, .slc 11 0 y.x.R.length none), (8, .ptr 9 0 0), (7, .ptr 7 0 0), (2, .slc 2 0 T.length none), (1, .slc 1 0 F.length none), (0, .slc 0 0 LL.length none)], lw7 LL F T x0 x1 x2 x3 ++ lwR y.x⟩
structure IX where
  i : Nat
  R : List ByteArray
  f : Int
  t : Int
  w : Int
def IX.x (y : IX) : Lg := lkX y.R y.f y.t y.w
def lw2St (LL : List (List ByteArray)) (F T : List Int) (x0 x1 x2 x3 : List ByteArray) (k : Nat) (y : IX) : St := ⟨[(14, .int .i64 y.i), (13, .bool false), (12, .str ⟨#[]⟩), (11, .int .i64 k), (10, .slc 11 0 y.x.R.length none), (8, .ptr 9 0 0), (7, .ptr 7 0 0), (2, .slc 2 0 T.length none), (1, .slc 1 0 F.length none), (0, .slc 0 0 LL.length none)], lw7 LL F T x0 x1 x2 x3 ++ lwR y.x⟩
theorem zr_1 (M : Nat → Option Blk) : zrT [.int .i64 1] M = some (.str zeB, []) := zrT_p (by decide)
set_option maxHeartbeats 16000000 in
theorem lkeeps_ok (LL : List (List ByteArray)) (F T : List Int) : CallA1 S0 3 [.slc 0 0 LL.length none, .slc 1 0 F.length none, .slc 2 0 T.length none]
    (some (.row true 1 (nsC 3 LL)) :: some (.row true 1 (F.map liC)) :: some (.row true 1 (T.map liC)) :: (LL.map (fun x => some (.row true 1 (x.map strC))) ++ List.replicate (4 - LL.length) (some (.row true 1 [])))) fun r _ => r = .bool true := by
  refine fun_sound okLw Tryd.func3 c3 ?_
  unfold wpF F3
  by_cases h4 : LL.length ≤ 4
  rotate_left
  · have c4 : decide ((LL.length : Int) > 4) = true := decide_eq_true (by omega)
    simp only [AH.SD, AH.SE, AOp.call?, AOp.next?, bstep, AV.cells, unAV, binAV, retQ, retV, AH.sliceElems, AH.bytesOf, AH.strOp, AH.bound, AH.missQ, AH.minmaxAV, AH.readOf, AH.effOf, Nat.reduceBEq, Nat.reduceAdd, Nat.reduceLT, ↓reduceIte, Nat.reduceEqDiff, Nat.reduceLeDiff, Nat.reduceSub, Nat.reduceMul, Int.reduceSub, Int.reduceToNat, Int.reduceBEq, Int.reduceBNe, Int.reduceLT, Int.reduceGT, Int.reduceLE, Int.reduceGE, Int.reduceNeg, Int.reduceAdd, AH.SP, AH.PD, AV.inB, vstep, vw, shift, newOnes, rowsM, blkIn, rwB, @flat_lts, AV.lt, AV.lts, Nat.sub_self, AH.SO, lawakeT_eq, c4]
  have c4 : decide ((LL.length : Int) > 4) = false := decide_eq_false (by omega)
  obtain ⟨x0, x1, x2, x3, hm, hg, hi, hr⟩ : ∃ x0 x1 x2 x3 : List ByteArray, (LL.map (fun x => some (Blk.row true 1 (x.map strC))) ++ List.replicate (4 - LL.length) (some (.row true 1 []))) = [some (.row true 1 (x0.map strC)), some (.row true 1 (x1.map strC)), some (.row true 1 (x2.map strC)), some (.row true 1 (x3.map strC))] ∧
      (∀ (k : Nat) (hk : k < LL.length) (rest : Mem), mget (some (.row true 1 (x0.map strC)) :: some (.row true 1 (x1.map strC)) :: some (.row true 1 (x2.map strC)) :: some (.row true 1 (x3.map strC)) :: rest) k = some (.row true 1 (LL[k].map strC))) ∧
      (∀ r, Blk.inB (inN (0 :: 1 :: 2 :: 3 :: 4 :: 5 :: 6 :: r)) (.row true 1 (nsC 3 LL)) = true) ∧ ∀ r, Blk.ren (posN (0 :: 1 :: 2 :: 3 :: 4 :: 5 :: 6 :: r)) (.row true 1 (nsC 3 LL)) = .row true 1 (nsC 3 LL) := by
    match LL, h4 with
    | [], _ => exact ⟨[], [], [], [], rfl, fun k hk => by simp at hk, fun _ => rfl, fun _ => rfl⟩
    | [a], _ => exact ⟨a, [], [], [], rfl, fun k hk _ => by
        match k, hk with
        | 0, _ => rfl, fun _ => rfl, fun _ => rfl⟩
    | [a, b], _ => exact ⟨a, b, [], [], rfl, fun k hk _ => by
        match k, hk with
        | 0, _ => rfl
        | 1, _ => rfl, fun _ => rfl, fun _ => rfl⟩
    | [a, b, c], _ => exact ⟨a, b, c, [], rfl, fun k hk _ => by
        match k, hk with
        | 0, _ => rfl
        | 1, _ => rfl
        | 2, _ => rfl, fun _ => rfl, fun _ => rfl⟩
    | [a, b, c, d], _ => exact ⟨a, b, c, d, rfl, fun k hk _ => by
        match k, hk with
        | 0, _ => rfl
        | 1, _ => rfl
        | 2, _ => rfl
        | 3, _ => rfl, fun _ => rfl, fun _ => rfl⟩
  rw [hm]
  have hnl := nsC_len (o := 3) (l := LL)
  have i0 := lkI0 (t := 0) (by decide) (by decide)
  obtain ⟨w0, e0⟩ := lk_whole i0 (t2 := 0) (w := 0)
  have hd0 : (⟨lkL [], false, -1, 0, 0⟩ : Dk).ok := i0.dok (w := 0)
  have x00 : (KX.mk 0 [] 0 w0).x = lkX [] (-1) 0 w0 := rfl
  rw [← x00] at e0
  simp only [AH.SD, AH.SE, AOp.call?, AOp.next?, bstep, AV.cells, unAV, binAV, retQ, retV, AH.sliceElems, AH.bytesOf, AH.strOp, AH.bound, AH.missQ, AH.minmaxAV, AH.readOf, AH.effOf, Nat.reduceBEq, Nat.reduceAdd, Nat.reduceLT, ↓reduceIte, Nat.reduceEqDiff, Nat.reduceLeDiff, Nat.reduceSub, Nat.reduceMul, Int.reduceSub, Int.reduceToNat, Int.reduceBEq, Int.reduceBNe, Int.reduceLT, Int.reduceGT, Int.reduceLE, Int.reduceGE, Int.reduceNeg, Int.reduceAdd, AH.SP, AH.PD, AV.inB, vstep, vw, shift, newOnes, rowsM, blkIn, rwB, @flat_lts, AV.lt, AV.lts, Nat.sub_self, AH.SO, lawakeT_eq, c4, newT_eq, lk_new, dkM, opnN_p, opnT_p, lgR_eq, lgU_eq, lgU_nil, Lg.eta, ne4, Bool.not_false, Bool.and_self, if_true, dkR_eq, dkB_eq, Dk.eta, ne_eq, Nat.reduceEqDiff, Nat.zero_ne_one, not_false_eq_true, hd0, e0, opnA, opnM, opM, List.cons_append, List.nil_append, errA_nil]
  refine loop_do [0, 1, 2, 3, 4, 5, 6, 7, 8, 9, 10, 11] [11, 10, 8, 7, 2, 1, 0] [.cap 10] (α := KX) (fun y => LL.length - y.k) (lwSt LL F T x0 x1 x2 x3) (fun y => y.k ≤ LL.length ∧ lkI y.R (-1) y.t) ⟨0, [], 0, w0⟩ ⟨Nat.zero_le _, i0⟩ (by
    simp only [AH.SD, AH.SE, AOp.call?, AOp.next?, bstep, AV.cells, unAV, binAV, retQ, retV, AH.sliceElems, AH.bytesOf, AH.strOp, AH.bound, AH.missQ, AH.minmaxAV, AH.readOf, AH.effOf, Nat.reduceBEq, Nat.reduceAdd, Nat.reduceLT, ↓reduceIte, Nat.reduceEqDiff, Nat.reduceLeDiff, Nat.reduceSub, Nat.reduceMul, Int.reduceSub, Int.reduceToNat, Int.reduceBEq, Int.reduceBNe, Int.reduceLT, Int.reduceGT, Int.reduceLE, Int.reduceGE, Int.reduceNeg, Int.reduceAdd, AH.SP, AH.PD, AV.inB, vstep, lwSt, lw7, lwR, hi, hr]
    try rfl) ?_
  clear i0 e0 hd0 x00 hm
  rintro X ⟨k, R, t, w⟩ ⟨hk, hI⟩ ih
  simp only at hk hI
  have hx : (KX.mk k R t w).x = lkX R (-1) t w := rfl
  simp only [AH.SD, AH.SE, AOp.call?, AOp.next?, bstep, AV.cells, unAV, binAV, retQ, retV, AH.sliceElems, AH.bytesOf, AH.strOp, AH.bound, AH.missQ, AH.minmaxAV, AH.readOf, AH.effOf, Nat.reduceBEq, Nat.reduceAdd, Nat.reduceLT, ↓reduceIte, Nat.reduceEqDiff, Nat.reduceLeDiff, Nat.reduceSub, Nat.reduceMul, Int.reduceSub, Int.reduceToNat, Int.reduceBEq, Int.reduceBNe, Int.reduceLT, Int.reduceGT, Int.reduceLE, Int.reduceGE, Int.reduceNeg, Int.reduceAdd, AH.SP, AH.PD, AV.inB, vstep, vw, shift, newOnes, rowsM, blkIn, rwB, @flat_lts, AV.lt, AV.lts, Nat.sub_self, AH.SO, lwSt, lw7, lwR]
  rw [hx]
  cases c1 : decide ((k : Int) < (LL.length : Int))
  · simp only [AH.SD, AH.SE, AOp.call?, AOp.next?, bstep, AV.cells, unAV, binAV, retQ, retV, AH.sliceElems, AH.bytesOf, AH.strOp, AH.bound, AH.missQ, AH.minmaxAV, AH.readOf, AH.effOf, Nat.reduceBEq, Nat.reduceAdd, Nat.reduceLT, ↓reduceIte, Nat.reduceEqDiff, Nat.reduceLeDiff, Nat.reduceSub, Nat.reduceMul, Int.reduceSub, Int.reduceToNat, Int.reduceBEq, Int.reduceBNe, Int.reduceLT, Int.reduceGT, Int.reduceLE, Int.reduceGE, Int.reduceNeg, Int.reduceAdd, AH.SP, AH.PD, AV.inB, vstep, vw, shift, newOnes, rowsM, blkIn, rwB, @flat_lts, AV.lt, AV.lts, Nat.sub_self, AH.SO]
    try trivial
  have hkl := lt_of_dec c1
  have hgk : (nsC 3 LL).getD k [] = [.slc (k + 3) 0 LL[k].length none] := nsC_get hkl
  have hmk := hg k hkl
  obtain ⟨f, t', hI2, hfu⟩ : ∃ f t', lkI R f t' ∧ ((f = -1 ∧ t' = t ∧ (bif decide ((k : Int) < (F.length : Int)) then decide ((k : Int) < (T.length : Int)) else false) = false) ∨ (∃ (hF : k < F.length) (hT : k < T.length), IntKind.i64.wrap ((IntKind.u64.wrap F[k]).tmod 30) = f ∧ IntKind.i64.wrap ((IntKind.u64.wrap T[k]).tmod 65) = t' ∧ 0 ≤ f)) := by
    by_cases hF : k < F.length
    · by_cases hT : k < T.length
      · obtain ⟨f, e1, e2⟩ := mod_u F[k] (m := 30) (by decide) (by decide)
        obtain ⟨u, e3, e4⟩ := mod_u T[k] (m := 65) (by decide) (by decide)
        exact ⟨f, u, ⟨hI.fl, hI.sz, by omega, by omega, by omega, by omega⟩, .inr ⟨hF, hT, e1, e3, by omega⟩⟩
      · exact ⟨-1, t, hI, .inl ⟨rfl, rfl, by rw [decide_eq_false (show ¬ (k : Int) < (T.length : Int) by omega)]; cases decide ((k : Int) < (F.length : Int)) <;> rfl⟩⟩
    · exact ⟨-1, t, hI, .inl ⟨rfl, rfl, by rw [decide_eq_false (show ¬ (k : Int) < (F.length : Int) by omega)]; rfl⟩⟩
  have hd := hI.dok (w := w)
  cases d1 : decide ((k : Int) < (F.length : Int)) <;> cases d2 : decide ((k : Int) < (T.length : Int))
  rotate_right
  focus
    obtain ⟨hF, hT, e1, e2, hf0⟩ := hfu.resolve_left (fun q => by have := q.2.2; rw [d1, d2] at this; cases this)
    have hgF : (F.map liC).getD k [] = liC F[k] := getD_enc hF
    have hgT : (T.map liC).getD k [] = liC T[k] := getD_enc hT
    have eF : fuD (lkX R (-1) t w).d f t' = (lkX R f t' w).d := lk_fuse hI2.f1 hI2.t1 hI2.t2
    simp only [AH.SD, AH.SE, AOp.call?, AOp.next?, bstep, AV.cells, unAV, binAV, retQ, retV, AH.sliceElems, AH.bytesOf, AH.strOp, AH.bound, AH.missQ, AH.minmaxAV, AH.readOf, AH.effOf, Nat.reduceBEq, Nat.reduceAdd, Nat.reduceLT, ↓reduceIte, Nat.reduceEqDiff, Nat.reduceLeDiff, Nat.reduceSub, Nat.reduceMul, Int.reduceSub, Int.reduceToNat, Int.reduceBEq, Int.reduceBNe, Int.reduceLT, Int.reduceGT, Int.reduceLE, Int.reduceGE, Int.reduceNeg, Int.reduceAdd, AH.SP, AH.PD, AV.inB, vstep, vw, shift, newOnes, rowsM, blkIn, rwB, @flat_lts, AV.lt, AV.lts, Nat.sub_self, AH.SO, d1, d2, hgF, hgT, liC_eq, e1, e2, fuseNT_p, fuseT_p, lgR_eq, lgU_eq, lgU_nil, Lg.eta, ne4, Bool.not_false, Bool.and_self, if_true, dkR_eq, dkB_eq, Dk.eta, ne_eq, Nat.reduceEqDiff, Nat.zero_ne_one, not_false_eq_true, eF, dkM, List.cons_append, List.nil_append]
    refine ⟨by decide, ?_⟩
    iterate 3 ((try simp only [AH.SD, AH.SE, AOp.call?, AOp.next?, bstep, AV.cells, unAV, binAV, retQ, retV, AH.sliceElems, AH.bytesOf, AH.strOp, AH.bound, AH.missQ, AH.minmaxAV, AH.readOf, AH.effOf, Nat.reduceBEq, Nat.reduceAdd, Nat.reduceLT, ↓reduceIte, Nat.reduceEqDiff, Nat.reduceLeDiff, Nat.reduceSub, Nat.reduceMul, Int.reduceSub, Int.reduceToNat, Int.reduceBEq, Int.reduceBNe, Int.reduceLT, Int.reduceGT, Int.reduceLE, Int.reduceGE, Int.reduceNeg, Int.reduceAdd, AH.SP, AH.PD, AV.inB, vstep, vw, shift, newOnes, rowsM, blkIn, rwB, @flat_lts, AV.lt, AV.lts, Nat.sub_self, AH.SO, d1, d2, hgF, hgT, liC_eq, e1, e2, fuseNT_p, fuseT_p, lgR_eq, lgU_eq, lgU_nil, Lg.eta, ne4, Bool.not_false, Bool.and_self, if_true, dkR_eq, dkB_eq, Dk.eta, ne_eq, Nat.reduceEqDiff, Nat.zero_ne_one, not_false_eq_true, eF, dkM, List.cons_append, List.nil_append]); repeat ((with_reducible refine And.intro ?_ ?_); focus (first | rfl | decide | omega | (simp only [List.length_map, and_true]; omega) | (simp only [List.length_map, List.length_set, and_true]; omega))))
    refine loop_do [0, 1, 2, 3, 4, 5, 6, 7, 8, 9, 10, 11] [14, 13, 12, 11, 10, 8, 7, 2, 1, 0] [] (α := IX) (fun y => LL[k].length - y.i) (lw2St LL F T x0 x1 x2 x3 k) (fun y => y.i ≤ LL[k].length ∧ lkI y.R y.f y.t) ⟨0, R, f, t', w⟩ ⟨Nat.zero_le _, hI2⟩ (by
      simp only [AH.SD, AH.SE, AOp.call?, AOp.next?, bstep, AV.cells, unAV, binAV, retQ, retV, AH.sliceElems, AH.bytesOf, AH.strOp, AH.bound, AH.missQ, AH.minmaxAV, AH.readOf, AH.effOf, Nat.reduceBEq, Nat.reduceAdd, Nat.reduceLT, ↓reduceIte, Nat.reduceEqDiff, Nat.reduceLeDiff, Nat.reduceSub, Nat.reduceMul, Int.reduceSub, Int.reduceToNat, Int.reduceBEq, Int.reduceBNe, Int.reduceLT, Int.reduceGT, Int.reduceLE, Int.reduceGE, Int.reduceNeg, Int.reduceAdd, AH.SP, AH.PD, AV.inB, vstep, lw2St, lw7, lwR, hi, hr]
      try rfl) ?_
    clear hgF hgT eF e1 e2 hf0 hF hT
  all_goals try
    focus
      obtain ⟨rfl, rfl, _⟩ := hfu.resolve_right (fun q => by
        obtain ⟨hF, hT, _⟩ := q
        rw [decide_eq_true (show (k : Int) < (F.length : Int) by omega)] at d1
        rw [decide_eq_true (show (k : Int) < (T.length : Int) by omega)] at d2
        first | (exact absurd d1 (by decide)) | (exact absurd d2 (by decide)))
      simp only [AH.SD, AH.SE, AOp.call?, AOp.next?, bstep, AV.cells, unAV, binAV, retQ, retV, AH.sliceElems, AH.bytesOf, AH.strOp, AH.bound, AH.missQ, AH.minmaxAV, AH.readOf, AH.effOf, Nat.reduceBEq, Nat.reduceAdd, Nat.reduceLT, ↓reduceIte, Nat.reduceEqDiff, Nat.reduceLeDiff, Nat.reduceSub, Nat.reduceMul, Int.reduceSub, Int.reduceToNat, Int.reduceBEq, Int.reduceBNe, Int.reduceLT, Int.reduceGT, Int.reduceLE, Int.reduceGE, Int.reduceNeg, Int.reduceAdd, AH.SP, AH.PD, AV.inB, vstep, vw, shift, newOnes, rowsM, blkIn, rwB, @flat_lts, AV.lt, AV.lts, Nat.sub_self, AH.SO, d1, d2]
      refine loop_do [0, 1, 2, 3, 4, 5, 6, 7, 8, 9, 10, 11] [14, 13, 12, 11, 10, 8, 7, 2, 1, 0] [] (α := IX) (fun y => LL[k].length - y.i) (lw2St LL F T x0 x1 x2 x3 k) (fun y => y.i ≤ LL[k].length ∧ lkI y.R y.f y.t) ⟨0, R, -1, t', w⟩ ⟨Nat.zero_le _, hI2⟩ (by
        simp only [AH.SD, AH.SE, AOp.call?, AOp.next?, bstep, AV.cells, unAV, binAV, retQ, retV, AH.sliceElems, AH.bytesOf, AH.strOp, AH.bound, AH.missQ, AH.minmaxAV, AH.readOf, AH.effOf, Nat.reduceBEq, Nat.reduceAdd, Nat.reduceLT, ↓reduceIte, Nat.reduceEqDiff, Nat.reduceLeDiff, Nat.reduceSub, Nat.reduceMul, Int.reduceSub, Int.reduceToNat, Int.reduceBEq, Int.reduceBNe, Int.reduceLT, Int.reduceGT, Int.reduceLE, Int.reduceGE, Int.reduceNeg, Int.reduceAdd, AH.SP, AH.PD, AV.inB, vstep, lw2St, lw7, lwR, hi, hr]
        try rfl) ?_
  all_goals clear hfu hI2 hd hI hx d1 d2
  all_goals
    rintro X2 ⟨i, R2, f2, t2, w2⟩ ⟨hil, hI3⟩ ih2
    simp only at hil hI3
    have hx : (IX.mk i R2 f2 t2 w2).x = lkX R2 f2 t2 w2 := rfl
    have hok := hI3.ok (w := w2)
    have hdk := hI3.dok (w := w2)
    -- what is behind the loop, where the power is there
    have hon : (!(lkX R2 f2 t2 w2).d.away) = true := rfl
    have eF0 : fuD (lkX R2 f2 t2 w2).d 0 0 = lkD R2 0 0 w2 := lk_fuse (by decide) (by decide) (by decide)
    have hd0 : (lkD R2 0 0 w2).ok := lkI.dok (f := 0) (t := 0) ⟨hI3.fl, hI3.sz, by decide, by decide, by decide, by decide⟩
    obtain ⟨D, eW, hDo, w3, eO⟩ := lk_rest (w := w2) hI3
    have hDc := co_ok hDo
    have hR1 : (lkX R2 (-1) 0 w3).R = (lkX R2 f2 t2 w2).R := rfl
    have hRl : (lkX R2 (-1) 0 w3).R.length ≤ 1048576 := by have := frs_le R2 8; have := hI3.fl; show R2.length ≤ _; omega
    have wk := wrapS (i := k) (by omega)
    have done := ih ⟨k + 1, R2, 0, w3⟩ ⟨hkl, ⟨hI3.fl, hI3.sz, by decide, by decide, Int.le_refl 0, by show (0 : Int) ≤ 64; decide⟩⟩ (by simp only; omega)
    have hx3 : (KX.mk (k + 1) R2 0 w3).x = lkX R2 (-1) 0 w3 := rfl
    simp only [lwSt, lw7, lwR, List.cons_append, List.nil_append] at done
    rw [hx3] at done
    have hdn3 : (lkX R2 (-1) 0 w3).down = false := rfl
    rw [hdn3] at done
    simp only [AH.SD, AH.SE, AOp.call?, AOp.next?, bstep, AV.cells, unAV, binAV, retQ, retV, AH.sliceElems, AH.bytesOf, AH.strOp, AH.bound, AH.missQ, AH.minmaxAV, AH.readOf, AH.effOf, Nat.reduceBEq, Nat.reduceAdd, Nat.reduceLT, ↓reduceIte, Nat.reduceEqDiff, Nat.reduceLeDiff, Nat.reduceSub, Nat.reduceMul, Int.reduceSub, Int.reduceToNat, Int.reduceBEq, Int.reduceBNe, Int.reduceLT, Int.reduceGT, Int.reduceLE, Int.reduceGE, Int.reduceNeg, Int.reduceAdd, AH.SP, AH.PD, AV.inB, vstep, vw, shift, newOnes, rowsM, blkIn, rwB, @flat_lts, AV.lt, AV.lts, Nat.sub_self, AH.SO, lw2St, lw7, lwR]
    rw [hx]
  all_goals
    cases c2 : decide ((i : Int) < (LL[k].length : Int))
    · clear ih2 hx hx3 hdk
      generalize lkX R2 f2 t2 w2 = Y1 at *
      generalize lkX R2 (-1) 0 w3 = Y3 at *
      generalize lkD R2 0 0 w2 = D0 at *
      simp only [AH.SD, AH.SE, AOp.call?, AOp.next?, bstep, AV.cells, unAV, binAV, retQ, retV, AH.sliceElems, AH.bytesOf, AH.strOp, AH.bound, AH.missQ, AH.minmaxAV, AH.readOf, AH.effOf, Nat.reduceBEq, Nat.reduceAdd, Nat.reduceLT, ↓reduceIte, Nat.reduceEqDiff, Nat.reduceLeDiff, Nat.reduceSub, Nat.reduceMul, Int.reduceSub, Int.reduceToNat, Int.reduceBEq, Int.reduceBNe, Int.reduceLT, Int.reduceGT, Int.reduceLE, Int.reduceGE, Int.reduceNeg, Int.reduceAdd, AH.SP, AH.PD, AV.inB, vstep, vw, shift, newOnes, rowsM, blkIn, rwB, @flat_lts, AV.lt, AV.lts, Nat.sub_self, AH.SO, hgk, c2, hnl]
      iterate 3 ((try simp only [AH.SD, AH.SE, AOp.call?, AOp.next?, bstep, AV.cells, unAV, binAV, retQ, retV, AH.sliceElems, AH.bytesOf, AH.strOp, AH.bound, AH.missQ, AH.minmaxAV, AH.readOf, AH.effOf, Nat.reduceBEq, Nat.reduceAdd, Nat.reduceLT, ↓reduceIte, Nat.reduceEqDiff, Nat.reduceLeDiff, Nat.reduceSub, Nat.reduceMul, Int.reduceSub, Int.reduceToNat, Int.reduceBEq, Int.reduceBNe, Int.reduceLT, Int.reduceGT, Int.reduceLE, Int.reduceGE, Int.reduceNeg, Int.reduceAdd, AH.SP, AH.PD, AV.inB, vstep, vw, shift, newOnes, rowsM, blkIn, rwB, @flat_lts, AV.lt, AV.lts, Nat.sub_self, AH.SO, lgR_eq, lgU_eq, lgU_nil, Lg.eta, ne4, Bool.not_false, Bool.and_self, if_true, dkR_eq, dkB_eq, Dk.eta, ne_eq, Nat.reduceEqDiff, Nat.zero_ne_one, not_false_eq_true, isOnT_p, hon, fuseNT_p, fuseT_p, eF0, dkM, zr_1, writeNT_p, writeT_p, hd0, eW, comeNT_p, comeT_p, hDc, opnN_p, opnT_p, eO, opnA, opnM, opM, errA_nil, errA_ren, recsN_p, recsT_p, hRl, lgM, saT_p, sm_e2 hR1 hRl, Bool.not_true, wk, List.cons_append, List.nil_append]); repeat ((with_reducible refine And.intro ?_ ?_); focus (first | rfl | decide | omega | (simp only [List.length_map, and_true]; omega) | (simp only [List.length_map, List.length_set, and_true]; omega))))
      refine gc_auto [0, 1, 2, 3, 4, 5, 6, 7, 8, 12, 13, 11] [11, 10, 8, 7, 2, 1, 0] [] ?_
      simp only [AH.SD, AH.SE, AOp.call?, AOp.next?, bstep, AV.cells, unAV, binAV, retQ, retV, AH.sliceElems, AH.bytesOf, AH.strOp, AH.bound, AH.missQ, AH.minmaxAV, AH.readOf, AH.effOf, Nat.reduceBEq, Nat.reduceAdd, Nat.reduceLT, ↓reduceIte, Nat.reduceEqDiff, Nat.reduceLeDiff, Nat.reduceSub, Nat.reduceMul, Int.reduceSub, Int.reduceToNat, Int.reduceBEq, Int.reduceBNe, Int.reduceLT, Int.reduceGT, Int.reduceLE, Int.reduceGE, Int.reduceNeg, Int.reduceAdd, AH.SP, AH.PD, AV.inB, vstep, hi, hr]
      rw [← hR1]
      exact done
    cases c3 : decide ((i : Int) < 10)
    · clear ih2 hx hx3 hdk
      generalize lkX R2 f2 t2 w2 = Y1 at *
      generalize lkX R2 (-1) 0 w3 = Y3 at *
      generalize lkD R2 0 0 w2 = D0 at *
      simp only [AH.SD, AH.SE, AOp.call?, AOp.next?, bstep, AV.cells, unAV, binAV, retQ, retV, AH.sliceElems, AH.bytesOf, AH.strOp, AH.bound, AH.missQ, AH.minmaxAV, AH.readOf, AH.effOf, Nat.reduceBEq, Nat.reduceAdd, Nat.reduceLT, ↓reduceIte, Nat.reduceEqDiff, Nat.reduceLeDiff, Nat.reduceSub, Nat.reduceMul, Int.reduceSub, Int.reduceToNat, Int.reduceBEq, Int.reduceBNe, Int.reduceLT, Int.reduceGT, Int.reduceLE, Int.reduceGE, Int.reduceNeg, Int.reduceAdd, AH.SP, AH.PD, AV.inB, vstep, vw, shift, newOnes, rowsM, blkIn, rwB, @flat_lts, AV.lt, AV.lts, Nat.sub_self, AH.SO, hgk, c2, c3, hnl]
      iterate 3 ((try simp only [AH.SD, AH.SE, AOp.call?, AOp.next?, bstep, AV.cells, unAV, binAV, retQ, retV, AH.sliceElems, AH.bytesOf, AH.strOp, AH.bound, AH.missQ, AH.minmaxAV, AH.readOf, AH.effOf, Nat.reduceBEq, Nat.reduceAdd, Nat.reduceLT, ↓reduceIte, Nat.reduceEqDiff, Nat.reduceLeDiff, Nat.reduceSub, Nat.reduceMul, Int.reduceSub, Int.reduceToNat, Int.reduceBEq, Int.reduceBNe, Int.reduceLT, Int.reduceGT, Int.reduceLE, Int.reduceGE, Int.reduceNeg, Int.reduceAdd, AH.SP, AH.PD, AV.inB, vstep, vw, shift, newOnes, rowsM, blkIn, rwB, @flat_lts, AV.lt, AV.lts, Nat.sub_self, AH.SO, lgR_eq, lgU_eq, lgU_nil, Lg.eta, ne4, Bool.not_false, Bool.and_self, if_true, dkR_eq, dkB_eq, Dk.eta, ne_eq, Nat.reduceEqDiff, Nat.zero_ne_one, not_false_eq_true, isOnT_p, hon, fuseNT_p, fuseT_p, eF0, dkM, zr_1, writeNT_p, writeT_p, hd0, eW, comeNT_p, comeT_p, hDc, opnN_p, opnT_p, eO, opnA, opnM, opM, errA_nil, errA_ren, recsN_p, recsT_p, hRl, lgM, saT_p, sm_e2 hR1 hRl, Bool.not_true, wk, List.cons_append, List.nil_append]); repeat ((with_reducible refine And.intro ?_ ?_); focus (first | rfl | decide | omega | (simp only [List.length_map, and_true]; omega) | (simp only [List.length_map, List.length_set, and_true]; omega))))
      refine gc_auto [0, 1, 2, 3, 4, 5, 6, 7, 8, 12, 13, 11] [11, 10, 8, 7, 2, 1, 0] [] ?_
      simp only [AH.SD, AH.SE, AOp.call?, AOp.next?, bstep, AV.cells, unAV, binAV, retQ, retV, AH.sliceElems, AH.bytesOf, AH.strOp, AH.bound, AH.missQ, AH.minmaxAV, AH.readOf, AH.effOf, Nat.reduceBEq, Nat.reduceAdd, Nat.reduceLT, ↓reduceIte, Nat.reduceEqDiff, Nat.reduceLeDiff, Nat.reduceSub, Nat.reduceMul, Int.reduceSub, Int.reduceToNat, Int.reduceBEq, Int.reduceBNe, Int.reduceLT, Int.reduceGT, Int.reduceLE, Int.reduceGE, Int.reduceNeg, Int.reduceAdd, AH.SP, AH.PD, AV.inB, vstep, hi, hr]
      rw [← hR1]
      exact done
    have hil2 := lt_of_dec c2
    have hgi : (LL[k].map strC).getD i [] = strC LL[k][i] := getD_enc hil2
    have wi := wrapS (i := i) (by simp only [decide_eq_true_eq] at c3; omega)
    cases c4 : decide ((LL[k][i].size : Int) > 200)
    rotate_left
    · simp only [AH.SD, AH.SE, AOp.call?, AOp.next?, bstep, AV.cells, unAV, binAV, retQ, retV, AH.sliceElems, AH.bytesOf, AH.strOp, AH.bound, AH.missQ, AH.minmaxAV, AH.readOf, AH.effOf, Nat.reduceBEq, Nat.reduceAdd, Nat.reduceLT, ↓reduceIte, Nat.reduceEqDiff, Nat.reduceLeDiff, Nat.reduceSub, Nat.reduceMul, Int.reduceSub, Int.reduceToNat, Int.reduceBEq, Int.reduceBNe, Int.reduceLT, Int.reduceGT, Int.reduceLE, Int.reduceGE, Int.reduceNeg, Int.reduceAdd, AH.SP, AH.PD, AV.inB, vstep, vw, shift, newOnes, rowsM, blkIn, rwB, @flat_lts, AV.lt, AV.lts, Nat.sub_self, AH.SO, hgk, c2, c3, hnl, hmk, hgi, strC_eq, c4]
      iterate 3 ((try simp only [AH.SD, AH.SE, AOp.call?, AOp.next?, bstep, AV.cells, unAV, binAV, retQ, retV, AH.sliceElems, AH.bytesOf, AH.strOp, AH.bound, AH.missQ, AH.minmaxAV, AH.readOf, AH.effOf, Nat.reduceBEq, Nat.reduceAdd, Nat.reduceLT, ↓reduceIte, Nat.reduceEqDiff, Nat.reduceLeDiff, Nat.reduceSub, Nat.reduceMul, Int.reduceSub, Int.reduceToNat, Int.reduceBEq, Int.reduceBNe, Int.reduceLT, Int.reduceGT, Int.reduceLE, Int.reduceGE, Int.reduceNeg, Int.reduceAdd, AH.SP, AH.PD, AV.inB, vstep, vw, shift, newOnes, rowsM, blkIn, rwB, @flat_lts, AV.lt, AV.lts, Nat.sub_self, AH.SO, hgk, c2, c3, hnl, hmk, hgi, strC_eq, c4]); repeat ((with_reducible refine And.intro ?_ ?_); focus (first | rfl | decide | omega | (simp only [List.length_map, and_true]; omega) | (simp only [List.length_map, List.length_set, and_true]; omega))))
      exact hil2
    have hs200 : LL[k][i].size ≤ 200 := by simp only [decide_eq_false_iff_not] at c4; omega
    have hsok : okSz LL[k][i] := okSz_of (by omega)
    rcases lk_add (w := w2) hI3 hs200 with e7 | ⟨f4, w4, e4, hI4⟩ | ⟨D4, R4, w4, e4, hD4, hD5, hD6, hD7, hR4, eO4, hI4⟩
    · clear ih2 hx hx3 hdk
      generalize lkX R2 f2 t2 w2 = Y1 at *
      generalize lkX R2 (-1) 0 w3 = Y3 at *
      generalize lkD R2 0 0 w2 = D0 at *
      simp only [AH.SD, AH.SE, AOp.call?, AOp.next?, bstep, AV.cells, unAV, binAV, retQ, retV, AH.sliceElems, AH.bytesOf, AH.strOp, AH.bound, AH.missQ, AH.minmaxAV, AH.readOf, AH.effOf, Nat.reduceBEq, Nat.reduceAdd, Nat.reduceLT, ↓reduceIte, Nat.reduceEqDiff, Nat.reduceLeDiff, Nat.reduceSub, Nat.reduceMul, Int.reduceSub, Int.reduceToNat, Int.reduceBEq, Int.reduceBNe, Int.reduceLT, Int.reduceGT, Int.reduceLE, Int.reduceGE, Int.reduceNeg, Int.reduceAdd, AH.SP, AH.PD, AV.inB, vstep, vw, shift, newOnes, rowsM, blkIn, rwB, @flat_lts, AV.lt, AV.lts, Nat.sub_self, AH.SO, hgk, c2, c3, hnl, hmk, hgi, strC_eq, c4]
      iterate 4 ((try simp only [AH.SD, AH.SE, AOp.call?, AOp.next?, bstep, AV.cells, unAV, binAV, retQ, retV, AH.sliceElems, AH.bytesOf, AH.strOp, AH.bound, AH.missQ, AH.minmaxAV, AH.readOf, AH.effOf, Nat.reduceBEq, Nat.reduceAdd, Nat.reduceLT, ↓reduceIte, Nat.reduceEqDiff, Nat.reduceLeDiff, Nat.reduceSub, Nat.reduceMul, Int.reduceSub, Int.reduceToNat, Int.reduceBEq, Int.reduceBNe, Int.reduceLT, Int.reduceGT, Int.reduceLE, Int.reduceGE, Int.reduceNeg, Int.reduceAdd, AH.SP, AH.PD, AV.inB, vstep, vw, shift, newOnes, rowsM, blkIn, rwB, @flat_lts, AV.lt, AV.lts, Nat.sub_self, AH.SO, hgk, c2, c3, hnl, hmk, hgi, strC_eq, c4, adN_p, adT_p, hok, hsok, and_self, e7, adM, show ¬ ((7 : Nat) = 0) by decide, if_false, kindT_err, show (7 : Nat) ≤ 14 by decide, lgR_eq, lgU_eq, lgU_nil, Lg.eta, ne4, Bool.not_false, Bool.and_self, if_true, dkR_eq, dkB_eq, Dk.eta, ne_eq, Nat.reduceEqDiff, Nat.zero_ne_one, not_false_eq_true, isOnT_p, hon, fuseNT_p, fuseT_p, eF0, dkM, zr_1, writeNT_p, writeT_p, hd0, eW, comeNT_p, comeT_p, hDc, opnN_p, opnT_p, eO, opnA, opnM, opM, errA_nil, errA_ren, recsN_p, recsT_p, hRl, lgM, saT_p, sm_e2 hR1 hRl, Bool.not_true, wk, List.cons_append, List.nil_append]); repeat ((with_reducible refine And.intro ?_ ?_); focus (first | rfl | decide | omega | (simp only [List.length_map, and_true]; omega) | (simp only [List.length_map, List.length_set, and_true]; omega))))
      refine gc_auto [0, 1, 2, 3, 4, 5, 6, 7, 8, 12, 13, 11] [11, 10, 8, 7, 2, 1, 0] [] ?_
      simp only [AH.SD, AH.SE, AOp.call?, AOp.next?, bstep, AV.cells, unAV, binAV, retQ, retV, AH.sliceElems, AH.bytesOf, AH.strOp, AH.bound, AH.missQ, AH.minmaxAV, AH.readOf, AH.effOf, Nat.reduceBEq, Nat.reduceAdd, Nat.reduceLT, ↓reduceIte, Nat.reduceEqDiff, Nat.reduceLeDiff, Nat.reduceSub, Nat.reduceMul, Int.reduceSub, Int.reduceToNat, Int.reduceBEq, Int.reduceBNe, Int.reduceLT, Int.reduceGT, Int.reduceLE, Int.reduceGE, Int.reduceNeg, Int.reduceAdd, AH.SP, AH.PD, AV.inB, vstep, hi, hr]
      rw [← hR1]
      exact done
    · clear done hx3 hdn3 hDc hDo eO eW hRl hR1 eF0 hd0 hon
      have done2 := ih2 ⟨i + 1, R2 ++ [LL[k][i]], f4, t2, w4⟩ ⟨hil2, hI4⟩ (by simp only; omega)
      have hx4 : (IX.mk (i + 1) (R2 ++ [LL[k][i]]) f4 t2 w4).x = lkX (R2 ++ [LL[k][i]]) f4 t2 w4 := rfl
      simp only [lw2St, lw7, lwR, List.cons_append, List.nil_append] at done2
      rw [hx4] at done2
      have hsW : (lkX R2 f2 t2 w2).R.map strC ++ [[.str LL[k][i]]] = (lkX (R2 ++ [LL[k][i]]) f4 t2 w4).R.map strC := by
        show R2.map strC ++ [[.str LL[k][i]]] = (R2 ++ [LL[k][i]]).map strC
        rw [List.map_append]; rfl
      have hWl : (lkX R2 f2 t2 w2).R.length + 1 = (lkX (R2 ++ [LL[k][i]]) f4 t2 w4).R.length := by
        show R2.length + 1 = (R2 ++ [LL[k][i]]).length
        rw [List.length_append]; rfl
      have hWc : (lkX (R2 ++ [LL[k][i]]) f4 t2 w4).R.length ≤ 200 := by
        have := frs_le (R2 ++ [LL[k][i]]) 8
        have := hI4.fl
        show (R2 ++ [LL[k][i]]).length ≤ 200
        omega
      clear hx hx4 hdk
      generalize lkX R2 f2 t2 w2 = Y1 at *
      generalize lkX (R2 ++ [LL[k][i]]) f4 t2 w4 = Y2 at *
      simp only [AH.SD, AH.SE, AOp.call?, AOp.next?, bstep, AV.cells, unAV, binAV, retQ, retV, AH.sliceElems, AH.bytesOf, AH.strOp, AH.bound, AH.missQ, AH.minmaxAV, AH.readOf, AH.effOf, Nat.reduceBEq, Nat.reduceAdd, Nat.reduceLT, ↓reduceIte, Nat.reduceEqDiff, Nat.reduceLeDiff, Nat.reduceSub, Nat.reduceMul, Int.reduceSub, Int.reduceToNat, Int.reduceBEq, Int.reduceBNe, Int.reduceLT, Int.reduceGT, Int.reduceLE, Int.reduceGE, Int.reduceNeg, Int.reduceAdd, AH.SP, AH.PD, AV.inB, vstep, vw, shift, newOnes, rowsM, blkIn, rwB, @flat_lts, AV.lt, AV.lts, Nat.sub_self, AH.SO, hgk, c2, c3, hnl, hmk, hgi, strC_eq, c4]
      iterate 4 ((try simp only [AH.SD, AH.SE, AOp.call?, AOp.next?, bstep, AV.cells, unAV, binAV, retQ, retV, AH.sliceElems, AH.bytesOf, AH.strOp, AH.bound, AH.missQ, AH.minmaxAV, AH.readOf, AH.effOf, Nat.reduceBEq, Nat.reduceAdd, Nat.reduceLT, ↓reduceIte, Nat.reduceEqDiff, Nat.reduceLeDiff, Nat.reduceSub, Nat.reduceMul, Int.reduceSub, Int.reduceToNat, Int.reduceBEq, Int.reduceBNe, Int.reduceLT, Int.reduceGT, Int.reduceLE, Int.reduceGE, Int.reduceNeg, Int.reduceAdd, AH.SP, AH.PD, AV.inB, vstep, vw, shift, newOnes, rowsM, blkIn, rwB, @flat_lts, AV.lt, AV.lts, Nat.sub_self, AH.SO, hgk, c2, c3, hnl, hmk, hgi, strC_eq, c4, adN_p, adT_p, lgR_eq, lgU_eq, lgU_nil, Lg.eta, ne4, Bool.not_false, Bool.and_self, if_true, dkR_eq, dkB_eq, Dk.eta, ne_eq, Nat.reduceEqDiff, Nat.zero_ne_one, not_false_eq_true, hok, hsok, and_self, e4, adM, lgM2, errA0, errA_nil, errA_ren, kindT_nil, hsW, hWl, List.length_map, List.drop_zero, take_all, wi, Int.toNat_natCast, List.cons_append, List.nil_append]); repeat ((with_reducible refine And.intro ?_ ?_); focus (first | rfl | decide | omega | (simp only [List.length_map, and_true]; omega) | (simp only [List.length_map, List.length_set, and_true]; omega))))
      refine gc_auto [0, 1, 2, 3, 4, 5, 6, 7, 8, 9, 12, 14] [14, 13, 12, 11, 10, 8, 7, 2, 1, 0] [] ?_
      simp only [AH.SD, AH.SE, AOp.call?, AOp.next?, bstep, AV.cells, unAV, binAV, retQ, retV, AH.sliceElems, AH.bytesOf, AH.strOp, AH.bound, AH.missQ, AH.minmaxAV, AH.readOf, AH.effOf, Nat.reduceBEq, Nat.reduceAdd, Nat.reduceLT, ↓reduceIte, Nat.reduceEqDiff, Nat.reduceLeDiff, Nat.reduceSub, Nat.reduceMul, Int.reduceSub, Int.reduceToNat, Int.reduceBEq, Int.reduceBNe, Int.reduceLT, Int.reduceGT, Int.reduceLE, Int.reduceGE, Int.reduceNeg, Int.reduceAdd, AH.SP, AH.PD, AV.inB, vstep, hi, hr]
      exact done2
    · clear done hx3 hdn3 hDc hDo eO eW hRl hR1 eF0 hd0 hon ih2
      obtain ⟨hok5, eX5, eR5⟩ := lk_down hD4 hD7 hD6
      have hon : (!(⟨D4, 5, 110, 7, ((5 + (frs 8 R2).length : Nat) : Int), R2, true⟩ : Lg).d.away) = false := by
        show (!D4.away) = false
        rw [hD5]; rfl
      have hDc := co_ok hD4
      have hRl : (lkX R4 (-1) t2 w4).R.length ≤ 1048576 := by have := frs_le R4 8; have := hI4.fl; show R4.length ≤ _; omega
      have hR5 : (frs 8 R2).length ≤ 105 := hI3.fl
      have hR2l : R2.length ≤ 105 := by have := frs_le R2 8; omega
      have done := ih ⟨k + 1, R4, t2, w4⟩ ⟨hkl, hI4⟩ (by simp only; omega)
      have hx3 : (KX.mk (k + 1) R4 t2 w4).x = lkX R4 (-1) t2 w4 := rfl
      simp only [lwSt, lw7, lwR, List.cons_append, List.nil_append] at done
      rw [hx3] at done
      have hdn3 : (lkX R4 (-1) t2 w4).down = false := rfl
      rw [hdn3] at done
      have yx : (⟨#[120]⟩ : ByteArray) = exS := rfl
      have zx : okSz exS := okSz_of (by decide)
      have hY1R : (lkX R2 f2 t2 w2).R = R2 := rfl
      have hY3R : (lkX R4 (-1) t2 w4).R = R4 := rfl
      clear hdk hx hx3 hD5 hD6 hD7 hdn3 hI3 hI4
      have dD : (⟨D4, 5, 110, 7, ((5 + (frs 8 R2).length : Nat) : Int), R2, true⟩ : Lg).d = D4 := rfl
      generalize (⟨D4, 5, 110, 7, ((5 + (frs 8 R2).length : Nat) : Int), R2, true⟩ : Lg) = Y5 at *
      subst dD
      rcases hR4 with rfl | rfl
      · have hsW : (lkX R4 f2 t2 w2).R.map strC ++ [[.str LL[k][i]]] = (R4 ++ [LL[k][i]]).map strC := by
          rw [hY1R, List.map_append]; rfl
        have hWl : (lkX R4 f2 t2 w2).R.length + 1 = (R4 ++ [LL[k][i]]).length := by
          rw [hY1R, List.length_append]; rfl
        have hne : (lkX R4 (-1) t2 w4).R ≠ R4 ++ [LL[k][i]] := by
          rw [hY3R]
          intro q
          have := congrArg List.length q
          rw [List.length_append, List.length_cons, List.length_nil] at this
          omega
        have hWl2 : (R4 ++ [LL[k][i]]).length ≤ 1048576 := by rw [List.length_append, List.length_cons, List.length_nil]; omega
        have hR1 : (lkX R4 (-1) t2 w4).R = (lkX R4 f2 t2 w2).R := rfl
        have hWc : (lkX R4 f2 t2 w2).R.length ≤ 200 := by rw [hY1R]; omega
        have hWc2 : (R4 ++ [LL[k][i]]).length ≤ 200 := by rw [List.length_append, List.length_cons, List.length_nil]; omega
        clear hY1R hY3R
        generalize lkX R4 f2 t2 w2 = Y1 at *
        generalize lkX R4 (-1) t2 w4 = Y3 at *
        generalize R4 ++ [LL[k][i]] = W5 at *
        simp only [AH.SD, AH.SE, AOp.call?, AOp.next?, bstep, AV.cells, unAV, binAV, retQ, retV, AH.sliceElems, AH.bytesOf, AH.strOp, AH.bound, AH.missQ, AH.minmaxAV, AH.readOf, AH.effOf, Nat.reduceBEq, Nat.reduceAdd, Nat.reduceLT, ↓reduceIte, Nat.reduceEqDiff, Nat.reduceLeDiff, Nat.reduceSub, Nat.reduceMul, Int.reduceSub, Int.reduceToNat, Int.reduceBEq, Int.reduceBNe, Int.reduceLT, Int.reduceGT, Int.reduceLE, Int.reduceGE, Int.reduceNeg, Int.reduceAdd, AH.SP, AH.PD, AV.inB, vstep, vw, shift, newOnes, rowsM, blkIn, rwB, @flat_lts, AV.lt, AV.lts, Nat.sub_self, AH.SO, hgk, c2, c3, hnl, hmk, hgi, strC_eq, c4]
        iterate 5 ((try simp only [AH.SD, AH.SE, AOp.call?, AOp.next?, bstep, AV.cells, unAV, binAV, retQ, retV, AH.sliceElems, AH.bytesOf, AH.strOp, AH.bound, AH.missQ, AH.minmaxAV, AH.readOf, AH.effOf, Nat.reduceBEq, Nat.reduceAdd, Nat.reduceLT, ↓reduceIte, Nat.reduceEqDiff, Nat.reduceLeDiff, Nat.reduceSub, Nat.reduceMul, Int.reduceSub, Int.reduceToNat, Int.reduceBEq, Int.reduceBNe, Int.reduceLT, Int.reduceGT, Int.reduceLE, Int.reduceGE, Int.reduceNeg, Int.reduceAdd, AH.SP, AH.PD, AV.inB, vstep, vw, shift, newOnes, rowsM, blkIn, rwB, @flat_lts, AV.lt, AV.lts, Nat.sub_self, AH.SO, hgk, c2, c3, hnl, hmk, hgi, strC_eq, c4, adN_p, adT_p, lgR_eq, lgU_eq, lgU_nil, Lg.eta, ne4, Bool.not_false, Bool.and_self, if_true, dkR_eq, dkB_eq, Dk.eta, ne_eq, Nat.reduceEqDiff, Nat.zero_ne_one, not_false_eq_true, hok, hsok, and_self, e4, adM, lgM, show ¬ ((14 : Nat) = 0) by decide, if_false, errA_nil, errA_ren, kindT_err, show (14 : Nat) ≤ 14 by decide, bne_self_eq_false, yx, zx, hok5, eX5, rsN_p, rsT_p, eR5, rsM, isOnT_p, hon, comeNT_p, comeT_p, dkM, hDc, opnN_p, opnT_p, eO4, opnA, opnM, opM, recsN_p, recsT_p, hRl, hsW, hWl, saT_p, sm_n2 hne hRl hWl2, sm_e2 hR1 hRl, Bool.not_true, wk, List.length_map, List.drop_zero, take_all, Int.toNat_natCast, List.cons_append, List.nil_append, Nat.zero_add]); repeat ((with_reducible refine And.intro ?_ ?_); focus (first | rfl | decide | omega | (simp only [List.length_map, and_true]; omega) | (simp only [List.length_map, List.length_set, and_true]; omega))))
        refine gc_auto [0, 1, 2, 3, 4, 5, 6, 7, 8, 12, 13, 11] [11, 10, 8, 7, 2, 1, 0] [] ?_
        simp only [AH.SD, AH.SE, AOp.call?, AOp.next?, bstep, AV.cells, unAV, binAV, retQ, retV, AH.sliceElems, AH.bytesOf, AH.strOp, AH.bound, AH.missQ, AH.minmaxAV, AH.readOf, AH.effOf, Nat.reduceBEq, Nat.reduceAdd, Nat.reduceLT, ↓reduceIte, Nat.reduceEqDiff, Nat.reduceLeDiff, Nat.reduceSub, Nat.reduceMul, Int.reduceSub, Int.reduceToNat, Int.reduceBEq, Int.reduceBNe, Int.reduceLT, Int.reduceGT, Int.reduceLE, Int.reduceGE, Int.reduceNeg, Int.reduceAdd, AH.SP, AH.PD, AV.inB, vstep, hi, hr]
        rw [← hR1]
        exact done
      · have hsW : (lkX R2 f2 t2 w2).R.map strC ++ [[.str LL[k][i]]] = (lkX (R2 ++ [LL[k][i]]) (-1) t2 w4).R.map strC := by
          rw [hY1R, hY3R, List.map_append]; rfl
        have hWl : (lkX R2 f2 t2 w2).R.length + 1 = (lkX (R2 ++ [LL[k][i]]) (-1) t2 w4).R.length := by
          rw [hY1R, hY3R, List.length_append]; rfl
        have hWc : (lkX R2 f2 t2 w2).R.length ≤ 200 := by rw [hY1R]; omega
        have hWc2 : (lkX (R2 ++ [LL[k][i]]) (-1) t2 w4).R.length ≤ 200 := by rw [hY3R, List.length_append, List.length_cons, List.length_nil]; omega
        clear hY1R hY3R
        generalize lkX R2 f2 t2 w2 = Y1 at *
        generalize lkX (R2 ++ [LL[k][i]]) (-1) t2 w4 = Y3 at *
        simp only [AH.SD, AH.SE, AOp.call?, AOp.next?, bstep, AV.cells, unAV, binAV, retQ, retV, AH.sliceElems, AH.bytesOf, AH.strOp, AH.bound, AH.missQ, AH.minmaxAV, AH.readOf, AH.effOf, Nat.reduceBEq, Nat.reduceAdd, Nat.reduceLT, ↓reduceIte, Nat.reduceEqDiff, Nat.reduceLeDiff, Nat.reduceSub, Nat.reduceMul, Int.reduceSub, Int.reduceToNat, Int.reduceBEq, Int.reduceBNe, Int.reduceLT, Int.reduceGT, Int.reduceLE, Int.reduceGE, Int.reduceNeg, Int.reduceAdd, AH.SP, AH.PD, AV.inB, vstep, vw, shift, newOnes, rowsM, blkIn, rwB, @flat_lts, AV.lt, AV.lts, Nat.sub_self, AH.SO, hgk, c2, c3, hnl, hmk, hgi, strC_eq, c4]
        iterate 5 ((try simp only [AH.SD, AH.SE, AOp.call?, AOp.next?, bstep, AV.cells, unAV, binAV, retQ, retV, AH.sliceElems, AH.bytesOf, AH.strOp, AH.bound, AH.missQ, AH.minmaxAV, AH.readOf, AH.effOf, Nat.reduceBEq, Nat.reduceAdd, Nat.reduceLT, ↓reduceIte, Nat.reduceEqDiff, Nat.reduceLeDiff, Nat.reduceSub, Nat.reduceMul, Int.reduceSub, Int.reduceToNat, Int.reduceBEq, Int.reduceBNe, Int.reduceLT, Int.reduceGT, Int.reduceLE, Int.reduceGE, Int.reduceNeg, Int.reduceAdd, AH.SP, AH.PD, AV.inB, vstep, vw, shift, newOnes, rowsM, blkIn, rwB, @flat_lts, AV.lt, AV.lts, Nat.sub_self, AH.SO, hgk, c2, c3, hnl, hmk, hgi, strC_eq, c4, adN_p, adT_p, lgR_eq, lgU_eq, lgU_nil, Lg.eta, ne4, Bool.not_false, Bool.and_self, if_true, dkR_eq, dkB_eq, Dk.eta, ne_eq, Nat.reduceEqDiff, Nat.zero_ne_one, not_false_eq_true, hok, hsok, and_self, e4, adM, lgM, show ¬ ((14 : Nat) = 0) by decide, if_false, errA_nil, errA_ren, kindT_err, show (14 : Nat) ≤ 14 by decide, bne_self_eq_false, yx, zx, hok5, eX5, rsN_p, rsT_p, eR5, rsM, isOnT_p, hon, comeNT_p, comeT_p, dkM, hDc, opnN_p, opnT_p, eO4, opnA, opnM, opM, recsN_p, recsT_p, hRl, hsW, hWl, saT_p, sm_e2 rfl hRl, Bool.not_true, wk, List.length_map, List.drop_zero, take_all, Int.toNat_natCast, List.cons_append, List.nil_append, Nat.zero_add]); repeat ((with_reducible refine And.intro ?_ ?_); focus (first | rfl | decide | omega | (simp only [List.length_map, and_true]; omega) | (simp only [List.length_map, List.length_set, and_true]; omega))))
        refine gc_auto [0, 1, 2, 3, 4, 5, 6, 7, 8, 12, 13, 20] [11, 10, 8, 7, 2, 1, 0] [] ?_
        simp only [AH.SD, AH.SE, AOp.call?, AOp.next?, bstep, AV.cells, unAV, binAV, retQ, retV, AH.sliceElems, AH.bytesOf, AH.strOp, AH.bound, AH.missQ, AH.minmaxAV, AH.readOf, AH.effOf, Nat.reduceBEq, Nat.reduceAdd, Nat.reduceLT, ↓reduceIte, Nat.reduceEqDiff, Nat.reduceLeDiff, Nat.reduceSub, Nat.reduceMul, Int.reduceSub, Int.reduceToNat, Int.reduceBEq, Int.reduceBNe, Int.reduceLT, Int.reduceGT, Int.reduceLE, Int.reduceGE, Int.reduceNeg, Int.reduceAdd, AH.SP, AH.PD, AV.inB, vstep, hi, hr]
        exact done
end Go.Proofs.YthapdikdeoeplaaDoor.H6
end
