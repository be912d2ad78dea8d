import Derived.Test.YtamkjgiemconbaaDoorKinPD08
open Go AH
set_option linter.unusedSimpArgs false
set_option maxRecDepth 100000
namespace Go.Proofs.YtamkjgiemconbaaDoor.D08
noncomputable abbrev tK : List (FuncId × RT) := [(37, knIsT), (38, knPaT), (39, beT), (45, dpT), (46, knAllN), (42, ptN), (43, chN), (33, adN), (31, drN), (35, isRT), (47, cnT), (40, rbT), (41, intsT), (30, kindT)]
noncomputable abbrev eK : List (FuncId × ET) := [(28, nwT), (29, rnwT), (33, adT), (31, drT), (42, ptT), (43, chT), (46, knAllT), (34, raT), (32, rdT), (36, rpT), (44, hcT)]
theorem tK_ok : AllF S0 tK := ⟨knIsT_ok, knPaT_ok, beT_ok, dpT_ok, knAllN_ok, ptN_ok, chN_ok, adN_ok, drN_ok, isRT_ok, cnT_ok, rbT_ok, intsT_ok, kindT_ok, trivial⟩
theorem eK_ok : AllE S0 eK := ⟨nwT_ok, rnwT_ok, adT_ok, drT_ok, ptT_ok, chT_ok, knAllT_ok, raT_ok, rdT_ok, rpT_ok, hcT_ok, trivial⟩
theorem okK0 : CtxOK S0 (ctxE S0 tK [] eK) := ctxE_ok tK_ok trivial eK_ok mixed
theorem errA_ren {k : Nat} {ρ : Nat → Nat} : (errA k).ren ρ = errA k := flat_ren (errA_flat k)

deriving instance DecidableEq for AH.En
deriving instance DecidableEq for Kn
def K1 : Kn := ⟨[⟨1, 0, 0⟩, ⟨2, 1, 1⟩], 2⟩
def K2 : Kn := ⟨[⟨1, 0, 0⟩, ⟨2, 1, 1⟩, ⟨3, 2, 2⟩], 3⟩
theorem k1 : adE newK 2 1 = (0, K1) := by decide +kernel
theorem k2 : adE K1 3 2 = (0, K2) := by decide +kernel
theorem K1_ok : K1.ok := by have := adE_ok newK_ok 2 1; rw [k1] at this; exact this
theorem K2_ok : K2.ok := by have := adE_ok K1_ok 3 2; rw [k2] at this; exact this
theorem k3 : ptK K2 3 = [1, 2, 3] := by decide +kernel
theorem k4 : beK K2 3 1 = true := by decide +kernel
theorem k5 : beK K2 1 3 = false := by decide +kernel
theorem k6 : dpK K2 3 = 2 := by decide +kernel
theorem k7 : adE K2 3 1 = (6, K2) := by decide +kernel
theorem k8 : drE K2 2 = (13, K2) := by
  have h : (3 : Int) ∈ chK K2 2 := (chK_mem K2_ok).2 ⟨⟨3, 2, 2⟩, by simp [K2], rfl, by decide, rfl⟩
  have h2 : decide (((chK K2 2).length : Int) > 0) = true := by
    have := List.length_pos_of_mem h
    simp only [decide_eq_true_eq]; omega
  show drQ K2 2 (some (1, ⟨2, 1, 1⟩)) = _
  unfold drQ
  simp only [h2, cond_true]
  rfl
theorem k9 {i j : Nat} {r1 r2 : Bool} : rt2Q 1 1 cInt cInt (fun a b (_ : Unit) => AV.bool (a == b)) 3 i 3 j (some (.row r1 1 [[.int .i64 1], [.int .i64 2], [.int .i64 3]])) (some (.row r2 1 [[.int .i64 1], [.int .i64 2], [.int .i64 3]])) (some ()) = some (.bool true, [i, j]) :=
  intsT_e (a := [1, 2, 3]) (b := [1, 2, 3]) (by decide) (by decide)
theorem newK_eta : (⟨newK.L, newK.c⟩ : Kn) = newK := rfl
theorem awake_ok : Pure S0 27 [] (.bool true) := by
  refine fun_sound okK0 Tryd.func27 c27 ?_
  unfold wpF F27
  simp only [AH.SD, AH.wpOp, AOp.call?, AOp.next?, bstep, AOp.map, Opd.ev, tget, argTm, evs, AV.cells, St.eff, St.put, applyWr, mset, terase, pureE, unAV, intOp, binAV, fill, mget, AH.rowAt, AH.part, retQ, rvs, retV, AH.splice, AH.sliceElems, AH.bytesOf, AH.strOp, AH.bound, AH.addLog, AH.missQ, AH.minmaxAV, AH.wpOpD, AH.readOf, AH.effOf, AH.mapAt, AH.iterAt, Nat.reduceBEq, Nat.reduceAdd, Nat.reduceLT, ↓reduceIte, Nat.reduceEqDiff, Nat.reduceLeDiff, Nat.reduceSub, Nat.reduceMul, Int.reduceSub, Int.reduceToNat, Int.reduceBEq, Int.reduceBNe, Int.reduceLT, Int.reduceGT, Int.reduceLE, Int.reduceGE, Int.reduceNeg, Int.reduceAdd, AH.PD, heads, distN, AH.inN, posN, packM, packB, packTm, liveB, AV.inB, AV.insB, AV.ren, AV.rens, Blk.ren, Blk.inB, vstep, tput, vw, shift, newOnes, rowsM, blkIn, rwB, @flat_lts, AV.lt, AV.lts, Nat.sub_self, AH.rtO_eq, AH.rtO2_eq, AH.rtO2_none, AH.etO_eq, AH.etO2_eq, AH.etO2_none, AH.useO_some, AH.rtElse_eq, AH.elseO_some, AH.elseO_none, AH.etN_eq, Option.bind_some, Option.bind_none, AH.pairO_some, AH.pairO_none, AH.cC_dec, AH.cC_nil, AH.c0_dec, AH.c0_dec1, AH.aI_dec, AH.aS_dec, AH.aB_dec, AH.aNil_dec, AH.aNil_ptr, Option.map_none, effS, wrS, newS, backNo, AH.isIn, AH.posOf, AH.rwB, List.all_cons, List.all_nil, List.getElem?_cons_zero, List.getElem?_cons_succ, List.getElem?_nil, AH.appE_some, List.contains_cons, List.contains_nil, Nat.add_zero, enA_ren, intV_ren, knR_eq, knB_eq, Kn.eta, ne_eq, Nat.reduceEqDiff, Nat.zero_ne_one, not_false_eq_true, knIsT_p, knIsT_n, knPaT_p, knPaT_n, beT_p, beT_n, dpT_p, dpT_n, knAllN_n, knAllN_p, knAllT_p, ptN_n, ptN_p, ptT_p, chN_n, chN_p, chT_p, adN_n, adN_p, adT_p, drN_n, drN_p, drT_p, nwT_eq, rnwT_eq, isRT_p, cnT_p, rbT_p, raT_p, rdT_p, rpT_p, hcT_p, intsT_p, errA_ren, knM, rfM, rowI, k1, k2, K1_ok, K2_ok, k3, k4, k5, k6, k7, k8, k9, List.map_cons, List.map_nil, intC_eq, errA_nil, kindT_err, eA0]
theorem hke2 (M : Nat → Option Blk) : kindT [errA 2] M = some (.int .i64 2, []) := kindT_err (k := 2) M (by decide)
def awakeT : RT := rtP c0 fun _ => .bool true
theorem awakeT_ok : ReadF S0 27 awakeT := rtP_ok (fun _ => awake_ok) fun _ => rfl
theorem awakeT_eq (M : Nat → Option Blk) : awakeT [] M = some (.bool true, []) := rfl
theorem okK : CtxOK S0 (ctxE S0 ((27, awakeT) :: tK) [] eK) := ctxE_ok ⟨awakeT_ok, tK_ok⟩ trivial eK_ok mixed
end Go.Proofs.YtamkjgiemconbaaDoor.D08
