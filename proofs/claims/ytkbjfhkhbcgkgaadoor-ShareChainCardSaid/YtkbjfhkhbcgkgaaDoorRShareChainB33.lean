/- ShareChain: for every three shares the law answers true (the comparison is an order, and the least numbers tell it); the sentinel is what the program's text lays, as the card says. -/
import Derived.Test.YtkbjfhkhbcgkgaaDoorRShB33
import Derived.Test.YtkbjfhkhbcgkgaaDoorShXB33
open Go AH
namespace Go.Proofs.YtkbjfhkhbcgkgaaDoor.B33
namespace shareChain
open Go.ChangeShapes Go.WideShapes Go.ChangeAt Go.RowKit Go.ChangeMaps
theorem door_met (os : Os) (args : Array Value) : laidMetH Tryd.prog Rows.shareChainRow.laid ((World.doorLaid Tryd.prog 400 os).forCall (fun _ _ => 0) ⟨#[], args, []⟩).memory :=
  laidMetH_of_parts3 (fuel := 8) (laidMet_of_run' 8 (by kernel_rfl) (by kernel_rfl)) (by kernel_rfl) (by kernel_rfl)

set_option maxRecDepth 100000 in
theorem lifted (os : Os) (started : os.Started) (H : Type) (enc : TypeId × Value → H) :
    ReturnsInHanded {} Tryd.checked os 8 .any (fun w args => (Rows.shareChainSpec.pre enc Tryd.prog Tryd.f8 [] false w args ∧ laidMetH Tryd.prog Rows.shareChainRow.laid w) ∧ sizedMet enc Tryd.prog Tryd.f8 (OpenSpec.ofChange Rows.shareChainSpec) false w args)
      (Rows.shareChainSpec.post enc Tryd.prog Tryd.f8 false true false false) := by
  refine returnsInHanded_of_change_and (C := Tryd.checked) (X := fun w _ => laidMetH Tryd.prog Rows.shareChainRow.laid w) (fun _ _ _ hh h => h.of_heap hh) own started (by kernel_rfl) Tryd.func8
    (ChangeSpec.witness_shaped (enc := enc) (C := Tryd.checked) (os := os) (X := fun w _ => laidMetH Tryd.prog Rows.shareChainRow.laid w) false (World.doorLaid Tryd.prog 400 os) #[.agg #[.int .i64 0, .int .i64 0], .agg #[.int .i64 0, .int .i64 0], .agg #[.int .i64 0, .int .i64 0]] 8 rfl (World.shaped_of_RefB (by kernel_rfl) (by kernel_rfl)) (by kernel_rfl) (by kernel_rfl) (by kernel_rfl) (door_met os _)) ?_
  intro W base args ds gs before hval0 hW _ _ hL _
  have hval : ∀ (j : Nat) t v, Tryd.f8.params[j]? = some t → args[j]? = some v → Value.okWide Tryd.prog W .any base t v := hval0
  have hW' := hW
  obtain ⟨p, q, hA0, hV, rfl, hfz, hnd⟩ := hW
  have hA : DataW.TrodAll enc Tryd.prog W 0 (fun _ => true) true Tryd.f8.params.toList args.toList ds p := hA0
  rw [Tryd.params8] at hA hval
  obtain ⟨v0, vs0, d0, ds0, p0, q0, hargs, rfl, rfl, h0, r0⟩ := trodAll_cons hA
  obtain ⟨v1, vs1, d1, ds1, p1, q1, rfl, rfl, rfl, h1, r1⟩ := trodAll_cons r0
  obtain ⟨v2, vs2, d2, ds2, p2, q2, rfl, rfl, rfl, h2, r2⟩ := trodAll_cons r1
  obtain ⟨rfl, rfl, rfl⟩ := trodAll_nil r2
  obtain rfl : args = #[v0, v1, v2] := by cases args; simp_all
  obtain ⟨rfl, rfl⟩ := trodVars_none hV
  rw [MakeChecks.laidMetH_plain _ _ _ (by kernel_rfl)] at hL
  obtain ⟨eb, hAm⟩ := amb_of_laid (S := S0) errRows hL (by kernel_rfl) (by decide +kernel) (by kernel_rfl) (fun _ h => by cases h)
  obtain ⟨as0, f0, x0⟩ := open_flat (ks := shSH) (by kernel_rfl) (by kernel_rfl) (hval 0 51 v0 rfl rfl) h0
  obtain ⟨l0, rfl⟩ := sh_of _ f0
  obtain ⟨as1, f1, x1⟩ := open_flat (ks := shSH) (by kernel_rfl) (by kernel_rfl) (hval 1 51 v1 rfl rfl) h1
  obtain ⟨l1, rfl⟩ := sh_of _ f1
  obtain ⟨as2, f2, x2⟩ := open_flat (ks := shSH) (by kernel_rfl) (by kernel_rfl) (hval 2 51 v2 rfl rfl) h2
  obtain ⟨l2, rfl⟩ := sh_of _ f2
  have hM : MR S0.errT eb noEmb (mget []) (fun b => W.heap.size ≤ b) W := mr_nil
  refine (law_call (S := S0) (args := [.agg l0.cells, .agg l1.cells, .agg l2.cells]) (m := []) Tryd.func8 (by kernel_rfl) (by kernel_rfl) hAm (.cons _ _ _ _ (x0 _ _ _) (.cons _ _ _ _ (x1 _ _ _) (.cons _ _ _ _ (x2 _ _ _) (.nil)))) hM (fun i hi => hi.elim) ?_).mono fun e W' ⟨he, hg⟩ => ?_
  · exact chain_ok l0.1 l1.1 l2.1 l0.2 l1.2 l2.2
  · subst he
    exact ⟨_, rfl, law_post laidOut Tryd.underlying4 (by kernel_rfl) (by kernel_rfl) rfl rfl hW' hg⟩

theorem row_holds : Rows.ShareChainSaid :=
  OpenClaim.holds_of_wide 8 Tryd.f8 rfl rfl rfl rfl rfl rfl rfl ⟨rfl, rfl, rfl, rfl, rfl⟩ rfl rfl rfl rfl rfl (by kernel_rfl) Tryd.func8 (by kernel_rfl)
    (of_decide_eq_true (by kernel_rfl)) (by unfold Func.isWrapper; first | (rw [if_pos (by decide +kernel)]; kernel_rfl) | (rw [if_neg (by decide +kernel)]; exact ⟨rfl, rfl⟩))
    (fun os started H enc _ => lifted os started H enc)

theorem card_holds : Rows.ShareChainCardSaid :=
  Claim7.holds_tied_plain_at .later [] [.sentinel] true (true, "4243926174a71614565de714f267c9577b20ca92153db84b600bf694cec8a25b") true
    row_holds (fun _ h => by cases h) (by kernel_rfl) (fun _ h => by cases h) shareChain_row_tie rfl ⟨rfl, rfl⟩ (by kernel_rfl) rfl
    (fun f fn hf hfn => by
      obtain rfl : f = 8 := Option.some.inj ((show Tryd.prog.funcNamed "quitrent/quitrentlaw33.ShareChain" = some 8 by kernel_rfl).symm.trans hf) |>.symm
      obtain rfl : fn = Tryd.f8 := (Option.some.inj (Tryd.func8.symm.trans hfn)).symm
      exact ⟨by kernel_rfl, fun j t ht => by
        have hall : (Tryd.f8.params.toList.all fun u => !Tryd.prog.wantsStandIn u) = true := by kernel_rfl
        have hm : t ∈ Tryd.f8.params.toList := Array.mem_toList_iff.2 (Array.mem_of_getElem? ht)
        exact (show Tryd.prog.wantsStandIn t = false by simpa using List.all_eq_true.1 hall t hm)⟩)
    (by kernel_rfl)
end shareChain
end Go.Proofs.YtkbjfhkhbcgkgaaDoor.B33
