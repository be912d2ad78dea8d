/- KinDown: for every row of numbers the law answers true (all tenants but the root can be dropped again); the sentinels and errors' handle are what the program's text lays, as the card says. -/
import Derived.Test.YtamkjgiemconbaaDoorRKinD08
import Derived.Test.YtamkjgiemconbaaDoorKinOD08
open Go AH
namespace Go.Proofs.YtamkjgiemconbaaDoor.D08
namespace kinDown
open Go.ChangeShapes Go.WideShapes Go.ChangeAt Go.RowKit Go.ChangeMaps
theorem door_met (os : Os) (args : Array Value) : laidMetH Tryd.prog Rows.kinDownRow.laid ((World.doorLaid Tryd.prog 400 os).forCall (fun _ _ => 0) ⟨#[], args, []⟩).memory :=
  laidMetH_of_parts3 (fuel := 8) (laidMet_of_run' 8 (by kernel_rfl) (by kernel_rfl)) (by kernel_rfl) (by kernel_rfl)

set_option maxRecDepth 100000 in
theorem lifted (os : Os) (started : os.Started) (H : Type) (enc : TypeId × Value → H) :
    ReturnsInHanded {} Tryd.checked os 9 .any (fun w args => (Rows.kinDownSpec.pre enc Tryd.prog Tryd.f9 [] false w args ∧ laidMetH Tryd.prog Rows.kinDownRow.laid w) ∧ sizedMet enc Tryd.prog Tryd.f9 (OpenSpec.ofChange Rows.kinDownSpec) false w args)
      (Rows.kinDownSpec.post enc Tryd.prog Tryd.f9 false true false false) := by
  refine returnsInHanded_of_change_and (C := Tryd.checked) (X := fun w _ => laidMetH Tryd.prog Rows.kinDownRow.laid w) (fun _ _ _ hh h => h.of_heap hh) own started (by kernel_rfl) Tryd.func9
    (ChangeSpec.witness_shaped (enc := enc) (C := Tryd.checked) (os := os) (X := fun w _ => laidMetH Tryd.prog Rows.kinDownRow.laid w) false (World.doorLaid Tryd.prog 400 os) #[.slice none 0 0] 8 rfl (World.shaped_of_RefB (by kernel_rfl) (by kernel_rfl)) (by kernel_rfl) (by kernel_rfl) (by kernel_rfl) (door_met os _)) ?_
  intro W base args ds gs before hval0 hW _ _ hL _
  have hval : ∀ (j : Nat) t v, Tryd.f9.params[j]? = some t → args[j]? = some v → Value.okWide Tryd.prog W .any base t v := hval0
  have hW' := hW
  obtain ⟨p, q, hA0, hV, rfl, hfz, hnd⟩ := hW
  have hA : DataW.TrodAll enc Tryd.prog W 0 (fun _ => true) true Tryd.f9.params.toList args.toList ds p := hA0
  rw [Tryd.params9] at hA hval
  obtain ⟨v0, vs0, d0, ds0, p0, q0, hargs, rfl, rfl, h0, r0⟩ := trodAll_cons hA
  obtain ⟨rfl, rfl, rfl⟩ := trodAll_nil r0
  obtain rfl : args = #[v0] := by cases args; simp_all
  obtain ⟨rfl, rfl⟩ := trodVars_none hV
  rw [MakeChecks.laidMetH_plain _ _ _ (by kernel_rfl)] at hL
  obtain ⟨eb, hAm⟩ := amb_of_laid (S := S0) errRows hL (by kernel_rfl) (by decide +kernel) (by kernel_rfl) (fun _ h => by cases h)
  have hany : ∃ (b : Nat) (arr : Array Value) (et : TypeId) (fr : Nat × Nat), W.heap[b]? = some (Obj.cells arr et fr) := by
    obtain ⟨et, fr, hh⟩ := hAm.at_ 1 (by decide)
    exact ⟨1, _, et, fr, hh⟩
  obtain ⟨es0, b0, o0, s0, k0⟩ := open_slice (ks := intSH) S0.errT eb Tryd.underlying87 (by kernel_rfl) (by kernel_rfl) (by decide) hany (hval 0 87 v0 rfl rfl) h0
  obtain ⟨l0, rfl⟩ := list_of int_of k0.each
  let ls : List InRow := [⟨b0, o0, s0, (intSH).length, l0.map intC⟩]
  obtain ⟨x0, y0⟩ := k0.at (ls := ls) (i := 0) rfl
  rw [List.length_map] at x0
  have hM : MR S0.errT eb (embOf ls) (mget (memOf ls)) (fun b => W.heap.size ≤ b) W := mr_of fun i x hx => by
    match i, hx with
    | 0, hx => cases hx; exact y0
    | n + 1, hx => cases hx
  refine (law_call (S := S0) (args := [.slc 0 0 l0.length none]) (m := memOf ls) Tryd.func9 (by kernel_rfl) (by kernel_rfl) hAm (.cons _ _ _ _ x0 (.nil)) hM (fun i hi => by simpa [memOf, embOf] using hi) ?_).mono fun e W' ⟨he, hg⟩ => ?_
  · exact down_ok l0
  · subst he
    exact ⟨_, rfl, law_post laidOut Tryd.underlying4 (by kernel_rfl) (by kernel_rfl) rfl rfl hW' hg⟩

theorem row_holds : Rows.KinDownSaid :=
  OpenClaim.holds_of_wide 9 Tryd.f9 rfl rfl rfl rfl rfl rfl rfl ⟨rfl, rfl, rfl, rfl, rfl⟩ rfl rfl rfl rfl rfl (by kernel_rfl) Tryd.func9 (by kernel_rfl)
    (of_decide_eq_true (by kernel_rfl)) (by unfold Func.isWrapper; first | (rw [if_pos (by decide +kernel)]; kernel_rfl) | (rw [if_neg (by decide +kernel)]; exact ⟨rfl, rfl⟩))
    (fun os started H enc _ => lifted os started H enc)

theorem card_holds : Rows.KinDownCardSaid :=
  Claim7.holds_tied_plain_at .later [] [.sentinel, .sentinel, .sentinel, .sentinel, .sentinel, .sentinel, .sentinel, .sentinel, .sentinel, .sentinel, .sentinel, .sentinel, .sentinel, .sentinel] true (true, "cd7b794da6aeae24520ab2b5e99cbc979afbb0119151e373cc5e5111bb0c628a") true
    row_holds (fun _ h => by cases h) (by kernel_rfl) (fun _ h => by cases h) kinDown_row_tie rfl ⟨rfl, rfl⟩ (by kernel_rfl) rfl
    (fun f fn hf hfn => by
      obtain rfl : f = 9 := Option.some.inj ((show Tryd.prog.funcNamed "quitrent/quitrentlaw08.KinDown" = some 9 by kernel_rfl).symm.trans hf) |>.symm
      obtain rfl : fn = Tryd.f9 := (Option.some.inj (Tryd.func9.symm.trans hfn)).symm
      exact ⟨by kernel_rfl, fun j t ht => by
        have hall : (Tryd.f9.params.toList.all fun u => !Tryd.prog.wantsStandIn u) = true := by kernel_rfl
        have hm : t ∈ Tryd.f9.params.toList := Array.mem_toList_iff.2 (Array.mem_of_getElem? ht)
        exact (show Tryd.prog.wantsStandIn t = false by simpa using List.all_eq_true.1 hall t hm)⟩)
    (by kernel_rfl)
end kinDown
end Go.Proofs.YtamkjgiemconbaaDoor.D08
