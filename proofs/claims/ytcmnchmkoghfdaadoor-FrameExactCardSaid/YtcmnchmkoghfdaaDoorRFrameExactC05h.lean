/- FrameExact: for every number, text and row of blocks the law answers true; the tables of unicode/utf8, which the row lays too, are not looked at; errors' handle is what the program's text lays, as the card says. -/
import Derived.Test.YtcmnchmkoghfdaaDoorRFrmC05h
import Derived.Test.YtcmnchmkoghfdaaDoorRHandC05h
import Derived.Test.YtcmnchmkoghfdaaDoorRStrC05h
import Derived.Test.YtcmnchmkoghfdaaDoorFrmVC05h
open Go AH
namespace Go.Proofs.YtcmnchmkoghfdaaDoor.C05h
namespace frameExact
open Go.ChangeShapes Go.WideShapes Go.ChangeAt Go.RowKit Go.ChangeMaps
theorem door_met (os : Os) (args : Array Value) : laidMetH Tryd.prog Rows.frameExactRow.laid ((wit os).forCall (fun _ _ => 0) ⟨#[], args, []⟩).memory :=
  laidMetH_of_parts3 (fuel := 8) (laidMet_of_run' 8 (by kernel_rfl) (by kernel_rfl)) (by kernel_rfl) (by kernel_rfl)

set_option maxRecDepth 100000 in
theorem lifted (os : Os) (started : os.Started) (H : Type) (enc : TypeId × Value → H) :
    ReturnsInHanded {} Tryd.checked os 9 .any (fun w args => (Rows.frameExactSpec.pre enc Tryd.prog Tryd.f9 [] false w args ∧ laidMetH Tryd.prog Rows.frameExactRow.laid w) ∧ sizedMet enc Tryd.prog Tryd.f9 (OpenSpec.ofChange Rows.frameExactSpec) false w args)
      (Rows.frameExactSpec.post enc Tryd.prog Tryd.f9 false true false false) := by
  refine returnsInHanded_of_change_and (C := Tryd.checked) (X := fun w _ => laidMetH Tryd.prog Rows.frameExactRow.laid w) (fun _ _ _ hh h => h.of_heap hh) own started (by kernel_rfl) Tryd.func9
    (ChangeSpec.witness_shaped (enc := enc) (C := Tryd.checked) (os := os) (X := fun w _ => laidMetH Tryd.prog Rows.frameExactRow.laid w) false (wit os) #[.int .i64 0, .string ⟨#[]⟩, .slice none 0 0] 8 rfl (World.shaped_of_RefB (by kernel_rfl) (by kernel_rfl)) (by kernel_rfl) (by kernel_rfl) (by kernel_rfl) (door_met os _)) ?_
  intro W base args ds gs before hval0 hW _ _ hL _
  have hval : ∀ (j : Nat) t v, Tryd.f9.params[j]? = some t → args[j]? = some v → Value.okWide Tryd.prog W .any base t v := hval0
  have hW' := hW
  obtain ⟨p, q, hA0, hV, rfl, hfz, hnd⟩ := hW
  have hA : DataW.TrodAll enc Tryd.prog W 0 (fun _ => true) true Tryd.f9.params.toList args.toList ds p := hA0
  rw [Tryd.params9] at hA hval
  obtain ⟨v0, vs0, d0, ds0, p0, q0, hargs, rfl, rfl, h0, r0⟩ := trodAll_cons hA
  obtain ⟨v1, vs1, d1, ds1, p1, q1, rfl, rfl, rfl, h1, r1⟩ := trodAll_cons r0
  obtain ⟨v2, vs2, d2, ds2, p2, q2, rfl, rfl, rfl, h2, r2⟩ := trodAll_cons r1
  obtain ⟨rfl, rfl, rfl⟩ := trodAll_nil r2
  obtain rfl : args = #[v0, v1, v2] := by cases args; simp_all
  obtain ⟨rfl, rfl⟩ := trodVars_none hV
  obtain ⟨hL1, hL2⟩ := laidH_split hL (by kernel_rfl)
  replace hL1 := laidMet.filter (fun x => isErrD x.2) hL1
  obtain ⟨eb, hAm⟩ := amb_of_laid (S := S0) errRows hL1 (by kernel_rfl) (by decide +kernel) (by kernel_rfl) (hands_of hL2 (List.mem_filter.2 ⟨by simp [Rows.frameExactRow], by kernel_rfl⟩))
  have hany : ∃ (b : Nat) (arr : Array Value) (et : TypeId) (fr : Nat × Nat), W.heap[b]? = some (Obj.cells arr et fr) := by
    obtain ⟨et, fr, hh⟩ := hAm.at_ 0 (by decide)
    exact ⟨0, _, et, fr, hh⟩
  obtain ⟨l0, rfl, rfl, rfl, w0⟩ := open_int Tryd.underlying3 (hval 0 3 v0 rfl rfl) h0
  obtain ⟨l1, rfl, rfl, rfl, w1⟩ := open_string Tryd.underlying9 (hval 1 9 v1 rfl rfl) h1
  obtain ⟨es2, b2, o2, s2, k2⟩ := open_slice (ks := strSH) S0.errT eb Tryd.underlying34 (by kernel_rfl) (by kernel_rfl) (by decide) hany (hval 2 34 v2 rfl rfl) h2
  obtain ⟨l2, rfl⟩ := list_of str_of k2.each
  let ls : List InRow := [⟨b2, o2, s2, (strSH).length, l2.map strC⟩]
  obtain ⟨x2, y2⟩ := k2.at (ls := ls) (i := 0) rfl
  rw [List.length_map] at x2
  have hM : MR S0.errT eb (embOf ls) (mget (memOf ls)) (fun b => W.heap.size ≤ b) W := mr_of fun i x hx => by
    match i, hx with
    | 0, hx => cases hx; exact y2
    | n + 1, hx => cases hx
  refine (law_call (S := S0) (args := [.int .i64 l0, .str l1, .slc 0 0 l2.length none]) (m := memOf ls) Tryd.func9 (by kernel_rfl) (by kernel_rfl) hAm (.cons _ _ _ _ (.int _ _) (.cons _ _ _ _ (.str _) (.cons _ _ _ _ x2 (.nil)))) hM (fun i hi => by simpa [memOf, embOf] using hi) ?_).mono fun e W' ⟨he, hg⟩ => ?_
  · exact exact_ok l0 l1 l2
  · subst he
    exact ⟨_, rfl, law_post laidOut Tryd.underlying4 (by kernel_rfl) (by kernel_rfl) rfl rfl hW' hg⟩

theorem row_holds : Rows.FrameExactSaid :=
  OpenClaim.holds_of_wide 9 Tryd.f9 rfl rfl rfl rfl rfl rfl rfl ⟨rfl, rfl, rfl, rfl, rfl⟩ rfl rfl rfl rfl rfl (by kernel_rfl) Tryd.func9 (by kernel_rfl)
    (of_decide_eq_true (by kernel_rfl)) (by unfold Func.isWrapper; first | (rw [if_pos (by decide +kernel)]; kernel_rfl) | (rw [if_neg (by decide +kernel)]; exact ⟨rfl, rfl⟩))
    (fun os started H enc _ => lifted os started H enc)

theorem card_holds : Rows.FrameExactCardSaid :=
  Claim7.holds_tied_plain_at .later [] [.data, .handle, .sentinel, .sentinel, .pinned] true (true, "8245ee041aea3992da82c2ca5ca4641a2fefe1a770cc643a51668437c13570bb") true
    row_holds (fun _ h => by cases h) (by kernel_rfl) (fun _ h => by cases h) frameExact_row_tie rfl ⟨rfl, rfl⟩ (by kernel_rfl) rfl
    (fun f fn hf hfn => by
      obtain rfl : f = 9 := Option.some.inj ((show Tryd.prog.funcNamed "quitrent/quitrentlaw05.FrameExact" = some 9 by kernel_rfl).symm.trans hf) |>.symm
      obtain rfl : fn = Tryd.f9 := (Option.some.inj (Tryd.func9.symm.trans hfn)).symm
      exact ⟨by kernel_rfl, fun j t ht => by
        have hall : (Tryd.f9.params.toList.all fun u => !Tryd.prog.wantsStandIn u) = true := by kernel_rfl
        have hm : t ∈ Tryd.f9.params.toList := Array.mem_toList_iff.2 (Array.mem_of_getElem? ht)
        exact (show Tryd.prog.wantsStandIn t = false by simpa using List.all_eq_true.1 hall t hm)⟩)
    (by kernel_rfl)
end frameExact
end Go.Proofs.YtcmnchmkoghfdaaDoor.C05h
