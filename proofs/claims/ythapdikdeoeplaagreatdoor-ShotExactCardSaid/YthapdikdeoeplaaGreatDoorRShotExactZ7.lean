/- ShotExact: for every image, size of an area and row of deeds the law answers true; the tables of unicode/utf8, which the row lays too, are not looked at. -/
import Derived.Test.YthapdikdeoeplaaGreatDoorPaFKindZ7
import Derived.Test.YthapdikdeoeplaaGreatDoorPeSxFZ7

open Go AH
namespace Go.Proofs.YthapdikdeoeplaaGreatDoor.Z7
namespace shotExact
open Go.ChangeShapes Go.WideShapes Go.ChangeAt Go.RowKit Go.ChangeMaps
theorem door_met (os : Os) (args : Array Value) : laidMetH Tryz.prog Rows.shotExactRow.laid ((wit os).forCall (fun _ _ => 0) ⟨#[], args, []⟩).memory :=
  laidMetH_of_parts3 (fuel := 8) (laidMet_of_run' 8 (by kernel_rfl) (by kernel_rfl)) (by kernel_rfl) (by kernel_rfl)

set_option maxRecDepth 100000 in
theorem lifted (os : Os) (started : os.Started) (H : Type) (enc : TypeId × Value → H) :
    ReturnsInHanded {} Tryz.checked os 5 .any (fun w args => (Rows.shotExactSpec.pre enc Tryz.prog Tryz.f5 [] false w args ∧ laidMetH Tryz.prog Rows.shotExactRow.laid w) ∧ sizedMet enc Tryz.prog Tryz.f5 (OpenSpec.ofChange Rows.shotExactSpec) false w args)
      (Rows.shotExactSpec.post enc Tryz.prog Tryz.f5 false true false false) := by
  refine returnsInHanded_of_change_and (C := Tryz.checked) (X := fun w _ => laidMetH Tryz.prog Rows.shotExactRow.laid w) (fun _ _ _ hh h => h.of_heap hh) own started (by kernel_rfl) Tryz.func5
    (ChangeSpec.witness_shaped (enc := enc) (C := Tryz.checked) (os := os) (X := fun w _ => laidMetH Tryz.prog Rows.shotExactRow.laid w) false (wit os) #[.string ⟨#[]⟩, .int .i64 0, .slice none 0 0] 8 rfl (World.shaped_of_RefB (by kernel_rfl) (by kernel_rfl)) (by kernel_rfl) (by kernel_rfl) (by kernel_rfl) (door_met os _)) ?_
  intro W base args ds gs before hval0 hW _ _ hL _
  have hval : ∀ (j : Nat) t v, Tryz.f5.params[j]? = some t → args[j]? = some v → Value.okWide Tryz.prog W .any base t v := hval0
  have hW' := hW
  obtain ⟨p, q, hA0, hV, rfl, hfz, hnd⟩ := hW
  have hA : DataW.TrodAll enc Tryz.prog W 0 (fun _ => true) true Tryz.f5.params.toList args.toList ds p := hA0
  rw [Tryz.params5] at hA hval
  obtain ⟨v0, vs0, d0, ds0, p0, q0, hargs, rfl, rfl, h0, r0⟩ := trodAll_cons hA
  obtain ⟨v1, vs1, d1, ds1, p1, q1, rfl, rfl, rfl, h1, r1⟩ := trodAll_cons r0
  obtain ⟨v2, vs2, d2, ds2, p2, q2, rfl, rfl, rfl, h2, r2⟩ := trodAll_cons r1
  obtain ⟨rfl, rfl, rfl⟩ := trodAll_nil r2
  obtain rfl : args = #[v0, v1, v2] := by cases args; simp_all
  obtain ⟨rfl, rfl⟩ := trodVars_none hV
  rw [MakeChecks.laidMetH_plain _ _ _ (by kernel_rfl)] at hL
  replace hL := laidMet.filter (fun x => isErrD x.2) hL
  obtain ⟨eb, hAm⟩ := amb_of_laid (S := S0) errRows hL (by kernel_rfl) (by decide +kernel) (by kernel_rfl) (fun _ h => by cases h)
  have hany : ∃ (b : Nat) (arr : Array Value) (et : TypeId) (fr : Nat × Nat), W.heap[b]? = some (Obj.cells arr et fr) := by
    obtain ⟨et, fr, hh⟩ := hAm.at_ 1 (by decide)
    exact ⟨1, _, et, fr, hh⟩
  obtain ⟨l0, rfl, rfl, rfl, w0⟩ := open_string Tryz.underlying9 (hval 0 9 v0 rfl rfl) h0
  obtain ⟨l1, rfl, rfl, rfl, w1⟩ := open_int Tryz.underlying3 (hval 1 3 v1 rfl rfl) h1
  obtain ⟨es2, b2, o2, s2, k2⟩ := open_slice (ks := strSH) S0.errT eb Tryz.underlying22 (by kernel_rfl) (by kernel_rfl) (by decide) hany (hval 2 22 v2 rfl rfl) h2
  obtain ⟨l2, rfl⟩ := list_of str_of k2.each
  let ls : List InRow := [⟨b2, o2, s2, (strSH).length, l2.map strC⟩]
  obtain ⟨x2, y2⟩ := k2.at (ls := ls) (i := 0) rfl
  rw [List.length_map] at x2
  have hM : MR S0.errT eb (embOf ls) (mget (memOf ls)) (fun b => W.heap.size ≤ b) W := mr_of fun i x hx => by
    match i, hx with
    | 0, hx => cases hx; exact y2
    | n + 1, hx => cases hx
  refine (law_call (S := S0) (args := [.str l0, .int .i64 l1, .slc 0 0 l2.length none]) (m := memOf ls) Tryz.func5 (by kernel_rfl) (by kernel_rfl) hAm (.cons _ _ _ _ (.str _) (.cons _ _ _ _ (.int _ _) (.cons _ _ _ _ x2 (.nil)))) hM (fun i hi => by simpa [memOf, embOf] using hi) ?_).mono fun e W' ⟨he, hg⟩ => ?_
  · exact sexact_ok l0 l1 l2
  · subst he
    exact ⟨_, rfl, law_post laidOut Tryz.underlying4 (by kernel_rfl) (by kernel_rfl) rfl rfl hW' hg⟩

theorem row_holds : Rows.ShotExactSaid :=
  OpenClaim.holds_of_wide 5 Tryz.f5 rfl rfl rfl rfl rfl rfl rfl ⟨rfl, rfl, rfl, rfl, rfl⟩ rfl rfl rfl rfl rfl (by kernel_rfl) Tryz.func5 (by kernel_rfl)
    (of_decide_eq_true (by kernel_rfl)) (by unfold Func.isWrapper; first | (rw [if_pos (by decide +kernel)]; kernel_rfl) | (rw [if_neg (by decide +kernel)]; exact ⟨rfl, rfl⟩))
    (fun os started H enc _ => lifted os started H enc)

theorem card_holds : Rows.ShotExactCardSaid :=
  Claim7.holds_tied_plain_at .later [] [.data, .sentinel, .sentinel, .sentinel, .sentinel, .sentinel, .sentinel, .sentinel, .sentinel, .sentinel, .sentinel, .sentinel, .sentinel, .sentinel, .sentinel, .pinned] true (true, "f94d6c2a6c6956721be26c6dab9e3926a830174f77e474e33ab4ec60cad8ea60") true
    row_holds (fun _ h => by cases h) (by kernel_rfl) (fun _ h => by cases h) shotExact_row_tie rfl ⟨rfl, rfl⟩ (by kernel_rfl) rfl
    (fun f fn hf hfn => by
      obtain rfl : f = 5 := Option.some.inj ((show Tryz.prog.funcNamed "quitrent/quitrentlaw07.ShotExact" = some 5 by kernel_rfl).symm.trans hf) |>.symm
      obtain rfl : fn = Tryz.f5 := (Option.some.inj (Tryz.func5.symm.trans hfn)).symm
      exact ⟨by kernel_rfl, fun j t ht => by
        have hall : (Tryz.f5.params.toList.all fun u => !Tryz.prog.wantsStandIn u) = true := by kernel_rfl
        have hm : t ∈ Tryz.f5.params.toList := Array.mem_toList_iff.2 (Array.mem_of_getElem? ht)
        exact (show Tryz.prog.wantsStandIn t = false by simpa using List.all_eq_true.1 hall t hm)⟩)
    (by kernel_rfl)
end shotExact
end Go.Proofs.YthapdikdeoeplaaGreatDoor.Z7
