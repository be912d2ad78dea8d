/- SpareExact: for every row of deeds and every budget the law answers true (the counts, what is left and the list are those of the reference; without a book every answer is the empty one); the sentinel is what the program's text lays, as the card says. -/
import Derived.Test.YtamkjgiemconbaaDoorRBaseD19
import Derived.Test.YtamkjgiemconbaaDoorSpXD19

open Go AH
namespace Go.Proofs.YtamkjgiemconbaaDoor.D19
def acSH : List SH := [.int .i64, .int .i64, .int .i64]
theorem ac_of (el : List AV) (h0 : shsOK acSH el) : ∃ a : Ac, el = a.cells := by
  obtain ⟨_, r1, rfl, ⟨k, rfl, _⟩, h1⟩ := shs_cons h0
  obtain ⟨_, r2, rfl, ⟨a, rfl, _⟩, h2⟩ := shs_cons h1
  obtain ⟨_, r3, rfl, ⟨n, rfl, _⟩, h3⟩ := shs_cons h2
  obtain rfl := shs_nil h3
  exact ⟨⟨k, a, n⟩, rfl⟩
theorem wf_le {n : Int} (h : (Lit.int .i64 n).wf = true) : n ≤ 9223372036854775807 := by
  simp only [Lit.wf, Bool.and_eq_true, decide_eq_true_eq] at h
  exact h.2
namespace spareExact
open Go.ChangeShapes Go.WideShapes Go.ChangeAt Go.RowKit Go.ChangeMaps
theorem door_met (os : Os) (args : Array Value) : laidMetH Tryd.prog Rows.spareExactRow.laid ((World.doorLaid Tryd.prog 400 os).forCall (fun _ _ => 0) ⟨#[], args, []⟩).memory :=
  laidMetH_of_parts3 (fuel := 8) (laidMet_of_run' 8 (by kernel_rfl) (by kernel_rfl)) (by kernel_rfl) (by kernel_rfl)

set_option maxRecDepth 100000 in
theorem lifted (os : Os) (started : os.Started) (H : Type) (enc : TypeId × Value → H) :
    ReturnsInHanded {} Tryd.checked os 6 .any (fun w args => (Rows.spareExactSpec.pre enc Tryd.prog Tryd.f6 [] false w args ∧ laidMetH Tryd.prog Rows.spareExactRow.laid w) ∧ sizedMet enc Tryd.prog Tryd.f6 (OpenSpec.ofChange Rows.spareExactSpec) false w args)
      (Rows.spareExactSpec.post enc Tryd.prog Tryd.f6 false true false false) := by
  refine returnsInHanded_of_change_and (C := Tryd.checked) (X := fun w _ => laidMetH Tryd.prog Rows.spareExactRow.laid w) (fun _ _ _ hh h => h.of_heap hh) own started (by kernel_rfl) Tryd.func6
    (ChangeSpec.witness_shaped (enc := enc) (C := Tryd.checked) (os := os) (X := fun w _ => laidMetH Tryd.prog Rows.spareExactRow.laid w) false (World.doorLaid Tryd.prog 400 os) #[.slice none 0 0, .int .i64 0] 8 rfl (World.shaped_of_RefB (by kernel_rfl) (by kernel_rfl)) (by kernel_rfl) (by kernel_rfl) (by kernel_rfl) (door_met os _)) ?_
  intro W base args ds gs before hval0 hW _ _ hL _
  have hval : ∀ (j : Nat) t v, Tryd.f6.params[j]? = some t → args[j]? = some v → Value.okWide Tryd.prog W .any base t v := hval0
  have hW' := hW
  obtain ⟨p, q, hA0, hV, rfl, hfz, hnd⟩ := hW
  have hA : DataW.TrodAll enc Tryd.prog W 0 (fun _ => true) true Tryd.f6.params.toList args.toList ds p := hA0
  rw [Tryd.params6] at hA hval
  obtain ⟨v0, vs0, d0, ds0, p0, q0, hargs, rfl, rfl, h0, r0⟩ := trodAll_cons hA
  obtain ⟨v1, vs1, d1, ds1, p1, q1, rfl, rfl, rfl, h1, r1⟩ := trodAll_cons r0
  obtain ⟨rfl, rfl, rfl⟩ := trodAll_nil r1
  obtain rfl : args = #[v0, v1] := by cases args; simp_all
  obtain ⟨rfl, rfl⟩ := trodVars_none hV
  rw [MakeChecks.laidMetH_plain _ _ _ (by kernel_rfl)] at hL
  obtain ⟨eb, hAm⟩ := amb_of_laid (S := S0) errRows hL (by kernel_rfl) (by decide +kernel) (by kernel_rfl) (fun _ h => by cases h)
  have hany : ∃ (b : Nat) (arr : Array Value) (et : TypeId) (fr : Nat × Nat), W.heap[b]? = some (Obj.cells arr et fr) := by
    obtain ⟨et, fr, hh⟩ := hAm.at_ 0 (by decide)
    exact ⟨0, _, et, fr, hh⟩
  obtain ⟨es0, b0, o0, s0, k0⟩ := open_slice (ks := acSH) S0.errT eb Tryd.underlying62 (by kernel_rfl) (by kernel_rfl) (by decide) hany (hval 0 62 v0 rfl rfl) h0
  obtain ⟨l0, rfl⟩ := list_of ac_of k0.each
  obtain ⟨l1, rfl, rfl, rfl, w1⟩ := open_int Tryd.underlying3 (hval 1 3 v1 rfl rfl) h1
  let ls : List InRow := [⟨b0, o0, s0, (acSH).length, l0.map Ac.cells⟩]
  obtain ⟨x0, y0⟩ := k0.at (ls := ls) (i := 0) rfl
  rw [List.length_map] at x0
  have hM : MR S0.errT eb (embOf ls) (mget (memOf ls)) (fun b => W.heap.size ≤ b) W := mr_of fun i x hx => by
    match i, hx with
    | 0, hx => cases hx; exact y0
    | n + 1, hx => cases hx
  refine (law_call (S := S0) (args := [.slc 0 0 l0.length none, .int .i64 l1]) (m := memOf ls) Tryd.func6 (by kernel_rfl) (by kernel_rfl) hAm (.cons _ _ _ _ x0 (.cons _ _ _ _ (.int _ _) (.nil))) hM (fun i hi => by simpa [memOf, embOf] using hi) ?_).mono fun e W' ⟨he, hg⟩ => ?_
  · exact spexact_ok l0 l1 (wf_le w1)
  · subst he
    exact ⟨_, rfl, law_post laidOut Tryd.underlying4 (by kernel_rfl) (by kernel_rfl) rfl rfl hW' hg⟩

theorem row_holds : Rows.SpareExactSaid :=
  OpenClaim.holds_of_wide 6 Tryd.f6 rfl rfl rfl rfl rfl rfl rfl ⟨rfl, rfl, rfl, rfl, rfl⟩ rfl rfl rfl rfl rfl (by kernel_rfl) Tryd.func6 (by kernel_rfl)
    (of_decide_eq_true (by kernel_rfl)) (by unfold Func.isWrapper; first | (rw [if_pos (by decide +kernel)]; kernel_rfl) | (rw [if_neg (by decide +kernel)]; exact ⟨rfl, rfl⟩))
    (fun os started H enc _ => lifted os started H enc)

theorem card_holds : Rows.SpareExactCardSaid :=
  Claim7.holds_tied_plain_at .later [] [.sentinel] true (true, "cd7b794da6aeae24520ab2b5e99cbc979afbb0119151e373cc5e5111bb0c628a") true
    row_holds (fun _ h => by cases h) (by kernel_rfl) (fun _ h => by cases h) spareExact_row_tie rfl ⟨rfl, rfl⟩ (by kernel_rfl) rfl
    (fun f fn hf hfn => by
      obtain rfl : f = 6 := Option.some.inj ((show Tryd.prog.funcNamed "quitrent/quitrentlaw19.SpareExact" = some 6 by kernel_rfl).symm.trans hf) |>.symm
      obtain rfl : fn = Tryd.f6 := (Option.some.inj (Tryd.func6.symm.trans hfn)).symm
      exact ⟨by kernel_rfl, fun j t ht => by
        have hall : (Tryd.f6.params.toList.all fun u => !Tryd.prog.wantsStandIn u) = true := by kernel_rfl
        have hm : t ∈ Tryd.f6.params.toList := Array.mem_toList_iff.2 (Array.mem_of_getElem? ht)
        exact (show Tryd.prog.wantsStandIn t = false by simpa using List.all_eq_true.1 hall t hm)⟩)
    (by kernel_rfl)
end spareExact
end Go.Proofs.YtamkjgiemconbaaDoor.D19
