/- ShotKeeps: for all lives of deeds, every row of fuses and of torn counts the law answers true; the tables of unicode/utf8, which the row lays too, are not looked at. -/
import Derived.Test.YthapdikdeoeplaaGreatDoorPaFKindZ7
import Derived.Test.YthapdikdeoeplaaGreatDoorPdSkXZ7
import Derived.Test.YthapdikdeoeplaaGreatDoorAHd

open Go AH
set_option maxRecDepth 100000
set_option linter.unusedSimpArgs false
set_option linter.unusedVariables false
namespace Go.Proofs.YthapdikdeoeplaaGreatDoor.Z7
def liSH : List SH := [.int .i64]
theorem li_of (el : List AV) (h0 : shsOK liSH el) : ∃ s : Int, el = liC s := by
  obtain ⟨_, r1, rfl, ⟨a, rfl, _⟩, h1⟩ := shs_cons h0
  obtain rfl := shs_nil h1
  exact ⟨a, rfl⟩
def nsK : List NK := [.s strSH]
def nvS (x : List ByteArray × Nat × Nat × Nat) : List NV := [.r ⟨x.2.1, x.2.2.1, x.2.2.2, 1, x.1.map strC⟩]
theorem nv_of (el : List NV) (h : nksOK nsK el) : ∃ x, el = nvS x := by
  match el, h with
  | [.r x], h =>
    obtain ⟨b, off, size, k, es⟩ := x
    obtain ⟨⟨hk, he, _⟩, _⟩ := h
    obtain ⟨l, rfl⟩ := list_of str_of he
    simp only at hk
    subst hk
    exact ⟨(l, b, off, size), rfl⟩
theorem cells_ns : ∀ (l : List (List ByteArray × Nat × Nat × Nat)) (o : Nat), cellsN o (l.map nvS) = nsC o (l.map (·.1))
  | [], _ => rfl
  | x :: r, o => by
    simp only [List.map_cons, cellsN, nsC, nvS, cellN, rowsN, List.length_map, List.length_cons, List.length_nil]
    rw [cells_ns r]
theorem rows_ns : ∀ (l : List (List ByteArray × Nat × Nat × Nat)), (rowsNN (l.map nvS)).map (fun x => some (Blk.row true x.k x.es)) = l.map (fun x => some (Blk.row true 1 (x.1.map strC)))
  | [] => rfl
  | x :: r => by
    simp only [List.map_cons, rowsNN, nvS, rowsN, List.cons_append, List.nil_append]
    rw [rows_ns r]
theorem keeps_in (l0 : List (List ByteArray × Nat × Nat × Nat)) (l1 l2 : List Int) (b0 o0 s0 b1 o1 s1 b2 o2 s2 bb sz : Nat) : CallA1 S0 4 [.slc 0 0 (l0.map nvS).length none, .slc 1 0 l1.length none, .slc 2 0 l2.length none]
    (memOf ([⟨b0, o0, s0, nsK.length, cellsN 3 (l0.map nvS)⟩, ⟨b1, o1, s1, liSH.length, l1.map liC⟩, ⟨b2, o2, s2, liSH.length, l2.map liC⟩] ++ (rowsNN (l0.map nvS) ++ List.replicate (4 - l0.length) ⟨bb, 0, sz, 1, []⟩))) fun r _ => r = .bool true := by
  have h := skeeps_ok (l0.map (·.1)) l1 l2
  rw [List.length_map, List.map_map] at h
  have e : memOf ([⟨b0, o0, s0, nsK.length, cellsN 3 (l0.map nvS)⟩, ⟨b1, o1, s1, liSH.length, l1.map liC⟩, ⟨b2, o2, s2, liSH.length, l2.map liC⟩] ++ (rowsNN (l0.map nvS) ++ List.replicate (4 - l0.length) ⟨bb, 0, sz, 1, []⟩)) =
      some (.row true 1 (nsC 3 (l0.map (·.1)))) :: some (.row true 1 (l1.map liC)) :: some (.row true 1 (l2.map liC)) :: (l0.map ((fun x => some (.row true 1 (x.map strC))) ∘ fun x => x.1) ++ List.replicate (4 - l0.length) (some (.row true 1 []))) := by
    simp only [memOf, List.map_append, List.map_cons, List.map_nil, List.map_replicate, List.cons_append, List.nil_append, rows_ns, cells_ns]
    rfl
  rw [e, List.length_map]
  exact h
namespace shotKeeps
open Go.ChangeShapes Go.WideShapes Go.ChangeAt Go.RowKit Go.ChangeMaps
theorem door_met (os : Os) (args : Array Value) : laidMetH Tryz.prog Rows.shotKeepsRow.laid ((wit os).forCall (fun _ _ => 0) ⟨#[], args, []⟩).memory :=
  laidMetH_of_parts3 (fuel := 8) (laidMet_of_run' 8 (by kernel_rfl) (by kernel_rfl)) (by kernel_rfl) (by kernel_rfl)

set_option maxRecDepth 100000 in
theorem lifted (os : Os) (started : os.Started) (H : Type) (enc : TypeId × Value → H) :
    ReturnsInHanded {} Tryz.checked os 4 .any (fun w args => (Rows.shotKeepsSpec.pre enc Tryz.prog Tryz.f4 [] false w args ∧ laidMetH Tryz.prog Rows.shotKeepsRow.laid w) ∧ sizedMet enc Tryz.prog Tryz.f4 (OpenSpec.ofChange Rows.shotKeepsSpec) false w args)
      (Rows.shotKeepsSpec.post enc Tryz.prog Tryz.f4 false true false false) := by
  refine returnsInHanded_of_change_and (C := Tryz.checked) (X := fun w _ => laidMetH Tryz.prog Rows.shotKeepsRow.laid w) (fun _ _ _ hh h => h.of_heap hh) own started (by kernel_rfl) Tryz.func4
    (ChangeSpec.witness_shaped (enc := enc) (C := Tryz.checked) (os := os) (X := fun w _ => laidMetH Tryz.prog Rows.shotKeepsRow.laid w) false (wit os) #[.slice none 0 0, .slice none 0 0, .slice none 0 0] 8 rfl (World.shaped_of_RefB (by kernel_rfl) (by kernel_rfl)) (by kernel_rfl) (by kernel_rfl) (by kernel_rfl) (door_met os _)) ?_
  intro W base args ds gs before hval0 hW _ _ hL _
  have hval : ∀ (j : Nat) t v, Tryz.f4.params[j]? = some t → args[j]? = some v → Value.okWide Tryz.prog W .any base t v := hval0
  have hW' := hW
  obtain ⟨p, q, hA0, hV, rfl, hfz, hnd⟩ := hW
  have hA : DataW.TrodAll enc Tryz.prog W 0 (fun _ => true) true Tryz.f4.params.toList args.toList ds p := hA0
  rw [Tryz.params4] at hA hval
  obtain ⟨v0, vs0, d0, ds0, p0, q0, hargs, rfl, rfl, h0, r0⟩ := trodAll_cons hA
  obtain ⟨v1, vs1, d1, ds1, p1, q1, rfl, rfl, rfl, h1, r1⟩ := trodAll_cons r0
  obtain ⟨v2, vs2, d2, ds2, p2, q2, rfl, rfl, rfl, h2, r2⟩ := trodAll_cons r1
  obtain ⟨rfl, rfl, rfl⟩ := trodAll_nil r2
  obtain rfl : args = #[v0, v1, v2] := by cases args; simp_all
  obtain ⟨rfl, rfl⟩ := trodVars_none hV
  rw [MakeChecks.laidMetH_plain _ _ _ (by kernel_rfl)] at hL
  replace hL := laidMet.filter (fun x => isErrD x.2) hL
  obtain ⟨eb, hAm⟩ := amb_of_laid (S := S0) errRows hL (by kernel_rfl) (by decide +kernel) (by kernel_rfl) (fun _ h => by cases h)
  have hany : ∃ (b : Nat) (arr : Array Value) (et : TypeId) (fr : Nat × Nat), W.heap[b]? = some (Obj.cells arr et fr) := by
    obtain ⟨et, fr, hh⟩ := hAm.at_ 1 (by decide)
    exact ⟨1, _, et, fr, hh⟩
  obtain ⟨es0, b0, o0, s0, k0⟩ := open_nest (ks := nsK) S0.errT eb Tryz.underlying48 (by kernel_rfl) (by kernel_rfl) (by decide) hany (hval 0 48 v0 rfl rfl) h0
  obtain ⟨l0, rfl⟩ := nlist_of nv_of k0.each
  obtain ⟨es1, b1, o1, s1, k1⟩ := open_slice (ks := liSH) S0.errT eb Tryz.underlying23 (by kernel_rfl) (by kernel_rfl) (by decide) hany (hval 1 23 v1 rfl rfl) h1
  obtain ⟨l1, rfl⟩ := list_of li_of k1.each
  obtain ⟨es2, b2, o2, s2, k2⟩ := open_slice (ks := liSH) S0.errT eb Tryz.underlying23 (by kernel_rfl) (by kernel_rfl) (by decide) hany (hval 2 23 v2 rfl rfl) h2
  obtain ⟨l2, rfl⟩ := list_of li_of k2.each
  obtain ⟨bb, arr, et, fr, hbb⟩ := hany
  let tops : List InRow := [⟨b0, o0, s0, (nsK).length, cellsN 3 (l0.map nvS)⟩, ⟨b1, o1, s1, (liSH).length, l1.map liC⟩, ⟨b2, o2, s2, (liSH).length, l2.map liC⟩]
  let ls : List InRow := tops ++ (rowsNN (l0.map nvS) ++ List.replicate (4 - l0.length) ⟨bb, 0, arr.size, 1, []⟩)
  obtain ⟨x0, y0, z0⟩ := k0.at (ls := ls) (i := 0) (o0 := 3) rfl (fun j x hx => tops_get (tops := tops) hx)
  obtain ⟨x1, y1⟩ := k1.at (ls := ls) (i := 1) rfl
  rw [List.length_map] at x1
  obtain ⟨x2, y2⟩ := k2.at (ls := ls) (i := 2) rfl
  rw [List.length_map] at x2
  have hM : MR S0.errT eb (embOf ls) (mget (memOf ls)) (fun b => W.heap.size ≤ b) W := mr_nest (tops := tops) (fun i x hx => by
    match i, hx with
    | 0, hx => cases hx; exact y0
    | 1, hx => cases hx; exact y1
    | 2, hx => cases hx; exact y2
    | n + 3, hx => cases hx) z0 (pad_at hbb)
  refine (law_call (S := S0) (args := [.slc 0 0 (l0.map nvS).length none, .slc 1 0 l1.length none, .slc 2 0 l2.length none]) (m := memOf ls) Tryz.func4 (by kernel_rfl) (by kernel_rfl) hAm (.cons _ _ _ _ x0 (.cons _ _ _ _ x1 (.cons _ _ _ _ x2 (.nil)))) hM (fun i hi => by simpa [memOf, embOf] using hi) ?_).mono fun e W' ⟨he, hg⟩ => ?_
  · exact keeps_in l0 l1 l2 _ _ _ _ _ _ _ _ _ _ _
  · subst he
    exact ⟨_, rfl, law_post laidOut Tryz.underlying4 (by kernel_rfl) (by kernel_rfl) rfl rfl hW' hg⟩

theorem row_holds : Rows.ShotKeepsSaid :=
  OpenClaim.holds_of_wide 4 Tryz.f4 rfl rfl rfl rfl rfl rfl rfl ⟨rfl, rfl, rfl, rfl, rfl⟩ rfl rfl rfl rfl rfl (by kernel_rfl) Tryz.func4 (by kernel_rfl)
    (of_decide_eq_true (by kernel_rfl)) (by unfold Func.isWrapper; first | (rw [if_pos (by decide +kernel)]; kernel_rfl) | (rw [if_neg (by decide +kernel)]; exact ⟨rfl, rfl⟩))
    (fun os started H enc _ => lifted os started H enc)

theorem card_holds : Rows.ShotKeepsCardSaid :=
  Claim7.holds_tied_plain_at .later [] [.data, .sentinel, .sentinel, .sentinel, .sentinel, .sentinel, .sentinel, .sentinel, .sentinel, .sentinel, .sentinel, .sentinel, .sentinel, .sentinel, .sentinel, .pinned] true (true, "f94d6c2a6c6956721be26c6dab9e3926a830174f77e474e33ab4ec60cad8ea60") true
    row_holds (fun _ h => by cases h) (by kernel_rfl) (fun _ h => by cases h) shotKeeps_row_tie rfl ⟨rfl, rfl⟩ (by kernel_rfl) rfl
    (fun f fn hf hfn => by
      obtain rfl : f = 4 := Option.some.inj ((show Tryz.prog.funcNamed "quitrent/quitrentlaw07.ShotKeeps" = some 4 by kernel_rfl).symm.trans hf) |>.symm
      obtain rfl : fn = Tryz.f4 := (Option.some.inj (Tryz.func4.symm.trans hfn)).symm
      exact ⟨by kernel_rfl, fun j t ht => by
        have hall : (Tryz.f4.params.toList.all fun u => !Tryz.prog.wantsStandIn u) = true := by kernel_rfl
        have hm : t ∈ Tryz.f4.params.toList := Array.mem_toList_iff.2 (Array.mem_of_getElem? ht)
        exact (show Tryz.prog.wantsStandIn t = false by simpa using List.all_eq_true.1 hall t hm)⟩)
    (by kernel_rfl)
end shotKeeps
end Go.Proofs.YthapdikdeoeplaaGreatDoor.Z7
