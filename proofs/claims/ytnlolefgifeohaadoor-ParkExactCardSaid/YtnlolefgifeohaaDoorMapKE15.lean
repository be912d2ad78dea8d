import Derived.Test.YtnlolefgifeohaaDoorSfMKE15
import Derived.Test.YtnlolefgifeohaaDoorAHd
open Go AH Go.RowKit
set_option linter.unusedSimpArgs false
set_option maxRecDepth 100000
namespace Go.Proofs.YtnlolefgifeohaaDoor.E15
theorem sortsZ (m : Nat) : AnyZI.SortsIn Tryd.prog Tryd.sortedZ_ren Fence.wide m :=
  ⟨fun blk off cap ss W hH hblk hsz =>callsIn_wide.2 (AnyM.slices_Sort_int Tryd.sortZ blk off cap ss W hH hblk hsz),
   fun p cap W =>callsIn_wide.2 (AnyM.slices_Sort_int_none Tryd.sortZ p cap W)⟩
theorem keysC (mb : Option Nat) (W : World) : Calls Tryd.prog 69 #[.map mb] W fun e w' =>e = .returned (.func (.func 90) #[] #[.pointer (some ⟨W.heap.size,0,none⟩)]) ∧ w' = W.alloc (.cells #[.map mb] (Tryd.keysZ_ren.t 23)) :=
  (callsIn_wide (n:=5)).1 (AnyZI.keys_in Tryd.keysZ Fence.wide 5 trivial rfl mb W)
theorem sortedC (Bm b nn : Nat) (D0 : DataW Unit) (R : Value → Option (DataW Unit × List MemPlace)) (w : World) (hBm : Bm < w.heap.size) (hm : w.cell? ⟨Bm,0,none⟩ = some (.map (some b))) (hown : w.ownsMap Tryd.prog (Tryd.keysZ_ren.t 26) R b nn D0) (hmax : Maps.size D0 ≤ maxLen) (hbytes : Maps.size D0 * 8 ≤ 140737488355328) :
    Calls Tryd.prog 53 #[.func (.func 90) #[] #[.pointer (some ⟨Bm,0,none⟩)]] w fun e w' => ∃ (v : Value) (ss : List Int),e = .returned v ∧ ss.Perm (intKeys D0) ∧
      w'.ownsRow w.heap.size (Tryd.sortedZ_ren.t 26) 1 v ss.length ((ss.mergeSort (fun x y =>decide (x ≤ y))).map encZ) ∧ (v = .slice none 0 0 ↔ ss = []) ∧ Below w.heap.size w w':=by
  have hseq : SeqGives Fence.wide 2 Tryd.prog 90 #[.pointer (some ⟨Bm,0,none⟩)] encZ (fun ss =>ss.Perm (intKeys D0)) (Maps.size D0) w :=
    AnyZI.keys_gives (ρ:=Tryd.keysZ_ren) { Tryd.keysZ with } Fence.wide _ trivial rfl (by omega) Bm b nn D0 w hBm hm hown
  exact (callsIn_wide (n:=5)).1 (AnyZI.sorted_in Tryd.sortedZ Fence.wide 5 trivial trivial trivial trivial rfl (by omega) (sortsZ _) (enters_of Tryd.func81 (by kernel_rfl) rfl) 90 #[.pointer (some ⟨Bm,0,none⟩)] trivial (enters_of Tryd.func90 (by kernel_rfl) rfl) _ _ hmax hbytes w hseq)
theorem callRes_of {S : AH.Sys} {g : FuncId} {fn : Func} {us : Array Value} {w : World} {R : Value → World → Prop} (hf : S.P.funcs[g]? = some fn) (hb : fn.body.isSome = true) (hn : (fn.name == "runtime.NumGoroutine") = false)
    (h : Calls S.P g us w fun e w' => ∃ v,e = .returned v ∧ R v w') : CallRes S.P g us w R:=by
  unfold CallRes
  have : (callFunc g us).run S.P w = .ok (.enter g us) w:=by
    have hb' : fn.body ≠ none:=by intro q; rw [q] at hb; cases hb
    have hn' : ¬ fn.name = "runtime.NumGoroutine" := by simpa using hn
    simp [callFunc,hf,hn',hb']
  rw [this]
  exact h
def keysT : ET:=fun args M n =>match args with
  | [.map id] =>match AH.mapAt M id with
    | some _ =>some ({ val:=.fn 90 [] [.ptr n 0 0],foot:=[id],wr:=[(n,some (.iter (some id) 1 0 []))] },1)
    | none =>none
  | _ =>none
theorem keysT_ok : EffF S0 69 keysT:=by
  intro args M n e k h
  unfold keysT at h
  split at h
  · rename_i id
    split at h
    · rename_i x hx
      simp only [Option.some.injEq,Prod.mk.injEq] at h
      obtain ⟨rfl,rfl⟩:=h
      refine ⟨fun M' hM' => ?_,fun eb φ own w0 w us hA hus hM hk hnd => ?_⟩
      · have h1 : M' id = M id:=hM' id (by simp)
        have h2 : AH.mapAt M' id = some x:=by rw [← hx]; unfold AH.mapAt; rw [h1]
        simp only [keysT,h2]
      · obtain ⟨u,h1⟩ : ∃ u,us.toList = u:=⟨_,rfl⟩
        rw [h1] at hus
        cases hus with
        | cons _ u1 _ us1 v1 hus =>
          cases hus
          cases v1
          rename_i hd
          obtain rfl : us = #[.map (some (φ.blk id))]:=by cases us; simp_all
          have hn : ¬ φ.dom n:=by simpa using hnd 0 (by omega)
          have hown : ∀ b,w.heap.size ≤ b → own b:=fun b hb =>hk.new b (Nat.le_trans hk.size hb)
          refine callRes_of Tryd.func69 rfl (by decide) ((keysC _ w).mono ?_)
          rintro e w' ⟨rfl,rfl⟩
          refine ⟨_,rfl,φ.add n w.heap.size 0 0 0,Emb.add_ext hn,?_,?_,hk.below ((Below.refl _ w).alloc (Nat.le_refl _) _),?_⟩
          · refine .fn _ _ _ #[] #[_] .nil (.cons _ _ _ _ ?_ .nil)
            have:=VR.ptr (T:=S0.errT) (eb:=eb) (φ:=φ.add n w.heap.size 0 0 0) n 0 0 (.inr rfl)
            simpa [Emb.add] using this
          · have hne : id ≠ n:=fun q =>hn (q ▸ hd)
            refine MR.alloc hM hown hn (b:=.iter (some id) 1 0 []) ⟨?_,by simp [Emb.add],fun i hi => ?_⟩
            · simp [itO,Emb.add,hne]
            · simp only [Option.some.injEq] at hi
              subst hi
              exact .inl hd
          · rintro i (hi | rfl)
            · exact .inl hi
            · exact .inr ⟨Nat.le_refl _,by omega⟩
    · cases h
  · cases h
def sortI (ks : List Int) : List Int:=ks.mergeSort fun x y =>decide (x ≤ y)
theorem sortI_perm (ks : List Int) : (sortI ks).Perm ks:=List.mergeSort_perm _ _
theorem sortI_len (ks : List Int) : (sortI ks).length = ks.length:=(sortI_perm ks).length_eq
def sortedR (n b id : Nat) (ks : List Int) : Eff × Nat:=if ks = [] then ({ val:=.nils,foot:=[b,id] },0) else ({ val:=.slc n 0 ks.length none,foot:=[b,id],wr:=[(n,some (.row false 1 ((sortI ks).map fun k => [.int .i64 k])))] },1)
def sortedM (n b id : Nat) (es : List (AV × AV × Nat)) (c : Nat) : Option (List Int) → Option (Eff × Nat)
  | some ks =>if mapG es c ks then some (sortedR n b id ks) else none
  | none =>none
def sortedE (n b id : Nat) : Option (List (AV × AV × Nat) × Nat) → Option (Eff × Nat)
  | some (es,c) =>sortedM n b id es c (keysI es)
  | none =>none
def sortedI (M : Nat → Option Blk) (n b : Nat) : Option Blk → Option (Eff × Nat)
  | some (.iter (some id) 1 0 []) =>sortedE n b id (AH.mapAt M id)
  | _ =>none
def sortedT : ET:=fun args M n =>match args with
  | [.fn f [] [.ptr b 0 0]] =>if f = 90 then sortedI M n b (M b) else none
  | _ =>none
theorem sortedT_inv {args : List AV} {M : Nat → Option Blk} {n : Nat} {e : Eff} {k : Nat} (h : sortedT args M n = some (e,k)) :
    ∃ b id es c ks,args = [.fn 90 [] [.ptr b 0 0]] ∧ M b = some (.iter (some id) 1 0 []) ∧ M id = some (.map es c) ∧ keysI es = some ks ∧ mapG es c ks ∧ (e,k) = sortedR n b id ks:=by
  unfold sortedT at h
  split at h
  · rename_i f b
    split at h
    · rename_i hf
      unfold sortedI at h
      split at h
      · rename_i id hb
        unfold sortedE at h
        split at h
        · rename_i es c hm
          unfold sortedM at h
          split at h
          · rename_i ks hks
            split at h
            · rename_i hg
              simp only [Option.some.injEq] at h
              exact ⟨b,id,es,c,ks,by rw [hf],hb,mapAt_m hm,hks,hg,h.symm⟩
            · cases h
          · cases h
        · cases h
      · cases h
    · cases h
  · cases h
theorem sortedT_of {b id n : Nat} {M : Nat → Option Blk} {es : List (AV × AV × Nat)} {c : Nat} {ks : List Int} (hb : M b = some (.iter (some id) 1 0 [])) (hm : M id = some (.map es c)) (hks : keysI es = some ks) (hg : mapG es c ks) :
    sortedT [.fn 90 [] [.ptr b 0 0]] M n = some (sortedR n b id ks):=by
  simp only [sortedT,if_true,hb,sortedI,AH.mapAt,hm,sortedE,hks,sortedM,hg]
theorem sortedT_ok : EffF S0 53 sortedT:=by
  intro args M n e k h
  obtain ⟨b,id,es,c,ks,rfl,hb,hm,hks,hg,he⟩:=sortedT_inv h
  have hfoot : e.foot = [b,id] ∧ (e.wr.map Prod.fst ++ e.foot = [b,id] ∨ e.wr.map Prod.fst ++ e.foot = [n,b,id]):=by
    unfold sortedR at he
    split at he
    · cases he; exact ⟨rfl,.inl rfl⟩
    · cases he; exact ⟨rfl,.inr rfl⟩
  refine ⟨fun M' hM' => ?_,fun eb φ own w0 w us hA hus hM hk hnd => ?_⟩
  · have h1 : M' b = M b:=hM' b (by rcases hfoot.2 with q | q <;> rw [q] <;> simp)
    have h2 : M' id = M id:=hM' id (by rcases hfoot.2 with q | q <;> rw [q] <;> simp)
    rw [he]
    exact sortedT_of (h1.trans hb) (h2.trans hm) hks hg
  · obtain ⟨u,h1⟩ : ∃ u,us.toList = u:=⟨_,rfl⟩
    rw [h1] at hus
    cases hus with
    | cons _ u1 _ us1 v1 hus =>
      cases hus
      cases v1
      rename_i fs cs f1 f2
      cases fs with | mk fs =>
      cases cs with | mk cs =>
      simp only at f1 f2
      cases f1
      cases f2 with
      | cons _ u2 _ us2 v2 f2 =>
      cases f2
      cases v2
      rename_i hdb
      obtain ⟨o,ho,hit,hb0,hdm⟩:=hM.blk b _ hb trivial
      simp only [itO,Nat.zero_lt_one,if_true] at hit
      obtain ⟨et,rfl⟩:=hit
      obtain rfl : us = #[.func (.func 90) #[] #[.pointer (some ⟨φ.blk b,0,none⟩)]]:=by
        cases us
        simp only at h1
        subst h1
        simp [hb0]
      obtain ⟨mus,hw2,hr⟩:=hM.map hm
      have hown : ∀ b,w.heap.size ≤ b → own b:=fun b hb =>hk.new b (Nat.le_trans hk.size hb)
      obtain ⟨D0,o1,o2,o3⟩:=owns_map (P:=S0.P) (kt:=Tryd.keysZ_ren.t 26) Tryd.keysZ.t26 hg hks hr hw2
      have hle : es.length ≤ 1048576:=hg.2.2.2.1
      have hcell : w.cell? ⟨φ.blk b,0,none⟩ = some (.map (some (φ.blk id))):=by simp [World.cell?,ho]
      refine callRes_of Tryd.func53 rfl (by decide) ((sortedC (φ.blk b) (φ.blk id) _ D0 _ w (Array.getElem?_eq_some_iff.1 ho).1 hcell o1 (by rw [o3]; exact Nat.le_trans hle (by decide)) (by rw [o3]; omega)).mono ?_)
      rintro e' w' ⟨v,ss,rfl,s1,s2,s3,s4⟩
      have hp : ss.Perm ks:=s1.trans o2
      have hs : ss.mergeSort (fun x y =>decide (x ≤ y)) = sortI ks:=mergeSort_of_perm_i hp
      have hl : ss.length = (sortI ks).length:=by rw [← hs,List.length_mergeSort]
      rw [hs,hl] at s2
      refine ⟨v,rfl,?_⟩
      by_cases hz : ks = []
      · subst hz
        have : ss = []:=hp.eq_nil
        obtain rfl:=s3.2 this
        simp only [sortedR,if_true,Prod.mk.injEq] at he
        obtain ⟨rfl,rfl⟩:=he
        exact ⟨φ,.refl φ,.nils,hM.below s4,hk.below s4,fun i hi => .inl hi⟩
      · have hne : sortI ks ≠ []:=fun q =>hz (by have:=sortI_perm ks; rw [q] at this; exact this.symm.eq_nil)
        simp only [sortedR,hz,if_false,Prod.mk.injEq] at he
        obtain ⟨rfl,rfl⟩:=he
        obtain ⟨g,cap,cur,rfl,r1,r2,r3,r4,r5⟩:=row_new s2 hne
        have hn : ¬ φ.dom n:=by simpa using hnd 0 (by omega)
        refine ⟨φ.add n g 0 1 cap,Emb.add_ext hn,?_,?_,hk.below s4,?_⟩
        · have:=VR.slc (T:=S0.errT) (eb:=eb) (φ:=φ.add n g 0 1 cap) n 0 (sortI ks).length none cap (.inr rfl) r3 (fun _ q =>by cases q) (by simp [Emb.add])
          rw [← sortI_len]
          simpa [Emb.add] using this
        · exact hM.addB s4 hown hn r1 r2 (r5 _ _ (by simp [Emb.add]) (by simp [Emb.add]) (by simp [Emb.add]))
        · rintro i (hi | rfl)
          · exact .inl hi
          · exact .inr ⟨Nat.le_refl _,by omega⟩
end Go.Proofs.YtnlolefgifeohaaDoor.E15
