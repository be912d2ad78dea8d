import Derived.Test.YtamkjgiemconbaaDoorFVGD19
import Derived.Test.YtamkjgiemconbaaDoorAHd
open Go Go.RowKit Go.Shelf AH.Seq
set_option linter.unusedSimpArgs false
set_option maxRecDepth 100000
namespace Go.Proofs.YtamkjgiemconbaaDoor.D19
attribute [local go_sem] Oper.semAt_some
set_option maxHeartbeats 2000000 in
theorem vals_in (F : Fence) (n : Nat) (hf : F.fn 76) (hro : F.round = none) (hn : 1 ≤ n) (l bx ox bm : Nat) (us : Array MapEntry) (c : Nat) (val : MapEntry → C4) (hval : ∀ e ∈ us.toList,e.val = (val e).av) (hnd : (us.toList.map (·.born)).Nodup) (hlt : ∀ e ∈ us.toList,e.born < c)
    (J Jx : List C4 → World → Prop) (hY : ∀ pre x W1,J pre W1 → pre.length < us.size → YieldAt F (n - 1) Tryd.prog l #[x.av] W1 fun e W' =>(e = .returned (.bool true) ∧ J (pre ++ [x]) W' ∧ KeepsWalks W1 W') ∨ (e = .returned (.bool false) ∧ Jx (pre ++ [x]) W'))
    (W : World) (hJ : AbidesFrom W.heap.size J) (hm : W.cell? ⟨bx,ox,none⟩ = some (.map (some bm))) (hmap : W.heap[bm]? = some (.map us c)) (h0 : J [] W) :
    CallsIn F n Tryd.prog 76 #[.func (.yield l) #[] #[],.pointer (some ⟨bx,ox,none⟩)] W fun e W' =>(∃ v,e = .returned v) ∧ ((∃ xs,(∃ S : List MapEntry,S.Perm us.toList ∧ xs = S.map val) ∧ J xs W') ∨ (∃ pre,True ∧ Jx pre W')):=by
  refine callsIn_of_wp Tryd.func76 rfl hf ?_ hro
  simp only [Tryd.ntmps76,List.size_toArray,List.length_cons,List.length_nil,Nat.reduceAdd,Nat.reduceSub,Array.replicate_succ,Array.replicate_zero,List.push_toArray,List.append_toArray,List.nil_append,List.cons_append]
  gi_wp2_with (first
    | (gi_at_range; refine wpListIn_range_raw _ rfl _ 106 rfl _ _ Tryd.underlying106 bm us c rfl hmap ?_)
    | gi_in)
  go_frame
  gi_loopw [4] (fun _ wr => ∃ (S : List MapEntry) (last : Nat),wr.heap[W.heap.size]? = some (.mapIter (some bm) c (S.map (·.born)).toArray last) ∧ c ≤ last ∧ wr.heap[bm]? = some (.map us c) ∧ PartR us S ∧ J (S.map val) wr)
    (fun _ wr =>leftW us W.heap.size wr)
  case atStart =>
    have hbl : bm < W.heap.size:=(Array.getElem?_eq_some_iff.1 hmap).1
    exact ⟨[],c,World.alloc_heap_new W _,Nat.le_refl _,(Below.heap_alloc _ _ bm hbl).trans hmap,part_0 us,hJ _ _ _ none h0 (World.grownBy_alloc W _ none) (fun r e =>by cases e)⟩
  case round =>
    obtain ⟨S,last,hr,hcl,hb,hS,hJs⟩:=hrel
    have hne : W.heap.size ≠ bm:=by have:=(Array.getElem?_eq_some_iff.1 hmap).1; omega
    gi_wp2_with (first
      | (gi_at_next; refine wpListIn_next_raw _ rfl _ rfl W.heap.size bm c last _ us c rfl hr hb hne hlt hcl (AH.Seq.born_inj hnd) ?_ ?_)
      | gi_in)
    · intro hz
      gi_wp2
      go_end0
      exact ⟨⟨_,rfl⟩,.inl ⟨_,⟨S,hS.all hnd (by rw [hz]; rfl),rfl⟩,hJs⟩⟩
    · intro e he w2 hg2 hs2 hr2 hb2 hen
      obtain ⟨he1,he2⟩:=left_in (by simpa using he)
      have hv:=hval e he1
      rw [hv] at hen ⊢
      generalize hx : val e = x at *
      obtain ⟨xa,xb,xc,xd,xh⟩:=x
      simp only [C4.av] at hen ⊢
      have hJ2 : J (S.map val) w2:=hJ _ _ _ (some W.heap.size) hJs hg2 (fun r q =>by cases q; exact ⟨Nat.le_refl _,_,hr,rfl⟩)
      have hJ3 : J (S.map val) (w2.alloc (.cells #[xa,xb,xc,xd] 57)):=hJ _ _ _ none hJ2 (World.grownBy_alloc w2 _ none) (fun r q =>by cases q)
      have hlen : (S.map val).length < us.size:=by
        have:=(hS.snoc he1 he2).len
        rw [List.length_append,List.length_singleton] at this
        rw [List.length_map]; omega
      obtain ⟨fn,tmps,assign,body,hy,hR⟩:=hY (S.map val) ⟨xa,xb,xc,xd,xh⟩ _ hJ3 hlen
      simp only [C4.av] at hy
      gi_wp2
      rw [run_store4 w2 _ hs2 57 _ _ _ _ xa xb xc xd xh]
      gi_wp2
      refine hR.mono ?_
      rintro e3 W3 (⟨rfl,hJ4,hk4⟩ | ⟨rfl,hJx4⟩)
      · have hr3:=hk4.same _ _ ((Below.heap_alloc w2 _ W.heap.size (Array.getElem?_eq_some_iff.1 hr2).1).trans hr2) rfl
        have hb3:=hk4.same _ _ ((Below.heap_alloc w2 _ bm (Array.getElem?_eq_some_iff.1 hb2).1).trans hb2) rfl
        gi_wp2
        go_roundw
        case rel =>
          refine ⟨S ++ [e],c,?_,Nat.le_refl _,hb3,hS.snoc he1 he2,?_⟩
          · rw [hr3,List.map_append]; rfl
          · rw [List.map_append,List.map_cons,List.map_nil,hx]; exact hJ4
        case measure =>
          rw [leftW_eq hr3,leftW_eq hr]
          rw [List.length_map] at hlen
          simp
          omega
      · gi_wp2
        refine bodyPost_ret (results_none rfl _ _ _) rfl ?_
        exact ⟨⟨_,rfl⟩,.inr ⟨_,trivial,hJx4⟩⟩
theorem vals_stops (F : Fence) (n : Nat) (hf : F.fn 76) (hro : F.round = none) (hn : 1 ≤ n) (bx ox bm : Nat) (us : Array MapEntry) (c : Nat) (val : MapEntry → C4) (hval : ∀ e ∈ us.toList,e.val = (val e).av) (hnd : (us.toList.map (·.born)).Nodup) (hlt : ∀ e ∈ us.toList,e.born < c)
    (w : World) (hbx : bx < w.heap.size) (hm : w.cell? ⟨bx,ox,none⟩ = some (.map (some bm))) (hmap : w.heap[bm]? = some (.map us c)) :
    SeqStopsK F n Tryd.prog 76 #[.pointer (some ⟨bx,ox,none⟩)] (fun x : C4 => #[x.av]) KeepsWalks (fun xs => ∃ S : List MapEntry,S.Perm us.toList ∧ xs = S.map val) (fun _ =>True) us.size w:=fun l J Jx W hW hJ hJx hY h0 =>
  vals_in F n hf hro hn l bx ox bm us c val hval hnd hlt J Jx hY W hJ ((hW.cell (p:=⟨bx,ox,none⟩) hbx).trans hm) ((hW.block bm (Array.getElem?_eq_some_iff.1 hmap).1).trans hmap) h0
def flat4 (l : List C4) : List Value:=l.flatMap C4.cells
theorem flat4_snoc (l : List C4) (x : C4) : flat4 (l ++ [x]) = flat4 l ++ x.cells:=by simp [flat4]
theorem infoE : (Tryd.prog.info? 57).map (fun i =>(i.zero,i.size,i.bytes)) = some (some (.agg #[.int .i64 0,.int .i64 0,.int .i64 0,.int .i64 0]),4,32):=by kernel_rfl
set_option maxHeartbeats 2000000 in
theorem app_in (F : Fence) (n : Nat) (hf : F.fn 90) (hv : F.fn 76) (hro : F.round = none) (hn : 3 ≤ n) (bx ox bm : Nat) (us : Array MapEntry) (c : Nat) (val : MapEntry → C4) (hval : ∀ e ∈ us.toList,e.val = (val e).av) (hnd : (us.toList.map (·.born)).Nodup) (hlt : ∀ e ∈ us.toList,e.born < c)
    (hmax : us.size ≤ 1048576) (w : World) (hbx : bx < w.heap.size) (hm : w.cell? ⟨bx,ox,none⟩ = some (.map (some bm))) (hmap : w.heap[bm]? = some (.map us c)) :
    CallsIn F n Tryd.prog 90 #[.slice none 0 0,.func (.func 76) #[] #[.pointer (some ⟨bx,ox,none⟩)]] w fun e W' => ∃ v xs,e = .returned v ∧ (∃ S : List MapEntry,S.Perm us.toList ∧ xs = S.map val) ∧
      W'.ownsRow w.heap.size 57 4 v xs.length (flat4 xs) ∧ (v = .slice none 0 0 ↔ xs = []) ∧ Below w.heap.size w W':=by
  have h1 : 1 ≤ n:=by omega
  obtain ⟨i0,hi,hz0,hz1,hz2⟩:=info_parts infoE
  refine callsIn_of_wp_marks Tryd.func90 rfl hf ?_ hro
  simp only [Tryd.ntmps90,List.size_toArray,List.length_cons,List.length_nil,Nat.reduceAdd,Nat.reduceSub,Array.replicate_succ,Array.replicate_zero,List.push_toArray,List.append_toArray,List.nil_append,List.cons_append]
  gi_wp2
  have bO:=Boxed.new w 59 (.slice none 0 0)
  have hB0 : Below w.heap.size w (w.alloc (.cells #[.slice none 0 0] 59)):=(Below.refl _ w).alloc (Nat.le_refl _) _
  refine wpIn_rangeFunc_ownH hro h1 (gf:=76) (lb:=#[.pointer (some ⟨bx,ox,none⟩)]) rfl hv (enters_of Tryd.func76 (by kernel_rfl) rfl)
    (vals_stops F (n - 1) hv hro (by omega) bx ox bm us c val hval hnd hlt (w.alloc (.cells #[.slice none 0 0] 59)) (by simp; omega) ((hB0.cell (p:=⟨bx,ox,none⟩) hbx).trans hm) ((hB0.block bm (Array.getElem?_eq_some_iff.1 hmap).1).trans hmap)) walksK_t walksK_b (Below.refl _ _) (fun _ =>rfl)
    (fun pre W =>(∃ v,Boxed W w.heap.size 59 v ∧ W.ownsRow w.heap.size 57 4 v pre.length (flat4 pre) ∧ (v = .slice none 0 0 ↔ pre = [])) ∧ Below w.heap.size w W)
    (fun _ _ _ =>False)
    (OwnFrom.and (Own.from (holdsRow_own w.heap.size w.heap.size 59 57 4 (fun pre : List C4 =>pre.length) flat4 (fun pre v =>v = .slice none 0 0 ↔ pre = [])) _) (ownFrom_below (Nat.le_refl _) (by simp)))
    (fun _ _ _ _ _ hs _ _ =>hs)
    ⟨⟨_,bO,World.ownsRow_nil _ _ _ _,by simp⟩,hB0⟩
    (fun x a' W => ∃ Bx,w.heap.size < Bx ∧ Bx < W.heap.size ∧ W.heap[Bx]? = some (.cells #[x.a,x.b,x.c,x.d] 57 (0,0)) ∧
      a' = { tmps:=#[.slice none 0 0,.func (.func 76) #[] #[.pointer (some ⟨bx,ox,none⟩)],.pointer (some ⟨w.heap.size,0,none⟩),undef,.slice none 0 0,.pointer (some ⟨Bx,0,none⟩),.func (.func 76) #[] #[.pointer (some ⟨bx,ox,none⟩)],x.av,undef,undef,undef,undef,undef],defers:=[] })
    ?hAx ?assign ?body ?done ?stop
  case hAx =>
    rintro x a' _ X Y row ⟨Bx,h1,h2,h3,h4⟩ hg hr
    refine ⟨Bx,h1,Nat.lt_of_lt_of_le h2 hg.size,(hg.block Bx h2 (fun e => ?_)).trans h3,h4⟩
    obtain ⟨_,o,ho,hc⟩:=hr Bx e.symm
    rw [h3] at ho; cases ho; cases hc
  case assign =>
    rintro l pre ⟨xa,xb,xc,xd,xh⟩ W K ⟨⟨v,hv,hrow,hnil⟩,hB⟩ hK
    simp only [C4.av]
    gi_wp2
    rw [run_store4 W _ rfl 57 _ _ _ _ xa xb xc xd xh]
    gi_wp2
    refine hK _ _ ((KeepsOthers.alloc _ _).from _) (keepsWalks_of (KeepsOthers.alloc _ _)) ⟨⟨v,hv.alloc _,hrow.alloc _,hnil⟩,hB.alloc hB.size _⟩ ⟨W.heap.size,hv.lt,by simp,World.alloc_heap_new W _,rfl⟩
  case body =>
    rintro l pre ⟨xa,xb,xc,xd,xh⟩ a' W hl ⟨r,hr⟩ ⟨⟨v,hv,hrow,hnil⟩,hB⟩ ⟨Bx,hBx1,hBx2,hBx3,rfl⟩ hlt2
    have hc:=hv.cell
    have hb0 : W.cell? ⟨Bx,0,none⟩ = some xa:=by simp [World.cell?,hBx3]
    have hb1 : W.cell? ⟨Bx,1,none⟩ = some xb:=by simp [World.cell?,hBx3]
    have hb2 : W.cell? ⟨Bx,2,none⟩ = some xc:=by simp [World.cell?,hBx3]
    have hb3 : W.cell? ⟨Bx,3,none⟩ = some xd:=by simp [World.cell?,hBx3]
    simp only [C4.av]
    gi_wp2_with (gi_at_builtin; refine wpListIn_append_own _ rfl _ _ 59 rfl w.heap.size 57 i0 (.agg #[.int .i64 0,.int .i64 0,.int .i64 0,.int .i64 0]) 4 32 Tryd.underlying59 hi hz0 hz1 hz2 rfl (by decide) _ _ _ rfl (hrow.alloc _) ⟨W.heap.size,0,none⟩ 1 1 [xa,xb,xc,xd] rfl rfl (cell_new W _ [xa,xb,xc,xd]) (by simp [xh]) (Nat.le_trans (show pre.length + 1 ≤ 1048576 by omega) (by decide)) (by omega) (by have:=hB.size; simp; omega) ?_; intro v' w1 hown' hgrow _; obtain ⟨g',cap',rfl⟩:=ownsRow_succ hown'; obtain ⟨hv1,hv2,hr2,hk2,hb2⟩:=hv.appended (by decide) hrow hB.size (Nat.le_refl _) hown' hgrow; have hc1:=hv1.cell; have hf1:=hv1.frozen)
    refine ⟨hk2.from _,keepsWalks_of hk2,⟨_,hv2,?_,by simp⟩,hB.trans hb2⟩
    rw [List.length_append,List.length_singleton,flat4_snoc]
    exact hr2
  case done =>
    rintro D ys W hD ⟨S,hS,rfl⟩ ⟨⟨v,hv,hrow,hnil⟩,hB⟩ hK
    have hc:=hv.cell
    gi_wp2
    refine ⟨by simp,.inl ⟨_,_,rfl,run_takeDeferred hK,?_⟩⟩
    exact ⟨_,results_tmp rfl _ _ _,v,_,rfl,⟨S,hS,rfl⟩,ownsRow_putObj hrow _ hK rfl,hnil,hB.trans (belowK_b (w:=w) (Nat.le_refl _) W D _ _ (by simp at hD; omega) hK rfl rfl)⟩
  case stop =>
    rintro D c pre W _ _ h _
    exact h.elim
end Go.Proofs.YtamkjgiemconbaaDoor.D19
