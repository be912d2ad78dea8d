import Derived.Test.YtamkjgiemconbaaDoorSfSCD19
import Derived.Test.YtamkjgiemconbaaDoorCmpSD19
import Derived.Test.YtamkjgiemconbaaDoorSpPD19
import Derived.Test.YtamkjgiemconbaaDoorAHd
open Go AH Go.RowKit Go.Shelf Go.Sort
set_option linter.unusedSimpArgs false
set_option maxRecDepth 100000
namespace Go.Proofs.YtamkjgiemconbaaDoor.D19
instance : Inhabited SC:=⟨⟨0,0,0,0⟩⟩
def encV (x : SC) : List Value:=[.int .i64 x.j,.int .i64 x.w,.int .i64 x.f,.int .i64 x.g]
def cfC (x y : SC) : Int:=orI (cmpI x.j y.j) (cmpI x.w y.w)
theorem cfC_lt (x y : SC) : cfC x y < 0 ↔ x.j < y.j ∨ (x.j = y.j ∧ x.w < y.w):=by
  unfold cfC orI cmpI
  split <;> split at * <;> (try split at *) <;> (try split) <;> omega
theorem swoC : SWO (ltOf cfC):=by
  refine ⟨fun x => ?_,fun x y z h1 h2 => ?_,fun x y z h1 h2 => ?_⟩
  · simp only [ltOf,decide_eq_false_iff_not,cfC_lt]; omega
  · simp only [ltOf,decide_eq_true_eq,cfC_lt] at *; omega
  · simp only [ltOf,decide_eq_false_iff_not,cfC_lt] at *; omega
theorem cmpLays (blk off size : Nat) (w : World) : CmpLays Tryd.prog 54 #[] encV 4 cfC blk off size w:=fun _ _ _ _ x y =>k54 x.j x.w x.f x.g y.j y.w y.f y.g _
theorem sort_ah {m : Mem} {id : Nat} {L : List SC} {cap : Option Nat} (hm : mget m id = some (.row false 4 (L.map SC.cells))) (hne : L ≠ []) (hl : L.length ≤ 1048576) {K : AV → Mem → Prop}
    (h : ∀ L' : List SC,L'.Perm L → L'.Pairwise (fun x y => ¬ cfC y x < 0) → K (.tup []) (mset m id (some (.row false 4 (L'.map SC.cells))))) : CallA1 S0 75 [.slc id 0 L.length cap,.fn 54 [] []] m K:=by
  intro eb φ own w0 w us hA hus hM hk hbd
  obtain ⟨u,hu⟩ : ∃ u,us.toList = u:=⟨_,rfl⟩
  rw [hu] at hus
  cases hus with
  | cons _ u1 _ us1 v1 hus =>
  cases hus with
  | cons _ u2 _ us2 v2 hus =>
  cases hus
  cases v2
  rename_i fs cs f1 f2
  cases fs with | mk fs =>
  cases cs with | mk cs =>
  simp only at f1 f2
  cases f1
  cases f2
  have hsolid : (Blk.row false 4 (L.map SC.cells)).solid φ id:=.inl (by simp [hne])
  obtain ⟨o,ho,arr,et,fr,rfl,hkk,hsz,hfit,hfz,hce⟩:=hM.blk id _ hm hsolid
  have hlen0 : 0 < L.length:=List.length_pos_iff.2 hne
  have hv1 : ∃ c,u1 = .slice (some ⟨φ.blk id,φ.base id,none⟩) L.length c:=by
    cases hn : L.length with
    | zero =>omega
    | succ n =>
      rw [hn] at v1
      cases v1 with
      | slc _ _ _ _ c h hc he hs =>exact ⟨c,by simp⟩
  obtain ⟨c,rfl⟩:=hv1
  obtain rfl : us = #[.slice (some ⟨φ.blk id,φ.base id,none⟩) L.length c,.func (.func 54) #[] #[]]:=by
    cases us
    simp only at hu
    subst hu
    rfl
  have hbl:=(Array.getElem?_eq_some_iff.1 ho).1
  have cell : ∀ i (hi : i < L.length) j,j < 4 → arr[φ.base id + i * 4 + j]? = some ((encV L[i])[j]!):=fun i hi j hj =>by
    obtain ⟨_,hc⟩:=hce i (L[i]).cells (by rw [List.getElem?_map,List.getElem?_eq_getElem hi]; rfl)
    have h4 : ∀ k,k < 4 → ∃ n,(L[i]).cells[k]? = some (.int .i64 n) ∧ (encV L[i])[k]! = .int .i64 n:=fun k hk =>by
      rcases (by omega : k = 0 ∨ k = 1 ∨ k = 2 ∨ k = 3) with rfl | rfl | rfl | rfl <;> exact ⟨_,rfl,rfl⟩
    obtain ⟨n,hn1,hn2⟩:=h4 j hj
    obtain ⟨u,hu1,hu2,_⟩:=hc j _ hn1
    cases hu2
    rw [hu1,hn2]
  have hsz4 : (flatK encV 4 L.toArray).size = L.length * 4:=by rw [size_flatK]; simp
  have hH : HoldsK encV 4 w (φ.blk id) (φ.base id) L.toArray:=by
    intro j hj
    rw [hsz4] at hj
    have hi : j / 4 < L.length:=by omega
    have h2:=cell (j / 4) hi (j % 4) (Nat.mod_lt _ (by omega))
    rw [show φ.base id + j / 4 * 4 + j % 4 = φ.base id + j by omega] at h2
    have h3 : (flatK encV 4 L.toArray)[j]! = (encV L[j / 4])[j % 4]!:=by
      rw [get_flatK _ _ _ _ (by simpa using hj)]
      have : (L.toArray)[j / 4]! = L[j / 4]:=by
        rw [getElem!_pos L.toArray (j / 4) (by simpa using hi)]; simp
      rw [this]
    refine ⟨?_,?_⟩
    · unfold World.cell?
      simp only [ho,Option.isSome_none,Bool.false_eq_true,if_false,h2,h3,id_eq]
    · unfold World.frozen?
      simp only [ho]
      have h4:=hfz rfl (φ.base id + j) ((Array.getElem?_eq_some_iff.1 h2).1)
      simp only [Bool.and_eq_false_iff,decide_eq_false_iff_not]
      omega
  have call:=AnyQ.slices_SortFunc Tryd.sortC 4 (fun w =>Tryd.isAgg57 w) (fun w =>Tryd.sizeOf57 w) encV (fun _ =>rfl) (fun x v hv =>by simp [encV] at hv; rcases hv with rfl | rfl | rfl | rfl <;> rfl) cfC swoC 54 #[] (φ.blk id) (φ.base id) c L.toArray w (enters_of Tryd.func54 (by kernel_rfl) rfl) (cmpLays _ _ _ _) hH hbl (by simp; omega)
  refine Seq.callRes_of Tryd.func75 rfl (by decide) (call.mono ?_)
  rintro e' w' ⟨rfl,d',n,os,hp,hs,rfl⟩
  obtain ⟨p1,_,p3⟩:=hp
  have e1 : d'.extract 0 L.toArray.size = d':=by rw [← p1]; simp
  have e2 : L.toArray.extract 0 L.toArray.size = L.toArray:=by simp
  rw [e1,e2] at p3
  have hlen' : d'.toList.length = L.length:=p3.length_eq
  have pw : d'.toList.Pairwise (fun x y => ¬ cfC y x < 0):=by
    rw [List.pairwise_iff_getElem]
    intro i j hi hj hij
    have:=hs i j (Nat.zero_le _) hij (by simpa [hlen'] using hj)
    simp only [ltOf,decide_eq_false_iff_not] at this
    rw [getElem!_pos d' j (by simpa using hj),getElem!_pos d' i (by simpa using hi)] at this
    simpa using this
  have K1:=h d'.toList p3 pw
  have size_arr : (putCells _root_.id (φ.base id) (flatK encV 4 d') arr).size = arr.size:=by simp [putCells]
  have hsz4' : (flatK encV 4 d').size = L.length * 4:=by rw [size_flatK,p1]; simp
  have hblk : (putRowK encV 4 (Go.Sort.ahead w n) (φ.blk id) (φ.base id) d').heap[φ.blk id]? = some (.cells (putCells _root_.id (φ.base id) (flatK encV 4 d') arr) et fr):=by
    show (w.heap.modify (φ.blk id) _)[φ.blk id]? = _
    rw [Array.getElem?_modify,if_pos rfl,ho]
    rfl
  refine ⟨_,rfl,φ,_,_,K1,.refl φ,.tup _ _ .nil,?_,?_,fun i hi =>by have:=hbd i hi; rw [gm_len (hbd id (hM.dom id _ hm))]; exact this⟩
  · have mid : MR S0.errT eb φ (upd (mget m) id (some (.row false 4 (d'.toList.map SC.cells)))) own (putRowK encV 4 (Go.Sort.ahead w n) (φ.blk id) (φ.base id) d'):=by
      refine MR.turn (hM.of_heap (w':=Go.Sort.ahead w n) rfl) hm rfl hsolid hblk (fun c hc => ?_) ?_
      · show (w.heap.modify (φ.blk id) _)[c]? = w.heap[c]?
        rw [Array.getElem?_modify,if_neg (fun q =>hc q.symm)]
      · refine ⟨_,et,fr,rfl,hkk,by rw [size_arr,hsz],by rw [size_arr,List.length_map,hlen']; simpa using hfit,fun _ p hpp =>hfz rfl p (by rw [← size_arr]; exact hpp),fun i e hi => ?_⟩
        rw [List.getElem?_map,Option.map_eq_some_iff] at hi
        obtain ⟨x,hx,rfl⟩:=hi
        have hil : i < L.length:=by rw [← hlen']; exact (List.getElem?_eq_some_iff.1 hx).1
        refine ⟨rfl,fun j v hv => ?_⟩
        have hj : j < 4:=(List.getElem?_eq_some_iff.1 hv).1
        have hx2 : d'[i]! = x:=by
          rw [getElem!_pos d' i (by simpa [← hlen'] using hil)]
          simpa using (List.getElem?_eq_some_iff.1 hx).2
        have h4 : ∀ k,k < 4 → ∃ n,x.cells[k]? = some (.int .i64 n) ∧ (encV x)[k]! = .int .i64 n:=fun k hk =>by
          rcases (by omega : k = 0 ∨ k = 1 ∨ k = 2 ∨ k = 3) with rfl | rfl | rfl | rfl <;> exact ⟨_,rfl,rfl⟩
        obtain ⟨z,hz1,hz2⟩:=h4 j hj
        rw [hv] at hz1
        simp only [Option.some.injEq] at hz1
        subst hz1
        refine ⟨.int .i64 z,?_,.int _ _,rfl⟩
        have hin : φ.base id + i * 4 + j < arr.size:=by
          have : (L.map SC.cells).length = L.length:=List.length_map ..
          rw [this] at hfit
          omega
        simp only [putCells,Array.getElem?_mapIdx,Array.getElem?_eq_getElem hin,Option.map_some,Option.some.injEq]
        rw [if_pos ⟨by omega,by rw [hsz4']; omega⟩,show φ.base id + i * 4 + j - φ.base id = i * 4 + j by omega,get_flatK _ _ _ _ (by rw [p1]; simp; omega),show (i * 4 + j) / 4 = i by omega,show (i * 4 + j) % 4 = j by omega,hx2,hz2]
        rfl
    have hf : mget (mset m id (some (.row false 4 (d'.toList.map SC.cells)))) = upd (mget m) id (some (.row false 4 (d'.toList.map SC.cells))):=by
      funext i
      rw [gm_get_set]
      simp only [upd]
      by_cases q : id = i
      · subst q; simp
      · have q2 : (id == i) = false:=by simpa using q
        rw [q2,if_neg (fun z =>q z.symm)]; rfl
    rw [hf]
    exact mid.below ⟨rfl,rfl,rfl,by simp [sortWorldK,grow],fun k hk =>by
      show ((putRowK encV 4 (Go.Sort.ahead w n) (φ.blk id) (φ.base id) d').heap ++ os)[k]? = _
      rw [Array.getElem?_append_left hk]⟩
  · refine ⟨hk.os,hk.output,Nat.le_trans hk.size (by simp [sortWorldK,grow,putRowK,putRow,mapBlock,Go.Sort.ahead]),fun b hb ho2 => ?_,hk.new⟩
    have hob : own (φ.blk id):=hM.own id _ hm rfl hsolid
    have hbs : b < w.heap.size:=Nat.lt_of_lt_of_le hb hk.size
    rw [← hk.kept b hb ho2]
    show (w.heap.modify (φ.blk id) _ ++ os)[b]? = _
    rw [Array.getElem?_append_left (by simpa using hbs),Array.getElem?_modify,if_neg (fun q =>ho2 (by rw [← q]; exact hob))]
theorem sortN_ah {m : Mem} {K : AV → Mem → Prop} (h : K (.tup []) m) : CallA1 S0 75 [.nils,.fn 54 [] []] m K:=by
  intro eb φ own w0 w us hA hus hM hk hbd
  obtain ⟨u,hu⟩ : ∃ u,us.toList = u:=⟨_,rfl⟩
  rw [hu] at hus
  cases hus with
  | cons _ u1 _ us1 v1 hus =>
  cases hus with
  | cons _ u2 _ us2 v2 hus =>
  cases hus
  cases v1
  obtain rfl : us = #[.slice none 0 0,u2]:=by
    cases us
    simp only at hu
    subst hu
    rfl
  refine Seq.callRes_of Tryd.func75 rfl (by decide) ((AnyF.slices_SortFunc_none Tryd.sortC none 0 u2 w).mono ?_)
  rintro e' w' ⟨rfl,rfl⟩
  exact ⟨_,rfl,φ,_,_,h,.refl φ,.tup _ _ .nil,hM,hk,hbd⟩
end Go.Proofs.YtamkjgiemconbaaDoor.D19
