import Derived.Test.YtdjcpmdjodhfeaaDoorAHOp7
import Derived.Laws.MakeOwn
set_option linter.unusedSimpArgs false
namespace AH
open Go
variable {S : Sys} {eb : Nat → Addr} {φ : Emb} {M : Nat → Option Blk} {own : Nat → Prop} {w : World} {ρ : Operand → Value} {f : Opd → AV} {o : Oper} {fresh : Nat} {p : Prop} {e : Eff}

theorem flat_get {α : Type} (z : List α) : ∀ (n i : Nat), i < n * z.length → (List.replicate n z).flatten[i]? = z[i % z.length]?
  | 0, i, h => by simp at h
  | n + 1, i, h => by
    rw [List.replicate_succ, List.flatten_cons, List.getElem?_append]
    by_cases hi : i < z.length
    · rw [if_pos hi, Nat.mod_eq_of_lt hi]
    · have e := Nat.mod_eq_sub_mod (a := i) (b := z.length) (by omega)
      rw [if_neg hi, e]
      refine flat_get z n _ ?_
      rw [Nat.add_mul, Nat.one_mul] at h
      omega

theorem madeCells_vrs {z : List AV} {us : Array Value} (h : VRs S.errT eb φ z us.toList) (h1 : ∀ u ∈ us.toList, u.oneCell' = true) (n : Nat) :
    VRs S.errT eb φ (List.replicate n z).flatten ((Array.range (n * us.size)).map (us[· % us.size]!)).toList ∧ ∀ u ∈ ((Array.range (n * us.size)).map (us[· % us.size]!)).toList, u.oneCell' = true := by
  have hl : z.length = us.size := by simpa using h.length
  have key : ∀ i, i < n * us.size → ((Array.range (n * us.size)).map (us[· % us.size]!)).toList[i]? = us.toList[i % us.size]? := by
    intro i hi
    have hpos : 0 < us.size := by
      rcases Nat.eq_zero_or_pos us.size with hz | hz
      · rw [hz] at hi; simp at hi
      · exact hz
    have hm : i % us.size < us.size := Nat.mod_lt _ hpos
    rw [Array.getElem?_toList, Array.getElem?_toList, Array.getElem?_map, Array.getElem?_range, if_pos hi, Array.getElem?_eq_getElem hm]
    simp only [Option.map_some, Option.some.injEq]
    exact getElem!_pos us _ hm
  refine ⟨.of_get (by simp [hl]) ?_, ?_⟩
  · intro i a b ha hb
    have hi : i < n * us.size := by
      have := (List.getElem?_eq_some_iff.1 hb).1
      simpa using this
    rw [key i hi] at hb
    rw [flat_get z n i (by rw [hl]; exact hi), hl] at ha
    obtain ⟨c, hc, hr⟩ := h.get _ _ ha
    rw [hc] at hb; cases hb; exact hr
  · intro u hu
    obtain ⟨i, hi⟩ := List.getElem?_of_mem hu
    have hi' : i < n * us.size := by
      have := (List.getElem?_eq_some_iff.1 hi).1
      simpa using this
    rw [key i hi'] at hi
    exact h1 u (List.mem_of_getElem? hi)

/-- Cells cut into elements. -/
def cut (n e : Nat) (cs : List AV) : List (List AV) := (List.range n).map fun i => (cs.drop (i * e)).take e

theorem br_cut {n k m : Nat} {cs : List AV} {us : Array Value} {et : TypeId} (φ' : Emb) (h1 : φ'.k n = k) (h2 : φ'.base n = 0) (h3 : φ'.size n = us.size) (hv : VRs S.errT eb φ' cs us.toList) (hone : ∀ u ∈ us.toList, u.oneCell' = true) (hl : cs.length = m * k) {ro : Bool} :
    BR S.errT eb φ' n (.row ro k (cut m k cs)) (.cells us et (0, 0)) := by
  have hlen := hv.length
  refine br_new (S := S) φ' h1 h2 h3 (by simp [cut]; simp at hlen; omega) ?_
  intro i el hi
  simp only [cut, List.getElem?_map, Option.map_eq_some_iff] at hi
  obtain ⟨j, hj, rfl⟩ := hi
  have hij : j = i ∧ i < m := by
    have := List.getElem?_eq_some_iff.1 hj
    obtain ⟨q1, q2⟩ := this
    simp at q1 q2
    exact ⟨q2.symm, q1⟩
  obtain ⟨rfl, him⟩ := hij
  have hfit : (j + 1) * k ≤ m * k := Nat.mul_le_mul_right _ (by omega)
  rw [Nat.add_mul, Nat.one_mul] at hfit
  refine ⟨by simp; omega, cellsAt_of_list ((hv.drop (j * k)).take k) (fun u hu => hone u (List.mem_of_mem_drop (List.mem_of_mem_take hu))) ?_⟩
  intro q u hu
  rw [List.getElem?_take] at hu
  split at hu
  · rw [List.getElem?_drop, Array.getElem?_toList] at hu
    exact hu
  · cases hu

/-- A new block behind what was drawn. -/
theorem new_run (hM : MR S.errT eb φ M own w) (hk : ∀ b, w.heap.size ≤ b → own b) (hf : ¬ φ.dom fresh) {w1 : World} (hw1 : w1.heap = w.heap) (hs1 : StepK own w w1) {ob : Obj} {b : Blk} {k size : Nat} {v : AV} {u : Value} {foot : List Nat} (_hfoot : fresh ∈ foot)
    (hB : BR S.errT eb (φ.add fresh w.heap.size 0 k size) fresh b ob) (hv : VR S.errT eb (φ.add fresh w.heap.size 0 k size) v u) {r : Result Next} (hr : r = .ok (.value u) (w1.alloc ob)) :
    OpRes S eb φ own M fresh w { val := v, foot := foot, wr := [(fresh, some b)] } r := by
  have ext := Emb.add_ext (φ := φ) (b := w.heap.size) (base := 0) (k := k) (size := size) hf
  have hsz : w1.heap.size = w.heap.size := by rw [hw1]
  have hM1 : MR S.errT eb φ M own w1 := hM.of_heap hw1
  refine ⟨u, φ.add fresh w.heap.size 0 k size, _, .inl hr, hv, ?_, hs1.trans (.alloc _), ext, ?_⟩
  · have := MR.alloc hM1 (fun b hb => hk b (by omega)) hf (base := 0) (k := k) (size := size) (o := ob) (b := b) (by rw [hsz]; exact hB)
    rw [hsz] at this
    exact this
  · intro id hid
    rcases hid with h | h
    · exact .inl h
    · exact .inr ⟨h, by simp⟩

theorem bslice_ok {t : TypeId} {el : TypeId} {n : Nat} {ps : Array (Nat × Operand)} {z : List AV} {cps : List (Nat × Nat × Opd)} (ht : S.P.underlying t = some (.slice el)) (hn : ¬ n * S.P.cellsOf el > 2 ^ 24) (hz : zeroCells S.P el = some z) (hps : partsOf S.P t ps = some cps) (hρ : Rho S eb φ ρ f)
    (hM : MR S.errT eb φ M own w) (hk : ∀ b, w.heap.size ≤ b → own b) (hf : fresh ∈ e.foot → ¬ φ.dom fresh)
    (hs : bstep fresh M (.bslice (S.P.cellsOf el) n z (cps.map fun p => (p.1, p.2.1, f p.2.2))) = some (p, e)) (ho : o.op = .buildSlice t n ps) : OpRes S eb φ own M fresh w e ((execOp ρ o).run S.P w) := by
  simp only [bstep] at hs
  split at hs
  · rename_i cs hcs
    simp only [Option.some.injEq, Prod.mk.injEq] at hs
    obtain ⟨rfl, rfl⟩ := hs
    obtain ⟨i, zv, hi, hzv, hrun, hvr, hone, hlen, hzl⟩ := zeroCells_run (S := S) (eb := eb) (φ := φ) (w := w) hz
    obtain ⟨hl, hp⟩ := parts_ok hps hρ
    have hsz : zv.cells.size = S.P.cellsOf el := by omega
    obtain ⟨m1, m2⟩ := madeCells_vrs hvr hone n
    obtain ⟨rs, h1, h2, h3⟩ := fill_ok (S := S) (eb := eb) (φ := φ) (fun j => some (j * S.P.cellsOf el, S.P.cellsOf el)) hcs m1 m2 hl (fun i a b ha hb => by
      obtain ⟨q1, q2⟩ := hp i a b ha hb
      refine ⟨?_, q1⟩
      rcases q2 with ⟨fs', g1, fd, g2, g3, g4⟩ | ⟨n', el', g1, g2, g3⟩ | ⟨el', g1, g2, g3⟩
      · rw [ht] at g1; cases g1
      · rw [ht] at g1; cases g1
      · rw [ht] at g1; cases g1; simp [g2, g3])
    have hcl : cs.length = n * S.P.cellsOf el := by
      have : ∀ (c : List AV) (l : List (Nat × Nat × AV)) (r : List AV), fill c l = some r → r.length = c.length := by
        intro c l
        induction l generalizing c with
        | nil => intro r h; simp [fill] at h; rw [h]
        | cons x l ih =>
          intro r h
          obtain ⟨a, b, v⟩ := x
          simp only [fill] at h
          split at h
          · split at h
            · rename_i hc
              rw [ih _ _ h, splice_length _ _ _ (by omega)]
            · cases h
          · cases h
      rw [this _ _ _ hcs]
      simp [hlen]
    have ext := Emb.add_ext (φ := φ) (b := w.heap.size) (base := 0) (k := S.P.cellsOf el) (size := rs.size) (hf (by simp))
    have hrl : rs.size = n * S.P.cellsOf el := by have := h2.length; simp at this; omega
    refine new_run hM hk (hf (by simp)) (w1 := w) rfl .refl (k := S.P.cellsOf el) (size := rs.size) (ob := .cells rs el) (by simp)
      (br_cut (S := S) _ (by simp [Emb.add]) (by simp [Emb.add]) (by simp [Emb.add]) (h2.mono ext) h3 hcl)
      (u := .slice (some ⟨w.heap.size, 0, none⟩) n n) ?_ ?_
    · have := VR.slc (T := S.errT) (eb := eb) (φ := φ.add fresh w.heap.size 0 (S.P.cellsOf el) rs.size) fresh 0 n (some n) n (.inr rfl) (Nat.le_refl _) (by intro c0 h; simpa using h) (by simp [Emb.add]; omega)
      simpa [Emb.add] using this
    · simp only [execOp, ho, Instr.buildSlice, Sem.run_bind, run_underlying ht, Result.andThen_ok, sizeOf_run hi]
      rw [if_neg hn]
      simp only [Array.toArray_toList] at h1
      by_cases h0 : n * S.P.cellsOf el = 0
      · have harr : ((Array.range (n * S.P.cellsOf el)).map ((#[] : Array Value)[· % (#[] : Array Value).size]!)) = ((Array.range (n * zv.cells.size)).map (zv.cells[· % zv.cells.size]!)) := by
          rw [hsz]; simp [h0]
        rw [if_pos h0]
        simp only [Sem.run_bind, Sem.run_pure, Result.andThen_ok]
        rw [harr, h1]
        rfl
      · rw [if_neg h0]
        simp only [Sem.run_bind, Sem.run_pure, Result.andThen_ok, hrun]
        rw [show n * S.P.cellsOf el = n * zv.cells.size by rw [hsz], h1]
        rfl
  · cases hs

theorem run_newObj' (o : Obj) : (newObj o).run S.P w = .ok w.heap.size (w.alloc o) := rfl

theorem mkmap_ok {t : TypeId} (hM : MR S.errT eb φ M own w) (hk : ∀ b, w.heap.size ≤ b → own b) (hf : fresh ∈ e.foot → ¬ φ.dom fresh)
    (hs : bstep fresh M .mkmap = some (p, e)) (ho : o.op = .makeMap t none) : OpRes S eb φ own M fresh w e ((execOp ρ o).run S.P w) := by
  simp only [bstep, Option.some.injEq, Prod.mk.injEq] at hs
  obtain ⟨_, rfl⟩ := hs
  have ext := Emb.add_ext (φ := φ) (b := w.heap.size) (base := 0) (k := 0) (size := 0) (hf (by simp))
  refine new_run hM hk (hf (by simp)) (w1 := w) rfl .refl (k := 0) (size := 0) (ob := .map #[] 0) (b := .map [] 0) (by simp) (show ∃ us, Obj.map #[] 0 = .map us 0 ∧ ER S.errT eb _ [] us.toList from ⟨#[], rfl, .nil⟩) (u := .map (some w.heap.size)) ?_ ?_
  · have := VR.map (T := S.errT) (eb := eb) (φ := φ.add fresh w.heap.size 0 0 0) fresh (.inr rfl)
    simpa [Emb.add] using this
  · simp only [execOp, ho, Instr.makeMap, Option.map_none, Sem.run_bind, Sem.run_pure, Result.andThen_ok, run_newObj']

theorem mkslice_ok {t : TypeId} {el : TypeId} {z : List AV} {x y : Operand} {cx cy : Opd} (ht : S.P.underlying t = some (.slice el)) (hz : zeroCells S.P el = some z) (hx : cOpd x = some cx) (hy : cOpd y = some cy) (hρ : Rho S eb φ ρ f)
    (hM : MR S.errT eb φ M own w) (hk : ∀ b, w.heap.size ≤ b → own b) (hf : fresh ∈ e.foot → ¬ φ.dom fresh)
    (hs : bstep fresh M (.mkslice (S.P.cellsOf el) (S.P.bytesOf el) z (f cx) (f cy)) = some (p, e)) (hp : p) (ho : o.op = .makeSlice t x y) : OpRes S eb φ own M fresh w e ((execOp ρ o).run S.P w) := by
  have vx := hρ x cx hx
  have vy := hρ y cy hy
  simp only [bstep] at hs
  split at hs
  · rename_i l c e1 e2
    rw [e1] at vx
    rw [e2] at vy
    have hvx := int_inv vx
    have hvy := int_inv vy
    simp only [Option.some.injEq, Prod.mk.injEq] at hs
    obtain ⟨rfl, rfl⟩ := hs
    obtain ⟨p1, p2, p3, p4, p5, p6⟩ := hp
    obtain ⟨i, zv, hi, hzv, hrun, hvr, hone, hlen, hzl⟩ := zeroCells_run (S := S) (eb := eb) (φ := φ) (w := w) hz
    have hsz : zv.cells.size = S.P.cellsOf el := by omega
    obtain ⟨m1, m2⟩ := madeCells_vrs hvr hone c.toNat
    have hby : S.P.bytesOf el = i.bytes := by simp [Program.bytesOf, hi]
    have hl : (List.replicate c.toNat z).flatten.length = c.toNat * S.P.cellsOf el := by simp [p1]
    have hsi : i.size = S.P.cellsOf el := by simp [Program.cellsOf, hi]
    have ext := Emb.add_ext (φ := φ) (b := w.heap.size) (base := 0) (k := S.P.cellsOf el) (size := c.toNat * S.P.cellsOf el) (hf (by simp))
    have hex : (execOp ρ o).run S.P w = .ok (.value (.slice (some ⟨w.heap.size, 0, none⟩) l.toNat c.toNat)) (w.alloc (.cells (Go.madeCells zv.cells (c.toNat * i.size)) el)) := by
      have := run_make (P := S.P) w t el i zv ht hi hzv .i64 .i64 l c p3 p4 (by rw [hby, Int.mul_comm] at p5; omega) p6
      simp only [execOp, ho, hvx, hvy, Sem.run_bind, this, Result.andThen_ok, Sem.run_pure]
    have hm : Go.madeCells zv.cells (c.toNat * i.size) = ((Array.range (c.toNat * zv.cells.size)).map (zv.cells[· % zv.cells.size]!)) := by rw [hsi, ← hsz]; rfl
    have hcut : cut c.toNat (S.P.cellsOf el) (List.replicate c.toNat z).flatten = List.replicate c.toNat z := by
      refine List.ext_getElem? fun j => ?_
      simp only [cut, List.getElem?_map, List.getElem?_replicate]
      by_cases hj : j < c.toNat
      · rw [List.getElem?_range hj, if_pos hj]
        simp only [Option.map_some, Option.some.injEq]
        refine List.ext_getElem? fun q => ?_
        rw [List.getElem?_take, List.getElem?_drop]
        split
        · rename_i hq
          have hb : (j + 1) * S.P.cellsOf el ≤ c.toNat * S.P.cellsOf el := Nat.mul_le_mul_right _ (by omega)
          rw [Nat.add_mul, Nat.one_mul] at hb
          rw [flat_get z c.toNat _ (by rw [p1]; omega), p1, Nat.mul_comm, Nat.mul_add_mod, Nat.mod_eq_of_lt hq]
        · rename_i hq
          rw [List.getElem?_eq_none (by omega)]
      · rw [List.getElem?_eq_none (by simp; omega), if_neg hj]
        rfl
    rw [← hm] at m1 m2
    have hzs : (Go.madeCells zv.cells (c.toNat * i.size)).size = c.toNat * S.P.cellsOf el := by rw [size_madeCells, hsi]
    have hB := br_cut (S := S) (eb := eb) (n := fresh) (k := S.P.cellsOf el) (m := c.toNat) (et := el) (ro := false) (φ.add fresh w.heap.size 0 (S.P.cellsOf el) (c.toNat * S.P.cellsOf el)) (by simp [Emb.add]) (by simp [Emb.add]) (by simp [Emb.add, hzs]) (m1.mono ext) m2 hl
    rw [hcut] at hB
    refine new_run hM hk (hf (by simp)) (w1 := w) rfl .refl (k := S.P.cellsOf el) (size := c.toNat * S.P.cellsOf el) (by simp) hB ?_ hex
    have := VR.slc (T := S.errT) (eb := eb) (φ := φ.add fresh w.heap.size 0 (S.P.cellsOf el) (c.toNat * S.P.cellsOf el)) fresh 0 l.toNat (some c.toNat) c.toNat (.inr rfl) (by omega) (by intro c0 h; simpa using h) (by simp [Emb.add])
    simpa [Emb.add] using this
  · cases hs

end AH
