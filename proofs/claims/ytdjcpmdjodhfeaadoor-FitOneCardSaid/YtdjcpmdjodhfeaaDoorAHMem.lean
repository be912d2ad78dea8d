import Derived.Test.YtdjcpmdjodhfeaaDoorAHRel
/-
AH: reading, making and writing blocks.
-/
namespace AH
open Go
variable {T : TypeId} {eb : Nat → Addr} {φ φ' : Emb} {M : Nat → Option Blk} {own : Nat → Prop} {w w' : World}

theorem add_lit (b o n : Nat) : (⟨b, o, none⟩ : Addr).add n = ⟨b, o + n, none⟩ := by unfold Addr.add; split <;> simp_all

theorem cellsAt_list {arr : Array Value} {o : Nat} {e : List AV} (h : CellsAt T eb φ arr o e) :
    ∃ us : List Value, us.length = e.length ∧ VRs T eb φ e us ∧ (∀ u ∈ us, u.oneCell' = true) ∧ ∀ j u, us[j]? = some u → arr[o + j]? = some u := by
  induction e generalizing o with
  | nil => exact ⟨[], rfl, .nil, by simp, by simp⟩
  | cons a r ih =>
    obtain ⟨u, h1, h2, h3⟩ := h 0 a (by simp)
    obtain ⟨us, k1, k2, k3, k4⟩ := ih (o := o + 1) (fun j v hv => by
      obtain ⟨x, g1, g2, g3⟩ := h (j + 1) v (by simpa using hv)
      exact ⟨x, by rw [show o + 1 + j = o + (j + 1) by omega]; exact g1, g2, g3⟩)
    refine ⟨u :: us, by simp [k1], .cons _ _ _ _ h2 k2, ?_, ?_⟩
    · intro x hx
      simp at hx
      rcases hx with rfl | hx
      · exact h3
      · exact k3 x hx
    · intro j x hx
      cases j with
      | zero => simp at hx; subst hx; simpa using h1
      | succ j => rw [show o + (j + 1) = o + 1 + j by omega]; exact k4 j x (by simpa using hx)

theorem cellsAt_of_list {arr : Array Value} {o : Nat} {e : List AV} {us : List Value} (h : VRs T eb φ e us) (h1 : ∀ u ∈ us, u.oneCell' = true) (h2 : ∀ j u, us[j]? = some u → arr[o + j]? = some u) :
    CellsAt T eb φ arr o e := by
  intro j v hv
  obtain ⟨u, hu, hr⟩ := h.get j v hv
  exact ⟨u, h2 j u hu, hr, h1 u (List.mem_of_getElem? hu)⟩

/-- An element of a row, read. -/
theorem MR.elem (h : MR T eb φ M own w) {id : Nat} {ro : Bool} {k : Nat} {es : List (List AV)} (hid : M id = some (.row ro k es)) {ix : Nat} {el : List AV} (hix : es[ix]? = some el) :
    φ.k id = k ∧ ∃ us : List Value, us.length = k ∧ VRs T eb φ el us ∧ (∀ u ∈ us, u.oneCell' = true) ∧
      ∀ j u, us[j]? = some u → w.cell? ⟨φ.blk id, φ.base id + ix * φ.k id + j, none⟩ = some u := by
  obtain ⟨o, ho, arr, et, fr, rfl, hk, hz, hb, hf, hc⟩ := h.blk id _ hid
  refine ⟨hk, ?_⟩
  obtain ⟨hl, hca⟩ := hc ix el hix
  obtain ⟨us, h1, h2, h3, h4⟩ := cellsAt_list hca
  refine ⟨us, by omega, h2, h3, fun j u hu => ?_⟩
  have := h4 j u hu
  simp only [World.cell?, ho]
  rw [hk]
  simpa using this

theorem MR.elems (h : MR T eb φ M own w) {id : Nat} {ro : Bool} {k : Nat} {es : List (List AV)} (hid : M id = some (.row ro k es)) {ix : Nat} (hix : ix < es.length) :
    φ.k id = k ∧ (es.getD ix []).length = k ∧ ∃ us : List Value, us.length = k ∧ VRs T eb φ (es.getD ix []) us ∧ (∀ u ∈ us, u.oneCell' = true) ∧
      ∀ j u, us[j]? = some u → w.cell? ⟨φ.blk id, φ.base id + ix * φ.k id + j, none⟩ = some u := by
  have hg : es[ix]? = some (es.getD ix []) := by simp [List.getD, List.getElem?_eq_getElem hix]
  obtain ⟨h1, us, h2, h3, h4⟩ := h.elem hid hg
  exact ⟨h1, by rw [h3.length, h2], us, h2, h3, h4⟩

/-- Several elements, one behind the other. -/
theorem MR.range (h : MR T eb φ M own w) {id : Nat} {ro : Bool} {k : Nat} {es : List (List AV)} (hid : M id = some (.row ro k es)) (ix : Nat) : ∀ (n : Nat), ix + n ≤ es.length →
    ∃ us : List Value, us.length = n * k ∧ VRs T eb φ ((es.drop ix).take n).flatten us ∧ (∀ u ∈ us, u.oneCell' = true) ∧
      ∀ j u, us[j]? = some u → w.cell? ⟨φ.blk id, φ.base id + ix * φ.k id + j, none⟩ = some u
  | 0, _ => ⟨[], by simp, by simp; exact .nil, by simp, by simp⟩
  | n + 1, hn => by
    obtain ⟨us, h1, h2, h3, h4⟩ := h.range hid ix n (by omega)
    obtain ⟨hk, hl, vs, g1, g2, g3, g4⟩ := h.elems hid (ix := ix + n) (by omega)
    have hsplit : (es.drop ix).take (n + 1) = (es.drop ix).take n ++ [es.getD (ix + n) []] := by
      rw [List.take_add_one]
      congr 1
      simp [List.getElem?_drop, List.getD, List.getElem?_eq_getElem (show ix + n < es.length by omega)]
    refine ⟨us ++ vs, by simp [h1, g1, Nat.add_mul], by rw [hsplit]; simpa using h2.append g2, ?_, ?_⟩
    · intro u hu
      simp at hu
      rcases hu with hu | hu
      · exact h3 u hu
      · exact g3 u hu
    · intro j u hu
      by_cases hj : j < us.length
      · rw [List.getElem?_append_left hj] at hu
        exact h4 j u hu
      · rw [List.getElem?_append_right (by omega)] at hu
        have := g4 _ u hu
        rw [h1] at this
        rw [hk] at this ⊢
        rw [← this]
        congr 2
        rw [Nat.add_mul]
        rw [h1] at hj
        omega

/-- The elements of a row, laid flat and cut again. -/
theorem MR.lens (h : MR T eb φ M own w) {id : Nat} {ro : Bool} {k : Nat} {es : List (List AV)} (hid : M id = some (.row ro k es)) : ∀ e ∈ es, e.length = k := by
  intro e he
  obtain ⟨i, hi⟩ := List.getElem?_of_mem he
  obtain ⟨o, ho, arr, et, fr, rfl, hk, hz, hb, hf, hc⟩ := h.blk id _ hid
  exact (hc i e hi).1

/-- The embedding with one block more. -/
def Emb.add (φ : Emb) (n b base k size : Nat) : Emb :=
  { dom := fun i => φ.dom i ∨ i = n, blk := fun i => if i = n then b else φ.blk i, base := fun i => if i = n then base else φ.base i,
    k := fun i => if i = n then k else φ.k i, size := fun i => if i = n then size else φ.size i }

theorem Emb.add_ext {n b base k size : Nat} (h : ¬ φ.dom n) : φ.Ext (φ.add n b base k size) := by
  have ne : ∀ i, φ.dom i → i ≠ n := fun i hi e => h (e ▸ hi)
  exact ⟨fun i hi => .inl hi, fun i hi => by simp [Emb.add, ne i hi], fun i hi => by simp [Emb.add, ne i hi], fun i hi => by simp [Emb.add, ne i hi], fun i hi => by simp [Emb.add, ne i hi]⟩

def upd (M : Nat → Option Blk) (n : Nat) (b : Option Blk) : Nat → Option Blk := fun j => if j = n then b else M j

/-- A new block. -/
theorem MR.alloc (h : MR T eb φ M own w) (hk : ∀ b, w.heap.size ≤ b → own b) {n : Nat} (hn : ¬ φ.dom n) {base k size : Nat} {o : Obj} {b : Blk}
    (hb : BR T eb (φ.add n w.heap.size base k size) n b o) : MR T eb (φ.add n w.heap.size base k size) (upd M n (some b)) own (w.alloc o) := by
  have ext := Emb.add_ext (φ := φ) (b := w.heap.size) (base := base) (k := k) (size := size) hn
  have old : ∀ id x, M id = some x → id ≠ n := fun id x hx e => hn (e ▸ h.dom id x hx)
  have lt : ∀ id x, M id = some x → φ.blk id < w.heap.size := fun id x hx => by
    obtain ⟨o, ho, _⟩ := h.blk id x hx
    exact (Array.getElem?_eq_some_iff.1 ho).1
  refine ⟨?_, ?_, ?_, ?_⟩
  · intro id x hx
    by_cases e : id = n
    · exact .inr e
    · simp [upd, e] at hx; exact .inl (h.dom id x hx)
  · intro id x hx
    by_cases e : id = n
    · subst e
      simp [upd] at hx
      subst hx
      refine ⟨o, ?_, hb⟩
      simp only [Emb.add, if_true]
      rw [show (w.alloc o).heap = w.heap.push o from rfl, Array.getElem?_push, if_pos rfl]
    · simp [upd, e] at hx
      obtain ⟨y, hy, hr⟩ := h.blk id x hx
      refine ⟨y, ?_, hr.mono ext (h.dom id x hx)⟩
      have := lt id x hx
      simp only [Emb.add, if_neg e]
      rw [show (w.alloc o).heap = w.heap.push o from rfl, Array.getElem?_push, if_neg (by omega)]
      exact hy
  · intro id x hx hr
    by_cases e : id = n
    · subst e; simp [Emb.add]; exact hk _ (Nat.le_refl _)
    · simp [upd, e] at hx; simp only [Emb.add, if_neg e]; exact h.own id x hx hr
  · intro id id' x x' hx hx' hne hr
    by_cases e : id = n
    · subst e
      have e' : id' ≠ id := fun h => hne h.symm
      simp [upd, e'] at hx'
      have := lt id' x' hx'
      simp only [Emb.add, if_neg e', if_true]
      omega
    · simp [upd, e] at hx
      by_cases e' : id' = n
      · subst e'
        have := lt id x hx
        simp only [Emb.add, if_neg e, if_true]
        omega
      · simp [upd, e'] at hx'
        simp only [Emb.add, if_neg e, if_neg e']
        exact h.inj id id' x x' hx hx' hne hr

theorem StepK.alloc (o : Obj) : StepK own w (w.alloc o) :=
  ⟨rfl, rfl, rfl, by simp, fun b hb _ => by rw [show (w.alloc o).heap = w.heap.push o from rfl, Array.getElem?_push, if_neg (by omega)]⟩
theorem StepK.drew : StepK own w w.drew := ⟨rfl, rfl, rfl, Nat.le_refl _, fun _ _ _ => rfl⟩
theorem StepK.trans {a b c : World} (h : StepK own a b) (g : StepK own b c) : StepK own a c :=
  ⟨g.os.trans h.os, g.tape.trans h.tape, g.output.trans h.output, Nat.le_trans h.size g.size, fun i hi ho => (g.kept i (Nat.lt_of_lt_of_le hi h.size) ho).trans (h.kept i hi ho)⟩
theorem MR.of_heap (h : MR T eb φ M own w) (e : w'.heap = w.heap) : MR T eb φ M own w' :=
  ⟨h.dom, fun id b hb => by rw [e]; exact h.blk id b hb, h.own, h.inj⟩
theorem MR.drew (h : MR T eb φ M own w) : MR T eb φ M own w.drew := h.of_heap rfl

/-- A block less is known. -/
theorem MR.dead (h : MR T eb φ M own w) (n : Nat) : MR T eb φ (upd M n none) own w := by
  have sub : ∀ id b, upd M n none id = some b → M id = some b := fun id b hb => by
    by_cases e : id = n <;> simp [upd, e] at hb
    exact hb
  exact ⟨fun id b hb => h.dom id b (sub id b hb), fun id b hb => h.blk id b (sub id b hb), fun id b hb => h.own id b (sub id b hb), fun id id' b b' hb hb' => h.inj id id' b b' (sub id b hb) (sub id' b' hb')⟩

/-- What a row of cells holds behind a store. -/
def arrSet (arr : Array Value) (o : Nat) : List Value → Array Value
  | [] => arr
  | v :: r => arrSet (arr.setIfInBounds o v) (o + 1) r

theorem arrSet_size (vs : List Value) : ∀ (arr : Array Value) (o : Nat), (arrSet arr o vs).size = arr.size := by
  induction vs with
  | nil => intro arr o; rfl
  | cons v r ih => intro arr o; simp [arrSet, ih]

theorem arrSet_get (vs : List Value) : ∀ (arr : Array Value) (o p : Nat), o + vs.length ≤ arr.size → (arrSet arr o vs)[p]? = if o ≤ p ∧ p < o + vs.length then vs[p - o]? else arr[p]? := by
  induction vs with
  | nil => intro arr o p h; rw [if_neg (by simp)]; rfl
  | cons v r ih =>
    intro arr o p h
    simp only [List.length_cons] at h
    rw [arrSet, ih _ _ _ (by simp; omega)]
    by_cases h1 : o + 1 ≤ p ∧ p < o + 1 + r.length
    · rw [if_pos h1, if_pos (by simp; omega), show p - o = (p - (o + 1)) + 1 by omega]; simp
    · rw [if_neg h1]
      by_cases h2 : p = o
      · subst h2; rw [if_pos (by simp)]; simp [Array.getElem?_setIfInBounds]; omega
      · rw [if_neg (by simp; omega), Array.getElem?_setIfInBounds_ne (by omega)]

theorem heap_setCells (b : Nat) (et : TypeId) (fr : Nat × Nat) : ∀ (vs : List Value) (o : Nat) (w : World) (arr : Array Value), w.heap[b]? = some (.cells arr et fr) →
    (w.setCells b o vs).heap[b]? = some (.cells (arrSet arr o vs) et fr)
  | [], _, _, _, h => h
  | v :: r, o, w, arr, h => by
    rw [World.setCells, arrSet]
    refine heap_setCells b et fr r (o + 1) _ _ ?_
    simp [World.setCell, Array.getElem?_modify, h]

theorem heap_setCells_ne (b c : Nat) (hne : c ≠ b) : ∀ (vs : List Value) (o : Nat) (w : World), (w.setCells b o vs).heap[c]? = w.heap[c]?
  | [], _, _ => rfl
  | v :: r, o, w => by
    rw [World.setCells, heap_setCells_ne b c hne r]
    simp only [World.setCell, Array.getElem?_modify]
    rw [if_neg (by omega)]

theorem setCells_size (b : Nat) : ∀ (vs : List Value) (o : Nat) (w : World), (w.setCells b o vs).heap.size = w.heap.size ∧ (w.setCells b o vs).os = w.os ∧ (w.setCells b o vs).tape = w.tape ∧ (w.setCells b o vs).output = w.output
  | [], _, _ => ⟨rfl, rfl, rfl, rfl⟩
  | v :: r, o, w => by
    rw [World.setCells]
    obtain ⟨h1, h2, h3, h4⟩ := setCells_size b r (o + 1) (w.setCell ⟨b, o, none⟩ v)
    exact ⟨h1.trans (by simp), h2, h3, h4⟩

theorem StepK.setCells {b : Nat} (hb : own b) (o : Nat) (vs : List Value) : StepK own w (w.setCells b o vs) := by
  obtain ⟨h1, h2, h3, h4⟩ := setCells_size b vs o w
  exact ⟨h2, h3, h4, by omega, fun c hc hn => heap_setCells_ne b c (fun e => hn (e ▸ hb)) vs o w⟩

/-- One block of one's own turns; nothing else does. -/
theorem MR.turn (h : MR T eb φ M own w) {n : Nat} {b b' : Blk} (hb : M n = some b) (hr : b.rw) {o' : Obj}
    (ho : w'.heap[φ.blk n]? = some o') (hne : ∀ c, c ≠ φ.blk n → w'.heap[c]? = w.heap[c]?) (hB : BR T eb φ n b' o') : MR T eb φ (upd M n (some b')) own w' := by
  refine ⟨?_, ?_, ?_, ?_⟩
  · intro id x hx
    by_cases e : id = n
    · subst e; exact h.dom _ _ hb
    · simp [upd, e] at hx; exact h.dom id x hx
  · intro id x hx
    by_cases e : id = n
    · subst e; simp [upd] at hx; subst hx; exact ⟨o', ho, hB⟩
    · simp [upd, e] at hx
      obtain ⟨y, hy, g⟩ := h.blk id x hx
      exact ⟨y, by rw [hne _ (fun c => h.inj n id b x hb hx (fun e' => e e'.symm) hr c.symm)]; exact hy, g⟩
  · intro id x hx hrx
    by_cases e : id = n
    · subst e; exact h.own _ _ hb hr
    · simp [upd, e] at hx; exact h.own id x hx hrx
  · intro id id' x x' hx hx' hn hrx
    by_cases e : id = n
    · subst e
      have e' : id' ≠ id := fun q => hn q.symm
      simp [upd, e'] at hx'
      exact h.inj id id' b x' hb hx' hn hr
    · simp [upd, e] at hx
      by_cases e' : id' = n
      · subst e'; exact h.inj id id' x b hx hb hn hrx
      · simp [upd, e'] at hx'; exact h.inj id id' x x' hx hx' hn hrx

end AH
