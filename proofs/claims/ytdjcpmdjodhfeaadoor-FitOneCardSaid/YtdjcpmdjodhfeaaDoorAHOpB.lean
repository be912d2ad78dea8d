import Derived.Test.YtdjcpmdjodhfeaaDoorAHOpA
import Derived.Laws.IdiomStrings
import Derived.Laws.IdiomCopy
set_option linter.unusedSimpArgs false
namespace AH
open Go
variable {S : Sys} {eb : Nat → Addr} {φ : Emb} {M : Nat → Option Blk} {own : Nat → Prop} {w : World} {ρ : Operand → Value} {f : Opd → AV} {o : Oper} {fresh : Nat} {p : Prop} {e : Eff}
variable {T : TypeId}

theorem flatten_sing {α β : Type} (g : α → β) : ∀ l : List α, (l.map fun c => [g c]).flatten = l.map g
  | [] => rfl
  | a :: l => by simp [flatten_sing g l]

/-- The cells that a slice's elements stand for. -/
structure Row (S : Sys) (eb : Nat → Addr) (φ : Emb) (w : World) (k : Nat) (xs : List (List AV)) (base : Option Addr) (us : List Value) : Prop where
  len : us.length = xs.length * k
  vrs : VRs S.errT eb φ xs.flatten us
  one : ∀ u ∈ us, u.oneCell' = true
  at_ : (base = none ∧ xs = []) ∨ ∃ a, base = some a ∧ ∀ j u, us[j]? = some u → w.cell? (a.add j) = some u
  each : ∀ x ∈ xs, x.length = k

theorem sliceElems_run (hM : MR S.errT eb φ M own w) {k : Nat} {v : AV} {u : Value} {q : Prop} {fs : List Nat} {xs : List (List AV)} (h : sliceElems k M v = some (q, fs, xs)) (hq : q) (hv : VR S.errT eb φ v u) :
    ∃ base c us, u = .slice base xs.length c ∧ Row S eb φ w k xs base us := by
  cases v <;> simp only [sliceElems, reduceCtorEq] at h
  case nils =>
    simp only [Option.some.injEq, Prod.mk.injEq] at h
    obtain ⟨_, _, rfl⟩ := h
    have := nils_inv hv
    exact ⟨none, 0, [], this, ⟨by simp, .nil, by simp, .inl ⟨rfl, rfl⟩, by simp⟩⟩
  case slc id ix len cap =>
    split at h
    · rename_i ro kk es hrow
      split at h
      · rename_i hkk
        subst hkk
        simp only [Option.some.injEq, Prod.mk.injEq] at h
        obtain ⟨rfl, _, rfl⟩ := h
        obtain ⟨hk, hm⟩ := rowAt_k hM hrow
        obtain ⟨us, h1, h2, h3, h4⟩ := hM.range hm ix len hq
        have hlen : ((es.drop ix).take len).length = len := by simp; omega
        have heach : ∀ x ∈ (es.drop ix).take len, x.length = kk := fun x hx => hM.lens hm x (List.mem_of_mem_drop (List.mem_of_mem_take hx))
        obtain ⟨hd, hu⟩ := slc_inv hv
        rcases hu with ⟨c, rfl, _, _, _⟩ | ⟨ad, rfl, rfl, _⟩
        · refine ⟨_, c, us, by rw [hlen], ⟨by rw [hlen, h1], h2, h3, .inr ⟨_, rfl, fun j x hx => ?_⟩, heach⟩⟩
          rw [add_lit]
          exact h4 j x hx
        · refine ⟨ad, 0, [], by simp, ⟨by simp, by simp; exact .nil, by simp, ?_, by simp⟩⟩
          cases ad with
          | none => exact .inl ⟨rfl, by simp⟩
          | some a => exact .inr ⟨a, rfl, by simp⟩
      · cases h
    · cases h
  case isl id ix sub len =>
    split at h
    · rename_i ro kk es hrow
      split at h
      · rename_i hkk
        subst hkk
        simp only [Option.some.injEq, Prod.mk.injEq] at h
        obtain ⟨rfl, _, rfl⟩ := h
        obtain ⟨hk, hm⟩ := rowAt_k hM hrow
        obtain ⟨hk', hl, us, h1, h2, h3, h4⟩ := hM.elems hm hq.1
        obtain ⟨hd, c, hc, rfl⟩ := isl_inv hv
        have hlen : (((es.getD ix []).drop sub).take len).length = len := by simp only [List.length_take, List.length_drop, hl]; omega
        refine ⟨_, c, (us.drop sub).take len, by rw [List.length_map, hlen], ⟨by rw [List.length_map, hlen]; simp; omega, ?_, ?_, .inr ⟨_, rfl, ?_⟩, ?_⟩⟩
        · rw [flatten_sing, List.map_id']
          exact (h2.drop sub).take len
        · exact fun u hu => h3 u (List.mem_of_mem_drop (List.mem_of_mem_take hu))
        · intro j x hx
          rw [List.getElem?_take] at hx
          split at hx
          · rw [List.getElem?_drop] at hx
            rw [add_lit, show φ.base id + ix * φ.k id + sub + j = φ.base id + ix * φ.k id + (sub + j) by omega]
            exact h4 _ x hx
          · cases hx
        · intro x hx
          simp only [List.mem_map] at hx
          obtain ⟨y, _, rfl⟩ := hx
          rfl
      · cases h
    · cases h

theorem Row.first {k : Nat} {xs : List (List AV)} {base : Option Addr} {us : List Value} (h : Row S eb φ w k xs base us) (c l : Nat) {w' : World} (hw : w'.heap = w.heap) :
    (Builtin.firstCells k xs.length (.slice base l c)).run S.P w' = .ok us.toArray w' := by
  rcases h.at_ with ⟨rfl, rfl⟩ | ⟨a, rfl, ha⟩
  · have : us = [] := by have := h.len; simp at this; exact List.eq_nil_of_length_eq_zero (by simp [this])
    subst this
    simp [Builtin.firstCells]
  · refine run_firstCells_some (P := S.P) w' k xs.length a l c us h.len fun j v hj => ?_
    have := ha j v hj
    simpa [World.cell?, hw] using this

theorem flatten_get : ∀ {xs : List (List AV)} {k i : Nat} {el : List AV}, (∀ x ∈ xs, x.length = k) → xs[i]? = some el → (xs.flatten.drop (i * k)).take k = el
  | [], k, i, el, _, h => by simp at h
  | x :: xs, k, 0, el, hk, h => by
    simp at h
    subst h
    have := hk x (by simp)
    simp [← this]
  | x :: xs, k, i + 1, el, hk, h => by
    have hx := hk x (by simp)
    have ih := flatten_get (xs := xs) (i := i) (fun y hy => hk y (by simp [hy])) (by simpa using h)
    rw [List.flatten_cons, List.drop_append, List.drop_eq_nil_of_le (by rw [hx, Nat.add_mul]; omega), List.nil_append, hx, show (i + 1) * k - k = i * k by rw [Nat.add_mul]; omega]
    exact ih

theorem flatten_len {xs : List (List AV)} {k : Nat} (h : ∀ x ∈ xs, x.length = k) : xs.flatten.length = xs.length * k := by
  induction xs with
  | nil => simp
  | cons x xs ih =>
    simp only [List.flatten_cons, List.length_append, List.length_cons, Nat.add_mul, Nat.one_mul]
    rw [ih fun y hy => h y (by simp [hy]), h x (by simp)]
    omega

/-- A new row of elements, with room behind them. -/
theorem br_row {n k : Nat} {xs : List (List AV)} {us : List Value} {et : TypeId} {fr : Nat × Nat} {more : Array Value} (φ' : Emb) (h1 : φ'.k n = k) (h2 : φ'.base n = 0) (h3 : φ'.size n = us.length + more.size) (hl : us.length = xs.length * k)
    (hv : VRs S.errT eb φ' xs.flatten us) (hone : ∀ u ∈ us, u.oneCell' = true) (heach : ∀ x ∈ xs, x.length = k) (hfr : us.length + more.size ≤ fr.1 ∨ fr = (0, 0)) {ro : Bool} :
    BR S.errT eb φ' n (.row ro k xs) (.cells (us.toArray ++ more) et fr) := by
  refine ⟨_, et, fr, rfl, h1, by simp [h3], by rw [h2]; simp; omega, fun _ p hp => ?_, ?_⟩
  · simp at hp
    rcases hfr with h | h
    · omega
    · subst h; simp
  · intro i el hi
    refine ⟨heach el (List.mem_of_getElem? hi), ?_⟩
    rw [h2, Nat.zero_add]
    have hil := (List.getElem?_eq_some_iff.1 hi).1
    have hb : (i + 1) * k ≤ xs.length * k := Nat.mul_le_mul_right _ (by omega)
    rw [Nat.add_mul, Nat.one_mul] at hb
    refine cellsAt_of_list (us := (us.drop (i * k)).take k) ?_ (fun u hu => hone u (List.mem_of_mem_drop (List.mem_of_mem_take hu))) ?_
    · rw [← flatten_get heach hi]
      exact (hv.drop (i * k)).take k
    · intro j u hu
      rw [List.getElem?_take] at hu
      split at hu
      · rw [List.getElem?_drop] at hu
        rw [Array.getElem?_append_left (by simp; omega)]
        simpa using hu
      · cases hu

theorem s2b_ok {s d el : TypeId} (hs' : S.P.underlying s = some .string) (hd' : S.P.underlying d = some (.slice el)) (he : S.P.underlying el = some (.int .u8)) {x : Operand} {cx : Opd} (hx : cOpd x = some cx) (hρ : Rho S eb φ ρ f)
    (hM : MR S.errT eb φ M own w) (hk : ∀ b, w.heap.size ≤ b → own b) (hf : fresh ∈ e.foot → ¬ φ.dom fresh) (hs : bstep fresh M (.s2b (f cx)) = some (p, e)) (ho : o.op = .convert s d x) : OpRes S eb φ own M fresh w e ((execOp ρ o).run S.P w) := by
  have vx := hρ x cx hx
  simp only [bstep] at hs
  split at hs
  · rename_i b hb
    rw [hb] at vx
    have hv := str_inv vx
    simp only [Option.some.injEq, Prod.mk.injEq] at hs
    obtain ⟨_, rfl⟩ := hs
    have hrun := run_bytes_of_string (P := S.P) w s d el b hs' hd' he
    have hge := grownCap_ge w b.size 0 el
    have hsz : b.data.size = b.size := rfl
    refine new_run hM hk (hf (by simp)) (w1 := w.drew) rfl .drew (k := 1) (size := b.data.size + (grownCap w b.size 0 el - b.size)) (v := .slc fresh 0 b.size none) (u := .slice (some ⟨w.heap.size, 0, none⟩) b.size (grownCap w b.size 0 el)) (by simp)
      (ob := .cells (bytesRow b (grownCap w b.size 0 el)) el ((bytesRow b (grownCap w b.size 0 el)).size, (bytesRow b (grownCap w b.size 0 el)).size + 1)) ?_ ?_ ?_
    · have hrow : bytesRow b (grownCap w b.size 0 el) = ((b.data.toList.map fun c => Value.int .u8 c.toNat)).toArray ++ Array.replicate (grownCap w b.size 0 el - b.size) (.int .u8 0) := by
        rw [bytesRow]; congr 1; apply Array.ext'; simp
      rw [hrow]
      refine br_row (S := S) _ (by simp [Emb.add]) (by simp [Emb.add]) (by simp [Emb.add]) (by simp) ?_ ?_ ?_ (.inl (by simp))
      · rw [flatten_sing]
        refine .of_get (by simp) fun i a c ha hc => ?_
        simp only [List.getElem?_map, Option.map_eq_some_iff] at ha hc
        obtain ⟨q, hq, rfl⟩ := ha
        obtain ⟨q', hq', rfl⟩ := hc
        rw [hq] at hq'
        cases hq'
        exact .int _ _
      · intro u hu
        simp at hu
        obtain ⟨q, _, rfl⟩ := hu
        rfl
      · intro x hx
        simp at hx
        obtain ⟨q, _, rfl⟩ := hx
        rfl
    · have := VR.slc (T := S.errT) (eb := eb) (φ := φ.add fresh w.heap.size 0 1 (b.data.size + (grownCap w b.size 0 el - b.size))) fresh 0 b.size none (grownCap w b.size 0 el) (.inr rfl) hge (by simp) (by simp [Emb.add]; omega)
      simpa [Emb.add] using this
    · simp only [execOp, ho, hv, Sem.run_bind, hrun, Result.andThen_ok, Sem.run_pure]
  · cases hs

theorem bytesOf_ints : ∀ {es : List (List AV)} {l : List UInt8}, bytesOf es = some l → ∃ ns : List Int, es = ns.map (fun n => [AV.int .u8 n]) ∧ l = ns.map fun n => UInt8.ofNat n.toNat
  | [], l, h => by simp [bytesOf] at h; subst h; exact ⟨[], rfl, rfl⟩
  | x :: r, l, h => by
    unfold bytesOf at h
    split at h
    · rename_i heq; cases heq
    · rename_i n r' heq
      cases heq
      simp only [Option.map_eq_some_iff] at h
      obtain ⟨l', h1, rfl⟩ := h
      obtain ⟨ns, rfl, rfl⟩ := bytesOf_ints h1
      exact ⟨n :: ns, rfl, rfl⟩
    · cases h

theorem foldl_push (ns : List Int) : ∀ r : ByteArray, ns.foldl (fun r n => r.push (UInt8.ofNat n.toNat)) r = ⟨r.data ++ (ns.map fun n => UInt8.ofNat n.toNat).toArray⟩ := by
  induction ns with
  | nil => intro r; simp
  | cons n ns ih =>
    intro r
    rw [List.foldl_cons, ih]
    simp [ByteArray.push]

theorem ints_vrs : ∀ {ns : List Int} {us : List Value}, VRs S.errT eb φ (ns.map (AV.int .u8)) us → us = ns.map (Value.int .u8)
  | [], _, h => by cases h; rfl
  | n :: ns, _, h => by
    cases h
    rename_i u us h1 h2
    rw [int_inv h1, ints_vrs h2]
    rfl

theorem b2s_ok {s d el : TypeId} (hs' : S.P.underlying s = some (.slice el)) (hd' : S.P.underlying d = some .string) (he : S.P.underlying el = some (.int .u8)) {x : Operand} {cx : Opd} (hx : cOpd x = some cx) (hρ : Rho S eb φ ρ f)
    (hM : MR S.errT eb φ M own w) (hs : bstep fresh M (.b2s (f cx)) = some (p, e)) (hp : p) (ho : o.op = .convert s d x) : OpRes S eb φ own M fresh w e ((execOp ρ o).run S.P w) := by
  have vx := hρ x cx hx
  simp only [bstep] at hs
  split at hs
  · rename_i q fs es hse
    split at hs
    · rename_i l hl
      simp only [Option.some.injEq, Prod.mk.injEq] at hs
      obtain ⟨rfl, rfl⟩ := hs
      obtain ⟨ns, rfl, rfl⟩ := bytesOf_ints hl
      obtain ⟨base, c, us, hu, hr⟩ := sliceElems_run hM hse hp vx
      have hv := hr.vrs
      rw [flatten_sing] at hv
      have hus := ints_vrs hv
      have hlen := hr.len
      refine .quiet hM (u := .string ⟨(ns.map fun n => UInt8.ofNat n.toNat).toArray⟩) ?_ (.str _)
      have hrun : (Conv.bytesToString (.slice base ns.length c)).run S.P w = .ok (.string ⟨(ns.map fun n => UInt8.ofNat n.toNat).toArray⟩) w := by
        rcases hr.at_ with ⟨rfl, hnil⟩ | ⟨a, rfl, ha⟩
        · have : ns = [] := by simpa using hnil
          subst this
          simp [Conv.bytesToString]
          rfl
        · have hload : (loadCells a ns.length).run S.P w = .ok (ns.map (Value.int .u8)).toArray w := by
            have := run_loadCells_list (P := S.P) w a us ha
            rw [hus] at this
            simpa using this
          rw [run_bytesToString (P := S.P) w a ns.length c ns hload, foldl_push, show ByteArray.empty.data = #[] from rfl]
          simp
      rw [List.length_map] at hu
      have hcv := run_convert_bytes_string (P := S.P) w s d el base ns.length c hs' he hd'
      simp only [execOp, ho, hu, Sem.run_bind, hcv, hrun, Result.andThen_ok, Sem.run_pure]
    · cases hs
  · cases hs

end AH
