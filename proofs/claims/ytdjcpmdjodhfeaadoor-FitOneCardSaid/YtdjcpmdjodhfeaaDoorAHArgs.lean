import Derived.Test.YtdjcpmdjodhfeaaDoorAHRow
/-
AH: a law's arguments: slices whose elements are flat.
-/
set_option linter.unusedSimpArgs false
namespace AH
open Go Go.ChangeShapes Go.WideShapes Go.RowKit

inductive SH where
  | bool | int (k : IntKind) | str
  deriving DecidableEq, Inhabited

def shapeFs (g : TypeId → Option (List SH)) : List Field → Nat → Option (List SH)
  | [], _ => some []
  | f :: r, off => if f.offset ≠ off then none else match g f.type with
    | some ks => (shapeFs g r (off + ks.length)).map (ks ++ ·)
    | none => none

/-- The cells of a type that is made of whole numbers, bools and texts alone. -/
def shapeT (P : Program) : Nat → TypeId → Option (List SH)
  | 0, _ => none
  | d + 1, t => match P.underlying t with
    | some .bool => some [.bool]
    | some (.int k) => some [.int k]
    | some .string => some [.str]
    | some (.struct fs) => match shapeFs (fun t => match shapeT P d t with
        | some ks => if P.cellsOf t = ks.length then some ks else none
        | none => none) fs.toList 0 with
      | some ks => if P.cellsOf t = ks.length then some ks else none
      | none => none
    | some (.array n e) => match shapeT P d e with
      | some ks => if P.cellsOf e = ks.length ∧ P.cellsOf t = n * ks.length then some (List.replicate n ks).flatten else none
      | none => none
    | _ => none

def shOK : SH → AV → Prop
  | .bool, v => ∃ b, v = .bool b
  | .int k, v => ∃ n, v = .int k n ∧ (Lit.int k n).wf = true
  | .str, v => ∃ s : ByteArray, v = .str s ∧ s.size ≤ maxLen

def shsOK : List SH → List AV → Prop
  | [], [] => True
  | k :: ks, v :: vs => shOK k v ∧ shsOK ks vs
  | _, _ => False

def shV : SH → Value → Prop
  | .bool, v => ∃ b, v = .bool b
  | .int k, v => ∃ n, v = .int k n ∧ (Lit.int k n).wf = true
  | .str, v => ∃ s : ByteArray, v = .string s ∧ s.size ≤ maxLen

def shsV : List SH → List Value → Prop
  | [], [] => True
  | k :: ks, v :: vs => shV k v ∧ shsV ks vs
  | _, _ => False

theorem shsV_len : ∀ {ks : List SH} {vs : List Value}, shsV ks vs → ks.length = vs.length
  | [], [], _ => rfl
  | [], _ :: _, h => h.elim
  | _ :: _, [], h => h.elim
  | _ :: _, _ :: _, h => by simp [shsV_len h.2]

theorem shsV_append : ∀ {k1 k2 : List SH} {v1 v2 : List Value}, shsV k1 v1 → shsV k2 v2 → shsV (k1 ++ k2) (v1 ++ v2)
  | [], _, [], _, _, h => h
  | [], _, _ :: _, _, h, _ => h.elim
  | _ :: _, _, [], _, h, _ => h.elim
  | _ :: _, _, _ :: _, _, h, g => ⟨h.1, shsV_append h.2 g⟩

/-- The abstract cells of such cells. -/
theorem shsV_av : ∀ {ks : List SH} {vs : List Value}, shsV ks vs → ∃ as : List AV, shsOK ks as ∧ (∀ T eb φ, VRs T eb φ as vs) ∧ ∀ v ∈ vs, v.oneCell' = true
  | [], [], _ => ⟨[], trivial, fun _ _ _ => .nil, by simp⟩
  | [], _ :: _, h => h.elim
  | _ :: _, [], h => h.elim
  | k :: ks, v :: vs, h => by
    obtain ⟨as, h1, h2, h3⟩ := shsV_av h.2
    obtain ⟨a, g1, g2, g3⟩ : ∃ a, shOK k a ∧ (∀ T eb φ, VR T eb φ a v) ∧ v.oneCell' = true := by
      have hk := h.1
      cases k with
      | bool => obtain ⟨b, rfl⟩ := hk; exact ⟨.bool b, ⟨b, rfl⟩, fun _ _ _ => .bool b, rfl⟩
      | int k => obtain ⟨n, rfl, hw⟩ := hk; exact ⟨.int k n, ⟨n, rfl, hw⟩, fun _ _ _ => .int k n, rfl⟩
      | str => obtain ⟨s, rfl, hw⟩ := hk; exact ⟨.str s, ⟨s, rfl, hw⟩, fun _ _ _ => .str s, rfl⟩
    refine ⟨a :: as, ⟨g1, h1⟩, fun T eb φ => .cons _ _ _ _ (g2 T eb φ) (h2 T eb φ), ?_⟩
    intro x hx
    rcases List.mem_cons.1 hx with rfl | hx
    · exact g3
    · exact h3 x hx

section
variable {H : Type} {enc : TypeId × Value → H} {P : Program} {w : World} {base : Nat} {spare : Nat → Bool} {held : Bool}

/-- What a reading of such a type says of its cells. -/
theorem trod_shape : ∀ (d : Nat) (t : TypeId) (ks : List SH), shapeT P d t = some ks → ∀ {fuel : Nat} {cs : List Value} {x : DataW H × List MemPlace}, DataW.trod enc P w base spare held fuel t cs = some x → shsV ks cs
  | 0, _, _, h, _, _, _, _ => by simp [shapeT] at h
  | d + 1, t, ks, h, fuel, cs, x, hx => by
    have ih := fun t ks h => @trod_shape d t ks h
    simp only [shapeT] at h
    split at h
    · rename_i hu
      simp only [Option.some.injEq] at h; subst h
      obtain ⟨b, rfl, _⟩ := DataW.trod_bool hu hx
      exact ⟨⟨b, rfl⟩, trivial⟩
    · rename_i k hu
      simp only [Option.some.injEq] at h; subst h
      obtain ⟨n, rfl, _, hw⟩ := DataW.trod_int hu hx
      exact ⟨⟨n, rfl, hw⟩, trivial⟩
    · rename_i hu
      simp only [Option.some.injEq] at h; subst h
      obtain ⟨s, rfl, _, hw⟩ := DataW.trod_string hu hx
      exact ⟨⟨s, rfl, hw⟩, trivial⟩
    · rename_i fs hu
      split at h
      · rename_i ks' hfs
        split at h
        · rename_i hc
          simp only [Option.some.injEq] at h; subst h
          obtain ⟨xs, n, _, _, hl, hlen, hf⟩ := DataW.trod_struct hu hx
          have key : ∀ (l : List Field) (off i : Nat) (ks : List SH), shapeFs (fun t => match shapeT P d t with
              | some ks => if P.cellsOf t = ks.length then some ks else none
              | none => none) l off = some ks → (∀ j : Nat, l[j]? = fs[i + j]?) → off + ks.length ≤ cs.length → shsV ks ((cs.drop off).take ks.length) := by
            intro l
            induction l with
            | nil =>
              intro off i ks h _ _
              simp only [shapeFs, Option.some.injEq] at h
              subst h
              simp; trivial
            | cons fl l ihl =>
              intro off i ks h hg hle
              simp only [shapeFs] at h
              split at h
              · cases h
              rename_i hoff
              simp only [ne_eq, Decidable.not_not] at hoff
              subst hoff
              split at h
              · rename_i k1 hk1
                simp only [Option.map_eq_some_iff] at h
                obtain ⟨k2, hk2, rfl⟩ := h
                simp only [List.length_append] at hle
                split at hk1
                · rename_i k1' hk1'
                  split at hk1
                  · rename_i hce
                    simp only [Option.some.injEq] at hk1; subst hk1
                    have h0 : fs[i]? = some fl := by have := hg 0; simpa using this.symm
                    have hr := hf i fl h0
                    have hi : i < xs.length := by rw [hlen]; exact (Array.getElem?_eq_some_iff.1 h0).1
                    rw [List.getElem?_eq_getElem hi] at hr
                    have h1 := ih _ _ hk1' hr
                    rw [hce] at h1
                    have h2 := ihl (fl.offset + k1'.length) (i + 1) k2 hk2 (fun j => by have := hg (j + 1); rw [List.getElem?_cons_succ] at this; rw [this]; congr 1; omega) (by omega)
                    have := shsV_append h1 h2
                    rw [List.length_append, List.take_add, List.drop_drop]
                    exact this
                  · cases hk1
                · cases hk1
              · cases h
          have := key fs.toList 0 0 ks' hfs (by simp) (by omega)
          rw [List.drop_zero, List.take_of_length_le (by omega)] at this
          exact this
        · cases h
      · cases h
    · rename_i n e hu
      split at h
      · rename_i k1 hk1
        split at h
        · rename_i hc
          simp only [Option.some.injEq] at h; subst h
          obtain ⟨xs, m, _, _, hl, hlen, hf⟩ := DataW.trod_array hu hx
          have key : ∀ (c i : Nat), i + c = n → shsV (List.replicate c k1).flatten (cs.drop (i * k1.length)) := by
            intro c
            induction c with
            | zero =>
              intro i hi
              have : cs.drop (i * k1.length) = [] := List.drop_eq_nil_of_le (by rw [hl, hc.2, show i = n by omega]; exact Nat.le_refl _)
              rw [this]; simp; trivial
            | succ c ihc =>
              intro i hi
              have hr := hf i (by omega)
              rw [List.getElem?_eq_getElem (show i < xs.length by omega)] at hr
              have h1 := ih _ _ hk1 hr
              have h2 := ihc (i + 1) (by omega)
              rw [hc.1] at h1
              have := shsV_append h1 h2
              rw [List.replicate_succ, List.flatten_cons]
              rw [show (i + 1) * k1.length = i * k1.length + k1.length by rw [Nat.add_mul, Nat.one_mul], ← List.drop_drop, List.take_append_drop] at this
              exact this
          have := key n 0 (by omega)
          simpa using this
        · cases h
      · cases h
    · cases h
end


section
variable {H : Type} {enc : TypeId × Value → H} {P : Program} {W : World} {sp : Nat → Bool} {held : Bool}

/-- How an argument that is a slice of flat elements lies: whatever it is, nil too, it stands for a row that is only read. -/
structure SliceAt (W : World) (T : TypeId) (eb : Nat → Addr) (ks : List SH) (v : Value) (es : List (List AV)) (b off size : Nat) : Prop where
  each : ∀ el ∈ es, shsOK ks el
  len : es.length ≤ maxLen
  there : ∃ o, W.heap[b]? = some o ∧ ∀ (φ : Emb) (id : Nat), φ.dom id → φ.blk id = b → φ.base id = off → φ.k id = ks.length → φ.size id = size →
    VR T eb φ (.slc id 0 es.length none) v ∧ BR T eb φ id (.row true ks.length es) o

theorem shsOK_len : ∀ {ks : List SH} {as : List AV}, shsOK ks as → ks.length = as.length
  | [], [], _ => rfl
  | [], _ :: _, h => h.elim
  | _ :: _, [], h => h.elim
  | _ :: _, _ :: _, h => by simp [shsOK_len h.2]

theorem cell_some {a : Addr} {v : Value} (h : W.cell? a = some v) : ∃ arr et fr, W.heap[a.block]? = some (.cells arr et fr) ∧ a.spot = none ∧ arr[a.off]? = some v := by
  unfold World.cell? at h
  split at h
  · rename_i c et fr hb
    split at h
    · cases h
    · rename_i hs
      exact ⟨c, et, fr, hb, by simpa using hs, h⟩
  · cases h

theorem okWide_slice {t e : TypeId} {r : Reach} {b0 : Nat} {a : Addr} {len cap : Nat} (ht : P.underlying t = some (.slice e)) (h : Value.okWide P W r b0 t (.slice (some a) len cap)) : ∃ arr et fr, W.heap[a.block]? = some (.cells arr et fr) := by
  simp only [Value.okWide, ht, Cell.okWide, Cell.ok] at h
  obtain ⟨_, _, _, _, row, cells, hs, _⟩ := h
  unfold World.shape? at hs
  split at hs
  · rename_i c t fr hb; exact ⟨_, _, _, hb⟩
  · cases hs

theorem open_slice {t e : TypeId} {ks : List SH} {r : Reach} {b0 : Nat} {v : Value} {d : DataW H} {ps : List MemPlace} (T : TypeId) (eb : Nat → Addr) (ht : P.underlying t = some (.slice e)) (hk : shapeT P 8 e = some ks) (hc : P.cellsOf e = ks.length) (hpos : 0 < ks.length)
    (hany : ∃ (b : Nat) (arr : Array Value) (et : TypeId) (fr : Nat × Nat), W.heap[b]? = some (Obj.cells arr et fr)) (hval : Value.okWide P W r b0 t v) (hd : DataW.Trod enc P W 0 (fun _ => true) held t v d ps) :
    ∃ es b off size, SliceAt W T eb ks v es b off size := by
  obtain ⟨fuel, hf⟩ := hd
  have empty : ∀ (ad : Option Addr) (b : Nat) (arr : Array Value) (et : TypeId) (fr : Nat × Nat), W.heap[b]? = some (Obj.cells arr et fr) → SliceAt W T eb ks (.slice ad 0 0) [] b 0 arr.size := fun ad b arr et fr hb =>
    ⟨by simp, by simp, _, hb, fun φ id h1 h2 h3 h4 h5 => ⟨.slc0 id 0 none ad h1 (by simp), arr, et, fr, rfl, h4, h5.symm, by simp [h3], by simp, by simp⟩⟩
  rcases DataW.trod_slice ht hf with ⟨hcs, _⟩ | ⟨a, len, cap, elems, rest, n, _, hcs, _, _, hlc, hcm, hel, heach, hsp, _⟩
  · obtain ⟨b, arr, et, fr, hb⟩ := hany
    have hv : v = .slice none 0 0 := by
      cases v with
      | agg cs => simp [Value.okWide, ht, Cell.okWide, Cell.ok] at hval
      | _ => simp_all [Value.cells]
    subst hv
    exact ⟨[], b, 0, arr.size, empty none b arr et fr hb⟩
  · have hv : v = .slice (some a) len cap := by
      cases v with
      | agg cs => simp [Value.okWide, ht, Cell.okWide, Cell.ok] at hval
      | _ => simp_all [Value.cells]
    subst hv
    obtain ⟨arr, et, fr, hb⟩ := okWide_slice ht hval
    obtain ⟨hrl, hrest⟩ := hsp rfl
    by_cases hcap : cap = 0
    · subst hcap
      have hl0 : len = 0 := by omega
      subst hl0
      exact ⟨[], a.block, 0, arr.size, empty (some a) a.block arr et fr hb⟩
    · -- every element is there
      have get : ∀ i, i < cap → ∃ cs, W.cells? 0 (a.add (i * P.cellsOf e)) (P.cellsOf e) = some cs ∧ shsV ks cs := by
        intro i hi
        by_cases hil : i < len
        · have h1 := heach i hil
          rw [List.getElem?_eq_getElem (show i < elems.length by omega), Option.bind_eq_some_iff] at h1
          obtain ⟨cs, h2, h3⟩ := h1
          exact ⟨cs, h2, trod_shape 8 e ks hk h3⟩
        · have h1 := hrest (i - len) (by omega)
          rw [show len + (i - len) = i by omega, List.getElem?_eq_getElem (show i - len < rest.length by omega), Option.bind_eq_some_iff] at h1
          obtain ⟨cs, h2, h3⟩ := h1
          exact ⟨cs, h2, trod_shape 8 e ks hk h3⟩
      have spot : a.spot = none := by
        obtain ⟨cs, h1, h2⟩ := get 0 (by omega)
        have h3 := (World.cells?_some h1).2.2 0 (by have := shsV_len h2; omega)
        simp only [Nat.zero_mul, Addr.add, if_true] at h3
        rw [List.getElem?_eq_getElem (show 0 < cs.length by have := shsV_len h2; omega)] at h3
        obtain ⟨_, _, _, _, h4, _⟩ := cell_some h3
        exact h4
      obtain ⟨bl, off, sp'⟩ := a
      simp only at spot hb
      subst spot
      have at_ : ∀ i j : Nat, i < cap → j < ks.length → ∃ cs : List Value, shsV ks cs ∧ W.cells? 0 (⟨bl, off + i * ks.length, none⟩) ks.length = some cs := by
        intro i j hi hj
        obtain ⟨cs, h1, h2⟩ := get i hi
        rw [hc, add_lit] at h1
        exact ⟨cs, h2, h1⟩
      have cellsAt : ∀ i, i < cap → ∃ cs : List Value, shsV ks cs ∧ cs.length = ks.length ∧ ∀ j u, cs[j]? = some u → arr[off + i * ks.length + j]? = some u := by
        intro i hi
        obtain ⟨cs, h1, h2⟩ := at_ i 0 hi hpos
        refine ⟨cs, h1, (shsV_len h1).symm, fun j u hj => ?_⟩
        have hjl := (List.getElem?_eq_some_iff.1 hj).1
        have h3 := (World.cells?_some h2).2.2 j (by have := shsV_len h1; omega)
        rw [add_lit, List.getElem?_eq_getElem hjl] at h3
        obtain ⟨arr', et', fr', g1, _, g2⟩ := cell_some h3
        simp only at g1 g2
        rw [hb] at g1; cases g1
        rw [g2, ← hj, List.getElem?_eq_getElem hjl]
      have hfit : off + cap * ks.length ≤ arr.size := by
        obtain ⟨cs, h1, h2, h3⟩ := cellsAt (cap - 1) (by omega)
        have hu : cs[ks.length - 1]? = some (cs[ks.length - 1]'(by omega)) := List.getElem?_eq_getElem _
        have := (Array.getElem?_eq_some_iff.1 (h3 _ _ hu)).1
        have e1 : cap * ks.length = (cap - 1) * ks.length + ks.length := by rw [← Nat.succ_mul]; congr 1; omega
        omega
      -- the abstract elements
      have build : ∀ m, m ≤ cap → ∃ es : List (List AV), es.length = m ∧ (∀ el ∈ es, shsOK ks el) ∧ ∀ (i : Nat) el, es[i]? = some el → el.length = ks.length ∧ ∀ φ, CellsAt T eb φ arr (off + i * ks.length) el := by
        intro m
        induction m with
        | zero => intro _; exact ⟨[], rfl, by simp, by simp⟩
        | succ m ih =>
          intro hm
          obtain ⟨es, h1, h2, h3⟩ := ih (by omega)
          obtain ⟨cs, g1, g2, g3⟩ := cellsAt m (by omega)
          obtain ⟨as, k1, k2, k3⟩ := shsV_av g1
          refine ⟨es ++ [as], by simp [h1], ?_, ?_⟩
          · intro el hel'
            rcases List.mem_append.1 hel' with q | q
            · exact h2 el q
            · simp only [List.mem_singleton] at q; subst q; exact k1
          · intro i el hi
            by_cases him : i < es.length
            · rw [List.getElem?_append_left him] at hi
              exact h3 i el hi
            · rw [List.getElem?_append_right (by omega)] at hi
              have hi0 : i = m := by
                have := (List.getElem?_eq_some_iff.1 hi).1
                simp at this; omega
              subst hi0
              rw [h1, Nat.sub_self] at hi
              simp at hi
              subst hi
              exact ⟨(shsOK_len k1).symm, fun φ => cellsAt_of_list (k2 T eb φ) k3 g3⟩
      obtain ⟨es, h1, h2, h3⟩ := build len hlc
      refine ⟨es, bl, off, arr.size, h2, by omega, _, hb, fun φ id d1 d2 d3 d4 d5 => ⟨?_, arr, et, fr, rfl, d4, d5.symm, ?_, by simp, fun i el hi => ?_⟩⟩
      · have := VR.slc (T := T) (eb := eb) (φ := φ) id 0 es.length none cap d1 (by omega) (by simp) (by rw [d3, d4, d5, Nat.zero_add]; exact hfit)
        rw [d2, d3, d4, Nat.zero_mul, Nat.add_zero, h1] at this
        rw [h1]
        exact this
      · have : es.length * ks.length ≤ cap * ks.length := Nat.mul_le_mul_right _ (by omega)
        rw [d3]; omega
      · obtain ⟨g1, g2⟩ := h3 i el hi
        exact ⟨g1, by rw [d3]; exact g2 φ⟩
end

end AH
