import Derived.Test.YtdjcpmdjodhfeaaDoorAHWp
import Derived.ArgAppend
import Derived.Orders
/-
AH: how abstract values and blocks stand for the model's.
-/
namespace AH
open Go

/-- Where the abstract blocks lie. -/
structure Emb where
  dom : Nat → Prop
  blk : Nat → Nat
  base : Nat → Nat
  k : Nat → Nat
  size : Nat → Nat

/-- What is fixed: the sentinels' variables and type, and where their texts lie. -/
structure Sys where
  P : Program
  errs : List Nat
  errT : TypeId

mutual
inductive VR (T : TypeId) (eb : Nat → Addr) (φ : Emb) : AV → Value → Prop
  | undef (u : Value) : VR T eb φ .undef u
  | bool (b : Bool) : VR T eb φ (.bool b) (.bool b)
  | int (k : IntKind) (n : Int) : VR T eb φ (.int k n) (.int k n)
  | str (s : ByteArray) : VR T eb φ (.str s) (.string s)
  | nilp : VR T eb φ .nilp (.pointer none)
  | ptr (id ix sub : Nat) (h : φ.dom id) : VR T eb φ (.ptr id ix sub) (.pointer (some ⟨φ.blk id, φ.base id + ix * φ.k id + sub, none⟩))
  | nils : VR T eb φ .nils (.slice none 0 0)
  | slc (id ix len : Nat) (cap : Option Nat) (c : Nat) (h : φ.dom id) (hc : len ≤ c) (he : ∀ c0, cap = some c0 → c = c0) (hs : φ.base id + (ix + c) * φ.k id ≤ φ.size id) :
      VR T eb φ (.slc id ix len cap) (.slice (some ⟨φ.blk id, φ.base id + ix * φ.k id, none⟩) len c)
  | slc0 (id ix : Nat) (cap : Option Nat) (ad : Option Addr) (h : φ.dom id) (he : ∀ c0, cap = some c0 → c0 = 0) : VR T eb φ (.slc id ix 0 cap) (.slice ad 0 0)
  | isl (id ix sub len c : Nat) (h : φ.dom id) (hc : len ≤ c) : VR T eb φ (.isl id ix sub len) (.slice (some ⟨φ.blk id, φ.base id + ix * φ.k id + sub, none⟩) len c)
  | nilm : VR T eb φ .nilm (.map none)
  | map (id : Nat) (h : φ.dom id) : VR T eb φ (.map id) (.map (some (φ.blk id)))
  | fn (f : FuncId) (first cap : List AV) (fs cs : Array Value) (h1 : VRs T eb φ first fs.toList) (h2 : VRs T eb φ cap cs.toList) : VR T eb φ (.fn f first cap) (.func (.func f) fs cs)
  | nilf : VR T eb φ .nilf .nilFunc
  | nili : VR T eb φ .nili .nilIface
  | ifc (t : TypeId) (v : AV) (u : Value) (h : VR T eb φ v u) : VR T eb φ (.ifc t v) (.iface t u)
  | err (i : Nat) : VR T eb φ (.err i) (.iface T (.pointer (some (eb i))))
  | agg (cs : List AV) (us : Array Value) (h : VRs T eb φ cs us.toList) (h1 : ∀ u ∈ us.toList, u.oneCell' = true) : VR T eb φ (.agg cs) (.agg us)
  | tup (cs : List AV) (us : Array Value) (h : VRs T eb φ cs us.toList) : VR T eb φ (.tup cs) (.tuple us)
inductive VRs (T : TypeId) (eb : Nat → Addr) (φ : Emb) : List AV → List Value → Prop
  | nil : VRs T eb φ [] []
  | cons (v : AV) (u : Value) (vs : List AV) (us : List Value) (h : VR T eb φ v u) (hs : VRs T eb φ vs us) : VRs T eb φ (v :: vs) (u :: us)
end

/-- What was known of the old blocks is known still. -/
structure Emb.Ext (φ φ' : Emb) : Prop where
  dom : ∀ id, φ.dom id → φ'.dom id
  blk : ∀ id, φ.dom id → φ'.blk id = φ.blk id
  base : ∀ id, φ.dom id → φ'.base id = φ.base id
  k : ∀ id, φ.dom id → φ'.k id = φ.k id
  size : ∀ id, φ.dom id → φ'.size id = φ.size id

theorem Emb.Ext.refl (φ : Emb) : φ.Ext φ := ⟨fun _ h => h, fun _ _ => rfl, fun _ _ => rfl, fun _ _ => rfl, fun _ _ => rfl⟩
theorem Emb.Ext.trans {a b c : Emb} (h : a.Ext b) (g : b.Ext c) : a.Ext c :=
  ⟨fun i hi => g.dom i (h.dom i hi), fun i hi => (g.blk i (h.dom i hi)).trans (h.blk i hi), fun i hi => (g.base i (h.dom i hi)).trans (h.base i hi),
   fun i hi => (g.k i (h.dom i hi)).trans (h.k i hi), fun i hi => (g.size i (h.dom i hi)).trans (h.size i hi)⟩

variable {T : TypeId} {eb : Nat → Addr} {φ φ' : Emb}

mutual
theorem VR.mono (e : φ.Ext φ') : ∀ {v : AV} {u : Value}, VR T eb φ v u → VR T eb φ' v u
  | _, _, .undef u => .undef u
  | _, _, .bool b => .bool b
  | _, _, .int k n => .int k n
  | _, _, .str s => .str s
  | _, _, .nilp => .nilp
  | _, _, .ptr id ix sub h => by
    rw [← e.blk id h, ← e.base id h, ← e.k id h]
    exact .ptr id ix sub (e.dom id h)
  | _, _, .nils => .nils
  | _, _, .slc id ix len cap c h hc he hs => by
    have := hs
    rw [← e.base id h, ← e.k id h, ← e.size id h] at this
    rw [← e.blk id h, ← e.base id h, ← e.k id h]
    exact .slc id ix len cap c (e.dom id h) hc he this
  | _, _, .slc0 id ix cap ad h he => .slc0 id ix cap ad (e.dom id h) he
  | _, _, .isl id ix sub len c h hc => by
    rw [← e.blk id h, ← e.base id h, ← e.k id h]
    exact .isl id ix sub len c (e.dom id h) hc
  | _, _, .nilm => .nilm
  | _, _, .map id h => by rw [← e.blk id h]; exact .map id (e.dom id h)
  | _, _, .fn f first cap fs cs h1 h2 => .fn f first cap fs cs (VRs.mono e h1) (VRs.mono e h2)
  | _, _, .nilf => .nilf
  | _, _, .nili => .nili
  | _, _, .ifc t v u h => .ifc t v u (VR.mono e h)
  | _, _, .err i => .err i
  | _, _, .agg cs us h h1 => .agg cs us (VRs.mono e h) h1
  | _, _, .tup cs us h => .tup cs us (VRs.mono e h)
theorem VRs.mono (e : φ.Ext φ') : ∀ {v : List AV} {u : List Value}, VRs T eb φ v u → VRs T eb φ' v u
  | _, _, .nil => .nil
  | _, _, .cons v u vs us h hs => .cons v u vs us (VR.mono e h) (VRs.mono e hs)
end

theorem VRs.length : ∀ {v : List AV} {u : List Value}, VRs T eb φ v u → v.length = u.length
  | _, _, .nil => rfl
  | _, _, .cons _ _ _ _ _ hs => by simp [hs.length]

theorem VRs.get : ∀ {v : List AV} {u : List Value}, VRs T eb φ v u → ∀ (i : Nat) (a : AV), v[i]? = some a → ∃ b, u[i]? = some b ∧ VR T eb φ a b
  | _, _, .nil, i, a, h => by simp at h
  | _, _, .cons v u vs us h hs, 0, a, e => by simp at e; subst e; exact ⟨u, by simp, h⟩
  | _, _, .cons v u vs us h hs, i + 1, a, e => by
    simp at e
    obtain ⟨b, hb, hr⟩ := hs.get i a e
    exact ⟨b, by simpa using hb, hr⟩

theorem VRs.get' : ∀ {v : List AV} {u : List Value}, VRs T eb φ v u → ∀ (i : Nat) (b : Value), u[i]? = some b → ∃ a, v[i]? = some a ∧ VR T eb φ a b
  | _, _, .nil, i, a, h => by simp at h
  | _, _, .cons v u vs us h hs, 0, a, e => by simp at e; subst e; exact ⟨v, by simp, h⟩
  | _, _, .cons v u vs us h hs, i + 1, a, e => by
    simp at e
    obtain ⟨b, hb, hr⟩ := hs.get' i a e
    exact ⟨b, by simpa using hb, hr⟩

theorem VRs.of_get : ∀ {v : List AV} {u : List Value}, v.length = u.length → (∀ (i : Nat) a b, v[i]? = some a → u[i]? = some b → VR T eb φ a b) → VRs T eb φ v u
  | [], [], _, _ => .nil
  | [], _ :: _, h, _ => by simp at h
  | _ :: _, [], h, _ => by simp at h
  | a :: v, b :: u, h, g => .cons _ _ _ _ (g 0 a b (by simp) (by simp)) (VRs.of_get (by simpa using h) fun i x y hx hy => g (i + 1) x y (by simpa using hx) (by simpa using hy))

theorem VRs.append : ∀ {v w : List AV} {u x : List Value}, VRs T eb φ v u → VRs T eb φ w x → VRs T eb φ (v ++ w) (u ++ x)
  | _, _, _, _, .nil, h => h
  | _, _, _, _, .cons v u vs us h hs, g => .cons v u _ _ h (hs.append g)

theorem VRs.take (n : Nat) {v : List AV} {u : List Value} (h : VRs T eb φ v u) : VRs T eb φ (v.take n) (u.take n) := by
  refine .of_get (by simp [h.length]) fun i a b ha hb => ?_
  simp only [List.getElem?_take] at ha hb
  split at ha
  · rename_i hi
    simp only [hi, if_true] at hb
    obtain ⟨c, hc, hr⟩ := h.get i a ha
    rw [hc] at hb; cases hb; exact hr
  · simp at ha

theorem VRs.drop (n : Nat) {v : List AV} {u : List Value} (h : VRs T eb φ v u) : VRs T eb φ (v.drop n) (u.drop n) := by
  refine .of_get (by simp [h.length]) fun i a b ha hb => ?_
  simp only [List.getElem?_drop] at ha hb
  obtain ⟨c, hc, hr⟩ := h.get _ a ha
  rw [hc] at hb; cases hb; exact hr

/-- The cells of related values. -/
theorem VR.cells {v : AV} {u : Value} {cs : List AV} (h : VR T eb φ v u) (hc : v.cells = some cs) : VRs T eb φ cs u.cells.toList ∧ ∀ x ∈ u.cells.toList, x.oneCell' = true := by
  cases h <;> simp [AV.cells] at hc <;> subst hc
  case agg us h h1 => exact ⟨h, h1⟩
  case ptr id ix sub h => exact ⟨.cons _ _ _ _ (.ptr id ix sub h) .nil, by simp [Value.cells, Value.oneCell']⟩
  case slc id ix len cap c h hc he hs => exact ⟨.cons _ _ _ _ (.slc id ix len cap c h hc he hs) .nil, by simp [Value.cells, Value.oneCell']⟩
  case slc0 id ix cap ad h he => exact ⟨.cons _ _ _ _ (.slc0 id ix cap ad h he) .nil, by simp [Value.cells, Value.oneCell']⟩
  case isl id ix sub len c h hc => exact ⟨.cons _ _ _ _ (.isl id ix sub len c h hc) .nil, by simp [Value.cells, Value.oneCell']⟩
  case map id h => exact ⟨.cons _ _ _ _ (.map id h) .nil, by simp [Value.cells, Value.oneCell']⟩
  case fn f first cap fs cs h1 h2 => exact ⟨.cons _ _ _ _ (.fn f first cap fs cs h1 h2) .nil, by simp [Value.cells, Value.oneCell']⟩
  case ifc t v u h => exact ⟨.cons _ _ _ _ (.ifc t v u h) .nil, by simp [Value.cells, Value.oneCell']⟩
  all_goals exact ⟨.cons _ _ _ _ (by constructor) .nil, by simp [Value.cells, Value.oneCell']⟩

/-- Cells of a block from a place on. -/
def CellsAt (T : TypeId) (eb : Nat → Addr) (φ : Emb) (arr : Array Value) (o : Nat) (e : List AV) : Prop :=
  ∀ (j : Nat) v, e[j]? = some v → ∃ u, arr[o + j]? = some u ∧ VR T eb φ v u ∧ u.oneCell' = true

inductive ER (T : TypeId) (eb : Nat → Addr) (φ : Emb) : List (AV × AV × Nat) → List MapEntry → Prop
  | nil : ER T eb φ [] []
  | cons (k v : AV) (s : Nat) (x y : Value) (es : List (AV × AV × Nat)) (us : List MapEntry) (hk : VR T eb φ k x) (hv : VR T eb φ v y) (h : ER T eb φ es us) : ER T eb φ ((k, v, s) :: es) ({ key := x, val := y, born := s } :: us)

theorem ER.mono (e : φ.Ext φ') : ∀ {es : List (AV × AV × Nat)} {us : List MapEntry}, ER T eb φ es us → ER T eb φ' es us
  | _, _, .nil => .nil
  | _, _, .cons k v s x y es us hk hv h => .cons k v s x y es us (hk.mono e) (hv.mono e) (h.mono e)

def BR (T : TypeId) (eb : Nat → Addr) (φ : Emb) (id : Nat) : Blk → Obj → Prop
  | .row ro k es, o => ∃ arr et fr, o = .cells arr et fr ∧ φ.k id = k ∧ arr.size = φ.size id ∧ φ.base id + es.length * k ≤ arr.size ∧
      (ro = false → ∀ p, p < arr.size → ¬ (fr.1 ≤ p ∧ p < fr.2)) ∧ ∀ (i : Nat) e, es[i]? = some e → e.length = k ∧ CellsAt T eb φ arr (φ.base id + i * k) e
  | .map es c, o => ∃ us, o = .map us c ∧ ER T eb φ es us.toList

def Blk.rw : Blk → Prop
  | .row ro _ _ => ro = false
  | .map _ _ => True

structure MR (T : TypeId) (eb : Nat → Addr) (φ : Emb) (M : Nat → Option Blk) (own : Nat → Prop) (w : World) : Prop where
  dom : ∀ id b, M id = some b → φ.dom id
  blk : ∀ id b, M id = some b → ∃ o, w.heap[φ.blk id]? = some o ∧ BR T eb φ id b o
  own : ∀ id b, M id = some b → b.rw → own (φ.blk id)
  inj : ∀ id id' b b', M id = some b → M id' = some b' → id ≠ id' → b.rw → φ.blk id ≠ φ.blk id'

/-- Since the world w0 nothing has turned but what is one's own. -/
structure Keeps (own : Nat → Prop) (w0 w : World) : Prop where
  os : w.os = w0.os
  tape : w.tape = w0.tape
  output : w.output = w0.output
  size : w0.heap.size ≤ w.heap.size
  kept : ∀ b, b < w0.heap.size → ¬ own b → w.heap[b]? = w0.heap[b]?
  new : ∀ b, w0.heap.size ≤ b → own b

theorem Keeps.trans {own : Nat → Prop} {a b c : World} (h : Keeps own a b) (g : Keeps own b c) : Keeps own a c :=
  ⟨g.os.trans h.os, g.tape.trans h.tape, g.output.trans h.output, Nat.le_trans h.size g.size, fun i hi ho => (g.kept i (Nat.lt_of_lt_of_le hi h.size) ho).trans (h.kept i hi ho), h.new⟩
theorem Keeps.refl {own : Nat → Prop} {w : World} (h : ∀ b, w.heap.size ≤ b → own b) : Keeps own w w := ⟨rfl, rfl, rfl, Nat.le_refl _, fun _ _ _ => rfl, h⟩
theorem Keeps.refl_of {own : Nat → Prop} {a w : World} (h : Keeps own a w) : Keeps own w w := Keeps.refl fun b hb => h.new b (Nat.le_trans h.size hb)

/-- A step from w to w': own blocks alone turn, and new ones come. -/
structure StepK (own : Nat → Prop) (w w' : World) : Prop where
  os : w'.os = w.os
  tape : w'.tape = w.tape
  output : w'.output = w.output
  size : w.heap.size ≤ w'.heap.size
  kept : ∀ b, b < w.heap.size → ¬ own b → w'.heap[b]? = w.heap[b]?

theorem Keeps.step {own : Nat → Prop} {a b c : World} (h : Keeps own a b) (g : StepK own b c) : Keeps own a c :=
  ⟨g.os.trans h.os, g.tape.trans h.tape, g.output.trans h.output, Nat.le_trans h.size g.size, fun i hi ho => (g.kept i (Nat.lt_of_lt_of_le hi h.size) ho).trans (h.kept i hi ho), h.new⟩
theorem StepK.refl {own : Nat → Prop} {w : World} : StepK own w w := ⟨rfl, rfl, rfl, Nat.le_refl _, fun _ _ _ => rfl⟩

/-- The sentinels. -/
structure Amb (S : Sys) (eb : Nat → Addr) (own : Nat → Prop) (w0 : World) : Prop where
  at_ : ∀ g ∈ S.errs, ∃ et fr, w0.heap[g]? = some (.cells #[.iface S.errT (.pointer (some (eb g)))] et fr)
  out : ∀ g ∈ S.errs, ¬ own g
  inj : ∀ g ∈ S.errs, ∀ h ∈ S.errs, eb g = eb h → g = h
  eout : ∀ g ∈ S.errs, ¬ own (eb g).block

theorem BR.mono (e : φ.Ext φ') {id : Nat} {b : Blk} {o : Obj} (hd : φ.dom id) (h : BR T eb φ id b o) : BR T eb φ' id b o := by
  cases b with
  | row ro k es =>
    obtain ⟨arr, et, fr, h1, h2, h3, h4, h5, h6⟩ := h
    refine ⟨arr, et, fr, h1, by rw [e.k id hd]; exact h2, by rw [e.size id hd]; exact h3, by rw [e.base id hd]; exact h4, h5, fun i x hx => ?_⟩
    obtain ⟨g1, g2⟩ := h6 i x hx
    refine ⟨g1, fun j v hv => ?_⟩
    obtain ⟨u, k1, k2, k3⟩ := g2 j v hv
    exact ⟨u, by rw [e.base id hd]; exact k1, k2.mono e, k3⟩
  | map es c =>
    obtain ⟨us, h1, h2⟩ := h
    exact ⟨us, h1, h2.mono e⟩

end AH
