import Derived.Test.YtcmnchmkoghfdaaDoorFrmFC05h
import Derived.Test.YtcmnchmkoghfdaaDoorFJoinC05h
import Derived.Test.YtcmnchmkoghfdaaDoorSfWC05h
import Derived.Test.YtcmnchmkoghfdaaDoorAHd
import Derived.WalkKit
open Go Go.RowKit
set_option linter.unusedSimpArgs false
set_option maxRecDepth 100000
namespace Go.Proofs.YtcmnchmkoghfdaaDoor.C05h
/- frame.joined: what its loop gives, and what AH's own soundness says of its region. -/
def badJ (l : List ByteArray) (seq : Int) (n i : Nat) : Bool := match l[i]? with
  | some s => ((s.size : Int) != 64) || !((s.extract 56 s.size).toList == (endS seq i n).toList)
  | none => true
/-- From a place on: what is joined, and the place of what is wrong. -/
def joinS (l : List ByteArray) (seq : Int) (n : Nat) : Nat → Nat → ByteArray → ByteArray × Int
  | 0, _, acc => (acc, -1)
  | m + 1, i, acc => bif badJ l seq n i then (⟨#[]⟩, (i : Int)) else joinS l seq n m (i + 1) (acc ++ ((l[i]?).getD ⟨#[]⟩).extract 0 56)
theorem cons_len {α : Type} {n : Nat} {l : List α} (h : l.length = n + 1) : ∃ x r, l = x :: r ∧ r.length = n := by
  cases l with
  | nil => cases h
  | cons x r => exact ⟨x, r, rfl, by simpa using h⟩
theorem arr47 (a : Array Value) (h : a.size = 47) : ∃ x0 x1 x2 x3 x4 x5 x6 x7 x8 x9 x10 x11 x12 x13 x14 x15 x16 x17 x18 x19 x20 x21 x22 x23 x24 x25 x26 x27 x28 x29 x30 x31 x32 x33 x34 x35 x36 x37 x38 x39 x40 x41 x42 x43 x44 x45 x46 : Value, a = #[x0, x1, x2, x3, x4, x5, x6, x7, x8, x9, x10, x11, x12, x13, x14, x15, x16, x17, x18, x19, x20, x21, x22, x23, x24, x25, x26, x27, x28, x29, x30, x31, x32, x33, x34, x35, x36, x37, x38, x39, x40, x41, x42, x43, x44, x45, x46] := by
  obtain ⟨l0⟩ := a
  have h0 : l0.length = 47 := h
  obtain ⟨x0, l1, rfl, h1⟩ := cons_len h0
  obtain ⟨x1, l2, rfl, h2⟩ := cons_len h1
  obtain ⟨x2, l3, rfl, h3⟩ := cons_len h2
  obtain ⟨x3, l4, rfl, h4⟩ := cons_len h3
  obtain ⟨x4, l5, rfl, h5⟩ := cons_len h4
  obtain ⟨x5, l6, rfl, h6⟩ := cons_len h5
  obtain ⟨x6, l7, rfl, h7⟩ := cons_len h6
  obtain ⟨x7, l8, rfl, h8⟩ := cons_len h7
  obtain ⟨x8, l9, rfl, h9⟩ := cons_len h8
  obtain ⟨x9, l10, rfl, h10⟩ := cons_len h9
  obtain ⟨x10, l11, rfl, h11⟩ := cons_len h10
  obtain ⟨x11, l12, rfl, h12⟩ := cons_len h11
  obtain ⟨x12, l13, rfl, h13⟩ := cons_len h12
  obtain ⟨x13, l14, rfl, h14⟩ := cons_len h13
  obtain ⟨x14, l15, rfl, h15⟩ := cons_len h14
  obtain ⟨x15, l16, rfl, h16⟩ := cons_len h15
  obtain ⟨x16, l17, rfl, h17⟩ := cons_len h16
  obtain ⟨x17, l18, rfl, h18⟩ := cons_len h17
  obtain ⟨x18, l19, rfl, h19⟩ := cons_len h18
  obtain ⟨x19, l20, rfl, h20⟩ := cons_len h19
  obtain ⟨x20, l21, rfl, h21⟩ := cons_len h20
  obtain ⟨x21, l22, rfl, h22⟩ := cons_len h21
  obtain ⟨x22, l23, rfl, h23⟩ := cons_len h22
  obtain ⟨x23, l24, rfl, h24⟩ := cons_len h23
  obtain ⟨x24, l25, rfl, h25⟩ := cons_len h24
  obtain ⟨x25, l26, rfl, h26⟩ := cons_len h25
  obtain ⟨x26, l27, rfl, h27⟩ := cons_len h26
  obtain ⟨x27, l28, rfl, h28⟩ := cons_len h27
  obtain ⟨x28, l29, rfl, h29⟩ := cons_len h28
  obtain ⟨x29, l30, rfl, h30⟩ := cons_len h29
  obtain ⟨x30, l31, rfl, h31⟩ := cons_len h30
  obtain ⟨x31, l32, rfl, h32⟩ := cons_len h31
  obtain ⟨x32, l33, rfl, h33⟩ := cons_len h32
  obtain ⟨x33, l34, rfl, h34⟩ := cons_len h33
  obtain ⟨x34, l35, rfl, h35⟩ := cons_len h34
  obtain ⟨x35, l36, rfl, h36⟩ := cons_len h35
  obtain ⟨x36, l37, rfl, h37⟩ := cons_len h36
  obtain ⟨x37, l38, rfl, h38⟩ := cons_len h37
  obtain ⟨x38, l39, rfl, h39⟩ := cons_len h38
  obtain ⟨x39, l40, rfl, h40⟩ := cons_len h39
  obtain ⟨x40, l41, rfl, h41⟩ := cons_len h40
  obtain ⟨x41, l42, rfl, h42⟩ := cons_len h41
  obtain ⟨x42, l43, rfl, h43⟩ := cons_len h42
  obtain ⟨x43, l44, rfl, h44⟩ := cons_len h43
  obtain ⟨x44, l45, rfl, h45⟩ := cons_len h44
  obtain ⟨x45, l46, rfl, h46⟩ := cons_len h45
  obtain ⟨x46, l47, rfl, h47⟩ := cons_len h46
  obtain rfl := List.eq_nil_of_length_eq_zero h47
  exact ⟨x0, x1, x2, x3, x4, x5, x6, x7, x8, x9, x10, x11, x12, x13, x14, x15, x16, x17, x18, x19, x20, x21, x22, x23, x24, x25, x26, x27, x28, x29, x30, x31, x32, x33, x34, x35, x36, x37, x38, x39, x40, x41, x42, x43, x44, x45, x46, rfl⟩
theorem isBld_keep {T e : TypeId} {B b : Nat} {bs : List Value} {w w' : World} (h : Lib.IsBuilderF T e B b bs w) (hk : ∀ k, k < w.heap.size → w'.heap[k]? = w.heap[k]?) : Lib.IsBuilderF T e B b bs w' := by
  have key : ∀ p, Lib.BuilderAtF T e B b p bs w → Lib.BuilderAtF T e B b p bs w' := by
    rintro p ⟨hB, v, hb, ⟨h1, h2⟩, hne⟩
    refine ⟨hB, v, (hk b (Array.getElem?_eq_some_iff.1 hb).1).trans hb, ⟨h1, ?_⟩, hne⟩
    rcases h2 with hn | ⟨g, cap, cur, fz, hv, hbg, hg, rest⟩
    · exact .inl hn
    · exact .inr ⟨g, cap, cur, fz, hv, hbg, (hk g (Array.getElem?_eq_some_iff.1 hg).1).trans hg, rest⟩
  exact h.elim (fun x => .inl (key _ x)) (fun x => .inr (key _ x))
open AH
theorem okJn : CtxOK S0 (ctxU S0 [(43, endT)] []) := ctxU_ok ⟨endT_ok, trivial⟩ trivial mixed
/-- The memory at the region: the blocks' row, and the builder, of which AH knows nothing. -/
theorem mr_join {eb : Nat → Addr} {φ : Emb} {own : Nat → Prop} {w wr : World} {l : List ByteArray} {b : Nat} (hM : MR S0.errT eb φ (mget [some (.row true 1 (l.map strC))]) own w) (hd : ¬ φ.dom 1) (hk : ∀ k, k < w.heap.size → wr.heap[k]? = w.heap[k]?) (own' : Nat → Prop) :
    MR S0.errT eb (φ.add 1 b 0 2 2) (mget [some (.row true 1 (l.map strC)), none]) own' wr := by
  have ext := Emb.add_ext (φ := φ) (b := b) (base := 0) (k := 2) (size := 2) hd
  have only : ∀ id x, mget [some (.row true 1 (l.map strC)), none] id = some x → id = 0 ∧ x = .row true 1 (l.map strC) := by
    intro id x h
    match id, h with
    | 0, h => exact ⟨rfl, by simpa [mget] using h.symm⟩
    | 1, h => cases h
    | n + 2, h => cases h
  have h0 : φ.dom 0 := hM.dom 0 _ rfl
  refine ⟨fun id x h => ?_, fun id ro k es h => ?_, fun id x h hs => ?_, fun id x h hr => ?_, fun id id' x x' h h' hne hr => ?_⟩
  · obtain ⟨rfl, rfl⟩ := only id x h; exact .inl h0
  · obtain ⟨rfl, he⟩ := only id _ h
    rw [ext.k 0 h0]
    cases he
    exact hM.kk 0 _ _ _ rfl
  · obtain ⟨rfl, rfl⟩ := only id x h
    have hs' := (Blk.solid_ext ext h0).1 hs
    obtain ⟨o, ho, hb⟩ := hM.blk 0 _ rfl hs'
    refine ⟨o, ?_, hb.mono ext h0⟩
    rw [ext.blk 0 h0, hk _ (Array.getElem?_eq_some_iff.1 ho).1]
    exact ho
  · obtain ⟨rfl, rfl⟩ := only id x h; cases hr
  · obtain ⟨rfl, rfl⟩ := only id x h; cases hr
end Go.Proofs.YtcmnchmkoghfdaaDoor.C05h
