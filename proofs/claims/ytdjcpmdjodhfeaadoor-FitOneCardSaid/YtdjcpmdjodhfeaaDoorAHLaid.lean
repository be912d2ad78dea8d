import Derived.Test.YtdjcpmdjodhfeaaDoorAHArgs
import Derived.LaidLaws
import Derived.MakeChecks
/-
AH: sentinels, out of what a row's condition lays.
-/
set_option linter.unusedSimpArgs false
namespace AH
open Go Go.ChangeShapes Go.WideShapes Go.RowKit

/-- The rows of the types that a sentinel is made of: closed facts. -/
structure ErrRows (P : Program) (errT ti te ts : TypeId) : Prop where
  iface : ∃ ms, P.underlying ti = some (.interface ms)
  name : ∀ u, P.typeName? 3 u = some "*errors.errorString" → u = errT
  ptr : P.underlying errT = some (.pointer te)
  str : ∃ f : Field, P.underlying te = some (.struct #[f]) ∧ f.type = ts ∧ f.offset = 0
  text : P.underlying ts = some .string
  c1 : P.cellsOf te = 1
  c2 : P.cellsOf ts = 1

def isErrD : DataW Unit → Bool
  | .iface n (.ptr (.agg [.lit (.string _)])) => n == "*errors.errorString"
  | _ => false

def mp (a : Addr) : MemPlace := .cell a.block a.off

theorem laid_list {P : Program} {errT ti te ts : TypeId} (hE : ErrRows P errT ti te ts) {W : World} {all : List MemPlace} (hrows : ∀ b off, MemPlace.cell b off ∈ all → (∃ c t, W.heap[b]? = some (.cells c t (0, 0))) ∧ ∀ u v, W.cell? ⟨b, off, none⟩ = some (.iface u v) → Value.okWide P W .any 0 u v) :
    ∀ {laid : List (String × DataW Unit)} {errs : List Nat} {ps : List MemPlace}, DataW.LaidVars P W laid ps → laid.map (fun x => P.globalNamed x.1) = errs.map some → (∀ g ∈ errs, (P.globals[g]?).map (·.type) = some ti) → (laid.all fun x => isErrD x.2) = true → (∀ x ∈ ps, x ∈ all) →
      ∃ as : List Addr, as.length = errs.length ∧ (as.map mp).Sublist ps ∧ ∀ (i : Nat) (g : Nat) (a : Addr), errs[i]? = some g → as[i]? = some a → a.spot = none ∧ a.block < W.heap.size ∧ ∃ et fr, W.heap[g]? = some (.cells #[.iface errT (.pointer (some a))] et fr)
  | [], errs, ps, h, hg, _, _, _ => by
    cases errs with
    | nil => exact ⟨[], rfl, by simp, by simp⟩
    | cons g r => simp at hg
  | (n, d) :: laid, [], ps, h, hg, _, _, _ => by simp at hg
  | (n, d) :: laid, g :: errs, ps, h, hg, ht, hd, hsub => by
    obtain ⟨g', t, cs, fuel, p, q, h1, h2, h3, h4, h5, rfl⟩ := h
    simp only [List.map_cons, List.cons.injEq] at hg
    obtain ⟨hg1, hg2⟩ := hg
    rw [h1] at hg1
    cases hg1
    simp only [List.all_cons, Bool.and_eq_true] at hd
    have htg := ht g (by simp)
    rw [h2] at htg
    cases htg
    obtain ⟨text, rfl⟩ : ∃ text, d = .iface "*errors.errorString" (.ptr (.agg [.lit (.string text)])) := by
      have := hd.1
      unfold isErrD at this
      split at this
      · rename_i m s
        simp only [beq_iff_eq] at this
        subst this
        exact ⟨s, rfl⟩
      · cases this
    obtain ⟨ms, hi⟩ := hE.iface
    obtain ⟨f, hf1, hf2, hf3⟩ := hE.str
    have hcs1 : cs.size = 1 := by
      obtain ⟨f1, u, v, hcs, _, _⟩ := iface_of_trod hi h4
      have := congrArg List.length hcs
      simpa using this
    have ok : ∀ u v, cs.toList = [.iface u v] → Value.okWide P W .any 0 u v := fun u v e => by
      refine (hrows g 0 (hsub _ ?_)).2 u v ?_
      · simp [MemPlace.row, hcs1]
      · rw [World.var?_cell h1 h3 0, ← Array.getElem?_toList, e]; rfl
    obtain ⟨a, s, hcs, hcell, _, _, rfl⟩ := errorString_of_trod hi hE.name hE.ptr hf1 hf2 hf3 hE.text hE.c1 hE.c2 h4 ok
    obtain ⟨arr, et, fr, hb, hs, _⟩ := cell_some hcell
    obtain ⟨as, g1, g2, g3⟩ := laid_list hE hrows h5 hg2 (fun x hx => ht x (by simp [hx])) hd.2 (fun x hx => hsub x (by simp [hx]))
    have hvar : ∃ et fr, W.heap[g]? = some (.cells #[.iface errT (.pointer (some a))] et fr) := by
      unfold World.var? at h3
      rw [h1] at h3
      simp only [Option.bind_some] at h3
      split at h3
      · rename_i c et fr hh
        cases h3
        refine ⟨et, fr, ?_⟩
        rw [hh]
        congr 2
        apply Array.ext'
        simpa using hcs
      · cases h3
    refine ⟨a :: as, by simp [g1], ?_, ?_⟩
    · have e : MemPlace.row a 1 = [mp a] := by simp [MemPlace.row, mp]
      rw [e, List.append_assoc]
      exact List.Sublist.trans (List.Sublist.cons_cons _ g2) (List.sublist_append_right _ _)
    · intro i g' a' hi' ha'
      cases i with
      | zero =>
        simp at hi' ha'
        subst hi' ha'
        exact ⟨hs, (Array.getElem?_eq_some_iff.1 hb).1, hvar⟩
      | succ i => exact g3 i g' a' (by simpa using hi') (by simpa using ha')

/-- The sentinels' addresses. -/
theorem amb_of_laid {S : AH.Sys} {ti te ts : TypeId} (hE : ErrRows S.P S.errT ti te ts) {W : World} {laid : List (String × DataW Unit)} (h : laidMet S.P laid W) (hg : laid.map (fun x => S.P.globalNamed x.1) = S.errs.map some)
    (ht : ∀ g ∈ S.errs, (S.P.globals[g]?).map (·.type) = some ti) (hd : (laid.all fun x => isErrD x.2) = true) : ∃ eb : Nat → Addr, Amb S eb (fun b => W.heap.size ≤ b) W := by
  obtain ⟨ps, hl, hnd, hrows⟩ := h
  obtain ⟨as, h1, h2, h3⟩ := laid_list hE hrows hl hg ht hd (fun _ hx => hx)
  have hpos : ∀ g ∈ S.errs, ∃ i a, S.errs[i]? = some g ∧ as[i]? = some a ∧ S.errs.idxOf g = i := fun g hg' => by
    have hlt := List.idxOf_lt_length_of_mem hg'
    refine ⟨S.errs.idxOf g, as[S.errs.idxOf g]'(by omega), ?_, by simp, rfl⟩
    rw [List.getElem?_eq_getElem hlt]
    simp
  refine ⟨fun g => (as[S.errs.idxOf g]?).getD default, ?_, ?_, ?_, ?_⟩
  · intro g hg'
    obtain ⟨i, a, e1, e2, e3⟩ := hpos g hg'
    obtain ⟨_, _, et, fr, hh⟩ := h3 i g a e1 e2
    exact ⟨et, fr, by rw [e3, e2]; exact hh⟩
  · intro g hg' hle
    obtain ⟨i, a, e1, e2, e3⟩ := hpos g hg'
    obtain ⟨_, _, et, fr, hh⟩ := h3 i g a e1 e2
    have := (Array.getElem?_eq_some_iff.1 hh).1
    omega
  · intro g hg' k hk' e
    obtain ⟨i, a, e1, e2, e3⟩ := hpos g hg'
    obtain ⟨j, b, f1, f2, f3⟩ := hpos k hk'
    simp only [e3, f3, e2, f2, Option.getD_some] at e
    subst e
    have hn := h2.nodup hnd
    have hij : i = j := by
      have i1 : (as.map mp)[i]? = some (mp a) := by simp [e2]
      have i2 : (as.map mp)[j]? = some (mp a) := by simp [f2]
      have hi := (List.getElem?_eq_some_iff.1 i1).1
      exact (List.getElem?_inj hi hn).1 (by rw [i1, i2])
    subst hij
    rw [e1] at f1
    cases f1; rfl
  · intro g hg'
    obtain ⟨i, a, e1, e2, e3⟩ := hpos g hg'
    obtain ⟨_, hb, _⟩ := h3 i g a e1 e2
    simp only [e3, e2, Option.getD_some]
    omega


/-- A row that comes in: its block, its first cell there, the block's size, the cells of an element, the elements. -/
structure InRow where
  b : Nat
  off : Nat
  size : Nat
  k : Nat
  es : List (List AV)
  deriving Inhabited

def embOf (ls : List InRow) : Emb :=
  { dom := fun i => i < ls.length, blk := fun i => (ls.getD i default).b, base := fun i => (ls.getD i default).off, k := fun i => (ls.getD i default).k, size := fun i => (ls.getD i default).size }

def memOf (ls : List InRow) : Mem := ls.map fun x => some (.row true x.k x.es)

theorem memOf_get : ∀ (ls : List InRow) (i : Nat), mget (memOf ls) i = (ls[i]?).map fun x => Blk.row true x.k x.es
  | [], i => by simp [memOf, mget_nil]
  | x :: r, 0 => by simp [memOf, mget]
  | x :: r, i + 1 => by
    have := memOf_get r i
    simp only [memOf] at this ⊢
    simp only [List.map_cons, mget, this, List.getElem?_cons_succ]

theorem mr_of {T : TypeId} {eb : Nat → Addr} {W : World} {own : Nat → Prop} {ls : List InRow} (h : ∀ (i : Nat) (x : InRow), ls[i]? = some x → ∃ o, W.heap[x.b]? = some o ∧ BR T eb (embOf ls) i (.row true x.k x.es) o) : MR T eb (embOf ls) (mget (memOf ls)) own W := by
  have key : ∀ {i b}, mget (memOf ls) i = some b → ∃ x, ls[i]? = some x ∧ b = .row true x.k x.es := fun hb => by
    rw [memOf_get, Option.map_eq_some_iff] at hb
    obtain ⟨x, hx, rfl⟩ := hb
    exact ⟨x, hx, rfl⟩
  refine ⟨fun i b hb => ?_, fun i b hb => ?_, fun i b hb hr => ?_, fun i j b b' hb _ _ hr => ?_⟩
  · obtain ⟨x, hx, _⟩ := key hb
    exact (List.getElem?_eq_some_iff.1 hx).1
  · obtain ⟨x, hx, rfl⟩ := key hb
    obtain ⟨o, h1, h2⟩ := h i x hx
    exact ⟨o, by simpa [embOf, List.getD, hx] using h1, h2⟩
  · obtain ⟨x, _, rfl⟩ := key hb
    cases hr
  · obtain ⟨x, _, rfl⟩ := key hb
    cases hr

/-- A slice that comes in, as the row of its number. -/
theorem SliceAt.at {W : World} {T : TypeId} {eb : Nat → Addr} {ks : List SH} {v : Value} {es : List (List AV)} {b off size : Nat} (h : SliceAt W T eb ks v es b off size) {ls : List InRow} {i : Nat} (hi : ls[i]? = some ⟨b, off, size, ks.length, es⟩) :
    VR T eb (embOf ls) (.slc i 0 es.length none) v ∧ ∃ o, W.heap[b]? = some o ∧ BR T eb (embOf ls) i (.row true ks.length es) o := by
  obtain ⟨o, h1, h2⟩ := h.there
  obtain ⟨g1, g2⟩ := h2 (embOf ls) i (List.getElem?_eq_some_iff.1 hi).1 (by simp [embOf, List.getD, hi]) (by simp [embOf, List.getD, hi]) (by simp [embOf, List.getD, hi]) (by simp [embOf, List.getD, hi])
  exact ⟨g1, o, h1, g2⟩

/-- The machine's call of a law. -/
theorem law_call {S : AH.Sys} {g : FuncId} {fn : Func} {args : List AV} {m : Mem} (hf : S.P.funcs[g]? = some fn) (hb : fn.body.isSome = true) (hn : (fn.name == "runtime.NumGoroutine") = false) {eb : Nat → Addr} {φ : Emb} {W : World} {us : Array Value}
    (hA : Amb S eb (fun b => W.heap.size ≤ b) W) (hus : VRs S.errT eb φ args us.toList) (hM : MR S.errT eb φ (mget m) (fun b => W.heap.size ≤ b) W) (hd : ∀ id, φ.dom id → id < m.length) (h : CallA1 S g args m fun v _ => v = .bool true) :
    Calls S.P g us W fun e W' => e = .returned (.bool true) ∧ Left W W' := by
  have := h eb φ _ W W us hA hus hM (.refl fun _ h => h) hd
  refine (this.calls hf hb hn).mono ?_
  rintro e w' ⟨v, rfl, φ', v', m', rfl, _, hr, _, hk', _⟩
  rw [vr_bool hr]
  exact ⟨rfl, hk'⟩

end AH
