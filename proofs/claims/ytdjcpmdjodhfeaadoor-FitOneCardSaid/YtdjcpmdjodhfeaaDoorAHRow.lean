import Derived.Test.YtdjcpmdjodhfeaaDoorAHFrame
import Derived.Carry
/-
AH: the end of a law's row, whatever its arguments.
-/
set_option linter.unusedSimpArgs false
namespace AH
open Go Go.ChangeShapes Go.WideShapes Go.RowKit

theorem Left.below {W W' : World} (h : Left W W') : Below W.heap.size W W' :=
  ⟨Keeps.os h, Keeps.tape h, Keeps.output h, Keeps.size h, fun k hk => Keeps.kept h k hk (by omega)⟩

/-- Types whose values can be read. -/
def rowedB (P : Program) (ts : List TypeId) : Bool := ts.all fun t => P.readableRec t && decide (t < P.types.size)

theorem trodAll_below {H : Type} {enc : TypeId × Value → H} {P : Program} (hl : laidOutB P = true) {W W' : World} (hb : Below W.heap.size W W') :
    ∀ {ts : List TypeId} {vs : List Value} {ds : List (DataW H)} {ps : List MemPlace}, rowedB P ts = true → DataW.TrodAll enc P W 0 (fun _ => true) true ts vs ds ps → (∀ x ∈ ps, x.block < W.heap.size) →
      DataW.TrodAll enc P W' 0 (fun b => decide (b < W.heap.size)) true ts vs ds ps
  | [], _, _, _, _, h, _ => by
    obtain ⟨rfl, rfl, rfl⟩ := trodAll_nil h
    rfl
  | t :: ts, _, _, _, hr, h, hlt => by
    obtain ⟨v, vs1, d, ds1, a, b, rfl, rfl, rfl, h1, h2⟩ := trodAll_cons h
    simp only [rowedB, List.all_cons, Bool.and_eq_true, decide_eq_true_eq] at hr
    exact ⟨a, b, Below.trod hl hr.1.1 hr.1.2 h1 hb (fun x hx => hlt x (by simp [hx])), trodAll_below hl hb hr.2 h2 (fun x hx => hlt x (by simp [hx])), rfl⟩

/-- A law that answers 'true' and leaves its arguments as they were. -/
theorem law_post {H : Type} {enc : TypeId × Value → H} {P : Program} {f : Func} {s : ChangeSpec} {apart fresh handsOn : Bool} {W W' : World} {args : Array Value} {ds gs : List (DataW H)} {before : List MemPlace} {tb : TypeId}
    (hl : laidOutB P = true) (hb : P.underlying tb = some .bool) (hres : f.resultTypes = #[tb]) (hts : rowedB P f.params.toList = true) (hvars : s.vars = []) (hfn : s.fn H (ds ++ gs) = { results := [.lit (.bool true)], args := ds })
    (hW : DataW.Whole enc P f.params.toList s.vars apart W args.toList ds gs before) (h : Left W W') : s.post enc P f apart fresh handsOn false W args (.bool true) W' := by
  have hlt := hW.lt
  obtain ⟨p, q, hA, hV, rfl, hz, hn⟩ := hW
  refine ⟨ds, gs, p ++ q, [], p, [], ⟨p, q, hA, hV, rfl, hz, hn⟩, ?_, ?_, ?_, h.kept _, fun k => by cases k⟩
  · rw [hfn, hres]
    exact trodAll_cons_mk (shut_bool hb _) trodAll_mk0
  · rw [hfn]
    exact trodAll_below hl h.below hts hA fun x hx => hlt x (by simp [hx])
  · rw [hfn, hvars]
    rfl

end AH
