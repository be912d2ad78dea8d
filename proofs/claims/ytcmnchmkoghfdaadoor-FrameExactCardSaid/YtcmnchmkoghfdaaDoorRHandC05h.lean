import Derived.Test.YtcmnchmkoghfdaaDoorRBaseC05h
open Go AH
namespace Go.Proofs.YtcmnchmkoghfdaaDoor.C05h
theorem hands_of {W : World} {hs : List (String × DataW Unit)} (h : handlesMet Tryd.prog hs W) (hx : ("errors.errorType", Rows.laid_errors_errorType) ∈ hs) : ∀ x ∈ S0.hands, ∃ et fr, W.heap[x.1]? = some (.cells #[x.2] et fr) := by
  intro x hxm
  have e : x = (14, .iface 105 (.agg #[.pointer (some ⟨18, 31, none⟩)])) := by simpa [S0] using hxm
  subst e
  have hall : ∀ t, t < Tryd.prog.types.size → Tryd.prog.rowNamed t [101, 114, 114, 111, 114] = true → t = 31 := by
    have hd : ((List.range Tryd.prog.types.size).all fun t => !Tryd.prog.rowNamed t [101, 114, 114, 111, 114] || t == 31) = true := by kernel_rfl
    intro t ht hr
    have := List.all_eq_true.1 hd t (List.mem_range.2 ht)
    rw [hr] at this
    simpa using this
  exact hand_of h hx (by kernel_rfl) (g := 14) (by kernel_rfl) (rt := 105) (ty := 31) (by kernel_rfl) (fun name hn t ht hr => by
    have : name = [101, 114, 114, 111, 114] := by
      have e : (Rows.laid_errors_errorType : DataW Unit).handleName? = some [101, 114, 114, 111, 114] := by kernel_rfl
      rw [e] at hn
      exact (Option.some.inj hn).symm
    subst this
    exact hall t ht hr)
end Go.Proofs.YtcmnchmkoghfdaaDoor.C05h
