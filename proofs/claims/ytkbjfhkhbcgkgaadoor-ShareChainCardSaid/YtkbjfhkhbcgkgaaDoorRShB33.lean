import Derived.Test.YtkbjfhkhbcgkgaaDoorRBaseB33
import Derived.Test.YtkbjfhkhbcgkgaaDoorShB33
open Go AH
namespace Go.Proofs.YtkbjfhkhbcgkgaaDoor.B33
def shSH : List SH := [.int .i64, .int .i64]
/-- A share whose numbers are numbers of the machine. -/
def ShR : Type := {s : Sh // s.ok}
def ShR.cells (s : ShR) : List AV := s.1.cells
theorem sh_of (el : List AV) (h0 : shsOK shSH el) : ∃ s : ShR, el = s.cells := by
  obtain ⟨_, r1, rfl, ⟨a, rfl, ha⟩, h1⟩ := shs_cons h0
  obtain ⟨_, r2, rfl, ⟨b, rfl, hb⟩, h2⟩ := shs_cons h1
  obtain rfl := shs_nil h2
  have in_ : ∀ n : Int, (Lit.int .i64 n).wf = true → in64 n := fun n h => by
    have h1 : IntKind.i64.min = -9223372036854775808 := by decide
    have h2 : IntKind.i64.max = 9223372036854775807 := by decide
    simp only [Lit.wf, Bool.and_eq_true, decide_eq_true_eq, h1, h2] at h
    exact h
  exact ⟨⟨⟨a, b⟩, ⟨in_ a ha, in_ b hb⟩⟩, rfl⟩
end Go.Proofs.YtkbjfhkhbcgkgaaDoor.B33
