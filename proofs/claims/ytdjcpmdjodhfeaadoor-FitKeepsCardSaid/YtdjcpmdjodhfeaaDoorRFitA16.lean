import Derived.Test.YtdjcpmdjodhfeaaDoorRVecA16
import Derived.Test.YtdjcpmdjodhfeaaDoorFitA16
open Go AH
namespace Go.Proofs.YtdjcpmdjodhfeaaDoor.A16
def spK : List SH := [.int .i64, .int .i64, .int .i64, .int .i64, .int .i64]
theorem sp_of (el : List AV) (h0 : shsOK spK el) : ∃ s : Sp, el = s.cells := by
  obtain ⟨_, r1, rfl, ⟨i, rfl, _⟩, h1⟩ := shs_cons (ks := vecSH) h0
  obtain ⟨v, rfl⟩ := vec_of _ h1
  exact ⟨⟨i, v⟩, rfl⟩
def intSH : List SH := [.int .i64]
theorem int_of (el : List AV) (h0 : shsOK intSH el) : ∃ n : Int, el = [.int .i64 n] := by
  obtain ⟨_, r1, rfl, ⟨a, rfl, _⟩, h1⟩ := shs_cons h0
  obtain rfl := shs_nil h1
  exact ⟨a, rfl⟩
end Go.Proofs.YtdjcpmdjodhfeaaDoor.A16
