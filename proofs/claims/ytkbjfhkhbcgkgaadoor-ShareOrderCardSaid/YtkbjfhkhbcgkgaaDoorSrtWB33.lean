import Derived.Test.YtkbjfhkhbcgkgaaDoorSrtQB33
import Derived.Test.YtkbjfhkhbcgkgaaDoorSrtTB33
open Go AH
set_option linter.unusedSimpArgs false
namespace Go.Proofs.YtkbjfhkhbcgkgaaDoor.B33
theorem stab_parts {c : Int → Int → Int} (h : Ord c) {n : Nat} (h1 : 20 < n) : ∃ S1 S2 : List Int,insL c 0 (outI n) 1 19 = S1 ++ upI 20 (n - 20) ∧ insL c 20 (S1 ++ upI 20 (n - 20)) 21 (n - 21) = S1 ++ S2 ∧ S1.length = 20 ∧ S2.length = n - 20 ∧
    S1.Pairwise (ahead c) ∧ S2.Pairwise (ahead c) ∧ (∀ y,y ∈ S1 ↔ 0 ≤ y ∧ y < 20) ∧ (∀ y,y ∈ S2 ↔ 20 ≤ y ∧ y < (n : Int)) ∧ mrg c S1 S2 = refO c n:=by
  have e1 : outI n = upI 0 1 ++ (upI 1 19 ++ upI 20 (n - 20)):=by
    rw [outI_up,show n = 1 + (19 + (n - 20)) by omega,upI_split,upI_split,show 1 + (19 + (n - 20)) - 20 = n - 20 by omega]
  obtain ⟨S1,a1,a2,a3,a4⟩:=insL_ins h [] (upI 1 19) (upI 0 1) (upI 20 (n - 20)) (List.pairwise_singleton _ _) (fun x hx y hy =>by
    have:=(upI_mem _ _ _).1 hx
    have:=(upI_mem _ _ _).1 hy
    omega) (upI_up _ _)
  rw [List.nil_append,← e1,upI_len,upI_len,List.nil_append] at a1
  rw [upI_len,upI_len] at a4
  have e2 : S1 ++ upI 20 (n - 20) = S1 ++ (upI 20 1 ++ (upI 21 (n - 21) ++ [])):=by
    rw [List.append_nil,show n - 20 = 1 + (n - 21) by omega,upI_split]
  obtain ⟨S2,b1,b2,b3,b4⟩:=insL_ins h S1 (upI 21 (n - 21)) (upI 20 1) [] (List.pairwise_singleton _ _) (fun x hx y hy =>by
    have:=(upI_mem _ _ _).1 hx
    have:=(upI_mem _ _ _).1 hy
    omega) (upI_up _ _)
  rw [← e2,upI_len,upI_len,a4,List.append_nil] at b1
  rw [upI_len,upI_len] at b4
  have m1 : ∀ y,y ∈ S1 ↔ 0 ≤ y ∧ y < 20:=fun y =>by rw [a3,upI_mem,upI_mem]; omega
  have m2 : ∀ y,y ∈ S2 ↔ 20 ≤ y ∧ y < (n : Int):=fun y =>by rw [b3,upI_mem,upI_mem]; omega
  refine ⟨S1,S2,a1,b1,a4,by omega,a2,b2,m1,m2,refO_eq h (mrg_ss h _ _ _ (Nat.le_refl _) a2 b2 fun x hx y hy => ?_) fun y => ?_⟩
  · have:=(m1 x).1 hx
    have:=(m2 y).1 hy
    omega
  · rw [mrg_mem _ _ _ (Nat.le_refl _),m1,m2]
    omega
end Go.Proofs.YtkbjfhkhbcgkgaaDoor.B33
