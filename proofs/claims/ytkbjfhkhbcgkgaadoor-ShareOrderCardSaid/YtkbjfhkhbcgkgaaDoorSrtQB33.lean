import Derived.Test.YtkbjfhkhbcgkgaaDoorShAB33
import Derived.Test.YtkbjfhkhbcgkgaaDoorSrtPB33
open Go AH
set_option linter.unusedSimpArgs false
namespace Go.Proofs.YtkbjfhkhbcgkgaaDoor.B33
theorem ord_sh (l : List Sh) : Ord (fun x y =>cmpS (shAt l x) (shAt l y)):=⟨fun _ _ =>cmpS_neg _ _,fun _ _ _ =>cmpS_trans _ _ _⟩
def upI (k n : Nat) : List Int:=(List.range' k n).map fun (j : Nat) =>(j : Int)
theorem upI_len (k n : Nat) : (upI k n).length = n:=by simp [upI]
theorem upI_mem (k n : Nat) (y : Int) : y ∈ upI k n ↔ (k : Int) ≤ y ∧ y < ((k + n : Nat) : Int):=by
  simp only [upI,List.mem_map,List.mem_range'_1]
  constructor
  · rintro ⟨j,hj,rfl⟩; omega
  · intro h
    obtain ⟨Y,rfl⟩:=Int.eq_ofNat_of_zero_le (by omega : 0 ≤ y)
    exact ⟨Y,by omega,rfl⟩
theorem upI_up : ∀ (n k : Nat),(upI k n).Pairwise (fun x y =>x < y)
  | 0,k =>List.Pairwise.nil
  | n + 1,k =>by
    have e : upI k (n + 1) = (k : Int) :: upI (k + 1) n:=by simp [upI,List.range'_succ]
    rw [e,List.pairwise_cons]
    exact ⟨fun y hy =>by have:=(upI_mem _ _ _).1 hy; omega,upI_up n (k + 1)⟩
theorem outI_up (n : Nat) : outI n = upI 0 n:=by simp [outI,upI,List.range_eq_range']
theorem upI_split (k a b : Nat) : upI k (a + b) = upI k a ++ upI (k + a) b:=by
  simp only [upI,← List.range'_append_1,List.map_append]
theorem insI_ss {c : Int → Int → Int} (h : Ord c) {n : Nat} (hn : 0 < n) : (insL c 0 (outI n) 1 (n - 1)).Pairwise (ahead c) ∧ ∀ y,y ∈ insL c 0 (outI n) 1 (n - 1) ↔ 0 ≤ y ∧ y < (n : Int):=by
  have e1 : outI n = upI 0 1 ++ (upI 1 (n - 1) ++ []):=by
    rw [outI_up,List.append_nil,show n = 1 + (n - 1) by omega,upI_split,show 1 + (n - 1) - 1 = n - 1 by omega]
  obtain ⟨S,s1,s2,s3,_⟩:=insL_ins h [] (upI 1 (n - 1)) (upI 0 1) [] (List.pairwise_singleton _ _) (fun x hx y hy =>by
    have:=(upI_mem _ _ _).1 hx
    have:=(upI_mem _ _ _).1 hy
    omega) (upI_up _ _)
  rw [List.nil_append,← e1,upI_len,upI_len,List.nil_append,List.append_nil] at s1
  have s4 : insL c 0 (outI n) 1 (n - 1) = S:=s1
  rw [s4]
  refine ⟨s2,fun y => ?_⟩
  rw [s3,upI_mem,upI_mem]
  omega
end Go.Proofs.YtkbjfhkhbcgkgaaDoor.B33
