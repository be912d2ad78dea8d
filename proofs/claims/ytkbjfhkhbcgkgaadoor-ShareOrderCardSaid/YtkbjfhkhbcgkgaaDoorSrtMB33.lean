import Derived.Test.YtkbjfhkhbcgkgaaDoorSrtB33
open Go AH
set_option linter.unusedSimpArgs false
namespace Go.Proofs.YtkbjfhkhbcgkgaaDoor.B33
def mrg (c : Int → Int → Int) : List Int → List Int → List Int
  | [],B =>B
  | a :: A,[] =>a :: A
  | a :: A,b :: B =>bif decide (c b a < 0) then b :: mrg c (a :: A) B else a :: mrg c A (b :: B)
termination_by A B =>A.length + B.length
variable {c : Int → Int → Int}
theorem mrg_l (B : List Int) : mrg c [] B = B:=by rw [mrg]
theorem mrg_r : ∀ A : List Int,mrg c A [] = A
  | [] =>by rw [mrg]
  | a :: A =>by rw [mrg]
theorem mrg_c (a b : Int) (A B : List Int) : mrg c (a :: A) (b :: B) = bif decide (c b a < 0) then b :: mrg c (a :: A) B else a :: mrg c A (b :: B):=by rw [mrg]
theorem mrg_lt {a b : Int} (A B : List Int) (h : c b a < 0) : mrg c (a :: A) (b :: B) = b :: mrg c (a :: A) B:=by rw [mrg_c,decide_eq_true h,cond_true]
theorem mrg_ge {a b : Int} (A B : List Int) (h : ¬ c b a < 0) : mrg c (a :: A) (b :: B) = a :: mrg c A (b :: B):=by rw [mrg_c,decide_eq_false h,cond_false]
theorem mrg_split : ∀ (n : Nat) (A1 A2 B1 B2 : List Int),A1.length + B1.length ≤ n → (∀ x ∈ B1,∀ y ∈ A2,c x y < 0) → (∀ x ∈ A1,∀ y ∈ B2,¬ c y x < 0) → mrg c (A1 ++ A2) (B1 ++ B2) = mrg c A1 B1 ++ mrg c A2 B2
  | _,[],A2,[],B2,_,_,_ =>by rw [mrg_l]; rfl
  | 0,[],_,_ :: _,_,h,_,_ =>by simp at h
  | 0,_ :: _,_,_,_,h,_,_ =>by simp at h
  | n + 1,[],A2,b :: B1,B2,hn,h1,h2 =>by
    have ih:=mrg_split n [] A2 B1 B2 (by simp at hn ⊢; omega) (fun x hx =>h1 x (List.mem_cons_of_mem _ hx)) (fun x hx =>by cases hx)
    cases A2 with
    | nil =>simp only [List.nil_append,mrg_l]
    | cons y A2 =>
      simp only [List.nil_append,List.cons_append,mrg_l] at ih ⊢
      rw [mrg_lt _ _ (h1 b (List.mem_cons_self ..) y (List.mem_cons_self ..)),ih]
  | n + 1,x :: A1,A2,[],B2,hn,h1,h2 =>by
    have ih:=mrg_split n A1 A2 [] B2 (by simp at hn ⊢; omega) (fun x hx =>by cases hx) (fun x hx =>h2 x (List.mem_cons_of_mem _ hx))
    cases B2 with
    | nil =>simp only [List.append_nil,mrg_r]
    | cons z B2 =>
      simp only [List.nil_append,List.cons_append,mrg_r] at ih ⊢
      rw [mrg_ge _ _ (h2 x (List.mem_cons_self ..) z (List.mem_cons_self ..)),ih]
  | n + 1,x :: A1,A2,b :: B1,B2,hn,h1,h2 =>by
    simp only [List.cons_append]
    by_cases hc : c b x < 0
    · rw [mrg_lt _ _ hc,mrg_lt _ _ hc]
      have ih:=mrg_split n (x :: A1) A2 B1 B2 (by simp at hn ⊢; omega) (fun x hx =>h1 x (List.mem_cons_of_mem _ hx)) h2
      simp only [List.cons_append] at ih ⊢
      rw [ih]
    · rw [mrg_ge _ _ hc,mrg_ge _ _ hc]
      have ih:=mrg_split n A1 A2 (b :: B1) B2 (by simp at hn ⊢; omega) h1 (fun x hx =>h2 x (List.mem_cons_of_mem _ hx))
      simp only [List.cons_append] at ih ⊢
      rw [ih]
end Go.Proofs.YtkbjfhkhbcgkgaaDoor.B33
