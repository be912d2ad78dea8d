import Derived.Test.YtkbjfhkhbcgkgaaDoorSrtPB33
open Go AH
set_option linter.unusedSimpArgs false
namespace Go.Proofs.YtkbjfhkhbcgkgaaDoor.B33
variable {c : Int → Int → Int}
theorem srt_lt {l : List Int} (hs : Srtd c l) {i j : Nat} (hij : i < j) (hj : j < l.length) : c (l.getD i 0) (l.getD j 0) ≤ 0:=by
  have h:=List.pairwise_iff_getElem.1 hs i j (by omega) hj hij
  rw [List.getD_eq_getElem?_getD,List.getD_eq_getElem?_getD,List.getElem?_eq_getElem (by omega : i < l.length),List.getElem?_eq_getElem hj]
  exact h
theorem mem_take_at {l : List Int} {n : Nat} {x : Int} (h : x ∈ l.take n) : ∃ i,i < n ∧ i < l.length ∧ l.getD i 0 = x:=by
  obtain ⟨i,hi⟩:=List.getElem?_of_mem h
  obtain ⟨h1,h2⟩:=List.getElem?_eq_some_iff.1 hi
  rw [List.length_take] at h1
  refine ⟨i,by omega,by omega,?_⟩
  rw [List.getElem_take] at h2
  rw [List.getD_eq_getElem?_getD,List.getElem?_eq_getElem (by omega),h2]; rfl
theorem mem_drop_at {l : List Int} {n : Nat} {x : Int} (h : x ∈ l.drop n) : ∃ i,n ≤ i ∧ i < l.length ∧ l.getD i 0 = x:=by
  obtain ⟨i,hi⟩:=List.getElem?_of_mem h
  obtain ⟨h1,h2⟩:=List.getElem?_eq_some_iff.1 hi
  rw [List.length_drop] at h1
  refine ⟨n + i,by omega,by omega,?_⟩
  rw [List.getElem_drop] at h2
  rw [List.getD_eq_getElem?_getD,List.getElem?_eq_getElem (by omega),h2]; rfl
theorem Ord.self (h : Ord c) (x : Int) : c x x = 0:=by have:=h.neg x x; omega
theorem srt_le (h : Ord c) {l : List Int} (hs : Srtd c l) {i j : Nat} (hij : i ≤ j) (hj : j < l.length) : c (l.getD i 0) (l.getD j 0) ≤ 0:=by
  rcases Nat.lt_or_eq_of_le hij with q | rfl
  · exact srt_lt hs q hj
  · rw [h.self]; exact Int.le_refl _
theorem sym_fin (h : Ord c) {A B : List Int} (hA : Srtd c A) (hB : Srtd c B) {i j : Nat} (hi : i ≤ A.length) (hj : j ≤ B.length)
    (h1 : i = 0 ∨ j = B.length ∨ ¬ c (B.getD j 0) (A.getD (i - 1) 0) < 0) (h2 : i = A.length ∨ j = 0 ∨ c (B.getD (j - 1) 0) (A.getD i 0) < 0) :
    mrg c A B = mrg c (A.take i) (B.take j) ++ mrg c (A.drop i) (B.drop j):=by
  have e:=mrg_split (c:=c) _ (A.take i) (A.drop i) (B.take j) (B.drop j) (Nat.le_refl _) ?_ ?_
  · rw [List.take_append_drop,List.take_append_drop] at e; exact e
  · intro x hx y hy
    obtain ⟨k,k1,k2,rfl⟩:=mem_take_at hx
    obtain ⟨m,m1,m2,rfl⟩:=mem_drop_at hy
    rcases h2 with q | q | q
    · omega
    · omega
    · exact h.lt_le (h.le_lt (srt_le h hB (by omega : k ≤ j - 1) (by omega)) q) (srt_le h hA m1 m2)
  · intro x hx y hy hc
    obtain ⟨k,k1,k2,rfl⟩:=mem_take_at hx
    obtain ⟨m,m1,m2,rfl⟩:=mem_drop_at hy
    rcases h1 with q | q | q
    · omega
    · omega
    · exact q (h.lt_le (h.le_lt (srt_le h hB m1 m2) hc) (srt_le h hA (by omega : k ≤ i - 1) (by omega)))
theorem one_l_fin (h : Ord c) {x : Int} {B : List Int} (hB : Srtd c B) {j : Nat} (hj : j ≤ B.length) (h1 : j = B.length ∨ ¬ c (B.getD j 0) x < 0) (h2 : j = 0 ∨ c (B.getD (j - 1) 0) x < 0) :
    mrg c [x] B = B.take j ++ x :: B.drop j:=by
  have e:=mrg_one_l (c:=c) (x:=x) (B1:=B.take j) (B2:=B.drop j) ?_ ?_
  · rw [List.take_append_drop] at e; exact e
  · intro y hy
    obtain ⟨k,k1,k2,rfl⟩:=mem_take_at hy
    rcases h2 with q | q
    · omega
    · exact h.le_lt (srt_le h hB (by omega : k ≤ j - 1) (by omega)) q
  · intro y hy hc
    obtain ⟨m,m1,m2,rfl⟩:=mem_drop_at hy
    rcases h1 with q | q
    · omega
    · exact q (h.le_lt (srt_le h hB m1 m2) hc)
theorem one_r_fin (h : Ord c) {y : Int} {A : List Int} (hA : Srtd c A) {i : Nat} (hi : i ≤ A.length) (h1 : i = 0 ∨ ¬ c y (A.getD (i - 1) 0) < 0) (h2 : i = A.length ∨ c y (A.getD i 0) < 0) :
    mrg c A [y] = A.take i ++ y :: A.drop i:=by
  have e:=mrg_one_r (c:=c) (y:=y) (A1:=A.take i) (A2:=A.drop i) ?_ ?_
  · rw [List.take_append_drop] at e; exact e
  · intro x hx hc
    obtain ⟨k,k1,k2,rfl⟩:=mem_take_at hx
    rcases h1 with q | q
    · omega
    · exact q (h.lt_le hc (srt_le h hA (by omega : k ≤ i - 1) (by omega)))
  · intro x hx
    obtain ⟨m,m1,m2,rfl⟩:=mem_drop_at hx
    rcases h2 with q | q
    · omega
    · exact h.lt_le q (srt_le h hA m1 m2)
theorem srt_take {l : List Int} (h : Srtd c l) (n : Nat) : Srtd c (l.take n):=List.Pairwise.sublist (List.take_sublist ..) h
theorem srt_drop {l : List Int} (h : Srtd c l) (n : Nat) : Srtd c (l.drop n):=List.Pairwise.sublist (List.drop_sublist ..) h
theorem srt_of {l : List Int} (h : l.Pairwise (ahead c)) : Srtd c l:=h.imp fun q =>by
  rcases q with q | q <;> omega
def refO (c : Int → Int → Int) : Nat → List Int
  | 0 => []
  | n + 1 =>mrg c (refO c n) [(n : Int)]
theorem refO_mem (c : Int → Int → Int) (y : Int) : ∀ n,y ∈ refO c n ↔ 0 ≤ y ∧ y < (n : Int)
  | 0 =>by simp only [refO,List.not_mem_nil,false_iff]; omega
  | n + 1 =>by
    rw [refO,mrg_mem _ _ _ (Nat.le_refl _),refO_mem c y n,List.mem_singleton]
    omega
theorem refO_len (c : Int → Int → Int) : ∀ n,(refO c n).length = n
  | 0 =>rfl
  | n + 1 =>by rw [refO,mrg_len _ _ _ (Nat.le_refl _),refO_len c n]; rfl
theorem refO_ss (h : Ord c) : ∀ n,(refO c n).Pairwise (ahead c)
  | 0 =>List.Pairwise.nil
  | n + 1 =>by
    rw [refO]
    refine mrg_ss h _ _ _ (Nat.le_refl _) (refO_ss h n) (List.pairwise_singleton _ _) fun x hx y hy => ?_
    rw [List.mem_singleton.1 hy]
    exact ((refO_mem c x n).1 hx).2
theorem refO_eq (h : Ord c) {n : Nat} {l : List Int} (hl : l.Pairwise (ahead c)) (hm : ∀ y,y ∈ l ↔ 0 ≤ y ∧ y < (n : Int)) : l = refO c n :=
  ss_eq h _ _ hl (refO_ss h n) fun y =>(hm y).trans (refO_mem c y n).symm
theorem refO_step (h : Ord c) {n i : Nat} (hi : i ≤ n) (h1 : ∀ k,k < i → ¬ c ((refO c n).getD k 0) (n : Int) > 0) (h2 : i = n ∨ c ((refO c n).getD i 0) (n : Int) > 0) :
    refO c (n + 1) = (refO c n).take i ++ (n : Int) :: (refO c n).drop i:=by
  rw [refO]
  refine one_r_fin h (srt_of (refO_ss h n)) (by rw [refO_len]; exact hi) ?_ ?_
  · by_cases q : i = 0
    · exact .inl q
    · have:=h1 (i - 1) (by omega)
      have:=h.neg ((refO c n).getD (i - 1) 0) (n : Int)
      exact .inr (by omega)
  · rw [refO_len]
    rcases h2 with q | q
    · exact .inl q
    · have:=h.neg ((refO c n).getD i 0) (n : Int)
      exact .inr (by omega)
end Go.Proofs.YtkbjfhkhbcgkgaaDoor.B33
