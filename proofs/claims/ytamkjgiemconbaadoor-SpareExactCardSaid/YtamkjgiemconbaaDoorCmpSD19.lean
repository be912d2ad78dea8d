import Derived.Test.YtamkjgiemconbaaDoorFVGD19
import Derived.WalkKit
import Derived.Handy
import Derived.Deep.RegionHeld3
import Derived.Sort.Grow
import Derived.Deep.Draws
open Go Go.RowKit
set_option linter.unusedSimpArgs false
set_option maxRecDepth 100000
namespace Go.Proofs.YtamkjgiemconbaaDoor.D19
def cmpI (a b : Int) : Int:=if a < b then -1 else if b < a then 1 else 0
theorem k73 (a : Int) (W : World) : Calls Tryd.prog 73 #[.int .i64 a] W fun e w' =>e = .returned (.bool false) ∧ w' = W:=by
  go_enter Tryd.func73,Tryd.ntmps73
  go_wp2
  go_ret
  simp
theorem k56 (a b : Int) (W : World) : Calls Tryd.prog 56 #[.int .i64 a,.int .i64 b] W fun e w' =>e = .returned (.int .i64 (cmpI a b)) ∧ w' = W:=by
  go_enter Tryd.func56,Tryd.ntmps56
  go_wp2_with (go_at_call 73; refine (k73 _ _).mono ?_; rintro e w' ⟨rfl,rfl⟩)
  · rename_i h
    go_ret
    exact ⟨by rw [cmpI,if_pos h]; rfl,rfl⟩
  · rename_i h1 _ _ h2
    go_ret
    exact ⟨by rw [cmpI,if_neg (by omega),if_pos h2]; rfl,rfl⟩
  · rename_i h1 h2
    go_ret
    exact ⟨by rw [cmpI,if_neg (by omega),if_neg (by omega)]; rfl,rfl⟩
def orI (a b : Int) : Int:=if a = 0 then b else a
set_option maxHeartbeats 2000000 in
theorem k55 (a b : Int) (n c : Nat) (W : World) (h0 : W.cell? ⟨n,0,none⟩ = some (.int .i64 a)) (h1 : W.cell? ⟨n,1,none⟩ = some (.int .i64 b)) : Calls Tryd.prog 55 #[.slice (some ⟨n,0,none⟩) 2 c] W fun e w' =>e = .returned (.int .i64 (orI a b)) ∧ w' = W:=by
  go_enter Tryd.func55,Tryd.ntmps55
  go_wp2
  go_rounds 3
  · rename_i h
    go_ret
    have h' : a ≠ 0:=by simpa using h
    exact ⟨by rw [orI,if_neg h']; rfl,rfl⟩
  · rename_i h _ _ _
    go_ret
    have h' : a = 0:=by simpa using h
    exact ⟨by rw [orI,if_pos h']; rfl,rfl⟩
  · rename_i h h2 _ _
    go_ret
    have h' : a = 0:=by simpa using h
    have h3 : b = 0:=by simpa using h2
    exact ⟨by rw [orI,if_pos h',h3]; rfl,rfl⟩
theorem top_cell (A : World) (x y : Value) (t : TypeId) (n : Nat) (hn : n = A.heap.size) : ((A.alloc (.cells #[x,y] t)).drew).cell? ⟨n,0,none⟩ = some x ∧ ((A.alloc (.cells #[x,y] t)).drew).cell? ⟨n,1,none⟩ = some y:=by
  subst hn
  have hb : ((A.alloc (.cells #[x,y] t)).drew).heap[A.heap.size]? = some (.cells #[x,y] t (0,0)):=by
    show (A.heap.push _)[A.heap.size]? = _
    rw [Array.getElem?_push_size]
  unfold World.cell?
  simp only [hb,Option.isSome_none,Bool.false_eq_true,if_false]
  exact ⟨rfl,rfl⟩
set_option maxHeartbeats 4000000 in
theorem k54 (x1 x2 x3 x4 y1 y2 y3 y4 : Int) (W : World) : Calls Tryd.prog 54 #[.agg #[.int .i64 x1,.int .i64 x2,.int .i64 x3,.int .i64 x4],.agg #[.int .i64 y1,.int .i64 y2,.int .i64 y3,.int .i64 y4]] W fun e w' =>e = .returned (.int .i64 (orI (cmpI x1 y1) (cmpI x2 y2))) ∧ ∃ q os',w' = Go.Sort.grow (W.drewN q) os':=by
  go_enter Tryd.func54,Tryd.ntmps54
  go_wp2
  go_region_held3 (fun w' =>w'.cell? ⟨W.heap.size,0,none⟩ = some (.int .i64 x1) ∧ w'.cell? ⟨W.heap.size,1,none⟩ = some (.int .i64 x2) ∧ w'.cell? ⟨W.heap.size + 1,0,none⟩ = some (.int .i64 y1) ∧ w'.cell? ⟨W.heap.size + 1,1,none⟩ = some (.int .i64 y2)) (go_keep)
    (first
      | (go_at_call 56; refine (k56 _ _ _).mono ?_; rintro e w' ⟨rfl,rfl⟩)
      | (go_at_call 55; refine (k55 (cmpI x1 y1) (cmpI x2 y2) _ _ _ (top_cell _ _ _ _ _ (by simp)).1 (top_cell _ _ _ _ _ (by simp)).2).mono ?_; rintro e w' ⟨rfl,rfl⟩))
  go_wp2
  go_ret
  refine ⟨rfl,1,#[.cells #[.int .i64 x1,.int .i64 x2,.int .i64 x3,.int .i64 x4] 57,.cells #[.int .i64 y1,.int .i64 y2,.int .i64 y3,.int .i64 y4] 57,.cells #[.int .i64 (cmpI x1 y1),.int .i64 (cmpI x2 y2)] 3],?_⟩
  rw [Go.Sort.alloc_eq_grow,Go.Sort.alloc_eq_grow,Go.Sort.alloc_eq_grow,Go.Sort.grow_grow,Go.Sort.grow_grow]
  rfl
end Go.Proofs.YtamkjgiemconbaaDoor.D19
