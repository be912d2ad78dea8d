import Derived.Test.YtdjcpmdjodhfeaaDoorAHFrame
/-
AH: calls that only read: for the tables of calls inside regions of free order.
-/
set_option linter.unusedSimpArgs false
namespace AH
open Go
variable {S : Sys} {eb : Nat → Addr} {own : Nat → Prop} {w0 w : World} {φ : Emb}

/-- The blocks of a list, told as read only, in its order. -/
def roMem (sel : List (Nat × Bool)) (M : Nat → Option Blk) : List (Nat × Bool) → Mem
  | [] => []
  | (id, _) :: l => (M id).map (fun b => (b.ren (posOf sel)).asRo true) :: roMem sel M l

def roOK (M : Nat → Option Blk) (sel : List (Nat × Bool)) : List (Nat × Bool) → Bool
  | [] => true
  | (id, _) :: l => (match M id with
    | some (.row _ _ es) => es.all (AV.insB (isIn sel))
    | _ => false) && roOK M sel l

theorem ro_get (sel : List (Nat × Bool)) (M : Nat → Option Blk) : ∀ (l : List (Nat × Bool)) (j : Nat), mget (roMem sel M l) j = match l[j]? with
    | some (id, _) => (M id).map (fun b => (b.ren (posOf sel)).asRo true)
    | none => none
  | [], j => by simp [roMem, mget_nil]
  | (id, r) :: l, 0 => by simp [roMem, mget]
  | (id, r) :: l, j + 1 => by simp only [roMem, mget, ro_get sel M l j, List.getElem?_cons_succ]

theorem ro_len (sel : List (Nat × Bool)) (M : Nat → Option Blk) : ∀ l : List (Nat × Bool), (roMem sel M l).length = l.length
  | [] => rfl
  | (id, r) :: l => by simp [roMem, ro_len sel M l]

theorem ro_spec {M : Nat → Option Blk} {sel : List (Nat × Bool)} : ∀ {l : List (Nat × Bool)}, roOK M sel l = true → ∀ {j id : Nat} {r : Bool}, l[j]? = some (id, r) → ∃ ro k es, M id = some (.row ro k es) ∧ (Blk.row ro k es).inB (isIn sel) = true
  | [], _, j, id, r, h => by simp at h
  | (a, q) :: l, hs, 0, id, r, h => by
    simp at h
    obtain ⟨rfl, rfl⟩ := h
    simp only [roOK, Bool.and_eq_true] at hs
    have := hs.1
    split at this
    · rename_i ro k es hm; exact ⟨ro, k, es, hm, this⟩
    · cases this
  | (a, q) :: l, hs, j + 1, id, r, h => by
    simp only [roOK, Bool.and_eq_true] at hs
    exact ro_spec hs.2 (by simpa using h)

/-- A call that looks at the blocks of a list alone and answers a value without blocks: in any memory. -/
theorem reads_run {g : FuncId} {args : List AV} {v : AV} {M : Nat → Option Blk} (sel : List (Nat × Bool)) (hsel : roOK M sel sel = true) (hdist : distinct sel = true) (hargs : AV.insB (isIn sel) args = true) (hv : v.lt 0 = true)
    (h : CallA1 S g (AV.rens (posOf sel) args) (roMem sel M sel) fun r _ => r = v) (hA : Amb S eb own w0) {us : Array Value} (hus : VRs S.errT eb φ args us.toList) (hM : MR S.errT eb φ M own w) (hk : Keeps own w0 w) :
    CallRes S.P g us w fun r w' => VR S.errT eb φ v r ∧ MR S.errT eb φ M own w' ∧ Keeps own w0 w' := by
  have hdomS : ∀ {j id : Nat} {r : Bool}, sel[j]? = some (id, r) → φ.dom id := fun hj => by
    obtain ⟨ro, k, es, h1, _⟩ := ro_spec hsel hj
    exact hM.dom _ _ h1
  have hblk : ∀ {j id : Nat} {r : Bool}, sel[j]? = some (id, r) → (φ.sub sel).blk j = φ.blk id := fun hs => by simp [Emb.sub, hs]
  have hsub : ∀ {j : Nat} {c : Blk}, mget (roMem sel M sel) j = some c → ∃ id r ro k es, sel[j]? = some (id, r) ∧ M id = some (.row ro k es) ∧ (Blk.row ro k es).inB (isIn sel) = true ∧ c = ((Blk.row ro k es).ren (posOf sel)).asRo true := fun hj => by
    rw [ro_get] at hj
    split at hj
    · rename_i id r hs
      obtain ⟨ro, k, es, h1, h2⟩ := ro_spec hsel hs
      rw [h1] at hj
      simp only [Option.map_some, Option.some.injEq] at hj
      exact ⟨id, r, ro, k, es, hs, h1, h2, hj.symm⟩
    · cases hj
  have notrw : ∀ {j : Nat} {c : Blk}, mget (roMem sel M sel) j = some c → ¬ c.rw := fun hj => by
    obtain ⟨id, r, ro, k, es, _, _, _, rfl⟩ := hsub hj
    simp [Blk.ren, Blk.asRo, Blk.rw]
  have hM0 : MR S.errT eb (φ.sub sel) (mget (roMem sel M sel)) (fun b => w.heap.size ≤ b) w := by
    refine ⟨fun j c hj => ?_, fun j c hj => ?_, fun j c hj hc => absurd hc (notrw hj), fun j j' c c' hj _ _ hc => absurd hc (notrw hj)⟩
    · obtain ⟨id, r, ro, k, es, hs, h1, _, _⟩ := hsub hj
      exact ⟨_, hs, hdomS hs⟩
    · obtain ⟨id, r, ro, k, es, hs, h1, h2, rfl⟩ := hsub hj
      obtain ⟨o, ho, hbr⟩ := hM.blk id _ h1
      refine ⟨o, by rw [hblk hs]; exact ho, ?_⟩
      have := br_ren (moves_sub (sel := sel)) (hM.dom id _ h1) (isIn_iff.2 ⟨r, List.mem_of_getElem? hs⟩) h2 hbr true
      rw [pos_at hdist hs] at this
      exact this
  have hb0 : ∀ j, (φ.sub sel).dom j → j < (roMem sel M sel).length := by
    rintro j ⟨p, hp, _⟩
    rw [ro_len]
    exact (List.getElem?_eq_some_iff.1 hp).1
  refine UponV.mono ?_ (h eb (φ.sub sel) _ w w us (hA.fresh hk) (vrs_ren moves_sub hus hargs) hM0 (.refl fun _ h => h) hb0)
  rintro r w' ⟨φ', v', m', rfl, _, hr, _, hk', _⟩
  exact ⟨vr_dom hv hr φ, hM.over hk', hk.over hk'⟩

end AH
