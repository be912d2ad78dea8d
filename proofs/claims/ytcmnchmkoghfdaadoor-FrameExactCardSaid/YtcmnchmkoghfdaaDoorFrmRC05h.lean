import Derived.Test.YtcmnchmkoghfdaaDoorJoinMC05h
open Go AH
set_option linter.unusedSimpArgs false
set_option maxRecDepth 100000
namespace Go.Proofs.YtcmnchmkoghfdaaDoor.C05h
/- frame.Read. -/
theorem joinS_sz (l : List ByteArray) (seq : Int) (n : Nat) : ∀ (m i : Nat) (acc : ByteArray), (joinS l seq n m i acc).2 = -1 → (joinS l seq n m i acc).1.size = acc.size + 56 * m
  | 0, i, acc, _ => by simp [joinS]
  | m + 1, i, acc, h => by
    unfold joinS at h ⊢
    cases hb : badJ l seq n i
    · rw [hb] at h
      simp only [cond_false] at h ⊢
      rw [joinS_sz l seq n m (i + 1) _ h, ByteArray.size_append]
      obtain ⟨s, hs, h64⟩ := badJ_ok hb
      have : (((l[i]?).getD ⟨#[]⟩).extract 0 56).size = 56 := by
        rw [hs, Option.getD_some, ByteArray.size_extract]; omega
      omega
    · rw [hb] at h
      simp only [cond_true] at h
      omega
theorem joinS_at (l : List ByteArray) (seq : Int) (n : Nat) : ∀ (m i : Nat) (acc : ByteArray), (joinS l seq n m i acc).2 = -1 ∨ 0 ≤ (joinS l seq n m i acc).2
  | 0, i, acc => .inl rfl
  | m + 1, i, acc => by
    unfold joinS
    cases badJ l seq n i
    · exact joinS_at l seq n m (i + 1) _
    · right; show (0 : Int) ≤ (i : Int); omega
/-- What joined gives. -/
def jnZ (l : List ByteArray) (seq : Int) (n : Nat) : ByteArray × Int := joinS l seq n n 0 ⟨#[]⟩
def jnQ (n id : Nat) (seq k : Int) : Option Blk → Option (AV × List Nat)
  | some (.row _ 1 es) => if n = es.length ∧ n ≤ 1048576 ∧ 0 ≤ k ∧ k ≤ 1000 then (cStr.decL es).map fun l => (.tup [.str (jnZ l seq k.toNat).1, .int .i64 (jnZ l seq k.toNat).2], [id]) else none
  | _ => none
def jnT : RT := fun args M => match args with
  | [.slc id 0 n _, .int .i64 seq, .int .i64 k] => jnQ n id seq k (M id)
  | _ => none
theorem jnT_p {id n : Nat} {cp : Option Nat} {seq k : Int} {M : Nat → Option Blk} : jnT [.slc id 0 n cp, .int .i64 seq, .int .i64 k] M = jnQ n id seq k (M id) := rfl
theorem jnQ_eq {l : List ByteArray} {id : Nat} {ro : Bool} {seq : Int} {k : Nat} (hl : l.length ≤ 1048576) (hk : k ≤ 1000) : jnQ l.length id seq (k : Int) (some (.row ro 1 (l.map strC))) = some (.tup [.str (jnZ l seq k).1, .int .i64 (jnZ l seq k).2], [id]) := by
  have hd : cStr.decL (l.map strC) = some l := cStr.decL_map l
  have h2 : (0 : Int) ≤ (k : Int) := by omega
  have h3 : (k : Int) ≤ 1000 := by omega
  simp only [jnQ, hd, List.length_map, hl, h2, h3, and_self, if_true, Option.map_some, Int.toNat_natCast]
theorem jnF_ok (seq : Int) (n : Nat) (hn : n ≤ 1000) : ReadF S0 46 (rtPre 1 cStr (cSub1 (cC (aI .i64) (cC (aI .i64) c0)) (fun x => x.1 = seq ∧ x.2.1 = n)) fun l _ => .tup [.str (jnZ l seq n).1, .int .i64 (jnZ l seq n).2]) :=
  rtPre_ok errs0 fun l b hl => ⟨rfl, by
    obtain ⟨⟨a, b, u⟩, h⟩ := b
    have h1 : a = seq := h.1
    have h2 : b = (n : Int) := h.2
    show CallA1 S0 _ (.slc 0 0 l.length none :: [.int .i64 a, .int .i64 b]) _ _
    rw [h1, h2]
    exact joined_ok l hl seq n hn⟩
theorem jnT_ok : ReadF S0 46 jnT := by
  intro args M v foot e
  unfold jnT at e
  split at e
  · rename_i id n cp seq k
    unfold jnQ at e
    split at e
    · rename_i ro es hrow
      split at e
      · rename_i hc
        obtain ⟨h1, h2, h3, h4⟩ := hc
        cases hl : cStr.decL es with
        | none => rw [hl] at e; cases e
        | some l =>
          rw [hl] at e
          simp only [Option.map_some, Option.some.injEq, Prod.mk.injEq] at e
          obtain ⟨rfl, rfl⟩ := e
          obtain rfl := cStr.decL_ok hl
          obtain ⟨K, rfl⟩ := Int.eq_ofNat_of_zero_le h3
          have hK : K ≤ 1000 := by omega
          simp only [List.length_map] at h1
          subst h1
          simp only [Int.toNat_natCast]
          have key := jnF_ok seq K hK [.slc id 0 l.length cp, .int .i64 seq, .int .i64 K] M (.tup [.str (jnZ l seq K).1, .int .i64 (jnZ l seq K).2]) [id] (by
            rw [rtPre_p, hrow]
            have hd : (cSub1 (cC (aI .i64) (cC (aI .i64) c0)) (fun x => x.1 = seq ∧ x.2.1 = (K : Int))).dec [.int .i64 seq, .int .i64 K] = some ⟨(seq, (K : Int), ()), rfl, rfl⟩ := cSub1_dec ⟨rfl, rfl⟩ rfl
            rw [hd]
            exact rtPQ_eq1 (c := cStr) h2)
          refine ⟨fun M' hM' => ?_, key.2⟩
          have h5 : M' id = M id := hM' id (by simp)
          rw [jnT_p, h5, hrow]
          exact jnQ_eq h2 hK
      · cases e
    · cases e
  · cases e
end Go.Proofs.YtcmnchmkoghfdaaDoor.C05h
