import Derived.Test.YtcmnchmkoghfdaaDoorJoinKC05h
open Go Go.RowKit
set_option linter.unusedSimpArgs false
set_option maxRecDepth 100000
namespace Go.Proofs.YtcmnchmkoghfdaaDoor.C05h
/- frame.joined, by the kit. -/
theorem badJ_ok {l : List ByteArray} {seq : Int} {n i : Nat} (h : badJ l seq n i = false) : ∃ s, l[i]? = some s ∧ s.size = 64 := by
  unfold badJ at h
  split at h
  · rename_i s hs
    simp only [Bool.or_eq_false_iff] at h
    have : (s.size : Int) = 64 := by simpa using h.1
    exact ⟨s, hs, by omega⟩
  · cases h
def jnMu (n : Nat) : Value → Nat
  | .int _ k => n - k.toNat
  | _ => 0
/-- What holds at the loop's head. -/
def jnRel (l : List ByteArray) (seq : Int) (n : Nat) (w : World) (tv : Value) (wr : World) : Prop :=
  ∃ (i : Nat) (acc : ByteArray), tv = .int .i64 i ∧ i ≤ n ∧ joinS l seq n (n - i) i acc = joinS l seq n n 0 ⟨#[]⟩ ∧ acc.size ≤ 56 * i ∧ KeepW w wr ∧ Lib.IsBuilderF (Tryd.lays156_ren.t 72) (Tryd.lays156_ren.t 5) w.heap.size w.heap.size (Lib.byteCells acc.data.toList) wr
theorem joinedK {eb : Nat → Addr} (l : List ByteArray) (hl : l.length ≤ 1048576) (cp : Nat) (ad : Option Addr) (seq : Int) (n : Nat) (hn : n ≤ 1000) {φ : AH.Emb} (w : World)
    (hA : AH.Amb S0 eb (fun b => w.heap.size ≤ b) w) (hM : AH.MR S0.errT eb φ (AH.mget [some (.row true 1 (l.map strC))]) (fun b => w.heap.size ≤ b) w) (hd : ∀ id, φ.dom id → id < 1)
    (h0 : AH.VR S0.errT eb φ (.slc 0 0 l.length (some cp)) (.slice ad l.length cp)) (hcell : ∀ (j : Nat) x, l[j]? = some x → ∃ bk off, ad = some ⟨bk, off, none⟩ ∧ w.cell? ⟨bk, off + j, none⟩ = some (.string x) ∧ bk < w.heap.size) :
    Calls Tryd.prog 46 #[.slice ad l.length cp, .int .i64 seq, .int .i64 n] w fun e w' => e = .returned (.tuple #[.string (joinS l seq n n 0 ⟨#[]⟩).1, .int .i64 (joinS l seq n n 0 ⟨#[]⟩).2]) ∧ KeepW w w' := by
  go_enter Tryd.func46, Tryd.ntmps46
  go_wp2
  go_loopw [11] (jnRel l seq n w) (fun tv _ => jnMu n tv)
  case atStart =>
    have hb0 : Below w.heap.size w (w.alloc (.cells #[.pointer none, .slice none 0 0] (Tryd.lays156_ren.t 72))) := (Below.refl _ w).alloc (Nat.le_refl _) _
    refine ⟨0, ⟨#[]⟩, rfl, Nat.zero_le _, rfl, Nat.zero_le _, keep_below (.refl fun x hx => hx) hb0, .inl ⟨Nat.le_refl _, .slice none 0 0, ?_, World.ownsRowF_nil _ _ _ _, by simp [Value.ownBlock]⟩⟩
    show (w.heap.push _)[w.heap.size]? = _
    rw [Array.getElem?_push, if_pos rfl]
    rfl
  case round =>
    obtain ⟨i, acc, rfl, hi, hj, hsz, hkw, hbld⟩ := hrel
    by_cases hin : i < n
    · have hlt : decide ((i : Int) < (n : Int)) = true := by simp only [decide_eq_true_eq]; omega
      go_wp2
      refine regJ l hl cp seq n i (φ := φ) (w := w) (b := w.heap.size) ?_ ?_ hA hM hd hkw ?_ ?_ ?_ ?_ ?_ ?_ ?_ ?_ ?_ ?_ ?_ ?_ ?_
      · rfl
      · rfl
      · exact h0
      · rfl
      · rfl
      · rfl
      · rfl
      · rfl
      · rfl
      · rfl
      · rfl
      · rfl
      · rfl
      · kernel_rfl
      rintro ⟨a', df⟩ w' s1 s2 hk' g37 g0 g1 g2 g8 g9 g10 g11 g3 g4 g5 g46
      simp only at s1 s2 g37 g0 g1 g2 g8 g9 g10 g11 g3 g4 g5 g46
      subst s2
      obtain ⟨x0, x1, x2, x3, x4, x5, x6, x7, x8, x9, x10, x11, x12, x13, x14, x15, x16, x17, x18, x19, x20, x21, x22, x23, x24, x25, x26, x27, x28, x29, x30, x31, x32, x33, x34, x35, x36, x37, x38, x39, x40, x41, x42, x43, x44, x45, x46, rfl⟩ := arr47 a' s1
      obtain rfl : x37 = _ := g37
      obtain rfl : x1 = _ := g1
      obtain rfl : x2 = _ := g2
      obtain rfl : x8 = _ := g8
      obtain rfl : x9 = _ := g9
      obtain rfl : x10 = _ := g10
      obtain rfl : x11 = _ := g11
      obtain rfl : x3 = _ := g3
      obtain rfl : x4 = _ := g4
      obtain rfl : x5 = _ := g5
      obtain rfl : x46 = _ := g46
      have hkw' := keep_keep hkw hk'
      have hbld' := isBld_keep hbld fun k hk => hk'.kept k hk (by omega)
      cases hb : badJ l seq n i
      · obtain ⟨s, hs, hs64⟩ := badJ_ok hb
        have hne : l ≠ [] := fun q => by rw [q] at hs; cases hs
        obtain rfl : x0 = _ := g0 hne
        obtain ⟨bk, off, rfl, hc, hbk⟩ := hcell i s hs
        have hil : i < l.length := (List.getElem?_eq_some_iff.1 hs).1
        have hc' : w'.cell? ⟨bk, off + i, none⟩ = some (.string s) := by
          have : w'.heap[bk]? = w.heap[bk]? := hkw'.kept bk hbk (by omega)
          simp only [World.cell?, this] at hc ⊢
          exact hc
        go_wp2_with (go_at_call 55; refine (bldWrite w.heap.size w.heap.size _ _ w' hbld' ?_ hkw'.size).mono ?_)
        · have : (Lib.byteCells acc.data.toList).length = acc.size := by simp [Lib.byteCells]
          omega
        · rintro e W2 rfl hB2 hbel2
          have hkw2 := keep_below hkw' hbel2
          have hbld2 : Lib.IsBuilderF (Tryd.lays156_ren.t 72) (Tryd.lays156_ren.t 5) w.heap.size w.heap.size (Lib.byteCells (acc ++ s.extract 0 56).data.toList) W2 := by
            have e : Lib.byteCells (acc ++ s.extract 0 56).data.toList = Lib.byteCells acc.data.toList ++ Lib.strCells (s.extract 0 56) := by
              simp [Lib.byteCells, Lib.strCells, ByteArray.data_append]
            rw [e]
            exact .inr hB2
          have hj2 : joinS l seq n (n - (i + 1)) (i + 1) (acc ++ s.extract 0 56) = joinS l seq n n 0 ⟨#[]⟩ := by
            rw [← hj, show n - i = (n - (i + 1)) + 1 by omega, joinS, hb, cond_false, hs]
            rfl
          have hw1 : IntKind.i64.wrap ((i : Int) + 1) = ((i + 1 : Nat) : Int) := by rw [IntKind.wrap_i64]; omega
          have hsz2 : (acc ++ s.extract 0 56).size ≤ 56 * (i + 1) := by
            rw [ByteArray.size_append, ByteArray.size_extract]; omega
          go_wp2
          refine ⟨⟨i + 1, _, by rw [Int.natCast_add]; rfl, by omega, hj2, hsz2, hkw2, hbld2⟩, ?_⟩
          simp only [jnMu]
          omega
      · go_wp2
        go_ret2
        refine ⟨?_, hkw'⟩
        rw [← hj, show n - i = (n - i - 1) + 1 by omega, joinS, hb]
        rfl
    · obtain rfl : i = n := by omega
      have hlt : decide ((i : Int) < (i : Int)) = false := by simp
      rw [Nat.sub_self] at hj
      have hres : joinS l seq i i 0 ⟨#[]⟩ = (acc, -1) := hj.symm
      go_wp2_with (go_at_call 56; refine (Tryd.Builder_String_any_f w.heap.size w.heap.size acc.data.toList wr hbld hkw.size).mono ?_)
      rintro e W2 ⟨rfl, _, hbel2⟩
      have hkw2 := keep_below hkw hbel2
      go_wp2
      go_ret2
      refine ⟨?_, hkw2⟩
      rw [hres]
      rfl
end Go.Proofs.YtcmnchmkoghfdaaDoor.C05h
