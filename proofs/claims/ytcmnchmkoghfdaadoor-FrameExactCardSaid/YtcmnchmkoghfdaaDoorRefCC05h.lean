import Derived.Test.YtcmnchmkoghfdaaDoorRefBC05h
open Go AH
set_option linter.unusedSimpArgs false
namespace Go.Proofs.YtcmnchmkoghfdaaDoor.C05h
/- What Read asks and what the reference asks are the same: the plain law. -/
theorem byt_of {n : Int} {i : Nat} {b : UInt8} (h : n / 256 ^ i % 256 = (b.toNat : Int)) : byt n i = b := by
  unfold byt
  rw [h, Int.toNat_natCast, UInt8.ofNat_toNat]
theorem num_val4 {s : ByteArray} (h : s.size = 4) : num4 (valS s) = s := by
  obtain ⟨⟨l⟩⟩ := s
  match l, h with
  | [a, b, c, d], _ =>
    have ha := a.toNat_lt; have hb := b.toNat_lt; have hc := c.toNat_lt; have hd := d.toNat_lt
    show num4 (val4 a b c d) = _
    have e0 : byt (val4 a b c d) 0 = a := byt_of (by rw [Int.pow_zero, Int.ediv_one]; unfold val4; omega)
    have e1 : byt (val4 a b c d) 1 = b := byt_of (by rw [show (256 : Int) ^ 1 = 256 from rfl]; unfold val4; omega)
    have e2 : byt (val4 a b c d) 2 = c := byt_of (by rw [show (256 : Int) ^ 2 = 65536 from rfl]; unfold val4; omega)
    have e3 : byt (val4 a b c d) 3 = d := byt_of (by rw [show (256 : Int) ^ 3 = 16777216 from rfl]; unfold val4; omega)
    rw [num4, e0, e1, e2, e3]
theorem num_val2 {s : ByteArray} (h : s.size = 2) : num2 (valS s) = s := by
  obtain ⟨⟨l⟩⟩ := s
  match l, h with
  | [a, b], _ =>
    have ha := a.toNat_lt; have hb := b.toNat_lt
    show num2 (val2 a b) = _
    have e0 : byt (val2 a b) 0 = a := byt_of (by rw [Int.pow_zero, Int.ediv_one]; unfold val2; omega)
    have e1 : byt (val2 a b) 1 = b := byt_of (by rw [show (256 : Int) ^ 1 = 256 from rfl]; unfold val2; omega)
    rw [num2, e0, e1]
theorem ex_all2 {a : ByteArray} {i j : Nat} (h : i = 0) (h2 : a.size ≤ j) : a.extract i j = a := by
  subst h
  rw [show a.extract 0 j = a.extract 0 a.size from by apply ByteArray.ext; simp [ByteArray.data_extract]; omega]
  exact ByteArray.extract_zero_size
theorem ex_join {a : ByteArray} {i j k : Nat} (h : i ≤ j) (h2 : j ≤ k) : a.extract i j ++ a.extract j k = a.extract i k := by
  rw [ByteArray.extract_append_extract]; congr 1 <;> omega
theorem num2_0 : num2 0 = ⟨#[0, 0]⟩ := rfl
/-- An end whose place is 0. -/
theorem end_of {e : ByteArray} (h : e.size = 8) : (e.toList == (endS (valS (e.extract 0 4)) 0 (valS (e.extract 6 8))).toList) = (valS (e.extract 4 6) == 0) := by
  have z4 : (e.extract 0 4).size = 4 := by rw [ByteArray.size_extract]; omega
  have z6 : (e.extract 4 6).size = 2 := by rw [ByteArray.size_extract]; omega
  have z8 : (e.extract 6 8).size = 2 := by rw [ByteArray.size_extract]; omega
  obtain ⟨a1, a2⟩ := valS_in (s := e.extract 0 4) (.inr z4)
  obtain ⟨b1, b2⟩ := valS_in (s := e.extract 6 8) (.inl z8)
  have he : e = e.extract 0 4 ++ e.extract 4 6 ++ e.extract 6 8 := by
    rw [ex_join (by omega) (by omega), ex_join (by omega) (by omega)]
    exact (ex_all2 rfl (by omega)).symm
  have hE : endS (valS (e.extract 0 4)) 0 (valS (e.extract 6 8)) = e.extract 0 4 ++ num2 0 ++ e.extract 6 8 := by
    rw [endS, u64_id a1 a2, u64_id b1 b2, show IntKind.u64.wrap 0 = 0 by decide, num_val4 z4, num_val2 z8]
  rw [hE]
  cases hv : valS (e.extract 4 6) == 0
  · refine tl_ne fun hq => ?_
    have : e.extract 4 6 = num2 0 := by
      have h2 : e.extract 4 6 = (e.extract 0 4 ++ num2 0 ++ e.extract 6 8).extract 4 6 := congrArg (fun x : ByteArray => x.extract 4 6) hq
      rw [h2, ex_left (by rw [ByteArray.size_append, z4, num2_sz]; exact Nat.le_refl _), ex_right (by rw [z4]; exact Nat.le_refl _), z4]
      exact ex_all rfl
    rw [this] at hv
    cases hv
  · have hv0 : valS (e.extract 4 6) = 0 := eq_of_beq hv
    have : e.extract 4 6 = num2 0 := by rw [← num_val2 z6, hv0]
    rw [← this, ← he]
    exact tl_self e
/- Zeros alone are trimmed to nothing. -/
theorem trN_z {s : ByteArray} : ∀ k, trN s 0 k = 0 → ∀ j, j < k → s.data.toList.getD j 0 = 0
  | 0, _, j, hj => by omega
  | k + 1, h, j, hj => by
    rw [trN] at h
    cases hb : s.data.toList.getD k 0 == 0
    · rw [hb] at h; simp at h
    · rw [hb, cond_true] at h
      rcases Nat.lt_or_ge j k with c | c
      · exact trN_z k h j c
      · obtain rfl : j = k := by omega
        exact eq_of_beq hb
theorem trN_top {s : ByteArray} : ∀ k m, trN s 0 k = m + 1 → m < k ∧ s.data.toList.getD m 0 ≠ 0
  | 0, m, h => by simp [trN] at h
  | k + 1, m, h => by
    rw [trN] at h
    cases hb : s.data.toList.getD k 0 == 0
    · rw [hb, cond_false] at h
      obtain rfl : m = k := by omega
      exact ⟨by omega, by simpa using hb⟩
    · rw [hb, cond_true] at h
      have := trN_top k m h
      exact ⟨by omega, this.2⟩
theorem tlN_all {s : ByteArray} : ∀ f i, i + f ≤ tlN s 0 i f → ∀ j, i ≤ j → j < i + f → s.data.toList.getD j 0 = 0
  | 0, i, _, j, h1, h2 => by omega
  | f + 1, i, h, j, h1, h2 => by
    rw [tlN] at h
    cases hb : s.data.toList.getD i 0 == 0
    · rw [hb, cond_false] at h; omega
    · rw [hb, cond_true] at h
      rcases Nat.lt_or_ge i j with c | c
      · exact tlN_all f (i + 1) (by omega) j c (by omega)
      · obtain rfl : j = i := by omega
        exact eq_of_beq hb
theorem trim_empty {s : ByteArray} (h : trim0 s = ⟨#[]⟩) : ∀ j, j < s.size → s.data.toList.getD j 0 = 0 := by
  unfold trim0 at h
  cases hc : s.toList == (⟨#[]⟩ : ByteArray).toList
  · rw [hc, cond_false] at h
    cases hm : trN s 0 s.size with
    | zero => exact trN_z s.size hm
    | succ m =>
      rw [hm] at h
      obtain ⟨hlt, hne⟩ := trN_top s.size m hm
      have hsz : (s.extract 0 (m + 1)).size = m + 1 := by rw [ByteArray.size_extract]; omega
      have h0 := congrArg ByteArray.size h
      rw [ByteArray.size_extract, hsz] at h0
      rw [Nat.min_self, show (⟨#[]⟩ : ByteArray).size = 0 from rfl] at h0
      have h0' : m + 1 ≤ tlN (s.extract 0 (m + 1)) 0 0 (m + 1) := by omega
      have := tlN_all (s := s.extract 0 (m + 1)) (m + 1) 0 (by omega) m (Nat.zero_le _) (by omega)
      rw [ex_get s (k := m + 1) (j := m) hlt (Nat.lt_succ_self _)] at this
      exact absurd this hne
  · have : s = ⟨#[]⟩ := tl_eq hc
    subst this
    intro j hj
    cases hj
theorem zeros_eq {s : ByteArray} (h : ∀ j, j < s.size → s.data.toList.getD j 0 = 0) : s = repS ⟨#[0]⟩ s.size := by
  apply ByteArray.ext; apply Array.ext'
  rw [repS_l]
  refine List.ext_getElem (by rw [List.length_replicate]; rfl) fun j h1 h2 => ?_
  have := h j h1
  rw [List.getD_eq_getElem?_getD, List.getElem?_eq_getElem h1] at this
  rw [List.getElem_replicate]
  exact this
/-- Bodies that pass are a text's own. -/
theorem dat_full {s : ByteArray} {k : Nat} (h8 : 8 + k ≤ s.size) (hk6 : k ≤ 6000) (hv : valS (s.extract 0 4) = (k : Int)) (hq : datQ s k = true) : fullS (datT s k) = s := by
  have ht : (datT s k).size = k := by rw [datT, ByteArray.size_extract]; omega
  unfold datQ at hq
  rw [ht] at hq
  cases c1 : ((sizeN k * 56 : Nat) : Int) == (s.size : Int)
  · rw [c1] at hq; cases hq
  · cases c2 : (trim0 (s.extract (8 + k) s.size)).toList == (⟨#[]⟩ : ByteArray).toList
    · rw [c1, c2] at hq; cases hq
    · rw [c1, c2, cond_true, cond_true] at hq
      have hs : sizeN k * 56 = s.size := by have := eq_of_beq c1; omega
      obtain ⟨z1, z2⟩ := sumZ_in (datT s k)
      have hsum : valS (s.extract 4 8) = sumZ (datT s k) := by
        have := eq_of_beq hq
        rw [this, IntKind.wrap_i64]; omega
      have hz := zeros_eq (trim_empty (tl_eq c2))
      have hrs : (s.extract (8 + k) s.size).size = s.size - (8 + k) := by rw [ByteArray.size_extract]; omega
      rw [hrs] at hz
      have e0 : num4 (k : Int) = s.extract 0 4 := by rw [← hv]; exact num_val4 (by rw [ByteArray.size_extract]; omega)
      have e4 : num4 (sumZ (datT s k)) = s.extract 4 8 := by rw [← hsum]; exact num_val4 (by rw [ByteArray.size_extract]; omega)
      have hp : padN (datT s k) = s.size - (8 + k) := by rw [padN, head_sz, ht, hs]
      rw [full_eq, ht, u64_id (n := (k : Int)) (by omega) (by omega), u64_id z1 z2, e0, e4, hp, ← hz]
      rw [datT, ex_join (by omega) (by omega), ex_join (by omega) (by omega), ex_join (by omega) (by omega)]
      refine ex_all2 ?_ ?_ <;> omega
/-- And a text's own pass. -/
theorem dat_of {s : ByteArray} {k : Nat} (hk6 : (datT s k).size ≤ 6000) (hv : valS (s.extract 0 4) = (k : Int)) (hk : k ≤ 6000) (h8 : 8 + k ≤ s.size) (hf : fullS (datT s k) = s) : datQ s k = true := by
  have h := full_data hk6
  rw [hf, datZ, hv, decide_eq_false (by omega : ¬ (k : Int) > 6000), decide_eq_false (by omega : ¬ (k : Int) > (s.size : Int) - 8), cond_false, cond_false, Int.toNat_natCast] at h
  exact congrArg Prod.snd h
end Go.Proofs.YtcmnchmkoghfdaaDoor.C05h
