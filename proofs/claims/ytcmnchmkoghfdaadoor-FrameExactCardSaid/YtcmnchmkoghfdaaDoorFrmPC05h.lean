import Derived.Test.YtcmnchmkoghfdaaDoorFrmGC05h
open Go AH
set_option linter.unusedSimpArgs false
namespace Go.Proofs.YtcmnchmkoghfdaaDoor.C05h
/- What was laid is read as it was. -/
theorem ex_left {a b : ByteArray} {i j : Nat} (h : j ≤ a.size) : (a ++ b).extract i j = a.extract i j := by
  apply ByteArray.ext
  simp only [ByteArray.data_extract, ByteArray.data_append, Array.extract_append]
  have h' : j ≤ a.data.size := h
  have : b.data.extract (i - a.data.size) (j - a.data.size) = #[] := by
    rw [Array.extract_eq_empty_iff]; omega
  rw [this, Array.append_empty]
theorem ex_right {a b : ByteArray} {i j : Nat} (h : a.size ≤ i) : (a ++ b).extract i j = b.extract (i - a.size) (j - a.size) := by
  apply ByteArray.ext
  simp only [ByteArray.data_extract, ByteArray.data_append, Array.extract_append]
  have h' : a.data.size ≤ i := h
  have : a.data.extract i j = #[] := by
    rw [Array.extract_eq_empty_iff]; omega
  rw [this, Array.empty_append]
  rfl
theorem ex_all {a : ByteArray} {n : Nat} (h : n = a.size) : a.extract 0 n = a := by rw [h]; exact ByteArray.extract_zero_size
theorem tl_self (a : ByteArray) : (a.toList == a.toList) = true := beq_self_eq_true _
theorem byt_nat (n : Int) (i : Nat) : ((byt n i).toNat : Int) = n / 256 ^ i % 256 := by
  have h0 : 0 ≤ n / 256 ^ i % 256 := Int.emod_nonneg _ (by decide)
  have h1 : n / 256 ^ i % 256 < 256 := Int.emod_lt_of_pos _ (by decide)
  unfold byt
  rw [UInt8.toNat_ofNat_of_lt' (by show _ < 256; omega)]
  omega
theorem val_num4 {n : Int} (h0 : 0 ≤ n) (h1 : n < 4294967296) : valS (num4 n) = n := by
  show val4 (byt n 0) (byt n 1) (byt n 2) (byt n 3) = n
  have e0 := byt_nat n 0
  have e1 := byt_nat n 1
  have e2 := byt_nat n 2
  have e3 := byt_nat n 3
  unfold val4
  simp only [Int.pow_zero, Int.ediv_one, show (256 : Int) ^ 1 = 256 from rfl, show (256 : Int) ^ 2 = 65536 from rfl, show (256 : Int) ^ 3 = 16777216 from rfl] at e0 e1 e2 e3
  omega
theorem val_num2 {n : Int} (h0 : 0 ≤ n) (h1 : n < 65536) : valS (num2 n) = n := by
  show val2 (byt n 0) (byt n 1) = n
  have e0 := byt_nat n 0
  have e1 := byt_nat n 1
  unfold val2
  simp only [Int.pow_zero, Int.ediv_one, show (256 : Int) ^ 1 = 256 from rfl] at e0 e1
  omega
theorem u64_id {n : Int} (h0 : 0 ≤ n) (h1 : n < 4294967296) : IntKind.u64.wrap n = n := by rw [IntKind.wrap_u64]; omega
/- An end's parts. -/
theorem end_seq (a b c : Int) : (endS a b c).extract 0 4 = num4 (IntKind.u64.wrap a) := by
  rw [endS, ByteArray.append_assoc, ex_left (by rw [num4_sz]; exact Nat.le_refl _)]; exact ex_all rfl
theorem end_n (a b c : Int) : (endS a b c).extract 6 8 = num2 (IntKind.u64.wrap c) := by
  rw [endS, ex_right (by rw [ByteArray.size_append, num4_sz, num2_sz]; exact Nat.le_refl _)]
  exact ex_all rfl
theorem end_at (a b c : Int) : (endS a b c).extract 4 6 = num2 (IntKind.u64.wrap b) := by
  rw [endS, ex_left (by rw [ByteArray.size_append, num4_sz, num2_sz]; exact Nat.le_refl _), ex_right (by rw [num4_sz]; exact Nat.le_refl _)]
  exact ex_all rfl
theorem sizeN_le {d : ByteArray} (h : d.size ≤ 6000) : 1 ≤ sizeN d.size ∧ sizeN d.size ≤ 108 := by unfold sizeN; omega
theorem body_sz {d : ByteArray} {i : Nat} (h : i < sizeN d.size) : ((fullS d).extract (i * 56) ((i + 1) * 56)).size = 56 := by
  rw [ByteArray.size_extract, full_sz]; omega
theorem blk_sz {seq : Int} {d : ByteArray} {i : Nat} (h : i < sizeN d.size) : (blkS seq d i).size = 64 := by
  rw [blkS, ByteArray.size_append, body_sz h, endS_sz]
theorem blk_body {seq : Int} {d : ByteArray} {i : Nat} (h : i < sizeN d.size) : (blkS seq d i).extract 0 56 = (fullS d).extract (i * 56) ((i + 1) * 56) := by
  rw [blkS, ex_left (by rw [body_sz h]; exact Nat.le_refl _)]; exact ex_all (body_sz h).symm
theorem blk_end {seq : Int} {d : ByteArray} {i : Nat} (h : i < sizeN d.size) : (blkS seq d i).extract 56 64 = endS seq i (sizeN d.size) := by
  rw [blkS, ex_right (by rw [body_sz h]; exact Nat.le_refl _), body_sz h]; exact ex_all rfl
theorem blk_at {seq : Int} {d : ByteArray} {k i : Nat} (h : i < k) (r : List ByteArray) : (blkL seq d k ++ r)[i]? = some (blkS seq d i) := by
  rw [List.getElem?_append_left (by rw [blkL_len]; exact h)]
  simp [blkL, h]
theorem blk_good {seq : Int} {d : ByteArray} {i k : Nat} (h : i < sizeN d.size) (hk : i < k) (r : List ByteArray) : badJ (blkL seq d k ++ r) seq (sizeN d.size) i = false := by
  have hs := blk_sz (seq := seq) h
  have h64 : (((blkS seq d i).size : Int) != 64) = false := by rw [hs]; rfl
  simp only [badJ, blk_at hk r, h64, Bool.false_or]
  rw [hs, blk_end h, tl_self]; rfl
theorem blk_join {seq : Int} {d : ByteArray} (k : Nat) (r : List ByteArray) (hk : k = sizeN d.size) : ∀ (m i : Nat), i + m = k → joinS (blkL seq d k ++ r) seq (sizeN d.size) m i ((fullS d).extract 0 (i * 56)) = (fullS d, -1)
  | 0, i, h => by
    rw [joinS, ex_all]
    rw [full_sz]; congr 1; omega
  | m + 1, i, h => by
    rw [joinS, blk_good (by omega) (by omega) r, cond_false, blk_at (by omega) r, Option.getD_some, blk_body (by omega)]
    have : (fullS d).extract 0 (i * 56) ++ (fullS d).extract (i * 56) ((i + 1) * 56) = (fullS d).extract 0 ((i + 1) * 56) := by
      rw [ByteArray.extract_append_extract]
      congr 1 <;> omega
    rw [this]
    exact blk_join k r hk m (i + 1) (by omega)
theorem blk_first {seq : Int} {d : ByteArray} (h1 : 1 ≤ seq) (h2 : seq ≤ 2147483647) (h3 : d.size ≤ 6000) (k : Nat) (hk : 0 < k) (r : List ByteArray) : firZ (blkL seq d k ++ r) = (seq, (sizeN d.size : Int), true) := by
  obtain ⟨s1, s2⟩ := sizeN_le h3
  obtain ⟨l, hl⟩ : ∃ l, blkL seq d k ++ r = blkS seq d 0 :: l := by
    have := blk_at (seq := seq) (d := d) hk r
    cases hq : blkL seq d k ++ r with
    | nil => rw [hq] at this; cases this
    | cons x l => rw [hq] at this; simp at this; exact ⟨l, by rw [this]⟩
  have hs := blk_sz (seq := seq) (d := d) (i := 0) (by omega)
  have h64 : (((blkS seq d 0).size : Int) != 64) = false := by rw [hs]; rfl
  have he : tailE (blkS seq d 0) = endS seq 0 (sizeN d.size) := blk_end (by omega)
  have e1 : valS ((endS seq 0 (sizeN d.size)).extract 0 4) = seq := by rw [end_seq, u64_id (by omega) (by omega)]; exact val_num4 (by omega) (by omega)
  have e2 : valS ((endS seq 0 (sizeN d.size)).extract 6 8) = (sizeN d.size : Int) := by rw [end_n, u64_id (by omega) (by omega)]; exact val_num2 (by omega) (by omega)
  have c1 : decide (seq ≥ 1) = true := decide_eq_true h1
  have c2 : decide (seq ≤ 2147483647) = true := decide_eq_true h2
  have c3 : decide ((sizeN d.size : Int) ≥ 1) = true := decide_eq_true (by omega)
  have c4 : decide ((sizeN d.size : Int) ≤ 108) = true := decide_eq_true (by omega)
  rw [hl, firZ, firS, h64, cond_false, he, e1, e2, firB, c1, c2, c3, c4, cond_true, cond_true, cond_true, cond_true, tl_self]
end Go.Proofs.YtcmnchmkoghfdaaDoor.C05h
