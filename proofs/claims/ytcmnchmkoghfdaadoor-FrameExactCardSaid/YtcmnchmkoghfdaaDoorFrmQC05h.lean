import Derived.Test.YtcmnchmkoghfdaaDoorFrmPC05h
open Go AH
set_option linter.unusedSimpArgs false
namespace Go.Proofs.YtcmnchmkoghfdaaDoor.C05h
theorem tl_eq {a b : ByteArray} (h : (a.toList == b.toList) = true) : a = b := by
  have h1 := eq_of_beq h
  rw [ByteArray.toList_eq, ByteArray.toList_eq] at h1
  exact ByteArray.ext (Array.ext' h1)
theorem tl_ne {a b : ByteArray} (h : a ≠ b) : (a.toList == b.toList) = false := by
  cases hc : (a.toList == b.toList)
  · rfl
  · exact absurd (tl_eq hc) h
theorem more_in : ∀ (l : List UInt8) (n : Int), 0 ≤ n → n < 4294967296 → 0 ≤ moreL n l ∧ moreL n l < 4294967296
  | [], n, h0, h1 => ⟨h0, h1⟩
  | b :: r, n, _, _ => by
    have : 0 ≤ moreB n b ∧ moreB n b < 4294967296 := by
      unfold moreB
      rw [IntKind.wrap_u32]; omega
    exact more_in r _ this.1 this.2
theorem sumZ_in (d : ByteArray) : 0 ≤ sumZ d ∧ sumZ d < 4294967296 := more_in _ 1 (by decide) (by decide)
theorem rep_z (k : Nat) : allZ (repS ⟨#[0]⟩ k) := by
  intro b hb
  have hb' : b ∈ Lib.repeatL [0] k := by simpa [repS] using hb
  induction k with
  | zero => cases hb'
  | succ k ih =>
    simp only [Lib.repeatL, List.mem_append, List.mem_singleton] at hb'
    rcases hb' with h | h
    · exact h
    · exact ih (by simpa [repS] using h) h
theorem trim_z {s : ByteArray} (h : allZ s) : trim0 s = ⟨#[]⟩ := by
  have hz : trN s 0 s.size = 0 := trN_zero s s.size fun j hj => by
    have hj' : j < s.data.toList.length := hj
    rw [List.getD_eq_getElem?_getD, List.getElem?_eq_getElem hj']
    exact h _ (List.getElem_mem hj')
  unfold trim0
  rw [hz]
  cases hc : s.toList == (⟨#[]⟩ : ByteArray).toList
  · simp only [cond_false]
    apply ByteArray.ext
    simp [ByteArray.data_extract]
  · simp only [cond_true]
    exact tl_eq hc
theorem full_eq (d : ByteArray) : fullS d = num4 (IntKind.u64.wrap (d.size : Int)) ++ (num4 (IntKind.u64.wrap (sumZ d)) ++ (d ++ repS ⟨#[0]⟩ (padN d))) := by
  rw [fullS, headS, ByteArray.append_assoc, ByteArray.append_assoc]
theorem full_data {d : ByteArray} (h : d.size ≤ 6000) : datZ (fullS d) = (d, true) := by
  have hle : 8 + d.size ≤ sizeN d.size * 56 := by unfold sizeN; omega
  have hp : padN d = sizeN d.size * 56 - (8 + d.size) := by rw [padN, head_sz]
  have e0 : (fullS d).extract 0 4 = num4 (IntKind.u64.wrap (d.size : Int)) := by
    rw [full_eq, ex_left (by rw [num4_sz]; exact Nat.le_refl _)]; exact ex_all rfl
  have e4 : (fullS d).extract 4 8 = num4 (IntKind.u64.wrap (sumZ d)) := by
    rw [full_eq, ex_right (by rw [num4_sz]; exact Nat.le_refl _), num4_sz, ex_left (by rw [num4_sz]; exact Nat.le_refl _)]; exact ex_all rfl
  have e8 : (fullS d).extract 8 (8 + d.size) = d := by
    rw [full_eq, ex_right (by rw [num4_sz]; omega), num4_sz, ex_right (by rw [num4_sz]; omega), num4_sz, ex_left (by omega)]
    rw [show 8 - 4 - 4 = 0 from rfl]; exact ex_all (by omega)
  have er : (fullS d).extract (8 + d.size) (fullS d).size = repS ⟨#[0]⟩ (padN d) := by
    rw [full_sz, full_eq, ex_right (by rw [num4_sz]; omega), num4_sz, ex_right (by rw [num4_sz]; omega), num4_sz, ex_right (by omega)]
    rw [show 8 + d.size - 4 - 4 - d.size = 0 by omega]; exact ex_all (by rw [repS_sz]; omega)
  obtain ⟨z1, z2⟩ := sumZ_in d
  have v0 : valS ((fullS d).extract 0 4) = (d.size : Int) := by rw [e0, u64_id (by omega) (by omega)]; exact val_num4 (by omega) (by omega)
  have v4 : valS ((fullS d).extract 4 8) = sumZ d := by rw [e4, u64_id z1 z2]; exact val_num4 z1 z2
  have c1 : decide ((d.size : Int) > 6000) = false := decide_eq_false (by omega)
  have c2 : decide ((d.size : Int) > ((fullS d).size : Int) - 8) = false := decide_eq_false (by rw [full_sz]; omega)
  have hd : datT (fullS d) d.size = d := e8
  have w : IntKind.i64.wrap (sumZ d) = sumZ d := by rw [IntKind.wrap_i64]; omega
  have c3 : (((sizeN d.size * 56 : Nat) : Int) == ((fullS d).size : Int)) = true := by rw [full_sz]; exact beq_self_eq_true _
  have hq : datQ (fullS d) d.size = true := by
    rw [datQ, hd, er, trim_z (rep_z _), v4, w, c3, tl_self, cond_true, cond_true, beq_self_eq_true]
  rw [datZ, v0, c1, c2, cond_false, cond_false, Int.toNat_natCast, hd, hq]
/-- A text's blocks, whatever stands behind. -/
theorem read_back {seq : Int} {d : ByteArray} (h1 : 1 ≤ seq) (h2 : seq ≤ 2147483647) (h3 : d.size ≤ 6000) (r : List ByteArray) : rdZ (blkL seq d (sizeN d.size) ++ r) = ⟨d, seq, (sizeN d.size : Int), -1⟩ := by
  obtain ⟨s1, s2⟩ := sizeN_le h3
  have hf := blk_first h1 h2 h3 (sizeN d.size) (by omega) r
  have hj : jnZ (blkL seq d (sizeN d.size) ++ r) seq (sizeN d.size) = (fullS d, -1) := by
    have := blk_join (seq := seq) (d := d) (sizeN d.size) r rfl (sizeN d.size) 0 (by omega)
    rw [Nat.zero_mul] at this
    have e : (fullS d).extract 0 0 = ⟨#[]⟩ := by apply ByteArray.ext; simp [ByteArray.data_extract]
    rw [e] at this
    exact this
  rw [rdZ, hf]
  simp only [Int.toNat_natCast, hj, cond_true, full_data h3]
  rfl
end Go.Proofs.YtcmnchmkoghfdaaDoor.C05h
