import Derived.Test.YtcmnchmkoghfdaaDoorFrmQC05h
open Go AH
set_option linter.unusedSimpArgs false
namespace Go.Proofs.YtcmnchmkoghfdaaDoor.C05h
/- What Read says of a row whose last written block is torn. -/
def z64 : ByteArray := ⟨(List.replicate 64 (0 : UInt8)).toArray⟩
theorem z64_sz : z64.size = 64 := rfl
def tornS (s : ByteArray) (t : Nat) : ByteArray := s.extract 0 t ++ z64.extract t 64
theorem tornS_sz {s : ByteArray} {t : Nat} (h : s.size = 64) (ht : t ≤ 64) : (tornS s t).size = 64 := by
  rw [tornS, ByteArray.size_append, ByteArray.size_extract, ByteArray.size_extract, h, z64_sz]; omega
theorem ex_toList (s : ByteArray) (i j : Nat) : (s.extract i j).data.toList = (s.data.toList.take j).drop i := by
  rw [ByteArray.data_extract]; simp [Array.toList_extract, List.extract_eq_take_drop, List.drop_take]
theorem torn_l {s : ByteArray} {t : Nat} : (tornS s t).data.toList = s.data.toList.take t ++ List.replicate (64 - t) 0 := by
  rw [tornS, ByteArray.data_append, Array.toList_append, ex_toList, ex_toList, List.drop_zero]
  congr 1
  have : z64.data.toList = List.replicate 64 0 := rfl
  rw [this, List.take_replicate, List.drop_replicate]
  rfl
theorem ba_ext {a b : ByteArray} (h : a.data.toList = b.data.toList) : a = b := ByteArray.ext (Array.ext' h)
theorem size_l (s : ByteArray) : s.data.toList.length = s.size := rfl
/-- A torn block's end: the first bytes of the block's own end, then zeros. -/
theorem torn_end {s : ByteArray} {t : Nat} (h : s.size = 64) (ht : t ≤ 64) : ((tornS s t).extract 56 64).data.toList = (s.extract 56 64).data.toList.take (t - 56) ++ List.replicate (8 - (t - 56)) 0 := by
  have hl : s.data.toList.length = 64 := h
  rw [ex_toList, ex_toList, torn_l]
  have e1 : s.data.toList.take 64 = s.data.toList := List.take_of_length_le (by omega)
  have e2 : (s.data.toList.take t ++ List.replicate (64 - t) 0).take 64 = s.data.toList.take t ++ List.replicate (64 - t) 0 := List.take_of_length_le (by rw [List.length_append, List.length_take, List.length_replicate]; omega)
  rw [e1, e2, List.drop_append, List.length_take, hl, List.drop_take, List.drop_replicate]
  congr 2
  omega
theorem torn_same {s : ByteArray} {t : Nat} (h : s.size = 64) (ht : t ≤ 64) (h2 : 56 ≤ t) (he : (tornS s t).extract 56 64 = s.extract 56 64) : tornS s t = s := by
  have hl : s.data.toList.length = 64 := h
  apply ba_ext
  have e : ((tornS s t).extract 56 64).data.toList = (s.extract 56 64).data.toList := by rw [he]
  rw [ex_toList, ex_toList] at e
  have e1 : s.data.toList.take 64 = s.data.toList := List.take_of_length_le (by omega)
  have e2 : (tornS s t).data.toList.take 64 = (tornS s t).data.toList := List.take_of_length_le (by rw [size_l, tornS_sz h ht]; omega)
  rw [e1, e2] at e
  rw [← List.take_append_drop 56 (tornS s t).data.toList, ← List.take_append_drop 56 s.data.toList, e]
  congr 1
  rw [torn_l, List.take_append_of_le_length (by rw [List.length_take]; omega), List.take_take]
  congr 1; omega
theorem byt_z {n : Int} {i : Nat} (h : byt n i = 0) : n / 256 ^ i % 256 = 0 := by
  rw [← byt_nat, h]; rfl
theorem end_l (p i n : Int) : (endS p i n).data.toList = [byt (IntKind.u64.wrap p) 0, byt (IntKind.u64.wrap p) 1, byt (IntKind.u64.wrap p) 2, byt (IntKind.u64.wrap p) 3, byt (IntKind.u64.wrap i) 0, byt (IntKind.u64.wrap i) 1, byt (IntKind.u64.wrap n) 0, byt (IntKind.u64.wrap n) 1] := rfl
/-- Zeros are no block's end. -/
theorem end_nz {p i n : Int} (h1 : 1 ≤ p) (h2 : p < 4294967296) : (endS p i n).data.toList ≠ List.replicate 8 0 := by
  rw [end_l, u64_id (by omega) h2]
  intro h
  simp only [List.replicate_succ, List.cons.injEq] at h
  obtain ⟨a, b, c, d, _⟩ := h
  have e0 := byt_z a
  have e1 := byt_z b
  have e2 := byt_z c
  have e3 := byt_z d
  simp only [Int.pow_zero, Int.ediv_one, show (256 : Int) ^ 1 = 256 from rfl, show (256 : Int) ^ 2 = 65536 from rfl, show (256 : Int) ^ 3 = 16777216 from rfl] at e0 e1 e2 e3
  omega
theorem tail_ne {p : Int} {d : ByteArray} {k t : Nat} (h1 : 1 ≤ p) (h2 : p < 4294967296) (hk : k < sizeN d.size) (ht : t ≤ 64) (hne : tornS (blkS p d k) t ≠ blkS p d k) : (tornS (blkS p d k) t).extract 56 64 ≠ endS p k (sizeN d.size) := by
  intro h
  have hs := blk_sz (seq := p) hk
  by_cases h5 : 56 ≤ t
  · exact hne (torn_same hs ht h5 (by rw [h, blk_end hk]))
  · have e := torn_end hs ht
    rw [h, show t - 56 = 0 by omega, List.take_zero, List.nil_append] at e
    exact end_nz h1 h2 e
theorem firB_0 (q : Int) (e : ByteArray) : firB q 0 e = false := by
  rw [firB, show decide ((0 : Int) ≥ 1) = false from rfl]
  generalize decide (q ≥ 1) = x
  generalize decide (q ≤ 2147483647) = y
  cases x <;> cases y <;> simp only [cond_true, cond_false]
theorem firS_no {s : ByteArray} (h : s.size = 64) (hn : valS ((tailE s).extract 6 8) = 0) : (firS s).2.2 = false := by
  have h64 : ((s.size : Int) != 64) = false := by rw [h]; rfl
  rw [firS, h64, cond_false, hn]
  dsimp only
  exact firB_0 (valS ((tailE s).extract 0 4)) (tailE s)
theorem valS_l {s : ByteArray} {a b : UInt8} (h : s.data.toList = [a, b]) : valS s = val2 a b := by unfold valS; rw [h]
theorem byt_1 {n : Int} (h0 : 0 ≤ n) (h : n < 256) : byt n 1 = 0 := by
  have e : n / 256 ^ 1 % 256 = 0 := by rw [show (256 : Int) ^ 1 = 256 from rfl]; omega
  unfold byt; rw [e]; rfl
theorem tail6 {s : ByteArray} {l : List UInt8} (hl : (tailE s).data.toList = l) (h6 : (l.take 8).drop 6 = [0, 0]) : valS ((tailE s).extract 6 8) = 0 := by
  rw [valS_l (s := (tailE s).extract 6 8) (a := 0) (b := 0) (by rw [ex_toList, hl]; exact h6)]; rfl
/- A torn first block is none. -/
theorem first_no {p : Int} {d : ByteArray} {t : Nat} (h3 : d.size ≤ 6000) (ht : t ≤ 64) (hne : tornS (blkS p d 0) t ≠ blkS p d 0) : (firS (tornS (blkS p d 0) t)).2.2 = false := by
  obtain ⟨s1, s2⟩ := sizeN_le h3
  have h0 : 0 < sizeN d.size := by omega
  have hs := blk_sz (seq := p) h0
  refine firS_no (tornS_sz hs ht) ?_
  have e := torn_end hs ht
  rw [blk_end h0] at e
  have eE := end_l p ((0 : Nat) : Int) (sizeN d.size)
  rw [u64_id (n := (sizeN d.size : Int)) (by omega) (by omega), byt_1 (n := (sizeN d.size : Int)) (by omega) (by omega), show byt (IntKind.u64.wrap ((0 : Nat) : Int)) 0 = 0 from rfl, show byt (IntKind.u64.wrap ((0 : Nat) : Int)) 1 = 0 from rfl] at eE
  by_cases h7 : t - 56 ≤ 6
  · refine tail6 (s := tornS (blkS p d 0) t) (l := _) e ?_
    rw [eE]
    generalize t - 56 = j at h7
    match j, h7 with
    | 0, _ => rfl
    | 1, _ => rfl
    | 2, _ => rfl
    | 3, _ => rfl
    | 4, _ => rfl
    | 5, _ => rfl
    | 6, _ => rfl
    | j + 7, h => omega
  · refine absurd (torn_same hs ht (by omega) (ba_ext ?_)) hne
    rw [e, blk_end h0, eE]
    have : t - 56 = 7 ∨ t - 56 = 8 := by omega
    rcases this with h | h <;> rw [h] <;> rfl
theorem zero_no : (firS z64).2.2 = false := firS_no rfl rfl
theorem zero_tail {p i n : Int} (h1 : 1 ≤ p) (h2 : p < 4294967296) : z64.extract 56 64 ≠ endS p i n := by
  intro h
  refine end_nz (i := i) (n := n) h1 h2 ?_
  rw [← h]; rfl
/-- Good blocks, then a bad one. -/
theorem join_bad {l : List ByteArray} {p : Int} {d : ByteArray} {k : Nat} {s : ByteArray} (hg : ∀ j, j < k → l[j]? = some (blkS p d j)) (hk : k < sizeN d.size) (hs : l[k]? = some s) (h64 : s.size = 64) (hb : s.extract 56 64 ≠ endS p k (sizeN d.size)) : ∀ (m i : Nat) (acc : ByteArray), i ≤ k → k < i + m → (joinS l p (sizeN d.size) m i acc).2 = (k : Int)
  | 0, i, acc, h1, h2 => by omega
  | m + 1, i, acc, h1, h2 => by
    rcases Nat.lt_or_ge i k with h | h
    · have hz := blk_sz (seq := p) (d := d) (i := i) (by omega)
      have hq : (((blkS p d i).size : Int) != 64) = false := by rw [hz]; rfl
      have hbad : badJ l p (sizeN d.size) i = false := by
        simp only [badJ, hg i h, hq, Bool.false_or]
        rw [hz, blk_end (by omega), tl_self]; rfl
      rw [joinS, hbad, cond_false]
      exact join_bad hg hk hs h64 hb m (i + 1) _ (by omega) (by omega)
    · obtain rfl : i = k := by omega
      have hbad : badJ l p (sizeN d.size) i = true := by
        simp only [badJ, hs]
        rw [h64, tl_ne hb]; simp
      rw [joinS, hbad, cond_true]
theorem rd_bad {l : List ByteArray} {p : Int} {d : ByteArray} {k : Nat} {s : ByteArray} (h1 : 1 ≤ p) (h2 : p ≤ 2147483647) (h3 : d.size ≤ 6000) (hg : ∀ j, j < k → l[j]? = some (blkS p d j)) (hk : k < sizeN d.size) (hs : l[k]? = some s) (h64 : s.size = 64)
    (h0 : k = 0 → (firS s).2.2 = false) (hb : 0 < k → s.extract 56 64 ≠ endS p k (sizeN d.size)) : rdZ l = ⟨⟨#[]⟩, 0, 0, (k : Int)⟩ := by
  rcases Nat.eq_zero_or_pos k with e | e
  · subst e
    cases l with
    | nil => simp at hs
    | cons x r =>
      simp at hs
      subst hs
      have := h0 rfl
      rw [rdZ, firZ, this]; rfl
  · have hf : firZ l = (p, (sizeN d.size : Int), true) := by
      cases l with
      | nil => have := hg 0 e; simp at this
      | cons x r =>
        have hx := hg 0 e
        simp at hx
        subst hx
        exact blk_first h1 h2 h3 1 (by omega) r
    have hj := join_bad hg hk hs h64 (hb e) (sizeN d.size) 0 ⟨#[]⟩ (Nat.zero_le _) (by omega)
    have hj' : (jnZ l p (sizeN d.size)).2 = (k : Int) := hj
    rw [rdZ, hf]
    simp only [Int.toNat_natCast, hj', cond_true]
    rw [decide_eq_true (by omega : (k : Int) ≥ 0)]; rfl
/-- The torn row. -/
def tnP (p : Int) (d : ByteArray) (k t j : Nat) : ByteArray := if j < k then blkS p d j else if j = k then tornS (blkS p d k) t else z64
def tnL (p : Int) (d : ByteArray) (k t i : Nat) : List ByteArray := (List.range i).map (tnP p d k t)
theorem tnL_len (p : Int) (d : ByteArray) (k t i : Nat) : (tnL p d k t i).length = i := by simp [tnL]
theorem tnL_succ (p : Int) (d : ByteArray) (k t i : Nat) : tnL p d k t (i + 1) = tnL p d k t i ++ [tnP p d k t i] := by simp [tnL, List.range_succ]
theorem tnL_at {p : Int} {d : ByteArray} {k t i j : Nat} (h : j < i) : (tnL p d k t i)[j]? = some (tnP p d k t j) := by simp [tnL, h]
theorem tn_lt {p : Int} {d : ByteArray} {k t j : Nat} (h : j < k) : tnP p d k t j = blkS p d j := by rw [tnP, if_pos h]
theorem tn_eq {p : Int} {d : ByteArray} {k t : Nat} : tnP p d k t k = tornS (blkS p d k) t := by rw [tnP, if_neg (by omega), if_pos rfl]
theorem tn_gt {p : Int} {d : ByteArray} {k t j : Nat} (h : k < j) : tnP p d k t j = z64 := by rw [tnP, if_neg (by omega), if_neg (by omega)]
theorem tn_whole {p : Int} {d : ByteArray} {k t : Nat} (h1 : 1 ≤ p) (h2 : p ≤ 2147483647) (h3 : d.size ≤ 6000) (hk : k + 1 = sizeN d.size) (he : tornS (blkS p d k) t = blkS p d k) : rdZ (tnL p d k t (sizeN d.size)) = ⟨d, p, (sizeN d.size : Int), -1⟩ := by
  have e : tnL p d k t (sizeN d.size) = blkL p d (sizeN d.size) ++ [] := by
    rw [List.append_nil, ← hk, tnL_succ, blkL_succ, tn_eq, he]
    congr 1
    exact List.map_congr_left fun j hj => tn_lt (List.mem_range.1 hj)
  rw [e]; exact read_back h1 h2 h3 []
theorem tn_part {p : Int} {d : ByteArray} {k t : Nat} (h1 : 1 ≤ p) (h2 : p ≤ 2147483647) (h3 : d.size ≤ 6000) (hk : k + 1 < sizeN d.size) (he : tornS (blkS p d k) t = blkS p d k) : rdZ (tnL p d k t (sizeN d.size)) = ⟨⟨#[]⟩, 0, 0, ((k + 1 : Nat) : Int)⟩ := by
  refine rd_bad (s := z64) h1 h2 h3 (fun j hj => ?_) hk ?_ rfl (by omega) (fun _ => zero_tail h1 (by omega))
  · rw [tnL_at (by omega)]
    rcases Nat.lt_or_ge j k with h | h
    · rw [tn_lt h]
    · obtain rfl : j = k := by omega
      rw [tn_eq, he]
  · rw [tnL_at hk, tn_gt (by omega)]
theorem tn_torn {p : Int} {d : ByteArray} {k t : Nat} (h1 : 1 ≤ p) (h2 : p ≤ 2147483647) (h3 : d.size ≤ 6000) (hk : k < sizeN d.size) (ht : t ≤ 64) (he : tornS (blkS p d k) t ≠ blkS p d k) : rdZ (tnL p d k t (sizeN d.size)) = ⟨⟨#[]⟩, 0, 0, (k : Int)⟩ := by
  refine rd_bad (s := tornS (blkS p d k) t) h1 h2 h3 (fun j hj => ?_) hk ?_ (tornS_sz (blk_sz hk) ht) (fun e => ?_) (fun _ => tail_ne h1 (by omega) hk ht he)
  · rw [tnL_at (by omega), tn_lt hj]
  · rw [tnL_at hk, tn_eq]
  · subst e; exact first_no h3 ht he
end Go.Proofs.YtcmnchmkoghfdaaDoor.C05h
