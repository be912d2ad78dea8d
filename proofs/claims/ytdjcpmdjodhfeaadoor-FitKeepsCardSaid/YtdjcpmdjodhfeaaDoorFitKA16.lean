import Derived.Test.YtdjcpmdjodhfeaaDoorFitRA16
import Derived.Test.YtdjcpmdjodhfeaaDoorVecMA16
open Go AH
set_option linter.unusedSimpArgs false
namespace Go.Proofs.YtdjcpmdjodhfeaaDoor.A16
/- What is left when all fit: in plain numbers. -/

def V4.at (v : V4) : Nat → Int
  | 0 => v.a
  | 1 => v.b
  | 2 => v.c
  | _ => v.d
def sp0 : Sp := ⟨0, .zero⟩
def accS (f : Nat → Int) : Nat → Int
  | 0 => 0
  | n + 1 => accS f n + f n
theorem accS_congr {f g : Nat → Int} : ∀ {n : Nat}, (∀ j, j < n → f j = g j) → accS f n = accS g n
  | 0, _ => rfl
  | n + 1, h => by rw [accS, accS, accS_congr fun j hj => h j (by omega), h n (by omega)]
theorem accS_sub (f g : Nat → Int) : ∀ n, accS (fun j => f j - g j) n = accS f n - accS g n
  | 0 => rfl
  | n + 1 => by rw [accS, accS, accS, accS_sub f g n]; omega
theorem accS_shift (f : Nat → Int) : ∀ n, accS f (n + 1) = f 0 + accS (fun j => f (j + 1)) n
  | 0 => by simp [accS]
  | n + 1 => by rw [accS, accS_shift f n, accS]; omega
theorem accS_one {f g : Nat → Int} {i : Nat} (h : ∀ j, j ≠ i → f j = g j) : ∀ {n : Nat}, i < n → accS g n = accS f n - f i + g i
  | 0, hi => by omega
  | n + 1, hi => by
    rw [accS, accS]
    by_cases hn : i = n
    · subst hn
      rw [accS_congr (f := f) (g := g) fun j hj => h j (by omega)]; omega
    · have := accS_one h (n := n) (by omega)
      have := h n (Ne.symm hn)
      omega
theorem accS_bd {f : Nat → Int} : ∀ {n : Nat}, (∀ j, j < n → 0 ≤ f j ∧ f j ≤ 1099511627776) → 0 ≤ accS f n ∧ accS f n ≤ 1099511627776 * n
  | 0, _ => by simp [accS]
  | n + 1, h => by
    have := accS_bd (n := n) fun j hj => h j (by omega)
    have := h n (by omega)
    rw [accS]; omega

def lf (l : List Sp) (k j : Nat) : Int := (l.getD j sp0).v.at k
def nf (ns : List V4) (k j : Nat) : Int := (ns.getD j .zero).at k
def tot (k : Nat) (l : List Sp) : Int := accS (lf l k) l.length
def totN (k : Nat) (ns : List V4) : Int := accS (nf ns k) ns.length

theorem bestF_fit (l : List Sp) (need : V4) : ∀ {i k : Nat} (hk : k < l.length), (bestF l need i).1 = k → fit l[k].v need = true
  | 0, k, hk, h => by simp only [bestF] at h; omega
  | i + 1, k, hk, h => by
    simp only [bestF] at h
    split at h
    · rename_i s hs
      cases hc : (fit s.v need && ((bestF l need i).1 == -1 || betterV s (subR s.v need) (l.getD (bestF l need i).1.toNat ⟨0, .zero⟩) (bestF l need i).2)) with
      | true =>
        rw [hc] at h
        simp only [cond_true] at h
        have hik : i = k := by omega
        subst hik
        rw [List.getElem?_eq_getElem hk] at hs
        cases hs
        exact (Bool.and_eq_true_iff.1 hc).1
      | false =>
        rw [hc] at h
        exact bestF_fit l need hk h
    · exact bestF_fit l need hk h
theorem bestF_none (l : List Sp) (need : V4) : ∀ {i : Nat}, (bestF l need i).1 = -1 → ∀ j, j < i → (hj : j < l.length) → fit l[j].v need = false
  | 0, _, j, hj, _ => by omega
  | i + 1, h, j, hj, hjl => by
    simp only [bestF] at h
    split at h
    · rename_i s hs
      cases hc : (fit s.v need && ((bestF l need i).1 == -1 || betterV s (subR s.v need) (l.getD (bestF l need i).1.toNat ⟨0, .zero⟩) (bestF l need i).2)) with
      | true => rw [hc] at h; simp only [cond_true] at h; omega
      | false =>
        rw [hc] at h
        simp only [cond_false] at h
        by_cases hji : j = i
        · subst hji
          rw [List.getElem?_eq_getElem hjl] at hs
          cases hs
          rw [h] at hc
          simpa using hc
        · exact bestF_none l need h j (by omega) hjl
    · by_cases hji : j = i
      · subst hji
        rename_i hs
        rw [List.getElem?_eq_getElem hjl] at hs
        cases hs
      · exact bestF_none l need h j (by omega) hjl
theorem best_any {l : List Sp} {need : V4} {j : Nat} (hj : j < l.length) (hf : fit l[j].v need = true) : bestI l need ≠ -1 := fun h => by
  rw [bestF_none l need h j hj hj] at hf; cases hf

def finalS (l : List Sp) : List V4 → List Sp
  | [] => l
  | n :: ns => finalS (putB l n) ns
def okAllB (l : List Sp) : List V4 → Prop
  | [] => True
  | n :: ns => bestI l n ≠ -1 ∧ okAllB (putB l n) ns
def idsB (l : List Sp) : List V4 → List Int
  | [] => []
  | n :: ns => idB l n :: idsB (putB l n) ns
theorem idsB_len : ∀ (l : List Sp) (ns : List V4), (idsB l ns).length = ns.length
  | _, [] => rfl
  | l, n :: ns => by rw [idsB, List.length_cons, idsB_len, List.length_cons]
theorem finalS_len : ∀ (l : List Sp) (ns : List V4), (finalS l ns).length = l.length
  | _, [] => rfl
  | l, n :: ns => by rw [finalS, finalS_len, putB_len]
theorem allR_cases : ∀ (ns : List V4) (l : List Sp) (i : Nat) (out : List Int), (∃ q : Nat, allR l ns i out = ([], (q : Int)) ∧ q < i + ns.length) ∨ (allR l ns i out = (out ++ idsB l ns, -1) ∧ okAllB l ns)
  | [], l, i, out => .inr ⟨by simp [allR, idsB], trivial⟩
  | n :: ns, l, i, out => by
    rw [allR]
    by_cases h : bestI l n = -1
    · rw [h]
      exact .inl ⟨i, rfl, by simp⟩
    · rw [show (bestI l n == -1) = false by simpa using h, cond_false]
      rcases allR_cases ns (putB l n) (i + 1) (out ++ [idB l n]) with ⟨q, h1, h2⟩ | ⟨h1, h2⟩
      · exact .inl ⟨q, h1, by simp only [List.length_cons]; omega⟩
      · exact .inr ⟨by rw [h1, idsB, List.append_assoc]; rfl, h, h2⟩

/-- The numbers of spots are their own. -/
def Uniq (l : List Sp) : Prop := ∀ i j, i < l.length → j < l.length → (l.getD i sp0).id = (l.getD j sp0).id → i = j
theorem getD_set_sp (l : List Sp) (i j : Nat) (x : Sp) (hi : i < l.length) : (l.set i x).getD j sp0 = if i = j then x else l.getD j sp0 := by
  simp only [List.getD_eq_getElem?_getD, List.getElem?_set, hi, if_true]
  split <;> rfl
theorem putB_id (l : List Sp) (n : V4) (j : Nat) : ((putB l n).getD j sp0).id = (l.getD j sp0).id := by
  unfold putB
  by_cases hk : (bestI l n).toNat < l.length
  · rw [getD_set_sp _ _ _ _ hk]
    split
    · rename_i h; rw [h]; rfl
    · rfl
  · rw [List.set_eq_of_length_le (by omega)]
theorem Uniq.put {l : List Sp} (h : Uniq l) (n : V4) : Uniq (putB l n) := fun i j hi hj e => by
  rw [putB_len] at hi hj
  rw [putB_id, putB_id] at e
  exact h i j hi hj e
theorem restOne_put {l : List Sp} (hu : Uniq l) {n : V4} (hb : bestI l n ≠ -1) : restOne l n (idB l n) = putB l n := by
  rcases bestI_range l n with h | ⟨k, hk, hkl⟩
  · exact absurd h hb
  have hfk := bestF_fit l n hkl hk
  have hg : l.getD k sp0 = l[k] := by rw [List.getD_eq_getElem?_getD, List.getElem?_eq_getElem hkl]; rfl
  have hid : idB l n = (l.getD k sp0).id := by rw [idB, hk]; rfl
  unfold restOne
  cases hf : (List.range l.length).find? (isAt l n (idB l n)) with
  | none =>
    have := List.find?_eq_none.1 hf k (List.mem_range.2 hkl)
    refine absurd ?_ this
    rw [isAt, hid]
    show (fit (l.getD k sp0).v n && (l.getD k sp0).id == (l.getD k sp0).id) = true
    rw [hg, hfk]; simp
  | some j =>
    have h1 := List.find?_some hf
    have h2 := List.mem_range.1 (List.mem_of_find?_eq_some hf)
    rw [isAt, Bool.and_eq_true_iff, hid] at h1
    have : j = k := hu j k h2 hkl (eq_of_beq h1.2)
    subst this
    simp only [putAt, putB, hk, Int.toNat_natCast]
theorem restS_final : ∀ (ns : List V4) (l : List Sp), Uniq l → okAllB l ns → restS l ns (idsB l ns) = finalS l ns
  | [], l, _, _ => by simp [restS, idsB, finalS]
  | n :: ns, l, hu, ⟨h1, h2⟩ => by
    rw [idsB, restS, restOne_put hu h1, finalS]
    exact restS_final ns _ (hu.put n) h2

def GoodAll (l : List Sp) : Prop := ∀ j, j < l.length → good (l.getD j sp0).v = true
theorem at_in {v : V4} (h : good v = true) (k : Nat) : 0 ≤ v.at k ∧ v.at k ≤ 1099511627776 := by
  have := (goodR_iff v).1 h
  simp only [inR] at this
  unfold V4.at
  split <;> omega
theorem sub_at {v n : V4} (h : subK v n = 0) (k : Nat) : (subR v n).at k = v.at k - n.at k := by
  rw [subR_of h]
  unfold V4.at
  split <;> rfl
theorem put_facts {l : List Sp} {n : V4} (hb : bestI l n ≠ -1) :
    ∃ q, q < l.length ∧ good n = true ∧ subK (l.getD q sp0).v n = 0 ∧ putB l n = l.set q ⟨(l.getD q sp0).id, subR (l.getD q sp0).v n⟩ := by
  rcases bestI_range l n with h | ⟨k, hk, hkl⟩
  · exact absurd h hb
  have hfk := bestF_fit l n hkl hk
  have hge : l.getD k sp0 = l[k] := by rw [List.getD_eq_getElem?_getD, List.getElem?_eq_getElem hkl]; rfl
  have hs : subK (l.getD k sp0).v n = 0 := by
    rw [hge]
    simpa [fit] using hfk
  refine ⟨k, hkl, ((subK_iff _ _).1 hs).2.1, hs, ?_⟩
  simp only [putB, hk, Int.toNat_natCast]
  rfl
theorem put_good {l : List Sp} (hg : GoodAll l) {n : V4} (hb : bestI l n ≠ -1) : GoodAll (putB l n) := by
  obtain ⟨q, hq, _, hs, e⟩ := put_facts hb
  intro j hj
  rw [putB_len] at hj
  rw [e, getD_set_sp _ _ _ _ hq]
  split
  · exact fit_good hs
  · exact hg j hj
theorem put_tot {l : List Sp} {n : V4} (hb : bestI l n ≠ -1) (k : Nat) : tot k (putB l n) = tot k l - n.at k := by
  obtain ⟨q, hq, _, hs, e⟩ := put_facts hb
  have h1 : ∀ j, j ≠ q → lf l k j = lf (putB l n) k j := fun j hj => by
    simp only [lf]
    rw [e, getD_set_sp _ _ _ _ hq, if_neg (Ne.symm hj)]
  have h2 : lf (putB l n) k q = lf l k q - n.at k := by
    simp only [lf]
    rw [e, getD_set_sp _ _ _ _ hq, if_pos rfl]
    exact sub_at hs k
  have := accS_one h1 hq
  unfold tot
  rw [putB_len, this, h2]; omega
theorem put_le {l : List Sp} {n : V4} (hb : bestI l n ≠ -1) (k j : Nat) : lf (putB l n) k j ≤ lf l k j := by
  obtain ⟨q, hq, hn, hs, e⟩ := put_facts hb
  simp only [lf]
  rw [e, getD_set_sp _ _ _ _ hq]
  split
  · rename_i h
    subst h
    have := at_in hn k
    rw [sub_at hs k]; omega
  · exact Int.le_refl _
theorem final_facts : ∀ (ns : List V4) (l : List Sp), GoodAll l → okAllB l ns →
    (∀ n ∈ ns, good n = true) ∧ GoodAll (finalS l ns) ∧ (∀ k, tot k (finalS l ns) = tot k l - totN k ns) ∧ ∀ k j, lf (finalS l ns) k j ≤ lf l k j
  | [], l, hg, _ => ⟨fun n h => absurd h (List.not_mem_nil), hg, fun k => by simp [finalS, totN, accS], fun k j => Int.le_refl _⟩
  | n :: ns, l, hg, ⟨h1, h2⟩ => by
    obtain ⟨i1, i2, i3, i4⟩ := final_facts ns (putB l n) (put_good hg h1) h2
    obtain ⟨q, hq, hn, hs, e⟩ := put_facts h1
    refine ⟨fun m hm => ?_, i2, fun k => ?_, fun k j => Int.le_trans (i4 k j) (put_le h1 k j)⟩
    · rcases List.mem_cons.1 hm with rfl | hm
      · exact hn
      · exact i1 m hm
    · rw [finalS, i3 k, put_tot h1 k]
      have : totN k (n :: ns) = n.at k + totN k ns := accS_shift (nf (n :: ns) k) ns.length
      omega

/-- The spots of a row of what is left. -/
def spN (L : List V4) (n : Nat) : List Sp := (List.range n).map fun (j : Nat) => ⟨(j : Int) + 1, L.getD j .zero⟩
theorem spN_len (L : List V4) (n : Nat) : (spN L n).length = n := by simp [spN]
theorem spN_succ (L : List V4) {n : Nat} (h : n < L.length) : spN L (n + 1) = spN L n ++ [⟨(n : Int) + 1, L[n]⟩] := by
  simp only [spN, List.range_succ, List.map_append, List.map_cons, List.map_nil]
  rw [List.getD_eq_getElem?_getD, List.getElem?_eq_getElem h]; rfl
theorem spN_get (L : List V4) {n j : Nat} (h : j < n) : (spN L n).getD j sp0 = ⟨(j : Int) + 1, L.getD j .zero⟩ := by
  simp [spN, List.getD_eq_getElem?_getD, h]
theorem spN_uniq (L : List V4) (n : Nat) : Uniq (spN L n) := fun i j hi hj e => by
  rw [spN_len] at hi hj
  rw [spN_get L hi, spN_get L hj] at e
  simp only at e
  omega
theorem spN_good {L : List V4} {n : Nat} (h : ∀ j, j < n → good (L.getD j .zero) = true) : GoodAll (spN L n) := fun j hj => by
  rw [spN_len] at hj
  rw [spN_get L hj]
  exact h j hj

/-- With more room, what fitted fits. -/
theorem fit_more {v n : V4} (hf : fit v n = true) {x : V4} (ha : addK v x = 0) : fit (addR v x) n = true := by
  have h1 : subK v n = 0 := by simpa [fit] using hf
  have h2 := (subK_iff v n).1 h1
  have h3 := (addK_iff v x).1 ha
  have h4 : subK (addR v x) n = 0 := by
    refine (subK_iff _ n).2 ⟨add_good ha, h2.2.1, ?_⟩
    rw [addR_of ha]
    have := (goodR_iff x).1 h3.2.1
    simp only [inR] at this ⊢
    omega
  simp [fit, h4]
theorem best_more {l : List Sp} {n : V4} (hb : bestI l n ≠ -1) {q : Nat} (hq : q < l.length) {x : V4} (ha : addK (l.getD q sp0).v x = 0) : bestI (l.set q ⟨(l.getD q sp0).id, addR (l.getD q sp0).v x⟩) n ≠ -1 := by
  rcases bestI_range l n with h | ⟨k, hk, hkl⟩
  · exact absurd h hb
  have hfk := bestF_fit l n hkl hk
  refine best_any (j := k) (by simpa using hkl) ?_
  rw [List.getElem_set]
  split
  · rename_i h
    subst h
    have hge : l.getD q sp0 = l[q] := by rw [List.getD_eq_getElem?_getD, List.getElem?_eq_getElem hkl]; rfl
    rw [hge] at ha ⊢
    exact fit_more hfk ha
  · exact hfk
end Go.Proofs.YtdjcpmdjodhfeaaDoor.A16
