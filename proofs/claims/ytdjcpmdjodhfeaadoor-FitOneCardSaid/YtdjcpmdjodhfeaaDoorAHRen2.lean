import Derived.Test.YtdjcpmdjodhfeaaDoorAHMem
/-
AH: blocks under new numbers: what stands for a value stands for the renamed one.
-/
set_option linter.unusedSimpArgs false
namespace AH
open Go
variable {S : Sys} {eb : Nat → Addr} {own : Nat → Prop} {w0 w : World} {φ ψ : Emb}

/-- One embedding's blocks under new numbers in another. -/
def Moves (p : Nat → Bool) (ρ : Nat → Nat) (φ ψ : Emb) : Prop := ∀ id, p id = true → φ.dom id → ψ.dom (ρ id) ∧ ψ.blk (ρ id) = φ.blk id ∧ ψ.base (ρ id) = φ.base id ∧ ψ.k (ρ id) = φ.k id ∧ ψ.size (ρ id) = φ.size id

mutual
theorem vr_ren {p : Nat → Bool} {ρ : Nat → Nat} (hφ : Moves p ρ φ ψ) : ∀ {v : AV} {u : Value}, VR S.errT eb φ v u → v.inB p = true → VR S.errT eb ψ (v.ren ρ) u
  | _, _, .undef u, _ => .undef u
  | _, _, .bool b, _ => .bool b
  | _, _, .int k n, _ => .int k n
  | _, _, .str s, _ => .str s
  | _, _, .nilp, _ => .nilp
  | _, _, .ptr id ix sub h, hl => by
    obtain ⟨h1, h2, h3, h4, h5⟩ := hφ id (by simpa [AV.inB] using hl) h
    rw [← h2, ← h3, ← h4]
    exact .ptr (ρ id) ix sub h1
  | _, _, .nils, _ => .nils
  | _, _, .slc id ix len cap c h hc he hs, hl => by
    obtain ⟨h1, h2, h3, h4, h5⟩ := hφ id (by simpa [AV.inB] using hl) h
    rw [← h3, ← h4, ← h5] at hs
    rw [← h2, ← h3, ← h4]
    exact .slc (ρ id) ix len cap c h1 hc he hs
  | _, _, .slc0 id ix cap ad h he, hl => .slc0 (ρ id) ix cap ad (hφ id (by simpa [AV.inB] using hl) h).1 he
  | _, _, .isl id ix sub len c h hc, hl => by
    obtain ⟨h1, h2, h3, h4, h5⟩ := hφ id (by simpa [AV.inB] using hl) h
    rw [← h2, ← h3, ← h4]
    exact .isl (ρ id) ix sub len c h1 hc
  | _, _, .nilm, _ => .nilm
  | _, _, .map id h, hl => by
    obtain ⟨h1, h2, _⟩ := hφ id (by simpa [AV.inB] using hl) h
    rw [← h2]
    exact .map (ρ id) h1
  | _, _, .fn f first cap fs cs h1 h2, hl => by
    simp only [AV.inB, Bool.and_eq_true] at hl
    exact .fn f _ _ fs cs (vrs_ren hφ h1 hl.1) (vrs_ren hφ h2 hl.2)
  | _, _, .nilf, _ => .nilf
  | _, _, .nili, _ => .nili
  | _, _, .ifc t v u h, hl => .ifc t _ u (vr_ren hφ h (by simpa [AV.inB] using hl))
  | _, _, .err i, _ => .err i
  | _, _, .agg cs us h h1, hl => .agg _ us (vrs_ren hφ h (by simpa [AV.inB] using hl)) h1
  | _, _, .tup cs us h, hl => .tup _ us (vrs_ren hφ h (by simpa [AV.inB] using hl))
theorem vrs_ren {p : Nat → Bool} {ρ : Nat → Nat} (hφ : Moves p ρ φ ψ) : ∀ {v : List AV} {u : List Value}, VRs S.errT eb φ v u → AV.insB p v = true → VRs S.errT eb ψ (AV.rens ρ v) u
  | _, _, .nil, _ => .nil
  | _, _, .cons v u vs us h hs, hl => by
    simp only [AV.insB, Bool.and_eq_true] at hl
    exact .cons _ u _ us (vr_ren hφ h hl.1) (vrs_ren hφ hs hl.2)
end

theorem rens_get {ρ : Nat → Nat} : ∀ {l : List AV} {j : Nat} {v : AV}, (AV.rens ρ l)[j]? = some v → ∃ v', l[j]? = some v' ∧ v = v'.ren ρ
  | [], j, v, h => by simp [AV.rens] at h
  | a :: l, 0, v, h => by simp [AV.rens] at h; exact ⟨a, by simp, h.symm⟩
  | a :: l, j + 1, v, h => by
    simp only [AV.rens, List.getElem?_cons_succ] at h
    obtain ⟨v', h1, h2⟩ := rens_get h
    exact ⟨v', by simpa using h1, h2⟩

theorem rens_len {ρ : Nat → Nat} : ∀ {l : List AV}, (AV.rens ρ l).length = l.length
  | [] => rfl
  | a :: l => by simp [AV.rens, rens_len (l := l)]

theorem insB_get {p : Nat → Bool} : ∀ {l : List AV} {j : Nat} {v : AV}, AV.insB p l = true → l[j]? = some v → v.inB p = true
  | a :: l, 0, v, h, hj => by simp [AV.insB] at h; simp at hj; subst hj; exact h.1
  | a :: l, j + 1, v, h, hj => by simp [AV.insB] at h; exact insB_get h.2 (by simpa using hj)

theorem er_ren {p : Nat → Bool} {ρ : Nat → Nat} (hφ : Moves p ρ φ ψ) : ∀ {es : List (AV × AV × Nat)} {us : List MapEntry}, ER S.errT eb φ es us → (es.all fun e => e.1.inB p && e.2.1.inB p) = true → ER S.errT eb ψ (es.map fun e => (e.1.ren ρ, e.2.1.ren ρ, e.2.2)) us
  | _, _, .nil, _ => .nil
  | _, _, .cons k v s x y es us hk hv h, hl => by
    simp only [List.all_cons, Bool.and_eq_true] at hl
    exact .cons _ _ s x y _ us (vr_ren hφ hk hl.1.1) (vr_ren hφ hv hl.1.2) (er_ren hφ h hl.2)

/-- A block may be told as one that is only read. -/
def Blk.asRo : Bool → Blk → Blk
  | true, .row _ k es => .row true k es
  | _, b => b

theorem br_ren {p : Nat → Bool} {ρ : Nat → Nat} (hφ : Moves p ρ φ ψ) {id : Nat} {b : Blk} {o : Obj} (hd : φ.dom id) (hid : p id = true) (hl : b.inB p = true) (h : BR S.errT eb φ id b o) (r : Bool) : BR S.errT eb ψ (ρ id) ((b.ren ρ).asRo r) o := by
  obtain ⟨e1, e2, e3, e4, e5⟩ := hφ id hid hd
  cases b with
  | row ro k es =>
    obtain ⟨arr, et, fr, h1, h2, h3, h4, h5, h6⟩ := h
    have key : ∀ ro', (ro' = false → ro = false) → BR S.errT eb ψ (ρ id) (.row ro' k (es.map (AV.rens ρ))) o := by
      intro ro' hro
      refine ⟨arr, et, fr, h1, by rw [e4]; exact h2, by rw [e5]; exact h3, by rw [e3, List.length_map]; exact h4, fun q => h5 (hro q), fun i x hx => ?_⟩
      simp only [List.getElem?_map, Option.map_eq_some_iff] at hx
      obtain ⟨x', hx', rfl⟩ := hx
      obtain ⟨g1, g2⟩ := h6 i x' hx'
      refine ⟨by rw [rens_len]; exact g1, fun j v hv => ?_⟩
      obtain ⟨v', hv', rfl⟩ := rens_get hv
      obtain ⟨u, k1, k2, k3⟩ := g2 j v' hv'
      have hx'' : AV.insB p x' = true := by
        simp only [Blk.inB, List.all_eq_true] at hl
        exact hl x' (List.mem_of_getElem? hx')
      exact ⟨u, by rw [e3]; exact k1, vr_ren hφ k2 (insB_get hx'' hv'), k3⟩
    cases r
    · exact key ro (fun q => q)
    · exact key true (fun q => by cases q)
  | map es c =>
    obtain ⟨us, h1, h2⟩ := h
    have : BR S.errT eb ψ (ρ id) (.map (es.map fun e => (e.1.ren ρ, e.2.1.ren ρ, e.2.2)) c) o := ⟨us, h1, er_ren hφ h2 (by simpa [Blk.inB] using hl)⟩
    cases r <;> exact this



theorem inN_iff : ∀ {l : List Nat} {id : Nat}, inN l id = true ↔ id ∈ l
  | [], id => by simp [inN]
  | a :: r, id => by
    simp only [inN, Bool.or_eq_true, beq_iff_eq, inN_iff (l := r), List.mem_cons]
    constructor
    · rintro (h | h)
      · exact .inl h.symm
      · exact .inr h
    · rintro (h | h)
      · exact .inl h.symm
      · exact .inr h

theorem posN_spec : ∀ {l : List Nat} {id : Nat}, inN l id = true → l[posN l id]? = some id
  | [], id, h => by simp [inN] at h
  | a :: r, id, h => by
    simp only [posN]
    by_cases e : a = id
    · subst e; simp
    · have hb : (a == id) = false := by simp [e]
      simp only [inN, hb, Bool.false_or] at h
      simp only [hb, cond_false, List.getElem?_cons_succ]
      exact posN_spec h

theorem distN_inj : ∀ {l : List Nat}, distN l = true → ∀ {i j a : Nat}, l[i]? = some a → l[j]? = some a → i = j
  | [], _, i, j, a, h, _ => by simp at h
  | b :: r, hd, i, j, a, hi, hj => by
    simp only [distN, Bool.and_eq_true, Bool.not_eq_true'] at hd
    cases i with
    | zero =>
      cases j with
      | zero => rfl
      | succ j =>
        simp at hi hj
        subst hi
        have : inN r b = true := inN_iff.2 (List.mem_of_getElem? hj)
        rw [hd.1] at this; cases this
    | succ i =>
      cases j with
      | zero =>
        simp at hi hj
        subst hj
        have : inN r b = true := inN_iff.2 (List.mem_of_getElem? hi)
        rw [hd.1] at this; cases this
      | succ j =>
        simp at hi hj
        rw [distN_inj hd.2 hi hj]

theorem packM_get (l0 : List Nat) (m : Mem) : ∀ (l : List Nat) (j : Nat), mget (packM l0 m l) j = match l[j]? with
    | some id => (mget m id).map (Blk.ren (posN l0))
    | none => none
  | [], j => by cases j <;> rfl
  | a :: l, 0 => by simp [packM, mget]
  | a :: l, j + 1 => by simp only [packM, mget, packM_get l0 m l j, List.getElem?_cons_succ]

theorem packM_len (l0 : List Nat) (m : Mem) : ∀ l : List Nat, (packM l0 m l).length = l.length
  | [] => rfl
  | a :: l => by simp [packM, packM_len l0 m l]

theorem packB_spec {l0 : List Nat} {m : Mem} : ∀ {l : List Nat}, packB l0 m l = true → ∀ {id : Nat} {b : Blk}, id ∈ l → mget m id = some b → b.inB (inN l0) = true
  | a :: l, h, id, b, hid, hb => by
    simp only [packB, Bool.and_eq_true] at h
    rcases List.mem_cons.1 hid with e | e
    · subst e
      have := h.1
      rw [hb] at this
      exact this
    · exact packB_spec h.2 e hb

theorem heads_spec : ∀ {n i : Nat} {l : List Nat}, heads n i l = true → ∀ j, j < n → l[j]? = some (i + j)
  | n + 1, i, a :: r, h, j, hj => by
    simp only [heads, Bool.and_eq_true, beq_iff_eq] at h
    cases j with
    | zero => simp [h.1]
    | succ j =>
      rw [List.getElem?_cons_succ, heads_spec h.2 j (by omega)]
      congr 1; omega

/-- The blocks of a list, under new numbers. -/
def Emb.pack (φ : Emb) (l : List Nat) : Emb :=
  { dom := fun j => ∃ id, l[j]? = some id ∧ φ.dom id, blk := fun j => φ.blk (l.getD j 0), base := fun j => φ.base (l.getD j 0), k := fun j => φ.k (l.getD j 0), size := fun j => φ.size (l.getD j 0) }

theorem moves_pack {l : List Nat} : Moves (inN l) (posN l) φ (φ.pack l) := by
  intro id hid hd
  have h := posN_spec hid
  have e : l.getD (posN l id) 0 = id := by rw [List.getD_eq_getElem?_getD, h]; rfl
  exact ⟨⟨id, h, hd⟩, by simp only [Emb.pack, e], by simp only [Emb.pack, e], by simp only [Emb.pack, e], by simp only [Emb.pack, e]⟩

theorem ext_pack {φ0 : Emb} {l : List Nat} {base : Nat} (h : φ0.Ext φ) (hb : ∀ id, φ0.dom id → id < base) (hl : heads base 0 l = true) : φ0.Ext (φ.pack l) := by
  have key : ∀ id, φ0.dom id → l[id]? = some id := fun id hid => by
    have := heads_spec hl id (hb id hid)
    simpa using this
  have kd : ∀ id, φ0.dom id → l.getD id 0 = id := fun id hid => by rw [List.getD_eq_getElem?_getD, key id hid]; rfl
  exact ⟨fun id hid => ⟨id, key id hid, h.dom id hid⟩, fun id hid => by simp only [Emb.pack, kd id hid]; exact h.blk id hid, fun id hid => by simp only [Emb.pack, kd id hid]; exact h.base id hid,
    fun id hid => by simp only [Emb.pack, kd id hid]; exact h.k id hid, fun id hid => by simp only [Emb.pack, kd id hid]; exact h.size id hid⟩

theorem blk_ren_rw {ρ : Nat → Nat} {b : Blk} : (b.ren ρ).rw ↔ b.rw := by cases b <;> exact Iff.rfl

theorem mr_pack {m : Mem} {l : List Nat} (h : MR S.errT eb φ (mget m) own w) (hd : distN l = true) (hB : packB l m l = true) : MR S.errT eb (φ.pack l) (mget (packM l m l)) own w := by
  have key : ∀ {j : Nat} {b : Blk}, mget (packM l m l) j = some b → ∃ id b0, l[j]? = some id ∧ mget m id = some b0 ∧ b = b0.ren (posN l) := fun {j b} hj => by
    rw [packM_get] at hj
    split at hj
    · rename_i id hid
      simp only [Option.map_eq_some_iff] at hj
      obtain ⟨b0, h1, rfl⟩ := hj
      exact ⟨id, b0, hid, h1, rfl⟩
    · cases hj
  have pos : ∀ {j id : Nat}, l[j]? = some id → posN l id = j := fun {j id} hj => distN_inj hd (posN_spec (inN_iff.2 (List.mem_of_getElem? hj))) hj
  have blk : ∀ {j id : Nat}, l[j]? = some id → (φ.pack l).blk j = φ.blk id := fun {j id} hj => by
    simp only [Emb.pack, List.getD_eq_getElem?_getD, hj, Option.getD_some]
  refine ⟨fun j b hj => ?_, fun j b hj => ?_, fun j b hj hr => ?_, fun i j b b' hi hj hne hr => ?_⟩
  · obtain ⟨id, b0, h1, h2, _⟩ := key hj
    exact ⟨id, h1, h.dom id b0 h2⟩
  · obtain ⟨id, b0, h1, h2, rfl⟩ := key hj
    obtain ⟨o, ho, hbr⟩ := h.blk id b0 h2
    refine ⟨o, by rw [blk h1]; exact ho, ?_⟩
    have := br_ren (S := S) (eb := eb) (moves_pack (φ := φ) (l := l)) (h.dom id b0 h2) (inN_iff.2 (List.mem_of_getElem? h1)) (packB_spec hB (List.mem_of_getElem? h1) h2) hbr false
    rw [pos h1] at this
    cases b0 <;> exact this
  · obtain ⟨id, b0, h1, h2, rfl⟩ := key hj
    rw [blk h1]
    exact h.own id b0 h2 (blk_ren_rw.1 hr)
  · obtain ⟨id, b0, h1, h2, rfl⟩ := key hi
    obtain ⟨id', b0', h1', h2', rfl⟩ := key hj
    rw [blk h1, blk h1']
    refine h.inj id id' b0 b0' h2 h2' (fun e => ?_) (blk_ren_rw.1 hr)
    subst e
    exact hne (distN_inj hd h1 h1')

end AH
