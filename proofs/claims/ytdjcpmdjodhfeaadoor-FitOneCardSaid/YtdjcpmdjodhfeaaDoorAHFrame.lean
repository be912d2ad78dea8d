import Derived.Test.YtdjcpmdjodhfeaaDoorAHEnd
/-
AH: a call in a greater memory.
-/
set_option linter.unusedSimpArgs false
namespace AH
open Go
variable {S : Sys} {eb : Nat → Addr} {own : Nat → Prop} {w0 w : World} {φ ψ : Emb}

/-- The place of a number in a list. -/
def posOf : List (Nat × Bool) → Nat → Nat
  | [], _ => 0
  | (a, _) :: r, id => bif a == id then 0 else posOf r id + 1

def isIn : List (Nat × Bool) → Nat → Bool
  | [], _ => false
  | (a, _) :: r, id => a == id || isIn r id

/-- The callee's memory: the blocks of a list, in its order; those with the mark are only read. -/
def subMem (sel : List (Nat × Bool)) (m : Mem) : List (Nat × Bool) → Mem
  | [] => []
  | (id, r) :: l => (mget m id).map (fun b => (b.ren (posOf sel)).asRo r) :: subMem sel m l

def distinct : List (Nat × Bool) → Bool
  | [] => true
  | (a, _) :: r => !isIn r a && distinct r

/-- Is the list fit: each of its blocks is there, distinct, and names none but its own; what is written may be written. -/
def selOK (m : Mem) (sel : List (Nat × Bool)) : List (Nat × Bool) → Bool
  | [] => true
  | (id, r) :: l => (match mget m id with
    | some (.row _ _ es) => es.all (AV.insB (isIn sel))
    | some (.map es _) => !r && es.all fun e => e.1.inB (isIn sel) && e.2.1.inB (isIn sel)
    | none => false) && selOK m sel l

def backNo (sel : List (Nat × Bool)) (n : Nat) (j : Nat) : Nat := match sel[j]? with
  | some p => p.1
  | none => n + (j - sel.length)

/-- The caller's memory behind the call. -/
def putBack (τ : Nat → Nat) (m' : Mem) : Nat → List (Nat × Bool) → Mem → Mem
  | _, [], m => m
  | j, (_, true) :: l, m => putBack τ m' (j + 1) l m
  | j, (id, false) :: l, m => putBack τ m' (j + 1) l (mset m id ((mget m' j).map (Blk.ren τ)))

def newOnes (τ : Nat → Nat) : Mem → Mem
  | [] => []
  | b :: r => b.map (Blk.ren τ) :: newOnes τ r


theorem isIn_iff : ∀ {l : List (Nat × Bool)} {id : Nat}, isIn l id = true ↔ ∃ r, (id, r) ∈ l
  | [], id => by simp [isIn]
  | (a, r) :: l, id => by
    simp only [isIn, Bool.or_eq_true, beq_iff_eq, isIn_iff (l := l), List.mem_cons, Prod.mk.injEq]
    constructor
    · rintro (rfl | ⟨q, h⟩)
      · exact ⟨r, .inl ⟨rfl, rfl⟩⟩
      · exact ⟨q, .inr h⟩
    · rintro ⟨q, ⟨rfl, _⟩ | h⟩
      · exact .inl rfl
      · exact .inr ⟨q, h⟩

theorem pos_spec : ∀ {l : List (Nat × Bool)} {id : Nat}, isIn l id = true → ∃ r, l[posOf l id]? = some (id, r)
  | [], id, h => by simp [isIn] at h
  | (a, r) :: l, id, h => by
    by_cases ha : a = id
    · subst ha; exact ⟨r, by simp [posOf]⟩
    · have hb : (a == id) = false := by simp [ha]
      simp only [isIn, hb, Bool.false_or] at h
      obtain ⟨q, hq⟩ := pos_spec h
      exact ⟨q, by simp only [posOf, hb, cond_false, List.getElem?_cons_succ]; exact hq⟩

theorem distinct_inj : ∀ {l : List (Nat × Bool)}, distinct l = true → ∀ {i j : Nat} {a : Nat} {r q : Bool}, l[i]? = some (a, r) → l[j]? = some (a, q) → i = j
  | [], _, i, j, a, r, q, h, _ => by simp at h
  | (x, s) :: l, hd, i, j, a, r, q, h1, h2 => by
    simp only [distinct, Bool.and_eq_true, Bool.not_eq_true'] at hd
    have out : ∀ {k : Nat} {t : Bool}, l[k]? = some (x, t) → False := fun h => by
      have := isIn_iff.2 ⟨_, List.mem_of_getElem? h⟩
      rw [hd.1] at this; cases this
    cases i with
    | zero =>
      cases j with
      | zero => rfl
      | succ j => simp at h1 h2; obtain ⟨rfl, _⟩ := h1; exact (out h2).elim
    | succ i =>
      cases j with
      | zero => simp at h1 h2; obtain ⟨rfl, _⟩ := h2; exact (out h1).elim
      | succ j => simp at h1 h2; rw [distinct_inj hd.2 h1 h2]

theorem pos_at {l : List (Nat × Bool)} (hd : distinct l = true) {j : Nat} {a : Nat} {r : Bool} (h : l[j]? = some (a, r)) : posOf l a = j := by
  obtain ⟨q, hq⟩ := pos_spec (isIn_iff.2 ⟨r, List.mem_of_getElem? h⟩)
  exact distinct_inj hd hq h

theorem sub_get (sel : List (Nat × Bool)) (m : Mem) : ∀ (l : List (Nat × Bool)) (j : Nat), mget (subMem sel m l) j = match l[j]? with
    | some (id, r) => (mget m id).map (fun b => (b.ren (posOf sel)).asRo r)
    | none => none
  | [], j => by simp [subMem, mget_nil]
  | (id, r) :: l, 0 => by simp [subMem, mget]
  | (id, r) :: l, j + 1 => by simp only [subMem, mget, sub_get sel m l j, List.getElem?_cons_succ]

theorem sub_len (sel : List (Nat × Bool)) (m : Mem) : ∀ l : List (Nat × Bool), (subMem sel m l).length = l.length
  | [] => rfl
  | (id, r) :: l => by simp [subMem, sub_len sel m l]

theorem sel_spec {m : Mem} {sel : List (Nat × Bool)} : ∀ {l : List (Nat × Bool)}, selOK m sel l = true → ∀ {j id : Nat} {r : Bool}, l[j]? = some (id, r) → ∃ b, mget m id = some b ∧ b.inB (isIn sel) = true ∧ (r = true → ∃ ro k es, b = .row ro k es)
  | [], _, j, id, r, h => by simp at h
  | (a, q) :: l, hs, 0, id, r, h => by
    simp at h
    obtain ⟨rfl, rfl⟩ := h
    simp only [selOK, Bool.and_eq_true] at hs
    have := hs.1
    split at this
    · rename_i ro k es hm; exact ⟨_, hm, this, fun _ => ⟨ro, k, es, rfl⟩⟩
    · rename_i es c hm
      simp only [Bool.and_eq_true, Bool.not_eq_true'] at this
      exact ⟨_, hm, by simpa [Blk.inB] using this.2, fun q => by rw [this.1] at q; cases q⟩
    · cases this
  | (a, q) :: l, hs, j + 1, id, r, h => by
    simp only [selOK, Bool.and_eq_true] at hs
    exact sel_spec hs.2 (by simpa using h)

theorem putBack_miss {τ : Nat → Nat} {m' : Mem} {id : Nat} : ∀ (l : List (Nat × Bool)) (k : Nat) (m : Mem), (∀ j : Nat, l[j]? ≠ some (id, false)) → mget (putBack τ m' k l m) id = mget m id
  | [], k, m, _ => rfl
  | (a, true) :: l, k, m, h => by
    rw [putBack]
    exact putBack_miss l _ m fun j => by have := h (j + 1); simpa using this
  | (a, false) :: l, k, m, h => by
    rw [putBack, putBack_miss l _ _ fun j => by have := h (j + 1); simpa using this, mget_mset, if_neg]
    intro q
    exact h 0 (by simp [q])

theorem putBack_hit {τ : Nat → Nat} {m' : Mem} {id : Nat} : ∀ (l : List (Nat × Bool)) (k : Nat) (m : Mem), distinct l = true → ∀ {j : Nat}, l[j]? = some (id, false) → mget (putBack τ m' k l m) id = (mget m' (k + j)).map (Blk.ren τ)
  | [], k, m, _, j, h => by simp at h
  | (a, true) :: l, k, m, hd, 0, h => by simp at h
  | (a, true) :: l, k, m, hd, j + 1, h => by
    simp only [distinct, Bool.and_eq_true] at hd
    rw [putBack, putBack_hit l (k + 1) m hd.2 (by simpa using h), show k + 1 + j = k + (j + 1) by omega]
  | (a, false) :: l, k, m, hd, 0, h => by
    simp at h
    subst h
    simp only [distinct, Bool.and_eq_true, Bool.not_eq_true'] at hd
    rw [putBack, putBack_miss, mget_mset, if_pos rfl, Nat.add_zero]
    intro j hj
    have := isIn_iff.2 ⟨_, List.mem_of_getElem? hj⟩
    rw [hd.1] at this; cases this
  | (a, false) :: l, k, m, hd, j + 1, h => by
    simp only [distinct, Bool.and_eq_true] at hd
    rw [putBack, putBack_hit l (k + 1) _ hd.2 (by simpa using h), show k + 1 + j = k + (j + 1) by omega]

theorem mset_len : ∀ (m : Mem) (i : Nat) (b : Option Blk), i < m.length → (mset m i b).length = m.length
  | [], i, b, h => by simp at h
  | x :: r, 0, b, h => by simp [mset]
  | x :: r, i + 1, b, h => by simp [mset, mset_len r i b (by simpa using h)]

theorem putBack_len {τ : Nat → Nat} {m' : Mem} : ∀ (l : List (Nat × Bool)) (k : Nat) (m : Mem), (∀ (j : Nat) id r, l[j]? = some (id, r) → id < m.length) → (putBack τ m' k l m).length = m.length
  | [], k, m, _ => rfl
  | (a, true) :: l, k, m, h => by
    rw [putBack]
    exact putBack_len l _ m fun j id r hj => h (j + 1) id r (by simpa using hj)
  | (a, false) :: l, k, m, h => by
    have ha := h 0 a false (by simp)
    rw [putBack, putBack_len l _ _ (fun j id r hj => by rw [mset_len _ _ _ ha]; exact h (j + 1) id r (by simpa using hj)), mset_len _ _ _ ha]

theorem mget_append : ∀ (a b : Mem) (i : Nat), mget (a ++ b) i = if i < a.length then mget a i else mget b (i - a.length)
  | [], b, i => by simp
  | x :: a, b, 0 => by simp [mget]
  | x :: a, b, i + 1 => by simp [mget, mget_append a b i]

theorem newOnes_get {τ : Nat → Nat} : ∀ (m : Mem) (i : Nat), mget (newOnes τ m) i = (mget m i).map (Blk.ren τ)
  | [], i => by simp [newOnes, mget_nil]
  | b :: r, 0 => by simp [newOnes, mget]
  | b :: r, i + 1 => by simp [newOnes, mget, newOnes_get r i]

theorem newOnes_len {τ : Nat → Nat} : ∀ (m : Mem), (newOnes τ m).length = m.length
  | [] => rfl
  | b :: r => by simp [newOnes, newOnes_len r]

theorem mget_drop : ∀ (m : Mem) (n i : Nat), mget (m.drop n) i = mget m (n + i)
  | [], n, i => by simp [mget_nil]
  | x :: r, 0, i => by simp
  | x :: r, n + 1, i => by simp only [List.drop_succ_cons, mget_drop r n i]; rw [show n + 1 + i = (n + i) + 1 by omega, mget]

mutual
theorem inB_true : ∀ v : AV, v.inB (fun _ => true) = true
  | .ptr .. | .slc .. | .isl .. | .map _ | .undef | .bool _ | .int .. | .str _ | .nilp | .nils | .nilm | .nilf | .nili | .err _ => rfl
  | .fn _ a b => by simp [AV.inB, insB_true a, insB_true b]
  | .ifc _ v => by simp [AV.inB, inB_true v]
  | .agg cs => by simp [AV.inB, insB_true cs]
  | .tup cs => by simp [AV.inB, insB_true cs]
theorem insB_true : ∀ l : List AV, AV.insB (fun _ => true) l = true
  | [] => rfl
  | v :: r => by simp [AV.insB, inB_true v, insB_true r]
end

theorem blk_inB_true : ∀ b : Blk, b.inB (fun _ => true) = true
  | .row _ _ es => by simp only [Blk.inB, List.all_eq_true]; exact fun x _ => insB_true x
  | .map es _ => by simp [Blk.inB, inB_true]

theorem ren_rw {ρ : Nat → Nat} {b : Blk} : (b.ren ρ).rw ↔ b.rw := by cases b <;> exact Iff.rfl


/-- The caller's blocks as the callee numbers them. -/
def Emb.sub (φ : Emb) (sel : List (Nat × Bool)) : Emb :=
  { dom := fun j => ∃ p, sel[j]? = some p ∧ φ.dom p.1
    blk := fun j => φ.blk ((sel[j]?).getD (0, true)).1
    base := fun j => φ.base ((sel[j]?).getD (0, true)).1
    k := fun j => φ.k ((sel[j]?).getD (0, true)).1
    size := fun j => φ.size ((sel[j]?).getD (0, true)).1 }

/-- The caller's and behind them the callee's new ones. -/
def Emb.glue (φ φ1 : Emb) (n n0 : Nat) : Emb :=
  { dom := fun i => φ.dom i ∨ (n ≤ i ∧ φ1.dom (n0 + (i - n)))
    blk := fun i => if i < n then φ.blk i else φ1.blk (n0 + (i - n))
    base := fun i => if i < n then φ.base i else φ1.base (n0 + (i - n))
    k := fun i => if i < n then φ.k i else φ1.k (n0 + (i - n))
    size := fun i => if i < n then φ.size i else φ1.size (n0 + (i - n)) }

theorem moves_sub {sel : List (Nat × Bool)} : Moves (isIn sel) (posOf sel) φ (φ.sub sel) := by
  intro id hid hd
  obtain ⟨r, hr⟩ := pos_spec hid
  exact ⟨⟨_, hr, hd⟩, by simp [Emb.sub, hr], by simp [Emb.sub, hr], by simp [Emb.sub, hr], by simp [Emb.sub, hr]⟩

theorem asRo_rw {b : Blk} {r : Bool} (h : (b.asRo r).rw) : b.rw := by
  cases b with
  | row ro k es => cases r <;> simp_all [Blk.asRo, Blk.rw]
  | map es c => trivial

theorem CallA1.frame {g : FuncId} {args : List AV} {m : Mem} {K K0 : AV → Mem → Prop} (sel : List (Nat × Bool)) (hsel : selOK m sel sel = true) (hdist : distinct sel = true) (hargs : AV.insB (isIn sel) args = true)
    (h : CallA1 S g (AV.rens (posOf sel) args) (subMem sel m sel) K0)
    (hK : ∀ v m', K0 v m' → (∀ j b, sel.length ≤ j → mget m' j = some b → b.rw) ∧ K (v.ren (backNo sel m.length)) (putBack (backNo sel m.length) m' 0 sel m ++ newOnes (backNo sel m.length) (m'.drop sel.length))) :
    CallA1 S g args m K := by
  intro eb φ own w0 w us hA hus hM hk hb
  have hlt : ∀ b, ¬ own b → b < w0.heap.size := fun b hb' => by
    rcases Nat.lt_or_ge b w0.heap.size with h | h
    · exact h
    · exact absurd (hk.new b h) hb'
  have hsz := hk.size
  have hnew : ∀ b, w.heap.size ≤ b → own b := fun b hb' => hk.new b (Nat.le_trans hsz hb')
  -- the selected blocks
  have hS : ∀ {j id : Nat} {r : Bool}, sel[j]? = some (id, r) → ∃ b, mget m id = some b ∧ b.inB (isIn sel) = true ∧ (r = true → ∃ ro k es, b = .row ro k es) := fun hj => sel_spec hsel hj
  have hdomS : ∀ {j id : Nat} {r : Bool}, sel[j]? = some (id, r) → φ.dom id ∧ id < m.length := fun hj => by
    obtain ⟨b, h1, _⟩ := hS hj
    exact ⟨hM.dom _ b h1, (mget_some h1).1⟩
  have hsub : ∀ {j : Nat} {c : Blk}, mget (subMem sel m sel) j = some c → ∃ id r b, sel[j]? = some (id, r) ∧ mget m id = some b ∧ c = (b.ren (posOf sel)).asRo r := fun hj => by
    rw [sub_get] at hj
    split at hj
    · rename_i id r hs
      simp only [Option.map_eq_some_iff] at hj
      obtain ⟨b, hb', rfl⟩ := hj
      exact ⟨id, r, b, hs, hb', rfl⟩
    · cases hj
  have hblk : ∀ {j id : Nat} {r : Bool}, sel[j]? = some (id, r) → (φ.sub sel).blk j = φ.blk id := fun hs => by simp [Emb.sub, hs]
  -- what the callee may turn
  let own0 : Nat → Prop := fun b => w.heap.size ≤ b ∨ ∃ j c, mget (subMem sel m sel) j = some c ∧ c.rw ∧ (φ.sub sel).blk j = b
  have hrwb : ∀ {j : Nat} {c : Blk}, mget (subMem sel m sel) j = some c → c.rw → ∃ id b, sel[j]? = some (id, false) ∧ mget m id = some b ∧ b.rw ∧ (φ.sub sel).blk j = φ.blk id := fun hj hc => by
    obtain ⟨id, r, b, hs, hb', rfl⟩ := hsub hj
    have hr : r = false := by
      cases r with
      | false => rfl
      | true =>
        obtain ⟨b', h1, _, h3⟩ := hS hs
        obtain ⟨ro, k, es, rfl⟩ := h3 rfl
        rw [hb'] at h1; cases h1
        simp [Blk.ren, Blk.asRo, Blk.rw] at hc
    subst hr
    exact ⟨id, b, hs, hb', ren_rw.1 (asRo_rw hc), hblk hs⟩
  have hown : ∀ b, own0 b → own b := by
    rintro b (h1 | ⟨j, c, h1, h2, rfl⟩)
    · exact hnew b h1
    · obtain ⟨id, b', _, h4, h5, h6⟩ := hrwb h1 h2
      rw [h6]; exact hM.own id b' h4 h5
  have hA0 : Amb S eb own0 w := by
    have hin : ∀ g ∈ S.errs, g < w0.heap.size := fun g hg => by
      obtain ⟨et, fr, h⟩ := hA.at_ g hg
      exact (Array.getElem?_eq_some_iff.1 h).1
    refine ⟨fun g hg => ?_, fun g hg q => hA.out g hg (hown _ q), hA.inj, fun g hg q => hA.eout g hg (hown _ q)⟩
    obtain ⟨et, fr, h⟩ := hA.at_ g hg
    exact ⟨et, fr, by rw [hk.kept g (hin g hg) (hA.out g hg)]; exact h⟩
  have hM0 : MR S.errT eb (φ.sub sel) (mget (subMem sel m sel)) own0 w := by
    refine ⟨fun j c hj => ?_, fun j c hj => ?_, fun j c hj hc => .inr ⟨j, c, hj, hc, rfl⟩, fun j j' c c' hj hj' hne hc => ?_⟩
    · obtain ⟨id, r, b, hs, hb', _⟩ := hsub hj
      exact ⟨_, hs, (hdomS hs).1⟩
    · obtain ⟨id, r, b, hs, hb', rfl⟩ := hsub hj
      obtain ⟨o, ho, hbr⟩ := hM.blk id b hb'
      obtain ⟨b2, h1, h2, _⟩ := hS hs
      rw [hb'] at h1; cases h1
      refine ⟨o, by rw [hblk hs]; exact ho, ?_⟩
      have := br_ren (moves_sub (sel := sel)) (hM.dom id b hb') (isIn_iff.2 ⟨r, List.mem_of_getElem? hs⟩) h2 hbr r
      rw [pos_at hdist hs] at this
      exact this
    · obtain ⟨id, b, hs, hb', hr, e⟩ := hrwb hj hc
      obtain ⟨id', r', b2, hs', hb2, _⟩ := hsub hj'
      rw [e, hblk hs']
      refine hM.inj id id' b b2 hb' hb2 (fun q => ?_) hr
      subst q
      exact hne (distinct_inj hdist hs hs')
  have hb0 : ∀ j, (φ.sub sel).dom j → j < (subMem sel m sel).length := by
    rintro j ⟨p, hp, _⟩
    rw [sub_len]
    exact (List.getElem?_eq_some_iff.1 hp).1
  have hcall := h eb (φ.sub sel) own0 w w us hA0 (vrs_ren moves_sub hus hargs) hM0 (.refl fun b hb' => .inl hb') hb0
  refine UponV.mono ?_ hcall
  rintro r w' ⟨φ1, v, m', hK0, hext, hvr, hM1, hk1, hb1⟩
  obtain ⟨hrw, hKK⟩ := hK v m' hK0
  -- back in the caller
  have hpl : (putBack (backNo sel m.length) m' 0 sel m).length = m.length := putBack_len _ _ _ fun j id r hj => (hdomS hj).2
  have hsubdom : ∀ {j id : Nat} {r : Bool}, sel[j]? = some (id, r) → (φ.sub sel).dom j := fun hs => ⟨_, hs, (hdomS hs).1⟩
  have hmv : Moves (fun _ => true) (backNo sel m.length) φ1 (φ.glue φ1 m.length sel.length) := by
    intro j _ hd
    cases hs : sel[j]? with
    | some p =>
      obtain ⟨id, r⟩ := p
      obtain ⟨h1, h2⟩ := hdomS hs
      have hsd := hsubdom hs
      have e1 := hext.blk j hsd
      have e2 := hext.base j hsd
      have e3 := hext.k j hsd
      have e4 := hext.size j hsd
      simp only [backNo, hs, Emb.glue, if_pos h2]
      simp only [Emb.sub, hs, Option.getD_some] at e1 e2 e3 e4
      exact ⟨.inl h1, e1.symm, e2.symm, e3.symm, e4.symm⟩
    | none =>
      have hj : sel.length ≤ j := List.getElem?_eq_none_iff.1 hs
      have e : sel.length + (m.length + (j - sel.length) - m.length) = j := by omega
      have hn : ¬ (m.length + (j - sel.length) < m.length) := by omega
      simp only [backNo, hs, Emb.glue, if_neg hn, e]
      exact ⟨.inr ⟨by omega, hd⟩, trivial, trivial, trivial, trivial⟩
  have hE : φ.Ext (φ.glue φ1 m.length sel.length) := by
    refine ⟨fun i hi => .inl hi, fun i hi => ?_, fun i hi => ?_, fun i hi => ?_, fun i hi => ?_⟩ <;> simp [Emb.glue, hb i hi]
  -- a block of the caller's behind the call: one that the callee had, or an old one
  have hget : ∀ i b, mget (putBack (backNo sel m.length) m' 0 sel m ++ newOnes (backNo sel m.length) (m'.drop sel.length)) i = some b →
      (∃ (j : Nat) (c : Blk), mget m' j = some c ∧ b = c.ren (backNo sel m.length) ∧ i = backNo sel m.length j ∧ ((∃ id : Nat, sel[j]? = some (id, false) ∧ i = id) ∨ sel.length ≤ j)) ∨
      (mget m i = some b ∧ i < m.length ∧ ∀ j : Nat, sel[j]? ≠ some (i, false)) := by
    intro i b hi
    rw [mget_append, hpl] at hi
    split at hi
    · rename_i hil
      by_cases hex : ∃ j : Nat, sel[j]? = some (i, false)
      · obtain ⟨j, hj⟩ := hex
        rw [putBack_hit sel 0 m hdist hj, Nat.zero_add, Option.map_eq_some_iff] at hi
        obtain ⟨c, hc, rfl⟩ := hi
        exact .inl ⟨j, c, hc, rfl, by simp [backNo, hj], .inl ⟨i, hj, rfl⟩⟩
      · have hmiss : ∀ j : Nat, sel[j]? ≠ some (i, false) := fun j hj => hex ⟨j, hj⟩
        rw [putBack_miss sel 0 m hmiss] at hi
        exact .inr ⟨hi, hil, hmiss⟩
    · rename_i hil
      rw [newOnes_get, mget_drop, Option.map_eq_some_iff] at hi
      obtain ⟨c, hc, rfl⟩ := hi
      refine .inl ⟨sel.length + (i - m.length), c, hc, rfl, ?_, .inr (by omega)⟩
      have hn : sel[sel.length + (i - m.length)]? = none := List.getElem?_eq_none (by omega)
      simp only [backNo, hn]
      omega
  have hblk1 : ∀ {j : Nat} {c : Blk}, mget m' j = some c → (φ.glue φ1 m.length sel.length).blk (backNo sel m.length j) = φ1.blk j := fun hj => (hmv _ rfl (hM1.dom _ _ hj)).2.1
  -- an old block that the callee had no leave to turn
  have hfar : ∀ {i : Nat} {b : Blk}, mget m i = some b → (∀ j : Nat, sel[j]? ≠ some (i, false)) → ¬ own0 (φ.blk i) := by
    rintro i b hi hmiss (q | ⟨j, c, h1, h2, h3⟩)
    · obtain ⟨o, ho, _⟩ := hM.blk i b hi
      have := (Array.getElem?_eq_some_iff.1 ho).1
      omega
    · obtain ⟨id, b', hs, hb', hr, e⟩ := hrwb h1 h2
      rw [e] at h3
      refine hM.inj id i b' b hb' hi (fun q => ?_) hr h3
      subst q
      exact hmiss j hs
  refine ⟨φ.glue φ1 m.length sel.length, _, _, hKK, hE, vr_ren hmv hvr (inB_true v), ?_, ?_, ?_⟩
  · refine ⟨fun i b hi => ?_, fun i b hi => ?_, fun i b hi hr => ?_, fun i i' b b' hi hi' hne hr => ?_⟩
    · rcases hget i b hi with ⟨j, c, h1, rfl, rfl, _⟩ | ⟨h1, _, _⟩
      · exact (hmv j rfl (hM1.dom j c h1)).1
      · exact .inl (hM.dom i b h1)
    · rcases hget i b hi with ⟨j, c, h1, rfl, rfl, _⟩ | ⟨h1, h2, h3⟩
      · obtain ⟨o, ho, hbr⟩ := hM1.blk j c h1
        refine ⟨o, by rw [hblk1 h1]; exact ho, ?_⟩
        exact br_ren hmv (hM1.dom j c h1) rfl (blk_inB_true c) hbr false
      · obtain ⟨o, ho, hbr⟩ := hM.blk i b h1
        refine ⟨o, ?_, hbr.mono hE (hM.dom i b h1)⟩
        simp only [Emb.glue, if_pos h2]
        rw [hk1.kept _ (Array.getElem?_eq_some_iff.1 ho).1 (hfar h1 h3)]
        exact ho
    · rcases hget i b hi with ⟨j, c, h1, rfl, rfl, _⟩ | ⟨h1, h2, h3⟩
      · rw [hblk1 h1]
        exact hown _ (hM1.own j c h1 (ren_rw.1 hr))
      · simp only [Emb.glue, if_pos h2]
        exact hM.own i b h1 hr
    · rcases hget i b hi with ⟨j, c, h1, rfl, rfl, h2⟩ | ⟨h1, h2, h3⟩
      · rcases hget i' b' hi' with ⟨j', c', g1, rfl, rfl, g2⟩ | ⟨g1, g2, g3⟩
        · rw [hblk1 h1, hblk1 g1]
          exact hM1.inj j j' c c' h1 g1 (fun q => hne (by rw [q])) (ren_rw.1 hr)
        · rw [hblk1 h1]
          simp only [Emb.glue, if_pos g2]
          intro q
          have := hM1.own j c h1 (ren_rw.1 hr)
          rw [q] at this
          exact hfar g1 g3 this
      · rcases hget i' b' hi' with ⟨j', c', g1, rfl, rfl, g2⟩ | ⟨g1, g2, g3⟩
        · rw [hblk1 g1]
          simp only [Emb.glue, if_pos h2]
          intro q
          rcases g2 with ⟨id, hs, _⟩ | hj
          · have e := hext.blk j' (hsubdom hs)
            rw [hblk hs] at e
            rw [e] at q
            obtain ⟨b2, hb2, _⟩ := hS hs
            exact hM.inj i id b b2 h1 hb2 (fun z => h3 j' (by rw [z]; exact hs)) hr q
          · have := hM1.own j' c' g1 (hrw j' c' hj g1)
            rw [← q] at this
            exact hfar h1 h3 this
        · simp only [Emb.glue, if_pos h2, if_pos g2]
          exact hM.inj i i' b b' h1 g1 hne hr
  · refine ⟨hk1.os.trans hk.os, hk1.tape.trans hk.tape, hk1.output.trans hk.output, Nat.le_trans hk.size hk1.size, fun b hb' ho => ?_, hk.new⟩
    rw [hk1.kept b (by omega) (fun q => ho (hown b q)), hk.kept b hb' ho]
  · intro i hi
    rw [List.length_append, hpl, newOnes_len, List.length_drop]
    rcases hi with hi | ⟨h1, h2⟩
    · have := hb i hi; omega
    · have := hb1 _ h2; omega

end AH
