import Derived.Test.YtdjcpmdjodhfeaaDoorAHView
/-
AH: functions as values: tables of calls that read slices and may leave new blocks.
-/
set_option linter.unusedSimpArgs false
namespace AH
open Go
variable {S : Sys} {eb : Nat → Addr} {own : Nat → Prop} {w0 w : World} {φ : Emb} {C : Ctx} {Q : Exit → St → Prop} {st : St}

/-- Some cells: a sentinel's. -/
theorem Amb.any (hA : Amb S eb own w0) (hk : Keeps own w0 w) (he : S.errs ≠ []) : ∃ (b : Nat) (arr : Array Value) (et : TypeId) (fr : Nat × Nat), w.heap[b]? = some (Obj.cells arr et fr) := by
  cases hq : S.errs with
  | nil => exact absurd hq he
  | cons g r =>
    obtain ⟨et, fr, h⟩ := hA.at_ g (by simp [hq])
    have hlt := (Array.getElem?_eq_some_iff.1 h).1
    exact ⟨g, _, et, fr, by rw [hk.kept g hlt (hA.out g (by simp [hq]))]; exact h⟩

/-- The callee's world, for a call with views. -/
theorem view_call {g : FuncId} {args args' : List AV} {M : Nat → Option Blk} {ws : List Nat} {rows : List (Nat × List (List AV))} {foot : List Nat} (he : S.errs ≠ []) (hv : vw M ws args 0 = some (args', rows, foot)) {K : AV → Mem → Prop} (h : CallA1 S g args' (rowsM rows) K)
    (hA : Amb S eb own w0) {us : Array Value} (hus : VRs S.errT eb φ args us.toList) (hM : MR S.errT eb φ M own w) (hk : Keeps own w0 w) :
    CallRes S.P g us w fun r w' => ∃ φ' v m', K v m' ∧ VR S.errT eb φ' v r ∧ MR S.errT eb φ' (mget m') (fun b => w.heap.size ≤ b) w' ∧ Keeps (fun b => w.heap.size ≤ b) w w' ∧ ∀ id, φ'.dom id → id < m'.length := by
  obtain ⟨ls, h1, h2⟩ := vw_ok hM (hA.any hk he) hv hus
  obtain ⟨g1, g2⟩ := h2 (embOf ls) fun j x hx => by rw [Nat.zero_add]; exact stands_embOf hx
  have hm : rowsM rows = memOf ls := by rw [← h1, rowsM_memOf]
  have hM0 : MR S.errT eb (embOf ls) (mget (rowsM rows)) (fun b => w.heap.size ≤ b) w := by
    rw [hm]
    refine mr_of fun i x hx => ?_
    have := g2 i x hx
    rwa [Nat.zero_add] at this
  refine UponV.mono ?_ (h eb (embOf ls) _ w w us (hA.fresh hk) g1 hM0 (.refl fun _ h => h) fun i hi => by rw [hm]; simpa [memOf, embOf] using hi)
  rintro r w' ⟨φ', v, m', hK, _, hr, hm', hk', hb⟩
  exact ⟨φ', v, m', hK, hr, hm', hk', hb⟩

/-- What a function that reads comes to, out of what it sees: rows for its slices. -/
abbrev VF := List AV → List (Nat × List (List AV)) → Option AV

def useV (f : VF) : Option (List AV × List (Nat × List (List AV)) × List Nat) → Option (AV × List Nat)
  | some (a, rows, foot) => (f a rows).map fun v => (v, foot)
  | none => none

def rtV (ws : List Nat) (f : VF) : RT := fun args M => useV f (vw M ws args 0)

theorem rtV_ok {g : FuncId} {ws : List Nat} {f : VF} (he : S.errs ≠ []) (h : ∀ args rows v, f args rows = some v → v.lt 0 = true ∧ CallA1 S g args (rowsM rows) fun r _ => r = v) : ReadF S g (rtV ws f) := by
  intro args M v foot e
  unfold rtV at e
  cases hv : vw M ws args 0 with
  | none => rw [hv] at e; cases e
  | some x =>
    obtain ⟨a, rows, ft⟩ := x
    rw [hv] at e
    simp only [useV, Option.map_eq_some_iff, Prod.mk.injEq] at e
    obtain ⟨v', h1, rfl, rfl⟩ := e
    obtain ⟨h2, h3⟩ := h a rows v' h1
    refine ⟨fun M' hM' => ?_, fun eb φ own w0 w us hA hus hM hk => ?_⟩
    · have := vw_foot hv M' hM'
      simp only [rtV, this, useV, h1, Option.map_some]
    · refine UponV.mono ?_ (view_call he hv h3 hA hus hM hk)
      rintro r w' ⟨φ', v, m', rfl, hr, _, hk', _⟩
      exact ⟨vr_dom h2 hr φ, hM.over hk', hk.over hk'⟩

/-- A function that turns memory, or makes blocks: the value and the memory behind. -/
abbrev UT := List AV → Mem → Option (AV × Mem)

def CallF (S : Sys) (g : FuncId) (f : UT) : Prop := ∀ args m v m', f args m = some (v, m') → CallA1 S g args m fun r m'' => r = v ∧ m'' = m'

/-- What a function that reads and makes blocks comes to: the new blocks are numbered from the number of rows on. -/
abbrev NF := List AV → List (Nat × List (List AV)) → Option (AV × Mem)

/-- A callee's numbers in the caller's memory. -/
def shift (n k : Nat) (j : Nat) : Nat := n + (j - k)

def useN (f : NF) (m : Mem) : Option (List AV × List (Nat × List (List AV)) × List Nat) → Option (AV × Mem)
  | some (a, rows, _) => (f a rows).map fun x => (x.1.ren (shift m.length rows.length), m ++ newOnes (shift m.length rows.length) x.2)
  | none => none

def utN (ws : List Nat) (f : NF) : UT := fun args m => useN f m (vw (mget m) ws args 0)

def rwB : Option Blk → Bool
  | some (.row ro _ _) => !ro
  | _ => true

def blkIn (p : Nat → Bool) : Option Blk → Bool
  | some b => b.inB p
  | none => true

theorem utN_ok {g : FuncId} {ws : List Nat} {f : NF} (he : S.errs ≠ []) (h : ∀ args rows v news, f args rows = some (v, news) → v.inB (fun j => decide (rows.length ≤ j)) = true ∧ news.all (blkIn fun j => decide (rows.length ≤ j)) = true ∧ news.all rwB = true ∧
    CallA1 S g args (rowsM rows) fun r m' => r = v ∧ m' = rowsM rows ++ news) : CallF S g (utN ws f) := by
  intro args m v m' e
  unfold utN at e
  cases hv : vw (mget m) ws args 0 with
  | none => rw [hv] at e; cases e
  | some x =>
    obtain ⟨a, rows, ft⟩ := x
    rw [hv] at e
    simp only [useN, Option.map_eq_some_iff, Prod.mk.injEq] at e
    obtain ⟨⟨v0, news⟩, h1, rfl, rfl⟩ := e
    obtain ⟨h2, h3, h4, h5⟩ := h a rows v0 news h1
    intro eb φ own w0 w us hA hus hM hk hb
    refine UponV.mono ?_ (view_call he hv h5 hA hus hM hk)
    rintro r w' ⟨φ1, v, m', ⟨rfl, rfl⟩, hr, hM1, hk1, hb1⟩
    simp only
    have hn0 := rowsM_len rows
    have hmv : Moves (fun j => decide (rows.length ≤ j)) (shift m.length rows.length) φ1 (φ.glue φ1 m.length rows.length) := by
      intro j hj hd
      simp only [decide_eq_true_eq] at hj
      have e : rows.length + (m.length + (j - rows.length) - m.length) = j := by omega
      have hn : ¬ (m.length + (j - rows.length) < m.length) := by omega
      simp only [shift, Emb.glue, if_neg hn, e]
      exact ⟨.inr ⟨by omega, hd⟩, trivial, trivial, trivial, trivial⟩
    have hE : φ.Ext (φ.glue φ1 m.length rows.length) := by
      refine ⟨fun i hi => .inl hi, fun i hi => ?_, fun i hi => ?_, fun i hi => ?_, fun i hi => ?_⟩ <;> simp [Emb.glue, hb i hi]
    have hM' : MR S.errT eb φ (mget m) own w' := hM.over hk1
    have hget : ∀ {i : Nat} {b : Blk}, mget (m ++ newOnes (shift m.length rows.length) news) i = some b → (mget m i = some b ∧ i < m.length) ∨ ∃ j c, m.length ≤ i ∧ rows.length ≤ j ∧ mget (rowsM rows ++ news) j = some c ∧ mget news (i - m.length) = some c ∧ i = shift m.length rows.length j ∧ b = c.ren (shift m.length rows.length) := by
      intro i b hi
      rw [mget_append] at hi
      split at hi
      · rename_i hlt; exact .inl ⟨hi, hlt⟩
      · rename_i hlt
        rw [newOnes_get, Option.map_eq_some_iff] at hi
        obtain ⟨c, hc, rfl⟩ := hi
        refine .inr ⟨rows.length + (i - m.length), c, by omega, by omega, ?_, hc, by simp only [shift]; omega, rfl⟩
        rw [mget_append, hn0, if_neg (by omega), show rows.length + (i - m.length) - rows.length = i - m.length by omega]
        exact hc
    have hnew : ∀ {i : Nat} {c : Blk}, mget news i = some c → c.rw ∧ c.inB (fun j => decide (rows.length ≤ j)) = true := by
      intro i c hc
      have hm := List.mem_of_getElem? (mget_some hc).2
      have q1 := List.all_eq_true.1 h4 _ hm
      have q2 := List.all_eq_true.1 h3 _ hm
      refine ⟨?_, q2⟩
      cases c with
      | row ro k es => simpa [rwB, Blk.rw] using q1
      | map es c => trivial
    have hblk : ∀ {j : Nat}, rows.length ≤ j → (φ.glue φ1 m.length rows.length).blk (shift m.length rows.length j) = φ1.blk j := by
      intro j hj
      have e : rows.length + (m.length + (j - rows.length) - m.length) = j := by omega
      have hn : ¬ (m.length + (j - rows.length) < m.length) := by omega
      simp only [shift, Emb.glue, if_neg hn, e]
    have hsz := hk.size
    refine ⟨φ.glue φ1 m.length rows.length, _, _, ⟨rfl, rfl⟩, hE, vr_ren hmv hr h2, ⟨fun i b hi => ?_, fun i b hi => ?_, fun i b hi hrw => ?_, fun i i' b b' hi hi' hne hrw => ?_⟩, hk.over hk1, fun i hi => ?_⟩
    · rcases hget hi with ⟨q1, _⟩ | ⟨j, c, _, _, q3, _, q5, _⟩
      · exact .inl (hM'.dom i b q1)
      · have := hM1.dom j c q3
        rw [q5]
        refine .inr ⟨by simp only [shift]; omega, ?_⟩
        have e : rows.length + (shift m.length rows.length j - m.length) = j := by simp only [shift]; omega
        rw [e]; exact this
    · rcases hget hi with ⟨q1, _⟩ | ⟨j, c, q0, q2, q3, q4, rfl, rfl⟩
      · obtain ⟨o, ho, hbr⟩ := hM'.blk i b q1
        exact ⟨o, by rw [hE.blk i (hM'.dom i b q1)]; exact ho, hbr.mono hE (hM'.dom i b q1)⟩
      · obtain ⟨o, ho, hbr⟩ := hM1.blk j c q3
        refine ⟨o, by rw [hblk q2]; exact ho, ?_⟩
        have := br_ren hmv (hM1.dom j c q3) (by simpa using q2) (hnew q4).2 hbr false
        cases c <;> exact this
    · rcases hget hi with ⟨q1, _⟩ | ⟨j, c, q0, q2, q3, q4, rfl, rfl⟩
      · rw [hE.blk i (hM'.dom i b q1)]
        exact hM'.own i b q1 hrw
      · rw [hblk q2]
        have hw' := hM1.own j c q3 (hnew q4).1
        exact hk.new _ (Nat.le_trans hsz hw')
    · rcases hget hi with ⟨q1, _⟩ | ⟨j, c, q0, q2, q3, q4, rfl, rfl⟩
      · rcases hget hi' with ⟨p1, _⟩ | ⟨j', c', p0, p2, p3, p4, rfl, rfl⟩
        · rw [hE.blk i (hM'.dom i b q1), hE.blk i' (hM'.dom i' b' p1)]
          exact hM'.inj i i' b b' q1 p1 hne hrw
        · rw [hE.blk i (hM'.dom i b q1), hblk p2]
          obtain ⟨o, ho, _⟩ := hM.blk i b q1
          have h1 := (Array.getElem?_eq_some_iff.1 ho).1
          have h2 : w.heap.size ≤ φ1.blk j' := hM1.own j' c' p3 (hnew p4).1
          omega
      · rcases hget hi' with ⟨p1, _⟩ | ⟨j', c', p0, p2, p3, p4, rfl, rfl⟩
        · rw [hE.blk i' (hM'.dom i' b' p1), hblk q2]
          obtain ⟨o, ho, _⟩ := hM.blk i' b' p1
          have h1 := (Array.getElem?_eq_some_iff.1 ho).1
          have h2 : w.heap.size ≤ φ1.blk j := hM1.own j c q3 (hnew q4).1
          omega
        · rw [hblk q2, hblk p2]
          exact hM1.inj j j' c c' q3 p3 (fun e => hne (by rw [e])) (hnew q4).1
    · rw [List.length_append, newOnes_len]
      rcases hi with hi | ⟨q1, q2⟩
      · have := hb i hi
        omega
      · have := hb1 _ q2
        rw [List.length_append, hn0] at this
        omega

def lookU : List (FuncId × UT) → FuncId → Option UT
  | [], _ => none
  | (a, f) :: r, g => bif a == g then some f else lookU r g

def appU (args : List AV) (m : Mem) : Option UT → Option (AV × Mem)
  | some f => f args m
  | none => none

def AllU (S : Sys) : List (FuncId × UT) → Prop
  | [] => True
  | (g, f) :: r => CallF S g f ∧ AllU S r

theorem lookU_spec : ∀ {T : List (FuncId × UT)} {g : FuncId} {f : UT}, AllU S T → lookU T g = some f → CallF S g f
  | (a, f') :: r, g, f, h, e => by
    simp only [lookU] at e
    by_cases q : a = g
    · subst q; simp at e; subst e; exact h.1
    · have : (a == g) = false := by simp [q]
      rw [this] at e
      exact lookU_spec h.2 e

def callR (S : Sys) (g : FuncId) (args : List AV) (m : Mem) (K : AV → Mem → Prop) : Option (AV × List Nat) → Option (AV × Mem) → Prop
  | some (v, _), _ => K v m
  | none, some (v, m') => K v m'
  | none, none => CallA1 S g args m K

def ctxU (S : Sys) (T : List (FuncId × RT)) (U : List (FuncId × UT)) : Ctx :=
  { call := fun g args m K => callR S g args m K (rdT T g args (mget m)) (appU args m (lookU U g)), read := rdT T, base := 0 }

theorem ctxU_ok {T : List (FuncId × RT)} {U : List (FuncId × UT)} (h : AllF S T) (hU : AllU S U) (hm : S.P.follows .mixedOrders = true) : CtxOK S (ctxU S T U) := by
  refine ⟨fun g args m K hK => ?_, rdT_ok h, hm⟩
  show CallA1 S g args m K
  have hK' : callR S g args m K (rdT T g args (mget m)) (appU args m (lookU U g)) := hK
  cases q : rdT T g args (mget m) with
  | none =>
    rw [q] at hK'
    cases p : lookU U g with
    | none => rw [p] at hK'; exact hK'
    | some f =>
      rw [p] at hK'
      have hK2 : callR S g args m K none (f args m) := hK'
      cases z : f args m with
      | none => rw [z] at hK2; exact hK2
      | some x =>
        obtain ⟨v, m'⟩ := x
        rw [z] at hK2
        refine (lookU_spec hU p args m v m' z).mono ?_
        rintro r m'' ⟨rfl, rfl⟩
        exact hK2
  | some x =>
    obtain ⟨v, foot⟩ := x
    rw [q] at hK'
    intro eb φ own w0 w us hA hus hM hk hb
    exact UponV.mono (fun _ _ ⟨h1, h2, h3⟩ => ⟨φ, v, m, hK', .refl φ, h1, h2, h3, hb⟩) ((rdT_ok h g args (mget m) v foot q).2 eb φ own w0 w us hA hus hM hk)

theorem ctxU_mono {T : List (FuncId × RT)} {U : List (FuncId × UT)} : MonoC (ctxU S T U) := by
  intro g args m K K' h hK
  have hK' : callR S g args m K (rdT T g args (mget m)) (appU args m (lookU U g)) := hK
  show callR S g args m K' (rdT T g args (mget m)) (appU args m (lookU U g))
  generalize rdT T g args (mget m) = q at hK' ⊢
  generalize appU args m (lookU U g) = z at hK' ⊢
  cases q with
  | some x => exact h _ _ hK'
  | none =>
    cases z with
    | some x => exact h _ _ hK'
    | none => exact CallA1.mono hK' h

theorem ctxU_monoB {T : List (FuncId × RT)} {U : List (FuncId × UT)} {n : Nat} : MonoC { call := (ctxU S T U).call, read := (ctxU S T U).read, base := n } := ctxU_mono (S := S) (T := T) (U := U)

section
variable {T : List (FuncId × RT)} {U : List (FuncId × UT)} {g : FuncId} {args : List AV} {m : Mem} {K : AV → Mem → Prop}
theorem ctxU_call : (ctxU S T U).call g args m K = callR S g args m K (appT args (mget m) (lookT T g)) (appU args m (lookU U g)) := rfl
theorem ctxU_read {M : Nat → Option Blk} : (ctxU S T U).read g args M = appT args M (lookT T g) := rfl
theorem callR_read {v : AV} {f : List Nat} {z : Option (AV × Mem)} : callR S g args m K (some (v, f)) z = K v m := rfl
theorem callR_new {v : AV} {m' : Mem} : callR S g args m K none (some (v, m')) = K v m' := rfl
theorem callR_none : callR S g args m K none none = CallA1 S g args m K := rfl
theorem appU_some {f : UT} : appU args m (some f) = f args m := rfl
theorem appU_none : appU args m none = none := rfl
theorem lookU_cons {a : FuncId} {f : UT} {r : List (FuncId × UT)} : lookU ((a, f) :: r) g = bif a == g then some f else lookU r g := rfl
theorem lookU_nil : lookU [] g = none := rfl
end

/-- An empty slice that may be nil: as one over an empty row that is only read. -/
theorem CallA1.empty {g : FuncId} {args : List AV} {m : Mem} (k : Nat) (he : S.errs ≠ [])
    (h : CallA1 S g args m fun v m' => (v = .nils ∧ m' = m) ∨ (∃ c ro es, v = .slc m.length 0 0 c ∧ m' = m ++ [some (.row ro k es)])) :
    CallA1 S g args m fun v m' => v = .slc m.length 0 0 none ∧ m' = m ++ [some (.row true k [])] := by
  intro eb φ own w0 w us hA hus hM hk hb
  refine UponV.mono ?_ (h eb φ own w0 w us hA hus hM hk hb)
  rintro r w' ⟨φ1, v, m', h1, hE, hr, hM1, hk1, hb1⟩
  have hget : ∀ {i : Nat} {b : Option Blk} {x : Blk}, mget (m ++ [b]) i = some x → (i < m.length ∧ mget m i = some x) ∨ (i = m.length ∧ b = some x) := by
    intro i b x hi
    rw [mget_append] at hi
    split at hi
    · rename_i hlt; exact .inl ⟨hlt, hi⟩
    · rename_i hlt
      cases hj : i - m.length with
      | zero => rw [hj] at hi; exact .inr ⟨by omega, hi⟩
      | succ j => rw [hj] at hi; cases j <;> cases hi
  rcases h1 with ⟨rfl, rfl⟩ | ⟨c, ro, es, rfl, rfl⟩
  · cases hq : S.errs with
    | nil => exact absurd hq he
    | cons g0 rest =>
      obtain ⟨et, fr, hg⟩ := hA.at_ g0 (by simp [hq])
      have hout := hA.out g0 (by simp [hq])
      have hlt := (Array.getElem?_eq_some_iff.1 hg).1
      have hg' : w'.heap[g0]? = some (.cells #[.iface S.errT (.pointer (some (eb g0)))] et fr) := by rw [hk1.kept g0 hlt hout]; exact hg
      have hnd : ¬ φ1.dom m'.length := fun q => Nat.lt_irrefl _ (hb1 _ q)
      have hE2 := Emb.add_ext (b := g0) (base := 0) (k := k) (size := 1) hnd
      have e1 : (φ1.add m'.length g0 0 k 1).dom m'.length := by simp [Emb.add]
      have e2 : (φ1.add m'.length g0 0 k 1).blk m'.length = g0 := by simp [Emb.add]
      have e3 : (φ1.add m'.length g0 0 k 1).base m'.length = 0 := by simp [Emb.add]
      have e4 : (φ1.add m'.length g0 0 k 1).k m'.length = k := by simp [Emb.add]
      have e5 : (φ1.add m'.length g0 0 k 1).size m'.length = 1 := by simp [Emb.add]
      have hv : VR S.errT eb (φ1.add m'.length g0 0 k 1) (.slc m'.length 0 0 none) r := by
        cases hr
        exact .slc0 _ 0 none none e1 (fun _ q => by cases q)
      refine ⟨φ1.add m'.length g0 0 k 1, _, _, ⟨rfl, rfl⟩, hE.trans hE2, hv, ⟨fun i b hi => ?_, fun i b hi => ?_, fun i b hi hrw => ?_, fun i i' b b' hi hi' hne hrw => ?_⟩, hk1, fun i hi => ?_⟩
      · rcases hget hi with ⟨_, q⟩ | ⟨rfl, _⟩
        · exact hE2.dom _ (hM1.dom i b q)
        · exact e1
      · rcases hget hi with ⟨_, q⟩ | ⟨rfl, q⟩
        · obtain ⟨o, ho, hbr⟩ := hM1.blk i b q
          exact ⟨o, by rw [hE2.blk i (hM1.dom i b q)]; exact ho, hbr.mono hE2 (hM1.dom i b q)⟩
        · cases q
          exact ⟨_, by rw [e2]; exact hg', _, et, fr, rfl, e4, by rw [e5]; rfl, by rw [e3]; simp, (fun q => by cases q), fun j e hj => by simp at hj⟩
      · rcases hget hi with ⟨_, q⟩ | ⟨rfl, q⟩
        · rw [hE2.blk i (hM1.dom i b q)]; exact hM1.own i b q hrw
        · cases q; cases hrw
      · rcases hget hi with ⟨l1, q⟩ | ⟨rfl, q⟩
        · rcases hget hi' with ⟨l2, q'⟩ | ⟨rfl, q'⟩
          · rw [hE2.blk i (hM1.dom i b q), hE2.blk i' (hM1.dom i' b' q')]
            exact hM1.inj i i' b b' q q' hne hrw
          · rw [hE2.blk i (hM1.dom i b q), e2]
            intro e
            have := hM1.own i b q hrw
            rw [e] at this
            exact hout this
        · cases q; cases hrw
      · have := show (φ1.add m'.length g0 0 k 1).dom i from hi
        simp only [Emb.add] at this
        rw [List.length_append]
        rcases this with q | q
        · have := hb1 i q
          simp only [List.length_cons, List.length_nil]
          omega
        · subst q
          simp
  · have hblk : BR S.errT eb φ1 m.length (.row true k []) ((w'.heap[φ1.blk m.length]?).getD default) ∧ ∃ o, w'.heap[φ1.blk m.length]? = some o := by
      have hi : mget (m ++ [some (Blk.row ro k es)]) m.length = some (.row ro k es) := by rw [mget_append]; simp [mget]
      obtain ⟨o, ho, arr, et, fr, q1, q2, q3, q4, _, _⟩ := hM1.blk m.length _ hi
      refine ⟨?_, o, ho⟩
      rw [ho]
      exact ⟨arr, et, fr, q1, q2, q3, by simp only [List.length_nil, Nat.zero_mul]; omega, (fun q => by cases q), fun j e hj => by simp at hj⟩
    obtain ⟨hbr, o, ho⟩ := hblk
    rw [ho] at hbr
    have old : ∀ {i : Nat} {x : Blk}, i < m.length → mget m i = some x → mget (m ++ [some (Blk.row ro k es)]) i = some x := by
      intro i x hlt q
      rw [mget_append, if_pos hlt]; exact q
    have hdm : φ1.dom m.length := hM1.dom m.length (.row ro k es) (by rw [mget_append]; simp [mget])
    have hv : VR S.errT eb φ1 (.slc m.length 0 0 none) r := by
      cases hr
      · rename_i c' hd hs hc hx
        exact .slc _ 0 0 none c' hd hc (fun _ q => by cases q) hs
      · exact .slc0 _ 0 none _ hdm (fun _ q => by cases q)
    refine ⟨φ1, _, _, ⟨rfl, rfl⟩, hE, hv, ⟨fun i b hi => ?_, fun i b hi => ?_, fun i b hi hrw => ?_, fun i i' b b' hi hi' hne hrw => ?_⟩, hk1, fun i hi => ?_⟩
    · rcases hget hi with ⟨l, q⟩ | ⟨rfl, _⟩
      · exact hM1.dom i b (old l q)
      · exact hdm
    · rcases hget hi with ⟨l, q⟩ | ⟨rfl, q⟩
      · exact hM1.blk i b (old l q)
      · cases q
        exact ⟨o, ho, hbr⟩
    · rcases hget hi with ⟨l, q⟩ | ⟨rfl, q⟩
      · exact hM1.own i b (old l q) hrw
      · cases q; cases hrw
    · rcases hget hi with ⟨l, q⟩ | ⟨rfl, q⟩
      · rcases hget hi' with ⟨l', q'⟩ | ⟨rfl, q'⟩
        · exact hM1.inj i i' b b' (old l q) (old l' q') hne hrw
        · exact hM1.inj i m.length b (.row ro k es) (old l q) (by rw [mget_append]; simp [mget]) hne hrw
      · cases q; cases hrw
    · have := hb1 i hi
      simpa using this

/-- Cells that stand for something: how it is written, and read again. -/
structure Cod (α : Type) where
  enc : α → List AV
  dec : List AV → Option α
  ok : ∀ l a, dec l = some a → l = enc a
  de : ∀ a, dec (enc a) = some a
  flat : ∀ a, AV.lts 0 (enc a) = true

def Cod.decL {α : Type} (c : Cod α) : List (List AV) → Option (List α)
  | [] => some []
  | e :: r => match c.dec e, c.decL r with
    | some a, some l => some (a :: l)
    | _, _ => none

theorem Cod.decL_map {α : Type} (c : Cod α) : ∀ l : List α, c.decL (l.map c.enc) = some l
  | [] => rfl
  | a :: r => by simp only [List.map_cons, Cod.decL, c.de, c.decL_map r]

theorem Cod.decL_ok {α : Type} (c : Cod α) : ∀ {es : List (List AV)} {l : List α}, c.decL es = some l → es = l.map c.enc
  | [], l, h => by simp only [Cod.decL, Option.some.injEq] at h; subst h; rfl
  | e :: r, l, h => by
    unfold Cod.decL at h
    split at h
    · rename_i a l' h1 h2
      simp only [Option.some.injEq] at h
      subst h
      rw [c.ok _ _ h1, c.decL_ok h2]
      rfl
    · cases h

theorem Cod.all_flat {α : Type} (c : Cod α) : ∀ l : List α, (l.map c.enc).all (AV.lts 0) = true
  | [] => rfl
  | a :: r => by simp only [List.map_cons, List.all_cons, c.flat, c.all_flat r, Bool.and_self]

/-- Functions of arguments without blocks. -/
def rtP {α : Type} (c : Cod α) (f : α → AV) : RT := fun args _ => (c.dec args).map fun a => (f a, [])

theorem rtP_ok {α : Type} {g : FuncId} {c : Cod α} {f : α → AV} (h : ∀ a, Pure S g (c.enc a) (f a)) (hf : ∀ a, (f a).lt 0 = true) : ReadF S g (rtP c f) := by
  refine ReadF.pure fun args M v foot e => ?_
  simp only [rtP, Option.map_eq_some_iff, Prod.mk.injEq] at e
  obtain ⟨a, h1, rfl, rfl⟩ := e
  refine ⟨rfl, fun M' => by simp only [rtP, h1, Option.map_some], ?_, hf a, ?_⟩
  · rw [c.ok _ _ h1]; exact c.flat a
  · rw [c.ok _ _ h1]; exact h a

theorem take_map_len {α β : Type} (f : α → β) (l : List α) : (l.map f).take l.length = l.map f := List.take_of_length_le (by simp)

/-- One value that stands for something. -/
structure Arg (α : Type) where
  enc : α → AV
  dec : AV → Option α
  ok : ∀ v a, dec v = some a → v = enc a
  de : ∀ a, dec (enc a) = some a
  flat : ∀ a, (enc a).lt 0 = true

def decI (k : IntKind) : AV → Option Int
  | .int k' n => if k = k' then some n else none
  | _ => none
def decB : AV → Option Bool
  | .bool b => some b
  | _ => none
def decS : AV → Option ByteArray
  | .str s => some s
  | _ => none
def decAgg {α : Type} (c : Cod α) : AV → Option α
  | .agg cs => c.dec cs
  | _ => none

theorem decI_ok {k : IntKind} (v : AV) (a : Int) (h : decI k v = some a) : v = .int k a := by
  unfold decI at h
  split at h
  · split at h
    · rename_i q; subst q; simp only [Option.some.injEq] at h; rw [h]
    · cases h
  · cases h
theorem decB_ok (v : AV) (a : Bool) (h : decB v = some a) : v = .bool a := by
  unfold decB at h
  split at h
  · simp only [Option.some.injEq] at h; rw [h]
  · cases h
theorem decS_ok (v : AV) (a : ByteArray) (h : decS v = some a) : v = .str a := by
  unfold decS at h
  split at h
  · simp only [Option.some.injEq] at h; rw [h]
  · cases h
theorem decAgg_ok {α : Type} {c : Cod α} (v : AV) (a : α) (h : decAgg c v = some a) : v = .agg (c.enc a) := by
  unfold decAgg at h
  split at h
  · rw [c.ok _ _ h]
  · cases h
theorem decI_de {k : IntKind} (a : Int) : decI k (.int k a) = some a := by simp [decI]

def aI (k : IntKind) : Arg Int := ⟨.int k, decI k, decI_ok, decI_de, fun _ => rfl⟩
def aB : Arg Bool := ⟨.bool, decB, decB_ok, fun _ => rfl, fun _ => rfl⟩
def aS : Arg ByteArray := ⟨.str, decS, decS_ok, fun _ => rfl, fun _ => rfl⟩
def aA {α : Type} (c : Cod α) : Arg α := ⟨fun a => .agg (c.enc a), decAgg c, decAgg_ok, fun a => c.de a, fun a => c.flat a⟩

def dec0 : List AV → Option Unit
  | [] => some ()
  | _ :: _ => none
theorem dec0_ok (l : List AV) (a : Unit) (h : dec0 l = some a) : l = [] := by
  unfold dec0 at h
  split at h
  · rfl
  · cases h
def c0 : Cod Unit := ⟨fun _ => [], dec0, dec0_ok, fun _ => rfl, fun _ => rfl⟩
def decC {α β : Type} (x : Arg α) (c : Cod β) : List AV → Option (α × β)
  | [] => none
  | v :: r => match x.dec v, c.dec r with
    | some a, some b => some (a, b)
    | _, _ => none
theorem decC_ok {α β : Type} {x : Arg α} {c : Cod β} (l : List AV) (p : α × β) (h : decC x c l = some p) : l = x.enc p.1 :: c.enc p.2 := by
  unfold decC at h
  split at h
  · cases h
  · split at h
    · rename_i h1 h2
      simp only [Option.some.injEq] at h
      subst h
      rw [x.ok _ _ h1, c.ok _ _ h2]
    · cases h
theorem decC_de {α β : Type} {x : Arg α} {c : Cod β} (p : α × β) : decC x c (x.enc p.1 :: c.enc p.2) = some p := by simp only [decC, x.de, c.de]
theorem decC_flat {α β : Type} {x : Arg α} {c : Cod β} (p : α × β) : AV.lts 0 (x.enc p.1 :: c.enc p.2) = true := by simp only [AV.lts, x.flat, c.flat, Bool.and_self]
def cC {α β : Type} (x : Arg α) (c : Cod β) : Cod (α × β) := ⟨fun p => x.enc p.1 :: c.enc p.2, decC x c, decC_ok, decC_de, decC_flat⟩

theorem eqAV_bool {l a b : Bool} : eqAV .bool l (.bool a) (.bool b) = some (True, a == b) := rfl
theorem eqAV_flat {l : Bool} {ks : List SK} {a b : List AV} : eqAV (.flat ks) l (.agg a) (.agg b) = (eqFlat ks a b).map fun x => (True, x) := rfl
theorem eqAV_p0 {l : Bool} : eqAV .ptr l .nilp .nilp = some (True, true) := rfl
theorem eqAV_p1 {l : Bool} {i j k : Nat} : eqAV .ptr l .nilp (.ptr i j k) = some (True, false) := rfl
theorem eqAV_p2 {l : Bool} {i j k : Nat} : eqAV .ptr l (.ptr i j k) .nilp = some (True, false) := rfl
theorem eqAV_p3 {k : EqK} {l : Bool} {i j s i' j' s' : Nat} : eqAV k l (.ptr i j s) (.ptr i' j' s') = none := rfl
theorem eqAV_s0 {l : Bool} : eqAV .slice l .nils .nils = some (True, true) := rfl
theorem eqAV_s1 {l : Bool} {i j n : Nat} {c : Option Nat} : eqAV .slice l .nils (.slc i j n c) = some (n ≠ 0, false) := rfl
theorem eqAV_s2 {l : Bool} {i j n : Nat} {c : Option Nat} : eqAV .slice l (.slc i j n c) .nils = some (n ≠ 0, false) := rfl
theorem eqAV_s3 {l : Bool} {i j k n : Nat} : eqAV .slice l .nils (.isl i j k n) = some (True, false) := rfl
theorem eqAV_s4 {l : Bool} {i j k n : Nat} : eqAV .slice l (.isl i j k n) .nils = some (True, false) := rfl
theorem eqAV_m0 {l : Bool} : eqAV .map l .nilm .nilm = some (True, true) := rfl
theorem eqAV_m1 {l : Bool} {i : Nat} : eqAV .map l (.map i) .nilm = some (True, false) := rfl
theorem eqAV_m2 {l : Bool} {i : Nat} : eqAV .map l .nilm (.map i) = some (True, false) := rfl
theorem eqAV_f0 {l : Bool} : eqAV .func l .nilf .nilf = some (True, true) := rfl
theorem eqAV_f1 {l : Bool} {f : FuncId} {a b : List AV} : eqAV .func l (.fn f a b) .nilf = some (True, false) := rfl
theorem eqAV_f2 {l : Bool} {f : FuncId} {a b : List AV} : eqAV .func l .nilf (.fn f a b) = some (True, false) := rfl
theorem eqAV_i0  : eqAV .iface true .nili .nili = some (True, true) := rfl
theorem eqAV_i1 {l : Bool} {t : TypeId} {v : AV} : eqAV .iface l .nili (.ifc t v) = some (True, false) := rfl
theorem eqAV_i2 {l : Bool} {t : TypeId} {v : AV} : eqAV .iface l (.ifc t v) .nili = some (True, false) := rfl
theorem eqAV_i3 {l : Bool} {i : Nat} : eqAV .iface l .nili (.err i) = some (True, false) := rfl
theorem eqAV_i4 {l : Bool} {i : Nat} : eqAV .iface l (.err i) .nili = some (True, false) := rfl

mutual
theorem lt_of_flat {n : Nat} : ∀ {v : AV}, v.lt 0 = true → v.lt n = true
  | .ptr .., h | .slc .., h | .isl .., h | .map _, h => by simp [AV.lt] at h
  | .undef, _ | .bool _, _ | .int .., _ | .str _, _ | .nilp, _ | .nils, _ | .nilm, _ | .nilf, _ | .nili, _ | .err _, _ => rfl
  | .fn f a b, h => by
    simp only [AV.lt, Bool.and_eq_true] at h
    simp only [AV.lt, lts_of_flat h.1, lts_of_flat h.2, Bool.and_self]
  | .ifc t v, h => by
    simp only [AV.lt] at h
    simp only [AV.lt, lt_of_flat h]
  | .agg cs, h => by
    simp only [AV.lt] at h
    simp only [AV.lt, lts_of_flat h]
  | .tup cs, h => by
    simp only [AV.lt] at h
    simp only [AV.lt, lts_of_flat h]
theorem lts_of_flat {n : Nat} : ∀ {l : List AV}, AV.lts 0 l = true → AV.lts n l = true
  | [], _ => rfl
  | v :: r, h => by
    simp only [AV.lts, Bool.and_eq_true] at h
    simp only [AV.lts, lt_of_flat h.1, lts_of_flat h.2, Bool.and_self]
end

theorem Cod.all_lt {α : Type} (c : Cod α) (n : Nat) : ∀ l : List α, (l.map c.enc).all (AV.lts n) = true
  | [] => rfl
  | a :: r => by simp only [List.map_cons, List.all_cons, lts_of_flat (c.flat a), c.all_lt n r, Bool.and_self]
theorem Cod.all_in {α : Type} (c : Cod α) (p : Nat → Bool) : ∀ l : List α, (l.map c.enc).all (AV.insB p) = true
  | [] => rfl
  | a :: r => by simp only [List.map_cons, List.all_cons, flats_inB (c.flat a), c.all_in p r, Bool.and_self]
theorem Cod.map_rens {α : Type} (c : Cod α) (ρ : Nat → Nat) : ∀ l : List α, (l.map c.enc).map (AV.rens ρ) = l.map c.enc
  | [] => rfl
  | a :: r => by simp only [List.map_cons, flats_rens (c.flat a), c.map_rens ρ r]

theorem memLt_row {n k : Nat} {ro : Bool} {es : List (List AV)} {r : Mem} : memLt n (some (.row ro k es) :: r) = (es.all (AV.lts n) && memLt n r) := rfl
theorem memLt_none {n : Nat} {r : Mem} : memLt n (none :: r) = memLt n r := rfl
theorem memLt_nil {n : Nat} : memLt n [] = true := rfl

theorem gc_cutE {base : Nat} {X : St → Prop} {s : St} (n : Nat) {l : Tm} {m : Mem} (hX : X ⟨l, m⟩) (h3 : memLt n m = true) (hn : base ≤ n) (hl : m.length = n) (h4 : tmLt n l = true) (hm : s.mem.take n = m) (h1 : keepT l s.tm) : gcX base X s := gc_cut n hn hm.symm hl h1 h3 h4 hX

theorem gc_keepE {base : Nat} {X : St → Prop} {s : St} {l : Tm} {m : Mem} (hX : X ⟨l, m⟩) (hm : s.mem = m) (h1 : keepT l s.tm) : gcX base X s := gc_keep h1 (by rw [hm]; exact hX)

theorem nbz {n : Nat} : (n + 1 == 0) = false := rfl

theorem gc_packE {base : Nat} {X : St → Prop} {s : St} (l : List Nat) {tm : Tm} {m : Mem} (h6 : X ⟨tm, m⟩) (h1 : heads base 0 l = true) (h2 : distN l = true) (h3 : packB l s.mem l = true) (h4 : packM l s.mem l = m) (h5 : packT l tm s.tm) : gcX base X s := gc_pack l tm m h1 h2 h3 h4 h5 h6

theorem beq_tt : (true == true) = true := rfl
theorem beq_tf : (true == false) = false := rfl
theorem beq_ft : (false == true) = false := rfl
theorem beq_ff : (false == false) = true := rfl
theorem bne_tt : (true != true) = false := rfl
theorem bne_tf : (true != false) = true := rfl
theorem bne_ft : (false != true) = true := rfl
theorem bne_ff : (false != false) = false := rfl

theorem shs_cons {k : SH} {ks : List SH} {vs : List AV} (h : shsOK (k :: ks) vs) : ∃ v r, vs = v :: r ∧ shOK k v ∧ shsOK ks r := by
  cases vs with
  | nil => exact h.elim
  | cons v r => exact ⟨v, r, rfl, h.1, h.2⟩
theorem shs_nil {vs : List AV} (h : shsOK [] vs) : vs = [] := by
  cases vs with
  | nil => rfl
  | cons v r => exact h.elim
theorem list_of {α : Type} {enc : α → List AV} {ks : List SH} (h : ∀ el, shsOK ks el → ∃ a, el = enc a) : ∀ {es : List (List AV)}, (∀ el ∈ es, shsOK ks el) → ∃ l : List α, es = l.map enc
  | [], _ => ⟨[], rfl⟩
  | e :: r, hs => by
    obtain ⟨a, ha⟩ := h e (hs e (by simp))
    obtain ⟨l, hl⟩ := list_of h (es := r) fun el hel => hs el (by simp [hel])
    exact ⟨a :: l, by simp [ha, hl]⟩

/-- A block's row, whether it may be written or not. -/
def rowE (M : Nat → Option Blk) (id : Nat) : Option (Nat × List (List AV)) :=
  match M id with
  | some (.row _ k es) => some (k, es)
  | _ => none

theorem rowE_some {M : Nat → Option Blk} {id k : Nat} {es : List (List AV)} (h : rowE M id = some (k, es)) : ∃ ro, M id = some (.row ro k es) := by
  unfold rowE at h
  split at h
  · rename_i ro k' es' hm
    simp only [Option.some.injEq, Prod.mk.injEq] at h
    obtain ⟨rfl, rfl⟩ := h
    exact ⟨ro, hm⟩
  · cases h

theorem rowE_hit {ro : Bool} {k : Nat} {es : List (List AV)} {r : Mem} : rowE (mget (some (.row ro k es) :: r)) 0 = some (k, es) := by cases r <;> rfl
theorem rowE_next {b : Option Blk} {r : Mem} {n : Nat} : rowE (mget (b :: r)) (n + 1) = rowE (mget r) n := by cases r <;> rfl

/-- Functions of one slice, and arguments without blocks. -/
def vf1 {α β : Type} (k : Nat) (c : Cod α) (x : Cod β) (f : List α → β → AV) : VF := fun args rows => match args, rows with
  | .slc i j n cp :: r, [(k', es)] => match c.decL es, x.dec r with
    | some l, some b => bif i == 0 && (j == 0 && (cp.isNone && (k' == k && (n == l.length && decide (n ≤ 1048576))))) then some (f l b) else none
    | _, _ => none
  | _, _ => none

theorem vf1_ok {α β : Type} {g : FuncId} {k : Nat} {c : Cod α} {x : Cod β} {f : List α → β → AV} (he : S.errs ≠ []) (h : ∀ l b, l.length ≤ 1048576 → (f l b).lt 0 = true ∧ CallA1 S g (.slc 0 0 l.length none :: x.enc b) [some (.row true k (l.map c.enc))] fun r _ => r = f l b) :
    ReadF S g (rtV [k] (vf1 k c x f)) := by
  refine rtV_ok he fun args rows v e => ?_
  unfold vf1 at e
  split at e
  · rename_i i j n cp r k' es
    split at e
    · rename_i l b h1 h2
      cases hc : (i == 0 && (j == 0 && (cp.isNone && (k' == k && (n == l.length && decide (n ≤ 1048576)))))) with
      | false => rw [hc] at e; cases e
      | true =>
        rw [hc] at e
        simp only [cond_true, Option.some.injEq] at e
        subst e
        simp only [Bool.and_eq_true, beq_iff_eq, decide_eq_true_eq] at hc
        obtain ⟨rfl, rfl, hcp, rfl, rfl, hb⟩ := hc
        have : cp = none := by simpa using hcp
        subst this
        rw [c.decL_ok h1, x.ok _ _ h2]
        exact h l b hb
    · cases e
  · cases e

theorem vf1_eq {α β : Type} {k : Nat} {c : Cod α} {x : Cod β} {f : List α → β → AV} {id ix n : Nat} {cap : Option Nat} {r : List AV} {M : Nat → Option Blk} {es : List (List AV)} {l : List α} {b : β} (hM : rowE M id = some (k, es)) (hs : (es.drop ix).take n = l.map c.enc) (hle : ix + n ≤ es.length) (hb : n ≤ 1048576) (hr : x.dec r = some b) :
    rtV [k] (vf1 k c x f) (.slc id ix n cap :: r) M = some (f l b, [id]) := by
  obtain ⟨ro, hM⟩ := rowE_some hM
  have hn : n = l.length := by
    have := congrArg List.length hs
    rw [List.length_take, List.length_drop, List.length_map] at this
    omega
  have hrf := x.ok _ _ hr
  have hfl : AV.lts 0 r = true := by rw [hrf]; exact x.flat b
  have hv : vw M [k] (.slc id ix n cap :: r) 0 = some (.slc 0 0 n none :: r, [(k, l.map c.enc)], [id]) := by
    simp only [vw, hM, beq_self_eq_true, hle, decide_true, hs, c.all_flat, Bool.and_self, cond_true, vw_flat hfl, Option.map_some]
  simp only [rtV, hv, useV, vf1, c.decL_map, hr]
  subst hn
  simp [hb]

/-- Functions of two slices that make blocks. -/
def nf2 {α β : Type} (k1 k2 : Nat) (c1 : Cod α) (c2 : Cod β) (f : List α → List β → AV) (h : List α → List β → Mem) : NF := fun args rows => match args, rows with
  | [.slc i1 j1 n1 q1, .slc i2 j2 n2 q2], [(w1, es1), (w2, es2)] => match c1.decL es1, c2.decL es2 with
    | some l1, some l2 => bif (i1 == 0 && (j1 == 0 && (q1.isNone && (w1 == k1 && (n1 == l1.length && decide (n1 ≤ 1048576)))))) && (i2 == 1 && (j2 == 0 && (q2.isNone && (w2 == k2 && (n2 == l2.length && decide (n2 ≤ 1048576)))))) then some (f l1 l2, h l1 l2) else none
    | _, _ => none
  | _, _ => none

theorem nf2_ok {α β : Type} {g : FuncId} {k1 k2 : Nat} {c1 : Cod α} {c2 : Cod β} {f : List α → List β → AV} {h : List α → List β → Mem} (he : S.errs ≠ [])
    (H : ∀ l1 l2, l1.length ≤ 1048576 → l2.length ≤ 1048576 → (f l1 l2).inB (fun j => decide (2 ≤ j)) = true ∧ (h l1 l2).all (blkIn fun j => decide (2 ≤ j)) = true ∧ (h l1 l2).all rwB = true ∧
      CallA1 S g [.slc 0 0 l1.length none, .slc 1 0 l2.length none] [some (.row true k1 (l1.map c1.enc)), some (.row true k2 (l2.map c2.enc))] fun r m' => r = f l1 l2 ∧ m' = [some (.row true k1 (l1.map c1.enc)), some (.row true k2 (l2.map c2.enc))] ++ h l1 l2) :
    CallF S g (utN [k1, k2] (nf2 k1 k2 c1 c2 f h)) := by
  refine utN_ok he fun args rows v news e => ?_
  unfold nf2 at e
  split at e
  · rename_i i1 j1 n1 q1 i2 j2 n2 q2 w1 es1 w2 es2
    split at e
    · rename_i l1 l2 h1 h2
      cases hc : (i1 == 0 && (j1 == 0 && (q1.isNone && (w1 == k1 && (n1 == l1.length && decide (n1 ≤ 1048576)))))) && (i2 == 1 && (j2 == 0 && (q2.isNone && (w2 == k2 && (n2 == l2.length && decide (n2 ≤ 1048576)))))) with
      | false => rw [hc] at e; cases e
      | true =>
        rw [hc] at e
        simp only [cond_true, Option.some.injEq, Prod.mk.injEq] at e
        obtain ⟨rfl, rfl⟩ := e
        simp only [Bool.and_eq_true, beq_iff_eq, decide_eq_true_eq] at hc
        obtain ⟨⟨rfl, rfl, hp1, rfl, rfl, hb1⟩, rfl, rfl, hp2, rfl, rfl, hb2⟩ := hc
        have : q1 = none := by simpa using hp1
        subst this
        have : q2 = none := by simpa using hp2
        subst this
        rw [c1.decL_ok h1, c2.decL_ok h2]
        exact H l1 l2 hb1 hb2
    · cases e
  · cases e

theorem nf2_eq {α β : Type} {k1 k2 : Nat} {c1 : Cod α} {c2 : Cod β} {f : List α → List β → AV} {h : List α → List β → Mem} {id1 ix1 n1 id2 ix2 n2 : Nat} {p1 p2 : Option Nat} {m : Mem} {es1 es2 : List (List AV)} {l1 : List α} {l2 : List β}
    (hM1 : rowE (mget m) id1 = some (k1, es1)) (hM2 : rowE (mget m) id2 = some (k2, es2)) (hs1 : (es1.drop ix1).take n1 = l1.map c1.enc) (hs2 : (es2.drop ix2).take n2 = l2.map c2.enc) (hle1 : ix1 + n1 ≤ es1.length) (hle2 : ix2 + n2 ≤ es2.length) (hb1 : n1 ≤ 1048576) (hb2 : n2 ≤ 1048576) :
    utN [k1, k2] (nf2 k1 k2 c1 c2 f h) [.slc id1 ix1 n1 p1, .slc id2 ix2 n2 p2] m = some ((f l1 l2).ren (shift m.length 2), m ++ newOnes (shift m.length 2) (h l1 l2)) := by
  obtain ⟨ro1, hM1⟩ := rowE_some hM1
  obtain ⟨ro2, hM2⟩ := rowE_some hM2
  have hn1 : n1 = l1.length := by
    have := congrArg List.length hs1
    rw [List.length_take, List.length_drop, List.length_map] at this
    omega
  have hn2 : n2 = l2.length := by
    have := congrArg List.length hs2
    rw [List.length_take, List.length_drop, List.length_map] at this
    omega
  have hv : vw (mget m) [k1, k2] [.slc id1 ix1 n1 p1, .slc id2 ix2 n2 p2] 0 = some ([.slc 0 0 n1 none, .slc 1 0 n2 none], [(k1, l1.map c1.enc), (k2, l2.map c2.enc)], [id1, id2]) := by
    simp only [vw, hM1, hM2, beq_self_eq_true, hle1, hle2, decide_true, hs1, hs2, c1.all_flat, c2.all_flat, Bool.and_self, cond_true, Option.map_some]
  simp only [utN, hv, useN, nf2, c1.decL_map, c2.decL_map]
  subst hn1 hn2
  simp [hb1, hb2]

theorem getD_map_lt {α β : Type} (f : α → β) (l : List α) (i : Nat) (d : β) (h : i < l.length) : (l.map f).getD i d = f l[i] := by
  rw [List.getD_eq_getElem?_getD, List.getElem?_map, List.getElem?_eq_getElem h]; rfl

end AH
