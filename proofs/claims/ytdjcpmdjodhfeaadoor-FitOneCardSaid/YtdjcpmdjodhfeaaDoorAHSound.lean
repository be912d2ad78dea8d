import Derived.Test.YtdjcpmdjodhfeaaDoorAHCode
import Derived.Test.YtdjcpmdjodhfeaaDoorAHRen2
set_option linter.unusedSimpArgs false
namespace AH
open Go
variable {S : Sys} {eb : Nat → Addr} {own : Nat → Prop} {w0 w : World} {φ0 φ : Emb} {nt : Nat} {st : St} {a : Act} {K : St → Prop} {Q' : Exit → Act → World → Prop} {C : Ctx}

theorem evs_vrs (h : RelAt S eb own w0 φ0 nt φ st a w) : ∀ {xs : List Operand} {cs : List Opd}, xs.mapM cOpd = some cs → VRs S.errT eb φ (evs st.tm cs) (xs.map a.eval)
  | [], cs, hm => by simp at hm; subst hm; exact .nil
  | x :: xs, cs, hm => by
    rw [List.mapM_cons] at hm
    simp only [bind, Option.bind_eq_some_iff, pure, Option.some.injEq] at hm
    obtain ⟨c, hc, cs', hcs, rfl⟩ := hm
    exact .cons _ _ _ _ (h.eval x c hc) (evs_vrs h hcs)

theorem vr_fn {g : FuncId} {first cap : List AV} {u : Value} (h : VR S.errT eb φ (.fn g first cap) u) : ∃ fs cs : Array Value, u = .func (.func g) fs cs ∧ VRs S.errT eb φ first fs.toList ∧ VRs S.errT eb φ cap cs.toList := by
  cases h; exact ⟨_, _, rfl, by assumption, by assumption⟩

theorem upon_of_uponV {o : Oper} {N : Act → World → Prop} {r : Result Next} (h : UponV S.P (fun u w' => N (a.put o.dst u) w') r) : o.upon S.P a N Q' r := by
  cases r with
  | halt x w => exact h.elim
  | ok n w' =>
    cases n <;> simp only [UponV] at h <;> first | exact h.elim | skip
    · exact h
    · refine Calls.mono h fun e w'' he => ?_
      obtain ⟨v, rfl, hv⟩ := he
      exact hv
    · exact Rows.mono h fun _ _ hv => hv

theorem UponV.mono {P : Program} {R R' : Value → World → Prop} (hr : ∀ v w, R v w → R' v w) {r : Result Next} (h : UponV P R r) : UponV P R' r := by
  cases r with
  | halt x w => exact h.elim
  | ok n w' =>
    cases n <;> simp only [UponV] at h ⊢ <;> first | exact h.elim | skip
    · exact hr _ _ h
    · exact Calls.mono h fun e w'' ⟨v, he, hv⟩ => ⟨v, he, hr _ _ hv⟩
    · exact Rows.mono h fun _ _ hv => hr _ _ hv

theorem exec_call {o : Oper} {g : Operand} {xs : Array Operand} {ts : Array TypeId} (ho : o.op = .call { callee := .value g, args := xs, argTypes := ts }) {gi : FuncId} {fs cs : Array Value} {ρ : Operand → Value} (hg : ρ g = .func (.func gi) fs cs) :
    execOp ρ o = callFunc gi (fs ++ xs.map ρ ++ cs) := by
  simp only [execOp, ho, resolve, hg, Deferred.ofValue, invoke, pure_bind]

theorem opW (hA : Amb S eb own w0) (hC : CallsA S C.call) {o : Oper} {op : AOp Opd} (hc : cOp S.P S.errs o.op = some op) (h : RelAt S eb own w0 φ0 nt φ st a w) (hd : o.dst.all (· < nt) = true) (hw : wpOp C o.dst op st K) :
    o.wp S.P a w (fun a w => ∃ st, K st ∧ Rel S eb own w0 φ0 nt st a w) Q' := by
  unfold wpOp at hw
  split at hw
  · rename_i f args hcall
    have hop : op = .call f args := by cases op <;> simp [AOp.call?] at hcall; obtain ⟨rfl, rfl⟩ := hcall; rfl
    subst hop
    obtain ⟨g, xs, ts, ho, hg, hxs⟩ := op_call hc
    have vg := h.eval g f hg
    unfold wpCall at hw
    split at hw
    · rename_i gi first cap hf
      rw [hf] at vg
      obtain ⟨fs, cs, hgv, h1, h2⟩ := vr_fn vg
      have hv : VRs S.errT eb φ (first ++ evs st.tm args ++ cap) (fs ++ xs.map a.eval ++ cs).toList := by
        simp only [Array.toList_append, Array.toList_map]
        exact (h1.append (evs_vrs h hxs)).append h2
      have hr := hC gi _ _ _ hw eb φ own w0 w _ hA hv h.mr h.keeps h.bdd
      refine upon_of_uponV ?_
      rw [exec_call ho hgv]
      refine UponV.mono ?_ hr
      rintro u w' ⟨φ', v, m', hK, he, hvr, hm, hk, hb⟩
      exact ⟨_, hK, φ', h.put he hm hk hb hd hvr⟩
    · exact hw.elim
  · cases hmiss : missQ (op.map (Opd.ev st.tm)) with
    | true =>
      rw [hmiss] at hw
      obtain ⟨b, hb⟩ := miss_ok (w := w) hc h.eval hmiss
      unfold Oper.wp
      rw [hb]
      refine ⟨st.put o.dst (.bool b), ?_, φ, h.put (.refl φ) h.mr h.keeps h.bdd hd (.bool b)⟩
      cases b
      · exact hw.2
      · exact hw.1
    | false =>
    rw [hmiss] at hw
    simp only [wpEffX] at hw
    unfold wpEff at hw
    split at hw
    · rename_i p e hs
      obtain ⟨hp, hK⟩ := hw
      have hfresh : ¬ φ.dom st.mem.length := fun q => Nat.lt_irrefl _ (h.bdd _ q)
      obtain ⟨φ', w', u, hr, he, hv, hm, hk, hdom⟩ := op_exec hA hc h hfresh hs hp
      have hput : ∃ st', K st' ∧ Rel S eb own w0 φ0 nt st' (a.put o.dst u) w' := by
        refine ⟨_, hK, φ', ?_⟩
        refine h.put he (m' := applyWr st.mem e.wr) (by rw [mget_applyWr]; exact hm) hk ?_ hd hv
        intro id hid
        obtain ⟨g1, g2⟩ := applyWr_length e.wr st.mem
        rcases hdom id hid with q | ⟨rfl, q⟩
        · exact Nat.lt_of_lt_of_le (h.bdd id q) g1
        · exact g2 _ q
      unfold Oper.wp
      rcases hr with hr | ⟨hr, rfl⟩
      · rw [hr]; exact hput
      · rw [hr]; exact hput
    · exact hw.elim

theorem yielded_bool {ops : Array Oper} {j d : Nat} {o : Oper} (hj : ops[j]? = some o) (hd : o.dst = some d) {b : Bool} (h : a.tmps.getD d undef = .bool b) : yielded ops a.tmps j = some b := by
  have : a.tmps[d]? = some (.bool b) := by
    cases hq : a.tmps[d]? with
    | none => simp [hq, undef] at h
    | some x => simp [hq] at h; rw [h]
  simp [yielded, hj, hd, this]

theorem yielded_unit {ops : Array Oper} {j d : Nat} {o : Oper} (hj : ops[j]? = some o) (hd : o.dst = some d) (h : a.tmps.getD d undef = .tuple #[]) : yielded ops a.tmps j = none := by
  cases hq : a.tmps[d]? with
  | none => simp [yielded, hj, hd, hq]
  | some x =>
    simp [hq] at h
    subst h
    simp [yielded, hj, hd, hq]

theorem vr_bool {b : Bool} {u : Value} (h : VR S.errT eb φ (.bool b) u) : u = .bool b := by cases h; rfl
theorem vr_tup0 {u : Value} (h : VR S.errT eb φ (.tup []) u) : u = .tuple #[] := by
  cases h
  rename_i us hs
  cases us with
  | mk l => cases l with
    | nil => rfl
    | cons x l => cases hs


theorem cOper_inv {ops : Array Oper} {o : Oper} {ao : AOper} (h : cOper S.P S.errs nt ops o = some ao) :
    cOp S.P S.errs o.op = some ao.op ∧ ao.dst = o.dst ∧ o.dst.all (· < nt) = true ∧
      ((o.guard = none ∧ ao.guard = none) ∨ ∃ j want d oj, o.guard = some (j, want) ∧ ao.guard = some (d, want) ∧ ops[j]? = some oj ∧ oj.dst = some d) := by
  simp only [cOper, bind, Option.bind_eq_some_iff] at h
  obtain ⟨op, hop, h⟩ := h
  split at h
  · rename_i hall
    simp only [Option.bind_some] at h
    split at h
    · rename_i hg
      simp only [Option.some.injEq] at h
      subst h
      exact ⟨hop, rfl, hall, .inl ⟨hg, rfl⟩⟩
    · rename_i j want hg
      simp only [Option.bind_eq_some_iff, Option.some.injEq] at h
      obtain ⟨oj, hoj, d, hd, rfl⟩ := h
      exact ⟨hop, rfl, hall, .inr ⟨j, want, d, oj, hg, rfl, hoj, hd⟩⟩
  · cases h

theorem listW (hA : Amb S eb own w0) (hC : CallsA S C.call) {ops : Array Oper} (hK : ∀ st a w, K st → Rel S eb own w0 φ0 nt st a w → Q' .normal a w) :
    ∀ {l : List Oper} {al : List AOper}, l.mapM (cOper S.P S.errs nt ops) = some al → ∀ {st : St} {a : Act} {w : World}, wpOps C al K st → Rel S eb own w0 φ0 nt st a w → wpList S.P ops Q' l a w
  | [], al, hl, st, a, w, hw, hr => by
    simp at hl
    subst hl
    exact hK _ _ _ hw hr
  | o :: l, al, hl, st, a, w, hw, ⟨φ, hr⟩ => by
    rw [List.mapM_cons] at hl
    simp only [bind, Option.bind_eq_some_iff, pure, Option.some.injEq] at hl
    obtain ⟨ao, hao, al', hal, rfl⟩ := hl
    obtain ⟨h1, h2, h3, h4⟩ := cOper_inv hao
    have next : ∀ a w, (∃ st, wpOps C al' K st ∧ Rel S eb own w0 φ0 nt st a w) → wpList S.P ops Q' l a w := fun a w ⟨st, hs, hr⟩ => listW hA hC hK hal hs hr
    have run : wpOp C ao.dst ao.op st (wpOps C al' K) → o.wp S.P a w (wpList S.P ops Q' l) Q' := fun h => by
      rw [h2] at h
      exact Oper.wp_mono next (opW hA hC h1 hr h3 h)
    have skip : wpOps C al' K (st.put ao.dst (.tup [])) → wpList S.P ops Q' l (a.put o.dst undef) w := fun h => by
      refine next _ _ ⟨_, h, φ, ?_⟩
      rw [h2]
      exact hr.put_same h3 (.tup [] #[] .nil)
    unfold wpList
    rcases h4 with ⟨g1, g2⟩ | ⟨j, want, d, oj, g1, g2, g3, g4⟩
    · simp only [wpOps, g2] at hw
      rw [if_pos (by simp [Region.wanted, g1])]
      exact .inl (run hw)
    · simp only [wpOps, g2] at hw
      have vd := hr.tm d
      generalize tget st.tm d = v at hw vd
      unfold wpG at hw
      split at hw
      · rename_i b
        have hy := yielded_bool g3 g4 (vr_bool vd)
        by_cases hb : b = want
        · rw [if_pos (by simp [Region.wanted, g1, hy, hb])]
          exact .inl (run (hw.1 hb))
        · rw [if_neg (by simp [Region.wanted, g1, hy, hb])]
          exact skip (hw.2 (by cases b <;> cases want <;> simp_all))
      · have hy := yielded_unit g3 g4 (vr_tup0 vd)
        rw [if_neg (by simp [Region.wanted, g1, hy])]
        exact skip hw
      · exact hw.elim

/-- A loop's rule that unrolls once. -/
def LoopAt (P : Program) (c : Code) (Q : Exit → Act → World → Prop) (a : Act) (w : World) : Prop :=
  ∀ (b : Frame) (k : List Item) (cs : List Frame), ∃ e a' w', Q e a' w' ∧ Arrives P (lone (b.at a (.code c :: .inLoop c :: k)) cs w) b k cs e a' w'

theorem LoopAt.unroll {P : Program} {c : Code} {Q : Exit → Act → World → Prop} {a : Act} {w : World} (h : c.wp P (Exit.then (LoopAt P c Q) Q) a w) : LoopAt P c Q a w := by
  intro b k cs
  obtain ⟨e, a₁, w₁, hq, harr⟩ := h b (.inLoop c :: k) cs
  cases e with
  | normal =>
    obtain ⟨e₂, a₂, w₂, hq₂, harr₂⟩ := hq b k cs
    exact ⟨e₂, a₂, w₂, hq₂, .of_steps (Steps.trans harr (.one step_inLoop)) harr₂⟩
  | exit id => exact ⟨_, a₁, w₁, hq, .pass (x := .inLoop c) rfl (fun _ _ => .inl (by simp)) harr⟩
  | goto l => exact ⟨_, a₁, w₁, hq, .pass (x := .inLoop c) rfl (fun _ _ => .inl (by simp)) harr⟩
  | ret => exact ⟨_, a₁, w₁, hq, .pass (x := .inLoop c) rfl (fun _ _ => .inl (by simp)) harr⟩
  | panic ch => exact ⟨_, a₁, w₁, hq, .pass (x := .inLoop c) rfl (fun _ _ => .inl (by simp)) harr⟩
  | outgrown => exact ⟨_, a₁, w₁, hq, .pass (x := .inLoop c) rfl (fun _ _ => .inl (by simp)) harr⟩

theorem LoopAt.loop {P : Program} {c : Code} {Q : Exit → Act → World → Prop} {a : Act} {w : World} (h : LoopAt P c Q a w) : (Code.loop c).wp P Q a w := by
  intro b k cs
  obtain ⟨e, a', w', hq, harr⟩ := h b k cs
  exact ⟨e, a', w', hq, .of_steps (.one step_loop) harr⟩

mutual
theorem lt_vr {n : Nat} {φ' : Emb} (hφ : ∀ id, id < n → φ.dom id → φ'.dom id ∧ φ'.blk id = φ.blk id ∧ φ'.base id = φ.base id ∧ φ'.k id = φ.k id ∧ φ'.size id = φ.size id) : ∀ {v : AV} {u : Value}, VR S.errT eb φ v u → v.lt n = true → VR S.errT eb φ' v u
  | _, _, .undef u, _ => .undef u
  | _, _, .bool b, _ => .bool b
  | _, _, .int k n, _ => .int k n
  | _, _, .str s, _ => .str s
  | _, _, .nilp, _ => .nilp
  | _, _, .ptr id ix sub h, hl => by
    obtain ⟨h1, h2, h3, h4, h5⟩ := hφ id (by simpa [AV.lt] using hl) h
    rw [← h2, ← h3, ← h4]
    exact .ptr id ix sub h1
  | _, _, .nils, _ => .nils
  | _, _, .slc id ix len cap c h hc he hs, hl => by
    obtain ⟨h1, h2, h3, h4, h5⟩ := hφ id (by simpa [AV.lt] using hl) h
    rw [← h3, ← h4, ← h5] at hs
    rw [← h2, ← h3, ← h4]
    exact .slc id ix len cap c h1 hc he hs
  | _, _, .slc0 id ix cap ad h he, hl => .slc0 id ix cap ad (hφ id (by simpa [AV.lt] using hl) h).1 he
  | _, _, .isl id ix sub len c h hc, hl => by
    obtain ⟨h1, h2, h3, h4, h5⟩ := hφ id (by simpa [AV.lt] using hl) h
    rw [← h2, ← h3, ← h4]
    exact .isl id ix sub len c h1 hc
  | _, _, .nilm, _ => .nilm
  | _, _, .map id h, hl => by
    obtain ⟨h1, h2, _⟩ := hφ id (by simpa [AV.lt] using hl) h
    rw [← h2]
    exact .map id h1
  | _, _, .fn f first cap fs cs h1 h2, hl => by
    simp only [AV.lt, Bool.and_eq_true] at hl
    exact .fn f first cap fs cs (lts_vr hφ h1 hl.1) (lts_vr hφ h2 hl.2)
  | _, _, .nilf, _ => .nilf
  | _, _, .nili, _ => .nili
  | _, _, .ifc t v u h, hl => .ifc t v u (lt_vr hφ h (by simpa [AV.lt] using hl))
  | _, _, .err i, _ => .err i
  | _, _, .agg cs us h h1, hl => .agg cs us (lts_vr hφ h (by simpa [AV.lt] using hl)) h1
  | _, _, .tup cs us h, hl => .tup cs us (lts_vr hφ h (by simpa [AV.lt] using hl))
theorem lts_vr {n : Nat} {φ' : Emb} (hφ : ∀ id, id < n → φ.dom id → φ'.dom id ∧ φ'.blk id = φ.blk id ∧ φ'.base id = φ.base id ∧ φ'.k id = φ.k id ∧ φ'.size id = φ.size id) : ∀ {v : List AV} {u : List Value}, VRs S.errT eb φ v u → AV.lts n v = true → VRs S.errT eb φ' v u
  | _, _, .nil, _ => .nil
  | _, _, .cons v u vs us h hs, hl => by
    simp only [AV.lts, Bool.and_eq_true] at hl
    exact .cons v u vs us (lt_vr hφ h hl.1) (lts_vr hφ hs hl.2)
end

/-- Only the blocks below n are known. -/
def Emb.below (φ : Emb) (n : Nat) : Emb := { φ with dom := fun id => φ.dom id ∧ id < n }

theorem below_lt (φ : Emb) (n : Nat) : ∀ id, id < n → φ.dom id → (φ.below n).dom id ∧ (φ.below n).blk id = φ.blk id ∧ (φ.below n).base id = φ.base id ∧ (φ.below n).k id = φ.k id ∧ (φ.below n).size id = φ.size id :=
  fun _ h g => ⟨⟨g, h⟩, rfl, rfl, rfl, rfl⟩

theorem er_lt {n : Nat} {φ' : Emb} (hφ : ∀ id, id < n → φ.dom id → φ'.dom id ∧ φ'.blk id = φ.blk id ∧ φ'.base id = φ.base id ∧ φ'.k id = φ.k id ∧ φ'.size id = φ.size id) : ∀ {es : List (AV × AV × Nat)} {us : List MapEntry}, ER S.errT eb φ es us → (es.all fun e => e.1.lt n && e.2.1.lt n) = true → ER S.errT eb φ' es us
  | _, _, .nil, _ => .nil
  | _, _, .cons k v s x y es us hk hv h, hl => by
    simp only [List.all_cons, Bool.and_eq_true] at hl
    exact .cons k v s x y es us (lt_vr hφ hk hl.1.1) (lt_vr hφ hv hl.1.2) (er_lt hφ h hl.2)

theorem lts_get {n : Nat} : ∀ {l : List AV} {j : Nat} {v : AV}, AV.lts n l = true → l[j]? = some v → v.lt n = true
  | a :: l, 0, v, h, hj => by simp [AV.lts] at h; simp at hj; subst hj; exact h.1
  | a :: l, j + 1, v, h, hj => by simp [AV.lts] at h; exact lts_get h.2 (by simpa using hj)

theorem br_lt {n : Nat} {φ' : Emb} (hφ : ∀ id, id < n → φ.dom id → φ'.dom id ∧ φ'.blk id = φ.blk id ∧ φ'.base id = φ.base id ∧ φ'.k id = φ.k id ∧ φ'.size id = φ.size id) {id : Nat} {b : Blk} {o : Obj} (hd : φ.dom id) (hid : id < n) (hl : b.lt n = true) (h : BR S.errT eb φ id b o) : BR S.errT eb φ' id b o := by
  obtain ⟨e1, e2, e3, e4, e5⟩ := hφ id hid hd
  cases b with
  | row ro k es =>
    obtain ⟨arr, et, fr, h1, h2, h3, h4, h5, h6⟩ := h
    refine ⟨arr, et, fr, h1, by rw [e4]; exact h2, by rw [e5]; exact h3, by rw [e3]; exact h4, h5, fun i x hx => ?_⟩
    obtain ⟨g1, g2⟩ := h6 i x hx
    refine ⟨g1, fun j v hv => ?_⟩
    obtain ⟨u, k1, k2, k3⟩ := g2 j v hv
    have hx' : AV.lts n x = true := by
      simp only [Blk.lt, List.all_eq_true] at hl
      exact hl x (List.mem_of_getElem? hx)
    exact ⟨u, by rw [e3]; exact k1, lt_vr hφ k2 (lts_get hx' hv), k3⟩
  | map es c =>
    obtain ⟨us, h1, h2⟩ := h
    exact ⟨us, h1, er_lt hφ h2 (by simpa [Blk.lt] using hl)⟩

theorem mget_some : ∀ {m : Mem} {i : Nat} {b : Blk}, mget m i = some b → i < m.length ∧ m[i]? = some (some b)
  | [], i, b, h => by rw [mget_nil] at h; cases h
  | x :: r, 0, b, h => by simp [mget] at h; subst h; simp
  | x :: r, i + 1, b, h => by
    obtain ⟨h1, h2⟩ := mget_some (m := r) (i := i) (by simpa [mget] using h)
    exact ⟨by simp; omega, by simpa using h2⟩

theorem mget_take : ∀ (m : Mem) (n i : Nat), mget (m.take n) i = if i < n then mget m i else none
  | [], n, i => by simp [mget_nil]
  | x :: r, 0, i => by simp [mget_nil]
  | x :: r, n + 1, 0 => by simp [mget]
  | x :: r, n + 1, i + 1 => by simp [mget, mget_take r n i]

/-- Forgetting. -/
theorem RelAt.gc (h : RelAt S eb own w0 φ0 nt φ st a w) {base : Nat} (hb : ∀ id, φ0.dom id → id < base) {st' : St} (hg : Gc base st st') : Rel S eb own w0 φ0 nt st' a w := by
  rcases hg with ⟨g1, g2⟩ | ⟨l, q1, q2, q3, q4, q5⟩
  rotate_left
  · refine ⟨φ.pack l, ext_pack h.ext hb q1, h.size, h.defers, fun t => ?_, by rw [q4]; exact mr_pack h.mr q2 q3, h.keeps, fun j hj => ?_⟩
    · rcases q5 t with q | ⟨qa, qb⟩
      · rw [q]; exact .undef _
      · rw [qb]; exact vr_ren moves_pack (h.tm t) qa
    · obtain ⟨id, h1, _⟩ := hj
      rw [q4, packM_len]
      exact (List.getElem?_eq_some_iff.1 h1).1
  have htm : ∀ t, VR S.errT eb φ (tget st'.tm t) (a.tmps.getD t undef) := fun t => by
    rcases g1 t with q | q
    · rw [q]; exact .undef _
    · rw [q]; exact h.tm t
  rcases g2 with g2 | ⟨q1, q2, q3, q4⟩
  · exact ⟨φ, h.ext, h.size, h.defers, htm, by rw [g2]; exact h.mr, h.keeps, by rw [g2]; exact h.bdd⟩
  · have hφ := below_lt φ st'.mem.length
    refine ⟨φ.below st'.mem.length, ?_, h.size, h.defers, fun t => lt_vr hφ (htm t) (q4 t), ?_, h.keeps, fun id hid => hid.2⟩
    · have := h.ext
      exact ⟨fun id hid => ⟨this.dom id hid, Nat.lt_of_lt_of_le (hb id hid) q1⟩, this.blk, this.base, this.k, this.size⟩
    · have sub : ∀ id b, mget st'.mem id = some b → mget st.mem id = some b := fun id b hid => by
        rw [q2, mget_take] at hid
        split at hid
        · exact hid
        · cases hid
      have hmr := h.mr
      refine ⟨fun id b hid => ⟨hmr.dom id b (sub id b hid), (mget_some hid).1⟩, fun id b hid => ?_, fun id b hid => hmr.own id b (sub id b hid), fun id id' b b' h1 h2 => hmr.inj id id' b b' (sub id b h1) (sub id' b' h2)⟩
      obtain ⟨o, ho, hbr⟩ := hmr.blk id b (sub id b hid)
      obtain ⟨k1, k2⟩ := mget_some hid
      refine ⟨o, ho, br_lt hφ (hmr.dom id b (sub id b hid)) k1 ?_ hbr⟩
      simp only [memLt, List.all_eq_true] at q3
      have := q3 (some b) (List.mem_of_getElem? k2)
      simpa using this

end AH
