import Derived.Test.YtdjcpmdjodhfeaaDoorAHFun
import Derived.RowKit3
import Derived.ChangeSame
import Derived.OpenShut
/-
AH: loops by a measure; calls without memory; the end of a row.
-/
set_option linter.unusedSimpArgs false
namespace AH
open Go
variable {S : Sys} {eb : Nat → Addr} {own : Nat → Prop} {w0 w : World} {φ0 φ : Emb} {st : St} {C : Ctx} {Q : Exit → St → Prop}

/-- The temporaries that a loop's state names are what they are. -/
def keepT : Tm → Tm → Prop
  | [], _ => True
  | (t, v) :: r, tm => tget tm t = v ∧ keepT r tm

theorem keepT_spec : ∀ {l tm : Tm}, keepT l tm → ∀ t, tget l t = .undef ∨ tget l t = tget tm t
  | [], _, _, _ => .inl rfl
  | (s, v) :: r, tm, h, t => by
    simp only [tget]
    by_cases hs : s = t
    · subst hs; simp; right; exact h.1.symm
    · have : (s == t) = false := by simp [hs]
      simp only [this, cond_false]
      exact keepT_spec h.2 t

theorem gc_keep {base : Nat} {X : St → Prop} {s : St} {l : Tm} (h1 : keepT l s.tm) (h2 : X ⟨l, s.mem⟩) : gcX base X s := ⟨⟨l, s.mem⟩, .inl ⟨keepT_spec h1, .inl rfl⟩, h2⟩

def tmLt (n : Nat) : Tm → Bool
  | [] => true
  | (_, v) :: r => v.lt n && tmLt n r

theorem tmLt_spec {n : Nat} : ∀ {l : Tm}, tmLt n l = true → ∀ t, (tget l t).lt n = true
  | [], _, _ => rfl
  | (s, v) :: r, h, t => by
    simp only [tmLt, Bool.and_eq_true] at h
    simp only [tget]
    cases s == t
    · exact tmLt_spec h.2 t
    · exact h.1

/-- Blocks are forgotten too. -/
theorem gc_cut {base : Nat} {X : St → Prop} {s : St} {l : Tm} {m : Mem} (n : Nat) (hn : base ≤ n) (hm : m = s.mem.take n) (hl : m.length = n) (h1 : keepT l s.tm) (h3 : memLt n m = true) (h4 : tmLt n l = true) (h2 : X ⟨l, m⟩) : gcX base X s :=
  ⟨⟨l, m⟩, .inl ⟨keepT_spec h1, .inr ⟨by rw [hl]; exact hn, by simp only [hl]; exact hm, by rw [hl]; exact h3, fun t => by rw [hl]; exact tmLt_spec h4 t⟩⟩, h2⟩


/-- The temporaries behind a packing. -/
def packT (l : List Nat) : Tm → Tm → Prop
  | [], _ => True
  | (t, v) :: r, tm => ((tget tm t).inB (inN l) = true ∧ v = (tget tm t).ren (posN l)) ∧ packT l r tm

theorem packT_spec {l : List Nat} : ∀ {r tm : Tm}, packT l r tm → ∀ t, tget r t = .undef ∨ ((tget tm t).inB (inN l) = true ∧ tget r t = (tget tm t).ren (posN l))
  | [], _, _, _ => .inl rfl
  | (s, v) :: r, tm, h, t => by
    simp only [tget]
    by_cases hs : s = t
    · subst hs; simp; right; exact h.1
    · have : (s == t) = false := by simp [hs]
      simp only [this, cond_false]
      exact packT_spec h.2 t

/-- Blocks get other numbers, and those not listed are forgotten. -/
theorem gc_pack {base : Nat} {X : St → Prop} {s : St} (l : List Nat) (tm : Tm) (m : Mem) (h1 : heads base 0 l = true) (h2 : distN l = true) (h3 : packB l s.mem l = true) (h4 : packM l s.mem l = m) (h5 : packT l tm s.tm) (h6 : X ⟨tm, m⟩) : gcX base X s :=
  ⟨⟨tm, m⟩, .inr ⟨l, h1, h2, h3, h4.symm, packT_spec h5⟩, h6⟩

/-- What a call leaves, packed. -/
theorem CallA1.pack {g : FuncId} {args : List AV} {m : Mem} {K : AV → Mem → Prop}
    (h : CallA1 S g args m fun v m' => ∃ l : List Nat, heads m.length 0 l = true ∧ distN l = true ∧ packB l m' l = true ∧ v.inB (inN l) = true ∧ K (v.ren (posN l)) (packM l m' l)) : CallA1 S g args m K := by
  intro eb φ own w0 w us h1 h2 h3 h4 h5
  refine UponV.mono ?_ (h eb φ own w0 w us h1 h2 h3 h4 h5)
  rintro r w' ⟨φ', v, m', ⟨l, q1, q2, q3, q4, q5⟩, e, hv, hm, hk, hb⟩
  refine ⟨φ'.pack l, _, _, q5, ext_pack e h5 q1, vr_ren moves_pack hv q4, mr_pack hm q2 q3, hk, fun j hj => ?_⟩
  obtain ⟨id, hid, _⟩ := hj
  rw [packM_len]
  exact (List.getElem?_eq_some_iff.1 hid).1

/-- A loop by a measure. -/
theorem loop_rule {α : Type} (μ : α → Nat) (f : α → St) (P : α → Prop) {b : ACode} (x0 : α) (hp : P x0) (h0 : gcX C.base (fun s => s = f x0) st)
    (hstep : ∀ (X : St → Prop) x, P x → (∀ y, P y → μ y < μ x → X (f y)) → wpA C b (thenQ (gcX C.base X) Q) (f x)) : wpA C (.loop b) Q st := by
  obtain ⟨s', hg, rfl⟩ := h0
  refine ⟨f x0, hg, fun X hX => ?_⟩
  have key : ∀ n x, P x → μ x = n → X (f x) := by
    intro n
    induction n using Nat.strongRecOn with
    | _ n ih =>
      intro x hx hn
      exact hX _ (hstep X x hx fun y hy hlt => ih (μ y) (hn ▸ hlt) y hy rfl)
  exact key _ x0 hp rfl

/-- The context in which a call is what it does. -/
def ctx (S : Sys) (rd : FuncId → List AV → (Nat → Option Blk) → Option (AV × List Nat)) : Ctx := { call := CallA1 S, read := rd, base := 0 }

theorem ctx_ok {rd : FuncId → List AV → (Nat → Option Blk) → Option (AV × List Nat)} (h : ReadA S rd) (hm : S.P.follows .mixedOrders = true) : CtxOK S (ctx S rd) :=
  ⟨fun _ _ _ _ h => h, h, hm⟩

def noRead : FuncId → List AV → (Nat → Option Blk) → Option (AV × List Nat) := fun _ _ _ => none
theorem noRead_ok : ReadA S noRead := fun _ _ _ _ _ h => by cases h

theorem ctx_call {rd : FuncId → List AV → (Nat → Option Blk) → Option (AV × List Nat)} {g : FuncId} {args : List AV} {m : Mem} {K : AV → Mem → Prop} : (ctx S rd).call g args m K = CallA1 S g args m K := rfl

/-- A call that needs no memory and leaves none: what it comes to, for every memory. -/
def Pure (S : Sys) (g : FuncId) (args : List AV) (v : AV) : Prop := CallA1 S g args [] fun r _ => r = v

theorem lt_new {b : Nat} {w : World} (h : ¬ (w.heap.size ≤ b)) : b < w.heap.size := by omega

/-- What is known of a world's sentinels, for a callee to whom all is new. -/
theorem Amb.fresh (hA : Amb S eb own w0) (hk : Keeps own w0 w) : Amb S eb (fun b => w.heap.size ≤ b) w := by
  have hin : ∀ g ∈ S.errs, g < w0.heap.size := fun g hg => by
    obtain ⟨et, fr, h⟩ := hA.at_ g hg
    exact (Array.getElem?_eq_some_iff.1 h).1
  have hlt : ∀ b, ¬ own b → b < w0.heap.size := fun b hb => by
    rcases Nat.lt_or_ge b w0.heap.size with h | h
    · exact h
    · exact absurd (hk.new b h) hb
  refine ⟨fun g hg => ?_, fun g hg h => ?_, hA.inj, fun g hg h => ?_⟩
  · obtain ⟨et, fr, h⟩ := hA.at_ g hg
    exact ⟨et, fr, by rw [hk.kept g (hin g hg) (hA.out g hg)]; exact h⟩
  · have := hin g hg
    have := hk.size
    omega
  · have := hlt _ (hA.eout g hg)
    have := hk.size
    omega

/-- Blocks of the old world stay what they are where all that is turned is new. -/
theorem MR.over {M : Nat → Option Blk} {w' : World} (h : MR S.errT eb φ M own w) (hk : Keeps (fun b => w.heap.size ≤ b) w w') : MR S.errT eb φ M own w' := by
  refine ⟨h.dom, fun id b hb => ?_, h.own, h.inj⟩
  obtain ⟨o, ho, hr⟩ := h.blk id b hb
  have hlt := (Array.getElem?_eq_some_iff.1 ho).1
  exact ⟨o, by rw [hk.kept _ hlt (by omega)]; exact ho, hr⟩

theorem Keeps.over {w' : World} (h : Keeps own w0 w) (hk : Keeps (fun b => w.heap.size ≤ b) w w') : Keeps own w0 w' := by
  refine ⟨hk.os.trans h.os, hk.tape.trans h.tape, hk.output.trans h.output, Nat.le_trans h.size hk.size, fun b hb ho => ?_, h.new⟩
  have := h.size
  rw [hk.kept b (by omega) (by omega), h.kept b hb ho]

theorem vrs_dom : ∀ {l : List AV} {us : List Value}, AV.lts 0 l = true → VRs S.errT eb φ l us → ∀ φ', VRs S.errT eb φ' l us := fun h g _ =>
  lts_vr (fun _ hid => absurd hid (Nat.not_lt_zero _)) g h
theorem vr_dom {v : AV} {u : Value} (h : v.lt 0 = true) (g : VR S.errT eb φ v u) (φ' : Emb) : VR S.errT eb φ' v u :=
  lt_vr (fun _ hid => absurd hid (Nat.not_lt_zero _)) g h

def noEmb : Emb := ⟨fun _ => False, fun _ => 0, fun _ => 0, fun _ => 0, fun _ => 0⟩

theorem no_mem {i : Nat} {b : Blk} (h : mget [] i = some b) : False := by rw [mget_nil] at h; cases h
theorem mr_nil {T : TypeId} : MR T eb noEmb (mget []) own w := ⟨fun _ _ h => (no_mem h).elim, fun _ _ h => (no_mem h).elim, fun _ _ h => (no_mem h).elim, fun _ _ _ _ h => (no_mem h).elim⟩

theorem Pure.run {g : FuncId} {args : List AV} {v : AV} (h : Pure S g args v) (ha : AV.lts 0 args = true) (hv : v.lt 0 = true) {M : Nat → Option Blk} (hA : Amb S eb own w0) {us : Array Value} (hus : VRs S.errT eb φ args us.toList) (hM : MR S.errT eb φ M own w) (hk : Keeps own w0 w) :
    CallRes S.P g us w fun r w' => VR S.errT eb φ v r ∧ MR S.errT eb φ M own w' ∧ Keeps own w0 w' := by
  have hM0 : MR S.errT eb noEmb (mget []) (fun b => w.heap.size ≤ b) w := mr_nil
  refine UponV.mono ?_ (h eb noEmb _ w w us (hA.fresh hk) (vrs_dom ha hus _) hM0 (.refl fun _ h => h) (fun id h => h.elim))
  rintro r w' ⟨φ', v', m', rfl, _, hr, _, hk', _⟩
  exact ⟨vr_dom hv hr φ, hM.over hk', hk.over hk'⟩

/-- A call without memory in any memory. -/
theorem Pure.call {g : FuncId} {args : List AV} {v : AV} (h : Pure S g args v) (ha : AV.lts 0 args = true) (hv : v.lt 0 = true) {m : Mem} {K : AV → Mem → Prop} (hK : K v m) : CallA1 S g args m K :=
  fun _ φ _ _ _ _ hA hus hM hk hb => UponV.mono (fun _ _ ⟨h1, h2, h3⟩ => ⟨φ, v, m, hK, .refl φ, h1, h2, h3, hb⟩) (h.run ha hv hA hus hM hk)

/-- From calls that the machine enters. -/
theorem CallRes.calls {g : FuncId} {fn : Func} {us : Array Value} {R : Value → World → Prop} (hf : S.P.funcs[g]? = some fn) (hb : fn.body.isSome = true) (hn : (fn.name == "runtime.NumGoroutine") = false) (h : CallRes S.P g us w R) :
    Calls S.P g us w fun e w' => ∃ v, e = .returned v ∧ R v w' := by
  unfold CallRes at h
  have : (callFunc g us).run S.P w = .ok (.enter g us) w := by
    have hb' : fn.body ≠ none := by intro q; rw [q] at hb; cases hb
    have hn' : ¬ fn.name = "runtime.NumGoroutine" := by simpa using hn
    simp [callFunc, hf, hn', hb']
  rw [this] at h
  exact h

/-- Since w nothing old has turned. -/
def Left (w w' : World) : Prop := Keeps (fun b => w.heap.size ≤ b) w w'

theorem Left.kept {w w' : World} (h : Left w w') (may : MemPlace → Prop) : w.keptBut w' may := by
  refine ⟨Keeps.os h, Keeps.output h, fun i hi => ?_⟩
  have := Keeps.kept h i hi (by omega)
  rw [this]
  cases w.heap[i]? with
  | none => rfl
  | some o =>
    cases o with
    | cells c t fr => exact ⟨rfl, rfl, rfl, fun _ _ => rfl⟩
    | map es c => exact .inr ⟨rfl, rfl⟩
    | _ => rfl

theorem Left.frozen {w w' : World} (h : Left w w') (a : Addr) (ha : a.block < w.heap.size) : w'.frozen? a = w.frozen? a := by
  have := Keeps.kept h a.block ha (by omega)
  simp only [World.frozen?, this]

/-- A function that answers 'true' in any world, whatever its arguments that need no memory. -/
theorem truth {g : FuncId} {fn : Func} {args : List AV} (hf : S.P.funcs[g]? = some fn) (hb : fn.body.isSome = true) (hn : (fn.name == "runtime.NumGoroutine") = false) (he : S.errs = []) (h : Pure S g args (.bool true)) {us : Array Value}
    (hus : ∀ eb φ, VRs S.errT eb φ args us.toList) (w : World) : Calls S.P g us w fun e w' => e = .returned (.bool true) ∧ Left w w' := by
  have hA : Amb S (fun _ => ⟨0, 0, none⟩) (fun b => w.heap.size ≤ b) w := ⟨by simp [he], by simp [he], by simp [he], by simp [he]⟩
  have hM0 : MR S.errT (fun _ => ⟨0, 0, none⟩) noEmb (mget []) (fun b => w.heap.size ≤ b) w := mr_nil
  have := h (fun _ => ⟨0, 0, none⟩) noEmb _ w w us hA (hus _ _) hM0 (.refl fun _ h => h) (fun id h => h.elim)
  refine (this.calls hf hb hn).mono ?_
  rintro e w' ⟨v, rfl, φ', v', m', rfl, _, hr, _, hk', _⟩
  rw [vr_bool hr]
  exact ⟨rfl, hk'⟩


section
variable {K : St → Prop} {lg : Log} {i : Nat} {a : List Nat} {ix : List (List Nat)}
theorem ctx_read {rd : FuncId → List AV → (Nat → Option Blk) → Option (AV × List Nat)} : (ctx S rd).read = rd := rfl
theorem wpDs_nil : wpDs C K i [] [] lg st = K st := rfl
theorem wpDs_plain {d : Option Nat} {op : AOp Opd} {r : List AOper} : wpDs C K i (⟨d, none, op⟩ :: r) (a :: ix) lg st = wpOpD C i a lg d op st (wpDs C K (i + 1) r ix) := rfl
theorem wpDs_guard {d : Option Nat} {t : Nat} {w : Bool} {op : AOp Opd} {r : List AOper} : wpDs C K i (⟨d, some (t, w), op⟩ :: r) (a :: ix) lg st = wpGD C i a lg ⟨d, some (t, w), op⟩ st (wpDs C K (i + 1) r ix) w (tget st.tm t) := rfl
variable {o : AOper} {K2 : Log → St → Prop}
theorem wpGD_tt : wpGD C i a lg o st K2 true (.bool true) = wpOpD C i a lg o.dst o.op st K2 := by simp [wpGD]
theorem wpGD_ff : wpGD C i a lg o st K2 false (.bool false) = wpOpD C i a lg o.dst o.op st K2 := by simp [wpGD]
theorem wpGD_tf : wpGD C i a lg o st K2 true (.bool false) = K2 lg (st.put o.dst (.tup [])) := by simp [wpGD]
theorem wpGD_ft : wpGD C i a lg o st K2 false (.bool true) = K2 lg (st.put o.dst (.tup [])) := by simp [wpGD]
theorem wpGD_tu {w : Bool} : wpGD C i a lg o st K2 w (.tup []) = K2 lg (st.put o.dst (.tup [])) := by simp [wpGD]
/-- A step that looks at nothing. -/
theorem wpEffD_quiet {d : Option Nat} {p : Prop} {v : AV} : wpEffD i a lg d st K2 (some (p, { val := v })) = (p ∧ okLog a [] [] lg = true ∧ K2 lg (st.eff d { val := v })) := by
  simp only [wpEffD, okFresh, List.contains_nil, Bool.not_false, Bool.true_or, true_and, List.map_nil, List.nil_append, addLog]
theorem wpEffD_some {d : Option Nat} {p : Prop} {e : Eff} : wpEffD i a lg d st K2 (some (p, e)) = (p ∧ okFresh st.mem.length e = true ∧ okLog a (e.wr.map Prod.fst ++ e.foot) (e.wr.map Prod.fst) lg = true ∧ K2 (addLog i (e.wr.map Prod.fst ++ e.foot) (e.wr.map Prod.fst) lg) (st.eff d e)) := rfl
theorem wpRead_some {d : Option Nat} {v : AV} {f : List Nat} : wpRead i a lg st d K2 (some (v, f)) = (okLog a f [] lg = true ∧ K2 (addLog i f [] lg) (st.put d v)) := rfl
/-- Nothing looked at meets nothing. -/
theorem okLog_quiet : ∀ {lg : Log}, okLog a [] [] lg = true
  | [] => rfl
  | (j, f, w) :: r => by simp only [okLog, noCommon_nil', noCommon_nil, Bool.and_self, Bool.or_true, Bool.true_and, okLog_quiet (lg := r)]
end

section
open Go.ChangeShapes Go.WideShapes
/-- What a law's row asks, where nothing old has turned. -/
theorem post_left {H : Type} {enc : TypeId × Value → H} {P : Program} {f : Func} {s : ChangeSpec} {apart fresh handsOn again : Bool} {W W' : World} {args : Array Value} {v : Value} {ds gs : List (DataW H)} {before pa pv : List MemPlace}
    (hW : DataW.Whole enc P f.params.toList s.vars apart W args.toList ds gs before)
    (hres : ∀ (b : Nat) (sp : Nat → Bool) (hd : Bool), DataW.TrodAll enc P W' b sp hd f.resultTypes.toList (v.resultList f.resultTypes.size) (s.fn H (ds ++ gs)).results [])
    (hargs : ∀ sp : Nat → Bool, (∀ p ∈ before, sp p.block = true) → DataW.TrodAll enc P W' 0 sp true f.params.toList args.toList (s.fn H (ds ++ gs)).args pa)
    (hvars : ∀ sp : Nat → Bool, (∀ p ∈ before, sp p.block = true) → DataW.TrodVars enc P W' sp s.vars (s.fn H (ds ++ gs)).vars pv)
    (hps : before = pa ++ pv) (hl : Left W W')
    (hok : ∀ (j : Nat) (t : TypeId) (r : Value), f.resultTypes[j]? = some t → (v.resultList f.resultTypes.size)[j]? = some r → Value.okWide P W' .any 0 t r) :
    s.post enc P f apart fresh handsOn again W args v W' := by
  have hlt := hW.lt
  have hold : ∀ p ∈ before, (fun b => decide (b < W.heap.size)) p.block = true := fun p hp => by simpa using hlt p hp
  refine ⟨ds, gs, before, [], pa, pv, hW, hres _ _ _, hargs _ hold, hvars _ hold, hl.kept _, fun _ => ?_⟩
  obtain ⟨_, _, _, _, _, hz, hn⟩ := hW
  refine ⟨hok, _, _, ([] ++ pa) ++ pv, ⟨[] ++ pa, pv, trodAll_append (hargs _ (fun _ _ => rfl)) (hres _ _ _), hvars _ (fun _ _ => rfl), rfl, ?_, ?_⟩, ?_⟩
  · intro b off hp
    have hp' : MemPlace.cell b off ∈ before := by rw [hps]; simpa using hp
    rw [hl.frozen _ (hlt _ hp')]
    exact hz b off hp'
  · intro ha
    have := hn ha
    rw [hps] at this
    simpa using this
  · intro p hp _
    rw [hps]
    simpa using hp
end

end AH
