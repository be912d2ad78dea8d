import Derived.Test.YtdjcpmdjodhfeaaDoorAHRead
/-
AH: contexts in which calls that only read are values; loops one round at a time.
-/
set_option linter.unusedSimpArgs false
namespace AH
open Go
variable {S : Sys} {C : Ctx} {Q : Exit → St → Prop} {st : St}

/-- A function's values, out of its arguments and the memory: the value, and the blocks looked at. -/
abbrev RT := List AV → (Nat → Option Blk) → Option (AV × List Nat)

def lookT : List (FuncId × RT) → FuncId → Option RT
  | [], _ => none
  | (a, f) :: r, g => bif a == g then some f else lookT r g

def appT (args : List AV) (M : Nat → Option Blk) : Option RT → Option (AV × List Nat)
  | some f => f args M
  | none => none

def rdT (T : List (FuncId × RT)) (g : FuncId) (args : List AV) (M : Nat → Option Blk) : Option (AV × List Nat) := appT args M (lookT T g)

def ReadF (S : Sys) (g : FuncId) (f : RT) : Prop := ∀ args M v foot, f args M = some (v, foot) →
  (∀ M', (∀ id ∈ foot, M' id = M id) → f args M' = some (v, foot)) ∧
  ∀ eb φ own w0 w (us : Array Value), Amb S eb own w0 → VRs S.errT eb φ args us.toList → MR S.errT eb φ M own w → Keeps own w0 w →
    CallRes S.P g us w fun r w' => VR S.errT eb φ v r ∧ MR S.errT eb φ M own w' ∧ Keeps own w0 w'

def AllF (S : Sys) : List (FuncId × RT) → Prop
  | [] => True
  | (g, f) :: r => ReadF S g f ∧ AllF S r

theorem lookT_spec : ∀ {T : List (FuncId × RT)} {g : FuncId} {f : RT}, AllF S T → lookT T g = some f → ReadF S g f
  | (a, f') :: r, g, f, h, e => by
    simp only [lookT] at e
    by_cases q : a = g
    · subst q; simp at e; subst e; exact h.1
    · have : (a == g) = false := by simp [q]
      rw [this] at e
      exact lookT_spec h.2 e

theorem rdT_ok {T : List (FuncId × RT)} (h : AllF S T) : ReadA S (rdT T) := by
  intro g args M v foot e
  unfold rdT at e ⊢
  cases q : lookT T g with
  | none => rw [q] at e; cases e
  | some f =>
    rw [q] at e
    exact lookT_spec h q args M v foot e

def callQ (S : Sys) (g : FuncId) (args : List AV) (m : Mem) (K : AV → Mem → Prop) : Option (AV × List Nat) → Prop
  | some (v, _) => K v m
  | none => CallA1 S g args m K

def ctxT (S : Sys) (T : List (FuncId × RT)) : Ctx := { call := fun g args m K => callQ S g args m K (rdT T g args (mget m)), read := rdT T, base := 0 }

theorem ctxT_ok {T : List (FuncId × RT)} (h : AllF S T) (hm : S.P.follows .mixedOrders = true) : CtxOK S (ctxT S T) := by
  refine ⟨fun g args m K hK => ?_, rdT_ok h, hm⟩
  show CallA1 S g args m K
  have hK' : callQ S g args m K (rdT T g args (mget m)) := hK
  cases q : rdT T g args (mget m) with
  | none => rw [q] at hK'; exact hK'
  | some x =>
    obtain ⟨v, foot⟩ := x
    rw [q] at hK'
    intro eb φ own w0 w us hA hus hM hk hb
    exact UponV.mono (fun _ _ ⟨h1, h2, h3⟩ => ⟨φ, v, m, hK', .refl φ, h1, h2, h3, hb⟩) ((rdT_ok h g args (mget m) v foot q).2 eb φ own w0 w us hA hus hM hk)

theorem ctxT_call {T : List (FuncId × RT)} {g : FuncId} {args : List AV} {m : Mem} {K : AV → Mem → Prop} : (ctxT S T).call g args m K = callQ S g args m K (appT args (mget m) (lookT T g)) := rfl
theorem ctxT_read {T : List (FuncId × RT)} {g : FuncId} {args : List AV} {M : Nat → Option Blk} : (ctxT S T).read g args M = appT args M (lookT T g) := rfl
theorem callQ_some {g : FuncId} {args : List AV} {m : Mem} {K : AV → Mem → Prop} {v : AV} {f : List Nat} : callQ S g args m K (some (v, f)) = K v m := rfl
theorem callQ_none {g : FuncId} {args : List AV} {m : Mem} {K : AV → Mem → Prop} : callQ S g args m K none = CallA1 S g args m K := rfl
theorem appT_some {args : List AV} {M : Nat → Option Blk} {f : RT} : appT args M (some f) = f args M := rfl
theorem appT_none {args : List AV} {M : Nat → Option Blk} : appT args M none = none := rfl
theorem lookT_cons {a g : FuncId} {f : RT} {r : List (FuncId × RT)} : lookT ((a, f) :: r) g = bif a == g then some f else lookT r g := rfl
theorem lookT_nil {g : FuncId} : lookT [] g = none := rfl

/-- A function that needs no memory, in a table. -/
theorem ReadF.pure {g : FuncId} {f : RT} (h : ∀ args M v foot, f args M = some (v, foot) → foot = [] ∧ (∀ M', f args M' = some (v, [])) ∧ AV.lts 0 args = true ∧ v.lt 0 = true ∧ Pure S g args v) : ReadF S g f := by
  intro args M v foot e
  obtain ⟨rfl, h1, h2, h3, h4⟩ := h args M v foot e
  exact ⟨fun M' _ => h1 M', fun eb φ own w0 w us hA hus hM hk => h4.run h2 h3 hA hus hM hk⟩

theorem gcX_mono {base : Nat} {X Y : St → Prop} (h : ∀ s, X s → Y s) {s : St} : gcX base X s → gcX base Y s := fun ⟨s', g, x⟩ => ⟨s', g, h s' x⟩

/-- Calls of which more is asked. -/
def MonoC (C : Ctx) : Prop := ∀ g args m (K K' : AV → Mem → Prop), (∀ v m', K v m' → K' v m') → C.call g args m K → C.call g args m K'

theorem ctxT_mono {T : List (FuncId × RT)} : MonoC (ctxT S T) := by
  intro g args m K K' h hK
  rw [ctxT_call] at hK ⊢
  generalize appT args (mget m) (lookT T g) = q at hK ⊢
  cases q with
  | none => exact CallA1.mono hK h
  | some x => exact h _ _ hK

theorem MonoC.base {n : Nat} (h : MonoC C) : MonoC { C with base := n } := h

theorem wpOp_mono (hC : MonoC C) {d : Option Nat} {op : AOp Opd} {K K' : St → Prop} (h : ∀ s, K s → K' s) {st : St} (hw : AH.wpOp C d op st K) : AH.wpOp C d op st K' := by
  unfold AH.wpOp at hw ⊢
  split at hw
  · rename_i f args e
    unfold wpCall at hw ⊢
    split at hw
    · rename_i g first cap ef
      exact hC _ _ _ _ _ (fun v m' q => h _ q) hw
    · exact hw.elim
  · rename_i e
    generalize bstep st.mem.length (mget st.mem) (op.map (Opd.ev st.tm)) = q at hw ⊢
    generalize missQ (op.map (Opd.ev st.tm)) = z at hw ⊢
    cases z with
    | true => exact ⟨h _ hw.1, h _ hw.2⟩
    | false =>
      cases q with
      | none => exact hw.elim
      | some x => exact ⟨hw.1, h _ hw.2⟩

theorem wpOps_mono (hC : MonoC C) {K K' : St → Prop} (h : ∀ s, K s → K' s) : ∀ {ops : List AOper} {st : St}, wpOps C ops K st → wpOps C ops K' st
  | [], st, hw => h st hw
  | o :: r, st, hw => by
    unfold wpOps at hw ⊢
    split at hw
    · rename_i e
      exact wpOp_mono hC (fun s => wpOps_mono hC h) hw
    · rename_i t want e
      unfold wpG at hw ⊢
      split at hw
      · rename_i b eb
        exact ⟨fun q => wpOp_mono hC (fun s => wpOps_mono hC h) (hw.1 q), fun q => wpOps_mono hC h (hw.2 q)⟩
      · rename_i eb
        exact wpOps_mono hC h hw
      · exact hw.elim

theorem wpOpD_mono {i : Nat} {a : List Nat} {lg : Log} {d : Option Nat} {op : AOp Opd} {K K' : Log → St → Prop} (h : ∀ l s, K l s → K' l s) {st : St} (hw : AH.wpOpD C i a lg d op st K) : AH.wpOpD C i a lg d op st K' := by
  unfold AH.wpOpD at hw ⊢
  split at hw
  · rename_i f args e
    generalize readOf C st.mem (evs st.tm args) (f.ev st.tm) = q at hw ⊢
    cases q with
    | none => exact hw.elim
    | some x => exact ⟨hw.1, h _ _ hw.2⟩
  · rename_i e
    generalize bstep st.mem.length (mget st.mem) (op.map (Opd.ev st.tm)) = q at hw ⊢
    cases q with
    | none => exact hw.elim
    | some x => exact ⟨hw.1, hw.2.1, hw.2.2.1, h _ _ hw.2.2.2⟩

theorem wpDs_mono {K K' : St → Prop} (h : ∀ s, K s → K' s) : ∀ {ops : List AOper} {i : Nat} {ix : List (List Nat)} {lg : Log} {st : St}, wpDs C K i ops ix lg st → wpDs C K' i ops ix lg st
  | [], _, [], _, st, hw => h st hw
  | [], _, _ :: _, _, st, hw => by simp [wpDs] at hw
  | _ :: _, _, [], _, st, hw => by simp [wpDs] at hw
  | o :: r, i, a :: ix, lg, st, hw => by
    unfold wpDs at hw ⊢
    split at hw
    · rename_i e
      exact wpOpD_mono (fun l s => wpDs_mono h) hw
    · rename_i t want e
      unfold wpGD at hw ⊢
      split at hw
      · rename_i b eb
        exact ⟨fun q => wpOpD_mono (fun l s => wpDs_mono h) (hw.1 q), fun q => wpDs_mono h (hw.2 q)⟩
      · rename_i eb
        exact wpDs_mono h hw
      · exact hw.elim

theorem wpA_mono (hC : MonoC C) : ∀ {c : ACode} {Q Q' : Exit → St → Prop} {st : St}, (∀ e s, Q e s → Q' e s) → wpA C c Q st → wpA C c Q' st
  | .skip, _, _, _, h, hw => h _ _ hw
  | .reg _, _, _, _, h, hw => wpOps_mono hC (h .normal) hw
  | .draw _ _, _, _, _, h, hw => ⟨hw.1, wpDs_mono (h .normal) hw.2⟩
  | .seq a b, Q, Q', _, h, hw => wpA_mono (c := a) hC (fun e s q => by
      cases e with
      | normal => exact wpA_mono (c := b) hC h q
      | _ => exact h _ _ q) hw
  | .cond c a b, Q, Q', st, h, hw => by
    rw [wpA_cond] at hw ⊢
    generalize c.ev st.tm = v at hw ⊢
    unfold wpC at hw ⊢
    split at hw
    · exact ⟨fun q => wpA_mono hC h (hw.1 q), fun q => wpA_mono hC h (hw.2 q)⟩
    · exact hw.elim
  | .block id b, Q, Q', _, h, hw => wpA_mono (c := b) hC (fun e s q => by
      cases e with
      | exit i =>
        rw [inBlk_exit] at q ⊢
        split at q
        · rename_i hi; rw [if_pos hi]; exact h _ _ q
        · rename_i hi; rw [if_neg hi]; exact h _ _ q
      | _ => exact h _ _ q) hw
  | .loop b, Q, Q', _, h, hw => by
    refine gcX_mono (fun s hs => ?_) hw
    intro X hX
    refine hs X fun s hs' => hX s (wpA_mono (c := b) hC (fun e s q => ?_) hs')
    cases e with
    | normal => exact q
    | _ => exact h _ _ q
  | .exit _, _, _, _, h, hw => h _ _ hw
  | .ret, _, _, _, h, hw => h _ _ hw

/-- A loop, one round. -/
theorem loop_unroll (hC : MonoC C) {b : ACode} (h : wpA C b (thenQ (wpA C (.loop b) Q) Q) st) : wpA C (.loop b) Q st := by
  refine ⟨st, .inl ⟨fun t => .inr rfl, .inl rfl⟩, fun X hX => hX st (wpA_mono hC (fun e s q => ?_) h)⟩
  cases e with
  | normal => exact gcX_mono (fun s hs => hs X hX) q
  | _ => exact q

end AH
