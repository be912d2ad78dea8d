import Derived.Test.YtcmnchmkoghfdaaDoorAHc
/-
AH: functions of Go's library, once for all instances.
-/
set_option linter.unusedSimpArgs false
namespace AH
open Go
variable {S : Sys}

theorem mset_end : ∀ {m : Mem} {b : Option Blk}, mset m m.length b = m ++ [b]
  | [], _ => rfl
  | _ :: m, b => by simp only [List.length_cons, mset, List.cons_append, mset_end (m := m)]
theorem mget_end : ∀ {m : Mem} {b : Option Blk}, mget (m ++ [b]) m.length = b
  | [], _ => rfl
  | _ :: m, b => by simp only [List.length_cons, mget, List.cons_append, mget_end (m := m)]
theorem mset_last : ∀ {m : Mem} {b b' : Option Blk}, mset (m ++ [b]) m.length b' = m ++ [b']
  | [], _, _ => rfl
  | _ :: m, b, b' => by simp only [List.length_cons, mset, List.cons_append, mset_last (m := m)]
theorem mget_old {m r : Mem} {i : Nat} (h : i < m.length) : mget (m ++ r) i = mget m i := by rw [mget_append, if_pos h]


/-- slices.Clone. -/
def cloneF (k bytes : Nat) (z : List AV) : AFun := ⟨8, 1, [.tmp 2],
  (.seq
   (.reg [
     ⟨(some 2), none, .mov (.c .nils)⟩])
   (.seq
    (.seq
     (.reg [
       ⟨(some 3), none, .mov (.t 0)⟩,
       ⟨(some 4), none, .eq false .slice true (.t 3) (.c .nils)⟩])
     (.cond (.t 4)
      (.seq
       (.reg [
         ⟨(some 2), none, .mov (.c .nils)⟩])
       .ret)
      .skip))
    (.seq
     (.reg [
       ⟨(some 5), none, .bslice k 0 z []⟩,
       ⟨(some 6), none, .mov (.t 0)⟩,
       ⟨(some 7), none, .append k bytes z (.t 5) (.t 6)⟩,
       ⟨(some 2), none, .mov (.t 7)⟩])
     .ret)))⟩

def cloneU (k : Nat) : UT := fun args m => match args with
  | [.nils] => some (.slc m.length 0 0 none, m ++ [some (.row false k [])])
  | [.slc id ix n _] => match rowE (mget m) id with
    | some (k', es) => bif k' == k && (decide (ix + n ≤ es.length) && (decide (n ≤ 1048576) && ((es.drop ix).take n).all (AV.lts 0))) then some (.slc m.length 0 n none, m ++ [some (.row false k ((es.drop ix).take n))]) else none
    | none => none
  | _ => none

theorem all_rens {ρ : Nat → Nat} : ∀ {es : List (List AV)}, es.all (AV.lts 0) = true → es.map (AV.rens ρ) = es
  | [], _ => rfl
  | e :: r, h => by
    simp only [List.all_cons, Bool.and_eq_true] at h
    simp only [List.map_cons, flats_rens h.1, all_rens h.2]
theorem all_inB {p : Nat → Bool} : ∀ {es : List (List AV)}, es.all (AV.lts 0) = true → es.all (AV.insB p) = true
  | [], _ => rfl
  | e :: r, h => by
    simp only [List.all_cons, Bool.and_eq_true] at h
    simp only [List.all_cons, flats_inB h.1, all_inB h.2, Bool.and_self]

theorem clone_ok {g : FuncId} {fn : Func} {k bytes : Nat} {z : List AV} (he : S.errs ≠ []) (hm : S.P.follows .mixedOrders = true) (hf : S.P.funcs[g]? = some fn) (hF : cFun S.P S.errs fn = some (cloneF k bytes z)) (hz : z.length = k) (hk : 0 < k) (hb : 1048576 * bytes ≤ 140737488355328) :
    CallF S g (cloneU k) := by
  have okC : CtxOK S (ctxU S [] []) := ctxU_ok trivial trivial hm
  intro args m v m' e
  unfold cloneU at e
  split at e
  · simp only [Option.some.injEq, Prod.mk.injEq] at e
    obtain ⟨rfl, rfl⟩ := e
    refine CallA1.voids ?_
    refine fun_sound okC hf hF ?_
    unfold wpF cloneF
    simp only [AH.SD, AH.wpOp, AOp.call?, AOp.next?, bstep, AOp.map, Opd.ev, tget, argTm, evs, AV.cells, St.eff, St.put, applyWr, mset, terase, pureE, unAV, intOp, binAV, fill, mget, AH.rowAt, AH.part, retQ, rvs, retV, AH.splice, AH.sliceElems, AH.bytesOf, AH.strOp, AH.bound, AH.addLog, AH.missQ, AH.minmaxAV, AH.wpOpD, AH.readOf, AH.effOf, AH.mapAt, AH.iterAt, Nat.reduceBEq, Nat.reduceAdd, Nat.reduceLT, ↓reduceIte, Nat.reduceEqDiff, Nat.reduceLeDiff, Nat.reduceSub, Nat.reduceMul, Int.reduceSub, Int.reduceToNat, Int.reduceBEq, Int.reduceBNe, Int.reduceLT, Int.reduceGT, Int.reduceLE, Int.reduceGE, Int.reduceNeg, Int.reduceAdd]
    exact ⟨_, _, voids_tm 0 k hk rfl, rfl, rfl⟩
  · rename_i id ix n cap
    split at e
    · rename_i k' es hrow
      cases hc : (k' == k && (decide (ix + n ≤ es.length) && (decide (n ≤ 1048576) && ((es.drop ix).take n).all (AV.lts 0)))) with
      | false => rw [hc] at e; cases e
      | true =>
        rw [hc] at e
        simp only [cond_true, Option.some.injEq, Prod.mk.injEq] at e
        obtain ⟨rfl, rfl⟩ := e
        simp only [Bool.and_eq_true, beq_iff_eq, decide_eq_true_eq] at hc
        obtain ⟨rfl, hle, hn, hfl⟩ := hc
        obtain ⟨ro, hid⟩ := rowE_some hrow
        have hlt := (mget_some hid).1
        have key : CallF S g (utN [k'] fun args rows => match args, rows with
          | [.slc i j nn cp], [(k2, es')] => bif i == 0 && (j == 0 && (cp.isNone && (k2 == k' && (nn == es'.length && (decide (nn ≤ 1048576) && es'.all (AV.lts 0)))))) then some (.slc 1 0 nn none, [some (.row false k' es')]) else none
          | _, _ => none) := by
          refine utN_ok he fun args rows v news e => ?_
          split at e
          · rename_i i j nn cp k2 es'
            cases hc : (i == 0 && (j == 0 && (cp.isNone && (k2 == k' && (nn == es'.length && (decide (nn ≤ 1048576) && es'.all (AV.lts 0))))))) with
            | false => rw [hc] at e; cases e
            | true =>
              rw [hc] at e
              simp only [cond_true, Option.some.injEq, Prod.mk.injEq] at e
              obtain ⟨rfl, rfl⟩ := e
              simp only [Bool.and_eq_true, beq_iff_eq, decide_eq_true_eq] at hc
              obtain ⟨rfl, rfl, hcp, rfl, rfl, h1, h2⟩ := hc
              have : cp = none := by simpa using hcp
              subst this
              refine ⟨rfl, ?_, rfl, ?_⟩
              · simp only [List.all_cons, List.all_nil, blkIn, Blk.inB, all_inB h2, Bool.and_self]
              · refine CallA1.voids (CallA1.pack ?_)
                refine fun_sound okC hf hF ?_
                unfold wpF cloneF
                have hfr : ∀ p, es'.all (AV.insB p) = true := fun p => all_inB h2
                have hfm : ∀ ρ, es'.map (AV.rens ρ) = es' := fun ρ => all_rens h2
                have e1 : es'.take es'.length = es' := List.take_length
                have hb2 := Nat.mul_le_mul_right bytes h1
                have fin : ∃ l : List Nat, heads 1 0 l = true ∧ distN l = true ∧ packB l [some (.row true k2 es'), some (.row false k2 []), some (.row false k2 es')] l = true ∧ (AV.slc 2 0 es'.length none).inB (inN l) = true ∧
                    ∃ tm' m'', Voids ⟨[(0, (AV.slc 2 0 es'.length none).ren (posN l))], packM l [some (.row true k2 es'), some (.row false k2 []), some (.row false k2 es')] l⟩ ⟨tm', m''⟩ ∧ tget tm' 0 = .slc 1 0 es'.length none ∧ m'' = [some (.row true k2 es'), some (.row false k2 es')] := by
                  refine ⟨[0, 2], rfl, rfl, ?_, rfl, _, _, .refl _, rfl, ?_⟩
                  · simp only [packB, mget, Blk.inB, hfr, Bool.and_self]
                  · simp only [packM, mget, Option.map_some, Blk.ren, hfm]
                cases hn0 : es'.length with
                | zero =>
                  obtain rfl : es' = [] := List.eq_nil_of_length_eq_zero hn0
                  simp only [AH.SD, AH.wpOp, AOp.call?, AOp.next?, bstep, AOp.map, Opd.ev, tget, argTm, evs, AV.cells, St.eff, St.put, applyWr, mset, terase, pureE, unAV, intOp, binAV, fill, mget, AH.rowAt, AH.part, retQ, rvs, retV, AH.splice, AH.sliceElems, AH.bytesOf, AH.strOp, AH.bound, AH.addLog, AH.missQ, AH.minmaxAV, AH.wpOpD, AH.readOf, AH.effOf, AH.mapAt, AH.iterAt, Nat.reduceBEq, Nat.reduceAdd, Nat.reduceLT, ↓reduceIte, Nat.reduceEqDiff, Nat.reduceLeDiff, Nat.reduceSub, Nat.reduceMul, Int.reduceSub, Int.reduceToNat, Int.reduceBEq, Int.reduceBNe, Int.reduceLT, Int.reduceGT, Int.reduceLE, Int.reduceGE, Int.reduceNeg, Int.reduceAdd, rowsM]
                  refine ⟨⟨[0], rfl, rfl, rfl, rfl, _, _, voids_tm 0 k2 hk rfl, rfl, rfl⟩, hz, ?_⟩
                  exact ⟨⟨hz, hk, trivial⟩, fin⟩
                | succ n' =>
                  rw [hn0] at e1 fin h1 hb2
                  simp only [AH.SD, AH.wpOp, AOp.call?, AOp.next?, bstep, AOp.map, Opd.ev, tget, argTm, evs, AV.cells, St.eff, St.put, applyWr, mset, terase, pureE, unAV, intOp, binAV, fill, mget, AH.rowAt, AH.part, retQ, rvs, retV, AH.splice, AH.sliceElems, AH.bytesOf, AH.strOp, AH.bound, AH.addLog, AH.missQ, AH.minmaxAV, AH.wpOpD, AH.readOf, AH.effOf, AH.mapAt, AH.iterAt, Nat.reduceBEq, Nat.reduceAdd, Nat.reduceLT, ↓reduceIte, Nat.reduceEqDiff, Nat.reduceLeDiff, Nat.reduceSub, Nat.reduceMul, Int.reduceSub, Int.reduceToNat, Int.reduceBEq, Int.reduceBNe, Int.reduceLT, Int.reduceGT, Int.reduceLE, Int.reduceGE, Int.reduceNeg, Int.reduceAdd, rowsM, e1, hn0]
                  refine ⟨by omega, hz, ?_⟩
                  exact ⟨⟨hz, hk, by omega, by omega⟩, fin⟩
          · cases e
        refine key _ _ _ _ ?_
        have hv : vw (mget m) [k'] [.slc id ix n cap] 0 = some ([.slc 0 0 n none], [(k', (es.drop ix).take n)], [id]) := by
          simp only [vw, hid, beq_self_eq_true, hle, decide_true, hfl, Bool.and_self, cond_true, Option.map_some]
        have hlen : ((es.drop ix).take n).length = n := by rw [List.length_take, List.length_drop]; omega
        have hsn : shift m.length 1 1 = m.length := by simp [shift]
        have hb1 : decide (n ≤ 1048576) = true := by simpa using hn
        simp only [utN, hv, useN, hlen, hfl, hb1, beq_self_eq_true, Option.isNone_none, Bool.and_self, cond_true, Option.map_some, List.length_cons, List.length_nil, Nat.zero_add, AV.ren, hsn, newOnes, Blk.ren, all_rens hfl]
    · cases e
  · cases e

end AH

/-
AH: what a walk ends with: garbage, nil slices, elements of one kind.
-/
set_option linter.unusedSimpArgs false
namespace AH
open Go
variable {S : Sys} {C : Ctx} {Q : Exit → St → Prop}

/-- Elements without blocks. -/
class FlatE {α : Type} (enc : α → List AV) : Prop where
  flat : ∀ a, AV.lts 0 (enc a) = true

section
variable {α : Type} {enc : α → List AV} [FlatE enc]
theorem flatE_in (p : Nat → Bool) (a : α) : AV.insB p (enc a) = true := flats_inB (FlatE.flat a)
theorem flatE_ren (ρ : Nat → Nat) (a : α) : AV.rens ρ (enc a) = enc a := flats_rens (FlatE.flat a)
theorem flat_ins (p : Nat → Bool) : ∀ l : List α, (l.map enc).all (AV.insB p) = true
  | [] => rfl
  | a :: r => by simp only [List.map_cons, List.all_cons, flatE_in, flat_ins p r, Bool.and_self]
theorem flat_rens (ρ : Nat → Nat) : ∀ l : List α, (l.map enc).map (AV.rens ρ) = l.map enc
  | [] => rfl
  | a :: r => by simp only [List.map_cons, flatE_ren, flat_rens ρ r]
theorem flat_lts (n : Nat) : ∀ l : List α, (l.map enc).all (AV.lts n) = true
  | [] => rfl
  | a :: r => by simp only [List.map_cons, List.all_cons, lts_of_flat (FlatE.flat (enc := enc) a), flat_lts n r, Bool.and_self]
end

section
variable {α : Type} {enc : α → List AV}
theorem getD_enc {l : List α} {i : Nat} (h : i < l.length) : (l.map enc).getD i [] = enc l[i] := getD_map_lt _ _ _ _ h
theorem set_enc {l : List α} {i : Nat} {a : α} : (l.map enc).set i (enc a) = (l.set i a).map enc := (List.map_set ..).symm
theorem snoc_enc {l : List α} {a : α} : l.map enc ++ [enc a] = (l ++ [a]).map enc := by rw [List.map_append]; rfl
theorem take_all {l : List α} : (l.map enc).take l.length = l.map enc := by rw [List.take_of_length_le]; simp
theorem take_enc {l : List α} {n : Nat} : (l.map enc).take n = (l.take n).map enc := List.map_take.symm
theorem drop_enc {l : List α} {n : Nat} : (l.map enc).drop n = (l.drop n).map enc := List.map_drop.symm
end

theorem getD_set_self {α : Type} {l : List α} {k : Nat} {a d : α} (h : k < l.length) : (l.set k a).getD k d = a := by rw [List.getD_eq_getElem?_getD, List.getElem?_set_self h]; rfl
theorem getD_set_ne {α : Type} {l : List α} {k j : Nat} {a d : α} (h : k ≠ j) : (l.set k a).getD j d = l.getD j d := by rw [List.getD_eq_getElem?_getD, List.getElem?_set_ne h, ← List.getD_eq_getElem?_getD]

/-- Steps by which nil slices are told as empty ones. -/
inductive VStep where
  | tm (t k : Nat)
  | tup (t j k : Nat)
  | cell (id i j k : Nat)
  | cap (t : Nat)
  | tcap (t j : Nat)
  | ccap (id i j : Nat)

def tput (t : Nat) (v : AV) : Tm → Tm
  | [] => []
  | (s, u) :: r => bif s == t then (s, v) :: r else (s, u) :: tput t v r

def vstep (s : St) : VStep → Option St
  | .tm t k => match tget s.tm t, k with
    | .nils, k + 1 => some ⟨tput t (.slc s.mem.length 0 0 none) s.tm, s.mem ++ [some (.row false (k + 1) [])]⟩
    | _, _ => none
  | .tup t j k => match tget s.tm t, k with
    | .tup l, k + 1 => match l.getD j .undef with
      | .nils => some ⟨tput t (.tup (l.set j (.slc s.mem.length 0 0 none))) s.tm, s.mem ++ [some (.row false (k + 1) [])]⟩
      | _ => none
    | _, _ => none
  | .cell id i j k => match mget s.mem id, k with
    | some (.row ro k' es), k + 1 => match (es.getD i []).getD j .undef with
      | .nils => some ⟨s.tm, mset (s.mem ++ [some (.row false (k + 1) [])]) id (some (.row ro k' (es.set i ((es.getD i []).set j (.slc s.mem.length 0 0 none)))))⟩
      | _ => none
    | _, _ => none
  | .cap t => match tget s.tm t with
    | .slc id ix len (some _) => match mget s.mem id with
      | some _ => some ⟨tput t (.slc id ix len none) s.tm, s.mem⟩
      | none => none
    | _ => none
  | .tcap t j => match tget s.tm t with
    | .tup l => match l.getD j .undef with
      | .slc id ix len (some _) => match mget s.mem id with
        | some _ => some ⟨tput t (.tup (l.set j (.slc id ix len none))) s.tm, s.mem⟩
        | none => none
      | _ => none
    | _ => none
  | .ccap id i j => match mget s.mem id with
    | some (.row ro k es) => match (es.getD i []).getD j .undef with
      | .slc id' ix len (some _) => match mget s.mem id' with
        | some _ => some ⟨s.tm, mset s.mem id (some (.row ro k (es.set i ((es.getD i []).set j (.slc id' ix len none)))))⟩
        | none => none
      | _ => none
    | _ => none

def wpV (X : St → Prop) : List VStep → Option St → Prop
  | [], some s => X s
  | v :: r, some s => wpV X r (vstep s v)
  | _, none => False

theorem tput_spec {n t : Nat} {v : AV} : ∀ {l : Tm}, voV n (tget l t) v → (∃ u, tget l t = u ∧ u ≠ .undef) → ∀ x, voV n (tget l x) (tget (tput t v l) x)
  | [], h, ⟨u, h1, h2⟩, x => by simp [tget] at h1; exact absurd h1.symm h2
  | (s, u) :: r, h, hu, x => by
    simp only [tget] at h hu
    simp only [tput]
    by_cases hs : s = t
    · subst hs
      simp only [beq_self_eq_true, cond_true] at h ⊢
      simp only [tget]
      by_cases hx : s = x
      · subst hx; simp only [beq_self_eq_true, cond_true]; exact h
      · have : (s == x) = false := by simp [hx]
        simp only [this, cond_false]; exact voV_refl
    · have e : (s == t) = false := by simp [hs]
      simp only [e, cond_false] at h hu ⊢
      simp only [tget]
      by_cases hx : s = x
      · subst hx; simp only [beq_self_eq_true, cond_true]; exact voV_refl
      · have : (s == x) = false := by simp [hx]
        simp only [this, cond_false]; exact tput_spec h hu x

theorem voL_refl {n : Nat} : ∀ l, voL n l l
  | [] => trivial
  | _ :: r => ⟨.inl rfl, voL_refl r⟩

theorem voL_set {n : Nat} {v' : AV} : ∀ {l : List AV} {j : Nat}, voE n (l.getD j .undef) v' → voL n l (l.set j v')
  | [], _, _ => trivial
  | _ :: r, 0, h => ⟨h, voL_refl r⟩
  | _ :: r, _ + 1, h => ⟨.inl rfl, voL_set (l := r) h⟩

theorem getD_some {α : Type} {l : List α} {i : Nat} {d x : α} (h : l.getD i d = x) (hx : x ≠ d) : l[i]? = some x := by
  rw [List.getD_eq_getElem?_getD] at h
  cases hq : l[i]? with
  | none => rw [hq] at h; exact absurd h.symm hx
  | some y => rw [hq] at h; simpa using h

theorem cell_there {es : List (List AV)} {i j : Nat} {v : AV} (h : (es.getD i []).getD j .undef = v) (hv : v ≠ .undef) : es[i]? = some (es.getD i []) ∧ (es.getD i [])[j]? = some v := by
  have h2 := getD_some h hv
  refine ⟨?_, h2⟩
  have hne : es.getD i [] ≠ [] := fun q => by rw [q] at h2; simp at h2
  exact getD_some rfl hne

theorem vstep_ok {s s' : St} {v : VStep} (h : vstep s v = some s') : Voids s s' := by
  unfold vstep at h
  split at h
  · split at h
    · rename_i k e
      simp only [Option.some.injEq] at h
      subst h
      exact .void (k + 1) _ _ (by omega) (.turn1 (n := s.mem.length) ⟨by simp [mget_app, mget], tput_spec (by rw [e]; exact .inl (.inr (.inl ⟨rfl, rfl⟩))) ⟨_, e, by simp⟩, rfl, fun _ _ => voB_refl⟩)
    · cases h
  · split at h
    · rename_i l k e
      split at h
      · rename_i e2
        simp only [Option.some.injEq] at h
        subst h
        exact .void (k + 1) _ _ (by omega) (.turn1 (n := s.mem.length) ⟨by simp [mget_app, mget], tput_spec (by rw [e]; exact .inr ⟨_, _, rfl, rfl, voL_set (by rw [e2]; exact .inr (.inl ⟨rfl, rfl⟩))⟩) ⟨_, e, by simp⟩, rfl, fun _ _ => voB_refl⟩)
      · cases h
    · cases h
  · split at h
    · rename_i ro k' es k e
      split at h
      · rename_i e2
        simp only [Option.some.injEq] at h
        subst h
        obtain ⟨h1, h2⟩ := cell_there e2 (by simp)
        exact voids_cell _ _ (k + 1) (by omega) e h1 h2
      · cases h
    · cases h
  · split at h
    · rename_i id ix len c e
      split at h
      · rename_i b e2
        simp only [Option.some.injEq] at h
        subst h
        exact .turn1 (n := id) ⟨by rw [e2]; rfl, tput_spec (by rw [e]; exact .inl (.inr (.inr ⟨_, _, _, _, rfl, rfl⟩))) ⟨_, e, by simp⟩, rfl, fun _ _ => voB_refl⟩
      · cases h
    · cases h
  · split at h
    · rename_i l e
      split at h
      · rename_i id ix len c e3
        split at h
        · rename_i b e2
          simp only [Option.some.injEq] at h
          subst h
          exact .turn1 (n := id) ⟨by rw [e2]; rfl, tput_spec (by rw [e]; exact .inr ⟨_, _, rfl, rfl, voL_set (by rw [e3]; exact .inr (.inr ⟨_, _, _, _, rfl, rfl⟩))⟩) ⟨_, e, by simp⟩, rfl, fun _ _ => voB_refl⟩
        · cases h
      · cases h
    · cases h
  · split at h
    · rename_i ro k es e
      split at h
      · rename_i id' ix len c e3
        split at h
        · rename_i b e2
          simp only [Option.some.injEq] at h
          subst h
          obtain ⟨h1, h2⟩ := cell_there e3 (by simp)
          exact .turn1 (n := id') (turn_cell _ _ (by rw [e2]; rfl) e h1 h2 (.inr (.inr ⟨_, _, _, _, rfl, rfl⟩)))
        · cases h
      · cases h
    · cases h

theorem wpV_ok {X : St → Prop} : ∀ {vs : List VStep} {s : St}, wpV X vs (some s) → ∃ s', Voids s s' ∧ X s'
  | [], s, h => ⟨s, .refl s, h⟩
  | v :: r, s, h => by
    simp only [wpV] at h
    cases hq : vstep s v with
    | none => rw [hq] at h; cases r <;> exact h.elim
    | some s1 =>
      rw [hq] at h
      obtain ⟨s', h1, h2⟩ := wpV_ok h
      exact ⟨s', (vstep_ok hq).trans h1, h2⟩

/-- The live temporaries, under new numbers. -/
def packTm (l : List Nat) (tm : Tm) : List Nat → Tm
  | [] => []
  | t :: r => (t, (tget tm t).ren (posN l)) :: packTm l tm r

def liveB (l : List Nat) (tm : Tm) : List Nat → Bool
  | [] => true
  | t :: r => (tget tm t).inB (inN l) && liveB l tm r

theorem packTm_spec {l : List Nat} {tm : Tm} : ∀ {live : List Nat}, liveB l tm live = true → ∀ t, tget (packTm l tm live) t = .undef ∨ ((tget tm t).inB (inN l) = true ∧ tget (packTm l tm live) t = (tget tm t).ren (posN l))
  | [], _, _ => .inl rfl
  | x :: r, h, t => by
    simp only [liveB, Bool.and_eq_true] at h
    simp only [packTm, tget]
    by_cases hx : x = t
    · subst hx; simp only [beq_self_eq_true, cond_true]; exact .inr ⟨h.1, trivial⟩
    · have : (x == t) = false := by simp [hx]
      simp only [this, cond_false]
      exact packTm_spec h.2 t

/-- At a loop's head: these blocks in this order, these temporaries, these nil slices told as empty ones. -/
theorem gc_auto {base : Nat} {X : St → Prop} {s : St} (l live : List Nat) (vs : List VStep)
    (h : (heads base 0 l = true ∧ distN l = true) ∧ packB l s.mem l = true ∧ liveB l s.tm live = true ∧ wpV X vs (some ⟨packTm l s.tm live, packM l s.mem l⟩)) : gcX base X s := by
  obtain ⟨⟨h1, h2⟩, h3, h4, h5⟩ := h
  obtain ⟨s', h6, h7⟩ := wpV_ok h5
  exact ⟨s', ⟨_, .inr ⟨l, h1, h2, h3, rfl, packTm_spec h4⟩, h6⟩, h7⟩

/-- A call's end: the same of its result. -/
theorem CallA1.fin {g : FuncId} {args : List AV} {m : Mem} {K : AV → Mem → Prop}
    (h : CallA1 S g args m fun v m' => ∃ (l : List Nat) (vs : List VStep), (heads m.length 0 l = true ∧ distN l = true) ∧ packB l m' l = true ∧ v.inB (inN l) = true ∧ wpV (fun s => K (tget s.tm 0) s.mem) vs (some ⟨[(0, v.ren (posN l))], packM l m' l⟩)) : CallA1 S g args m K := by
  refine CallA1.voids (CallA1.pack (h.mono ?_))
  rintro v m' ⟨l, vs, ⟨h1, h2⟩, h3, h4, h5⟩
  obtain ⟨⟨tm', m''⟩, h6, h7⟩ := wpV_ok h5
  exact ⟨l, h1, h2, h3, h4, tm', m'', h6, h7⟩

/-- A loop: what is left to do is told by what it comes to. -/
theorem loop_do {α : Type} {st : St} (l live : List Nat) (vs : List VStep) (μ : α → Nat) (f : α → St) (P : α → Prop) {b : ACode} (x0 : α) (hp : P x0)
    (h0 : (heads C.base 0 l = true ∧ distN l = true) ∧ packB l st.mem l = true ∧ liveB l st.tm live = true ∧ wpV (fun s => s = f x0) vs (some ⟨packTm l st.tm live, packM l st.mem l⟩))
    (hstep : ∀ (X : St → Prop) x, P x → (∀ y, P y → μ y < μ x → X (f y)) → wpA C b (thenQ (gcX C.base X) Q) (f x)) : wpA C (.loop b) Q st :=
  loop_rule μ f P x0 hp (gc_auto l live vs h0) hstep

theorem wpV_nil {X : St → Prop} {s : St} : wpV X [] (some s) = X s := rfl
theorem wpV_cons {X : St → Prop} {v : VStep} {r : List VStep} {s : St} : wpV X (v :: r) (some s) = wpV X r (vstep s v) := rfl

theorem lt_of_dec {i n : Nat} (h : decide ((i : Int) < (n : Int)) = true) : i < n := by simpa using h
theorem ge_of_dec {i n : Nat} (h : decide ((i : Int) < (n : Int)) = false) : n ≤ i := by simpa using h
theorem wrapS {i : Nat} (h : i < 4611686018427387904) : IntKind.i64.wrap ((i : Int) + 1) = ((i + 1 : Nat) : Int) := by rw [IntKind.wrap_i64]; omega

/-- A call's result is told in other words. -/
theorem CallA1.of {g : FuncId} {args : List AV} {m : Mem} {K K' : AV → Mem → Prop} (h : CallA1 S g args m K) (hk : ∀ v m', K v m' → K' v m') : CallA1 S g args m K' := h.mono hk

/-- The rules of packing. -/
theorem PD : type_of% (And.intro @flat_ins (And.intro @flat_rens (And.intro @flatE_in (And.intro @flatE_ren (And.intro @wpV_nil (And.intro @wpV_cons (And.intro Bool.and_self (And.intro @Bool.and_true (And.intro @Bool.true_and (And.intro @and_true (And.intro @List.all_cons.{0} (And.intro @List.all_nil.{0} (And.intro @List.all_append.{0} (And.intro @List.map_append.{0,0} (And.intro @Bool.or_true (And.intro @Bool.true_or (And.intro @Bool.or_false (And.intro @Bool.false_or (And.intro Bool.not_true (And.intro Bool.not_false (And.intro @true_and (And.intro @List.length_append.{0} (And.intro @List.length_map.{0,0} (@take_all)))))))))))))))))))))))) := And.intro @flat_ins (And.intro @flat_rens (And.intro @flatE_in (And.intro @flatE_ren (And.intro @wpV_nil (And.intro @wpV_cons (And.intro Bool.and_self (And.intro @Bool.and_true (And.intro @Bool.true_and (And.intro @and_true (And.intro @List.all_cons.{0} (And.intro @List.all_nil.{0} (And.intro @List.all_append.{0} (And.intro @List.map_append.{0,0} (And.intro @Bool.or_true (And.intro @Bool.true_or (And.intro @Bool.or_false (And.intro @Bool.false_or (And.intro Bool.not_true (And.intro Bool.not_false (And.intro @true_and (And.intro @List.length_append.{0} (And.intro @List.length_map.{0,0} (@take_all)))))))))))))))))))))))

end AH

/-
AH: functions of Go's package slices, once for all instances and memories.
-/
set_option linter.unusedSimpArgs false
namespace AH
open Go
variable {S : Sys}

open Classical in
/-- A call in a greater memory: it sees its slices as rows of their own, and leaves new blocks behind the old ones. -/
theorem CallA1.view {g : FuncId} {A args : List AV} {R : List (Nat × List (List AV))} {v : AV} {news : Mem} (he : S.errs ≠ []) (h : CallA1 S g A (rowsM R) fun r m' => r = v ∧ m' = rowsM R ++ news) (ws : List Nat) {m : Mem} {foot : List Nat}
    (hv : (v.inB (fun j => decide (R.length ≤ j)) = true ∧ news.all (blkIn fun j => decide (R.length ≤ j)) = true ∧ news.all rwB = true) ∧ vw (mget m) ws args 0 = some (A, R, foot)) :
    CallA1 S g args m fun r m' => r = v.ren (shift m.length R.length) ∧ m' = m ++ newOnes (shift m.length R.length) news := by
  obtain ⟨⟨h1, h2, h3⟩, h4⟩ := hv
  have key : CallF S g (utN ws fun a rows => if a = A ∧ rows = R then some (v, news) else none) := by
    refine utN_ok he fun a rows v' news' e => ?_
    split at e
    · rename_i q
      obtain ⟨rfl, rfl⟩ := q
      simp only [Option.some.injEq, Prod.mk.injEq] at e
      obtain ⟨rfl, rfl⟩ := e
      exact ⟨h1, h2, h3, h⟩
    · cases e
  refine key args m _ _ ?_
  simp only [utN, h4, useN, and_self, if_true, Option.map_some]

/-- The first number below n at which something holds, or -1. -/
def findI (p : Nat → Bool) (n : Nat) : Int := match (List.range n).find? p with
  | some i => i
  | none => -1

theorem findI_hit {p : Nat → Bool} {n i : Nat} (hi : i < n) (hp : p i = true) (h : ∀ j, j < i → p j = false) : findI p n = i := by
  have : (List.range n).find? p = some i := by
    rw [List.find?_range_eq_some]
    exact ⟨hp, by simpa using hi, fun j hj => by simp [h j hj]⟩
  simp only [findI, this]

theorem findI_none {p : Nat → Bool} {n : Nat} (h : ∀ j, j < n → p j = false) : findI p n = -1 := by
  have : (List.range n).find? p = none := by
    rw [List.find?_eq_none]
    intro x hx
    simp [h x (by simpa using hx)]
  simp only [findI, this]

theorem findI_cases (p : Nat → Bool) (n : Nat) : (findI p n = -1 ∧ ∀ j, j < n → p j = false) ∨ ∃ i : Nat, findI p n = i ∧ i < n ∧ p i = true ∧ ∀ j, j < i → p j = false := by
  cases hq : (List.range n).find? p with
  | none =>
    left
    rw [List.find?_eq_none] at hq
    refine ⟨by simp only [findI]; rw [(List.find?_eq_none.2 hq)], fun j hj => ?_⟩
    have := hq j (by simpa using hj)
    simpa using this
  | some i =>
    right
    have h2 := hq
    rw [List.find?_range_eq_some] at hq
    obtain ⟨h1, h3, h4⟩ := hq
    exact ⟨i, by simp only [findI, h2], by simpa using h3, h1, fun j hj => by simpa using h4 j hj⟩

/-- slices.IndexFunc. -/
def indexFuncF (agg : Bool) (ld k : Nat) : AFun := ⟨19, 2, [.tmp 4],
  (.seq
   (.reg [
     ⟨(some 4), none, .mov (.c (.int .i64 0))⟩])
   (.seq
    (.seq
     (.reg [
       ⟨(some 6), none, .mov (.t 0)⟩,
       ⟨(some 7), none, .len .sl (.t 6)⟩,
       ⟨(some 8), none, .mov (.c (.int .i64 0))⟩])
     (.block 0
      (.loop
       (.seq
        (.reg [
          ⟨(some 9), none, .ibin .lss (.t 8) (.t 7)⟩])
        (.seq
         (.cond (.t 9)
          .skip
          (.exit 0))
         (.seq
          (.block 1
           (.seq
            (.reg [
              ⟨(some 10), none, .mov (.t 8)⟩,
              ⟨(some 5), none, .mov (.t 10)⟩])
            (.seq
             (.reg [
               ⟨(some 11), none, .mov (.t 1)⟩,
               ⟨(some 12), none, .mov (.t 0)⟩,
               ⟨(some 13), none, .mov (.t 5)⟩,
               ⟨(some 14), none, .iaddrSl k (.t 12) (.t 13)⟩,
               ⟨(some 15), none, .load agg ld (.t 14)⟩,
               ⟨(some 16), none, .call (.t 11) [(.t 15)]⟩])
             (.cond (.t 16)
              (.seq
               (.reg [
                 ⟨(some 17), none, .mov (.t 5)⟩,
                 ⟨(some 4), none, .mov (.t 17)⟩])
               .ret)
              .skip))))
          (.reg [
            ⟨(some 18), none, .ibin .add (.t 8) (.c (.int .i64 1))⟩,
            ⟨(some 8), none, .mov (.t 18)⟩])))))))
    (.seq
     (.reg [
       ⟨(some 4), none, .mov (.c (.int .i64 (-1)))⟩])
     .ret)))⟩

theorem indexFunc_ok {g : FuncId} {fn : Func} {agg : Bool} {ld k : Nat} (hm : S.P.follows .mixedOrders = true) (hf : S.P.funcs[g]? = some fn) (hF : cFun S.P S.errs fn = some (indexFuncF agg ld k)) {m : Mem} {id ix n : Nat} {cap : Option Nat} {ro : Bool} {es : List (List AV)}
    (hrow : mget m id = some (.row ro k es)) (hle : ix + n ≤ es.length) (hld : ld ≤ k) (hn : n < 4611686018427387904) {fg : FuncId} {first capd : List AV} (p : Nat → Bool)
    (hcl : ∀ i, i < n → CallA1 S fg (first ++ [AH.part agg ld 0 (es.getD (ix + i) [])] ++ capd) m fun r m' => r = .bool (p i) ∧ m' = m) :
    CallA1 S g [.slc id ix n cap, .fn fg first capd] m fun r m' => r = .int .i64 (findI p n) ∧ m' = m := by
  have okC : CtxOK S (ctxU S [] []) := ctxU_ok trivial trivial hm
  refine fun_sound okC hf hF ?_
  unfold wpF indexFuncF
  simp only [AH.SD, AH.wpOp, AOp.call?, AOp.next?, bstep, AOp.map, Opd.ev, tget, argTm, evs, AV.cells, St.eff, St.put, applyWr, mset, terase, pureE, unAV, intOp, binAV, fill, mget, AH.rowAt, AH.part, retQ, rvs, retV, AH.splice, AH.sliceElems, AH.bytesOf, AH.strOp, AH.bound, AH.addLog, AH.missQ, AH.minmaxAV, AH.wpOpD, AH.readOf, AH.effOf, AH.mapAt, AH.iterAt, Nat.reduceBEq, Nat.reduceAdd, Nat.reduceLT, ↓reduceIte, Nat.reduceEqDiff, Nat.reduceLeDiff, Nat.reduceSub, Nat.reduceMul, Int.reduceSub, Int.reduceToNat, Int.reduceBEq, Int.reduceBNe, Int.reduceLT, Int.reduceGT, Int.reduceLE, Int.reduceGE, Int.reduceNeg, Int.reduceAdd]
  refine loop_rule (α := Nat) (fun i => n - i) (fun i => ⟨[(8, .int .i64 i), (7, .int .i64 n), (1, .fn fg first capd), (0, .slc id ix n cap)], m⟩) (fun i => i ≤ n ∧ ∀ j, j < i → p j = false) 0 ⟨Nat.zero_le _, fun j h => absurd h (Nat.not_lt_zero _)⟩
    (gc_keep (l := [(8, .int .i64 0), (7, .int .i64 n), (1, .fn fg first capd), (0, .slc id ix n cap)]) ⟨rfl, rfl, rfl, rfl, trivial⟩ rfl) ?_
  rintro X i ⟨hi, hb⟩ ih
  simp only [AH.SD, AH.wpOp, AOp.call?, AOp.next?, bstep, AOp.map, Opd.ev, tget, argTm, evs, AV.cells, St.eff, St.put, applyWr, mset, terase, pureE, unAV, intOp, binAV, fill, mget, AH.rowAt, AH.part, retQ, rvs, retV, AH.splice, AH.sliceElems, AH.bytesOf, AH.strOp, AH.bound, AH.addLog, AH.missQ, AH.minmaxAV, AH.wpOpD, AH.readOf, AH.effOf, AH.mapAt, AH.iterAt, Nat.reduceBEq, Nat.reduceAdd, Nat.reduceLT, ↓reduceIte, Nat.reduceEqDiff, Nat.reduceLeDiff, Nat.reduceSub, Nat.reduceMul, Int.reduceSub, Int.reduceToNat, Int.reduceBEq, Int.reduceBNe, Int.reduceLT, Int.reduceGT, Int.reduceLE, Int.reduceGE, Int.reduceNeg, Int.reduceAdd]
  refine ⟨fun hlt => ?_, fun hlt => ?_⟩
  · have hil := lt_of_dec hlt
    have hw := wrapS (i := i) (by omega)
    simp only [AH.SD, AH.wpOp, AOp.call?, AOp.next?, bstep, AOp.map, Opd.ev, tget, argTm, evs, AV.cells, St.eff, St.put, applyWr, mset, terase, pureE, unAV, intOp, binAV, fill, mget, AH.rowAt, AH.part, retQ, rvs, retV, AH.splice, AH.sliceElems, AH.bytesOf, AH.strOp, AH.bound, AH.addLog, AH.missQ, AH.minmaxAV, AH.wpOpD, AH.readOf, AH.effOf, AH.mapAt, AH.iterAt, Nat.reduceBEq, Nat.reduceAdd, Nat.reduceLT, ↓reduceIte, Nat.reduceEqDiff, Nat.reduceLeDiff, Nat.reduceSub, Nat.reduceMul, Int.reduceSub, Int.reduceToNat, Int.reduceBEq, Int.reduceBNe, Int.reduceLT, Int.reduceGT, Int.reduceLE, Int.reduceGE, Int.reduceNeg, Int.reduceAdd, hrow, Int.toNat_natCast]
    refine ⟨⟨by omega, by omega⟩, ⟨by omega, by simpa using hld⟩, ?_⟩
    refine (hcl i hil).mono ?_
    rintro r m' ⟨rfl, rfl⟩
    simp only [AH.SD, AH.wpOp, AOp.call?, AOp.next?, bstep, AOp.map, Opd.ev, tget, argTm, evs, AV.cells, St.eff, St.put, applyWr, mset, terase, pureE, unAV, intOp, binAV, fill, mget, AH.rowAt, AH.part, retQ, rvs, retV, AH.splice, AH.sliceElems, AH.bytesOf, AH.strOp, AH.bound, AH.addLog, AH.missQ, AH.minmaxAV, AH.wpOpD, AH.readOf, AH.effOf, AH.mapAt, AH.iterAt, Nat.reduceBEq, Nat.reduceAdd, Nat.reduceLT, ↓reduceIte, Nat.reduceEqDiff, Nat.reduceLeDiff, Nat.reduceSub, Nat.reduceMul, Int.reduceSub, Int.reduceToNat, Int.reduceBEq, Int.reduceBNe, Int.reduceLT, Int.reduceGT, Int.reduceLE, Int.reduceGE, Int.reduceNeg, Int.reduceAdd]
    cases hp : p i
    · simp only [AH.SD, AH.wpOp, AOp.call?, AOp.next?, bstep, AOp.map, Opd.ev, tget, argTm, evs, AV.cells, St.eff, St.put, applyWr, mset, terase, pureE, unAV, intOp, binAV, fill, mget, AH.rowAt, AH.part, retQ, rvs, retV, AH.splice, AH.sliceElems, AH.bytesOf, AH.strOp, AH.bound, AH.addLog, AH.missQ, AH.minmaxAV, AH.wpOpD, AH.readOf, AH.effOf, AH.mapAt, AH.iterAt, Nat.reduceBEq, Nat.reduceAdd, Nat.reduceLT, ↓reduceIte, Nat.reduceEqDiff, Nat.reduceLeDiff, Nat.reduceSub, Nat.reduceMul, Int.reduceSub, Int.reduceToNat, Int.reduceBEq, Int.reduceBNe, Int.reduceLT, Int.reduceGT, Int.reduceLE, Int.reduceGE, Int.reduceNeg, Int.reduceAdd, hw]
      refine gc_keep (l := [(8, .int .i64 ((i + 1 : Nat) : Int)), (7, .int .i64 n), (1, .fn fg first capd), (0, .slc id ix n cap)]) ⟨rfl, rfl, rfl, rfl, trivial⟩ ?_
      refine ih (i + 1) ⟨hil, fun j hj => ?_⟩ (by omega)
      by_cases hji : j = i
      · subst hji; exact hp
      · exact hb j (by omega)
    · simp only [AH.SD, AH.wpOp, AOp.call?, AOp.next?, bstep, AOp.map, Opd.ev, tget, argTm, evs, AV.cells, St.eff, St.put, applyWr, mset, terase, pureE, unAV, intOp, binAV, fill, mget, AH.rowAt, AH.part, retQ, rvs, retV, AH.splice, AH.sliceElems, AH.bytesOf, AH.strOp, AH.bound, AH.addLog, AH.missQ, AH.minmaxAV, AH.wpOpD, AH.readOf, AH.effOf, AH.mapAt, AH.iterAt, Nat.reduceBEq, Nat.reduceAdd, Nat.reduceLT, ↓reduceIte, Nat.reduceEqDiff, Nat.reduceLeDiff, Nat.reduceSub, Nat.reduceMul, Int.reduceSub, Int.reduceToNat, Int.reduceBEq, Int.reduceBNe, Int.reduceLT, Int.reduceGT, Int.reduceLE, Int.reduceGE, Int.reduceNeg, Int.reduceAdd]
      rw [findI_hit hil hp hb]
      exact ⟨rfl, trivial⟩
  · have hil := ge_of_dec hlt
    obtain rfl : i = n := by omega
    simp only [AH.SD, AH.wpOp, AOp.call?, AOp.next?, bstep, AOp.map, Opd.ev, tget, argTm, evs, AV.cells, St.eff, St.put, applyWr, mset, terase, pureE, unAV, intOp, binAV, fill, mget, AH.rowAt, AH.part, retQ, rvs, retV, AH.splice, AH.sliceElems, AH.bytesOf, AH.strOp, AH.bound, AH.addLog, AH.missQ, AH.minmaxAV, AH.wpOpD, AH.readOf, AH.effOf, AH.mapAt, AH.iterAt, Nat.reduceBEq, Nat.reduceAdd, Nat.reduceLT, ↓reduceIte, Nat.reduceEqDiff, Nat.reduceLeDiff, Nat.reduceSub, Nat.reduceMul, Int.reduceSub, Int.reduceToNat, Int.reduceBEq, Int.reduceBNe, Int.reduceLT, Int.reduceGT, Int.reduceLE, Int.reduceGE, Int.reduceNeg, Int.reduceAdd]
    rw [findI_none hb]
    exact ⟨rfl, trivial⟩

/-- slices.ContainsFunc. -/
def containsFuncF (idx : FuncId) : AFun := ⟨9, 2, [.tmp 4],
  (.seq
   (.reg [
     ⟨(some 4), none, .mov (.c (.bool false))⟩])
   (.seq
    (.reg [
      ⟨(some 5), none, .mov (.t 0)⟩,
      ⟨(some 6), none, .mov (.t 1)⟩,
      ⟨(some 7), none, .call (.c (.fn idx [] [])) [(.t 5), (.t 6)]⟩,
      ⟨(some 8), none, .ibin .geq (.t 7) (.c (.int .i64 0))⟩,
      ⟨(some 4), none, .mov (.t 8)⟩])
    .ret))⟩

theorem findI_ge (p : Nat → Bool) (n : Nat) : decide (findI p n ≥ 0) = (List.range n).any p := by
  rcases findI_cases p n with ⟨h, h2⟩ | ⟨i, h, h1, h2, _⟩
  · have : (List.range n).any p = false := by
      rw [List.any_eq_false]
      intro x hx
      simp [h2 x (by simpa using hx)]
    rw [h, this]; rfl
  · have : (List.range n).any p = true := List.any_eq_true.2 ⟨i, by simpa using h1, h2⟩
    rw [h, this]; simp

theorem containsFunc_ok {g idx : FuncId} {fn fi : Func} {agg : Bool} {ld k : Nat} (hm : S.P.follows .mixedOrders = true) (hf : S.P.funcs[g]? = some fn) (hF : cFun S.P S.errs fn = some (containsFuncF idx)) (hf2 : S.P.funcs[idx]? = some fi) (hF2 : cFun S.P S.errs fi = some (indexFuncF agg ld k))
    {m : Mem} {id ix n : Nat} {cap : Option Nat} {ro : Bool} {es : List (List AV)}
    (hrow : mget m id = some (.row ro k es)) (hle : ix + n ≤ es.length) (hld : ld ≤ k) (hn : n < 4611686018427387904) {fg : FuncId} {first capd : List AV} (p : Nat → Bool)
    (hcl : ∀ i, i < n → CallA1 S fg (first ++ [AH.part agg ld 0 (es.getD (ix + i) [])] ++ capd) m fun r m' => r = .bool (p i) ∧ m' = m) :
    CallA1 S g [.slc id ix n cap, .fn fg first capd] m fun r m' => r = .bool ((List.range n).any p) ∧ m' = m := by
  have okC : CtxOK S (ctxU S [] []) := ctxU_ok trivial trivial hm
  refine fun_sound okC hf hF ?_
  unfold wpF containsFuncF
  simp only [AH.SD, AH.wpOp, AOp.call?, AOp.next?, bstep, AOp.map, Opd.ev, tget, argTm, evs, AV.cells, St.eff, St.put, applyWr, mset, terase, pureE, unAV, intOp, binAV, fill, mget, AH.rowAt, AH.part, retQ, rvs, retV, AH.splice, AH.sliceElems, AH.bytesOf, AH.strOp, AH.bound, AH.addLog, AH.missQ, AH.minmaxAV, AH.wpOpD, AH.readOf, AH.effOf, AH.mapAt, AH.iterAt, Nat.reduceBEq, Nat.reduceAdd, Nat.reduceLT, ↓reduceIte, Nat.reduceEqDiff, Nat.reduceLeDiff, Nat.reduceSub, Nat.reduceMul, Int.reduceSub, Int.reduceToNat, Int.reduceBEq, Int.reduceBNe, Int.reduceLT, Int.reduceGT, Int.reduceLE, Int.reduceGE, Int.reduceNeg, Int.reduceAdd]
  refine (indexFunc_ok hm hf2 hF2 hrow hle hld hn p hcl).mono ?_
  rintro r m' ⟨rfl, rfl⟩
  simp only [AH.SD, AH.wpOp, AOp.call?, AOp.next?, bstep, AOp.map, Opd.ev, tget, argTm, evs, AV.cells, St.eff, St.put, applyWr, mset, terase, pureE, unAV, intOp, binAV, fill, mget, AH.rowAt, AH.part, retQ, rvs, retV, AH.splice, AH.sliceElems, AH.bytesOf, AH.strOp, AH.bound, AH.addLog, AH.missQ, AH.minmaxAV, AH.wpOpD, AH.readOf, AH.effOf, AH.mapAt, AH.iterAt, Nat.reduceBEq, Nat.reduceAdd, Nat.reduceLT, ↓reduceIte, Nat.reduceEqDiff, Nat.reduceLeDiff, Nat.reduceSub, Nat.reduceMul, Int.reduceSub, Int.reduceToNat, Int.reduceBEq, Int.reduceBNe, Int.reduceLT, Int.reduceGT, Int.reduceLE, Int.reduceGE, Int.reduceNeg, Int.reduceAdd, findI_ge]

end AH
