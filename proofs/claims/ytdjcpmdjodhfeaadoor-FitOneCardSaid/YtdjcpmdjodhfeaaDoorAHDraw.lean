import Derived.Test.YtdjcpmdjodhfeaaDoorAHSound
/-
AH: regions whose order is free.
-/
set_option linter.unusedSimpArgs false
namespace AH
open Go
variable {S : Sys} {eb : Nat → Addr} {own : Nat → Prop} {w0 w : World} {φ0 φ : Emb} {nt : Nat} {st : St} {a : Act} {K : St → Prop} {Q' : Exit → Act → World → Prop} {C : Ctx}

theorem pair_inj {α β : Type _} {a c : α} {b d : β} (h : some (a, b) = some (c, d)) : a = c ∧ b = d := by cases h; exact ⟨rfl, rfl⟩

theorem rowAt_same {M M' : Nat → Option Blk} {id : Nat} (h : M' id = M id) : rowAt M' id = rowAt M id := by unfold rowAt; rw [h]
theorem mapAt_same {M M' : Nat → Option Blk} {id : Nat} (h : M' id = M id) : mapAt M' id = mapAt M id := by unfold mapAt; rw [h]

theorem sliceElems_same {M M' : Nat → Option Blk} {k : Nat} {v : AV} {r : Prop × List Nat × List (List AV)} (h : sliceElems k M v = some r) (hm : ∀ id ∈ r.2.1, M' id = M id) : sliceElems k M' v = some r := by
  cases v <;> simp only [sliceElems, reduceCtorEq] at h ⊢
  case nils => exact h
  case slc id ix len cap =>
    split at h
    · rename_i ro kk es hrow
      split at h
      · rename_i hk
        simp only [Option.some.injEq] at h
        subst h
        rw [rowAt_same (hm id (by simp)), hrow]
        simp [hk]
      · cases h
    · cases h
  case isl id ix sub len =>
    split at h
    · rename_i ro kk es hrow
      split at h
      · rename_i hk
        simp only [Option.some.injEq] at h
        subst h
        rw [rowAt_same (hm id (by simp)), hrow]
        simp [hk]
      · cases h
    · cases h

set_option maxHeartbeats 8000000 in
theorem bstep_same {fresh : Nat} {M M' : Nat → Option Blk} {op : AOp AV} {p : Prop} {e : Eff} (h : bstep fresh M op = some (p, e)) (hm : ∀ id ∈ e.foot, M' id = M id) : bstep fresh M' op = some (p, e) := by
  have row : ∀ {id : Nat} {l : List Nat}, (∀ i ∈ id :: l, M' i = M i) → rowAt M' id = rowAt M id := fun h => rowAt_same (h _ (List.Mem.head _))
  have mp : ∀ {id : Nat} {l : List Nat}, (∀ i ∈ id :: l, M' i = M i) → mapAt M' id = mapAt M id := fun h => mapAt_same (h _ (List.Mem.head _))
  cases op <;> simp only [bstep] at h ⊢ <;> (try exact h)
  case load agg n x =>
    repeat' (split at h)
    all_goals (first | (cases h; done) | skip)
    obtain ⟨rfl, rfl⟩ := pair_inj h
    simp only [row hm, *]
  case store n x y =>
    repeat' (split at h)
    all_goals (first | (cases h; done) | skip)
    obtain ⟨rfl, rfl⟩ := pair_inj h
    simp only [row hm, *]
  case eq neg k lit x y =>
    split at h
    · rename_i r hr
      exact h
    · rename_i hr
      repeat' (split at h)
      all_goals (first | (cases h; done) | skip)
      rename_i hk
      obtain ⟨rfl, rfl⟩ := pair_inj h
      obtain ⟨hk1, rfl⟩ := hk
      simp only [row hm, *, and_self, if_true]
  case b2s x =>
    repeat' (split at h)
    all_goals (first | (cases h; done) | skip)
    rename_i hse _ _ hb
    obtain ⟨rfl, rfl⟩ := pair_inj h
    simp only [sliceElems_same hse hm, hb]
  case sliceArr n k x lo hi =>
    repeat' (split at h)
    all_goals (first | (cases h; done) | skip)
    obtain ⟨rfl, rfl⟩ := pair_inj h
    simp only [row hm, *, if_true]
  case slice k x lo hi mx =>
    repeat' (split at h)
    all_goals (first | (cases h; done) | skip)
    all_goals (obtain ⟨rfl, rfl⟩ := pair_inj h)
    all_goals (first | (simp only [row hm, *, if_true]; done) | rfl | (simp only [*, if_true]; done))
  case iaddrSl k x i =>
    repeat' (split at h)
    all_goals (first | (cases h; done) | skip)
    · obtain ⟨rfl, rfl⟩ := pair_inj h
      simp only [row hm, *, if_true]
    · rename_i hk
      simp only [hk, if_true]
      exact h
  case lookup kk z x k ok =>
    repeat' (split at h)
    all_goals (first | (cases h; done) | skip)
    all_goals (obtain ⟨rfl, rfl⟩ := pair_inj h)
    all_goals (first | (simp only [mp hm, *]; done) | rfl | (simp only [*]; done))
  case mapupd =>
    repeat' (split at h)
    all_goals (first | (cases h; done) | skip)
    all_goals (obtain ⟨rfl, rfl⟩ := pair_inj h)
    all_goals (first | (simp only [mp hm, *]; done) | rfl | (simp only [*]; done))
  case mentry =>
    repeat' (split at h)
    all_goals (first | (cases h; done) | skip)
    all_goals (obtain ⟨rfl, rfl⟩ := pair_inj h)
    all_goals (first | (simp only [mp hm, *]; done) | rfl | (simp only [*]; done))
  case estore =>
    repeat' (split at h)
    all_goals (first | (cases h; done) | skip)
    all_goals (obtain ⟨rfl, rfl⟩ := pair_inj h)
    all_goals (first | (simp only [mp hm, *]; done) | rfl | (simp only [*]; done))
  case mdel =>
    repeat' (split at h)
    all_goals (first | (cases h; done) | skip)
    all_goals (obtain ⟨rfl, rfl⟩ := pair_inj h)
    all_goals (first | (simp only [mp hm, *]; done) | (simp only [*]))
  case len k x =>
    repeat' (split at h)
    all_goals (first | (cases h; done) | skip)
    all_goals (first | exact h | skip)
    all_goals (obtain ⟨rfl, rfl⟩ := pair_inj h)
    all_goals (first | (simp only [mp hm, *]; done) | rfl | (simp only [*]; done))
  case append k bytes z x y =>
    split at h
    · rename_i q1 f1 xs q2 f2 ys hx hy
      have agree : (∀ id ∈ f1, M' id = M id) → (∀ id ∈ f2, M' id = M id) → sliceElems k M' x = some (q1, f1, xs) ∧ sliceElems k M' y = some (q2, f2, ys) := fun h1 h2 => ⟨sliceElems_same hx h1, sliceElems_same hy h2⟩
      split at h
      · simp only [sliceElems, Option.some.injEq, Prod.mk.injEq] at hx
        obtain ⟨_, rfl, _⟩ := hx
        have hm2 : ∀ id ∈ f2, M' id = M id := by
          obtain ⟨_, rfl⟩ := pair_inj h
          intro id hid
          refine hm id ?_
          split <;> simp [hid]
        obtain ⟨h1, h2⟩ := agree (by simp) hm2
        rw [h1, h2]
        exact h
      · rename_i id ix len cap
        have hm1 : (∀ id ∈ f1, M' id = M id) ∧ ∀ id ∈ f2, M' id = M id := by
          split at h
          · obtain ⟨_, rfl⟩ := pair_inj h
            refine ⟨fun id hid => hm id ?_, fun id hid => hm id ?_⟩ <;> split <;> simp [hid]
          · split at h
            · obtain ⟨_, rfl⟩ := pair_inj h
              exact ⟨fun id hid => hm id (by simp [hid]), fun id hid => hm id (by simp [hid])⟩
            · cases h
        obtain ⟨h1, h2⟩ := agree hm1.1 hm1.2
        rw [h1, h2]
        have hid : M' id = M id := by
          refine hm1.1 id ?_
          simp only [sliceElems] at hx
          repeat' (split at hx)
          all_goals (first | (cases hx; done) | skip)
          simp only [Option.some.injEq, Prod.mk.injEq] at hx
          obtain ⟨_, rfl, _⟩ := hx
          simp
        simp only [rowAt_same hid]
        exact h
      · cases h
    · cases h
  case copy k x y =>
    split at h
    · rename_i id ix len cap q g ys hy
      split at h
      · rename_i kk es hrow
        split at h
        · rename_i hk
          obtain ⟨rfl, rfl⟩ := pair_inj h
          simp only [sliceElems_same hy (fun i hi => hm i (by simp; exact .inr hi)), row hm, hrow, hk, if_true]
        · cases h
      · cases h
    · rename_i q g ys hy
      obtain ⟨rfl, rfl⟩ := pair_inj h
      simp only [sliceElems_same hy hm]
    · cases h


/-- A state as two functions. -/
structure FS where
  tm : Nat → AV
  M : Nat → Option Blk

def St.fs (st : St) : FS := ⟨tget st.tm, mget st.mem⟩

def Opd.evF (tm : Nat → AV) : Opd → AV
  | .t n => tm n
  | .c v => v

theorem evF_eq (st : St) : Opd.ev st.tm = Opd.evF st.fs.tm := by
  funext x
  cases x <;> rfl

def putF (tm : Nat → AV) (d : Option Nat) (v : AV) : Nat → AV := fun t => if d = some t then v else tm t

inductive Step where
  | skip
  | eff (fresh : Nat) (p : Prop) (e : Eff)
  | read (v : AV) (foot : List Nat)

structure Ent where
  ix : Nat
  ahead : List Nat
  o : AOper
  act : Step

def Ent.wr (x : Ent) : List Nat :=
  match x.act with
  | .eff _ _ e => e.wr.map Prod.fst
  | _ => []

def Ent.foot (x : Ent) : List Nat :=
  match x.act with
  | .eff _ _ e => e.wr.map Prod.fst ++ e.foot
  | .read _ f => f
  | .skip => []

def readF (C : Ctx) (M : Nat → Option Blk) (args : List AV) : AV → Option (AV × List Nat)
  | .fn g first cap => C.read g (first ++ args ++ cap) M
  | _ => none

def guardRuns (o : AOper) (tm : Nat → AV) : Prop := ∀ t want, o.guard = some (t, want) → tm t = .bool want
def guardSkips (o : AOper) (tm : Nat → AV) : Prop := ∃ t want, o.guard = some (t, want) ∧ (tm t = .bool (!want) ∨ tm t = .tup [])

def Ent.ok (C : Ctx) (x : Ent) (s : FS) : Prop :=
  match x.act with
  | .skip => guardSkips x.o s.tm
  | .eff fresh p e => guardRuns x.o s.tm ∧ x.o.op.call? = none ∧ bstep fresh s.M (x.o.op.map (Opd.evF s.tm)) = some (p, e) ∧ p ∧ okFresh fresh e = true
  | .read v foot => guardRuns x.o s.tm ∧ ∃ f args, x.o.op.call? = some (f, args) ∧ readF C s.M (args.map (Opd.evF s.tm)) (f.evF s.tm) = some (v, foot)

def Ent.next (x : Ent) (s : FS) : FS :=
  match x.act with
  | .skip => ⟨putF s.tm x.o.dst (.tup []), s.M⟩
  | .eff _ _ e => ⟨putF s.tm x.o.dst e.val, applyF s.M e.wr⟩
  | .read v _ => ⟨putF s.tm x.o.dst v, s.M⟩

def RunT (C : Ctx) : List Ent → FS → FS → Prop
  | [], s, s' => s = s'
  | x :: L, s, s' => x.ok C s ∧ RunT C L (x.next s) s'

def Indep (x y : Ent) : Prop := x.o.apartT y.o = true ∧ noCommon x.wr y.foot = true ∧ noCommon y.wr x.foot = true

theorem noCommon_spec : ∀ {a b : List Nat}, noCommon a b = true → ∀ i ∈ a, i ∉ b
  | [], _, _, _, h => by cases h
  | x :: a, b, h, i, hi => by
    simp only [noCommon, Bool.and_eq_true, Bool.not_eq_true', List.contains_eq_mem, decide_eq_false_iff_not] at h
    rcases List.mem_cons.1 hi with rfl | hi
    · exact h.1
    · exact noCommon_spec h.2 i hi

theorem applyF_other : ∀ (wr : List (Nat × Option Blk)) (M : Nat → Option Blk) (i : Nat), i ∉ wr.map Prod.fst → applyF M wr i = M i
  | [], _, _, _ => rfl
  | (j, b) :: r, M, i, h => by
    simp only [List.map_cons, List.mem_cons, not_or] at h
    rw [applyF, applyF_other r _ i h.2]
    simp [h.1]

theorem applyF_at : ∀ (wr : List (Nat × Option Blk)) (M M' : Nat → Option Blk) (i : Nat), i ∈ wr.map Prod.fst → applyF M wr i = applyF M' wr i
  | [], _, _, _, h => by cases h
  | (j, b) :: r, M, M', i, h => by
    simp only [applyF]
    by_cases hr : i ∈ r.map Prod.fst
    · exact applyF_at r _ _ i hr
    · rw [applyF_other r _ i hr, applyF_other r _ i hr]
      simp only [List.map_cons, List.mem_cons] at h
      have : i = j := h.resolve_right hr
      simp [this]

theorem applyF_comm (w1 w2 : List (Nat × Option Blk)) (M : Nat → Option Blk) (h : ∀ i ∈ w1.map Prod.fst, i ∉ w2.map Prod.fst) : applyF (applyF M w1) w2 = applyF (applyF M w2) w1 := by
  funext i
  by_cases h1 : i ∈ w1.map Prod.fst
  · rw [applyF_other w2 _ i (h i h1)]
    exact applyF_at w1 _ _ i h1
  · rw [applyF_other w1 (applyF M w2) i h1]
    by_cases h2 : i ∈ w2.map Prod.fst
    · exact applyF_at w2 _ _ i h2
    · rw [applyF_other w2 _ i h2, applyF_other w2 _ i h2, applyF_other w1 _ i h1]

theorem putF_comm (tm : Nat → AV) {d e : Option Nat} (u v : AV) (h : ∀ t, d = some t → e ≠ some t) : putF (putF tm d u) e v = putF (putF tm e v) d u := by
  funext t
  simp only [putF]
  by_cases hd : d = some t
  · simp [hd, h t hd]
  · by_cases he : e = some t <;> simp [hd, he]

theorem apartT_spec {x y : AOper} (h : x.apartT y = true) : (∀ t, x.dst = some t → t ∉ y.looks) ∧ (∀ t, y.dst = some t → t ∉ x.looks) ∧ ∀ t, x.dst = some t → y.dst ≠ some t := by
  unfold AOper.apartT at h
  split at h <;> simp_all <;> exact fun q => h.2 q.symm

theorem opd_same {tm tm' : Nat → AV} {x : Opd} (h : ∀ t ∈ opdT x, tm' t = tm t) : x.evF tm' = x.evF tm := by
  cases x with
  | t n => exact h n (by simp [opdT])
  | c v => rfl

theorem optE_same {tm tm' : Nat → AV} {x : Option Opd} (h : ∀ t ∈ optT x, tm' t = tm t) : x.map (Opd.evF tm') = x.map (Opd.evF tm) := by
  cases x with
  | none => rfl
  | some x => simp only [Option.map_some, Option.some.injEq]; exact opd_same h

theorem opds_same {tm tm' : Nat → AV} {l : List Opd} (h : ∀ t ∈ (l.map opdT).flatten, tm' t = tm t) : l.map (Opd.evF tm') = l.map (Opd.evF tm) := by
  refine List.map_congr_left fun x hx => opd_same fun t ht => h t ?_
  exact List.mem_flatten.2 ⟨_, List.mem_map.2 ⟨x, hx, rfl⟩, ht⟩

theorem parts_same {tm tm' : Nat → AV} {l : List (Nat × Nat × Opd)} (h : ∀ t ∈ (l.map fun p => opdT p.2.2).flatten, tm' t = tm t) :
    (l.map fun p => (p.1, p.2.1, p.2.2.evF tm')) = l.map fun p => (p.1, p.2.1, p.2.2.evF tm) := by
  refine List.map_congr_left fun x hx => ?_
  rw [opd_same fun t ht => h t (List.mem_flatten.2 ⟨_, List.mem_map.2 ⟨x, hx, rfl⟩, ht⟩)]

theorem map_same {tm tm' : Nat → AV} {op : AOp Opd} (h : ∀ t ∈ op.uses, tm' t = tm t) : op.map (Opd.evF tm') = op.map (Opd.evF tm) := by
  have two : ∀ {a b : List Nat}, (∀ t ∈ a ++ b, tm' t = tm t) → (∀ t ∈ a, tm' t = tm t) ∧ ∀ t ∈ b, tm' t = tm t := fun h => ⟨fun t ht => h t (by simp [ht]), fun t ht => h t (by simp [ht])⟩
  cases op <;> simp only [AOp.uses] at h <;> simp only [AOp.map]
  case pick => simp only [opd_same (two (two h).1).1, opd_same (two (two h).1).2, opd_same (two h).2]
  case build => simp only [parts_same h]
  case bslice => simp only [parts_same h]
  case mkfn => simp only [opds_same (two h).1, opds_same (two h).2]
  case sliceArr => simp only [opd_same (two (two h).1).1, optE_same (two (two h).1).2, optE_same (two h).2]
  case sliceStr => simp only [opd_same (two (two h).1).1, optE_same (two (two h).1).2, optE_same (two h).2]
  case slice => simp only [opd_same (two (two (two h).1).1).1, optE_same (two (two (two h).1).1).2, optE_same (two (two h).1).2, optE_same (two h).2]
  case mapupd => simp only [opd_same (two (two h).1).1, opd_same (two (two h).1).2, opd_same (two h).2]
  case estore => simp only [opd_same (two (two h).1).1, opd_same (two (two h).1).2, opd_same (two h).2]
  case minmax => simp only [opds_same h]
  case call => simp only [opd_same (two h).1, opds_same (two h).2]
  all_goals first
    | rfl
    | (simp only [opd_same h]; done)
    | (simp only [opd_same (two h).1, opd_same (two h).2]; done)


theorem Ent.wr_foot (x : Ent) : ∀ i ∈ x.wr, i ∈ x.foot := by
  intro i hi
  unfold Ent.wr at hi
  unfold Ent.foot
  split at hi
  · rename_i h; rw [h]; simp only [List.mem_append]; exact .inl hi
  · cases hi

theorem Ent.next_tm (x : Ent) (s : FS) : ∃ v, (x.next s).tm = putF s.tm x.o.dst v := by
  unfold Ent.next; split <;> exact ⟨_, rfl⟩

theorem Ent.next_M (x : Ent) (s : FS) (i : Nat) (h : i ∉ x.wr) : (x.next s).M i = s.M i := by
  unfold Ent.next Ent.wr at *
  split <;> simp_all
  exact applyF_other _ _ _ (by simpa using h)

theorem looks_guard {o : AOper} {t : Nat} {want : Bool} (h : o.guard = some (t, want)) : t ∈ o.looks := by simp [AOper.looks, h]
theorem looks_uses {o : AOper} {t : Nat} (h : t ∈ o.op.uses) : t ∈ o.looks := by
  unfold AOper.looks
  split
  · exact List.mem_cons_of_mem _ h
  · exact h

theorem runs_same {o : AOper} {tm tm' : Nat → AV} (h : ∀ t ∈ o.looks, tm' t = tm t) (g : guardRuns o tm) : guardRuns o tm' := fun t want e => by rw [h t (looks_guard e)]; exact g t want e
theorem skips_same {o : AOper} {tm tm' : Nat → AV} (h : ∀ t ∈ o.looks, tm' t = tm t) : guardSkips o tm → guardSkips o tm'
  | ⟨t, want, e, g⟩ => ⟨t, want, e, by rw [h t (looks_guard e)]; exact g⟩

theorem call_uses {op : AOp Opd} {f : Opd} {args : List Opd} (h : op.call? = some (f, args)) : op = .call f args := by
  cases op <;> simp [AOp.call?] at h
  obtain ⟨rfl, rfl⟩ := h; rfl

/-- What the calls' table says holds wherever what it looked at is the same. -/
def ReadLoc (C : Ctx) : Prop := ∀ g args M v foot, C.read g args M = some (v, foot) → ∀ M', (∀ id ∈ foot, M' id = M id) → C.read g args M' = some (v, foot)

theorem readF_same (hL : ReadLoc C) {M M' : Nat → Option Blk} {args : List AV} {f : AV} {v : AV} {foot : List Nat} (h : readF C M args f = some (v, foot)) (hm : ∀ id ∈ foot, M' id = M id) : readF C M' args f = some (v, foot) := by
  cases f <;> simp only [readF, reduceCtorEq] at h ⊢
  exact hL _ _ _ _ _ h _ hm

theorem Ent.ok_same (hL : ReadLoc C) {x : Ent} {s s' : FS} (h : x.ok C s) (ht : ∀ t ∈ x.o.looks, s'.tm t = s.tm t) (hm : ∀ i ∈ x.foot, s'.M i = s.M i) : x.ok C s' := by
  unfold Ent.ok at *
  unfold Ent.foot at hm
  split
  · rename_i he
    simp only [he] at h
    exact skips_same ht h
  · rename_i fresh p e he
    simp only [he] at h hm
    obtain ⟨h1, h2, h3, h4, h5⟩ := h
    refine ⟨runs_same ht h1, h2, ?_, h4, h5⟩
    rw [map_same fun t hu => ht t (looks_uses hu)]
    exact bstep_same h3 fun id hid => hm id (by simp [hid])
  · rename_i v foot he
    simp only [he] at h hm
    obtain ⟨h1, f, args, h2, h3⟩ := h
    refine ⟨runs_same ht h1, f, args, h2, ?_⟩
    have hu := call_uses h2
    have hus : ∀ t ∈ opdT f ++ (args.map opdT).flatten, s'.tm t = s.tm t := fun t hu' => ht t (looks_uses (by rw [hu]; exact hu'))
    rw [opd_same fun t hu' => hus t (by simp [hu']), opds_same fun t hu' => hus t (by rw [List.mem_append]; exact .inr hu')]
    exact readF_same hL h3 hm

/-- Two that may come in either order. -/
theorem swap (hL : ReadLoc C) {x y : Ent} {s : FS} (hi : Indep x y) (hx : x.ok C s) (hy : y.ok C (x.next s)) : y.ok C s ∧ x.ok C (y.next s) ∧ x.next (y.next s) = y.next (x.next s) := by
  obtain ⟨h1, h2, h3⟩ := hi
  obtain ⟨a1, a2, a3⟩ := apartT_spec h1
  have b2 := noCommon_spec h2
  have b3 := noCommon_spec h3
  obtain ⟨vx, ex⟩ := x.next_tm s
  obtain ⟨vy, ey⟩ := y.next_tm s
  refine ⟨Ent.ok_same hL hy (fun t ht => ?_) (fun i hi => ?_), Ent.ok_same hL hx (fun t ht => ?_) (fun i hi => ?_), ?_⟩
  · rw [ex, putF, if_neg fun q => a1 t q ht]
  · exact (x.next_M s i fun q => b2 i q hi).symm
  · rw [ey, putF, if_neg fun q => a2 t q ht]
  · exact y.next_M s i fun q => b3 i q hi
  · have hw : ∀ i ∈ x.wr, i ∉ y.wr := fun i hi q => b2 i hi (y.wr_foot i q)
    cases hxa : x.act <;> cases hya : y.act <;> simp only [Ent.next, hxa, hya, FS.mk.injEq] <;> refine ⟨(putF_comm _ _ _ fun t q => a3 t q).symm, ?_⟩ <;> (try rfl)
    all_goals first
      | trivial
      | (refine (applyF_comm _ _ _ ?_).symm; simpa only [Ent.wr, hxa, hya] using hw)

theorem move_first (hL : ReadLoc C) {y : Ent} {s' : FS} {L2 : List Ent} : ∀ {L1 : List Ent} {s : FS}, (∀ x ∈ L1, Indep x y) → RunT C (L1 ++ y :: L2) s s' → RunT C (y :: (L1 ++ L2)) s s'
  | [], s, _, h => h
  | x :: L1, s, hi, h => by
    obtain ⟨h1, h2⟩ := h
    obtain ⟨h3, h4⟩ := move_first hL (fun z hz => hi z (by simp [hz])) h2
    obtain ⟨g1, g2, g3⟩ := swap hL (hi x (by simp)) h1 h3
    exact ⟨g1, g2, by rw [g3]; exact h4⟩

def Ent.new (x : Ent) : Option Nat :=
  match x.act with
  | .eff fresh _ e => if (e.wr.map Prod.fst).contains fresh then some fresh else none
  | _ => none

/-- How two functions stand for the machine's state. -/
structure RelF (S : Sys) (eb : Nat → Addr) (own : Nat → Prop) (w0 : World) (φ0 : Emb) (nt : Nat) (φ : Emb) (s : FS) (a : Act) (w : World) : Prop where
  ext : φ0.Ext φ
  size : a.tmps.size = nt
  defers : a.defers = []
  tm : ∀ t, VR S.errT eb φ (s.tm t) (a.tmps.getD t undef)
  mr : MR S.errT eb φ s.M own w
  keeps : Keeps own w0 w

theorem RelF.put {s : FS} (h : RelF S eb own w0 φ0 nt φ s a w) {φ' : Emb} {w' : World} {M' : Nat → Option Blk} (he : φ.Ext φ') (hm : MR S.errT eb φ' M' own w') (hk : Keeps own w0 w')
    {d : Option Nat} (hd : d.all (· < nt) = true) {v : AV} {u : Value} (hv : VR S.errT eb φ' v u) : RelF S eb own w0 φ0 nt φ' ⟨putF s.tm d v, M'⟩ (a.put d u) w' := by
  refine ⟨h.ext.trans he, ?_, ?_, ?_, hm, hk⟩
  · cases d <;> simp [Act.put, h.size]
  · cases d <;> simp [Act.put, h.defers]
  · intro t
    simp only [putF]
    cases d with
    | none => simpa [Act.put] using (h.tm t).mono he
    | some d =>
      simp only [Option.all_some, decide_eq_true_eq] at hd
      by_cases hdt : d = t
      · subst hdt
        have hlt : d < a.tmps.size := by rw [h.size]; exact hd
        simpa [Act.put, hlt] using hv
      · have := (h.tm t).mono he
        simp only [Option.some.injEq, hdt, if_false]
        simpa [Act.put, Array.getElem?_setIfInBounds_ne hdt] using this

theorem RelF.eval {s : FS} (h : RelF S eb own w0 φ0 nt φ s a w) : Rho S eb φ a.eval (Opd.evF s.tm) := by
  intro x cx hx
  cases x with
  | tmp t => simp only [cOpd, Option.some.injEq] at hx; subst hx; exact h.tm t
  | const v =>
    simp only [cOpd, Option.map_eq_some_iff] at hx
    obtain ⟨v', hv, rfl⟩ := hx
    exact ofValue_vr hv
  | global g => simp [cOpd] at hx
  | func g => simp only [cOpd, Option.some.injEq] at hx; subst hx; exact .fn g [] [] #[] #[] .nil .nil


/-- An entry runs on the machine. -/
theorem ent_run (hA : Amb S eb own w0) (hC : ReadA S C.read) {ops : Array Oper} {x : Ent} {o : Oper} (ho : ops[x.ix]? = some o) (hc : cOper S.P S.errs nt ops o = some x.o) {s : FS} (h : RelF S eb own w0 φ0 nt φ s a w)
    (hok : x.ok C s) (hnew : ∀ f, x.new = some f → ¬ φ.dom f) {N : Act → World → Prop}
    (hN : ∀ φ' a' w', RelF S eb own w0 φ0 nt φ' (x.next s) a' w' → (∀ id, φ'.dom id → φ.dom id ∨ x.new = some id) → N a' w') : Go.wpOp S.P ops Q' x.ix N a w := by
  obtain ⟨h1, h2, h3, h4⟩ := cOper_inv hc
  have hruns : guardRuns x.o s.tm → Region.wanted o (yielded ops a.tmps) = true := by
    intro hg
    rcases h4 with ⟨g1, g2⟩ | ⟨j, want, d, oj, g1, g2, g3, g4⟩
    · simp [Region.wanted, g1]
    · have vd := h.tm d
      rw [hg d want g2] at vd
      simp [Region.wanted, g1, yielded_bool g3 g4 (vr_bool vd)]
  unfold Go.wpOp
  simp only [ho]
  unfold Ent.ok at hok
  split at hok
  · -- skipped
    rename_i he
    obtain ⟨t, want, hg, hv⟩ := hok
    rcases h4 with ⟨g1, g2⟩ | ⟨j, want', d, oj, g1, g2, g3, g4⟩
    · rw [g2] at hg; cases hg
    · rw [g2] at hg
      cases hg
      have vd := h.tm t
      have hw : Region.wanted o (yielded ops a.tmps) = false := by
        rcases hv with hv | hv
        · rw [hv] at vd
          simp [Region.wanted, g1, yielded_bool g3 g4 (vr_bool vd)]
        · rw [hv] at vd
          simp [Region.wanted, g1, yielded_unit g3 g4 (vr_tup0 vd)]
      simp only [hw, Bool.false_eq_true, if_false]
      refine hN φ _ _ ?_ (fun _ hid => .inl hid)
      have := h.put (.refl φ) h.mr h.keeps h3 (v := .tup []) (u := undef) (.tup [] #[] .nil)
      simpa [Ent.next, he, h2] using this
  · rename_i fresh p e he
    obtain ⟨g1, g2, g3, g4, g5⟩ := hok
    simp only [hruns g1, if_true]
    left
    have hk : ∀ b, w.heap.size ≤ b → own b := fun b hb => h.keeps.new b (Nat.le_trans h.keeps.size hb)
    have hAw : ∀ g ∈ S.errs, ∃ et fr, w.heap[g]? = some (.cells #[.iface S.errT (.pointer (some (eb g)))] et fr) := by
      intro g hg
      obtain ⟨et, fr, q1⟩ := hA.at_ g hg
      exact ⟨et, fr, by rw [h.keeps.kept g (Array.getElem?_eq_some_iff.1 q1).1 (hA.out g hg)]; exact q1⟩
    have hfresh : fresh ∈ e.foot → ¬ φ.dom fresh := fun hf => by
      refine hnew fresh ?_
      simp only [okFresh, Bool.or_eq_true, Bool.not_eq_true', List.contains_eq_mem, decide_eq_false_iff_not] at g5
      have := g5.resolve_left (fun q => q hf)
      simp only [Ent.new, he]
      rw [if_pos (by simpa using this)]
    obtain ⟨u, φ', w', r1, r2, r3, r4, r5, r6⟩ := op_sound h1 h.eval (fun _ => rfl) (fun _ => rfl) h.mr hk hAw hfresh g3 g4
    have hres : N (a.put o.dst u) w' := by
      refine hN φ' _ _ ?_ ?_
      · have := h.put r5 r3 (h.keeps.step r4) h3 r2
        simpa [Ent.next, he, h2] using this
      · intro id hid
        rcases r6 id hid with q | ⟨rfl, q⟩
        · exact .inl q
        · right
          simp only [Ent.new, he]
          rw [if_pos (by simpa using q)]
    unfold Oper.wp
    rcases r1 with r1 | ⟨r1, rfl⟩
    · rw [r1]; exact hres
    · rw [r1]; exact hres
  · rename_i v foot he
    obtain ⟨g1, f, args, g2, g3⟩ := hok
    simp only [hruns g1, if_true]
    left
    have hop := call_uses g2
    rw [hop] at h1
    obtain ⟨g, xs, ts, ho', hg, hxs⟩ := op_call h1
    have vg := h.eval g f hg
    have hargs : VRs S.errT eb φ (args.map (Opd.evF s.tm)) (xs.toList.map a.eval) := opds_vrs h.eval hxs
    generalize f.evF s.tm = fv at vg g3
    cases fv <;> simp only [readF, reduceCtorEq] at g3
    rename_i gi first cap
    obtain ⟨fs, cs, hgv, q1, q2⟩ := vr_fn vg
    have hv : VRs S.errT eb φ (first ++ args.map (Opd.evF s.tm) ++ cap) (fs ++ xs.map a.eval ++ cs).toList := by
      simp only [Array.toList_append, Array.toList_map]
      exact (q1.append hargs).append q2
    have hr := (hC gi _ _ _ _ g3).2 eb φ own w0 w _ hA hv h.mr h.keeps
    refine upon_of_uponV ?_
    rw [exec_call ho' hgv]
    refine UponV.mono ?_ hr
    rintro u w' ⟨k1, k2, k3⟩
    refine hN φ _ _ ?_ (fun _ hid => .inl hid)
    have := h.put (.refl φ) k2 k3 h3 k1
    simpa [Ent.next, he, h2] using this

def PairR (x y : Ent) : Prop := (x.ix ∈ y.ahead ∨ Indep x y) ∧ x.ix < y.ix ∧ ∀ f, x.new = some f → y.new ≠ some f

theorem closedB_spec {ops : Array Oper} {ix : List (List Nat)} (h : closedB ops ix = true) {i : Nat} {o : Oper} (ho : ops[i]? = some o) : (∀ j ∈ onOf o, j < i) ∧ ∀ j ∈ ix.getD i [], j ∈ onOf o ∨ ∃ k ∈ onOf o, j ∈ ix.getD k [] := by
  simp only [closedB, List.all_eq_true, List.mem_range, Bool.and_eq_true] at h
  obtain ⟨h1, h2⟩ := h i (Array.getElem?_eq_some_iff.1 ho).1
  simp only [ho, Option.map_some, Option.getD_some, decide_eq_true_eq, Bool.or_eq_true, List.contains_eq_mem, List.any_eq_true] at h1 h2
  exact ⟨h1, h2⟩

theorem on_listed {o : Oper} {listed : Array Bool} (h : ∀ e ∈ o.after, Region.binds .any e = true → listed.getD e.on false = true) : ∀ j ∈ onOf o, listed.getD j false = true := by
  intro j hj
  simp only [onOf, List.mem_map, List.mem_filter, Array.mem_toList_iff] at hj
  obtain ⟨e, ⟨he, hb⟩, rfl⟩ := hj
  exact h e he hb

theorem any_sound (hA : Amb S eb own w0) (hC : ReadA S C.read) (hL : ReadLoc C) {ops : Array Oper} {ix : List (List Nat)} (hcl : closedB ops ix = true) {sN : FS} {B : Nat} (hQ : ∀ φ' a' w', RelF S eb own w0 φ0 nt φ' sN a' w' → (∀ id, φ'.dom id → id < B) → Q' .normal a' w') :
    ∀ (n : Nat) (L : List Ent) (listed : Array Bool) (φ : Emb) (s : FS) (a : Act) (w : World), L.length = n → listed.size = ops.size → (∀ i, i < ops.size → (listed.getD i true = false ↔ ∃ x ∈ L, x.ix = i)) →
      L.Pairwise PairR → (∀ x ∈ L, ∃ o, ops[x.ix]? = some o ∧ cOper S.P S.errs nt ops o = some x.o ∧ x.ahead = ix.getD x.ix []) →
      (∀ i, listed.getD i false = true → ∀ j ∈ ix.getD i [], listed.getD j false = true) →
      (∀ x ∈ L, ∀ f, x.new = some f → ¬ φ.dom f) → (∀ id, φ.dom id → id < B) → (∀ x ∈ L, ∀ f, x.new = some f → f < B) → RunT C L s sN → RelF S eb own w0 φ0 nt φ s a w → wpAny S.P .any ops Q' n listed a w := by
  intro n
  induction n with
  | zero =>
    intro L listed φ s a w hlen hsz hcov hp hx hclosed hnew hdb hnb hrun hr
    have hL0 : L = [] := List.eq_nil_of_length_eq_zero hlen
    subst hL0
    have hs : s = sN := hrun
    subst hs
    refine ⟨?_, hQ φ a w hr hdb⟩
    refine List.eq_nil_iff_forall_not_mem.2 fun i hi => ?_
    obtain ⟨h1, o, ho, _⟩ := mem_ready.1 hi
    obtain ⟨x, hx', _⟩ := (hcov i (Array.getElem?_eq_some_iff.1 ho).1).1 h1
    cases hx'
  | succ n ih =>
    intro L listed φ s a w hlen hsz hcov hp hx hclosed hnew hdb hnb hrun hr
    refine ⟨fun hnil => ?_, fun i hi => ?_⟩
    · exfalso
      cases L with
      | nil => simp at hlen
      | cons x L' =>
        obtain ⟨o, ho, _, _⟩ := hx x (by simp)
        have hlt := (Array.getElem?_eq_some_iff.1 ho).1
        have hun := (hcov x.ix hlt).2 ⟨x, by simp, rfl⟩
        have : x.ix ∈ Region.ready .any ops listed := by
          refine mem_ready.2 ⟨hun, o, ho, fun e he hb => ?_⟩
          have hjlt := (closedB_spec hcl ho).1 e.on (by simp only [onOf, List.mem_map, List.mem_filter, Array.mem_toList_iff]; exact ⟨e, ⟨he, hb⟩, rfl⟩)
          cases hq : listed.getD e.on false with
          | true => rfl
          | false =>
            exfalso
            have hq' : listed.getD e.on true = false := by
              have hlt' : e.on < listed.size := by omega
              simp [hlt'] at hq ⊢
              exact hq
            obtain ⟨y, hy, hyi⟩ := (hcov e.on (by omega)).1 hq'
            rcases List.mem_cons.1 hy with rfl | hy
            · omega
            · have := ((List.pairwise_cons.1 hp).1 y hy).2.1
              omega
        rw [hnil] at this
        cases this
    · obtain ⟨hun, o, ho, hall⟩ := mem_ready.1 hi
      have hon := on_listed hall
      have hlt := (Array.getElem?_eq_some_iff.1 ho).1
      obtain ⟨x, hxL, hxi⟩ := (hcov i hlt).1 hun
      subst hxi
      obtain ⟨o', ho', hco, hah⟩ := hx x hxL
      rw [ho] at ho'
      cases ho'
      have hahead : ∀ j ∈ x.ahead, listed.getD j false = true := by
        intro j hj
        rw [hah] at hj
        rcases (closedB_spec hcl ho).2 j hj with q | ⟨k, hk, q⟩
        · exact hon j q
        · exact hclosed k (hon k hk) j q
      obtain ⟨L1, L2, rfl⟩ := List.append_of_mem hxL
      rw [List.pairwise_append] at hp
      obtain ⟨hp1, hp2, hp3⟩ := hp
      rw [List.pairwise_cons] at hp2
      have hunl : ∀ z ∈ L1 ++ x :: L2, listed.getD z.ix false = false := by
        intro z hz
        obtain ⟨oz, hoz, _⟩ := hx z hz
        have hzl := (Array.getElem?_eq_some_iff.1 hoz).1
        have := (hcov z.ix hzl).2 ⟨z, hz, rfl⟩
        have hzl' : z.ix < listed.size := by omega
        simp [hzl'] at this ⊢
        exact this
      have hind : ∀ z ∈ L1, Indep z x := by
        intro z hz
        rcases (hp3 z hz x (by simp)).1 with q | q
        · have := hahead _ q
          rw [hunl z (by simp [hz])] at this
          cases this
        · exact q
      obtain ⟨hok, hrest⟩ := move_first hL hind hrun
      refine ent_run hA hC ho hco hr hok (hnew x hxL) fun φ' a' w' hr' hdom => ?_
      have hset : ∀ z ∈ L1 ++ L2, z.ix ≠ x.ix := by
        intro z hz
        rcases List.mem_append.1 hz with q | q
        · have := (hp3 z q x (by simp)).2.1; omega
        · have := (hp2.1 z q).2.1; omega
      refine ih (L1 ++ L2) _ φ' _ a' w' ?_ (by simp [hsz]) ?_ ?_ ?_ ?_ ?_ ?_ ?_ hrest hr'
      · simp at hlen ⊢; omega
      · intro i hi'
        by_cases hii : x.ix = i
        · subst hii
          constructor
          · intro q
            have hlt' : x.ix < listed.size := by omega
            simp [hlt'] at q
          · rintro ⟨z, hz, hzi⟩
            exact absurd hzi (hset z hz)
        · rw [getD_set_ne true hii, hcov i hi']
          constructor
          · rintro ⟨z, hz, hzi⟩
            refine ⟨z, ?_, hzi⟩
            simp only [List.mem_append, List.mem_cons] at hz ⊢
            rcases hz with q | rfl | q
            · exact .inl q
            · exact absurd hzi hii
            · exact .inr q
          · rintro ⟨z, hz, hzi⟩
            refine ⟨z, ?_, hzi⟩
            simp only [List.mem_append, List.mem_cons] at hz ⊢
            rcases hz with q | q
            · exact .inl q
            · exact .inr (.inr q)
      · rw [List.pairwise_append]
        exact ⟨hp1, hp2.2, fun z hz y hy => hp3 z hz y (by simp [hy])⟩
      · intro z hz
        exact hx z (by simp only [List.mem_append, List.mem_cons] at hz ⊢; rcases hz with q | q <;> simp [q])
      · intro i hi' j hj
        by_cases hii : x.ix = i
        · subst hii
          rw [← hah] at hj
          exact getD_set_true (hahead j hj)
        · rw [getD_set_ne false hii] at hi'
          exact getD_set_true (hclosed i hi' j hj)
      · intro z hz f hf hd
        rcases hdom f hd with q | q
        · exact hnew z (by simp only [List.mem_append, List.mem_cons] at hz ⊢; rcases hz with q | q <;> simp [q]) f hf q
        · rcases List.mem_append.1 hz with hz | hz
          · exact (hp3 z hz x (by simp)).2.2 f hf q
          · exact (hp2.1 z hz).2.2 f q hf
      · intro id hid
        rcases hdom id hid with q | q
        · exact hdb id q
        · exact hnb x hxL id q
      · intro z hz
        exact hnb z (by simp only [List.mem_append, List.mem_cons] at hz ⊢; rcases hz with q | q <;> simp [q])


theorem okLog_spec {ahead foot wr : List Nat} : ∀ {lg : Log}, okLog ahead foot wr lg = true → ∀ j f w, (j, f, w) ∈ lg → j ∈ ahead ∨ (noCommon w foot = true ∧ noCommon wr f = true)
  | [], _, _, _, _, h => by cases h
  | (j', f', w') :: r, h, j, f, w, hm => by
    simp only [okLog, Bool.and_eq_true, Bool.or_eq_true, List.contains_eq_mem, decide_eq_true_eq] at h
    rcases List.mem_cons.1 hm with q | q
    · cases q; exact h.1
    · exact okLog_spec h.2 j f w q

theorem noCommon_nil (l : List Nat) : noCommon [] l = true := rfl
theorem noCommon_nil' : ∀ l : List Nat, noCommon l [] = true
  | [] => rfl
  | a :: l => by simp [noCommon, noCommon_nil' l]

theorem put_fs (st : St) (d : Option Nat) (v : AV) : (st.put d v).fs = ⟨putF st.fs.tm d v, st.fs.M⟩ := by
  simp only [St.fs, FS.mk.injEq]
  refine ⟨?_, by cases d <;> rfl⟩
  funext t
  exact tget_put st d v t

theorem eff_fs (st : St) (d : Option Nat) (e : Eff) : (st.eff d e).fs = ⟨putF st.fs.tm d e.val, applyF st.fs.M e.wr⟩ := by
  rw [St.eff, put_fs]
  simp only [St.fs, mget_applyWr]

theorem evs_map (st : St) : ∀ args : List Opd, evs st.tm args = args.map (Opd.evF st.fs.tm)
  | [] => rfl
  | x :: r => by
    simp only [evs, List.map_cons, evs_map st r]
    rw [evF_eq]

/-- What is logged of the steps so far. -/
def LogOf (lg : Log) (L : List Ent) : Prop := ∀ x ∈ L, (x.foot = [] ∧ x.wr = []) ∨ (x.ix, x.foot, x.wr) ∈ lg

theorem stepEff_of {i : Nat} {ahead : List Nat} {lg : Log} {o : AOper} {st : St} {K2 : Log → St → Prop} (hg : guardRuns o st.fs.tm) (h : wpOpD C i ahead lg o.dst o.op st K2) :
    ∃ (x : Ent) (st1 : St) (lg1 : Log), x.ix = i ∧ x.ahead = ahead ∧ x.o = o ∧ x.ok C st.fs ∧ st1.fs = x.next st.fs ∧ K2 lg1 st1 ∧ ((lg1 = lg ∧ x.foot = [] ∧ x.wr = []) ∨ (lg1 = addLog i x.foot x.wr lg ∧ okLog ahead x.foot x.wr lg = true)) ∧
      st.mem.length ≤ st1.mem.length ∧ ∀ f, x.new = some f → f = st.mem.length ∧ f < st1.mem.length := by
  unfold wpOpD at h
  split at h
  · rename_i f args hcall
    unfold wpRead at h
    split at h
    · rename_i v foot hr
      obtain ⟨h1, h2⟩ := h
      refine ⟨⟨i, ahead, o, .read v foot⟩, _, _, rfl, rfl, rfl, ⟨hg, f, args, hcall, ?_⟩, put_fs st o.dst v, h2, .inr ⟨rfl, h1⟩, ?_, ?_⟩
      · rw [evF_eq, evs_map] at hr
        generalize Opd.evF st.fs.tm f = fv at hr
        cases fv <;> simp only [readOf, reduceCtorEq] at hr
        simpa only [readF, St.fs] using hr
      · cases o.dst <;> exact Nat.le_refl _
      · intro f hf; simp [Ent.new] at hf
    · exact h.elim
  · rename_i hcall
    unfold wpEffD at h
    split at h
    · rename_i p e hs
      obtain ⟨h1, h2, h3, h4⟩ := h
      obtain ⟨g1, g2⟩ := applyWr_length e.wr st.mem
      have hml : (st.eff o.dst e).mem = applyWr st.mem e.wr := by cases hq : o.dst <;> simp [St.eff, St.put]
      refine ⟨⟨i, ahead, o, .eff st.mem.length p e⟩, _, _, rfl, rfl, rfl, ⟨hg, ?_, ?_, h1, h2⟩, eff_fs st o.dst e, h4, .inr ⟨rfl, h3⟩, ?_, ?_⟩
      · exact hcall
      · rw [evF_eq] at hs; exact hs
      · rw [hml]; exact g1
      · intro f hf
        simp only [Ent.new] at hf
        split at hf
        · rename_i hc
          cases hf
          rw [hml]
          exact ⟨rfl, g2 _ (by simpa using hc)⟩
        · cases hf
    · exact h.elim

theorem step_of {i : Nat} {ahead : List Nat} {lg : Log} {o : AOper} {st : St} {K2 : Log → St → Prop} (h : match o.guard with
    | none => wpOpD C i ahead lg o.dst o.op st K2
    | some (t, want) => wpGD C i ahead lg o st K2 want (tget st.tm t)) :
    ∃ (x : Ent) (st1 : St) (lg1 : Log), x.ix = i ∧ x.ahead = ahead ∧ x.o = o ∧ x.ok C st.fs ∧ st1.fs = x.next st.fs ∧ K2 lg1 st1 ∧ ((lg1 = lg ∧ x.foot = [] ∧ x.wr = []) ∨ (lg1 = addLog i x.foot x.wr lg ∧ okLog ahead x.foot x.wr lg = true)) ∧
      st.mem.length ≤ st1.mem.length ∧ ∀ f, x.new = some f → f = st.mem.length ∧ f < st1.mem.length := by
  have skip : guardSkips o st.fs.tm → K2 lg (st.put o.dst (.tup [])) → ∃ (x : Ent) (st1 : St) (lg1 : Log), x.ix = i ∧ x.ahead = ahead ∧ x.o = o ∧ x.ok C st.fs ∧ st1.fs = x.next st.fs ∧ K2 lg1 st1 ∧ ((lg1 = lg ∧ x.foot = [] ∧ x.wr = []) ∨ (lg1 = addLog i x.foot x.wr lg ∧ okLog ahead x.foot x.wr lg = true)) ∧
      st.mem.length ≤ st1.mem.length ∧ ∀ f, x.new = some f → f = st.mem.length ∧ f < st1.mem.length := fun hs hk =>
    ⟨⟨i, ahead, o, .skip⟩, _, _, rfl, rfl, rfl, hs, put_fs st o.dst (.tup []), hk, .inl ⟨rfl, rfl, rfl⟩, by cases o.dst <;> exact Nat.le_refl _, by intro f hf; simp [Ent.new] at hf⟩
  split at h
  · rename_i hg
    exact stepEff_of (fun t want e => by rw [hg] at e; cases e) h
  · rename_i t want hg
    generalize hv : tget st.tm t = v at h
    unfold wpGD at h
    split at h
    · rename_i b
      by_cases hb : b = want
      · exact stepEff_of (fun t' want' e => by rw [hg] at e; cases e; rw [← hb]; exact hv) (h.1 hb)
      · have hb' : b = !want := by cases b <;> cases want <;> simp_all
        exact skip ⟨t, want, hg, .inl (by rw [← hb']; exact hv)⟩ (h.2 hb')
    · exact skip ⟨t, want, hg, .inr hv⟩ h
    · exact h.elim

theorem trace_of {ix : List (List Nat)} : ∀ (al : List AOper) (ixs : List (List Nat)) (i : Nat) (lg : Log) (st : St) (L0 : List Ent), wpDs C K i al ixs lg st → apartAll i al ixs = true →
    (∀ j, ixs[j]? = ix[i + j]?) → LogOf lg L0 → (∀ x ∈ L0, x.ix < i) → (∀ x ∈ L0, ∀ f, x.new = some f → f < st.mem.length) →
    (∀ x ∈ L0, apartFrom x.ix x.o al ixs = true) →
    ∃ (L : List Ent) (st' : St), L.map (·.o) = al ∧ L.map (·.ix) = List.range' i al.length ∧ (∀ x ∈ L, x.ahead = ix.getD x.ix []) ∧ K st' ∧ RunT C L st.fs st'.fs ∧ L.Pairwise PairR ∧ (∀ x ∈ L0, ∀ y ∈ L, PairR x y) ∧
      (∀ x ∈ L, ∀ f, x.new = some f → st.mem.length ≤ f ∧ f < st'.mem.length) ∧ st.mem.length ≤ st'.mem.length
  | [], [], i, lg, st, L0, h, _, _, _, _, _, _ => ⟨[], st, rfl, rfl, by simp, h, rfl, .nil, by simp, by simp, Nat.le_refl _⟩
  | [], _ :: _, i, lg, st, L0, h, _, _, _, _, _, _ => h.elim
  | _ :: _, [], i, lg, st, L0, h, _, _, _, _, _, _ => h.elim
  | o :: r, a :: ixs, i, lg, st, L0, h, hap, hix, hlog, hlt, hnew, hfrom => by
    simp only [wpDs] at h
    obtain ⟨x, st1, lg1, e1, e2, e3, hok, hnext, hK2, hlg, hmem, hxnew⟩ := step_of h
    simp only [apartAll, Bool.and_eq_true] at hap
    have hpair : ∀ z ∈ L0, PairR z x := by
      intro z hz
      have hf := hfrom z hz
      simp only [apartFrom, Bool.and_eq_true, Bool.or_eq_true, List.contains_eq_mem, decide_eq_true_eq] at hf
      refine ⟨?_, by rw [e1]; exact hlt z hz, fun f hf' hx' => ?_⟩
      · rw [e2]
        rcases hf.1 with q | q
        · exact .inl q
        · rcases hlog z hz with ⟨z1, z2⟩ | z1
          · right
            refine ⟨by rw [e3]; exact q, by rw [z2]; exact noCommon_nil _, by rw [z1]; exact noCommon_nil' _⟩
          · rcases hlg with ⟨_, x1, x2⟩ | ⟨_, hok2⟩
            · right
              exact ⟨by rw [e3]; exact q, by rw [x1]; exact noCommon_nil' _, by rw [x2]; exact noCommon_nil _⟩
            · rcases okLog_spec hok2 _ _ _ z1 with q2 | ⟨q2, q3⟩
              · exact .inl q2
              · exact .inr ⟨by rw [e3]; exact q, q2, q3⟩
      · have := hnew z hz f hf'
        have := (hxnew f hx').1
        omega
    have h0 : ix[i]? = some a := by have := hix 0; simpa using this.symm
    obtain ⟨L, st', r1, r2, r3, r4, r5, r6, r7, r8, r9⟩ := trace_of r ixs (i + 1) lg1 st1 (L0 ++ [x]) hK2 hap.2 (fun j => by have := hix (j + 1); rw [List.getElem?_cons_succ] at this; rw [this]; congr 1; omega)
      (by
        intro z hz
        rcases List.mem_append.1 hz with hz | hz
        · rcases hlog z hz with q | q
          · exact .inl q
          · rcases hlg with ⟨q2, _⟩ | ⟨q2, _⟩
            · rw [q2]; exact .inr q
            · rw [q2]
              right
              unfold addLog
              split
              · exact q
              · exact List.mem_cons_of_mem _ q
        · simp only [List.mem_singleton] at hz
          subst hz
          rcases hlg with ⟨_, q2⟩ | ⟨q2, _⟩
          · exact .inl q2
          · rw [q2, e1]
            cases hft : z.foot with
            | nil =>
              left
              refine ⟨rfl, List.eq_nil_iff_forall_not_mem.2 fun i hi => ?_⟩
              have := z.wr_foot i hi
              rw [hft] at this
              cases this
            | cons a l => exact .inr (List.Mem.head _))
      (by
        intro z hz
        rcases List.mem_append.1 hz with hz | hz
        · have := hlt z hz; omega
        · simp only [List.mem_singleton] at hz; subst hz; omega)
      (by
        intro z hz f hf
        rcases List.mem_append.1 hz with hz | hz
        · have := hnew z hz f hf; omega
        · simp only [List.mem_singleton] at hz; subst hz; exact (hxnew f hf).2)
      (by
        intro z hz
        rcases List.mem_append.1 hz with hz | hz
        · have hf := hfrom z hz
          simp only [apartFrom, Bool.and_eq_true] at hf
          exact hf.2
        · simp only [List.mem_singleton] at hz; subst hz; rw [e1, e3]; exact hap.1)
    refine ⟨x :: L, st', by simp [e3, r1], by simp [e1, r2, List.range'_succ], ?_, r4, ⟨hok, by rw [← hnext]; exact r5⟩, ?_, ?_, ?_, by omega⟩
    · intro z hz
      rcases List.mem_cons.1 hz with rfl | hz
      · rw [e2, e1]; simp [List.getD, h0]
      · exact r3 z hz
    · exact List.pairwise_cons.2 ⟨fun y hy => r7 x (by simp) y hy, r6⟩
    · intro z hz y hy
      rcases List.mem_cons.1 hy with rfl | hy
      · exact hpair z hz
      · exact r7 z (by simp [hz]) y hy
    · intro z hz f hf
      rcases List.mem_cons.1 hz with rfl | hz
      · have := hxnew f hf; omega
      · have := r8 z hz f hf; omega

/-- A region of free order. -/
theorem drawW (hm : S.P.follows .mixedOrders = true) (hA : Amb S eb own w0) (hC : ReadA S C.read) {ops : Array Oper} {al : List AOper} (hal : ops.toList.mapM (cOper S.P S.errs nt ops) = some al) (hcl : closedB ops (aheadOf ops) = true)
    (hap : apartAll 0 al (aheadOf ops) = true) (hw : wpDs C K 0 al (aheadOf ops) [] st) (hr : Rel S eb own w0 φ0 nt st a w) (hK : ∀ st a w, K st → Rel S eb own w0 φ0 nt st a w → Q' .normal a w) {id : Nat} :
    (Code.region id ops true).wp S.P Q' a w := by
  obtain ⟨φ, h⟩ := hr
  obtain ⟨L, st', r1, r2, r3, r4, r5, r6, _, r8, r9⟩ := trace_of (ix := aheadOf ops) al (aheadOf ops) 0 [] st [] hw hap (by simp) (by intro x hx; cases hx) (by simp) (by simp) (by simp)
  obtain ⟨hlen, hget⟩ := mapM_get hal
  have hLlen : L.length = ops.size := by rw [← List.length_map (f := (·.o)), r1, ← hlen]; simp
  have hixs : ∀ (j : Nat) (x : Ent), L[j]? = some x → x.ix = j ∧ al[j]? = some x.o := by
    intro j x hx
    have h1 : (L.map (·.ix))[j]? = some x.ix := by simp [hx]
    have h2 : (L.map (·.o))[j]? = some x.o := by simp [hx]
    have hj : j < L.length := (List.getElem?_eq_some_iff.1 hx).1
    rw [r2] at h1
    rw [r1] at h2
    have : al.length = L.length := by rw [← r1]; simp
    rw [List.getElem?_range' (by omega)] at h1
    simp at h1
    exact ⟨h1.symm, h2⟩
  refine wp_region_any hm ?_
  have hrel : RelF S eb own w0 φ0 nt φ st.fs a { w with drawn := w.drawn + 1 } :=
    ⟨h.ext, h.size, h.defers, h.tm, h.mr.of_heap rfl, h.keeps.step ⟨rfl, rfl, rfl, Nat.le_refl _, fun _ _ _ => rfl⟩⟩
  have hL : ReadLoc C := fun g args M v foot hh => (hC g args M v foot hh).1
  refine any_sound (B := st'.mem.length) hA hC hL hcl (sN := st'.fs) ?_ ops.size L _ φ st.fs a _ hLlen (by simp) ?_ r6 ?_ ?_ ?_ ?_ ?_ r5 hrel
  · intro φ' a' w' hr' hb
    exact hK st' a' w' r4 ⟨φ', hr'.ext, hr'.size, hr'.defers, hr'.tm, hr'.mr, hr'.keeps, hb⟩
  · intro i hi
    constructor
    · intro _
      have hi' : i < L.length := by omega
      exact ⟨L[i], List.getElem_mem _, (hixs i L[i] (by simp [hi'])).1⟩
    · intro _
      simp [hi]
  · intro x hx
    obtain ⟨j, hj⟩ := List.getElem?_of_mem hx
    obtain ⟨h1, h2⟩ := hixs j x hj
    have hjl : j < ops.size := by rw [← hLlen]; exact (List.getElem?_eq_some_iff.1 hj).1
    have ho : ops.toList[j]? = some ops[j] := by simp [hjl]
    exact ⟨ops[j], by rw [h1]; simp [hjl], hget j _ _ ho h2, r3 x hx⟩
  · intro i hi
    exfalso
    simp only [Array.getD_eq_getD_getElem?, Array.getElem?_replicate] at hi
    split at hi <;> simp at hi
  · intro x hx f hf hd
    have := h.bdd f hd
    have := (r8 x hx f hf).1
    omega
  · intro id hid
    exact Nat.lt_of_lt_of_le (h.bdd id hid) r9
  · intro x hx f hf
    exact (r8 x hx f hf).2

end AH
