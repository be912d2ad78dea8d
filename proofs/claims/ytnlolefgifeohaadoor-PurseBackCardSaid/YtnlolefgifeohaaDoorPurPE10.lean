import Derived.Test.YtnlolefgifeohaaDoorFVGE10
import Derived.Test.YtnlolefgifeohaaDoorAHd
open Go AH
set_option linter.unusedSimpArgs false
namespace Go.Proofs.YtnlolefgifeohaaDoor.E10
/- Purses, in plain words. -/
structure Pu where
  f : Int
  h : Int
deriving DecidableEq
def Pu.cells (p : Pu) : List AV := [.int .i64 p.f, .int .i64 p.h]
def Pu.av (p : Pu) : AV := .agg [.int .i64 p.f, .int .i64 p.h]
def decPu : List AV → Option Pu
  | [.int .i64 a, .int .i64 b] => some ⟨a, b⟩
  | _ => none
theorem decPu_ok (l : List AV) (v : Pu) (h : decPu l = some v) : l = v.cells := by
  unfold decPu at h
  split at h
  · simp only [Option.some.injEq] at h; subst h; rfl
  · cases h
def cPu : Cod Pu := ⟨Pu.cells, decPu, decPu_ok, fun _ => rfl, fun _ => rfl⟩
def aPu : Arg Pu := aA cPu
theorem pu_in (p : Nat → Bool) (L : List (En Pu)) : ((L.map (enA Pu.av)).all fun e => AV.inB p e.1 && AV.inB p e.2.1) = true := enX_in aPu p L
theorem pu_ren (ρ : Nat → Nat) (L : List (En Pu)) : (L.map (enA Pu.av)).map (fun e => (AV.ren ρ e.1, AV.ren ρ e.2.1, e.2.2)) = L.map (enA Pu.av) := enX_ren aPu ρ L
def puR (M : Nat → Option Blk) (p : Nat) (b : Option Blk) : Option (Mp Pu × List (Nat × Bool)) := mpR aPu M p b
def puB (p b : Nat) (o : Option Blk) : Option (Mp Pu × List (Nat × Bool)) := mpB aPu p b o
def puO : AH.Obj (Mp Pu) := mpO aPu
def puM (t : Mp Pu) : Mem := [some (.row false 1 [[.map 1]]), some (.map (t.L.map (enA Pu.av)) t.c)]
theorem puO_dec {M : Nat → Option Blk} {p : Nat} : puO.dec M (.ptr p 0 0) = puR M p (M p) := rfl
theorem puR_eq {M : Nat → Option Blk} {p b : Nat} : puR M p (some (.row false 1 [[.map b]])) = puB p b (M b) := rfl
theorem puB_eq {p b c : Nat} {L : List (En Pu)} (hne : p ≠ b) : puB p b (some (.map (L.map (enA Pu.av)) c)) = some (⟨L, c⟩, [(p, false), (b, false)]) := mpB_eq hne

def puQ : Option (Nat × En Pu) → Pu
  | some x => x.2.v
  | none => ⟨0, 0⟩
def ofP (t : Mp Pu) (id : Int) : Pu := puQ (enF id t.L 0)
def w64p (x y : Int) : Int := IntKind.i64.wrap (x + y)
def mvQ (t : Mp Pu) (id f h : Int) : Option (Nat × En Pu) → Mp Pu
  | some x => ⟨t.L.set x.1 ⟨id, ⟨IntKind.i64.wrap (x.2.v.f + f), IntKind.i64.wrap (x.2.v.h + h)⟩, x.2.s⟩, t.c⟩
  | none => ⟨t.L ++ [⟨id, ⟨IntKind.i64.wrap (0 + f), IntKind.i64.wrap (0 + h)⟩, t.c⟩], t.c + 1⟩
def mvP (t : Mp Pu) (id f h : Int) : Mp Pu := mvQ t id f h (enF id t.L 0)
def puV (e : En Pu) : Int := e.v.f + e.v.h
def sumP (L : List (En Pu)) : Int := (L.map puV).sum
/-- How much a book may hold. -/
abbrev maxCr : Int := 1125899906842624
structure Pk (t : Mp Pu) : Prop where
  wf : t.wf
  pos : ∀ e ∈ t.L, 0 ≤ e.v.f ∧ 0 ≤ e.v.h
  max : sumP t.L ≤ 1125899906842624
  key : ∀ e ∈ t.L, -9223372036854775808 ≤ e.k ∧ e.k ≤ 9223372036854775807
noncomputable instance (t : Mp Pu) : Decidable (Pk t) := Classical.propDecidable _

theorem sum_nonneg : ∀ {L : List (En Pu)}, (∀ e ∈ L, 0 ≤ e.v.f ∧ 0 ≤ e.v.h) → 0 ≤ sumP L
  | [], _ => Int.le_refl _
  | e :: r, h => by
    have h1 := h e (List.mem_cons_self ..)
    have h2 := sum_nonneg fun x hx => h x (List.mem_cons_of_mem _ hx)
    simp only [sumP, List.map_cons, List.sum_cons, puV] at *
    omega
theorem sumP_app (a b : List (En Pu)) : sumP (a ++ b) = sumP a + sumP b := by
  simp only [sumP, List.map_append, List.sum_append]
theorem sumP_perm {a b : List (En Pu)} (h : a.Perm b) : sumP a = sumP b := by
  unfold sumP
  induction h with
  | nil => rfl
  | cons x _ ih => simp only [List.map_cons, List.sum_cons, ih]
  | swap x y l => simp only [List.map_cons, List.sum_cons]; omega
  | trans _ _ h1 h2 => exact h1.trans h2
theorem sum_le : ∀ {L : List (En Pu)}, (∀ e ∈ L, 0 ≤ e.v.f ∧ 0 ≤ e.v.h) → ∀ {e : En Pu}, e ∈ L → puV e ≤ sumP L
  | x :: r, h, e, he => by
    have h0 := sum_nonneg (L := r) fun x hx => h x (List.mem_cons_of_mem _ hx)
    have h1 := h x (List.mem_cons_self ..)
    rcases List.mem_cons.1 he with rfl | he
    · simp only [sumP, List.map_cons, List.sum_cons, puV] at *; omega
    · have := sum_le (fun x hx => h x (List.mem_cons_of_mem _ hx)) he
      simp only [sumP, List.map_cons, List.sum_cons, puV] at *; omega
theorem sum_set : ∀ {L : List (En Pu)} {i : Nat} {e x : En Pu}, L[i]? = some e → sumP (L.set i x) = sumP L - puV e + puV x
  | y :: r, 0, e, x, h => by
    simp only [List.getElem?_cons_zero, Option.some.injEq] at h; subst h
    simp only [List.set_cons_zero, sumP, List.map_cons, List.sum_cons]; omega
  | y :: r, i + 1, e, x, h => by
    simp only [List.getElem?_cons_succ] at h
    have := sum_set (x := x) h
    simp only [List.set_cons_succ, sumP, List.map_cons, List.sum_cons] at *; omega

/-- A part of a list has no more than all. -/
theorem gsum_nonneg {α : Type} (g : α → Int) : ∀ {L : List α}, (∀ e ∈ L, 0 ≤ g e) → 0 ≤ (L.map g).sum
  | [], _ => Int.le_refl _
  | e :: r, h => by
    have h1 := h e (List.mem_cons_self ..)
    have h2 := gsum_nonneg g fun x hx => h x (List.mem_cons_of_mem _ hx)
    simp only [List.map_cons, List.sum_cons]
    omega
theorem gsum_sub {α : Type} (g : α → Int) : ∀ {S L : List α}, S.Nodup → (∀ e ∈ S, e ∈ L) → (∀ e ∈ L, 0 ≤ g e) → (S.map g).sum ≤ (L.map g).sum
  | [], L, _, _, h => gsum_nonneg g h
  | x :: S, L, hn, hs, h => by
    obtain ⟨a, b, rfl⟩ := List.append_of_mem (hs x (List.mem_cons_self ..))
    rw [List.nodup_cons] at hn
    have h1 : ∀ e ∈ S, e ∈ a ++ b := fun e he => by
      have hx : e ≠ x := fun q => hn.1 (q ▸ he)
      have := hs e (List.mem_cons_of_mem _ he)
      simp only [List.mem_append, List.mem_cons] at this ⊢
      rcases this with q | q | q
      · exact .inl q
      · exact absurd q hx
      · exact .inr q
    have h2 := gsum_sub g hn.2 h1 fun e he => h e (by
      simp only [List.mem_append, List.mem_cons] at he ⊢
      rcases he with q | q
      · exact .inl q
      · exact .inr (.inr q))
    simp only [List.map_append, List.map_cons, List.sum_append, List.sum_cons] at *
    omega
theorem gsum_perm {α : Type} (g : α → Int) {a b : List α} (h : a.Perm b) : (a.map g).sum = (b.map g).sum := by
  induction h with
  | nil => rfl
  | cons x _ ih => simp only [List.map_cons, List.sum_cons, ih]
  | swap x y l => simp only [List.map_cons, List.sum_cons]; omega
  | trans _ _ h1 h2 => exact h1.trans h2
theorem sum_sub {S L : List (En Pu)} (hn : S.Nodup) (hs : ∀ e ∈ S, e ∈ L) (h : ∀ e ∈ L, 0 ≤ e.v.f ∧ 0 ≤ e.v.h) : sumP S ≤ sumP L :=
  gsum_sub puV hn hs fun e he => by have := h e he; simp only [puV]; omega
theorem sum_part {L S : List (En Pu)} (hp : Part L S) (h : ∀ e ∈ L, 0 ≤ e.v.f ∧ 0 ≤ e.v.h) : 0 ≤ sumP S ∧ sumP S ≤ sumP L :=
  ⟨sum_nonneg fun e he => h e (hp.sub e he), sum_sub (nodup_of_map _ hp.nd) hp.sub h⟩

theorem ofP_in {t : Mp Pu} (h : Pk t) (id : Int) : 0 ≤ (ofP t id).f ∧ 0 ≤ (ofP t id).h ∧ (ofP t id).f + (ofP t id).h ≤ sumP t.L := by
  unfold ofP
  cases hq : enF id t.L 0 with
  | none => have := sum_nonneg h.pos; exact ⟨Int.le_refl _, Int.le_refl _, by simpa [puQ] using this⟩
  | some x =>
    obtain ⟨i, e⟩ := x
    obtain ⟨_, h2, _⟩ := enF_some hq
    rw [Nat.sub_zero] at h2
    have hm := List.mem_of_getElem? h2
    exact ⟨(h.pos e hm).1, (h.pos e hm).2, sum_le h.pos hm⟩

theorem wr_small {n : Int} (h1 : -9223372036854775808 ≤ n) (h2 : n ≤ 9223372036854775807) : IntKind.i64.wrap n = n := by rw [IntKind.wrap_i64]; omega

theorem puQ_map (o : Option (Nat × En Pu)) : puQ o = (o.map (·.2.v)).getD ⟨0, 0⟩ := by cases o <;> rfl

/-- Some moves: what is there behind. -/
theorem mv_of (t : Mp Pu) (id f h k : Int) : ofP (mvP t id f h) k = if k = id then ⟨IntKind.i64.wrap ((ofP t id).f + f), IntKind.i64.wrap ((ofP t id).h + h)⟩ else ofP t k := by
  unfold mvP
  cases hq : enF id t.L 0 with
  | none =>
    simp only [mvQ, ofP, puQ_map]
    rw [enF_app _ _ _ _ hq]
    by_cases q : k = id
    · subst q; simp only [if_true, hq, Option.getD_some, Option.map_none, Option.getD_none]
    · simp only [q, if_false]
  | some x =>
    obtain ⟨i, e⟩ := x
    simp only [mvQ, ofP, puQ_map]
    rw [enF_set hq]
    by_cases q : k = id
    · subst q; simp only [if_true, hq, Option.getD_some, Option.map_some]
    · simp only [q, if_false]
theorem mv_sum {t : Mp Pu} {id f h : Int} (ht : Pk t) (hf : 0 ≤ (ofP t id).f + f) (hh : 0 ≤ (ofP t id).h + h) (hm : sumP t.L + f + h ≤ 1125899906842624) (hk1 : -9223372036854775808 ≤ id) (hk2 : id ≤ 9223372036854775807) :
    Pk (mvP t id f h) ∧ sumP (mvP t id f h).L = sumP t.L + f + h ∧ (mvP t id f h).L.length ≤ t.L.length + 1 := by
  have hs0 := sum_nonneg ht.pos
  have hmax := ht.max
  obtain ⟨o1, o2, o3⟩ := ofP_in ht id
  unfold mvP
  cases hq : enF id t.L 0 with
  | none =>
    simp only [ofP, hq, puQ] at hf hh o1 o2 o3
    have w1 : IntKind.i64.wrap (0 + f) = f := by rw [IntKind.wrap_i64]; omega
    have w2 : IntKind.i64.wrap (0 + h) = h := by rw [IntKind.wrap_i64]; omega
    have hs : sumP (t.L ++ [⟨id, ⟨f, h⟩, t.c⟩]) = sumP t.L + f + h := by rw [sumP_app]; simp only [sumP, List.map_cons, List.map_nil, List.sum_cons, List.sum_nil, puV]; omega
    simp only [mvQ, w1, w2]
    refine ⟨⟨ht.wf.snoc hq _, fun e he => ?_, by rw [hs]; omega, fun e he => ?_⟩, hs, by simp⟩
    · simp only [List.mem_append, List.mem_singleton] at he
      rcases he with he | rfl
      · exact ht.pos e he
      · exact ⟨by simp only; omega, by simp only; omega⟩
    · simp only [List.mem_append, List.mem_singleton] at he
      rcases he with he | rfl
      · exact ht.key e he
      · exact ⟨hk1, hk2⟩
  | some x =>
    obtain ⟨i, e⟩ := x
    simp only [ofP, hq, puQ] at hf hh o1 o2 o3
    obtain ⟨_, h2, h3, _⟩ := enF_some hq
    rw [Nat.sub_zero] at h2
    have hm2 := List.mem_of_getElem? h2
    have hle := sum_le ht.pos hm2
    simp only [puV] at hle
    have w1 : IntKind.i64.wrap (e.v.f + f) = e.v.f + f := by rw [IntKind.wrap_i64]; omega
    have w2 : IntKind.i64.wrap (e.v.h + h) = e.v.h + h := by rw [IntKind.wrap_i64]; omega
    have hs : sumP (t.L.set i ⟨id, ⟨e.v.f + f, e.v.h + h⟩, e.s⟩) = sumP t.L + f + h := by rw [sum_set h2]; simp only [puV]; omega
    simp only [mvQ, w1, w2]
    refine ⟨⟨ht.wf.set hq _, fun x hx => ?_, by rw [hs]; omega, fun x hx => ?_⟩, hs, by simp⟩
    · rcases List.mem_or_eq_of_mem_set hx with q | q
      · exact ht.pos x q
      · subst q; exact ⟨by simp only; omega, by simp only; omega⟩
    · rcases List.mem_or_eq_of_mem_set hx with q | q
      · exact ht.key x q
      · subst q; exact ⟨hk1, hk2⟩

/-- What some tenants have together. -/
def puW (t : Mp Pu) (id : Int) : Int := (ofP t id).f + (ofP t id).h
theorem of_key {t : Mp Pu} (ht : t.wf) {e : En Pu} (he : e ∈ t.L) : ofP t e.k = e.v := by
  obtain ⟨i, hi⟩ := enF_key ht.keys he
  rw [ofP, hi]; rfl
theorem keys_sum {t : Mp Pu} (ht : t.wf) : ((t.L.map (·.k)).map (puW t)).sum = sumP t.L := by
  rw [List.map_map, sumP]
  congr 1
  refine List.map_congr_left fun e he => ?_
  simp only [Function.comp, puW, of_key ht he, puV]
theorem gsum_filter {α : Type} (g : α → Int) (p : α → Bool) : ∀ {L : List α}, (∀ e ∈ L, p e = false → g e = 0) → ((L.filter p).map g).sum = (L.map g).sum
  | [], _ => rfl
  | e :: r, h => by
    have h2 := gsum_filter g p fun x hx => h x (List.mem_cons_of_mem _ hx)
    rw [List.filter_cons]
    cases hp : p e
    · have := h e (List.mem_cons_self ..) hp
      simp only [Bool.false_eq_true, if_false, List.map_cons, List.sum_cons, this, h2]; omega
    · simp only [if_true, List.map_cons, List.sum_cons, h2]

/- Deeds, each with its error. -/
def ckE (n : Int) : Nat := bif decide (n < 0) || decide (n > 1125899906842624) then 1 else 0
def gvE (t : Mp Pu) (id n : Int) : Nat × Mp Pu := bif decide (n < 0) || decide (n > 1125899906842624) then (1, t) else bif decide (n > IntKind.i64.wrap (1125899906842624 - sumP t.L)) then (4, t) else (0, mvP t id n 0)
def spE (t : Mp Pu) (id n h : Int) : Nat × Mp Pu := bif decide (n < 0) || decide (n > 1125899906842624) then (1, t) else bif decide ((ofP t id).f < n) then (12, t) else (0, mvP t id (IntKind.i64.wrap (0 - n)) h)
def pyE (t : Mp Pu) (id o n : Int) : Nat × Mp Pu := bif decide (n < 0) || decide (n > 1125899906842624) then (1, t) else bif decide ((ofP t id).h < n) then (13, t) else (0, mvP (mvP t id 0 (IntKind.i64.wrap (0 - n))) o n 0)
/-- A deed. -/
structure Ac where
  k : Int
  t : Int
  o : Int
  n : Int
def Ac.cells (a : Ac) : List AV := [.int .i64 a.k, .int .i64 a.t, .int .i64 a.o, .int .i64 a.n]
def decAc : List AV → Option Ac
  | [.int .i64 k, .int .i64 t, .int .i64 o, .int .i64 n] => some ⟨k, t, o, n⟩
  | _ => none
theorem decAc_ok (l : List AV) (v : Ac) (h : decAc l = some v) : l = v.cells := by
  unfold decAc at h
  split at h
  · simp only [Option.some.injEq] at h; subst h; rfl
  · cases h
def cAc : Cod Ac := ⟨Ac.cells, decAc, decAc_ok, fun _ => rfl, fun _ => rfl⟩
def doE (t : Mp Pu) (a : Ac) : Nat × Mp Pu := bif a.k == 1 then gvE t a.t a.n else bif a.k == 2 then spE t a.t a.n 0 else bif a.k == 3 then spE t a.t a.n a.n else bif a.k == 4 then pyE t a.t a.t a.n else pyE t a.t a.o a.n
def inR (n : Int) : Prop := -9223372036854775808 ≤ n ∧ n ≤ 9223372036854775807
def P0 : Mp Pu := ⟨[], 0⟩
/-- What a deed leaves. -/
structure After (t : Mp Pu) (d : Int) (r : Nat × Mp Pu) : Prop where
  pk : Pk r.2
  le : r.1 ≤ 14
  same : r.1 ≠ 0 → r.2 = t
  len : r.2.L.length ≤ t.L.length + 2
  sum : r.1 = 0 → sumP r.2.L = sumP t.L + d
theorem after_no {t : Mp Pu} (ht : Pk t) {k : Nat} (d : Int) (h0 : k ≠ 0) (h : k ≤ 14) : After t d (k, t) := ⟨ht, h, fun _ => rfl, by simp, fun q => absurd q h0⟩
theorem gv_after {t : Mp Pu} (ht : Pk t) {id n : Int} (hi : inR id) : After t n (gvE t id n) := by
  unfold gvE
  cases h1 : (decide (n < 0) || decide (n > 1125899906842624))
  · simp only [Bool.or_eq_false_iff, decide_eq_false_iff_not] at h1
    have h0 := sum_nonneg ht.pos
    have hm := ht.max
    have w : IntKind.i64.wrap (1125899906842624 - sumP t.L) = 1125899906842624 - sumP t.L := wr_small (by omega) (by omega)
    rw [w]
    cases h2 : decide (n > 1125899906842624 - sumP t.L)
    · simp only [decide_eq_false_iff_not] at h2
      obtain ⟨o1, o2, o3⟩ := ofP_in ht id
      obtain ⟨m1, m2, m3⟩ := mv_sum (id := id) (f := n) (h := 0) ht (by omega) (by omega) (by omega) hi.1 hi.2
      exact ⟨m1, Nat.zero_le _, fun q => absurd rfl q, by simp only [cond_false]; omega, fun _ => by simp only [cond_false]; omega⟩
    · exact after_no ht n (by decide) (by decide)
  · exact after_no ht n (by decide) (by decide)
theorem neg_small {n : Int} (h1 : 0 ≤ n) (h2 : n ≤ 1125899906842624) : IntKind.i64.wrap (0 - n) = -n := by rw [IntKind.wrap_i64]; omega
theorem sp_after {t : Mp Pu} (ht : Pk t) {id n h : Int} (hi : inR id) (hh : h = 0 ∨ h = n) : After t (h - n) (spE t id n h) := by
  unfold spE
  cases h1 : (decide (n < 0) || decide (n > 1125899906842624))
  · simp only [Bool.or_eq_false_iff, decide_eq_false_iff_not] at h1
    have h0 := sum_nonneg ht.pos
    have hm := ht.max
    rw [neg_small (by omega) (by omega)]
    cases h2 : decide ((ofP t id).f < n)
    · simp only [decide_eq_false_iff_not] at h2
      obtain ⟨o1, o2, o3⟩ := ofP_in ht id
      obtain ⟨m1, m2, m3⟩ := mv_sum (id := id) (f := -n) (h := h) ht (by omega) (by omega) (by omega) hi.1 hi.2
      exact ⟨m1, Nat.zero_le _, fun q => absurd rfl q, by simp only [cond_false]; omega, fun _ => by simp only [cond_false]; omega⟩
    · exact after_no ht _ (by decide) (by decide)
  · exact after_no ht _ (by decide) (by decide)
theorem py_after {t : Mp Pu} (ht : Pk t) {id o n : Int} (hi : inR id) (ho : inR o) : After t 0 (pyE t id o n) := by
  unfold pyE
  cases h1 : (decide (n < 0) || decide (n > 1125899906842624))
  · simp only [Bool.or_eq_false_iff, decide_eq_false_iff_not] at h1
    have h0 := sum_nonneg ht.pos
    have hm := ht.max
    rw [neg_small (by omega) (by omega)]
    cases h2 : decide ((ofP t id).h < n)
    · simp only [decide_eq_false_iff_not] at h2
      obtain ⟨o1, o2, o3⟩ := ofP_in ht id
      obtain ⟨m1, m2, m3⟩ := mv_sum (id := id) (f := 0) (h := -n) ht (by omega) (by omega) (by omega) hi.1 hi.2
      obtain ⟨q1, q2, q3⟩ := ofP_in m1 o
      obtain ⟨r1, r2, r3⟩ := mv_sum (id := o) (f := n) (h := 0) m1 (by omega) (by omega) (by omega) ho.1 ho.2
      exact ⟨r1, Nat.zero_le _, fun q => absurd rfl q, by simp only [cond_false]; omega, fun _ => by simp only [cond_false]; omega⟩
    · exact after_no ht _ (by decide) (by decide)
  · exact after_no ht _ (by decide) (by decide)
/-- By how much a deed that is done changes all. -/
def delta (a : Ac) : Int := bif a.k == 1 then a.n else bif a.k == 2 then -a.n else 0
theorem do_after {t : Mp Pu} (ht : Pk t) {a : Ac} (hi : inR a.t) (ho : inR a.o) : After t (delta a) (doE t a) := by
  unfold doE delta
  cases h1 : a.k == 1
  · cases h2 : a.k == 2
    · cases h3 : a.k == 3
      · cases h4 : a.k == 4
        · exact py_after ht hi ho
        · exact py_after ht hi hi
      · have := sp_after (n := a.n) ht hi (.inr rfl)
        rw [Int.sub_self] at this
        exact this
    · have := sp_after (n := a.n) ht hi (.inl rfl)
      rw [Int.zero_sub] at this
      exact this
  · exact gv_after ht hi
end Go.Proofs.YtnlolefgifeohaaDoor.E10
