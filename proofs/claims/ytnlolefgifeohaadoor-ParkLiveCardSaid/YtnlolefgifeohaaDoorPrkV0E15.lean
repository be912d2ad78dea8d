import Derived.Test.YtnlolefgifeohaaDoorPrkWE15
open Go AH
set_option linter.unusedSimpArgs false
set_option maxRecDepth 100000
namespace Go.Proofs.YtnlolefgifeohaaDoor.E15
def pvSt (l : List Ac) (x : Nat × Mp Ma) : St := ⟨[(4, .int .i64 x.1), (3, .ptr 1 0 0), (0, .slc 0 0 l.length none)], [some (.row true 7 (l.map Ac.cells)), some (.row false 1 [[.map 2]]), some (.map (x.2.L.map (enA Ma.av)) x.2.c)]⟩
/-- What was live, of five cells. -/
def wasL (t : Mp Ma) : List AV := (liveM t 0).cells ++ ((liveM t 1).cells ++ ((liveM t 2).cells ++ ((liveM t 3).cells ++ (liveM t 4).cells)))
def pcSt (l : List Ac) (i : Nat) (t u : Mp Ma) (id : Int) (k : Nat) (c : Nat) : St :=
  ⟨[(13, .int .i64 c), (12, .bool (isM u id)), (11, .ptr 5 0 0), (10, errA k), (9, .bool (isM t id)), (8, .ptr 4 0 0), (6, .ptr 3 0 0), (4, .int .i64 i), (3, .ptr 1 0 0), (0, .slc 0 0 l.length none)],
   [some (.row true 7 (l.map Ac.cells)), some (.row false 1 [[.map 2]]), some (.map (u.L.map (enA Ma.av)) u.c), some (.row false 20 [wasL t]), some (.row false 7 [(ofM t id).cells]), some (.row false 7 [(ofM u id).cells])]⟩
theorem dr0 {t : Mp Ma} (ht : Pk t) (id : Int) (h : (drM t id).1 = 0) : isM t id = true ∧ isM (drM t id).2 id = false := by
  unfold drM at h ⊢
  cases hq : enF id t.L 0 with
  | none => rw [hq] at h; cases h
  | some x =>
    obtain ⟨i, e⟩ := x
    exact ⟨(isM_some hq).1, (isM_none (t := ⟨t.L.eraseIdx i, t.c⟩) (enF_erase ht.wf hq)).1⟩
theorem ad0 (t : Mp Ma) (id c : Int) (v : V4) (h : (adM t id c v).1 = 0) : isM t id = false ∧ isM (adM t id c v).2 id = true ∧ ((ofM (adM t id c v).2 id).s == 0) = true := by
  unfold adM at h ⊢
  cases h1 : (decide (id < 1) || (decide (id > 999) || (decide (c < 1) || (decide (c > 4) || !good v))))
  · cases h2 : isM t id
    · cases h3 : decide ((t.L.length : Int) ≥ 24)
      · cases h4 : (addK (sumW (fun _ => true) (listM t c)) v == 0)
        · rw [h1, h2, h3, h4] at h
          simp only [cond_false] at h
          rw [h] at h4; cases h4
        · simp only [cond_false, cond_true]
          have hq : enF id t.L 0 = none := by
            cases hq : enF id t.L 0 with
            | none => rfl
            | some x => rw [isM, hq] at h2; cases h2
          obtain ⟨j, e, k1, k2⟩ := enF_last (v := ⟨id, c, v, 0⟩) (s := t.c) hq
          obtain ⟨g1, g2⟩ := isM_some (t := ⟨t.L ++ [⟨id, ⟨id, c, v, 0⟩, t.c⟩], t.c + 1⟩) k1
          exact ⟨trivial, g1, by rw [g2, k2]; rfl⟩
      · rw [h1, h2, h3] at h; cases h
    · rw [h1, h2] at h; cases h
  · rw [h1] at h; cases h
theorem se0 (t : Mp Ma) (id s : Int) (h : (seM t id s).1 = 0) : isM t id = true ∧ isM (seM t id s).2 id = true ∧ (ofM (seM t id s).2 id).c = (ofM t id).c := by
  unfold seM at h ⊢
  cases hq : enF id t.L 0 with
  | none => rw [hq] at h; cases h
  | some x =>
    obtain ⟨i, e⟩ := x
    rw [hq] at h
    unfold seQ at h ⊢
    simp only at h ⊢
    cases h4 : (decide (s < 0) || decide (s > 2))
    · cases h5 : (e.v.s == s)
      · simp only [cond_false]
        obtain ⟨j, e', k1, k2⟩ := enF_there (v := ⟨e.v.i, e.v.c, e.v.h, s⟩) (s := e.s) hq
        obtain ⟨g1, g2⟩ := isM_some (t := ⟨t.L.set i ⟨id, ⟨e.v.i, e.v.c, e.v.h, s⟩, e.s⟩, t.c⟩) k1
        obtain ⟨g3, g4⟩ := isM_some hq
        exact ⟨g3, g1, by rw [g2, g4, k2]⟩
      · rw [h4, h5] at h; cases h
    · rw [h4] at h; cases h
/-- What a deed that is done tells of the machine before and behind. -/
def OpF (t u : Mp Ma) (id : Int) : Prop :=
  (isM t id = true ∧ isM u id = false) ∨ (isM t id = false ∧ isM u id = true ∧ ((ofM u id).s == 0) = true) ∨ (isM t id = true ∧ isM u id = true ∧ (ofM u id).c = (ofM t id).c)
/-- The cases of what is live of a cell. -/
def LvF (t u : Mp Ma) (id c : Int) (b1 b2 bm bs bc bn bt bd : Bool) (e1 e2 e3 e4 : Bool) : Prop :=
  (isM t id && upC c (ofM t id)) = b1 ∧ (isM u id && upC c (ofM u id)) = b2 ∧ isM t id = bm ∧ (bif e1 then (ofM t id).s == 0 else bs) = bs ∧ (bif e2 then (ofM t id).c == c else bc) = bc ∧ isM u id = bn ∧ (bif e3 then (ofM u id).s == 0 else bt) = bt ∧ (bif e4 then (ofM u id).c == c else bd) = bd
theorem wasL_lts (t : Mp Ma) : AV.lts 0 (wasL t) = true := rfl
theorem wasL_in (t : Mp Ma) (p : Nat → Bool) : AV.insB p (wasL t) = true := flats_inB (wasL_lts t)
theorem wasL_ren (t : Mp Ma) (ρ : Nat → Nat) : AV.rens ρ (wasL t) = wasL t := flats_rens (wasL_lts t)
theorem wasL_part (t : Mp Ma) {c : Nat} (h : c < 5) : ((wasL t).drop (c * 4)).take 4 = [.int .i64 (liveM t (c : Int)).a, .int .i64 (liveM t (c : Int)).b, .int .i64 (liveM t (c : Int)).c, .int .i64 (liveM t (c : Int)).d] := by
  match c, h with
  | 0, _ => rfl
  | 1, _ => rfl
  | 2, _ => rfl
  | 3, _ => rfl
  | 4, _ => rfl
theorem eqv_self (v : V4) : eqV v v = true := (eqV_iff v v).2 rfl
theorem ma7_self (m : Ma) : (m.i == m.i && (m.c == m.c && (m.h.a == m.h.a && (m.h.b == m.h.b && (m.h.c == m.h.c && (m.h.d == m.h.d && m.s == m.s)))))) = true := by simp
def wantV (b1 b2 : Bool) (v m n : V4) : V4 :=
  ⟨bif b2 then IntKind.i64.wrap ((bif b1 then IntKind.i64.wrap (v.a - m.a) else v.a) + n.a) else bif b1 then IntKind.i64.wrap (v.a - m.a) else v.a,
   bif b2 then IntKind.i64.wrap ((bif b1 then IntKind.i64.wrap (v.b - m.b) else v.b) + n.b) else bif b1 then IntKind.i64.wrap (v.b - m.b) else v.b,
   bif b2 then IntKind.i64.wrap ((bif b1 then IntKind.i64.wrap (v.c - m.c) else v.c) + n.c) else bif b1 then IntKind.i64.wrap (v.c - m.c) else v.c,
   bif b2 then IntKind.i64.wrap ((bif b1 then IntKind.i64.wrap (v.d - m.d) else v.d) + n.d) else bif b1 then IntKind.i64.wrap (v.d - m.d) else v.d⟩
theorem good_at {t : Mp Ma} (h : Pk t) (id : Int) : good (ofM t id).h = true := by
  cases hq : enF id t.L 0 with
  | none => rw [(isM_none hq).2]; rfl
  | some x =>
    obtain ⟨i, e⟩ := x
    rw [(isM_some hq).2]
    obtain ⟨_, h2, _⟩ := enF_some hq
    rw [Nat.sub_zero] at h2
    exact h.has e (List.mem_of_getElem? h2)
theorem want1 (b1 b2 : Bool) {x y m n : Int} (hx : 0 ≤ x ∧ x ≤ 1099511627776) (hm : 0 ≤ m ∧ m ≤ 1099511627776) (hn : 0 ≤ n ∧ n ≤ 1099511627776) (h : y = x - (bif b1 then m else 0) + (bif b2 then n else 0)) :
    y = bif b2 then IntKind.i64.wrap ((bif b1 then IntKind.i64.wrap (x - m) else x) + n) else bif b1 then IntKind.i64.wrap (x - m) else x := by
  have w1 : IntKind.i64.wrap (x - m) = x - m := by rw [IntKind.wrap_i64]; omega
  rw [w1]
  cases b1 <;> cases b2 <;> simp only [cond_true, cond_false] at h ⊢
  · omega
  · rw [IntKind.wrap_i64]; omega
  · omega
  · rw [IntKind.wrap_i64]; omega
theorem live_b {t : Mp Ma} {id : Int} {r : Nat × Mp Ma} (ht : Pk t) (hA : After t id r) (h0 : (r.1 == 0) = true) (c : Int) {b1 b2 : Bool} (h1 : (isM t id && upC c (ofM t id)) = b1) (h2 : (isM r.2 id && upC c (ofM r.2 id)) = b2) :
    liveM r.2 c = wantV b1 b2 (liveM t c) (ofM t id).h (ofM r.2 id).h := by
  have key : ∀ g, isP g → g (liveM r.2 c) = g (liveM t c) - (bif b1 then g (ofM t id).h else 0) + (bif b2 then g (ofM r.2 id).h else 0) := fun g hg => by
    rw [live_g hA.pk c hg, live_g ht c hg, hA.sum (by simpa using h0) g (upC c) hg, ← h1, ← h2, partM, partM, term, term]
    cases isM t id <;> cases isM r.2 id <;> cases upC c (ofM t id) <;> cases upC c (ofM r.2 id) <;> simp
  have b : ∀ g, isP g → g (liveM r.2 c) = bif b2 then IntKind.i64.wrap ((bif b1 then IntKind.i64.wrap (g (liveM t c) - g (ofM t id).h) else g (liveM t c)) + g (ofM r.2 id).h) else bif b1 then IntKind.i64.wrap (g (liveM t c) - g (ofM t id).h) else g (liveM t c) := fun g hg =>
    want1 b1 b2 (live_in ht c hg) (good_g (good_at ht id) hg) (good_g (good_at hA.pk id) hg) (key g hg)
  have e1 := b V4.a (.inl rfl)
  have e2 := b V4.b (.inr (.inl rfl))
  have e3 := b V4.c (.inr (.inr (.inl rfl)))
  have e4 := b V4.d (.inr (.inr (.inr rfl)))
  unfold wantV
  rw [← e1, ← e2, ← e3, ← e4]
end Go.Proofs.YtnlolefgifeohaaDoor.E15
