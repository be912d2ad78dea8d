import Derived.Test.YtcmnchmkoghfdaaDoorSfRJC05h
import Derived.Test.YtcmnchmkoghfdaaDoorStrC05h
open Go AH Go.RowKit
set_option linter.unusedSimpArgs false
set_option maxRecDepth 100000
namespace Go.Proofs.YtcmnchmkoghfdaaDoor.C05h
/- strings.Repeat and strings.Join in the words of AH. -/

theorem callRes_of {S : AH.Sys} {g : FuncId} {fn : Func} {us : Array Value} {w : World} {R : Value → World → Prop} (hf : S.P.funcs[g]? = some fn) (hb : fn.body.isSome = true) (hn : (fn.name == "runtime.NumGoroutine") = false)
    (h : Calls S.P g us w fun e w' => ∃ v, e = .returned v ∧ R v w') : CallRes S.P g us w R := by
  unfold CallRes
  have : (callFunc g us).run S.P w = .ok (.enter g us) w := by
    have hb' : fn.body ≠ none := by intro q; rw [q] at hb; cases hb
    have hn' : ¬ fn.name = "runtime.NumGoroutine" := by simpa using hn
    simp [callFunc, hf, hn', hb']
  rw [this]
  exact h
theorem keeps_below {own : Nat → Prop} {w0 w w' : World} (hk : Keeps own w0 w) (h : Below w.heap.size w w') : Keeps own w0 w' :=
  ⟨h.os.trans hk.os, h.output.trans hk.output, Nat.le_trans hk.size h.size, fun b hb ho => (h.block b (Nat.lt_of_lt_of_le hb hk.size)).trans (hk.kept b hb ho), hk.new⟩
theorem mr_below {S : AH.Sys} {eb : Nat → Addr} {φ : Emb} {M : Nat → Option Blk} {own : Nat → Prop} {w w' : World} (hM : MR S.errT eb φ M own w) (h : Below w.heap.size w w') : MR S.errT eb φ M own w' :=
  ⟨hM.dom, hM.kk, fun id b hi hs => by
    obtain ⟨o, ho, hb⟩ := hM.blk id b hi hs
    exact ⟨o, by rw [h.block _ (Array.getElem?_eq_some_iff.1 ho).1]; exact ho, hb⟩, hM.own, hM.inj⟩

def repS (s : ByteArray) (c : Nat) : ByteArray := ⟨(Lib.repeatL s.data.toList c).toArray⟩
def okRep (s : ByteArray) (c : Int) : Prop := 0 ≤ c ∧ s.size ≤ 1024 ∧ c ≤ 1048576
instance (s : ByteArray) (c : Int) : Decidable (okRep s c) := by unfold okRep; infer_instance
theorem rep_ok (s : ByteArray) (c : Nat) (h : okRep s c) : Pure S0 40 [.str s, .int .i64 c] (.str (repS s c)) := by
  intro eb φ own w0 w us hA hus hM hk hb
  obtain ⟨u, h1⟩ : ∃ u, us.toList = u := ⟨_, rfl⟩
  rw [h1] at hus
  cases hus with
  | cons _ u1 _ us1 v1 hus =>
    cases hus with
    | cons _ u2 _ us2 v2 hus =>
      cases hus
      cases v1
      cases v2
      obtain rfl : us = #[.string s, .int .i64 c] := by cases us; simp_all
      refine callRes_of Tryd.func40 rfl (by decide) ?_
      have hl : s.size * c ≤ 140737488355328 := by
        have := h.2.1
        have h3 := h.2.2
        have : s.size * c ≤ 1024 * 1048576 := Nat.mul_le_mul this (by omega)
        omega
      refine (Tryd.strings_Repeat s c w (by have := h.2.2; omega) hl).mono ?_
      rintro e w' ⟨rfl, hw⟩
      exact ⟨_, rfl, φ, _, [], rfl, .refl φ, .str _, mr_below hM hw, keeps_below hk hw, hb⟩
def repT : RT := fun args _ => match args with
  | [.str s, .int .i64 c] => if okRep s c then some (.str (repS s c.toNat), []) else none
  | _ => none
theorem repT_ok : ReadF S0 40 repT := ReadF.pure fun args M v foot h => by
  unfold repT at h
  split at h
  · rename_i s c
    split at h
    · rename_i hc
      simp only [Option.some.injEq, Prod.mk.injEq] at h
      obtain ⟨rfl, rfl⟩ := h
      obtain ⟨n, rfl⟩ := Int.eq_ofNat_of_zero_le hc.1
      exact ⟨rfl, fun M' => by simp only [repT, hc, if_true], rfl, rfl, rep_ok s n hc⟩
    · cases h
  · cases h
theorem repT_eq {s : ByteArray} {c : Nat} {M : Nat → Option Blk} (h : okRep s c) : repT [.str s, .int .i64 c] M = some (.str (repS s c), []) := by
  simp only [repT, h, if_true, Int.toNat_natCast]

def catS (L : List ByteArray) : ByteArray := ⟨(L.map (·.data.toList)).flatten.toArray⟩
theorem join_flat : ∀ l : List (List UInt8), Lib.join l [] = l.flatten
  | [] => rfl
  | x :: r => by
    rw [Lib.join_cons, List.flatten_cons, Lib.joinTail]
    congr 2
    exact (List.map_congr_left fun a _ => List.nil_append a).trans (List.map_id r)
def okJ (L : List ByteArray) : Prop := (∀ s ∈ L, s.size ≤ 1048576) ∧ L.length ≤ 1048576
instance (L : List ByteArray) : Decidable (okJ L) := by unfold okJ; infer_instance
theorem flat_len {m : Nat} : ∀ (l : List (List UInt8)), (∀ x ∈ l, x.length ≤ m) → l.flatten.length ≤ l.length * m
  | [], _ => by simp
  | x :: r, h => by
    have h1 := h x (List.mem_cons_self ..)
    have h2 := flat_len r fun y hy => h y (List.mem_cons_of_mem _ hy)
    rw [List.flatten_cons, List.length_append, List.length_cons, Nat.succ_mul]
    omega
theorem join_ok (L : List ByteArray) (h : okJ L) : CallA1 S0 39 [.slc 0 0 L.length none, .str ⟨#[]⟩] [some (.row true 1 (L.map strC))] fun r _ => r = .str (catS L) := by
  intro eb φ own w0 w us hA hus hM hk hb
  obtain ⟨u, h1⟩ : ∃ u, us.toList = u := ⟨_, rfl⟩
  rw [h1] at hus
  have key : ∀ (us : Array Value), (Calls S0.P 39 us w fun e w' => e = .returned (.string (catS L)) ∧ Below w.heap.size w w') → CallRes S0.P 39 us w fun r w' => ∃ φ' v m', v = .str (catS L) ∧ φ.Ext φ' ∧ VR S0.errT eb φ' v r ∧ MR S0.errT eb φ' (mget m') own w' ∧ Keeps own w0 w' ∧ ∀ id, φ'.dom id → id < m'.length := fun us h => by
    refine callRes_of Tryd.func39 rfl (by decide) (h.mono ?_)
    rintro e w' ⟨rfl, hw⟩
    exact ⟨_, rfl, φ, _, _, rfl, .refl φ, .str _, mr_below hM hw, keeps_below hk hw, hb⟩
  cases hus with
  | cons _ u1 _ us1 v1 hus =>
    cases hus with
    | cons _ u2 _ us2 v2 hus =>
      cases hus
      cases v2
      generalize hq : AV.slc 0 0 L.length none = q at v1
      cases v1 <;> simp only [AV.slc.injEq, reduceCtorEq] at hq
      · rename_i i j n cap c hd hc he hs
        obtain ⟨rfl, rfl, rfl, rfl⟩ := hq
        obtain rfl : us = #[.slice (some ⟨φ.blk 0, φ.base 0 + 0 * φ.k 0, none⟩) L.length c, .string ⟨#[]⟩] := by cases us; simp_all
        refine key _ ?_
        have hl : (Lib.join (L.map (·.data.toList)) (⟨#[]⟩ : ByteArray).data.toList).length ≤ 140737488355328 := by
          rw [show (⟨#[]⟩ : ByteArray).data.toList = [] from rfl, join_flat]
          have := flat_len (m := 1048576) (L.map (·.data.toList)) fun x hx => by
            obtain ⟨s, hs, rfl⟩ := List.mem_map.1 hx
            have := h.1 s hs
            rw [Array.length_toList]; exact this
          rw [List.length_map] at this
          have h2 := h.2
          have : L.length * 1048576 ≤ 1048576 * 1048576 := Nat.mul_le_mul_right _ h2
          omega
        by_cases hL : L = []
        · subst hL
          refine (Tryd.strings_Join_none _ c ⟨#[]⟩ w).mono ?_
          rintro e w' ⟨rfl, rfl⟩
          exact ⟨rfl, Below.refl _ _⟩
        · have hbk : φ.blk 0 < w.heap.size := by
            obtain ⟨o, ho, _⟩ := hM.blk 0 _ rfl (.inl (by simpa using hL))
            exact (Array.getElem?_eq_some_iff.1 ho).1
          have hcells : ∀ (j : Nat) x, L[j]? = some x → w.cell? ⟨φ.blk 0, φ.base 0 + 0 * φ.k 0 + j, none⟩ = some (.string x) := fun j x hj => by
            obtain ⟨g1, vs, g2, g3, _, g5⟩ := hM.elem (id := 0) rfl (ix := j) (el := strC x) (by rw [List.getElem?_map, hj]; rfl)
            cases g3 with
            | cons _ v _ vs v3 g3 =>
              cases v3
              have := g5 0 _ rfl
              rw [g1] at this ⊢
              simpa using this
          refine (Tryd.strings_Join (φ.blk 0) (φ.base 0 + 0 * φ.k 0) c L ⟨#[]⟩ w hcells hbk (by have := h.2; omega) hc hl).mono ?_
          rintro e w' ⟨rfl, hw⟩
          refine ⟨?_, hw⟩
          rw [show (⟨#[]⟩ : ByteArray).data.toList = [] from rfl, join_flat]; rfl
      · rename_i i j cap ad hd he
        obtain ⟨rfl, rfl, hz, rfl⟩ := hq
        have hL : L = [] := List.eq_nil_of_length_eq_zero hz
        subst hL
        obtain rfl : us = #[.slice ad 0 0, .string ⟨#[]⟩] := by cases us; simp_all
        refine key _ ((Tryd.strings_Join_none ad 0 ⟨#[]⟩ w).mono ?_)
        rintro e w' ⟨rfl, rfl⟩
        exact ⟨rfl, Below.refl _ _⟩
def joinV : VF := fun args rows => match args, rows with
  | [.slc 0 0 n none, .str s], [(1, es)] => match cStr.decL es with
    | some L => if n = L.length ∧ okJ L ∧ s.size = 0 then some (.str (catS L)) else none
    | none => none
  | _, _ => none
def joinT : RT := rtV [1] joinV
theorem joinT_ok : ReadF S0 39 joinT := rtV_ok errs0 fun args rows v h => by
  unfold joinV at h
  split at h
  · rename_i n s es
    split at h
    · rename_i L hL
      split at h
      · rename_i hc
        simp only [Option.some.injEq] at h
        subst h
        obtain ⟨rfl, h2, h3⟩ := hc
        have := cStr.decL_ok hL
        subst this
        have hs : s = ⟨#[]⟩ := by
          cases s with | mk d => simp only [ByteArray.size] at h3; rw [Array.eq_empty_of_size_eq_zero h3]
        subst hs
        exact ⟨rfl, join_ok L h2⟩
      · cases h
    · cases h
  · cases h
theorem joinT_eq {L : List ByteArray} {id : Nat} {cap : Option Nat} {M : Nat → Option Blk} (hM : rowE M id = some (1, L.map strC)) (h : okJ L) : joinT [.slc id 0 L.length cap, .str ⟨#[]⟩] M = some (.str (catS L), [id]) := by
  obtain ⟨ro, hM⟩ := rowE_some hM
  have hb1 : decide (0 + L.length ≤ (L.map strC).length) = true := by simp
  have ht : ((L.map strC).drop 0).take L.length = L.map strC := by rw [List.drop_zero]; exact take_map_len _ _
  have hfl : (L.map strC).all (AV.lts 0) = true := cStr.all_flat L
  simp only [joinT, rtV, vw, hM, hb1, ht, hfl, beq_self_eq_true, Bool.and_self, cond_true, AV.lt, Option.map_some, useV, joinV, show cStr.decL (L.map strC) = some L from cStr.decL_map L, h, show (⟨#[]⟩ : ByteArray).size = 0 from rfl, and_self, if_true]
end Go.Proofs.YtcmnchmkoghfdaaDoor.C05h
