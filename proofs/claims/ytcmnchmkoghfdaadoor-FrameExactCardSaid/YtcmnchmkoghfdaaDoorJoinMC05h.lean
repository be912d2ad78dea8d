import Derived.Test.YtcmnchmkoghfdaaDoorJoinLC05h
open Go AH
set_option linter.unusedSimpArgs false
set_option maxRecDepth 100000
namespace Go.Proofs.YtcmnchmkoghfdaaDoor.C05h
/- frame.joined as a table's entry. -/
theorem joined_ok (l : List ByteArray) (hl : l.length ≤ 1048576) (seq : Int) (n : Nat) (hn : n ≤ 1000) : CallA1 S0 46 [.slc 0 0 l.length none, .int .i64 seq, .int .i64 n] [some (.row true 1 (l.map strC))]
    fun r _ => r = .tup [.str (joinS l seq n n 0 ⟨#[]⟩).1, .int .i64 (joinS l seq n n 0 ⟨#[]⟩).2] := by
  intro eb φ own w0 w us hA hus hM hk hb
  obtain ⟨u, h1⟩ : ∃ u, us.toList = u := ⟨_, rfl⟩
  rw [h1] at hus
  cases hus with
  | cons _ u1 _ us1 v1 hus =>
  cases hus with
  | cons _ u2 _ us2 v2 hus =>
  cases hus with
  | cons _ u3 _ us3 v3 hus =>
  cases hus
  cases v2
  cases v3
  obtain rfl : us = #[u1, .int .i64 seq, .int .i64 n] := by cases us; simp_all
  have hAf := hA.fresh hk
  have hM' : MR S0.errT eb φ (mget [some (.row true 1 (l.map strC))]) (fun b => w.heap.size ≤ b) w := by
    refine ⟨hM.dom, hM.kk, hM.blk, fun id x h hr => ?_, fun id id' x x' h h' hne hr => ?_⟩
    · match id, h with
      | 0, h => cases h; cases hr
      | n + 1, h => cases h
    · match id, h with
      | 0, h => cases h; cases hr
      | n + 1, h => cases h
  have hd : ∀ id, φ.dom id → id < 1 := hb
  obtain ⟨hdm, hu⟩ := slc_inv v1
  have hkk : φ.k 0 = 1 := hM.kk 0 _ _ _ rfl
  obtain ⟨ad, cp, rfl, h0, hcell⟩ : ∃ ad cp, u1 = .slice ad l.length cp ∧ VR S0.errT eb φ (.slc 0 0 l.length (some cp)) (.slice ad l.length cp) ∧
      ∀ (j : Nat) x, l[j]? = some x → ∃ bk off, ad = some ⟨bk, off, none⟩ ∧ w.cell? ⟨bk, off + j, none⟩ = some (.string x) ∧ bk < w.heap.size := by
    rcases hu with ⟨c, rfl, h2, _, h4⟩ | ⟨ad, rfl, hz, _⟩
    · refine ⟨_, c, rfl, .slc 0 0 l.length (some c) c hdm h2 (fun c0 q => by cases q; rfl) h4, fun j x hj => ?_⟩
      have hsol : (Blk.row true 1 (l.map strC)).solid φ 0 := .inl fun q => by
        have : l = [] := List.map_eq_nil_iff.1 q
        rw [this] at hj; cases hj
      obtain ⟨o, ho, arr, et, fr, rfl, _, hsz, hfit, _, hcells⟩ := hM.blk 0 _ rfl hsol
      refine ⟨φ.blk 0, φ.base 0 + 0 * φ.k 0, rfl, ?_, (Array.getElem?_eq_some_iff.1 ho).1⟩
      have he : (l.map strC)[j]? = some [.str x] := by rw [List.getElem?_map, hj]; rfl
      obtain ⟨_, hc⟩ := hcells j _ he
      obtain ⟨u, hu1, hu2, _⟩ := hc 0 (.str x) rfl
      cases hu2
      simp only [World.cell?, ho]
      rw [← hu1]
      simp
    · refine ⟨ad, 0, by rw [hz], ?_, fun j x hj => ?_⟩
      · rw [hz]; exact .slc0 0 0 (some 0) ad hdm (fun c0 q => by cases q; rfl)
      · rw [List.eq_nil_of_length_eq_zero hz] at hj; cases hj
  refine callRes_of Tryd.func46 rfl (by decide) ((joinedK l hl cp ad seq n hn w hAf hM' hd h0 hcell).mono ?_)
  rintro e w' ⟨rfl, hkw⟩
  have hbel : ∀ k, k < w.heap.size → w'.heap[k]? = w.heap[k]? := fun k hk' => hkw.kept k hk' (by omega)
  refine ⟨_, rfl, φ, _, [some (.row true 1 (l.map strC))], rfl, .refl φ, .tup _ _ (.cons _ _ _ _ (.str _) (.cons _ _ _ _ (.int _ _) .nil)), ?_, ?_, hb⟩
  · refine ⟨hM.dom, hM.kk, fun id x h hs => ?_, hM.own, hM.inj⟩
    obtain ⟨o, ho, hbr⟩ := hM.blk id x h hs
    exact ⟨o, by rw [hbel _ (Array.getElem?_eq_some_iff.1 ho).1]; exact ho, hbr⟩
  · exact ⟨hkw.os.trans hk.os, hkw.output.trans hk.output, Nat.le_trans hk.size hkw.size, fun b hb' ho => (hbel b (Nat.lt_of_lt_of_le hb' hk.size)).trans (hk.kept b hb' ho), hk.new⟩
end Go.Proofs.YtcmnchmkoghfdaaDoor.C05h
