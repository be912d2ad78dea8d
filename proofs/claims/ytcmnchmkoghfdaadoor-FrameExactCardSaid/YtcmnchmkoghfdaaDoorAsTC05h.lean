import Derived.Test.YtcmnchmkoghfdaaDoorAs3C05h
import Derived.Test.YtcmnchmkoghfdaaDoorIsTC05h
open Go AH
set_option linter.unusedSimpArgs false
set_option maxRecDepth 100000
namespace Go.Proofs.YtcmnchmkoghfdaaDoor.C05h

/-- errors.As, of a Fault: the target gets it. -/
def asQ (i ix x : Nat) (m : Mem) : Option (Nat × List (List AV)) → Option (AV × Mem)
  | some (k, [[_]]) => bif k == 1 then some (.bool true, mset m x (some (.row false 1 [[.ptr i ix 0]]))) else none
  | _ => none
def asU : UT := fun args m => match args with
  | [.ifc t (.ptr i ix 0), .ifc t' (.ptr x 0 0)] => bif t == 88 && t' == 90 then asQ i ix x m (rowW (mget m) x) else none
  | _ => none

theorem mget_mset : ∀ {m : Mem} {i : Nat} {b : Option Blk}, (fun j => mget (mset m i b) j) = upd (mget m) i b
  | [], 0, b => by funext j; cases j <;> simp [mset, mget, upd, mget_nil]
  | [], i + 1, b => by
    funext j
    cases j with
    | zero => simp [mset, mget, upd]
    | succ j =>
      have := congrFun (mget_mset (m := []) (i := i) (b := b)) j
      simp only [mset, mget] at this ⊢
      rw [this]
      simp [upd, mget_nil]
  | a :: m, 0, b => by funext j; cases j <;> simp [mset, mget, upd]
  | a :: m, i + 1, b => by
    funext j
    cases j with
    | zero => simp [mset, mget, upd]
    | succ j =>
      have := congrFun (mget_mset (m := m) (i := i) (b := b)) j
      simp only [mset, mget] at this ⊢
      rw [this]
      simp [upd, mget]

set_option maxRecDepth 100000 in
theorem asU_ok : CallF S0 53 asU := by
  intro args m v m' h
  unfold asU at h
  split at h
  · rename_i t i ix t' x
    cases hc : (t == 88 && t' == 90) with
    | false => rw [hc] at h; cases h
    | true =>
      rw [hc] at h
      simp only [cond_true] at h
      simp only [Bool.and_eq_true, beq_iff_eq] at hc
      obtain ⟨rfl, rfl⟩ := hc
      unfold asQ at h
      split at h
      · rename_i k c hx'
        have hx := rowW_some hx'
        cases hk1 : (k == 1) with
        | false => rw [hk1] at h; cases h
        | true =>
          rw [hk1] at h
          simp only [cond_true, Option.some.injEq, Prod.mk.injEq] at h
          obtain ⟨rfl, rfl⟩ := h
          have : k = 1 := by simpa using hk1
          subst this
          intro eb φ own w0 w us hA hus hM hk hb
          obtain ⟨u, v, rfl, h1, h2⟩ := two_args hus
          obtain ⟨hd1, e1⟩ := vr_ifc_ptr h1
          obtain ⟨hd2, e2⟩ := vr_ifc_ptr h2
          rw [e1, e2]
          obtain ⟨⟨et, fr, hG⟩, hGo⟩ := hA.hand (List.getD S0.hands 0 (0, undef)) (by simp [S0])
          have hG' := hk.kept _ (Array.getElem?_eq_some_iff.1 hG).1 hGo
          rw [hG] at hG'
          have hK : Keeps (fun b => w.heap.size ≤ b) w (wC ⟨φ.blk i, φ.base i + ix * φ.k i + 0, none⟩ ⟨φ.blk x, φ.base x + 0 * φ.k x + 0, none⟩ w) :=
            ((((Keeps.refl fun _ h => h).step (StepK.alloc _)).step (StepK.alloc _)).step (StepK.alloc _)).step (StepK.alloc _)
          have hM' := hM.over hK
          obtain ⟨r1, r2, r3⟩ := store_run (id := x) (ix := 0) (sub := 0) hM' hx (by simp) (cs := [.ptr i ix 0]) (us := [.pointer (some ⟨φ.blk i, φ.base i + ix * φ.k i + 0, none⟩)]) (by simp) (.cons _ _ _ _ (.ptr i ix 0 hd1) .nil) (by simp [Value.oneCell']) rfl rfl
          refine CallRes.of_calls Tryd.func53 (by kernel_rfl) (by kernel_rfl) ((as_fault _ _ w _ hG' r1).mono ?_)
          rintro e w' ⟨rfl, rfl⟩
          refine ⟨_, rfl, φ, .bool true, _, ⟨rfl, rfl⟩, .refl φ, .bool true, ?_, (hk.over hK).step r3, fun id hid => ?_⟩
          · have e : mget (mset m x (some (.row false 1 [[AV.ptr i ix 0]]))) = upd (mget m) x (some (.row false 1 [[AV.ptr i ix 0]])) := mget_mset
            rw [e]
            exact r2
          · rw [mset_lenF _ _ _ (mget_some hx).1]
            exact hb id hid
      · cases h
  · cases h

theorem asU_of {m : Mem} {i x : Nat} : asU [.ifc 88 (.ptr i 0 0), .ifc 90 (.ptr x 0 0)] m = asQ i 0 x m (rowW (mget m) x) := rfl
theorem asQ_some {i x : Nat} {m : Mem} {c : AV} : asQ i 0 x m (some (1, [[c]])) = some (.bool true, mset m x (some (.row false 1 [[.ptr i 0 0]]))) := rfl

end Go.Proofs.YtcmnchmkoghfdaaDoor.C05h
