import Derived.Test.YtamkjgiemconbaaDoorAHa
import Derived.Laws.IdiomStrings
import Derived.Laws.IdiomCopy
import Derived.Laws.IdiomRangeMap
import Derived.Tactics
import Derived.LoopN
set_option linter.unusedSimpArgs false
namespace AH
open Go
variable {S : Sys} {eb : Nat → Addr} {φ : Emb} {M : Nat → Option Blk} {own : Nat → Prop} {w : World} {ρ : Operand → Value} {f : Opd → AV} {o : Oper} {fresh : Nat} {p : Prop} {e : Eff}
variable {T : TypeId}
theorem check_fields {d D : Nat} {em : Bool} (ih : ∀ t ks,flatT S.P d t = some ks → ∀ (xs : List Value),xs.length = ks.length → (Instr.checkKey em D t (toV S.P t xs)).run S.P w = .ok () w) (xs : List Value) :
    ∀ (fs : List Field) (off : Nat) (ks : List SK),flatFs (flatT S.P d) fs off = some ks → xs.length = off + ks.length →
      (forIn fs PUnit.unit fun fl _ =>(do
        if fl.name ≠ "_" then
          Instr.checkKey em D fl.type (← Go.part fl.type xs.toArray fl.offset)
          pure (ForInStep.yield PUnit.unit)
        else pure (ForInStep.yield PUnit.unit) : Sem (ForInStep PUnit))).run S.P w = .ok PUnit.unit w
  | [],off,ks,h,hl =>by simp
  | fl :: r,off,ks,h,hl =>by
    simp only [flatFs] at h
    split at h
    · cases h
    rename_i hn
    simp only [not_or,Decidable.not_not] at hn
    obtain ⟨hn1,rfl⟩:=hn
    split at h
    · rename_i k1 hk1
      split at h
      · cases h
      rename_i hnz
      simp only [Option.map_eq_some_iff] at h
      obtain ⟨k2,hk2,rfl⟩:=h
      obtain ⟨td,hu⟩:=flatT_under hk1
      have hsz:=flatT_size hk1
      simp only [List.length_append] at hl
      have p1:=run_part (P:=S.P) (w:=w) fl.type hu (info_of_underlying hu) xs fl.offset (by rw [hsz]; omega)
      rw [hsz] at p1
      have q:=ih _ _ hk1 ((xs.drop fl.offset).take k1.length) (by simp; omega)
      have rest:=check_fields ih xs r _ _ hk2 (by omega)
      simp only [List.forIn_cons,Sem.run_bind,hn1,ne_eq,not_false_eq_true,if_true,p1,q,Result.andThen_ok,Sem.run_pure]
      exact rest
    · cases h
theorem checkKey_flat (em : Bool) : ∀ (d : Nat) (t : TypeId) (ks : List SK),flatT S.P d t = some ks → ∀ (D : Nat),d ≤ D → ∀ (xs : List Value),xs.length = ks.length →
    (Instr.checkKey em D t (toV S.P t xs)).run S.P w = .ok () w
  | 0,_,_,h,_,_,_,_ =>by simp [flatT] at h
  | d + 1,t,ks,h,D,hD,xs,hl =>by
    obtain ⟨D,rfl⟩ : ∃ m,D = m + 1:=⟨D - 1,by omega⟩
    have ih:=fun t ks h =>checkKey_flat em d t ks h D (by omega)
    have hh:=h
    simp only [flatT] at h
    split at h <;> (try (cases h; done))
    · rename_i hu
      rw [Instr.checkKey]
      simp [run_underlying hu]
    · rename_i i hu
      rw [Instr.checkKey]
      simp [run_underlying hu]
    · rename_i hu
      rw [Instr.checkKey]
      simp [run_underlying hu]
    · rename_i fs hu
      split at h
      · cases h
      split at h
      · rename_i k1 hk1
        split at h
        · simp only [Option.some.injEq] at h
          subst h
          rw [show toV S.P t xs = .agg xs.toArray by simp [toV,isAggT,hu],Instr.checkKey]
          simp only [Sem.run_bind,run_underlying hu,Result.andThen_ok]
          rw [← Array.forIn_toList]
          have:=check_fields ih xs fs.toList 0 k1 hk1 (by omega)
          simp at this ⊢
          rw [this]
          rfl
        · cases h
      · cases h
    · rename_i n el hu
      split at h
      · rename_i k1 hk1
        split at h
        · rename_i hc
          simp only [Option.some.injEq] at h
          subst h
          rw [show toV S.P t xs = .agg xs.toArray by simp [toV,isAggT,hu],Instr.checkKey]
          simp only [Sem.run_bind,run_underlying hu,Result.andThen_ok]
          simp only [Std.Legacy.Range.forIn_eq_forIn_range',Std.Legacy.Range.size,Nat.sub_zero,Nat.add_one_sub_one,Nat.div_one]
          obtain ⟨td,hue⟩:=flatT_under hk1
          obtain ⟨i,hi⟩:=Option.isSome_iff_exists.1 (info_of_underlying hue)
          have hsi : i.size = k1.length:=by have:=hc.1; simpa [Program.cellsOf,hi] using this
          have hsz:=flatT_size hk1
          simp only [List.length_flatten,List.map_replicate,List.sum_replicate_nat] at hl
          have key : ∀ is : List Nat,(∀ j ∈ is,j < n) → (forIn is PUnit.unit fun i _ =>(do
              Instr.checkKey em D el (← Go.part el xs.toArray (i * (← Go.sizeOf el)))
              pure (ForInStep.yield PUnit.unit) : Sem (ForInStep PUnit))).run S.P w = .ok PUnit.unit w:=by
            intro is
            induction is with
            | nil =>intro _; simp
            | cons j is ihs =>
              intro hj
              have hjn:=hj j (by simp)
              have hb : (j + 1) * k1.length ≤ n * k1.length:=Nat.mul_le_mul_right _ (by omega)
              rw [Nat.add_mul,Nat.one_mul] at hb
              have p1:=run_part (P:=S.P) (w:=w) el hue (info_of_underlying hue) xs (j * k1.length) (by rw [hsz]; omega)
              rw [hsz] at p1
              have q:=ih _ _ hk1 ((xs.drop (j * k1.length)).take k1.length) (by simp; omega)
              simp only [List.forIn_cons,Sem.run_bind,sizeOf_run hi,Result.andThen_ok,hc.1,p1,q,Sem.run_pure]
              exact ihs fun y hy =>hj y (by simp [hy])
          have:=key (List.range' 0 n) (by intro j hj; simpa using hj)
          simp at this ⊢
          rw [this]
          rfl
        · cases h
      · cases h
theorem checkKey_run (em : Bool) {kt : TypeId} {kk : KK} (hk : keyT S.P kt = some kk) {k : AV} {x : Value} (hx : VR T eb φ k x) (h : keyIs kk k = true) : (Instr.checkKey em 10000 kt x).run S.P w = .ok () w:=by
  cases kk with
  | sc q =>
    unfold keyT at hk
    split at hk <;> simp only [Option.some.injEq,reduceCtorEq,Option.map_eq_some_iff,and_false,exists_false] at hk
    all_goals
      rename_i hu
      rw [Instr.checkKey]
      simp [run_underlying hu]
  | fl ks =>
    obtain ⟨h1,h2⟩:=keyT_flat hk
    cases k <;> simp only [keyIs,Bool.false_eq_true,beq_iff_eq] at h
    cases hx
    rename_i us _ hv
    have:=checkKey_flat (S:=S) (w:=w) em 8 kt ks h1 10000 (by omega) us.toList (by rw [← hv.length,h])
    simpa [toV,h2] using this
theorem map_turn (hM : MR S.errT eb φ M own w) {id : Nat} {es : List (AV × AV × Nat)} {c : Nat} (hm : M id = some (.map es c)) {es' : List (AV × AV × Nat)} {c' : Nat} {us' : Array MapEntry} (hr : ER S.errT eb φ es' us'.toList) :
    MR S.errT eb φ (applyF M [(id,some (.map es' c'))]) own { w with heap:=w.heap.setIfInBounds (φ.blk id) (.map us' c') } ∧ StepK own w { w with heap:=w.heap.setIfInBounds (φ.blk id) (.map us' c') }:=by
  obtain ⟨us,hw,_⟩:=hM.map hm
  have ho : own (φ.blk id):=hM.own id _ hm trivial trivial
  obtain ⟨g1,g2⟩:=MapKept.heap_set (o':=.map us' c') hw
  refine ⟨?_,rfl,rfl,by simp,fun b hb hn =>g2 b (fun q =>hn (q ▸ ho))⟩
  exact MR.turn hM (n:=id) hm trivial trivial (o':=.map us' c') g1 g2 (show ∃ us,Obj.map us' c' = .map us c' ∧ ER S.errT eb φ es' us.toList from ⟨us',rfl,hr⟩)
theorem map_eff (hM : MR S.errT eb φ M own w) {id : Nat} {es : List (AV × AV × Nat)} {c : Nat} (hm : M id = some (.map es c)) {es' : List (AV × AV × Nat)} {c' : Nat} {us' : Array MapEntry} (hr : ER S.errT eb φ es' us'.toList) {v : AV} {u : Value} (hv : VR S.errT eb φ v u) {r : Result Next}
    (hres : r = .ok (.value u) { w with heap:=w.heap.setIfInBounds (φ.blk id) (.map us' c') } ∨ (r = .ok .skip { w with heap:=w.heap.setIfInBounds (φ.blk id) (.map us' c') } ∧ u = undef)) {foot : List Nat} : OpRes S eb φ own M fresh w { val:=v,foot:=foot,wr:=[(id,some (.map es' c'))] } r:=by
  obtain ⟨h1,h2⟩:=map_turn hM hm (c':=c') hr
  exact ⟨u,φ,_,hres,hv,h1,h2,.refl φ,fun _ h => .inl h⟩
theorem mapAt_some {id : Nat} {r : List (AV × AV × Nat) × Nat} (h : mapAt M id = some r) : M id = some (.map r.1 r.2):=by
  unfold mapAt at h
  split at h
  · rename_i h'; cases h; exact h'
  · cases h
theorem vr_unit : VR S.errT eb φ (.tup []) (.tuple #[]):=.tup [] #[] .nil
theorem pairR (ok : Bool) {a : AV} {u : Value} (b : Bool) (h : VR S.errT eb φ a u) : VR S.errT eb φ (match ok with | true =>AV.tup [a,.bool b] | false =>a) (if ok then .tuple #[u,.bool b] else u):=by
  cases ok
  · exact h
  · exact .tup _ _ (.cons _ _ _ _ h (.cons _ _ _ _ (.bool b) .nil))
theorem lookup_ok {t kt el : TypeId} {kk : KK} {z : AV} (ht : S.P.underlying t = some (.map kt el)) (hk : keyT S.P kt = some kk) (hz : zeroAV S.P el = some z) {x k : Operand} {cx ck : Opd} {ok : Bool} (hx : cOpd x = some cx) (hc : cOpd k = some ck) (hρ : Rho S eb φ ρ f)
    (hM : MR S.errT eb φ M own w) (hs : bstep fresh M (.lookup kk z (f cx) (f ck) ok) = some (p,e)) (hp : p) (ho : o.op = .lookup t x k ok) : OpRes S eb φ own M fresh w e ((execOp ρ o).run S.P w):=by
  have vx:=hρ x cx hx
  have vk:=hρ k ck hc
  obtain ⟨zv,hzr,hzv⟩:=zeroAV_run (S:=S) (eb:=eb) (φ:=φ) (w:=w) hz
  simp only [bstep] at hs
  split at hs
  · rename_i e1
    rw [e1] at vx
    have hvx:=nilm_inv vx
    simp only [Option.some.injEq,Prod.mk.injEq] at hs
    obtain ⟨rfl,rfl⟩:=hs
    refine .quiet hM (u:=if ok then .tuple #[zv,.bool false] else zv) ?_ (pairR ok false hzv)
    have hck:=checkKey_run (S:=S) (w:=w) true hk vk hp
    have hfk:=findKey_run (S:=S) (w:=w) hk (k:=ρ k) (us:=[]) (r:=none) rfl
    simp only [execOp,ho,hvx,Instr.lookup,Sem.run_bind,run_underlying ht,Result.andThen_ok,Sem.run_pure]
    simp [hck,hfk,hzr]
  · rename_i id e1
    rw [e1] at vx
    obtain ⟨hd,hvx⟩:=map_inv vx
    split at hs
    · rename_i es c hm
      have hm':=mapAt_some hm
      obtain ⟨us,hw,hr⟩:=hM.map hm'
      split at hs
      · rename_i i v s hf
        simp only [Option.some.injEq,Prod.mk.injEq] at hs
        obtain ⟨rfl,rfl⟩:=hs
        have hck:=checkKey_run (S:=S) (w:=w) us.isEmpty hk vk hp
        rcases findK_run vk hr hf with ⟨a1,_⟩ | ⟨j,v',s',y,a1,a2,a3,_⟩
        · cases a1
        · cases a1
          have hfk:=findKey_run (S:=S) (w:=w) hk a2
          refine .quiet hM (u:=if ok then .tuple #[y,.bool true] else y) ?_ (pairR ok true a3)
          simp only [execOp,ho,hvx,Instr.lookup,Sem.run_bind,run_underlying ht,Result.andThen_ok,run_getObj_map hw,Sem.run_pure,hck,hfk]
      · rename_i hf
        simp only [Option.some.injEq,Prod.mk.injEq] at hs
        obtain ⟨rfl,rfl⟩:=hs
        have hck:=checkKey_run (S:=S) (w:=w) us.isEmpty hk vk hp
        rcases findK_run vk hr hf with ⟨_,a2⟩ | ⟨j,v',s',y,a1,_⟩
        · have hfk:=findKey_run (S:=S) (w:=w) hk a2
          refine .quiet hM (u:=if ok then .tuple #[zv,.bool false] else zv) ?_ (pairR ok false hzv)
          simp only [execOp,ho,hvx,Instr.lookup,Sem.run_bind,run_underlying ht,Result.andThen_ok,run_getObj_map hw,Sem.run_pure,hck,hfk,hzr]
        · cases a1
      · cases hs
    · cases hs
  · cases hs
theorem mapupd_ok {t kt el : TypeId} {kk : KK} (ht : S.P.underlying t = some (.map kt el)) (hk : keyT S.P kt = some kk) {x k v : Operand} {cx ck cv : Opd} (hx : cOpd x = some cx) (hc : cOpd k = some ck) (hv : cOpd v = some cv) (hρ : Rho S eb φ ρ f)
    (hM : MR S.errT eb φ M own w) (hs : bstep fresh M (.mapupd kk (f cx) (f ck) (f cv)) = some (p,e)) (hp : p) (ho : o.op = .mapUpdate t x k v ∨ o.op = .insert t x k v) : OpRes S eb φ own M fresh w e ((execOp ρ o).run S.P w):=by
  have vx:=hρ x cx hx
  have vk:=hρ k ck hc
  have vv:=hρ v cv hv
  have hex : execOp ρ o = (do Instr.mapUpdate t (ρ x) (ρ k) (ρ v); pure .skip):=by
    rcases ho with h | h <;> simp only [execOp,h]
  rw [hex]
  simp only [bstep] at hs
  split at hs
  · rename_i id e1
    rw [e1] at vx
    obtain ⟨hd,hvx⟩:=map_inv vx
    split at hs
    · rename_i es c hm
      have hm':=mapAt_some hm
      obtain ⟨us,hw,hr⟩:=hM.map hm'
      split at hs
      · rename_i i v0 s hf
        simp only [Option.some.injEq,Prod.mk.injEq] at hs
        obtain ⟨rfl,rfl⟩:=hs
        have hck:=checkKey_run (S:=S) (w:=w) false hk vk hp
        rcases findK_run vk hr hf with ⟨a1,_⟩ | ⟨j,v',s',y,a1,a2,a3,k',x',a4,a5,a6⟩
        · cases a1
        · simp only [Option.some.injEq,Prod.mk.injEq,Nat.zero_add] at a1
          obtain ⟨rfl,rfl,rfl⟩:=a1
          rw [Nat.zero_add] at a2
          have hfk:=findKey_run (S:=S) (w:=w) hk a2
          have a5' : us[i]? = some { key:=x',val:=y,born:=s }:=by simpa using a5
          have hst:=keyThatStays_run (S:=S) (w:=w) a6
          refine map_eff hM hm' (us':=us.modify i fun e => { e with key:=ρ k,val:=ρ v }) ?_ vr_unit (.inr ⟨?_,rfl⟩)
          · rw [Array.toList_modify,modify_set _ _ _ _ a5]
            exact hr.set i _ _ _ _ _ vk vv
          · simp only [hvx,Instr.mapUpdate,Sem.run_bind,run_underlying ht,Result.andThen_ok,run_getObj_map hw,hck,hfk,a5',Option.map_some,Option.getD_some,hst,MapKept.run_setObj_map _ hw,Sem.run_pure]
      · rename_i hf
        simp only [Option.some.injEq,Prod.mk.injEq] at hs
        obtain ⟨rfl,rfl⟩:=hs
        have hck:=checkKey_run (S:=S) (w:=w) false hk vk hp
        rcases findK_run vk hr hf with ⟨_,a2⟩ | ⟨j,v',s',y,a1,_⟩
        · have hfk:=findKey_run (S:=S) (w:=w) hk a2
          refine map_eff hM hm' (us':=us.push { key:=ρ k,val:=ρ v,born:=c }) ?_ vr_unit (.inr ⟨?_,rfl⟩)
          · rw [Array.toList_push]
            exact hr.append (.cons _ _ _ _ _ _ _ vk vv .nil)
          · simp only [hvx,Instr.mapUpdate,Sem.run_bind,run_underlying ht,Result.andThen_ok,run_getObj_map hw,hck,hfk,MapKept.run_setObj_map _ hw,Sem.run_pure]
        · cases a1
      · cases hs
    · cases hs
  · cases hs
theorem mentry_ok {t kt el : TypeId} {kk : KK} {z : AV} (ht : S.P.underlying t = some (.map kt el)) (hk : keyT S.P kt = some kk) (hz : zeroAV S.P el = some z) {x k : Operand} {cx ck : Opd} (hx : cOpd x = some cx) (hc : cOpd k = some ck) (hρ : Rho S eb φ ρ f)
    (hM : MR S.errT eb φ M own w) (hs : bstep fresh M (.mentry kk z (f cx) (f ck)) = some (p,e)) (hp : p) (ho : o.op = .mapEntry t x k) : OpRes S eb φ own M fresh w e ((execOp ρ o).run S.P w):=by
  have vx:=hρ x cx hx
  have vk:=hρ k ck hc
  obtain ⟨zv,hzr,hzv⟩:=zeroAV_run (S:=S) (eb:=eb) (φ:=φ) (w:=w) hz
  have hex : execOp ρ o = (do pure (.value (← Instr.mapEntry t (ρ x) (ρ k)))):=by simp only [execOp,ho]
  rw [hex]
  simp only [bstep] at hs
  split at hs
  · rename_i id e1
    rw [e1] at vx
    obtain ⟨hd,hvx⟩:=map_inv vx
    split at hs
    · rename_i es c hm
      have hm':=mapAt_some hm
      obtain ⟨us,hw,hr⟩:=hM.map hm'
      split at hs
      · rename_i i v0 s hf
        simp only [Option.some.injEq,Prod.mk.injEq] at hs
        obtain ⟨rfl,rfl⟩:=hs
        have hck:=checkKey_run (S:=S) (w:=w) false hk vk hp
        rcases findK_run vk hr hf with ⟨a1,_⟩ | ⟨j,v',s',y,a1,a2,a3,k',x',a4,a5,a6⟩
        · cases a1
        · simp only [Option.some.injEq,Prod.mk.injEq,Nat.zero_add] at a1
          obtain ⟨rfl,rfl,rfl⟩:=a1
          rw [Nat.zero_add] at a2
          have hfk:=findKey_run (S:=S) (w:=w) hk a2
          have a5' : us[i]? = some { key:=x',val:=y,born:=s }:=by simpa using a5
          have hst:=keyThatStays_run (S:=S) (w:=w) a6
          refine map_eff hM hm' (us':=us.modify i fun e => { e with key:=ρ k }) (u:=.tuple #[y,goInt s]) ?_ (.tup _ _ (.cons _ _ _ _ a3 (.cons _ _ _ _ (.int _ _) .nil))) (.inl ?_)
          · rw [Array.toList_modify,modify_set _ _ _ _ a5]
            exact hr.set i _ _ _ _ _ vk a3
          · simp only [hvx,Instr.mapEntry,Sem.run_bind,run_underlying ht,Result.andThen_ok,run_getObj_map hw,hck,hfk,a5',Option.map_some,Option.getD_some,hst,MapKept.run_setObj_map _ hw,Sem.run_pure]
      · rename_i hf
        simp only [Option.some.injEq,Prod.mk.injEq] at hs
        obtain ⟨rfl,rfl⟩:=hs
        have hck:=checkKey_run (S:=S) (w:=w) false hk vk hp
        rcases findK_run vk hr hf with ⟨_,a2⟩ | ⟨j,v',s',y,a1,_⟩
        · have hfk:=findKey_run (S:=S) (w:=w) hk a2
          refine map_eff hM hm' (us':=us.push { key:=ρ k,val:=zv,born:=c }) (u:=.tuple #[zv,goInt c]) ?_ (.tup _ _ (.cons _ _ _ _ hzv (.cons _ _ _ _ (.int _ _) .nil))) (.inl ?_)
          · rw [Array.toList_push]
            exact hr.append (.cons _ _ _ _ _ _ _ vk hzv .nil)
          · simp only [hvx,Instr.mapEntry,Sem.run_bind,run_underlying ht,Result.andThen_ok,run_getObj_map hw,hck,hfk,hzr,MapKept.run_setObj_map _ hw,Sem.run_pure]
        · cases a1
      · cases hs
    · cases hs
  · cases hs
theorem estore_ok {t : TypeId} {x s v : Operand} {cx cs cv : Opd} (hx : cOpd x = some cx) (hc : cOpd s = some cs) (hv : cOpd v = some cv) (hρ : Rho S eb φ ρ f)
    (hM : MR S.errT eb φ M own w) (hs : bstep fresh M (.estore (f cx) (f cs) (f cv)) = some (p,e)) (ho : o.op = .entryStore t x s v) : OpRes S eb φ own M fresh w e ((execOp ρ o).run S.P w):=by
  have vx:=hρ x cx hx
  have vs:=hρ s cs hc
  have vv:=hρ v cv hv
  have hex : execOp ρ o = (do Instr.entryStore t (ρ x) (ρ s) (ρ v); pure .skip):=by simp only [execOp,ho]
  rw [hex]
  simp only [bstep] at hs
  split at hs
  · rename_i id k n e1 e2
    rw [e1] at vx
    rw [e2] at vs
    obtain ⟨hd,hvx⟩:=map_inv vx
    have hvs:=int_inv vs
    split at hs
    · rename_i es c hm
      have hm':=mapAt_some hm
      obtain ⟨us,hw,hr⟩:=hM.map hm'
      split at hs
      · rename_i i hf
        simp only [Option.some.injEq,Prod.mk.injEq] at hs
        obtain ⟨_,rfl⟩:=hs
        rw [hr.findIdx] at hf
        have hf' : us.findIdx? (fun e =>(e.born : Int) == n) = some i:=by
          rw [← hf,← List.findIdx?_toArray,Array.toArray_toList]
        have hi : i < us.toList.length:=(List.findIdx?_eq_some_iff_getElem.1 hf).1
        have hl : i < es.length:=by rw [hr.length]; exact hi
        obtain ⟨x',y',a5,a6,a7⟩:=hr.get i es[i].1 es[i].2.1 es[i].2.2 (by simp [hl])
        refine map_eff hM hm' (us':=us.modify i fun e => { e with val:=ρ v }) ?_ vr_unit (.inr ⟨?_,rfl⟩)
        · rw [Array.toList_modify,modify_set _ _ _ _ a5,modify_set _ _ _ es[i] (by simp [hl])]
          exact hr.set i _ _ _ _ _ a6 vv
        · simp only [hvx,hvs,Instr.entryStore,asInt,asIntOf,Sem.run_bind,Sem.run_pure,Result.andThen_ok,run_getObj_map hw,hf',MapKept.run_setObj_map _ hw]
      · cases hs
    · cases hs
  · cases hs
theorem mdel_ok {t kt el : TypeId} {kk : KK} (ht : S.P.underlying t = some (.map kt el)) (hk : keyT S.P kt = some kk) {x k : Operand} {cx ck : Opd} (hx : cOpd x = some cx) (hc : cOpd k = some ck) (hρ : Rho S eb φ ρ f)
    (hM : MR S.errT eb φ M own w) (hs : bstep fresh M (.mdel kk (f cx) (f ck)) = some (p,e)) (hp : p) {us : Array TypeId} {rt : TypeId}
    (hres : (execOp ρ o).run S.P w = ((Builtin.delete_ us rt #[ρ x,ρ k]).run S.P w).andThen fun v w' => .ok (.value v) w') (hus : us[0]? = some t) : OpRes S eb φ own M fresh w e ((execOp ρ o).run S.P w):=by
  have vx:=hρ x cx hx
  have vk:=hρ k ck hc
  rw [hres]
  simp only [bstep] at hs
  split at hs
  · rename_i id e1
    rw [e1] at vx
    obtain ⟨hd,hvx⟩:=map_inv vx
    split at hs
    · rename_i es c hm
      have hm':=mapAt_some hm
      obtain ⟨us,hw,hr⟩:=hM.map hm'
      split at hs
      · rename_i i v0 s hf
        simp only [Option.some.injEq,Prod.mk.injEq] at hs
        obtain ⟨rfl,rfl⟩:=hs
        have hck:=checkKey_run (S:=S) (w:=w) us.isEmpty hk vk hp
        rcases findK_run vk hr hf with ⟨a1,_⟩ | ⟨j,v',s',y,a1,a2,a3,k',x',a4,a5,a6⟩
        · cases a1
        · simp only [Option.some.injEq,Prod.mk.injEq,Nat.zero_add] at a1
          obtain ⟨rfl,rfl,rfl⟩:=a1
          rw [Nat.zero_add] at a2
          have hfk:=findKey_run (S:=S) (w:=w) hk a2
          refine map_eff hM hm' (us':=us.eraseIdxIfInBounds i) ?_ vr_unit (.inl ?_)
          · rw [Array.toList_eraseIdxIfInBounds]
            exact hr.eraseIdx i
          · simp [hvx,Builtin.delete_,hus,run_underlying ht,run_getObj_map hw,hck,hfk,MapKept.run_setObj_map _ hw]
      · rename_i hf
        simp only [Option.some.injEq,Prod.mk.injEq] at hs
        obtain ⟨rfl,rfl⟩:=hs
        have hck:=checkKey_run (S:=S) (w:=w) us.isEmpty hk vk hp
        rcases findK_run vk hr hf with ⟨_,a2⟩ | ⟨j,v',s',y,a1,_⟩
        · have hfk:=findKey_run (S:=S) (w:=w) hk a2
          have hset : ({ w with heap:=w.heap.setIfInBounds (φ.blk id) (.map us c) } : World) = w:=by
            have hlt:=(Array.getElem?_eq_some_iff.1 hw).1
            have : w.heap.setIfInBounds (φ.blk id) (.map us c) = w.heap:=by
              refine Array.ext_getElem? fun j => ?_
              by_cases hj : j = φ.blk id
              · subst hj; rw [hw]; simp [hlt]
              · rw [Array.getElem?_setIfInBounds_ne (Ne.symm hj)]
            rw [this]
          refine .quiet hM (u:=.tuple #[]) ?_ vr_unit
          simp [hvx,Builtin.delete_,hus,run_underlying ht,run_getObj_map hw,hck,hfk,MapKept.run_setObj_map _ hw,hset]
        · cases a1
      · cases hs
    · cases hs
  · rename_i e1
    rw [e1] at vx
    have hvx:=nilm_inv vx
    simp only [Option.some.injEq,Prod.mk.injEq] at hs
    obtain ⟨rfl,rfl⟩:=hs
    have hck:=checkKey_run (S:=S) (w:=w) true hk vk hp
    refine .quiet hM (u:=.tuple #[]) ?_ vr_unit
    simp [hvx,Builtin.delete_,hus,run_underlying ht,hck]
  · cases hs
end AH
set_option linter.unusedSimpArgs false
namespace AH
open Go
variable {S : Sys} {eb : Nat → Addr} {φ : Emb} {M : Nat → Option Blk} {own : Nat → Prop} {w : World} {ρ : Operand → Value} {f : Opd → AV} {o : Oper} {fresh : Nat} {p : Prop} {e : Eff}
variable {T : TypeId}
theorem flatten_sing {α β : Type} (g : α → β) : ∀ l : List α,(l.map fun c => [g c]).flatten = l.map g
  | [] =>rfl
  | a :: l =>by simp [flatten_sing g l]
structure Row (S : Sys) (eb : Nat → Addr) (φ : Emb) (w : World) (k : Nat) (xs : List (List AV)) (base : Option Addr) (us : List Value) : Prop where
  len : us.length = xs.length * k
  vrs : VRs S.errT eb φ xs.flatten us
  one : ∀ u ∈ us,u.oneCell' = true
  at_ : (base = none ∧ xs = []) ∨ ∃ a,base = some a ∧ ∀ j u,us[j]? = some u → w.cell? (a.add j) = some u
  each : ∀ x ∈ xs,x.length = k
theorem sliceElems_run (hM : MR S.errT eb φ M own w) {k : Nat} {v : AV} {u : Value} {q : Prop} {fs : List Nat} {xs : List (List AV)} (h : sliceElems k M v = some (q,fs,xs)) (hq : q) (hv : VR S.errT eb φ v u) :
    ∃ base c us,u = .slice base xs.length c ∧ Row S eb φ w k xs base us:=by
  cases v <;> simp only [sliceElems,reduceCtorEq] at h
  case nils =>
    simp only [Option.some.injEq,Prod.mk.injEq] at h
    obtain ⟨_,_,rfl⟩:=h
    have:=nils_inv hv
    exact ⟨none,0,[],this,⟨by simp,.nil,by simp,.inl ⟨rfl,rfl⟩,by simp⟩⟩
  case slc id ix len cap =>
    split at h
    · rename_i ro kk es hrow
      split at h
      · rename_i hkk
        subst hkk
        simp only [Option.some.injEq,Prod.mk.injEq] at h
        obtain ⟨rfl,_,rfl⟩:=h
        obtain ⟨hk,hm⟩:=rowAt_k hM hrow
        obtain ⟨us,h1,h2,h3,h4⟩:=hM.range hm ix len hq
        have hlen : ((es.drop ix).take len).length = len:=by simp; omega
        have heach : ∀ x ∈ (es.drop ix).take len,x.length = kk:=fun x hx =>hM.lens hm x (List.mem_of_mem_drop (List.mem_of_mem_take hx))
        obtain ⟨hd,hu⟩:=slc_inv hv
        rcases hu with ⟨c,rfl,_,_,_⟩ | ⟨ad,rfl,rfl,_⟩
        · refine ⟨_,c,us,by rw [hlen],⟨by rw [hlen,h1],h2,h3,.inr ⟨_,rfl,fun j x hx => ?_⟩,heach⟩⟩
          rw [add_lit]
          exact h4 j x hx
        · refine ⟨ad,0,[],by simp,⟨by simp,by simp; exact .nil,by simp,?_,by simp⟩⟩
          cases ad with
          | none =>exact .inl ⟨rfl,by simp⟩
          | some a =>exact .inr ⟨a,rfl,by simp⟩
      · cases h
    · cases h
  case isl id ix sub len =>
    split at h
    · rename_i ro kk es hrow
      split at h
      · rename_i hkk
        subst hkk
        simp only [Option.some.injEq,Prod.mk.injEq] at h
        obtain ⟨rfl,_,rfl⟩:=h
        obtain ⟨hk,hm⟩:=rowAt_k hM hrow
        obtain ⟨hk',hl,us,h1,h2,h3,h4⟩:=hM.elems hm hq.1
        obtain ⟨hd,c,hc,rfl⟩:=isl_inv hv
        have hlen : (((es.getD ix []).drop sub).take len).length = len:=by simp only [List.length_take,List.length_drop,hl]; omega
        refine ⟨_,c,(us.drop sub).take len,by rw [List.length_map,hlen],⟨by rw [List.length_map,hlen]; simp; omega,?_,?_,.inr ⟨_,rfl,?_⟩,?_⟩⟩
        · rw [flatten_sing,List.map_id']
          exact (h2.drop sub).take len
        · exact fun u hu =>h3 u (List.mem_of_mem_drop (List.mem_of_mem_take hu))
        · intro j x hx
          rw [List.getElem?_take] at hx
          split at hx
          · rw [List.getElem?_drop] at hx
            rw [add_lit,show φ.base id + ix * φ.k id + sub + j = φ.base id + ix * φ.k id + (sub + j) by omega]
            exact h4 _ x hx
          · cases hx
        · intro x hx
          simp only [List.mem_map] at hx
          obtain ⟨y,_,rfl⟩:=hx
          rfl
      · cases h
    · cases h
theorem Row.first {k : Nat} {xs : List (List AV)} {base : Option Addr} {us : List Value} (h : Row S eb φ w k xs base us) (c l : Nat) {w' : World} (hw : w'.heap = w.heap) :
    (Builtin.firstCells k xs.length (.slice base l c)).run S.P w' = .ok us.toArray w':=by
  rcases h.at_ with ⟨rfl,rfl⟩ | ⟨a,rfl,ha⟩
  · have : us = []:=by have:=h.len; simp at this; exact List.eq_nil_of_length_eq_zero (by simp [this])
    subst this
    simp [Builtin.firstCells]
  · refine run_firstCells_some (P:=S.P) w' k xs.length a l c us h.len fun j v hj => ?_
    have:=ha j v hj
    simpa [World.cell?,hw] using this
theorem flatten_get : ∀ {xs : List (List AV)} {k i : Nat} {el : List AV},(∀ x ∈ xs,x.length = k) → xs[i]? = some el → (xs.flatten.drop (i * k)).take k = el
  | [],k,i,el,_,h =>by simp at h
  | x :: xs,k,0,el,hk,h =>by
    simp at h
    subst h
    have:=hk x (by simp)
    simp [← this]
  | x :: xs,k,i + 1,el,hk,h =>by
    have hx:=hk x (by simp)
    have ih:=flatten_get (xs:=xs) (i:=i) (fun y hy =>hk y (by simp [hy])) (by simpa using h)
    rw [List.flatten_cons,List.drop_append,List.drop_eq_nil_of_le (by rw [hx,Nat.add_mul]; omega),List.nil_append,hx,show (i + 1) * k - k = i * k by rw [Nat.add_mul]; omega]
    exact ih
theorem flatten_len {xs : List (List AV)} {k : Nat} (h : ∀ x ∈ xs,x.length = k) : xs.flatten.length = xs.length * k:=by
  induction xs with
  | nil =>simp
  | cons x xs ih =>
    simp only [List.flatten_cons,List.length_append,List.length_cons,Nat.add_mul,Nat.one_mul]
    rw [ih fun y hy =>h y (by simp [hy]),h x (by simp)]
    omega
theorem br_row {n k : Nat} {xs : List (List AV)} {us : List Value} {et : TypeId} {fr : Nat × Nat} {more : Array Value} (φ' : Emb) (h1 : φ'.k n = k) (h2 : φ'.base n = 0) (h3 : φ'.size n = us.length + more.size) (hl : us.length = xs.length * k)
    (hv : VRs S.errT eb φ' xs.flatten us) (hone : ∀ u ∈ us,u.oneCell' = true) (heach : ∀ x ∈ xs,x.length = k) (hfr : us.length + more.size ≤ fr.1 ∨ fr = (0,0)) {ro : Bool} :
    BR S.errT eb φ' n (.row ro k xs) (.cells (us.toArray ++ more) et fr):=by
  refine ⟨_,et,fr,rfl,h1,by simp [h3],by rw [h2]; simp; omega,fun _ p hp => ?_,?_⟩
  · simp at hp
    rcases hfr with h | h
    · omega
    · subst h; simp
  · intro i el hi
    refine ⟨heach el (List.mem_of_getElem? hi),?_⟩
    rw [h2,Nat.zero_add]
    have hil:=(List.getElem?_eq_some_iff.1 hi).1
    have hb : (i + 1) * k ≤ xs.length * k:=Nat.mul_le_mul_right _ (by omega)
    rw [Nat.add_mul,Nat.one_mul] at hb
    refine cellsAt_of_list (us:=(us.drop (i * k)).take k) ?_ (fun u hu =>hone u (List.mem_of_mem_drop (List.mem_of_mem_take hu))) ?_
    · rw [← flatten_get heach hi]
      exact (hv.drop (i * k)).take k
    · intro j u hu
      rw [List.getElem?_take] at hu
      split at hu
      · rw [List.getElem?_drop] at hu
        rw [Array.getElem?_append_left (by simp; omega)]
        simpa using hu
      · cases hu
theorem s2b_ok {s d el : TypeId} (hs' : S.P.underlying s = some .string) (hd' : S.P.underlying d = some (.slice el)) (he : S.P.underlying el = some (.int .u8)) {x : Operand} {cx : Opd} (hx : cOpd x = some cx) (hρ : Rho S eb φ ρ f)
    (hM : MR S.errT eb φ M own w) (hk : ∀ b,w.heap.size ≤ b → own b) (hf : fresh ∈ e.foot → ¬ φ.dom fresh) (hs : bstep fresh M (.s2b (f cx)) = some (p,e)) (ho : o.op = .convert s d x) : OpRes S eb φ own M fresh w e ((execOp ρ o).run S.P w):=by
  have vx:=hρ x cx hx
  simp only [bstep] at hs
  split at hs
  · rename_i b hb
    rw [hb] at vx
    have hv:=str_inv vx
    simp only [Option.some.injEq,Prod.mk.injEq] at hs
    obtain ⟨_,rfl⟩:=hs
    have hrun:=run_bytes_of_string (P:=S.P) w s d el b hs' hd' he
    have hge:=grownCap_ge w b.size 0 el
    have hsz : b.data.size = b.size:=rfl
    refine new_run hM hk (hf (by simp)) (w1:=w.drew) rfl .drew (k:=1) (size:=b.data.size + (grownCap w b.size 0 el - b.size)) (v:=.slc fresh 0 b.size none) (u:=.slice (some ⟨w.heap.size,0,none⟩) b.size (grownCap w b.size 0 el)) (by simp)
      (ob:=.cells (bytesRow b (grownCap w b.size 0 el)) el ((bytesRow b (grownCap w b.size 0 el)).size,(bytesRow b (grownCap w b.size 0 el)).size + 1)) ?_ ?_ ?_
    · have hrow : bytesRow b (grownCap w b.size 0 el) = ((b.data.toList.map fun c =>Value.int .u8 c.toNat)).toArray ++ Array.replicate (grownCap w b.size 0 el - b.size) (.int .u8 0):=by
        rw [bytesRow]; congr 1; apply Array.ext'; simp
      rw [hrow]
      refine br_row (S:=S) _ (by simp [Emb.add]) (by simp [Emb.add]) (by simp [Emb.add]) (by simp) ?_ ?_ ?_ (.inl (by simp))
      · rw [flatten_sing]
        refine .of_get (by simp) fun i a c ha hc => ?_
        simp only [List.getElem?_map,Option.map_eq_some_iff] at ha hc
        obtain ⟨q,hq,rfl⟩:=ha
        obtain ⟨q',hq',rfl⟩:=hc
        rw [hq] at hq'
        cases hq'
        exact .int _ _
      · intro u hu
        simp at hu
        obtain ⟨q,_,rfl⟩:=hu
        rfl
      · intro x hx
        simp at hx
        obtain ⟨q,_,rfl⟩:=hx
        rfl
    · have:=VR.slc (T:=S.errT) (eb:=eb) (φ:=φ.add fresh w.heap.size 0 1 (b.data.size + (grownCap w b.size 0 el - b.size))) fresh 0 b.size none (grownCap w b.size 0 el) (.inr rfl) hge (by simp) (by simp [Emb.add]; omega)
      simpa [Emb.add] using this
    · simp only [execOp,ho,hv,Sem.run_bind,hrun,Result.andThen_ok,Sem.run_pure]
  · cases hs
theorem bytesOf_ints : ∀ {es : List (List AV)} {l : List UInt8},bytesOf es = some l → ∃ ns : List Int,es = ns.map (fun n => [AV.int .u8 n]) ∧ l = ns.map fun n =>UInt8.ofNat n.toNat
  | [],l,h =>by simp [bytesOf] at h; subst h; exact ⟨[],rfl,rfl⟩
  | x :: r,l,h =>by
    unfold bytesOf at h
    split at h
    · rename_i heq; cases heq
    · rename_i n r' heq
      cases heq
      simp only [Option.map_eq_some_iff] at h
      obtain ⟨l',h1,rfl⟩:=h
      obtain ⟨ns,rfl,rfl⟩:=bytesOf_ints h1
      exact ⟨n :: ns,rfl,rfl⟩
    · cases h
theorem foldl_push (ns : List Int) : ∀ r : ByteArray,ns.foldl (fun r n =>r.push (UInt8.ofNat n.toNat)) r = ⟨r.data ++ (ns.map fun n =>UInt8.ofNat n.toNat).toArray⟩:=by
  induction ns with
  | nil =>intro r; simp
  | cons n ns ih =>
    intro r
    rw [List.foldl_cons,ih]
    simp [ByteArray.push]
theorem ints_vrs : ∀ {ns : List Int} {us : List Value},VRs S.errT eb φ (ns.map (AV.int .u8)) us → us = ns.map (Value.int .u8)
  | [],_,h =>by cases h; rfl
  | n :: ns,_,h =>by
    cases h
    rename_i u us h1 h2
    rw [int_inv h1,ints_vrs h2]
    rfl
theorem b2s_ok {s d el : TypeId} (hs' : S.P.underlying s = some (.slice el)) (hd' : S.P.underlying d = some .string) (he : S.P.underlying el = some (.int .u8)) {x : Operand} {cx : Opd} (hx : cOpd x = some cx) (hρ : Rho S eb φ ρ f)
    (hM : MR S.errT eb φ M own w) (hs : bstep fresh M (.b2s (f cx)) = some (p,e)) (hp : p) (ho : o.op = .convert s d x) : OpRes S eb φ own M fresh w e ((execOp ρ o).run S.P w):=by
  have vx:=hρ x cx hx
  simp only [bstep] at hs
  split at hs
  · rename_i q fs es hse
    split at hs
    · rename_i l hl
      simp only [Option.some.injEq,Prod.mk.injEq] at hs
      obtain ⟨rfl,rfl⟩:=hs
      obtain ⟨ns,rfl,rfl⟩:=bytesOf_ints hl
      obtain ⟨base,c,us,hu,hr⟩:=sliceElems_run hM hse hp vx
      have hv:=hr.vrs
      rw [flatten_sing] at hv
      have hus:=ints_vrs hv
      have hlen:=hr.len
      refine .quiet hM (u:=.string ⟨(ns.map fun n =>UInt8.ofNat n.toNat).toArray⟩) ?_ (.str _)
      have hrun : (Conv.bytesToString (.slice base ns.length c)).run S.P w = .ok (.string ⟨(ns.map fun n =>UInt8.ofNat n.toNat).toArray⟩) w:=by
        rcases hr.at_ with ⟨rfl,hnil⟩ | ⟨a,rfl,ha⟩
        · have : ns = []:=by simpa using hnil
          subst this
          simp [Conv.bytesToString]
          rfl
        · have hload : (loadCells a ns.length).run S.P w = .ok (ns.map (Value.int .u8)).toArray w:=by
            have:=run_loadCells_list (P:=S.P) w a us ha
            rw [hus] at this
            simpa using this
          rw [run_bytesToString (P:=S.P) w a ns.length c ns hload,foldl_push,show ByteArray.empty.data = #[] from rfl]
          simp
      rw [List.length_map] at hu
      have hcv:=run_convert_bytes_string (P:=S.P) w s d el base ns.length c hs' he hd'
      simp only [execOp,ho,hu,Sem.run_bind,hcv,hrun,Result.andThen_ok,Sem.run_pure]
    · cases hs
  · cases hs
end AH
set_option linter.unusedSimpArgs false
namespace AH
open Go
variable {S : Sys} {eb : Nat → Addr} {φ : Emb} {M : Nat → Option Blk} {own : Nat → Prop} {w : World} {ρ : Operand → Value} {f : Opd → AV} {o : Oper} {fresh : Nat} {p : Prop} {e : Eff}
variable {T : TypeId}
theorem append_grows {t u ty el : TypeId} {i : TypeInfo} {z : Value} (ht : S.P.underlying t = some (.slice el)) {el' : TypeId} (hu : S.P.underlying u = some (.slice el')) (hi : S.P.info? el = some i) (hz : i.zero = some z)
    {b1 b2 : Option Addr} {c1 c2 : Nat} {xs ys : List (List AV)} {us vs : List Value} (hx : Row S eb φ w i.size xs b1 us) (hy : Row S eb φ w i.size ys b2 vs) (hg : c1 < xs.length + ys.length)
    (hb : (xs.length + ys.length) * i.bytes ≤ 140737488355328) (h63 : xs.length + ys.length ≤ 9223372036854775807) :
    (Builtin.append_ #[t,u] ty #[.slice b1 xs.length c1,.slice b2 ys.length c2]).run S.P w =
      .ok (.slice (some ⟨w.heap.size,0,none⟩) (xs.length + ys.length) (grownCap w (xs.length + ys.length) c1 el))
        (w.drew.alloc (.cells ((us ++ vs).toArray ++ Builtin.zeroCells z.cells (grownCap w (xs.length + ys.length) c1 el - (xs.length + ys.length))) el)):=by
  have hn : ¬ (xs.length + ys.length ≤ c1):=by omega
  have h63' : ¬ (9223372036854775807 < ((xs.length : Int) + (ys.length : Int))):=by omega
  have h48' : ¬ (281474976710656 < Builtin.nextslicecap (xs.length + ys.length) c1 * i.bytes):=by have:=growslice_fits hg hb; omega
  have hf:=hy.first c2 ys.length (w':=w.drew) rfl
  have hfo:=hx.first c1 xs.length (w':=w.drew) rfl
  simp [Builtin.append_,run_underlying ht,run_underlying hu,Go.sizeOf,typeInfo,zeroValue,hi,hz,Builtin.lenOf,hn,h63',h48',Question.forced,hf,hfo,newRow,grownCap]
  rw [show (us ++ vs).toArray = us.toArray ++ vs.toArray by simp,Array.append_assoc]
theorem append_room {t u ty el : TypeId} {i : TypeInfo} (ht : S.P.underlying t = some (.slice el)) {el' : TypeId} (hu : S.P.underlying u = some (.slice el')) (hi : S.P.info? el = some i)
    {b off n1 : Nat} {b2 : Option Addr} {c1 c2 : Nat} {ys : List (List AV)} {vs : List Value} (hy : Row S eb φ w i.size ys b2 vs) (hg : n1 + ys.length ≤ c1)
    (hc : ∀ j,j < vs.length → (w.cell? ⟨b,off + n1 * i.size + j,none⟩).isSome = true) (hf : ∀ j,j < vs.length → w.frozen? ⟨b,off + n1 * i.size + j,none⟩ = false) :
    (Builtin.append_ #[t,u] ty #[.slice (some ⟨b,off,none⟩) n1 c1,.slice b2 ys.length c2]).run S.P w = .ok (.slice (some ⟨b,off,none⟩) (n1 + ys.length) c1) (w.setCells b (off + n1 * i.size) vs):=by
  have hfc:=hy.first c2 ys.length (w':=w) rfl
  have hst:=run_storeCells_cells (P:=S.P) b (off + n1 * i.size) vs 0 w (by simpa using hc) (by simpa using hf) hy.one
  simp only [Nat.add_zero] at hst
  simp [Builtin.append_,run_underlying ht,run_underlying hu,Go.sizeOf,typeInfo,hi,Builtin.lenOf,hg,hfc,add_lit,hst]
theorem append_none {t u ty el : TypeId} {i : TypeInfo} (ht : S.P.underlying t = some (.slice el)) {el' : TypeId} (hu : S.P.underlying u = some (.slice el')) (hi : S.P.info? el = some i)
    {b1 b2 : Option Addr} {n1 c1 c2 : Nat} {vs : List Value} (hy : Row S eb φ w i.size [] b2 vs) (hg : n1 ≤ c1) :
    (Builtin.append_ #[t,u] ty #[.slice b1 n1 c1,.slice b2 0 c2]).run S.P w = .ok (.slice b1 n1 c1) w:=by
  have hfc:=hy.first c2 0 (w':=w) rfl
  have hvs : vs = []:=by have:=hy.len; simp at this; exact List.eq_nil_of_length_eq_zero (by simp [this])
  subst hvs
  simp only [List.length_nil] at hfc
  cases b1 <;> simp [Builtin.append_,run_underlying ht,run_underlying hu,Go.sizeOf,typeInfo,hi,Builtin.lenOf,hg,hfc,storeCells]
theorem Row.append {k : Nat} {xs ys : List (List AV)} {b1 b2 : Option Addr} {us vs : List Value} (hx : Row S eb φ w k xs b1 us) (hy : Row S eb φ w k ys b2 vs) :
    (us ++ vs).length = (xs ++ ys).length * k ∧ VRs S.errT eb φ (xs ++ ys).flatten (us ++ vs) ∧ (∀ u ∈ us ++ vs,u.oneCell' = true) ∧ ∀ x ∈ xs ++ ys,x.length = k:=by
  refine ⟨by simp [hx.len,hy.len,Nat.add_mul],by rw [List.flatten_append]; exact hx.vrs.append hy.vrs,fun u hu => ?_,fun x hx' => ?_⟩
  · rcases List.mem_append.1 hu with h | h
    · exact hx.one u h
    · exact hy.one u h
  · rcases List.mem_append.1 hx' with h | h
    · exact hx.each x h
    · exact hy.each x h
theorem grow_res (hM : MR S.errT eb φ M own w) (hk : ∀ b,w.heap.size ≤ b → own b) (hf : ¬ φ.dom fresh) {k : Nat} {xs : List (List AV)} {us : List Value} (hl : us.length = xs.length * k) (hv : VRs S.errT eb φ xs.flatten us) (hone : ∀ u ∈ us,u.oneCell' = true) (heach : ∀ x ∈ xs,x.length = k)
    {el : TypeId} {z : Value} (hzk : z.cells.size = k) {cap : Nat} (hcap : xs.length ≤ cap) {r : Result Next} {foot : List Nat} (hfoot : fresh ∈ foot)
    (hr : r = .ok (.value (.slice (some ⟨w.heap.size,0,none⟩) xs.length cap)) (w.drew.alloc (.cells (us.toArray ++ Builtin.zeroCells z.cells (cap - xs.length)) el))) :
    OpRes S eb φ own M fresh w { val:=.slc fresh 0 xs.length none,foot:=foot,wr:=[(fresh,some (.row false k xs))] } r:=by
  have hzs : (Builtin.zeroCells z.cells (cap - xs.length)).size = (cap - xs.length) * k:=by rw [← hzk]; simp [Builtin.zeroCells]
  have ext:=Emb.add_ext (φ:=φ) (b:=w.heap.size) (base:=0) (k:=k) (size:=cap * k) hf
  have hsum : us.length + (Builtin.zeroCells z.cells (cap - xs.length)).size = cap * k:=by rw [hzs,hl,← Nat.add_mul]; congr 1; omega
  refine new_run hM hk hf (w1:=w.drew) rfl .drew (k:=k) (size:=cap * k) hfoot (br_row (S:=S) _ (by simp [Emb.add]) (by simp [Emb.add]) (by simp [Emb.add,hsum]) hl (hv.mono ext) hone heach (.inr rfl)) ?_ hr
  have:=VR.slc (T:=S.errT) (eb:=eb) (φ:=φ.add fresh w.heap.size 0 k (cap * k)) fresh 0 xs.length none cap (.inr rfl) hcap (by simp) (by simp [Emb.add])
  simpa [Emb.add] using this
theorem OpRes.foot {v : AV} {wr : List (Nat × Option Blk)} {f1 f2 : List Nat} {r : Result Next} (h : OpRes S eb φ own M fresh w { val:=v,foot:=f1,wr:=wr } r) : OpRes S eb φ own M fresh w { val:=v,foot:=f2,wr:=wr } r:=by
  obtain ⟨u,φ',w',h1,h2,h3,h4,h5,h6⟩:=h
  exact ⟨u,φ',w',h1,h2,h3,h4,h5,h6⟩
theorem row_cells (hM : MR S.errT eb φ M own w) {id k : Nat} {es : List (List AV)} (hm : M id = some (.row false k es)) {o n : Nat} (hfit : o + n ≤ φ.size id) :
    (∀ j,j < n → (w.cell? ⟨φ.blk id,o + j,none⟩).isSome = true) ∧ (∀ j,j < n → w.frozen? ⟨φ.blk id,o + j,none⟩ = false):=by
  refine ⟨fun j hj => ?_,fun j hj => ?_⟩
  all_goals obtain ⟨ob,hob,arr,et,fr,rfl,hk,hz,hsz,hfr,hel⟩:=hM.blk id _ hm (.inr (.inl (by omega)))
  · have : o + j < arr.size:=by omega
    simp [World.cell?,hob,Array.getElem?_eq_getElem this]
  · have:=hfr rfl (o + j) (by omega)
    simp only [World.frozen?,hob]
    simpa using this
theorem rename_row (hM : MR S.errT eb φ M own w) (hf : ¬ φ.dom fresh) {id k : Nat} {es : List (List AV)} (hm : M id = some (.row false k es)) {o : Nat} {vs : List Value} {base : Nat} {xs : List (List AV)}
    (hbase : base + xs.length * k ≤ φ.size id) (hvs : o + vs.length ≤ φ.size id) (hk0 : 0 < k)
    (hel : ∀ (arr : Array Value),arr.size = φ.size id → (∀ (i : Nat) el,es[i]? = some el → el.length = k ∧ CellsAt S.errT eb φ arr (φ.base id + i * k) el) → ∀ (i : Nat) el,xs[i]? = some el → el.length = k ∧ CellsAt S.errT eb φ (arrSet arr o vs) (base + i * k) el) :
    MR S.errT eb (φ.add fresh (φ.blk id) base k (φ.size id)) (applyF M [(id,none),(fresh,some (.row false k xs))]) own (w.setCells (φ.blk id) o vs) ∧ StepK own w (w.setCells (φ.blk id) o vs):=by
  have ext:=Emb.add_ext (φ:=φ) (b:=φ.blk id) (base:=base) (k:=k) (size:=φ.size id) hf
  have hdom:=hM.dom id _ hm
  have hne : ∀ {i b},applyF M [(id,none),(fresh,some (.row false k xs))] i = some b → i ≠ fresh → i ≠ id ∧ M i = some b:=by
    intro i b hb hi
    simp only [applyF,if_neg hi] at hb
    by_cases h : i = id
    · simp [h] at hb
    · simp only [if_neg h] at hb; exact ⟨h,hb⟩
  have sol : ∀ {i : Nat} {b : Blk},M i = some b → b.solid (φ.add fresh (φ.blk id) base k (φ.size id)) i → b.solid φ i:=fun hb hs =>(Blk.solid_ext ext (hM.dom _ _ hb)).1 hs
  rcases Nat.eq_zero_or_pos (φ.size id) with h0 | h0
  · have hvs0 : vs = []:=List.eq_nil_of_length_eq_zero (by omega)
    have hxs0 : xs = []:=by
      refine List.eq_nil_of_length_eq_zero ?_
      have : xs.length * k = 0:=by omega
      rcases Nat.mul_eq_zero.1 this with q | q
      · exact q
      · omega
    subst hvs0 hxs0
    have nosol : ¬ (Blk.row false k []).solid (φ.add fresh (φ.blk id) base k (φ.size id)) fresh:=by
      simp only [Blk.solid,Emb.add,if_true,h0]
      rintro (q | q | q)
      · exact q rfl
      · omega
      · omega
    refine ⟨⟨?_,?_,?_,?_,?_⟩,.refl⟩
    · intro i b hb
      by_cases hi : i = fresh
      · exact .inr hi
      · exact .inl (hM.dom i b (hne hb hi).2)
    · intro i ro k' es' hb
      by_cases hi : i = fresh
      · subst hi
        simp only [applyF,if_true,Option.some.injEq,Blk.row.injEq] at hb
        simp only [Emb.add,if_true]
        exact hb.2.1
      · simp only [Emb.add,if_neg hi]
        exact hM.kk i ro k' es' (hne hb hi).2
    · intro i b hb hs
      by_cases hi : i = fresh
      · subst hi
        simp only [applyF,if_true,Option.some.injEq] at hb
        subst hb
        exact absurd hs nosol
      · obtain ⟨h1,h2⟩:=hne hb hi
        obtain ⟨ob',h3,h4⟩:=hM.blk i b h2 (sol h2 hs)
        refine ⟨ob',?_,h4.mono ext (hM.dom i b h2)⟩
        simp only [Emb.add,if_neg hi]
        exact h3
    · intro i b hb hr hs
      by_cases hi : i = fresh
      · subst hi
        simp only [applyF,if_true,Option.some.injEq] at hb
        subst hb
        exact absurd hs nosol
      · have h2:=(hne hb hi).2
        have hs':=sol h2 hs
        simp only [Emb.add,if_neg hi]
        exact hM.own i b h2 hr hs'
    · intro i j b b' hb hb' hij hr hs hs2
      by_cases hi : i = fresh
      · subst hi
        simp only [applyF,if_true,Option.some.injEq] at hb
        subst hb
        exact absurd hs nosol
      · by_cases hj : j = fresh
        · subst hj
          simp only [applyF,if_true,Option.some.injEq] at hb'
          subst hb'
          exact absurd hs2 nosol
        · have h2:=(hne hb hi).2
          have g2:=(hne hb' hj).2
          have hs':=sol h2 hs
          have hs2':=sol g2 hs2
          simp only [Emb.add,if_neg hi,if_neg hj]
          exact hM.inj i j b b' h2 g2 hij hr hs' hs2'
  have hsol : (Blk.row false k es).solid φ id:=.inr (.inl h0)
  have hown:=hM.own id _ hm rfl hsol
  obtain ⟨ob,hob,arr,et,fr,rfl,hk,hz,hsz,hfr,hcell⟩:=hM.blk id _ hm hsol
  refine ⟨?_,.setCells hown _ _⟩
  refine ⟨?_,?_,?_,?_,?_⟩
  · intro i b hb
    by_cases hi : i = fresh
    · exact .inr hi
    · exact .inl (hM.dom i b (hne hb hi).2)
  · intro i ro k' es' hb
    by_cases hi : i = fresh
    · subst hi
      simp only [applyF,if_true,Option.some.injEq,Blk.row.injEq] at hb
      simp only [Emb.add,if_true]
      exact hb.2.1
    · simp only [Emb.add,if_neg hi]
      exact hM.kk i ro k' es' (hne hb hi).2
  · intro i b hb hs
    by_cases hi : i = fresh
    · subst hi
      simp only [applyF,if_true,Option.some.injEq] at hb
      subst hb
      refine ⟨.cells (arrSet arr o vs) et fr,by simpa [Emb.add] using heap_setCells (φ.blk id) et fr vs o w arr hob,_,et,fr,rfl,by simp [Emb.add],by simp [Emb.add,arrSet_size,hz],by simp [Emb.add,arrSet_size]; omega,
        fun _ p hp =>hfr rfl p (by rw [arrSet_size] at hp; exact hp),fun j el hj => ?_⟩
      obtain ⟨g1,g2⟩:=hel arr hz hcell j el hj
      refine ⟨g1,fun q v hv => ?_⟩
      obtain ⟨u,h1,h2,h3⟩:=g2 q v hv
      exact ⟨u,by simpa [Emb.add] using h1,h2.mono ext,h3⟩
    · obtain ⟨h1,h2⟩:=hne hb hi
      have hs':=sol h2 hs
      obtain ⟨ob',h3,h4⟩:=hM.blk i b h2 hs'
      refine ⟨ob',?_,h4.mono ext (hM.dom i b h2)⟩
      simp only [Emb.add,if_neg hi]
      rw [heap_setCells_ne _ _ (fun q =>hM.inj id i _ b hm h2 (Ne.symm h1) rfl hsol hs' q.symm)]
      exact h3
  · intro i b hb hr hs
    by_cases hi : i = fresh
    · subst hi; simpa [Emb.add] using hown
    · have h2:=(hne hb hi).2
      have hs':=sol h2 hs
      simp only [Emb.add,if_neg hi]
      exact hM.own i b h2 hr hs'
  · intro i j b b' hb hb' hij hr hs hs2
    by_cases hi : i = fresh
    · subst hi
      have hj : j ≠ i:=fun q =>hij q.symm
      obtain ⟨h1,h2⟩:=hne hb' hj
      have hs2':=sol h2 hs2
      simp only [Emb.add,if_true,if_neg hj]
      exact hM.inj id j _ b' hm h2 (Ne.symm h1) rfl hsol hs2'
    · obtain ⟨h1,h2⟩:=hne hb hi
      have hs':=sol h2 hs
      by_cases hj : j = fresh
      · subst hj
        simp only [Emb.add,if_true,if_neg hi]
        exact hM.inj i id b _ h2 hm h1 hr hs' hsol
      · obtain ⟨g1,g2⟩:=hne hb' hj
        have hs2':=sol g2 hs2
        simp only [Emb.add,if_neg hi,if_neg hj]
        exact hM.inj i j b b' h2 g2 hij hr hs' hs2'
theorem void_res (hM : MR S.errT eb φ M own w) {k : Nat} (hk : 0 < k) (hf : ¬ φ.dom fresh) {ad : Option Addr} {foot : List Nat} (_hfoot : fresh ∈ foot) {r : Result Next} (hr : r = .ok (.value (.slice ad 0 0)) w) :
    OpRes S eb φ own M fresh w { val:=.slc fresh 0 ([] : List (List AV)).length none,foot:=foot,wr:=[(fresh,some (.row false k []))] } r :=
  ⟨.slice ad 0 0,φ.add fresh 0 0 k 0,w,.inl hr,.slc0 _ _ _ _ (.inr rfl) (fun _ q =>by cases q),hM.void hk hf,.refl,Emb.add_ext hf,fun id hid =>by
    rcases hid with h | h
    · exact .inl h
    · exact .inr ⟨h,by simp⟩⟩
theorem append_ok {t u el : TypeId} {el' : TypeId} {z : List AV} (ht : S.P.underlying t = some (.slice el)) (hu : S.P.underlying u = some (.slice el')) (hz : zeroCells S.P el = some z) {x y : Operand} {cx cy : Opd} (hx : cOpd x = some cx) (hy : cOpd y = some cy) (hρ : Rho S eb φ ρ f)
    (hM : MR S.errT eb φ M own w) (hk : ∀ b,w.heap.size ≤ b → own b) (hf : fresh ∈ e.foot → ¬ φ.dom fresh)
    (hs : bstep fresh M (.append (S.P.cellsOf el) (S.P.bytesOf el) z (f cx) (f cy)) = some (p,e)) (hp : p) {rt : TypeId}
    (hres : (execOp ρ o).run S.P w = ((Builtin.append_ #[t,u] rt #[ρ x,ρ y]).run S.P w).andThen fun v w' => .ok (.value v) w') : OpRes S eb φ own M fresh w e ((execOp ρ o).run S.P w):=by
  have vx:=hρ x cx hx
  have vy:=hρ y cy hy
  obtain ⟨i,zv,hi,hzv,hzrun,hvr,hone,hlen,hzl⟩:=zeroCells_run (S:=S) (eb:=eb) (φ:=φ) (w:=w) hz
  have hby : S.P.bytesOf el = i.bytes:=by simp [Program.bytesOf,hi]
  have hsi : S.P.cellsOf el = i.size:=by simp [Program.cellsOf,hi]
  rw [hsi,hby] at hs
  rw [hsi] at hlen
  have hzk : zv.cells.size = i.size:=by omega
  rw [hres]
  simp only [bstep] at hs
  split at hs
  · rename_i q1 f1 xs q2 f2 ys hsx hsy
    split at hs
    · -- nil
      rename_i hnil
      rw [hnil] at vx hsx
      have hvx:=nils_inv vx
      simp only [sliceElems,Option.some.injEq,Prod.mk.injEq] at hsx
      obtain ⟨_,_,rfl⟩:=hsx
      simp only [Option.some.injEq,Prod.mk.injEq] at hs
      obtain ⟨rfl,rfl⟩:=hs
      obtain ⟨hq2,hz1,hz2,hb,h63⟩:=hp
      obtain ⟨b2,c2,vs,hvy,hrow⟩:=sliceElems_run hM hsy hq2 vy
      have hrow0 : Row S eb φ w i.size [] none []:=⟨by simp,.nil,by simp,.inl ⟨rfl,rfl⟩,by simp⟩
      cases ys with
      | nil =>
        have:=append_none (S:=S) (ty:=rt) ht hu hi (b1:=none) (n1:=0) (c1:=0) (c2:=c2) hrow (Nat.le_refl _)
        simp only [List.length_nil] at hvy
        exact void_res hM hz2 (hf (by simp)) (by simp) (by rw [hvx,hvy,this]; rfl)
      | cons a r =>
        have hg:=append_grows (S:=S) (ty:=rt) ht hu hi hzv (c1:=0) (c2:=c2) hrow0 hrow (by simp) (by simpa using hb) (by simpa using h63)
        simp only [List.length_nil,Nat.zero_add,List.nil_append] at hg
        exact grow_res (S:=S) hM hk (hf (by simp)) hrow.len hrow.vrs hrow.one hrow.each hzk (grownCap_ge w _ 0 el) (by simp) (by rw [hvx,hvy,hg]; rfl)
    · rename_i id ix len cap hslc
      rw [hslc] at vx hsx
      split at hs
      · -- the capacity is known
        rename_i c
        split at hs
        · simp only [Option.some.injEq,Prod.mk.injEq] at hs
          obtain ⟨rfl,rfl⟩:=hs
          obtain ⟨hq1,hq2,hz1,hz2,rfl,hb,h63⟩:=hp
          obtain ⟨b1,c1,us,hvx,hrx⟩:=sliceElems_run hM hsx hq1 vx
          obtain ⟨b2,c2,vs,hvy,hrow⟩:=sliceElems_run hM hsy hq2 vy
          have hlx : xs.length = 0 ∧ c1 = 0:=by
            obtain ⟨_,hu⟩:=slc_inv vx
            rcases hu with ⟨c',h1,h2,h3,_⟩ | ⟨ad,h1,_,h3⟩
            · rw [hvx] at h1
              simp only [Value.slice.injEq] at h1
              exact ⟨h1.2.1,by rw [h1.2.2]; exact h3 _ rfl⟩
            · rw [hvx] at h1
              simp only [Value.slice.injEq] at h1
              exact ⟨h1.2.1,h1.2.2⟩
          obtain ⟨hl1,rfl⟩:=hlx
          obtain rfl : xs = []:=List.eq_nil_of_length_eq_zero hl1
          cases ys with
          | nil =>
            have:=append_none (S:=S) (ty:=rt) ht hu hi (b1:=b1) (n1:=0) (c1:=0) (c2:=c2) hrow (Nat.le_refl _)
            simp only [List.length_nil] at hvx hvy
            exact void_res hM hz2 (hf (by simp)) (by simp) (by rw [hvx,hvy,this]; rfl)
          | cons a r =>
            have hg:=append_grows (S:=S) (ty:=rt) ht hu hi hzv (c1:=0) (c2:=c2) hrx hrow (by simp) (by simpa using hb) (by simpa using h63)
            obtain ⟨a1,a2,a3,a4⟩:=hrx.append hrow
            simp only [List.length_nil,Nat.zero_add,List.nil_append] at hg a1 a2 a4 hvx
            exact grow_res (S:=S) (el:=el) hM hk (hf (by simp)) a1 a2 a3 a4 hzk (cap:=grownCap w (a :: r).length 0 el) (grownCap_ge w _ _ el) (by simp) (by rw [hvx,hvy,hg]; rfl)
        rename_i len
        simp only [Option.some.injEq,Prod.mk.injEq] at hs
        obtain ⟨rfl,rfl⟩:=hs
        obtain ⟨hq1,hq2,hz1,hz2,rfl,hb,h63⟩:=hp
        obtain ⟨b1,c1,us,hvx,hrx⟩:=sliceElems_run hM hsx hq1 vx
        obtain ⟨b2,c2,vs,hvy,hrow⟩:=sliceElems_run hM hsy hq2 vy
        have hlx : xs.length = c1:=by
          obtain ⟨_,hu⟩:=slc_inv vx
          rcases hu with ⟨c',h1,h2,h3,_⟩ | ⟨ad,h1,h0,h3⟩
          · rw [hvx] at h1
            simp only [Value.slice.injEq] at h1
            rw [h1.2.1,h1.2.2]
            exact (h3 _ rfl).symm
          · omega
        subst hlx
        cases ys with
        | nil =>
          have:=append_none (S:=S) (ty:=rt) ht hu hi (b1:=b1) (n1:=xs.length) (c1:=xs.length) (c2:=c2) hrow (Nat.le_refl _)
          simp only [List.length_nil] at hvy
          refine .quiet hM (u:=ρ x) (by rw [hvx,hvy,this]; rfl) ?_
          rw [hslc]; exact vx
        | cons a r =>
          have hg:=append_grows (S:=S) (ty:=rt) ht hu hi hzv (c1:=xs.length) (c2:=c2) hrx hrow (by simp) hb h63
          obtain ⟨a1,a2,a3,a4⟩:=hrx.append hrow
          refine grow_res (S:=S) (el:=el) hM hk (hf (by simp)) a1 a2 a3 a4 hzk (cap:=grownCap w (xs.length + (a :: r).length) xs.length el) (by rw [List.length_append]; exact grownCap_ge w _ _ el) (by simp) ?_
          rw [hvx,hvy,hg,List.length_append]; rfl
      · split at hs
        · rename_i k es hrow0
          simp only [Option.some.injEq,Prod.mk.injEq] at hs
          obtain ⟨rfl,rfl⟩:=hs
          obtain ⟨hq1,hq2,hz1,hz2,hb,h63⟩:=hp
          obtain ⟨b1,c1,us,hvx,hrx⟩:=sliceElems_run hM hsx hq1 vx
          obtain ⟨b2,c2,vs,hvy,hrow⟩:=sliceElems_run hM hsy hq2 vy
          obtain ⟨hkk,hm⟩:=rowAt_k hM hrow0
          have hfr : ¬ φ.dom fresh:=hf (by simp)
          obtain ⟨a1,a2,a3,a4⟩:=hrx.append hrow
          by_cases hroom : xs.length + ys.length ≤ c1
          · -- there is room
            have hxs : k = i.size ∧ ix + len ≤ es.length ∧ (es.drop ix).take len = xs:=by
              simp only [sliceElems,hrow0] at hsx
              split at hsx
              · rename_i h1
                simp only [Option.some.injEq,Prod.mk.injEq] at hsx
                exact ⟨h1,by rw [hsx.1]; exact hq1,hsx.2.2⟩
              · cases hsx
            obtain ⟨rfl,hfits,hxs⟩:=hxs
            have hlx : xs.length = len:=by rw [← hxs]; simp; omega
            have hvl:=hrow.len
            obtain ⟨hd,hval⟩:=slc_inv vx
            rcases hval with ⟨c',e1,e2,_,e4⟩ | ⟨ad,e1,rfl,_⟩
            · rw [hvx] at e1
              simp only [Value.slice.injEq] at e1
              obtain ⟨rfl,_,rfl⟩:=e1
              rw [hkk] at e4
              have hmul : (ix + (xs.length + ys.length)) * i.size ≤ (ix + c1) * i.size:=Nat.mul_le_mul_right _ (by omega)
              simp only [Nat.add_mul] at hmul e4
              have hfit : φ.base id + ix * i.size + xs.length * i.size + vs.length ≤ φ.size id:=by rw [hvl]; omega
              obtain ⟨g1,g2⟩:=row_cells hM hm hfit
              rw [hkk] at hvx
              have hrun:=append_room (S:=S) (ty:=rt) (n1:=xs.length) (off:=φ.base id + ix * i.size) (b:=φ.blk id) (c1:=c1) (c2:=c2) ht hu hi hrow hroom g1 g2
              obtain ⟨m1,m2⟩:=rename_row (S:=S) hM hfr hm (o:=φ.base id + ix * i.size + xs.length * i.size) (vs:=vs) (base:=φ.base id + ix * i.size) (xs:=xs ++ ys) (by simp only [List.length_append,Nat.add_mul]; omega) (by omega) hz2 (by
                intro arr harr hcell j el' hj
                refine ⟨a4 el' (List.mem_of_getElem? hj),fun q v hv => ?_⟩
                have hel:=a4 el' (List.mem_of_getElem? hj)
                have hq : q < i.size:=by rw [← hel]; exact (List.getElem?_eq_some_iff.1 hv).1
                rw [arrSet_get _ _ _ _ (by rw [harr]; exact hfit)]
                by_cases hjx : j < xs.length
                · rw [List.getElem?_append_left hjx,← hxs,List.getElem?_take,if_pos (by omega),List.getElem?_drop] at hj
                  obtain ⟨h1,h2⟩:=hcell _ _ hj
                  obtain ⟨u,k1,k2,k3⟩:=h2 q v hv
                  refine ⟨u,?_,k2,k3⟩
                  have hb : (j + 1) * i.size ≤ xs.length * i.size:=Nat.mul_le_mul_right _ (by omega)
                  rw [Nat.add_mul,Nat.one_mul] at hb
                  rw [if_neg (by omega),← k1]
                  congr 1
                  rw [Nat.add_mul]; omega
                · rw [List.getElem?_append_right (by omega)] at hj
                  have hjl:=(List.getElem?_eq_some_iff.1 hj).1
                  have hg:=flatten_get hrow.each hj
                  have hvv:=(hrow.vrs.drop ((j - xs.length) * i.size)).take i.size
                  rw [hg] at hvv
                  obtain ⟨u,k1,k2⟩:=hvv.get q v hv
                  have hk1 : vs[(j - xs.length) * i.size + q]? = some u:=by
                    rw [List.getElem?_take,if_pos hq,List.getElem?_drop] at k1
                    exact k1
                  have hb : (j - xs.length + 1) * i.size ≤ ys.length * i.size:=Nat.mul_le_mul_right _ (by omega)
                  rw [Nat.add_mul,Nat.one_mul] at hb
                  have hj2 : j * i.size = xs.length * i.size + (j - xs.length) * i.size:=by rw [← Nat.add_mul]; congr 1; omega
                  refine ⟨u,?_,k2,hrow.one u (List.mem_of_getElem? hk1)⟩
                  rw [if_pos (by omega),← hk1]
                  congr 1
                  omega)
              refine ⟨.slice (some ⟨φ.blk id,φ.base id + ix * i.size,none⟩) (xs.length + ys.length) c1,_,_,.inl ?_,?_,m1,m2,Emb.add_ext hfr,?_⟩
              · rw [hvx,hvy,hrun]; rfl
              · have:=VR.slc (T:=S.errT) (eb:=eb) (φ:=φ.add fresh (φ.blk id) (φ.base id + ix * i.size) i.size (φ.size id)) fresh 0 (xs ++ ys).length none c1 (.inr rfl) (by simpa using hroom) (by simp) (by simp [Emb.add]; omega)
                simpa [Emb.add] using this
              · intro j hj
                rcases hj with h | h
                · exact .inl h
                · exact .inr ⟨h,by simp⟩
            · have hx0 : xs = []:=List.eq_nil_of_length_eq_zero hlx
              rw [hvx] at e1
              simp only [Value.slice.injEq] at e1
              obtain ⟨rfl,_,rfl⟩:=e1
              have hy0 : ys = []:=List.eq_nil_of_length_eq_zero (by omega)
              subst hx0 hy0
              obtain ⟨m1,m2⟩:=rename_row (S:=S) hM hfr hm (o:=0) (vs:=[]) (base:=0) (xs:=[]) (by simp) (by simp) hz2 (by intro _ _ _ j el hj; simp at hj)
              have:=append_none (S:=S) (ty:=rt) ht hu hi (b1:=b1) (n1:=0) (c1:=0) (c2:=c2) hrow (Nat.le_refl _)
              simp only [List.length_nil] at hvx hvy
              refine ⟨.slice b1 0 0,_,_,.inl ?_,VR.slc0 (φ:=φ.add fresh (φ.blk id) 0 i.size (φ.size id)) _ _ _ _ (.inr rfl) (by simp),m1,m2,Emb.add_ext hfr,?_⟩
              · rw [hvx,hvy,this]; rfl
              · intro j hj
                rcases hj with h | h
                · exact .inl h
                · exact .inr ⟨h,by simp⟩
          · have hg:=append_grows (S:=S) (ty:=rt) ht hu hi hzv (c1:=c1) (c2:=c2) hrx hrow (by omega) hb h63
            have:=grow_res (S:=S) (foot:=[fresh]) (hM.dead id) hk hfr a1 a2 a3 a4 hzk (cap:=grownCap w (xs.length + ys.length) c1 el) (by rw [List.length_append]; exact grownCap_ge w _ _ el) (by simp) (r:=.ok (.value (.slice (some ⟨w.heap.size,0,none⟩) (xs ++ ys).length (grownCap w (xs.length + ys.length) c1 el)))
                (w.drew.alloc (.cells ((us ++ vs).toArray ++ Builtin.zeroCells zv.cells (grownCap w (xs.length + ys.length) c1 el - (xs ++ ys).length)) el))) rfl
            obtain ⟨u',φ',w',h1,h2,h3,h4,h5,h6⟩:=this
            refine ⟨u',φ',w',?_,h2,h3,h4,h5,fun id hid =>(h6 id hid).imp (fun q =>q) fun q =>⟨q.1,by simp⟩⟩
            rw [hvx,hvy,hg]
            rw [List.length_append] at h1
            exact h1
        · cases hs
    · cases hs
  · cases hs
theorem Row.take {k : Nat} {xs : List (List AV)} {base : Option Addr} {us : List Value} (h : Row S eb φ w k xs base us) (n : Nat) : Row S eb φ w k (xs.take n) base (us.take (n * k)):=by
  have hsplit : (xs.take n).flatten = xs.flatten.take (n * k):=by
    have he:=h.each
    clear h
    induction xs generalizing n with
    | nil =>simp
    | cons x xs ih =>
      cases n with
      | zero =>simp
      | succ n =>
        have hx:=he x (by simp)
        have e1 : x.take ((n + 1) * k) = x:=List.take_of_length_le (by rw [hx,Nat.add_mul]; omega)
        have e2 : (n + 1) * k - x.length = n * k:=by rw [hx,Nat.add_mul]; omega
        rw [List.take_succ_cons,List.flatten_cons,List.flatten_cons,List.take_append,e1,e2,ih n fun y hy =>he y (by simp [hy])]
  refine ⟨?_,by rw [hsplit]; exact h.vrs.take _,fun u hu =>h.one u (List.mem_of_mem_take hu),?_,fun x hx =>h.each x (List.mem_of_mem_take hx)⟩
  · rw [List.length_take,List.length_take,h.len]
    rcases Nat.le_total n xs.length with hn | hn
    · rw [Nat.min_eq_left hn,Nat.min_eq_left (Nat.mul_le_mul_right _ hn)]
    · rw [Nat.min_eq_right hn,Nat.min_eq_right (Nat.mul_le_mul_right _ hn)]
  · rcases h.at_ with ⟨h1,h2⟩ | ⟨a,h1,h2⟩
    · exact .inl ⟨h1,by simp [h2]⟩
    · refine .inr ⟨a,h1,fun j u hj => ?_⟩
      rw [List.getElem?_take] at hj
      split at hj
      · exact h2 j u hj
      · cases hj
theorem copy_ok {t u el : TypeId} (ht : S.P.underlying t = some (.slice el)) {td : TypeDesc} (hel : S.P.underlying el = some td) {x y : Operand} {cx cy : Opd} (hx : cOpd x = some cx) (hy : cOpd y = some cy) (hρ : Rho S eb φ ρ f)
    (hM : MR S.errT eb φ M own w) (hs : bstep fresh M (.copy (S.P.cellsOf el) (f cx) (f cy)) = some (p,e)) (hp : p) {rt : TypeId}
    (hres : (execOp ρ o).run S.P w = ((Builtin.copy_ #[t,u] rt #[ρ x,ρ y]).run S.P w).andThen fun v w' => .ok (.value v) w') : OpRes S eb φ own M fresh w e ((execOp ρ o).run S.P w):=by
  have vx:=hρ x cx hx
  have vy:=hρ y cy hy
  obtain ⟨i,hi⟩:=Option.isSome_iff_exists.1 (info_of_underlying hel)
  have hsi : S.P.cellsOf el = i.size:=by simp [Program.cellsOf,hi]
  rw [hsi] at hs
  rw [hres]
  simp only [bstep] at hs
  split at hs
  · rename_i id ix len cap q g ys hxe hsy
    rw [hxe] at vx
    split at hs
    · rename_i k es hrow0
      split at hs
      · rename_i hkk
        subst hkk
        simp only [Option.some.injEq,Prod.mk.injEq] at hs
        obtain ⟨rfl,rfl⟩:=hs
        obtain ⟨hq,hfits⟩:=hp
        obtain ⟨b2,c2,vs,hvy,hrow⟩:=sliceElems_run hM hsy hq vy
        obtain ⟨hk,hm⟩:=rowAt_k hM hrow0
        have hrt:=hrow.take len
        have hml : (ys.take len).length = min ys.length len:=by rw [List.length_take,Nat.min_comm]
        have hfc:=hrt.first c2 ys.length (w':=w) rfl
        rw [hml] at hfc
        obtain ⟨hd,hval⟩:=slc_inv vx
        have hval2 : (0 < len ∧ ∃ c,ρ x = .slice (some ⟨φ.blk id,φ.base id + ix * φ.k id,none⟩) len c ∧ len ≤ c ∧ φ.base id + (ix + c) * φ.k id ≤ φ.size id) ∨ (len = 0 ∧ ∃ ad c,ρ x = .slice ad 0 c):=by
          rcases hval with ⟨c',e1,e2,_,e4⟩ | ⟨ad,e1,rfl,_⟩
          · rcases Nat.eq_zero_or_pos len with h0 | h0
            · subst h0; exact .inr ⟨rfl,_,_,e1⟩
            · exact .inl ⟨h0,c',e1,e2,e4⟩
          · exact .inr ⟨rfl,_,_,e1⟩
        clear hval
        rcases hval2 with ⟨hlen0,c',e1,e2,e4⟩ | ⟨rfl,ad,cc,e1⟩
        · have hsol : (Blk.row false i.size es).solid φ id:=.inl fun q =>by subst q; simp at hfits; omega
          obtain ⟨ob,hob,arr,et,fr,rfl,hk',hz,hsz,hfr,hcell⟩:=hM.blk id _ hm hsol
          have hvl : (vs.take (len * i.size)).length = min ys.length len * i.size:=by rw [hrt.len,hml]
          rw [hk] at e4
          have hmul : (ix + min ys.length len) * i.size ≤ es.length * i.size:=Nat.mul_le_mul_right _ (by omega)
          rw [Nat.add_mul] at hmul
          have hfit : φ.base id + ix * i.size + (vs.take (len * i.size)).length ≤ φ.size id:=by rw [hvl]; omega
          obtain ⟨g1,g2⟩:=row_cells hM hm hfit
          have hst:=run_storeCells_cells (P:=S.P) (φ.blk id) (φ.base id + ix * i.size) (vs.take (len * i.size)) 0 w (by simpa using g1) (by simpa using g2) hrt.one
          simp only [Nat.add_zero] at hst
          refine ⟨.int .i64 (min ys.length len : Nat),φ,w.setCells (φ.blk id) (φ.base id + ix * i.size) (vs.take (len * i.size)),.inl ?_,.int _ _,?_,.setCells (hM.own id _ hm rfl hsol) _ _,.refl φ,fun _ h => .inl h⟩
          · rw [hk] at e1
            rw [e1,hvy]
            simp [Builtin.copy_,run_underlying ht,Builtin.lenOf,Go.sizeOf,typeInfo,hi,hst,hfc,show Nat.min ys.length len = min ys.length len from rfl]
            rfl
          · refine MR.turn hM hm rfl hsol (heap_setCells _ et fr _ _ w arr hob) (fun c hc =>heap_setCells_ne _ c hc _ _ w) ?_
            refine ⟨_,et,fr,rfl,hk,by rw [arrSet_size]; exact hz,?_,fun _ q hq =>hfr rfl q (by rw [arrSet_size] at hq; exact hq),?_⟩
            · rw [arrSet_size]
              refine Nat.le_trans (Nat.add_le_add_left (Nat.mul_le_mul_right _ ?_) _) hsz
              simp only [List.length_append,List.length_take,List.length_drop]
              omega
            · intro j el' hj
              have hcase : (ix ≤ j ∧ j < ix + min ys.length len ∧ (ys.take len)[j - ix]? = some el') ∨ ((j < ix ∨ ix + min ys.length len ≤ j) ∧ es[j]? = some el'):=by
                have htl : (es.take ix).length = ix:=by simp; omega
                by_cases h1 : j < ix
                · right
                  rw [List.append_assoc,List.getElem?_append_left (by omega),List.getElem?_take,if_pos h1] at hj
                  exact ⟨.inl h1,hj⟩
                · rw [List.append_assoc,List.getElem?_append_right (by omega),htl] at hj
                  by_cases h2 : j < ix + min ys.length len
                  · left
                    rw [List.getElem?_append_left (by rw [hml]; omega)] at hj
                    exact ⟨by omega,h2,hj⟩
                  · right
                    rw [List.getElem?_append_right (by rw [hml]; omega),hml,List.getElem?_drop] at hj
                    refine ⟨.inr (by omega),?_⟩
                    rw [← hj]; congr 1; omega
              rcases hcase with ⟨h1,h2,h3⟩ | ⟨h1,h3⟩
              · refine ⟨hrt.each el' (List.mem_of_getElem? h3),fun q v hv => ?_⟩
                have hel':=hrt.each el' (List.mem_of_getElem? h3)
                have hq' : q < i.size:=by rw [← hel']; exact (List.getElem?_eq_some_iff.1 hv).1
                have hg:=flatten_get hrt.each h3
                have hvv:=(hrt.vrs.drop ((j - ix) * i.size)).take i.size
                rw [hg] at hvv
                obtain ⟨u,k1,k2⟩:=hvv.get q v hv
                have hk1 : (vs.take (len * i.size))[(j - ix) * i.size + q]? = some u:=by
                  rw [List.getElem?_take,if_pos hq',List.getElem?_drop] at k1
                  exact k1
                have hb : (j - ix + 1) * i.size ≤ min ys.length len * i.size:=Nat.mul_le_mul_right _ (by omega)
                rw [Nat.add_mul,Nat.one_mul] at hb
                have hj2 : j * i.size = ix * i.size + (j - ix) * i.size:=by rw [← Nat.add_mul]; congr 1; omega
                refine ⟨u,?_,k2,hrt.one u (List.mem_of_getElem? hk1)⟩
                rw [arrSet_get _ _ _ _ (by rw [hz]; exact hfit),if_pos (by omega),← hk1]
                congr 1
                omega
              · obtain ⟨r1,r2⟩:=hcell j el' h3
                refine ⟨r1,fun q v hv => ?_⟩
                have hq' : q < i.size:=by rw [← r1]; exact (List.getElem?_eq_some_iff.1 hv).1
                obtain ⟨u,k1,k2,k3⟩:=r2 q v hv
                refine ⟨u,?_,k2,k3⟩
                rw [arrSet_get _ _ _ _ (by rw [hz]; exact hfit),if_neg,← k1]
                rcases h1 with h1 | h1
                · have hb : (j + 1) * i.size ≤ ix * i.size:=Nat.mul_le_mul_right _ (by omega)
                  rw [Nat.add_mul,Nat.one_mul] at hb
                  omega
                · have hb : (ix + min ys.length len) * i.size ≤ j * i.size:=Nat.mul_le_mul_right _ h1
                  rw [Nat.add_mul] at hb
                  omega
        · have hn0 : min ys.length 0 = 0:=Nat.min_zero _
          rw [hn0] at hfc
          have hsame : applyF M [(id,some (.row false i.size (es.take ix ++ ys.take 0 ++ es.drop (ix + min ys.length 0))))] = M:=by
            funext j
            simp only [applyF,List.take_zero,List.append_nil,hn0,Nat.add_zero,List.take_append_drop]
            split
            · rename_i h; rw [h,hm]
            · rfl
          refine ⟨.int .i64 (min ys.length 0 : Nat),φ,w,.inl ?_,.int _ _,by rw [hsame]; exact hM,.refl,.refl φ,fun _ h => .inl h⟩
          rw [e1,hvy]
          cases ad <;> simp [Builtin.copy_,run_underlying ht,Builtin.lenOf,Go.sizeOf,typeInfo,hi,show Nat.min ys.length 0 = 0 from Nat.min_zero _,hfc,storeCells] <;> rfl
      · cases hs
    · cases hs
  · rename_i q g ys hxe hsy
    rw [hxe] at vx
    have hvx:=nils_inv vx
    simp only [Option.some.injEq,Prod.mk.injEq] at hs
    obtain ⟨rfl,rfl⟩:=hs
    obtain ⟨b2,c2,vs,hvy,hrow⟩:=sliceElems_run hM hsy hp vy
    have hfc:=(hrow.take 0).first c2 ys.length (w':=w) rfl
    simp only [List.take_zero,List.length_nil] at hfc
    refine .quiet hM (u:=.int .i64 0) ?_ (.int _ _)
    rw [hvx,hvy]
    simp [Builtin.copy_,run_underlying ht,Builtin.lenOf,Go.sizeOf,typeInfo,hi,show Nat.min ys.length 0 = 0 from Nat.min_zero _,hfc]
    rfl
  · cases hs
end AH
set_option linter.unusedSimpArgs false
namespace AH
open Go
variable {S : Sys} {eb : Nat → Addr} {φ : Emb} {M : Nat → Option Blk} {own : Nat → Prop} {w : World} {ρ : Operand → Value} {f : Opd → AV} {o : Oper} {fresh : Nat} {p : Prop} {e : Eff}
theorem mget_nil (i : Nat) : mget [] i = none:=by cases i <;> rfl
theorem mget_mset : ∀ (m : Mem) (i : Nat) (b : Option Blk) (j : Nat),mget (mset m i b) j = if j = i then b else mget m j
  | [],0,b,0 =>by simp [mset,mget]
  | [],0,b,j + 1 =>by simp [mset,mget]
  | [],i + 1,b,0 =>by simp [mset,mget]
  | [],i + 1,b,j + 1 =>by simp only [mset,mget,mget_mset [] i b j,mget_nil]; simp
  | x :: r,0,b,0 =>by simp [mset,mget]
  | x :: r,0,b,j + 1 =>by simp [mset,mget]
  | x :: r,i + 1,b,0 =>by simp [mset,mget]
  | x :: r,i + 1,b,j + 1 =>by simp only [mset,mget,mget_mset r i b j]; simp
theorem mset_length : ∀ (m : Mem) (i : Nat) (b : Option Blk),m.length ≤ (mset m i b).length ∧ i < (mset m i b).length
  | [],0,b =>by simp [mset]
  | [],i + 1,b =>by have:=mset_length [] i b; simp [mset]; omega
  | x :: r,0,b =>by simp [mset]
  | x :: r,i + 1,b =>by have:=mset_length r i b; simp [mset]; omega
theorem mkiter_ok {t kt el : TypeId} (ht : S.P.underlying t = some (.map kt el)) {x : Operand} {cx : Opd} (hx : cOpd x = some cx) (hρ : Rho S eb φ ρ f)
    (hM : MR S.errT eb φ M own w) (hk : ∀ b,w.heap.size ≤ b → own b) (hf : fresh ∈ e.foot → ¬ φ.dom fresh) (hs : bstep fresh M (.mkiter (f cx)) = some (p,e)) (ho : o.op = .range t x) : OpRes S eb φ own M fresh w e ((execOp ρ o).run S.P w):=by
  have vx:=hρ x cx hx
  simp only [bstep] at hs
  have hptr : ∀ {k size : Nat},VR S.errT eb (φ.add fresh w.heap.size 0 k size) (.ptr fresh 0 0) (.pointer (some ⟨w.heap.size,0,none⟩)):=fun {k size} =>by
    have:=VR.ptr (T:=S.errT) (eb:=eb) (φ:=φ.add fresh w.heap.size 0 k size) fresh 0 0 (.inr rfl)
    simpa [Emb.add] using this
  split at hs
  · rename_i h1
    rw [h1] at vx
    have hv:=nilm_inv vx
    simp only [Option.some.injEq,Prod.mk.injEq] at hs
    obtain ⟨_,rfl⟩:=hs
    refine new_run hM hk (hf (by simp)) (w1:=w) rfl .refl (k:=0) (size:=0) (b:=.iter none 0 0 []) (by simp) (ob:=.mapIter none 0 #[] 0) ⟨by simp [itO],by simp [Emb.add],fun i hi =>by cases hi⟩ hptr ?_
    simp only [execOp,ho,hv,Sem.run_bind,run_range_nilMap w t kt el ht,Result.andThen_ok,Sem.run_pure]
  · rename_i id h1
    rw [h1] at vx
    obtain ⟨hd,hv⟩:=map_inv vx
    split at hs
    · rename_i es c hm
      have hm':=mapAt_m hm
      obtain ⟨us,hw,_⟩:=hM.map hm'
      simp only [Option.some.injEq,Prod.mk.injEq] at hs
      obtain ⟨_,rfl⟩:=hs
      have hfr:=hf (by simp)
      have hne : id ≠ fresh:=fun q =>hfr (q ▸ hd)
      refine new_run hM hk hfr (w1:=w) rfl .refl (k:=0) (size:=0) (b:=.iter (some id) c c []) (by simp) (ob:=.mapIter (some (φ.blk id)) c #[] c) ⟨?_,by simp [Emb.add],fun i hi => ?_⟩ hptr ?_
      · simp [Emb.add,hne,itO]
      · simp only [Option.some.injEq] at hi
        subst hi
        exact .inl hd
      · simp only [execOp,ho,hv,Sem.run_bind,run_range_map w t kt el _ us c ht hw,Result.andThen_ok,Sem.run_pure]
    · cases hs
  · cases hs
theorem put_row (hM : MR S.errT eb φ M own w) {id k : Nat} {es : List (List AV)} (hm : M id = some (.row false k es)) {ix : Nat} {xs : List (List AV)} {vs : List Value} (hle : ix + xs.length ≤ es.length) (h0 : 0 < xs.length) (heach : ∀ x ∈ xs,x.length = k)
    (hv : VRs S.errT eb φ xs.flatten vs) (hone : ∀ u ∈ vs,u.oneCell' = true) :
    (storeCells ⟨φ.blk id,φ.base id + ix * φ.k id,none⟩ vs 0).run S.P w = .ok () (w.setCells (φ.blk id) (φ.base id + ix * φ.k id) vs) ∧
      MR S.errT eb φ (applyF M [(id,some (.row false k (es.take ix ++ xs ++ es.drop (ix + xs.length))))]) own (w.setCells (φ.blk id) (φ.base id + ix * φ.k id) vs) ∧ StepK own w (w.setCells (φ.blk id) (φ.base id + ix * φ.k id) vs):=by
  have hkk:=hM.kk id _ _ _ hm
  rw [hkk]
  have hsol : (Blk.row false k es).solid φ id:=.inl fun q =>by subst q; rw [List.length_nil] at hle; omega
  obtain ⟨ob,hob,arr,et,fr,rfl,hk',hz,hsz,hfr,hcell⟩:=hM.blk id _ hm hsol
  have hvl : vs.length = xs.length * k:=by rw [← hv.length]; exact flatten_len heach
  have hmul : (ix + xs.length) * k ≤ es.length * k:=Nat.mul_le_mul_right _ hle
  rw [Nat.add_mul] at hmul
  have hfit : φ.base id + ix * k + vs.length ≤ φ.size id:=by omega
  obtain ⟨g1,g2⟩:=row_cells hM hm hfit
  have hst:=run_storeCells_cells (P:=S.P) (φ.blk id) (φ.base id + ix * k) vs 0 w (by simpa using g1) (by simpa using g2) hone
  simp only [Nat.add_zero] at hst
  refine ⟨hst,?_,.setCells (hM.own id _ hm rfl hsol) _ _⟩
  refine MR.turn hM hm rfl hsol (heap_setCells _ et fr _ _ w arr hob) (fun c hc =>heap_setCells_ne _ c hc _ _ w) ?_
  refine ⟨_,et,fr,rfl,hkk,by rw [arrSet_size]; exact hz,?_,fun _ q hq =>hfr rfl q (by rw [arrSet_size] at hq; exact hq),?_⟩
  · rw [arrSet_size]
    refine Nat.le_trans (Nat.add_le_add_left (Nat.mul_le_mul_right _ ?_) _) hsz
    simp only [List.length_append,List.length_take,List.length_drop]
    omega
  · intro j el' hj
    have hcase : (ix ≤ j ∧ j < ix + xs.length ∧ xs[j - ix]? = some el') ∨ ((j < ix ∨ ix + xs.length ≤ j) ∧ es[j]? = some el'):=by
      have htl : (es.take ix).length = ix:=by simp; omega
      by_cases h1 : j < ix
      · right
        rw [List.append_assoc,List.getElem?_append_left (by omega),List.getElem?_take,if_pos h1] at hj
        exact ⟨.inl h1,hj⟩
      · rw [List.append_assoc,List.getElem?_append_right (by omega),htl] at hj
        by_cases h2 : j < ix + xs.length
        · left
          rw [List.getElem?_append_left (by omega)] at hj
          exact ⟨by omega,h2,hj⟩
        · right
          rw [List.getElem?_append_right (by omega),List.getElem?_drop] at hj
          refine ⟨.inr (by omega),?_⟩
          rw [← hj]; congr 1; omega
    rcases hcase with ⟨h1,h2,h3⟩ | ⟨h1,h3⟩
    · refine ⟨heach el' (List.mem_of_getElem? h3),fun q v hv' => ?_⟩
      have hel':=heach el' (List.mem_of_getElem? h3)
      have hq' : q < k:=by rw [← hel']; exact (List.getElem?_eq_some_iff.1 hv').1
      have hg:=flatten_get heach h3
      have hvv:=(hv.drop ((j - ix) * k)).take k
      rw [hg] at hvv
      obtain ⟨u,k1,k2⟩:=hvv.get q v hv'
      have hk1 : vs[(j - ix) * k + q]? = some u:=by
        rw [List.getElem?_take,if_pos hq',List.getElem?_drop] at k1
        exact k1
      have hb : (j - ix + 1) * k ≤ xs.length * k:=Nat.mul_le_mul_right _ (by omega)
      rw [Nat.add_mul,Nat.one_mul] at hb
      have hj2 : j * k = ix * k + (j - ix) * k:=by rw [← Nat.add_mul]; congr 1; omega
      refine ⟨u,?_,k2,hone u (List.mem_of_getElem? hk1)⟩
      rw [arrSet_get _ _ _ _ (by rw [hz]; exact hfit),if_pos (by omega),← hk1]
      congr 1
      omega
    · obtain ⟨r1,r2⟩:=hcell j el' h3
      refine ⟨r1,fun q v hv' => ?_⟩
      have hq' : q < k:=by rw [← r1]; exact (List.getElem?_eq_some_iff.1 hv').1
      obtain ⟨u,k1,k2,k3⟩:=r2 q v hv'
      refine ⟨u,?_,k2,k3⟩
      rw [arrSet_get _ _ _ _ (by rw [hz]; exact hfit),if_neg,← k1]
      rcases h1 with h1 | h1
      · have hb : (j + 1) * k ≤ ix * k:=Nat.mul_le_mul_right _ (by omega)
        rw [Nat.add_mul,Nat.one_mul] at hb
        omega
      · have hb : (ix + xs.length) * k ≤ j * k:=Nat.mul_le_mul_right _ h1
        rw [Nat.add_mul] at hb
        omega
theorem clr_ok {t el : TypeId} (ht : S.P.underlying t = some (.slice el)) {td : TypeDesc} (_hel : S.P.underlying el = some td) {z : List AV} (hz : zeroCells S.P el = some z) {x : Operand} {cx : Opd} (hx : cOpd x = some cx) (hρ : Rho S eb φ ρ f)
    (hM : MR S.errT eb φ M own w) (hs : bstep fresh M (.clr (S.P.cellsOf el) z (f cx)) = some (p,e)) (hp : p) {us : Array TypeId} {rt : TypeId}
    (hres : (execOp ρ o).run S.P w = ((Builtin.clear_ us rt #[ρ x]).run S.P w).andThen fun v w' => .ok (.value v) w') (ht0 : us[0]? = some t) : OpRes S eb φ own M fresh w e ((execOp ρ o).run S.P w):=by
  have vx:=hρ x cx hx
  rw [hres]
  simp only [bstep] at hs
  split at hs
  · rename_i id ix len cap hxe
    rw [hxe] at vx
    split at hs
    · rename_i k es hrow0
      split at hs
      · rename_i hkk
        subst hkk
        simp only [Option.some.injEq,Prod.mk.injEq] at hs
        obtain ⟨rfl,rfl⟩:=hs
        obtain ⟨hz1,hz2,hfits⟩:=hp
        obtain ⟨hk,hm⟩:=rowAt_k hM hrow0
        obtain ⟨i,zv,hi,hzv,hrun,hvr,hone,hlen,hzl⟩:=zeroCells_run (S:=S) (eb:=eb) (φ:=φ) (w:=w) hz
        obtain ⟨hd,hval⟩:=slc_inv vx
        have hval2 : (0 < len ∧ ∃ c,ρ x = .slice (some ⟨φ.blk id,φ.base id + ix * φ.k id,none⟩) len c) ∨ (len = 0 ∧ ∃ ad c,ρ x = .slice ad 0 c):=by
          rcases hval with ⟨c',e1,e2,_,e4⟩ | ⟨ad,e1,rfl,_⟩
          · rcases Nat.eq_zero_or_pos len with h0 | h0
            · subst h0; exact .inr ⟨rfl,_,_,e1⟩
            · exact .inl ⟨h0,c',e1⟩
          · exact .inr ⟨rfl,_,_,e1⟩
        clear hval
        rcases hval2 with ⟨hlen0,c',e1⟩ | ⟨rfl,ad,cc,e1⟩
        · obtain ⟨m1,m2⟩:=madeCells_vrs hvr hone len
          obtain ⟨r1,r2,r3⟩:=put_row hM hm (ix:=ix) (xs:=List.replicate len z) (by simpa using hfits) (by simpa using hlen0) (fun y hy =>by rw [List.eq_of_mem_replicate hy]; exact hz1) m1 m2
          refine ⟨.tuple #[],φ,_,.inl ?_,.tup _ _ .nil,by simpa using r2,r3,.refl φ,fun _ h => .inl h⟩
          obtain ⟨l',rfl⟩ : ∃ l',len = l' + 1:=⟨len - 1,by omega⟩
          simp only [Builtin.clear_,ht0,Sem.run_bind,run_underlying ht,Result.andThen_ok,e1,hrun,Builtin.zeroCells,r1,List.getElem?_toArray,List.getElem?_cons_zero,Sem.run_pure]
        · have hsame : applyF M [(id,some (.row false (S.P.cellsOf el) (es.take ix ++ List.replicate 0 z ++ es.drop (ix + 0))))] = M:=by
            funext j
            simp only [applyF,List.replicate_zero,List.append_nil,Nat.add_zero,List.take_append_drop]
            split
            · rename_i h; rw [h,hm]
            · rfl
          refine ⟨.tuple #[],φ,w,.inl ?_,.tup _ _ .nil,by rw [hsame]; exact hM,.refl,.refl φ,fun _ h => .inl h⟩
          cases ad <;> simp [Builtin.clear_,ht0,run_underlying ht,e1]
      · cases hs
    · cases hs
  · rename_i hxe
    rw [hxe] at vx
    have hvx:=nils_inv vx
    simp only [Option.some.injEq,Prod.mk.injEq] at hs
    obtain ⟨rfl,rfl⟩:=hs
    refine .quiet hM (u:=.tuple #[]) ?_ (.tup _ _ .nil)
    simp [Builtin.clear_,ht0,run_underlying ht,hvx]
  · cases hs
theorem iterAt_some {id mid last s : Nat} (h : iterAt M id = some (mid,last,s)) : ∃ since seen,M id = some (.iter (some mid) since last seen) ∧ seen.getLast? = some s ∧ since ≤ last:=by
  unfold iterAt at h
  split at h
  · rename_i mid' since last' seen hm
    split at h
    · rename_i s' hs
      by_cases hq : since ≤ last'
      · simp only [hq,decide_true,cond_true,Option.some.injEq,Prod.mk.injEq] at h
        obtain ⟨rfl,rfl,rfl⟩:=h
        exact ⟨since,seen,hm,hs,hq⟩
      · simp only [hq,decide_false,cond_false,reduceCtorEq] at h
    · cases h
  · cases h
theorem MR.iter (hM : MR S.errT eb φ M own w) {id since last : Nat} {m : Option Nat} {seen : List Nat} (h : M id = some (.iter m since last seen)) (hl : ¬ last < since) : w.heap[φ.blk id]? = some (.mapIter (m.map φ.blk) since seen.toArray last) ∧ φ.base id = 0 ∧ ∀ i,m = some i → φ.dom i:=by
  obtain ⟨o,ho,hq,hr⟩:=hM.blk id _ h trivial
  simp only [itO,hl,if_false] at hq
  subst hq
  exact ⟨ho,hr⟩
theorem er_find {T : TypeId} (s : Nat) : ∀ {es : List (AV × AV × Nat)} {us : List MapEntry},ER T eb φ es us → ∀ {e : AV × AV × Nat},es.find? (fun e =>e.2.2 == s) = some e → ∃ u,us.find? (fun u =>u.born == s) = some u ∧ VR T eb φ e.1 u.key ∧ VR T eb φ e.2.1 u.val
  | _,_,.nil,e,h =>by simp at h
  | _,_,.cons k v s' x y es us hk hv hr,e,h =>by
    simp only [List.find?_cons] at h ⊢
    cases hq : s' == s with
    | true =>
      rw [hq] at h
      simp only [Option.some.injEq] at h
      subst h
      exact ⟨_,rfl,hk,hv⟩
    | false =>
      rw [hq] at h
      exact er_find s hr h
theorem entry_ok {x : Operand} {cx : Opd} (hx : cOpd x = some cx) (hρ : Rho S eb φ ρ f)
    (hM : MR S.errT eb φ M own w) (hs : bstep fresh M (.entry (f cx)) = some (p,e)) (hp : p) (ho : o.op = .entry x) : OpRes S eb φ own M fresh w e ((execOp ρ o).run S.P w):=by
  have vx:=hρ x cx hx
  simp only [bstep] at hs
  split at hs
  · rename_i id h1
    rw [h1] at vx
    obtain ⟨hd,hv⟩:=ptr_inv vx
    split at hs
    · rename_i mid last s hi
      obtain ⟨since,seen,hi',hlast,hsl⟩:=iterAt_some hi
      obtain ⟨hw1,hb0,hdm⟩:=hM.iter hi' (by omega)
      split at hs
      · rename_i es c hm
        obtain ⟨us,hw2,hr⟩:=hM.map (mapAt_m hm)
        split at hs
        · rename_i en hfi
          simp only [Option.some.injEq,Prod.mk.injEq] at hs
          obtain ⟨rfl,rfl⟩:=hs
          subst hp
          obtain ⟨u,h2,h3,h4⟩:=er_find s hr hfi
          refine .quiet hM (u:=.tuple #[u.key,u.val]) ?_ (.tup _ _ (.cons _ _ _ _ h3 (.cons _ _ _ _ h4 .nil)))
          have hback : seen.toArray.back? = some s:=by rw [List.back?_toArray]; exact hlast
          have hfind : us.find? (fun u =>u.born == s) = some u:=by rw [← Array.find?_toList]; exact h2
          simp only [execOp,ho,hv,Sem.run_bind,hb0,Nat.zero_mul,Nat.add_zero,Instr.entry,getObj,Sem.run,hw1,Option.map_some,Result.andThen,hback,hw2,bne_self_eq_false,Bool.false_eq_true,if_false,hfind]
          rfl
        · cases hs
      · cases hs
    · cases hs
  · cases hs
theorem next_any {P : Program} {r bm since last : Nat} {seen : Array Nat} {us : Array MapEntry} {c : Nat} {ty : TypeId} (h1 : w.heap[r]? = some (.mapIter (some bm) since seen last)) (h2 : w.heap[bm]? = some (.map us c)) (hold : ∀ x ∈ us.toList,x.born < since) (hsl : since ≤ last) :
    ((leftOf us seen).size = 0 ∧ (Instr.next (.pointer (some ⟨r,0,none⟩)) false ty).run P w = .ok (.tuple #[.bool false]) w) ∨
    ∃ e ∈ (leftOf us seen).toList,∃ w1 : World,w1.Alike w ∧ (Instr.next (.pointer (some ⟨r,0,none⟩)) false ty).run P w = .ok (.tuple #[.bool true,e.key,e.val]) { w1 with heap:=w.heap.setIfInBounds r (.mapIter (some bm) since (seen.push e.born) c) }:=by
  simp only [Instr.next,getObj,Sem.run_bind,Sem.run,h1,h2,Result.andThen,next_test_false seen us since last hold hsl,Bool.false_eq_true,if_false]
  unfold leftOf
  have hmem : ∀ x ∈ (Array.filter (fun e => !seen.contains e.born) us).toList,x.born < since:=fun x hx =>hold x (by simp at hx ⊢; exact hx.1)
  generalize Array.filter (fun e => !seen.contains e.born) us = L at hmem ⊢
  have e1 : L.filter (fun x =>decide (x.born < since)) = L:=Array.filter_eq_self.2 (fun x hx =>by simpa using hmem x (by simpa using hx))
  have e2 : L.filter (fun x =>decide (x.born ≥ since)) = #[]:=by
    rw [Array.filter_eq_empty_iff]
    intro x hx
    have:=hmem x (by simpa using hx)
    simp
    omega
  simp only [e1,e2,Array.append_empty]
  by_cases h0 : L.size = 0
  · left
    have : L = #[]:=Array.eq_empty_of_size_eq_zero h0
    subst this
    refine ⟨rfl,?_⟩
    simp [choose,Sem.run,Question.forced]
  · right
    have hne : L.isEmpty = false:=by simp [Array.isEmpty,h0]
    simp only [hne,Bool.false_eq_true,if_false,Array.empty_append,Array.size_map]
    have hch : ∃ (j : Nat) (w1 : World),j < L.size ∧ w1.Alike w ∧ (choose (Question.mapNext L.size)).run P w = .ok j w1:=by
      by_cases hf : L.size ≤ 1
      · exact ⟨0,w,by omega,⟨rfl,rfl,rfl⟩,by simp [choose,Sem.run,Question.forced,hf]⟩
      · exact ⟨_,w.drew,Nat.mod_lt _ (by omega),⟨rfl,rfl,rfl⟩,by
          simp only [choose,Sem.run,Question.forced,decide_eq_true_eq,hf,if_false,Question.cut]
          rfl⟩
    obtain ⟨j,w1,hj,hal,hrun⟩:=hch
    refine ⟨L[j],by simp,w1,hal,?_⟩
    have h1' : w1.heap[r]? = some (.mapIter (some bm) since seen last):=by rw [hal.1]; exact h1
    simp only [hrun,Array.getElem?_map,Array.getElem?_eq_getElem hj,Option.map_some,Sem.run_bind,setObj,Sem.run,h1',h1,Result.andThen,hal.1]
    rfl
theorem er_left {T : TypeId} (seen : List Nat) : ∀ {es : List (AV × AV × Nat)} {us : List MapEntry},ER T eb φ es us → ER T eb φ (leftE es seen) (us.filter fun e => !seen.contains e.born)
  | _,_,.nil => .nil
  | _,_,.cons k v s x y es us hk hv hr =>by
    have ih:=er_left seen hr
    simp only [leftE,List.filter_cons] at ih ⊢
    cases hq : seen.contains s with
    | true =>simp only [Bool.not_true,Bool.false_eq_true,if_false]; exact ih
    | false =>simp only [Bool.not_false,if_true]; exact .cons k v s x y _ _ hk hv ih
theorem er_mem {T : TypeId} : ∀ {es : List (AV × AV × Nat)} {us : List MapEntry},ER T eb φ es us → ∀ u ∈ us,∃ e ∈ es,VR T eb φ e.1 u.key ∧ VR T eb φ e.2.1 u.val ∧ e.2.2 = u.born
  | _,_,.nil,u,h =>by cases h
  | _,_,.cons k v s x y es us hk hv hr,u,h =>by
    rcases List.mem_cons.1 h with rfl | h
    · exact ⟨(k,v,s),by simp,hk,hv,rfl⟩
    · obtain ⟨e,h1,h2⟩:=er_mem hr u h
      exact ⟨e,by simp [h1],h2⟩
theorem next_ok {m : Mem} {K : AV → Mem → Prop} {x : Operand} {cx : Opd} (hx : cOpd x = some cx) (hρ : Rho S eb φ ρ f) (hM : MR S.errT eb φ (mget m) own w) (_hlen : ∀ id,φ.dom id → id < m.length) (hn : wpNext m K (f cx)) (ho : o.op = .next x false) :
    ∃ v u m' w',K v m' ∧ (execOp ρ o).run S.P w = .ok (.value u) w' ∧ VR S.errT eb φ v u ∧ MR S.errT eb φ (mget m') own w' ∧ StepK own w w' ∧ m.length ≤ m'.length:=by
  have vx:=hρ x cx hx
  unfold wpNext at hn
  split at hn
  rotate_left
  · exact hn.elim
  rename_i id h1
  rw [h1] at vx
  obtain ⟨hd,hv⟩:=ptr_inv vx
  unfold wpNextB at hn
  split at hn
  · rename_i s l seen hi
    obtain ⟨hns,hn⟩:=hn
    obtain ⟨hw,hb0,_⟩:=hM.iter hi hns
    refine ⟨_,.tuple #[.bool false],m,w,hn,?_,.tup _ _ (.cons _ _ _ _ (.bool false) .nil),hM,.refl,Nat.le_refl _⟩
    simp only [execOp,ho,hv,hb0,Nat.zero_mul,Nat.add_zero,Instr.next,getObj,Sem.run_bind,Sem.run,hw,Option.map_none,Result.andThen]
    rfl
  · rename_i mid since last seen hi
    unfold wpNextM at hn
    split at hn
    rotate_left
    · exact hn.elim
    rename_i es c hm
    obtain ⟨hst,hsl,hsc,hK0,hK1⟩:=hn
    obtain ⟨hw,hb0,hdm⟩:=hM.iter hi (by omega)
    have hm':=mapAt_m hm
    obtain ⟨us,hw2,hr⟩:=hM.map hm'
    have hold : ∀ x ∈ us.toList,x.born < since:=fun x hx =>by
      obtain ⟨e,h1,_,_,h4⟩:=er_mem hr x hx
      rw [← h4]; exact hst e h1
    have hleft:=er_left seen hr
    have hlo : (leftOf us seen.toArray).toList = us.toList.filter fun e => !seen.contains e.born:=by simp [leftOf]
    rw [← hlo] at hleft
    rcases next_any (P:=S.P) (ty:=o.type) hw hw2 hold hsl with ⟨q1,q2⟩ | ⟨u,q1,w1,q2,q3⟩
    · have : leftE es seen = []:=by
        have h3:=hleft.length
        refine List.eq_nil_of_length_eq_zero ?_
        rw [h3]; simpa using q1
      refine ⟨_,.tuple #[.bool false],m,w,hK0 this,?_,.tup _ _ (.cons _ _ _ _ (.bool false) .nil),hM,.refl,Nat.le_refl _⟩
      simp only [execOp,ho,hv,hb0,Nat.zero_mul,Nat.add_zero,Sem.run_bind,q2,Result.andThen_ok,Sem.run_pure]
    · obtain ⟨e,g1,g2,g3,g4⟩:=er_mem hleft u q1
      refine ⟨_,.tuple #[.bool true,u.key,u.val],_,{ w1 with heap:=w.heap.setIfInBounds (φ.blk id) (.mapIter (some (φ.blk mid)) since (seen.toArray.push u.born) c) },hK1 e g1,?_,.tup _ _ (.cons _ _ _ _ (.bool true) (.cons _ _ _ _ g2 (.cons _ _ _ _ g3 .nil))),?_,?_,(mset_length m id _).1⟩
      · simp only [execOp,ho,hv,hb0,Nat.zero_mul,Nat.add_zero,Sem.run_bind,q3,Result.andThen_ok,Sem.run_pure]
      · have hM1 : MR S.errT eb φ (mget m) own w1:=hM.of_heap q2.1
        have hlt:=(Array.getElem?_eq_some_iff.1 hw).1
        have:=MR.turn hM1 (n:=id) hi trivial trivial (b':=.iter (some mid) since c (seen ++ [e.2.2])) (o':=.mapIter (some (φ.blk mid)) since (seen.toArray.push u.born) c)
          (w':={ w1 with heap:=w.heap.setIfInBounds (φ.blk id) (.mapIter (some (φ.blk mid)) since (seen.toArray.push u.born) c) })
          (by simp [Array.getElem?_setIfInBounds,hlt]) (fun c' hc' =>by simp only [q2.1]; rw [Array.getElem?_setIfInBounds_ne (Ne.symm hc')])
          ⟨by simp [g4,itO,Nat.not_lt.2 hsc],hb0,hdm⟩
        have e : mget (mset m id (some (.iter (some mid) since c (seen ++ [e.2.2])))) = upd (mget m) id (some (.iter (some mid) since c (seen ++ [e.2.2]))):=by
          funext j
          rw [mget_mset]
          rfl
        rw [e]
        exact this
      · have hown:=hM.own id _ hi trivial trivial
        refine ⟨q2.2.1,q2.2.2,by simp,fun b hb hnb => ?_⟩
        have hne : φ.blk id ≠ b:=fun q =>hnb (by rw [← q]; exact hown)
        simp only
        rw [Array.getElem?_setIfInBounds_ne hne]
  · exact hn.elim
end AH
set_option linter.unusedSimpArgs false
namespace AH
open Go
variable {S : Sys} {eb : Nat → Addr} {φ : Emb} {M : Nat → Option Blk} {own : Nat → Prop} {w : World} {ρ : Operand → Value} {f : Opd → AV} {o : Oper} {fresh : Nat} {p : Prop} {e : Eff}
theorem isSome_ex {α : Type} {x : Option α} (h : ¬ x.isSome = false) : ∃ y,x = some y:=by
  cases x with
  | none =>exact absurd rfl h
  | some y =>exact ⟨y,rfl⟩
theorem isSome_ex' {α : Type} {x : Option α} (h : x.isSome = true) : ∃ y,x = some y:=by
  cases x with
  | none =>cases h
  | some y =>exact ⟨y,rfl⟩
theorem list_array1 {α : Type} {a : Array α} {x : α} (h : a.toList = [x]) : a = #[x]:=by
  apply Array.ext'; simpa using h
theorem list_array2 {α : Type} {a : Array α} {x y : α} (h : a.toList = [x,y]) : a = #[x,y]:=by
  apply Array.ext'; simpa using h
theorem load_global {t g : Nat} {errs : List Nat} {P : Program} {c : AOp Opd} (h : cOp P errs (.load t (.global g)) = some c) :
    (errs.contains g = true ∧ isAggT P t = false ∧ (∃ td,P.underlying t = some td) ∧ c = .loadg g) ∨ c = .abort:=by
  simp only [cOp] at h
  split at h
  · rename_i hg
    simp only [Option.some.injEq] at h
    simp only [Bool.and_eq_true,Bool.not_eq_true'] at hg
    exact .inl ⟨hg.1,hg.2.1,isSome_ex' hg.2.2,h.symm⟩
  · simp only [Option.some.injEq] at h
    exact .inr h.symm
set_option maxHeartbeats 4000000 in
theorem op_sound {c : AOp Opd} (hc : cOp S.P S.errs o.op = some c) (hρ : Rho S eb φ ρ f) (hcv : ∀ v,f (.c v) = v) (hg : ∀ g,ρ (.global g) = .pointer (some ⟨g,0,none⟩)) (hM : MR S.errT eb φ M own w) (hk : ∀ b,w.heap.size ≤ b → own b)
    (hA : ∀ g ∈ S.errs,∃ et fr,w.heap[g]? = some (.cells #[.iface S.errT (.pointer (some (eb g)))] et fr))
    (hf : fresh ∈ e.foot → ¬ φ.dom fresh) (hs : bstep fresh M (c.map f) = some (p,e)) (hp : p) : OpRes S eb φ own M fresh w e ((execOp ρ o).run S.P w):=by
  cases ho : o.op with
  | move x =>
    rw [ho] at hc; simp only [cOp,bind,Option.bind_eq_some_iff,Option.some.injEq] at hc
    obtain ⟨cx,hx,rfl⟩:=hc
    have:=mov_ok (S:=S) hx hρ hM hs
    simpa only [execOp,ho,Sem.run_pure] using this
  | assign x =>
    rw [ho] at hc; simp only [cOp,bind,Option.bind_eq_some_iff,Option.some.injEq] at hc
    obtain ⟨cx,hx,rfl⟩:=hc
    have:=mov_ok (S:=S) hx hρ hM hs
    simpa only [execOp,ho,Sem.run_pure] using this
  | pick x y z =>
    rw [ho] at hc; simp only [cOp,bind,Option.bind_eq_some_iff,Option.some.injEq] at hc
    obtain ⟨cx,hx,cy,hy,cz,hz,rfl⟩:=hc
    exact pick_ok hx hy hz hρ hM hs ho
  | alloc el =>
    rw [ho] at hc; simp only [cOp,bind,Option.bind_eq_some_iff,Option.some.injEq] at hc
    obtain ⟨z,hz,rfl⟩:=hc
    obtain ⟨zv,hzr,hzv⟩:=zeroAV_run (S:=S) (eb:=eb) (φ:=φ) (w:=w) hz
    simp only [AOp.map,hcv] at hs
    refine box_ok hM hk (t:=el) hzv hs hp hf ?_
    simp only [execOp,ho,Instr.alloc,Sem.run_bind,hzr,Result.andThen_ok,newVar,newRow,run_newObj',Sem.run_pure,if_true]
  | box el x =>
    rw [ho] at hc; simp only [cOp,bind,Option.bind_eq_some_iff,Option.some.injEq] at hc
    obtain ⟨cx,hx,rfl⟩:=hc
    simp only [AOp.map] at hs
    refine box_ok hM hk (t:=el) (hρ x cx hx) hs hp hf ?_
    simp only [execOp,ho,Instr.box,Sem.run_bind,Result.andThen_ok,newVar,newRow,run_newObj',Sem.run_pure]
  | build t ps =>
    rw [ho] at hc
    simp only [cOp] at hc
    split at hc
    · rename_i hb'
      simp only [bind,Option.bind_eq_some_iff,Option.some.injEq] at hc
      obtain ⟨_,_,z,hz,cps,hps,rfl⟩:=hc
      exact build_ok hz hps hb' hρ hM hs ho
    · cases hc
  | buildSlice t n ps =>
    rw [ho] at hc
    simp only [cOp] at hc
    split at hc
    · rename_i el hu
      split at hc
      · cases hc
      · rename_i hn
        simp only [bind,Option.bind_eq_some_iff,Option.some.injEq] at hc
        obtain ⟨z,hz,cps,hps,rfl⟩:=hc
        exact bslice_ok hu hn hz hps hρ hM hk hf hs ho
    · cases hc
  | load t x =>
    rw [ho] at hc
    cases x with
    | global g =>
      rcases load_global hc with ⟨h1,h2,⟨td,h3⟩,rfl⟩ | rfl
      · exact loadg_ok hA h1 h2 h3 (hg g) hM hs ho
      · simp only [AOp.map,bstep,reduceCtorEq] at hs
    | _ =>
      simp only [cOp] at hc
      split at hc
      · cases hc
      · rename_i hsome
        obtain ⟨td,htd⟩:=isSome_ex hsome
        simp only [bind,Option.bind_eq_some_iff,Option.some.injEq] at hc
        obtain ⟨cx,hx,rfl⟩:=hc
        exact load_ok htd hx hρ hM hs hp ho
  | store t x y =>
    rw [ho] at hc
    simp only [cOp] at hc
    split at hc
    · cases hc
    · rename_i hz
      simp only [bind,Option.bind_eq_some_iff,Option.some.injEq] at hc
      obtain ⟨cx,hx,cy,hy,rfl⟩:=hc
      exact store_ok hz hx hy hρ hM hs hp ho
  | nilCheck x =>
    rw [ho] at hc; simp only [cOp,bind,Option.bind_eq_some_iff,Option.some.injEq] at hc
    obtain ⟨cx,hx,rfl⟩:=hc
    exact nilchk_ok hx hρ hM hs ho
  | binOp op t x y t' =>
    rw [ho] at hc
    simp only [cOp] at hc
    split at hc
    · simp only [bind,Option.bind_eq_some_iff,Option.some.injEq] at hc
      obtain ⟨cx,hx,cy,hy,rfl⟩:=hc
      exact ibin_ok hx hy hρ hM hs hp ho
    · simp only [bind,Option.bind_eq_some_iff,Option.some.injEq] at hc
      obtain ⟨cx,hx,cy,hy,rfl⟩:=hc
      exact ibin_ok hx hy hρ hM hs hp ho
    · split at hc
      · simp only [bind,Option.bind_eq_some_iff,Option.some.injEq] at hc
        obtain ⟨k,hk',cx,hx,cy,hy,rfl⟩:=hc
        exact eq_ok (neg:=false) rfl hk' hx hy hρ hM hs hp ho
      · simp only [bind,Option.bind_eq_some_iff,Option.some.injEq] at hc
        obtain ⟨k,hk',cx,hx,cy,hy,rfl⟩:=hc
        exact eq_ok (neg:=true) rfl hk' hx hy hρ hM hs hp ho
      · cases hc
  | unOp op t x =>
    rw [ho] at hc; simp only [cOp,bind,Option.bind_eq_some_iff,Option.some.injEq] at hc
    obtain ⟨cx,hx,rfl⟩:=hc
    exact un_ok hx hρ hM hs ho
  | convert s d x =>
    rw [ho] at hc
    simp only [cOp] at hc
    split at hc
    · rename_i h1 h2
      simp only [bind,Option.bind_eq_some_iff,Option.some.injEq] at hc
      obtain ⟨cx,hx,rfl⟩:=hc
      exact i2i_ok h1 h2 hx hρ hM hs ho
    · rename_i h1 h2
      simp only [bind,Option.bind_eq_some_iff,Option.some.injEq] at hc
      obtain ⟨cx,hx,rfl⟩:=hc
      exact same_ok h1 h2 hx hρ hM hs ho
    · rename_i h1 h2
      split at hc
      · rename_i h3
        simp only [bind,Option.bind_eq_some_iff,Option.some.injEq] at hc
        obtain ⟨cx,hx,rfl⟩:=hc
        exact s2b_ok h1 h2 h3 hx hρ hM hk hf hs ho
      · cases hc
    · rename_i h1 h2
      split at hc
      · rename_i h3
        simp only [bind,Option.bind_eq_some_iff,Option.some.injEq] at hc
        obtain ⟨cx,hx,rfl⟩:=hc
        exact b2s_ok h1 h2 h3 hx hρ hM hs hp ho
      · cases hc
    · cases hc
  | makeInterface t x =>
    rw [ho] at hc
    simp only [cOp] at hc
    split at hc
    · cases hc
    · rename_i td hn htd
      simp only [bind,Option.bind_eq_some_iff,Option.some.injEq] at hc
      obtain ⟨cx,hx,rfl⟩:=hc
      exact mkifc_ok htd (fun ms h =>hn ms (by rw [← h])) hx hρ hM hs ho
    · cases hc
  | makeFunc fn a b =>
    rw [ho] at hc
    cases fn with
    | func g =>
      simp only [cOp,bind,Option.bind_eq_some_iff,Option.some.injEq] at hc
      obtain ⟨c1,h1,c2,h2,rfl⟩:=hc
      exact mkfn_ok h1 h2 hρ hM hs ho
    | _ =>
      simp only [cOp,Option.some.injEq] at hc
      subst hc
      simp only [AOp.map,bstep,reduceCtorEq] at hs
  | makeMap t r =>
    rw [ho] at hc
    cases r with
    | none =>
      simp only [cOp,Option.some.injEq] at hc
      subst hc
      exact mkmap_ok hM hk hf hs ho
    | some r =>
      simp only [cOp,Option.some.injEq] at hc
      subst hc
      simp only [AOp.map,bstep,reduceCtorEq] at hs
  | makeSlice t n cc =>
    rw [ho] at hc
    simp only [cOp] at hc
    split at hc
    · rename_i el hu
      simp only [bind,Option.bind_eq_some_iff,Option.some.injEq] at hc
      obtain ⟨z,hz,c1,h1,c2,h2,rfl⟩:=hc
      exact mkslice_ok hu hz h1 h2 hρ hM hk hf hs hp ho
    · cases hc
  | slice t x lo hi mx =>
    rw [ho] at hc
    simp only [cOp] at hc
    split at hc
    · rename_i n el hu
      split at hc
      · cases hc
      · rename_i hmx
        have hmx' : mx = none:=by cases mx with
          | none =>rfl
          | some q =>exact absurd rfl hmx
        subst hmx'
        simp only [bind,Option.bind_eq_some_iff,Option.some.injEq] at hc
        obtain ⟨cx,hx,cl,hl,ch,hh,rfl⟩:=hc
        exact sliceArr_ok hu hx hl hh hρ hM hs hp ho
    · rename_i el hu
      split at hc
      · cases hc
      · rename_i hz
        simp only [bind,Option.bind_eq_some_iff,Option.some.injEq] at hc
        obtain ⟨cx,hx,cl,hl,ch,hh,cm,hm,rfl⟩:=hc
        exact slice_ok hu hx hl hh hm hρ hM hz hs hp ho
    · rename_i hu
      split at hc
      · cases hc
      · rename_i hmx
        have hmx' : mx = none:=by cases mx with
          | none =>rfl
          | some q =>exact absurd rfl hmx
        subst hmx'
        simp only [bind,Option.bind_eq_some_iff,Option.some.injEq] at hc
        obtain ⟨cx,hx,cl,hl,ch,hh,rfl⟩:=hc
        exact sliceStr_ok hu hx hl hh hρ hM hs hp ho
    · cases hc
  | fieldAddr s x i =>
    rw [ho] at hc
    simp only [cOp,bind,Option.bind_eq_some_iff] at hc
    obtain ⟨fd,hfd,hc⟩:=hc
    split at hc
    · cases hc
    · rename_i hz
      simp only [Option.bind_eq_some_iff,Option.some.injEq] at hc
      obtain ⟨cx,hx,rfl⟩:=hc
      exact faddr_ok hfd hz hx hρ hM hs ho
  | field s x i =>
    rw [ho] at hc
    simp only [cOp,bind,Option.bind_eq_some_iff] at hc
    obtain ⟨fd,hfd,hc⟩:=hc
    split at hc
    · cases hc
    · rename_i hz
      obtain ⟨td,htd⟩:=isSome_ex hz
      simp only [Option.bind_eq_some_iff,Option.some.injEq] at hc
      obtain ⟨cx,hx,rfl⟩:=hc
      exact fld_ok hfd htd hx hρ hM hs hp ho
  | indexAddr t x i =>
    rw [ho] at hc
    simp only [cOp] at hc
    split at hc
    · rename_i n el hu
      split at hc
      · cases hc
      · rename_i hz
        simp only [bind,Option.bind_eq_some_iff,Option.some.injEq] at hc
        obtain ⟨cx,hx,ci,hi,rfl⟩:=hc
        exact iaddrArr_ok hu hz hx hi hρ hM hs hp ho
    · rename_i el hu
      split at hc
      · cases hc
      · rename_i hz
        simp only [bind,Option.bind_eq_some_iff,Option.some.injEq] at hc
        obtain ⟨cx,hx,ci,hi,rfl⟩:=hc
        exact iaddrSl_ok hu hz hx hi hρ hM hs hp ho
    · cases hc
  | index t x i =>
    rw [ho] at hc
    simp only [cOp] at hc
    split at hc
    · rename_i n el hu
      split at hc
      · cases hc
      · rename_i hz
        simp only [Bool.or_eq_true,Bool.and_eq_true,Bool.not_eq_true',bne_iff_ne,not_or,not_and,Decidable.not_not,decide_eq_true_eq] at hz
        obtain ⟨td,htd⟩:=isSome_ex hz.1
        simp only [bind,Option.bind_eq_some_iff,Option.some.injEq] at hc
        obtain ⟨cx,hx,ci,hi,rfl⟩:=hc
        exact idxArr_ok hu htd hz.2 hx hi hρ hM hs hp ho
    · rename_i hu
      simp only [bind,Option.bind_eq_some_iff,Option.some.injEq] at hc
      obtain ⟨cx,hx,ci,hi,rfl⟩:=hc
      exact idxStr_ok hu hx hi hρ hM hs hp ho
    · cases hc
  | lookup t x k ok =>
    rw [ho] at hc
    simp only [cOp] at hc
    split at hc
    · rename_i kt el hu
      simp only [bind,Option.bind_eq_some_iff,Option.some.injEq] at hc
      obtain ⟨kk,hkk,z,hz,cx,hx,ck,hck,rfl⟩:=hc
      exact lookup_ok hu hkk hz hx hck hρ hM hs hp ho
    · cases hc
  | mapUpdate t x k v =>
    rw [ho] at hc
    simp only [cOp] at hc
    split at hc
    · rename_i kt el hu
      simp only [bind,Option.bind_eq_some_iff,Option.some.injEq] at hc
      obtain ⟨kk,hkk,cx,hx,ck,hck,cv,hv,rfl⟩:=hc
      exact mapupd_ok hu hkk hx hck hv hρ hM hs hp (.inl ho)
    · cases hc
  | insert t x k v =>
    rw [ho] at hc
    simp only [cOp] at hc
    split at hc
    · rename_i kt el hu
      simp only [bind,Option.bind_eq_some_iff,Option.some.injEq] at hc
      obtain ⟨kk,hkk,cx,hx,ck,hck,cv,hv,rfl⟩:=hc
      exact mapupd_ok hu hkk hx hck hv hρ hM hs hp (.inr ho)
    · cases hc
  | mapEntry t x k =>
    rw [ho] at hc
    simp only [cOp] at hc
    split at hc
    · rename_i kt el hu
      simp only [bind,Option.bind_eq_some_iff,Option.some.injEq] at hc
      obtain ⟨kk,hkk,z,hz,cx,hx,ck,hck,rfl⟩:=hc
      exact mentry_ok hu hkk hz hx hck hρ hM hs hp ho
    · cases hc
  | entryStore t x s v =>
    rw [ho] at hc; simp only [cOp,bind,Option.bind_eq_some_iff,Option.some.injEq] at hc
    obtain ⟨cx,hx,cs,hcs,cv,hv,rfl⟩:=hc
    exact estore_ok hx hcs hv hρ hM hs ho
  | extract x i =>
    rw [ho] at hc; simp only [cOp,bind,Option.bind_eq_some_iff,Option.some.injEq] at hc
    obtain ⟨cx,hx,rfl⟩:=hc
    exact extract_ok hx hρ hM hs hp ho
  | call cl =>
    rw [ho] at hc
    obtain ⟨cal,args,ts⟩:=cl
    cases cal with
    | value g =>
      simp only [cOp,bind,Option.bind_eq_some_iff,Option.some.injEq] at hc
      obtain ⟨cg,hg',ca,hca,rfl⟩:=hc
      simp only [AOp.map,bstep,reduceCtorEq] at hs
    | invoke r n =>
      simp only [cOp,Option.some.injEq] at hc
      subst hc
      simp only [AOp.map,bstep,reduceCtorEq] at hs
    | builtin b =>
      simp only [cOp] at hc
      split at hc
      · rename_i x t ts' hargs hts
        have ha:=list_array1 hargs
        subst ha
        have ht0 : ts[0]? = some t:=by rw [← Array.getElem?_toList,hts]; rfl
        split at hc
        · rename_i n el hu
          cases hc
          exact lenArr_ok (.inl ⟨el,hu⟩) ht0 hM hs ho
        · rename_i q hu
          split at hc
          · rename_i n el hq
            cases hc
            exact lenArr_ok (.inr ⟨q,el,hu,hq⟩) ht0 hM hs ho
          · cases hc
        · rename_i hu
          simp only [bind,Option.bind_eq_some_iff,Option.some.injEq] at hc
          obtain ⟨cx,hx,rfl⟩:=hc
          exact len_ok (.inl ⟨rfl,hu⟩) hx ht0 hρ hM hs ho
        · rename_i el hu
          simp only [bind,Option.bind_eq_some_iff,Option.some.injEq] at hc
          obtain ⟨cx,hx,rfl⟩:=hc
          exact len_ok (.inr (.inl ⟨rfl,el,hu⟩)) hx ht0 hρ hM hs ho
        · rename_i a b hu
          simp only [bind,Option.bind_eq_some_iff,Option.some.injEq] at hc
          obtain ⟨cx,hx,rfl⟩:=hc
          exact len_ok (.inr (.inr ⟨rfl,a,b,hu⟩)) hx ht0 hρ hM hs ho
        · cases hc
      · rename_i x y t u hargs hts
        have ha:=list_array2 hargs
        have hb:=list_array2 hts
        subst ha hb
        split at hc
        · rename_i el el' hu hu'
          split at hc
          · simp only [bind,Option.bind_eq_some_iff,Option.some.injEq] at hc
            obtain ⟨z,hz,cx,hx,cy,hy,rfl⟩:=hc
            refine append_ok hu hu' hz hx hy hρ hM hk hf hs hp (rt:=o.type) ?_
            simp only [execOp,ho,resolve,invoke,builtin,Sem.run_bind,Sem.run_pure,Result.andThen_ok,List.map_toArray,List.map_cons,List.map_nil]
          · cases hc
        · cases hc
      · rename_i x y t u hargs hts
        have ha:=list_array2 hargs
        have hb:=list_array2 hts
        subst ha hb
        split at hc
        · rename_i el el' hu hu'
          split at hc
          · rename_i hcond
            obtain ⟨td,htd⟩:=isSome_ex' hcond.2
            simp only [bind,Option.bind_eq_some_iff,Option.some.injEq] at hc
            obtain ⟨cx,hx,cy,hy,rfl⟩:=hc
            refine copy_ok (u:=u) hu htd hx hy hρ hM hs hp (rt:=o.type) ?_
            simp only [execOp,ho,resolve,invoke,builtin,Sem.run_bind,Sem.run_pure,Result.andThen_ok,List.map_toArray,List.map_cons,List.map_nil]
          · cases hc
        · cases hc
      · rename_i x k t ts' hargs hts
        have ha:=list_array2 hargs
        subst ha
        have ht0 : ts[0]? = some t:=by rw [← Array.getElem?_toList,hts]; rfl
        split at hc
        · rename_i kt el hu
          simp only [bind,Option.bind_eq_some_iff,Option.some.injEq] at hc
          obtain ⟨kk,hkk,cx,hx,ck,hck,rfl⟩:=hc
          refine mdel_ok (us:=ts) (rt:=o.type) hu hkk hx hck hρ hM hs hp ?_ ht0
          simp only [execOp,ho,resolve,invoke,builtin,Sem.run_bind,Sem.run_pure,Result.andThen_ok,List.map_toArray,List.map_cons,List.map_nil]
        · cases hc
      · rename_i x t ts' hargs hts
        have ha:=list_array1 hargs
        subst ha
        have ht0 : ts[0]? = some t:=by rw [← Array.getElem?_toList,hts]; rfl
        split at hc
        · rename_i el hu
          split at hc
          · cases hc
          · rename_i hsome
            obtain ⟨td,htd⟩:=isSome_ex hsome
            simp only [bind,Option.bind_eq_some_iff,Option.some.injEq] at hc
            obtain ⟨z,hz,cx,hx,rfl⟩:=hc
            refine clr_ok (us:=ts) (rt:=o.type) hu htd hz hx hρ hM hs hp ?_ ht0
            simp only [execOp,ho,resolve,invoke,builtin,Sem.run_bind,Sem.run_pure,Result.andThen_ok,List.map_toArray,List.map_cons,List.map_nil]
        · cases hc
      · simp only [bind,Option.bind_eq_some_iff,Option.some.injEq] at hc
        obtain ⟨cs,hcs,rfl⟩:=hc
        exact minmax_ok (mx:=false) hcs hρ hM hs ho
      · simp only [bind,Option.bind_eq_some_iff,Option.some.injEq] at hc
        obtain ⟨cs,hcs,rfl⟩:=hc
        exact minmax_ok (mx:=true) hcs hρ hM hs ho
      · cases hc
  | range t x =>
    rw [ho] at hc
    simp only [cOp] at hc
    split at hc
    · rename_i kt el hu
      simp only [bind,Option.bind_eq_some_iff,Option.some.injEq] at hc
      obtain ⟨cx,hx,rfl⟩:=hc
      exact mkiter_ok hu hx hρ hM hk hf hs ho
    · cases hc
  | next x str =>
    rw [ho] at hc
    simp only [cOp] at hc
    split at hc
    · cases hc
    · simp only [bind,Option.bind_eq_some_iff,Option.some.injEq] at hc
      obtain ⟨cx,hx,rfl⟩:=hc
      simp only [AOp.map,bstep,reduceCtorEq] at hs
  | entry x =>
    rw [ho] at hc; simp only [cOp,bind,Option.bind_eq_some_iff,Option.some.injEq] at hc
    obtain ⟨cx,hx,rfl⟩:=hc
    exact entry_ok hx hρ hM hs hp ho
  | _ =>
    rw [ho] at hc
    simp only [cOp,Option.some.injEq] at hc
    subst hc
    simp only [AOp.map,bstep,reduceCtorEq] at hs
end AH
set_option linter.unusedSimpArgs false
namespace AH
open Go
variable {S : Sys} {eb : Nat → Addr}
theorem mget_applyWr' : ∀ (wr : List (Nat × Option Blk)) (m : Mem) (M : Nat → Option Blk),mget m = M → ∀ j,mget (applyWr m wr) j = applyF M wr j
  | [],m,M,h,j =>by rw [← h]; rfl
  | (i,b) :: r,m,M,h,j =>by
    rw [applyWr,mget_applyWr' r _ _ rfl,applyF]
    congr 1
    funext j
    rw [mget_mset,h]
theorem mget_applyWr (wr : List (Nat × Option Blk)) (m : Mem) : mget (applyWr m wr) = applyF (mget m) wr:=funext (mget_applyWr' wr m _ rfl)
theorem applyWr_length : ∀ (wr : List (Nat × Option Blk)) (m : Mem),m.length ≤ (applyWr m wr).length ∧ ∀ i ∈ wr.map Prod.fst,i < (applyWr m wr).length
  | [],m =>by simp [applyWr]
  | (i,b) :: r,m =>by
    obtain ⟨h1,h2⟩:=applyWr_length r (mset m i b)
    obtain ⟨g1,g2⟩:=mset_length m i b
    refine ⟨by rw [applyWr]; omega,fun j hj => ?_⟩
    simp only [List.map_cons,List.mem_cons] at hj
    rw [applyWr]
    rcases hj with rfl | hj
    · omega
    · exact h2 j hj
theorem tget_terase_ne : ∀ (tm : Tm) (d t : Nat),t ≠ d → tget (terase tm d) t = tget tm t
  | [],_,_,_ =>rfl
  | (s,v) :: r,d,t,h =>by
    by_cases hs : s = d
    · subst hs
      have : (s == t) = false:=by simp; omega
      simp [terase,tget,this]
    · have hsd : (s == d) = false:=by simp [hs]
      simp only [terase,hsd,cond_false,tget,tget_terase_ne r d t h]
theorem tget_put (st : St) (d : Option Nat) (v : AV) (t : Nat) : tget (st.put d v).tm t = if d = some t then v else tget st.tm t:=by
  cases d with
  | none =>simp [St.put]
  | some d =>
    simp only [St.put,tget,Option.some.injEq]
    by_cases h : d = t
    · subst h; simp
    · have : (d == t) = false:=by simp [h]
      simp only [this,cond_false,h,if_false]
      exact tget_terase_ne _ _ _ (fun q =>h q.symm)
structure RelAt (S : Sys) (eb : Nat → Addr) (own : Nat → Prop) (w0 : World) (φ0 : Emb) (nt : Nat) (φ : Emb) (st : St) (a : Act) (w : World) : Prop where
  ext : φ0.Ext φ
  size : a.tmps.size = nt
  defers : a.defers = []
  tm : ∀ t,VR S.errT eb φ (tget st.tm t) (a.tmps.getD t undef)
  mr : MR S.errT eb φ (mget st.mem) own w
  keeps : Keeps own w0 w
  bdd : ∀ id,φ.dom id → id < st.mem.length
def Rel (S : Sys) (eb : Nat → Addr) (own : Nat → Prop) (w0 : World) (φ0 : Emb) (nt : Nat) (st : St) (a : Act) (w : World) : Prop:=∃ φ,RelAt S eb own w0 φ0 nt φ st a w
def Lift (S : Sys) (eb : Nat → Addr) (own : Nat → Prop) (w0 : World) (φ0 : Emb) (nt : Nat) (Q : Exit → St → Prop) : Exit → Act → World → Prop :=
  fun e a w => ∃ st,Q e st ∧ Rel S eb own w0 φ0 nt st a w
def UponV (P : Program) (R : Value → World → Prop) : Result Next → Prop
  | .ok (.value v) w =>R v w
  | .ok (.enter f args) w =>Calls P f args w fun e w' => ∃ v,e = .returned v ∧ R v w'
  | .ok (.row row args) w =>Rows P row args w R
  | _ =>False
def CallRes (P : Program) (g : FuncId) (us : Array Value) (w : World) (R : Value → World → Prop) : Prop:=UponV P R ((callFunc g us).run P w)
def CallsA (S : Sys) (C : Callee) : Prop:=∀ g args m K,C g args m K → ∀ eb φ own w0 w (us : Array Value),Amb S eb own w0 → VRs S.errT eb φ args us.toList → MR S.errT eb φ (mget m) own w → Keeps own w0 w →
  (∀ id,φ.dom id → id < m.length) → CallRes S.P g us w fun r w' => ∃ φ' v m',K v m' ∧ φ.Ext φ' ∧ VR S.errT eb φ' v r ∧ MR S.errT eb φ' (mget m') own w' ∧ Keeps own w0 w' ∧ ∀ id,φ'.dom id → id < m'.length
def ReadA (S : Sys) (rd : FuncId → List AV → (Nat → Option Blk) → Option (AV × List Nat)) : Prop:=∀ g args M v foot,rd g args M = some (v,foot) →
  (∀ M',(∀ id ∈ foot,M' id = M id) → rd g args M' = some (v,foot)) ∧
  ∀ eb φ own w0 w (us : Array Value),Amb S eb own w0 → VRs S.errT eb φ args us.toList → MR S.errT eb φ M own w → Keeps own w0 w →
    CallRes S.P g us w fun r w' =>VR S.errT eb φ v r ∧ MR S.errT eb φ M own w' ∧ Keeps own w0 w'
def EffA (S : Sys) (ef : FuncId → List AV → (Nat → Option Blk) → Nat → Option (Eff × Nat)) : Prop:=∀ g args M n e k,ef g args M n = some (e,k) →
  (∀ M',(∀ id ∈ e.wr.map Prod.fst ++ e.foot,M' id = M id) → ef g args M' n = some (e,k)) ∧
  ∀ eb φ own w0 w (us : Array Value),Amb S eb own w0 → VRs S.errT eb φ args us.toList → MR S.errT eb φ M own w → Keeps own w0 w → (∀ j,j < k → ¬ φ.dom (n + j)) →
    CallRes S.P g us w fun r w' => ∃ φ',φ.Ext φ' ∧ VR S.errT eb φ' e.val r ∧ MR S.errT eb φ' (applyF M e.wr) own w' ∧ Keeps own w0 w' ∧ ∀ id,φ'.dom id → φ.dom id ∨ (n ≤ id ∧ id < n + k)
variable {own : Nat → Prop} {w0 w : World} {φ0 φ : Emb} {nt : Nat} {st : St} {a : Act} {K : St → Prop} {Q' : Exit → Act → World → Prop}
theorem RelAt.eval (h : RelAt S eb own w0 φ0 nt φ st a w) : Rho S eb φ a.eval (Opd.ev st.tm):=by
  intro x cx hx
  cases x with
  | tmp t =>simp only [cOpd,Option.some.injEq] at hx; subst hx; exact h.tm t
  | const v =>
    simp only [cOpd,Option.map_eq_some_iff] at hx
    obtain ⟨v',hv,rfl⟩:=hx
    exact ofValue_vr hv
  | global g =>simp [cOpd] at hx
  | func g =>simp only [cOpd,Option.some.injEq] at hx; subst hx; exact .fn g [] [] #[] #[] .nil .nil
theorem RelAt.put (h : RelAt S eb own w0 φ0 nt φ st a w) {φ' : Emb} {w' : World} {m' : Mem} (he : φ.Ext φ') (hm : MR S.errT eb φ' (mget m') own w') (hk : Keeps own w0 w') (hb : ∀ id,φ'.dom id → id < m'.length)
    {d : Option Nat} (hd : d.all (· < nt) = true) {v : AV} {u : Value} (hv : VR S.errT eb φ' v u) : RelAt S eb own w0 φ0 nt φ' (St.put ⟨st.tm,m'⟩ d v) (a.put d u) w':=by
  refine ⟨h.ext.trans he,?_,?_,?_,?_,hk,?_⟩
  · cases d <;> simp [Act.put,h.size]
  · cases d <;> simp [Act.put,h.defers]
  · intro t
    rw [tget_put]
    cases d with
    | none =>simpa [Act.put] using (h.tm t).mono he
    | some d =>
      simp only [Option.all_some,decide_eq_true_eq] at hd
      by_cases hdt : d = t
      · subst hdt
        have hlt : d < a.tmps.size:=by rw [h.size]; exact hd
        simpa [Act.put,hlt] using hv
      · have:=(h.tm t).mono he
        simp only [Option.some.injEq,hdt,if_false]
        simpa [Act.put,Array.getElem?_setIfInBounds_ne hdt] using this
  · cases d <;> exact hm
  · cases d <;> exact hb
theorem RelAt.put_same (h : RelAt S eb own w0 φ0 nt φ st a w) {d : Option Nat} (hd : d.all (· < nt) = true) {v : AV} {u : Value} (hv : VR S.errT eb φ v u) : RelAt S eb own w0 φ0 nt φ (st.put d v) (a.put d u) w :=
  h.put (.refl φ) h.mr h.keeps h.bdd hd hv
theorem op_exec (hA : Amb S eb own w0) {o : Oper} {op : AOp Opd} (hc : cOp S.P S.errs o.op = some op) (h : RelAt S eb own w0 φ0 nt φ st a w) {p : Prop} {e : Eff}
    {fresh : Nat} (hfresh : ¬ φ.dom fresh) (hs : bstep fresh (mget st.mem) (op.map (Opd.ev st.tm)) = some (p,e)) (hp : p) :
    ∃ φ' w' u,((execOp a.eval o).run S.P w = .ok (.value u) w' ∨ ((execOp a.eval o).run S.P w = .ok .skip w' ∧ u = undef)) ∧ φ.Ext φ' ∧ VR S.errT eb φ' e.val u ∧ MR S.errT eb φ' (applyF (mget st.mem) e.wr) own w' ∧ Keeps own w0 w' ∧
      (∀ id,φ'.dom id → φ.dom id ∨ (id = fresh ∧ fresh ∈ e.wr.map Prod.fst)):=by
  have hk : ∀ b,w.heap.size ≤ b → own b:=fun b hb =>h.keeps.new b (Nat.le_trans h.keeps.size hb)
  have hAw : ∀ g ∈ S.errs,∃ et fr,w.heap[g]? = some (.cells #[.iface S.errT (.pointer (some (eb g)))] et fr):=by
    intro g hg
    obtain ⟨et,fr,h1⟩:=hA.at_ g hg
    exact ⟨et,fr,by rw [h.keeps.kept g (Array.getElem?_eq_some_iff.1 h1).1 (hA.out g hg)]; exact h1⟩
  obtain ⟨u,φ',w',h1,h2,h3,h4,h5,h6⟩:=op_sound hc h.eval (fun _ =>rfl) (fun _ =>rfl) h.mr hk hAw (fun _ =>hfresh) hs hp
  exact ⟨φ',w',u,h1,h5,h2,h3,h.keeps.step h4,h6⟩
set_option maxHeartbeats 4000000 in
theorem op_call {op : Op} {P : Program} {errs : List Nat} {f : Opd} {args : List Opd} (h : cOp P errs op = some (.call f args)) : ∃ g xs ts,op = .call { callee:=.value g,args:=xs,argTypes:=ts } ∧ cOpd g = some f ∧ xs.toList.mapM cOpd = some args:=by
  have key : ∀ {c : AOp Opd},cOp P errs op = some c → (∀ f l,c ≠ .call f l) ∨ ∃ g xs ts,op = .call { callee:=.value g,args:=xs,argTypes:=ts }:=by
    intro c hc
    cases op with
    | call cl =>
      obtain ⟨cal,xs,ts⟩:=cl
      cases cal with
      | value g =>exact .inr ⟨g,xs,ts,rfl⟩
      | invoke r n =>
        simp only [cOp,Option.some.injEq] at hc
        exact .inl fun f l q =>by rw [← hc] at q; cases q
      | builtin b =>
        left
        intro f l hcl
        subst hcl
        simp only [cOp,bind] at hc
        repeat' (first | (simp only [Option.some.injEq,reduceCtorEq] at hc; done) | split at hc | (rw [Option.bind_eq_some_iff] at hc; obtain ⟨_,_,hc⟩:=hc))
        all_goals contradiction
    | _ =>
      left
      intro f l hcl
      subst hcl
      simp only [cOp,bind] at hc
      repeat' (first | (simp only [Option.some.injEq,reduceCtorEq] at hc; done) | split at hc | (rw [Option.bind_eq_some_iff] at hc; obtain ⟨_,_,hc⟩:=hc))
      all_goals contradiction
  rcases key h with q | ⟨g,xs,ts,rfl⟩
  · exact absurd rfl (q f args)
  · simp only [cOp,bind,Option.bind_eq_some_iff,Option.some.injEq,AOp.call.injEq] at h
    obtain ⟨cg,h1,cl,h2,rfl,rfl⟩:=h
    exact ⟨g,xs,ts,rfl,h1,h2⟩
set_option maxHeartbeats 4000000 in
theorem op_next {op : Op} {P : Program} {errs : List Nat} {x : Opd} (h : cOp P errs op = some (.next x)) : ∃ x',op = .next x' false ∧ cOpd x' = some x:=by
  have key : ∀ {c : AOp Opd},cOp P errs op = some c → (∀ x,c ≠ .next x) ∨ ∃ x' s,op = .next x' s:=by
    intro c hc
    cases op with
    | next x' s =>exact .inr ⟨x',s,rfl⟩
    | call cl =>
      obtain ⟨cal,xs,ts⟩:=cl
      left
      intro f hcl
      subst hcl
      cases cal <;> simp only [cOp,bind] at hc
      all_goals repeat' (first | (simp only [Option.some.injEq,reduceCtorEq] at hc; done) | split at hc | (rw [Option.bind_eq_some_iff] at hc; obtain ⟨_,_,hc⟩:=hc))
      all_goals contradiction
    | _ =>
      left
      intro f hcl
      subst hcl
      simp only [cOp,bind] at hc
      repeat' (first | (simp only [Option.some.injEq,reduceCtorEq] at hc; done) | split at hc | (rw [Option.bind_eq_some_iff] at hc; obtain ⟨_,_,hc⟩:=hc))
      all_goals contradiction
  rcases key h with q | ⟨x',s,rfl⟩
  · exact absurd rfl (q x)
  · cases s with
    | true =>simp [cOp] at h
    | false =>
      simp only [cOp,bind,Bool.false_eq_true,if_false,Option.bind_eq_some_iff,Option.some.injEq,AOp.next.injEq] at h
      obtain ⟨c,h1,rfl⟩:=h
      exact ⟨x',rfl,h1⟩
theorem op_eq {op : Op} {P : Program} {errs : List Nat} {neg lit : Bool} {k : EqK} {x y : Opd} (h : cOp P errs op = some (.eq neg k lit x y)) :
    ∃ t a b t',op = .binOp (bif neg then .neq else .eql) t a b t' ∧ eqKind P t = some k ∧ cOpd a = some x ∧ cOpd b = some y:=by
  have key : ∀ {c : AOp Opd},cOp P errs op = some c → (∀ n k l x y,c ≠ .eq n k l x y) ∨ ∃ bo t a b t',op = .binOp bo t a b t':=by
    intro c hc
    cases op with
    | binOp bo t a b t' =>exact .inr ⟨bo,t,a,b,t',rfl⟩
    | call cl =>
      obtain ⟨cal,xs,ts⟩:=cl
      left
      intro n k l x y hcl
      subst hcl
      cases cal <;> simp only [cOp,bind] at hc
      all_goals repeat' (first | (simp only [Option.some.injEq,reduceCtorEq] at hc; done) | split at hc | (rw [Option.bind_eq_some_iff] at hc; obtain ⟨_,_,hc⟩:=hc))
      all_goals contradiction
    | _ =>
      left
      intro n k l x y hcl
      subst hcl
      simp only [cOp,bind] at hc
      repeat' (first | (simp only [Option.some.injEq,reduceCtorEq] at hc; done) | split at hc | (rw [Option.bind_eq_some_iff] at hc; obtain ⟨_,_,hc⟩:=hc))
      all_goals contradiction
  rcases key h with q | ⟨bo,t,a,b,t',rfl⟩
  · exact absurd rfl (q _ _ _ _ _)
  · simp only [cOp] at h
    split at h
    · simp [bind,Option.bind_eq_some_iff] at h
    · simp [bind,Option.bind_eq_some_iff] at h
    · split at h
      · simp only [bind,Option.bind_eq_some_iff,Option.some.injEq,AOp.eq.injEq] at h
        obtain ⟨k',hk,cx,hx,cy,hy,rfl,rfl,_,rfl,rfl⟩:=h
        exact ⟨t,a,b,t',rfl,hk,hx,hy⟩
      · simp only [bind,Option.bind_eq_some_iff,Option.some.injEq,AOp.eq.injEq] at h
        obtain ⟨k',hk,cx,hx,cy,hy,rfl,rfl,_,rfl,rfl⟩:=h
        exact ⟨t,a,b,t',rfl,hk,hx,hy⟩
      · cases h
theorem miss_ok {o : Oper} {op : AOp Opd} {ρ : Operand → Value} {f : Opd → AV} (hc : cOp S.P S.errs o.op = some op) (hρ : Rho S eb φ ρ f) (hm : missQ (op.map f) = true) : ∃ b,(execOp ρ o).run S.P w = .ok (.value (.bool b)) w:=by
  cases op <;> simp only [AOp.map,missQ,Bool.false_eq_true] at hm
  rename_i neg k lit x y
  split at hm
  · rename_i n k' l' id ix nn cap heq
    simp only [AOp.eq.injEq] at heq
    obtain ⟨rfl,rfl,rfl,hx0,hy0⟩:=heq
    obtain ⟨t,a,b,t',ho,hk,hx,hy⟩:=op_eq hc
    have vx:=hρ a x hx
    have vy:=hρ b y hy
    rw [hx0] at vx
    rw [hy0] at vy
    have hv : ρ b = .slice none 0 0:=nils_inv vy
    obtain ⟨td,hu,hkd⟩:=eqKind_is hk
    cases td <;> simp only [isKind,Bool.false_eq_true] at hkd
    obtain ⟨ad,c,hu'⟩ : ∃ ad c,ρ a = .slice ad nn c:=by
      rcases (slc_inv vx).2 with ⟨c,h1,_⟩ | ⟨ad,h1,h2,_⟩
      · exact ⟨_,_,h1⟩
      · exact ⟨_,_,by rw [h2]; exact h1⟩
    have hE : ∃ r,∀ D,(Op.equalIn (D + 1) t (ρ a) (ρ b)).run S.P w = .ok r w:=by
      rw [hu',hv]
      cases ad with
      | none =>exact ⟨true,fun D =>by simp [Op.equalIn,run_underlying hu]⟩
      | some q =>exact ⟨false,fun D =>by simp [Op.equalIn,run_underlying hu]⟩
    obtain ⟨r,hE⟩:=hE
    have hER : EqRun S w t a b (ρ a) (ρ b) r:=by
      refine .of hE ?_ ?_ fun op => ?_
      · rw [hu',hv]; rfl
      · rw [hu',hv]; rfl
      · rw [hu',hv]; exact eqGuard_other op t a b _ _ (by simp) (by simp)
    obtain ⟨h1,h2,h3⟩:=hER
    cases neg with
    | false =>exact ⟨r,by simp only [cond_false] at ho; simp [execOp,ho,h1,h3]⟩
    | true =>exact ⟨!r,by simp only [cond_true] at ho; simp [execOp,ho,h2,h3]⟩
  · cases hm
end AH
set_option linter.unusedSimpArgs false
namespace AH
open Go
variable {S : Sys} {eb : Nat → Addr} {own : Nat → Prop} {w0 w : World} {φ ψ : Emb}
def Moves (p : Nat → Bool) (ρ : Nat → Nat) (φ ψ : Emb) : Prop:=∀ id,p id = true → φ.dom id → ψ.dom (ρ id) ∧ ψ.blk (ρ id) = φ.blk id ∧ ψ.base (ρ id) = φ.base id ∧ ψ.k (ρ id) = φ.k id ∧ ψ.size (ρ id) = φ.size id
mutual
theorem vr_ren {p : Nat → Bool} {ρ : Nat → Nat} (hφ : Moves p ρ φ ψ) : ∀ {v : AV} {u : Value},VR S.errT eb φ v u → v.inB p = true → VR S.errT eb ψ (v.ren ρ) u
  | _,_,.undef u,_ => .undef u
  | _,_,.bool b,_ => .bool b
  | _,_,.int k n,_ => .int k n
  | _,_,.str s,_ => .str s
  | _,_,.nilp,_ => .nilp
  | _,_,.ptr id ix sub h,hl =>by
    obtain ⟨h1,h2,h3,h4,h5⟩:=hφ id (by simpa [AV.inB] using hl) h
    rw [← h2,← h3,← h4]
    exact .ptr (ρ id) ix sub h1
  | _,_,.nils,_ => .nils
  | _,_,.slc id ix len cap c h hc he hs,hl =>by
    obtain ⟨h1,h2,h3,h4,h5⟩:=hφ id (by simpa [AV.inB] using hl) h
    rw [← h3,← h4,← h5] at hs
    rw [← h2,← h3,← h4]
    exact .slc (ρ id) ix len cap c h1 hc he hs
  | _,_,.slc0 id ix cap ad h he,hl => .slc0 (ρ id) ix cap ad (hφ id (by simpa [AV.inB] using hl) h).1 he
  | _,_,.isl id ix sub len c h hc,hl =>by
    obtain ⟨h1,h2,h3,h4,h5⟩:=hφ id (by simpa [AV.inB] using hl) h
    rw [← h2,← h3,← h4]
    exact .isl (ρ id) ix sub len c h1 hc
  | _,_,.nilm,_ => .nilm
  | _,_,.map id h,hl =>by
    obtain ⟨h1,h2,_⟩:=hφ id (by simpa [AV.inB] using hl) h
    rw [← h2]
    exact .map (ρ id) h1
  | _,_,.fn f first cap fs cs h1 h2,hl =>by
    simp only [AV.inB,Bool.and_eq_true] at hl
    exact .fn f _ _ fs cs (vrs_ren hφ h1 hl.1) (vrs_ren hφ h2 hl.2)
  | _,_,.nilf,_ => .nilf
  | _,_,.nili,_ => .nili
  | _,_,.ifc t v u h,hl => .ifc t _ u (vr_ren hφ h (by simpa [AV.inB] using hl))
  | _,_,.err i,_ => .err i
  | _,_,.agg cs us h h1,hl => .agg _ us (vrs_ren hφ h (by simpa [AV.inB] using hl)) h1
  | _,_,.tup cs us h,hl => .tup _ us (vrs_ren hφ h (by simpa [AV.inB] using hl))
theorem vrs_ren {p : Nat → Bool} {ρ : Nat → Nat} (hφ : Moves p ρ φ ψ) : ∀ {v : List AV} {u : List Value},VRs S.errT eb φ v u → AV.insB p v = true → VRs S.errT eb ψ (AV.rens ρ v) u
  | _,_,.nil,_ => .nil
  | _,_,.cons v u vs us h hs,hl =>by
    simp only [AV.insB,Bool.and_eq_true] at hl
    exact .cons _ u _ us (vr_ren hφ h hl.1) (vrs_ren hφ hs hl.2)
end
theorem rens_get {ρ : Nat → Nat} : ∀ {l : List AV} {j : Nat} {v : AV},(AV.rens ρ l)[j]? = some v → ∃ v',l[j]? = some v' ∧ v = v'.ren ρ
  | [],j,v,h =>by simp [AV.rens] at h
  | a :: l,0,v,h =>by simp [AV.rens] at h; exact ⟨a,by simp,h.symm⟩
  | a :: l,j + 1,v,h =>by
    simp only [AV.rens,List.getElem?_cons_succ] at h
    obtain ⟨v',h1,h2⟩:=rens_get h
    exact ⟨v',by simpa using h1,h2⟩
theorem rens_len {ρ : Nat → Nat} : ∀ {l : List AV},(AV.rens ρ l).length = l.length
  | [] =>rfl
  | a :: l =>by simp [AV.rens,rens_len (l:=l)]
theorem insB_get {p : Nat → Bool} : ∀ {l : List AV} {j : Nat} {v : AV},AV.insB p l = true → l[j]? = some v → v.inB p = true
  | a :: l,0,v,h,hj =>by simp [AV.insB] at h; simp at hj; subst hj; exact h.1
  | a :: l,j + 1,v,h,hj =>by simp [AV.insB] at h; exact insB_get h.2 (by simpa using hj)
theorem er_ren {p : Nat → Bool} {ρ : Nat → Nat} (hφ : Moves p ρ φ ψ) : ∀ {es : List (AV × AV × Nat)} {us : List MapEntry},ER S.errT eb φ es us → (es.all fun e =>e.1.inB p && e.2.1.inB p) = true → ER S.errT eb ψ (es.map fun e =>(e.1.ren ρ,e.2.1.ren ρ,e.2.2)) us
  | _,_,.nil,_ => .nil
  | _,_,.cons k v s x y es us hk hv h,hl =>by
    simp only [List.all_cons,Bool.and_eq_true] at hl
    exact .cons _ _ s x y _ us (vr_ren hφ hk hl.1.1) (vr_ren hφ hv hl.1.2) (er_ren hφ h hl.2)
def Blk.asRo : Bool → Blk → Blk
  | true,.row _ k es => .row true k es
  | _,b =>b
theorem br_ren {p : Nat → Bool} {ρ : Nat → Nat} (hφ : Moves p ρ φ ψ) {id : Nat} {b : Blk} {o : Obj} (hd : φ.dom id) (hid : p id = true) (hl : b.inB p = true) (h : BR S.errT eb φ id b o) (r : Bool) : BR S.errT eb ψ (ρ id) ((b.ren ρ).asRo r) o:=by
  obtain ⟨e1,e2,e3,e4,e5⟩:=hφ id hid hd
  cases b with
  | row ro k es =>
    obtain ⟨arr,et,fr,h1,h2,h3,h4,h5,h6⟩:=h
    have key : ∀ ro',(ro' = false → ro = false) → BR S.errT eb ψ (ρ id) (.row ro' k (es.map (AV.rens ρ))) o:=by
      intro ro' hro
      refine ⟨arr,et,fr,h1,by rw [e4]; exact h2,by rw [e5]; exact h3,by rw [e3,List.length_map]; exact h4,fun q =>h5 (hro q),fun i x hx => ?_⟩
      simp only [List.getElem?_map,Option.map_eq_some_iff] at hx
      obtain ⟨x',hx',rfl⟩:=hx
      obtain ⟨g1,g2⟩:=h6 i x' hx'
      refine ⟨by rw [rens_len]; exact g1,fun j v hv => ?_⟩
      obtain ⟨v',hv',rfl⟩:=rens_get hv
      obtain ⟨u,k1,k2,k3⟩:=g2 j v' hv'
      have hx'' : AV.insB p x' = true:=by
        simp only [Blk.inB,List.all_eq_true] at hl
        exact hl x' (List.mem_of_getElem? hx')
      exact ⟨u,by rw [e3]; exact k1,vr_ren hφ k2 (insB_get hx'' hv'),k3⟩
    cases r
    · exact key ro (fun q =>q)
    · exact key true (fun q =>by cases q)
  | map es c =>
    obtain ⟨us,h1,h2⟩:=h
    have : BR S.errT eb ψ (ρ id) (.map (es.map fun e =>(e.1.ren ρ,e.2.1.ren ρ,e.2.2)) c) o:=⟨us,h1,er_ren hφ h2 (by simpa [Blk.inB] using hl)⟩
    cases r <;> exact this
  | iter m s l seen =>
    obtain ⟨h1,h0,h2⟩:=h
    have : BR S.errT eb ψ (ρ id) (.iter (m.map ρ) s l seen) o:=by
      cases m with
      | none =>exact ⟨h1,by rw [e3]; exact h0,fun i hi =>by cases hi⟩
      | some i =>
        obtain ⟨q1,q2,_⟩:=hφ i (by simpa [Blk.inB] using hl) (h2 i rfl)
        refine ⟨by rw [Option.map_some,Option.map_some,q2]; exact h1,by rw [e3]; exact h0,fun j hj => ?_⟩
        simp only [Option.map_some,Option.some.injEq] at hj
        subst hj
        exact q1
    cases r <;> exact this
theorem Blk.solid_ren {p : Nat → Bool} {ρ : Nat → Nat} (hφ : Moves p ρ φ ψ) {id : Nat} (hd : φ.dom id) (hid : p id = true) {b : Blk} : (b.ren ρ).solid ψ (ρ id) ↔ b.solid φ id:=by
  obtain ⟨_,_,_,_,e5⟩:=hφ id hid hd
  cases b <;> simp only [Blk.ren,Blk.solid,e5,ne_eq,List.map_eq_nil_iff]
theorem Blk.kk_ren {p : Nat → Bool} {ρ : Nat → Nat} (hφ : Moves p ρ φ ψ) {id : Nat} (hd : φ.dom id) (hid : p id = true) {k : Nat} (h : φ.k id = k) : ψ.k (ρ id) = k:=by
  obtain ⟨_,_,_,e4,_⟩:=hφ id hid hd
  rw [e4]; exact h
theorem inN_iff : ∀ {l : List Nat} {id : Nat},inN l id = true ↔ id ∈ l
  | [],id =>by simp [inN]
  | a :: r,id =>by
    simp only [inN,Bool.or_eq_true,beq_iff_eq,inN_iff (l:=r),List.mem_cons]
    constructor
    · rintro (h | h)
      · exact .inl h.symm
      · exact .inr h
    · rintro (h | h)
      · exact .inl h.symm
      · exact .inr h
theorem posN_spec : ∀ {l : List Nat} {id : Nat},inN l id = true → l[posN l id]? = some id
  | [],id,h =>by simp [inN] at h
  | a :: r,id,h =>by
    simp only [posN]
    by_cases e : a = id
    · subst e; simp
    · have hb : (a == id) = false:=by simp [e]
      simp only [inN,hb,Bool.false_or] at h
      simp only [hb,cond_false,List.getElem?_cons_succ]
      exact posN_spec h
theorem distN_inj : ∀ {l : List Nat},distN l = true → ∀ {i j a : Nat},l[i]? = some a → l[j]? = some a → i = j
  | [],_,i,j,a,h,_ =>by simp at h
  | b :: r,hd,i,j,a,hi,hj =>by
    simp only [distN,Bool.and_eq_true,Bool.not_eq_true'] at hd
    cases i with
    | zero =>
      cases j with
      | zero =>rfl
      | succ j =>
        simp at hi hj
        subst hi
        have : inN r b = true:=inN_iff.2 (List.mem_of_getElem? hj)
        rw [hd.1] at this; cases this
    | succ i =>
      cases j with
      | zero =>
        simp at hi hj
        subst hj
        have : inN r b = true:=inN_iff.2 (List.mem_of_getElem? hi)
        rw [hd.1] at this; cases this
      | succ j =>
        simp at hi hj
        rw [distN_inj hd.2 hi hj]
theorem packM_get (l0 : List Nat) (m : Mem) : ∀ (l : List Nat) (j : Nat),mget (packM l0 m l) j = match l[j]? with
    | some id =>(mget m id).map (Blk.ren (posN l0))
    | none =>none
  | [],j =>by cases j <;> rfl
  | a :: l,0 =>by simp [packM,mget]
  | a :: l,j + 1 =>by simp only [packM,mget,packM_get l0 m l j,List.getElem?_cons_succ]
theorem packM_len (l0 : List Nat) (m : Mem) : ∀ l : List Nat,(packM l0 m l).length = l.length
  | [] =>rfl
  | a :: l =>by simp [packM,packM_len l0 m l]
theorem packB_spec {l0 : List Nat} {m : Mem} : ∀ {l : List Nat},packB l0 m l = true → ∀ {id : Nat} {b : Blk},id ∈ l → mget m id = some b → b.inB (inN l0) = true
  | a :: l,h,id,b,hid,hb =>by
    simp only [packB,Bool.and_eq_true] at h
    rcases List.mem_cons.1 hid with e | e
    · subst e
      have:=h.1
      rw [hb] at this
      exact this
    · exact packB_spec h.2 e hb
theorem heads_spec : ∀ {n i : Nat} {l : List Nat},heads n i l = true → ∀ j,j < n → l[j]? = some (i + j)
  | n + 1,i,a :: r,h,j,hj =>by
    simp only [heads,Bool.and_eq_true,beq_iff_eq] at h
    cases j with
    | zero =>simp [h.1]
    | succ j =>
      rw [List.getElem?_cons_succ,heads_spec h.2 j (by omega)]
      congr 1; omega
def Emb.pack (φ : Emb) (l : List Nat) : Emb :=
  { dom:=fun j => ∃ id,l[j]? = some id ∧ φ.dom id,blk:=fun j => φ.blk (l.getD j 0),base:=fun j => φ.base (l.getD j 0),k:=fun j => φ.k (l.getD j 0),size:=fun j => φ.size (l.getD j 0) }
theorem moves_pack {l : List Nat} : Moves (inN l) (posN l) φ (φ.pack l):=by
  intro id hid hd
  have h:=posN_spec hid
  have e : l.getD (posN l id) 0 = id:=by rw [List.getD_eq_getElem?_getD,h]; rfl
  exact ⟨⟨id,h,hd⟩,by simp only [Emb.pack,e],by simp only [Emb.pack,e],by simp only [Emb.pack,e],by simp only [Emb.pack,e]⟩
theorem ext_pack {φ0 : Emb} {l : List Nat} {base : Nat} (h : φ0.Ext φ) (hb : ∀ id,φ0.dom id → id < base) (hl : heads base 0 l = true) : φ0.Ext (φ.pack l):=by
  have key : ∀ id,φ0.dom id → l[id]? = some id:=fun id hid =>by
    have:=heads_spec hl id (hb id hid)
    simpa using this
  have kd : ∀ id,φ0.dom id → l.getD id 0 = id:=fun id hid =>by rw [List.getD_eq_getElem?_getD,key id hid]; rfl
  exact ⟨fun id hid =>⟨id,key id hid,h.dom id hid⟩,fun id hid =>by simp only [Emb.pack,kd id hid]; exact h.blk id hid,fun id hid =>by simp only [Emb.pack,kd id hid]; exact h.base id hid,
    fun id hid =>by simp only [Emb.pack,kd id hid]; exact h.k id hid,fun id hid =>by simp only [Emb.pack,kd id hid]; exact h.size id hid⟩
theorem blk_ren_rw {ρ : Nat → Nat} {b : Blk} : (b.ren ρ).rw ↔ b.rw:=by cases b <;> exact Iff.rfl
theorem mr_pack {m : Mem} {l : List Nat} (h : MR S.errT eb φ (mget m) own w) (hd : distN l = true) (hB : packB l m l = true) : MR S.errT eb (φ.pack l) (mget (packM l m l)) own w:=by
  have key : ∀ {j : Nat} {b : Blk},mget (packM l m l) j = some b → ∃ id b0,l[j]? = some id ∧ mget m id = some b0 ∧ b = b0.ren (posN l):=fun {j b} hj =>by
    rw [packM_get] at hj
    split at hj
    · rename_i id hid
      simp only [Option.map_eq_some_iff] at hj
      obtain ⟨b0,h1,rfl⟩:=hj
      exact ⟨id,b0,hid,h1,rfl⟩
    · cases hj
  have pos : ∀ {j id : Nat},l[j]? = some id → posN l id = j:=fun {j id} hj =>distN_inj hd (posN_spec (inN_iff.2 (List.mem_of_getElem? hj))) hj
  have blk : ∀ {j id : Nat},l[j]? = some id → (φ.pack l).blk j = φ.blk id:=fun {j id} hj =>by
    simp only [Emb.pack,List.getD_eq_getElem?_getD,hj,Option.getD_some]
  have mv:=moves_pack (φ:=φ) (l:=l)
  have sol : ∀ {j id : Nat} {b0 : Blk},l[j]? = some id → mget m id = some b0 → (b0.ren (posN l)).solid (φ.pack l) j → b0.solid φ id:=fun {j id b0} h1 h2 hs =>by
    have:=pos h1
    refine (Blk.solid_ren mv (h.dom id b0 h2) (inN_iff.2 (List.mem_of_getElem? h1))).1 ?_
    rw [this]; exact hs
  refine ⟨fun j b hj => ?_,fun j ro k es hj => ?_,fun j b hj hs => ?_,fun j b hj hr hs => ?_,fun i j b b' hi hj hne hr hs hs2 => ?_⟩
  · obtain ⟨id,b0,h1,h2,_⟩:=key hj
    exact ⟨id,h1,h.dom id b0 h2⟩
  · obtain ⟨id,b0,h1,h2,h3⟩:=key hj
    cases b0 with
    | row ro' k' es' =>
      simp only [Blk.ren,Blk.row.injEq] at h3
      obtain ⟨rfl,rfl,rfl⟩:=h3
      have:=Blk.kk_ren mv (h.dom id _ h2) (inN_iff.2 (List.mem_of_getElem? h1)) (h.kk id _ _ _ h2)
      rwa [pos h1] at this
    | _ =>simp only [Blk.ren,reduceCtorEq] at h3
  · obtain ⟨id,b0,h1,h2,rfl⟩:=key hj
    obtain ⟨o,ho,hbr⟩:=h.blk id b0 h2 (sol h1 h2 hs)
    refine ⟨o,by rw [blk h1]; exact ho,?_⟩
    have:=br_ren (S:=S) (eb:=eb) (moves_pack (φ:=φ) (l:=l)) (h.dom id b0 h2) (inN_iff.2 (List.mem_of_getElem? h1)) (packB_spec hB (List.mem_of_getElem? h1) h2) hbr false
    rw [pos h1] at this
    cases b0 <;> exact this
  · obtain ⟨id,b0,h1,h2,rfl⟩:=key hj
    rw [blk h1]
    exact h.own id b0 h2 (blk_ren_rw.1 hr) (sol h1 h2 hs)
  · obtain ⟨id,b0,h1,h2,rfl⟩:=key hi
    obtain ⟨id',b0',h1',h2',rfl⟩:=key hj
    rw [blk h1,blk h1']
    refine h.inj id id' b0 b0' h2 h2' (fun e => ?_) (blk_ren_rw.1 hr) (sol h1 h2 hs) (sol h1' h2' hs2)
    subst e
    exact hne (distN_inj hd h1 h1')
end AH
set_option linter.unusedSimpArgs false
namespace AH
open Go
variable {S : Sys} {eb : Nat → Addr} {own : Nat → Prop} {w0 w : World} {φ0 φ : Emb} {nt : Nat} {st : St} {a : Act} {K : St → Prop} {Q' : Exit → Act → World → Prop} {C : Ctx}
theorem evs_vrs (h : RelAt S eb own w0 φ0 nt φ st a w) : ∀ {xs : List Operand} {cs : List Opd},xs.mapM cOpd = some cs → VRs S.errT eb φ (evs st.tm cs) (xs.map a.eval)
  | [],cs,hm =>by simp at hm; subst hm; exact .nil
  | x :: xs,cs,hm =>by
    rw [List.mapM_cons] at hm
    simp only [bind,Option.bind_eq_some_iff,pure,Option.some.injEq] at hm
    obtain ⟨c,hc,cs',hcs,rfl⟩:=hm
    exact .cons _ _ _ _ (h.eval x c hc) (evs_vrs h hcs)
theorem vr_fn {g : FuncId} {first cap : List AV} {u : Value} (h : VR S.errT eb φ (.fn g first cap) u) : ∃ fs cs : Array Value,u = .func (.func g) fs cs ∧ VRs S.errT eb φ first fs.toList ∧ VRs S.errT eb φ cap cs.toList:=by
  cases h; exact ⟨_,_,rfl,by assumption,by assumption⟩
theorem upon_of_uponV {o : Oper} {N : Act → World → Prop} {r : Result Next} (h : UponV S.P (fun u w' =>N (a.put o.dst u) w') r) : o.upon S.P a N Q' r:=by
  cases r with
  | halt x w =>exact h.elim
  | ok n w' =>
    cases n <;> simp only [UponV] at h <;> first | exact h.elim | skip
    · exact h
    · refine Calls.mono h fun e w'' he => ?_
      obtain ⟨v,rfl,hv⟩:=he
      exact hv
    · exact Rows.mono h fun _ _ hv =>hv
theorem UponV.mono {P : Program} {R R' : Value → World → Prop} (hr : ∀ v w,R v w → R' v w) {r : Result Next} (h : UponV P R r) : UponV P R' r:=by
  cases r with
  | halt x w =>exact h.elim
  | ok n w' =>
    cases n <;> simp only [UponV] at h ⊢ <;> first | exact h.elim | skip
    · exact hr _ _ h
    · exact Calls.mono h fun e w'' ⟨v,he,hv⟩ =>⟨v,he,hr _ _ hv⟩
    · exact Rows.mono h fun _ _ hv =>hr _ _ hv
theorem exec_call {o : Oper} {g : Operand} {xs : Array Operand} {ts : Array TypeId} (ho : o.op = .call { callee:=.value g,args:=xs,argTypes:=ts }) {gi : FuncId} {fs cs : Array Value} {ρ : Operand → Value} (hg : ρ g = .func (.func gi) fs cs) :
    execOp ρ o = callFunc gi (fs ++ xs.map ρ ++ cs):=by
  simp only [execOp,ho,resolve,hg,Deferred.ofValue,invoke,pure_bind]
theorem opW (hA : Amb S eb own w0) (hC : CallsA S C.call) {o : Oper} {op : AOp Opd} (hc : cOp S.P S.errs o.op = some op) (h : RelAt S eb own w0 φ0 nt φ st a w) (hd : o.dst.all (· < nt) = true) (hw : wpOp C o.dst op st K) :
    o.wp S.P a w (fun a w => ∃ st,K st ∧ Rel S eb own w0 φ0 nt st a w) Q':=by
  unfold wpOp at hw
  split at hw
  · rename_i f args hcall
    have hop : op = .call f args:=by cases op <;> simp [AOp.call?] at hcall; obtain ⟨rfl,rfl⟩:=hcall; rfl
    subst hop
    obtain ⟨g,xs,ts,ho,hg,hxs⟩:=op_call hc
    have vg:=h.eval g f hg
    unfold wpCall at hw
    split at hw
    · rename_i gi first cap hf
      rw [hf] at vg
      obtain ⟨fs,cs,hgv,h1,h2⟩:=vr_fn vg
      have hv : VRs S.errT eb φ (first ++ evs st.tm args ++ cap) (fs ++ xs.map a.eval ++ cs).toList:=by
        simp only [Array.toList_append,Array.toList_map]
        exact (h1.append (evs_vrs h hxs)).append h2
      have hr:=hC gi _ _ _ hw eb φ own w0 w _ hA hv h.mr h.keeps h.bdd
      refine upon_of_uponV ?_
      rw [exec_call ho hgv]
      refine UponV.mono ?_ hr
      rintro u w' ⟨φ',v,m',hK,he,hvr,hm,hk,hb⟩
      exact ⟨_,hK,φ',h.put he hm hk hb hd hvr⟩
    · exact hw.elim
  · split at hw
    · rename_i x hnx
      have hop : op = .next x:=by cases op <;> simp [AOp.next?] at hnx; subst hnx; rfl
      subst hop
      obtain ⟨x',ho,hx⟩:=op_next hc
      obtain ⟨v,u,m',w',hK,hr,hv,hm,hs,hl⟩:=next_ok (S:=S) (own:=own) hx h.eval h.mr h.bdd hw ho
      have hput : ∃ st',K st' ∧ Rel S eb own w0 φ0 nt st' (a.put o.dst u) w' :=
        ⟨_,hK,φ,h.put (.refl φ) hm (h.keeps.step hs) (fun id hid =>Nat.lt_of_lt_of_le (h.bdd id hid) hl) hd hv⟩
      unfold Oper.wp
      rw [hr]
      exact hput
    cases hmiss : missQ (op.map (Opd.ev st.tm)) with
    | true =>
      rw [hmiss] at hw
      obtain ⟨b,hb⟩:=miss_ok (w:=w) hc h.eval hmiss
      unfold Oper.wp
      rw [hb]
      refine ⟨st.put o.dst (.bool b),?_,φ,h.put (.refl φ) h.mr h.keeps h.bdd hd (.bool b)⟩
      cases b
      · exact hw.2
      · exact hw.1
    | false =>
    rw [hmiss] at hw
    simp only [wpEffX] at hw
    unfold wpEff at hw
    split at hw
    · rename_i p e hs
      obtain ⟨hp,hK⟩:=hw
      have hfresh : ¬ φ.dom st.mem.length:=fun q =>Nat.lt_irrefl _ (h.bdd _ q)
      obtain ⟨φ',w',u,hr,he,hv,hm,hk,hdom⟩:=op_exec hA hc h hfresh hs hp
      have hput : ∃ st',K st' ∧ Rel S eb own w0 φ0 nt st' (a.put o.dst u) w':=by
        refine ⟨_,hK,φ',?_⟩
        refine h.put he (m':=applyWr st.mem e.wr) (by rw [mget_applyWr]; exact hm) hk ?_ hd hv
        intro id hid
        obtain ⟨g1,g2⟩:=applyWr_length e.wr st.mem
        rcases hdom id hid with q | ⟨rfl,q⟩
        · exact Nat.lt_of_lt_of_le (h.bdd id q) g1
        · exact g2 _ q
      unfold Oper.wp
      rcases hr with hr | ⟨hr,rfl⟩
      · rw [hr]; exact hput
      · rw [hr]; exact hput
    · exact hw.elim
theorem yielded_bool {ops : Array Oper} {j d : Nat} {o : Oper} (hj : ops[j]? = some o) (hd : o.dst = some d) {b : Bool} (h : a.tmps.getD d undef = .bool b) : yielded ops a.tmps j = some b:=by
  have : a.tmps[d]? = some (.bool b):=by
    cases hq : a.tmps[d]? with
    | none =>simp [hq,undef] at h
    | some x =>simp [hq] at h; rw [h]
  simp [yielded,hj,hd,this]
theorem yielded_unit {ops : Array Oper} {j d : Nat} {o : Oper} (hj : ops[j]? = some o) (hd : o.dst = some d) (h : a.tmps.getD d undef = .tuple #[]) : yielded ops a.tmps j = none:=by
  cases hq : a.tmps[d]? with
  | none =>simp [yielded,hj,hd,hq]
  | some x =>
    simp [hq] at h
    subst h
    simp [yielded,hj,hd,hq]
theorem vr_bool {b : Bool} {u : Value} (h : VR S.errT eb φ (.bool b) u) : u = .bool b:=by cases h; rfl
theorem vr_tup0 {u : Value} (h : VR S.errT eb φ (.tup []) u) : u = .tuple #[]:=by
  cases h
  rename_i us hs
  cases us with
  | mk l =>cases l with
    | nil =>rfl
    | cons x l =>cases hs
theorem cOper_inv {ops : Array Oper} {o : Oper} {ao : AOper} (h : cOper S.P S.errs nt ops o = some ao) :
    cOp S.P S.errs o.op = some ao.op ∧ ao.dst = o.dst ∧ o.dst.all (· < nt) = true ∧
      ((o.guard = none ∧ ao.guard = none) ∨ ∃ j want d oj,o.guard = some (j,want) ∧ ao.guard = some (d,want) ∧ ops[j]? = some oj ∧ oj.dst = some d):=by
  simp only [cOper,bind,Option.bind_eq_some_iff] at h
  obtain ⟨op,hop,h⟩:=h
  split at h
  · rename_i hall
    simp only [Option.bind_some] at h
    split at h
    · rename_i hg
      simp only [Option.some.injEq] at h
      subst h
      exact ⟨hop,rfl,hall,.inl ⟨hg,rfl⟩⟩
    · rename_i j want hg
      simp only [Option.bind_eq_some_iff,Option.some.injEq] at h
      obtain ⟨oj,hoj,d,hd,rfl⟩:=h
      exact ⟨hop,rfl,hall,.inr ⟨j,want,d,oj,hg,rfl,hoj,hd⟩⟩
  · cases h
theorem listW (hA : Amb S eb own w0) (hC : CallsA S C.call) {ops : Array Oper} (hK : ∀ st a w,K st → Rel S eb own w0 φ0 nt st a w → Q' .normal a w) :
    ∀ {l : List Oper} {al : List AOper},l.mapM (cOper S.P S.errs nt ops) = some al → ∀ {st : St} {a : Act} {w : World},wpOps C al K st → Rel S eb own w0 φ0 nt st a w → wpList S.P ops Q' l a w
  | [],al,hl,st,a,w,hw,hr =>by
    simp at hl
    subst hl
    exact hK _ _ _ hw hr
  | o :: l,al,hl,st,a,w,hw,⟨φ,hr⟩ =>by
    rw [List.mapM_cons] at hl
    simp only [bind,Option.bind_eq_some_iff,pure,Option.some.injEq] at hl
    obtain ⟨ao,hao,al',hal,rfl⟩:=hl
    obtain ⟨h1,h2,h3,h4⟩:=cOper_inv hao
    have next : ∀ a w,(∃ st,wpOps C al' K st ∧ Rel S eb own w0 φ0 nt st a w) → wpList S.P ops Q' l a w:=fun a w ⟨st,hs,hr⟩ =>listW hA hC hK hal hs hr
    have run : wpOp C ao.dst ao.op st (wpOps C al' K) → o.wp S.P a w (wpList S.P ops Q' l) Q':=fun h =>by
      rw [h2] at h
      exact Oper.wp_mono next (opW hA hC h1 hr h3 h)
    have skip : wpOps C al' K (st.put ao.dst (.tup [])) → wpList S.P ops Q' l (a.put o.dst undef) w:=fun h =>by
      refine next _ _ ⟨_,h,φ,?_⟩
      rw [h2]
      exact hr.put_same h3 (.tup [] #[] .nil)
    unfold wpList
    rcases h4 with ⟨g1,g2⟩ | ⟨j,want,d,oj,g1,g2,g3,g4⟩
    · simp only [wpOps,g2] at hw
      rw [if_pos (by simp [Region.wanted,g1])]
      exact .inl (run hw)
    · simp only [wpOps,g2] at hw
      have vd:=hr.tm d
      generalize tget st.tm d = v at hw vd
      unfold wpG at hw
      split at hw
      · rename_i b
        have hy:=yielded_bool g3 g4 (vr_bool vd)
        by_cases hb : b = want
        · rw [if_pos (by simp [Region.wanted,g1,hy,hb])]
          exact .inl (run (hw.1 hb))
        · rw [if_neg (by simp [Region.wanted,g1,hy,hb])]
          exact skip (hw.2 (by cases b <;> cases want <;> simp_all))
      · have hy:=yielded_unit g3 g4 (vr_tup0 vd)
        rw [if_neg (by simp [Region.wanted,g1,hy])]
        exact skip hw
      · exact hw.elim
def LoopAt (P : Program) (c : Code) (Q : Exit → Act → World → Prop) (a : Act) (w : World) : Prop :=
  ∀ (b : Frame) (k : List Item) (cs : List Frame),∃ e a' w',Q e a' w' ∧ Arrives P (lone (b.at a (.code c :: .inLoop c :: k)) cs w) b k cs e a' w'
theorem LoopAt.unroll {P : Program} {c : Code} {Q : Exit → Act → World → Prop} {a : Act} {w : World} (h : c.wp P (Exit.then (LoopAt P c Q) Q) a w) : LoopAt P c Q a w:=by
  intro b k cs
  obtain ⟨e,a₁,w₁,hq,harr⟩:=h b (.inLoop c :: k) cs
  cases e with
  | normal =>
    obtain ⟨e₂,a₂,w₂,hq₂,harr₂⟩:=hq b k cs
    exact ⟨e₂,a₂,w₂,hq₂,.of_steps (Steps.trans harr (.one step_inLoop)) harr₂⟩
  | exit id =>exact ⟨_,a₁,w₁,hq,.pass (x:=.inLoop c) rfl (fun _ _ => .inl (by simp)) harr⟩
  | goto l =>exact ⟨_,a₁,w₁,hq,.pass (x:=.inLoop c) rfl (fun _ _ => .inl (by simp)) harr⟩
  | ret =>exact ⟨_,a₁,w₁,hq,.pass (x:=.inLoop c) rfl (fun _ _ => .inl (by simp)) harr⟩
  | panic ch =>exact ⟨_,a₁,w₁,hq,.pass (x:=.inLoop c) rfl (fun _ _ => .inl (by simp)) harr⟩
  | outgrown =>exact ⟨_,a₁,w₁,hq,.pass (x:=.inLoop c) rfl (fun _ _ => .inl (by simp)) harr⟩
theorem LoopAt.loop {P : Program} {c : Code} {Q : Exit → Act → World → Prop} {a : Act} {w : World} (h : LoopAt P c Q a w) : (Code.loop c).wp P Q a w:=by
  intro b k cs
  obtain ⟨e,a',w',hq,harr⟩:=h b k cs
  exact ⟨e,a',w',hq,.of_steps (.one step_loop) harr⟩
mutual
theorem lt_vr {n : Nat} {φ' : Emb} (hφ : ∀ id,id < n → φ.dom id → φ'.dom id ∧ φ'.blk id = φ.blk id ∧ φ'.base id = φ.base id ∧ φ'.k id = φ.k id ∧ φ'.size id = φ.size id) : ∀ {v : AV} {u : Value},VR S.errT eb φ v u → v.lt n = true → VR S.errT eb φ' v u
  | _,_,.undef u,_ => .undef u
  | _,_,.bool b,_ => .bool b
  | _,_,.int k n,_ => .int k n
  | _,_,.str s,_ => .str s
  | _,_,.nilp,_ => .nilp
  | _,_,.ptr id ix sub h,hl =>by
    obtain ⟨h1,h2,h3,h4,h5⟩:=hφ id (by simpa [AV.lt] using hl) h
    rw [← h2,← h3,← h4]
    exact .ptr id ix sub h1
  | _,_,.nils,_ => .nils
  | _,_,.slc id ix len cap c h hc he hs,hl =>by
    obtain ⟨h1,h2,h3,h4,h5⟩:=hφ id (by simpa [AV.lt] using hl) h
    rw [← h3,← h4,← h5] at hs
    rw [← h2,← h3,← h4]
    exact .slc id ix len cap c h1 hc he hs
  | _,_,.slc0 id ix cap ad h he,hl => .slc0 id ix cap ad (hφ id (by simpa [AV.lt] using hl) h).1 he
  | _,_,.isl id ix sub len c h hc,hl =>by
    obtain ⟨h1,h2,h3,h4,h5⟩:=hφ id (by simpa [AV.lt] using hl) h
    rw [← h2,← h3,← h4]
    exact .isl id ix sub len c h1 hc
  | _,_,.nilm,_ => .nilm
  | _,_,.map id h,hl =>by
    obtain ⟨h1,h2,_⟩:=hφ id (by simpa [AV.lt] using hl) h
    rw [← h2]
    exact .map id h1
  | _,_,.fn f first cap fs cs h1 h2,hl =>by
    simp only [AV.lt,Bool.and_eq_true] at hl
    exact .fn f first cap fs cs (lts_vr hφ h1 hl.1) (lts_vr hφ h2 hl.2)
  | _,_,.nilf,_ => .nilf
  | _,_,.nili,_ => .nili
  | _,_,.ifc t v u h,hl => .ifc t v u (lt_vr hφ h (by simpa [AV.lt] using hl))
  | _,_,.err i,_ => .err i
  | _,_,.agg cs us h h1,hl => .agg cs us (lts_vr hφ h (by simpa [AV.lt] using hl)) h1
  | _,_,.tup cs us h,hl => .tup cs us (lts_vr hφ h (by simpa [AV.lt] using hl))
theorem lts_vr {n : Nat} {φ' : Emb} (hφ : ∀ id,id < n → φ.dom id → φ'.dom id ∧ φ'.blk id = φ.blk id ∧ φ'.base id = φ.base id ∧ φ'.k id = φ.k id ∧ φ'.size id = φ.size id) : ∀ {v : List AV} {u : List Value},VRs S.errT eb φ v u → AV.lts n v = true → VRs S.errT eb φ' v u
  | _,_,.nil,_ => .nil
  | _,_,.cons v u vs us h hs,hl =>by
    simp only [AV.lts,Bool.and_eq_true] at hl
    exact .cons v u vs us (lt_vr hφ h hl.1) (lts_vr hφ hs hl.2)
end
def Emb.below (φ : Emb) (n : Nat) : Emb:={ φ with dom:=fun id => φ.dom id ∧ id < n }
theorem below_lt (φ : Emb) (n : Nat) : ∀ id,id < n → φ.dom id → (φ.below n).dom id ∧ (φ.below n).blk id = φ.blk id ∧ (φ.below n).base id = φ.base id ∧ (φ.below n).k id = φ.k id ∧ (φ.below n).size id = φ.size id :=
  fun _ h g =>⟨⟨g,h⟩,rfl,rfl,rfl,rfl⟩
theorem er_lt {n : Nat} {φ' : Emb} (hφ : ∀ id,id < n → φ.dom id → φ'.dom id ∧ φ'.blk id = φ.blk id ∧ φ'.base id = φ.base id ∧ φ'.k id = φ.k id ∧ φ'.size id = φ.size id) : ∀ {es : List (AV × AV × Nat)} {us : List MapEntry},ER S.errT eb φ es us → (es.all fun e =>e.1.lt n && e.2.1.lt n) = true → ER S.errT eb φ' es us
  | _,_,.nil,_ => .nil
  | _,_,.cons k v s x y es us hk hv h,hl =>by
    simp only [List.all_cons,Bool.and_eq_true] at hl
    exact .cons k v s x y es us (lt_vr hφ hk hl.1.1) (lt_vr hφ hv hl.1.2) (er_lt hφ h hl.2)
theorem lts_get {n : Nat} : ∀ {l : List AV} {j : Nat} {v : AV},AV.lts n l = true → l[j]? = some v → v.lt n = true
  | a :: l,0,v,h,hj =>by simp [AV.lts] at h; simp at hj; subst hj; exact h.1
  | a :: l,j + 1,v,h,hj =>by simp [AV.lts] at h; exact lts_get h.2 (by simpa using hj)
theorem br_lt {n : Nat} {φ' : Emb} (hφ : ∀ id,id < n → φ.dom id → φ'.dom id ∧ φ'.blk id = φ.blk id ∧ φ'.base id = φ.base id ∧ φ'.k id = φ.k id ∧ φ'.size id = φ.size id) {id : Nat} {b : Blk} {o : Obj} (hd : φ.dom id) (hid : id < n) (hl : b.lt n = true) (h : BR S.errT eb φ id b o) : BR S.errT eb φ' id b o:=by
  obtain ⟨e1,e2,e3,e4,e5⟩:=hφ id hid hd
  cases b with
  | row ro k es =>
    obtain ⟨arr,et,fr,h1,h2,h3,h4,h5,h6⟩:=h
    refine ⟨arr,et,fr,h1,by rw [e4]; exact h2,by rw [e5]; exact h3,by rw [e3]; exact h4,h5,fun i x hx => ?_⟩
    obtain ⟨g1,g2⟩:=h6 i x hx
    refine ⟨g1,fun j v hv => ?_⟩
    obtain ⟨u,k1,k2,k3⟩:=g2 j v hv
    have hx' : AV.lts n x = true:=by
      simp only [Blk.lt,List.all_eq_true] at hl
      exact hl x (List.mem_of_getElem? hx)
    exact ⟨u,by rw [e3]; exact k1,lt_vr hφ k2 (lts_get hx' hv),k3⟩
  | map es c =>
    obtain ⟨us,h1,h2⟩:=h
    exact ⟨us,h1,er_lt hφ h2 (by simpa [Blk.lt] using hl)⟩
  | iter m s l seen =>
    obtain ⟨h1,h0,h2⟩:=h
    cases m with
    | none =>exact ⟨h1,by rw [e3]; exact h0,fun i hi =>by cases hi⟩
    | some i =>
      obtain ⟨q1,q2,_⟩:=hφ i (by simpa [Blk.lt] using hl) (h2 i rfl)
      refine ⟨by rw [Option.map_some,q2]; exact h1,by rw [e3]; exact h0,fun j hj => ?_⟩
      simp only [Option.some.injEq] at hj
      subst hj
      exact q1
theorem mget_some : ∀ {m : Mem} {i : Nat} {b : Blk},mget m i = some b → i < m.length ∧ m[i]? = some (some b)
  | [],i,b,h =>by rw [mget_nil] at h; cases h
  | x :: r,0,b,h =>by simp [mget] at h; subst h; simp
  | x :: r,i + 1,b,h =>by
    obtain ⟨h1,h2⟩:=mget_some (m:=r) (i:=i) (by simpa [mget] using h)
    exact ⟨by simp; omega,by simpa using h2⟩
theorem mget_take : ∀ (m : Mem) (n i : Nat),mget (m.take n) i = if i < n then mget m i else none
  | [],n,i =>by simp [mget_nil]
  | x :: r,0,i =>by simp [mget_nil]
  | x :: r,n + 1,0 =>by simp [mget]
  | x :: r,n + 1,i + 1 =>by simp [mget,mget_take r n i]
theorem RelAt.gc0 (h : RelAt S eb own w0 φ0 nt φ st a w) {base : Nat} (hb : ∀ id,φ0.dom id → id < base) {st' : St} (hg : Gc0 base st st') : Rel S eb own w0 φ0 nt st' a w:=by
  rcases hg with ⟨g1,g2⟩ | ⟨l,q1,q2,q3,q4,q5⟩
  rotate_left
  · refine ⟨φ.pack l,ext_pack h.ext hb q1,h.size,h.defers,fun t => ?_,by rw [q4]; exact mr_pack h.mr q2 q3,h.keeps,fun j hj => ?_⟩
    · rcases q5 t with q | ⟨qa,qb⟩
      · rw [q]; exact .undef _
      · rw [qb]; exact vr_ren moves_pack (h.tm t) qa
    · obtain ⟨id,h1,_⟩:=hj
      rw [q4,packM_len]
      exact (List.getElem?_eq_some_iff.1 h1).1
  have htm : ∀ t,VR S.errT eb φ (tget st'.tm t) (a.tmps.getD t undef):=fun t =>by
    rcases g1 t with q | q
    · rw [q]; exact .undef _
    · rw [q]; exact h.tm t
  rcases g2 with g2 | ⟨q1,q2,q3,q4⟩
  · exact ⟨φ,h.ext,h.size,h.defers,htm,by rw [g2]; exact h.mr,h.keeps,by rw [g2]; exact h.bdd⟩
  · have hφ:=below_lt φ st'.mem.length
    refine ⟨φ.below st'.mem.length,?_,h.size,h.defers,fun t =>lt_vr hφ (htm t) (q4 t),?_,h.keeps,fun id hid =>hid.2⟩
    · have:=h.ext
      exact ⟨fun id hid =>⟨this.dom id hid,Nat.lt_of_lt_of_le (hb id hid) q1⟩,this.blk,this.base,this.k,this.size⟩
    · have sub : ∀ id b,mget st'.mem id = some b → mget st.mem id = some b:=fun id b hid =>by
        rw [q2,mget_take] at hid
        split at hid
        · exact hid
        · cases hid
      have hmr:=h.mr
      have sol : ∀ {id : Nat} {b : Blk},b.solid (φ.below st'.mem.length) id → b.solid φ id:=fun {id b} hs =>by cases b <;> exact hs
      refine ⟨fun id b hid =>⟨hmr.dom id b (sub id b hid),(mget_some hid).1⟩,fun id ro k es hid =>hmr.kk id ro k es (sub id _ hid),fun id b hid hs => ?_,fun id b hid hr hs =>hmr.own id b (sub id b hid) hr (sol hs),fun id id' b b' h1 h2 hne hr hs hs2 =>hmr.inj id id' b b' (sub id b h1) (sub id' b' h2) hne hr (sol hs) (sol hs2)⟩
      obtain ⟨o,ho,hbr⟩:=hmr.blk id b (sub id b hid) (sol hs)
      obtain ⟨k1,k2⟩:=mget_some hid
      refine ⟨o,ho,br_lt hφ (hmr.dom id b (sub id b hid)) k1 ?_ hbr⟩
      simp only [memLt,List.all_eq_true] at q3
      have:=q3 (some b) (List.mem_of_getElem? k2)
      simpa using this
theorem void_ve {n : Nat} (hn : φ.dom n) {v v' : AV} {u : Value} (h : voE n v v') (hv : VR S.errT eb φ v u) : VR S.errT eb φ v' u:=by
  rcases h with rfl | ⟨rfl,rfl⟩ | ⟨id,ix,len,c,rfl,rfl⟩
  · exact hv
  · cases hv
    exact .slc0 n 0 none none hn (fun _ q =>by cases q)
  · generalize hq : AV.slc id ix len (some c) = q at hv
    cases hv <;> cases hq
    · rename_i c' hd hs hc he
      exact .slc _ _ _ _ _ hd hc (fun _ q =>by cases q) hs
    · rename_i ad hd he
      exact .slc0 _ _ _ _ hd (fun _ q =>by cases q)
theorem void_vl {n : Nat} (hn : φ.dom n) : ∀ {l l' : List AV} {us : List Value},voL n l l' → VRs S.errT eb φ l us → VRs S.errT eb φ l' us
  | [],[],_,_,.nil => .nil
  | _ :: _,_ :: _,_,h,.cons _ _ _ _ hv hs => .cons _ _ _ _ (void_ve hn h.1 hv) (void_vl hn h.2 hs)
  | [],_ :: _,_,h,_ =>h.elim
  | _ :: _,[],_,h,_ =>h.elim
theorem void_vr {n : Nat} (hn : φ.dom n) {v v' : AV} {u : Value} (h : voV n v v') (hv : VR S.errT eb φ v u) : VR S.errT eb φ v' u:=by
  rcases h with h | ⟨l,l',rfl,rfl,h⟩
  · exact void_ve hn h hv
  · cases hv
    rename_i us hs
    exact .tup _ _ (void_vl hn h hs)
theorem mget_app (m r : Mem) (i : Nat) : mget (m ++ r) i = if i < m.length then mget m i else mget r (i - m.length):=by
  induction m generalizing i with
  | nil =>simp
  | cons x m ih =>
    cases i with
    | zero =>simp [mget]
    | succ i =>
      simp only [List.cons_append,mget,List.length_cons]
      rw [ih]
      by_cases h : i < m.length
      · rw [if_pos h,if_pos (by omega)]
      · rw [if_neg h,if_neg (by omega)]
        congr 1
        omega
theorem mr_void {k : Nat} (hk : 0 < k) {m : Mem} (hnd : ¬ φ.dom m.length) (hm : MR S.errT eb φ (mget m) own w) : MR S.errT eb (φ.add m.length 0 0 k 0) (mget (m ++ [some (.row false k [])])) own w:=by
  have e : mget (m ++ [some (.row false k [])]) = upd (mget m) m.length (some (.row false k [])):=by
    funext i
    simp only [mget_app,upd]
    by_cases h : i < m.length
    · rw [if_pos h,if_neg (by omega)]
    · rw [if_neg h]
      by_cases h2 : i = m.length
      · rw [if_pos h2,h2,Nat.sub_self]; rfl
      · rw [if_neg h2]
        have : mget m i = none:=by
          cases hq : mget m i with
          | none =>rfl
          | some b =>exact absurd (mget_some hq).1 h
        rw [this]
        obtain ⟨j,hj⟩ : ∃ j,i - m.length = j + 1:=⟨i - m.length - 1,by omega⟩
        rw [hj]
        simp [mget,mget_nil]
  rw [e]
  exact hm.void hk hnd
theorem mr_turn {n : Nat} {m m' : Mem} (hn : φ.dom n) (len : m'.length = m.length) (old : ∀ i,i < m.length → voB n (mget m i) (mget m' i)) (hm : MR S.errT eb φ (mget m) own w) : MR S.errT eb φ (mget m') own w:=by
  have key : ∀ {i : Nat} {b' : Blk},mget m' i = some b' → ∃ b,mget m i = some b ∧ (b' = b ∨ ∃ ro k es es',b = .row ro k es ∧ b' = .row ro k es' ∧ es'.length = es.length ∧
      ∀ (i : Nat) e',es'[i]? = some e' → ∃ e : List AV,es[i]? = some e ∧ e'.length = e.length ∧ ∀ (j : Nat) v',e'[j]? = some v' → ∃ v,e[j]? = some v ∧ voE n v v'):=by
    intro i b' hb
    have hlt:=(mget_some hb).1
    rcases old i (by omega) with q | ⟨ro,k,es,es',q1,q2,q3,q4⟩
    · rw [q] at hb; exact ⟨b',hb,.inl rfl⟩
    · rw [q2,Option.some.injEq] at hb
      subst hb
      exact ⟨_,q1,.inr ⟨ro,k,es,es',rfl,rfl,q3,q4⟩⟩
  have sol : ∀ {i : Nat} {b b' : Blk},(b' = b ∨ ∃ ro k es es',b = .row ro k es ∧ b' = .row ro k es' ∧ es'.length = es.length ∧
      ∀ (i : Nat) e',es'[i]? = some e' → ∃ e : List AV,es[i]? = some e ∧ e'.length = e.length ∧ ∀ (j : Nat) v',e'[j]? = some v' → ∃ v,e[j]? = some v ∧ voE n v v') → b'.solid φ i → b.solid φ i ∧ (b'.rw → b.rw):=by
    intro i b b' hq hs
    rcases hq with rfl | ⟨ro,k',es,es',rfl,rfl,q3,_⟩
    · exact ⟨hs,fun q =>q⟩
    · refine ⟨?_,fun q =>q⟩
      rcases hs with q | q
      · refine .inl fun z =>q ?_
        subst z
        exact List.eq_nil_of_length_eq_zero q3
      · exact .inr q
  refine ⟨fun i b hi => ?_,fun i ro k' es hi => ?_,fun i b hi hs => ?_,fun i b hi hr hs => ?_,fun i j b b' hi hj hne hr hs hs' => ?_⟩
  · obtain ⟨b0,h1,_⟩:=key hi
    exact hm.dom _ _ h1
  · obtain ⟨b0,h1,h2⟩:=key hi
    rcases h2 with h2 | ⟨ro',k2,es2,es3,q1,q2,_⟩
    · rw [← h2] at h1
      exact hm.kk i _ _ _ h1
    · rw [q1] at h1
      simp only [Blk.row.injEq] at q2
      rw [q2.2.1]
      exact hm.kk i _ _ _ h1
  · obtain ⟨b0,h1,h2⟩:=key hi
    obtain ⟨o,ho,hbr⟩:=hm.blk i b0 h1 (sol h2 hs).1
    refine ⟨o,ho,?_⟩
    rcases h2 with rfl | ⟨ro',k2,es2,es3,rfl,rfl,q3,q4⟩
    · exact hbr
    · obtain ⟨arr,et,fr,g1,g2,g3,g4,g5,g6⟩:=hbr
      refine ⟨arr,et,fr,g1,g2,g3,by rw [q3]; exact g4,g5,fun x e' he' => ?_⟩
      obtain ⟨e0,z1,z2,z3⟩:=q4 x e' he'
      obtain ⟨y1,y2⟩:=g6 x e0 z1
      refine ⟨by rw [z2]; exact y1,fun j v' hv' => ?_⟩
      obtain ⟨v,x1,x2⟩:=z3 j v' hv'
      obtain ⟨u,k1,k2,k3⟩:=y2 j v x1
      exact ⟨u,k1,void_ve (S:=S) hn x2 k2,k3⟩
  · obtain ⟨b0,h1,h2⟩:=key hi
    obtain ⟨s1,s2⟩:=sol h2 hs
    exact hm.own i b0 h1 (s2 hr) s1
  · obtain ⟨b0,h1,h2⟩:=key hi
    obtain ⟨b1,g1,g2⟩:=key hj
    obtain ⟨s1,s2⟩:=sol h2 hs
    exact hm.inj i j b0 b1 h1 g1 hne (s2 hr) s1 (sol g2 hs').1
theorem void_dom {φ : Emb} {k : Nat} {m : Mem} {b : Option Blk} (hb : ∀ id,φ.dom id → id < m.length) : ∀ id,(φ.add m.length 0 0 k 0).dom id → id < (m ++ [b]).length:=fun id hid =>by
  rw [List.length_append,List.length_cons,List.length_nil]
  rcases hid with q | q
  · have:=hb id q; omega
  · omega
theorem isSome_get {α : Type} {x : Option α} (h : x.isSome = true) : ∃ y,x = some y:=by
  cases x with
  | none =>cases h
  | some y =>exact ⟨y,rfl⟩
theorem Rel.voids {st st' : St} (hv : Voids st st') : Rel S eb own w0 φ0 nt st a w → Rel S eb own w0 φ0 nt st' a w:=by
  induction hv with
  | refl s =>exact fun h =>h
  | void k s s2 hk _ ih =>
    rintro ⟨φ,h⟩
    have hnd : ¬ φ.dom s.mem.length:=fun q =>Nat.lt_irrefl _ (h.bdd _ q)
    exact ih ⟨_,h.ext.trans (Emb.add_ext hnd),h.size,h.defers,fun t =>(h.tm t).mono (Emb.add_ext hnd),mr_void hk hnd h.mr,h.keeps,void_dom h.bdd⟩
  | turn n s s1 s2 h1 _ ih =>
    rintro ⟨φ,h⟩
    obtain ⟨b,hb⟩:=isSome_get h1.there
    have hd:=h.mr.dom _ _ hb
    exact ih ⟨φ,h.ext,h.size,h.defers,fun t =>void_vr hd (h1.tm t) (h.tm t),mr_turn hd h1.len h1.old h.mr,h.keeps,fun id hid =>by rw [h1.len]; exact h.bdd id hid⟩
theorem RelAt.gc (h : RelAt S eb own w0 φ0 nt φ st a w) {base : Nat} (hb : ∀ id,φ0.dom id → id < base) {st' : St} (hg : Gc base st st') : Rel S eb own w0 φ0 nt st' a w:=by
  obtain ⟨s1,h1,h2⟩:=hg
  exact Rel.voids h2 (h.gc0 hb h1)
end AH
set_option linter.unusedSimpArgs false
namespace AH
open Go
variable {S : Sys} {eb : Nat → Addr} {own : Nat → Prop} {w0 w : World} {φ0 φ : Emb} {nt : Nat} {st : St} {a : Act} {K : St → Prop} {Q' : Exit → Act → World → Prop} {C : Ctx}
theorem pair_inj {α β : Type _} {a c : α} {b d : β} (h : some (a,b) = some (c,d)) : a = c ∧ b = d:=by cases h; exact ⟨rfl,rfl⟩
theorem rowAt_same {M M' : Nat → Option Blk} {id : Nat} (h : M' id = M id) : rowAt M' id = rowAt M id:=by unfold rowAt; rw [h]
theorem mapAt_same {M M' : Nat → Option Blk} {id : Nat} (h : M' id = M id) : mapAt M' id = mapAt M id:=by unfold mapAt; rw [h]
theorem sliceElems_same {M M' : Nat → Option Blk} {k : Nat} {v : AV} {r : Prop × List Nat × List (List AV)} (h : sliceElems k M v = some r) (hm : ∀ id ∈ r.2.1,M' id = M id) : sliceElems k M' v = some r:=by
  cases v <;> simp only [sliceElems,reduceCtorEq] at h ⊢
  case nils =>exact h
  case slc id ix len cap =>
    split at h
    · rename_i ro kk es hrow
      split at h
      · rename_i hk
        simp only [Option.some.injEq] at h
        subst h
        rw [rowAt_same (hm id (by simp)),hrow]
        simp [hk]
      · cases h
    · cases h
  case isl id ix sub len =>
    split at h
    · rename_i ro kk es hrow
      split at h
      · rename_i hk
        simp only [Option.some.injEq] at h
        subst h
        rw [rowAt_same (hm id (by simp)),hrow]
        simp [hk]
      · cases h
    · cases h
set_option maxHeartbeats 8000000 in
theorem bstep_same {fresh : Nat} {M M' : Nat → Option Blk} {op : AOp AV} {p : Prop} {e : Eff} (h : bstep fresh M op = some (p,e)) (hm : ∀ id ∈ e.foot,M' id = M id) : bstep fresh M' op = some (p,e):=by
  have row : ∀ {id : Nat} {l : List Nat},(∀ i ∈ id :: l,M' i = M i) → rowAt M' id = rowAt M id:=fun h =>rowAt_same (h _ (List.Mem.head _))
  have mp : ∀ {id : Nat} {l : List Nat},(∀ i ∈ id :: l,M' i = M i) → mapAt M' id = mapAt M id:=fun h =>mapAt_same (h _ (List.Mem.head _))
  cases op <;> simp only [bstep] at h ⊢ <;> (try exact h)
  case load agg n x =>
    repeat' (split at h)
    all_goals (first | (cases h; done) | skip)
    obtain ⟨rfl,rfl⟩:=pair_inj h
    simp only [row hm, *]
  case store n x y =>
    repeat' (split at h)
    all_goals (first | (cases h; done) | skip)
    obtain ⟨rfl,rfl⟩:=pair_inj h
    simp only [row hm, *]
  case eq neg k lit x y =>
    split at h
    · rename_i r hr
      exact h
    · rename_i hr
      repeat' (split at h)
      all_goals (first | (cases h; done) | skip)
      rename_i hk
      obtain ⟨rfl,rfl⟩:=pair_inj h
      obtain ⟨hk1,rfl⟩:=hk
      simp only [row hm, *,and_self,if_true]
  case b2s x =>
    repeat' (split at h)
    all_goals (first | (cases h; done) | skip)
    rename_i hse _ _ hb
    obtain ⟨rfl,rfl⟩:=pair_inj h
    simp only [sliceElems_same hse hm,hb]
  case sliceArr n k x lo hi =>
    repeat' (split at h)
    all_goals (first | (cases h; done) | skip)
    obtain ⟨rfl,rfl⟩:=pair_inj h
    simp only [row hm, *,if_true]
  case slice k x lo hi mx =>
    repeat' (split at h)
    all_goals (first | (cases h; done) | skip)
    all_goals (obtain ⟨rfl,rfl⟩:=pair_inj h)
    all_goals (first | (simp only [row hm, *,if_true]; done) | rfl | (simp only [*,if_true]; done))
  case iaddrSl k x i =>
    repeat' (split at h)
    all_goals (first | (cases h; done) | skip)
    · obtain ⟨rfl,rfl⟩:=pair_inj h
      simp only [row hm, *,if_true]
    · rename_i hk
      simp only [hk,if_true]
      exact h
  case lookup kk z x k ok =>
    repeat' (split at h)
    all_goals (first | (cases h; done) | skip)
    all_goals (obtain ⟨rfl,rfl⟩:=pair_inj h)
    all_goals (first | (simp only [mp hm, *]; done) | rfl | (simp only [*]; done))
  case mapupd =>
    repeat' (split at h)
    all_goals (first | (cases h; done) | skip)
    all_goals (obtain ⟨rfl,rfl⟩:=pair_inj h)
    all_goals (first | (simp only [mp hm, *]; done) | rfl | (simp only [*]; done))
  case mentry =>
    repeat' (split at h)
    all_goals (first | (cases h; done) | skip)
    all_goals (obtain ⟨rfl,rfl⟩:=pair_inj h)
    all_goals (first | (simp only [mp hm, *]; done) | rfl | (simp only [*]; done))
  case estore =>
    repeat' (split at h)
    all_goals (first | (cases h; done) | skip)
    all_goals (obtain ⟨rfl,rfl⟩:=pair_inj h)
    all_goals (first | (simp only [mp hm, *]; done) | rfl | (simp only [*]; done))
  case mdel =>
    repeat' (split at h)
    all_goals (first | (cases h; done) | skip)
    all_goals (obtain ⟨rfl,rfl⟩:=pair_inj h)
    all_goals (first | (simp only [mp hm, *]; done) | (simp only [*]))
  case len k x =>
    repeat' (split at h)
    all_goals (first | (cases h; done) | skip)
    all_goals (first | exact h | skip)
    all_goals (obtain ⟨rfl,rfl⟩:=pair_inj h)
    all_goals (first | (simp only [mp hm, *]; done) | rfl | (simp only [*]; done))
  case clr k z x =>
    repeat' (split at h)
    all_goals (first | (cases h; done) | skip)
    all_goals (first | exact h | skip)
    obtain ⟨rfl,rfl⟩:=pair_inj h
    simp only [row hm, *,if_true]
  case mkiter x =>
    split at h
    · exact h
    · rename_i id
      split at h
      · rename_i es c hmm
        obtain ⟨rfl,rfl⟩:=pair_inj h
        simp only [mapAt_same (hm id (by simp)),hmm]
      · cases h
    · cases h
  case entry x =>
    split at h
    · rename_i id
      split at h
      · rename_i mid last s hi
        split at h
        · rename_i es c hmm
          split at h
          · rename_i en hf
            obtain ⟨rfl,rfl⟩:=pair_inj h
            have h1 : iterAt M' id = iterAt M id:=by unfold iterAt; rw [hm id (by simp)]
            simp only [h1,hi,mapAt_same (hm mid (by simp)),hmm,hf]
          · cases h
        · cases h
      · cases h
    · cases h
  case append k bytes z x y =>
    split at h
    · rename_i q1 f1 xs q2 f2 ys hx hy
      have agree : (∀ id ∈ f1,M' id = M id) → (∀ id ∈ f2,M' id = M id) → sliceElems k M' x = some (q1,f1,xs) ∧ sliceElems k M' y = some (q2,f2,ys):=fun h1 h2 =>⟨sliceElems_same hx h1,sliceElems_same hy h2⟩
      split at h
      · simp only [sliceElems,Option.some.injEq,Prod.mk.injEq] at hx
        obtain ⟨_,rfl,_⟩:=hx
        have hm2 : ∀ id ∈ f2,M' id = M id:=by
          obtain ⟨_,rfl⟩:=pair_inj h
          intro id hid
          exact hm id (by simp [hid])
        obtain ⟨h1,h2⟩:=agree (by simp) hm2
        rw [h1,h2]
        exact h
      · rename_i id ix len cap
        have hm1 : (∀ id ∈ f1,M' id = M id) ∧ ∀ id ∈ f2,M' id = M id:=by
          split at h
          · split at h
            · obtain ⟨_,rfl⟩:=pair_inj h
              exact ⟨fun id hid =>hm id (by simp [hid]),fun id hid =>hm id (by simp [hid])⟩
            · obtain ⟨_,rfl⟩:=pair_inj h
              refine ⟨fun id hid =>hm id ?_,fun id hid =>hm id ?_⟩ <;> split <;> simp [hid]
          · split at h
            · obtain ⟨_,rfl⟩:=pair_inj h
              exact ⟨fun id hid =>hm id (by simp [hid]),fun id hid =>hm id (by simp [hid])⟩
            · cases h
        obtain ⟨h1,h2⟩:=agree hm1.1 hm1.2
        rw [h1,h2]
        have hid : M' id = M id:=by
          refine hm1.1 id ?_
          simp only [sliceElems] at hx
          repeat' (split at hx)
          all_goals (first | (cases hx; done) | skip)
          simp only [Option.some.injEq,Prod.mk.injEq] at hx
          obtain ⟨_,rfl,_⟩:=hx
          simp
        simp only [rowAt_same hid]
        exact h
      · cases h
    · cases h
  case copy k x y =>
    split at h
    · rename_i id ix len cap q g ys hy
      split at h
      · rename_i kk es hrow
        split at h
        · rename_i hk
          obtain ⟨rfl,rfl⟩:=pair_inj h
          simp only [sliceElems_same hy (fun i hi =>hm i (by simp; exact .inr hi)),row hm,hrow,hk,if_true]
        · cases h
      · cases h
    · rename_i q g ys hy
      obtain ⟨rfl,rfl⟩:=pair_inj h
      simp only [sliceElems_same hy hm]
    · cases h
structure FS where
  tm : Nat → AV
  M : Nat → Option Blk
def St.fs (st : St) : FS:=⟨tget st.tm,mget st.mem⟩
def Opd.evF (tm : Nat → AV) : Opd → AV
  | .t n =>tm n
  | .c v =>v
theorem evF_eq (st : St) : Opd.ev st.tm = Opd.evF st.fs.tm:=by
  funext x
  cases x <;> rfl
def putF (tm : Nat → AV) (d : Option Nat) (v : AV) : Nat → AV:=fun t =>if d = some t then v else tm t
inductive Step where
  | skip
  | eff (fresh : Nat) (p : Prop) (e : Eff)
  | read (v : AV) (foot : List Nat)
  | call (n : Nat) (e : Eff) (k : Nat)
structure Ent where
  ix : Nat
  ahead : List Nat
  o : AOper
  act : Step
def Ent.wr (x : Ent) : List Nat :=
  match x.act with
  | .eff _ _ e =>e.wr.map Prod.fst
  | .call _ e _ =>e.wr.map Prod.fst
  | _ => []
def Ent.foot (x : Ent) : List Nat :=
  match x.act with
  | .eff _ _ e =>e.wr.map Prod.fst ++ e.foot
  | .call _ e _ =>e.wr.map Prod.fst ++ e.foot
  | .read _ f =>f
  | .skip => []
def readF (C : Ctx) (M : Nat → Option Blk) (args : List AV) : AV → Option (AV × List Nat)
  | .fn g first cap =>C.read g (first ++ args ++ cap) M
  | _ =>none
def effF (C : Ctx) (M : Nat → Option Blk) (n : Nat) (args : List AV) : AV → Option (Eff × Nat)
  | .fn g first cap =>C.eff g (first ++ args ++ cap) M n
  | _ =>none
def guardRuns (o : AOper) (tm : Nat → AV) : Prop:=∀ t want,o.guard = some (t,want) → tm t = .bool want
def guardSkips (o : AOper) (tm : Nat → AV) : Prop:=∃ t want,o.guard = some (t,want) ∧ (tm t = .bool (!want) ∨ tm t = .tup [])
def Ent.ok (C : Ctx) (x : Ent) (s : FS) : Prop :=
  match x.act with
  | .skip =>guardSkips x.o s.tm
  | .eff fresh p e =>guardRuns x.o s.tm ∧ x.o.op.call? = none ∧ bstep fresh s.M (x.o.op.map (Opd.evF s.tm)) = some (p,e) ∧ p ∧ okFresh fresh e = true
  | .read v foot =>guardRuns x.o s.tm ∧ ∃ f args,x.o.op.call? = some (f,args) ∧ readF C s.M (args.map (Opd.evF s.tm)) (f.evF s.tm) = some (v,foot)
  | .call n e k =>guardRuns x.o s.tm ∧ newsB n e k = true ∧ ∃ f args,x.o.op.call? = some (f,args) ∧ effF C s.M n (args.map (Opd.evF s.tm)) (f.evF s.tm) = some (e,k)
def Ent.next (x : Ent) (s : FS) : FS :=
  match x.act with
  | .skip =>⟨putF s.tm x.o.dst (.tup []),s.M⟩
  | .eff _ _ e =>⟨putF s.tm x.o.dst e.val,applyF s.M e.wr⟩
  | .call _ e _ =>⟨putF s.tm x.o.dst e.val,applyF s.M e.wr⟩
  | .read v _ =>⟨putF s.tm x.o.dst v,s.M⟩
def RunT (C : Ctx) : List Ent → FS → FS → Prop
  | [],s,s' =>s = s'
  | x :: L,s,s' =>x.ok C s ∧ RunT C L (x.next s) s'
def Indep (x y : Ent) : Prop:=x.o.apartT y.o = true ∧ noCommon x.wr y.foot = true ∧ noCommon y.wr x.foot = true
theorem noCommon_spec : ∀ {a b : List Nat},noCommon a b = true → ∀ i ∈ a,i ∉ b
  | [],_,_,_,h =>by cases h
  | x :: a,b,h,i,hi =>by
    simp only [noCommon,Bool.and_eq_true,Bool.not_eq_true',List.contains_eq_mem,decide_eq_false_iff_not] at h
    rcases List.mem_cons.1 hi with rfl | hi
    · exact h.1
    · exact noCommon_spec h.2 i hi
theorem applyF_other : ∀ (wr : List (Nat × Option Blk)) (M : Nat → Option Blk) (i : Nat),i ∉ wr.map Prod.fst → applyF M wr i = M i
  | [],_,_,_ =>rfl
  | (j,b) :: r,M,i,h =>by
    simp only [List.map_cons,List.mem_cons,not_or] at h
    rw [applyF,applyF_other r _ i h.2]
    simp [h.1]
theorem applyF_at : ∀ (wr : List (Nat × Option Blk)) (M M' : Nat → Option Blk) (i : Nat),i ∈ wr.map Prod.fst → applyF M wr i = applyF M' wr i
  | [],_,_,_,h =>by cases h
  | (j,b) :: r,M,M',i,h =>by
    simp only [applyF]
    by_cases hr : i ∈ r.map Prod.fst
    · exact applyF_at r _ _ i hr
    · rw [applyF_other r _ i hr,applyF_other r _ i hr]
      simp only [List.map_cons,List.mem_cons] at h
      have : i = j:=h.resolve_right hr
      simp [this]
theorem applyF_comm (w1 w2 : List (Nat × Option Blk)) (M : Nat → Option Blk) (h : ∀ i ∈ w1.map Prod.fst,i ∉ w2.map Prod.fst) : applyF (applyF M w1) w2 = applyF (applyF M w2) w1:=by
  funext i
  by_cases h1 : i ∈ w1.map Prod.fst
  · rw [applyF_other w2 _ i (h i h1)]
    exact applyF_at w1 _ _ i h1
  · rw [applyF_other w1 (applyF M w2) i h1]
    by_cases h2 : i ∈ w2.map Prod.fst
    · exact applyF_at w2 _ _ i h2
    · rw [applyF_other w2 _ i h2,applyF_other w2 _ i h2,applyF_other w1 _ i h1]
theorem putF_comm (tm : Nat → AV) {d e : Option Nat} (u v : AV) (h : ∀ t,d = some t → e ≠ some t) : putF (putF tm d u) e v = putF (putF tm e v) d u:=by
  funext t
  simp only [putF]
  by_cases hd : d = some t
  · simp [hd,h t hd]
  · by_cases he : e = some t <;> simp [hd,he]
theorem apartT_spec {x y : AOper} (h : x.apartT y = true) : (∀ t,x.dst = some t → t ∉ y.looks) ∧ (∀ t,y.dst = some t → t ∉ x.looks) ∧ ∀ t,x.dst = some t → y.dst ≠ some t:=by
  unfold AOper.apartT at h
  split at h <;> simp_all <;> exact fun q =>h.2 q.symm
theorem opd_same {tm tm' : Nat → AV} {x : Opd} (h : ∀ t ∈ opdT x,tm' t = tm t) : x.evF tm' = x.evF tm:=by
  cases x with
  | t n =>exact h n (by simp [opdT])
  | c v =>rfl
theorem optE_same {tm tm' : Nat → AV} {x : Option Opd} (h : ∀ t ∈ optT x,tm' t = tm t) : x.map (Opd.evF tm') = x.map (Opd.evF tm):=by
  cases x with
  | none =>rfl
  | some x =>simp only [Option.map_some,Option.some.injEq]; exact opd_same h
theorem opds_same {tm tm' : Nat → AV} {l : List Opd} (h : ∀ t ∈ (l.map opdT).flatten,tm' t = tm t) : l.map (Opd.evF tm') = l.map (Opd.evF tm):=by
  refine List.map_congr_left fun x hx =>opd_same fun t ht =>h t ?_
  exact List.mem_flatten.2 ⟨_,List.mem_map.2 ⟨x,hx,rfl⟩,ht⟩
theorem parts_same {tm tm' : Nat → AV} {l : List (Nat × Nat × Opd)} (h : ∀ t ∈ (l.map fun p =>opdT p.2.2).flatten,tm' t = tm t) :
    (l.map fun p =>(p.1,p.2.1,p.2.2.evF tm')) = l.map fun p =>(p.1,p.2.1,p.2.2.evF tm):=by
  refine List.map_congr_left fun x hx => ?_
  rw [opd_same fun t ht =>h t (List.mem_flatten.2 ⟨_,List.mem_map.2 ⟨x,hx,rfl⟩,ht⟩)]
theorem map_same {tm tm' : Nat → AV} {op : AOp Opd} (h : ∀ t ∈ op.uses,tm' t = tm t) : op.map (Opd.evF tm') = op.map (Opd.evF tm):=by
  have two : ∀ {a b : List Nat},(∀ t ∈ a ++ b,tm' t = tm t) → (∀ t ∈ a,tm' t = tm t) ∧ ∀ t ∈ b,tm' t = tm t:=fun h =>⟨fun t ht =>h t (by simp [ht]),fun t ht =>h t (by simp [ht])⟩
  cases op <;> simp only [AOp.uses] at h <;> simp only [AOp.map]
  case pick =>simp only [opd_same (two (two h).1).1,opd_same (two (two h).1).2,opd_same (two h).2]
  case build =>simp only [parts_same h]
  case bslice =>simp only [parts_same h]
  case mkfn =>simp only [opds_same (two h).1,opds_same (two h).2]
  case sliceArr =>simp only [opd_same (two (two h).1).1,optE_same (two (two h).1).2,optE_same (two h).2]
  case sliceStr =>simp only [opd_same (two (two h).1).1,optE_same (two (two h).1).2,optE_same (two h).2]
  case slice =>simp only [opd_same (two (two (two h).1).1).1,optE_same (two (two (two h).1).1).2,optE_same (two (two h).1).2,optE_same (two h).2]
  case mapupd =>simp only [opd_same (two (two h).1).1,opd_same (two (two h).1).2,opd_same (two h).2]
  case estore =>simp only [opd_same (two (two h).1).1,opd_same (two (two h).1).2,opd_same (two h).2]
  case minmax =>simp only [opds_same h]
  case call =>simp only [opd_same (two h).1,opds_same (two h).2]
  all_goals first
    | rfl
    | (simp only [opd_same h]; done)
    | (simp only [opd_same (two h).1,opd_same (two h).2]; done)
theorem Ent.wr_foot (x : Ent) : ∀ i ∈ x.wr,i ∈ x.foot:=by
  intro i hi
  unfold Ent.wr at hi
  unfold Ent.foot
  split at hi
  · rename_i h; rw [h]; simp only [List.mem_append]; exact .inl hi
  · rename_i h; rw [h]; simp only [List.mem_append]; exact .inl hi
  · cases hi
theorem Ent.next_tm (x : Ent) (s : FS) : ∃ v,(x.next s).tm = putF s.tm x.o.dst v:=by
  unfold Ent.next; split <;> exact ⟨_,rfl⟩
theorem Ent.next_M (x : Ent) (s : FS) (i : Nat) (h : i ∉ x.wr) : (x.next s).M i = s.M i:=by
  unfold Ent.next Ent.wr at *
  split <;> simp_all
  all_goals exact applyF_other _ _ _ (by simpa using h)
theorem looks_guard {o : AOper} {t : Nat} {want : Bool} (h : o.guard = some (t,want)) : t ∈ o.looks:=by simp [AOper.looks,h]
theorem looks_uses {o : AOper} {t : Nat} (h : t ∈ o.op.uses) : t ∈ o.looks:=by
  unfold AOper.looks
  split
  · exact List.mem_cons_of_mem _ h
  · exact h
theorem runs_same {o : AOper} {tm tm' : Nat → AV} (h : ∀ t ∈ o.looks,tm' t = tm t) (g : guardRuns o tm) : guardRuns o tm':=fun t want e =>by rw [h t (looks_guard e)]; exact g t want e
theorem skips_same {o : AOper} {tm tm' : Nat → AV} (h : ∀ t ∈ o.looks,tm' t = tm t) : guardSkips o tm → guardSkips o tm'
  | ⟨t,want,e,g⟩ =>⟨t,want,e,by rw [h t (looks_guard e)]; exact g⟩
theorem call_uses {op : AOp Opd} {f : Opd} {args : List Opd} (h : op.call? = some (f,args)) : op = .call f args:=by
  cases op <;> simp [AOp.call?] at h
  obtain ⟨rfl,rfl⟩:=h; rfl
structure ReadLoc (C : Ctx) : Prop where
  rd : ∀ g args M v foot,C.read g args M = some (v,foot) → ∀ M',(∀ id ∈ foot,M' id = M id) → C.read g args M' = some (v,foot)
  ef : ∀ g args M n e k,C.eff g args M n = some (e,k) → ∀ M',(∀ id ∈ e.wr.map Prod.fst ++ e.foot,M' id = M id) → C.eff g args M' n = some (e,k)
theorem readF_same (hL : ReadLoc C) {M M' : Nat → Option Blk} {args : List AV} {f : AV} {v : AV} {foot : List Nat} (h : readF C M args f = some (v,foot)) (hm : ∀ id ∈ foot,M' id = M id) : readF C M' args f = some (v,foot):=by
  cases f <;> simp only [readF,reduceCtorEq] at h ⊢
  exact hL.rd _ _ _ _ _ h _ hm
theorem effF_same (hL : ReadLoc C) {M M' : Nat → Option Blk} {args : List AV} {f : AV} {n : Nat} {e : Eff} {k : Nat} (h : effF C M n args f = some (e,k)) (hm : ∀ id ∈ e.wr.map Prod.fst ++ e.foot,M' id = M id) : effF C M' n args f = some (e,k):=by
  cases f <;> simp only [effF,reduceCtorEq] at h ⊢
  exact hL.ef _ _ _ _ _ _ h _ hm
theorem Ent.ok_same (hL : ReadLoc C) {x : Ent} {s s' : FS} (h : x.ok C s) (ht : ∀ t ∈ x.o.looks,s'.tm t = s.tm t) (hm : ∀ i ∈ x.foot,s'.M i = s.M i) : x.ok C s':=by
  unfold Ent.ok at *
  unfold Ent.foot at hm
  split
  · rename_i he
    simp only [he] at h
    exact skips_same ht h
  · rename_i fresh p e he
    simp only [he] at h hm
    obtain ⟨h1,h2,h3,h4,h5⟩:=h
    refine ⟨runs_same ht h1,h2,?_,h4,h5⟩
    rw [map_same fun t hu =>ht t (looks_uses hu)]
    exact bstep_same h3 fun id hid =>hm id (by simp [hid])
  · rename_i v foot he
    simp only [he] at h hm
    obtain ⟨h1,f,args,h2,h3⟩:=h
    refine ⟨runs_same ht h1,f,args,h2,?_⟩
    have hu:=call_uses h2
    have hus : ∀ t ∈ opdT f ++ (args.map opdT).flatten,s'.tm t = s.tm t:=fun t hu' =>ht t (looks_uses (by rw [hu]; exact hu'))
    rw [opd_same fun t hu' =>hus t (by simp [hu']),opds_same fun t hu' =>hus t (by rw [List.mem_append]; exact .inr hu')]
    exact readF_same hL h3 hm
  · rename_i n e k he
    simp only [he] at h hm
    obtain ⟨h1,h4,f,args,h2,h3⟩:=h
    refine ⟨runs_same ht h1,h4,f,args,h2,?_⟩
    have hu:=call_uses h2
    have hus : ∀ t ∈ opdT f ++ (args.map opdT).flatten,s'.tm t = s.tm t:=fun t hu' =>ht t (looks_uses (by rw [hu]; exact hu'))
    rw [opd_same fun t hu' =>hus t (by simp [hu']),opds_same fun t hu' =>hus t (by rw [List.mem_append]; exact .inr hu')]
    exact effF_same hL h3 hm
theorem swap (hL : ReadLoc C) {x y : Ent} {s : FS} (hi : Indep x y) (hx : x.ok C s) (hy : y.ok C (x.next s)) : y.ok C s ∧ x.ok C (y.next s) ∧ x.next (y.next s) = y.next (x.next s):=by
  obtain ⟨h1,h2,h3⟩:=hi
  obtain ⟨a1,a2,a3⟩:=apartT_spec h1
  have b2:=noCommon_spec h2
  have b3:=noCommon_spec h3
  obtain ⟨vx,ex⟩:=x.next_tm s
  obtain ⟨vy,ey⟩:=y.next_tm s
  refine ⟨Ent.ok_same hL hy (fun t ht => ?_) (fun i hi => ?_),Ent.ok_same hL hx (fun t ht => ?_) (fun i hi => ?_),?_⟩
  · rw [ex,putF,if_neg fun q =>a1 t q ht]
  · exact (x.next_M s i fun q =>b2 i q hi).symm
  · rw [ey,putF,if_neg fun q =>a2 t q ht]
  · exact y.next_M s i fun q =>b3 i q hi
  · have hw : ∀ i ∈ x.wr,i ∉ y.wr:=fun i hi q =>b2 i hi (y.wr_foot i q)
    cases hxa : x.act <;> cases hya : y.act <;> simp only [Ent.next,hxa,hya,FS.mk.injEq] <;> refine ⟨(putF_comm _ _ _ fun t q =>a3 t q).symm,?_⟩ <;> (try rfl)
    all_goals first
      | trivial
      | (refine (applyF_comm _ _ _ ?_).symm; simpa only [Ent.wr,hxa,hya] using hw)
theorem move_first (hL : ReadLoc C) {y : Ent} {s' : FS} {L2 : List Ent} : ∀ {L1 : List Ent} {s : FS},(∀ x ∈ L1,Indep x y) → RunT C (L1 ++ y :: L2) s s' → RunT C (y :: (L1 ++ L2)) s s'
  | [],s,_,h =>h
  | x :: L1,s,hi,h =>by
    obtain ⟨h1,h2⟩:=h
    obtain ⟨h3,h4⟩:=move_first hL (fun z hz =>hi z (by simp [hz])) h2
    obtain ⟨g1,g2,g3⟩:=swap hL (hi x (by simp)) h1 h3
    exact ⟨g1,g2,by rw [g3]; exact h4⟩
def Ent.new (x : Ent) : List Nat :=
  match x.act with
  | .eff fresh _ e =>if (e.wr.map Prod.fst).contains fresh then [fresh] else []
  | .call n _ k =>List.range' n k
  | _ => []
theorem newsB_spec {n : Nat} {e : Eff} : ∀ {k : Nat},newsB n e k = true → ∀ f,n ≤ f → f < n + k → f ∈ e.wr.map Prod.fst
  | 0,_,f,h1,h2 =>by omega
  | k + 1,h,f,h1,h2 =>by
    simp only [newsB,Bool.and_eq_true] at h
    by_cases hf : f = n + k
    · subst hf; simpa using h.1
    · exact newsB_spec h.2 f h1 (by omega)
structure RelF (S : Sys) (eb : Nat → Addr) (own : Nat → Prop) (w0 : World) (φ0 : Emb) (nt : Nat) (φ : Emb) (s : FS) (a : Act) (w : World) : Prop where
  ext : φ0.Ext φ
  size : a.tmps.size = nt
  defers : a.defers = []
  tm : ∀ t,VR S.errT eb φ (s.tm t) (a.tmps.getD t undef)
  mr : MR S.errT eb φ s.M own w
  keeps : Keeps own w0 w
theorem RelF.put {s : FS} (h : RelF S eb own w0 φ0 nt φ s a w) {φ' : Emb} {w' : World} {M' : Nat → Option Blk} (he : φ.Ext φ') (hm : MR S.errT eb φ' M' own w') (hk : Keeps own w0 w')
    {d : Option Nat} (hd : d.all (· < nt) = true) {v : AV} {u : Value} (hv : VR S.errT eb φ' v u) : RelF S eb own w0 φ0 nt φ' ⟨putF s.tm d v,M'⟩ (a.put d u) w':=by
  refine ⟨h.ext.trans he,?_,?_,?_,hm,hk⟩
  · cases d <;> simp [Act.put,h.size]
  · cases d <;> simp [Act.put,h.defers]
  · intro t
    simp only [putF]
    cases d with
    | none =>simpa [Act.put] using (h.tm t).mono he
    | some d =>
      simp only [Option.all_some,decide_eq_true_eq] at hd
      by_cases hdt : d = t
      · subst hdt
        have hlt : d < a.tmps.size:=by rw [h.size]; exact hd
        simpa [Act.put,hlt] using hv
      · have:=(h.tm t).mono he
        simp only [Option.some.injEq,hdt,if_false]
        simpa [Act.put,Array.getElem?_setIfInBounds_ne hdt] using this
theorem RelF.eval {s : FS} (h : RelF S eb own w0 φ0 nt φ s a w) : Rho S eb φ a.eval (Opd.evF s.tm):=by
  intro x cx hx
  cases x with
  | tmp t =>simp only [cOpd,Option.some.injEq] at hx; subst hx; exact h.tm t
  | const v =>
    simp only [cOpd,Option.map_eq_some_iff] at hx
    obtain ⟨v',hv,rfl⟩:=hx
    exact ofValue_vr hv
  | global g =>simp [cOpd] at hx
  | func g =>simp only [cOpd,Option.some.injEq] at hx; subst hx; exact .fn g [] [] #[] #[] .nil .nil
theorem ent_run (hA : Amb S eb own w0) (hC : ReadA S C.read) (hE : EffA S C.eff) {ops : Array Oper} {x : Ent} {o : Oper} (ho : ops[x.ix]? = some o) (hc : cOper S.P S.errs nt ops o = some x.o) {s : FS} (h : RelF S eb own w0 φ0 nt φ s a w)
    (hok : x.ok C s) (hnew : ∀ f ∈ x.new,¬ φ.dom f) {N : Act → World → Prop}
    (hN : ∀ φ' a' w',RelF S eb own w0 φ0 nt φ' (x.next s) a' w' → (∀ id,φ'.dom id → φ.dom id ∨ id ∈ x.new) → N a' w') : Go.wpOp S.P ops Q' x.ix N a w:=by
  obtain ⟨h1,h2,h3,h4⟩:=cOper_inv hc
  have hruns : guardRuns x.o s.tm → Region.wanted o (yielded ops a.tmps) = true:=by
    intro hg
    rcases h4 with ⟨g1,g2⟩ | ⟨j,want,d,oj,g1,g2,g3,g4⟩
    · simp [Region.wanted,g1]
    · have vd:=h.tm d
      rw [hg d want g2] at vd
      simp [Region.wanted,g1,yielded_bool g3 g4 (vr_bool vd)]
  unfold Go.wpOp
  simp only [ho]
  unfold Ent.ok at hok
  split at hok
  · -- skipped
    rename_i he
    obtain ⟨t,want,hg,hv⟩:=hok
    rcases h4 with ⟨g1,g2⟩ | ⟨j,want',d,oj,g1,g2,g3,g4⟩
    · rw [g2] at hg; cases hg
    · rw [g2] at hg
      cases hg
      have vd:=h.tm t
      have hw : Region.wanted o (yielded ops a.tmps) = false:=by
        rcases hv with hv | hv
        · rw [hv] at vd
          simp [Region.wanted,g1,yielded_bool g3 g4 (vr_bool vd)]
        · rw [hv] at vd
          simp [Region.wanted,g1,yielded_unit g3 g4 (vr_tup0 vd)]
      simp only [hw,Bool.false_eq_true,if_false]
      refine hN φ _ _ ?_ (fun _ hid => .inl hid)
      have:=h.put (.refl φ) h.mr h.keeps h3 (v:=.tup []) (u:=undef) (.tup [] #[] .nil)
      simpa [Ent.next,he,h2] using this
  · rename_i fresh p e he
    obtain ⟨g1,g2,g3,g4,g5⟩:=hok
    simp only [hruns g1,if_true]
    left
    have hk : ∀ b,w.heap.size ≤ b → own b:=fun b hb =>h.keeps.new b (Nat.le_trans h.keeps.size hb)
    have hAw : ∀ g ∈ S.errs,∃ et fr,w.heap[g]? = some (.cells #[.iface S.errT (.pointer (some (eb g)))] et fr):=by
      intro g hg
      obtain ⟨et,fr,q1⟩:=hA.at_ g hg
      exact ⟨et,fr,by rw [h.keeps.kept g (Array.getElem?_eq_some_iff.1 q1).1 (hA.out g hg)]; exact q1⟩
    have hfresh : fresh ∈ e.foot → ¬ φ.dom fresh:=fun hf =>by
      refine hnew fresh ?_
      simp only [okFresh,Bool.or_eq_true,Bool.not_eq_true',List.contains_eq_mem,decide_eq_false_iff_not] at g5
      have:=g5.resolve_left (fun q =>q hf)
      simp only [Ent.new,he]
      rw [if_pos (by simpa using this)]
      exact List.mem_singleton.2 rfl
    obtain ⟨u,φ',w',r1,r2,r3,r4,r5,r6⟩:=op_sound h1 h.eval (fun _ =>rfl) (fun _ =>rfl) h.mr hk hAw hfresh g3 g4
    have hres : N (a.put o.dst u) w':=by
      refine hN φ' _ _ ?_ ?_
      · have:=h.put r5 r3 (h.keeps.step r4) h3 r2
        simpa [Ent.next,he,h2] using this
      · intro id hid
        rcases r6 id hid with q | ⟨rfl,q⟩
        · exact .inl q
        · right
          simp only [Ent.new,he]
          rw [if_pos (by simpa using q)]
          exact List.mem_singleton.2 rfl
    unfold Oper.wp
    rcases r1 with r1 | ⟨r1,rfl⟩
    · rw [r1]; exact hres
    · rw [r1]; exact hres
  · rename_i v foot he
    obtain ⟨g1,f,args,g2,g3⟩:=hok
    simp only [hruns g1,if_true]
    left
    have hop:=call_uses g2
    rw [hop] at h1
    obtain ⟨g,xs,ts,ho',hg,hxs⟩:=op_call h1
    have vg:=h.eval g f hg
    have hargs : VRs S.errT eb φ (args.map (Opd.evF s.tm)) (xs.toList.map a.eval):=opds_vrs h.eval hxs
    generalize f.evF s.tm = fv at vg g3
    cases fv <;> simp only [readF,reduceCtorEq] at g3
    rename_i gi first cap
    obtain ⟨fs,cs,hgv,q1,q2⟩:=vr_fn vg
    have hv : VRs S.errT eb φ (first ++ args.map (Opd.evF s.tm) ++ cap) (fs ++ xs.map a.eval ++ cs).toList:=by
      simp only [Array.toList_append,Array.toList_map]
      exact (q1.append hargs).append q2
    have hr:=(hC gi _ _ _ _ g3).2 eb φ own w0 w _ hA hv h.mr h.keeps
    refine upon_of_uponV ?_
    rw [exec_call ho' hgv]
    refine UponV.mono ?_ hr
    rintro u w' ⟨k1,k2,k3⟩
    refine hN φ _ _ ?_ (fun _ hid => .inl hid)
    have:=h.put (.refl φ) k2 k3 h3 k1
    simpa [Ent.next,he,h2] using this
  · rename_i n e k he
    obtain ⟨g1,_,f,args,g2,g3⟩:=hok
    simp only [hruns g1,if_true]
    left
    have hop:=call_uses g2
    rw [hop] at h1
    obtain ⟨g,xs,ts,ho',hg,hxs⟩:=op_call h1
    have vg:=h.eval g f hg
    have hargs : VRs S.errT eb φ (args.map (Opd.evF s.tm)) (xs.toList.map a.eval):=opds_vrs h.eval hxs
    generalize f.evF s.tm = fv at vg g3
    cases fv <;> simp only [effF,reduceCtorEq] at g3
    rename_i gi first cap
    obtain ⟨fs,cs,hgv,q1,q2⟩:=vr_fn vg
    have hv : VRs S.errT eb φ (first ++ args.map (Opd.evF s.tm) ++ cap) (fs ++ xs.map a.eval ++ cs).toList:=by
      simp only [Array.toList_append,Array.toList_map]
      exact (q1.append hargs).append q2
    have hr:=(hE gi _ _ _ _ _ g3).2 eb φ own w0 w _ hA hv h.mr h.keeps fun j hj =>hnew _ (by simp only [Ent.new,he]; rw [List.mem_range'_1]; omega)
    refine upon_of_uponV ?_
    rw [exec_call ho' hgv]
    refine UponV.mono ?_ hr
    rintro u w' ⟨φ',k0,k1,k2,k3,k4⟩
    refine hN φ' _ _ ?_ (fun id hid => ?_)
    · have:=h.put k0 k2 k3 h3 k1
      simpa [Ent.next,he,h2] using this
    · rcases k4 id hid with q | q
      · exact .inl q
      · right
        simp only [Ent.new,he]; rw [List.mem_range'_1]; omega
def PairR (x y : Ent) : Prop:=(x.ix ∈ y.ahead ∨ Indep x y) ∧ x.ix < y.ix ∧ ∀ f ∈ x.new,f ∉ y.new
theorem closedB_spec {ops : Array Oper} {ix : List (List Nat)} (h : closedB ops ix = true) {i : Nat} {o : Oper} (ho : ops[i]? = some o) : (∀ j ∈ onOf o,j < i) ∧ ∀ j ∈ ix.getD i [],j ∈ onOf o ∨ ∃ k ∈ onOf o,j ∈ ix.getD k []:=by
  simp only [closedB,List.all_eq_true,List.mem_range,Bool.and_eq_true] at h
  obtain ⟨h1,h2⟩:=h i (Array.getElem?_eq_some_iff.1 ho).1
  simp only [ho,Option.map_some,Option.getD_some,decide_eq_true_eq,Bool.or_eq_true,List.contains_eq_mem,List.any_eq_true] at h1 h2
  exact ⟨h1,h2⟩
theorem on_listed {o : Oper} {listed : Array Bool} (h : ∀ e ∈ o.after,Region.binds .any e = true → listed.getD e.on false = true) : ∀ j ∈ onOf o,listed.getD j false = true:=by
  intro j hj
  simp only [onOf,List.mem_map,List.mem_filter,Array.mem_toList_iff] at hj
  obtain ⟨e,⟨he,hb⟩,rfl⟩:=hj
  exact h e he hb
theorem any_sound (hA : Amb S eb own w0) (hC : ReadA S C.read) (hE : EffA S C.eff) (hL : ReadLoc C) {ops : Array Oper} {ix : List (List Nat)} (hcl : closedB ops ix = true) {sN : FS} {B : Nat} (hQ : ∀ φ' a' w',RelF S eb own w0 φ0 nt φ' sN a' w' → (∀ id,φ'.dom id → id < B) → Q' .normal a' w') :
    ∀ (n : Nat) (L : List Ent) (listed : Array Bool) (φ : Emb) (s : FS) (a : Act) (w : World),L.length = n → listed.size = ops.size → (∀ i,i < ops.size → (listed.getD i true = false ↔ ∃ x ∈ L,x.ix = i)) →
      L.Pairwise PairR → (∀ x ∈ L,∃ o,ops[x.ix]? = some o ∧ cOper S.P S.errs nt ops o = some x.o ∧ x.ahead = ix.getD x.ix []) →
      (∀ i,listed.getD i false = true → ∀ j ∈ ix.getD i [],listed.getD j false = true) →
      (∀ x ∈ L,∀ f ∈ x.new,¬ φ.dom f) → (∀ id,φ.dom id → id < B) → (∀ x ∈ L,∀ f ∈ x.new,f < B) → RunT C L s sN → RelF S eb own w0 φ0 nt φ s a w → wpAny S.P .any ops Q' n listed a w:=by
  intro n
  induction n with
  | zero =>
    intro L listed φ s a w hlen hsz hcov hp hx hclosed hnew hdb hnb hrun hr
    have hL0 : L = []:=List.eq_nil_of_length_eq_zero hlen
    subst hL0
    have hs : s = sN:=hrun
    subst hs
    refine ⟨?_,hQ φ a w hr hdb⟩
    refine List.eq_nil_iff_forall_not_mem.2 fun i hi => ?_
    obtain ⟨h1,o,ho,_⟩:=mem_ready.1 hi
    obtain ⟨x,hx',_⟩:=(hcov i (Array.getElem?_eq_some_iff.1 ho).1).1 h1
    cases hx'
  | succ n ih =>
    intro L listed φ s a w hlen hsz hcov hp hx hclosed hnew hdb hnb hrun hr
    refine ⟨fun hnil => ?_,fun i hi => ?_⟩
    · exfalso
      cases L with
      | nil =>simp at hlen
      | cons x L' =>
        obtain ⟨o,ho,_,_⟩:=hx x (by simp)
        have hlt:=(Array.getElem?_eq_some_iff.1 ho).1
        have hun:=(hcov x.ix hlt).2 ⟨x,by simp,rfl⟩
        have : x.ix ∈ Region.ready .any ops listed:=by
          refine mem_ready.2 ⟨hun,o,ho,fun e he hb => ?_⟩
          have hjlt:=(closedB_spec hcl ho).1 e.on (by simp only [onOf,List.mem_map,List.mem_filter,Array.mem_toList_iff]; exact ⟨e,⟨he,hb⟩,rfl⟩)
          cases hq : listed.getD e.on false with
          | true =>rfl
          | false =>
            exfalso
            have hq' : listed.getD e.on true = false:=by
              have hlt' : e.on < listed.size:=by omega
              simp [hlt'] at hq ⊢
              exact hq
            obtain ⟨y,hy,hyi⟩:=(hcov e.on (by omega)).1 hq'
            rcases List.mem_cons.1 hy with rfl | hy
            · omega
            · have:=((List.pairwise_cons.1 hp).1 y hy).2.1
              omega
        rw [hnil] at this
        cases this
    · obtain ⟨hun,o,ho,hall⟩:=mem_ready.1 hi
      have hon:=on_listed hall
      have hlt:=(Array.getElem?_eq_some_iff.1 ho).1
      obtain ⟨x,hxL,hxi⟩:=(hcov i hlt).1 hun
      subst hxi
      obtain ⟨o',ho',hco,hah⟩:=hx x hxL
      rw [ho] at ho'
      cases ho'
      have hahead : ∀ j ∈ x.ahead,listed.getD j false = true:=by
        intro j hj
        rw [hah] at hj
        rcases (closedB_spec hcl ho).2 j hj with q | ⟨k,hk,q⟩
        · exact hon j q
        · exact hclosed k (hon k hk) j q
      obtain ⟨L1,L2,rfl⟩:=List.append_of_mem hxL
      rw [List.pairwise_append] at hp
      obtain ⟨hp1,hp2,hp3⟩:=hp
      rw [List.pairwise_cons] at hp2
      have hunl : ∀ z ∈ L1 ++ x :: L2,listed.getD z.ix false = false:=by
        intro z hz
        obtain ⟨oz,hoz,_⟩:=hx z hz
        have hzl:=(Array.getElem?_eq_some_iff.1 hoz).1
        have:=(hcov z.ix hzl).2 ⟨z,hz,rfl⟩
        have hzl' : z.ix < listed.size:=by omega
        simp [hzl'] at this ⊢
        exact this
      have hind : ∀ z ∈ L1,Indep z x:=by
        intro z hz
        rcases (hp3 z hz x (by simp)).1 with q | q
        · have:=hahead _ q
          rw [hunl z (by simp [hz])] at this
          cases this
        · exact q
      obtain ⟨hok,hrest⟩:=move_first hL hind hrun
      refine ent_run hA hC hE ho hco hr hok (hnew x hxL) fun φ' a' w' hr' hdom => ?_
      have hset : ∀ z ∈ L1 ++ L2,z.ix ≠ x.ix:=by
        intro z hz
        rcases List.mem_append.1 hz with q | q
        · have:=(hp3 z q x (by simp)).2.1; omega
        · have:=(hp2.1 z q).2.1; omega
      refine ih (L1 ++ L2) _ φ' _ a' w' ?_ (by simp [hsz]) ?_ ?_ ?_ ?_ ?_ ?_ ?_ hrest hr'
      · simp at hlen ⊢; omega
      · intro i hi'
        by_cases hii : x.ix = i
        · subst hii
          constructor
          · intro q
            have hlt' : x.ix < listed.size:=by omega
            simp [hlt'] at q
          · rintro ⟨z,hz,hzi⟩
            exact absurd hzi (hset z hz)
        · rw [getD_set_ne true hii,hcov i hi']
          constructor
          · rintro ⟨z,hz,hzi⟩
            refine ⟨z,?_,hzi⟩
            simp only [List.mem_append,List.mem_cons] at hz ⊢
            rcases hz with q | rfl | q
            · exact .inl q
            · exact absurd hzi hii
            · exact .inr q
          · rintro ⟨z,hz,hzi⟩
            refine ⟨z,?_,hzi⟩
            simp only [List.mem_append,List.mem_cons] at hz ⊢
            rcases hz with q | q
            · exact .inl q
            · exact .inr (.inr q)
      · rw [List.pairwise_append]
        exact ⟨hp1,hp2.2,fun z hz y hy =>hp3 z hz y (by simp [hy])⟩
      · intro z hz
        exact hx z (by simp only [List.mem_append,List.mem_cons] at hz ⊢; rcases hz with q | q <;> simp [q])
      · intro i hi' j hj
        by_cases hii : x.ix = i
        · subst hii
          rw [← hah] at hj
          exact getD_set_true (hahead j hj)
        · rw [getD_set_ne false hii] at hi'
          exact getD_set_true (hclosed i hi' j hj)
      · intro z hz f hf hd
        rcases hdom f hd with q | q
        · exact hnew z (by simp only [List.mem_append,List.mem_cons] at hz ⊢; rcases hz with q | q <;> simp [q]) f hf q
        · rcases List.mem_append.1 hz with hz | hz
          · exact (hp3 z hz x (by simp)).2.2 f hf q
          · exact (hp2.1 z hz).2.2 f q hf
      · intro id hid
        rcases hdom id hid with q | q
        · exact hdb id q
        · exact hnb x hxL id q
      · intro z hz
        exact hnb z (by simp only [List.mem_append,List.mem_cons] at hz ⊢; rcases hz with q | q <;> simp [q])
theorem okLog_spec {ahead foot wr : List Nat} : ∀ {lg : Log},okLog ahead foot wr lg = true → ∀ j f w,(j,f,w) ∈ lg → j ∈ ahead ∨ (noCommon w foot = true ∧ noCommon wr f = true)
  | [],_,_,_,_,h =>by cases h
  | (j',f',w') :: r,h,j,f,w,hm =>by
    simp only [okLog,Bool.and_eq_true,Bool.or_eq_true,List.contains_eq_mem,decide_eq_true_eq] at h
    rcases List.mem_cons.1 hm with q | q
    · cases q; exact h.1
    · exact okLog_spec h.2 j f w q
theorem noCommon_nil (l : List Nat) : noCommon [] l = true:=rfl
theorem noCommon_nil' : ∀ l : List Nat,noCommon l [] = true
  | [] =>rfl
  | a :: l =>by simp [noCommon,noCommon_nil' l]
theorem put_fs (st : St) (d : Option Nat) (v : AV) : (st.put d v).fs = ⟨putF st.fs.tm d v,st.fs.M⟩:=by
  simp only [St.fs,FS.mk.injEq]
  refine ⟨?_,by cases d <;> rfl⟩
  funext t
  exact tget_put st d v t
theorem eff_fs (st : St) (d : Option Nat) (e : Eff) : (st.eff d e).fs = ⟨putF st.fs.tm d e.val,applyF st.fs.M e.wr⟩:=by
  rw [St.eff,put_fs]
  simp only [St.fs,mget_applyWr]
theorem evs_map (st : St) : ∀ args : List Opd,evs st.tm args = args.map (Opd.evF st.fs.tm)
  | [] =>rfl
  | x :: r =>by
    simp only [evs,List.map_cons,evs_map st r]
    rw [evF_eq]
def LogOf (lg : Log) (L : List Ent) : Prop:=∀ x ∈ L,(x.foot = [] ∧ x.wr = []) ∨ (x.ix,x.foot,x.wr) ∈ lg
theorem stepEff_of {i : Nat} {ahead : List Nat} {lg : Log} {o : AOper} {st : St} {K2 : Log → St → Prop} (hg : guardRuns o st.fs.tm) (h : wpOpD C i ahead lg o.dst o.op st K2) :
    ∃ (x : Ent) (st1 : St) (lg1 : Log),x.ix = i ∧ x.ahead = ahead ∧ x.o = o ∧ x.ok C st.fs ∧ st1.fs = x.next st.fs ∧ K2 lg1 st1 ∧ ((lg1 = lg ∧ x.foot = [] ∧ x.wr = []) ∨ (lg1 = addLog i x.foot x.wr lg ∧ okLog ahead x.foot x.wr lg = true)) ∧
      st.mem.length ≤ st1.mem.length ∧ ∀ f ∈ x.new,st.mem.length ≤ f ∧ f < st1.mem.length:=by
  unfold wpOpD at h
  split at h
  · rename_i f args hcall
    unfold wpRead at h
    split at h
    · rename_i v foot hr
      obtain ⟨h1,h2⟩:=h
      refine ⟨⟨i,ahead,o,.read v foot⟩,_,_,rfl,rfl,rfl,⟨hg,f,args,hcall,?_⟩,put_fs st o.dst v,h2,.inr ⟨rfl,h1⟩,?_,?_⟩
      · rw [evF_eq,evs_map] at hr
        generalize Opd.evF st.fs.tm f = fv at hr
        cases fv <;> simp only [readOf,reduceCtorEq] at hr
        simpa only [readF,St.fs] using hr
      · cases o.dst <;> exact Nat.le_refl _
      · intro f hf; simp [Ent.new] at hf
    · unfold wpEffC at h
      split at h
      · rename_i e k hs
        obtain ⟨h1,h3,h4⟩:=h
        obtain ⟨g1,g2⟩:=applyWr_length e.wr st.mem
        have hml : (st.eff o.dst e).mem = applyWr st.mem e.wr:=by cases hq : o.dst <;> simp [St.eff,St.put]
        refine ⟨⟨i,ahead,o,.call st.mem.length e k⟩,_,_,rfl,rfl,rfl,⟨hg,h1,f,args,hcall,?_⟩,eff_fs st o.dst e,h4,.inr ⟨rfl,h3⟩,?_,?_⟩
        · rw [evF_eq,evs_map] at hs
          generalize Opd.evF st.fs.tm f = fv at hs
          cases fv <;> simp only [effOf,reduceCtorEq] at hs
          simpa only [effF,St.fs] using hs
        · rw [hml]; exact g1
        · intro f hf
          simp only [Ent.new,List.mem_range'_1] at hf
          rw [hml]
          exact ⟨hf.1,g2 _ (newsB_spec h1 f hf.1 hf.2)⟩
      · exact h.elim
  · rename_i hcall
    unfold wpEffD at h
    split at h
    · rename_i p e hs
      obtain ⟨h1,h2,h3,h4⟩:=h
      obtain ⟨g1,g2⟩:=applyWr_length e.wr st.mem
      have hml : (st.eff o.dst e).mem = applyWr st.mem e.wr:=by cases hq : o.dst <;> simp [St.eff,St.put]
      refine ⟨⟨i,ahead,o,.eff st.mem.length p e⟩,_,_,rfl,rfl,rfl,⟨hg,?_,?_,h1,h2⟩,eff_fs st o.dst e,h4,.inr ⟨rfl,h3⟩,?_,?_⟩
      · exact hcall
      · rw [evF_eq] at hs; exact hs
      · rw [hml]; exact g1
      · intro f hf
        simp only [Ent.new] at hf
        split at hf
        · rename_i hc
          obtain rfl:=List.mem_singleton.1 hf
          rw [hml]
          exact ⟨Nat.le_refl _,g2 _ (by simpa using hc)⟩
        · cases hf
    · exact h.elim
theorem step_of {i : Nat} {ahead : List Nat} {lg : Log} {o : AOper} {st : St} {K2 : Log → St → Prop} (h : match o.guard with
    | none =>wpOpD C i ahead lg o.dst o.op st K2
    | some (t,want) =>wpGD C i ahead lg o st K2 want (tget st.tm t)) :
    ∃ (x : Ent) (st1 : St) (lg1 : Log),x.ix = i ∧ x.ahead = ahead ∧ x.o = o ∧ x.ok C st.fs ∧ st1.fs = x.next st.fs ∧ K2 lg1 st1 ∧ ((lg1 = lg ∧ x.foot = [] ∧ x.wr = []) ∨ (lg1 = addLog i x.foot x.wr lg ∧ okLog ahead x.foot x.wr lg = true)) ∧
      st.mem.length ≤ st1.mem.length ∧ ∀ f ∈ x.new,st.mem.length ≤ f ∧ f < st1.mem.length:=by
  have skip : guardSkips o st.fs.tm → K2 lg (st.put o.dst (.tup [])) → ∃ (x : Ent) (st1 : St) (lg1 : Log),x.ix = i ∧ x.ahead = ahead ∧ x.o = o ∧ x.ok C st.fs ∧ st1.fs = x.next st.fs ∧ K2 lg1 st1 ∧ ((lg1 = lg ∧ x.foot = [] ∧ x.wr = []) ∨ (lg1 = addLog i x.foot x.wr lg ∧ okLog ahead x.foot x.wr lg = true)) ∧
      st.mem.length ≤ st1.mem.length ∧ ∀ f ∈ x.new,st.mem.length ≤ f ∧ f < st1.mem.length:=fun hs hk =>
    ⟨⟨i,ahead,o,.skip⟩,_,_,rfl,rfl,rfl,hs,put_fs st o.dst (.tup []),hk,.inl ⟨rfl,rfl,rfl⟩,by cases o.dst <;> exact Nat.le_refl _,by intro f hf; simp [Ent.new] at hf⟩
  split at h
  · rename_i hg
    exact stepEff_of (fun t want e =>by rw [hg] at e; cases e) h
  · rename_i t want hg
    generalize hv : tget st.tm t = v at h
    unfold wpGD at h
    split at h
    · rename_i b
      by_cases hb : b = want
      · exact stepEff_of (fun t' want' e =>by rw [hg] at e; cases e; rw [← hb]; exact hv) (h.1 hb)
      · have hb' : b = !want:=by cases b <;> cases want <;> simp_all
        exact skip ⟨t,want,hg,.inl (by rw [← hb']; exact hv)⟩ (h.2 hb')
    · exact skip ⟨t,want,hg,.inr hv⟩ h
    · exact h.elim
theorem trace_of {ix : List (List Nat)} : ∀ (al : List AOper) (ixs : List (List Nat)) (i : Nat) (lg : Log) (st : St) (L0 : List Ent),wpDs C K i al ixs lg st → apartAll i al ixs = true →
    (∀ j,ixs[j]? = ix[i + j]?) → LogOf lg L0 → (∀ x ∈ L0,x.ix < i) → (∀ x ∈ L0,∀ f ∈ x.new,f < st.mem.length) →
    (∀ x ∈ L0,apartFrom x.ix x.o al ixs = true) →
    ∃ (L : List Ent) (st' : St),L.map (·.o) = al ∧ L.map (·.ix) = List.range' i al.length ∧ (∀ x ∈ L,x.ahead = ix.getD x.ix []) ∧ K st' ∧ RunT C L st.fs st'.fs ∧ L.Pairwise PairR ∧ (∀ x ∈ L0,∀ y ∈ L,PairR x y) ∧
      (∀ x ∈ L,∀ f ∈ x.new,st.mem.length ≤ f ∧ f < st'.mem.length) ∧ st.mem.length ≤ st'.mem.length
  | [],[],i,lg,st,L0,h,_,_,_,_,_,_ =>⟨[],st,rfl,rfl,by simp,h,rfl,.nil,by simp,by simp,Nat.le_refl _⟩
  | [],_ :: _,i,lg,st,L0,h,_,_,_,_,_,_ =>h.elim
  | _ :: _,[],i,lg,st,L0,h,_,_,_,_,_,_ =>h.elim
  | o :: r,a :: ixs,i,lg,st,L0,h,hap,hix,hlog,hlt,hnew,hfrom =>by
    simp only [wpDs] at h
    obtain ⟨x,st1,lg1,e1,e2,e3,hok,hnext,hK2,hlg,hmem,hxnew⟩:=step_of h
    simp only [apartAll,Bool.and_eq_true] at hap
    have hpair : ∀ z ∈ L0,PairR z x:=by
      intro z hz
      have hf:=hfrom z hz
      simp only [apartFrom,Bool.and_eq_true,Bool.or_eq_true,List.contains_eq_mem,decide_eq_true_eq] at hf
      refine ⟨?_,by rw [e1]; exact hlt z hz,fun f hf' hx' => ?_⟩
      · rw [e2]
        rcases hf.1 with q | q
        · exact .inl q
        · rcases hlog z hz with ⟨z1,z2⟩ | z1
          · right
            refine ⟨by rw [e3]; exact q,by rw [z2]; exact noCommon_nil _,by rw [z1]; exact noCommon_nil' _⟩
          · rcases hlg with ⟨_,x1,x2⟩ | ⟨_,hok2⟩
            · right
              exact ⟨by rw [e3]; exact q,by rw [x1]; exact noCommon_nil' _,by rw [x2]; exact noCommon_nil _⟩
            · rcases okLog_spec hok2 _ _ _ z1 with q2 | ⟨q2,q3⟩
              · exact .inl q2
              · exact .inr ⟨by rw [e3]; exact q,q2,q3⟩
      · have:=hnew z hz f hf'
        have:=(hxnew f hx').1
        omega
    have h0 : ix[i]? = some a:=by have:=hix 0; simpa using this.symm
    obtain ⟨L,st',r1,r2,r3,r4,r5,r6,r7,r8,r9⟩:=trace_of r ixs (i + 1) lg1 st1 (L0 ++ [x]) hK2 hap.2 (fun j =>by have:=hix (j + 1); rw [List.getElem?_cons_succ] at this; rw [this]; congr 1; omega)
      (by
        intro z hz
        rcases List.mem_append.1 hz with hz | hz
        · rcases hlog z hz with q | q
          · exact .inl q
          · rcases hlg with ⟨q2,_⟩ | ⟨q2,_⟩
            · rw [q2]; exact .inr q
            · rw [q2]
              right
              unfold addLog
              split
              · exact q
              · exact List.mem_cons_of_mem _ q
        · simp only [List.mem_singleton] at hz
          subst hz
          rcases hlg with ⟨_,q2⟩ | ⟨q2,_⟩
          · exact .inl q2
          · rw [q2,e1]
            cases hft : z.foot with
            | nil =>
              left
              refine ⟨rfl,List.eq_nil_iff_forall_not_mem.2 fun i hi => ?_⟩
              have:=z.wr_foot i hi
              rw [hft] at this
              cases this
            | cons a l =>exact .inr (List.Mem.head _))
      (by
        intro z hz
        rcases List.mem_append.1 hz with hz | hz
        · have:=hlt z hz; omega
        · simp only [List.mem_singleton] at hz; subst hz; omega)
      (by
        intro z hz f hf
        rcases List.mem_append.1 hz with hz | hz
        · have:=hnew z hz f hf; omega
        · simp only [List.mem_singleton] at hz; subst hz; exact (hxnew f hf).2)
      (by
        intro z hz
        rcases List.mem_append.1 hz with hz | hz
        · have hf:=hfrom z hz
          simp only [apartFrom,Bool.and_eq_true] at hf
          exact hf.2
        · simp only [List.mem_singleton] at hz; subst hz; rw [e1,e3]; exact hap.1)
    refine ⟨x :: L,st',by simp [e3,r1],by simp [e1,r2,List.range'_succ],?_,r4,⟨hok,by rw [← hnext]; exact r5⟩,?_,?_,?_,by omega⟩
    · intro z hz
      rcases List.mem_cons.1 hz with rfl | hz
      · rw [e2,e1]; simp [List.getD,h0]
      · exact r3 z hz
    · exact List.pairwise_cons.2 ⟨fun y hy =>r7 x (by simp) y hy,r6⟩
    · intro z hz y hy
      rcases List.mem_cons.1 hy with rfl | hy
      · exact hpair z hz
      · exact r7 z (by simp [hz]) y hy
    · intro z hz f hf
      rcases List.mem_cons.1 hz with rfl | hz
      · have:=hxnew f hf; omega
      · have:=r8 z hz f hf; omega
theorem drawW (hm : S.P.follows .mixedOrders = true) (hA : Amb S eb own w0) (hC : ReadA S C.read) (hE : EffA S C.eff) {ops : Array Oper} {al : List AOper} (hal : ops.toList.mapM (cOper S.P S.errs nt ops) = some al) (hcl : closedB ops (aheadOf ops) = true)
    (hap : apartAll 0 al (aheadOf ops) = true) (hw : wpDs C K 0 al (aheadOf ops) [] st) (hr : Rel S eb own w0 φ0 nt st a w) (hK : ∀ st a w,K st → Rel S eb own w0 φ0 nt st a w → Q' .normal a w) {id : Nat} :
    (Code.region id ops true).wp S.P Q' a w:=by
  obtain ⟨φ,h⟩:=hr
  obtain ⟨L,st',r1,r2,r3,r4,r5,r6,_,r8,r9⟩:=trace_of (ix:=aheadOf ops) al (aheadOf ops) 0 [] st [] hw hap (by simp) (by intro x hx; cases hx) (by simp) (by simp) (by simp)
  obtain ⟨hlen,hget⟩:=mapM_get hal
  have hLlen : L.length = ops.size:=by rw [← List.length_map (f:=(·.o)),r1,← hlen]; simp
  have hixs : ∀ (j : Nat) (x : Ent),L[j]? = some x → x.ix = j ∧ al[j]? = some x.o:=by
    intro j x hx
    have h1 : (L.map (·.ix))[j]? = some x.ix:=by simp [hx]
    have h2 : (L.map (·.o))[j]? = some x.o:=by simp [hx]
    have hj : j < L.length:=(List.getElem?_eq_some_iff.1 hx).1
    rw [r2] at h1
    rw [r1] at h2
    have : al.length = L.length:=by rw [← r1]; simp
    rw [List.getElem?_range' (by omega)] at h1
    simp at h1
    exact ⟨h1.symm,h2⟩
  refine wp_region_any hm ?_
  have hrel : RelF S eb own w0 φ0 nt φ st.fs a { w with drawn:=w.drawn + 1 } :=
    ⟨h.ext,h.size,h.defers,h.tm,h.mr.of_heap rfl,h.keeps.step ⟨rfl,rfl,Nat.le_refl _,fun _ _ _ =>rfl⟩⟩
  have hL : ReadLoc C:=⟨fun g args M v foot hh =>(hC g args M v foot hh).1,fun g args M n e k hh =>(hE g args M n e k hh).1⟩
  refine any_sound (B:=st'.mem.length) hA hC hE hL hcl (sN:=st'.fs) ?_ ops.size L _ φ st.fs a _ hLlen (by simp) ?_ r6 ?_ ?_ ?_ ?_ ?_ r5 hrel
  · intro φ' a' w' hr' hb
    exact hK st' a' w' r4 ⟨φ',hr'.ext,hr'.size,hr'.defers,hr'.tm,hr'.mr,hr'.keeps,hb⟩
  · intro i hi
    constructor
    · intro _
      have hi' : i < L.length:=by omega
      exact ⟨L[i],List.getElem_mem _,(hixs i L[i] (by simp [hi'])).1⟩
    · intro _
      simp [hi]
  · intro x hx
    obtain ⟨j,hj⟩:=List.getElem?_of_mem hx
    obtain ⟨h1,h2⟩:=hixs j x hj
    have hjl : j < ops.size:=by rw [← hLlen]; exact (List.getElem?_eq_some_iff.1 hj).1
    have ho : ops.toList[j]? = some ops[j]:=by simp [hjl]
    exact ⟨ops[j],by rw [h1]; simp [hjl],hget j _ _ ho h2,r3 x hx⟩
  · intro i hi
    exfalso
    simp only [Array.getD_eq_getD_getElem?,Array.getElem?_replicate] at hi
    split at hi <;> simp at hi
  · intro x hx f hf hd
    have:=h.bdd f hd
    have:=(r8 x hx f hf).1
    omega
  · intro id hid
    exact Nat.lt_of_lt_of_le (h.bdd id hid) r9
  · intro x hx f hf
    exact (r8 x hx f hf).2
end AH
