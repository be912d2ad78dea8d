import Derived.Test.YtnlolefgifeohaaDoorFKindE15
open Go AH
set_option linter.unusedSimpArgs false
set_option maxRecDepth 100000
namespace Go.Proofs.YtnlolefgifeohaaDoor.E15
def kindG (g : Nat) : Nat:=gls.idxOf g + 1
theorem okKind : CtxOK S0 (ctxU S0 [(58,isT)] []):=ctxU_ok ⟨isT_ok,trivial⟩ trivial mixed
set_option maxRecDepth 100000 in
theorem kind_walk (e : AV) (m : Mem) (g : Nat) (hg : g ∈ gls) (foot : List Nat) (his : ∀ j r,gls.contains j = true → isT [e,.err j] (mget (m ++ r)) = some (.bool (g == j),foot)) (hne : AH.eqAV .iface true e .nili = some (True,false)) :
    CallA1 S0 23 [e] m fun r _ =>r = .int .i64 (kindG g):=by
  refine fun_sound okKind Tryd.func23 c23 ?_
  unfold wpF F23
  simp only [AH.SD,AH.SE,AOp.call?,AOp.next?,bstep,AV.cells,unAV,binAV,retQ,retV,AH.sliceElems,AH.bytesOf,AH.strOp,AH.bound,AH.missQ,AH.minmaxAV,AH.readOf,AH.effOf,simprocAttr,hne,mset_end,mget_end,mset_last]
  have hrow : [AV.err 2,AV.err 3,AV.err 4,AV.err 0,AV.err 5,AV.err 6,AV.err 7,AV.err 8,AV.err 9,AV.err 10,AV.err 11,AV.err 12,AV.err 1,AV.err 13] = gls.map AV.err:=rfl
  rw [hrow]
  refine loop_rule (α:=Nat) (fun i => 14 - i) (fun i =>⟨[(4,.int .i64 i),(3,.ptr m.length 0 0),(0,e)],m ++ [some (.row false 14 [gls.map AV.err])]⟩) (fun i =>i ≤ gls.idxOf g) 0 (Nat.zero_le _) (gc_keepE rfl rfl ⟨rfl,rfl,rfl,trivial⟩) ?_
  intro X i hi ih
  have hlen : gls.length = 14:=rfl
  have hlt : gls.idxOf g < 14:=by rw [← hlen]; exact List.idxOf_lt_length_of_mem hg
  have hil : i < gls.length:=by omega
  have hd : decide ((i : Int) < 14) = true:=by simp; omega
  have hget : (gls.map AV.err).getD i .undef = .err gls[i]:=getD_map_lt _ _ _ _ hil
  have hm : gls.contains gls[i] = true:=by simp
  have hw : IntKind.i64.wrap ((i : Int) + 1) = ((i + 1 : Nat) : Int):=by rw [IntKind.wrap_i64]; omega
  have hc:=his gls[i] [some (.row false 14 [gls.map AV.err])] hm
  simp only [AH.SD,AH.SE,AOp.call?,AOp.next?,bstep,AV.cells,unAV,binAV,retQ,retV,AH.sliceElems,AH.bytesOf,AH.strOp,AH.bound,AH.missQ,AH.minmaxAV,AH.readOf,AH.effOf,simprocAttr,hd,mget_end,hget,hc]
  refine ⟨⟨by omega,by omega⟩,by omega,?_⟩
  refine ⟨fun hq => ?_,fun hq => ?_⟩
  · have hq' : g = gls[i]:=by simpa using hq
    have hix : gls.idxOf g = i:=by
      have all : ∀ i (h : i < gls.length),gls.idxOf gls[i] = i:=by decide
      rw [hq']
      exact all i hil
    simp only [AH.SD,AH.SE,AOp.call?,AOp.next?,bstep,AV.cells,unAV,binAV,retQ,retV,AH.sliceElems,AH.bytesOf,AH.strOp,AH.bound,AH.missQ,AH.minmaxAV,AH.readOf,AH.effOf,simprocAttr,hw,kindG,hix]
  · have hne' : gls.idxOf g ≠ i:=fun h =>by
      have h1 : gls[gls.idxOf g]? = some g:=by
        rw [List.getElem?_eq_getElem (by omega)]
        congr 1
        exact List.getElem_idxOf _
      rw [h,List.getElem?_eq_getElem hil] at h1
      have h2:=Option.some.inj h1
      rw [h2] at hq
      simp at hq
    simp only [AH.SD,AH.SE,AOp.call?,AOp.next?,bstep,AV.cells,unAV,binAV,retQ,retV,AH.sliceElems,AH.bytesOf,AH.strOp,AH.bound,AH.missQ,AH.minmaxAV,AH.readOf,AH.effOf,simprocAttr,hw]
    exact gc_keepE (ih (i + 1) (by omega) (by omega)) rfl ⟨rfl,rfl,rfl,trivial⟩
set_option maxRecDepth 100000 in
theorem kind_nil : Pure S0 23 [.nili] (.int .i64 0):=by
  refine fun_sound okKind Tryd.func23 c23 ?_
  unfold wpF F23
  simp only [AH.SD,AH.SE,AOp.call?,AOp.next?,bstep,AV.cells,unAV,binAV,retQ,retV,AH.sliceElems,AH.bytesOf,AH.strOp,AH.bound,AH.missQ,AH.minmaxAV,AH.readOf,AH.effOf,simprocAttr]
def kindT : RT:=fun args M =>match args with
  | [.nili] =>some (.int .i64 0,[])
  | [.err g] =>bif gls.contains g then some (.int .i64 (kindG g),[]) else none
  | _ =>none
theorem gls_errs {g : Nat} (h : gls.contains g = true) : errsL.contains g = true:=by
  have : ∀ g ∈ gls,errsL.contains g = true:=by decide
  exact this g (by simpa using h)
set_option maxRecDepth 100000 in
theorem kindT_ok : ReadF S0 23 kindT:=by
  intro args M v foot h
  unfold kindT at h
  split at h
  · simp only [Option.some.injEq,Prod.mk.injEq] at h
    obtain ⟨rfl,rfl⟩:=h
    exact ⟨fun M' _ =>rfl,fun eb φ own w0 w us hA hus hM hk =>kind_nil.run rfl rfl hA hus hM hk⟩
  · rename_i g
    cases hc : gls.contains g with
    | false =>rw [hc] at h; cases h
    | true =>
      rw [hc] at h
      simp only [cond_true,Option.some.injEq,Prod.mk.injEq] at h
      obtain ⟨rfl,rfl⟩:=h
      have hP : Pure S0 23 [.err g] (.int .i64 (kindG g)):=kind_walk (.err g) [] g (by simpa using hc) [] (fun j r hj =>by
        simp only [isT,gls_errs hj,gls_errs hc,Bool.and_self,cond_true]) rfl
      exact ⟨fun M' _ =>by simp only [kindT,hc,cond_true],fun eb φ own w0 w us hA hus hM hk =>hP.run rfl rfl hA hus hM hk⟩
  · cases h
def errA : Nat → AV
  | 0 => .nili
  | k + 1 => .err (gls.getD k 0)
theorem errA_flat : ∀ k,(errA k).lt 0 = true
  | 0 =>rfl
  | _ + 1 =>rfl
theorem errA_nil (k : Nat) : AH.eqAV .iface true (errA k) .nili = some (True,k == 0):=by
  cases k <;> rfl
theorem kindT_err {k : Nat} (M : Nat → Option Blk) (h : k ≤ 14) : kindT [errA k] M = some (.int .i64 (k : Int),[]):=by
  have : ∀ k ≤ 14,kindT [errA k] (fun _ =>none) = some (.int .i64 (k : Int),[]):=by
    intro k hk
    match k,hk with
    | 0,_ =>rfl
    | 1,_ =>rfl
    | 2,_ =>rfl
    | 3,_ =>rfl
    | 4,_ =>rfl
    | 5,_ =>rfl
    | 6,_ =>rfl
    | 7,_ =>rfl
    | 8,_ =>rfl
    | 9,_ =>rfl
    | 10,_ =>rfl
    | 11,_ =>rfl
    | 12,_ =>rfl
    | 13,_ =>rfl
    | 14,_ =>rfl
  rw [← this k h]
  cases k <;> rfl
end Go.Proofs.YtnlolefgifeohaaDoor.E15
