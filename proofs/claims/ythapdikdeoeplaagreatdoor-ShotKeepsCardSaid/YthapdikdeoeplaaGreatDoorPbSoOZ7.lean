import Derived.Test.YthapdikdeoeplaaGreatDoorPaFKindZ7
section
set_option linter.unusedVariables false
set_option linter.unnecessarySimpa false
open Go AH
set_option linter.unusedSimpArgs false
set_option maxRecDepth 100000
namespace Go.Proofs.YthapdikdeoeplaaGreatDoor.Z7
def kindG (g : Nat) : Nat:=gls.idxOf g + 1
theorem okKind : CtxOK S0 (ctxU S0 [(45,isT)] []):=ctxU_ok ⟨isT_ok,trivial⟩ trivial mixed
set_option maxRecDepth 100000 in
theorem kind_walk (e : AV) (m : Mem) (g : Nat) (hg : g ∈ gls) (foot : List Nat) (his : ∀ j r,gls.contains j = true → isT [e,.err j] (mget (m ++ r)) = some (.bool (g == j),foot)) (hne : AH.eqAV .iface true e .nili = some (True,false)) :
    CallA1 S0 28 [e] m fun r _ =>r = .int .i64 (kindG g):=by
  refine fun_sound okKind Tryz.func28 c28 ?_
  unfold wpF F28
  simp only [AH.SD,AH.SE,AOp.call?,AOp.next?,bstep,AV.cells,unAV,binAV,retQ,retV,AH.sliceElems,AH.bytesOf,AH.strOp,AH.bound,AH.missQ,AH.minmaxAV,AH.readOf,AH.effOf,simprocAttr,hne,mset_end,mget_end,mset_last]
  have hrow : [AV.err 1,AV.err 0,AV.err 2,AV.err 3,AV.err 4,AV.err 5,AV.err 6,AV.err 7,AV.err 8,AV.err 9,AV.err 10,AV.err 11,AV.err 12,AV.err 13] = gls.map AV.err:=rfl
  rw [hrow]
  refine loop_rule (α:=Nat) (fun i => 14 - i) (fun i =>⟨[(4,.int .i64 i),(3,.ptr m.length 0 0),(0,e)],m ++ [some (.row false 14 [gls.map AV.err])]⟩) (fun i =>i ≤ gls.idxOf g) 0 (Nat.zero_le _) (gc_keepE rfl rfl ⟨rfl,rfl,rfl,trivial⟩) ?_
  intro X i hi ih
  have hlen : gls.length = 14:=rfl
  have hlt : gls.idxOf g < 14:=by rw [← hlen]; exact List.idxOf_lt_length_of_mem hg
  have hil : i < gls.length:=by omega
  have hd : decide ((i : Int) < 14) = true:=by simp; omega
  have hget : (gls.map AV.err).getD i .undef = .err gls[i]:=getD_map_lt _ _ _ _ hil
  have hm : gls.contains gls[i] = true:=by simp
  have hw : IntKind.i64.wrap ((i : Int) + 1) = ((i + 1 : Nat) : Int):=by rw [IntKind.wrap_i64]; omega
  have hc:=his gls[i] [some (.row false 14 [gls.map AV.err])] hm
  simp only [AH.SD,AH.SE,AOp.call?,AOp.next?,bstep,AV.cells,unAV,binAV,retQ,retV,AH.sliceElems,AH.bytesOf,AH.strOp,AH.bound,AH.missQ,AH.minmaxAV,AH.readOf,AH.effOf,simprocAttr,hd,mget_end,hget,hc]
  refine ⟨⟨by omega,by omega⟩,by omega,?_⟩
  refine ⟨fun hq => ?_,fun hq => ?_⟩
  · have hq' : g = gls[i]:=by simpa using hq
    have hix : gls.idxOf g = i:=by
      have all : ∀ i (h : i < gls.length),gls.idxOf gls[i] = i:=by decide
      rw [hq']
      exact all i hil
    simp only [AH.SD,AH.SE,AOp.call?,AOp.next?,bstep,AV.cells,unAV,binAV,retQ,retV,AH.sliceElems,AH.bytesOf,AH.strOp,AH.bound,AH.missQ,AH.minmaxAV,AH.readOf,AH.effOf,simprocAttr,hw,kindG,hix]
  · have hne' : gls.idxOf g ≠ i:=fun h =>by
      have h1 : gls[gls.idxOf g]? = some g:=by
        rw [List.getElem?_eq_getElem (by omega)]
        congr 1
        exact List.getElem_idxOf _
      rw [h,List.getElem?_eq_getElem hil] at h1
      have h2:=Option.some.inj h1
      rw [h2] at hq
      simp at hq
    simp only [AH.SD,AH.SE,AOp.call?,AOp.next?,bstep,AV.cells,unAV,binAV,retQ,retV,AH.sliceElems,AH.bytesOf,AH.strOp,AH.bound,AH.missQ,AH.minmaxAV,AH.readOf,AH.effOf,simprocAttr,hw]
    exact gc_keepE (ih (i + 1) (by omega) (by omega)) rfl ⟨rfl,rfl,rfl,trivial⟩
set_option maxRecDepth 100000 in
theorem kind_nil : Pure S0 28 [.nili] (.int .i64 0):=by
  refine fun_sound okKind Tryz.func28 c28 ?_
  unfold wpF F28
  simp only [AH.SD,AH.SE,AOp.call?,AOp.next?,bstep,AV.cells,unAV,binAV,retQ,retV,AH.sliceElems,AH.bytesOf,AH.strOp,AH.bound,AH.missQ,AH.minmaxAV,AH.readOf,AH.effOf,simprocAttr]
def kindQ (id : Nat) : Option (Nat × List (List AV)) → Option (AV × List Nat)
  | some (3,[[.str _,.int .i64 _,.err g]]) =>bif gls.contains g then some (.int .i64 (kindG g),[id]) else none
  | _ =>none
def kindT : RT:=fun args M =>match args with
  | [.nili] =>some (.int .i64 0,[])
  | [.err g] =>bif gls.contains g then some (.int .i64 (kindG g),[]) else none
  | [.ifc t (.ptr id 0 0)] =>bif t == 131 then kindQ id (rowE M id) else none
  | _ =>none
theorem gls_errs {g : Nat} (h : gls.contains g = true) : errsL.contains g = true:=by
  have : ∀ g ∈ gls,errsL.contains g = true:=by decide
  exact this g (by simpa using h)
set_option maxRecDepth 100000 in
theorem kindT_ok : ReadF S0 28 kindT:=by
  intro args M v foot h
  unfold kindT at h
  split at h
  · simp only [Option.some.injEq,Prod.mk.injEq] at h
    obtain ⟨rfl,rfl⟩:=h
    exact ⟨fun M' _ =>rfl,fun eb φ own w0 w us hA hus hM hk =>kind_nil.run rfl rfl hA hus hM hk⟩
  · rename_i g
    cases hc : gls.contains g with
    | false =>rw [hc] at h; cases h
    | true =>
      rw [hc] at h
      simp only [cond_true,Option.some.injEq,Prod.mk.injEq] at h
      obtain ⟨rfl,rfl⟩:=h
      have hP : Pure S0 28 [.err g] (.int .i64 (kindG g)):=kind_walk (.err g) [] g (by simpa using hc) [] (fun j r hj =>by
        simp only [isT,gls_errs hj,gls_errs hc,Bool.and_self,cond_true]) rfl
      exact ⟨fun M' _ =>by simp only [kindT,hc,cond_true],fun eb φ own w0 w us hA hus hM hk =>hP.run rfl rfl hA hus hM hk⟩
  · rename_i t id
    cases ht : (t == 131) with
    | false =>rw [ht] at h; cases h
    | true =>
      rw [ht] at h
      simp only [cond_true] at h
      have : t = 131:=by simpa using ht
      subst this
      unfold kindQ at h
      split at h
      · rename_i a b g hid
        cases hc : gls.contains g with
        | false =>rw [hc] at h; cases h
        | true =>
          rw [hc] at h
          simp only [cond_true,Option.some.injEq,Prod.mk.injEq] at h
          obtain ⟨rfl,rfl⟩:=h
          obtain ⟨ro,hid'⟩:=rowE_some hid
          refine ⟨fun M' hM' => ?_,fun eb φ own w0 w us hA hus hM hk => ?_⟩
          · have e1 : rowE M' id = some (3,[[.str a,.int .i64 b,.err g]]):=by rw [rowE,hM' id (by simp),hid']
            simp only [kindT,e1,kindQ,hc,beq_self_eq_true,cond_true]
          · refine reads_run (sel:=[(id,true)]) ?_ rfl ?_ rfl ?_ hA hus hM hk
            · simp only [roOK,hid']; rfl
            · simp [AV.insB,AV.inB,AH.isIn]
            · have p0 : posOf [(id,true)] id = 0:=by simp [posOf]
              simp only [AV.rens,AV.ren,p0,roMem,hid',Option.map_some,Blk.ren,Blk.asRo,List.map_cons,List.map_nil]
              refine kind_walk _ _ g (by simpa using hc) [0] (fun j r hj => ?_) rfl
              simp only [isT,beq_self_eq_true,cond_true,List.cons_append,List.nil_append,mget,List.getElem?_cons_zero,gls_errs hj,gls_errs hc,Bool.and_self]
      · cases h
  · cases h
def errA : Nat → AV
  | 0 => .nili
  | k + 1 => .err (gls.getD k 0)
theorem errA_flat : ∀ k,(errA k).lt 0 = true
  | 0 =>rfl
  | _ + 1 =>rfl
theorem errA_nil (k : Nat) : AH.eqAV .iface true (errA k) .nili = some (True,k == 0):=by
  cases k <;> rfl
theorem kindT_nil (M : Nat → Option Blk) : kindT [.nili] M = some (.int .i64 0,[]):=rfl
theorem kindT_err {k : Nat} (M : Nat → Option Blk) (h : k ≤ 14) : kindT [errA k] M = some (.int .i64 (k : Int),[]):=by
  have : ∀ k ≤ 14,kindT [errA k] (fun _ =>none) = some (.int .i64 (k : Int),[]):=by
    intro k hk
    match k,hk with
    | 0,_ =>rfl
    | 1,_ =>rfl
    | 2,_ =>rfl
    | 3,_ =>rfl
    | 4,_ =>rfl
    | 5,_ =>rfl
    | 6,_ =>rfl
    | 7,_ =>rfl
    | 8,_ =>rfl
    | 9,_ =>rfl
    | 10,_ =>rfl
    | 11,_ =>rfl
    | 12,_ =>rfl
    | 13,_ =>rfl
    | 14,_ =>rfl
  rw [← this k h]
  cases k <;> rfl
end Go.Proofs.YthapdikdeoeplaaGreatDoor.Z7
end
section
set_option linter.unusedVariables false
set_option linter.unnecessarySimpa false
open Go AH
set_option linter.unusedSimpArgs false
set_option maxRecDepth 100000
namespace Go.Proofs.YthapdikdeoeplaaGreatDoor.Z7
structure Dk where
  L : List ByteArray
  away : Bool
  fuse : Int
  torn : Int
  writes : Int
def dkM (d : Dk) : Mem:=[some (.row false 5 [[.slc 1 0 d.L.length none,.bool d.away,.int .i64 d.fuse,.int .i64 d.torn,.int .i64 d.writes]]),some (.row false 1 (d.L.map strC))]
def dkL (p b n : Nat) (away : Bool) (fuse torn writes : Int) : Option (List ByteArray) → Option (Dk × List (Nat × Bool))
  | some L =>if L.length = n ∧ p ≠ b then some (⟨L,away,fuse,torn,writes⟩,[(p,false),(b,false)]) else none
  | none =>none
def dkB (p b n : Nat) (away : Bool) (fuse torn writes : Int) : Option Blk → Option (Dk × List (Nat × Bool))
  | some (.row false 1 es) =>dkL p b n away fuse torn writes (cStr.decL es)
  | _ =>none
def dkR (M : Nat → Option Blk) (p : Nat) : Option Blk → Option (Dk × List (Nat × Bool))
  | some (.row false 5 [[.slc b 0 n none,.bool away,.int .i64 fuse,.int .i64 torn,.int .i64 writes]]) =>dkB p b n away fuse torn writes (M b)
  | _ =>none
def dkD (M : Nat → Option Blk) : AV → Option (Dk × List (Nat × Bool))
  | .ptr p 0 0 =>dkR M p (M p)
  | _ =>none
theorem decStr_map (L : List ByteArray) : cStr.decL (L.map strC) = some L:=cStr.decL_map L
theorem dkD_inv {M : Nat → Option Blk} {v : AV} {d : Dk} {sel : List (Nat × Bool)} (h : dkD M v = some (d,sel)) :
    ∃ p b,v = .ptr p 0 0 ∧ sel = [(p,false),(b,false)] ∧ p ≠ b ∧ M p = some (.row false 5 [[.slc b 0 d.L.length none,.bool d.away,.int .i64 d.fuse,.int .i64 d.torn,.int .i64 d.writes]]) ∧ M b = some (.row false 1 (d.L.map strC)):=by
  unfold dkD at h
  split at h
  · rename_i p
    unfold dkR at h
    split at h
    · rename_i b n away fuse torn writes hp
      unfold dkB at h
      split at h
      · rename_i es hb
        unfold dkL at h
        split at h
        · rename_i L hL
          split at h
          · rename_i hc
            simp only [Option.some.injEq,Prod.mk.injEq] at h
            obtain ⟨rfl,rfl⟩:=h
            obtain ⟨rfl,hne⟩:=hc
            have:=cStr.decL_ok hL
            subst this
            exact ⟨p,b,rfl,rfl,hne,hp,hb⟩
          · cases h
        · cases h
      · cases h
    · cases h
  · cases h
theorem dkD_of {M : Nat → Option Blk} {p b : Nat} (d : Dk) (hne : p ≠ b) (hp : M p = some (.row false 5 [[.slc b 0 d.L.length none,.bool d.away,.int .i64 d.fuse,.int .i64 d.torn,.int .i64 d.writes]])) (hb : M b = some (.row false 1 (d.L.map strC))) :
    dkD M (.ptr p 0 0) = some (d,[(p,false),(b,false)]):=by
  simp only [dkD,hp,dkR,hb,dkB,decStr_map,dkL,hne,ne_eq,not_false_eq_true,and_self,if_true]
def dkO : AH.Obj Dk where
  dec:=dkD
  mem:=dkM
  self:=fun _ => .ptr 0 0 0
  ok:=by
    intro M v d sel h
    obtain ⟨p,b,rfl,rfl,hne,hp,hb⟩:=dkD_inv h
    have h1 : (p == b) = false:=by simpa using hne
    have h2 : (b == p) = false:=by simpa using Ne.symm hne
    refine ⟨⟨?_,?_⟩,?_,?_,?_⟩
    · simp [selF,hp,hb,AV.insB,AV.inB,AH.isIn]
      exact fun x _ =>flatE_in _ x
    · simp [AH.distinct,AH.isIn,h2]
    · simp only [subF,hp,hb,Option.map_some,Blk.ren,Blk.asRo,List.map_cons,List.map_nil,AV.rens,AV.ren,AH.posOf,beq_self_eq_true,h1,cond_true,cond_false,flat_rens,dkM,Nat.zero_add]
    · simp [AV.inB,AH.isIn]
    · simp [AV.ren,AH.posOf]
  loc:=by
    intro M v d sel h M' hM'
    obtain ⟨p,b,rfl,rfl,hne,hp,hb⟩:=dkD_inv h
    exact dkD_of d hne ((hM' p (by simp)).trans hp) ((hM' b (by simp)).trans hb)
theorem dkO_dec {M : Nat → Option Blk} {p : Nat} : dkO.dec M (.ptr p 0 0) = dkR M p (M p):=rfl
theorem dkR_eq {M : Nat → Option Blk} {p b n : Nat} {away : Bool} {fuse torn writes : Int} : dkR M p (some (.row false 5 [[.slc b 0 n none,.bool away,.int .i64 fuse,.int .i64 torn,.int .i64 writes]])) = dkB p b n away fuse torn writes (M b):=rfl
theorem dkB_eq {p b : Nat} {away : Bool} {fuse torn writes : Int} {L : List ByteArray} (hne : p ≠ b) : dkB p b L.length away fuse torn writes (some (.row false 1 (L.map strC))) = some (⟨L,away,fuse,torn,writes⟩,[(p,false),(b,false)]):=by
  simp only [dkB,decStr_map,dkL,hne,ne_eq,not_false_eq_true,and_self,if_true]
theorem Dk.eta (d : Dk) : (⟨d.L,d.away,d.fuse,d.torn,d.writes⟩ : Dk) = d:=rfl
def chk (d : Dk) (at_ : Int) : Nat:=bif decide (at_ < 0) || decide (at_ ≥ (d.L.length : Int)) then 1 else bif d.away then 14 else 0
theorem errA1 : errA 1 = .err 1:=rfl
theorem errA2 : errA 2 = .err 0:=rfl
theorem errA14 : errA 14 = .err 13:=rfl
theorem errA0 : errA 0 = .nili:=rfl
theorem okZ0 : CtxOK S0 (ctxU S0 [] []):=ctxU_ok trivial trivial mixed
set_option maxRecDepth 100000 in
theorem check_ok (d : Dk) (at_ : Int) : CallA1 S0 70 [.ptr 0 0 0,.int .i64 at_] (dkM d) fun r m =>r = errA (chk d at_) ∧ m = dkM d:=by
  refine fun_sound okZ0 Tryz.func70 c70 ?_
  unfold wpF F70
  cases h1 : decide (at_ < 0)
  · cases h2 : decide (at_ ≥ (d.L.length : Int))
    · cases h3 : d.away
      all_goals
        simp only [AH.SD,AH.SE,AOp.call?,AOp.next?,bstep,AV.cells,unAV,binAV,retQ,retV,AH.sliceElems,AH.bytesOf,AH.strOp,AH.bound,AH.missQ,AH.minmaxAV,AH.readOf,AH.effOf,simprocAttr,dkM,h1,h2,h3,chk,Bool.or_self,errA0,errA14]
    · simp only [AH.SD,AH.SE,AOp.call?,AOp.next?,bstep,AV.cells,unAV,binAV,retQ,retV,AH.sliceElems,AH.bytesOf,AH.strOp,AH.bound,AH.missQ,AH.minmaxAV,AH.readOf,AH.effOf,simprocAttr,dkM,h1,h2,chk,Bool.or_true,errA1]
  · simp only [AH.SD,AH.SE,AOp.call?,AOp.next?,bstep,AV.cells,unAV,binAV,retQ,retV,AH.sliceElems,AH.bytesOf,AH.strOp,AH.bound,AH.missQ,AH.minmaxAV,AH.readOf,AH.effOf,simprocAttr,dkM,h1,chk,Bool.true_or,errA1]
set_option maxRecDepth 100000 in
theorem check_nil (at_ : Int) : Pure S0 70 [.nilp,.int .i64 at_] (errA 2):=by
  refine fun_sound okZ0 Tryz.func70 c70 ?_
  unfold wpF F70
  simp only [AH.SD,AH.SE,AOp.call?,AOp.next?,bstep,AV.cells,unAV,binAV,retQ,retV,AH.sliceElems,AH.bytesOf,AH.strOp,AH.bound,AH.missQ,AH.minmaxAV,AH.readOf,AH.effOf,simprocAttr,errA2]
def checkT : RT:=rtElse (cC aNil (cC (aI .i64) c0)) (fun _ =>errA 2) (rtO dkO (cC (aI .i64) c0) fun d x =>some (errA (chk d x.1)))
theorem checkT_ok : ReadF S0 70 checkT:=rtElse_ok (fun x =>check_nil x.2.1) (fun _ =>rfl) (rtO_ok fun d x v h =>by
  simp only [Option.some.injEq] at h; subst h
  exact ⟨errA_flat _,check_ok d x.1⟩)
theorem checkT_p {p : Nat} {at_ : Int} {M : Nat → Option Blk} : checkT [.ptr p 0 0,.int .i64 at_] M = rtO2 (fun d (x : Int × Unit) =>some (errA (chk d x.1))) (dkR M p (M p)) (some (at_,())):=by
  simp only [checkT,rtElse_eq,rtO_eq,cC_dec,aNil_ptr,aI_dec,c0_dec,pairO_none,pairO_some,Option.map_none,elseO_none,dkO_dec]
theorem checkT_n {at_ : Int} {M : Nat → Option Blk} : checkT [.nilp,.int .i64 at_] M = some (errA 2,[]):=by
  simp only [checkT,rtElse_eq,cC_dec,aNil_dec,aI_dec,c0_dec,pairO_some,Option.map_some,elseO_some]
set_option maxRecDepth 100000 in
theorem len_ok (d : Dk) : CallA1 S0 40 [.ptr 0 0 0] (dkM d) fun r m =>r = .int .i64 d.L.length ∧ m = dkM d:=by
  refine fun_sound okZ0 Tryz.func40 c40 ?_
  unfold wpF F40
  simp only [AH.SD,AH.SE,AOp.call?,AOp.next?,bstep,AV.cells,unAV,binAV,retQ,retV,AH.sliceElems,AH.bytesOf,AH.strOp,AH.bound,AH.missQ,AH.minmaxAV,AH.readOf,AH.effOf,simprocAttr,dkM]
set_option maxRecDepth 100000 in
theorem len_nil : Pure S0 40 [.nilp] (.int .i64 0):=by
  refine fun_sound okZ0 Tryz.func40 c40 ?_
  unfold wpF F40
  simp only [AH.SD,AH.SE,AOp.call?,AOp.next?,bstep,AV.cells,unAV,binAV,retQ,retV,AH.sliceElems,AH.bytesOf,AH.strOp,AH.bound,AH.missQ,AH.minmaxAV,AH.readOf,AH.effOf,simprocAttr]
def lenT : RT:=rtElse (cC aNil c0) (fun _ => .int .i64 0) (rtO dkO c0 fun d _ =>some (.int .i64 d.L.length))
theorem lenT_ok : ReadF S0 40 lenT:=rtElse_ok (fun _ =>len_nil) (fun _ =>rfl) (rtO_ok fun d x v h =>by
  simp only [Option.some.injEq] at h; subst h
  exact ⟨rfl,len_ok d⟩)
theorem lenT_p {p : Nat} {M : Nat → Option Blk} : lenT [.ptr p 0 0] M = rtO2 (fun (d : Dk) (_ : Unit) =>some (.int .i64 d.L.length)) (dkR M p (M p)) (some ()):=by
  simp only [lenT,rtElse_eq,rtO_eq,cC_dec,aNil_ptr,c0_dec,pairO_none,Option.map_none,elseO_none,dkO_dec]
set_option maxRecDepth 100000 in
theorem isOn_ok (d : Dk) : CallA1 S0 30 [.ptr 0 0 0] (dkM d) fun r m =>r = .bool !d.away ∧ m = dkM d:=by
  refine fun_sound okZ0 Tryz.func30 c30 ?_
  unfold wpF F30
  simp only [AH.SD,AH.SE,AOp.call?,AOp.next?,bstep,AV.cells,unAV,binAV,retQ,retV,AH.sliceElems,AH.bytesOf,AH.strOp,AH.bound,AH.missQ,AH.minmaxAV,AH.readOf,AH.effOf,simprocAttr,dkM]
set_option maxRecDepth 100000 in
theorem isOn_nil : Pure S0 30 [.nilp] (.bool false):=by
  refine fun_sound okZ0 Tryz.func30 c30 ?_
  unfold wpF F30
  simp only [AH.SD,AH.SE,AOp.call?,AOp.next?,bstep,AV.cells,unAV,binAV,retQ,retV,AH.sliceElems,AH.bytesOf,AH.strOp,AH.bound,AH.missQ,AH.minmaxAV,AH.readOf,AH.effOf,simprocAttr]
def isOnT : RT:=rtElse (cC aNil c0) (fun _ => .bool false) (rtO dkO c0 fun d _ =>some (.bool !d.away))
theorem isOnT_ok : ReadF S0 30 isOnT:=rtElse_ok (fun _ =>isOn_nil) (fun _ =>rfl) (rtO_ok fun d x v h =>by
  simp only [Option.some.injEq] at h; subst h
  exact ⟨rfl,isOn_ok d⟩)
theorem isOnT_p {p : Nat} {M : Nat → Option Blk} : isOnT [.ptr p 0 0] M = rtO2 (fun (d : Dk) (_ : Unit) =>some (.bool !d.away)) (dkR M p (M p)) (some ()):=by
  simp only [isOnT,rtElse_eq,rtO_eq,cC_dec,aNil_ptr,c0_dec,pairO_none,Option.map_none,elseO_none,dkO_dec]
def rdS (d : Dk) (at_ : Int) : ByteArray:=bif chk d at_ == 0 then d.L.getD at_.toNat ⟨#[]⟩ else ⟨#[]⟩
def drdA (d : Dk) (at_ : Int) : AV:=.tup [.str (rdS d at_),errA (chk d at_)]
theorem okChk : CtxOK S0 (ctxU S0 [(70,checkT)] []):=ctxU_ok ⟨checkT_ok,trivial⟩ trivial mixed
theorem chk_in {d : Dk} {at_ : Int} (h : chk d at_ = 0) : ∃ i : Nat,at_ = i ∧ i < d.L.length ∧ d.away = false:=by
  unfold chk at h
  cases h1 : decide (at_ < 0) || decide (at_ ≥ (d.L.length : Int)) with
  | true =>rw [h1] at h; cases h
  | false =>
    rw [h1,cond_false] at h
    simp only [Bool.or_eq_false_iff,decide_eq_false_iff_not] at h1
    obtain ⟨i,rfl⟩:=Int.eq_ofNat_of_zero_le (by omega : 0 ≤ at_)
    refine ⟨i,rfl,by omega,?_⟩
    cases ha : d.away with
    | true =>rw [ha] at h; cases h
    | false =>rfl
theorem chk_cases (d : Dk) (at_ : Int) : chk d at_ = 0 ∨ ∃ k,chk d at_ = k + 1 ∧ k + 1 ≤ 14:=by
  unfold chk
  cases decide (at_ < 0) || decide (at_ ≥ (d.L.length : Int))
  · cases d.away
    · exact .inl rfl
    · exact .inr ⟨13,rfl,by omega⟩
  · exact .inr ⟨0,rfl,by omega⟩
set_option maxRecDepth 100000 in
theorem dread_ok (d : Dk) (at_ : Int) : CallA1 S0 59 [.ptr 0 0 0,.int .i64 at_] (dkM d) fun r m =>r = drdA d at_ ∧ m = dkM d:=by
  refine fun_sound okChk Tryz.func59 c59 ?_
  unfold wpF F59
  simp only [AH.SD,AH.SE,AOp.call?,AOp.next?,bstep,AV.cells,unAV,binAV,retQ,retV,AH.sliceElems,AH.bytesOf,AH.strOp,AH.bound,AH.missQ,AH.minmaxAV,AH.readOf,AH.effOf,simprocAttr,AH.SP,AH.PD,AV.inB,vstep,vw,shift,newOnes,rowsM,blkIn,rwB,@flat_lts,AV.lt,AV.lts,Nat.sub_self,AH.SO,dkM,checkT_p,dkR_eq,dkB_eq,Dk.eta,ne_eq,Nat.reduceEqDiff,Nat.zero_ne_one,not_false_eq_true]
  rcases chk_cases d at_ with h | ⟨k,h,_⟩
  · obtain ⟨i,rfl,hi,ha⟩:=chk_in h
    have hg : d.L.getD i ⟨#[]⟩ = d.L[i]:=by rw [List.getD_eq_getElem?_getD,List.getElem?_eq_getElem hi]; rfl
    simp only [AH.SD,AH.SE,AOp.call?,AOp.next?,bstep,AV.cells,unAV,binAV,retQ,retV,AH.sliceElems,AH.bytesOf,AH.strOp,AH.bound,AH.missQ,AH.minmaxAV,AH.readOf,AH.effOf,simprocAttr,h,errA_nil,getD_enc,hi,strC_eq,drdA,rdS,hg,errA0,Int.toNat_natCast]
    repeat (refine ⟨by first | rfl | decide | omega | (simp only [List.length_map,List.length_set,and_true]; omega),?_⟩)
    trivial
  · simp only [AH.SD,AH.SE,AOp.call?,AOp.next?,bstep,AV.cells,unAV,binAV,retQ,retV,AH.sliceElems,AH.bytesOf,AH.strOp,AH.bound,AH.missQ,AH.minmaxAV,AH.readOf,AH.effOf,simprocAttr,h,errA_nil,drdA,rdS,Nat.add_one_ne_zero]
end Go.Proofs.YthapdikdeoeplaaGreatDoor.Z7
end
section
set_option linter.unusedVariables false
set_option linter.unnecessarySimpa false
open Go AH
set_option linter.unusedSimpArgs false
set_option maxRecDepth 100000
namespace Go.Proofs.YthapdikdeoeplaaGreatDoor.Z7
def drdT : RT:=rtElse (cC aNil (cC (aI .i64) c0)) (fun _ => .tup [.str ⟨#[]⟩,errA 2]) (rtO dkO (cC (aI .i64) c0) fun d x =>some (drdA d x.1))
set_option maxRecDepth 100000 in
theorem read_nil (at_ : Int) : Pure S0 59 [.nilp,.int .i64 at_] (.tup [.str ⟨#[]⟩,errA 2]):=by
  refine fun_sound okChk Tryz.func59 c59 ?_
  unfold wpF F59
  simp only [AH.SD,AH.SE,AOp.call?,AOp.next?,bstep,AV.cells,unAV,binAV,retQ,retV,AH.sliceElems,AH.bytesOf,AH.strOp,AH.bound,AH.missQ,AH.minmaxAV,AH.readOf,AH.effOf,simprocAttr,checkT_n,errA_nil]
theorem drdA_flat (d : Dk) (at_ : Int) : (drdA d at_).lt 0 = true:=by
  simp only [drdA,AV.lt,AV.lts,errA_flat,Bool.and_self]
theorem drdT_ok : ReadF S0 59 drdT:=rtElse_ok (fun x =>read_nil x.2.1) (fun _ =>rfl) (rtO_ok fun d x v h =>by
  simp only [Option.some.injEq] at h; subst h
  exact ⟨drdA_flat _ _,dread_ok d x.1⟩)
theorem drdT_p {p : Nat} {at_ : Int} {M : Nat → Option Blk} : drdT [.ptr p 0 0,.int .i64 at_] M = rtO2 (fun d (x : Int × Unit) =>some (drdA d x.1)) (dkR M p (M p)) (some (at_,())):=by
  simp only [drdT,rtElse_eq,rtO_eq,cC_dec,aNil_ptr,aI_dec,c0_dec,pairO_none,pairO_some,Option.map_none,elseO_none,dkO_dec]
def maxI (x y : Int) : Int:=if y > x then y else x
def minI (x y : Int) : Int:=if y < x then y else x
def wrD (d : Dk) (at_ : Int) (s : ByteArray) : Nat × Dk :=
  if s.size ≠ 64 then (1,d) else
  if chk d at_ ≠ 0 then (chk d at_,d) else
  if d.fuse = 0 then (14,{ d with L:=d.L.set at_.toNat (s.extract 0 d.torn.toNat ++ (d.L.getD at_.toNat ⟨#[]⟩).extract d.torn.toNat 64),away:=true }) else
  (0,{ d with L:=d.L.set at_.toNat s,fuse:=maxI (IntKind.i64.wrap (d.fuse - 1)) (-1),writes:=IntKind.i64.wrap (d.writes + 1) })
def Dk.ok (d : Dk) : Prop:=(∀ b ∈ d.L,b.size = 64) ∧ 0 ≤ d.torn ∧ d.torn ≤ 64 ∧ d.L.length ≤ 4096
theorem set_strC (L : List ByteArray) (i : Nat) (s : ByteArray) : (L.map strC).set i [.str s] = (L.set i s).map strC:=by rw [List.map_set]; rfl
set_option maxRecDepth 100000 in
theorem write_ok (d : Dk) (hd : d.ok) (at_ : Int) (s : ByteArray) : CallA1 S0 52 [.ptr 0 0 0,.int .i64 at_,.str s] (dkM d) fun r m =>r = errA (wrD d at_ s).1 ∧ m = dkM (wrD d at_ s).2:=by
  refine fun_sound okChk Tryz.func52 c52 ?_
  unfold wpF F52
  by_cases hs : s.size = 64
  · have hs1 : ((s.size : Int) != 64) = false:=by rw [hs]; rfl
    have hs2 : ¬ (s.size ≠ 64):=fun h =>h hs
    simp only [AH.SD,AH.SE,AOp.call?,AOp.next?,bstep,AV.cells,unAV,binAV,retQ,retV,AH.sliceElems,AH.bytesOf,AH.strOp,AH.bound,AH.missQ,AH.minmaxAV,AH.readOf,AH.effOf,simprocAttr,AH.SP,AH.PD,AV.inB,vstep,vw,shift,newOnes,rowsM,blkIn,rwB,@flat_lts,AV.lt,AV.lts,Nat.sub_self,AH.SO,dkM,hs1,checkT_p,dkR_eq,dkB_eq,Dk.eta,ne_eq,Nat.reduceEqDiff,Nat.zero_ne_one,not_false_eq_true]
    rcases chk_cases d at_ with h | ⟨k,h,_⟩
    · obtain ⟨i,rfl,hi,ha⟩:=chk_in h
      have hg : d.L.getD i ⟨#[]⟩ = d.L[i]:=by rw [List.getD_eq_getElem?_getD,List.getElem?_eq_getElem hi]; rfl
      have hz : d.L[i].size = 64:=hd.1 _ (List.getElem_mem hi)
      obtain ⟨q,hq⟩:=Int.eq_ofNat_of_zero_le hd.2.1
      have hq2:=hd.2.2.1
      have hh : ¬ (chk d (i : Int) ≠ 0):=fun z =>z h
      by_cases hf : d.fuse = 0
      · have hf1 : ((0 : Int) == 0) = true:=rfl
        have e : wrD d (i : Int) s = (14,{ d with L:=d.L.set i (s.extract 0 q ++ d.L[i].extract q 64),away:=true }):=by
          simp only [wrD,hs2,hh,hf,hq,hg,Int.toNat_natCast,if_true,if_false]
        simp only [AH.SD,AH.SE,AOp.call?,AOp.next?,bstep,AV.cells,unAV,binAV,retQ,retV,AH.sliceElems,AH.bytesOf,AH.strOp,AH.bound,AH.missQ,AH.minmaxAV,AH.readOf,AH.effOf,simprocAttr,h,errA_nil,hf,hf1,getD_enc,hi,strC_eq,hq,Int.toNat_natCast,hs,hz,e,errA14]
        repeat (refine ⟨by first | rfl | decide | omega | (simp only [List.length_map,List.length_set,and_true]; omega),?_⟩)
        have e1 : ((s.extract 0 q).size + (d.L[i].extract q 64).size : Nat) = 64:=by
          rw [ByteArray.size_extract,ByteArray.size_extract,hz,hs]; omega
        simp only [AH.SD,AH.SE,AOp.call?,AOp.next?,bstep,AV.cells,unAV,binAV,retQ,retV,AH.sliceElems,AH.bytesOf,AH.strOp,AH.bound,AH.missQ,AH.minmaxAV,AH.readOf,AH.effOf,simprocAttr,e1,set_strC,List.length_set,hq]
        repeat (refine ⟨by first | rfl | decide | omega | (simp only [List.length_map,List.length_set,and_true]; omega),?_⟩)
        trivial
      · have hf1 : (d.fuse == 0) = false:=by simpa using hf
        have e : wrD d (i : Int) s = (0,{ d with L:=d.L.set i s,fuse:=if -1 > IntKind.i64.wrap (d.fuse - 1) then -1 else IntKind.i64.wrap (d.fuse - 1),writes:=IntKind.i64.wrap (d.writes + 1) }):=by
          simp only [wrD,hs2,hh,hf,Int.toNat_natCast,if_true,if_false,maxI]
        simp only [AH.SD,AH.SE,AOp.call?,AOp.next?,bstep,AV.cells,unAV,binAV,retQ,retV,AH.sliceElems,AH.bytesOf,AH.strOp,AH.bound,AH.missQ,AH.minmaxAV,AH.readOf,AH.effOf,simprocAttr,h,errA_nil,hf1,getD_enc,hi,Int.toNat_natCast,strC_eq,e,set_strC,errA0,List.length_set]
        repeat (refine ⟨by first | rfl | decide | omega | (simp only [List.length_map,List.length_set,and_true]; omega),?_⟩)
        try trivial
    · have hh : chk d at_ ≠ 0:=by omega
      have e : wrD d at_ s = (chk d at_,d):=by simp only [wrD,hs2,hh,ne_eq,not_false_eq_true,if_true,if_false]
      simp only [AH.SD,AH.SE,AOp.call?,AOp.next?,bstep,AV.cells,unAV,binAV,retQ,retV,AH.sliceElems,AH.bytesOf,AH.strOp,AH.bound,AH.missQ,AH.minmaxAV,AH.readOf,AH.effOf,simprocAttr,h,errA_nil,e]
  · have hs1 : ((s.size : Int) != 64) = true:=by
      have : (s.size : Int) ≠ 64:=by omega
      simpa using this
    have e : wrD d at_ s = (1,d):=by simp only [wrD,hs,ne_eq,not_false_eq_true,if_true]
    simp only [AH.SD,AH.SE,AOp.call?,AOp.next?,bstep,AV.cells,unAV,binAV,retQ,retV,AH.sliceElems,AH.bytesOf,AH.strOp,AH.bound,AH.missQ,AH.minmaxAV,AH.readOf,AH.effOf,simprocAttr,dkM,hs1,e,errA1]
theorem getD_mem {α : Type} {l : List α} {i : Nat} {x : α} (h : i < l.length) : l.getD i x ∈ l:=by
  rw [List.getD_eq_getElem?_getD,List.getElem?_eq_getElem h]; exact List.getElem_mem h
theorem wr_ok {d : Dk} (hd : d.ok) (at_ : Int) (s : ByteArray) : (wrD d at_ s).2.ok:=by
  unfold wrD
  split
  · exact hd
  · rename_i hs
    split
    · exact hd
    · rename_i hc
      obtain ⟨i,rfl,hi,_⟩:=chk_in (Decidable.not_not.1 hc)
      have hs' : s.size = 64:=Decidable.not_not.1 hs
      split
      · refine ⟨fun b hb => ?_,hd.2.1,hd.2.2.1,by simpa using hd.2.2.2⟩
        rcases List.mem_or_eq_of_mem_set hb with h | rfl
        · exact hd.1 b h
        · have hz : (d.L.getD ((i : Int)).toNat ⟨#[]⟩).size = 64:=hd.1 _ (getD_mem (by simpa using hi))
          have h1:=hd.2.1
          have h2:=hd.2.2.1
          rw [ByteArray.size_append,ByteArray.size_extract,ByteArray.size_extract,hz,hs']; omega
      · refine ⟨fun b hb => ?_,hd.2.1,hd.2.2.1,by simpa using hd.2.2.2⟩
        rcases List.mem_or_eq_of_mem_set hb with h | rfl
        · exact hd.1 b h
        · exact hs'
theorem wr_len (d : Dk) (at_ : Int) (s : ByteArray) : (wrD d at_ s).2.L.length = d.L.length:=by
  unfold wrD
  split
  · rfl
  · split
    · rfl
    · split <;> simp
instance (d : Dk) : Decidable d.ok:=by unfold Dk.ok; infer_instance
def writeT : ET:=etO dkO (cC (aI .i64) (cC aS c0)) fun d x =>if d.ok then some (errA (wrD d x.1 x.2.1).1,dkM (wrD d x.1 x.2.1).2) else none
theorem writeT_ok : EffF S0 52 writeT:=etO_ok fun d x v m' h =>by
  split at h
  · rename_i hd
    simp only [Option.some.injEq,Prod.mk.injEq] at h
    obtain ⟨rfl,rfl⟩:=h
    exact ⟨⟨Nat.le_refl 2,rfl⟩,write_ok d hd x.1 x.2.1⟩
  · cases h
theorem writeT_p {p n : Nat} {at_ : Int} {s : ByteArray} {M : Nat → Option Blk} : writeT [.ptr p 0 0,.int .i64 at_,.str s] M n = etO2 n (fun d (x : Int × ByteArray × Unit) =>if d.ok then some (errA (wrD d x.1 x.2.1).1,dkM (wrD d x.1 x.2.1).2) else none) (dkR M p (M p)) (some (at_,s,())):=by
  simp only [writeT,etO_eq,cC_dec,aI_dec,aS_dec,c0_dec,pairO_some,dkO_dec]
set_option maxRecDepth 100000 in
theorem write_nil (at_ : Int) (s : ByteArray) : Pure S0 52 [.nilp,.int .i64 at_,.str s] (errA 2):=by
  refine fun_sound okChk Tryz.func52 c52 ?_
  unfold wpF F52
  simp only [AH.SD,AH.SE,AOp.call?,AOp.next?,bstep,AV.cells,unAV,binAV,retQ,retV,AH.sliceElems,AH.bytesOf,AH.strOp,AH.bound,AH.missQ,AH.minmaxAV,AH.readOf,AH.effOf,simprocAttr,checkT_n,errA_nil]
def writeNT : RT:=rtP (cC aNil (cC (aI .i64) (cC aS c0))) fun _ =>errA 2
theorem writeNT_ok : ReadF S0 52 writeNT:=rtP_ok (fun x =>write_nil x.2.1 x.2.2.1) fun _ =>rfl
theorem writeNT_p {p : Nat} {at_ : Int} {s : ByteArray} {M : Nat → Option Blk} : writeNT [.ptr p 0 0,.int .i64 at_,.str s] M = none:=by
  simp only [writeNT,rtP,cC_dec,aNil_ptr,pairO_none,Option.map_none]
def fuD (d : Dk) (n torn : Int) : Dk:=bif d.away then d else { d with fuse:=maxI n (-1),torn:=minI (maxI torn 0) 64 }
set_option maxRecDepth 100000 in
theorem fuse_ok (d : Dk) (n torn : Int) : CallA1 S0 26 [.ptr 0 0 0,.int .i64 n,.int .i64 torn] (dkM d) fun r m =>r = .tup [] ∧ m = dkM (fuD d n torn):=by
  refine fun_sound okZ0 Tryz.func26 c26 ?_
  unfold wpF F26
  cases h : d.away
  · have e : fuD d n torn = { d with away:=false,fuse:=if -1 > n then -1 else n,torn:=if 64 < (if 0 > torn then 0 else torn) then 64 else if 0 > torn then 0 else torn }:=by
      rw [fuD,h]; rfl
    simp only [AH.SD,AH.SE,AOp.call?,AOp.next?,bstep,AV.cells,unAV,binAV,retQ,retV,AH.sliceElems,AH.bytesOf,AH.strOp,AH.bound,AH.missQ,AH.minmaxAV,AH.readOf,AH.effOf,simprocAttr,dkM,h,e]
    try trivial
  · have e : fuD d n torn = d:=by simp only [fuD,h,cond_true]
    simp only [AH.SD,AH.SE,AOp.call?,AOp.next?,bstep,AV.cells,unAV,binAV,retQ,retV,AH.sliceElems,AH.bytesOf,AH.strOp,AH.bound,AH.missQ,AH.minmaxAV,AH.readOf,AH.effOf,simprocAttr,dkM,h,e]
set_option maxRecDepth 100000 in
theorem fuse_nil (n torn : Int) : Pure S0 26 [.nilp,.int .i64 n,.int .i64 torn] (.tup []):=by
  refine fun_sound okZ0 Tryz.func26 c26 ?_
  unfold wpF F26
  simp only [AH.SD,AH.SE,AOp.call?,AOp.next?,bstep,AV.cells,unAV,binAV,retQ,retV,AH.sliceElems,AH.bytesOf,AH.strOp,AH.bound,AH.missQ,AH.minmaxAV,AH.readOf,AH.effOf,simprocAttr]
def fuseT : ET:=etO dkO (cC (aI .i64) (cC (aI .i64) c0)) fun d x =>some (.tup [],dkM (fuD d x.1 x.2.1))
theorem fuseT_ok : EffF S0 26 fuseT:=etO_ok fun d x v m' h =>by
  simp only [Option.some.injEq,Prod.mk.injEq] at h
  obtain ⟨rfl,rfl⟩:=h
  exact ⟨⟨Nat.le_refl 2,rfl⟩,fuse_ok d x.1 x.2.1⟩
theorem fuseT_p {p n : Nat} {k torn : Int} {M : Nat → Option Blk} : fuseT [.ptr p 0 0,.int .i64 k,.int .i64 torn] M n = etO2 n (fun d (x : Int × Int × Unit) =>some (.tup [],dkM (fuD d x.1 x.2.1))) (dkR M p (M p)) (some (k,torn,())):=by
  simp only [fuseT,etO_eq,cC_dec,aI_dec,c0_dec,pairO_some,dkO_dec]
def fuseNT : RT:=rtP (cC aNil (cC (aI .i64) (cC (aI .i64) c0))) fun _ => .tup []
theorem fuseNT_ok : ReadF S0 26 fuseNT:=rtP_ok (fun x =>fuse_nil x.2.1 x.2.2.1) fun _ =>rfl
theorem fuseNT_p {p : Nat} {k torn : Int} {M : Nat → Option Blk} : fuseNT [.ptr p 0 0,.int .i64 k,.int .i64 torn] M = none:=by
  simp only [fuseNT,rtP,cC_dec,aNil_ptr,pairO_none,Option.map_none]
def coD (d : Dk) : Dk:=bif d.away then { d with away:=false,fuse:=-1 } else d
set_option maxRecDepth 100000 in
theorem come_ok (d : Dk) : CallA1 S0 31 [.ptr 0 0 0] (dkM d) fun r m =>r = .tup [] ∧ m = dkM (coD d):=by
  refine fun_sound okZ0 Tryz.func31 c31 ?_
  unfold wpF F31
  cases h : d.away
  all_goals
    simp only [AH.SD,AH.SE,AOp.call?,AOp.next?,bstep,AV.cells,unAV,binAV,retQ,retV,AH.sliceElems,AH.bytesOf,AH.strOp,AH.bound,AH.missQ,AH.minmaxAV,AH.readOf,AH.effOf,simprocAttr,dkM,h,coD]
set_option maxRecDepth 100000 in
theorem come_nil : Pure S0 31 [.nilp] (.tup []):=by
  refine fun_sound okZ0 Tryz.func31 c31 ?_
  unfold wpF F31
  simp only [AH.SD,AH.SE,AOp.call?,AOp.next?,bstep,AV.cells,unAV,binAV,retQ,retV,AH.sliceElems,AH.bytesOf,AH.strOp,AH.bound,AH.missQ,AH.minmaxAV,AH.readOf,AH.effOf,simprocAttr]
def comeT : ET:=etO dkO c0 fun d _ =>some (.tup [],dkM (coD d))
theorem comeT_ok : EffF S0 31 comeT:=etO_ok fun d x v m' h =>by
  simp only [Option.some.injEq,Prod.mk.injEq] at h
  obtain ⟨rfl,rfl⟩:=h
  exact ⟨⟨Nat.le_refl 2,rfl⟩,come_ok d⟩
theorem comeT_p {p n : Nat} {M : Nat → Option Blk} : comeT [.ptr p 0 0] M n = etO2 n (fun (d : Dk) (_ : Unit) =>some (.tup [],dkM (coD d))) (dkR M p (M p)) (some ()):=by
  simp only [comeT,etO_eq,c0_dec,dkO_dec]
def comeNT : RT:=rtP (cC aNil c0) fun _ => .tup []
theorem comeNT_ok : ReadF S0 31 comeNT:=rtP_ok (fun _ =>come_nil) fun _ =>rfl
theorem comeNT_p {p : Nat} {M : Nat → Option Blk} : comeNT [.ptr p 0 0] M = none:=by
  simp only [comeNT,rtP,cC_dec,aNil_ptr,pairO_none,Option.map_none]
end Go.Proofs.YthapdikdeoeplaaGreatDoor.Z7
end
section
set_option linter.unusedVariables false
set_option linter.unnecessarySimpa false
open Go AH
set_option linter.unusedSimpArgs false
set_option maxRecDepth 100000
namespace Go.Proofs.YthapdikdeoeplaaGreatDoor.Z7
def blks (s : ByteArray) (k : Nat) : List ByteArray:=(List.range k).map fun i =>s.extract (64 * i) (64 * i + 64)
def nb (s : ByteArray) : Nat:=min (s.size / 64) 4096
def ofD (s : ByteArray) : Dk:=⟨blks s (nb s),false,-1,0,0⟩
theorem blks_len (s : ByteArray) (k : Nat) : (blks s k).length = k:=by simp [blks]
theorem blks_succ (s : ByteArray) (k : Nat) : blks s (k + 1) = blks s k ++ [s.extract (64 * k) (64 * k + 64)]:=by simp [blks,List.range_succ]
def ofSt (s : ByteArray) (i : Nat) : St:=⟨[(3,.ptr 0 0 0),(0,.str (s.extract (64 * i) s.size))],dkM ⟨blks s i,false,-1,0,0⟩⟩
set_option maxRecDepth 100000 in
theorem of_ok (s : ByteArray) : CallA1 S0 7 [.str s] [] fun r m =>r = .ptr 0 0 0 ∧ m = dkM (ofD s):=by
  refine CallA1.fin ?_
  refine fun_sound okZ0 Tryz.func7 c7 ?_
  unfold wpF F7
  have e0 : s.extract (64 * 0) s.size = s:=ByteArray.extract_zero_size
  simp only [AH.SD,AH.SE,AOp.call?,AOp.next?,bstep,AV.cells,unAV,binAV,retQ,retV,AH.sliceElems,AH.bytesOf,AH.strOp,AH.bound,AH.missQ,AH.minmaxAV,AH.readOf,AH.effOf,simprocAttr]
  refine loop_do [0] [3,0] [.cell 0 0 0 1] (α:=Nat) (fun i => 4096 - i) (ofSt s) (fun i =>i ≤ nb s) 0 (Nat.zero_le _) (by simp only [AH.SD,AH.SE,AOp.call?,AOp.next?,bstep,AV.cells,unAV,binAV,retQ,retV,AH.sliceElems,AH.bytesOf,AH.strOp,AH.bound,AH.missQ,AH.minmaxAV,AH.readOf,AH.effOf,simprocAttr,AH.SP,AH.PD,AV.inB,vstep,ofSt,dkM,e0,blks,List.range_zero]) ?_
  intro X i hi ih
  have hn : nb s ≤ s.size / 64 ∧ nb s ≤ 4096:=by unfold nb; omega
  have hsz : (s.extract (64 * i) s.size).size = s.size - 64 * i:=by rw [ByteArray.size_extract,Nat.min_self]
  simp only [AH.SD,AH.SE,AOp.call?,AOp.next?,bstep,AV.cells,unAV,binAV,retQ,retV,AH.sliceElems,AH.bytesOf,AH.strOp,AH.bound,AH.missQ,AH.minmaxAV,AH.readOf,AH.effOf,simprocAttr,ofSt,dkM,hsz,blks_len]
  by_cases h64 : 64 ≤ s.size - 64 * i
  · have h1 : decide (((s.size - 64 * i : Nat) : Int) ≥ 64) = true:=by simp; omega
    simp only [AH.SD,AH.SE,AOp.call?,AOp.next?,bstep,AV.cells,unAV,binAV,retQ,retV,AH.sliceElems,AH.bytesOf,AH.strOp,AH.bound,AH.missQ,AH.minmaxAV,AH.readOf,AH.effOf,simprocAttr,h1]
    refine ⟨fun hlt => ?_,fun hlt => ?_⟩
    · have hi2 : i < nb s:=by
        have : i < 4096:=by simp only [decide_eq_true_eq] at hlt; omega
        unfold nb; omega
      have done:=ih (i + 1) hi2 (by omega)
      simp only [ofSt,dkM,blks_succ,blks_len,List.map_append,List.map_cons,List.map_nil,List.length_append,List.length_cons,List.length_nil,Nat.zero_add,strC_eq] at done
      have e1 : (s.extract (64 * i) s.size).extract 0 64 = s.extract (64 * i) (64 * i + 64):=by
        rw [ByteArray.extract_extract,Nat.add_zero,show min (64 * i + 64) s.size = 64 * i + 64 by omega]
      have e2 : (s.extract (64 * i) s.size).extract 64 (s.size - 64 * i) = s.extract (64 * (i + 1)) s.size:=by
        rw [ByteArray.extract_extract,show min (64 * i + (s.size - 64 * i)) s.size = s.size by omega,Nat.mul_succ]
      have e3 : ((blks s i).map strC).take i = (blks s i).map strC:=List.take_of_length_le (by rw [List.length_map,blks_len]; exact Nat.le_refl _)
      simp only [AH.SD,AH.SE,AOp.call?,AOp.next?,bstep,AV.cells,unAV,binAV,retQ,retV,AH.sliceElems,AH.bytesOf,AH.strOp,AH.bound,AH.missQ,AH.minmaxAV,AH.readOf,AH.effOf,simprocAttr,hsz,e1,e3,List.length_map,blks_len]
      repeat (refine ⟨by first | rfl | decide | omega | (simp only [List.length_map,List.length_set,and_true]; omega),?_⟩)
      simp only [AH.SD,AH.SE,AOp.call?,AOp.next?,bstep,AV.cells,unAV,binAV,retQ,retV,AH.sliceElems,AH.bytesOf,AH.strOp,AH.bound,AH.missQ,AH.minmaxAV,AH.readOf,AH.effOf,simprocAttr,e2]
      refine gc_auto [0,3] [3,0] [] ?_
      simp only [AH.SD,AH.SE,AOp.call?,AOp.next?,bstep,AV.cells,unAV,binAV,retQ,retV,AH.sliceElems,AH.bytesOf,AH.strOp,AH.bound,AH.missQ,AH.minmaxAV,AH.readOf,AH.effOf,simprocAttr,AH.SP,AH.PD,AV.inB,vstep,blks_len]
      exact done
    · have : i = nb s:=by
        have : ¬ i < 4096:=by simp only [decide_eq_false_iff_not] at hlt; omega
        unfold nb at hi ⊢; omega
      subst this
      simp only [AH.SD,AH.SE,AOp.call?,AOp.next?,bstep,AV.cells,unAV,binAV,retQ,retV,AH.sliceElems,AH.bytesOf,AH.strOp,AH.bound,AH.missQ,AH.minmaxAV,AH.readOf,AH.effOf,simprocAttr]
      refine ⟨[0,1],[],?_⟩
      simp only [AH.SD,AH.SE,AOp.call?,AOp.next?,bstep,AV.cells,unAV,binAV,retQ,retV,AH.sliceElems,AH.bytesOf,AH.strOp,AH.bound,AH.missQ,AH.minmaxAV,AH.readOf,AH.effOf,simprocAttr,AH.SP,AH.PD,AV.inB,vstep,ofD,blks_len]
      try trivial
  · have h1 : decide (((s.size - 64 * i : Nat) : Int) ≥ 64) = false:=by simp; omega
    have : i = nb s:=by unfold nb at hi ⊢; omega
    subst this
    simp only [AH.SD,AH.SE,AOp.call?,AOp.next?,bstep,AV.cells,unAV,binAV,retQ,retV,AH.sliceElems,AH.bytesOf,AH.strOp,AH.bound,AH.missQ,AH.minmaxAV,AH.readOf,AH.effOf,simprocAttr,h1]
    refine ⟨[0,1],[],?_⟩
    simp only [AH.SD,AH.SE,AOp.call?,AOp.next?,bstep,AV.cells,unAV,binAV,retQ,retV,AH.sliceElems,AH.bytesOf,AH.strOp,AH.bound,AH.missQ,AH.minmaxAV,AH.readOf,AH.effOf,simprocAttr,AH.SP,AH.PD,AV.inB,vstep,ofD,blks_len]
    try trivial
def ofT : ET:=etN (cC aS c0) fun x =>some (.ptr 0 0 0,dkM (ofD x.1))
theorem ofT_ok : EffF S0 7 ofT:=etN_ok fun x v m' h =>by
  simp only [Option.some.injEq,Prod.mk.injEq] at h
  obtain ⟨rfl,rfl⟩:=h
  exact ⟨rfl,of_ok x.1⟩
theorem ofT_eq {s : ByteArray} {M : Nat → Option Blk} {n : Nat} : ofT [.str s] M n = some (effS [] n (.ptr 0 0 0) (dkM (ofD s)),2):=by
  simp only [ofT,etN_eq,cC_dec,aS_dec,c0_dec,pairO_some,Option.bind_some,useO_some]; rfl
def newN (n : Int) : Int:=minI (maxI n 0) 4096
def zeros (n : Int) : ByteArray:=repS ⟨#[0]⟩ (newN n * 64).toNat
def newD (n : Int) : Dk:=ofD (zeros n)
theorem newN_in (n : Int) : 0 ≤ newN n ∧ newN n ≤ 4096:=by
  unfold newN minI maxI
  split <;> split <;> omega
theorem okNew : CtxOK S0 (ctxE S0 [(55,repT)] [] [(7,ofT)]):=ctxE_ok ⟨repT_ok,trivial⟩ trivial ⟨ofT_ok,trivial⟩ mixed
set_option maxRecDepth 100000 in
theorem new_ok (n : Int) : CallA1 S0 24 [.int .i64 n] [] fun r m =>r = .ptr 0 0 0 ∧ m = dkM (newD n):=by
  refine fun_sound okNew Tryz.func24 c24 ?_
  unfold wpF F24
  obtain ⟨k,hk⟩:=Int.eq_ofNat_of_zero_le (newN_in n).1
  have hk2:=(newN_in n).2
  have e1 : (if 4096 < (if 0 > n then 0 else n) then 4096 else if 0 > n then 0 else n) = (k : Int):=hk
  have e2 : IntKind.i64.wrap ((k : Int) * 64) = ((k * 64 : Nat) : Int):=by rw [IntKind.wrap_i64]; omega
  have e3 : okRep ⟨#[0]⟩ ((k * 64 : Nat) : Int):=⟨by omega,by decide,by omega⟩
  have e4 : zeros n = repS ⟨#[0]⟩ (k * 64):=by
    unfold zeros
    rw [hk]; congr 1
  simp only [AH.SD,AH.SE,AOp.call?,AOp.next?,bstep,AV.cells,unAV,binAV,retQ,retV,AH.sliceElems,AH.bytesOf,AH.strOp,AH.bound,AH.missQ,AH.minmaxAV,AH.readOf,AH.effOf,simprocAttr,AH.SP,AH.PD,AV.inB,vstep,vw,shift,newOnes,rowsM,blkIn,rwB,@flat_lts,AV.lt,AV.lts,Nat.sub_self,AH.SO,e1,e2,repT_eq e3,ofT_eq,newD,e4,dkM,Option.map_some]
  try trivial
theorem newT_ok : EffF S0 24 (etN (cC (aI .i64) c0) fun x =>some (.ptr 0 0 0,dkM (newD x.1))):=etN_ok fun x v m' h =>by
  simp only [Option.some.injEq,Prod.mk.injEq] at h
  obtain ⟨rfl,rfl⟩:=h
  exact ⟨rfl,new_ok x.1⟩
def newT : ET:=etN (cC (aI .i64) c0) fun x =>some (.ptr 0 0 0,dkM (newD x.1))
theorem newT_eq {k : Int} {M : Nat → Option Blk} {n : Nat} : newT [.int .i64 k] M n = some (effS [] n (.ptr 0 0 0) (dkM (newD k)),2):=by
  simp only [newT,etN_eq,cC_dec,aI_dec,c0_dec,pairO_some,Option.bind_some,useO_some]; rfl
end Go.Proofs.YthapdikdeoeplaaGreatDoor.Z7
end
section
set_option linter.unusedVariables false
set_option linter.unnecessarySimpa false
open Go AH
set_option linter.unusedSimpArgs false
set_option maxRecDepth 100000
namespace Go.Proofs.YthapdikdeoeplaaGreatDoor.Z7
structure Lg where
  d : Dk
  f : Int
  t : Int
  b : Int
  a : Int
  R : List ByteArray
  down : Bool
def lgC (q r : Nat) (l : Lg) : List AV:=[.ptr q 0 0,.int .i64 l.f,.int .i64 l.t,.int .i64 l.b,.int .i64 l.a,.slc r 0 l.R.length none,.bool l.down]
def dkC (b : Nat) (d : Dk) : List AV:=[.slc b 0 d.L.length none,.bool d.away,.int .i64 d.fuse,.int .i64 d.torn,.int .i64 d.writes]
def lgM (l : Lg) : Mem:=[some (.row false 7 [[.ptr 1 0 0,.int .i64 l.f,.int .i64 l.t,.int .i64 l.b,.int .i64 l.a,.slc 3 0 l.R.length none,.bool l.down]]),
  some (.row false 5 [[.slc 2 0 l.d.L.length none,.bool l.d.away,.int .i64 l.d.fuse,.int .i64 l.d.torn,.int .i64 l.d.writes]]),some (.row false 1 (l.d.L.map strC)),some (.row false 1 (l.R.map strC))]
def ne4 (p q b r : Nat) : Bool:=!(p == q) && (!(p == b) && (!(p == r) && (!(q == b) && (!(q == r) && !(b == r)))))
def lgS (p n r : Nat) (f t b a : Int) (down : Bool) (R : List ByteArray) : Option (Dk × List (Nat × Bool)) → Option (Lg × List (Nat × Bool))
  | some (d,[(q,false),(k,false)]) =>if R.length = n ∧ ne4 p q k r = true then some (⟨d,f,t,b,a,R,down⟩,[(p,false),(q,false),(k,false),(r,false)]) else none
  | _ =>none
def lgT (p n r : Nat) (f t b a : Int) (down : Bool) (x : Option (Dk × List (Nat × Bool))) : Option (List ByteArray) → Option (Lg × List (Nat × Bool))
  | some R =>lgS p n r f t b a down R x
  | none =>none
def lgU (p n r : Nat) (f t b a : Int) (down : Bool) (x : Option (Dk × List (Nat × Bool))) : Option Blk → Option (Lg × List (Nat × Bool))
  | some (.row false 1 es) =>lgT p n r f t b a down x (cStr.decL es)
  | _ =>none
def lgR (M : Nat → Option Blk) (p : Nat) : Option Blk → Option (Lg × List (Nat × Bool))
  | some (.row false 7 [[.ptr q 0 0,.int .i64 f,.int .i64 t,.int .i64 b,.int .i64 a,.slc r 0 n none,.bool down]]) =>lgU p n r f t b a down (dkR M q (M q)) (M r)
  | _ =>none
def lgD (M : Nat → Option Blk) : AV → Option (Lg × List (Nat × Bool))
  | .ptr p 0 0 =>lgR M p (M p)
  | _ =>none
theorem ne4_iff {p q b r : Nat} : ne4 p q b r = true ↔ p ≠ q ∧ p ≠ b ∧ p ≠ r ∧ q ≠ b ∧ q ≠ r ∧ b ≠ r:=by
  simp [ne4]
theorem lgD_inv {M : Nat → Option Blk} {v : AV} {l : Lg} {sel : List (Nat × Bool)} (h : lgD M v = some (l,sel)) :
    ∃ p q b r,v = .ptr p 0 0 ∧ sel = [(p,false),(q,false),(b,false),(r,false)] ∧ ne4 p q b r = true ∧
      M p = some (.row false 7 [lgC q r l]) ∧ M q = some (.row false 5 [dkC b l.d]) ∧ M b = some (.row false 1 (l.d.L.map strC)) ∧ M r = some (.row false 1 (l.R.map strC)):=by
  unfold lgD at h
  split at h
  · rename_i p
    unfold lgR at h
    split at h
    · rename_i q f t b a r n down hp
      unfold lgU at h
      split at h
      · rename_i es hr
        unfold lgT at h
        split at h
        · rename_i R hR
          unfold lgS at h
          split at h
          · rename_i d q' k hd
            split at h
            · rename_i hc
              simp only [Option.some.injEq,Prod.mk.injEq] at h
              obtain ⟨rfl,rfl⟩:=h
              obtain ⟨rfl,hne⟩:=hc
              obtain ⟨p2,b2,e1,e2,e3,e4,e5⟩:=dkD_inv (M:=M) (v:=.ptr q 0 0) (d:=d) (sel:=[(q',false),(k,false)]) hd
              simp only [List.cons.injEq,Prod.mk.injEq,and_true] at e2
              obtain ⟨rfl,rfl⟩:=e2
              cases e1
              have:=cStr.decL_ok hR
              subst this
              exact ⟨p,_,_,r,rfl,rfl,hne,hp,e4,e5,hr⟩
            · cases h
          · cases h
        · cases h
      · cases h
    · cases h
  · cases h
theorem lgD_of {M : Nat → Option Blk} {p q b r : Nat} (l : Lg) (hne : ne4 p q b r = true) (hp : M p = some (.row false 7 [lgC q r l])) (hq : M q = some (.row false 5 [dkC b l.d])) (hb : M b = some (.row false 1 (l.d.L.map strC))) (hr : M r = some (.row false 1 (l.R.map strC))) :
    lgD M (.ptr p 0 0) = some (l,[(p,false),(q,false),(b,false),(r,false)]):=by
  have h:=ne4_iff.1 hne
  have hd : dkR M q (M q) = some (l.d,[(q,false),(b,false)]):=dkD_of l.d h.2.2.2.1 hq hb
  simp only [lgD,hp,lgC,lgR,hd,hr,lgU,decStr_map,lgT,lgS,hne,and_self,if_true]
def lgO : AH.Obj Lg where
  dec:=lgD
  mem:=lgM
  self:=fun _ => .ptr 0 0 0
  ok:=by
    intro M v l sel h
    obtain ⟨p,q,b,r,rfl,rfl,hne,hp,hq,hb,hr⟩:=lgD_inv h
    obtain ⟨n1,n2,n3,n4,n5,n6⟩:=ne4_iff.1 hne
    have h1 : (p == q) = false:=by simpa using n1
    have h2 : (p == b) = false:=by simpa using n2
    have h3 : (p == r) = false:=by simpa using n3
    have h4 : (q == b) = false:=by simpa using n4
    have h5 : (q == r) = false:=by simpa using n5
    have h6 : (b == r) = false:=by simpa using n6
    have g1 : (q == p) = false:=by simpa using n1.symm
    have g2 : (b == p) = false:=by simpa using n2.symm
    have g3 : (r == p) = false:=by simpa using n3.symm
    have g4 : (b == q) = false:=by simpa using n4.symm
    have g5 : (r == q) = false:=by simpa using n5.symm
    have g6 : (r == b) = false:=by simpa using n6.symm
    refine ⟨⟨?_,?_⟩,?_,?_,?_⟩
    · simp [selF,hp,hq,hb,hr,lgC,dkC,AV.insB,AV.inB,AH.isIn]
      exact ⟨fun x _ =>flatE_in _ x,fun x _ =>flatE_in _ x⟩
    · simp [AH.distinct,AH.isIn,h1,h2,h3,h4,h5,h6,g1,g2,g3,g4,g5,g6]
    · simp only [subF,hp,hq,hb,hr,lgC,dkC,Option.map_some,Blk.ren,Blk.asRo,List.map_cons,List.map_nil,AV.rens,AV.ren,AH.posOf,beq_self_eq_true,h1,h2,h3,h4,h5,h6,g1,g2,g3,g4,g5,g6,cond_true,cond_false,flat_rens,lgM,Nat.zero_add,Nat.reduceAdd]
    · simp [AV.inB,AH.isIn]
    · simp [AV.ren,AH.posOf]
  loc:=by
    intro M v l sel h M' hM'
    obtain ⟨p,q,b,r,rfl,rfl,hne,hp,hq,hb,hr⟩:=lgD_inv h
    exact lgD_of l hne ((hM' p (by simp)).trans hp) ((hM' q (by simp)).trans hq) ((hM' b (by simp)).trans hb) ((hM' r (by simp)).trans hr)
theorem lgO_dec {M : Nat → Option Blk} {p : Nat} : lgO.dec M (.ptr p 0 0) = lgR M p (M p):=rfl
theorem lgR_eq {M : Nat → Option Blk} {p q r n : Nat} {f t b a : Int} {down : Bool} : lgR M p (some (.row false 7 [[.ptr q 0 0,.int .i64 f,.int .i64 t,.int .i64 b,.int .i64 a,.slc r 0 n none,.bool down]])) = lgU p n r f t b a down (dkR M q (M q)) (M r):=rfl
theorem lgU_eq {p r q k : Nat} {f t b a : Int} {down : Bool} {d : Dk} {R : List ByteArray} : lgU p R.length r f t b a down (some (d,[(q,false),(k,false)])) (some (.row false 1 (R.map strC))) = if ne4 p q k r = true then some (⟨d,f,t,b,a,R,down⟩,[(p,false),(q,false),(k,false),(r,false)]) else none:=by
  simp only [lgU,decStr_map,lgT,lgS,true_and]
theorem Lg.eta (l : Lg) : (⟨l.d,l.f,l.t,l.b,l.a,l.R,l.down⟩ : Lg) = l:=rfl
end Go.Proofs.YthapdikdeoeplaaGreatDoor.Z7
end
section
set_option linter.unusedVariables false
set_option linter.unnecessarySimpa false
open Go AH
set_option linter.unusedSimpArgs false
namespace Go.Proofs.YthapdikdeoeplaaGreatDoor.Z7
theorem ex_left {a b : ByteArray} {i j : Nat} (h : j ≤ a.size) : (a ++ b).extract i j = a.extract i j:=by
  apply ByteArray.ext
  simp only [ByteArray.data_extract,ByteArray.data_append,Array.extract_append]
  have h' : j ≤ a.data.size:=h
  have : b.data.extract (i - a.data.size) (j - a.data.size) = #[]:=by
    rw [Array.extract_eq_empty_iff]; omega
  rw [this,Array.append_empty]
theorem ex_right {a b : ByteArray} {i j : Nat} (h : a.size ≤ i) : (a ++ b).extract i j = b.extract (i - a.size) (j - a.size):=by
  apply ByteArray.ext
  simp only [ByteArray.data_extract,ByteArray.data_append,Array.extract_append]
  have h' : a.data.size ≤ i:=h
  have : a.data.extract i j = #[]:=by
    rw [Array.extract_eq_empty_iff]; omega
  rw [this,Array.empty_append]
  rfl
theorem ex_all {a : ByteArray} {n : Nat} (h : n = a.size) : a.extract 0 n = a:=by rw [h]; exact ByteArray.extract_zero_size
theorem tl_self (a : ByteArray) : (a.toList == a.toList) = true:=beq_self_eq_true _
theorem byt_nat (n : Int) (i : Nat) : ((byt n i).toNat : Int) = n / 256 ^ i % 256:=by
  have h0 : 0 ≤ n / 256 ^ i % 256:=Int.emod_nonneg _ (by decide)
  have h1 : n / 256 ^ i % 256 < 256:=Int.emod_lt_of_pos _ (by decide)
  unfold byt
  rw [UInt8.toNat_ofNat_of_lt' (by show _ < 256; omega)]
  omega
theorem val_num4 {n : Int} (h0 : 0 ≤ n) (h1 : n < 4294967296) : valS (num4 n) = n:=by
  show val4 (byt n 0) (byt n 1) (byt n 2) (byt n 3) = n
  have e0:=byt_nat n 0
  have e1:=byt_nat n 1
  have e2:=byt_nat n 2
  have e3:=byt_nat n 3
  unfold val4
  simp only [Int.pow_zero,Int.ediv_one,show (256 : Int) ^ 1 = 256 from rfl,show (256 : Int) ^ 2 = 65536 from rfl,show (256 : Int) ^ 3 = 16777216 from rfl] at e0 e1 e2 e3
  omega
theorem val_num2 {n : Int} (h0 : 0 ≤ n) (h1 : n < 65536) : valS (num2 n) = n:=by
  show val2 (byt n 0) (byt n 1) = n
  have e0:=byt_nat n 0
  have e1:=byt_nat n 1
  unfold val2
  simp only [Int.pow_zero,Int.ediv_one,show (256 : Int) ^ 1 = 256 from rfl] at e0 e1
  omega
theorem u64_id {n : Int} (h0 : 0 ≤ n) (h1 : n < 4294967296) : IntKind.u64.wrap n = n:=by rw [IntKind.wrap_u64]; omega
theorem end_seq (a b c : Int) : (endS a b c).extract 0 4 = num4 (IntKind.u64.wrap a):=by
  rw [endS,ByteArray.append_assoc,ex_left (by rw [num4_sz]; exact Nat.le_refl _)]; exact ex_all rfl
theorem end_n (a b c : Int) : (endS a b c).extract 6 8 = num2 (IntKind.u64.wrap c):=by
  rw [endS,ex_right (by rw [ByteArray.size_append,num4_sz,num2_sz]; exact Nat.le_refl _)]
  exact ex_all rfl
theorem sizeN_le {d : ByteArray} (h : d.size ≤ 6000) : 1 ≤ sizeN d.size ∧ sizeN d.size ≤ 108:=by unfold sizeN; omega
theorem body_sz {d : ByteArray} {i : Nat} (h : i < sizeN d.size) : ((fullS d).extract (i * 56) ((i + 1) * 56)).size = 56:=by
  rw [ByteArray.size_extract,full_sz]; omega
theorem blk_sz {seq : Int} {d : ByteArray} {i : Nat} (h : i < sizeN d.size) : (blkS seq d i).size = 64:=by
  rw [blkS,ByteArray.size_append,body_sz h,endS_sz]
theorem blk_body {seq : Int} {d : ByteArray} {i : Nat} (h : i < sizeN d.size) : (blkS seq d i).extract 0 56 = (fullS d).extract (i * 56) ((i + 1) * 56):=by
  rw [blkS,ex_left (by rw [body_sz h]; exact Nat.le_refl _)]; exact ex_all (body_sz h).symm
theorem blk_end {seq : Int} {d : ByteArray} {i : Nat} (h : i < sizeN d.size) : (blkS seq d i).extract 56 64 = endS seq i (sizeN d.size):=by
  rw [blkS,ex_right (by rw [body_sz h]; exact Nat.le_refl _),body_sz h]; exact ex_all rfl
theorem blk_at {seq : Int} {d : ByteArray} {k i : Nat} (h : i < k) (r : List ByteArray) : (blkL seq d k ++ r)[i]? = some (blkS seq d i):=by
  rw [List.getElem?_append_left (by rw [blkL_len]; exact h)]
  simp [blkL,h]
theorem blk_good {seq : Int} {d : ByteArray} {i k : Nat} (h : i < sizeN d.size) (hk : i < k) (r : List ByteArray) : badJ (blkL seq d k ++ r) seq (sizeN d.size) i = false:=by
  have hs:=blk_sz (seq:=seq) h
  have h64 : (((blkS seq d i).size : Int) != 64) = false:=by rw [hs]; rfl
  simp only [badJ,blk_at hk r,h64,Bool.false_or]
  rw [hs,blk_end h,tl_self]; rfl
theorem blk_join {seq : Int} {d : ByteArray} (k : Nat) (r : List ByteArray) (hk : k = sizeN d.size) : ∀ (m i : Nat),i + m = k → joinS (blkL seq d k ++ r) seq (sizeN d.size) m i ((fullS d).extract 0 (i * 56)) = (fullS d,-1)
  | 0,i,h =>by
    rw [joinS,ex_all]
    rw [full_sz]; congr 1; omega
  | m + 1,i,h =>by
    rw [joinS,blk_good (by omega) (by omega) r,cond_false,blk_at (by omega) r,Option.getD_some,blk_body (by omega)]
    have : (fullS d).extract 0 (i * 56) ++ (fullS d).extract (i * 56) ((i + 1) * 56) = (fullS d).extract 0 ((i + 1) * 56):=by
      rw [ByteArray.extract_append_extract]
      congr 1 <;> omega
    rw [this]
    exact blk_join k r hk m (i + 1) (by omega)
theorem blk_first {seq : Int} {d : ByteArray} (h1 : 1 ≤ seq) (h2 : seq ≤ 2147483647) (h3 : d.size ≤ 6000) (k : Nat) (hk : 0 < k) (r : List ByteArray) : firZ (blkL seq d k ++ r) = (seq,(sizeN d.size : Int),true):=by
  obtain ⟨s1,s2⟩:=sizeN_le h3
  obtain ⟨l,hl⟩ : ∃ l,blkL seq d k ++ r = blkS seq d 0 :: l:=by
    have:=blk_at (seq:=seq) (d:=d) hk r
    cases hq : blkL seq d k ++ r with
    | nil =>rw [hq] at this; cases this
    | cons x l =>rw [hq] at this; simp at this; exact ⟨l,by rw [this]⟩
  have hs:=blk_sz (seq:=seq) (d:=d) (i:=0) (by omega)
  have h64 : (((blkS seq d 0).size : Int) != 64) = false:=by rw [hs]; rfl
  have he : tailE (blkS seq d 0) = endS seq 0 (sizeN d.size):=blk_end (by omega)
  have e1 : valS ((endS seq 0 (sizeN d.size)).extract 0 4) = seq:=by rw [end_seq,u64_id (by omega) (by omega)]; exact val_num4 (by omega) (by omega)
  have e2 : valS ((endS seq 0 (sizeN d.size)).extract 6 8) = (sizeN d.size : Int):=by rw [end_n,u64_id (by omega) (by omega)]; exact val_num2 (by omega) (by omega)
  have c1 : decide (seq ≥ 1) = true:=decide_eq_true h1
  have c2 : decide (seq ≤ 2147483647) = true:=decide_eq_true h2
  have c3 : decide ((sizeN d.size : Int) ≥ 1) = true:=decide_eq_true (by omega)
  have c4 : decide ((sizeN d.size : Int) ≤ 108) = true:=decide_eq_true (by omega)
  rw [hl,firZ,firS,h64,cond_false,he,e1,e2,firB,c1,c2,c3,c4,cond_true,cond_true,cond_true,cond_true,tl_self]
end Go.Proofs.YthapdikdeoeplaaGreatDoor.Z7
end
section
set_option linter.unusedVariables false
set_option linter.unnecessarySimpa false
open Go AH
set_option linter.unusedSimpArgs false
namespace Go.Proofs.YthapdikdeoeplaaGreatDoor.Z7
theorem tl_eq {a b : ByteArray} (h : (a.toList == b.toList) = true) : a = b:=by
  have h1:=eq_of_beq h
  rw [ByteArray.toList_eq,ByteArray.toList_eq] at h1
  exact ByteArray.ext (Array.ext' h1)
theorem tl_ne {a b : ByteArray} (h : a ≠ b) : (a.toList == b.toList) = false:=by
  cases hc : (a.toList == b.toList)
  · rfl
  · exact absurd (tl_eq hc) h
theorem more_in : ∀ (l : List UInt8) (n : Int),0 ≤ n → n < 4294967296 → 0 ≤ moreL n l ∧ moreL n l < 4294967296
  | [],n,h0,h1 =>⟨h0,h1⟩
  | b :: r,n,_,_ =>by
    have : 0 ≤ moreB n b ∧ moreB n b < 4294967296:=by
      unfold moreB
      rw [IntKind.wrap_u32]; omega
    exact more_in r _ this.1 this.2
theorem sumZ_in (d : ByteArray) : 0 ≤ sumZ d ∧ sumZ d < 4294967296:=more_in _ 1 (by decide) (by decide)
theorem rep_z (k : Nat) : allZ (repS ⟨#[0]⟩ k):=by
  intro b hb
  have hb' : b ∈ Lib.repeatL [0] k:=by simpa [repS] using hb
  induction k with
  | zero =>cases hb'
  | succ k ih =>
    simp only [Lib.repeatL,List.mem_append,List.mem_singleton] at hb'
    rcases hb' with h | h
    · exact h
    · exact ih (by simpa [repS] using h) h
theorem trim_z {s : ByteArray} (h : allZ s) : trim0 s = ⟨#[]⟩:=by
  have hz : trN s 0 s.size = 0:=trN_zero s s.size fun j hj =>by
    have hj' : j < s.data.toList.length:=hj
    rw [List.getD_eq_getElem?_getD,List.getElem?_eq_getElem hj']
    exact h _ (List.getElem_mem hj')
  unfold trim0
  rw [hz]
  cases hc : s.toList == (⟨#[]⟩ : ByteArray).toList
  · simp only [cond_false]
    apply ByteArray.ext
    simp [ByteArray.data_extract]
  · simp only [cond_true]
    exact tl_eq hc
theorem full_eq (d : ByteArray) : fullS d = num4 (IntKind.u64.wrap (d.size : Int)) ++ (num4 (IntKind.u64.wrap (sumZ d)) ++ (d ++ repS ⟨#[0]⟩ (padN d))):=by
  rw [fullS,headS,ByteArray.append_assoc,ByteArray.append_assoc]
theorem full_data {d : ByteArray} (h : d.size ≤ 6000) : datZ (fullS d) = (d,true):=by
  have hle : 8 + d.size ≤ sizeN d.size * 56:=by unfold sizeN; omega
  have hp : padN d = sizeN d.size * 56 - (8 + d.size):=by rw [padN,head_sz]
  have e0 : (fullS d).extract 0 4 = num4 (IntKind.u64.wrap (d.size : Int)):=by
    rw [full_eq,ex_left (by rw [num4_sz]; exact Nat.le_refl _)]; exact ex_all rfl
  have e4 : (fullS d).extract 4 8 = num4 (IntKind.u64.wrap (sumZ d)):=by
    rw [full_eq,ex_right (by rw [num4_sz]; exact Nat.le_refl _),num4_sz,ex_left (by rw [num4_sz]; exact Nat.le_refl _)]; exact ex_all rfl
  have e8 : (fullS d).extract 8 (8 + d.size) = d:=by
    rw [full_eq,ex_right (by rw [num4_sz]; omega),num4_sz,ex_right (by rw [num4_sz]; omega),num4_sz,ex_left (by omega)]
    rw [show 8 - 4 - 4 = 0 from rfl]; exact ex_all (by omega)
  have er : (fullS d).extract (8 + d.size) (fullS d).size = repS ⟨#[0]⟩ (padN d):=by
    rw [full_sz,full_eq,ex_right (by rw [num4_sz]; omega),num4_sz,ex_right (by rw [num4_sz]; omega),num4_sz,ex_right (by omega)]
    rw [show 8 + d.size - 4 - 4 - d.size = 0 by omega]; exact ex_all (by rw [repS_sz]; omega)
  obtain ⟨z1,z2⟩:=sumZ_in d
  have v0 : valS ((fullS d).extract 0 4) = (d.size : Int):=by rw [e0,u64_id (by omega) (by omega)]; exact val_num4 (by omega) (by omega)
  have v4 : valS ((fullS d).extract 4 8) = sumZ d:=by rw [e4,u64_id z1 z2]; exact val_num4 z1 z2
  have c1 : decide ((d.size : Int) > 6000) = false:=decide_eq_false (by omega)
  have c2 : decide ((d.size : Int) > ((fullS d).size : Int) - 8) = false:=decide_eq_false (by rw [full_sz]; omega)
  have hd : datT (fullS d) d.size = d:=e8
  have w : IntKind.i64.wrap (sumZ d) = sumZ d:=by rw [IntKind.wrap_i64]; omega
  have c3 : (((sizeN d.size * 56 : Nat) : Int) == ((fullS d).size : Int)) = true:=by rw [full_sz]; exact beq_self_eq_true _
  have hq : datQ (fullS d) d.size = true:=by
    rw [datQ,hd,er,trim_z (rep_z _),v4,w,c3,tl_self,cond_true,cond_true,beq_self_eq_true]
  rw [datZ,v0,c1,c2,cond_false,cond_false,Int.toNat_natCast,hd,hq]
theorem read_back {seq : Int} {d : ByteArray} (h1 : 1 ≤ seq) (h2 : seq ≤ 2147483647) (h3 : d.size ≤ 6000) (r : List ByteArray) : rdZ (blkL seq d (sizeN d.size) ++ r) = ⟨d,seq,(sizeN d.size : Int),-1⟩:=by
  obtain ⟨s1,s2⟩:=sizeN_le h3
  have hf:=blk_first h1 h2 h3 (sizeN d.size) (by omega) r
  have hj : jnZ (blkL seq d (sizeN d.size) ++ r) seq (sizeN d.size) = (fullS d,-1):=by
    have:=blk_join (seq:=seq) (d:=d) (sizeN d.size) r rfl (sizeN d.size) 0 (by omega)
    rw [Nat.zero_mul] at this
    have e : (fullS d).extract 0 0 = ⟨#[]⟩:=by apply ByteArray.ext; simp [ByteArray.data_extract]
    rw [e] at this
    exact this
  rw [rdZ,hf]
  simp only [Int.toNat_natCast,hj,cond_true,full_data h3]
  rfl
end Go.Proofs.YthapdikdeoeplaaGreatDoor.Z7
end
section
set_option linter.unusedVariables false
set_option linter.unnecessarySimpa false
open Go AH
set_option linter.unusedSimpArgs false
set_option maxRecDepth 100000
namespace Go.Proofs.YthapdikdeoeplaaGreatDoor.Z7
theorem bksT_p {q : Int} {d : ByteArray} {n : Nat} {M : Nat → Option Blk} : bksT [.int .i64 q,.str d] M n = useO [] n (if okBl (q,d,()) then some (.tup [.slc 0 0 (sizeN d.size) none,.nili],[some (.row false 1 ((blkL q d (sizeN d.size)).map strC))]) else none):=by
  simp only [bksT,etN_eq,cC_dec,aI_dec,aS_dec,c0_dec,pairO_some,Option.bind_some]
theorem okSz_of {d : ByteArray} (h : d.size ≤ 7000) : okSz d:=by unfold okSz; omega
theorem sizeT_q {d : ByteArray} {M : Nat → Option Blk} (h : okSz d) : sizeT [.str d] M = some (.int .i64 (sizeN d.size),[]):=by
  rw [sizeT_p]; exact rtC1_eq h
end Go.Proofs.YthapdikdeoeplaaGreatDoor.Z7
end
section
set_option linter.unusedVariables false
set_option linter.unnecessarySimpa false
open Go AH
set_option linter.unusedSimpArgs false
set_option maxRecDepth 100000
namespace Go.Proofs.YthapdikdeoeplaaGreatDoor.Z7
def zeB : ByteArray:=repS ⟨#[0]⟩ 64
theorem zeB_sz : zeB.size = 64:=repS_sz 64
def wipeD (d : Dk) : Nat → Nat → Nat × Dk
  | 0,_ =>(0,d)
  | k + 1,at_ =>if d.away = true then (14,d) else if d.L.getD at_ ⟨#[]⟩ = zeB then wipeD d k (at_ + 1) else
      if (wrD d at_ zeB).1 = 0 then wipeD (wrD d at_ zeB).2 k (at_ + 1) else wrD d at_ zeB
def layD (d : Dk) (at_ : Nat) : List ByteArray → Nat × Dk
  | [] =>(0,d)
  | s :: r =>if (wrD d at_ s).1 = 0 then layD (wrD d at_ s).2 (at_ + 1) r else wrD d at_ s
def logR : Nat → List ByteArray → Int → List ByteArray × Nat
  | 0,_,_ =>([],0)
  | k + 1,L,q =>if (rdZ L).bad = -1 ∧ (rdZ L).q = q then ((rdZ L).t :: (logR k (L.drop (rdZ L).n.toNat) (q + 1)).1,(rdZ L).n.toNat + (logR k (L.drop (rdZ L).n.toNat) (q + 1)).2) else ([],0)
def isBase (n : Int) : Prop:=0 ≤ n ∧ n ≤ 1073741824
instance (n : Int) : Decidable (isBase n):=by unfold isBase; infer_instance
def Lg.ok (l : Lg) : Prop:=l.d.ok ∧ isBase l.b ∧ 0 ≤ l.f ∧ l.f ≤ l.a ∧ l.a ≤ l.t ∧ l.t ≤ (l.d.L.length : Int) ∧ (l.R.length : Int) ≤ l.a - l.f
instance (l : Lg) : Decidable l.ok:=by unfold Lg.ok; infer_instance
def Lg.next (l : Lg) : Int:=l.b + (l.R.length : Int) + 1
def Lg.room (l : Lg) : Int:=l.t - l.a
def addL (l : Lg) (s : ByteArray) : Nat × Lg :=
  if s.size > 6000 then (1,l) else
  if (sizeN s.size : Int) > l.room ∨ l.next ≥ 1073741824 then (7,l) else
  if l.down = true then (14,l) else
  if (layD l.d l.a.toNat (blkL l.next s (sizeN s.size))).1 = 0 then (0,{ l with d:=(layD l.d l.a.toNat (blkL l.next s (sizeN s.size))).2,a:=l.a + sizeN s.size,R:=l.R ++ [s] }) else
  ((layD l.d l.a.toNat (blkL l.next s (sizeN s.size))).1,{ l with d:=(layD l.d l.a.toNat (blkL l.next s (sizeN s.size))).2,down:=(layD l.d l.a.toNat (blkL l.next s (sizeN s.size))).1 == 14 })
def rstL (l : Lg) (base : Int) : Nat × Lg :=
  if ¬ isBase base then (1,l) else
  if l.down = true then (14,l) else
  if (wipeD l.d (l.t - l.f).toNat l.f.toNat).1 = 0 then (0,{ l with d:=(wipeD l.d (l.t - l.f).toNat l.f.toNat).2,b:=base,a:=l.f,R:=[] }) else
  ((wipeD l.d (l.t - l.f).toNat l.f.toNat).1,{ l with d:=(wipeD l.d (l.t - l.f).toNat l.f.toNat).2,down:=(wipeD l.d (l.t - l.f).toNat l.f.toNat).1 == 14 })
theorem chk_at {d : Dk} {i : Nat} (h : i < d.L.length) : chk d i = if d.away = true then 14 else 0:=by
  have h1 : decide ((i : Int) < 0) = false:=by simp only [decide_eq_false_iff_not]; omega
  have h2 : decide ((i : Int) ≥ (d.L.length : Int)) = false:=by simp only [decide_eq_false_iff_not]; omega
  unfold chk
  rw [h1,h2]
  cases d.away <;> rfl
theorem wrD_at {d : Dk} {i : Nat} {s : ByteArray} (h : i < d.L.length) (hs : s.size = 64) : wrD d i s = if d.away = true then (14,d) else
    if d.fuse = 0 then (14,{ d with L:=d.L.set i (s.extract 0 d.torn.toNat ++ (d.L.getD i ⟨#[]⟩).extract d.torn.toNat 64),away:=true }) else
    (0,{ d with L:=d.L.set i s,fuse:=maxI (IntKind.i64.wrap (d.fuse - 1)) (-1),writes:=IntKind.i64.wrap (d.writes + 1) }):=by
  unfold wrD
  rw [if_neg (by omega),chk_at h]
  cases d.away
  · simp only [Bool.false_eq_true,if_false,ne_eq,not_true_eq_false,Int.toNat_natCast]
  · simp
theorem wrD_kinds {d : Dk} {i : Nat} {s : ByteArray} (h : i < d.L.length) (hs : s.size = 64) : (wrD d i s).1 = 0 ∨ (wrD d i s).1 = 14:=by
  rw [wrD_at h hs]
  split
  · exact .inr rfl
  · split
    · exact .inr rfl
    · exact .inl rfl
theorem wipe_ok : ∀ (k : Nat) {d : Dk} (at_ : Nat),d.ok → (wipeD d k at_).2.ok ∧ (wipeD d k at_).2.L.length = d.L.length
  | 0,d,at_,h =>⟨h,rfl⟩
  | k + 1,d,at_,h =>by
    have h1:=wr_ok h at_ zeB
    have h2:=wr_len d at_ zeB
    unfold wipeD
    split
    · exact ⟨h,rfl⟩
    · split
      · exact wipe_ok k (at_ + 1) h
      · split
        · obtain ⟨g1,g2⟩:=wipe_ok k (at_ + 1) h1
          exact ⟨g1,g2.trans h2⟩
        · exact ⟨h1,h2⟩
theorem lay_ok : ∀ (L : List ByteArray) {d : Dk} (at_ : Nat),d.ok → (layD d at_ L).2.ok ∧ (layD d at_ L).2.L.length = d.L.length
  | [],d,at_,h =>⟨h,rfl⟩
  | s :: r,d,at_,h =>by
    have h1:=wr_ok h at_ s
    have h2:=wr_len d at_ s
    unfold layD
    split
    · obtain ⟨g1,g2⟩:=lay_ok r (at_ + 1) h1
      exact ⟨g1,g2.trans h2⟩
    · exact ⟨h1,h2⟩
theorem wipe_kind : ∀ (k : Nat) {d : Dk} (at_ : Nat),at_ + k ≤ d.L.length → (wipeD d k at_).1 = 0 ∨ (wipeD d k at_).1 = 14
  | 0,d,at_,_ => .inl rfl
  | k + 1,d,at_,h =>by
    unfold wipeD
    split
    · exact .inr rfl
    · split
      · exact wipe_kind k (at_ + 1) (by omega)
      · split
        · exact wipe_kind k (at_ + 1) (by rw [wr_len]; omega)
        · rename_i q
          exact .inr ((wrD_kinds (by omega) zeB_sz).resolve_left q)
theorem lay_kind : ∀ (L : List ByteArray) {d : Dk} (at_ : Nat),at_ + L.length ≤ d.L.length → (∀ s ∈ L,s.size = 64) → (layD d at_ L).1 = 0 ∨ (layD d at_ L).1 = 14
  | [],d,at_,_,_ => .inl rfl
  | s :: r,d,at_,h,hs =>by
    unfold layD
    simp only [List.length_cons] at h
    split
    · exact lay_kind r (at_ + 1) (by rw [wr_len]; omega) fun x hx =>hs x (List.mem_cons_of_mem _ hx)
    · rename_i q
      exact .inr ((wrD_kinds (by omega) (hs s (List.mem_cons_self ..))).resolve_left q)
theorem blkL_sz {q : Int} {s : ByteArray} {n : Nat} (h : n ≤ sizeN s.size) : ∀ x ∈ blkL q s n,x.size = 64:=by
  intro x hx
  simp only [blkL,List.mem_map,List.mem_range] at hx
  obtain ⟨i,hi,rfl⟩:=hx
  exact blk_sz (by omega)
theorem sizeN_pos (n : Nat) : 1 ≤ sizeN n:=by unfold sizeN; omega
theorem joinS_le {l : List ByteArray} {q : Int} {n : Nat} : ∀ (m i : Nat) (a0 : ByteArray),(joinS l q n m i a0).2 = -1 → m = 0 ∨ i + m ≤ l.length
  | 0,_,_,_ => .inl rfl
  | m + 1,i,a0,h =>by
    unfold joinS at h
    cases hb : badJ l q n i
    · rw [hb,cond_false] at h
      obtain ⟨s,hs,_⟩:=badJ_ok hb
      have hi : i < l.length:=(List.getElem?_eq_some_iff.1 hs).1
      rcases joinS_le m (i + 1) _ h with e | e
      · right; omega
      · right; omega
    · rw [hb,cond_true] at h
      simp only at h
      omega
theorem datZ_sz {s : ByteArray} (h : (datZ s).2 = true) : (datZ s).1.size ≤ 6000:=by
  unfold datZ at h ⊢
  cases h1 : decide (valS (s.extract 0 4) > 6000)
  · rw [h1,cond_false] at h
    rw [cond_false]
    cases h2 : decide (valS (s.extract 0 4) > (s.size : Int) - 8)
    · rw [cond_false]
      show (datT s _).size ≤ 6000
      simp only [decide_eq_false_iff_not] at h1
      rw [datT,ByteArray.size_extract]; omega
    · rw [h2] at h; cases h
  · rw [h1] at h; cases h
theorem rdZ_good {L : List ByteArray} (h : (rdZ L).bad = -1) : 1 ≤ (rdZ L).n ∧ (rdZ L).n.toNat ≤ L.length ∧ (rdZ L).t.size ≤ 6000 ∧ 1 ≤ (rdZ L).q ∧ (rdZ L).q ≤ 2147483647:=by
  unfold rdZ at h ⊢
  cases h1 : (firZ L).2.2
  · rw [h1] at h; cases h
  · rw [h1,cond_true] at h
    rw [cond_true]
    obtain ⟨q1,q2,q3,q4⟩:=firZ_in h1
    cases h2 : decide ((jnZ L (firZ L).1 (firZ L).2.1.toNat).2 ≥ 0)
    · rw [h2,cond_false] at h
      rw [cond_false]
      cases h3 : (datZ (jnZ L (firZ L).1 (firZ L).2.1.toNat).1).2
      · rw [h3] at h; cases h
      · simp only [cond_true]
        refine ⟨q3,?_,datZ_sz h3,q1,q2⟩
        have:=joinS_at L (firZ L).1 (firZ L).2.1.toNat (firZ L).2.1.toNat 0 ⟨#[]⟩
        simp only [decide_eq_false_iff_not] at h2
        have h4:=this.resolve_right h2
        rcases joinS_le _ _ _ h4 with e | e <;> omega
    · rw [h2,cond_true] at h
      simp only at h
      simp only [decide_eq_true_eq] at h2
      omega
theorem logR_le : ∀ (k : Nat) (L : List ByteArray) (q : Int),(logR k L q).2 ≤ L.length ∧ (logR k L q).1.length ≤ (logR k L q).2 ∧ ∀ s ∈ (logR k L q).1,s.size ≤ 6000
  | 0,L,q =>⟨Nat.zero_le _,Nat.le_refl _,by simp [logR]⟩
  | k + 1,L,q =>by
    unfold logR
    split
    · rename_i h
      obtain ⟨g1,g2,g3,_⟩:=rdZ_good h.1
      obtain ⟨k1,k2,k3⟩:=logR_le k (L.drop (rdZ L).n.toNat) (q + 1)
      rw [List.length_drop] at k1
      refine ⟨by simp only; omega,by simp only [List.length_cons]; omega,fun s hs => ?_⟩
      rcases List.mem_cons.1 hs with rfl | hs
      · exact g3
      · exact k3 s hs
    · exact ⟨Nat.zero_le _,Nat.le_refl _,by simp⟩
end Go.Proofs.YthapdikdeoeplaaGreatDoor.Z7
end
section
set_option linter.unusedVariables false
set_option linter.unnecessarySimpa false
open Go AH
namespace Go.Proofs.YthapdikdeoeplaaGreatDoor.Z7
-- quitrent/log.isBase
def F41 : AFun:=⟨9,1,[.tmp 2],(.seq (.reg [⟨some 2,none,.mov (.c (.bool false))⟩]) (.seq (.reg [⟨some 3,none,.mov (.t 0)⟩,⟨some 4,none,.ibin .geq (.t 3) (.c (.int .i64 0))⟩,⟨some 5,none,.mov (.t 4)⟩,⟨some 6,(some (5,true)),.mov (.t 0)⟩,⟨some 7,(some (5,true)),.ibin .leq (.t 6) (.c (.int .i64 1073741824))⟩,⟨some 8,none,.pick (.t 5) (.t 7) (.c (.bool false))⟩,⟨some 2,none,.mov (.t 8)⟩]) .ret))⟩
-- (*quitrent/log.Log).blocks
def F42 : AFun:=⟨37,1,[.tmp 2,.tmp 3],(.seq (.reg [⟨some 2,none,.mov (.c .nils)⟩,⟨some 3,none,.mov (.c .nili)⟩]) (.seq (.reg [⟨some 4,none,.mov (.c .nils)⟩]) (.seq (.seq (.reg [⟨some 8,none,.mov (.t 0)⟩,⟨some 9,none,.nilchk (.t 8)⟩,⟨some 10,none,.faddr 1 (.t 9)⟩,⟨some 11,none,.load false 1 (.t 10)⟩,⟨some 5,none,.mov (.t 11)⟩]) (.block 0 (.loop (.seq (.seq (.reg [⟨some 12,none,.mov (.t 5)⟩,⟨some 13,none,.mov (.t 0)⟩,⟨some 14,none,.nilchk (.t 13)⟩,⟨some 15,none,.faddr 2 (.t 14)⟩,⟨some 16,none,.load false 1 (.t 15)⟩,⟨some 17,none,.ibin .lss (.t 12) (.t 16)⟩]) (.cond (.t 17) .skip (.exit 0))) (.seq (.block 1 (.seq (.reg [⟨some 21,none,.mov (.t 0)⟩,⟨some 22,none,.nilchk (.t 21)⟩,⟨some 23,none,.faddr 0 (.t 22)⟩,⟨some 24,none,.load false 1 (.t 23)⟩,⟨some 25,none,.mov (.t 5)⟩,⟨some 26,none,.call (.c (.fn 59 [] [])) [(.t 24),(.t 25)]⟩,⟨some 20,none,.mov (.t 26)⟩,⟨some 27,none,.extract (.t 20) 0⟩,⟨some 28,none,.extract (.t 20) 1⟩,⟨some 6,none,.mov (.t 27)⟩,⟨some 7,none,.mov (.t 28)⟩]) (.seq (.seq (.reg [⟨some 29,none,.mov (.t 7)⟩,⟨some 30,none,.eq true .iface true (.t 29) (.c .nili)⟩]) (.cond (.t 30) (.seq (.reg [⟨some 31,none,.mov (.t 7)⟩,⟨some 2,none,.mov (.c .nils)⟩,⟨some 3,none,.mov (.t 31)⟩]) .ret) .skip)) (.reg [⟨some 32,none,.mov (.t 4)⟩,⟨some 33,none,.mov (.t 6)⟩,⟨some 34,none,.bslice 1 1 [(.str ⟨#[]⟩)] [(0,1,(.t 33))]⟩,⟨some 35,none,.append 1 16 [(.str ⟨#[]⟩)] (.t 32) (.t 34)⟩,⟨some 4,none,.mov (.t 35)⟩])))) (.reg [⟨some 18,none,.mov (.t 5)⟩,⟨some 19,none,.ibin .add (.t 18) (.c (.int .i64 1))⟩,⟨some 5,none,.mov (.t 19)⟩])))))) (.seq (.reg [⟨some 36,none,.mov (.t 4)⟩,⟨some 2,none,.mov (.t 36)⟩,⟨some 3,none,.mov (.c .nili)⟩]) .ret))))⟩
-- (*quitrent/log.Log).read
def F43 : AFun:=⟨47,2,[],(.block 0 (.loop (.seq (.seq (.reg [⟨some 8,none,.mov (.t 1)⟩,⟨some 9,none,.len .sl (.t 8)⟩,⟨some 10,none,.ibin .gtr (.t 9) (.c (.int .i64 0))⟩]) (.cond (.t 10) .skip (.exit 0))) (.block 1 (.seq (.reg [⟨some 12,none,.mov (.t 1)⟩,⟨some 13,none,.call (.c (.fn 60 [] [])) [(.t 12)]⟩,⟨some 11,none,.mov (.t 13)⟩,⟨some 14,none,.extract (.t 11) 0⟩,⟨some 15,none,.extract (.t 11) 1⟩,⟨some 16,none,.extract (.t 11) 2⟩,⟨some 17,none,.extract (.t 11) 3⟩,⟨some 4,none,.mov (.t 14)⟩,⟨some 5,none,.mov (.t 15)⟩,⟨some 6,none,.mov (.t 16)⟩,⟨some 7,none,.mov (.t 17)⟩]) (.seq (.seq (.reg [⟨some 18,none,.mov (.t 7)⟩,⟨some 19,none,.eq true .iface true (.t 18) (.c .nili)⟩,⟨some 20,none,.mov (.t 19)⟩,⟨some 21,(some (20,false)),.mov (.t 5)⟩,⟨some 22,(some (20,false)),.mov (.t 0)⟩,⟨some 23,(some (20,false)),.call (.c (.fn 15 [] [])) [(.t 22)]⟩,⟨some 24,(some (20,false)),.ibin .neq (.t 21) (.t 23)⟩,⟨some 25,none,.pick (.t 20) (.c (.bool true)) (.t 24)⟩]) (.cond (.t 25) .ret .skip)) (.seq (.reg [⟨some 26,none,.mov (.t 0)⟩,⟨some 27,none,.mov (.t 0)⟩,⟨some 28,none,.nilchk (.t 27)⟩,⟨some 29,none,.faddr 5 (.t 28)⟩,⟨some 30,none,.load false 1 (.t 29)⟩,⟨some 31,none,.mov (.t 4)⟩,⟨some 32,none,.bslice 1 1 [(.str ⟨#[]⟩)] [(0,1,(.t 31))]⟩,⟨some 33,none,.append 1 16 [(.str ⟨#[]⟩)] (.t 30) (.t 32)⟩,⟨some 34,none,.nilchk (.t 26)⟩,⟨some 35,none,.faddr 5 (.t 34)⟩,⟨none,none,.store 1 (.t 35) (.t 33)⟩]) (.seq (.reg [⟨some 36,none,.mov (.t 0)⟩,⟨some 37,none,.nilchk (.t 36)⟩,⟨some 38,none,.faddr 4 (.t 37)⟩,⟨some 39,none,.load false 1 (.t 38)⟩,⟨some 40,none,.mov (.t 6)⟩,⟨some 41,none,.ibin .add (.t 39) (.t 40)⟩,⟨some 42,none,.nilchk (.t 36)⟩,⟨some 43,none,.faddr 4 (.t 42)⟩,⟨none,none,.store 1 (.t 43) (.t 41)⟩]) (.reg [⟨some 44,none,.mov (.t 1)⟩,⟨some 45,none,.mov (.t 6)⟩,⟨some 46,none,.slice 1 (.t 44) (some (.t 45)) none none⟩,⟨some 1,none,.mov (.t 46)⟩])))))))))⟩
-- (*quitrent/log.Log).wipe
def F44 : AFun:=⟨45,2,[.tmp 4],(.seq (.reg [⟨some 4,none,.mov (.c .nili)⟩]) (.seq (.reg [⟨some 9,none,.call (.c (.fn 55 [] [])) [(.c (.str ⟨#[0]⟩)),(.c (.int .i64 64))]⟩,⟨some 5,none,.mov (.t 9)⟩]) (.seq (.seq (.reg [⟨some 10,none,.mov (.t 1)⟩,⟨some 6,none,.mov (.t 10)⟩]) (.block 0 (.loop (.seq (.seq (.reg [⟨some 11,none,.mov (.t 6)⟩,⟨some 12,none,.mov (.t 0)⟩,⟨some 13,none,.nilchk (.t 12)⟩,⟨some 14,none,.faddr 2 (.t 13)⟩,⟨some 15,none,.load false 1 (.t 14)⟩,⟨some 16,none,.ibin .lss (.t 11) (.t 15)⟩]) (.cond (.t 16) .skip (.exit 0))) (.seq (.block 1 (.seq (.reg [⟨some 20,none,.mov (.t 0)⟩,⟨some 21,none,.nilchk (.t 20)⟩,⟨some 22,none,.faddr 0 (.t 21)⟩,⟨some 23,none,.load false 1 (.t 22)⟩,⟨some 24,none,.mov (.t 6)⟩,⟨some 25,none,.call (.c (.fn 59 [] [])) [(.t 23),(.t 24)]⟩,⟨some 19,none,.mov (.t 25)⟩,⟨some 26,none,.extract (.t 19) 0⟩,⟨some 27,none,.extract (.t 19) 1⟩,⟨some 7,none,.mov (.t 26)⟩,⟨some 8,none,.mov (.t 27)⟩]) (.seq (.seq (.reg [⟨some 28,none,.mov (.t 8)⟩,⟨some 29,none,.eq false .iface true (.t 28) (.c .nili)⟩,⟨some 30,none,.mov (.t 29)⟩,⟨some 31,(some (30,true)),.mov (.t 7)⟩,⟨some 32,(some (30,true)),.mov (.t 5)⟩,⟨some 33,(some (30,true)),.ibin .neq (.t 31) (.t 32)⟩,⟨some 34,none,.pick (.t 30) (.t 33) (.c (.bool false))⟩]) (.cond (.t 34) (.reg [⟨some 35,none,.mov (.t 0)⟩,⟨some 36,none,.nilchk (.t 35)⟩,⟨some 37,none,.faddr 0 (.t 36)⟩,⟨some 38,none,.load false 1 (.t 37)⟩,⟨some 39,none,.mov (.t 6)⟩,⟨some 40,none,.mov (.t 5)⟩,⟨some 41,none,.call (.c (.fn 52 [] [])) [(.t 38),(.t 39),(.t 40)]⟩,⟨some 8,none,.mov (.t 41)⟩]) .skip)) (.seq (.reg [⟨some 42,none,.mov (.t 8)⟩,⟨some 43,none,.eq true .iface true (.t 42) (.c .nili)⟩]) (.cond (.t 43) (.seq (.reg [⟨some 44,none,.mov (.t 8)⟩,⟨some 4,none,.mov (.t 44)⟩]) .ret) .skip))))) (.reg [⟨some 17,none,.mov (.t 6)⟩,⟨some 18,none,.ibin .add (.t 17) (.c (.int .i64 1))⟩,⟨some 6,none,.mov (.t 18)⟩])))))) (.seq (.reg [⟨some 4,none,.mov (.c .nili)⟩]) .ret))))⟩
-- quitrent/log.Open
def F9 : AFun:=⟨66,4,[.tmp 8,.tmp 9],(.seq (.reg [⟨some 8,none,.mov (.c .nilp)⟩,⟨some 9,none,.mov (.c .nili)⟩]) (.seq (.block 0 (.seq (.reg [⟨some 15,none,.mov (.t 0)⟩,⟨some 16,none,.eq false .ptr true (.t 15) (.c .nilp)⟩,⟨some 14,none,.mov (.t 16)⟩]) (.cond (.t 14) (.seq (.draw [⟨some 17,none,.loadg 0⟩,⟨some 8,none,.mov (.c .nilp)⟩,⟨some 9,none,.mov (.t 17)⟩] [[],[],[0,1]]) .ret) (.seq (.reg [⟨some 19,none,.mov (.t 1)⟩,⟨some 20,none,.ibin .lss (.t 19) (.c (.int .i64 0))⟩,⟨some 21,none,.mov (.t 20)⟩,⟨some 22,(some (21,false)),.mov (.t 2)⟩,⟨some 23,(some (21,false)),.mov (.t 1)⟩,⟨some 24,(some (21,false)),.ibin .leq (.t 22) (.t 23)⟩,⟨some 25,none,.pick (.t 21) (.c (.bool true)) (.t 24)⟩,⟨some 26,none,.mov (.t 25)⟩,⟨some 27,(some (26,false)),.mov (.t 2)⟩,⟨some 28,(some (26,false)),.mov (.t 0)⟩,⟨some 29,(some (26,false)),.call (.c (.fn 40 [] [])) [(.t 28)]⟩,⟨some 30,(some (26,false)),.ibin .gtr (.t 27) (.t 29)⟩,⟨some 31,none,.pick (.t 26) (.c (.bool true)) (.t 30)⟩,⟨some 32,none,.mov (.t 31)⟩,⟨some 33,(some (32,false)),.mov (.t 3)⟩,⟨some 34,(some (32,false)),.call (.c (.fn 41 [] [])) [(.t 33)]⟩,⟨some 35,(some (32,false)),.un .not (.t 34)⟩,⟨some 36,none,.pick (.t 32) (.c (.bool true)) (.t 35)⟩,⟨some 18,none,.mov (.t 36)⟩]) (.cond (.t 18) (.seq (.draw [⟨some 37,none,.loadg 1⟩,⟨some 8,none,.mov (.c .nilp)⟩,⟨some 9,none,.mov (.t 37)⟩] [[],[],[0,1]]) .ret) .skip))))) (.seq (.reg [⟨some 38,none,.mov (.t 0)⟩,⟨some 39,none,.mov (.t 1)⟩,⟨some 40,none,.mov (.t 2)⟩,⟨some 41,none,.mov (.t 3)⟩,⟨some 42,none,.mov (.t 1)⟩,⟨some 43,none,.build [.nilp,(.int .i64 0),(.int .i64 0),(.int .i64 0),(.int .i64 0),.nils,(.bool false)] [(0,1,(.t 38)),(1,1,(.t 39)),(2,1,(.t 40)),(3,1,(.t 41)),(4,1,(.t 42))]⟩,⟨some 44,none,.box 7 (.t 43)⟩,⟨some 10,none,.mov (.t 44)⟩]) (.seq (.reg [⟨some 46,none,.mov (.t 10)⟩,⟨some 47,none,.call (.c (.fn 42 [] [])) [(.t 46)]⟩,⟨some 45,none,.mov (.t 47)⟩,⟨some 48,none,.extract (.t 45) 0⟩,⟨some 49,none,.extract (.t 45) 1⟩,⟨some 11,none,.mov (.t 48)⟩,⟨some 12,none,.mov (.t 49)⟩]) (.seq (.seq (.reg [⟨some 50,none,.mov (.t 12)⟩,⟨some 51,none,.eq true .iface true (.t 50) (.c .nili)⟩]) (.cond (.t 51) (.seq (.reg [⟨some 52,none,.mov (.t 12)⟩,⟨some 8,none,.mov (.c .nilp)⟩,⟨some 9,none,.mov (.t 52)⟩]) .ret) .skip)) (.seq (.reg [⟨some 53,none,.mov (.t 10)⟩,⟨some 54,none,.mov (.t 11)⟩,⟨some 55,none,.call (.c (.fn 43 [] [])) [(.t 53),(.t 54)]⟩]) (.seq (.seq (.reg [⟨some 56,none,.mov (.t 10)⟩,⟨some 57,none,.mov (.t 10)⟩,⟨some 58,none,.nilchk (.t 57)⟩,⟨some 59,none,.faddr 4 (.t 58)⟩,⟨some 60,none,.load false 1 (.t 59)⟩,⟨some 61,none,.call (.c (.fn 44 [] [])) [(.t 56),(.t 60)]⟩,⟨some 13,none,.mov (.t 61)⟩]) (.seq (.reg [⟨some 62,none,.mov (.t 13)⟩,⟨some 63,none,.eq true .iface true (.t 62) (.c .nili)⟩]) (.cond (.t 63) (.seq (.reg [⟨some 64,none,.mov (.t 13)⟩,⟨some 8,none,.mov (.c .nilp)⟩,⟨some 9,none,.mov (.t 64)⟩]) .ret) .skip))) (.seq (.reg [⟨some 65,none,.mov (.t 10)⟩,⟨some 8,none,.mov (.t 65)⟩,⟨some 9,none,.mov (.c .nili)⟩]) .ret))))))))⟩
-- (*quitrent/log.Log).Records
def F14 : AFun:=⟨10,1,[.tmp 2],(.seq (.reg [⟨some 2,none,.mov (.c .nils)⟩]) (.seq (.seq (.reg [⟨some 3,none,.mov (.t 0)⟩,⟨some 4,none,.eq false .ptr true (.t 3) (.c .nilp)⟩]) (.cond (.t 4) (.seq (.reg [⟨some 2,none,.mov (.c .nils)⟩]) .ret) .skip)) (.seq (.reg [⟨some 5,none,.mov (.t 0)⟩,⟨some 6,none,.nilchk (.t 5)⟩,⟨some 7,none,.faddr 5 (.t 6)⟩,⟨some 8,none,.load false 1 (.t 7)⟩,⟨some 9,none,.call (.c (.fn 47 [] [])) [(.t 8)]⟩,⟨some 2,none,.mov (.t 9)⟩]) .ret)))⟩
-- (*quitrent/log.Log).Next
def F15 : AFun:=⟨16,1,[.tmp 2],(.seq (.reg [⟨some 2,none,.mov (.c (.int .i64 0))⟩]) (.seq (.seq (.reg [⟨some 3,none,.mov (.t 0)⟩,⟨some 4,none,.eq false .ptr true (.t 3) (.c .nilp)⟩]) (.cond (.t 4) (.seq (.reg [⟨some 2,none,.mov (.c (.int .i64 0))⟩]) .ret) .skip)) (.seq (.draw [⟨some 5,none,.mov (.t 0)⟩,⟨some 6,none,.nilchk (.t 5)⟩,⟨some 7,none,.faddr 3 (.t 6)⟩,⟨some 8,none,.load false 1 (.t 7)⟩,⟨some 9,none,.mov (.t 0)⟩,⟨some 10,none,.nilchk (.t 9)⟩,⟨some 11,none,.faddr 5 (.t 10)⟩,⟨some 12,none,.load false 1 (.t 11)⟩,⟨some 13,none,.len .sl (.t 12)⟩,⟨some 14,none,.ibin .add (.t 8) (.t 13)⟩,⟨some 15,none,.ibin .add (.t 14) (.c (.int .i64 1))⟩,⟨some 2,none,.mov (.t 15)⟩] [[],[0],[1,0],[2,1,0],[],[4],[5,4],[6,5,4],[7,6,5,4],[3,8,2,1,0,7,6,5,4],[9,3,8,2,1,0,7,6,5,4],[10,0,1,2,3,4,5,6,7,8,9]]) .ret)))⟩
-- (*quitrent/log.Log).Room
def F16 : AFun:=⟨14,1,[.tmp 2],(.seq (.reg [⟨some 2,none,.mov (.c (.int .i64 0))⟩]) (.seq (.seq (.reg [⟨some 3,none,.mov (.t 0)⟩,⟨some 4,none,.eq false .ptr true (.t 3) (.c .nilp)⟩]) (.cond (.t 4) (.seq (.reg [⟨some 2,none,.mov (.c (.int .i64 0))⟩]) .ret) .skip)) (.seq (.draw [⟨some 5,none,.mov (.t 0)⟩,⟨some 6,none,.nilchk (.t 5)⟩,⟨some 7,none,.faddr 2 (.t 6)⟩,⟨some 8,none,.load false 1 (.t 7)⟩,⟨some 9,none,.mov (.t 0)⟩,⟨some 10,none,.nilchk (.t 9)⟩,⟨some 11,none,.faddr 4 (.t 10)⟩,⟨some 12,none,.load false 1 (.t 11)⟩,⟨some 13,none,.ibin .sub (.t 8) (.t 12)⟩,⟨some 2,none,.mov (.t 13)⟩] [[],[0],[1,0],[2,1,0],[],[4],[5,4],[6,5,4],[3,7,2,1,0,6,5,4],[8,0,1,2,3,4,5,6,7]]) .ret)))⟩
-- (*quitrent/log.Log).lost
def F49 : AFun:=⟨18,2,[.tmp 4],(.seq (.reg [⟨some 4,none,.mov (.c .nili)⟩]) (.seq (.reg [⟨some 5,none,.mov (.t 0)⟩,⟨some 6,none,.mov (.t 0)⟩,⟨some 7,none,.nilchk (.t 6)⟩,⟨some 8,none,.faddr 6 (.t 7)⟩,⟨some 9,none,.load false 1 (.t 8)⟩,⟨some 10,none,.mov (.t 9)⟩,⟨some 11,(some (10,false)),.mov (.t 1)⟩,⟨some 12,(some (10,false)),.loadg 13⟩,⟨some 13,(some (10,false)),.call (.c (.fn 45 [] [])) [(.t 11),(.t 12)]⟩,⟨some 14,none,.pick (.t 10) (.c (.bool true)) (.t 13)⟩,⟨some 15,none,.nilchk (.t 5)⟩,⟨some 16,none,.faddr 6 (.t 15)⟩,⟨none,none,.store 1 (.t 16) (.t 14)⟩]) (.seq (.reg [⟨some 17,none,.mov (.t 1)⟩,⟨some 4,none,.mov (.t 17)⟩]) .ret)))⟩
-- (*quitrent/log.Log).Add
def F20 : AFun:=⟨91,2,[.tmp 4],(.seq (.reg [⟨some 4,none,.mov (.c .nili)⟩]) (.seq (.block 0 (.seq (.reg [⟨some 11,none,.mov (.t 0)⟩,⟨some 12,none,.eq false .ptr true (.t 11) (.c .nilp)⟩,⟨some 10,none,.mov (.t 12)⟩]) (.cond (.t 10) (.seq (.reg [⟨some 13,none,.loadg 0⟩,⟨some 4,none,.mov (.t 13)⟩]) .ret) (.seq (.reg [⟨some 15,none,.mov (.t 1)⟩,⟨some 16,none,.len .str (.t 15)⟩,⟨some 17,none,.ibin .gtr (.t 16) (.c (.int .i64 6000))⟩,⟨some 14,none,.mov (.t 17)⟩]) (.cond (.t 14) (.seq (.reg [⟨some 18,none,.loadg 1⟩,⟨some 4,none,.mov (.t 18)⟩]) .ret) (.seq (.reg [⟨some 20,none,.mov (.t 1)⟩,⟨some 21,none,.call (.c (.fn 50 [] [])) [(.t 20)]⟩,⟨some 22,none,.mov (.t 0)⟩,⟨some 23,none,.call (.c (.fn 16 [] [])) [(.t 22)]⟩,⟨some 24,none,.ibin .gtr (.t 21) (.t 23)⟩,⟨some 25,none,.mov (.t 24)⟩,⟨some 26,(some (25,false)),.mov (.t 0)⟩,⟨some 27,(some (25,false)),.call (.c (.fn 15 [] [])) [(.t 26)]⟩,⟨some 28,(some (25,false)),.ibin .geq (.t 27) (.c (.int .i64 1073741824))⟩,⟨some 29,none,.pick (.t 25) (.c (.bool true)) (.t 28)⟩,⟨some 19,none,.mov (.t 29)⟩]) (.cond (.t 19) (.seq (.reg [⟨some 30,none,.loadg 6⟩,⟨some 4,none,.mov (.t 30)⟩]) .ret) (.seq (.reg [⟨some 32,none,.mov (.t 0)⟩,⟨some 33,none,.nilchk (.t 32)⟩,⟨some 34,none,.faddr 6 (.t 33)⟩,⟨some 35,none,.load false 1 (.t 34)⟩,⟨some 31,none,.mov (.t 35)⟩]) (.cond (.t 31) (.seq (.reg [⟨some 36,none,.loadg 13⟩,⟨some 4,none,.mov (.t 36)⟩]) .ret) .skip))))))))) (.seq (.reg [⟨some 38,none,.mov (.t 0)⟩,⟨some 39,none,.call (.c (.fn 15 [] [])) [(.t 38)]⟩,⟨some 40,none,.mov (.t 1)⟩,⟨some 41,none,.call (.c (.fn 51 [] [])) [(.t 39),(.t 40)]⟩,⟨some 37,none,.mov (.t 41)⟩,⟨some 42,none,.extract (.t 37) 0⟩,⟨some 43,none,.extract (.t 37) 1⟩,⟨some 5,none,.mov (.t 42)⟩,⟨some 6,none,.mov (.t 43)⟩]) (.seq (.seq (.reg [⟨some 44,none,.mov (.t 6)⟩,⟨some 45,none,.eq true .iface true (.t 44) (.c .nili)⟩]) (.cond (.t 45) (.seq (.reg [⟨some 46,none,.mov (.t 6)⟩,⟨some 4,none,.mov (.t 46)⟩]) .ret) .skip)) (.seq (.seq (.reg [⟨some 47,none,.mov (.t 5)⟩,⟨some 48,none,.len .sl (.t 47)⟩,⟨some 49,none,.mov (.c (.int .i64 0))⟩]) (.block 1 (.loop (.seq (.reg [⟨some 50,none,.ibin .lss (.t 49) (.t 48)⟩]) (.seq (.cond (.t 50) .skip (.exit 1)) (.seq (.block 2 (.seq (.reg [⟨some 51,none,.mov (.t 49)⟩,⟨some 52,none,.iaddrSl 1 (.t 47) (.t 49)⟩,⟨some 53,none,.load false 1 (.t 52)⟩,⟨some 7,none,.mov (.t 51)⟩,⟨some 8,none,.mov (.t 53)⟩]) (.seq (.draw [⟨some 54,none,.mov (.t 0)⟩,⟨some 55,none,.nilchk (.t 54)⟩,⟨some 56,none,.faddr 0 (.t 55)⟩,⟨some 57,none,.load false 1 (.t 56)⟩,⟨some 58,none,.mov (.t 0)⟩,⟨some 59,none,.nilchk (.t 58)⟩,⟨some 60,none,.faddr 4 (.t 59)⟩,⟨some 61,none,.load false 1 (.t 60)⟩,⟨some 62,none,.mov (.t 7)⟩,⟨some 63,none,.ibin .add (.t 61) (.t 62)⟩,⟨some 64,none,.mov (.t 8)⟩,⟨some 65,none,.call (.c (.fn 52 [] [])) [(.t 57),(.t 63),(.t 64)]⟩,⟨some 9,none,.mov (.t 65)⟩] [[],[0],[1,0],[2,1,0],[],[4],[5,4],[6,5,4],[],[7,8,6,5,4],[],[3,9,10,2,1,0,7,8,6,5,4],[11,0,1,2,3,4,5,6,7,8,9,10]]) (.seq (.reg [⟨some 66,none,.mov (.t 9)⟩,⟨some 67,none,.eq true .iface true (.t 66) (.c .nili)⟩]) (.cond (.t 67) (.seq (.reg [⟨some 68,none,.mov (.t 0)⟩,⟨some 69,none,.mov (.t 9)⟩,⟨some 70,none,.call (.c (.fn 49 [] [])) [(.t 68),(.t 69)]⟩,⟨some 4,none,.mov (.t 70)⟩]) .ret) .skip))))) (.reg [⟨some 71,none,.ibin .add (.t 49) (.c (.int .i64 1))⟩,⟨some 49,none,.mov (.t 71)⟩]))))))) (.seq (.reg [⟨some 72,none,.mov (.t 0)⟩,⟨some 73,none,.nilchk (.t 72)⟩,⟨some 74,none,.faddr 4 (.t 73)⟩,⟨some 75,none,.load false 1 (.t 74)⟩,⟨some 76,none,.mov (.t 5)⟩,⟨some 77,none,.len .sl (.t 76)⟩,⟨some 78,none,.ibin .add (.t 75) (.t 77)⟩,⟨some 79,none,.nilchk (.t 72)⟩,⟨some 80,none,.faddr 4 (.t 79)⟩,⟨none,none,.store 1 (.t 80) (.t 78)⟩]) (.seq (.reg [⟨some 81,none,.mov (.t 0)⟩,⟨some 82,none,.mov (.t 0)⟩,⟨some 83,none,.nilchk (.t 82)⟩,⟨some 84,none,.faddr 5 (.t 83)⟩,⟨some 85,none,.load false 1 (.t 84)⟩,⟨some 86,none,.mov (.t 1)⟩,⟨some 87,none,.bslice 1 1 [(.str ⟨#[]⟩)] [(0,1,(.t 86))]⟩,⟨some 88,none,.append 1 16 [(.str ⟨#[]⟩)] (.t 85) (.t 87)⟩,⟨some 89,none,.nilchk (.t 81)⟩,⟨some 90,none,.faddr 5 (.t 89)⟩,⟨none,none,.store 1 (.t 90) (.t 88)⟩]) (.seq (.reg [⟨some 4,none,.mov (.c .nili)⟩]) .ret))))))))⟩
-- (*quitrent/log.Log).Reset
def F19 : AFun:=⟨46,2,[.tmp 4],(.seq (.reg [⟨some 4,none,.mov (.c .nili)⟩]) (.seq (.block 0 (.seq (.reg [⟨some 7,none,.mov (.t 0)⟩,⟨some 8,none,.eq false .ptr true (.t 7) (.c .nilp)⟩,⟨some 6,none,.mov (.t 8)⟩]) (.cond (.t 6) (.seq (.reg [⟨some 9,none,.loadg 0⟩,⟨some 4,none,.mov (.t 9)⟩]) .ret) (.seq (.reg [⟨some 11,none,.mov (.t 1)⟩,⟨some 12,none,.call (.c (.fn 41 [] [])) [(.t 11)]⟩,⟨some 13,none,.un .not (.t 12)⟩,⟨some 10,none,.mov (.t 13)⟩]) (.cond (.t 10) (.seq (.reg [⟨some 14,none,.loadg 1⟩,⟨some 4,none,.mov (.t 14)⟩]) .ret) (.seq (.reg [⟨some 16,none,.mov (.t 0)⟩,⟨some 17,none,.nilchk (.t 16)⟩,⟨some 18,none,.faddr 6 (.t 17)⟩,⟨some 19,none,.load false 1 (.t 18)⟩,⟨some 15,none,.mov (.t 19)⟩]) (.cond (.t 15) (.seq (.reg [⟨some 20,none,.loadg 13⟩,⟨some 4,none,.mov (.t 20)⟩]) .ret) .skip))))))) (.seq (.seq (.reg [⟨some 21,none,.mov (.t 0)⟩,⟨some 22,none,.mov (.t 0)⟩,⟨some 23,none,.nilchk (.t 22)⟩,⟨some 24,none,.faddr 1 (.t 23)⟩,⟨some 25,none,.load false 1 (.t 24)⟩,⟨some 26,none,.call (.c (.fn 44 [] [])) [(.t 21),(.t 25)]⟩,⟨some 5,none,.mov (.t 26)⟩]) (.seq (.reg [⟨some 27,none,.mov (.t 5)⟩,⟨some 28,none,.eq true .iface true (.t 27) (.c .nili)⟩]) (.cond (.t 28) (.seq (.reg [⟨some 29,none,.mov (.t 0)⟩,⟨some 30,none,.mov (.t 5)⟩,⟨some 31,none,.call (.c (.fn 49 [] [])) [(.t 29),(.t 30)]⟩,⟨some 4,none,.mov (.t 31)⟩]) .ret) .skip))) (.seq (.reg [⟨some 32,none,.mov (.t 0)⟩,⟨some 33,none,.mov (.t 0)⟩,⟨some 34,none,.mov (.t 0)⟩,⟨some 35,none,.mov (.t 1)⟩,⟨some 36,none,.mov (.t 0)⟩,⟨some 37,none,.nilchk (.t 36)⟩,⟨some 38,none,.faddr 1 (.t 37)⟩,⟨some 39,none,.load false 1 (.t 38)⟩,⟨some 40,none,.nilchk (.t 32)⟩,⟨some 41,none,.faddr 3 (.t 40)⟩,⟨none,none,.store 1 (.t 41) (.t 35)⟩,⟨some 42,none,.nilchk (.t 33)⟩,⟨some 43,none,.faddr 4 (.t 42)⟩,⟨none,none,.store 1 (.t 43) (.t 39)⟩,⟨some 44,none,.nilchk (.t 34)⟩,⟨some 45,none,.faddr 5 (.t 44)⟩,⟨none,none,.store 1 (.t 45) (.c .nils)⟩]) (.seq (.reg [⟨some 4,none,.mov (.c .nili)⟩]) .ret)))))⟩
-- slices.Clone[[]string,string]
def F47 : AFun:=⟨8,1,[.tmp 2],(.seq (.reg [⟨some 2,none,.mov (.c .nils)⟩]) (.seq (.seq (.reg [⟨some 3,none,.mov (.t 0)⟩,⟨some 4,none,.eq false .slice true (.t 3) (.c .nils)⟩]) (.cond (.t 4) (.seq (.reg [⟨some 2,none,.mov (.c .nils)⟩]) .ret) .skip)) (.seq (.reg [⟨some 5,none,.bslice 1 0 [(.str ⟨#[]⟩)] []⟩,⟨some 6,none,.mov (.t 0)⟩,⟨some 7,none,.append 1 16 [(.str ⟨#[]⟩)] (.t 5) (.t 6)⟩,⟨some 2,none,.mov (.t 7)⟩]) .ret)))⟩
theorem c41 : cFun Tryz.prog [1,0,2,3,4,5,6,7,8,9,10,11,12,13] Tryz.f41 = some F41:=by kernel_rfl
theorem c42 : cFun Tryz.prog [1,0,2,3,4,5,6,7,8,9,10,11,12,13] Tryz.f42 = some F42:=by kernel_rfl
theorem c43 : cFun Tryz.prog [1,0,2,3,4,5,6,7,8,9,10,11,12,13] Tryz.f43 = some F43:=by kernel_rfl
theorem c44 : cFun Tryz.prog [1,0,2,3,4,5,6,7,8,9,10,11,12,13] Tryz.f44 = some F44:=by kernel_rfl
theorem c9 : cFun Tryz.prog [1,0,2,3,4,5,6,7,8,9,10,11,12,13] Tryz.f9 = some F9:=by kernel_rfl
theorem c14 : cFun Tryz.prog [1,0,2,3,4,5,6,7,8,9,10,11,12,13] Tryz.f14 = some F14:=by kernel_rfl
theorem c15 : cFun Tryz.prog [1,0,2,3,4,5,6,7,8,9,10,11,12,13] Tryz.f15 = some F15:=by kernel_rfl
theorem c16 : cFun Tryz.prog [1,0,2,3,4,5,6,7,8,9,10,11,12,13] Tryz.f16 = some F16:=by kernel_rfl
theorem c49 : cFun Tryz.prog [1,0,2,3,4,5,6,7,8,9,10,11,12,13] Tryz.f49 = some F49:=by kernel_rfl
theorem c20 : cFun Tryz.prog [1,0,2,3,4,5,6,7,8,9,10,11,12,13] Tryz.f20 = some F20:=by kernel_rfl
theorem c19 : cFun Tryz.prog [1,0,2,3,4,5,6,7,8,9,10,11,12,13] Tryz.f19 = some F19:=by kernel_rfl
theorem c47 : cFun Tryz.prog [1,0,2,3,4,5,6,7,8,9,10,11,12,13] Tryz.f47 = some F47:=by kernel_rfl
end Go.Proofs.YthapdikdeoeplaaGreatDoor.Z7
end
section
set_option linter.unusedVariables false
set_option linter.unnecessarySimpa false
open Go AH
set_option linter.unusedSimpArgs false
set_option maxRecDepth 100000
namespace Go.Proofs.YthapdikdeoeplaaGreatDoor.Z7
theorem isBase_ok (n : Int) : Pure S0 41 [.int .i64 n] (.bool (decide (isBase n))):=by
  refine fun_sound okZ0 Tryz.func41 c41 ?_
  unfold wpF F41
  cases h1 : decide (n ≥ 0)
  · have e : decide (isBase n) = false:=by simp only [decide_eq_false_iff_not] at h1 ⊢; unfold isBase; omega
    simp only [AH.SD,AH.SE,AOp.call?,AOp.next?,bstep,AV.cells,unAV,binAV,retQ,retV,AH.sliceElems,AH.bytesOf,AH.strOp,AH.bound,AH.missQ,AH.minmaxAV,AH.readOf,AH.effOf,simprocAttr,h1,e]
  · cases h2 : decide (n ≤ 1073741824)
    · have e : decide (isBase n) = false:=by simp only [decide_eq_false_iff_not,decide_eq_true_eq] at h1 h2 ⊢; unfold isBase; omega
      simp only [AH.SD,AH.SE,AOp.call?,AOp.next?,bstep,AV.cells,unAV,binAV,retQ,retV,AH.sliceElems,AH.bytesOf,AH.strOp,AH.bound,AH.missQ,AH.minmaxAV,AH.readOf,AH.effOf,simprocAttr,h1,h2,e]
    · have e : decide (isBase n) = true:=by simp only [decide_eq_true_eq] at h1 h2 ⊢; unfold isBase; omega
      simp only [AH.SD,AH.SE,AOp.call?,AOp.next?,bstep,AV.cells,unAV,binAV,retQ,retV,AH.sliceElems,AH.bytesOf,AH.strOp,AH.bound,AH.missQ,AH.minmaxAV,AH.readOf,AH.effOf,simprocAttr,h1,h2,e]
def isBaseT : RT:=rtP (cC (aI .i64) c0) fun x => .bool (decide (isBase x.1))
theorem isBaseT_ok : ReadF S0 41 isBaseT:=rtP_ok (fun x =>isBase_ok x.1) fun _ =>rfl
theorem isBaseT_p {n : Int} {M : Nat → Option Blk} : isBaseT [.int .i64 n] M = some (.bool (decide (isBase n)),[]):=by
  simp only [isBaseT,rtP,cC_dec,aI_dec,c0_dec,pairO_some,Option.map_some]
theorem next_ok (l : Lg) (h : l.ok) : CallA1 S0 15 [.ptr 0 0 0] (lgM l) fun r m =>r = .int .i64 l.next ∧ m = lgM l:=by
  obtain ⟨hd,⟨h1,h2⟩,h4,h5,h6,h7,h3⟩:=h
  have h8:=hd.2.2.2
  have w1 : IntKind.i64.wrap (l.b + (l.R.length : Int)) = l.b + (l.R.length : Int):=by rw [IntKind.wrap_i64]; omega
  have w2 : IntKind.i64.wrap (l.b + (l.R.length : Int) + 1) = l.b + (l.R.length : Int) + 1:=by rw [IntKind.wrap_i64]; omega
  refine fun_sound okZ0 Tryz.func15 c15 ?_
  unfold wpF F15
  simp only [AH.SD,AH.SE,AOp.call?,AOp.next?,bstep,AV.cells,unAV,binAV,retQ,retV,AH.sliceElems,AH.bytesOf,AH.strOp,AH.bound,AH.missQ,AH.minmaxAV,AH.readOf,AH.effOf,simprocAttr,lgM,w1,w2,Lg.next]
  repeat (refine ⟨by first | rfl | decide | omega | (simp only [List.length_map,List.length_set,and_true]; omega),?_⟩)
  try trivial
theorem next_nil : Pure S0 15 [.nilp] (.int .i64 0):=by
  refine fun_sound okZ0 Tryz.func15 c15 ?_
  unfold wpF F15
  simp only [AH.SD,AH.SE,AOp.call?,AOp.next?,bstep,AV.cells,unAV,binAV,retQ,retV,AH.sliceElems,AH.bytesOf,AH.strOp,AH.bound,AH.missQ,AH.minmaxAV,AH.readOf,AH.effOf,simprocAttr]
def nextT : RT:=rtElse (cC aNil c0) (fun _ => .int .i64 0) (rtO lgO c0 fun l _ =>if l.ok then some (.int .i64 l.next) else none)
theorem nextT_ok : ReadF S0 15 nextT:=rtElse_ok (fun _ =>next_nil) (fun _ =>rfl) (rtO_ok fun l x v h =>by
  split at h
  · rename_i hl
    simp only [Option.some.injEq] at h; subst h
    exact ⟨rfl,next_ok l hl⟩
  · cases h)
theorem nextT_p {p : Nat} {M : Nat → Option Blk} : nextT [.ptr p 0 0] M = rtO2 (fun (l : Lg) (_ : Unit) =>if l.ok then some (.int .i64 l.next) else none) (lgR M p (M p)) (some ()):=by
  simp only [nextT,rtElse_eq,rtO_eq,cC_dec,aNil_ptr,c0_dec,pairO_none,Option.map_none,elseO_none,lgO_dec]
theorem room_ok (l : Lg) (h : l.ok) : CallA1 S0 16 [.ptr 0 0 0] (lgM l) fun r m =>r = .int .i64 l.room ∧ m = lgM l:=by
  obtain ⟨hd,_,h1,h2,h3,h4,_⟩:=h
  have h5:=hd.2.2.2
  have w1 : IntKind.i64.wrap (l.t - l.a) = l.t - l.a:=by rw [IntKind.wrap_i64]; omega
  refine fun_sound okZ0 Tryz.func16 c16 ?_
  unfold wpF F16
  simp only [AH.SD,AH.SE,AOp.call?,AOp.next?,bstep,AV.cells,unAV,binAV,retQ,retV,AH.sliceElems,AH.bytesOf,AH.strOp,AH.bound,AH.missQ,AH.minmaxAV,AH.readOf,AH.effOf,simprocAttr,lgM,w1,Lg.room]
  repeat (refine ⟨by first | rfl | decide | omega | (simp only [List.length_map,List.length_set,and_true]; omega),?_⟩)
  try trivial
theorem room_nil : Pure S0 16 [.nilp] (.int .i64 0):=by
  refine fun_sound okZ0 Tryz.func16 c16 ?_
  unfold wpF F16
  simp only [AH.SD,AH.SE,AOp.call?,AOp.next?,bstep,AV.cells,unAV,binAV,retQ,retV,AH.sliceElems,AH.bytesOf,AH.strOp,AH.bound,AH.missQ,AH.minmaxAV,AH.readOf,AH.effOf,simprocAttr]
def roomT : RT:=rtElse (cC aNil c0) (fun _ => .int .i64 0) (rtO lgO c0 fun l _ =>if l.ok then some (.int .i64 l.room) else none)
theorem roomT_ok : ReadF S0 16 roomT:=rtElse_ok (fun _ =>room_nil) (fun _ =>rfl) (rtO_ok fun l x v h =>by
  split at h
  · rename_i hl
    simp only [Option.some.injEq] at h; subst h
    exact ⟨rfl,room_ok l hl⟩
  · cases h)
theorem roomT_p {p : Nat} {M : Nat → Option Blk} : roomT [.ptr p 0 0] M = rtO2 (fun (l : Lg) (_ : Unit) =>if l.ok then some (.int .i64 l.room) else none) (lgR M p (M p)) (some ()):=by
  simp only [roomT,rtElse_eq,rtO_eq,cC_dec,aNil_ptr,c0_dec,pairO_none,Option.map_none,elseO_none,lgO_dec]
theorem okRep64 : okRep ⟨#[0]⟩ ((64 : Nat) : Int):=by decide
theorem repT_64 {M : Nat → Option Blk} : repT [.str ⟨#[0]⟩,.int .i64 64] M = some (.str zeB,[]):=repT_eq (c:=64) okRep64
noncomputable abbrev tWp : List (FuncId × RT):=[(55,repT),(59,drdT),(52,writeNT)]
noncomputable abbrev eWp : List (FuncId × ET):=[(52,writeT)]
theorem okWp : CtxOK S0 (ctxE S0 tWp [] eWp):=ctxE_ok ⟨repT_ok,drdT_ok,writeNT_ok,trivial⟩ trivial ⟨writeT_ok,trivial⟩ mixed
def wpSt (l : Lg) (x : Nat × Dk) : St:=⟨[(6,.int .i64 x.1),(5,.str zeB),(0,.ptr 0 0 0)],lgM { l with d:=x.2 }⟩
theorem errA_ren {k : Nat} {ρ : Nat → Nat} : (errA k).ren ρ = errA k:=flat_ren (errA_flat k)
set_option maxHeartbeats 4000000 in
theorem lwipe_ok (l : Lg) (h : l.ok) (a T : Nat) (hT : l.t = T) (ha : a ≤ T) : CallA1 S0 44 [.ptr 0 0 0,.int .i64 a] (lgM l) fun r m =>r = errA (wipeD l.d (T - a) a).1 ∧ m = lgM { l with d:=(wipeD l.d (T - a) a).2 }:=by
  obtain ⟨hd,_,_,_,_,h4,_⟩:=h
  have h5:=hd.2.2.2
  refine fun_sound okWp Tryz.func44 c44 ?_
  unfold wpF F44
  simp only [AH.SD,AH.SE,AOp.call?,AOp.next?,bstep,AV.cells,unAV,binAV,retQ,retV,AH.sliceElems,AH.bytesOf,AH.strOp,AH.bound,AH.missQ,AH.minmaxAV,AH.readOf,AH.effOf,simprocAttr,AH.SP,AH.PD,AV.inB,vstep,vw,shift,newOnes,rowsM,blkIn,rwB,@flat_lts,AV.lt,AV.lts,Nat.sub_self,AH.SO,repT_64]
  refine loop_do [0,1,2,3] [6,5,0] [] (α:=Nat × Dk) (fun x =>T - x.1) (wpSt l) (fun x =>x.1 ≤ T ∧ x.2.ok ∧ x.2.L.length = l.d.L.length ∧ wipeD x.2 (T - x.1) x.1 = wipeD l.d (T - a) a) (a,l.d) ⟨ha,hd,rfl,rfl⟩ (by simp only [AH.SD,AH.SE,AOp.call?,AOp.next?,bstep,AV.cells,unAV,binAV,retQ,retV,AH.sliceElems,AH.bytesOf,AH.strOp,AH.bound,AH.missQ,AH.minmaxAV,AH.readOf,AH.effOf,simprocAttr,AH.SP,AH.PD,AV.inB,vstep,wpSt,lgM]) ?_
  rintro X ⟨i,d⟩ ⟨hi,hd1,hl,hw⟩ ih
  simp only at hi hd1 hl hw
  simp only [AH.SD,AH.SE,AOp.call?,AOp.next?,bstep,AV.cells,unAV,binAV,retQ,retV,AH.sliceElems,AH.bytesOf,AH.strOp,AH.bound,AH.missQ,AH.minmaxAV,AH.readOf,AH.effOf,simprocAttr,AH.SP,AH.PD,AV.inB,vstep,vw,shift,newOnes,rowsM,blkIn,rwB,@flat_lts,AV.lt,AV.lts,Nat.sub_self,AH.SO,wpSt,lgM,hT]
  refine ⟨fun hlt => ?_,fun hlt => ?_⟩
  · have hiT:=lt_of_dec hlt
    have wi:=wrapS (i:=i) (by omega)
    have hiL : i < d.L.length:=by omega
    have hck:=chk_at hiL
    obtain ⟨k,hk⟩ : ∃ k,T - i = k + 1:=⟨T - i - 1,by omega⟩
    have hk2 : T - (i + 1) = k:=by omega
    by_cases haw' : d.away = true
    rotate_left
    · have haw : d.away = false:=by simpa using haw'
      rw [haw] at hck
      simp only [Bool.false_eq_true,if_false] at hck
      have hg : d.L.getD i ⟨#[]⟩ = d.L[i]:=by rw [List.getD_eq_getElem?_getD,List.getElem?_eq_getElem hiL]; rfl
      have hrd : rdS d i = d.L[i]:=by rw [rdS,hck,Int.toNat_natCast,hg]; rfl
      by_cases hz : d.L[i] = zeB
      · have e1 : wipeD d (T - (i + 1)) (i + 1) = wipeD l.d (T - a) a:=by
          rw [← hw,hk,hk2,wipeD,haw,hg]; simp [hz]
        have done:=ih (i + 1,d) ⟨hiT,hd1,hl,e1⟩ (by simp only; omega)
        simp only [wpSt,lgM,hT] at done
        simp only [AH.SD,AH.SE,AOp.call?,AOp.next?,bstep,AV.cells,unAV,binAV,retQ,retV,AH.sliceElems,AH.bytesOf,AH.strOp,AH.bound,AH.missQ,AH.minmaxAV,AH.readOf,AH.effOf,simprocAttr,AH.SP,AH.PD,AV.inB,vstep,vw,shift,newOnes,rowsM,blkIn,rwB,@flat_lts,AV.lt,AV.lts,Nat.sub_self,AH.SO,lgR_eq,lgU_eq,Lg.eta,ne4,Bool.not_false,Bool.and_self,if_true,dkR_eq,dkB_eq,Dk.eta,ne_eq,Nat.reduceEqDiff,Nat.zero_ne_one,not_false_eq_true,drdT_p,drdA,hck,hrd,hz,errA_nil,tl_self,Bool.not_true,wi]
        refine gc_auto [0,1,2,3] [6,5,0] [] ?_
        simp only [AH.SD,AH.SE,AOp.call?,AOp.next?,bstep,AV.cells,unAV,binAV,retQ,retV,AH.sliceElems,AH.bytesOf,AH.strOp,AH.bound,AH.missQ,AH.minmaxAV,AH.readOf,AH.effOf,simprocAttr,AH.SP,AH.PD,AV.inB,vstep]
        exact done
      · have e2:=tl_ne hz
        have hkd:=wrD_kinds (s:=zeB) hiL zeB_sz
        have hok:=wr_ok hd1 i zeB
        have hln:=wr_len d i zeB
        have e3 : wipeD d (T - i) i = if (wrD d i zeB).1 = 0 then wipeD (wrD d i zeB).2 k (i + 1) else wrD d i zeB:=by
          rw [hk,wipeD,haw,hg]; simp [hz]
        rcases hkd with hkd | hkd
        · rw [if_pos hkd,← hk2] at e3
          have done:=ih (i + 1,(wrD d i zeB).2) ⟨hiT,hok,by simp only; omega,by simp only; rw [← hw,e3]⟩ (by simp only; omega)
          simp only [wpSt,lgM,hT] at done
          simp only [AH.SD,AH.SE,AOp.call?,AOp.next?,bstep,AV.cells,unAV,binAV,retQ,retV,AH.sliceElems,AH.bytesOf,AH.strOp,AH.bound,AH.missQ,AH.minmaxAV,AH.readOf,AH.effOf,simprocAttr,AH.SP,AH.PD,AV.inB,vstep,vw,shift,newOnes,rowsM,blkIn,rwB,@flat_lts,AV.lt,AV.lts,Nat.sub_self,AH.SO,lgR_eq,lgU_eq,Lg.eta,ne4,Bool.not_false,Bool.and_self,if_true,dkR_eq,dkB_eq,Dk.eta,ne_eq,Nat.reduceEqDiff,Nat.zero_ne_one,not_false_eq_true,drdT_p,drdA,hck,hrd,e2,errA_nil,Bool.not_false,writeNT_p,writeT_p,hd1,if_true,dkM,hkd,errA0,wi,errA_ren]
          refine gc_auto [0,1,2,3] [6,5,0] [] ?_
          simp only [AH.SD,AH.SE,AOp.call?,AOp.next?,bstep,AV.cells,unAV,binAV,retQ,retV,AH.sliceElems,AH.bytesOf,AH.strOp,AH.bound,AH.missQ,AH.minmaxAV,AH.readOf,AH.effOf,simprocAttr,AH.SP,AH.PD,AV.inB,vstep]
          exact done
        · rw [hkd,if_neg (by decide)] at e3
          have e4 : wipeD l.d (T - a) a = wrD d i zeB:=by rw [← hw,e3]
          simp only [AH.SD,AH.SE,AOp.call?,AOp.next?,bstep,AV.cells,unAV,binAV,retQ,retV,AH.sliceElems,AH.bytesOf,AH.strOp,AH.bound,AH.missQ,AH.minmaxAV,AH.readOf,AH.effOf,simprocAttr,AH.SP,AH.PD,AV.inB,vstep,vw,shift,newOnes,rowsM,blkIn,rwB,@flat_lts,AV.lt,AV.lts,Nat.sub_self,AH.SO,lgR_eq,lgU_eq,Lg.eta,ne4,Bool.not_false,Bool.and_self,if_true,dkR_eq,dkB_eq,Dk.eta,ne_eq,Nat.reduceEqDiff,Nat.zero_ne_one,not_false_eq_true,drdT_p,drdA,hck,hrd,e2,errA_nil,Bool.not_false,writeNT_p,writeT_p,hd1,if_true,dkM,hkd,errA14,errA_ren,e4,lgM,hT]
          try trivial
    · have haw : d.away = true:=haw'
      rw [haw] at hck
      simp only [if_true] at hck
      have e3 : wipeD l.d (T - a) a = (14,d):=by rw [← hw,hk,wipeD,haw]; rfl
      simp only [AH.SD,AH.SE,AOp.call?,AOp.next?,bstep,AV.cells,unAV,binAV,retQ,retV,AH.sliceElems,AH.bytesOf,AH.strOp,AH.bound,AH.missQ,AH.minmaxAV,AH.readOf,AH.effOf,simprocAttr,AH.SP,AH.PD,AV.inB,vstep,vw,shift,newOnes,rowsM,blkIn,rwB,@flat_lts,AV.lt,AV.lts,Nat.sub_self,AH.SO,lgR_eq,lgU_eq,Lg.eta,ne4,Bool.not_false,Bool.and_self,if_true,dkR_eq,dkB_eq,Dk.eta,ne_eq,Nat.reduceEqDiff,Nat.zero_ne_one,not_false_eq_true,drdT_p,drdA,hck,errA_nil,errA14,e3,lgM,hT]
      try trivial
  · have : i = T:=by
      have:=ge_of_dec hlt
      omega
    subst this
    have e3 : wipeD l.d (i - a) a = (0,d):=by rw [← hw,Nat.sub_self,wipeD]
    simp only [AH.SD,AH.SE,AOp.call?,AOp.next?,bstep,AV.cells,unAV,binAV,retQ,retV,AH.sliceElems,AH.bytesOf,AH.strOp,AH.bound,AH.missQ,AH.minmaxAV,AH.readOf,AH.effOf,simprocAttr,AH.SP,AH.PD,AV.inB,vstep,vw,shift,newOnes,rowsM,blkIn,rwB,@flat_lts,AV.lt,AV.lts,Nat.sub_self,AH.SO,e3,errA0,lgM,hT]
    try trivial
end Go.Proofs.YthapdikdeoeplaaGreatDoor.Z7
end
section
set_option linter.unusedVariables false
set_option linter.unnecessarySimpa false
open Go AH
set_option linter.unusedSimpArgs false
set_option maxRecDepth 100000
namespace Go.Proofs.YthapdikdeoeplaaGreatDoor.Z7
theorem cloneSt_ok : CallF S0 47 (cloneU 1):=clone_ok (bytes:=16) (z:=[.str ⟨#[]⟩]) errs0 mixed Tryz.func47 c47 rfl (by decide) (by decide)
theorem cloneSt_eq {l : List ByteArray} {m : Mem} {id : Nat} {cap : Option Nat} (hM : rowE (mget m) id = some (1,l.map strC)) (hl : l.length ≤ 1048576) :
    cloneU 1 [.slc id 0 l.length cap] m = some (.slc m.length 0 l.length none,m ++ [some (.row false 1 (l.map strC))]):=by
  have h1 : (l.map strC).take l.length = l.map strC:=take_all
  have h2 : (l.map strC).all (AV.lts 0) = true:=cStr.all_flat l
  simp only [cloneU,hM,List.drop_zero,h1,h2,hl,beq_self_eq_true,List.length_map,Nat.zero_add,Nat.le_refl,decide_true,Bool.and_self,cond_true]
theorem okRc : CtxOK S0 (ctxU S0 [] [(47,cloneU 1)]):=ctxU_ok trivial ⟨cloneSt_ok,trivial⟩ mixed
theorem records_ok (l : Lg) (h : l.R.length ≤ 1048576) : CallA1 S0 14 [.ptr 0 0 0] (lgM l) fun r m =>r = .slc 4 0 l.R.length none ∧ m = lgM l ++ [some (.row false 1 (l.R.map strC))]:=by
  refine CallA1.fin ?_
  refine fun_sound okRc Tryz.func14 c14 ?_
  unfold wpF F14
  simp only [AH.SD,AH.SE,AOp.call?,AOp.next?,bstep,AV.cells,unAV,binAV,retQ,retV,AH.sliceElems,AH.bytesOf,AH.strOp,AH.bound,AH.missQ,AH.minmaxAV,AH.readOf,AH.effOf,simprocAttr,lgM,cloneSt_eq,h]
  refine ⟨[0,1,2,3,4],[],?_⟩
  simp only [AH.SD,AH.SE,AOp.call?,AOp.next?,bstep,AV.cells,unAV,binAV,retQ,retV,AH.sliceElems,AH.bytesOf,AH.strOp,AH.bound,AH.missQ,AH.minmaxAV,AH.readOf,AH.effOf,simprocAttr,AH.SP,AH.PD,AV.inB,vstep]
  try trivial
def recsT : ET:=etO lgO c0 fun l _ =>if l.R.length ≤ 1048576 then some (.slc 4 0 l.R.length none,lgM l ++ [some (.row false 1 (l.R.map strC))]) else none
theorem recsT_ok : EffF S0 14 recsT:=etO_ok fun l x v m' h =>by
  split at h
  · rename_i hl
    simp only [Option.some.injEq,Prod.mk.injEq] at h
    obtain ⟨rfl,rfl⟩:=h
    exact ⟨⟨by simp [lgO,lgM],rfl⟩,records_ok l hl⟩
  · cases h
theorem recsT_p {p n : Nat} {M : Nat → Option Blk} : recsT [.ptr p 0 0] M n = etO2 n (fun (l : Lg) (_ : Unit) =>if l.R.length ≤ 1048576 then some (.slc 4 0 l.R.length none,lgM l ++ [some (.row false 1 (l.R.map strC))]) else none) (lgR M p (M p)) (some ()):=by
  simp only [recsT,etO_eq,c0_dec,lgO_dec]
theorem okLost : CtxOK S0 (ctxU S0 [(45,isT)] []):=ctxU_ok ⟨isT_ok,trivial⟩ trivial mixed
theorem isDown : ∀ M,isT [.err 13,.err 13] M = some (.bool true,[]):=fun M =>rfl
theorem lost_ok (l : Lg) : CallA1 S0 49 [.ptr 0 0 0,.err 13] (lgM l) fun r m =>r = .err 13 ∧ m = lgM { l with down:=true }:=by
  refine fun_sound okLost Tryz.func49 c49 ?_
  unfold wpF F49
  cases h : l.down
  · simp only [AH.SD,AH.SE,AOp.call?,AOp.next?,bstep,AV.cells,unAV,binAV,retQ,retV,AH.sliceElems,AH.bytesOf,AH.strOp,AH.bound,AH.missQ,AH.minmaxAV,AH.readOf,AH.effOf,simprocAttr,lgM,h,isDown]
  · simp only [AH.SD,AH.SE,AOp.call?,AOp.next?,bstep,AV.cells,unAV,binAV,retQ,retV,AH.sliceElems,AH.bytesOf,AH.strOp,AH.bound,AH.missQ,AH.minmaxAV,AH.readOf,AH.effOf,simprocAttr,lgM,h,isDown]
def decDn : AV → Option Unit
  | .err n =>if n = 13 then some () else none
  | _ =>none
theorem decDn_ok (v : AV) (a : Unit) (h : decDn v = some a) : v = .err 13:=by
  unfold decDn at h
  split at h
  · split at h
    · rename_i e; rw [e]
    · cases h
  · cases h
def aDn : Arg Unit:=⟨fun _ => .err 13,decDn,decDn_ok,fun _ =>rfl,fun _ =>rfl⟩
theorem aDn_dec : aDn.dec (.err 13) = some ():=rfl
def lostT : ET:=etO lgO (cC aDn c0) fun l _ =>some (.err 13,lgM { l with down:=true })
theorem lostT_ok : EffF S0 49 lostT:=etO_ok fun l x v m' h =>by
  simp only [Option.some.injEq,Prod.mk.injEq] at h
  obtain ⟨rfl,rfl⟩:=h
  exact ⟨⟨Nat.le_refl 4,rfl⟩,lost_ok l⟩
theorem lostT_p {p n : Nat} {M : Nat → Option Blk} : lostT [.ptr p 0 0,.err 13] M n = etO2 n (fun (l : Lg) (_ : Unit × Unit) =>some (.err 13,lgM { l with down:=true })) (lgR M p (M p)) (some ((),())):=by
  simp only [lostT,etO_eq,cC_dec,aDn_dec,c0_dec,pairO_some,lgO_dec]
def lgM2 (x : Option Blk) (l : Lg) : Mem:=[some (.row false 7 [[.ptr 1 0 0,.int .i64 l.f,.int .i64 l.t,.int .i64 l.b,.int .i64 l.a,.slc 4 0 l.R.length none,.bool l.down]]),
  some (.row false 5 [[.slc 2 0 l.d.L.length none,.bool l.d.away,.int .i64 l.d.fuse,.int .i64 l.d.torn,.int .i64 l.d.writes]]),some (.row false 1 (l.d.L.map strC)),x,some (.row false 1 (l.R.map strC))]
def wipeT : ET:=etO lgO (cC (aI .i64) c0) fun l x =>if l.ok ∧ 0 ≤ x.1 ∧ x.1 ≤ l.t then some (errA (wipeD l.d (l.t - x.1).toNat x.1.toNat).1,lgM { l with d:=(wipeD l.d (l.t - x.1).toNat x.1.toNat).2 }) else none
theorem wipeT_ok : EffF S0 44 wipeT:=etO_ok fun l x v m' h =>by
  split at h
  · rename_i hl
    simp only [Option.some.injEq,Prod.mk.injEq] at h
    obtain ⟨rfl,rfl⟩:=h
    obtain ⟨h1,h2,h3⟩:=hl
    obtain ⟨a,ha⟩:=Int.eq_ofNat_of_zero_le h2
    obtain ⟨T,hT⟩:=Int.eq_ofNat_of_zero_le (show 0 ≤ l.t by omega)
    have e1 : (l.t - x.1).toNat = T - a:=by omega
    have e2 : x.1.toNat = a:=by omega
    refine ⟨⟨Nat.le_refl 4,rfl⟩,?_⟩
    rw [e1,e2]
    have:=lwipe_ok l h1 a T hT (by omega)
    show CallA1 S0 _ [.ptr 0 0 0,.int .i64 x.1] (lgM l) _
    rw [ha]
    exact this
  · cases h
theorem wipeT_p {p n : Nat} {a : Int} {M : Nat → Option Blk} : wipeT [.ptr p 0 0,.int .i64 a] M n = etO2 n (fun (l : Lg) (x : Int × Unit) =>if l.ok ∧ 0 ≤ x.1 ∧ x.1 ≤ l.t then some (errA (wipeD l.d (l.t - x.1).toNat x.1.toNat).1,lgM { l with d:=(wipeD l.d (l.t - x.1).toNat x.1.toNat).2 }) else none) (lgR M p (M p)) (some (a,())):=by
  simp only [wipeT,etO_eq,cC_dec,aI_dec,c0_dec,pairO_some,lgO_dec]
noncomputable abbrev tRs : List (FuncId × RT):=[(41,isBaseT)]
noncomputable abbrev eRs : List (FuncId × ET):=[(44,wipeT),(49,lostT)]
theorem okRs : CtxOK S0 (ctxE S0 tRs [] eRs):=ctxE_ok ⟨isBaseT_ok,trivial⟩ trivial ⟨wipeT_ok,lostT_ok,trivial⟩ mixed
theorem Lg.ok.wipe {l : Lg} (h : l.ok) (k a : Nat) : ({ l with d:=(wipeD l.d k a).2 } : Lg).ok:=by
  obtain ⟨h1,h2,h3,h4,h5,h6,h7⟩:=h
  obtain ⟨g1,g2⟩:=wipe_ok k a h1
  exact ⟨g1,h2,h3,h4,h5,by simp only [g2]; exact h6,h7⟩
def rsM (l : Lg) (b : Int) : Mem:=if (rstL l b).1 = 0 then lgM2 (some (.row false 1 (l.R.map strC))) (rstL l b).2 else lgM (rstL l b).2
theorem reset_ok (l : Lg) (h : l.ok) (b : Int) : CallA1 S0 19 [.ptr 0 0 0,.int .i64 b] (lgM l) fun r m =>r = errA (rstL l b).1 ∧ m = rsM l b:=by
  have hf:=h.2.2.1
  have hft : l.f ≤ l.t:=by have:=h.2.2.2.1; have:=h.2.2.2.2.1; omega
  have hkd:=wipe_kind (l.t - l.f).toNat (d:=l.d) l.f.toNat (by have:=h.2.2.2.2.2.1; omega)
  obtain ⟨d,f,t,b0,a,R,down⟩:=l
  simp only at hf hft hkd
  refine CallA1.fin ?_
  refine fun_sound okRs Tryz.func19 c19 ?_
  unfold wpF F19
  by_cases hb : isBase b
  · have hb1 : decide (isBase b) = true:=decide_eq_true hb
    cases down
    · rcases hkd with hkd | hkd
      · have e : rstL ⟨d,f,t,b0,a,R,false⟩ b = (0,⟨(wipeD d (t - f).toNat f.toNat).2,f,t,b,f,[],false⟩):=by
          unfold rstL; rw [if_neg (by simpa using hb),if_neg (by simp),if_pos hkd]
        simp only [AH.SD,AH.SE,AOp.call?,AOp.next?,bstep,AV.cells,unAV,binAV,retQ,retV,AH.sliceElems,AH.bytesOf,AH.strOp,AH.bound,AH.missQ,AH.minmaxAV,AH.readOf,AH.effOf,simprocAttr,AH.SP,AH.PD,AV.inB,vstep,vw,shift,newOnes,rowsM,blkIn,rwB,@flat_lts,AV.lt,AV.lts,Nat.sub_self,AH.SO,lgM,isBaseT_p,hb1,lgR_eq,lgU_eq,Lg.eta,ne4,Bool.not_false,Bool.and_self,if_true,dkR_eq,dkB_eq,Dk.eta,ne_eq,Nat.reduceEqDiff,Nat.zero_ne_one,not_false_eq_true,wipeT_p,h,hf,hft,and_self,hkd,errA0,errA_nil,errA_ren]
        refine ⟨[0,1,2,3],[.cell 0 0 5 1],?_⟩
        simp only [AH.SD,AH.SE,AOp.call?,AOp.next?,bstep,AV.cells,unAV,binAV,retQ,retV,AH.sliceElems,AH.bytesOf,AH.strOp,AH.bound,AH.missQ,AH.minmaxAV,AH.readOf,AH.effOf,simprocAttr,AH.SP,AH.PD,AV.inB,vstep,e,rsM,errA0,lgM2]
        try simp
      · have e : rstL ⟨d,f,t,b0,a,R,false⟩ b = (14,⟨(wipeD d (t - f).toNat f.toNat).2,f,t,b0,a,R,true⟩):=by
          unfold rstL; rw [if_neg (by simpa using hb),if_neg (by simp),if_neg (by simp only [hkd]; decide)]; simp only [hkd]; rfl
        simp only [AH.SD,AH.SE,AOp.call?,AOp.next?,bstep,AV.cells,unAV,binAV,retQ,retV,AH.sliceElems,AH.bytesOf,AH.strOp,AH.bound,AH.missQ,AH.minmaxAV,AH.readOf,AH.effOf,simprocAttr,AH.SP,AH.PD,AV.inB,vstep,vw,shift,newOnes,rowsM,blkIn,rwB,@flat_lts,AV.lt,AV.lts,Nat.sub_self,AH.SO,lgM,isBaseT_p,hb1,lgR_eq,lgU_eq,Lg.eta,ne4,Bool.not_false,Bool.and_self,if_true,dkR_eq,dkB_eq,Dk.eta,ne_eq,Nat.reduceEqDiff,Nat.zero_ne_one,not_false_eq_true,wipeT_p,h,hf,hft,and_self,hkd,errA14,errA_nil,errA_ren,lostT_p]
        refine ⟨[0,1,2,3],[],?_⟩
        simp only [AH.SD,AH.SE,AOp.call?,AOp.next?,bstep,AV.cells,unAV,binAV,retQ,retV,AH.sliceElems,AH.bytesOf,AH.strOp,AH.bound,AH.missQ,AH.minmaxAV,AH.readOf,AH.effOf,simprocAttr,AH.SP,AH.PD,AV.inB,vstep,e,rsM,errA14,lgM,show ¬ ((14 : Nat) = 0) by decide,if_false]
        try simp
    · have e : rstL ⟨d,f,t,b0,a,R,true⟩ b = (14,⟨d,f,t,b0,a,R,true⟩):=by unfold rstL; rw [if_neg (by simpa using hb),if_pos rfl]
      simp only [AH.SD,AH.SE,AOp.call?,AOp.next?,bstep,AV.cells,unAV,binAV,retQ,retV,AH.sliceElems,AH.bytesOf,AH.strOp,AH.bound,AH.missQ,AH.minmaxAV,AH.readOf,AH.effOf,simprocAttr,AH.SP,AH.PD,AV.inB,vstep,vw,shift,newOnes,rowsM,blkIn,rwB,@flat_lts,AV.lt,AV.lts,Nat.sub_self,AH.SO,lgM,isBaseT_p,hb1]
      refine ⟨[0,1,2,3],[],?_⟩
      simp only [AH.SD,AH.SE,AOp.call?,AOp.next?,bstep,AV.cells,unAV,binAV,retQ,retV,AH.sliceElems,AH.bytesOf,AH.strOp,AH.bound,AH.missQ,AH.minmaxAV,AH.readOf,AH.effOf,simprocAttr,AH.SP,AH.PD,AV.inB,vstep,e,rsM,errA14,lgM,show ¬ ((14 : Nat) = 0) by decide,if_false]
      try simp
  · have hb1 : decide (isBase b) = false:=decide_eq_false hb
    have e : rstL ⟨d,f,t,b0,a,R,down⟩ b = (1,⟨d,f,t,b0,a,R,down⟩):=by unfold rstL; rw [if_pos hb]
    simp only [AH.SD,AH.SE,AOp.call?,AOp.next?,bstep,AV.cells,unAV,binAV,retQ,retV,AH.sliceElems,AH.bytesOf,AH.strOp,AH.bound,AH.missQ,AH.minmaxAV,AH.readOf,AH.effOf,simprocAttr,AH.SP,AH.PD,AV.inB,vstep,vw,shift,newOnes,rowsM,blkIn,rwB,@flat_lts,AV.lt,AV.lts,Nat.sub_self,AH.SO,lgM,isBaseT_p,hb1]
    refine ⟨[0,1,2,3],[],?_⟩
    simp only [AH.SD,AH.SE,AOp.call?,AOp.next?,bstep,AV.cells,unAV,binAV,retQ,retV,AH.sliceElems,AH.bytesOf,AH.strOp,AH.bound,AH.missQ,AH.minmaxAV,AH.readOf,AH.effOf,simprocAttr,AH.SP,AH.PD,AV.inB,vstep,e,rsM,errA1,lgM,show ¬ ((1 : Nat) = 0) by decide,if_false]
    try simp
end Go.Proofs.YthapdikdeoeplaaGreatDoor.Z7
end
section
set_option linter.unusedVariables false
set_option linter.unnecessarySimpa false
open Go AH
set_option linter.unusedSimpArgs false
set_option maxRecDepth 100000
namespace Go.Proofs.YthapdikdeoeplaaGreatDoor.Z7
theorem errA7 : errA 7 = .err 6:=rfl
def rsT : ET:=etO lgO (cC (aI .i64) c0) fun l x =>if l.ok then some (errA (rstL l x.1).1,rsM l x.1) else none
theorem rsM_len (l : Lg) (b : Int) : 4 ≤ (rsM l b).length ∧ ((rsM l b).drop 4).all rwB = true:=by
  unfold rsM
  split
  · exact ⟨by simp [lgM2],rfl⟩
  · exact ⟨by simp [lgM],rfl⟩
theorem rsT_ok : EffF S0 19 rsT:=etO_ok fun l x v m' h =>by
  split at h
  · rename_i hl
    simp only [Option.some.injEq,Prod.mk.injEq] at h
    obtain ⟨rfl,rfl⟩:=h
    exact ⟨rsM_len l x.1,reset_ok l hl x.1⟩
  · cases h
theorem rsT_p {p n : Nat} {b : Int} {M : Nat → Option Blk} : rsT [.ptr p 0 0,.int .i64 b] M n = etO2 n (fun (l : Lg) (x : Int × Unit) =>if l.ok then some (errA (rstL l x.1).1,rsM l x.1) else none) (lgR M p (M p)) (some (b,())):=by
  simp only [rsT,etO_eq,cC_dec,aI_dec,c0_dec,pairO_some,lgO_dec]
theorem reset_nil (b : Int) : Pure S0 19 [.nilp,.int .i64 b] (errA 2):=by
  refine fun_sound okRs Tryz.func19 c19 ?_
  unfold wpF F19
  simp only [AH.SD,AH.SE,AOp.call?,AOp.next?,bstep,AV.cells,unAV,binAV,retQ,retV,AH.sliceElems,AH.bytesOf,AH.strOp,AH.bound,AH.missQ,AH.minmaxAV,AH.readOf,AH.effOf,simprocAttr,errA2]
def rsN : RT:=rtP (cC aNil (cC (aI .i64) c0)) fun _ =>errA 2
theorem rsN_ok : ReadF S0 19 rsN:=rtP_ok (fun x =>reset_nil x.2.1) fun _ =>rfl
theorem rsN_p {p : Nat} {b : Int} {M : Nat → Option Blk} : rsN [.ptr p 0 0,.int .i64 b] M = none:=by
  simp only [rsN,rtP,cC_dec,aNil_ptr,pairO_none,Option.map_none]
noncomputable abbrev tAd : List (FuncId × RT):=[(50,sizeT),(16,roomT),(15,nextT),(52,writeNT)]
noncomputable abbrev eAd : List (FuncId × ET):=[(51,bksT),(52,writeT),(49,lostT)]
theorem okAd : CtxOK S0 (ctxE S0 tAd [] eAd):=ctxE_ok ⟨sizeT_ok,roomT_ok,nextT_ok,writeNT_ok,trivial⟩ trivial ⟨bksT_ok,writeT_ok,lostT_ok,trivial⟩ mixed
def adM (l : Lg) (s : ByteArray) : Mem:=if (addL l s).1 = 0 then lgM2 none (addL l s).2 else lgM (addL l s).2
def adSt (f t b a : Int) (R : List ByteArray) (s : ByteArray) (n : Nat) (B : List ByteArray) (x : Nat × Dk) : St:=⟨[(49,.int .i64 x.1),(48,.int .i64 n),(47,.slc 4 0 n none),(5,.slc 4 0 n none),(1,.str s),(0,.ptr 0 0 0)],lgM ⟨x.2,f,t,b,a,R,false⟩ ++ [some (.row false 1 (B.map strC))]⟩
set_option maxHeartbeats 8000000 in
theorem add_ok (l : Lg) (h : l.ok) (s : ByteArray) (hs : okSz s) : CallA1 S0 20 [.ptr 0 0 0,.str s] (lgM l) fun r m =>r = errA (addL l s).1 ∧ m = adM l s:=by
  have hd:=h.1
  have hb:=h.2.1
  have hf:=h.2.2.1
  have hfa:=h.2.2.2.1
  have hat:=h.2.2.2.2.1
  have htl:=h.2.2.2.2.2.1
  have hR:=h.2.2.2.2.2.2
  have hL:=hd.2.2.2
  refine CallA1.fin ?_
  refine fun_sound okAd Tryz.func20 c20 ?_
  unfold wpF F20
  cases h1 : decide ((s.size : Int) > 6000)
  rotate_left
  · have e : addL l s = (1,l):=by
      unfold addL; rw [if_pos (by simp only [decide_eq_true_eq] at h1; omega)]
    simp only [AH.SD,AH.SE,AOp.call?,AOp.next?,bstep,AV.cells,unAV,binAV,retQ,retV,AH.sliceElems,AH.bytesOf,AH.strOp,AH.bound,AH.missQ,AH.minmaxAV,AH.readOf,AH.effOf,simprocAttr,AH.SP,AH.PD,AV.inB,vstep,vw,shift,newOnes,rowsM,blkIn,rwB,@flat_lts,AV.lt,AV.lts,Nat.sub_self,AH.SO,lgM,h1]
    refine ⟨[0,1,2,3],[],?_⟩
    simp only [AH.SD,AH.SE,AOp.call?,AOp.next?,bstep,AV.cells,unAV,binAV,retQ,retV,AH.sliceElems,AH.bytesOf,AH.strOp,AH.bound,AH.missQ,AH.minmaxAV,AH.readOf,AH.effOf,simprocAttr,AH.SP,AH.PD,AV.inB,vstep,e,adM,errA1,lgM,show ¬ ((1 : Nat) = 0) by decide,if_false]
    try simp
  have hs6 : ¬ s.size > 6000:=by simp only [decide_eq_false_iff_not] at h1; omega
  cases h2 : decide ((sizeN s.size : Int) > l.room)
  rotate_left
  · have e : addL l s = (7,l):=by
      unfold addL; rw [if_neg hs6,if_pos (.inl (by simpa using h2))]
    simp only [AH.SD,AH.SE,AOp.call?,AOp.next?,bstep,AV.cells,unAV,binAV,retQ,retV,AH.sliceElems,AH.bytesOf,AH.strOp,AH.bound,AH.missQ,AH.minmaxAV,AH.readOf,AH.effOf,simprocAttr,AH.SP,AH.PD,AV.inB,vstep,vw,shift,newOnes,rowsM,blkIn,rwB,@flat_lts,AV.lt,AV.lts,Nat.sub_self,AH.SO,lgM,h1,lgR_eq,lgU_eq,Lg.eta,ne4,Bool.not_false,Bool.and_self,if_true,dkR_eq,dkB_eq,Dk.eta,ne_eq,Nat.reduceEqDiff,Nat.zero_ne_one,not_false_eq_true,sizeT_q hs,roomT_p,h,h2]
    refine ⟨[0,1,2,3],[],?_⟩
    simp only [AH.SD,AH.SE,AOp.call?,AOp.next?,bstep,AV.cells,unAV,binAV,retQ,retV,AH.sliceElems,AH.bytesOf,AH.strOp,AH.bound,AH.missQ,AH.minmaxAV,AH.readOf,AH.effOf,simprocAttr,AH.SP,AH.PD,AV.inB,vstep,e,adM,errA7,lgM,show ¬ ((7 : Nat) = 0) by decide,if_false]
    try simp
  cases h3 : decide (l.next ≥ 1073741824)
  rotate_left
  · have e : addL l s = (7,l):=by
      unfold addL; rw [if_neg hs6,if_pos (.inr (by simpa using h3))]
    simp only [AH.SD,AH.SE,AOp.call?,AOp.next?,bstep,AV.cells,unAV,binAV,retQ,retV,AH.sliceElems,AH.bytesOf,AH.strOp,AH.bound,AH.missQ,AH.minmaxAV,AH.readOf,AH.effOf,simprocAttr,AH.SP,AH.PD,AV.inB,vstep,vw,shift,newOnes,rowsM,blkIn,rwB,@flat_lts,AV.lt,AV.lts,Nat.sub_self,AH.SO,lgM,h1,lgR_eq,lgU_eq,Lg.eta,ne4,Bool.not_false,Bool.and_self,if_true,dkR_eq,dkB_eq,Dk.eta,ne_eq,Nat.reduceEqDiff,Nat.zero_ne_one,not_false_eq_true,sizeT_q hs,roomT_p,nextT_p,h,h2,h3]
    refine ⟨[0,1,2,3],[],?_⟩
    simp only [AH.SD,AH.SE,AOp.call?,AOp.next?,bstep,AV.cells,unAV,binAV,retQ,retV,AH.sliceElems,AH.bytesOf,AH.strOp,AH.bound,AH.missQ,AH.minmaxAV,AH.readOf,AH.effOf,simprocAttr,AH.SP,AH.PD,AV.inB,vstep,e,adM,errA7,lgM,show ¬ ((7 : Nat) = 0) by decide,if_false]
    try simp
  have h23 : ¬ ((sizeN s.size : Int) > l.room ∨ l.next ≥ 1073741824):=by
    simp only [decide_eq_false_iff_not] at h2 h3
    exact fun q =>q.elim h2 h3
  have hn1:=sizeN_pos s.size
  have hbl : okBl (l.next,s,()):=by
    simp only [decide_eq_false_iff_not] at h3
    refine ⟨?_,?_,?_⟩
    · show 1 ≤ l.next; unfold Lg.next; have:=hb.1; omega
    · show l.next ≤ 2147483647; omega
    · show s.size ≤ 6000; omega
  have hroom : (sizeN s.size : Int) ≤ l.t - l.a:=by have e : l.room = l.t - l.a:=rfl; simp only [decide_eq_false_iff_not] at h2; omega
  have hsz:=blkL_sz (q:=l.next) (s:=s) (n:=sizeN s.size) (Nat.le_refl _)
  have hlen:=blkL_len l.next s (sizeN s.size)
  obtain ⟨A,hA⟩:=Int.eq_ofNat_of_zero_le (show 0 ≤ l.a by omega)
  have hnx : l.next = l.b + (l.R.length : Int) + 1:=rfl
  have hrm : l.room = l.t - l.a:=rfl
  obtain ⟨d,f,t,b,a,R,down⟩:=l
  simp only at hd hb hf hfa hat htl hR hL hroom hA hnx hrm
  cases down
  rotate_left
  · have e : addL ⟨d,f,t,b,a,R,true⟩ s = (14,⟨d,f,t,b,a,R,true⟩):=by
      unfold addL; rw [if_neg hs6,if_neg h23,if_pos rfl]
    simp only [AH.SD,AH.SE,AOp.call?,AOp.next?,bstep,AV.cells,unAV,binAV,retQ,retV,AH.sliceElems,AH.bytesOf,AH.strOp,AH.bound,AH.missQ,AH.minmaxAV,AH.readOf,AH.effOf,simprocAttr,AH.SP,AH.PD,AV.inB,vstep,vw,shift,newOnes,rowsM,blkIn,rwB,@flat_lts,AV.lt,AV.lts,Nat.sub_self,AH.SO,lgM,h1,lgR_eq,lgU_eq,Lg.eta,ne4,Bool.not_false,Bool.and_self,if_true,dkR_eq,dkB_eq,Dk.eta,ne_eq,Nat.reduceEqDiff,Nat.zero_ne_one,not_false_eq_true,sizeT_q hs,roomT_p,nextT_p,h,h2,h3]
    refine ⟨[0,1,2,3],[],?_⟩
    simp only [AH.SD,AH.SE,AOp.call?,AOp.next?,bstep,AV.cells,unAV,binAV,retQ,retV,AH.sliceElems,AH.bytesOf,AH.strOp,AH.bound,AH.missQ,AH.minmaxAV,AH.readOf,AH.effOf,simprocAttr,AH.SP,AH.PD,AV.inB,vstep,e,adM,errA14,lgM,show ¬ ((14 : Nat) = 0) by decide,if_false]
    try simp
  · have e0 : addL ⟨d,f,t,b,a,R,false⟩ s = if (layD d A (blkL (Lg.next ⟨d,f,t,b,a,R,false⟩) s (sizeN s.size))).1 = 0 then (0,⟨(layD d A (blkL (Lg.next ⟨d,f,t,b,a,R,false⟩) s (sizeN s.size))).2,f,t,b,a + sizeN s.size,R ++ [s],false⟩) else
        ((layD d A (blkL (Lg.next ⟨d,f,t,b,a,R,false⟩) s (sizeN s.size))).1,⟨(layD d A (blkL (Lg.next ⟨d,f,t,b,a,R,false⟩) s (sizeN s.size))).2,f,t,b,a,R,(layD d A (blkL (Lg.next ⟨d,f,t,b,a,R,false⟩) s (sizeN s.size))).1 == 14⟩):=by
      unfold addL; rw [if_neg hs6,if_neg h23,if_neg (by simp)]
      simp only [show a.toNat = A by omega]
    simp only [AH.SD,AH.SE,AOp.call?,AOp.next?,bstep,AV.cells,unAV,binAV,retQ,retV,AH.sliceElems,AH.bytesOf,AH.strOp,AH.bound,AH.missQ,AH.minmaxAV,AH.readOf,AH.effOf,simprocAttr,AH.SP,AH.PD,AV.inB,vstep,vw,shift,newOnes,rowsM,blkIn,rwB,@flat_lts,AV.lt,AV.lts,Nat.sub_self,AH.SO,lgM,h1,lgR_eq,lgU_eq,Lg.eta,ne4,Bool.not_false,Bool.and_self,if_true,dkR_eq,dkB_eq,Dk.eta,ne_eq,Nat.reduceEqDiff,Nat.zero_ne_one,not_false_eq_true,sizeT_q hs,roomT_p,nextT_p,h,h2,h3,bksT_p,hbl]
    clear hbl h23 h1 h2 h3
    generalize hB : blkL (Lg.next ⟨d,f,t,b,a,R,false⟩) s (sizeN s.size) = B at *
    generalize hN : sizeN s.size = N at *
    clear h hnx hrm hB
    refine loop_do [0,1,2,3,4] [49,48,47,5,1,0] [] (α:=Nat × Dk) (fun x =>N - x.1) (adSt f t b a R s N B) (fun x =>x.1 ≤ N ∧ x.2.ok ∧ x.2.L.length = d.L.length ∧ layD x.2 (A + x.1) (B.drop x.1) = layD d A B) (0,d) ⟨Nat.zero_le _,hd,rfl,rfl⟩ (by simp only [AH.SD,AH.SE,AOp.call?,AOp.next?,bstep,AV.cells,unAV,binAV,retQ,retV,AH.sliceElems,AH.bytesOf,AH.strOp,AH.bound,AH.missQ,AH.minmaxAV,AH.readOf,AH.effOf,simprocAttr,AH.SP,AH.PD,AV.inB,vstep,adSt,lgM,List.cons_append,List.nil_append]) ?_
    rintro X ⟨i,d1⟩ ⟨hi,hd1,hl1,hy⟩ ih
    simp only at hi hd1 hl1 hy
    simp only [AH.SD,AH.SE,AOp.call?,AOp.next?,bstep,AV.cells,unAV,binAV,retQ,retV,AH.sliceElems,AH.bytesOf,AH.strOp,AH.bound,AH.missQ,AH.minmaxAV,AH.readOf,AH.effOf,simprocAttr,AH.SP,AH.PD,AV.inB,vstep,vw,shift,newOnes,rowsM,blkIn,rwB,@flat_lts,AV.lt,AV.lts,Nat.sub_self,AH.SO,adSt,lgM,List.cons_append,List.nil_append]
    refine ⟨fun hlt => ?_,fun hlt => ?_⟩
    · have hiN:=lt_of_dec hlt
      have hiB : i < B.length:=by omega
      have wi:=wrapS (i:=i) (by omega)
      have hAi : A + i < d1.L.length:=by omega
      have wA : IntKind.i64.wrap (a + (i : Int)) = ((A + i : Nat) : Int):=by rw [IntKind.wrap_i64]; omega
      have hgi : (B.map strC).getD i [] = strC B[i]:=getD_enc hiB
      have hBi : B[i].size = 64:=hsz _ (List.getElem_mem hiB)
      have hkd:=wrD_kinds (s:=B[i]) hAi hBi
      have hok:=wr_ok hd1 ((A + i : Nat) : Int) B[i]
      have hln:=wr_len d1 ((A + i : Nat) : Int) B[i]
      rw [List.drop_eq_getElem_cons hiB,layD] at hy
      rcases hkd with hkd | hkd
      · rw [if_pos hkd] at hy
        have done:=ih (i + 1,(wrD d1 ((A + i : Nat) : Int) B[i]).2) ⟨hiN,hok,by simp only; omega,hy⟩ (by simp only; omega)
        simp only [adSt,lgM,List.cons_append,List.nil_append] at done
        simp only [AH.SD,AH.SE,AOp.call?,AOp.next?,bstep,AV.cells,unAV,binAV,retQ,retV,AH.sliceElems,AH.bytesOf,AH.strOp,AH.bound,AH.missQ,AH.minmaxAV,AH.readOf,AH.effOf,simprocAttr,AH.SP,AH.PD,AV.inB,vstep,vw,shift,newOnes,rowsM,blkIn,rwB,@flat_lts,AV.lt,AV.lts,Nat.sub_self,AH.SO,lgR_eq,lgU_eq,Lg.eta,ne4,Bool.not_false,Bool.and_self,if_true,dkR_eq,dkB_eq,Dk.eta,ne_eq,Nat.reduceEqDiff,Nat.zero_ne_one,not_false_eq_true,hgi,strC_eq,wA,writeNT_p,writeT_p,hd1,dkM,hkd,errA0,errA_ren,wi,List.length_map,hlen,Int.toNat_natCast]
        repeat ((with_reducible refine And.intro ?_ ?_); focus (first | rfl | decide | omega | (simp only [List.length_map,List.length_set,and_true]; omega)))
        try simp only [AH.SD,AH.SE,AOp.call?,AOp.next?,bstep,AV.cells,unAV,binAV,retQ,retV,AH.sliceElems,AH.bytesOf,AH.strOp,AH.bound,AH.missQ,AH.minmaxAV,AH.readOf,AH.effOf,simprocAttr,AH.SP,AH.PD,AV.inB,vstep,vw,shift,newOnes,rowsM,blkIn,rwB,@flat_lts,AV.lt,AV.lts,Nat.sub_self,AH.SO,lgR_eq,lgU_eq,Lg.eta,ne4,Bool.not_false,Bool.and_self,if_true,dkR_eq,dkB_eq,Dk.eta,ne_eq,Nat.reduceEqDiff,Nat.zero_ne_one,not_false_eq_true,hgi,strC_eq,wA,writeNT_p,writeT_p,hd1,dkM,hkd,errA0,errA_ren,wi,List.length_map,hlen,Int.toNat_natCast]
        refine gc_auto [0,1,2,3,4] [49,48,47,5,1,0] [] ?_
        simp only [AH.SD,AH.SE,AOp.call?,AOp.next?,bstep,AV.cells,unAV,binAV,retQ,retV,AH.sliceElems,AH.bytesOf,AH.strOp,AH.bound,AH.missQ,AH.minmaxAV,AH.readOf,AH.effOf,simprocAttr,AH.SP,AH.PD,AV.inB,vstep]
        exact done
      · rw [hkd,if_neg (by decide)] at hy
        have e : addL ⟨d,f,t,b,a,R,false⟩ s = (14,⟨(wrD d1 ((A + i : Nat) : Int) B[i]).2,f,t,b,a,R,true⟩):=by
          rw [e0,← hy,if_neg (by rw [hkd]; decide),hkd]; rfl
        simp only [AH.SD,AH.SE,AOp.call?,AOp.next?,bstep,AV.cells,unAV,binAV,retQ,retV,AH.sliceElems,AH.bytesOf,AH.strOp,AH.bound,AH.missQ,AH.minmaxAV,AH.readOf,AH.effOf,simprocAttr,AH.SP,AH.PD,AV.inB,vstep,vw,shift,newOnes,rowsM,blkIn,rwB,@flat_lts,AV.lt,AV.lts,Nat.sub_self,AH.SO,lgR_eq,lgU_eq,Lg.eta,ne4,Bool.not_false,Bool.and_self,if_true,dkR_eq,dkB_eq,Dk.eta,ne_eq,Nat.reduceEqDiff,Nat.zero_ne_one,not_false_eq_true,hgi,strC_eq,wA,writeNT_p,writeT_p,hd1,dkM,hkd,errA14,errA_ren,wi,List.length_map,hlen,Int.toNat_natCast,lostT_p,lgM]
        repeat ((with_reducible refine And.intro ?_ ?_); focus (first | rfl | decide | omega | (simp only [List.length_map,List.length_set,and_true]; omega)))
        try simp only [AH.SD,AH.SE,AOp.call?,AOp.next?,bstep,AV.cells,unAV,binAV,retQ,retV,AH.sliceElems,AH.bytesOf,AH.strOp,AH.bound,AH.missQ,AH.minmaxAV,AH.readOf,AH.effOf,simprocAttr,AH.SP,AH.PD,AV.inB,vstep,vw,shift,newOnes,rowsM,blkIn,rwB,@flat_lts,AV.lt,AV.lts,Nat.sub_self,AH.SO,lgR_eq,lgU_eq,Lg.eta,ne4,Bool.not_false,Bool.and_self,if_true,dkR_eq,dkB_eq,Dk.eta,ne_eq,Nat.reduceEqDiff,Nat.zero_ne_one,not_false_eq_true,hgi,strC_eq,wA,writeNT_p,writeT_p,hd1,dkM,hkd,errA14,errA_ren,wi,List.length_map,hlen,Int.toNat_natCast,lostT_p,lgM]
        refine ⟨[0,1,2,3],[],?_⟩
        simp only [AH.SD,AH.SE,AOp.call?,AOp.next?,bstep,AV.cells,unAV,binAV,retQ,retV,AH.sliceElems,AH.bytesOf,AH.strOp,AH.bound,AH.missQ,AH.minmaxAV,AH.readOf,AH.effOf,simprocAttr,AH.SP,AH.PD,AV.inB,vstep,e,adM,errA14,lgM,show ¬ ((14 : Nat) = 0) by decide,if_false]
        try simp
    · have : i = N:=by
        have:=ge_of_dec hlt
        omega
      subst this
      rw [List.drop_eq_nil_of_le (by omega),layD] at hy
      have e : addL ⟨d,f,t,b,a,R,false⟩ s = (0,⟨d1,f,t,b,a + i,R ++ [s],false⟩):=by rw [e0,← hy,if_pos rfl]
      have wA : IntKind.i64.wrap (a + (i : Int)) = a + (i : Int):=by rw [IntKind.wrap_i64]; omega
      have hRl : R.length ≤ 4096:=by omega
      simp only [AH.SD,AH.SE,AOp.call?,AOp.next?,bstep,AV.cells,unAV,binAV,retQ,retV,AH.sliceElems,AH.bytesOf,AH.strOp,AH.bound,AH.missQ,AH.minmaxAV,AH.readOf,AH.effOf,simprocAttr,AH.SP,AH.PD,AV.inB,vstep,vw,shift,newOnes,rowsM,blkIn,rwB,@flat_lts,AV.lt,AV.lts,Nat.sub_self,AH.SO,wA,List.length_map,Int.toNat_natCast,List.drop_zero,take_all,List.length_append,List.length_cons,List.length_nil,Nat.zero_add]
      repeat ((with_reducible refine And.intro ?_ ?_); focus (first | rfl | decide | omega | (simp only [List.length_map,List.length_set,and_true]; omega)))
      try simp only [AH.SD,AH.SE,AOp.call?,AOp.next?,bstep,AV.cells,unAV,binAV,retQ,retV,AH.sliceElems,AH.bytesOf,AH.strOp,AH.bound,AH.missQ,AH.minmaxAV,AH.readOf,AH.effOf,simprocAttr,AH.SP,AH.PD,AV.inB,vstep,vw,shift,newOnes,rowsM,blkIn,rwB,@flat_lts,AV.lt,AV.lts,Nat.sub_self,AH.SO,wA,List.length_map,Int.toNat_natCast,List.drop_zero,take_all,List.length_append,List.length_cons,List.length_nil,Nat.zero_add]
      refine ⟨[0,1,2,3,6],[],?_⟩
      simp only [AH.SD,AH.SE,AOp.call?,AOp.next?,bstep,AV.cells,unAV,binAV,retQ,retV,AH.sliceElems,AH.bytesOf,AH.strOp,AH.bound,AH.missQ,AH.minmaxAV,AH.readOf,AH.effOf,simprocAttr,AH.SP,AH.PD,AV.inB,vstep,e,adM,errA0,lgM2,List.map_append,List.map_cons,List.map_nil,strC_eq,List.length_append,List.length_cons,List.length_nil,Nat.zero_add,List.all_append,List.all_cons,List.all_nil]
      try simp
theorem adM_len (l : Lg) (s : ByteArray) : 4 ≤ (adM l s).length ∧ ((adM l s).drop 4).all rwB = true:=by
  unfold adM
  split
  · exact ⟨by simp [lgM2],rfl⟩
  · exact ⟨by simp [lgM],rfl⟩
def adT : ET:=etO lgO (cC aS c0) fun l x =>if l.ok ∧ okSz x.1 then some (errA (addL l x.1).1,adM l x.1) else none
theorem adT_ok : EffF S0 20 adT:=etO_ok fun l x v m' h =>by
  split at h
  · rename_i hl
    simp only [Option.some.injEq,Prod.mk.injEq] at h
    obtain ⟨rfl,rfl⟩:=h
    exact ⟨adM_len l x.1,add_ok l hl.1 x.1 hl.2⟩
  · cases h
theorem adT_p {p n : Nat} {s : ByteArray} {M : Nat → Option Blk} : adT [.ptr p 0 0,.str s] M n = etO2 n (fun (l : Lg) (x : ByteArray × Unit) =>if l.ok ∧ okSz x.1 then some (errA (addL l x.1).1,adM l x.1) else none) (lgR M p (M p)) (some (s,())):=by
  simp only [adT,etO_eq,cC_dec,aS_dec,c0_dec,pairO_some,lgO_dec]
theorem add_nil (s : ByteArray) : Pure S0 20 [.nilp,.str s] (errA 2):=by
  refine fun_sound okAd Tryz.func20 c20 ?_
  unfold wpF F20
  simp only [AH.SD,AH.SE,AOp.call?,AOp.next?,bstep,AV.cells,unAV,binAV,retQ,retV,AH.sliceElems,AH.bytesOf,AH.strOp,AH.bound,AH.missQ,AH.minmaxAV,AH.readOf,AH.effOf,simprocAttr,errA2]
def adN : RT:=rtP (cC aNil (cC aS c0)) fun _ =>errA 2
theorem adN_ok : ReadF S0 20 adN:=rtP_ok (fun x =>add_nil x.2.1) fun _ =>rfl
theorem adN_p {p : Nat} {s : ByteArray} {M : Nat → Option Blk} : adN [.ptr p 0 0,.str s] M = none:=by
  simp only [adN,rtP,cC_dec,aNil_ptr,pairO_none,Option.map_none]
end Go.Proofs.YthapdikdeoeplaaGreatDoor.Z7
end
section
set_option linter.unusedVariables false
set_option linter.unnecessarySimpa false
open Go AH
namespace Go.Proofs.YthapdikdeoeplaaGreatDoor.Z7
end Go.Proofs.YthapdikdeoeplaaGreatDoor.Z7
end
section
set_option linter.unusedVariables false
set_option linter.unnecessarySimpa false
open Go AH
set_option linter.unusedSimpArgs false
set_option maxRecDepth 100000
namespace Go.Proofs.YthapdikdeoeplaaGreatDoor.Z7
def nf1 {α : Type} (k : Nat) (c : Cod α) (f : List α → AV) (h : List α → Mem) : NF:=fun args rows =>match args,rows with
  | [.slc i1 j1 n1 q1],[(w1,es1)] =>match c.decL es1 with
    | some l1 =>bif i1 == 0 && (j1 == 0 && (q1.isNone && (w1 == k && (n1 == l1.length && decide (n1 ≤ 1048576))))) then some (f l1,h l1) else none
    | none =>none
  | _,_ =>none
theorem nf1_ok {α : Type} {g : FuncId} {k : Nat} {c : Cod α} {f : List α → AV} {h : List α → Mem} (he : S0.errs ≠ [])
    (H : ∀ l,l.length ≤ 1048576 → (f l).inB (fun j =>decide (1 ≤ j)) = true ∧ (h l).all (blkIn fun j =>decide (1 ≤ j)) = true ∧ (h l).all rwB = true ∧
      CallA1 S0 g [.slc 0 0 l.length none] [some (.row true k (l.map c.enc))] fun r m' =>r = f l ∧ m' = [some (.row true k (l.map c.enc))] ++ h l) :
    CallF S0 g (utN [k] (nf1 k c f h)):=by
  refine utN_ok he fun args rows v news e => ?_
  unfold nf1 at e
  split at e
  · rename_i i1 j1 n1 q1 w1 es1
    split at e
    · rename_i l1 h1
      cases hc : i1 == 0 && (j1 == 0 && (q1.isNone && (w1 == k && (n1 == l1.length && decide (n1 ≤ 1048576))))) with
      | false =>rw [hc] at e; cases e
      | true =>
        rw [hc] at e
        simp only [cond_true,Option.some.injEq,Prod.mk.injEq] at e
        obtain ⟨rfl,rfl⟩:=e
        simp only [Bool.and_eq_true,beq_iff_eq,decide_eq_true_eq] at hc
        obtain ⟨rfl,rfl,hp1,rfl,rfl,hb1⟩:=hc
        have : q1 = none:=by simpa using hp1
        subst this
        rw [c.decL_ok h1]
        exact H l1 hb1
    · cases e
  · cases e
theorem nf1_eq {α : Type} {k : Nat} {c : Cod α} {f : List α → AV} {h : List α → Mem} {id ix n : Nat} {p : Option Nat} {m : Mem} {es : List (List AV)} {l : List α}
    (hM : rowE (mget m) id = some (k,es)) (hs : (es.drop ix).take n = l.map c.enc) (hle : ix + n ≤ es.length) (hb : n ≤ 1048576) :
    utN [k] (nf1 k c f h) [.slc id ix n p] m = some ((f l).ren (shift m.length 1),m ++ newOnes (shift m.length 1) (h l)):=by
  obtain ⟨ro,hM⟩:=rowE_some hM
  have hn : n = l.length:=by
    have:=congrArg List.length hs
    rw [List.length_take,List.length_drop,List.length_map] at this
    omega
  have hv : vw (mget m) [k] [.slc id ix n p] 0 = some ([.slc 0 0 n none],[(k,l.map c.enc)],[id]):=by
    simp only [vw,hM,beq_self_eq_true,hle,decide_true,hs,c.all_flat,Bool.and_self,cond_true,Option.map_some]
  simp only [utN,hv,useN,nf1,c.decL_map]
  subst hn
  simp [hb]
end Go.Proofs.YthapdikdeoeplaaGreatDoor.Z7
end
section
set_option linter.unusedVariables false
set_option linter.unnecessarySimpa false
open Go AH
set_option linter.unusedSimpArgs false
set_option maxRecDepth 100000
namespace Go.Proofs.YthapdikdeoeplaaGreatDoor.Z7
theorem rdA_ren (x : Rd) (h : x.bad = -1) (ρ : Nat → Nat) : (rdA x).ren ρ = .tup [.str x.t,.int .i64 x.q,.int .i64 x.n,.nili]:=by
  rw [rdA,h]; rfl
def rdNew (x : Rd) : Mem:=bif x.bad == -1 then [] else wrM x.bad
def frdU : UT:=utN [1] (nf1 1 cStr (fun l =>rdA (rdZ l)) fun l =>rdNew (rdZ l))
theorem frdU_ok : CallF S0 60 frdU:=nf1_ok errs0 fun l hl =>by
  refine ⟨?_,?_,?_,?_⟩
  · unfold rdA; cases (rdZ l).bad == -1 <;> rfl
  · unfold rdNew; cases (rdZ l).bad == -1 <;> rfl
  · unfold rdNew; cases (rdZ l).bad == -1 <;> rfl
  · exact read_ok l hl
theorem frdU_good {id ix n : Nat} {p : Option Nat} {m : Mem} {es : List (List AV)} {l : List ByteArray} (hM : rowE (mget m) id = some (1,es)) (hs : (es.drop ix).take n = l.map strC) (hle : ix + n ≤ es.length) (hb : n ≤ 1048576) (hg : (rdZ l).bad = -1) :
    frdU [.slc id ix n p] m = some (.tup [.str (rdZ l).t,.int .i64 (rdZ l).q,.int .i64 (rdZ l).n,.nili],m):=by
  rw [frdU,nf1_eq (c:=cStr) hM hs hle hb,rdA_ren _ hg,rdNew,hg]
  simp [newOnes]
theorem frdU_bad {id ix n : Nat} {p : Option Nat} {m : Mem} {es : List (List AV)} {l : List ByteArray} (hM : rowE (mget m) id = some (1,es)) (hs : (es.drop ix).take n = l.map strC) (hle : ix + n ≤ es.length) (hb : n ≤ 1048576) (hg : (rdZ l).bad ≠ -1) :
    frdU [.slc id ix n p] m = some (.tup [.str (rdZ l).t,.int .i64 (rdZ l).q,.int .i64 (rdZ l).n,.ifc 131 (.ptr m.length 0 0)],m ++ wrM (rdZ l).bad):=by
  have h : ((rdZ l).bad == -1) = false:=by simpa using hg
  rw [frdU,nf1_eq (c:=cStr) hM hs hle hb,rdA,rdNew,h]
  simp [newOnes,wrM,shift,AV.ren,AV.rens,Blk.ren]
theorem rowE3 {a b c : Option Blk} {ro : Bool} {k : Nat} {es : List (List AV)} {r : Mem} : rowE (mget (a :: b :: c :: some (.row ro k es) :: r)) 3 = some (k,es):=by cases r <;> rfl
def opM (d : Dk) (f t b a : Int) (rc : AV) : Mem:=[some (.row false 5 [[.slc 1 0 d.L.length none,.bool d.away,.int .i64 d.fuse,.int .i64 d.torn,.int .i64 d.writes]]),some (.row false 1 (d.L.map strC)),
  some (.row false 7 [[.ptr 0 0 0,.int .i64 f,.int .i64 t,.int .i64 b,.int .i64 a,rc,.bool false]])]
def bloSt (d : Dk) (F T : Nat) (b : Int) (i : Nat) : St:=⟨[(5,.int .i64 i),(4,.slc 3 0 (i - F) none),(0,.ptr 2 0 0)],opM d F T b F .nils ++ [some (.row false 1 (((d.L.drop F).take (i - F)).map strC))]⟩
noncomputable abbrev tBl : List (FuncId × RT):=[(59,drdT)]
theorem okBlo : CtxOK S0 (ctxU S0 tBl []):=ctxU_ok ⟨drdT_ok,trivial⟩ trivial mixed
theorem part_snoc {L : List ByteArray} {F i : Nat} (h1 : F ≤ i) (h2 : i < L.length) : (L.drop F).take (i + 1 - F) = (L.drop F).take (i - F) ++ [L[i]]:=by
  have h3 : i - F < (L.drop F).length:=by rw [List.length_drop]; omega
  have h4 : (L.drop F)[i - F] = L[i]:=by rw [List.getElem_drop]; congr 1; omega
  rw [show i + 1 - F = (i - F) + 1 by omega,List.take_succ_eq_append_getElem h3,h4]
theorem blocks_on (d : Dk) (hd : d.ok) (ha : d.away = false) (F T : Nat) (b : Int) (h1 : F < T) (h2 : T ≤ d.L.length) : CallA1 S0 42 [.ptr 2 0 0] (opM d F T b F .nils)
    fun r m =>r = .tup [.slc 3 0 (T - F) none,.nili] ∧ m = opM d F T b F .nils ++ [some (.row false 1 (((d.L.drop F).take (T - F)).map strC))]:=by
  have hL:=hd.2.2.2
  refine CallA1.fin ?_
  refine fun_sound okBlo Tryz.func42 c42 ?_
  unfold wpF F42
  simp only [AH.SD,AH.SE,AOp.call?,AOp.next?,bstep,AV.cells,unAV,binAV,retQ,retV,AH.sliceElems,AH.bytesOf,AH.strOp,AH.bound,AH.missQ,AH.minmaxAV,AH.readOf,AH.effOf,simprocAttr,AH.SP,AH.PD,AV.inB,vstep,vw,shift,newOnes,rowsM,blkIn,rwB,@flat_lts,AV.lt,AV.lts,Nat.sub_self,AH.SO,opM]
  refine loop_do [0,1,2] [5,4,0] [.tm 4 1] (α:=Nat) (fun i =>T - i) (bloSt d F T b) (fun i =>F ≤ i ∧ i ≤ T) F ⟨Nat.le_refl _,by omega⟩ (by simp only [AH.SD,AH.SE,AOp.call?,AOp.next?,bstep,AV.cells,unAV,binAV,retQ,retV,AH.sliceElems,AH.bytesOf,AH.strOp,AH.bound,AH.missQ,AH.minmaxAV,AH.readOf,AH.effOf,simprocAttr,AH.SP,AH.PD,AV.inB,vstep,bloSt,opM,Nat.sub_self,List.take_zero,List.map_nil,List.cons_append,List.nil_append]) ?_
  intro X i ⟨hi1,hi2⟩ ih
  simp only [AH.SD,AH.SE,AOp.call?,AOp.next?,bstep,AV.cells,unAV,binAV,retQ,retV,AH.sliceElems,AH.bytesOf,AH.strOp,AH.bound,AH.missQ,AH.minmaxAV,AH.readOf,AH.effOf,simprocAttr,AH.SP,AH.PD,AV.inB,vstep,vw,shift,newOnes,rowsM,blkIn,rwB,@flat_lts,AV.lt,AV.lts,Nat.sub_self,AH.SO,bloSt,opM,List.cons_append,List.nil_append]
  refine ⟨fun hlt => ?_,fun hlt => ?_⟩
  · have hiT:=lt_of_dec hlt
    have wi:=wrapS (i:=i) (by omega)
    have hiL : i < d.L.length:=by omega
    have hck:=chk_at hiL
    rw [ha] at hck
    simp only [Bool.false_eq_true,if_false] at hck
    have hg : d.L.getD i ⟨#[]⟩ = d.L[i]:=by rw [List.getD_eq_getElem?_getD,List.getElem?_eq_getElem hiL]; rfl
    have hrd : rdS d i = d.L[i]:=by rw [rdS,hck,Int.toNat_natCast,hg]; rfl
    have done:=ih (i + 1) ⟨by omega,hiT⟩ (by omega)
    have hln : ((d.L.drop F).take (i - F)).length = i - F:=by rw [List.length_take,List.length_drop]; omega
    have hln2 : i - F ≤ ((d.L.drop F).take (i - F)).length:=by omega
    have htk : (((d.L.drop F).take (i - F)).map strC).take (i - F) = ((d.L.drop F).take (i - F)).map strC:=List.take_of_length_le (by rw [List.length_map]; omega)
    have hps:=part_snoc hi1 hiL
    have e1 : i + 1 - F = i - F + 1:=by omega
    rw [e1] at hps
    simp only [bloSt,opM,e1,hps,List.map_append,List.map_cons,List.map_nil,List.length_append,List.length_cons,List.length_nil,Nat.zero_add,List.map_append,strC_eq,List.cons_append,List.nil_append] at done
    simp only [AH.SD,AH.SE,AOp.call?,AOp.next?,bstep,AV.cells,unAV,binAV,retQ,retV,AH.sliceElems,AH.bytesOf,AH.strOp,AH.bound,AH.missQ,AH.minmaxAV,AH.readOf,AH.effOf,simprocAttr,AH.SP,AH.PD,AV.inB,vstep,vw,shift,newOnes,rowsM,blkIn,rwB,@flat_lts,AV.lt,AV.lts,Nat.sub_self,AH.SO,lgR_eq,lgU_eq,Lg.eta,ne4,Bool.not_false,Bool.and_self,if_true,dkR_eq,dkB_eq,Dk.eta,ne_eq,Nat.reduceEqDiff,Nat.zero_ne_one,not_false_eq_true,drdT_p,drdA,hck,hrd,errA_nil,errA0,wi,List.length_map,hln,htk,List.drop_zero]
    repeat ((with_reducible refine And.intro ?_ ?_); focus (first | rfl | decide | omega | (simp only [List.length_map,List.length_set,and_true]; omega)))
    try simp only [AH.SD,AH.SE,AOp.call?,AOp.next?,bstep,AV.cells,unAV,binAV,retQ,retV,AH.sliceElems,AH.bytesOf,AH.strOp,AH.bound,AH.missQ,AH.minmaxAV,AH.readOf,AH.effOf,simprocAttr,AH.SP,AH.PD,AV.inB,vstep,vw,shift,newOnes,rowsM,blkIn,rwB,@flat_lts,AV.lt,AV.lts,Nat.sub_self,AH.SO,lgR_eq,lgU_eq,Lg.eta,ne4,Bool.not_false,Bool.and_self,if_true,dkR_eq,dkB_eq,Dk.eta,ne_eq,Nat.reduceEqDiff,Nat.zero_ne_one,not_false_eq_true,drdT_p,drdA,hck,hrd,errA_nil,errA0,wi,List.length_map,hln,htk,List.drop_zero]
    refine gc_auto [0,1,2,5] [5,4,0] [] ?_
    simp only [AH.SD,AH.SE,AOp.call?,AOp.next?,bstep,AV.cells,unAV,binAV,retQ,retV,AH.sliceElems,AH.bytesOf,AH.strOp,AH.bound,AH.missQ,AH.minmaxAV,AH.readOf,AH.effOf,simprocAttr,AH.SP,AH.PD,AV.inB,vstep,List.length_append,List.length_map,hln,List.length_cons,List.length_nil,Nat.zero_add]
    exact done
  · have : i = T:=by
      have:=ge_of_dec hlt
      omega
    subst this
    simp only [AH.SD,AH.SE,AOp.call?,AOp.next?,bstep,AV.cells,unAV,binAV,retQ,retV,AH.sliceElems,AH.bytesOf,AH.strOp,AH.bound,AH.missQ,AH.minmaxAV,AH.readOf,AH.effOf,simprocAttr,AH.SP,AH.PD,AV.inB,vstep,vw,shift,newOnes,rowsM,blkIn,rwB,@flat_lts,AV.lt,AV.lts,Nat.sub_self,AH.SO]
    refine ⟨[0,1,2,3],[],?_⟩
    simp only [AH.SD,AH.SE,AOp.call?,AOp.next?,bstep,AV.cells,unAV,binAV,retQ,retV,AH.sliceElems,AH.bytesOf,AH.strOp,AH.bound,AH.missQ,AH.minmaxAV,AH.readOf,AH.effOf,simprocAttr,AH.SP,AH.PD,AV.inB,vstep]
    try simp
theorem blocks_off (d : Dk) (hd : d.ok) (ha : d.away = true) (F T : Nat) (b : Int) (h1 : F < T) (h2 : T ≤ d.L.length) : CallA1 S0 42 [.ptr 2 0 0] (opM d F T b F .nils)
    fun r m =>r = .tup [.nils,errA 14] ∧ m = opM d F T b F .nils:=by
  have hL:=hd.2.2.2
  have hlt : decide ((F : Int) < (T : Int)) = true:=decide_eq_true (by omega)
  have hck:=chk_at (d:=d) (i:=F) (by omega)
  rw [ha] at hck
  simp only [if_true] at hck
  refine CallA1.fin ?_
  refine fun_sound okBlo Tryz.func42 c42 ?_
  unfold wpF F42
  simp only [AH.SD,AH.SE,AOp.call?,AOp.next?,bstep,AV.cells,unAV,binAV,retQ,retV,AH.sliceElems,AH.bytesOf,AH.strOp,AH.bound,AH.missQ,AH.minmaxAV,AH.readOf,AH.effOf,simprocAttr,AH.SP,AH.PD,AV.inB,vstep,vw,shift,newOnes,rowsM,blkIn,rwB,@flat_lts,AV.lt,AV.lts,Nat.sub_self,AH.SO,opM]
  refine loop_unroll ctxU_monoB ?_
  simp only [AH.SD,AH.SE,AOp.call?,AOp.next?,bstep,AV.cells,unAV,binAV,retQ,retV,AH.sliceElems,AH.bytesOf,AH.strOp,AH.bound,AH.missQ,AH.minmaxAV,AH.readOf,AH.effOf,simprocAttr,AH.SP,AH.PD,AV.inB,vstep,vw,shift,newOnes,rowsM,blkIn,rwB,@flat_lts,AV.lt,AV.lts,Nat.sub_self,AH.SO,lgR_eq,lgU_eq,Lg.eta,ne4,Bool.not_false,Bool.and_self,if_true,dkR_eq,dkB_eq,Dk.eta,ne_eq,Nat.reduceEqDiff,Nat.zero_ne_one,not_false_eq_true,hlt,drdT_p,drdA,hck,errA_nil,errA14]
  refine ⟨[0,1,2],[],?_⟩
  simp only [AH.SD,AH.SE,AOp.call?,AOp.next?,bstep,AV.cells,unAV,binAV,retQ,retV,AH.sliceElems,AH.bytesOf,AH.strOp,AH.bound,AH.missQ,AH.minmaxAV,AH.readOf,AH.effOf,simprocAttr,AH.SP,AH.PD,AV.inB,vstep]
  try simp
theorem rdZ_nil : (rdZ []).bad ≠ -1:=by decide
def rdlSt (d : Dk) (F T : Nat) (b : Int) (L : List ByteArray) (x : Nat × List ByteArray × Nat) : St:=⟨[(1,.slc 3 x.1 (L.length - x.1) none),(0,.ptr 2 0 0)],opM d F T b ((F + x.1 : Nat) : Int) (.slc 4 0 x.2.1.length none) ++ [some (.row false 1 (L.map strC)),some (.row false 1 (x.2.1.map strC))]⟩
theorem okRdl : CtxOK S0 (ctxU S0 [(15,nextT)] [(60,frdU)]):=ctxU_ok ⟨nextT_ok,trivial⟩ ⟨frdU_ok,trivial⟩ mixed
set_option maxHeartbeats 8000000 in
theorem lread_ok (d : Dk) (hd : d.ok) (F T : Nat) (b : Int) (hb : isBase b) (L : List ByteArray) (hFT : F + L.length = T) (hT : T ≤ d.L.length) : CallA1 S0 43 [.ptr 2 0 0,.slc 3 0 L.length none] (opM d F T b F .nils ++ [some (.row false 1 (L.map strC))])
    fun r m =>r = .tup [] ∧ m = opM d F T b ((F + (logR L.length L (b + 1)).2 : Nat) : Int) (.slc 4 0 (logR L.length L (b + 1)).1.length none) ++ [some (.row false 1 (L.map strC)),some (.row false 1 ((logR L.length L (b + 1)).1.map strC))]:=by
  have hL:=hd.2.2.2
  refine CallA1.fin ?_
  refine fun_sound okRdl Tryz.func43 c43 ?_
  unfold wpF F43
  simp only [AH.SD,AH.SE,AOp.call?,AOp.next?,bstep,AV.cells,unAV,binAV,retQ,retV,AH.sliceElems,AH.bytesOf,AH.strOp,AH.bound,AH.missQ,AH.minmaxAV,AH.readOf,AH.effOf,simprocAttr,AH.SP,AH.PD,AV.inB,vstep,vw,shift,newOnes,rowsM,blkIn,rwB,@flat_lts,AV.lt,AV.lts,Nat.sub_self,AH.SO,opM,List.cons_append,List.nil_append]
  refine loop_do [0,1,2,3] [1,0] [.cell 2 0 5 1] (α:=Nat × List ByteArray × Nat) (fun x =>L.length - x.1) (rdlSt d F T b L)
    (fun x =>x.1 ≤ L.length ∧ x.2.1.length ≤ x.1 ∧ L.length - x.1 ≤ x.2.2 ∧ (logR L.length L (b + 1)) = (x.2.1 ++ (logR x.2.2 (L.drop x.1) (b + (x.2.1.length : Int) + 1)).1,x.1 + (logR x.2.2 (L.drop x.1) (b + (x.2.1.length : Int) + 1)).2)) (0,[],L.length)
    ⟨Nat.zero_le _,Nat.le_refl _,by simp,by simp⟩ (by simp only [AH.SD,AH.SE,AOp.call?,AOp.next?,bstep,AV.cells,unAV,binAV,retQ,retV,AH.sliceElems,AH.bytesOf,AH.strOp,AH.bound,AH.missQ,AH.minmaxAV,AH.readOf,AH.effOf,simprocAttr,AH.SP,AH.PD,AV.inB,vstep,rdlSt,opM,Nat.sub_zero,Nat.add_zero,List.map_nil,List.length_nil,List.cons_append,List.nil_append]) ?_
  rintro X ⟨i,R,k⟩ ⟨hi,hRi,hk,hx⟩ ih
  simp only at hi hRi hk hx
  have hdl : (L.drop i).length = L.length - i:=List.length_drop
  have hstop : ((rdZ (L.drop i)).bad ≠ -1 ∨ (rdZ (L.drop i)).q ≠ b + (R.length : Int) + 1) → logR L.length L (b + 1) = (R,i):=fun h =>by
    rw [hx]
    cases k with
    | zero =>simp [logR]
    | succ k =>
      unfold logR
      rw [if_neg (fun q =>h.elim (fun z =>z q.1) (fun z =>z q.2))]
      simp
  simp only [AH.SD,AH.SE,AOp.call?,AOp.next?,bstep,AV.cells,unAV,binAV,retQ,retV,AH.sliceElems,AH.bytesOf,AH.strOp,AH.bound,AH.missQ,AH.minmaxAV,AH.readOf,AH.effOf,simprocAttr,AH.SP,AH.PD,AV.inB,vstep,vw,shift,newOnes,rowsM,blkIn,rwB,@flat_lts,AV.lt,AV.lts,Nat.sub_self,AH.SO,rdlSt,opM,List.cons_append,List.nil_append]
  refine ⟨fun hgt => ?_,fun hgt => ?_⟩
  · have hin : i < L.length:=by simp only [decide_eq_true_eq] at hgt; omega
    have hs : ((L.map strC).drop i).take (L.length - i) = (L.drop i).map strC:=by
      rw [← List.map_drop]; exact List.take_of_length_le (by simp)
    have hle : i + (L.length - i) ≤ (L.map strC).length:=by rw [List.length_map]; omega
    have hbd : L.length - i ≤ 1048576:=by omega
    have fG:=fun (m : Mem) (hM : rowE (mget m) 3 = some (1,L.map strC)) (hg : (rdZ (L.drop i)).bad = -1) =>frdU_good (p:=none) hM hs hle hbd hg
    have fB:=fun (m : Mem) (hM : rowE (mget m) 3 = some (1,L.map strC)) (hg : (rdZ (L.drop i)).bad ≠ -1) =>frdU_bad (p:=none) hM hs hle hbd hg
    by_cases hg : (rdZ (L.drop i)).bad = -1
    · obtain ⟨g1,g2,g3,g4,g5⟩:=rdZ_good hg
      rw [hdl] at g2
      obtain ⟨n,hn⟩:=Int.eq_ofNat_of_zero_le (show 0 ≤ (rdZ (L.drop i)).n by omega)
      have hn2 : (rdZ (L.drop i)).n.toNat = n:=by omega
      have hok : (⟨d,F,T,b,((F + i : Nat) : Int),R,false⟩ : Lg).ok:=⟨hd,hb,by simp only; omega,by simp only; omega,by simp only; omega,by simp only; omega,by simp only; omega⟩
      have hnx : (⟨d,F,T,b,((F + i : Nat) : Int),R,false⟩ : Lg).next = b + (R.length : Int) + 1:=rfl
      cases hq : ((rdZ (L.drop i)).q != b + (R.length : Int) + 1)
      · have hq' : (rdZ (L.drop i)).q = b + (R.length : Int) + 1:=by simpa using hq
        obtain ⟨k',hk'⟩ : ∃ k',k = k' + 1:=⟨k - 1,by omega⟩
        have e1 : IntKind.i64.wrap (((F + i : Nat) : Int) + (n : Int)) = ((F + (i + n) : Nat) : Int):=by rw [IntKind.wrap_i64]; omega
        have done:=ih (i + n,R ++ [(rdZ (L.drop i)).t],k') ⟨by simp only; omega,by simp only [List.length_append,List.length_cons,List.length_nil]; omega,by simp only; omega,by
          rw [hx,hk']
          conv =>lhs; unfold logR
          rw [if_pos ⟨hg,hq'⟩,hn2,List.drop_drop]
          simp only [List.length_append,List.length_cons,List.length_nil,List.append_assoc,List.singleton_append,Nat.zero_add]
          rw [show b + ((R.length + 1 : Nat) : Int) + 1 = b + (R.length : Int) + 1 + 1 by omega,Nat.add_assoc]⟩ (by simp only; omega)
        simp only [rdlSt,opM,List.cons_append,List.nil_append,List.map_append,List.map_cons,List.map_nil,List.length_append,List.length_cons,List.length_nil,Nat.zero_add,strC_eq,show L.length - (i + n) = L.length - i - n by omega] at done
        simp only [AH.SD,AH.SE,AOp.call?,AOp.next?,bstep,AV.cells,unAV,binAV,retQ,retV,AH.sliceElems,AH.bytesOf,AH.strOp,AH.bound,AH.missQ,AH.minmaxAV,AH.readOf,AH.effOf,simprocAttr,AH.SP,AH.PD,AV.inB,vstep,vw,shift,newOnes,rowsM,blkIn,rwB,@flat_lts,AV.lt,AV.lts,Nat.sub_self,AH.SO,fG _ rowE3 hg,nextT_p,lgR_eq,lgU_eq,Lg.eta,ne4,Bool.not_false,Bool.and_self,if_true,dkR_eq,dkB_eq,Dk.eta,ne_eq,Nat.reduceEqDiff,Nat.zero_ne_one,not_false_eq_true,hok,hnx,hq,hn,e1,Int.toNat_natCast,List.length_map,List.drop_zero,take_all,List.length_append,List.length_cons,List.length_nil,Nat.zero_add]
        refine ⟨⟨by omega,by omega⟩,⟨by omega,by omega,by omega⟩,?_⟩
        refine gc_auto [0,1,2,3,6] [1,0] [] ?_
        simp only [AH.SD,AH.SE,AOp.call?,AOp.next?,bstep,AV.cells,unAV,binAV,retQ,retV,AH.sliceElems,AH.bytesOf,AH.strOp,AH.bound,AH.missQ,AH.minmaxAV,AH.readOf,AH.effOf,simprocAttr,AH.SP,AH.PD,AV.inB,vstep,List.length_append,List.length_map,List.length_cons,List.length_nil,Nat.zero_add]
        exact done
      · have e:=hstop (.inr (by simpa using hq))
        simp only [AH.SD,AH.SE,AOp.call?,AOp.next?,bstep,AV.cells,unAV,binAV,retQ,retV,AH.sliceElems,AH.bytesOf,AH.strOp,AH.bound,AH.missQ,AH.minmaxAV,AH.readOf,AH.effOf,simprocAttr,AH.SP,AH.PD,AV.inB,vstep,vw,shift,newOnes,rowsM,blkIn,rwB,@flat_lts,AV.lt,AV.lts,Nat.sub_self,AH.SO,fG _ rowE3 hg,nextT_p,lgR_eq,lgU_eq,Lg.eta,ne4,Bool.not_false,Bool.and_self,if_true,dkR_eq,dkB_eq,Dk.eta,ne_eq,Nat.reduceEqDiff,Nat.zero_ne_one,not_false_eq_true,hok,hnx,hq,hn,Int.toNat_natCast,List.length_map,List.drop_zero]
        refine ⟨[0,1,2,3,4],[],?_⟩
        simp only [AH.SD,AH.SE,AOp.call?,AOp.next?,bstep,AV.cells,unAV,binAV,retQ,retV,AH.sliceElems,AH.bytesOf,AH.strOp,AH.bound,AH.missQ,AH.minmaxAV,AH.readOf,AH.effOf,simprocAttr,AH.SP,AH.PD,AV.inB,vstep,e]
        try simp
    · have e:=hstop (.inl hg)
      simp only [AH.SD,AH.SE,AOp.call?,AOp.next?,bstep,AV.cells,unAV,binAV,retQ,retV,AH.sliceElems,AH.bytesOf,AH.strOp,AH.bound,AH.missQ,AH.minmaxAV,AH.readOf,AH.effOf,simprocAttr,AH.SP,AH.PD,AV.inB,vstep,vw,shift,newOnes,rowsM,blkIn,rwB,@flat_lts,AV.lt,AV.lts,Nat.sub_self,AH.SO,fB _ rowE3 hg,wrM,List.cons_append,List.nil_append,List.length_cons,List.length_nil]
      refine ⟨[0,1,2,3,4],[],?_⟩
      simp only [AH.SD,AH.SE,AOp.call?,AOp.next?,bstep,AV.cells,unAV,binAV,retQ,retV,AH.sliceElems,AH.bytesOf,AH.strOp,AH.bound,AH.missQ,AH.minmaxAV,AH.readOf,AH.effOf,simprocAttr,AH.SP,AH.PD,AV.inB,vstep,e]
      try simp
  · have : i = L.length:=by simp only [decide_eq_false_iff_not] at hgt; omega
    subst this
    have e:=hstop (.inl (by rw [List.drop_length]; exact rdZ_nil))
    simp only [AH.SD,AH.SE,AOp.call?,AOp.next?,bstep,AV.cells,unAV,binAV,retQ,retV,AH.sliceElems,AH.bytesOf,AH.strOp,AH.bound,AH.missQ,AH.minmaxAV,AH.readOf,AH.effOf,simprocAttr,AH.SP,AH.PD,AV.inB,vstep,vw,shift,newOnes,rowsM,blkIn,rwB,@flat_lts,AV.lt,AV.lts,Nat.sub_self,AH.SO]
    refine ⟨[0,1,2,3,4],[],?_⟩
    simp only [AH.SD,AH.SE,AOp.call?,AOp.next?,bstep,AV.cells,unAV,binAV,retQ,retV,AH.sliceElems,AH.bytesOf,AH.strOp,AH.bound,AH.missQ,AH.minmaxAV,AH.readOf,AH.effOf,simprocAttr,AH.SP,AH.PD,AV.inB,vstep,e]
    try simp
def opnZ (d : Dk) (f t b : Int) : Nat × Lg :=
  if f < 0 ∨ t ≤ f ∨ t > (d.L.length : Int) ∨ ¬ isBase b then (1,⟨d,f,t,b,f,[],false⟩) else
  if d.away = true then (14,⟨d,f,t,b,f,[],false⟩) else
  ((wipeD d (t.toNat - (f.toNat + (logR (t - f).toNat ((d.L.drop f.toNat).take (t - f).toNat) (b + 1)).2)) (f.toNat + (logR (t - f).toNat ((d.L.drop f.toNat).take (t - f).toNat) (b + 1)).2)).1,
   ⟨(wipeD d (t.toNat - (f.toNat + (logR (t - f).toNat ((d.L.drop f.toNat).take (t - f).toNat) (b + 1)).2)) (f.toNat + (logR (t - f).toNat ((d.L.drop f.toNat).take (t - f).toNat) (b + 1)).2)).2,f,t,b,((f.toNat + (logR (t - f).toNat ((d.L.drop f.toNat).take (t - f).toNat) (b + 1)).2 : Nat) : Int),(logR (t - f).toNat ((d.L.drop f.toNat).take (t - f).toNat) (b + 1)).1,false⟩)
def opnA (x : Nat × Lg) : AV:=if x.1 = 0 then .tup [.ptr 2 0 0,.nili] else .tup [.nilp,errA x.1]
def opnM (x : Nat × Lg) : Mem:=if x.1 = 0 then opM x.2.d x.2.f x.2.t x.2.b x.2.a (.slc 3 0 x.2.R.length none) ++ [some (.row false 1 (x.2.R.map strC))] else dkM x.2.d
noncomputable abbrev tOp : List (FuncId × RT):=[(40,lenT),(41,isBaseT)]
theorem okOp : CtxOK S0 (ctxE S0 tOp [] [(44,wipeT)]):=ctxE_ok ⟨lenT_ok,isBaseT_ok,trivial⟩ trivial ⟨wipeT_ok,trivial⟩ mixed
set_option maxHeartbeats 8000000 in
theorem open_ok (d : Dk) (hd : d.ok) (f t b : Int) : CallA1 S0 9 [.ptr 0 0 0,.int .i64 f,.int .i64 t,.int .i64 b] (dkM d) fun r m =>r = opnA (opnZ d f t b) ∧ m = opnM (opnZ d f t b):=by
  have hL:=hd.2.2.2
  refine CallA1.fin ?_
  refine fun_sound okOp Tryz.func9 c9 ?_
  unfold wpF F9
  have bad : (f < 0 ∨ t ≤ f ∨ t > (d.L.length : Int) ∨ ¬ isBase b) → opnA (opnZ d f t b) = .tup [.nilp,.err 1] ∧ opnM (opnZ d f t b) = dkM d:=fun h =>by
    have e : opnZ d f t b = (1,⟨d,f,t,b,f,[],false⟩):=by unfold opnZ; rw [if_pos h]
    rw [e]; exact ⟨rfl,rfl⟩
  cases c1 : decide (f < 0)
  rotate_left
  · obtain ⟨e1,e2⟩:=bad (.inl (by simpa using c1))
    simp only [AH.SD,AH.SE,AOp.call?,AOp.next?,bstep,AV.cells,unAV,binAV,retQ,retV,AH.sliceElems,AH.bytesOf,AH.strOp,AH.bound,AH.missQ,AH.minmaxAV,AH.readOf,AH.effOf,simprocAttr,AH.SP,AH.PD,AV.inB,vstep,vw,shift,newOnes,rowsM,blkIn,rwB,@flat_lts,AV.lt,AV.lts,Nat.sub_self,AH.SO,dkM,c1]
    repeat ((with_reducible refine And.intro ?_ ?_); focus (first | rfl | decide | omega | (simp only [List.length_map,List.length_set,and_true]; omega)))
    refine ⟨[0,1],[],?_⟩
    simp only [AH.SD,AH.SE,AOp.call?,AOp.next?,bstep,AV.cells,unAV,binAV,retQ,retV,AH.sliceElems,AH.bytesOf,AH.strOp,AH.bound,AH.missQ,AH.minmaxAV,AH.readOf,AH.effOf,simprocAttr,AH.SP,AH.PD,AV.inB,vstep,e1,e2,dkM]
    try simp
  cases c2 : decide (t ≤ f)
  rotate_left
  · obtain ⟨e1,e2⟩:=bad (.inr (.inl (by simpa using c2)))
    simp only [AH.SD,AH.SE,AOp.call?,AOp.next?,bstep,AV.cells,unAV,binAV,retQ,retV,AH.sliceElems,AH.bytesOf,AH.strOp,AH.bound,AH.missQ,AH.minmaxAV,AH.readOf,AH.effOf,simprocAttr,AH.SP,AH.PD,AV.inB,vstep,vw,shift,newOnes,rowsM,blkIn,rwB,@flat_lts,AV.lt,AV.lts,Nat.sub_self,AH.SO,dkM,c1,c2]
    repeat ((with_reducible refine And.intro ?_ ?_); focus (first | rfl | decide | omega | (simp only [List.length_map,List.length_set,and_true]; omega)))
    refine ⟨[0,1],[],?_⟩
    simp only [AH.SD,AH.SE,AOp.call?,AOp.next?,bstep,AV.cells,unAV,binAV,retQ,retV,AH.sliceElems,AH.bytesOf,AH.strOp,AH.bound,AH.missQ,AH.minmaxAV,AH.readOf,AH.effOf,simprocAttr,AH.SP,AH.PD,AV.inB,vstep,e1,e2,dkM]
    try simp
  cases c3 : decide (t > (d.L.length : Int))
  rotate_left
  · obtain ⟨e1,e2⟩:=bad (.inr (.inr (.inl (by simpa using c3))))
    simp only [AH.SD,AH.SE,AOp.call?,AOp.next?,bstep,AV.cells,unAV,binAV,retQ,retV,AH.sliceElems,AH.bytesOf,AH.strOp,AH.bound,AH.missQ,AH.minmaxAV,AH.readOf,AH.effOf,simprocAttr,AH.SP,AH.PD,AV.inB,vstep,vw,shift,newOnes,rowsM,blkIn,rwB,@flat_lts,AV.lt,AV.lts,Nat.sub_self,AH.SO,dkM,c1,c2,lenT_p,lgR_eq,lgU_eq,Lg.eta,ne4,Bool.not_false,Bool.and_self,if_true,dkR_eq,dkB_eq,Dk.eta,ne_eq,Nat.reduceEqDiff,Nat.zero_ne_one,not_false_eq_true,c3]
    repeat ((with_reducible refine And.intro ?_ ?_); focus (first | rfl | decide | omega | (simp only [List.length_map,List.length_set,and_true]; omega)))
    refine ⟨[0,1],[],?_⟩
    simp only [AH.SD,AH.SE,AOp.call?,AOp.next?,bstep,AV.cells,unAV,binAV,retQ,retV,AH.sliceElems,AH.bytesOf,AH.strOp,AH.bound,AH.missQ,AH.minmaxAV,AH.readOf,AH.effOf,simprocAttr,AH.SP,AH.PD,AV.inB,vstep,e1,e2,dkM]
    try simp
  cases c4 : decide (isBase b)
  · obtain ⟨e1,e2⟩:=bad (.inr (.inr (.inr (by simpa using c4))))
    simp only [AH.SD,AH.SE,AOp.call?,AOp.next?,bstep,AV.cells,unAV,binAV,retQ,retV,AH.sliceElems,AH.bytesOf,AH.strOp,AH.bound,AH.missQ,AH.minmaxAV,AH.readOf,AH.effOf,simprocAttr,AH.SP,AH.PD,AV.inB,vstep,vw,shift,newOnes,rowsM,blkIn,rwB,@flat_lts,AV.lt,AV.lts,Nat.sub_self,AH.SO,dkM,c1,c2,lenT_p,lgR_eq,lgU_eq,Lg.eta,ne4,Bool.not_false,Bool.and_self,if_true,dkR_eq,dkB_eq,Dk.eta,ne_eq,Nat.reduceEqDiff,Nat.zero_ne_one,not_false_eq_true,c3,isBaseT_p,c4]
    repeat ((with_reducible refine And.intro ?_ ?_); focus (first | rfl | decide | omega | (simp only [List.length_map,List.length_set,and_true]; omega)))
    refine ⟨[0,1],[],?_⟩
    simp only [AH.SD,AH.SE,AOp.call?,AOp.next?,bstep,AV.cells,unAV,binAV,retQ,retV,AH.sliceElems,AH.bytesOf,AH.strOp,AH.bound,AH.missQ,AH.minmaxAV,AH.readOf,AH.effOf,simprocAttr,AH.SP,AH.PD,AV.inB,vstep,e1,e2,dkM]
    try simp
  clear bad
  have k1 : 0 ≤ f:=by simp only [decide_eq_false_iff_not] at c1; omega
  have k2 : f < t:=by simp only [decide_eq_false_iff_not] at c2; omega
  have k3 : t ≤ (d.L.length : Int):=by simp only [decide_eq_false_iff_not] at c3; omega
  have k4 : isBase b:=by simpa using c4
  have hno : ¬ (f < 0 ∨ t ≤ f ∨ t > (d.L.length : Int) ∨ ¬ isBase b):=by
    rintro (h | h | h | h)
    · omega
    · omega
    · omega
    · exact h k4
  obtain ⟨F,rfl⟩:=Int.eq_ofNat_of_zero_le k1
  obtain ⟨T,rfl⟩:=Int.eq_ofNat_of_zero_le (show 0 ≤ t by omega)
  simp only [AH.SD,AH.SE,AOp.call?,AOp.next?,bstep,AV.cells,unAV,binAV,retQ,retV,AH.sliceElems,AH.bytesOf,AH.strOp,AH.bound,AH.missQ,AH.minmaxAV,AH.readOf,AH.effOf,simprocAttr,AH.SP,AH.PD,AV.inB,vstep,vw,shift,newOnes,rowsM,blkIn,rwB,@flat_lts,AV.lt,AV.lts,Nat.sub_self,AH.SO,dkM,c1,c2,lenT_p,lgR_eq,lgU_eq,Lg.eta,ne4,Bool.not_false,Bool.and_self,if_true,dkR_eq,dkB_eq,Dk.eta,ne_eq,Nat.reduceEqDiff,Nat.zero_ne_one,not_false_eq_true,c3,isBaseT_p,c4]
  have eM : opM d F T b F .nils = [some (.row false 5 [[.slc 1 0 d.L.length none,.bool d.away,.int .i64 d.fuse,.int .i64 d.torn,.int .i64 d.writes]]),some (.row false 1 (d.L.map strC)),
    some (.row false 7 [[.ptr 0 0 0,.int .i64 F,.int .i64 T,.int .i64 b,.int .i64 F,.nils,.bool false]])]:=rfl
  rw [← eM]
  by_cases ha : d.away = true
  · have e : opnZ d F T b = (14,⟨d,F,T,b,F,[],false⟩):=by unfold opnZ; rw [if_neg hno,if_pos ha]
    refine (blocks_off d hd ha F T b (by omega) (by omega)).mono ?_
    rintro r m ⟨rfl,rfl⟩
    simp only [AH.SD,AH.SE,AOp.call?,AOp.next?,bstep,AV.cells,unAV,binAV,retQ,retV,AH.sliceElems,AH.bytesOf,AH.strOp,AH.bound,AH.missQ,AH.minmaxAV,AH.readOf,AH.effOf,simprocAttr,AH.SP,AH.PD,AV.inB,vstep,vw,shift,newOnes,rowsM,blkIn,rwB,@flat_lts,AV.lt,AV.lts,Nat.sub_self,AH.SO,opM,errA_nil,errA14]
    refine ⟨[0,1],[],?_⟩
    simp only [AH.SD,AH.SE,AOp.call?,AOp.next?,bstep,AV.cells,unAV,binAV,retQ,retV,AH.sliceElems,AH.bytesOf,AH.strOp,AH.bound,AH.missQ,AH.minmaxAV,AH.readOf,AH.effOf,simprocAttr,AH.SP,AH.PD,AV.inB,vstep,e,opnA,opnM,errA14,dkM,show ¬ ((14 : Nat) = 0) by decide,if_false]
    try simp
  · have ha' : d.away = false:=by simpa using ha
    have hLn : ((d.L.drop F).take (T - F)).length = T - F:=by rw [List.length_take,List.length_drop]; omega
    refine (blocks_on d hd ha' F T b (by omega) (by omega)).mono ?_
    rintro r m ⟨rfl,rfl⟩
    have ee : opnZ d F T b = ((wipeD d (T - (F + (logR (T - F) ((d.L.drop F).take (T - F)) (b + 1)).2)) (F + (logR (T - F) ((d.L.drop F).take (T - F)) (b + 1)).2)).1,
      ⟨(wipeD d (T - (F + (logR (T - F) ((d.L.drop F).take (T - F)) (b + 1)).2)) (F + (logR (T - F) ((d.L.drop F).take (T - F)) (b + 1)).2)).2,F,T,b,((F + (logR (T - F) ((d.L.drop F).take (T - F)) (b + 1)).2 : Nat) : Int),(logR (T - F) ((d.L.drop F).take (T - F)) (b + 1)).1,false⟩):=by
      unfold opnZ; rw [if_neg hno,if_neg ha]
      simp only [Int.toNat_natCast,show ((T : Int) - (F : Int)).toNat = T - F by omega]
    obtain ⟨z1,z2,_⟩:=logR_le (T - F) ((d.L.drop F).take (T - F)) (b + 1)
    have hrd:=lread_ok d hd F T b k4 ((d.L.drop F).take (T - F)) (by omega) (by omega)
    rw [hLn] at hrd z1
    generalize hx : logR (T - F) ((d.L.drop F).take (T - F)) (b + 1) = x at *
    generalize (d.L.drop F).take (T - F) = B at *
    simp only [AH.SD,AH.SE,AOp.call?,AOp.next?,bstep,AV.cells,unAV,binAV,retQ,retV,AH.sliceElems,AH.bytesOf,AH.strOp,AH.bound,AH.missQ,AH.minmaxAV,AH.readOf,AH.effOf,simprocAttr,AH.SP,AH.PD,AV.inB,vstep,vw,shift,newOnes,rowsM,blkIn,rwB,@flat_lts,AV.lt,AV.lts,Nat.sub_self,AH.SO,errA_nil]
    have key : ∀ (K : AV → Mem → Prop),K (.tup []) (opM d F T b ((F + x.2 : Nat) : Int) (.slc 4 0 x.1.length none) ++ [some (.row false 1 (B.map strC)),some (.row false 1 (x.1.map strC))]) → CallA1 S0 43 [.ptr 2 0 0,.slc 3 0 (T - F) none] (opM d F T b F .nils ++ [some (.row false 1 (B.map strC))]) K:=fun K hK =>
      hrd.mono fun v m' ⟨h1,h2⟩ =>by rw [h1,h2]; exact hK
    refine key _ ?_
    have hok : (⟨d,F,T,b,((F + x.2 : Nat) : Int),x.1,false⟩ : Lg).ok:=⟨hd,k4,by simp only; omega,by simp only; omega,by simp only; omega,by simp only; omega,by simp only; omega⟩
    have h0 : (0 : Int) ≤ ((F + x.2 : Nat) : Int):=by omega
    have h1 : ((F + x.2 : Nat) : Int) ≤ (T : Int):=by omega
    have w1 : ((T : Int) - ((F + x.2 : Nat) : Int)).toNat = T - (F + x.2):=by omega
    have hkd:=wipe_kind (T - (F + x.2)) (d:=d) (F + x.2) (by omega)
    rcases hkd with hkd | hkd
    · simp only [AH.SD,AH.SE,AOp.call?,AOp.next?,bstep,AV.cells,unAV,binAV,retQ,retV,AH.sliceElems,AH.bytesOf,AH.strOp,AH.bound,AH.missQ,AH.minmaxAV,AH.readOf,AH.effOf,simprocAttr,AH.SP,AH.PD,AV.inB,vstep,vw,shift,newOnes,rowsM,blkIn,rwB,@flat_lts,AV.lt,AV.lts,Nat.sub_self,AH.SO,opM,List.cons_append,List.nil_append,lgR_eq,lgU_eq,Lg.eta,ne4,Bool.not_false,Bool.and_self,if_true,dkR_eq,dkB_eq,Dk.eta,ne_eq,Nat.reduceEqDiff,Nat.zero_ne_one,not_false_eq_true,wipeT_p,hok,h0,h1,w1,Int.toNat_natCast,hkd,errA_nil,errA0,lgM]
      refine ⟨[0,1,2,4],[],?_⟩
      simp only [AH.SD,AH.SE,AOp.call?,AOp.next?,bstep,AV.cells,unAV,binAV,retQ,retV,AH.sliceElems,AH.bytesOf,AH.strOp,AH.bound,AH.missQ,AH.minmaxAV,AH.readOf,AH.effOf,simprocAttr,AH.SP,AH.PD,AV.inB,vstep,ee,hkd,opnA,opnM,opM,errA0,List.cons_append,List.nil_append]
      try simp
    · simp only [AH.SD,AH.SE,AOp.call?,AOp.next?,bstep,AV.cells,unAV,binAV,retQ,retV,AH.sliceElems,AH.bytesOf,AH.strOp,AH.bound,AH.missQ,AH.minmaxAV,AH.readOf,AH.effOf,simprocAttr,AH.SP,AH.PD,AV.inB,vstep,vw,shift,newOnes,rowsM,blkIn,rwB,@flat_lts,AV.lt,AV.lts,Nat.sub_self,AH.SO,opM,List.cons_append,List.nil_append,lgR_eq,lgU_eq,Lg.eta,ne4,Bool.not_false,Bool.and_self,if_true,dkR_eq,dkB_eq,Dk.eta,ne_eq,Nat.reduceEqDiff,Nat.zero_ne_one,not_false_eq_true,wipeT_p,hok,h0,h1,w1,Int.toNat_natCast,hkd,errA_nil,errA14,lgM]
      refine ⟨[0,1],[],?_⟩
      simp only [AH.SD,AH.SE,AOp.call?,AOp.next?,bstep,AV.cells,unAV,binAV,retQ,retV,AH.sliceElems,AH.bytesOf,AH.strOp,AH.bound,AH.missQ,AH.minmaxAV,AH.readOf,AH.effOf,simprocAttr,AH.SP,AH.PD,AV.inB,vstep,ee,hkd,opnA,opnM,dkM,errA14,show ¬ ((14 : Nat) = 0) by decide,if_false]
      try simp
end Go.Proofs.YthapdikdeoeplaaGreatDoor.Z7
end
section
set_option linter.unusedVariables false
set_option linter.unnecessarySimpa false
open Go AH
set_option linter.unusedSimpArgs false
set_option maxRecDepth 100000
namespace Go.Proofs.YthapdikdeoeplaaGreatDoor.Z7
theorem catS_nil : catS [] = ⟨#[]⟩:=rfl
theorem catS_snoc (l : List ByteArray) (x : ByteArray) : catS (l ++ [x]) = catS l ++ x:=by
  apply ByteArray.ext
  simp [catS]
theorem catS_le {L : List ByteArray} {m : Nat} (h : ∀ s ∈ L,s.size ≤ m) : (catS L).size ≤ L.length * m:=by
  have:=flat_len (m:=m) (L.map (·.data.toList)) fun x hx =>by
    obtain ⟨s,hs,rfl⟩:=List.mem_map.1 hx
    have:=h s hs
    rw [Array.length_toList]; exact this
  rw [List.length_map] at this
  simpa [catS,ByteArray.size] using this
theorem okL0 : CtxOK S0 (ctxU S0 [] []):=ctxU_ok trivial trivial mixed
theorem repS_list (k : Nat) : (⟨(List.replicate k (0 : UInt8)).toArray⟩ : ByteArray) = repS ⟨#[0]⟩ k:=by
  have : ∀ k,Lib.repeatL [(0 : UInt8)] k = List.replicate k 0:=by
    intro k
    induction k with
    | zero =>rfl
    | succ n ih =>rw [Lib.repeatL,ih,List.replicate_succ]; rfl
  show _ = (⟨(Lib.repeatL [(0 : UInt8)] k).toArray⟩ : ByteArray)
  rw [this]
theorem opnM_len (x : Nat × Lg) : 2 ≤ (opnM x).length ∧ ((opnM x).drop 2).all rwB = true:=by
  unfold opnM
  split
  · exact ⟨by simp [opM],rfl⟩
  · exact ⟨by simp [dkM],rfl⟩
def opnT : ET:=etO dkO (cC (aI .i64) (cC (aI .i64) (cC (aI .i64) c0))) fun d x =>if d.ok then some (opnA (opnZ d x.1 x.2.1 x.2.2.1),opnM (opnZ d x.1 x.2.1 x.2.2.1)) else none
theorem opnT_ok : EffF S0 9 opnT:=etO_ok fun d x v m' h =>by
  split at h
  · rename_i hd
    simp only [Option.some.injEq,Prod.mk.injEq] at h
    obtain ⟨rfl,rfl⟩:=h
    exact ⟨opnM_len _,open_ok d hd x.1 x.2.1 x.2.2.1⟩
  · cases h
theorem opnT_p {p n : Nat} {f t b : Int} {M : Nat → Option Blk} : opnT [.ptr p 0 0,.int .i64 f,.int .i64 t,.int .i64 b] M n = etO2 n (fun d (x : Int × Int × Int × Unit) =>if d.ok then some (opnA (opnZ d x.1 x.2.1 x.2.2.1),opnM (opnZ d x.1 x.2.1 x.2.2.1)) else none) (dkR M p (M p)) (some (f,t,b,())):=by
  simp only [opnT,etO_eq,cC_dec,aI_dec,c0_dec,pairO_some,dkO_dec]
theorem open_nil (f t b : Int) : Pure S0 9 [.nilp,.int .i64 f,.int .i64 t,.int .i64 b] (.tup [.nilp,errA 2]):=by
  refine fun_sound okOp Tryz.func9 c9 ?_
  unfold wpF F9
  simp only [AH.SD,AH.SE,AOp.call?,AOp.next?,bstep,AV.cells,unAV,binAV,retQ,retV,AH.sliceElems,AH.bytesOf,AH.strOp,AH.bound,AH.missQ,AH.minmaxAV,AH.readOf,AH.effOf,Nat.reduceBEq,Nat.reduceAdd,Nat.reduceLT,↓reduceIte,Nat.reduceEqDiff,Nat.reduceLeDiff,Nat.reduceSub,Nat.reduceMul,Int.reduceSub,Int.reduceToNat,Int.reduceBEq,Int.reduceBNe,Int.reduceLT,Int.reduceGT,Int.reduceLE,Int.reduceGE,Int.reduceNeg,Int.reduceAdd,errA2]
  repeat ((with_reducible refine And.intro ?_ ?_); focus (first | rfl | decide | omega | (simp only [List.length_map,List.length_set,and_true]; omega)))
  try trivial
def opnN : RT:=rtP (cC aNil (cC (aI .i64) (cC (aI .i64) (cC (aI .i64) c0)))) fun _ => .tup [.nilp,errA 2]
theorem opnN_ok : ReadF S0 9 opnN:=rtP_ok (fun x =>open_nil x.2.1 x.2.2.1 x.2.2.2.1) fun _ =>rfl
theorem opnN_p {p : Nat} {f t b : Int} {M : Nat → Option Blk} : opnN [.ptr p 0 0,.int .i64 f,.int .i64 t,.int .i64 b] M = none:=by
  simp only [opnN,rtP,cC_dec,aNil_ptr,pairO_none,Option.map_none]
end Go.Proofs.YthapdikdeoeplaaGreatDoor.Z7
end
section
set_option linter.unusedVariables false
set_option linter.unnecessarySimpa false
open Go AH
set_option linter.unusedSimpArgs false
set_option maxRecDepth 100000
namespace Go.Proofs.YthapdikdeoeplaaGreatDoor.Z7
structure So where
  g : Lg
  z : Int
  s : ByteArray
  b : Int
  a : Int
  down : Bool
def soC (q l : Nat) (x : So) : List AV:=[.ptr q 0 0,.int .i64 x.z,.str x.s,.int .i64 x.b,.int .i64 x.a,.ptr l 0 0,.bool x.down]
def soM (x : So) : Mem:=[some (.row false 7 [[.ptr 2 0 0,.int .i64 x.z,.str x.s,.int .i64 x.b,.int .i64 x.a,.ptr 1 0 0,.bool x.down]]),
  some (.row false 7 [[.ptr 2 0 0,.int .i64 x.g.f,.int .i64 x.g.t,.int .i64 x.g.b,.int .i64 x.g.a,.slc 4 0 x.g.R.length none,.bool x.g.down]]),
  some (.row false 5 [[.slc 3 0 x.g.d.L.length none,.bool x.g.d.away,.int .i64 x.g.d.fuse,.int .i64 x.g.d.torn,.int .i64 x.g.d.writes]]),some (.row false 1 (x.g.d.L.map strC)),some (.row false 1 (x.g.R.map strC))]
def no4 (p l q k r : Nat) : Bool:=!(p == l) && (!(p == q) && (!(p == k) && !(p == r)))
def soS (p q : Nat) (z : Int) (s : ByteArray) (b a : Int) (down : Bool) : Option (Lg × List (Nat × Bool)) → Option (So × List (Nat × Bool))
  | some (g,[(l,false),(q',false),(k,false),(r,false)]) =>if q' = q ∧ no4 p l q k r = true then some (⟨g,z,s,b,a,down⟩,[(p,false),(l,false),(q,false),(k,false),(r,false)]) else none
  | _ =>none
def soR (M : Nat → Option Blk) (p : Nat) : Option Blk → Option (So × List (Nat × Bool))
  | some (.row false 7 [[.ptr q 0 0,.int .i64 z,.str s,.int .i64 b,.int .i64 a,.ptr l 0 0,.bool down]]) =>soS p q z s b a down (lgR M l (M l))
  | _ =>none
def soD (M : Nat → Option Blk) : AV → Option (So × List (Nat × Bool))
  | .ptr p 0 0 =>soR M p (M p)
  | _ =>none
theorem no4_iff {p l q k r : Nat} : no4 p l q k r = true ↔ p ≠ l ∧ p ≠ q ∧ p ≠ k ∧ p ≠ r:=by simp [no4]
theorem soD_inv {M : Nat → Option Blk} {v : AV} {x : So} {sel : List (Nat × Bool)} (h : soD M v = some (x,sel)) :
    ∃ p l q b r,v = .ptr p 0 0 ∧ sel = [(p,false),(l,false),(q,false),(b,false),(r,false)] ∧ no4 p l q b r = true ∧ ne4 l q b r = true ∧
      M p = some (.row false 7 [soC q l x]) ∧ M l = some (.row false 7 [lgC q r x.g]) ∧ M q = some (.row false 5 [dkC b x.g.d]) ∧ M b = some (.row false 1 (x.g.d.L.map strC)) ∧ M r = some (.row false 1 (x.g.R.map strC)):=by
  unfold soD at h
  split at h
  · rename_i p
    unfold soR at h
    split at h
    · rename_i q z s b a l down hp
      unfold soS at h
      split at h
      · rename_i g l' q' k r hg
        split at h
        · rename_i hc
          simp only [Option.some.injEq,Prod.mk.injEq] at h
          obtain ⟨rfl,rfl⟩:=h
          obtain ⟨rfl,hno⟩:=hc
          obtain ⟨p2,q2,b2,r2,e1,e2,e3,e4,e5,e6,e7⟩:=lgD_inv (M:=M) (v:=.ptr l 0 0) (l:=g) (sel:=[(l',false),(q',false),(k,false),(r,false)]) hg
          simp only [List.cons.injEq,Prod.mk.injEq,and_true] at e2
          obtain ⟨rfl,rfl,rfl,rfl⟩:=e2
          cases e1
          exact ⟨p,_,_,_,_,rfl,rfl,hno,e3,hp,e4,e5,e6,e7⟩
        · cases h
      · cases h
    · cases h
  · cases h
theorem soD_of {M : Nat → Option Blk} {p l q b r : Nat} (x : So) (hno : no4 p l q b r = true) (hne : ne4 l q b r = true) (hp : M p = some (.row false 7 [soC q l x])) (hl : M l = some (.row false 7 [lgC q r x.g])) (hq : M q = some (.row false 5 [dkC b x.g.d])) (hb : M b = some (.row false 1 (x.g.d.L.map strC))) (hr : M r = some (.row false 1 (x.g.R.map strC))) :
    soD M (.ptr p 0 0) = some (x,[(p,false),(l,false),(q,false),(b,false),(r,false)]):=by
  have hd : lgR M l (M l) = some (x.g,[(l,false),(q,false),(b,false),(r,false)]):=lgD_of x.g hne hl hq hb hr
  simp only [soD,hp,soC,soR,hd,soS,hno,and_self,if_true]
def soO : AH.Obj So where
  dec:=soD
  mem:=soM
  self:=fun _ => .ptr 0 0 0
  ok:=by
    intro M v x sel h
    obtain ⟨p,l,q,b,r,rfl,rfl,hno,hne,hp,hl,hq,hb,hr⟩:=soD_inv h
    obtain ⟨n1,n2,n3,n4,n5,n6⟩:=ne4_iff.1 hne
    obtain ⟨m1,m2,m3,m4⟩:=no4_iff.1 hno
    have h1 : (l == q) = false:=by simpa using n1
    have h2 : (l == b) = false:=by simpa using n2
    have h3 : (l == r) = false:=by simpa using n3
    have h4 : (q == b) = false:=by simpa using n4
    have h5 : (q == r) = false:=by simpa using n5
    have h6 : (b == r) = false:=by simpa using n6
    have g1 : (q == l) = false:=by simpa using n1.symm
    have g2 : (b == l) = false:=by simpa using n2.symm
    have g3 : (r == l) = false:=by simpa using n3.symm
    have g4 : (b == q) = false:=by simpa using n4.symm
    have g5 : (r == q) = false:=by simpa using n5.symm
    have g6 : (r == b) = false:=by simpa using n6.symm
    have i1 : (p == l) = false:=by simpa using m1
    have i2 : (p == q) = false:=by simpa using m2
    have i3 : (p == b) = false:=by simpa using m3
    have i4 : (p == r) = false:=by simpa using m4
    have j1 : (l == p) = false:=by simpa using m1.symm
    have j2 : (q == p) = false:=by simpa using m2.symm
    have j3 : (b == p) = false:=by simpa using m3.symm
    have j4 : (r == p) = false:=by simpa using m4.symm
    refine ⟨⟨?_,?_⟩,?_,?_,?_⟩
    · simp [selF,hp,hl,hq,hb,hr,soC,lgC,dkC,AV.insB,AV.inB,AH.isIn]
      exact ⟨fun x _ =>flatE_in _ x,fun x _ =>flatE_in _ x⟩
    · simp [AH.distinct,AH.isIn,h1,h2,h3,h4,h5,h6,g1,g2,g3,g4,g5,g6,i1,i2,i3,i4,j1,j2,j3,j4]
    · simp only [subF,hp,hl,hq,hb,hr,soC,lgC,dkC,Option.map_some,Blk.ren,Blk.asRo,List.map_cons,List.map_nil,AV.rens,AV.ren,AH.posOf,beq_self_eq_true,h1,h2,h3,h4,h5,h6,g1,g2,g3,g4,g5,g6,i1,i2,i3,i4,j1,j2,j3,j4,cond_true,cond_false,flat_rens,soM,Nat.zero_add,Nat.reduceAdd]
    · simp [AV.inB,AH.isIn]
    · simp [AV.ren,AH.posOf]
  loc:=by
    intro M v x sel h M' hM'
    obtain ⟨p,l,q,b,r,rfl,rfl,hno,hne,hp,hl,hq,hb,hr⟩:=soD_inv h
    exact soD_of x hno hne ((hM' p (by simp)).trans hp) ((hM' l (by simp)).trans hl) ((hM' q (by simp)).trans hq) ((hM' b (by simp)).trans hb) ((hM' r (by simp)).trans hr)
theorem soO_dec {M : Nat → Option Blk} {p : Nat} : soO.dec M (.ptr p 0 0) = soR M p (M p):=rfl
theorem soR_eq {M : Nat → Option Blk} {p q l : Nat} {z b a : Int} {s : ByteArray} {down : Bool} : soR M p (some (.row false 7 [[.ptr q 0 0,.int .i64 z,.str s,.int .i64 b,.int .i64 a,.ptr l 0 0,.bool down]])) = soS p q z s b a down (lgR M l (M l)):=rfl
theorem soS_eq {p q l k r : Nat} {z b a : Int} {s : ByteArray} {down : Bool} {g : Lg} : soS p q z s b a down (some (g,[(l,false),(q,false),(k,false),(r,false)])) = if no4 p l q k r = true then some (⟨g,z,s,b,a,down⟩,[(p,false),(l,false),(q,false),(k,false),(r,false)]) else none:=by
  simp only [soS,true_and]
theorem So.eta (x : So) : (⟨x.g,x.z,x.s,x.b,x.a,x.down⟩ : So) = x:=rfl
end Go.Proofs.YthapdikdeoeplaaGreatDoor.Z7
end
