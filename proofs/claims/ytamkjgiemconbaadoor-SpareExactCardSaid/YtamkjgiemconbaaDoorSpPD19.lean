import Derived.Test.YtamkjgiemconbaaDoorFVGD19
import Derived.Test.YtamkjgiemconbaaDoorAHd
open Go AH
set_option linter.unusedSimpArgs false
namespace Go.Proofs.YtamkjgiemconbaaDoor.D19
structure SK where
  j : Int
  w : Int
deriving DecidableEq
structure SC where
  j : Int
  w : Int
  f : Int
  g : Int
deriving DecidableEq
def SK.cells (k : SK) : List AV:=[.int .i64 k.j,.int .i64 k.w]
def SC.cells (k : SC) : List AV:=[.int .i64 k.j,.int .i64 k.w,.int .i64 k.f,.int .i64 k.g]
def decSK : List AV → Option SK
  | [.int .i64 a,.int .i64 b] =>some ⟨a,b⟩
  | _ =>none
def decSC : List AV → Option SC
  | [.int .i64 a,.int .i64 b,.int .i64 c,.int .i64 d] =>some ⟨a,b,c,d⟩
  | _ =>none
theorem decSK_ok (l : List AV) (v : SK) (h : decSK l = some v) : l = v.cells:=by
  unfold decSK at h
  split at h
  · simp only [Option.some.injEq] at h; subst h; rfl
  · cases h
theorem decSC_ok (l : List AV) (v : SC) (h : decSC l = some v) : l = v.cells:=by
  unfold decSC at h
  split at h
  · simp only [Option.some.injEq] at h; subst h; rfl
  · cases h
def cSK : Cod SK:=⟨SK.cells,decSK,decSK_ok,fun _ =>rfl,fun _ =>rfl⟩
def cSC : Cod SC:=⟨SC.cells,decSC,decSC_ok,fun _ =>rfl,fun _ =>rfl⟩
def aSK : Arg SK:=aA cSK
def aSC : Arg SC:=aA cSC
def SK.av (k : SK) : AV:=.agg [.int .i64 k.j,.int .i64 k.w]
def SC.av (k : SC) : AV:=.agg [.int .i64 k.j,.int .i64 k.w,.int .i64 k.f,.int .i64 k.g]
theorem keyS : AH.MS.KeyOK (.fl [.int,.int]) SK.av:=fun a b =>by
  obtain ⟨a1,a2⟩:=a
  obtain ⟨b1,b2⟩:=b
  simp only [SK.av,keyEq,eqFlat,eqScalar,and_self,if_true,Option.some.injEq,Bool.and_true]
  rw [Bool.eq_iff_iff]
  simp only [Bool.and_eq_true,beq_iff_eq,SK.mk.injEq]
abbrev SpE:=AH.MS.En SK SC
abbrev SpB:=AH.MS.Mp SK SC
def spM (t : SpB) : Mem:=[some (.row false 1 [[.map 1]]),some (.map (t.L.map (AH.MS.enA SK.av SC.av)) t.c)]
def spO : AH.Obj SpB:=AH.MS.mpO aSK aSC
theorem sp_in (p : Nat → Bool) (L : List SpE) : ((L.map (AH.MS.enA SK.av SC.av)).all fun e =>AV.inB p e.1 && AV.inB p e.2.1) = true:=AH.MS.enX_in aSK aSC p L
theorem sp_ren (ρ : Nat → Nat) (L : List SpE) : (L.map (AH.MS.enA SK.av SC.av)).map (fun e =>(AV.ren ρ e.1,AV.ren ρ e.2.1,e.2.2)) = L.map (AH.MS.enA SK.av SC.av):=AH.MS.enX_ren aSK aSC ρ L
def spR (M : Nat → Option Blk) (p : Nat) (b : Option Blk) : Option (SpB × List (Nat × Bool)):=AH.MS.mpR aSK aSC M p b
def spBk (p b : Nat) (o : Option Blk) : Option (SpB × List (Nat × Bool)):=AH.MS.mpB aSK aSC p b o
theorem spO_dec {M : Nat → Option Blk} {p : Nat} : spO.dec M (.ptr p 0 0) = spR M p (M p):=rfl
theorem spR_eq {M : Nat → Option Blk} {p b : Nat} : spR M p (some (.row false 1 [[.map b]])) = spBk p b (M b):=rfl
theorem spB_eq {p b c : Nat} {L : List SpE} (hne : p ≠ b) : spBk p b (some (.map (L.map (AH.MS.enA SK.av SC.av)) c)) = some (⟨L,c⟩,[(p,false),(b,false)]):=AH.MS.mpB_eq hne
def ofQ (k : SK) : Option (Nat × SpE) → SC
  | some x =>x.2.v
  | none =>⟨k.j,k.w,0,0⟩
def ofB (t : SpB) (k : SK) : SC:=ofQ k (AH.MS.enF k t.L 0)
def bump (c : SC) : Bool → SC
  | true =>⟨c.j,c.w,c.f,IntKind.i64.wrap (c.g + 1)⟩
  | false =>⟨c.j,c.w,IntKind.i64.wrap (c.f + 1),c.g⟩
def addQ (t : SpB) (k : SK) (b : Bool) : Option (Nat × SpE) → SpB
  | some x =>⟨t.L.set x.1 ⟨k,bump x.2.v b,x.2.s⟩,t.c⟩
  | none =>⟨t.L ++ [⟨k,bump ⟨k.j,k.w,0,0⟩ b,t.c⟩],t.c + 1⟩
def addB (t : SpB) (k : SK) (b : Bool) : SpB:=addQ t k b (AH.MS.enF k t.L 0)
def mx0 (n : Int) : Int:=if 0 > n then 0 else n
def leftB (t : SpB) (k : SK) (n : Int) : Int:=mx0 (IntKind.i64.wrap (mx0 n - (ofB t k).f))
def S0B : SpB:=⟨[],0⟩
end Go.Proofs.YtamkjgiemconbaaDoor.D19
