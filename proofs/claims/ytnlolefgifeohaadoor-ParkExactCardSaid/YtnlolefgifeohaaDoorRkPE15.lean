import Derived.Test.YtnlolefgifeohaaDoorVecZE15
import Derived.Test.YtnlolefgifeohaaDoorVecKE15
import Derived.Test.YtnlolefgifeohaaDoorFRkPE15
import Derived.Test.YtnlolefgifeohaaDoorAHd
open Go AH
set_option linter.unusedSimpArgs false
set_option maxRecDepth 100000
namespace Go.Proofs.YtnlolefgifeohaaDoor.E15
structure Rm where
  c : Int
  h : V4
  s : Int
def Rm.cells (m : Rm) : List AV:=[.int .i64 m.c,.int .i64 m.h.a,.int .i64 m.h.b,.int .i64 m.h.c,.int .i64 m.h.d,.int .i64 m.s]
def rmZ : Rm:=⟨0,V4.zero,0⟩
def flR : List Rm → List AV
  | [] => []
  | m :: r => .int .i64 m.c :: .int .i64 m.h.a :: .int .i64 m.h.b :: .int .i64 m.h.c :: .int .i64 m.h.d :: .int .i64 m.s :: flR r
def decR : List AV → Option (List Rm)
  | [] =>some []
  | .int .i64 c :: .int .i64 a :: .int .i64 b :: .int .i64 d :: .int .i64 e :: .int .i64 s :: r =>(decR r).map (⟨c,⟨a,b,d,e⟩,s⟩ :: ·)
  | _ =>none
theorem decR_fl : ∀ R : List Rm,decR (flR R) = some R
  | [] =>rfl
  | m :: r =>by simp only [flR,decR,decR_fl r]; rfl
theorem decR_ok : ∀ (n : Nat) {cs : List AV} {R : List Rm},cs.length ≤ n → decR cs = some R → cs = flR R
  | 0,cs,R,hn,h =>by
    obtain rfl : cs = []:=List.eq_nil_of_length_eq_zero (by omega)
    simp [decR] at h; subst h; rfl
  | n + 1,cs,R,hn,h =>by
    unfold decR at h
    split at h
    · simp at h; subst h; rfl
    · rename_i c a b d e s r
      cases h1 : decR r with
      | none =>rw [h1] at h; cases h
      | some l =>
        rw [h1] at h
        simp only [Option.map_some,Option.some.injEq] at h
        subst h
        simp only [List.length_cons] at hn
        rw [decR_ok n (by omega) h1]; rfl
    · cases h
theorem flR_len : ∀ R : List Rm,(flR R).length = 6 * R.length
  | [] =>rfl
  | m :: r =>by simp only [flR,List.length_cons,flR_len r]; omega
theorem flR_in (p : Nat → Bool) : ∀ R : List Rm,AV.insB p (flR R) = true
  | [] =>rfl
  | m :: r =>by simp only [flR,AV.insB,AV.inB,Bool.true_and]; exact flR_in p r
theorem flR_ren (ρ : Nat → Nat) : ∀ R : List Rm,AV.rens ρ (flR R) = flR R
  | [] =>rfl
  | m :: r =>by simp only [flR,AV.rens,AV.ren,List.cons.injEq,true_and]; exact flR_ren ρ r
theorem flR_drop : ∀ (R : List Rm) (i : Nat) (h : i < R.length),(flR R).drop (i * 6) = R[i].cells ++ flR (R.drop (i + 1))
  | m :: r,0,_ =>rfl
  | m :: r,i + 1,h =>by
    have:=flR_drop r i (by simpa using h)
    simp only [List.getElem_cons_succ,List.drop_succ_cons]
    rw [← this,show (i + 1) * 6 = i * 6 + 6 by omega]
    rfl
theorem flR_get {R : List Rm} {i k : Nat} (h : i < R.length) (hk : k < 6) : (flR R).getD (i * 6 + k) .undef = R[i].cells.getD k .undef:=by
  have e:=flR_drop R i h
  have : (flR R).getD (i * 6 + k) .undef = ((flR R).drop (i * 6)).getD k .undef:=by
    rw [List.getD_eq_getElem?_getD,List.getD_eq_getElem?_getD,List.getElem?_drop]
  rw [this,e,List.getD_eq_getElem?_getD,List.getElem?_append_left (by simpa [Rm.cells] using hk),← List.getD_eq_getElem?_getD]
variable {R : List Rm} {i : Nat}
theorem fl0 (h : i < R.length) : (flR R).getD (i * 6) .undef = .int .i64 R[i].c:=flR_get (k:=0) h (by decide)
theorem fl1 (h : i < R.length) : (flR R).getD (i * 6 + 1) .undef = .int .i64 R[i].h.a:=flR_get (k:=1) h (by decide)
theorem fl2 (h : i < R.length) : (flR R).getD (i * 6 + 2) .undef = .int .i64 R[i].h.b:=flR_get (k:=2) h (by decide)
theorem fl3 (h : i < R.length) : (flR R).getD (i * 6 + 3) .undef = .int .i64 R[i].h.c:=flR_get (k:=3) h (by decide)
theorem fl4 (h : i < R.length) : (flR R).getD (i * 6 + 4) .undef = .int .i64 R[i].h.d:=flR_get (k:=4) h (by decide)
theorem fl5 (h : i < R.length) : (flR R).getD (i * 6 + 5) .undef = .int .i64 R[i].s:=flR_get (k:=5) h (by decide)
theorem flh (h : i < R.length) : ((flR R).drop (i * 6 + 1)).take 4 = [.int .i64 R[i].h.a,.int .i64 R[i].h.b,.int .i64 R[i].h.c,.int .i64 R[i].h.d]:=by
  rw [← List.drop_drop,flR_drop R i h]; rfl
theorem fls : ∀ (R : List Rm) (i : Nat) (m : Rm),i < R.length → splice (flR R) (i * 6) m.cells = flR (R.set i m)
  | x :: r,0,m,_ =>rfl
  | x :: r,i + 1,m,h =>by
    have:=fls r i m (by simpa using h)
    rw [show (i + 1) * 6 = i * 6 + 1 + 1 + 1 + 1 + 1 + 1 by omega]
    simp only [flR,splice,List.set_cons_succ,this]
theorem fls5 : ∀ (R : List Rm) (i : Nat) (s : Int) (h : i < R.length),splice (flR R) (i * 6 + 5) [.int .i64 s] = flR (R.set i ⟨R[i].c,R[i].h,s⟩)
  | x :: r,0,s,_ =>rfl
  | x :: r,i + 1,s,h =>by
    have:=fls5 r i s (by simpa using h)
    rw [show (i + 1) * 6 + 5 = i * 6 + 5 + 1 + 1 + 1 + 1 + 1 + 1 by omega]
    simp only [flR,splice,List.set_cons_succ,this,List.getElem_cons_succ]
def rpM (R : List Rm) : Mem:=[some (.row false 6000 [flR R])]
def rpL (p : Nat) : Option (List Rm) → Option (List Rm × List (Nat × Bool))
  | some L =>if L.length = 1000 then some (L,[(p,false)]) else none
  | none =>none
def rpR (p : Nat) : Option Blk → Option (List Rm × List (Nat × Bool))
  | some (.row false 6000 [cs]) =>rpL p (decR cs)
  | _ =>none
def rpD (M : Nat → Option Blk) : AV → Option (List Rm × List (Nat × Bool))
  | .ptr p 0 0 =>rpR p (M p)
  | _ =>none
theorem rpD_inv {M : Nat → Option Blk} {v : AV} {R : List Rm} {sel : List (Nat × Bool)} (h : rpD M v = some (R,sel)) :
    ∃ p,v = .ptr p 0 0 ∧ sel = [(p,false)] ∧ R.length = 1000 ∧ M p = some (.row false 6000 [flR R]):=by
  unfold rpD at h
  split at h
  · rename_i p
    unfold rpR at h
    split at h
    · rename_i cs hp
      unfold rpL at h
      split at h
      · rename_i L hL
        split at h
        · rename_i hl
          simp only [Option.some.injEq,Prod.mk.injEq] at h
          obtain ⟨rfl,rfl⟩:=h
          exact ⟨p,rfl,rfl,hl,by rw [hp,decR_ok _ (Nat.le_refl _) hL]⟩
        · cases h
      · cases h
    · cases h
  · cases h
theorem rpR_eq {p : Nat} {R : List Rm} (h : R.length = 1000) : rpR p (some (.row false 6000 [flR R])) = some (R,[(p,false)]):=by
  simp only [rpR,decR_fl,rpL,h,if_true]
def rpO : AH.Obj (List Rm) where
  dec:=rpD
  mem:=rpM
  self:=fun _ => .ptr 0 0 0
  ok:=by
    intro M v R sel h
    obtain ⟨p,rfl,rfl,hl,hp⟩:=rpD_inv h
    refine ⟨⟨?_,?_⟩,?_,?_,?_⟩
    · simp only [selF,hp,Blk.inB,List.all_cons,List.all_nil,flR_in]; rfl
    · simp only [AH.distinct,AH.isIn]; rfl
    · simp only [subF,hp,Option.map_some,Blk.ren,List.map_cons,List.map_nil,flR_ren,Blk.asRo]; rfl
    · simp [AV.inB,AH.isIn]
    · simp [AV.ren,AH.posOf]
  loc:=by
    intro M v R sel h M' hM'
    obtain ⟨p,rfl,rfl,hl,hp⟩:=rpD_inv h
    have h1 : M' p = M p:=hM' p (by simp)
    simp only [rpD,h1,hp,rpR_eq hl]
theorem rpO_dec {M : Nat → Option Blk} {p : Nat} : rpO.dec M (.ptr p 0 0) = rpR p (M p):=rfl
def getR (R : List Rm) (id : Int) : Rm:=R.getD id.toNat rmZ
theorem getR_i {R : List Rm} {i : Nat} (h : i < R.length) : getR R (i : Int) = R[i]:=by
  rw [getR,Int.toNat_natCast,List.getD_eq_getElem?_getD,List.getElem?_eq_getElem h]; rfl
def rIs (R : List Rm) (id : Int) : Bool:=bif decide (id ≥ 1) then (bif decide (id ≤ 999) then decide ((getR R id).c > 0) else false) else false
def rCnA (R : List Rm) (m : Nat) : List Nat:=(List.range' 1 m).filter fun j =>decide ((getR R j).c > 0)
def rCn (R : List Rm) : Nat:=(rCnA R 999).length
def rLvP (R : List Rm) (c : Int) (all : Bool) (j : Nat) : Bool:=bif (getR R j).c == c then (bif decide (c > 0) then (bif all then true else (getR R j).s == 0) else false) else false
def rLvA (R : List Rm) (c : Int) (all : Bool) (m : Nat) : V4:=(List.range' 1 m).foldl (fun o j =>bif rLvP R c all j then addV o (getR R j).h else o) V4.zero
def rLv (R : List Rm) (c : Int) (all : Bool) : V4:=rLvA R c all 999
def rAd (R : List Rm) (id c : Int) (v : V4) : Nat × List Rm :=
  bif decide (id < 1) || (decide (id > 999) || (decide (c < 1) || (decide (c > 4) || !good v))) then (1,R)
  else bif rIs R id then (6,R)
  else bif decide ((rCn R : Int) ≥ 24) then (7,R)
  else bif addK (rLv R c true) v == 0 then (0,R.set id.toNat ⟨c,v,0⟩) else (4,R)
def rDr (R : List Rm) (id : Int) : Nat × List Rm:=bif rIs R id then (0,R.set id.toNat rmZ) else (5,R)
def rSe (R : List Rm) (id s : Int) : Nat × List Rm :=
  bif rIs R id then (bif decide (s < 0) || decide (s > 2) then (1,R) else bif (getR R id).s == s then (13,R) else (0,R.set id.toNat ⟨(getR R id).c,(getR R id).h,s⟩)) else (5,R)
end Go.Proofs.YtnlolefgifeohaaDoor.E15
