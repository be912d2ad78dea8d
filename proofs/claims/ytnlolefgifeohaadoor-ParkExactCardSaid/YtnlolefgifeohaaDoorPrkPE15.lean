import Derived.Test.YtnlolefgifeohaaDoorVecE15
import Derived.Test.YtnlolefgifeohaaDoorVecZE15
import Derived.Test.YtnlolefgifeohaaDoorMapKE15
import Derived.Test.YtnlolefgifeohaaDoorNumsE15
import Derived.Test.YtnlolefgifeohaaDoorAHd
open Go AH
set_option linter.unusedSimpArgs false
namespace Go.Proofs.YtnlolefgifeohaaDoor.E15
structure Ma where
  i : Int
  c : Int
  h : V4
  s : Int
def Ma.cells (m : Ma) : List AV:=[.int .i64 m.i,.int .i64 m.c,.int .i64 m.h.a,.int .i64 m.h.b,.int .i64 m.h.c,.int .i64 m.h.d,.int .i64 m.s]
def Ma.av (m : Ma) : AV:=.agg [.int .i64 m.i,.int .i64 m.c,.int .i64 m.h.a,.int .i64 m.h.b,.int .i64 m.h.c,.int .i64 m.h.d,.int .i64 m.s]
def decMa : List AV → Option Ma
  | [.int .i64 i,.int .i64 c,.int .i64 a,.int .i64 b,.int .i64 d,.int .i64 e,.int .i64 s] =>some ⟨i,c,⟨a,b,d,e⟩,s⟩
  | _ =>none
theorem decMa_ok (l : List AV) (v : Ma) (h : decMa l = some v) : l = v.cells:=by
  unfold decMa at h
  split at h
  · simp only [Option.some.injEq] at h; subst h; rfl
  · cases h
def cMa : Cod Ma:=⟨Ma.cells,decMa,decMa_ok,fun _ =>rfl,fun _ =>rfl⟩
instance : FlatE Ma.cells:=⟨cMa.flat⟩
def aMa : Arg Ma:=aA cMa
theorem Ma.cells_eq (m : Ma) : m.cells = [.int .i64 m.i,.int .i64 m.c,.int .i64 m.h.a,.int .i64 m.h.b,.int .i64 m.h.c,.int .i64 m.h.d,.int .i64 m.s]:=rfl
theorem Ma.eta (m : Ma) : (⟨m.i,m.c,⟨m.h.a,m.h.b,m.h.c,m.h.d⟩,m.s⟩ : Ma) = m:=rfl
theorem ma_in (p : Nat → Bool) (L : List (En Ma)) : ((L.map (enA Ma.av)).all fun e =>AV.inB p e.1 && AV.inB p e.2.1) = true:=enX_in aMa p L
theorem ma_ren (ρ : Nat → Nat) (L : List (En Ma)) : (L.map (enA Ma.av)).map (fun e =>(AV.ren ρ e.1,AV.ren ρ e.2.1,e.2.2)) = L.map (enA Ma.av):=enX_ren aMa ρ L
def pkR (M : Nat → Option Blk) (p : Nat) (b : Option Blk) : Option (Mp Ma × List (Nat × Bool)):=mpR aMa M p b
def pkB (p b : Nat) (o : Option Blk) : Option (Mp Ma × List (Nat × Bool)):=mpB aMa p b o
def pkO : AH.Obj (Mp Ma):=mpO aMa
def pkM (t : Mp Ma) : Mem:=[some (.row false 1 [[.map 1]]),some (.map (t.L.map (enA Ma.av)) t.c)]
theorem pkO_dec {M : Nat → Option Blk} {p : Nat} : pkO.dec M (.ptr p 0 0) = pkR M p (M p):=rfl
theorem pkR_eq {M : Nat → Option Blk} {p b : Nat} : pkR M p (some (.row false 1 [[.map b]])) = pkB p b (M b):=rfl
theorem pkB_eq {p b c : Nat} {L : List (En Ma)} (hne : p ≠ b) : pkB p b (some (.map (L.map (enA Ma.av)) c)) = some (⟨L,c⟩,[(p,false),(b,false)]):=mpB_eq hne
theorem maV_eq (i : Nat) (e : En Ma) : enV Ma.av (i,e) = (i,.agg [.int .i64 e.v.i,.int .i64 e.v.c,.int .i64 e.v.h.a,.int .i64 e.v.h.b,.int .i64 e.v.h.c,.int .i64 e.v.h.d,.int .i64 e.v.s],e.s):=rfl
def maZ : Ma:=⟨0,0,V4.zero,0⟩
def maQ : Option (Nat × En Ma) → Ma
  | some x =>x.2.v
  | none =>maZ
def ofM (t : Mp Ma) (id : Int) : Ma:=maQ (enF id t.L 0)
def isM (t : Mp Ma) (id : Int) : Bool:=(enF id t.L 0).isSome
def idsM (t : Mp Ma) : List Int:=sortI (t.L.map (·.k))
def allM (t : Mp Ma) : List Ma:=(idsM t).map (ofM t)
theorem idsM_len (t : Mp Ma) : (idsM t).length = t.L.length:=by rw [idsM,sortI_len,List.length_map]
theorem allM_len (t : Mp Ma) : (allM t).length = t.L.length:=by rw [allM,List.length_map,idsM_len]
def rowM (l : List Ma) : Option Blk:=some (.row false 7 (l.map Ma.cells))
def keepC (c : Int) (l : List Ma) : List Ma:=l.filter fun m => !(m.c != c)
def listM (t : Mp Ma) (c : Int) : List Ma:=keepC c (allM t)
def gapM (c : Int) (l : List Ma) : List Ma:=keepC c l ++ List.replicate (l.length - (keepC c l).length) maZ
def sumW (p : Ma → Bool) (l : List Ma) : V4:=l.foldl (fun o m =>bif p m then addV o m.h else o) V4.zero
theorem sumW_snoc (p : Ma → Bool) (l : List Ma) (m : Ma) : sumW p (l ++ [m]) = bif p m then addV (sumW p l) m.h else sumW p l:=by
  rw [sumW,List.foldl_append]; rfl
theorem keepC_snoc (c : Int) (l : List Ma) (m : Ma) : keepC c (l ++ [m]) = keepC c l ++ bif m.c != c then [] else [m]:=by
  rw [keepC,List.filter_append]
  congr 1
  rw [List.filter_cons]
  cases h : (m.c != c) <;> rfl
theorem keepC_len (c : Int) (l : List Ma) : (keepC c l).length ≤ l.length:=List.length_filter_le _ _
theorem listM_len (t : Mp Ma) (c : Int) : (listM t c).length ≤ t.L.length:=Nat.le_trans (keepC_len _ _) (by rw [allM_len]; exact Nat.le_refl _)
def liveM (t : Mp Ma) (c : Int) : V4:=sumW (fun m =>m.s == 0) (listM t c)
structure Fw (t : Mp Ma) : Prop where
  wf : t.wf
  len : t.L.length ≤ 1000
  key : ∀ e ∈ t.L,-9223372036854775808 ≤ e.k ∧ e.k ≤ 9223372036854775807
noncomputable instance (t : Mp Ma) : Decidable (Fw t):=Classical.propDecidable _
def adM (t : Mp Ma) (id c : Int) (v : V4) : Nat × Mp Ma :=
  bif decide (id < 1) || (decide (id > 999) || (decide (c < 1) || (decide (c > 4) || !good v))) then (1,t)
  else bif isM t id then (6,t)
  else bif decide ((t.L.length : Int) ≥ 24) then (7,t)
  else bif addK (sumW (fun _ =>true) (listM t c)) v == 0 then (0,⟨t.L ++ [⟨id,⟨id,c,v,0⟩,t.c⟩],t.c + 1⟩)
  else (addK (sumW (fun _ =>true) (listM t c)) v,t)
def drQ (t : Mp Ma) : Option (Nat × En Ma) → Nat × Mp Ma
  | none =>(5,t)
  | some x =>(0,⟨t.L.eraseIdx x.1,t.c⟩)
def drM (t : Mp Ma) (id : Int) : Nat × Mp Ma:=drQ t (enF id t.L 0)
def seQ (t : Mp Ma) (id s : Int) : Option (Nat × En Ma) → Nat × Mp Ma
  | none =>(5,t)
  | some x =>bif decide (s < 0) || decide (s > 2) then (1,t) else bif x.2.v.s == s then (13,t) else (0,⟨t.L.set x.1 ⟨id,⟨x.2.v.i,x.2.v.c,x.2.v.h,s⟩,x.2.s⟩,t.c⟩)
def seM (t : Mp Ma) (id s : Int) : Nat × Mp Ma:=seQ t id s (enF id t.L 0)
def K0 : Mp Ma:=⟨[],0⟩
end Go.Proofs.YtnlolefgifeohaaDoor.E15
