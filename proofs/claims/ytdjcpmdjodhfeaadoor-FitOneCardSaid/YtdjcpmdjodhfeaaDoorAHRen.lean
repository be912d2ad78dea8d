import Derived.Test.YtdjcpmdjodhfeaaDoorAHDefs
/-
AH: blocks under new numbers: the definitions.
-/
namespace AH
open Go

mutual
/-- Blocks get other numbers. -/
def AV.ren (ρ : Nat → Nat) : AV → AV
  | .ptr id ix sub => .ptr (ρ id) ix sub
  | .slc id ix len cap => .slc (ρ id) ix len cap
  | .isl id ix sub len => .isl (ρ id) ix sub len
  | .map id => .map (ρ id)
  | .fn f a b => .fn f (AV.rens ρ a) (AV.rens ρ b)
  | .ifc t v => .ifc t (v.ren ρ)
  | .agg cs => .agg (AV.rens ρ cs)
  | .tup cs => .tup (AV.rens ρ cs)
  | .undef => .undef
  | .bool b => .bool b
  | .int k n => .int k n
  | .str s => .str s
  | .nilp => .nilp
  | .nils => .nils
  | .nilm => .nilm
  | .nilf => .nilf
  | .nili => .nili
  | .err i => .err i
def AV.rens (ρ : Nat → Nat) : List AV → List AV
  | [] => []
  | v :: r => v.ren ρ :: AV.rens ρ r
end

mutual
/-- Do a value's blocks lie in a list? -/
def AV.inB (p : Nat → Bool) : AV → Bool
  | .ptr id _ _ => p id
  | .slc id _ _ _ => p id
  | .isl id _ _ _ => p id
  | .map id => p id
  | .fn _ a b => AV.insB p a && AV.insB p b
  | .ifc _ v => v.inB p
  | .agg cs => AV.insB p cs
  | .tup cs => AV.insB p cs
  | _ => true
def AV.insB (p : Nat → Bool) : List AV → Bool
  | [] => true
  | v :: r => v.inB p && AV.insB p r
end

def Blk.ren (ρ : Nat → Nat) : Blk → Blk
  | .row ro k es => .row ro k (es.map (AV.rens ρ))
  | .map es c => .map (es.map fun e => (e.1.ren ρ, e.2.1.ren ρ, e.2.2)) c

def Blk.inB (p : Nat → Bool) : Blk → Bool
  | .row _ _ es => es.all (AV.insB p)
  | .map es _ => es.all fun e => e.1.inB p && e.2.1.inB p


/-- The place of a number in a list of numbers. -/
def posN : List Nat → Nat → Nat
  | [], _ => 0
  | a :: r, id => bif a == id then 0 else posN r id + 1

def inN : List Nat → Nat → Bool
  | [], _ => false
  | a :: r, id => a == id || inN r id

def distN : List Nat → Bool
  | [] => true
  | a :: r => !inN r a && distN r

/-- Some blocks of a memory, under new numbers: in the list's order. -/
def packM (l0 : List Nat) (m : Mem) : List Nat → Mem
  | [] => []
  | id :: r => (mget m id).map (Blk.ren (posN l0)) :: packM l0 m r

def packB (l0 : List Nat) (m : Mem) : List Nat → Bool
  | [] => true
  | id :: r => (match mget m id with
    | some b => b.inB (inN l0)
    | none => true) && packB l0 m r

/-- Do the first n of a list stand at their own numbers? -/
def heads : Nat → Nat → List Nat → Bool
  | 0, _, _ => true
  | n + 1, i, a :: r => a == i && heads n (i + 1) r
  | _ + 1, _, [] => false

end AH
