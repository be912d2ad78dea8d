import GoSem.Dispatch
import GoSem.Machine.Frame
import Derived.Control
/-
AH: a Hoare logic over a small abstract memory, for the model. The definitions: abstract values, blocks, compiled code, steps, weakest preconditions.
-/
namespace AH
open Go

inductive AV where
  | undef
  | bool (b : Bool)
  | int (k : IntKind) (n : Int)
  | str (s : ByteArray)
  | nilp
  | ptr (id ix sub : Nat)
  | nils
  | slc (id ix len : Nat) (cap : Option Nat)
  | isl (id ix sub len : Nat)
  | nilm
  | map (id : Nat)
  | fn (f : FuncId) (first cap : List AV)
  | nilf
  | nili
  | ifc (t : TypeId) (v : AV)
  | err (i : Nat)
  | agg (cs : List AV)
  | tup (vs : List AV)
  deriving Inhabited

/-- One block: a row of elements of k cells each; or a map: entries (key, value, stamp) in the order of their making, and the clock. -/
inductive Blk where
  | row (ro : Bool) (k : Nat) (elems : List (List AV))
  | map (es : List (AV × AV × Nat)) (clock : Nat)
  deriving Inhabited

abbrev Mem := List (Option Blk)

def mget : Mem → Nat → Option Blk
  | [], _ => none
  | b :: _, 0 => b
  | _ :: r, n + 1 => mget r n

def mset : Mem → Nat → Option Blk → Mem
  | [], 0, b => [b]
  | [], n + 1, b => none :: mset [] n b
  | _ :: r, 0, b => b :: r
  | x :: r, n + 1, b => x :: mset r n b

abbrev Tm := List (Nat × AV)

def tget : Tm → Nat → AV
  | [], _ => .undef
  | (s, v) :: r, t => bif s == t then v else tget r t

/-- A new value for a temporary: the elder one is struck. -/
def terase : Tm → Nat → Tm
  | [], _ => []
  | (s, v) :: r, t => bif s == t then r else (s, v) :: terase r t

inductive Opd where
  | t (n : Nat)
  | c (v : AV)
  deriving Inhabited

def Opd.ev (tm : Tm) : Opd → AV
  | .t n => tget tm n
  | .c v => v

/-- Kinds of cells that '==' takes one by one. -/
inductive SK where
  | bool | int | str
  deriving DecidableEq, Inhabited

inductive EqK where
  | bool | ptr | iface | slice | map | func
  | flat (ks : List SK)
  deriving DecidableEq, Inhabited

/-- Of what a length is asked. -/
inductive LK where
  | str | sl | map
  deriving DecidableEq, Inhabited

/-- Kinds of keys. -/
inductive KK where
  | sc (k : SK)
  | fl (ks : List SK)
  deriving DecidableEq, Inhabited

inductive AOp (α : Type) where
  | mov (x : α)
  | pick (c a b : α)
  | box (k : Nat) (x : α)
  | build (zero : List AV) (parts : List (Nat × Nat × α))
  | bslice (e n : Nat) (zero : List AV) (parts : List (Nat × Nat × α))
  | load (agg : Bool) (n : Nat) (x : α)
  | loadg (g : Nat)
  | store (n : Nat) (p x : α)
  | nilchk (x : α)
  | ibin (op : BinOp) (x y : α)
  | eq (neg : Bool) (k : EqK) (lit : Bool) (x y : α)
  | un (op : UnOp) (x : α)
  | i2i (k : IntKind) (x : α)
  | same (x : α)
  | s2b (x : α)
  | b2s (x : α)
  | mkifc (t : TypeId) (x : α)
  | mkfn (f : FuncId) (first cap : List α)
  | mkmap
  | mkslice (e : Nat) (bytes : Nat) (zero : List AV) (len cap : α)
  | sliceArr (n e : Nat) (x : α) (lo hi : Option α)
  | slice (e : Nat) (x : α) (lo hi mx : Option α)
  | sliceStr (x : α) (lo hi : Option α)
  | faddr (off : Nat) (x : α)
  | fld (agg : Bool) (n off : Nat) (x : α)
  | iaddrArr (n e : Nat) (x i : α)
  | iaddrSl (e : Nat) (x i : α)
  | idxArr (n : Nat) (agg : Bool) (e : Nat) (x i : α)
  | idxStr (x i : α)
  | lookup (kk : KK) (zero : AV) (x k : α) (ok : Bool)
  | mapupd (kk : KK) (x k v : α)
  | mentry (kk : KK) (zero : AV) (x k : α)
  | estore (x st v : α)
  | mdel (kk : KK) (x k : α)
  | lenArr (n : Nat)
  | len (k : LK) (x : α)
  | append (e bytes : Nat) (zero : List AV) (x y : α)
  | copy (e : Nat) (x y : α)
  | minmax (mx : Bool) (args : List α)
  | extract (x : α) (i : Nat)
  | call (f : α) (args : List α)
  deriving Inhabited

def AOp.map {α β : Type} (f : α → β) : AOp α → AOp β
  | .mov x => .mov (f x)
  | .pick c a b => .pick (f c) (f a) (f b)
  | .box k x => .box k (f x)
  | .build z ps => .build z (ps.map fun p => (p.1, p.2.1, f p.2.2))
  | .bslice e n z ps => .bslice e n z (ps.map fun p => (p.1, p.2.1, f p.2.2))
  | .load a n x => .load a n (f x)
  | .loadg g => .loadg g
  | .store n p x => .store n (f p) (f x)
  | .nilchk x => .nilchk (f x)
  | .ibin op x y => .ibin op (f x) (f y)
  | .eq n k l x y => .eq n k l (f x) (f y)
  | .un op x => .un op (f x)
  | .i2i k x => .i2i k (f x)
  | .same x => .same (f x)
  | .s2b x => .s2b (f x)
  | .b2s x => .b2s (f x)
  | .mkifc t x => .mkifc t (f x)
  | .mkfn g a b => .mkfn g (a.map f) (b.map f)
  | .mkmap => .mkmap
  | .mkslice e b z n c => .mkslice e b z (f n) (f c)
  | .sliceArr n e x l h => .sliceArr n e (f x) (l.map f) (h.map f)
  | .slice e x l h m => .slice e (f x) (l.map f) (h.map f) (m.map f)
  | .sliceStr x l h => .sliceStr (f x) (l.map f) (h.map f)
  | .faddr o x => .faddr o (f x)
  | .fld a n o x => .fld a n o (f x)
  | .iaddrArr n e x i => .iaddrArr n e (f x) (f i)
  | .iaddrSl e x i => .iaddrSl e (f x) (f i)
  | .idxArr n a e x i => .idxArr n a e (f x) (f i)
  | .idxStr x i => .idxStr (f x) (f i)
  | .lookup kk z x k ok => .lookup kk z (f x) (f k) ok
  | .mapupd kk x k v => .mapupd kk (f x) (f k) (f v)
  | .mentry kk z x k => .mentry kk z (f x) (f k)
  | .estore x s v => .estore (f x) (f s) (f v)
  | .mdel kk x k => .mdel kk (f x) (f k)
  | .lenArr n => .lenArr n
  | .len k x => .len k (f x)
  | .append e b z x y => .append e b z (f x) (f y)
  | .copy e x y => .copy e (f x) (f y)
  | .minmax m l => .minmax m (l.map f)
  | .extract x i => .extract (f x) i
  | .call g l => .call (f g) (l.map f)

structure AOper where
  dst : Option Nat
  guard : Option (Nat × Bool)
  op : AOp Opd
  deriving Inhabited

inductive ACode where
  | skip
  | reg (ops : List AOper)
  | draw (ops : List AOper) (ix : List (List Nat))
  | seq (a b : ACode)
  | cond (c : Opd) (thn els : ACode)
  | block (id : Nat) (body : ACode)
  | loop (body : ACode)
  | exit (id : Nat)
  | ret
  deriving Inhabited

structure St where
  tm : Tm
  mem : Mem

structure Eff where
  val : AV
  foot : List Nat := []
  wr : List (Nat × Option Blk) := []

/-- The cells of a value. -/
def AV.cells : AV → Option (List AV)
  | .agg cs => some cs
  | .undef => none
  | .tup _ => none
  | v => some [v]

def splice : List AV → Nat → List AV → List AV
  | e, 0, xs => xs ++ e.drop xs.length
  | [], _ + 1, _ => []
  | c :: e, s + 1, xs => c :: splice e s xs

/-- Part of a row of cells as a value. -/
def part (agg : Bool) (n off : Nat) (cs : List AV) : AV :=
  match agg with
  | true => .agg ((cs.drop off).take n)
  | false => cs.getD off .undef

def fill (cells : List AV) : List (Nat × Nat × AV) → Option (List AV)
  | [] => some cells
  | (off, size, v) :: r =>
    match v.cells with
    | some cs => if cs.length = size ∧ off + size ≤ cells.length then fill (splice cells off cs) r else none
    | none => none

def intOp (op : BinOp) (k : IntKind) (x y : Int) : Option (Prop × AV) :=
  match op with
  | .add => some (True, .int k (k.wrap (x + y)))
  | .sub => some (True, .int k (k.wrap (x - y)))
  | .mul => some (True, .int k (k.wrap (x * y)))
  | .quo => some (y ≠ 0, .int k (k.wrap (x.tdiv y)))
  | .rem => some (y ≠ 0, .int k (x.tmod y))
  | .and => some (True, .int k (k.wrap (BitVec.ofInt k.bits x &&& BitVec.ofInt k.bits y).toNat))
  | .or => some (True, .int k (k.wrap (BitVec.ofInt k.bits x ||| BitVec.ofInt k.bits y).toNat))
  | .xor => some (True, .int k (k.wrap (BitVec.ofInt k.bits x ^^^ BitVec.ofInt k.bits y).toNat))
  | .andNot => some (True, .int k (k.wrap (BitVec.ofInt k.bits x &&& ~~~BitVec.ofInt k.bits y).toNat))
  | .eql => some (True, .bool (x == y))
  | .neq => some (True, .bool (x != y))
  | .lss => some (True, .bool (decide (x < y)))
  | .leq => some (True, .bool (decide (x ≤ y)))
  | .gtr => some (True, .bool (decide (x > y)))
  | .geq => some (True, .bool (decide (x ≥ y)))
  | .shl => some (0 ≤ y, .int k (k.wrap (x * 2 ^ (min y.toNat k.bits))))
  | .shr => some (0 ≤ y, .int k (x.fdiv (2 ^ (min y.toNat k.bits))))

def strOp (op : BinOp) (x y : ByteArray) : Option (Prop × AV) :=
  match op with
  | .add => some (((x.size + y.size : Nat) : Int) ≤ IntKind.i64.max, .str (x ++ y))
  | .eql => some (True, .bool (x.toList == y.toList))
  | .neq => some (True, .bool (!(x.toList == y.toList)))
  | .lss => some (True, .bool (Op.bytesLess x.toList y.toList))
  | .leq => some (True, .bool (Op.bytesLess x.toList y.toList || x.toList == y.toList))
  | .gtr => some (True, .bool (!(Op.bytesLess x.toList y.toList || x.toList == y.toList)))
  | .geq => some (True, .bool (!(Op.bytesLess x.toList y.toList)))
  | _ => none

def binAV (op : BinOp) : AV → AV → Option (Prop × AV)
  | .int k a, .int k' b => match op with
    | .shl | .shr => intOp op k a b
    | _ => if k = k' then intOp op k a b else none
  | .str a, .str b => strOp op a b
  | _, _ => none

def eqScalar (k : SK) : AV → AV → Option Bool
  | .int j a, .int j' b => if k = .int ∧ j = j' then some (a == b) else none
  | .bool a, .bool b => if k = .bool then some (a == b) else none
  | .str a, .str b => if k = .str then some (a.toList == b.toList) else none
  | _, _ => none

def eqFlat : List SK → List AV → List AV → Option Bool
  | [], [], [] => some true
  | k :: ks, a :: r, b :: s => match eqScalar k a b, eqFlat ks r s with
    | some x, some y => some (x && y)
    | _, _ => none
  | _, _, _ => none

def eqAV (k : EqK) (lit : Bool) : AV → AV → Option (Prop × Bool)
  | .bool a, .bool b => if k = .bool then some (True, a == b) else none
  | .agg a, .agg b => match k with
    | .flat ks => (eqFlat ks a b).map fun x => (True, x)
    | _ => none
  | .nilp, .nilp => if k = .ptr then some (True, true) else none
  | .nilp, .ptr .. => if k = .ptr then some (True, false) else none
  | .ptr .., .nilp => if k = .ptr then some (True, false) else none
  | .nils, .nils => if k = .slice then some (True, true) else none
  | .nils, .slc _ _ n _ => if k = .slice then some (n ≠ 0, false) else none
  | .nils, .isl .. => if k = .slice then some (True, false) else none
  | .slc _ _ n _, .nils => if k = .slice then some (n ≠ 0, false) else none
  | .isl .., .nils => if k = .slice then some (True, false) else none
  | .nilm, .nilm => if k = .map then some (True, true) else none
  | .map _, .nilm => if k = .map then some (True, false) else none
  | .nilm, .map _ => if k = .map then some (True, false) else none
  | .nilf, .nilf => if k = .func then some (True, true) else none
  | .fn .., .nilf => if k = .func then some (True, false) else none
  | .nilf, .fn .. => if k = .func then some (True, false) else none
  | .nili, .nili => if k = .iface ∧ lit = true then some (True, true) else none
  | .nili, .ifc .. => if k = .iface then some (True, false) else none
  | .ifc .., .nili => if k = .iface then some (True, false) else none
  | .nili, .err _ => if k = .iface then some (True, false) else none
  | .err _, .nili => if k = .iface then some (True, false) else none
  | _, _ => none

def unAV (op : UnOp) : AV → Option AV
  | .bool b => if op = .not then some (.bool !b) else none
  | .int k n => match op with
    | .neg => some (.int k (k.wrap (0 - n)))
    | .xor => some (.int k (k.wrap (BitVec.ofInt k.bits (if k.signed then -1 else k.max) ^^^ BitVec.ofInt k.bits n).toNat))
    | _ => none
  | _ => none

/-- What one operation does: what is asked, and what it comes to; 'fresh' is the number of a new block. -/
def pureE (v : AV) : Option (Prop × Eff) := some (True, { val := v })

def keyEq : KK → AV → AV → Option Bool
  | .sc k, a, b => eqScalar k a b
  | .fl ks, .agg a, .agg b => eqFlat ks a b
  | _, _, _ => none

/-- Is this a key of the kind? Keys of one cell need no look. -/
def keyIs : KK → AV → Bool
  | .sc _, _ => true
  | .fl ks, .agg cs => ks.length == cs.length
  | _, _ => false

/-- Where a key stands: its place, or none. -/
def findK (kk : KK) (k : AV) : List (AV × AV × Nat) → Nat → Option (Option (Nat × AV × Nat))
  | [], _ => some none
  | (k', v, s) :: r, i => match keyEq kk k k' with
    | some true => some (some (i, v, s))
    | some false => findK kk k r (i + 1)
    | none => none

def bound (d : Nat) : Option AV → Option Int
  | none => some d
  | some (.int _ n) => some n
  | some _ => none

def minmaxAV (mx : Bool) : AV → List AV → Option AV
  | v, [] => some v
  | .int k x, .int k' y :: r => if k = k' then minmaxAV mx (.int k (match mx with | true => if y > x then y else x | false => if y < x then y else x)) r else none
  | _, _ => none

def rowAt (mem : Nat → Option Blk) (id : Nat) : Option (Bool × Nat × List (List AV)) :=
  match mem id with
  | some (.row ro k es) => some (ro, k, es)
  | _ => none

def mapAt (mem : Nat → Option Blk) (id : Nat) : Option (List (AV × AV × Nat) × Nat) :=
  match mem id with
  | some (.map es c) => some (es, c)
  | _ => none

/-- The elements that a slice has, as an append reads them. -/
def sliceElems (e : Nat) (mem : Nat → Option Blk) : AV → Option (Prop × List Nat × List (List AV))
  | .nils => some (True, [], [])
  | .slc id ix len _ => match rowAt mem id with
    | some (_, k, es) => if k = e then some (ix + len ≤ es.length, [id], (es.drop ix).take len) else none
    | none => none
  | .isl id ix sub len => match rowAt mem id with
    | some (_, k, es) => if e = 1 then some (ix < es.length ∧ sub + len ≤ k, [id], (((es.getD ix []).drop sub).take len).map fun c => [c]) else none
    | none => none
  | _ => none

/-- The bytes of a row. -/
def bytesOf : List (List AV) → Option (List UInt8)
  | [] => some []
  | [.int .u8 n] :: r => (bytesOf r).map (UInt8.ofNat n.toNat :: ·)
  | _ => none

def bstep (fresh : Nat) (mem : Nat → Option Blk) : AOp AV → Option (Prop × Eff)
  | .mov x => pureE x
  | .pick c a b => match c with
    | .bool t => pureE (bif t then a else b)
    | _ => none
  | .box k x => match x.cells with
    | some cs => some (cs.length = k, { val := .ptr fresh 0 0, foot := [fresh], wr := [(fresh, some (.row false k [cs]))] })
    | none => none
  | .build z ps => match fill z ps with
    | some cs => pureE (.agg cs)
    | none => none
  | .bslice e n z ps => match fill (List.replicate n z).flatten ps with
    | some cs => some (z.length = e, { val := .slc fresh 0 n (some n), foot := [fresh], wr := [(fresh, some (.row false e ((List.range n).map fun i => (cs.drop (i * e)).take e)))] })
    | none => none
  | .load agg n x => match x with
    | .ptr id ix sub => match rowAt mem id with
      | some (_, k, es) => some (ix < es.length ∧ sub + n ≤ k, { val := part agg n sub (es.getD ix []), foot := [id] })
      | none => none
    | _ => none
  | .loadg g => pureE (.err g)
  | .store n p x => match p, x.cells with
    | .ptr id ix sub, some cs => match rowAt mem id with
      | some (false, k, es) => some (ix < es.length ∧ cs.length = n ∧ sub + n ≤ k, { val := .tup [], foot := [id], wr := [(id, some (.row false k (es.set ix (splice (es.getD ix []) sub cs))))] })
      | _ => none
    | _, _ => none
  | .nilchk x => match x with
    | .ptr id ix sub => pureE (.ptr id ix sub)
    | .fn f a b => pureE (.fn f a b)
    | _ => none
  | .ibin op x y => (binAV op x y).map fun r => (r.1, { val := r.2 })
  | .eq neg k lit x y => match eqAV k lit x y with
    | some r => some (r.1, { val := .bool (bif neg then !r.2 else r.2) })
    | none => match x, y with
      | .ptr i a s, .ptr j b t => match rowAt mem i with
        | some (_, kk, _) => if k = .ptr ∧ i = j then some (0 < kk ∧ s = 0 ∧ t = 0, { val := .bool (bif neg then !(a == b) else a == b), foot := [i] }) else none
        | none => none
      | _, _ => none
  | .un op x => (unAV op x).map fun v => (True, { val := v })
  | .i2i k x => match x with
    | .int _ n => pureE (.int k (k.wrap n))
    | _ => none
  | .same x => match x with
    | .str s => pureE (.str s)
    | _ => none
  | .s2b x => match x with
    | .str s => some (True, { val := .slc fresh 0 s.size none, foot := [fresh], wr := [(fresh, some (.row false 1 (s.data.toList.map fun b => [.int .u8 b.toNat])))] })
    | _ => none
  | .b2s x => match sliceElems 1 mem x with
    | some (p, f, es) => match bytesOf es with
      | some l => some (p, { val := .str ⟨l.toArray⟩, foot := f })
      | none => none
    | none => none
  | .mkifc t x => match x with
    | .undef => none
    | .tup _ => none
    | v => pureE (.ifc t v)
  | .mkfn f first cap => pureE (.fn f first cap)
  | .mkmap => some (True, { val := .map fresh, foot := [fresh], wr := [(fresh, some (.map [] 0))] })
  | .mkslice e bytes z len cap => match len, cap with
    | .int .i64 l, .int .i64 c => some (z.length = e ∧ 0 < e ∧ 0 ≤ l ∧ l ≤ c ∧ c * bytes ≤ 140737488355328 ∧ c ≤ 9223372036854775807, { val := .slc fresh 0 l.toNat (some c.toNat), foot := [fresh], wr := [(fresh, some (.row false e (List.replicate c.toNat z)))] })
    | _, _ => none
  | .sliceArr n e x lo hi => match x, bound 0 lo, bound n hi with
    | .ptr id ix sub, some l, some h => match rowAt mem id with
      | some (_, k, es) => if e = 1 then some (0 ≤ l ∧ l ≤ h ∧ h ≤ n ∧ ix < es.length ∧ sub + n ≤ k ∧ l < n, { val := .isl id ix (sub + l.toNat) (h.toNat - l.toNat), foot := [id] }) else none
      | none => none
    | _, _, _ => none
  | .slice e x lo hi mx => match x with
    | .slc id ix len cap => match rowAt mem id with
      | some (_, k, _) => if k = e then match mx with
        | none => match bound 0 lo, bound len hi with
          | some l, some h => some (0 ≤ l ∧ l ≤ h ∧ h ≤ len, { val := .slc id (ix + l.toNat) (h.toNat - l.toNat) (cap.map (· - l.toNat)), foot := [id] })
          | _, _ => none
        | some m => match bound 0 lo, bound len hi, bound 0 (some m) with
          | some l, some h, some m => some (hi.isSome = true ∧ 0 ≤ l ∧ l ≤ h ∧ h ≤ m ∧ m ≤ len, { val := .slc id (ix + l.toNat) (h.toNat - l.toNat) (some (m.toNat - l.toNat)), foot := [id] })
          | _, _, _ => none
        else none
      | none => none
    | .nils => match mx, bound 0 lo, bound 0 hi with
      | none, some l, some h => some (l = 0 ∧ h = 0, { val := .nils })
      | _, _, _ => none
    | _ => none
  | .sliceStr x lo hi => match x with
    | .str s => match bound 0 lo, bound s.size hi with
      | some l, some h => some (0 ≤ l ∧ l ≤ h ∧ h ≤ s.size, { val := .str (s.extract l.toNat h.toNat) })
      | _, _ => none
    | _ => none
  | .faddr off x => match x with
    | .ptr id ix sub => pureE (.ptr id ix (sub + off))
    | _ => none
  | .fld agg n off x => match x with
    | .agg cs => some (off + n ≤ cs.length, { val := part agg n off cs })
    | _ => none
  | .iaddrArr n e x i => match x, i with
    | .ptr id ix sub, .int _ j => some (0 ≤ j ∧ j < n, { val := .ptr id ix (sub + j.toNat * e) })
    | _, _ => none
  | .iaddrSl e x i => match x, i with
    | .slc id ix len _, .int _ j => match rowAt mem id with
      | some (_, k, _) => if k = e then some (0 ≤ j ∧ j < len, { val := .ptr id (ix + j.toNat) 0, foot := [id] }) else none
      | none => none
    | .isl id ix sub len, .int _ j => if e = 1 then some (0 ≤ j ∧ j < len, { val := .ptr id ix (sub + j.toNat) }) else none
    | _, _ => none
  | .idxArr n agg e x i => match x, i with
    | .agg cs, .int _ j => some (0 ≤ j ∧ j < n ∧ n * e ≤ cs.length, { val := part agg e (j.toNat * e) cs })
    | _, _ => none
  | .idxStr x i => match x, i with
    | .str s, .int _ j => some (0 ≤ j ∧ j < s.size, { val := .int .u8 ((s.data.toList.getD j.toNat 0).toNat : Nat) })
    | _, _ => none
  | .lookup kk z x k ok => match x with
    | .nilm => some (keyIs kk k = true, { val := match ok with | true => .tup [z, .bool false] | false => z })
    | .map id => match mapAt mem id with
      | some (es, _) => match findK kk k es 0 with
        | some (some (_, v, _)) => some (keyIs kk k = true, { val := (match ok with | true => .tup [v, .bool true] | false => v), foot := [id] })
        | some none => some (keyIs kk k = true, { val := (match ok with | true => .tup [z, .bool false] | false => z), foot := [id] })
        | none => none
      | none => none
    | _ => none
  | .mapupd kk x k v => match x with
    | .map id => match mapAt mem id with
      | some (es, c) => match findK kk k es 0 with
        | some (some (i, _, s)) => some (keyIs kk k = true, { val := .tup [], foot := [id], wr := [(id, some (.map (es.set i (k, v, s)) c))] })
        | some none => some (keyIs kk k = true, { val := .tup [], foot := [id], wr := [(id, some (.map (es ++ [(k, v, c)]) (c + 1)))] })
        | none => none
      | none => none
    | _ => none
  | .mentry kk z x k => match x with
    | .map id => match mapAt mem id with
      | some (es, c) => match findK kk k es 0 with
        | some (some (i, v, s)) => some (keyIs kk k = true, { val := .tup [v, .int .i64 s], foot := [id], wr := [(id, some (.map (es.set i (k, v, s)) c))] })
        | some none => some (keyIs kk k = true, { val := .tup [z, .int .i64 c], foot := [id], wr := [(id, some (.map (es ++ [(k, z, c)]) (c + 1)))] })
        | none => none
      | none => none
    | _ => none
  | .estore x st v => match x, st with
    | .map id, .int _ n => match mapAt mem id with
      | some (es, c) => match es.findIdx? (fun e => (e.2.2 : Int) == n) with
        | some i => some (True, { val := .tup [], foot := [id], wr := [(id, some (.map (es.modify i fun e => (e.1, v, e.2.2)) c))] })
        | none => none
      | none => none
    | _, _ => none
  | .mdel kk x k => match x with
    | .map id => match mapAt mem id with
      | some (es, c) => match findK kk k es 0 with
        | some (some (i, _, _)) => some (keyIs kk k = true, { val := .tup [], foot := [id], wr := [(id, some (.map (es.eraseIdx i) c))] })
        | some none => some (keyIs kk k = true, { val := .tup [], foot := [id] })
        | none => none
      | none => none
    | .nilm => some (keyIs kk k = true, { val := .tup [] })
    | _ => none
  | .lenArr n => pureE (.int .i64 n)
  | .len k x => match k, x with
    | .str, .str s => pureE (.int .i64 s.size)
    | .sl, .nils => pureE (.int .i64 0)
    | .sl, .slc _ _ n _ => pureE (.int .i64 n)
    | .sl, .isl _ _ _ n => pureE (.int .i64 n)
    | .map, .nilm => pureE (.int .i64 0)
    | .map, .map id => match mapAt mem id with
      | some (es, _) => some (True, { val := .int .i64 es.length, foot := [id] })
      | none => none
    | _, _ => none
  | .append e bytes z x y => match sliceElems e mem x, sliceElems e mem y with
    | some (p, f, xs), some (q, g, ys) =>
      match x with
      | .nils => some (q ∧ z.length = e ∧ 0 < e ∧ ys.length * bytes ≤ 140737488355328 ∧ ys.length ≤ 9223372036854775807, match ys with
        | [] => { val := .nils, foot := g }
        | _ :: _ => { val := .slc fresh 0 ys.length none, foot := fresh :: g, wr := [(fresh, some (.row false e ys))] })
      | .slc id _ len cap => match cap with
        | some c => some (p ∧ q ∧ z.length = e ∧ 0 < e ∧ c = len ∧ (xs.length + ys.length) * bytes ≤ 140737488355328 ∧ xs.length + ys.length ≤ 9223372036854775807, match ys with
          | [] => { val := x, foot := f ++ g }
          | _ :: _ => { val := .slc fresh 0 (xs ++ ys).length none, foot := fresh :: (f ++ g), wr := [(fresh, some (.row false e (xs ++ ys)))] })
        | none => match rowAt mem id with
          | some (false, _, _) => some (p ∧ q ∧ z.length = e ∧ 0 < e ∧ (xs.length + ys.length) * bytes ≤ 140737488355328 ∧ xs.length + ys.length ≤ 9223372036854775807,
              { val := .slc fresh 0 (xs ++ ys).length none, foot := fresh :: (f ++ g), wr := [(id, none), (fresh, some (.row false e (xs ++ ys)))] })
          | _ => none
      | _ => none
    | _, _ => none
  | .copy e x y => match x, sliceElems e mem y with
    | .slc id ix len _, some (q, g, ys) => match rowAt mem id with
      | some (false, k, es) => if k = e then some (q ∧ ix + len ≤ es.length, { val := .int .i64 (min ys.length len : Nat), foot := id :: g, wr := [(id, some (.row false k (es.take ix ++ ys.take len ++ es.drop (ix + min ys.length len))))] }) else none
      | _ => none
    | .nils, some (q, g, _) => some (q, { val := .int .i64 0, foot := g })
    | _, _ => none
  | .minmax mx args => match args with
    | v :: r => (minmaxAV mx v r).map fun v => (True, { val := v })
    | [] => none
  | .extract x i => match x with
    | .tup vs => some (i < vs.length, { val := vs.getD i .undef })
    | _ => none
  | .call _ _ => none

def applyF (M : Nat → Option Blk) : List (Nat × Option Blk) → Nat → Option Blk
  | [], id => M id
  | (i, b) :: r, id => applyF (fun j => if j = i then b else M j) r id

def applyWr (m : Mem) : List (Nat × Option Blk) → Mem
  | [] => m
  | (i, b) :: r => applyWr (mset m i b) r

def St.put (st : St) (dst : Option Nat) (v : AV) : St :=
  match dst with
  | none => st
  | some d => { st with tm := (d, v) :: terase st.tm d }

def St.eff (st : St) (dst : Option Nat) (e : Eff) : St :=
  { st with mem := applyWr st.mem e.wr }.put dst e.val

end AH
