import GoSem.Dispatch
import GoSem.Machine.Frame
import Derived.Control
import Derived.ArgAppend
import Derived.Orders
import Derived.ChangeKeysEq
import Derived.Laws.MakeOwn
import Derived.MapKept
namespace AH
open Go
inductive AV where
  | undef
  | bool (b : Bool)
  | int (k : IntKind) (n : Int)
  | str (s : ByteArray)
  | nilp
  | ptr (id ix sub : Nat)
  | nils
  | slc (id ix len : Nat) (cap : Option Nat)
  | isl (id ix sub len : Nat)
  | nilm
  | map (id : Nat)
  | fn (f : FuncId) (first cap : List AV)
  | nilf
  | nili
  | ifc (t : TypeId) (v : AV)
  | err (i : Nat)
  | agg (cs : List AV)
  | tup (vs : List AV)
  deriving Inhabited
inductive Blk where
  | row (ro : Bool) (k : Nat) (elems : List (List AV))
  | map (es : List (AV × AV × Nat)) (clock : Nat)
  | iter (m : Option Nat) (since last : Nat) (seen : List Nat)
  deriving Inhabited
abbrev Mem:=List (Option Blk)
def mget : Mem → Nat → Option Blk
  | [],_ =>none
  | b :: _,0 =>b
  | _ :: r,n + 1 =>mget r n
def mset : Mem → Nat → Option Blk → Mem
  | [],0,b => [b]
  | [],n + 1,b =>none :: mset [] n b
  | _ :: r,0,b =>b :: r
  | x :: r,n + 1,b =>x :: mset r n b
abbrev Tm:=List (Nat × AV)
def tget : Tm → Nat → AV
  | [],_ => .undef
  | (s,v) :: r,t =>bif s == t then v else tget r t
def terase : Tm → Nat → Tm
  | [],_ => []
  | (s,v) :: r,t =>bif s == t then r else (s,v) :: terase r t
inductive Opd where
  | t (n : Nat)
  | c (v : AV)
  deriving Inhabited
def Opd.ev (tm : Tm) : Opd → AV
  | .t n =>tget tm n
  | .c v =>v
inductive SK where
  | bool | int | str
  deriving DecidableEq,Inhabited
inductive EqK where
  | bool | ptr | iface | slice | map | func
  | flat (ks : List SK)
  deriving DecidableEq,Inhabited
inductive LK where
  | str | sl | map
  deriving DecidableEq,Inhabited
inductive KK where
  | sc (k : SK)
  | fl (ks : List SK)
  deriving DecidableEq,Inhabited
inductive AOp (α : Type) where
  | mov (x : α)
  | pick (c a b : α)
  | box (k : Nat) (x : α)
  | build (zero : List AV) (parts : List (Nat × Nat × α))
  | bslice (e n : Nat) (zero : List AV) (parts : List (Nat × Nat × α))
  | load (agg : Bool) (n : Nat) (x : α)
  | loadg (g : Nat)
  | store (n : Nat) (p x : α)
  | nilchk (x : α)
  | ibin (op : BinOp) (x y : α)
  | eq (neg : Bool) (k : EqK) (lit : Bool) (x y : α)
  | un (op : UnOp) (x : α)
  | i2i (k : IntKind) (x : α)
  | same (x : α)
  | s2b (x : α)
  | b2s (x : α)
  | mkifc (t : TypeId) (x : α)
  | mkfn (f : FuncId) (first cap : List α)
  | mkmap
  | mkslice (e : Nat) (bytes : Nat) (zero : List AV) (len cap : α)
  | sliceArr (n e : Nat) (x : α) (lo hi : Option α)
  | slice (e : Nat) (x : α) (lo hi mx : Option α)
  | sliceStr (x : α) (lo hi : Option α)
  | faddr (off : Nat) (x : α)
  | fld (agg : Bool) (n off : Nat) (x : α)
  | iaddrArr (n e : Nat) (x i : α)
  | iaddrSl (e : Nat) (x i : α)
  | idxArr (n : Nat) (agg : Bool) (e : Nat) (x i : α)
  | idxStr (x i : α)
  | lookup (kk : KK) (zero : AV) (x k : α) (ok : Bool)
  | mapupd (kk : KK) (x k v : α)
  | mentry (kk : KK) (zero : AV) (x k : α)
  | estore (x st v : α)
  | mdel (kk : KK) (x k : α)
  | lenArr (n : Nat)
  | len (k : LK) (x : α)
  | append (e bytes : Nat) (zero : List AV) (x y : α)
  | copy (e : Nat) (x y : α)
  | clr (e : Nat) (zero : List AV) (x : α)
  | minmax (mx : Bool) (args : List α)
  | mkiter (x : α)
  | next (x : α)
  | entry (x : α)
  | abort
  | extract (x : α) (i : Nat)
  | call (f : α) (args : List α)
  deriving Inhabited
def AOp.map {α β : Type} (f : α → β) : AOp α → AOp β
  | .mov x => .mov (f x)
  | .pick c a b => .pick (f c) (f a) (f b)
  | .box k x => .box k (f x)
  | .build z ps => .build z (ps.map fun p =>(p.1,p.2.1,f p.2.2))
  | .bslice e n z ps => .bslice e n z (ps.map fun p =>(p.1,p.2.1,f p.2.2))
  | .load a n x => .load a n (f x)
  | .loadg g => .loadg g
  | .store n p x => .store n (f p) (f x)
  | .nilchk x => .nilchk (f x)
  | .ibin op x y => .ibin op (f x) (f y)
  | .eq n k l x y => .eq n k l (f x) (f y)
  | .un op x => .un op (f x)
  | .i2i k x => .i2i k (f x)
  | .same x => .same (f x)
  | .s2b x => .s2b (f x)
  | .b2s x => .b2s (f x)
  | .mkifc t x => .mkifc t (f x)
  | .mkfn g a b => .mkfn g (a.map f) (b.map f)
  | .mkmap => .mkmap
  | .mkslice e b z n c => .mkslice e b z (f n) (f c)
  | .sliceArr n e x l h => .sliceArr n e (f x) (l.map f) (h.map f)
  | .slice e x l h m => .slice e (f x) (l.map f) (h.map f) (m.map f)
  | .sliceStr x l h => .sliceStr (f x) (l.map f) (h.map f)
  | .faddr o x => .faddr o (f x)
  | .fld a n o x => .fld a n o (f x)
  | .iaddrArr n e x i => .iaddrArr n e (f x) (f i)
  | .iaddrSl e x i => .iaddrSl e (f x) (f i)
  | .idxArr n a e x i => .idxArr n a e (f x) (f i)
  | .idxStr x i => .idxStr (f x) (f i)
  | .lookup kk z x k ok => .lookup kk z (f x) (f k) ok
  | .mapupd kk x k v => .mapupd kk (f x) (f k) (f v)
  | .mentry kk z x k => .mentry kk z (f x) (f k)
  | .estore x s v => .estore (f x) (f s) (f v)
  | .mdel kk x k => .mdel kk (f x) (f k)
  | .lenArr n => .lenArr n
  | .len k x => .len k (f x)
  | .append e b z x y => .append e b z (f x) (f y)
  | .copy e x y => .copy e (f x) (f y)
  | .clr e z x => .clr e z (f x)
  | .minmax m l => .minmax m (l.map f)
  | .mkiter x => .mkiter (f x)
  | .next x => .next (f x)
  | .entry x => .entry (f x)
  | .abort => .abort
  | .extract x i => .extract (f x) i
  | .call g l => .call (f g) (l.map f)
structure AOper where
  dst : Option Nat
  guard : Option (Nat × Bool)
  op : AOp Opd
  deriving Inhabited
inductive ACode where
  | skip
  | reg (ops : List AOper)
  | draw (ops : List AOper) (ix : List (List Nat))
  | seq (a b : ACode)
  | cond (c : Opd) (thn els : ACode)
  | block (id : Nat) (body : ACode)
  | loop (body : ACode)
  | exit (id : Nat)
  | ret
  | abort
  deriving Inhabited
structure St where
  tm : Tm
  mem : Mem
structure Eff where
  val : AV
  foot : List Nat:=[]
  wr : List (Nat × Option Blk):=[]
def AV.cells : AV → Option (List AV)
  | .agg cs =>some cs
  | .undef =>none
  | .tup _ =>none
  | v =>some [v]
def splice : List AV → Nat → List AV → List AV
  | e,0,xs =>xs ++ e.drop xs.length
  | [],_ + 1,_ => []
  | c :: e,s + 1,xs =>c :: splice e s xs
def part (agg : Bool) (n off : Nat) (cs : List AV) : AV :=
  match agg with
  | true => .agg ((cs.drop off).take n)
  | false =>cs.getD off .undef
def fill (cells : List AV) : List (Nat × Nat × AV) → Option (List AV)
  | [] =>some cells
  | (off,size,v) :: r =>
    match v.cells with
    | some cs =>if cs.length = size ∧ off + size ≤ cells.length then fill (splice cells off cs) r else none
    | none =>none
def intOp (op : BinOp) (k : IntKind) (x y : Int) : Option (Prop × AV) :=
  match op with
  | .add =>some (True,.int k (k.wrap (x + y)))
  | .sub =>some (True,.int k (k.wrap (x - y)))
  | .mul =>some (True,.int k (k.wrap (x * y)))
  | .quo =>some (y ≠ 0,.int k (k.wrap (x.tdiv y)))
  | .rem =>some (y ≠ 0,.int k (x.tmod y))
  | .and =>some (True,.int k (k.wrap (BitVec.ofInt k.bits x &&& BitVec.ofInt k.bits y).toNat))
  | .or =>some (True,.int k (k.wrap (BitVec.ofInt k.bits x ||| BitVec.ofInt k.bits y).toNat))
  | .xor =>some (True,.int k (k.wrap (BitVec.ofInt k.bits x ^^^ BitVec.ofInt k.bits y).toNat))
  | .andNot =>some (True,.int k (k.wrap (BitVec.ofInt k.bits x &&& ~~~BitVec.ofInt k.bits y).toNat))
  | .eql =>some (True,.bool (x == y))
  | .neq =>some (True,.bool (x != y))
  | .lss =>some (True,.bool (decide (x < y)))
  | .leq =>some (True,.bool (decide (x ≤ y)))
  | .gtr =>some (True,.bool (decide (x > y)))
  | .geq =>some (True,.bool (decide (x ≥ y)))
  | .shl =>some (0 ≤ y,.int k (k.wrap (x * 2 ^ (min y.toNat k.bits))))
  | .shr =>some (0 ≤ y,.int k (x.fdiv (2 ^ (min y.toNat k.bits))))
def strOp (op : BinOp) (x y : ByteArray) : Option (Prop × AV) :=
  match op with
  | .add =>some (((x.size + y.size : Nat) : Int) ≤ IntKind.i64.max,.str (x ++ y))
  | .eql =>some (True,.bool (x.toList == y.toList))
  | .neq =>some (True,.bool (!(x.toList == y.toList)))
  | .lss =>some (True,.bool (Op.bytesLess x.toList y.toList))
  | .leq =>some (True,.bool (Op.bytesLess x.toList y.toList || x.toList == y.toList))
  | .gtr =>some (True,.bool (!(Op.bytesLess x.toList y.toList || x.toList == y.toList)))
  | .geq =>some (True,.bool (!(Op.bytesLess x.toList y.toList)))
  | _ =>none
def binAV (op : BinOp) : AV → AV → Option (Prop × AV)
  | .int k a,.int k' b =>match op with
    | .shl | .shr =>intOp op k a b
    | _ =>if k = k' then intOp op k a b else none
  | .str a,.str b =>strOp op a b
  | _,_ =>none
def eqScalar (k : SK) : AV → AV → Option Bool
  | .int j a,.int j' b =>if k = .int ∧ j = j' then some (a == b) else none
  | .bool a,.bool b =>if k = .bool then some (a == b) else none
  | .str a,.str b =>if k = .str then some (a.toList == b.toList) else none
  | _,_ =>none
def eqFlat : List SK → List AV → List AV → Option Bool
  | [],[],[] =>some true
  | k :: ks,a :: r,b :: s =>match eqScalar k a b,eqFlat ks r s with
    | some x,some y =>some (x && y)
    | _,_ =>none
  | _,_,_ =>none
def eqAV (k : EqK) (lit : Bool) : AV → AV → Option (Prop × Bool)
  | .bool a,.bool b =>if k = .bool then some (True,a == b) else none
  | .agg a,.agg b =>match k with
    | .flat ks =>(eqFlat ks a b).map fun x =>(True,x)
    | _ =>none
  | .nilp,.nilp =>if k = .ptr then some (True,true) else none
  | .nilp,.ptr .. =>if k = .ptr then some (True,false) else none
  | .ptr ..,.nilp =>if k = .ptr then some (True,false) else none
  | .nils,.nils =>if k = .slice then some (True,true) else none
  | .nils,.slc _ _ n _ =>if k = .slice then some (n ≠ 0,false) else none
  | .nils,.isl .. =>if k = .slice then some (True,false) else none
  | .slc _ _ n _,.nils =>if k = .slice then some (n ≠ 0,false) else none
  | .isl ..,.nils =>if k = .slice then some (True,false) else none
  | .nilm,.nilm =>if k = .map then some (True,true) else none
  | .map _,.nilm =>if k = .map then some (True,false) else none
  | .nilm,.map _ =>if k = .map then some (True,false) else none
  | .nilf,.nilf =>if k = .func then some (True,true) else none
  | .fn ..,.nilf =>if k = .func then some (True,false) else none
  | .nilf,.fn .. =>if k = .func then some (True,false) else none
  | .nili,.nili =>if k = .iface ∧ lit = true then some (True,true) else none
  | .nili,.ifc .. =>if k = .iface then some (True,false) else none
  | .ifc ..,.nili =>if k = .iface then some (True,false) else none
  | .nili,.err _ =>if k = .iface then some (True,false) else none
  | .err _,.nili =>if k = .iface then some (True,false) else none
  | _,_ =>none
def unAV (op : UnOp) : AV → Option AV
  | .bool b =>if op = .not then some (.bool !b) else none
  | .int k n =>match op with
    | .neg =>some (.int k (k.wrap (0 - n)))
    | .xor =>some (.int k (k.wrap (BitVec.ofInt k.bits (if k.signed then -1 else k.max) ^^^ BitVec.ofInt k.bits n).toNat))
    | _ =>none
  | _ =>none
def pureE (v : AV) : Option (Prop × Eff):=some (True,{ val:=v })
def keyEq : KK → AV → AV → Option Bool
  | .sc k,a,b =>eqScalar k a b
  | .fl ks,.agg a,.agg b =>eqFlat ks a b
  | _,_,_ =>none
def keyIs : KK → AV → Bool
  | .sc _,_ =>true
  | .fl ks,.agg cs =>ks.length == cs.length
  | _,_ =>false
def findK (kk : KK) (k : AV) : List (AV × AV × Nat) → Nat → Option (Option (Nat × AV × Nat))
  | [],_ =>some none
  | (k',v,s) :: r,i =>match keyEq kk k k' with
    | some true =>some (some (i,v,s))
    | some false =>findK kk k r (i + 1)
    | none =>none
def bound (d : Nat) : Option AV → Option Int
  | none =>some d
  | some (.int _ n) =>some n
  | some _ =>none
def minmaxAV (mx : Bool) : AV → List AV → Option AV
  | v,[] =>some v
  | .int k x,.int k' y :: r =>if k = k' then minmaxAV mx (.int k (match mx with | true =>if y > x then y else x | false =>if y < x then y else x)) r else none
  | _,_ =>none
def rowAt (mem : Nat → Option Blk) (id : Nat) : Option (Bool × Nat × List (List AV)) :=
  match mem id with
  | some (.row ro k es) =>some (ro,k,es)
  | _ =>none
def mapAt (mem : Nat → Option Blk) (id : Nat) : Option (List (AV × AV × Nat) × Nat) :=
  match mem id with
  | some (.map es c) =>some (es,c)
  | _ =>none
def iterAt (mem : Nat → Option Blk) (id : Nat) : Option (Nat × Nat × Nat) :=
  match mem id with
  | some (.iter (some mid) since last seen) =>match seen.getLast? with
    | some s =>bif since ≤ last then some (mid,last,s) else none
    | none =>none
  | _ =>none
def sliceElems (e : Nat) (mem : Nat → Option Blk) : AV → Option (Prop × List Nat × List (List AV))
  | .nils =>some (True,[],[])
  | .slc id ix len _ =>match rowAt mem id with
    | some (_,k,es) =>if k = e then some (ix + len ≤ es.length,[id],(es.drop ix).take len) else none
    | none =>none
  | .isl id ix sub len =>match rowAt mem id with
    | some (_,k,es) =>if e = 1 then some (ix < es.length ∧ sub + len ≤ k,[id],(((es.getD ix []).drop sub).take len).map fun c => [c]) else none
    | none =>none
  | _ =>none
def bytesOf : List (List AV) → Option (List UInt8)
  | [] =>some []
  | [.int .u8 n] :: r =>(bytesOf r).map (UInt8.ofNat n.toNat :: ·)
  | _ =>none
def bstep (fresh : Nat) (mem : Nat → Option Blk) : AOp AV → Option (Prop × Eff)
  | .mov x =>pureE x
  | .pick c a b =>match c with
    | .bool t =>pureE (bif t then a else b)
    | _ =>none
  | .box k x =>match x.cells with
    | some cs =>some (cs.length = k,{ val:=.ptr fresh 0 0,foot:=[fresh],wr:=[(fresh,some (.row false k [cs]))] })
    | none =>none
  | .build z ps =>match fill z ps with
    | some cs =>pureE (.agg cs)
    | none =>none
  | .bslice e n z ps =>match fill (List.replicate n z).flatten ps with
    | some cs =>some (z.length = e,{ val:=.slc fresh 0 n (some n),foot:=[fresh],wr:=[(fresh,some (.row false e ((List.range n).map fun i =>(cs.drop (i * e)).take e)))] })
    | none =>none
  | .load agg n x =>match x with
    | .ptr id ix sub =>match rowAt mem id with
      | some (_,k,es) =>some (ix < es.length ∧ sub + n ≤ k,{ val:=part agg n sub (es.getD ix []),foot:=[id] })
      | none =>none
    | _ =>none
  | .loadg g =>pureE (.err g)
  | .store n p x =>match p,x.cells with
    | .ptr id ix sub,some cs =>match rowAt mem id with
      | some (false,k,es) =>some (ix < es.length ∧ cs.length = n ∧ sub + n ≤ k,{ val:=.tup [],foot:=[id],wr:=[(id,some (.row false k (es.set ix (splice (es.getD ix []) sub cs))))] })
      | _ =>none
    | _,_ =>none
  | .nilchk x =>match x with
    | .ptr id ix sub =>pureE (.ptr id ix sub)
    | .fn f a b =>pureE (.fn f a b)
    | _ =>none
  | .ibin op x y =>(binAV op x y).map fun r =>(r.1,{ val:=r.2 })
  | .eq neg k lit x y =>match eqAV k lit x y with
    | some r =>some (r.1,{ val:=.bool (bif neg then !r.2 else r.2) })
    | none =>match x,y with
      | .ptr i a s,.ptr j b t =>match rowAt mem i with
        | some (_,kk,_) =>if k = .ptr ∧ i = j then some (0 < kk ∧ s = 0 ∧ t = 0,{ val:=.bool (bif neg then !(a == b) else a == b),foot:=[i] }) else none
        | none =>none
      | _,_ =>none
  | .un op x =>(unAV op x).map fun v =>(True,{ val:=v })
  | .i2i k x =>match x with
    | .int _ n =>pureE (.int k (k.wrap n))
    | _ =>none
  | .same x =>match x with
    | .str s =>pureE (.str s)
    | _ =>none
  | .s2b x =>match x with
    | .str s =>some (True,{ val:=.slc fresh 0 s.size none,foot:=[fresh],wr:=[(fresh,some (.row false 1 (s.data.toList.map fun b => [.int .u8 b.toNat])))] })
    | _ =>none
  | .b2s x =>match sliceElems 1 mem x with
    | some (p,f,es) =>match bytesOf es with
      | some l =>some (p,{ val:=.str ⟨l.toArray⟩,foot:=f })
      | none =>none
    | none =>none
  | .mkifc t x =>match x with
    | .undef =>none
    | .tup _ =>none
    | v =>pureE (.ifc t v)
  | .mkfn f first cap =>pureE (.fn f first cap)
  | .mkmap =>some (True,{ val:=.map fresh,foot:=[fresh],wr:=[(fresh,some (.map [] 0))] })
  | .mkslice e bytes z len cap =>match len,cap with
    | .int .i64 l,.int .i64 c =>some (z.length = e ∧ 0 < e ∧ 0 ≤ l ∧ l ≤ c ∧ c * bytes ≤ 140737488355328 ∧ c ≤ 9223372036854775807,{ val:=.slc fresh 0 l.toNat (some c.toNat),foot:=[fresh],wr:=[(fresh,some (.row false e (List.replicate c.toNat z)))] })
    | _,_ =>none
  | .sliceArr n e x lo hi =>match x,bound 0 lo,bound n hi with
    | .ptr id ix sub,some l,some h =>match rowAt mem id with
      | some (_,k,es) =>if e = 1 then some (0 ≤ l ∧ l ≤ h ∧ h ≤ n ∧ ix < es.length ∧ sub + n ≤ k ∧ l < n,{ val:=.isl id ix (sub + l.toNat) (h.toNat - l.toNat),foot:=[id] }) else none
      | none =>none
    | _,_,_ =>none
  | .slice e x lo hi mx =>match x with
    | .slc id ix len cap =>match rowAt mem id with
      | some (_,k,_) =>if k = e then match mx with
        | none =>match bound 0 lo,bound len hi with
          | some l,some h =>some (0 ≤ l ∧ l ≤ h ∧ h ≤ len,{ val:=.slc id (ix + l.toNat) (h.toNat - l.toNat) (cap.map (· - l.toNat)),foot:=[id] })
          | _,_ =>none
        | some m =>match bound 0 lo,bound len hi,bound 0 (some m) with
          | some l,some h,some m =>some (hi.isSome = true ∧ 0 ≤ l ∧ l ≤ h ∧ h ≤ m ∧ m ≤ len,{ val:=.slc id (ix + l.toNat) (h.toNat - l.toNat) (some (m.toNat - l.toNat)),foot:=[id] })
          | _,_,_ =>none
        else none
      | none =>none
    | .nils =>match mx,bound 0 lo,bound 0 hi with
      | none,some l,some h =>some (l = 0 ∧ h = 0,{ val:=.nils })
      | _,_,_ =>none
    | _ =>none
  | .sliceStr x lo hi =>match x with
    | .str s =>match bound 0 lo,bound s.size hi with
      | some l,some h =>some (0 ≤ l ∧ l ≤ h ∧ h ≤ s.size,{ val:=.str (s.extract l.toNat h.toNat) })
      | _,_ =>none
    | _ =>none
  | .faddr off x =>match x with
    | .ptr id ix sub =>pureE (.ptr id ix (sub + off))
    | _ =>none
  | .fld agg n off x =>match x with
    | .agg cs =>some (off + n ≤ cs.length,{ val:=part agg n off cs })
    | _ =>none
  | .iaddrArr n e x i =>match x,i with
    | .ptr id ix sub,.int _ j =>some (0 ≤ j ∧ j < n,{ val:=.ptr id ix (sub + j.toNat * e) })
    | _,_ =>none
  | .iaddrSl e x i =>match x,i with
    | .slc id ix len _,.int _ j =>match rowAt mem id with
      | some (_,k,_) =>if k = e then some (0 ≤ j ∧ j < len,{ val:=.ptr id (ix + j.toNat) 0,foot:=[id] }) else none
      | none =>none
    | .isl id ix sub len,.int _ j =>if e = 1 then some (0 ≤ j ∧ j < len,{ val:=.ptr id ix (sub + j.toNat) }) else none
    | _,_ =>none
  | .idxArr n agg e x i =>match x,i with
    | .agg cs,.int _ j =>some (0 ≤ j ∧ j < n ∧ n * e ≤ cs.length,{ val:=part agg e (j.toNat * e) cs })
    | _,_ =>none
  | .idxStr x i =>match x,i with
    | .str s,.int _ j =>some (0 ≤ j ∧ j < s.size,{ val:=.int .u8 ((s.data.toList.getD j.toNat 0).toNat : Nat) })
    | _,_ =>none
  | .lookup kk z x k ok =>match x with
    | .nilm =>some (keyIs kk k = true,{ val:=match ok with | true => .tup [z,.bool false] | false =>z })
    | .map id =>match mapAt mem id with
      | some (es,_) =>match findK kk k es 0 with
        | some (some (_,v,_)) =>some (keyIs kk k = true,{ val:=(match ok with | true => .tup [v,.bool true] | false =>v),foot:=[id] })
        | some none =>some (keyIs kk k = true,{ val:=(match ok with | true => .tup [z,.bool false] | false =>z),foot:=[id] })
        | none =>none
      | none =>none
    | _ =>none
  | .mapupd kk x k v =>match x with
    | .map id =>match mapAt mem id with
      | some (es,c) =>match findK kk k es 0 with
        | some (some (i,_,s)) =>some (keyIs kk k = true,{ val:=.tup [],foot:=[id],wr:=[(id,some (.map (es.set i (k,v,s)) c))] })
        | some none =>some (keyIs kk k = true,{ val:=.tup [],foot:=[id],wr:=[(id,some (.map (es ++ [(k,v,c)]) (c + 1)))] })
        | none =>none
      | none =>none
    | _ =>none
  | .mentry kk z x k =>match x with
    | .map id =>match mapAt mem id with
      | some (es,c) =>match findK kk k es 0 with
        | some (some (i,v,s)) =>some (keyIs kk k = true,{ val:=.tup [v,.int .i64 s],foot:=[id],wr:=[(id,some (.map (es.set i (k,v,s)) c))] })
        | some none =>some (keyIs kk k = true,{ val:=.tup [z,.int .i64 c],foot:=[id],wr:=[(id,some (.map (es ++ [(k,z,c)]) (c + 1)))] })
        | none =>none
      | none =>none
    | _ =>none
  | .estore x st v =>match x,st with
    | .map id,.int _ n =>match mapAt mem id with
      | some (es,c) =>match es.findIdx? (fun e =>(e.2.2 : Int) == n) with
        | some i =>some (True,{ val:=.tup [],foot:=[id],wr:=[(id,some (.map (es.modify i fun e =>(e.1,v,e.2.2)) c))] })
        | none =>none
      | none =>none
    | _,_ =>none
  | .mdel kk x k =>match x with
    | .map id =>match mapAt mem id with
      | some (es,c) =>match findK kk k es 0 with
        | some (some (i,_,_)) =>some (keyIs kk k = true,{ val:=.tup [],foot:=[id],wr:=[(id,some (.map (es.eraseIdx i) c))] })
        | some none =>some (keyIs kk k = true,{ val:=.tup [],foot:=[id] })
        | none =>none
      | none =>none
    | .nilm =>some (keyIs kk k = true,{ val:=.tup [] })
    | _ =>none
  | .lenArr n =>pureE (.int .i64 n)
  | .len k x =>match k,x with
    | .str,.str s =>pureE (.int .i64 s.size)
    | .sl,.nils =>pureE (.int .i64 0)
    | .sl,.slc _ _ n _ =>pureE (.int .i64 n)
    | .sl,.isl _ _ _ n =>pureE (.int .i64 n)
    | .map,.nilm =>pureE (.int .i64 0)
    | .map,.map id =>match mapAt mem id with
      | some (es,_) =>some (True,{ val:=.int .i64 es.length,foot:=[id] })
      | none =>none
    | _,_ =>none
  | .append e bytes z x y =>match sliceElems e mem x,sliceElems e mem y with
    | some (p,f,xs),some (q,g,ys) =>
      match x with
      | .nils =>some (q ∧ z.length = e ∧ 0 < e ∧ ys.length * bytes ≤ 140737488355328 ∧ ys.length ≤ 9223372036854775807,{ val:=.slc fresh 0 ys.length none,foot:=fresh :: g,wr:=[(fresh,some (.row false e ys))] })
      | .slc id _ len cap =>match cap with
        | some c =>match len with
          | 0 =>some (p ∧ q ∧ z.length = e ∧ 0 < e ∧ c = 0 ∧ ys.length * bytes ≤ 140737488355328 ∧ ys.length ≤ 9223372036854775807,{ val:=.slc fresh 0 ys.length none,foot:=fresh :: (f ++ g),wr:=[(fresh,some (.row false e ys))] })
          | len + 1 =>some (p ∧ q ∧ z.length = e ∧ 0 < e ∧ c = len + 1 ∧ (xs.length + ys.length) * bytes ≤ 140737488355328 ∧ xs.length + ys.length ≤ 9223372036854775807,match ys with
            | [] => { val:=x,foot:=f ++ g }
            | _ :: _ => { val:=.slc fresh 0 (xs ++ ys).length none,foot:=fresh :: (f ++ g),wr:=[(fresh,some (.row false e (xs ++ ys)))] })
        | none =>match rowAt mem id with
          | some (false,_,_) =>some (p ∧ q ∧ z.length = e ∧ 0 < e ∧ (xs.length + ys.length) * bytes ≤ 140737488355328 ∧ xs.length + ys.length ≤ 9223372036854775807,
              { val:=.slc fresh 0 (xs ++ ys).length none,foot:=fresh :: (f ++ g),wr:=[(id,none),(fresh,some (.row false e (xs ++ ys)))] })
          | _ =>none
      | _ =>none
    | _,_ =>none
  | .copy e x y =>match x,sliceElems e mem y with
    | .slc id ix len _,some (q,g,ys) =>match rowAt mem id with
      | some (false,k,es) =>if k = e then some (q ∧ ix + len ≤ es.length,{ val:=.int .i64 (min ys.length len : Nat),foot:=id :: g,wr:=[(id,some (.row false k (es.take ix ++ ys.take len ++ es.drop (ix + min ys.length len))))] }) else none
      | _ =>none
    | .nils,some (q,g,_) =>some (q,{ val:=.int .i64 0,foot:=g })
    | _,_ =>none
  | .clr e z x =>match x with
    | .slc id ix len _ =>match rowAt mem id with
      | some (false,k,es) =>if k = e then some (z.length = e ∧ 0 < e ∧ ix + len ≤ es.length,{ val:=.tup [],foot:=[id],wr:=[(id,some (.row false k (es.take ix ++ List.replicate len z ++ es.drop (ix + len))))] }) else none
      | _ =>none
    | .nils =>some (True,{ val:=.tup [] })
    | _ =>none
  | .minmax mx args =>match args with
    | v :: r =>(minmaxAV mx v r).map fun v =>(True,{ val:=v })
    | [] =>none
  | .extract x i =>match x with
    | .tup vs =>some (i < vs.length,{ val:=vs.getD i .undef })
    | _ =>none
  | .mkiter x =>match x with
    | .nilm =>some (True,{ val:=.ptr fresh 0 0,foot:=[fresh],wr:=[(fresh,some (.iter none 0 0 []))] })
    | .map id =>match mapAt mem id with
      | some (_,c) =>some (True,{ val:=.ptr fresh 0 0,foot:=[fresh,id],wr:=[(fresh,some (.iter (some id) c c []))] })
      | none =>none
    | _ =>none
  | .next _ =>none
  | .entry x =>match x with
    | .ptr id 0 0 =>match iterAt mem id with
      | some (mid,last,s) =>match mapAt mem mid with
        | some (es,c) =>match es.find? (fun e =>e.2.2 == s) with
          | some e =>some (c = last,{ val:=.tup [e.1,e.2.1],foot:=[id,mid] })
          | none =>none
        | none =>none
      | none =>none
    | _ =>none
  | .abort =>none
  | .call _ _ =>none
def applyF (M : Nat → Option Blk) : List (Nat × Option Blk) → Nat → Option Blk
  | [],id =>M id
  | (i,b) :: r,id =>applyF (fun j =>if j = i then b else M j) r id
def applyWr (m : Mem) : List (Nat × Option Blk) → Mem
  | [] =>m
  | (i,b) :: r =>applyWr (mset m i b) r
def St.put (st : St) (dst : Option Nat) (v : AV) : St :=
  match dst with
  | none =>st
  | some d => { st with tm:=(d,v) :: terase st.tm d }
def St.eff (st : St) (dst : Option Nat) (e : Eff) : St :=
  { st with mem:=applyWr st.mem e.wr }.put dst e.val
end AH
namespace AH
open Go
mutual
def AV.ren (ρ : Nat → Nat) : AV → AV
  | .ptr id ix sub => .ptr (ρ id) ix sub
  | .slc id ix len cap => .slc (ρ id) ix len cap
  | .isl id ix sub len => .isl (ρ id) ix sub len
  | .map id => .map (ρ id)
  | .fn f a b => .fn f (AV.rens ρ a) (AV.rens ρ b)
  | .ifc t v => .ifc t (v.ren ρ)
  | .agg cs => .agg (AV.rens ρ cs)
  | .tup cs => .tup (AV.rens ρ cs)
  | .undef => .undef
  | .bool b => .bool b
  | .int k n => .int k n
  | .str s => .str s
  | .nilp => .nilp
  | .nils => .nils
  | .nilm => .nilm
  | .nilf => .nilf
  | .nili => .nili
  | .err i => .err i
def AV.rens (ρ : Nat → Nat) : List AV → List AV
  | [] => []
  | v :: r =>v.ren ρ :: AV.rens ρ r
end
mutual
def AV.inB (p : Nat → Bool) : AV → Bool
  | .ptr id _ _ =>p id
  | .slc id _ _ _ =>p id
  | .isl id _ _ _ =>p id
  | .map id =>p id
  | .fn _ a b =>AV.insB p a && AV.insB p b
  | .ifc _ v =>v.inB p
  | .agg cs =>AV.insB p cs
  | .tup cs =>AV.insB p cs
  | _ =>true
def AV.insB (p : Nat → Bool) : List AV → Bool
  | [] =>true
  | v :: r =>v.inB p && AV.insB p r
end
def Blk.ren (ρ : Nat → Nat) : Blk → Blk
  | .row ro k es => .row ro k (es.map (AV.rens ρ))
  | .map es c => .map (es.map fun e =>(e.1.ren ρ,e.2.1.ren ρ,e.2.2)) c
  | .iter m s l seen => .iter (m.map ρ) s l seen
def Blk.inB (p : Nat → Bool) : Blk → Bool
  | .row _ _ es =>es.all (AV.insB p)
  | .map es _ =>es.all fun e =>e.1.inB p && e.2.1.inB p
  | .iter m _ _ _ =>m.all p
def posN : List Nat → Nat → Nat
  | [],_ => 0
  | a :: r,id =>bif a == id then 0 else posN r id + 1
def inN : List Nat → Nat → Bool
  | [],_ =>false
  | a :: r,id =>a == id || inN r id
def distN : List Nat → Bool
  | [] =>true
  | a :: r => !inN r a && distN r
def packM (l0 : List Nat) (m : Mem) : List Nat → Mem
  | [] => []
  | id :: r =>(mget m id).map (Blk.ren (posN l0)) :: packM l0 m r
def packB (l0 : List Nat) (m : Mem) : List Nat → Bool
  | [] =>true
  | id :: r =>(match mget m id with
    | some b =>b.inB (inN l0)
    | none =>true) && packB l0 m r
def heads : Nat → Nat → List Nat → Bool
  | 0,_,_ =>true
  | n + 1,i,a :: r =>a == i && heads n (i + 1) r
  | _ + 1,_,[] =>false
end AH
namespace AH
open Go
abbrev Callee:=FuncId → List AV → Mem → (AV → Mem → Prop) → Prop
structure Ctx where
  call : Callee
  read : FuncId → List AV → (Nat → Option Blk) → Option (AV × List Nat)
  eff : FuncId → List AV → (Nat → Option Blk) → Nat → Option (Eff × Nat):=fun _ _ _ _ =>none
  base : Nat
def AOp.call? : AOp Opd → Option (Opd × List Opd)
  | .call f args =>some (f,args)
  | _ =>none
def AOp.next? : AOp Opd → Option Opd
  | .next x =>some x
  | _ =>none
def evs (tm : Tm) : List Opd → List AV
  | [] => []
  | x :: r =>x.ev tm :: evs tm r
def kCall (dst : Option Nat) (tm : Tm) (K : St → Prop) (r : AV) (m : Mem) : Prop:=K (St.put ⟨tm,m⟩ dst r)
def wpCall (C : Ctx) (f : AV) (args : List AV) (m : Mem) (K : AV → Mem → Prop) : Prop :=
  match f with
  | .fn g first cap =>C.call g (first ++ args ++ cap) m K
  | _ =>False
def wpEff (dst : Option Nat) (st : St) (K : St → Prop) : Option (Prop × Eff) → Prop
  | some (pre,e) =>pre ∧ K (st.eff dst e)
  | none =>False
def missQ : AOp AV → Bool
  | .eq _ .slice _ (.slc _ _ n _) .nils =>n == 0
  | _ =>false
def wpEffX (dst : Option Nat) (st : St) (K : St → Prop) (r : Option (Prop × Eff)) : Bool → Prop
  | false =>wpEff dst st K r
  | true =>K (st.put dst (.bool true)) ∧ K (st.put dst (.bool false))
def leftE (es : List (AV × AV × Nat)) (seen : List Nat) : List (AV × AV × Nat):=es.filter fun e => !seen.contains e.2.2
def wpNextM (m : Mem) (K : AV → Mem → Prop) (id mid since last : Nat) (seen : List Nat) : Option (List (AV × AV × Nat) × Nat) → Prop
  | some (es,c) =>(∀ e ∈ es,e.2.2 < since) ∧ since ≤ last ∧ since ≤ c ∧ (leftE es seen = [] → K (.tup [.bool false]) m) ∧
      ∀ e ∈ leftE es seen,K (.tup [.bool true,e.1,e.2.1]) (mset m id (some (.iter (some mid) since c (seen ++ [e.2.2]))))
  | none =>False
def wpNextB (m : Mem) (K : AV → Mem → Prop) (id : Nat) : Option Blk → Prop
  | some (.iter none s l _) => ¬ l < s ∧ K (.tup [.bool false]) m
  | some (.iter (some mid) since last seen) =>wpNextM m K id mid since last seen (mapAt (mget m) mid)
  | _ =>False
def wpNext (m : Mem) (K : AV → Mem → Prop) : AV → Prop
  | .ptr id 0 0 =>wpNextB m K id (mget m id)
  | _ =>False
def wpOp (C : Ctx) (dst : Option Nat) (op : AOp Opd) (st : St) (K : St → Prop) : Prop :=
  match op.call? with
  | some (f,args) =>wpCall C (f.ev st.tm) (evs st.tm args) st.mem (kCall dst st.tm K)
  | none =>match op.next? with
  | some x =>wpNext st.mem (kCall dst st.tm K) (x.ev st.tm)
  | none =>wpEffX dst st K (bstep st.mem.length (mget st.mem) (op.map (Opd.ev st.tm))) (missQ (op.map (Opd.ev st.tm)))
def wpG (C : Ctx) (o : AOper) (st : St) (K : St → Prop) (want : Bool) : AV → Prop
  | .bool b =>(b = want → wpOp C o.dst o.op st K) ∧ (b = !want → K (st.put o.dst (.tup [])))
  | .tup [] =>K (st.put o.dst (.tup []))
  | _ =>False
def wpOps (C : Ctx) : List AOper → (St → Prop) → St → Prop
  | [],K,st =>K st
  | o :: r,K,st =>match o.guard with
    | none =>wpOp C o.dst o.op st (wpOps C r K)
    | some (t,want) =>wpG C o st (wpOps C r K) want (tget st.tm t)
abbrev Log:=List (Nat × List Nat × List Nat)
def noCommon : List Nat → List Nat → Bool
  | [],_ =>true
  | a :: r,l => !l.contains a && noCommon r l
def okLog (ahead foot wr : List Nat) : Log → Bool
  | [] =>true
  | (j,f,w) :: r =>(ahead.contains j || (noCommon w foot && noCommon wr f)) && okLog ahead foot wr r
def opdT : Opd → List Nat
  | .t n => [n]
  | .c _ => []
def optT : Option Opd → List Nat
  | some x =>opdT x
  | none => []
def AOp.uses : AOp Opd → List Nat
  | .clr _ _ x | .mkiter x | .next x | .entry x | .mov x | .box _ x | .load _ _ x | .nilchk x | .un _ x | .i2i _ x | .same x | .s2b x | .b2s x | .mkifc _ x | .faddr _ x | .fld _ _ _ x | .len _ x | .extract x _ =>opdT x
  | .pick c a b =>opdT c ++ opdT a ++ opdT b
  | .build _ ps | .bslice _ _ _ ps =>(ps.map fun p =>opdT p.2.2).flatten
  | .loadg _ | .mkmap | .lenArr _ | .abort => []
  | .store _ p x =>opdT p ++ opdT x
  | .ibin _ x y | .eq _ _ _ x y | .iaddrArr _ _ x y | .iaddrSl _ x y | .idxArr _ _ _ x y | .idxStr x y | .append _ _ _ x y | .copy _ x y | .mdel _ x y | .mentry _ _ x y | .mkslice _ _ _ x y =>opdT x ++ opdT y
  | .mkfn _ a b =>(a.map opdT).flatten ++ (b.map opdT).flatten
  | .sliceArr _ _ x l h | .sliceStr x l h =>opdT x ++ optT l ++ optT h
  | .slice _ x l h m =>opdT x ++ optT l ++ optT h ++ optT m
  | .lookup _ _ x k _ =>opdT x ++ opdT k
  | .mapupd _ x k v | .estore x k v =>opdT x ++ opdT k ++ opdT v
  | .minmax _ l =>(l.map opdT).flatten
  | .call g l =>opdT g ++ (l.map opdT).flatten
def AOper.looks (o : AOper) : List Nat :=
  match o.guard with
  | some (t,_) =>t :: o.op.uses
  | none =>o.op.uses
def AOper.apartT (x y : AOper) : Bool :=
  match x.dst,y.dst with
  | none,none =>true
  | some d,none => !y.looks.contains d
  | none,some e => !x.looks.contains e
  | some d,some e => !y.looks.contains d && !x.looks.contains e && d != e
def apartFrom (i : Nat) (x : AOper) : List AOper → List (List Nat) → Bool
  | y :: r,a :: ix =>(a.contains i || x.apartT y) && apartFrom i x r ix
  | _,_ =>true
def apartAll : Nat → List AOper → List (List Nat) → Bool
  | i,x :: r,_ :: ix =>apartFrom i x r ix && apartAll (i + 1) r ix
  | _,_,_ =>true
def addLog (i : Nat) (foot wr : List Nat) (lg : Log) : Log :=
  match foot with
  | [] =>lg
  | _ :: _ =>(i,foot,wr) :: lg
def newsB (n : Nat) (e : Eff) : Nat → Bool
  | 0 =>true
  | k + 1 =>(e.wr.map Prod.fst).contains (n + k) && newsB n e k
def wpEffC (i : Nat) (ahead : List Nat) (lg : Log) (dst : Option Nat) (st : St) (K : Log → St → Prop) : Option (Eff × Nat) → Prop
  | some (e,k) =>newsB st.mem.length e k = true ∧ okLog ahead (e.wr.map Prod.fst ++ e.foot) (e.wr.map Prod.fst) lg = true ∧ K (addLog i (e.wr.map Prod.fst ++ e.foot) (e.wr.map Prod.fst) lg) (st.eff dst e)
  | none =>False
def wpRead (i : Nat) (ahead : List Nat) (lg : Log) (st : St) (dst : Option Nat) (K : Log → St → Prop) (alt : Option (Eff × Nat)) : Option (AV × List Nat) → Prop
  | some (v,foot) =>okLog ahead foot [] lg = true ∧ K (addLog i foot [] lg) (st.put dst v)
  | none =>wpEffC i ahead lg dst st K alt
def readOf (C : Ctx) (m : Mem) (args : List AV) : AV → Option (AV × List Nat)
  | .fn g first cap =>C.read g (first ++ args ++ cap) (mget m)
  | _ =>none
def effOf (C : Ctx) (m : Mem) (args : List AV) : AV → Option (Eff × Nat)
  | .fn g first cap =>C.eff g (first ++ args ++ cap) (mget m) m.length
  | _ =>none
def okFresh (fresh : Nat) (e : Eff) : Bool:=!e.foot.contains fresh || (e.wr.map Prod.fst).contains fresh
def wpEffD (i : Nat) (ahead : List Nat) (lg : Log) (dst : Option Nat) (st : St) (K : Log → St → Prop) : Option (Prop × Eff) → Prop
  | some (pre,e) =>pre ∧ okFresh st.mem.length e = true ∧ okLog ahead (e.wr.map Prod.fst ++ e.foot) (e.wr.map Prod.fst) lg = true ∧ K (addLog i (e.wr.map Prod.fst ++ e.foot) (e.wr.map Prod.fst) lg) (st.eff dst e)
  | none =>False
def wpOpD (C : Ctx) (i : Nat) (ahead : List Nat) (lg : Log) (dst : Option Nat) (op : AOp Opd) (st : St) (K : Log → St → Prop) : Prop :=
  match op.call? with
  | some (f,args) =>wpRead i ahead lg st dst K (effOf C st.mem (evs st.tm args) (f.ev st.tm)) (readOf C st.mem (evs st.tm args) (f.ev st.tm))
  | none =>wpEffD i ahead lg dst st K (bstep st.mem.length (mget st.mem) (op.map (Opd.ev st.tm)))
def wpGD (C : Ctx) (i : Nat) (ahead : List Nat) (lg : Log) (o : AOper) (st : St) (K : Log → St → Prop) (want : Bool) : AV → Prop
  | .bool b =>(b = want → wpOpD C i ahead lg o.dst o.op st K) ∧ (b = !want → K lg (st.put o.dst (.tup [])))
  | .tup [] =>K lg (st.put o.dst (.tup []))
  | _ =>False
def wpDs (C : Ctx) (K : St → Prop) : Nat → List AOper → List (List Nat) → Log → St → Prop
  | i,o :: r,a :: ix,lg,st =>match o.guard with
    | none =>wpOpD C i a lg o.dst o.op st (wpDs C K (i + 1) r ix)
    | some (t,want) =>wpGD C i a lg o st (wpDs C K (i + 1) r ix) want (tget st.tm t)
  | _,[],[],_,st =>K st
  | _,_,_,_,_ =>False
def thenQ (K : St → Prop) (Q : Exit → St → Prop) : Exit → St → Prop
  | .normal,st =>K st
  | e,st =>Q e st
def inBlk (id : Nat) (Q : Exit → St → Prop) : Exit → St → Prop
  | .exit i,st =>if i = id then Q .normal st else Q (.exit i) st
  | e,st =>Q e st
mutual
def AV.lt (n : Nat) : AV → Bool
  | .ptr id _ _ =>decide (id < n)
  | .slc id _ _ _ =>decide (id < n)
  | .isl id _ _ _ =>decide (id < n)
  | .map id =>decide (id < n)
  | .fn _ a b =>AV.lts n a && AV.lts n b
  | .ifc _ v =>v.lt n
  | .agg cs =>AV.lts n cs
  | .tup cs =>AV.lts n cs
  | _ =>true
def AV.lts (n : Nat) : List AV → Bool
  | [] =>true
  | v :: r =>v.lt n && AV.lts n r
end
def Blk.lt (n : Nat) : Blk → Bool
  | .row _ _ es =>es.all (AV.lts n)
  | .map es _ =>es.all fun e =>e.1.lt n && e.2.1.lt n
  | .iter m _ _ _ =>m.all fun i =>decide (i < n)
def memLt (n : Nat) (m : Mem) : Bool:=m.all fun b =>match b with
  | some b =>b.lt n
  | none =>true
def Gc0 (base : Nat) (s s' : St) : Prop :=
  ((∀ t,tget s'.tm t = .undef ∨ tget s'.tm t = tget s.tm t) ∧
  (s'.mem = s.mem ∨ (base ≤ s'.mem.length ∧ s'.mem = s.mem.take s'.mem.length ∧ memLt s'.mem.length s'.mem = true ∧ ∀ t,(tget s'.tm t).lt s'.mem.length = true))) ∨
  ∃ l : List Nat,heads base 0 l = true ∧ distN l = true ∧ packB l s.mem l = true ∧ s'.mem = packM l s.mem l ∧
    ∀ t,tget s'.tm t = .undef ∨ ((tget s.tm t).inB (inN l) = true ∧ tget s'.tm t = (tget s.tm t).ren (posN l))
def voE (n : Nat) (v v' : AV) : Prop:=v' = v ∨ (v = .nils ∧ v' = .slc n 0 0 none) ∨ ∃ id ix len c,v = .slc id ix len (some c) ∧ v' = .slc id ix len none
def voL (n : Nat) : List AV → List AV → Prop
  | [],[] =>True
  | v :: r,v' :: r' =>voE n v v' ∧ voL n r r'
  | _,_ =>False
def voV (n : Nat) (v v' : AV) : Prop:=voE n v v' ∨ ∃ l l',v = .tup l ∧ v' = .tup l' ∧ voL n l l'
def voB (n : Nat) (b b' : Option Blk) : Prop:=b' = b ∨ ∃ ro k es es',b = some (.row ro k es) ∧ b' = some (.row ro k es') ∧ es'.length = es.length ∧
  ∀ (i : Nat) e',es'[i]? = some e' → ∃ e : List AV,es[i]? = some e ∧ e'.length = e.length ∧ ∀ (j : Nat) v',e'[j]? = some v' → ∃ v,e[j]? = some v ∧ voE n v v'
structure Turn1 (n : Nat) (s s' : St) : Prop where
  there : (mget s.mem n).isSome = true
  tm : ∀ t,voV n (tget s.tm t) (tget s'.tm t)
  len : s'.mem.length = s.mem.length
  old : ∀ i,i < s.mem.length → voB n (mget s.mem i) (mget s'.mem i)
inductive Voids : St → St → Prop
  | refl (s : St) : Voids s s
  | void (k : Nat) (s s2 : St) (h : 0 < k) (h2 : Voids ⟨s.tm,s.mem ++ [some (.row false k [])]⟩ s2) : Voids s s2
  | turn (n : Nat) (s s1 s2 : St) (h : Turn1 n s s1) (h2 : Voids s1 s2) : Voids s s2
def Gc (base : Nat) (s s' : St) : Prop:=∃ s1,Gc0 base s s1 ∧ Voids s1 s'
theorem Gc.of0 {base : Nat} {s s' : St} (h : Gc0 base s s') : Gc base s s':=⟨s',h,.refl _⟩
def gcX (base : Nat) (X : St → Prop) (s : St) : Prop:=∃ s',Gc base s s' ∧ X s'
def LoopA (F : (St → Prop) → St → Prop) (st : St) : Prop:=∀ X : St → Prop,(∀ s,F X s → X s) → X st
def wpC (X Y : St → Prop) (st : St) : AV → Prop
  | .bool t =>(t = true → X st) ∧ (t = false → Y st)
  | _ =>False
def wpA (C : Ctx) : ACode → (Exit → St → Prop) → St → Prop
  | .skip,Q,st =>Q .normal st
  | .reg ops,Q,st =>wpOps C ops (Q .normal) st
  | .draw ops ix,Q,st =>apartAll 0 ops ix = true ∧ wpDs C (Q .normal) 0 ops ix [] st
  | .seq a b,Q,st =>wpA C a (thenQ (wpA C b Q) Q) st
  | .cond c a b,Q,st =>wpC (wpA C a Q) (wpA C b Q) st (c.ev st.tm)
  | .block id b,Q,st =>wpA C b (inBlk id Q) st
  | .loop b,Q,st =>gcX C.base (LoopA fun X s =>wpA C b (thenQ (gcX C.base X) Q) s) st
  | .exit id,Q,st =>Q (.exit id) st
  | .ret,Q,st =>Q .ret st
  | .abort,_,_ =>False
section
variable {C : Ctx} {Q : Exit → St → Prop} {st : St}
theorem wpA_skip : wpA C .skip Q st = Q .normal st:=rfl
theorem wpA_reg {ops : List AOper} : wpA C (.reg ops) Q st = wpOps C ops (Q .normal) st:=rfl
theorem wpA_draw {ops : List AOper} {ix : List (List Nat)} : wpA C (.draw ops ix) Q st = (apartAll 0 ops ix = true ∧ wpDs C (Q .normal) 0 ops ix [] st):=rfl
theorem wpA_seq {a b : ACode} : wpA C (.seq a b) Q st = wpA C a (thenQ (wpA C b Q) Q) st:=rfl
theorem wpA_cond {c : Opd} {a b : ACode} : wpA C (.cond c a b) Q st = wpC (wpA C a Q) (wpA C b Q) st (c.ev st.tm):=rfl
theorem wpA_block {id : Nat} {b : ACode} : wpA C (.block id b) Q st = wpA C b (inBlk id Q) st:=rfl
theorem wpA_exit {id : Nat} : wpA C (.exit id) Q st = Q (.exit id) st:=rfl
theorem wpA_ret : wpA C .ret Q st = Q .ret st:=rfl
theorem thenQ_normal {K : St → Prop} : thenQ K Q .normal st = K st:=rfl
theorem thenQ_exit {K : St → Prop} {i : Nat} : thenQ K Q (.exit i) st = Q (.exit i) st:=rfl
theorem thenQ_ret {K : St → Prop} : thenQ K Q .ret st = Q .ret st:=rfl
theorem inBlk_normal {i : Nat} : inBlk i Q .normal st = Q .normal st:=rfl
theorem inBlk_exit {i j : Nat} : inBlk i Q (.exit j) st = if j = i then Q .normal st else Q (.exit j) st:=rfl
theorem inBlk_ret {i : Nat} : inBlk i Q .ret st = Q .ret st:=rfl
theorem kCall_eq {dst : Option Nat} {tm : Tm} {K : St → Prop} {r : AV} {m : Mem} : kCall dst tm K r m = K (St.put ⟨tm,m⟩ dst r):=rfl
theorem wpEff_some {dst : Option Nat} {K : St → Prop} {p : Prop} {e : Eff} : wpEff dst st K (some (p,e)) = (p ∧ K (st.eff dst e)):=rfl
theorem wpEffX_false {dst : Option Nat} {K : St → Prop} {r : Option (Prop × Eff)} : wpEffX dst st K r false = wpEff dst st K r:=rfl
theorem wpEffX_true {dst : Option Nat} {K : St → Prop} {r : Option (Prop × Eff)} : wpEffX dst st K r true = (K (st.put dst (.bool true)) ∧ K (st.put dst (.bool false))):=rfl
theorem wpOp_call {dst : Option Nat} {f : Opd} {args : List Opd} {K : St → Prop} : wpOp C dst (.call f args) st K = wpCall C (f.ev st.tm) (evs st.tm args) st.mem (kCall dst st.tm K):=rfl
theorem wpCall_fn {g : FuncId} {first cap args : List AV} {m : Mem} {K : AV → Mem → Prop} : wpCall C (.fn g first cap) args m K = C.call g (first ++ args ++ cap) m K:=rfl
end
theorem wpC_true {X Y : St → Prop} {st : St} : wpC X Y st (.bool true) = X st:=by simp [wpC]
theorem wpC_false {X Y : St → Prop} {st : St} : wpC X Y st (.bool false) = Y st:=by simp [wpC]
theorem wpG_tt {C : Ctx} {o : AOper} {st : St} {K : St → Prop} : wpG C o st K true (.bool true) = wpOp C o.dst o.op st K:=by simp [wpG]
theorem wpG_ff {C : Ctx} {o : AOper} {st : St} {K : St → Prop} : wpG C o st K false (.bool false) = wpOp C o.dst o.op st K:=by simp [wpG]
theorem wpG_tf {C : Ctx} {o : AOper} {st : St} {K : St → Prop} : wpG C o st K true (.bool false) = K (st.put o.dst (.tup [])):=by simp [wpG]
theorem wpG_ft {C : Ctx} {o : AOper} {st : St} {K : St → Prop} : wpG C o st K false (.bool true) = K (st.put o.dst (.tup [])):=by simp [wpG]
theorem wpG_tu {C : Ctx} {o : AOper} {st : St} {K : St → Prop} {w : Bool} : wpG C o st K w (.tup []) = K (st.put o.dst (.tup [])):=by simp [wpG]
theorem wpOps_nil {C : Ctx} {K : St → Prop} {st : St} : wpOps C [] K st = K st:=rfl
theorem wpOps_plain {C : Ctx} {d : Option Nat} {op : AOp Opd} {r : List AOper} {K : St → Prop} {st : St} : wpOps C (⟨d,none,op⟩ :: r) K st = wpOp C d op st (wpOps C r K):=rfl
theorem wpOps_guard {C : Ctx} {d : Option Nat} {t : Nat} {w : Bool} {op : AOp Opd} {r : List AOper} {K : St → Prop} {st : St} : wpOps C (⟨d,some (t,w),op⟩ :: r) K st = wpG C ⟨d,some (t,w),op⟩ st (wpOps C r K) w (tget st.tm t):=rfl
inductive RV where
  | tmp (t : Nat)
  | cell (t : Nat) (agg : Bool) (n : Nat)
structure AFun where
  ntmps : Nat
  nargs : Nat
  results : List RV
  body : ACode
def rvs (st : St) : List RV → Option (Prop × List AV)
  | [] =>some (True,[])
  | .tmp t :: r =>(rvs st r).map fun x =>(x.1,tget st.tm t :: x.2)
  | .cell t agg n :: r =>match bstep 0 (mget st.mem) (.load agg n (tget st.tm t)),rvs st r with
    | some (p,e),some x =>some (p ∧ x.1,e.val :: x.2)
    | _,_ =>none
def retV (K : AV → Mem → Prop) (m : Mem) : Option (Prop × List AV) → Prop
  | some (p,[v]) =>p ∧ K v m
  | some (p,vs) =>p ∧ K (.tup vs) m
  | none =>False
def retQ (rs : List RV) (K : AV → Mem → Prop) : Exit → St → Prop
  | .normal,st =>retV K st.mem (rvs st rs)
  | .ret,st =>retV K st.mem (rvs st rs)
  | _,_ =>False
def argTm : Nat → List AV → Tm
  | _,[] => []
  | i,v :: r =>(i,v) :: argTm (i + 1) r
def wpF (C : Ctx) (f : AFun) (args : List AV) (m : Mem) (K : AV → Mem → Prop) : Prop :=
  args.length = f.nargs ∧ wpA { C with base:=m.length } f.body (retQ f.results K) ⟨argTm 0 args,m⟩
end AH
namespace AH
open Go
structure Emb where
  dom : Nat → Prop
  blk : Nat → Nat
  base : Nat → Nat
  k : Nat → Nat
  size : Nat → Nat
structure Sys where
  P : Program
  errs : List Nat
  errT : TypeId
  hands : List (Nat × Value)
mutual
inductive VR (T : TypeId) (eb : Nat → Addr) (φ : Emb) : AV → Value → Prop
  | undef (u : Value) : VR T eb φ .undef u
  | bool (b : Bool) : VR T eb φ (.bool b) (.bool b)
  | int (k : IntKind) (n : Int) : VR T eb φ (.int k n) (.int k n)
  | str (s : ByteArray) : VR T eb φ (.str s) (.string s)
  | nilp : VR T eb φ .nilp (.pointer none)
  | ptr (id ix sub : Nat) (h : φ.dom id) : VR T eb φ (.ptr id ix sub) (.pointer (some ⟨φ.blk id,φ.base id + ix * φ.k id + sub,none⟩))
  | nils : VR T eb φ .nils (.slice none 0 0)
  | slc (id ix len : Nat) (cap : Option Nat) (c : Nat) (h : φ.dom id) (hc : len ≤ c) (he : ∀ c0,cap = some c0 → c = c0) (hs : φ.base id + (ix + c) * φ.k id ≤ φ.size id) :
      VR T eb φ (.slc id ix len cap) (.slice (some ⟨φ.blk id,φ.base id + ix * φ.k id,none⟩) len c)
  | slc0 (id ix : Nat) (cap : Option Nat) (ad : Option Addr) (h : φ.dom id) (he : ∀ c0,cap = some c0 → c0 = 0) : VR T eb φ (.slc id ix 0 cap) (.slice ad 0 0)
  | isl (id ix sub len c : Nat) (h : φ.dom id) (hc : len ≤ c) : VR T eb φ (.isl id ix sub len) (.slice (some ⟨φ.blk id,φ.base id + ix * φ.k id + sub,none⟩) len c)
  | nilm : VR T eb φ .nilm (.map none)
  | map (id : Nat) (h : φ.dom id) : VR T eb φ (.map id) (.map (some (φ.blk id)))
  | fn (f : FuncId) (first cap : List AV) (fs cs : Array Value) (h1 : VRs T eb φ first fs.toList) (h2 : VRs T eb φ cap cs.toList) : VR T eb φ (.fn f first cap) (.func (.func f) fs cs)
  | nilf : VR T eb φ .nilf .nilFunc
  | nili : VR T eb φ .nili .nilIface
  | ifc (t : TypeId) (v : AV) (u : Value) (h : VR T eb φ v u) : VR T eb φ (.ifc t v) (.iface t u)
  | err (i : Nat) : VR T eb φ (.err i) (.iface T (.pointer (some (eb i))))
  | agg (cs : List AV) (us : Array Value) (h : VRs T eb φ cs us.toList) (h1 : ∀ u ∈ us.toList,u.oneCell' = true) : VR T eb φ (.agg cs) (.agg us)
  | tup (cs : List AV) (us : Array Value) (h : VRs T eb φ cs us.toList) : VR T eb φ (.tup cs) (.tuple us)
inductive VRs (T : TypeId) (eb : Nat → Addr) (φ : Emb) : List AV → List Value → Prop
  | nil : VRs T eb φ [] []
  | cons (v : AV) (u : Value) (vs : List AV) (us : List Value) (h : VR T eb φ v u) (hs : VRs T eb φ vs us) : VRs T eb φ (v :: vs) (u :: us)
end
structure Emb.Ext (φ φ' : Emb) : Prop where
  dom : ∀ id,φ.dom id → φ'.dom id
  blk : ∀ id,φ.dom id → φ'.blk id = φ.blk id
  base : ∀ id,φ.dom id → φ'.base id = φ.base id
  k : ∀ id,φ.dom id → φ'.k id = φ.k id
  size : ∀ id,φ.dom id → φ'.size id = φ.size id
theorem Emb.Ext.refl (φ : Emb) : φ.Ext φ:=⟨fun _ h =>h,fun _ _ =>rfl,fun _ _ =>rfl,fun _ _ =>rfl,fun _ _ =>rfl⟩
theorem Emb.Ext.trans {a b c : Emb} (h : a.Ext b) (g : b.Ext c) : a.Ext c :=
  ⟨fun i hi =>g.dom i (h.dom i hi),fun i hi =>(g.blk i (h.dom i hi)).trans (h.blk i hi),fun i hi =>(g.base i (h.dom i hi)).trans (h.base i hi),
   fun i hi =>(g.k i (h.dom i hi)).trans (h.k i hi),fun i hi =>(g.size i (h.dom i hi)).trans (h.size i hi)⟩
variable {T : TypeId} {eb : Nat → Addr} {φ φ' : Emb}
mutual
theorem VR.mono (e : φ.Ext φ') : ∀ {v : AV} {u : Value},VR T eb φ v u → VR T eb φ' v u
  | _,_,.undef u => .undef u
  | _,_,.bool b => .bool b
  | _,_,.int k n => .int k n
  | _,_,.str s => .str s
  | _,_,.nilp => .nilp
  | _,_,.ptr id ix sub h =>by
    rw [← e.blk id h,← e.base id h,← e.k id h]
    exact .ptr id ix sub (e.dom id h)
  | _,_,.nils => .nils
  | _,_,.slc id ix len cap c h hc he hs =>by
    have:=hs
    rw [← e.base id h,← e.k id h,← e.size id h] at this
    rw [← e.blk id h,← e.base id h,← e.k id h]
    exact .slc id ix len cap c (e.dom id h) hc he this
  | _,_,.slc0 id ix cap ad h he => .slc0 id ix cap ad (e.dom id h) he
  | _,_,.isl id ix sub len c h hc =>by
    rw [← e.blk id h,← e.base id h,← e.k id h]
    exact .isl id ix sub len c (e.dom id h) hc
  | _,_,.nilm => .nilm
  | _,_,.map id h =>by rw [← e.blk id h]; exact .map id (e.dom id h)
  | _,_,.fn f first cap fs cs h1 h2 => .fn f first cap fs cs (VRs.mono e h1) (VRs.mono e h2)
  | _,_,.nilf => .nilf
  | _,_,.nili => .nili
  | _,_,.ifc t v u h => .ifc t v u (VR.mono e h)
  | _,_,.err i => .err i
  | _,_,.agg cs us h h1 => .agg cs us (VRs.mono e h) h1
  | _,_,.tup cs us h => .tup cs us (VRs.mono e h)
theorem VRs.mono (e : φ.Ext φ') : ∀ {v : List AV} {u : List Value},VRs T eb φ v u → VRs T eb φ' v u
  | _,_,.nil => .nil
  | _,_,.cons v u vs us h hs => .cons v u vs us (VR.mono e h) (VRs.mono e hs)
end
theorem VRs.length : ∀ {v : List AV} {u : List Value},VRs T eb φ v u → v.length = u.length
  | _,_,.nil =>rfl
  | _,_,.cons _ _ _ _ _ hs =>by simp [hs.length]
theorem VRs.get : ∀ {v : List AV} {u : List Value},VRs T eb φ v u → ∀ (i : Nat) (a : AV),v[i]? = some a → ∃ b,u[i]? = some b ∧ VR T eb φ a b
  | _,_,.nil,i,a,h =>by simp at h
  | _,_,.cons v u vs us h hs,0,a,e =>by simp at e; subst e; exact ⟨u,by simp,h⟩
  | _,_,.cons v u vs us h hs,i + 1,a,e =>by
    simp at e
    obtain ⟨b,hb,hr⟩:=hs.get i a e
    exact ⟨b,by simpa using hb,hr⟩
theorem VRs.of_get : ∀ {v : List AV} {u : List Value},v.length = u.length → (∀ (i : Nat) a b,v[i]? = some a → u[i]? = some b → VR T eb φ a b) → VRs T eb φ v u
  | [],[],_,_ => .nil
  | [],_ :: _,h,_ =>by simp at h
  | _ :: _,[],h,_ =>by simp at h
  | a :: v,b :: u,h,g => .cons _ _ _ _ (g 0 a b (by simp) (by simp)) (VRs.of_get (by simpa using h) fun i x y hx hy =>g (i + 1) x y (by simpa using hx) (by simpa using hy))
theorem VRs.append : ∀ {v w : List AV} {u x : List Value},VRs T eb φ v u → VRs T eb φ w x → VRs T eb φ (v ++ w) (u ++ x)
  | _,_,_,_,.nil,h =>h
  | _,_,_,_,.cons v u vs us h hs,g => .cons v u _ _ h (hs.append g)
theorem VRs.take (n : Nat) {v : List AV} {u : List Value} (h : VRs T eb φ v u) : VRs T eb φ (v.take n) (u.take n):=by
  refine .of_get (by simp [h.length]) fun i a b ha hb => ?_
  simp only [List.getElem?_take] at ha hb
  split at ha
  · rename_i hi
    simp only [hi,if_true] at hb
    obtain ⟨c,hc,hr⟩:=h.get i a ha
    rw [hc] at hb; cases hb; exact hr
  · simp at ha
theorem VRs.drop (n : Nat) {v : List AV} {u : List Value} (h : VRs T eb φ v u) : VRs T eb φ (v.drop n) (u.drop n):=by
  refine .of_get (by simp [h.length]) fun i a b ha hb => ?_
  simp only [List.getElem?_drop] at ha hb
  obtain ⟨c,hc,hr⟩:=h.get _ a ha
  rw [hc] at hb; cases hb; exact hr
theorem VR.cells {v : AV} {u : Value} {cs : List AV} (h : VR T eb φ v u) (hc : v.cells = some cs) : VRs T eb φ cs u.cells.toList ∧ ∀ x ∈ u.cells.toList,x.oneCell' = true:=by
  cases h <;> simp [AV.cells] at hc <;> subst hc
  case agg us h h1 =>exact ⟨h,h1⟩
  case ptr id ix sub h =>exact ⟨.cons _ _ _ _ (.ptr id ix sub h) .nil,by simp [Value.cells,Value.oneCell']⟩
  case slc id ix len cap c h hc he hs =>exact ⟨.cons _ _ _ _ (.slc id ix len cap c h hc he hs) .nil,by simp [Value.cells,Value.oneCell']⟩
  case slc0 id ix cap ad h he =>exact ⟨.cons _ _ _ _ (.slc0 id ix cap ad h he) .nil,by simp [Value.cells,Value.oneCell']⟩
  case isl id ix sub len c h hc =>exact ⟨.cons _ _ _ _ (.isl id ix sub len c h hc) .nil,by simp [Value.cells,Value.oneCell']⟩
  case map id h =>exact ⟨.cons _ _ _ _ (.map id h) .nil,by simp [Value.cells,Value.oneCell']⟩
  case fn f first cap fs cs h1 h2 =>exact ⟨.cons _ _ _ _ (.fn f first cap fs cs h1 h2) .nil,by simp [Value.cells,Value.oneCell']⟩
  case ifc t v u h =>exact ⟨.cons _ _ _ _ (.ifc t v u h) .nil,by simp [Value.cells,Value.oneCell']⟩
  all_goals exact ⟨.cons _ _ _ _ (by constructor) .nil,by simp [Value.cells,Value.oneCell']⟩
def CellsAt (T : TypeId) (eb : Nat → Addr) (φ : Emb) (arr : Array Value) (o : Nat) (e : List AV) : Prop :=
  ∀ (j : Nat) v,e[j]? = some v → ∃ u,arr[o + j]? = some u ∧ VR T eb φ v u ∧ u.oneCell' = true
inductive ER (T : TypeId) (eb : Nat → Addr) (φ : Emb) : List (AV × AV × Nat) → List MapEntry → Prop
  | nil : ER T eb φ [] []
  | cons (k v : AV) (s : Nat) (x y : Value) (es : List (AV × AV × Nat)) (us : List MapEntry) (hk : VR T eb φ k x) (hv : VR T eb φ v y) (h : ER T eb φ es us) : ER T eb φ ((k,v,s) :: es) ({ key:=x,val:=y,born:=s } :: us)
theorem ER.mono (e : φ.Ext φ') : ∀ {es : List (AV × AV × Nat)} {us : List MapEntry},ER T eb φ es us → ER T eb φ' es us
  | _,_,.nil => .nil
  | _,_,.cons k v s x y es us hk hv h => .cons k v s x y es us (hk.mono e) (hv.mono e) (h.mono e)
def itO (m : Option Nat) (s l : Nat) (seen : List Nat) (o : Obj) : Prop:=if l < s then ∃ et,o = .cells #[.map m] et (0,0) else o = .mapIter m s seen.toArray l
def BR (T : TypeId) (eb : Nat → Addr) (φ : Emb) (id : Nat) : Blk → Obj → Prop
  | .row ro k es,o => ∃ arr et fr,o = .cells arr et fr ∧ φ.k id = k ∧ arr.size = φ.size id ∧ φ.base id + es.length * k ≤ arr.size ∧
      (ro = false → ∀ p,p < arr.size → ¬ (fr.1 ≤ p ∧ p < fr.2)) ∧ ∀ (i : Nat) e,es[i]? = some e → e.length = k ∧ CellsAt T eb φ arr (φ.base id + i * k) e
  | .map es c,o => ∃ us,o = .map us c ∧ ER T eb φ es us.toList
  | .iter m s l seen,o =>itO (m.map φ.blk) s l seen o ∧ φ.base id = 0 ∧ ∀ i,m = some i → φ.dom i
def Blk.rw : Blk → Prop
  | .row ro _ _ =>ro = false
  | .map _ _ =>True
  | .iter .. =>True
def Blk.solid (φ : Emb) (id : Nat) : Blk → Prop
  | .row _ k es =>es ≠ [] ∨ 0 < φ.size id ∨ k = 0
  | .map _ _ =>True
  | .iter .. =>True
theorem Blk.solid_ext (e : φ.Ext φ') {id : Nat} (h : φ.dom id) {b : Blk} : b.solid φ' id ↔ b.solid φ id:=by
  cases b <;> simp only [Blk.solid,e.size id h]
structure MR (T : TypeId) (eb : Nat → Addr) (φ : Emb) (M : Nat → Option Blk) (own : Nat → Prop) (w : World) : Prop where
  dom : ∀ id b,M id = some b → φ.dom id
  kk : ∀ id ro k es,M id = some (.row ro k es) → φ.k id = k
  blk : ∀ id b,M id = some b → b.solid φ id → ∃ o,w.heap[φ.blk id]? = some o ∧ BR T eb φ id b o
  own : ∀ id b,M id = some b → b.rw → b.solid φ id → own (φ.blk id)
  inj : ∀ id id' b b',M id = some b → M id' = some b' → id ≠ id' → b.rw → b.solid φ id → b'.solid φ id' → φ.blk id ≠ φ.blk id'
structure Keeps (own : Nat → Prop) (w0 w : World) : Prop where
  os : w.os = w0.os
  output : w.output = w0.output
  size : w0.heap.size ≤ w.heap.size
  kept : ∀ b,b < w0.heap.size → ¬ own b → w.heap[b]? = w0.heap[b]?
  new : ∀ b,w0.heap.size ≤ b → own b
theorem Keeps.trans {own : Nat → Prop} {a b c : World} (h : Keeps own a b) (g : Keeps own b c) : Keeps own a c :=
  ⟨g.os.trans h.os,g.output.trans h.output,Nat.le_trans h.size g.size,fun i hi ho =>(g.kept i (Nat.lt_of_lt_of_le hi h.size) ho).trans (h.kept i hi ho),h.new⟩
theorem Keeps.refl {own : Nat → Prop} {w : World} (h : ∀ b,w.heap.size ≤ b → own b) : Keeps own w w:=⟨rfl,rfl,Nat.le_refl _,fun _ _ _ =>rfl,h⟩
structure StepK (own : Nat → Prop) (w w' : World) : Prop where
  os : w'.os = w.os
  output : w'.output = w.output
  size : w.heap.size ≤ w'.heap.size
  kept : ∀ b,b < w.heap.size → ¬ own b → w'.heap[b]? = w.heap[b]?
theorem Keeps.step {own : Nat → Prop} {a b c : World} (h : Keeps own a b) (g : StepK own b c) : Keeps own a c :=
  ⟨g.os.trans h.os,g.output.trans h.output,Nat.le_trans h.size g.size,fun i hi ho =>(g.kept i (Nat.lt_of_lt_of_le hi h.size) ho).trans (h.kept i hi ho),h.new⟩
theorem StepK.refl {own : Nat → Prop} {w : World} : StepK own w w:=⟨rfl,rfl,Nat.le_refl _,fun _ _ _ =>rfl⟩
structure Amb (S : Sys) (eb : Nat → Addr) (own : Nat → Prop) (w0 : World) : Prop where
  at_ : ∀ g ∈ S.errs,∃ et fr,w0.heap[g]? = some (.cells #[.iface S.errT (.pointer (some (eb g)))] et fr)
  out : ∀ g ∈ S.errs,¬ own g
  inj : ∀ g ∈ S.errs,∀ h ∈ S.errs,eb g = eb h → g = h
  eout : ∀ g ∈ S.errs,¬ own (eb g).block
  txt : ∀ g ∈ S.errs,∃ c t,w0.heap[(eb g).block]? = some (.cells c t (0,0))
  hand : ∀ x ∈ S.hands,(∃ et fr,w0.heap[x.1]? = some (.cells #[x.2] et fr)) ∧ ¬ own x.1
theorem BR.mono (e : φ.Ext φ') {id : Nat} {b : Blk} {o : Obj} (hd : φ.dom id) (h : BR T eb φ id b o) : BR T eb φ' id b o:=by
  cases b with
  | row ro k es =>
    obtain ⟨arr,et,fr,h1,h2,h3,h4,h5,h6⟩:=h
    refine ⟨arr,et,fr,h1,by rw [e.k id hd]; exact h2,by rw [e.size id hd]; exact h3,by rw [e.base id hd]; exact h4,h5,fun i x hx => ?_⟩
    obtain ⟨g1,g2⟩:=h6 i x hx
    refine ⟨g1,fun j v hv => ?_⟩
    obtain ⟨u,k1,k2,k3⟩:=g2 j v hv
    exact ⟨u,by rw [e.base id hd]; exact k1,k2.mono e,k3⟩
  | map es c =>
    obtain ⟨us,h1,h2⟩:=h
    exact ⟨us,h1,h2.mono e⟩
  | iter m s l seen =>
    obtain ⟨h1,h0,h2⟩:=h
    refine ⟨?_,by rw [e.base id hd]; exact h0,fun i hi =>e.dom i (h2 i hi)⟩
    cases m with
    | none =>exact h1
    | some i =>rw [Option.map_some,e.blk i (h2 i rfl)]; exact h1
end AH
namespace AH
open Go
variable {T : TypeId} {eb : Nat → Addr} {φ φ' : Emb} {M : Nat → Option Blk} {own : Nat → Prop} {w w' : World}
theorem add_lit (b o n : Nat) : (⟨b,o,none⟩ : Addr).add n = ⟨b,o + n,none⟩:=by unfold Addr.add; split <;> simp_all
theorem cellsAt_list {arr : Array Value} {o : Nat} {e : List AV} (h : CellsAt T eb φ arr o e) :
    ∃ us : List Value,us.length = e.length ∧ VRs T eb φ e us ∧ (∀ u ∈ us,u.oneCell' = true) ∧ ∀ j u,us[j]? = some u → arr[o + j]? = some u:=by
  induction e generalizing o with
  | nil =>exact ⟨[],rfl,.nil,by simp,by simp⟩
  | cons a r ih =>
    obtain ⟨u,h1,h2,h3⟩:=h 0 a (by simp)
    obtain ⟨us,k1,k2,k3,k4⟩:=ih (o:=o + 1) (fun j v hv =>by
      obtain ⟨x,g1,g2,g3⟩:=h (j + 1) v (by simpa using hv)
      exact ⟨x,by rw [show o + 1 + j = o + (j + 1) by omega]; exact g1,g2,g3⟩)
    refine ⟨u :: us,by simp [k1],.cons _ _ _ _ h2 k2,?_,?_⟩
    · intro x hx
      simp at hx
      rcases hx with rfl | hx
      · exact h3
      · exact k3 x hx
    · intro j x hx
      cases j with
      | zero =>simp at hx; subst hx; simpa using h1
      | succ j =>rw [show o + (j + 1) = o + 1 + j by omega]; exact k4 j x (by simpa using hx)
theorem cellsAt_of_list {arr : Array Value} {o : Nat} {e : List AV} {us : List Value} (h : VRs T eb φ e us) (h1 : ∀ u ∈ us,u.oneCell' = true) (h2 : ∀ j u,us[j]? = some u → arr[o + j]? = some u) :
    CellsAt T eb φ arr o e:=by
  intro j v hv
  obtain ⟨u,hu,hr⟩:=h.get j v hv
  exact ⟨u,h2 j u hu,hr,h1 u (List.mem_of_getElem? hu)⟩
theorem MR.elem (h : MR T eb φ M own w) {id : Nat} {ro : Bool} {k : Nat} {es : List (List AV)} (hid : M id = some (.row ro k es)) {ix : Nat} {el : List AV} (hix : es[ix]? = some el) :
    φ.k id = k ∧ ∃ us : List Value,us.length = k ∧ VRs T eb φ el us ∧ (∀ u ∈ us,u.oneCell' = true) ∧
      ∀ j u,us[j]? = some u → w.cell? ⟨φ.blk id,φ.base id + ix * φ.k id + j,none⟩ = some u:=by
  obtain ⟨o,ho,arr,et,fr,rfl,hk,hz,hb,hf,hc⟩:=h.blk id _ hid (.inl fun q =>by subst q; simp at hix)
  refine ⟨hk,?_⟩
  obtain ⟨hl,hca⟩:=hc ix el hix
  obtain ⟨us,h1,h2,h3,h4⟩:=cellsAt_list hca
  refine ⟨us,by omega,h2,h3,fun j u hu => ?_⟩
  have:=h4 j u hu
  simp only [World.cell?,ho]
  rw [hk]
  simpa using this
theorem MR.elems (h : MR T eb φ M own w) {id : Nat} {ro : Bool} {k : Nat} {es : List (List AV)} (hid : M id = some (.row ro k es)) {ix : Nat} (hix : ix < es.length) :
    φ.k id = k ∧ (es.getD ix []).length = k ∧ ∃ us : List Value,us.length = k ∧ VRs T eb φ (es.getD ix []) us ∧ (∀ u ∈ us,u.oneCell' = true) ∧
      ∀ j u,us[j]? = some u → w.cell? ⟨φ.blk id,φ.base id + ix * φ.k id + j,none⟩ = some u:=by
  have hg : es[ix]? = some (es.getD ix []):=by simp [List.getD,List.getElem?_eq_getElem hix]
  obtain ⟨h1,us,h2,h3,h4⟩:=h.elem hid hg
  exact ⟨h1,by rw [h3.length,h2],us,h2,h3,h4⟩
theorem MR.range (h : MR T eb φ M own w) {id : Nat} {ro : Bool} {k : Nat} {es : List (List AV)} (hid : M id = some (.row ro k es)) (ix : Nat) : ∀ (n : Nat),ix + n ≤ es.length →
    ∃ us : List Value,us.length = n * k ∧ VRs T eb φ ((es.drop ix).take n).flatten us ∧ (∀ u ∈ us,u.oneCell' = true) ∧
      ∀ j u,us[j]? = some u → w.cell? ⟨φ.blk id,φ.base id + ix * φ.k id + j,none⟩ = some u
  | 0,_ =>⟨[],by simp,by simp; exact .nil,by simp,by simp⟩
  | n + 1,hn =>by
    obtain ⟨us,h1,h2,h3,h4⟩:=h.range hid ix n (by omega)
    obtain ⟨hk,hl,vs,g1,g2,g3,g4⟩:=h.elems hid (ix:=ix + n) (by omega)
    have hsplit : (es.drop ix).take (n + 1) = (es.drop ix).take n ++ [es.getD (ix + n) []]:=by
      rw [List.take_add_one]
      congr 1
      simp [List.getElem?_drop,List.getD,List.getElem?_eq_getElem (show ix + n < es.length by omega)]
    refine ⟨us ++ vs,by simp [h1,g1,Nat.add_mul],by rw [hsplit]; simpa using h2.append g2,?_,?_⟩
    · intro u hu
      simp at hu
      rcases hu with hu | hu
      · exact h3 u hu
      · exact g3 u hu
    · intro j u hu
      by_cases hj : j < us.length
      · rw [List.getElem?_append_left hj] at hu
        exact h4 j u hu
      · rw [List.getElem?_append_right (by omega)] at hu
        have:=g4 _ u hu
        rw [h1] at this
        rw [hk] at this ⊢
        rw [← this]
        congr 2
        rw [Nat.add_mul]
        rw [h1] at hj
        omega
theorem MR.lens (h : MR T eb φ M own w) {id : Nat} {ro : Bool} {k : Nat} {es : List (List AV)} (hid : M id = some (.row ro k es)) : ∀ e ∈ es,e.length = k:=by
  intro e he
  obtain ⟨i,hi⟩:=List.getElem?_of_mem he
  obtain ⟨o,ho,arr,et,fr,rfl,hk,hz,hb,hf,hc⟩:=h.blk id _ hid (.inl fun q =>by subst q; simp at he)
  exact (hc i e hi).1
def Emb.add (φ : Emb) (n b base k size : Nat) : Emb :=
  { dom:=fun i => φ.dom i ∨ i = n,blk:=fun i =>if i = n then b else φ.blk i,base:=fun i =>if i = n then base else φ.base i,
    k:=fun i =>if i = n then k else φ.k i,size:=fun i =>if i = n then size else φ.size i }
theorem Emb.add_ext {n b base k size : Nat} (h : ¬ φ.dom n) : φ.Ext (φ.add n b base k size):=by
  have ne : ∀ i,φ.dom i → i ≠ n:=fun i hi e =>h (e ▸ hi)
  exact ⟨fun i hi => .inl hi,fun i hi =>by simp [Emb.add,ne i hi],fun i hi =>by simp [Emb.add,ne i hi],fun i hi =>by simp [Emb.add,ne i hi],fun i hi =>by simp [Emb.add,ne i hi]⟩
def upd (M : Nat → Option Blk) (n : Nat) (b : Option Blk) : Nat → Option Blk:=fun j =>if j = n then b else M j
theorem MR.alloc (h : MR T eb φ M own w) (hk : ∀ b,w.heap.size ≤ b → own b) {n : Nat} (hn : ¬ φ.dom n) {base k size : Nat} {o : Obj} {b : Blk}
    (hb : BR T eb (φ.add n w.heap.size base k size) n b o) : MR T eb (φ.add n w.heap.size base k size) (upd M n (some b)) own (w.alloc o):=by
  have ext:=Emb.add_ext (φ:=φ) (b:=w.heap.size) (base:=base) (k:=k) (size:=size) hn
  have old : ∀ id x,M id = some x → id ≠ n:=fun id x hx e =>hn (e ▸ h.dom id x hx)
  have sol : ∀ id x,M id = some x → x.solid (φ.add n w.heap.size base k size) id → x.solid φ id:=fun id x hx hs =>(Blk.solid_ext ext (h.dom id x hx)).1 hs
  have lt : ∀ id x,M id = some x → x.solid φ id → φ.blk id < w.heap.size:=fun id x hx hs =>by
    obtain ⟨o,ho,_⟩:=h.blk id x hx hs
    exact (Array.getElem?_eq_some_iff.1 ho).1
  refine ⟨?_,?_,?_,?_,?_⟩
  · intro id x hx
    by_cases e : id = n
    · exact .inr e
    · simp [upd,e] at hx; exact .inl (h.dom id x hx)
  · intro id ro k' es hx
    by_cases e : id = n
    · subst e
      simp [upd] at hx
      subst hx
      obtain ⟨_,_,_,_,hk',_⟩:=hb
      exact hk'
    · simp [upd,e] at hx
      simp only [Emb.add,if_neg e]
      exact h.kk id ro k' es hx
  · intro id x hx hs
    by_cases e : id = n
    · subst e
      simp [upd] at hx
      subst hx
      refine ⟨o,?_,hb⟩
      simp only [Emb.add,if_true]
      rw [show (w.alloc o).heap = w.heap.push o from rfl,Array.getElem?_push,if_pos rfl]
    · simp [upd,e] at hx
      have hs':=sol id x hx hs
      obtain ⟨y,hy,hr⟩:=h.blk id x hx hs'
      refine ⟨y,?_,hr.mono ext (h.dom id x hx)⟩
      have:=lt id x hx hs'
      simp only [Emb.add,if_neg e]
      rw [show (w.alloc o).heap = w.heap.push o from rfl,Array.getElem?_push,if_neg (by omega)]
      exact hy
  · intro id x hx hr hs
    by_cases e : id = n
    · subst e; simp [Emb.add]; exact hk _ (Nat.le_refl _)
    · simp [upd,e] at hx; have hs':=sol id x hx hs; simp only [Emb.add,if_neg e]; exact h.own id x hx hr hs'
  · intro id id' x x' hx hx' hne hr hs hs2
    by_cases e : id = n
    · subst e
      have e' : id' ≠ id:=fun h =>hne h.symm
      simp [upd,e'] at hx'
      have:=lt id' x' hx' (sol id' x' hx' hs2)
      simp only [Emb.add,if_neg e',if_true]
      omega
    · simp [upd,e] at hx
      have hs':=sol id x hx hs
      by_cases e' : id' = n
      · subst e'
        have:=lt id x hx hs'
        simp only [Emb.add,if_neg e,if_true]
        omega
      · simp [upd,e'] at hx'
        have hs2':=sol id' x' hx' hs2
        simp only [Emb.add,if_neg e,if_neg e']
        exact h.inj id id' x x' hx hx' hne hr hs' hs2'
theorem StepK.alloc (o : Obj) : StepK own w (w.alloc o) :=
  ⟨rfl,rfl,by simp,fun b hb _ =>by rw [show (w.alloc o).heap = w.heap.push o from rfl,Array.getElem?_push,if_neg (by omega)]⟩
theorem StepK.drew : StepK own w w.drew:=⟨rfl,rfl,Nat.le_refl _,fun _ _ _ =>rfl⟩
theorem StepK.trans {a b c : World} (h : StepK own a b) (g : StepK own b c) : StepK own a c :=
  ⟨g.os.trans h.os,g.output.trans h.output,Nat.le_trans h.size g.size,fun i hi ho =>(g.kept i (Nat.lt_of_lt_of_le hi h.size) ho).trans (h.kept i hi ho)⟩
theorem MR.of_heap (h : MR T eb φ M own w) (e : w'.heap = w.heap) : MR T eb φ M own w' :=
  ⟨h.dom,h.kk,fun id b hb =>by rw [e]; exact h.blk id b hb,h.own,h.inj⟩
theorem MR.drew (h : MR T eb φ M own w) : MR T eb φ M own w.drew:=h.of_heap rfl
theorem MR.dead (h : MR T eb φ M own w) (n : Nat) : MR T eb φ (upd M n none) own w:=by
  have sub : ∀ id b,upd M n none id = some b → M id = some b:=fun id b hb =>by
    by_cases e : id = n <;> simp [upd,e] at hb
    exact hb
  exact ⟨fun id b hb =>h.dom id b (sub id b hb),fun id ro k es hb =>h.kk id ro k es (sub id _ hb),fun id b hb =>h.blk id b (sub id b hb),fun id b hb =>h.own id b (sub id b hb),fun id id' b b' hb hb' =>h.inj id id' b b' (sub id b hb) (sub id' b' hb')⟩
theorem MR.void (hm : MR T eb φ M own w) {n k : Nat} (hk : 0 < k) (hnd : ¬ φ.dom n) : MR T eb (φ.add n 0 0 k 0) (upd M n (some (.row false k []))) own w:=by
  have ext:=Emb.add_ext (φ:=φ) (b:=0) (base:=0) (k:=k) (size:=0) hnd
  have old : ∀ {i : Nat} {b : Blk},upd M n (some (.row false k [])) i = some b → i ≠ n → M i = some b:=fun {i b} h hi =>by
    simpa [upd,hi] using h
  have nosol : ∀ {b : Blk},upd M n (some (.row false k [])) n = some b → ¬ b.solid (φ.add n 0 0 k 0) n:=fun hb hs =>by
    simp only [upd,if_true,Option.some.injEq] at hb
    subst hb
    simp only [Blk.solid,Emb.add,if_true] at hs
    rcases hs with q | q | q
    · exact q rfl
    · omega
    · omega
  have sol : ∀ {i : Nat} {b : Blk},M i = some b → b.solid (φ.add n 0 0 k 0) i → b.solid φ i:=fun hb hs =>(Blk.solid_ext ext (hm.dom _ _ hb)).1 hs
  refine ⟨fun i b hi => ?_,fun i ro k' es hi => ?_,fun i b hi hs => ?_,fun i b hi hr hs => ?_,fun i j b b' hi hj hne hr hs hs' => ?_⟩
  · by_cases e : i = n
    · exact .inr e
    · exact .inl (hm.dom _ _ (old hi e))
  · by_cases e : i = n
    · subst e
      simp only [upd,if_true,Option.some.injEq,Blk.row.injEq] at hi
      simp only [Emb.add,if_true]
      exact hi.2.1
    · simp only [Emb.add,if_neg e]
      exact hm.kk _ _ _ _ (old hi e)
  · by_cases e : i = n
    · subst e; exact absurd hs (nosol hi)
    · have h1:=old hi e
      obtain ⟨o,ho,hbr⟩:=hm.blk i b h1 (sol h1 hs)
      exact ⟨o,by simp only [Emb.add,if_neg e]; exact ho,hbr.mono ext (hm.dom _ _ h1)⟩
  · by_cases e : i = n
    · subst e; exact absurd hs (nosol hi)
    · have h1:=old hi e
      have hs0:=sol h1 hs
      simp only [Emb.add,if_neg e]
      exact hm.own i b h1 hr hs0
  · by_cases e : i = n
    · subst e; exact absurd hs (nosol hi)
    · by_cases e' : j = n
      · subst e'; exact absurd hs' (nosol hj)
      · have h1:=old hi e
        have h2:=old hj e'
        have hs0:=sol h1 hs
        have hs1:=sol h2 hs'
        simp only [Emb.add,if_neg e,if_neg e']
        exact hm.inj i j b b' h1 h2 hne hr hs0 hs1
def arrSet (arr : Array Value) (o : Nat) : List Value → Array Value
  | [] =>arr
  | v :: r =>arrSet (arr.setIfInBounds o v) (o + 1) r
theorem arrSet_size (vs : List Value) : ∀ (arr : Array Value) (o : Nat),(arrSet arr o vs).size = arr.size:=by
  induction vs with
  | nil =>intro arr o; rfl
  | cons v r ih =>intro arr o; simp [arrSet,ih]
theorem arrSet_get (vs : List Value) : ∀ (arr : Array Value) (o p : Nat),o + vs.length ≤ arr.size → (arrSet arr o vs)[p]? = if o ≤ p ∧ p < o + vs.length then vs[p - o]? else arr[p]?:=by
  induction vs with
  | nil =>intro arr o p h; rw [if_neg (by simp)]; rfl
  | cons v r ih =>
    intro arr o p h
    simp only [List.length_cons] at h
    rw [arrSet,ih _ _ _ (by simp; omega)]
    by_cases h1 : o + 1 ≤ p ∧ p < o + 1 + r.length
    · rw [if_pos h1,if_pos (by simp; omega),show p - o = (p - (o + 1)) + 1 by omega]; simp
    · rw [if_neg h1]
      by_cases h2 : p = o
      · subst h2; rw [if_pos (by simp)]; simp [Array.getElem?_setIfInBounds]; omega
      · rw [if_neg (by simp; omega),Array.getElem?_setIfInBounds_ne (by omega)]
theorem heap_setCells (b : Nat) (et : TypeId) (fr : Nat × Nat) : ∀ (vs : List Value) (o : Nat) (w : World) (arr : Array Value),w.heap[b]? = some (.cells arr et fr) →
    (w.setCells b o vs).heap[b]? = some (.cells (arrSet arr o vs) et fr)
  | [],_,_,_,h =>h
  | v :: r,o,w,arr,h =>by
    rw [World.setCells,arrSet]
    refine heap_setCells b et fr r (o + 1) _ _ ?_
    simp [World.setCell,Array.getElem?_modify,h]
theorem heap_setCells_ne (b c : Nat) (hne : c ≠ b) : ∀ (vs : List Value) (o : Nat) (w : World),(w.setCells b o vs).heap[c]? = w.heap[c]?
  | [],_,_ =>rfl
  | v :: r,o,w =>by
    rw [World.setCells,heap_setCells_ne b c hne r]
    simp only [World.setCell,Array.getElem?_modify]
    rw [if_neg (by omega)]
theorem setCells_size (b : Nat) : ∀ (vs : List Value) (o : Nat) (w : World),(w.setCells b o vs).heap.size = w.heap.size ∧ (w.setCells b o vs).os = w.os ∧ (w.setCells b o vs).tape = w.tape ∧ (w.setCells b o vs).output = w.output
  | [],_,_ =>⟨rfl,rfl,rfl,rfl⟩
  | v :: r,o,w =>by
    rw [World.setCells]
    obtain ⟨h1,h2,h3,h4⟩:=setCells_size b r (o + 1) (w.setCell ⟨b,o,none⟩ v)
    exact ⟨h1.trans (by simp),h2,h3,h4⟩
theorem StepK.setCells {b : Nat} (hb : own b) (o : Nat) (vs : List Value) : StepK own w (w.setCells b o vs):=by
  obtain ⟨h1,h2,h3,h4⟩:=setCells_size b vs o w
  exact ⟨h2,h4,by omega,fun c hc hn =>heap_setCells_ne b c (fun e =>hn (e ▸ hb)) vs o w⟩
theorem MR.turn (h : MR T eb φ M own w) {n : Nat} {b b' : Blk} (hb : M n = some b) (hr : b.rw) (hs : b.solid φ n) {o' : Obj}
    (ho : w'.heap[φ.blk n]? = some o') (hne : ∀ c,c ≠ φ.blk n → w'.heap[c]? = w.heap[c]?) (hB : BR T eb φ n b' o') : MR T eb φ (upd M n (some b')) own w':=by
  refine ⟨?_,?_,?_,?_,?_⟩
  · intro id x hx
    by_cases e : id = n
    · subst e; exact h.dom _ _ hb
    · simp [upd,e] at hx; exact h.dom id x hx
  · intro id ro k es hx
    by_cases e : id = n
    · subst e
      simp [upd] at hx
      subst hx
      obtain ⟨_,_,_,_,hk',_⟩:=hB
      exact hk'
    · simp [upd,e] at hx; exact h.kk id ro k es hx
  · intro id x hx hsx
    by_cases e : id = n
    · subst e; simp [upd] at hx; subst hx; exact ⟨o',ho,hB⟩
    · simp [upd,e] at hx
      obtain ⟨y,hy,g⟩:=h.blk id x hx hsx
      exact ⟨y,by rw [hne _ (fun c =>h.inj n id b x hb hx (fun e' =>e e'.symm) hr hs hsx c.symm)]; exact hy,g⟩
  · intro id x hx hrx hsx
    by_cases e : id = n
    · subst e; exact h.own _ _ hb hr hs
    · simp [upd,e] at hx; exact h.own id x hx hrx hsx
  · intro id id' x x' hx hx' hn hrx hsx hsx'
    by_cases e : id = n
    · subst e
      have e' : id' ≠ id:=fun q =>hn q.symm
      simp [upd,e'] at hx'
      exact h.inj id id' b x' hb hx' hn hr hs hsx'
    · simp [upd,e] at hx
      by_cases e' : id' = n
      · subst e'; exact h.inj id id' x b hx hb hn hrx hsx hs
      · simp [upd,e'] at hx'; exact h.inj id id' x x' hx hx' hn hrx hsx hsx'
end AH
namespace AH
open Go
def scalarV : Value → Option AV
  | .bool b =>some (.bool b)
  | .int k n =>some (.int k n)
  | .string s =>some (.str s)
  | .pointer none =>some .nilp
  | .slice none 0 0 =>some .nils
  | .map none =>some .nilm
  | .nilFunc =>some .nilf
  | .nilIface =>some .nili
  | _ =>none
def ofValue : Value → Option AV
  | .agg cs =>(cs.toList.mapM scalarV).map AV.agg
  | .func f first cap =>match f with
    | .func g =>if first.size = 0 ∧ cap.size = 0 then some (.fn g [] []) else none
    | _ =>none
  | v =>scalarV v
def cOpd : Operand → Option Opd
  | .tmp t =>some (.t t)
  | .const v =>(ofValue v).map Opd.c
  | .global _ =>none
  | .func f =>some (.c (.fn f [] []))
def zeroCells (P : Program) (t : TypeId) : Option (List AV):=do
  let i ← P.info? t
  let z ← i.zero
  let cs ← z.cells.toList.mapM scalarV
  if cs.length = i.size then some cs else none
def isAggT (P : Program) (t : TypeId) : Bool :=
  match P.underlying t with
  | some (.struct _) =>true
  | some (.array _ _) =>true
  | _ =>false
def zeroAV (P : Program) (t : TypeId) : Option AV:=do
  let i ← P.info? t
  ofValue (← i.zero)
def flatFs (g : TypeId → Option (List SK)) : List Field → Nat → Option (List SK)
  | [],_ =>some []
  | f :: r, off => if f.name = "_" ∨ f.offset ≠ off then none else match g f.type with
    | some ks =>if ks.length = 0 then none else (flatFs g r (off + ks.length)).map (ks ++ ·)
    | none =>none
def flatT (P : Program) : Nat → TypeId → Option (List SK)
  | 0,_ =>none
  | d + 1,t =>match P.underlying t with
    | some .bool =>some [.bool]
    | some (.int _) =>some [.int]
    | some .string =>some [.str]
    | some (.struct fs) =>if P.stoodInHeld t then none else match flatFs (flatT P d) fs.toList 0 with
      | some ks =>if P.cellsOf t = ks.length then some ks else none
      | none =>none
    | some (.array n e) =>match flatT P d e with
      | some ks =>if P.cellsOf e = ks.length ∧ P.cellsOf t = n * ks.length ∧ ks.length ≠ 0 then some (List.replicate n ks).flatten else none
      | none =>none
    | _ =>none
def eqKind (P : Program) (t : TypeId) : Option EqK :=
  match P.underlying t with
  | some .bool =>some .bool
  | some (.pointer e) =>if P.cellsOf e = 0 then none else some .ptr
  | some (.interface _) =>some .iface
  | some (.slice _) =>some .slice
  | some (.map _ _) =>some .map
  | some (.func _ _ _) =>some .func
  | some (.struct _) =>(flatT P 8 t).map .flat
  | some (.array _ _) =>(flatT P 8 t).map .flat
  | _ =>none
def keyT (P : Program) (t : TypeId) : Option KK :=
  match P.underlying t with
  | some .bool =>some (.sc .bool)
  | some (.int _) =>some (.sc .int)
  | some .string =>some (.sc .str)
  | some (.struct _) =>(flatT P 8 t).map .fl
  | some (.array _ _) =>(flatT P 8 t).map .fl
  | _ =>none
def isConst : Operand → Bool
  | .const _ =>true
  | _ =>false
def oOpd : Option Operand → Option (Option Opd)
  | none =>some none
  | some x =>(cOpd x).map some
def partsOf (P : Program) (t : TypeId) (parts : Array (Nat × Operand)) : Option (List (Nat × Nat × Opd)) :=
  match P.underlying t with
  | some (.struct fs) =>parts.toList.mapM fun (i,x) =>do
      let f ← fs[i]?
      some (f.offset,P.cellsOf f.type,← cOpd x)
  | some (.array _ e) =>parts.toList.mapM fun (i,x) =>do some (i * P.cellsOf e,P.cellsOf e,← cOpd x)
  | some (.slice e) =>parts.toList.mapM fun (i,x) =>do some (i * P.cellsOf e,P.cellsOf e,← cOpd x)
  | _ =>none
def buildT (P : Program) (t : TypeId) : Bool :=
  match P.underlying t with
  | some (.struct fs) =>fs.toList.all fun fd =>(P.info? fd.type).isSome
  | some (.array _ e) =>(P.info? e).isSome
  | _ =>false
def fieldOf (P : Program) (s : TypeId) (i : Nat) : Option Field :=
  match P.underlying s with
  | some (.struct fs) =>fs[i]?
  | _ =>none
def cOp (P : Program) (errs : List Nat) : Op → Option (AOp Opd)
  | .move x | .assign x =>do some (.mov (← cOpd x))
  | .pick c a b =>do some (.pick (← cOpd c) (← cOpd a) (← cOpd b))
  | .alloc e =>do some (.box (P.cellsOf e) (.c (← zeroAV P e)))
  | .box e x =>do some (.box (P.cellsOf e) (← cOpd x))
  | .build t ps =>do
    if buildT P t then some () else none
    some (.build (← zeroCells P t) (← partsOf P t ps))
  | .buildSlice t n ps =>match P.underlying t with
    | some (.slice e) =>do
      if n * P.cellsOf e > 2 ^ 24 then none
      some (.bslice (P.cellsOf e) n (← zeroCells P e) (← partsOf P t ps))
    | _ =>none
  | .load t (.global g) =>if errs.contains g && (!isAggT P t && (P.underlying t).isSome) then some (.loadg g) else some .abort
  | .load t x =>if (P.underlying t).isSome = false then none else do some (.load (isAggT P t) (bif isAggT P t then P.cellsOf t else 1) (← cOpd x))
  | .store t a x =>if P.cellsOf t = 0 then none else do some (.store (P.cellsOf t) (← cOpd a) (← cOpd x))
  | .nilCheck x =>do some (.nilchk (← cOpd x))
  | .binOp op t x y _ =>match P.underlying t with
    | some (.int _) =>do some (.ibin op (← cOpd x) (← cOpd y))
    | some .string =>do some (.ibin op (← cOpd x) (← cOpd y))
    | _ =>match op with
      | .eql =>do some (.eq false (← eqKind P t) (isConst x || isConst y) (← cOpd x) (← cOpd y))
      | .neq =>do some (.eq true (← eqKind P t) (isConst x || isConst y) (← cOpd x) (← cOpd y))
      | _ =>none
  | .unOp op _ x =>do some (.un op (← cOpd x))
  | .convert s d x =>match P.underlying s,P.underlying d with
    | some (.int _),some (.int k) =>do some (.i2i k (← cOpd x))
    | some .string,some .string =>do some (.same (← cOpd x))
    | some .string,some (.slice e) =>match P.underlying e with
      | some (.int .u8) =>do some (.s2b (← cOpd x))
      | _ =>none
    | some (.slice e),some .string =>match P.underlying e with
      | some (.int .u8) =>do some (.b2s (← cOpd x))
      | _ =>none
    | _,_ =>none
  | .makeInterface t x =>match P.underlying t with
    | some (.interface _) =>none
    | some _ =>do some (.mkifc t (← cOpd x))
    | none =>none
  | .makeFunc (.func f) first cap =>do some (.mkfn f (← first.toList.mapM cOpd) (← cap.toList.mapM cOpd))
  | .makeMap _ none =>some .mkmap
  | .makeSlice t n c =>match P.underlying t with
    | some (.slice e) =>do some (.mkslice (P.cellsOf e) (P.bytesOf e) (← zeroCells P e) (← cOpd n) (← cOpd c))
    | _ =>none
  | .slice t x lo hi mx =>match P.underlying t with
    | some (.array n e) =>do if mx.isSome then none else some (.sliceArr n (P.cellsOf e) (← cOpd x) (← oOpd lo) (← oOpd hi))
    | some (.slice e) =>if P.cellsOf e = 0 then none else do some (.slice (P.cellsOf e) (← cOpd x) (← oOpd lo) (← oOpd hi) (← oOpd mx))
    | some .string =>do if mx.isSome then none else some (.sliceStr (← cOpd x) (← oOpd lo) (← oOpd hi))
    | _ =>none
  | .fieldAddr s x i =>do
    let f ← fieldOf P s i
    if P.cellsOf f.type = 0 then none else some (.faddr f.offset (← cOpd x))
  | .field s x i =>do
    let f ← fieldOf P s i
    if (P.underlying f.type).isSome = false then none else some (.fld (isAggT P f.type) (bif isAggT P f.type then P.cellsOf f.type else 1) f.offset (← cOpd x))
  | .indexAddr t x i =>match P.underlying t with
    | some (.array n e) =>do if P.cellsOf e = 0 then none else some (.iaddrArr n (P.cellsOf e) (← cOpd x) (← cOpd i))
    | some (.slice e) =>do if P.cellsOf e = 0 then none else some (.iaddrSl (P.cellsOf e) (← cOpd x) (← cOpd i))
    | _ =>none
  | .index t x i =>match P.underlying t with
    | some (.array n e) =>if (P.underlying e).isSome = false || (!isAggT P e && P.cellsOf e != 1) then none else do some (.idxArr n (isAggT P e) (P.cellsOf e) (← cOpd x) (← cOpd i))
    | some .string =>do some (.idxStr (← cOpd x) (← cOpd i))
    | _ =>none
  | .lookup t x k ok =>match P.underlying t with
    | some (.map kt e) =>do some (.lookup (← keyT P kt) (← zeroAV P e) (← cOpd x) (← cOpd k) ok)
    | _ =>none
  | .mapUpdate t m k v =>match P.underlying t with
    | some (.map kt _) =>do some (.mapupd (← keyT P kt) (← cOpd m) (← cOpd k) (← cOpd v))
    | _ =>none
  | .insert t m k v =>match P.underlying t with
    | some (.map kt _) =>do some (.mapupd (← keyT P kt) (← cOpd m) (← cOpd k) (← cOpd v))
    | _ =>none
  | .mapEntry t m k =>match P.underlying t with
    | some (.map kt e) =>do some (.mentry (← keyT P kt) (← zeroAV P e) (← cOpd m) (← cOpd k))
    | _ =>none
  | .entryStore _ m s v =>do some (.estore (← cOpd m) (← cOpd s) (← cOpd v))
  | .range t x =>match P.underlying t with
    | some (.map _ _) =>do some (.mkiter (← cOpd x))
    | _ =>none
  | .next x str =>if str then none else do some (.next (← cOpd x))
  | .entry x =>do some (.entry (← cOpd x))
  | .extract x i =>do some (.extract (← cOpd x) i)
  | .call { callee:=.builtin b,args,argTypes } =>match b,args.toList,argTypes.toList with
    | .len,[x],t :: _ =>match P.underlying t with
      | some (.array n _) =>some (.lenArr n)
      | some (.pointer e) =>match P.underlying e with
        | some (.array n _) =>some (.lenArr n)
        | _ =>none
      | some .string =>do some (.len .str (← cOpd x))
      | some (.slice _) =>do some (.len .sl (← cOpd x))
      | some (.map _ _) =>do some (.len .map (← cOpd x))
      | _ =>none
    | .append,[x,y],[t,u] =>match P.underlying t,P.underlying u with
      | some (.slice e),some (.slice e') =>if e = e' then do some (.append (P.cellsOf e) (P.bytesOf e) (← zeroCells P e) (← cOpd x) (← cOpd y)) else none
      | _,_ =>none
    | .copy,[x,y],[t,u] =>match P.underlying t,P.underlying u with
      | some (.slice e),some (.slice e') =>if e = e' ∧ (P.underlying e).isSome = true then do some (.copy (P.cellsOf e) (← cOpd x) (← cOpd y)) else none
      | _,_ =>none
    | .delete,[x,k],t :: _ =>match P.underlying t with
      | some (.map kt _) =>do some (.mdel (← keyT P kt) (← cOpd x) (← cOpd k))
      | _ =>none
    | .clear,[x],t :: _ =>match P.underlying t with
      | some (.slice e) =>if (P.underlying e).isSome = false then none else do some (.clr (P.cellsOf e) (← zeroCells P e) (← cOpd x))
      | _ =>none
    | .min,_,_ =>do some (.minmax false (← args.toList.mapM cOpd))
    | .max,_,_ =>do some (.minmax true (← args.toList.mapM cOpd))
    | _,_,_ =>none
  | .call { callee:=.value f,args,.. } =>do some (.call (← cOpd f) (← args.toList.mapM cOpd))
  | _ =>some .abort
def cOper (P : Program) (errs : List Nat) (nt : Nat) (ops : Array Oper) (o : Oper) : Option AOper:=do
  let op ← cOp P errs o.op
  if o.dst.all (· < nt) then some () else none
  match o.guard with
  | none =>some { dst:=o.dst,guard:=none,op }
  | some (j,want) =>do
    let d ← (← ops[j]?).dst
    some { dst:=o.dst,guard:=some (d,want),op }
def onOf (o : Oper) : List Nat:=(o.after.toList.filter fun e =>Region.binds .any e).map (·.on)
def aheadOf (ops : Array Oper) : List (List Nat) :=
  (List.range ops.size).foldl (init:=[]) fun acc i =>
    let on:=((ops[i]?).map onOf).getD []
    acc ++ [(on ++ (on.map fun j =>acc.getD j []).flatten).eraseDups]
def closedB (ops : Array Oper) (ix : List (List Nat)) : Bool :=
  (List.range ops.size).all fun i =>((((ops[i]?).map onOf).getD []).all fun j =>decide (j < i)) && (ix.getD i []).all fun j =>(((ops[i]?).map onOf).getD []).contains j || (((ops[i]?).map onOf).getD []).any fun k =>(ix.getD k []).contains j
def cCode (P : Program) (errs : List Nat) (nt : Nat) : Code → Option ACode
  | .skip =>some .skip
  | .region _ ops draw =>do
    let l ← ops.toList.mapM (cOper P errs nt ops)
    if draw then (if closedB ops (aheadOf ops) then some (.draw l (aheadOf ops)) else none) else some (.reg l)
  | .seq a b =>do some (.seq (← cCode P errs nt a) (← cCode P errs nt b))
  | .cond c a b =>do some (.cond (← cOpd c) (← cCode P errs nt a) (← cCode P errs nt b))
  | .block id b =>do some (.block id (← cCode P errs nt b))
  | .loop b =>do some (.loop (← cCode P errs nt b))
  | .exit id =>some (.exit id)
  | .ret =>some .ret
  | _ =>some .abort
end AH
namespace AH
open Go
variable {S : Sys} {eb : Nat → Addr} {φ : Emb} {M : Nat → Option Blk} {own : Nat → Prop} {w : World} {ρ : Operand → Value} {f : Opd → AV} {o : Oper} {fresh : Nat} {p : Prop} {e : Eff}
def OpRes (S : Sys) (eb : Nat → Addr) (φ : Emb) (own : Nat → Prop) (M : Nat → Option Blk) (fresh : Nat) (w : World) (e : Eff) (r : Result Next) : Prop :=
  ∃ u φ' w',(r = .ok (.value u) w' ∨ (r = .ok .skip w' ∧ u = undef)) ∧ VR S.errT eb φ' e.val u ∧ MR S.errT eb φ' (applyF M e.wr) own w' ∧ StepK own w w' ∧ φ.Ext φ' ∧
    ∀ id,φ'.dom id → φ.dom id ∨ (id = fresh ∧ fresh ∈ e.wr.map Prod.fst)
theorem OpRes.quiet (hM : MR S.errT eb φ M own w) {u : Value} {v : AV} {foot : List Nat} {r : Result Next} (hr : r = .ok (.value u) w) (hv : VR S.errT eb φ v u) :
    OpRes S eb φ own M fresh w { val:=v,foot:=foot } r :=
  ⟨u,φ,w,.inl hr,hv,hM,.refl,.refl φ,fun _ h => .inl h⟩
abbrev Rho (S : Sys) (eb : Nat → Addr) (φ : Emb) (ρ : Operand → Value) (f : Opd → AV) : Prop:=∀ x cx,cOpd x = some cx → VR S.errT eb φ (f cx) (ρ x)
theorem mov_ok {x : Operand} {cx : Opd} (hx : cOpd x = some cx) (hρ : Rho S eb φ ρ f) (hM : MR S.errT eb φ M own w)
    (hs : bstep fresh M (.mov (f cx)) = some (p,e)) : OpRes S eb φ own M fresh w e (.ok (.value (ρ x)) w):=by
  simp [bstep,pureE] at hs
  obtain ⟨_,rfl⟩:=hs
  exact .quiet hM rfl (hρ x cx hx)
theorem pick_ok {c a b : Operand} {cc ca cb : Opd} (hc : cOpd c = some cc) (ha : cOpd a = some ca) (hb : cOpd b = some cb) (hρ : Rho S eb φ ρ f) (hM : MR S.errT eb φ M own w)
    (hs : bstep fresh M (.pick (f cc) (f ca) (f cb)) = some (p,e)) (ho : o.op = .pick c a b) : OpRes S eb φ own M fresh w e ((execOp ρ o).run S.P w):=by
  have vc:=hρ c cc hc
  simp only [bstep] at hs
  split at hs
  · rename_i t ht
    rw [ht] at vc
    simp [pureE] at hs
    obtain ⟨_,rfl⟩:=hs
    cases hv : ρ c <;> rw [hv] at vc <;> cases vc
    refine .quiet hM (u:=if t then ρ a else ρ b) (by simp [execOp,ho,hv,asBool]) ?_
    cases t
    · exact hρ b cb hb
    · exact hρ a ca ha
  · simp at hs
theorem bin_int {op : BinOp} {k k' : IntKind} {a b : Int} {r : Prop × AV} (h : binAV op (.int k a) (.int k' b) = some r) (hr : r.1) (t : TypeId) :
    ∃ u,(binOp op t (.int k a) (.int k' b)).run S.P w = .ok u w ∧ VR S.errT eb φ r.2 u:=by
  simp only [binAV] at h
  cases op <;> simp only at h
  case shl | shr =>
    simp [intOp] at h
    subst h
    simp only at hr
    refine ⟨_,?_,.int _ _⟩
    simp [binOp,Op.shift,show ¬ b < 0 by omega]
  all_goals
    split at h
    · rename_i hk
      subst hk
      simp [intOp] at h
      subst h
      simp only at hr
      refine ⟨_,by simp [binOp,Op.intArith,Op.intDiv,Op.intBits,Op.intCmp,hr]; rfl,by constructor⟩
    · simp at h
theorem bin_str {op : BinOp} {a b : ByteArray} {r : Prop × AV} (h : binAV op (.str a) (.str b) = some r) (hr : r.1) (t : TypeId) :
    ∃ u,(binOp op t (.string a) (.string b)).run S.P w = .ok u w ∧ VR S.errT eb φ r.2 u:=by
  simp only [binAV] at h
  cases op <;> simp only [strOp,Option.some.injEq,reduceCtorEq] at h <;> subst h <;> simp only at hr
  case add =>
    refine ⟨.string (a ++ b),?_,.str _⟩
    have : ¬ ((a.size + b.size : Nat) : Int) > IntKind.i64.max:=by omega
    simp only [binOp,Op.stringOp,this,if_false]
    rfl
  all_goals refine ⟨_,by simp only [binOp,Op.stringOp]; rfl,by constructor⟩
theorem ibin_ok {op : BinOp} {t t' : TypeId} {x y : Operand} {cx cy : Opd} (hx : cOpd x = some cx) (hy : cOpd y = some cy) (hρ : Rho S eb φ ρ f) (hM : MR S.errT eb φ M own w)
    (hs : bstep fresh M (.ibin op (f cx) (f cy)) = some (p,e)) (hp : p) (ho : o.op = .binOp op t x y t') : OpRes S eb φ own M fresh w e ((execOp ρ o).run S.P w):=by
  have vx:=hρ x cx hx
  have vy:=hρ y cy hy
  simp only [bstep,Option.map_eq_some_iff] at hs
  obtain ⟨r,hr,hs⟩:=hs
  simp only [Prod.mk.injEq] at hs
  obtain ⟨rfl,rfl⟩:=hs
  have key : ∃ u,(binOp op t (ρ x) (ρ y)).run S.P w = .ok u w ∧ VR S.errT eb φ r.2 u ∧ (eqGuard op t x y (ρ x) (ρ y)).run S.P w = .ok () w:=by
    generalize f cx = ax at *
    generalize f cy = ay at *
    cases ax <;> cases ay <;> simp [binAV] at hr
    case int k a k' b =>
      have hr' : binAV op (.int k a) (.int k' b) = some r:=by simpa [binAV] using hr
      cases hv : ρ x <;> rw [hv] at vx <;> cases vx
      cases hv' : ρ y <;> rw [hv'] at vy <;> cases vy
      obtain ⟨u,h1,h2⟩:=bin_int (S:=S) (eb:=eb) (φ:=φ) (w:=w) hr' hp t
      exact ⟨u,h1,h2,by simp [eqGuard]⟩
    case str a b =>
      have hr' : binAV op (.str a) (.str b) = some r:=by simpa [binAV] using hr
      cases hv : ρ x <;> rw [hv] at vx <;> cases vx
      cases hv' : ρ y <;> rw [hv'] at vy <;> cases vy
      obtain ⟨u,h1,h2⟩:=bin_str (S:=S) (eb:=eb) (φ:=φ) (w:=w) hr' hp t
      exact ⟨u,h1,h2,by simp [eqGuard]⟩
  obtain ⟨u,h1,h2,h3⟩:=key
  exact .quiet hM (u:=u) (by simp [execOp,ho,h1,h3]) h2
theorem un_ok {op : UnOp} {t : TypeId} {x : Operand} {cx : Opd} (hx : cOpd x = some cx) (hρ : Rho S eb φ ρ f) (hM : MR S.errT eb φ M own w)
    (hs : bstep fresh M (.un op (f cx)) = some (p,e)) (ho : o.op = .unOp op t x) : OpRes S eb φ own M fresh w e ((execOp ρ o).run S.P w):=by
  have vx:=hρ x cx hx
  simp only [bstep,Option.map_eq_some_iff,Prod.mk.injEq] at hs
  obtain ⟨v,hv,_,rfl⟩:=hs
  generalize f cx = ax at *
  cases ax <;> simp only [unAV,reduceCtorEq] at hv
  case bool b =>
    split at hv
    · rename_i hop
      subst hop
      simp only [Option.some.injEq] at hv
      subst hv
      cases hv : ρ x <;> rw [hv] at vx <;> cases vx
      exact .quiet hM (u:=.bool !b) (by simp [execOp,ho,hv,Op.unary]) (.bool _)
    · cases hv
  case int k n =>
    cases hq : ρ x <;> rw [hq] at vx <;> cases vx
    cases op <;> simp only [Option.some.injEq,reduceCtorEq] at hv <;> subst hv
    · exact .quiet hM (u:=.int k (k.wrap (0 - n))) (by simp [execOp,ho,hq,Op.unary,Op.intArith]) (.int _ _)
    · refine .quiet hM ?_ (.int _ _)
      simp only [execOp,ho,hq,Op.unary,Op.intBits,Sem.run_bind,Sem.run_pure,Result.andThen_ok]
theorem i2i_ok {s d : TypeId} {k0 k : IntKind} (_h1 : S.P.underlying s = some (.int k0)) (h2 : S.P.underlying d = some (.int k)) {x : Operand} {cx : Opd} (hx : cOpd x = some cx) (hρ : Rho S eb φ ρ f) (hM : MR S.errT eb φ M own w)
    (hs : bstep fresh M (.i2i k (f cx)) = some (p,e)) (ho : o.op = .convert s d x) : OpRes S eb φ own M fresh w e ((execOp ρ o).run S.P w):=by
  have vx:=hρ x cx hx
  simp only [bstep] at hs
  split at hs
  · rename_i k' n hn
    rw [hn] at vx
    simp [pureE] at hs
    obtain ⟨_,rfl⟩:=hs
    cases hv : ρ x <;> rw [hv] at vx <;> cases vx
    refine .quiet hM (u:=.int k (k.wrap n)) ?_ (.int _ _)
    simp [execOp,ho,hv,convert,underlying,_h1,h2,Conv.intToInt]
  · simp at hs
end AH
set_option linter.unusedSimpArgs false
namespace AH
open Go
variable {P : Program} {w : World}
def eqScV (k : SK) : Value → Value → Option Bool
  | .int j a,.int j' b =>if k = .int ∧ j = j' then some (a == b) else none
  | .bool a,.bool b =>if k = .bool then some (a == b) else none
  | .string a,.string b =>if k = .str then some (a.toList == b.toList) else none
  | _,_ =>none
def eqFlatV : List SK → List Value → List Value → Option Bool
  | [],[],[] =>some true
  | k :: ks,a :: r,b :: s =>match eqScV k a b,eqFlatV ks r s with
    | some x,some y =>some (x && y)
    | _,_ =>none
  | _,_,_ =>none
theorem eqScV_of {T : TypeId} {eb : Nat → Addr} {φ : Emb} {k : SK} {a b : AV} {x y : Value} {r : Bool} (h : eqScalar k a b = some r) (ha : VR T eb φ a x) (hb : VR T eb φ b y) : eqScV k x y = some r:=by
  cases a <;> cases b <;> simp only [eqScalar,reduceCtorEq] at h <;> cases ha <;> cases hb <;> exact h
theorem eqFlatV_of {T : TypeId} {eb : Nat → Addr} {φ : Emb} : ∀ {ks : List SK} {a b : List AV} {x y : List Value} {r : Bool},eqFlat ks a b = some r → VRs T eb φ a x → VRs T eb φ b y → eqFlatV ks x y = some r
  | [],[],[],_,_,r,h,.nil,.nil =>h
  | [],[],_ :: _,_,_,_,h,_,_ =>by simp [eqFlat] at h
  | [],_ :: _,_,_,_,_,h,_,_ =>by simp [eqFlat] at h
  | _ :: _,[],_,_,_,_,h,_,_ =>by simp [eqFlat] at h
  | _ :: _,_ :: _,[],_,_,_,h,_,_ =>by simp [eqFlat] at h
  | k :: ks,a :: as,b :: bs,_,_,r,h,.cons _ x _ xs h1 h2,.cons _ y _ ys g1 g2 =>by
    simp only [eqFlat] at h
    split at h
    · rename_i p q hp hq
      simp only [eqFlatV,eqScV_of hp h1 g1,eqFlatV_of hq h2 g2]
      exact h
    · cases h
theorem eqFlatV_append : ∀ {k1 k2 : List SK} {x y : List Value} {r : Bool},eqFlatV (k1 ++ k2) x y = some r →
    ∃ r1 r2,eqFlatV k1 (x.take k1.length) (y.take k1.length) = some r1 ∧ eqFlatV k2 (x.drop k1.length) (y.drop k1.length) = some r2 ∧ r = (r1 && r2)
  | [],k2,x,y,r,h =>⟨true,r,by simp [eqFlatV],by simpa using h,by simp⟩
  | _ :: _,_,[],_,_,h =>by simp [eqFlatV] at h
  | _ :: _,_,_ :: _,[],_,h =>by simp [eqFlatV] at h
  | k :: k1,k2,a :: x,b :: y,r,h =>by
    simp only [List.cons_append,eqFlatV] at h
    split at h
    · rename_i p q hp hq
      obtain ⟨r1,r2,h1,h2,rfl⟩:=eqFlatV_append hq
      simp only [Option.some.injEq] at h
      refine ⟨p && r1,r2,by simp [eqFlatV,hp,h1],by simpa using h2,by rw [← h,Bool.and_assoc]⟩
    · cases h
theorem eqFlatV_len : ∀ {ks : List SK} {x y : List Value} {r : Bool},eqFlatV ks x y = some r → x.length = ks.length ∧ y.length = ks.length
  | [],[],[],_,_ =>by simp
  | [],[],_ :: _,_,h =>by simp [eqFlatV] at h
  | [],_ :: _,_,_,h =>by simp [eqFlatV] at h
  | _ :: _,[],_,_,h =>by simp [eqFlatV] at h
  | _ :: _,_ :: _,[],_,h =>by simp [eqFlatV] at h
  | k :: ks,a :: x,b :: y,r,h =>by
    simp only [eqFlatV] at h
    split at h
    · rename_i p q hp hq
      have:=eqFlatV_len hq
      simp [this.1,this.2]
    · cases h
def toV (P : Program) (t : TypeId) (xs : List Value) : Value:=if isAggT P t then .agg xs.toArray else xs.getD 0 undef
theorem run_isAgg_iff (t : TypeId) {d : TypeDesc} (h : P.underlying t = some d) : (isAgg t).run P w = .ok (isAggT P t) w:=by
  simp only [isAgg,Sem.run_bind,run_underlying h,Result.andThen_ok,isAggT,h]
  cases d <;> rfl
theorem run_part (t : TypeId) {d : TypeDesc} (h : P.underlying t = some d) (hs : (P.info? t).isSome = true) (xs : List Value) (off : Nat) (hl : off + (if isAggT P t then P.cellsOf t else 1) ≤ xs.length) :
    (Go.part t xs.toArray off).run P w = .ok (toV P t ((xs.drop off).take (if isAggT P t then P.cellsOf t else 1))) w:=by
  obtain ⟨i,hi⟩:=Option.isSome_iff_exists.1 hs
  simp only [Go.part,Sem.run_bind,run_isAgg_iff t h,Result.andThen_ok]
  by_cases ha : isAggT P t = true
  · have hc : P.cellsOf t = i.size:=by simp [Program.cellsOf,hi]
    simp only [ha,if_true] at hl ⊢
    simp only [Go.sizeOf,typeInfo,Sem.run_bind,run_program,Result.andThen_ok,hi,Sem.run_pure,toV,ha,if_true]
    congr 2
    apply Array.ext'
    simp only [Array.toList_extract,List.extract_eq_take_drop,hc]
    congr 1
    omega
  · simp only [ha,if_false,Bool.false_eq_true] at hl ⊢
    have : off < xs.length:=by omega
    simp only [List.getElem?_toArray,List.getElem?_eq_getElem this,Sem.run_pure,toV,ha,Bool.false_eq_true,if_false]
    congr 1
    simp [List.getD,List.getElem?_take,List.getElem?_drop,List.getElem?_eq_getElem this]
theorem info_of_underlying {t : TypeId} {d : TypeDesc} (h : P.underlying t = some d) : (P.info? t).isSome = true:=by
  unfold Program.underlying at h
  cases hi : P.info? t with
  | none =>simp [hi] at h
  | some i =>rfl
theorem flatT_under {d : Nat} {t : TypeId} {ks : List SK} (h : flatT P d t = some ks) : ∃ td,P.underlying t = some td:=by
  cases d with
  | zero =>simp [flatT] at h
  | succ d =>
    cases hu : P.underlying t with
    | some td =>exact ⟨td,rfl⟩
    | none =>simp [flatT,hu] at h
theorem eqFlatV_one {k : SK} {xs ys : List Value} {b : Bool} (h : eqFlatV [k] xs ys = some b) : ∃ x y,xs = [x] ∧ ys = [y] ∧ eqScV k x y = some b:=by
  match xs,ys,h with
  | [x],[y],hb =>
    refine ⟨x,y,rfl,rfl,?_⟩
    simp only [eqFlatV] at hb
    split at hb
    · rename_i p q hp hq
      simp only [Option.some.injEq] at hq hb
      rw [hp,← hb,← hq,Bool.and_true]
    · cases hb
  | [],_,hb =>simp [eqFlatV] at hb
  | _ :: _ :: _,_,hb =>exact absurd (eqFlatV_len hb).1 (by simp)
  | [_],[],hb =>simp [eqFlatV] at hb
  | [_],_ :: _ :: _,hb =>exact absurd (eqFlatV_len hb).2 (by simp)
theorem eqScV_run {k : SK} {t : TypeId} {x y : Value} {b : Bool} (h : eqScV k x y = some b) (ht : P.underlying t = some .bool ∧ k = .bool ∨ (∃ i,P.underlying t = some (.int i)) ∧ k = .int ∨ P.underlying t = some .string ∧ k = .str) (D : Nat) :
    (Op.equalIn (D + 1) t x y).run P w = .ok b w:=by
  rcases ht with ⟨hu,rfl⟩ | ⟨⟨i,hu⟩,rfl⟩ | ⟨hu,rfl⟩
  · cases x <;> cases y <;> simp only [eqScV,reduceCtorEq,if_false,if_true,Option.some.injEq,false_and] at h
    subst h
    simp [Op.equalIn,run_underlying hu]
  · cases x <;> cases y <;> simp only [eqScV,reduceCtorEq,if_false,if_true,Option.some.injEq,true_and] at h
    split at h
    · rename_i hk
      subst hk
      simp only [Option.some.injEq] at h
      subst h
      simp [Op.equalIn,run_underlying hu]
    · cases h
  · cases x <;> cases y <;> simp only [eqScV,reduceCtorEq,if_false,if_true,Option.some.injEq,false_and] at h
    subst h
    simp [Op.equalIn,run_underlying hu,beq_toListBytes]
theorem flatT_size {d : Nat} {t : TypeId} {ks : List SK} (h : flatT P d t = some ks) : (if isAggT P t then P.cellsOf t else 1) = ks.length:=by
  cases d with
  | zero =>simp [flatT] at h
  | succ d =>
    simp only [flatT] at h
    split at h <;> (try (simp only [Option.some.injEq] at h; subst h)) <;> (try (cases h; done))
    · rename_i hu; simp [isAggT,hu]
    · rename_i hu; simp [isAggT,hu]
    · rename_i hu; simp [isAggT,hu]
    · rename_i fs hu
      split at h
      · cases h
      · split at h
        · split at h
          · rename_i hc
            simp only [Option.some.injEq] at h
            subst h
            simp [isAggT,hu,hc]
          · cases h
        · cases h
    · rename_i n e hu
      split at h
      · split at h
        · rename_i ks' _ hc
          simp only [Option.some.injEq] at h
          subst h
          simp [isAggT,hu,hc.2.1]
        · cases h
      · cases h
theorem run_fields {d D : Nat} (ih : ∀ t ks,flatT P d t = some ks → ∀ (xs ys : List Value) (b : Bool),eqFlatV ks xs ys = some b → (Op.equalIn D t (toV P t xs) (toV P t ys)).run P w = .ok b w) :
    ∀ (fs : List Field) (off : Nat) (ks : List SK),flatFs (flatT P d) fs off = some ks → ∀ (xs ys : List Value) (b : Bool),eqFlatV ks (xs.drop off) (ys.drop off) = some b →
      (Op.eqFields D xs.toArray ys.toArray fs).run P w = .ok b w
  | [],off,ks,h,xs,ys,b,hb =>by
    simp [flatFs] at h
    subst h
    have:=eqFlatV_len hb
    have e1 : xs.drop off = []:=List.eq_nil_of_length_eq_zero this.1
    have e2 : ys.drop off = []:=List.eq_nil_of_length_eq_zero this.2
    rw [e1,e2] at hb
    simp [eqFlatV] at hb
    subst hb
    simp [Op.eqFields]
  | f :: r,off,ks,h,xs,ys,b,hb =>by
    simp only [flatFs] at h
    split at h
    · cases h
    rename_i hn
    simp only [not_or,Decidable.not_not] at hn
    obtain ⟨hn1,rfl⟩:=hn
    split at h
    · rename_i k1 hk1
      split at h
      · cases h
      rename_i hnz
      simp only [Option.map_eq_some_iff] at h
      obtain ⟨k2,hk2,rfl⟩:=h
      obtain ⟨b1,b2,h1,h2,rfl⟩:=eqFlatV_append hb
      obtain ⟨td,hu⟩:=flatT_under hk1
      have hsz:=flatT_size hk1
      have hlen:=eqFlatV_len hb
      simp only [List.length_append,List.length_drop] at hlen
      have p1:=run_part (P:=P) (w:=w) f.type hu (info_of_underlying hu) xs f.offset (by rw [hsz]; omega)
      have p2:=run_part (P:=P) (w:=w) f.type hu (info_of_underlying hu) ys f.offset (by rw [hsz]; omega)
      rw [hsz] at p1 p2
      have q:=ih _ _ hk1 _ _ _ h1
      have rest:=run_fields ih r _ _ hk2 xs ys b2 (by simpa [List.drop_drop] using h2)
      simp only [Op.eqFields,ne_eq,hn1,not_false_eq_true,if_true,Sem.run_bind,p1,p2,q,Result.andThen_ok]
      cases b1
      · simp
      · simpa using rest
    · cases h
theorem run_items {d D : Nat} {e : TypeId} {k1 : List SK} (hk : flatT P d e = some k1) (hc : P.cellsOf e = k1.length) (hnz : k1.length ≠ 0)
    (ih : ∀ (xs ys : List Value) (b : Bool),eqFlatV k1 xs ys = some b → (Op.equalIn D e (toV P e xs) (toV P e ys)).run P w = .ok b w) (xs ys : List Value) :
    ∀ (n i : Nat) (b : Bool),eqFlatV (List.replicate n k1).flatten (xs.drop (i * k1.length)) (ys.drop (i * k1.length)) = some b →
      (Op.eqItems D e (P.cellsOf e) xs.toArray ys.toArray (List.range' i n)).run P w = .ok b w
  | 0,i,b,hb =>by
    have:=eqFlatV_len hb
    have e1 : xs.drop (i * k1.length) = []:=List.eq_nil_of_length_eq_zero (by simpa using this.1)
    have e2 : ys.drop (i * k1.length) = []:=List.eq_nil_of_length_eq_zero (by simpa using this.2)
    rw [e1,e2] at hb
    simp [eqFlatV] at hb
    subst hb
    simp [Op.eqItems]
  | n + 1,i,b,hb =>by
    rw [List.replicate_succ,List.flatten_cons] at hb
    obtain ⟨b1,b2,h1,h2,rfl⟩:=eqFlatV_append hb
    obtain ⟨td,hu⟩:=flatT_under hk
    have hsz:=flatT_size hk
    have hlen:=eqFlatV_len hb
    simp only [List.length_append,List.length_drop] at hlen
    have p1:=run_part (P:=P) (w:=w) e hu (info_of_underlying hu) xs (i * k1.length) (by rw [hsz]; omega)
    have p2:=run_part (P:=P) (w:=w) e hu (info_of_underlying hu) ys (i * k1.length) (by rw [hsz]; omega)
    rw [hsz] at p1 p2
    have q:=ih _ _ _ h1
    have rest:=run_items hk hc hnz ih xs ys n (i + 1) b2 (by simpa [List.drop_drop,Nat.add_mul] using h2)
    simp only [List.range'_succ,Op.eqItems,hc,Sem.run_bind,p1,p2,q,Result.andThen_ok]
    rw [hc] at rest
    cases b1
    · simp
    · simpa using rest
theorem run_equal_flat : ∀ (d : Nat) (t : TypeId) (ks : List SK),flatT P d t = some ks → ∀ (D : Nat),d ≤ D → ∀ (xs ys : List Value) (b : Bool),eqFlatV ks xs ys = some b →
    (Op.equalIn D t (toV P t xs) (toV P t ys)).run P w = .ok b w
  | 0,_,_,h,_,_,_,_,_,_ =>by simp [flatT] at h
  | d + 1,t,ks,h,D,hD,xs,ys,b,hb =>by
    obtain ⟨D,rfl⟩ : ∃ m,D = m + 1:=⟨D - 1,by omega⟩
    have ih:=fun t ks h =>run_equal_flat d t ks h D (by omega)
    have hh:=h
    simp only [flatT] at h
    split at h <;> (try (cases h; done))
    · rename_i hu
      simp only [Option.some.injEq] at h
      subst h
      obtain ⟨x,y,rfl,rfl,hs⟩:=eqFlatV_one hb
      simpa [toV,isAggT,hu] using eqScV_run (P:=P) (w:=w) (t:=t) hs (.inl ⟨hu,rfl⟩) D
    · rename_i i hu
      simp only [Option.some.injEq] at h
      subst h
      obtain ⟨x,y,rfl,rfl,hs⟩:=eqFlatV_one hb
      simpa [toV,isAggT,hu] using eqScV_run (P:=P) (w:=w) (t:=t) hs (.inr (.inl ⟨⟨i,hu⟩,rfl⟩)) D
    · rename_i hu
      simp only [Option.some.injEq] at h
      subst h
      obtain ⟨x,y,rfl,rfl,hs⟩:=eqFlatV_one hb
      simpa [toV,isAggT,hu] using eqScV_run (P:=P) (w:=w) (t:=t) hs (.inr (.inr ⟨hu,rfl⟩)) D
    · rename_i fs hu
      split at h
      · cases h
      rename_i hst
      split at h
      · rename_i k1 hk1
        split at h
        · simp only [Option.some.injEq] at h
          subst h
          have ht : P.underlying t = some (.struct (P.fieldsOf t)):=by simp [Program.fieldsOf,hu]
          have hf : P.fieldsOf t = fs:=by simp [Program.fieldsOf,hu]
          rw [show toV P t xs = .agg xs.toArray by simp [toV,isAggT,hu],show toV P t ys = .agg ys.toArray by simp [toV,isAggT,hu]]
          rw [run_equalIn_struct (P:=P) w D t _ _ ht (by simpa using hst),hf]
          exact run_fields ih fs.toList 0 k1 hk1 xs ys b (by simpa using hb)
        · cases h
      · cases h
    · rename_i n e hu
      split at h
      · rename_i k1 hk1
        split at h
        · rename_i hc
          simp only [Option.some.injEq] at h
          subst h
          rw [show toV P t xs = .agg xs.toArray by simp [toV,isAggT,hu],show toV P t ys = .agg ys.toArray by simp [toV,isAggT,hu]]
          obtain ⟨td,hue⟩:=flatT_under hk1
          obtain ⟨i,hi⟩:=Option.isSome_iff_exists.1 (info_of_underlying hue)
          rw [run_equalIn_array w D xs.toArray ys.toArray hu hi,List.range_eq_range']
          exact run_items hk1 hc.1 hc.2.2 (ih _ _ hk1) xs ys n 0 b (by simpa using hb)
        · cases h
      · cases h
theorem flat_guard : ∀ (d : Nat) (t : TypeId) (ks : List SK),flatT P d t = some ks → ∀ D,d ≤ D → P.eqGuardType D t = false
  | 0,_,_,h,_,_ =>by simp [flatT] at h
  | d + 1,t,ks,h,D,hD =>by
    obtain ⟨D,rfl⟩ : ∃ m,D = m + 1:=⟨D - 1,by omega⟩
    have ih:=fun t ks h =>flat_guard d t ks h D (by omega)
    simp only [flatT] at h
    split at h <;> (try (cases h; done)) <;> rename_i hu <;> simp only [Program.eqGuardType,hu]
    · split at h
      · cases h
      split at h
      · rename_i k1 hk1
        have key : ∀ (fs : List Field) (off : Nat) (ks : List SK), flatFs (flatT P d) fs off = some ks → fs.any (fun f => f.name != "_" && P.eqGuardType D f.type) = false := by
          intro fs
          induction fs with
          | nil =>intro _ _ _; rfl
          | cons f r ihf =>
            intro off ks h
            simp only [flatFs] at h
            split at h
            · cases h
            split at h
            · rename_i k1 hk1
              split at h
              · cases h
              simp only [Option.map_eq_some_iff] at h
              obtain ⟨k2,hk2,_⟩:=h
              simp [ih _ _ hk1]
              simpa using ihf _ _ hk2
            · cases h
        have:=key _ 0 k1 hk1
        rw [← Array.any_toList]
        exact this
      · cases h
    · split at h
      · rename_i k1 hk1
        exact ih _ _ hk1
      · cases h
end AH
set_option linter.unusedSimpArgs false
namespace AH
open Go
variable {S : Sys} {eb : Nat → Addr} {φ : Emb} {M : Nat → Option Blk} {own : Nat → Prop} {w : World} {ρ : Operand → Value} {f : Opd → AV} {o : Oper} {fresh : Nat} {p : Prop} {e : Eff}
def EqRun (S : Sys) (w : World) (t : TypeId) (x y : Operand) (a b : Value) (r : Bool) : Prop :=
  (binOp .eql t a b).run S.P w = .ok (.bool r) w ∧ (binOp .neq t a b).run S.P w = .ok (.bool !r) w ∧ ∀ op,(eqGuard op t x y a b).run S.P w = .ok () w
theorem eqGuard_other (op : BinOp) (t : TypeId) (x y : Operand) (a b : Value) (h1 : a = .nilIface → b ≠ .nilIface) (h2 : ∀ cs ds,a = .agg cs → b ≠ .agg ds) : (eqGuard op t x y a b).run S.P w = .ok () w:=by
  cases op <;> first
    | rfl
    | (cases a <;> first | rfl | (cases b <;> first | rfl | exact absurd rfl (h1 rfl) | exact absurd rfl (h2 _ _ rfl)))
theorem eqGuard_nil (op : BinOp) (t : TypeId) (x y : Operand) (h : isConst x || isConst y) : (eqGuard op t x y .nilIface .nilIface).run S.P w = .ok () w:=by
  cases op <;> first
    | rfl
    | (cases x <;> cases y <;> simp [isConst] at h <;> rfl)
theorem eqGuard_agg (op : BinOp) (t : TypeId) (x y : Operand) (a b : Array Value) (h : S.P.eqGuardType S.P.depth t = false) : (eqGuard op t x y (.agg a) (.agg b)).run S.P w = .ok () w :=
  run_eqGuard_agg w op t x y a b h
theorem EqRun.of {t : TypeId} {x y : Operand} {u v : Value} {r : Bool} (hE : ∀ D,(Op.equalIn (D + 1) t u v).run S.P w = .ok r w)
    (h1 : binOp .eql t u v = (do pure (.bool (← Op.equal t u v)))) (h2 : binOp .neq t u v = (do pure (.bool (!(← Op.equal t u v))))) (hg : ∀ op,(eqGuard op t x y u v).run S.P w = .ok () w) : EqRun S w t x y u v r:=by
  have:=hE 9999
  refine ⟨?_,?_,hg⟩
  · rw [h1]; simp only [Op.equal,Op.maxDepth,Sem.run_bind,this,Result.andThen_ok,Sem.run_pure]
  · rw [h2]; simp only [Op.equal,Op.maxDepth,Sem.run_bind,this,Result.andThen_ok,Sem.run_pure]
def isKind : EqK → TypeDesc → Bool
  | .bool,.bool =>true
  | .ptr,.pointer _ =>true
  | .iface,.interface _ =>true
  | .slice,.slice _ =>true
  | .map,.map _ _ =>true
  | .func,.func _ _ _ =>true
  | .flat _,.struct _ =>true
  | .flat _,.array _ _ =>true
  | _,_ =>false
theorem eqKind_is {k : EqK} {t : TypeId} (hk : eqKind S.P t = some k) : ∃ td,S.P.underlying t = some td ∧ isKind k td = true:=by
  unfold eqKind at hk
  split at hk
  all_goals (try (simp only [Option.map_eq_some_iff,Option.some.injEq,reduceCtorEq] at hk))
  all_goals (try (split at hk <;> simp only [Option.some.injEq,reduceCtorEq] at hk))
  all_goals first
    | (subst hk; exact ⟨_,by assumption,rfl⟩)
    | (obtain ⟨ks,_,rfl⟩:=hk; exact ⟨_,by assumption,rfl⟩)
set_option maxHeartbeats 2000000 in
theorem eqAV_run {k : EqK} {t : TypeId} (hk : eqKind S.P t = some k) {x y : Operand} {a b : AV} {u v : Value} (ha : VR S.errT eb φ a u) (hb : VR S.errT eb φ b v) {r : Prop × Bool}
    (h : eqAV k (isConst x || isConst y) a b = some r) (hr : r.1) : EqRun S w t x y u v r.2:=by
  have hd : 8 ≤ S.P.depth:=by simp only [Program.depth,Made.depth]; omega
  obtain ⟨td,hu,hkd⟩:=eqKind_is hk
  have flat : ∀ ks,k = .flat ks → flatT S.P 8 t = some ks:=by
    intro ks hks
    subst hks
    unfold eqKind at hk
    split at hk <;> (try (simp at hk; done)) <;> (try (split at hk <;> simp at hk; done)) <;> simp at hk <;> exact hk
  cases ha <;> cases hb <;> simp only [eqAV,reduceCtorEq] at h
  case agg.agg cs us h1 g1 ds vs h2 g2 =>
    split at h
    · rename_i ks
      simp only [Option.map_eq_some_iff] at h
      obtain ⟨b,hb,rfl⟩:=h
      have hf:=flat ks rfl
      have hv:=eqFlatV_of hb h1 h2
      have key:=run_equal_flat (P:=S.P) (w:=w) 8 t ks hf 10000 (by omega) _ _ _ hv
      have hg:=flat_guard (P:=S.P) 8 t ks hf S.P.depth hd
      have hag : isAggT S.P t = true:=by
        cases td <;> simp [isKind] at hkd <;> simp [isAggT,hu]
      simp only [toV,hag,if_true,Array.toArray_toList] at key
      refine ⟨?_,?_,fun op =>eqGuard_agg op t x y _ _ hg⟩
      · show ((Op.equalIn 10000 t _ _ >>= fun b =>pure (Value.bool b)) : Sem Value).run S.P w = _
        rw [Sem.run_bind,key]; rfl
      · show ((Op.equalIn 10000 t _ _ >>= fun b =>pure (Value.bool !b)) : Sem Value).run S.P w = _
        rw [Sem.run_bind,key]; rfl
    · cases h
  case nili.nili =>
    split at h <;> simp only [Option.some.injEq,reduceCtorEq] at h
    rename_i hc
    subst h
    obtain ⟨rfl,hc⟩:=hc
    cases td <;> simp only [isKind,Bool.false_eq_true] at hkd
    exact .of (fun D =>by simp [Op.equalIn,run_underlying hu]) rfl rfl fun op =>eqGuard_nil op t x y hc
  all_goals
    split at h <;> simp only [Option.some.injEq,reduceCtorEq] at h
    rename_i hq
    subst hq
    subst h
    cases td <;> simp only [isKind,Bool.false_eq_true] at hkd
    first
      | exact absurd rfl hr
      | exact .of (fun D =>by simp [Op.equalIn,run_underlying hu]) rfl rfl fun op =>eqGuard_other op t x y _ _ (by simp) (by simp)
theorem eq_ok {op : BinOp} {neg : Bool} (hop : op = bif neg then .neq else .eql) {k : EqK} {t t' : TypeId} (hk : eqKind S.P t = some k) {x y : Operand} {cx cy : Opd} (hx : cOpd x = some cx) (hy : cOpd y = some cy) (hρ : Rho S eb φ ρ f) (hM : MR S.errT eb φ M own w)
    (hs : bstep fresh M (.eq neg k (isConst x || isConst y) (f cx) (f cy)) = some (p,e)) (hp : p) (ho : o.op = .binOp op t x y t') : OpRes S eb φ own M fresh w e ((execOp ρ o).run S.P w):=by
  have vx:=hρ x cx hx
  have vy:=hρ y cy hy
  have fin : ∀ (r : Bool) (foot : List Nat),EqRun S w t x y (ρ x) (ρ y) r → OpRes S eb φ own M fresh w { val:=.bool (bif neg then !r else r),foot:=foot } ((execOp ρ o).run S.P w):=by
    intro r foot h
    obtain ⟨h1,h2,h3⟩:=h
    refine .quiet hM (u:=.bool (bif neg then !r else r)) ?_ (.bool _)
    cases neg
    · simp only [cond_false] at hop ⊢
      subst hop
      simp [execOp,ho,h1,h3]
    · simp only [cond_true] at hop ⊢
      subst hop
      simp [execOp,ho,h2,h3]
  simp only [bstep] at hs
  split at hs
  · rename_i r hr
    simp only [Option.some.injEq,Prod.mk.injEq] at hs
    obtain ⟨rfl,rfl⟩:=hs
    exact fin _ _ (eqAV_run hk vx vy hr hp)
  · split at hs
    · rename_i i a s j b s' h1 h2
      split at hs
      · rename_i ro kk es hrow
        split at hs
        · rename_i hc
          obtain ⟨rfl,rfl⟩:=hc
          simp only [Option.some.injEq,Prod.mk.injEq] at hs
          obtain ⟨rfl,rfl⟩:=hs
          obtain ⟨hkk,rfl,rfl⟩:=hp
          rw [h1] at vx
          rw [h2] at vy
          refine fin (a == b) [i] ?_
          cases hu : ρ x <;> rw [hu] at vx <;> cases vx
          cases hv : ρ y <;> rw [hv] at vy <;> cases vy
          obtain ⟨td,hut,hkd⟩:=eqKind_is hk
          cases td <;> simp only [isKind,Bool.false_eq_true] at hkd
          rename_i hdom _ elem
          have hrk : φ.k i = kk:=by
            unfold rowAt at hrow
            split at hrow <;> simp only [Option.some.injEq,Prod.mk.injEq,reduceCtorEq] at hrow
            rename_i ro' kk' es' hM'
            rw [hM.kk i _ _ _ hM']; exact hrow.2.1
          have hsz : ∃ i,S.P.info? elem = some i ∧ i.size ≠ 0:=by
            unfold eqKind at hk
            simp only [hut] at hk
            split at hk
            · cases hk
            · rename_i hne
              unfold Program.cellsOf at hne
              cases hi : S.P.info? elem with
              | none =>simp [hi] at hne
              | some i =>exact ⟨i,rfl,by simpa [hi] using hne⟩
          obtain ⟨inf,hinf,hnz⟩:=hsz
          have hab : (φ.base i + a * φ.k i + 0 = φ.base i + b * φ.k i + 0) ↔ a = b:=by
            constructor
            · intro h
              have : a * φ.k i = b * φ.k i:=by omega
              exact Nat.eq_of_mul_eq_mul_right (by omega) this
            · intro h; rw [h]
          refine .of (fun D => ?_) rfl rfl fun op =>eqGuard_other op t x y _ _ (by simp) (by simp)
          simp only [Op.equalIn,Sem.run_bind,run_underlying hut,Result.andThen_ok,Go.sizeOf,typeInfo,run_program,hinf,Sem.run_pure,ne_eq,hnz,not_false_eq_true,if_true]
          have hsame : ∀ (B o1 o2 : Nat),(sameAddr ⟨B,o1,none⟩ ⟨B,o2,none⟩).run S.P w = .ok (o1 == o2) w:=by
            intro B o1 o2
            simp only [sameAddr,beq_self_eq_true,if_true,Sem.run_pure]
            congr 1
            rw [Bool.eq_iff_iff]
            simp
          rw [hsame]
          congr 1
          rw [Bool.eq_iff_iff]
          simp only [beq_iff_eq]
          exact hab
        · cases hs
      · cases hs
    · cases hs
end AH
set_option linter.unusedSimpArgs false
namespace AH
open Go
variable {S : Sys} {eb : Nat → Addr} {φ : Emb} {M : Nat → Option Blk} {own : Nat → Prop} {w : World} {ρ : Operand → Value} {f : Opd → AV} {o : Oper} {fresh : Nat} {p : Prop} {e : Eff}
theorem sizeOf_run {t : TypeId} {i : TypeInfo} (h : S.P.info? t = some i) : (Go.sizeOf t).run S.P w = .ok (S.P.cellsOf t) w:=by
  simp [Go.sizeOf,typeInfo,h,Program.cellsOf]
theorem sizeOf_pos {t : TypeId} (h : S.P.cellsOf t ≠ 0) : (Go.sizeOf t).run S.P w = .ok (S.P.cellsOf t) w:=by
  cases hi : S.P.info? t with
  | none =>simp [Program.cellsOf,hi] at h
  | some i =>exact sizeOf_run hi
theorem same_ok {s d : TypeId} (h1 : S.P.underlying s = some .string) (h2 : S.P.underlying d = some .string) {x : Operand} {cx : Opd} (hx : cOpd x = some cx) (hρ : Rho S eb φ ρ f) (hM : MR S.errT eb φ M own w)
    (hs : bstep fresh M (.same (f cx)) = some (p,e)) (ho : o.op = .convert s d x) : OpRes S eb φ own M fresh w e ((execOp ρ o).run S.P w):=by
  have vx:=hρ x cx hx
  simp only [bstep] at hs
  split at hs
  · rename_i b hb
    rw [hb] at vx
    simp [pureE] at hs
    obtain ⟨_,rfl⟩:=hs
    cases hv : ρ x <;> rw [hv] at vx <;> cases vx
    refine .quiet hM (u:=.string b) ?_ (.str _)
    simp [execOp,ho,hv,convert,underlying,h1,h2]
  · cases hs
theorem mkifc_ok {t : TypeId} {td : TypeDesc} (h1 : S.P.underlying t = some td) (h2 : ∀ ms,td ≠ .interface ms) {x : Operand} {cx : Opd} (hx : cOpd x = some cx) (hρ : Rho S eb φ ρ f) (hM : MR S.errT eb φ M own w)
    (hs : bstep fresh M (.mkifc t (f cx)) = some (p,e)) (ho : o.op = .makeInterface t x) : OpRes S eb φ own M fresh w e ((execOp ρ o).run S.P w):=by
  have vx:=hρ x cx hx
  have hr : (execOp ρ o).run S.P w = .ok (.value (.iface t (ρ x))) w:=by
    simp only [execOp,ho,Instr.makeInterface,Sem.run_bind,run_underlying h1,Result.andThen_ok]
    cases td <;> first | rfl | exact absurd rfl (h2 _)
  simp only [bstep] at hs
  split at hs
  · cases hs
  · cases hs
  · simp [pureE] at hs
    obtain ⟨_,rfl⟩:=hs
    exact .quiet hM hr (.ifc _ _ _ vx)
theorem opds_vrs (hρ : Rho S eb φ ρ f) : ∀ {xs : List Operand} {cs : List Opd},xs.mapM cOpd = some cs → VRs S.errT eb φ (cs.map f) (xs.map ρ)
  | [],cs,h =>by simp at h; subst h; exact .nil
  | x :: xs,cs,h =>by
    rw [List.mapM_cons] at h
    simp only [bind,Option.bind_eq_some_iff,pure,Option.some.injEq] at h
    obtain ⟨c,hc,cs',hcs,rfl⟩:=h
    exact .cons _ _ _ _ (hρ x c hc) (opds_vrs hρ hcs)
theorem mkfn_ok {g : FuncId} {first cap : Array Operand} {cf cc : List Opd} (h1 : first.toList.mapM cOpd = some cf) (h2 : cap.toList.mapM cOpd = some cc) (hρ : Rho S eb φ ρ f) (hM : MR S.errT eb φ M own w)
    (hs : bstep fresh M (.mkfn g (cf.map f) (cc.map f)) = some (p,e)) (ho : o.op = .makeFunc (.func g) first cap) : OpRes S eb φ own M fresh w e ((execOp ρ o).run S.P w):=by
  simp [bstep,pureE] at hs
  obtain ⟨_,rfl⟩:=hs
  refine .quiet hM (u:=.func (.func g) (first.map ρ) (cap.map ρ)) (by simp [execOp,ho,Instr.makeFunc]) ?_
  exact .fn _ _ _ _ _ (by simpa using opds_vrs hρ h1) (by simpa using opds_vrs hρ h2)
theorem extract_ok {x : Operand} {cx : Opd} {i : Nat} (hx : cOpd x = some cx) (hρ : Rho S eb φ ρ f) (hM : MR S.errT eb φ M own w)
    (hs : bstep fresh M (.extract (f cx) i) = some (p,e)) (hp : p) (ho : o.op = .extract x i) : OpRes S eb φ own M fresh w e ((execOp ρ o).run S.P w):=by
  have vx:=hρ x cx hx
  simp only [bstep] at hs
  split at hs
  · rename_i vs hvs
    rw [hvs] at vx
    simp only [Option.some.injEq,Prod.mk.injEq] at hs
    obtain ⟨rfl,rfl⟩:=hs
    cases hv : ρ x <;> rw [hv] at vx <;> cases vx
    rename_i us h
    obtain ⟨u,hu,hr⟩:=h.get i (vs.getD i .undef) (by simp [List.getD,List.getElem?_eq_getElem hp])
    refine .quiet hM (u:=u) ?_ hr
    rw [Array.getElem?_toList] at hu
    simp [execOp,ho,hv,Instr.extract,hu]
  · cases hs
theorem AHpart_vr {agg : Bool} {n off : Nat} {cs : List AV} {us : List Value} (h : VRs S.errT eb φ cs us) (h1 : ∀ u ∈ us,u.oneCell' = true) (hl : off + n ≤ cs.length) (hn : agg = false → n = 1) :
    VR S.errT eb φ (part agg n off cs) (if agg then .agg ((us.drop off).take n).toArray else us.getD off undef):=by
  cases agg
  · have:=hn rfl
    subst this
    simp only [part,Bool.false_eq_true,if_false]
    obtain ⟨u,hu,hr⟩:=h.get off (cs.getD off .undef) (by simp [List.getD,List.getElem?_eq_getElem (show off < cs.length by omega)])
    simpa [List.getD,hu] using hr
  · simp only [part,if_true]
    refine .agg _ _ (by simpa using (h.drop off).take n) ?_
    intro u hu
    simp at hu
    exact h1 u (List.mem_of_mem_drop (List.mem_of_mem_take hu))
theorem agg_inv {cs : List AV} {u : Value} (h : VR S.errT eb φ (.agg cs) u) : ∃ us : Array Value,u = .agg us ∧ VRs S.errT eb φ cs us.toList ∧ ∀ x ∈ us.toList,x.oneCell' = true:=by
  cases h; rename_i us h h1; exact ⟨us,rfl,h1,h⟩
theorem slc_inv {id ix len : Nat} {cap : Option Nat} {u : Value} (h : VR S.errT eb φ (.slc id ix len cap) u) : φ.dom id ∧
    ((∃ c,u = .slice (some ⟨φ.blk id,φ.base id + ix * φ.k id,none⟩) len c ∧ len ≤ c ∧ (∀ c0,cap = some c0 → c = c0) ∧ φ.base id + (ix + c) * φ.k id ≤ φ.size id) ∨
     (∃ ad,u = .slice ad 0 0 ∧ len = 0 ∧ ∀ c0,cap = some c0 → c0 = 0)):=by
  cases h
  case slc c h he hs hc =>exact ⟨h,.inl ⟨c,rfl,by assumption,by assumption,by assumption⟩⟩
  case slc0 ad h he =>exact ⟨h,.inr ⟨ad,rfl,rfl,by assumption⟩⟩
theorem fld_ok {s : TypeId} {i : Nat} {fd : Field} (hf : fieldOf S.P s i = some fd) {td : TypeDesc} (htd : S.P.underlying fd.type = some td) {x : Operand} {cx : Opd} (hx : cOpd x = some cx) (hρ : Rho S eb φ ρ f) (hM : MR S.errT eb φ M own w)
    (hs : bstep fresh M (.fld (isAggT S.P fd.type) (bif isAggT S.P fd.type then S.P.cellsOf fd.type else 1) fd.offset (f cx)) = some (p,e)) (hp : p) (ho : o.op = .field s x i) : OpRes S eb φ own M fresh w e ((execOp ρ o).run S.P w):=by
  have vx:=hρ x cx hx
  simp only [bstep] at hs
  split at hs
  · rename_i cs hcs
    rw [hcs] at vx
    simp only [Option.some.injEq,Prod.mk.injEq] at hs
    obtain ⟨rfl,rfl⟩:=hs
    obtain ⟨us,hv,h,h1⟩:=agg_inv vx
    have hlen:=h.length
    have hp' : fd.offset + (if isAggT S.P fd.type then S.P.cellsOf fd.type else 1) ≤ us.toList.length:=by
      cases hag : isAggT S.P fd.type <;> simp [hag] at hp ⊢ <;> simp at hlen <;> omega
    have hr:=run_part (P:=S.P) (w:=w) fd.type htd (info_of_underlying htd) us.toList fd.offset hp'
    have hvr:=AHpart_vr (agg:=isAggT S.P fd.type) (n:=bif isAggT S.P fd.type then S.P.cellsOf fd.type else 1) (off:=fd.offset) h h1 hp (by intro hh; simp [hh])
    refine .quiet hM (u:=toV S.P fd.type ((us.toList.drop fd.offset).take (if isAggT S.P fd.type then S.P.cellsOf fd.type else 1))) ?_ ?_
    · unfold fieldOf at hf
      split at hf
      · rename_i fs hfs
        simp only [Array.toArray_toList] at hr
        simp only [execOp,ho,hv,Instr.field,Sem.run_bind,run_underlying hfs,Result.andThen_ok,hf,asAgg,Sem.run_pure,hr]
      · cases hf
    · cases hag : isAggT S.P fd.type
      · simp only [hag,cond_false,Bool.false_eq_true,if_false,toV] at hvr ⊢
        have : fd.offset < us.toList.length:=by simp [hag] at hp'; simp; omega
        simpa [List.getD,List.getElem?_take,List.getElem?_drop,List.getElem?_eq_getElem this] using hvr
      · simpa only [hag,cond_true,if_true,toV] using hvr
  · cases hs
theorem faddr_ok {s : TypeId} {i : Nat} {fd : Field} (hf : fieldOf S.P s i = some fd) (hz : S.P.cellsOf fd.type ≠ 0) {x : Operand} {cx : Opd} (hx : cOpd x = some cx) (hρ : Rho S eb φ ρ f) (hM : MR S.errT eb φ M own w)
    (hs : bstep fresh M (.faddr fd.offset (f cx)) = some (p,e)) (ho : o.op = .fieldAddr s x i) : OpRes S eb φ own M fresh w e ((execOp ρ o).run S.P w):=by
  have vx:=hρ x cx hx
  simp only [bstep] at hs
  split at hs
  · rename_i id ix sub hcs
    rw [hcs] at vx
    simp [pureE] at hs
    obtain ⟨_,rfl⟩:=hs
    cases hv : ρ x <;> rw [hv] at vx <;> cases vx
    rename_i hd
    refine .quiet hM (u:=.pointer (some ⟨φ.blk id,φ.base id + ix * φ.k id + (sub + fd.offset),none⟩)) ?_ (.ptr _ _ _ hd)
    unfold fieldOf at hf
    split at hf
    · rename_i fs hfs
      simp only [execOp,ho,hv,Instr.fieldAt,Instr.sureAddr,fieldPlace,Sem.run_bind,run_underlying hfs,Result.andThen_ok,hf,Sem.run_pure,sizeOf_pos hz,hz,if_false,add_lit]
      simp only [Nat.add_assoc]
    · cases hf
  · cases hs
theorem iaddrArr_ok {t : TypeId} {n : Nat} {el : TypeId} (ht : S.P.underlying t = some (.array n el)) (hz : S.P.cellsOf el ≠ 0) {x i : Operand} {cx ci : Opd} (hx : cOpd x = some cx) (hi : cOpd i = some ci) (hρ : Rho S eb φ ρ f) (hM : MR S.errT eb φ M own w)
    (hs : bstep fresh M (.iaddrArr n (S.P.cellsOf el) (f cx) (f ci)) = some (p,e)) (hp : p) (ho : o.op = .indexAddr t x i) : OpRes S eb φ own M fresh w e ((execOp ρ o).run S.P w):=by
  have vx:=hρ x cx hx
  have vi:=hρ i ci hi
  simp only [bstep] at hs
  split at hs
  · rename_i id ix sub k j h1 h2
    rw [h1] at vx
    rw [h2] at vi
    simp only [Option.some.injEq,Prod.mk.injEq] at hs
    obtain ⟨rfl,rfl⟩:=hs
    cases hv : ρ x <;> rw [hv] at vx <;> cases vx
    cases hv' : ρ i <;> rw [hv'] at vi <;> cases vi
    rename_i hd
    refine .quiet hM (u:=.pointer (some ⟨φ.blk id,φ.base id + ix * φ.k id + (sub + j.toNat * S.P.cellsOf el),none⟩)) ?_ (.ptr _ _ _ hd)
    simp only [execOp,ho,hv,hv',Instr.indexAt,Instr.sureAddr,asIntOf,Sem.run_bind,run_underlying ht,Result.andThen_ok,Sem.run_pure,hp,and_self,if_true,sizeOf_pos hz,add_lit]
    simp only [Nat.add_assoc]
  · cases hs
theorem rowAt_k (hM : MR S.errT eb φ M own w) {id : Nat} {ro : Bool} {k : Nat} {es : List (List AV)} (h : rowAt M id = some (ro,k,es)) : φ.k id = k ∧ M id = some (.row ro k es):=by
  unfold rowAt at h
  split at h <;> simp only [Option.some.injEq,Prod.mk.injEq,reduceCtorEq] at h
  rename_i ro' k' es' hm
  obtain ⟨rfl,rfl,rfl⟩:=h
  exact ⟨hM.kk id _ _ _ hm,hm⟩
theorem mapAt_m {id : Nat} {es : List (AV × AV × Nat)} {c : Nat} (h : mapAt M id = some (es,c)) : M id = some (.map es c):=by
  unfold mapAt at h
  split at h <;> simp only [Option.some.injEq,Prod.mk.injEq,reduceCtorEq] at h
  rename_i es' c' hm
  obtain ⟨rfl,rfl⟩:=h
  exact hm
theorem iaddrSl_ok {t : TypeId} {el : TypeId} (ht : S.P.underlying t = some (.slice el)) (hz : S.P.cellsOf el ≠ 0) {x i : Operand} {cx ci : Opd} (hx : cOpd x = some cx) (hi : cOpd i = some ci) (hρ : Rho S eb φ ρ f) (hM : MR S.errT eb φ M own w)
    (hs : bstep fresh M (.iaddrSl (S.P.cellsOf el) (f cx) (f ci)) = some (p,e)) (hp : p) (ho : o.op = .indexAddr t x i) : OpRes S eb φ own M fresh w e ((execOp ρ o).run S.P w):=by
  have vx:=hρ x cx hx
  have vi:=hρ i ci hi
  simp only [bstep] at hs
  split at hs
  · rename_i id ix len cap k j h1 h2
    rw [h1] at vx
    rw [h2] at vi
    split at hs
    · rename_i ro kk es hrow
      obtain ⟨hk,_⟩:=rowAt_k hM hrow
      split at hs
      · rename_i hke
        simp only [Option.some.injEq,Prod.mk.injEq] at hs
        obtain ⟨rfl,rfl⟩:=hs
        cases hv' : ρ i <;> rw [hv'] at vi <;> cases vi
        obtain ⟨hd,⟨c,hv,hc,he,hsz⟩ | ⟨ad,hv,hl0,_⟩⟩:=slc_inv vx
        · refine .quiet hM (u:=.pointer (some ⟨φ.blk id,φ.base id + (ix + j.toNat) * φ.k id + 0,none⟩)) ?_ (.ptr _ _ _ hd)
          simp only [execOp,ho,hv,hv',Instr.indexAt,asIntOf,Sem.run_bind,run_underlying ht,Result.andThen_ok,Sem.run_pure,hp,and_self,if_true,sizeOf_pos hz,add_lit]
          rw [hk,hke,Nat.add_mul]
          simp only [Nat.add_assoc,Nat.add_zero]
        · subst hl0; omega
      · cases hs
    · cases hs
  · rename_i id ix sub len k j h1 h2
    rw [h1] at vx
    rw [h2] at vi
    split at hs
    · rename_i he
      simp only [Option.some.injEq,Prod.mk.injEq] at hs
      obtain ⟨rfl,rfl⟩:=hs
      cases hv : ρ x <;> rw [hv] at vx <;> cases vx
      cases hv' : ρ i <;> rw [hv'] at vi <;> cases vi
      rename_i c hd hc
      refine .quiet hM (u:=.pointer (some ⟨φ.blk id,φ.base id + ix * φ.k id + (sub + j.toNat),none⟩)) ?_ (.ptr _ _ _ hd)
      simp only [execOp,ho,hv,hv',Instr.indexAt,asIntOf,Sem.run_bind,run_underlying ht,Result.andThen_ok,Sem.run_pure,hp,and_self,if_true,sizeOf_pos hz,add_lit]
      rw [he]
      simp only [Nat.add_assoc,Nat.mul_one]
    · cases hs
  · cases hs
theorem loadg_ok (hA : ∀ g ∈ S.errs,∃ et fr,w.heap[g]? = some (.cells #[.iface S.errT (.pointer (some (eb g)))] et fr)) {t g : Nat} (hg : S.errs.contains g = true) (ht : isAggT S.P t = false) {td : TypeDesc} (htd : S.P.underlying t = some td)
    (hρg : ρ (.global g) = .pointer (some ⟨g,0,none⟩)) (hM : MR S.errT eb φ M own w)
    (hs : bstep fresh M (.loadg g) = some (p,e)) (ho : o.op = .load t (.global g)) : OpRes S eb φ own M fresh w e ((execOp ρ o).run S.P w):=by
  simp [bstep,pureE] at hs
  obtain ⟨_,rfl⟩:=hs
  obtain ⟨et,fr,hw⟩:=hA g (by simpa using hg)
  refine .quiet hM (u:=.iface S.errT (.pointer (some (eb g)))) ?_ (.err g)
  have hc : w.cell? ⟨g,0,none⟩ = some (.iface S.errT (.pointer (some (eb g)))):=by simp [World.cell?,hw]
  simp only [execOp,ho,hρg,Instr.loadAt,Instr.sureAddr,loadVar,Sem.run_bind,run_isAgg_iff t htd,ht,Result.andThen_ok,Bool.false_eq_true,if_false,run_load,hc,Sem.run_pure]
theorem nilchk_ok {x : Operand} {cx : Opd} (hx : cOpd x = some cx) (hρ : Rho S eb φ ρ f) (hM : MR S.errT eb φ M own w)
    (hs : bstep fresh M (.nilchk (f cx)) = some (p,e)) (ho : o.op = .nilCheck x) : OpRes S eb φ own M fresh w e ((execOp ρ o).run S.P w):=by
  have vx:=hρ x cx hx
  simp only [bstep] at hs
  split at hs
  · rename_i id ix sub h1
    rw [h1] at vx
    simp [pureE] at hs
    obtain ⟨_,rfl⟩:=hs
    cases hv : ρ x <;> rw [hv] at vx <;> cases vx
    rename_i hd
    exact .quiet hM (by simp only [execOp,ho,hv]; rfl) (.ptr _ _ _ hd)
  · rename_i g a b h1
    rw [h1] at vx
    simp [pureE] at hs
    obtain ⟨_,rfl⟩:=hs
    cases hv : ρ x <;> rw [hv] at vx <;> cases vx
    rename_i fs cs h1 h2
    exact .quiet hM (by simp only [execOp,ho,hv]; rfl) (.fn _ _ _ _ _ h1 h2)
  · cases hs
end AH
set_option linter.unusedSimpArgs false
namespace AH
open Go
variable {S : Sys} {eb : Nat → Addr} {φ : Emb} {M : Nat → Option Blk} {own : Nat → Prop} {w : World} {ρ : Operand → Value} {f : Opd → AV} {o : Oper} {fresh : Nat} {p : Prop} {e : Eff}
theorem int_inv {k : IntKind} {n : Int} {u : Value} (h : VR S.errT eb φ (.int k n) u) : u = .int k n:=by cases h; rfl
theorem str_inv {s : ByteArray} {u : Value} (h : VR S.errT eb φ (.str s) u) : u = .string s:=by cases h; rfl
theorem ptr_inv {id ix sub : Nat} {u : Value} (h : VR S.errT eb φ (.ptr id ix sub) u) : φ.dom id ∧ u = .pointer (some ⟨φ.blk id,φ.base id + ix * φ.k id + sub,none⟩):=by cases h; exact ⟨by assumption,rfl⟩
theorem isl_inv {id ix sub len : Nat} {u : Value} (h : VR S.errT eb φ (.isl id ix sub len) u) : φ.dom id ∧ ∃ c,len ≤ c ∧ u = .slice (some ⟨φ.blk id,φ.base id + ix * φ.k id + sub,none⟩) len c:=by cases h; exact ⟨by assumption,_,by assumption,rfl⟩
theorem map_inv {id : Nat} {u : Value} (h : VR S.errT eb φ (.map id) u) : φ.dom id ∧ u = .map (some (φ.blk id)):=by cases h; exact ⟨by assumption,rfl⟩
theorem nils_inv {u : Value} (h : VR S.errT eb φ .nils u) : u = .slice none 0 0:=by cases h; rfl
theorem nilm_inv {u : Value} (h : VR S.errT eb φ .nilm u) : u = .map none:=by cases h; rfl
theorem idxArr_ok {t : TypeId} {n : Nat} {el : TypeId} (ht : S.P.underlying t = some (.array n el)) {td : TypeDesc} (hel : S.P.underlying el = some td) (hsz : isAggT S.P el = false → S.P.cellsOf el = 1) {x i : Operand} {cx ci : Opd} (hx : cOpd x = some cx) (hi : cOpd i = some ci) (hρ : Rho S eb φ ρ f) (hM : MR S.errT eb φ M own w)
    (hs : bstep fresh M (.idxArr n (isAggT S.P el) (S.P.cellsOf el) (f cx) (f ci)) = some (p,e)) (hp : p) (ho : o.op = .index t x i) : OpRes S eb φ own M fresh w e ((execOp ρ o).run S.P w):=by
  have vx:=hρ x cx hx
  have vi:=hρ i ci hi
  simp only [bstep] at hs
  split at hs
  · rename_i cs k j h1 h2
    rw [h1] at vx
    rw [h2] at vi
    simp only [Option.some.injEq,Prod.mk.injEq] at hs
    obtain ⟨rfl,rfl⟩:=hs
    obtain ⟨us,hv,h,h1⟩:=agg_inv vx
    have hv':=int_inv vi
    obtain ⟨hp1,hp2,hp3⟩:=hp
    have hlen:=h.length
    obtain ⟨inf,hinf⟩:=Option.isSome_iff_exists.1 (info_of_underlying hel)
    have hcz : S.P.cellsOf el = if isAggT S.P el then S.P.cellsOf el else 1:=by
      cases hag : isAggT S.P el
      · simp [hsz hag]
      · simp
    have hfit : j.toNat * S.P.cellsOf el + S.P.cellsOf el ≤ us.toList.length:=by
      have : (j.toNat + 1) * S.P.cellsOf el ≤ n * S.P.cellsOf el:=Nat.mul_le_mul_right _ (by omega)
      rw [Nat.add_mul,Nat.one_mul] at this
      omega
    have hr:=run_part (P:=S.P) (w:=w) el hel (info_of_underlying hel) us.toList (j.toNat * S.P.cellsOf el) (by rw [← hcz]; exact hfit)
    have hvr:=AHpart_vr (agg:=isAggT S.P el) (n:=S.P.cellsOf el) (off:=j.toNat * S.P.cellsOf el) h h1 (by omega) hsz
    rw [← hcz] at hr
    refine .quiet hM (u:=toV S.P el ((us.toList.drop (j.toNat * S.P.cellsOf el)).take (S.P.cellsOf el))) ?_ ?_
    · simp only [Array.toArray_toList] at hr
      simp only [execOp,ho,hv,hv',Instr.index,asIntOf,Sem.run_bind,run_underlying ht,Result.andThen_ok,Sem.run_pure,hp1,hp2,and_self,if_true,sizeOf_run hinf,hr]
    · cases hag : isAggT S.P el
      · simp only [hag,Bool.false_eq_true,if_false,toV] at hvr ⊢
        have h1':=hsz hag
        rw [h1'] at hfit hvr ⊢
        have : j.toNat * 1 < us.toList.length:=by omega
        simpa [List.getD,List.getElem?_take,List.getElem?_drop,List.getElem?_eq_getElem this] using hvr
      · simpa only [hag,if_true,toV] using hvr
  · cases hs
theorem idxStr_ok {t : TypeId} (ht : S.P.underlying t = some .string) {x i : Operand} {cx ci : Opd} (hx : cOpd x = some cx) (hi : cOpd i = some ci) (hρ : Rho S eb φ ρ f) (hM : MR S.errT eb φ M own w)
    (hs : bstep fresh M (.idxStr (f cx) (f ci)) = some (p,e)) (hp : p) (ho : o.op = .index t x i) : OpRes S eb φ own M fresh w e ((execOp ρ o).run S.P w):=by
  have vx:=hρ x cx hx
  have vi:=hρ i ci hi
  simp only [bstep] at hs
  split at hs
  · rename_i s k j h1 h2
    rw [h1] at vx
    rw [h2] at vi
    simp only [Option.some.injEq,Prod.mk.injEq] at hs
    obtain ⟨rfl,rfl⟩:=hs
    have hv:=str_inv vx
    have hv':=int_inv vi
    obtain ⟨hp1,hp2⟩:=hp
    have hlt : j.toNat < s.size:=by omega
    have hget : s[j.toNat]? = some s[j.toNat]:=by simp [hlt]
    have hl : s.data.toList.getD j.toNat 0 = s[j.toNat]:=by
      have : j.toNat < s.data.toList.length:=by simpa using hlt
      simp [List.getD,List.getElem?_eq_getElem this]
      rfl
    rw [hl]
    refine .quiet hM (u:=.int .u8 (s[j.toNat]).toNat) ?_ (.int _ _)
    simp only [execOp,ho,hv,hv',Instr.index,asIntOf,Sem.run_bind,run_underlying ht,Result.andThen_ok,Sem.run_pure,hp1,if_true,hget]
  · cases hs
theorem run_len {x : Operand} {argT : Array TypeId} (ho : o.op = .call { callee:=.builtin .len,args:=#[x],argTypes:=argT }) {n : Int}
    (h : (Builtin.len_ argT o.type #[ρ x]).run S.P w = .ok (.int .i64 n) w) : (execOp ρ o).run S.P w = .ok (.value (.int .i64 n)) w:=by
  simp only [execOp,ho,resolve,invoke,builtin,Sem.run_bind,Sem.run_pure,Result.andThen_ok,List.map_toArray,List.map_cons,List.map_nil,h]
theorem lenArr_ok {t : TypeId} {n : Nat} (ht : (∃ el,S.P.underlying t = some (.array n el)) ∨ ∃ q el,S.P.underlying t = some (.pointer q) ∧ S.P.underlying q = some (.array n el)) {x : Operand} {argT : Array TypeId} (ha : argT[0]? = some t) (hM : MR S.errT eb φ M own w)
    (hs : bstep fresh M (.lenArr n) = some (p,e)) (ho : o.op = .call { callee:=.builtin .len,args:=#[x],argTypes:=argT }) : OpRes S eb φ own M fresh w e ((execOp ρ o).run S.P w):=by
  simp [bstep,pureE] at hs
  obtain ⟨_,rfl⟩:=hs
  refine .quiet hM (u:=.int .i64 n) ?_ (.int _ _)
  rcases ht with ⟨el,ht⟩ | ⟨q,el,h1,h2⟩
  · refine run_len ho ?_
    simp only [Builtin.len_,ha]
    simp only [List.getElem?_toArray,List.getElem?_cons_zero,Sem.run_bind,run_underlying ht,Result.andThen_ok]
    rfl
  · refine run_len ho ?_
    simp only [Builtin.len_,ha]
    simp only [List.getElem?_toArray,List.getElem?_cons_zero,Sem.run_bind,run_underlying h1,run_underlying h2,Result.andThen_ok]
    rfl
theorem ER.length {T : TypeId} : ∀ {es : List (AV × AV × Nat)} {us : List MapEntry},ER T eb φ es us → es.length = us.length
  | _,_,.nil =>rfl
  | _,_,.cons _ _ _ _ _ _ _ _ _ h =>by simp [h.length]
theorem MR.map (hM : MR S.errT eb φ M own w) {id : Nat} {es : List (AV × AV × Nat)} {c : Nat} (h : M id = some (.map es c)) : ∃ us,w.heap[φ.blk id]? = some (.map us c) ∧ ER S.errT eb φ es us.toList:=by
  obtain ⟨o,ho,us,rfl,hr⟩:=hM.blk id _ h trivial
  exact ⟨us,ho,hr⟩
theorem run_getObj_map {r : Nat} {us : Array MapEntry} {c : Nat} (h : w.heap[r]? = some (.map us c)) : (getObj r).run S.P w = .ok (.map us c) w:=by
  simp [getObj,Sem.run,h]
theorem len_ok {t : TypeId} {k : LK} (ht : (k = .str ∧ S.P.underlying t = some .string) ∨ (k = .sl ∧ ∃ el,S.P.underlying t = some (.slice el)) ∨ (k = .map ∧ ∃ a b,S.P.underlying t = some (.map a b))) {x : Operand} {cx : Opd} (hx : cOpd x = some cx) {argT : Array TypeId} (ha : argT[0]? = some t) (hρ : Rho S eb φ ρ f) (hM : MR S.errT eb φ M own w)
    (hs : bstep fresh M (.len k (f cx)) = some (p,e)) (ho : o.op = .call { callee:=.builtin .len,args:=#[x],argTypes:=argT }) : OpRes S eb φ own M fresh w e ((execOp ρ o).run S.P w):=by
  have vx:=hρ x cx hx
  have hb : ∃ v foot n,e = { val:=v,foot:=foot } ∧ v = .int .i64 n ∧ (Builtin.len_ argT o.type #[ρ x]).run S.P w = .ok (.int .i64 n) w ∧ ∃ td,S.P.underlying t = some td:=by
    generalize f cx = ax at *
    rcases ht with ⟨rfl,hu⟩ | ⟨rfl,el,hu⟩ | ⟨rfl,a,b,hu⟩
    · cases ax <;> simp [bstep,pureE] at hs
      obtain ⟨_,rfl⟩:=hs
      refine ⟨_,_,_,rfl,rfl,?_,_,hu⟩
      simp only [Builtin.len_,ha,str_inv vx]
      simp only [List.getElem?_toArray,List.getElem?_cons_zero,Sem.run_bind,run_underlying hu,Result.andThen_ok]
      rfl
    · cases ax <;> simp [bstep,pureE] at hs <;> obtain ⟨_,rfl⟩:=hs
      · refine ⟨_,_,_,rfl,rfl,?_,_,hu⟩
        simp only [Builtin.len_,ha,nils_inv vx]
        simp only [List.getElem?_toArray,List.getElem?_cons_zero,Sem.run_bind,run_underlying hu,Result.andThen_ok]
        rfl
      · refine ⟨_,_,_,rfl,rfl,?_,_,hu⟩
        obtain ⟨hd,⟨c,hv,_⟩ | ⟨ad,hv,rfl,_⟩⟩:=slc_inv vx <;>
        · simp only [Builtin.len_,ha,hv]
          simp only [List.getElem?_toArray,List.getElem?_cons_zero,Sem.run_bind,run_underlying hu,Result.andThen_ok]
          rfl
      · refine ⟨_,_,_,rfl,rfl,?_,_,hu⟩
        obtain ⟨hd,c,_,hv⟩:=isl_inv vx
        simp only [Builtin.len_,ha,hv]
        simp only [List.getElem?_toArray,List.getElem?_cons_zero,Sem.run_bind,run_underlying hu,Result.andThen_ok]
        rfl
    · cases ax <;> simp only [bstep,reduceCtorEq] at hs
      · simp [pureE] at hs
        obtain ⟨_,rfl⟩:=hs
        refine ⟨_,_,_,rfl,rfl,?_,_,hu⟩
        simp only [Builtin.len_,ha,nilm_inv vx]
        simp only [List.getElem?_toArray,List.getElem?_cons_zero,Sem.run_bind,run_underlying hu,Result.andThen_ok]
        rfl
      · split at hs
        · rename_i es c hm
          simp only [Option.some.injEq,Prod.mk.injEq] at hs
          obtain ⟨_,rfl⟩:=hs
          obtain ⟨us,h1,h2⟩:=hM.map (mapAt_m hm)
          refine ⟨_,_,_,rfl,rfl,?_,_,hu⟩
          simp only [Builtin.len_,ha,(map_inv vx).2]
          simp only [List.getElem?_toArray,List.getElem?_cons_zero,Sem.run_bind,run_underlying hu,run_getObj_map h1,Result.andThen_ok,goInt,Sem.run_pure,h2.length,Array.length_toList]
        · cases hs
  obtain ⟨v,foot,n,rfl,rfl,hr,td,htd⟩:=hb
  exact .quiet hM (run_len ho hr) (.int _ _)
theorem minmax_run (mx : Bool) : ∀ {v : AV} {l : List AV} {u : Value} {us : List Value} {r : AV},minmaxAV mx v l = some r → VR S.errT eb φ v u → VRs S.errT eb φ l us →
    ∃ x,((us.foldlM (if mx then Builtin.max2 else Builtin.min2) u) : Sem Value).run S.P w = .ok x w ∧ VR S.errT eb φ r x
  | v,[],u,us,r,h,hv,hl =>by
    cases hl
    cases v <;> simp [minmaxAV] at h <;> subst h <;> exact ⟨u,rfl,hv⟩
  | v,y :: l,u,us,r,h,hv,hl =>by
    cases hl
    rename_i u' us' h1 h2
    cases v <;> cases y <;> simp only [minmaxAV,reduceCtorEq] at h
    rename_i k a k' b
    split at h
    · rename_i hk
      subst hk
      have e1:=int_inv hv
      have e2:=int_inv h1
      subst e1 e2
      have:=minmax_run mx h (.int _ _) h2
      cases mx
      · simpa [List.foldlM_cons,Builtin.min2] using this
      · simpa [List.foldlM_cons,Builtin.max2] using this
    · cases h
theorem minmax_ok {mx : Bool} {args : Array Operand} {cs : List Opd} {argT : Array TypeId} (hc : args.toList.mapM cOpd = some cs) (hρ : Rho S eb φ ρ f) (hM : MR S.errT eb φ M own w)
    (hs : bstep fresh M (.minmax mx (cs.map f)) = some (p,e)) (ho : o.op = .call { callee:=.builtin (if mx then .max else .min),args:=args,argTypes:=argT }) : OpRes S eb φ own M fresh w e ((execOp ρ o).run S.P w):=by
  have hv:=opds_vrs hρ hc
  simp only [bstep] at hs
  split at hs
  · rename_i v l hl
    rw [hl] at hv
    simp only [Option.map_eq_some_iff,Prod.mk.injEq] at hs
    obtain ⟨r,hr,_,rfl⟩:=hs
    generalize hus : args.toList.map ρ = us at hv
    cases hv
    rename_i u us h1 h2
    obtain ⟨x,hx,hxr⟩:=minmax_run (w:=w) mx hr h1 h2
    refine .quiet hM (u:=x) ?_ hxr
    have hal : (args.map ρ).toList = u :: us:=by simpa using hus
    cases mx
    · simp only [Bool.false_eq_true,if_false] at ho hx
      simp only [execOp,ho,resolve,invoke,builtin,Builtin.min_,Sem.run_bind,Sem.run_pure,Result.andThen_ok,hal,hx]
    · simp only [if_true] at ho hx
      simp only [execOp,ho,resolve,invoke,builtin,Builtin.max_,Sem.run_bind,Sem.run_pure,Result.andThen_ok,hal,hx]
  · cases hs
end AH
set_option linter.unusedSimpArgs false
namespace AH
open Go
variable {S : Sys} {eb : Nat → Addr} {φ : Emb} {M : Nat → Option Blk} {own : Nat → Prop} {w : World} {ρ : Operand → Value} {f : Opd → AV} {o : Oper} {fresh : Nat} {p : Prop} {e : Eff}
theorem bound_run {d : Nat} {x : Option Operand} {cx : Option Opd} (hx : oOpd x = some cx) (hρ : Rho S eb φ ρ f) {n : Int} (h : bound d (cx.map f) = some n) :
    (x = none ∧ n = d) ∨ ∃ k,x.map ρ = some (.int k n):=by
  cases x with
  | none =>simp [oOpd] at hx; subst hx; simp [bound] at h; exact .inl ⟨rfl,h.symm⟩
  | some y =>
    simp only [oOpd,Option.map_eq_some_iff] at hx
    obtain ⟨c,hc,rfl⟩:=hx
    simp only [Option.map_some] at h
    have hv:=hρ y c hc
    generalize f c = ac at *
    cases ac <;> simp [bound] at h
    subst h
    exact .inr ⟨_,by rw [Option.map_some,int_inv hv]⟩
theorem sliceBound_run {k : IntKind} {i : Int} {y : Nat} {code : BoundsCode} (h0 : 0 ≤ i) (h1 : i ≤ y) : (Instr.sliceBound (.int k i) y code).run S.P w = .ok i.toNat w:=by
  simp [Instr.sliceBound,asIntOf,h0,h1]
theorem sliceBounds_run {isS : Bool} {len cap : Nat} {lo hi : Option Value} {l h : Int} (hl : (lo = none ∧ l = 0) ∨ ∃ k,lo = some (.int k l)) (hh : (hi = none ∧ h = len) ∨ ∃ k,hi = some (.int k h))
    (b0 : 0 ≤ l) (b1 : l ≤ h) (b2 : h ≤ cap) : (Instr.sliceBounds isS len cap lo hi none).run S.P w = .ok (l.toNat,h.toNat,cap) w:=by
  have hb1 : ∀ k c,(Instr.sliceBound (.int k h) cap c).run S.P w = .ok h.toNat w:=fun k c =>sliceBound_run (by omega) b2
  have hb2 : ∀ k c,(Instr.sliceBound (.int k l) h.toNat c).run S.P w = .ok l.toNat w:=fun k c =>sliceBound_run b0 (by omega)
  rcases hl with ⟨rfl,rfl⟩ | ⟨k,rfl⟩ <;> rcases hh with ⟨rfl,rfl⟩ | ⟨k',rfl⟩
  · simp [Instr.sliceBounds]
  · simp [Instr.sliceBounds,hb1]
  · have:=hb2 k .sliceB
    simp only [Int.toNat_natCast] at this
    simp [Instr.sliceBounds,this]
  · simp [Instr.sliceBounds,hb1,hb2]
theorem sliceBounds_run3 {isS : Bool} {len cap : Nat} {lo : Option Value} {l h m : Int} (hl : (lo = none ∧ l = 0) ∨ ∃ k,lo = some (.int k l)) {k' k'' : IntKind}
    (b0 : 0 ≤ l) (b1 : l ≤ h) (b2 : h ≤ m) (b3 : m ≤ cap) : (Instr.sliceBounds isS len cap lo (some (.int k' h)) (some (.int k'' m))).run S.P w = .ok (l.toNat,h.toNat,m.toNat) w:=by
  have hb0 : ∀ c,(Instr.sliceBound (.int k'' m) cap c).run S.P w = .ok m.toNat w:=fun c =>sliceBound_run (by omega) b3
  have hb1 : ∀ c,(Instr.sliceBound (.int k' h) m.toNat c).run S.P w = .ok h.toNat w:=fun c =>sliceBound_run (by omega) (by omega)
  have hb2 : ∀ k c,(Instr.sliceBound (.int k l) h.toNat c).run S.P w = .ok l.toNat w:=fun k c =>sliceBound_run b0 (by omega)
  rcases hl with ⟨rfl,rfl⟩ | ⟨k,rfl⟩
  · simp [Instr.sliceBounds,hb0,hb1]
  · simp [Instr.sliceBounds,hb0,hb1,hb2]
theorem sliceStr_ok {t : TypeId} (ht : S.P.underlying t = some .string) {x : Operand} {lo hi : Option Operand} {cx : Opd} {cl ch : Option Opd} (hx : cOpd x = some cx) (hl : oOpd lo = some cl) (hh : oOpd hi = some ch) (hρ : Rho S eb φ ρ f) (hM : MR S.errT eb φ M own w)
    (hs : bstep fresh M (.sliceStr (f cx) (cl.map f) (ch.map f)) = some (p,e)) (hp : p) (ho : o.op = .slice t x lo hi none) : OpRes S eb φ own M fresh w e ((execOp ρ o).run S.P w):=by
  have vx:=hρ x cx hx
  simp only [bstep] at hs
  split at hs
  · rename_i s h1
    rw [h1] at vx
    have hv:=str_inv vx
    split at hs
    · rename_i l h e1 e2
      simp only [Option.some.injEq,Prod.mk.injEq] at hs
      obtain ⟨rfl,rfl⟩:=hs
      obtain ⟨b0,b1,b2⟩:=hp
      have hb:=sliceBounds_run (S:=S) (w:=w) (isS:=false) (len:=s.size) (cap:=s.size) (lo:=lo.map ρ) (hi:=hi.map ρ) (l:=l) (h:=h)
        (by rcases bound_run hl hρ e1 with ⟨rfl,h⟩ | h; exact .inl ⟨rfl,by simpa using h⟩; exact .inr h) (by rcases bound_run hh hρ e2 with ⟨rfl,h⟩ | h; exact .inl ⟨rfl,h⟩; exact .inr h) b0 b1 b2
      refine .quiet hM (u:=.string (s.extract l.toNat h.toNat)) ?_ (.str _)
      simp only [execOp,ho,hv,Instr.sliceAt,Instr.slice,Sem.run_bind,run_underlying ht,Result.andThen_ok,Option.map_none,Option.isSome_none,Bool.false_eq_true,if_false,hb,Sem.run_pure]
    · cases hs
  · cases hs
theorem sliceArr_ok {t : TypeId} {n : Nat} {el : TypeId} (ht : S.P.underlying t = some (.array n el)) {x : Operand} {lo hi : Option Operand} {cx : Opd} {cl ch : Option Opd} (hx : cOpd x = some cx) (hl : oOpd lo = some cl) (hh : oOpd hi = some ch) (hρ : Rho S eb φ ρ f) (hM : MR S.errT eb φ M own w)
    (hs : bstep fresh M (.sliceArr n (S.P.cellsOf el) (f cx) (cl.map f) (ch.map f)) = some (p,e)) (hp : p) (ho : o.op = .slice t x lo hi none) : OpRes S eb φ own M fresh w e ((execOp ρ o).run S.P w):=by
  have vx:=hρ x cx hx
  simp only [bstep] at hs
  split at hs
  · rename_i id ix sub l h h1 e1 e2
    rw [h1] at vx
    obtain ⟨hd,hv⟩:=ptr_inv vx
    split at hs
    · rename_i ro kk es hrow
      split at hs
      · rename_i hke
        simp only [Option.some.injEq,Prod.mk.injEq] at hs
        obtain ⟨rfl,rfl⟩:=hs
        obtain ⟨b0,b1,b2,b3,b4,b5⟩:=hp
        have hb:=sliceBounds_run (S:=S) (w:=w) (isS:=false) (len:=n) (cap:=n) (lo:=lo.map ρ) (hi:=hi.map ρ) (l:=l) (h:=h)
          (by rcases bound_run hl hρ e1 with ⟨rfl,h⟩ | h; exact .inl ⟨rfl,by simpa using h⟩; exact .inr h) (by rcases bound_run hh hρ e2 with ⟨rfl,h⟩ | h; exact .inl ⟨rfl,h⟩; exact .inr h) b0 b1 b2
        have hne : ¬ n = l.toNat:=by omega
        refine .quiet hM (u:=.slice (some ⟨φ.blk id,φ.base id + ix * φ.k id + (sub + l.toNat),none⟩) (h.toNat - l.toNat) (n - l.toNat)) ?_ (.isl _ _ _ _ _ hd (by omega))
        have hz : (Go.sizeOf el).run S.P w = .ok (S.P.cellsOf el) w:=sizeOf_pos (by omega)
        simp only [execOp,ho,hv,Instr.sliceAt,Instr.sureAddr,Sem.run_bind,run_underlying ht,Result.andThen_ok,Sem.run_pure,Option.map_none,hb,hz,hne,if_false,add_lit,hke,Nat.mul_one,Nat.add_assoc]
      · cases hs
    · cases hs
  · cases hs
theorem slice_ok {t : TypeId} {el : TypeId} (ht : S.P.underlying t = some (.slice el)) {x : Operand} {lo hi mx : Option Operand} {cx : Opd} {cl ch cm : Option Opd} (hx : cOpd x = some cx) (hl : oOpd lo = some cl) (hh : oOpd hi = some ch) (hm : oOpd mx = some cm) (hρ : Rho S eb φ ρ f) (hM : MR S.errT eb φ M own w) (hz : S.P.cellsOf el ≠ 0)
    (hs : bstep fresh M (.slice (S.P.cellsOf el) (f cx) (cl.map f) (ch.map f) (cm.map f)) = some (p,e)) (hp : p) (ho : o.op = .slice t x lo hi mx) : OpRes S eb φ own M fresh w e ((execOp ρ o).run S.P w):=by
  have vx:=hρ x cx hx
  have hsz : (Go.sizeOf el).run S.P w = .ok (S.P.cellsOf el) w:=sizeOf_pos hz
  have shape : ∀ {a : Option Addr} {len cap : Nat} {l h m : Nat},ρ x = .slice a len cap → (Instr.sliceBounds true len cap (lo.map ρ) (hi.map ρ) (mx.map ρ)).run S.P w = .ok (l,h,m) w →
      (execOp ρ o).run S.P w = .ok (.value (.slice (if m = l then a else a.map (·.add (l * S.P.cellsOf el))) (h - l) (m - l))) w:=by
    intro a len cap l h m hv hb
    simp only [execOp,ho,hv,Instr.sliceAt,Instr.slice,Sem.run_bind,run_underlying ht,Result.andThen_ok,hb,hsz,Sem.run_pure]
  simp only [bstep] at hs
  split at hs
  · rename_i id ix len cap h1
    rw [h1] at vx
    obtain ⟨hd,hv⟩:=slc_inv vx
    split at hs
    · rename_i ro kk es hrow
      obtain ⟨hk,_⟩:=rowAt_k hM hrow
      split at hs
      · rename_i hke
        split at hs
        · rename_i hcm
          have hmx : mx = none:=by
            cases mx with
            | none =>rfl
            | some y =>
              simp only [oOpd,Option.map_eq_some_iff] at hm
              obtain ⟨c,_,rfl⟩:=hm
              simp at hcm
          subst hmx
          split at hs
          · rename_i l h e1 e2
            simp only [Option.some.injEq,Prod.mk.injEq] at hs
            obtain ⟨rfl,rfl⟩:=hs
            obtain ⟨b0,b1,b2⟩:=hp
            have hbl:=bound_run hl hρ e1
            have hbh:=bound_run hh hρ e2
            have hbl' : (lo.map ρ = none ∧ l = 0) ∨ ∃ k,lo.map ρ = some (.int k l):=by
              rcases hbl with ⟨rfl,h⟩ | h
              · exact .inl ⟨rfl,by simpa using h⟩
              · exact .inr h
            have hbh' : (hi.map ρ = none ∧ h = len) ∨ ∃ k,hi.map ρ = some (.int k h):=by
              rcases hbh with ⟨rfl,h⟩ | h
              · exact .inl ⟨rfl,h⟩
              · exact .inr h
            rcases hv with ⟨c,hv,hc,he,hs'⟩ | ⟨ad,hv,hl0,he⟩
            · have hb:=sliceBounds_run (S:=S) (w:=w) (isS:=true) (len:=len) (cap:=c) hbl' hbh' b0 b1 (by omega)
              have hr:=shape hv hb
              by_cases hcl : c = l.toNat
              · rw [if_pos hcl] at hr
                have hhl : h.toNat - l.toNat = 0:=by omega
                rw [hhl,hcl,Nat.sub_self] at hr
                refine .quiet hM hr ?_
                rw [hhl]
                refine .slc0 _ _ _ _ hd ?_
                intro c0 hc0
                simp only [Option.map_eq_some_iff] at hc0
                obtain ⟨c1,hc1,rfl⟩:=hc0
                have:=he c1 hc1
                omega
              · rw [if_neg hcl,Option.map_some,add_lit] at hr
                refine .quiet hM hr ?_
                have e3 : φ.base id + ix * φ.k id + l.toNat * S.P.cellsOf el = φ.base id + (ix + l.toNat) * φ.k id:=by rw [hk,hke,Nat.add_mul,Nat.add_assoc]
                rw [e3]
                refine .slc _ _ _ _ _ hd (by omega) ?_ ?_
                · intro c0 hc0
                  simp only [Option.map_eq_some_iff] at hc0
                  obtain ⟨c1,hc1,rfl⟩:=hc0
                  rw [he c1 hc1]
                · rw [show ix + l.toNat + (c - l.toNat) = ix + c by omega]; exact hs'
            · subst hl0
              have hb:=sliceBounds_run (S:=S) (w:=w) (isS:=true) (len:=0) (cap:=0) hbl' hbh' b0 b1 (by omega)
              have hr:=shape hv hb
              have z1 : l.toNat = 0:=by omega
              have z2 : h.toNat = 0:=by omega
              rw [z1,z2] at hr ⊢
              simp only [if_true,Nat.sub_zero] at hr ⊢
              refine .quiet hM hr (.slc0 _ _ _ _ hd ?_)
              intro c0 hc0
              simp only [Option.map_eq_some_iff] at hc0
              obtain ⟨c1,hc1,rfl⟩:=hc0
              have:=he c1 hc1
              omega
          · cases hs
        · rename_i m' hcm
          split at hs
          · rename_i l h m e1 e2 e3
            simp only [Option.some.injEq,Prod.mk.injEq] at hs
            obtain ⟨rfl,rfl⟩:=hs
            obtain ⟨bs,b0,b1,b2,b3⟩:=hp
            have hbl:=bound_run hl hρ e1
            have hbh:=bound_run hh hρ e2
            have hbm:=bound_run (d:=0) hm hρ (n:=m) (by rw [hcm]; exact e3)
            have hbl' : (lo.map ρ = none ∧ l = 0) ∨ ∃ k,lo.map ρ = some (.int k l):=by
              rcases hbl with ⟨rfl,h⟩ | h
              · exact .inl ⟨rfl,by simpa using h⟩
              · exact .inr h
            obtain ⟨k1,hk1⟩ : ∃ k,hi.map ρ = some (.int k h):=by
              rcases hbh with ⟨rfl,_⟩ | h
              · simp only [oOpd,Option.some.injEq] at hh; subst hh; simp at bs
              · exact h
            obtain ⟨k2,hk2⟩ : ∃ k,mx.map ρ = some (.int k m):=by
              rcases hbm with ⟨rfl,_⟩ | h
              · simp only [oOpd,Option.some.injEq] at hm; subst hm; simp at hcm
              · exact h
            rcases hv with ⟨c,hv,hc,he,hs'⟩ | ⟨ad,hv,hl0,he⟩
            · have hb:=sliceBounds_run3 (S:=S) (w:=w) (isS:=true) (len:=len) (cap:=c) (k':=k1) (k'':=k2) hbl' b0 b1 b2 (by omega)
              rw [← hk1,← hk2] at hb
              have hr:=shape hv hb
              by_cases hcl : m.toNat = l.toNat
              · rw [if_pos hcl] at hr
                have hhl : h.toNat - l.toNat = 0:=by omega
                rw [hhl,hcl,Nat.sub_self] at hr
                refine .quiet hM hr ?_
                rw [hhl]
                refine .slc0 _ _ _ _ hd ?_
                intro c0 hc0
                simp only [Option.some.injEq] at hc0
                omega
              · rw [if_neg hcl,Option.map_some,add_lit] at hr
                refine .quiet hM hr ?_
                have e3 : φ.base id + ix * φ.k id + l.toNat * S.P.cellsOf el = φ.base id + (ix + l.toNat) * φ.k id:=by rw [hk,hke,Nat.add_mul,Nat.add_assoc]
                rw [e3]
                refine .slc _ _ _ _ _ hd (by omega) ?_ ?_
                · intro c0 hc0; simp only [Option.some.injEq] at hc0; exact hc0
                · refine Nat.le_trans (Nat.add_le_add_left (Nat.mul_le_mul_right _ ?_) _) hs'
                  omega
            · subst hl0
              have hb:=sliceBounds_run3 (S:=S) (w:=w) (isS:=true) (len:=0) (cap:=0) (k':=k1) (k'':=k2) hbl' b0 b1 b2 (by omega)
              rw [← hk1,← hk2] at hb
              have hr:=shape hv hb
              have z1 : l.toNat = 0:=by omega
              have z2 : h.toNat = 0:=by omega
              have z3 : m.toNat = 0:=by omega
              rw [z1,z2,z3] at hr
              simp only [if_true,Nat.sub_zero] at hr
              rw [z1,z2,z3]
              refine .quiet hM hr (.slc0 _ _ _ _ hd ?_)
              intro c0 hc0
              simp at hc0
              omega
          · cases hs
      · cases hs
    · cases hs
  · rename_i h1
    rw [h1] at vx
    have hv:=nils_inv vx
    split at hs
    · rename_i l h hcm e1 e2
      simp only [Option.some.injEq,Prod.mk.injEq] at hs
      obtain ⟨rfl,rfl⟩:=hs
      obtain ⟨rfl,rfl⟩:=hp
      have hmx : mx = none:=by
        cases mx with
        | none =>rfl
        | some y =>
          simp only [oOpd,Option.map_eq_some_iff] at hm
          obtain ⟨c,_,rfl⟩:=hm
          simp at hcm
      subst hmx
      have hbl:=bound_run hl hρ e1
      have hbh:=bound_run hh hρ e2
      have hb:=sliceBounds_run (S:=S) (w:=w) (isS:=true) (len:=0) (cap:=0) (lo:=lo.map ρ) (hi:=hi.map ρ) (l:=0) (h:=0)
        (by rcases hbl with ⟨rfl,_⟩ | h; exact .inl ⟨rfl,rfl⟩; exact .inr h) (by rcases hbh with ⟨rfl,_⟩ | h; exact .inl ⟨rfl,rfl⟩; exact .inr h) (by omega) (by omega) (by omega)
      have hr:=shape hv hb
      exact .quiet hM (by simpa using hr) .nils
    · cases hs
  · cases hs
end AH
set_option linter.unusedSimpArgs false
namespace AH
open Go
variable {S : Sys} {eb : Nat → Addr} {φ : Emb} {M : Nat → Option Blk} {own : Nat → Prop} {w : World} {ρ : Operand → Value} {f : Opd → AV} {o : Oper} {fresh : Nat} {p : Prop} {e : Eff}
theorem scalarV_vr {v : Value} {a : AV} (h : scalarV v = some a) : VR S.errT eb φ a v ∧ v.oneCell' = true:=by
  unfold scalarV at h
  split at h <;> simp only [Option.some.injEq,reduceCtorEq] at h <;> subst h <;> exact ⟨by constructor,rfl⟩
theorem scalarVs_vr : ∀ {vs : List Value} {as : List AV},vs.mapM scalarV = some as → VRs S.errT eb φ as vs ∧ ∀ v ∈ vs,v.oneCell' = true
  | [],as,h =>by simp at h; subst h; exact ⟨.nil,by simp⟩
  | v :: vs,as,h =>by
    rw [List.mapM_cons] at h
    simp only [bind,Option.bind_eq_some_iff,pure,Option.some.injEq] at h
    obtain ⟨c,hc,cs',hcs,rfl⟩:=h
    obtain ⟨h1,h2⟩:=scalarV_vr (S:=S) (eb:=eb) (φ:=φ) hc
    obtain ⟨g1,g2⟩:=scalarVs_vr hcs
    exact ⟨.cons _ _ _ _ h1 g1,fun x hx =>by simp at hx; rcases hx with rfl | hx; exact h2; exact g2 x hx⟩
theorem ofValue_vr {v : Value} {a : AV} (h : ofValue v = some a) : VR S.errT eb φ a v:=by
  unfold ofValue at h
  split at h
  · simp only [Option.map_eq_some_iff] at h
    obtain ⟨cs,hcs,rfl⟩:=h
    obtain ⟨h1,h2⟩:=scalarVs_vr (S:=S) (eb:=eb) (φ:=φ) hcs
    exact .agg _ _ h1 h2
  · split at h
    · split at h
      · rename_i first cap _ _ hz
        simp only [Option.some.injEq] at h
        subst h
        have e1 : first = #[]:=Array.eq_empty_of_size_eq_zero hz.1
        have e2 : cap = #[]:=Array.eq_empty_of_size_eq_zero hz.2
        subst e1 e2
        exact .fn _ _ _ _ _ .nil .nil
      · cases h
    · cases h
  · exact (scalarV_vr h).1
theorem zeroAV_run {t : TypeId} {a : AV} (h : zeroAV S.P t = some a) : ∃ z,(zeroValue t).run S.P w = .ok z w ∧ VR S.errT eb φ a z:=by
  simp only [zeroAV,bind,Option.bind_eq_some_iff] at h
  obtain ⟨i,hi,z,hz,ha⟩:=h
  exact ⟨z,by simp [zeroValue,typeInfo,hi,hz],ofValue_vr ha⟩
theorem zeroCells_run {t : TypeId} {cs : List AV} (h : zeroCells S.P t = some cs) : ∃ i z,S.P.info? t = some i ∧ i.zero = some z ∧ (zeroValue t).run S.P w = .ok z w ∧ VRs S.errT eb φ cs z.cells.toList ∧ (∀ u ∈ z.cells.toList,u.oneCell' = true) ∧ cs.length = S.P.cellsOf t ∧ z.cells.size = cs.length:=by
  simp only [zeroCells,bind,Option.bind_eq_some_iff] at h
  obtain ⟨i,hi,z,hz,cs',hcs,hl⟩:=h
  split at hl
  · rename_i hlen
    simp only [Option.some.injEq] at hl
    subst hl
    obtain ⟨h1,h2⟩:=scalarVs_vr (S:=S) (eb:=eb) (φ:=φ) hcs
    exact ⟨i,z,hi,hz,by simp [zeroValue,typeInfo,hi,hz],h1,h2,by simp [Program.cellsOf,hi,hlen],by have:=h1.length; simpa using this.symm⟩
  · cases hl
theorem br_new {n : Nat} {es : List (List AV)} {k : Nat} {arr : Array Value} {et : TypeId} (φ' : Emb) (h1 : φ'.k n = k) (h2 : φ'.base n = 0) (h3 : φ'.size n = arr.size) (hl : es.length * k ≤ arr.size)
    (hel : ∀ i e,es[i]? = some e → e.length = k ∧ CellsAt S.errT eb φ' arr (i * k) e) {ro : Bool} : BR S.errT eb φ' n (.row ro k es) (.cells arr et (0,0)) :=
  ⟨arr,et,(0,0),rfl,h1,h3.symm,by rw [h2,Nat.zero_add]; exact hl,fun _ p _ =>by simp,fun i e he =>by rw [h2,Nat.zero_add]; exact hel i e he⟩
theorem box_run (hM : MR S.errT eb φ M own w) (hk : ∀ b,w.heap.size ≤ b → own b) {v : AV} {u : Value} {t : TypeId} (hv : VR S.errT eb φ v u) {cs : List AV} (hc : v.cells = some cs) (hf : ¬ φ.dom fresh) {r : Result Next}
    (hr : ∀ a : Addr,a = ⟨w.heap.size,0,none⟩ → r = .ok (.value (.pointer (some a))) (w.alloc (.cells u.cells t))) :
    OpRes S eb φ own M fresh w { val:=.ptr fresh 0 0,foot:=[fresh],wr:=[(fresh,some (.row false cs.length [cs]))] } r:=by
  obtain ⟨h1,h2⟩:=hv.cells hc
  have hl:=h1.length
  have ext:=Emb.add_ext (φ:=φ) (b:=w.heap.size) (base:=0) (k:=cs.length) (size:=u.cells.size) hf
  refine ⟨_,φ.add fresh w.heap.size 0 cs.length u.cells.size,_,.inl (hr _ rfl),?_,?_,.alloc _,ext,?_⟩
  · have:=VR.ptr (T:=S.errT) (eb:=eb) (φ:=φ.add fresh w.heap.size 0 cs.length u.cells.size) fresh 0 0 (.inr rfl)
    simpa [Emb.add] using this
  · refine MR.alloc hM hk hf ?_
    refine br_new (S:=S) _ (by simp [Emb.add]) (by simp [Emb.add]) (by simp [Emb.add]) (by simp at hl; simp; omega) ?_
    intro i e he
    have : i = 0:=by
      cases i with
      | zero =>rfl
      | succ i =>simp at he
    subst this
    simp at he
    subst he
    refine ⟨rfl,cellsAt_of_list (h1.mono ext) h2 ?_⟩
    intro j x hx
    rw [Array.getElem?_toList] at hx
    simpa using hx
  · intro id hid
    rcases hid with h | h
    · exact .inl h
    · exact .inr ⟨h,by simp⟩
theorem box_ok (hM : MR S.errT eb φ M own w) (hk : ∀ b,w.heap.size ≤ b → own b) {t : TypeId} {v : AV} {u : Value} {k : Nat} (hv : VR S.errT eb φ v u)
    (hs : bstep fresh M (.box k v) = some (p,e)) (hp : p) (hf : fresh ∈ e.foot → ¬ φ.dom fresh)
    (hr : (execOp ρ o).run S.P w = .ok (.value (.pointer (some ⟨w.heap.size,0,none⟩))) (w.alloc (.cells u.cells t))) : OpRes S eb φ own M fresh w e ((execOp ρ o).run S.P w):=by
  simp only [bstep] at hs
  split at hs
  · rename_i cs hc
    simp only [Option.some.injEq,Prod.mk.injEq] at hs
    obtain ⟨rfl,rfl⟩:=hs
    subst hp
    exact box_run hM hk hv hc (hf (by simp)) (t:=t) fun a ha =>by rw [ha]; exact hr
  · cases hs
theorem load_ok {t : TypeId} {td : TypeDesc} (ht : S.P.underlying t = some td) {x : Operand} {cx : Opd} (hx : cOpd x = some cx) (hρ : Rho S eb φ ρ f) (hM : MR S.errT eb φ M own w)
    (hs : bstep fresh M (.load (isAggT S.P t) (bif isAggT S.P t then S.P.cellsOf t else 1) (f cx)) = some (p,e)) (hp : p) (ho : o.op = .load t x) : OpRes S eb φ own M fresh w e ((execOp ρ o).run S.P w):=by
  have vx:=hρ x cx hx
  simp only [bstep] at hs
  split at hs
  · rename_i id ix sub h1
    rw [h1] at vx
    obtain ⟨hd,hv⟩:=ptr_inv vx
    split at hs
    · rename_i ro k es hrow
      simp only [Option.some.injEq,Prod.mk.injEq] at hs
      obtain ⟨rfl,rfl⟩:=hs
      obtain ⟨hp1,hp2⟩:=hp
      obtain ⟨hk,hm⟩:=rowAt_k hM hrow
      obtain ⟨_,hlen,us,g1,g2,g3,g4⟩:=hM.elems hm hp1
      have hvr:=AHpart_vr (agg:=isAggT S.P t) (n:=bif isAggT S.P t then S.P.cellsOf t else 1) (off:=sub) g2 g3 (by omega) (by intro hh; simp [hh])
      refine .quiet hM ?_ hvr
      obtain ⟨inf,hinf⟩:=Option.isSome_iff_exists.1 (info_of_underlying ht)
      cases hag : isAggT S.P t
      · have hlt : sub < us.length:=by simp [hag] at hp2; omega
        have hc:=g4 sub us[sub] (List.getElem?_eq_getElem hlt)
        simp only [execOp,ho,hv,Instr.loadAt,Instr.sureAddr,loadVar,Sem.run_bind,Sem.run_pure,run_isAgg_iff t ht,hag,Result.andThen_ok,Bool.false_eq_true,if_false,run_load,hc]
        congr 2
        simp [List.getD,List.getElem?_eq_getElem hlt]
      · simp only [hag,cond_true] at hp2
        have hl:=run_loadCells_list (P:=S.P) w ⟨φ.blk id,φ.base id + ix * φ.k id + sub,none⟩ ((us.drop sub).take (S.P.cellsOf t)) (fun j u hu =>by
          rw [add_lit,Nat.add_assoc]
          rw [List.getElem?_take] at hu
          split at hu
          · rw [List.getElem?_drop] at hu
            exact g4 _ _ hu
          · cases hu)
        have hll : ((us.drop sub).take (S.P.cellsOf t)).length = S.P.cellsOf t:=by simp; omega
        rw [hll] at hl
        simp only [execOp,ho,hv,Instr.loadAt,Instr.sureAddr,loadVar,Sem.run_bind,Sem.run_pure,run_isAgg_iff t ht,hag,Result.andThen_ok,if_true,sizeOf_run hinf,hl,cond_true]
    · cases hs
  · cases hs
theorem splice_length : ∀ (e : List AV) (s : Nat) (xs : List AV),s + xs.length ≤ e.length → (splice e s xs).length = e.length
  | e,0,xs,h =>by simp [splice]; omega
  | [],s + 1,xs,h =>by simp at h
  | c :: e,s + 1,xs,h =>by simp [splice]; exact splice_length e s xs (by simp at h; omega)
theorem splice_get : ∀ (e : List AV) (s : Nat) (xs : List AV) (j : Nat),s + xs.length ≤ e.length → (splice e s xs)[j]? = if s ≤ j ∧ j < s + xs.length then xs[j - s]? else e[j]?
  | e,0,xs,j,h =>by
    simp only [splice,List.getElem?_append,Nat.zero_le,true_and,Nat.zero_add,Nat.sub_zero,List.getElem?_drop]
    split
    · rfl
    · congr 1; omega
  | [],s + 1,xs,j,h =>by simp at h
  | c :: e,s + 1,xs,0,h =>by simp [splice]
  | c :: e,s + 1,xs,j + 1,h =>by
    simp only [splice,List.getElem?_cons_succ]
    rw [splice_get e s xs j (by simp at h; omega)]
    by_cases hj : s ≤ j ∧ j < s + xs.length
    · rw [if_pos hj,if_pos (by omega),show j + 1 - (s + 1) = j - s by omega]
    · rw [if_neg hj,if_neg (by omega)]
theorem store_run (hM : MR S.errT eb φ M own w) {id ix sub : Nat} {k : Nat} {es : List (List AV)} (hm : M id = some (.row false k es)) (hix : ix < es.length) {cs : List AV} {us : List Value} (hsub : sub + cs.length ≤ k)
    (h1 : VRs S.errT eb φ cs us) (h2 : ∀ u ∈ us,u.oneCell' = true) {b o' : Nat} (hb : b = φ.blk id) (ho' : o' = φ.base id + ix * φ.k id + sub) :
    (storeCells ⟨b,o',none⟩ us 0).run S.P w = .ok () (w.setCells b o' us) ∧
      MR S.errT eb φ (upd M id (some (.row false k (es.set ix (splice (es.getD ix []) sub cs))))) own (w.setCells b o' us) ∧ StepK own w (w.setCells b o' us):=by
  subst hb ho'
  have hsol : (Blk.row false k es).solid φ id:=.inl fun q =>by subst q; simp at hix
  obtain ⟨ob,hob,arr,et,fr,rfl,hk,hz,hsz,hfr,hel⟩:=hM.blk id _ hm hsol
  have hlen:=h1.length
  have hle : (ix + 1) * k ≤ es.length * k:=Nat.mul_le_mul_right _ (by omega)
  rw [Nat.add_mul,Nat.one_mul] at hle
  have hfit : φ.base id + ix * φ.k id + sub + us.length ≤ arr.size:=by rw [hk]; omega
  have hcell : ∀ j,j < us.length → w.cell? ⟨φ.blk id,φ.base id + ix * φ.k id + sub + 0 + j,none⟩ = some ((arr[φ.base id + ix * φ.k id + sub + j]?).getD undef):=by
    intro j hj
    have : φ.base id + ix * φ.k id + sub + j < arr.size:=by omega
    simp [World.cell?,hob,Array.getElem?_eq_getElem this]
  have hfz : ∀ j,j < us.length → w.frozen? ⟨φ.blk id,φ.base id + ix * φ.k id + sub + 0 + j,none⟩ = false:=by
    intro j hj
    have:=hfr rfl (φ.base id + ix * φ.k id + sub + j) (by omega)
    simp only [World.frozen?,hob,Nat.add_zero]
    simpa using this
  have hrun:=run_storeCells_cells (P:=S.P) (φ.blk id) (φ.base id + ix * φ.k id + sub) us 0 w (fun j hj =>by rw [hcell j hj]; rfl) hfz h2
  simp only [Nat.add_zero] at hrun
  refine ⟨hrun,?_,.setCells (hM.own id _ hm rfl hsol) _ _⟩
  refine MR.turn hM hm rfl hsol (heap_setCells _ et fr us _ w arr hob) (fun c hc =>heap_setCells_ne _ c hc us _ w) ?_
  refine ⟨_,et,fr,rfl,hk,by rw [arrSet_size]; exact hz,by rw [arrSet_size]; simpa using hsz,fun _ q hq =>hfr rfl q (by rw [arrSet_size] at hq; exact hq),?_⟩
  intro i el hi
  rw [List.getElem?_set] at hi
  by_cases hii : ix = i
  · subst hii
    simp only [hix,if_true] at hi
    simp only [Option.some.injEq] at hi
    subst hi
    have hg : es[ix]? = some (es.getD ix []):=by simp [List.getD,List.getElem?_eq_getElem hix]
    obtain ⟨hl0,hca⟩:=hel ix _ hg
    refine ⟨by rw [splice_length _ _ _ (by omega)]; exact hl0,?_⟩
    intro j v hj
    rw [splice_get _ _ _ _ (by omega)] at hj
    rw [arrSet_get _ _ _ _ hfit]
    by_cases hin : sub ≤ j ∧ j < sub + cs.length
    · rw [if_pos hin] at hj
      obtain ⟨u,hu,hr⟩:=h1.get _ _ hj
      refine ⟨u,?_,hr,h2 u (List.mem_of_getElem? hu)⟩
      rw [if_pos (by rw [hk]; omega),← hu]
      congr 1
      rw [hk]; omega
    · rw [if_neg hin] at hj
      obtain ⟨u,g1,g2,g3⟩:=hca j v hj
      refine ⟨u,?_,g2,g3⟩
      rw [if_neg (by rw [hk]; omega)]
      exact g1
  · rw [if_neg hii] at hi
    obtain ⟨hl0,hca⟩:=hel i _ hi
    refine ⟨hl0,?_⟩
    intro j v hj
    obtain ⟨u,g1,g2,g3⟩:=hca j v hj
    refine ⟨u,?_,g2,g3⟩
    rw [arrSet_get _ _ _ _ hfit,if_neg]
    · exact g1
    · have hjk : j < k:=by rw [← hl0]; exact (List.getElem?_eq_some_iff.1 hj).1
      rw [hk]
      rcases Nat.lt_or_ge i ix with h | h
      · have : (i + 1) * k ≤ ix * k:=Nat.mul_le_mul_right _ (by omega)
        rw [Nat.add_mul,Nat.one_mul] at this
        omega
      · have : (ix + 1) * k ≤ i * k:=Nat.mul_le_mul_right _ (by omega)
        rw [Nat.add_mul,Nat.one_mul] at this
        omega
theorem store_ok {t : TypeId} (hz : S.P.cellsOf t ≠ 0) {x y : Operand} {cx cy : Opd} (hx : cOpd x = some cx) (hy : cOpd y = some cy) (hρ : Rho S eb φ ρ f) (hM : MR S.errT eb φ M own w)
    (hs : bstep fresh M (.store (S.P.cellsOf t) (f cx) (f cy)) = some (p,e)) (hp : p) (ho : o.op = .store t x y) : OpRes S eb φ own M fresh w e ((execOp ρ o).run S.P w):=by
  have vx:=hρ x cx hx
  have vy:=hρ y cy hy
  simp only [bstep] at hs
  split at hs
  · rename_i id ix sub cs h1 h2
    rw [h1] at vx
    obtain ⟨hd,hv⟩:=ptr_inv vx
    obtain ⟨g1,g2⟩:=vy.cells h2
    split at hs
    · rename_i k es hrow
      simp only [Option.some.injEq,Prod.mk.injEq] at hs
      obtain ⟨rfl,rfl⟩:=hs
      obtain ⟨hp1,hp2,hp3⟩:=hp
      obtain ⟨hk,hm⟩:=rowAt_k hM hrow
      have hlen:=g1.length
      obtain ⟨r1,r2,r3⟩:=store_run (sub:=sub) (cs:=cs) hM hm hp1 (by omega) g1 g2 rfl rfl
      refine ⟨undef,φ,_,.inr ⟨?_,rfl⟩,.tup _ _ .nil,r2,r3,.refl φ,fun _ h => .inl h⟩
      have hsz : (Go.sizeOf t).run S.P w = .ok (S.P.cellsOf t) w:=sizeOf_pos hz
      have hcz : ¬ (ρ y).cells.size ≠ S.P.cellsOf t:=by simp at hlen; simp; omega
      simp only [execOp,ho,hv,Instr.storeAt,Instr.sureAddr,storeVar,Sem.run_bind,Sem.run_pure,Result.andThen_ok,hsz,hcz,if_false,r1]
    · cases hs
  · cases hs
theorem fill_ok (place : Nat → Option (Nat × Nat)) : ∀ {cells : List AV} {us : List Value} {ps : List (Nat × Nat × AV)} {qs : List (Nat × Value)} {r : List AV},fill cells ps = some r → VRs S.errT eb φ cells us → (∀ u ∈ us,u.oneCell' = true) →
    ps.length = qs.length → (∀ (i : Nat) (a : Nat × Nat × AV) (b : Nat × Value),ps[i]? = some a → qs[i]? = some b → place b.1 = some (a.1,a.2.1) ∧ VR S.errT eb φ a.2.2 b.2) →
    ∃ rs : Array Value,Instr.fill place us.toArray qs = some rs ∧ VRs S.errT eb φ r rs.toList ∧ ∀ u ∈ rs.toList,u.oneCell' = true
  | cells,us,[],[],r,h,hv,h1,_,_ =>by
    simp [fill] at h
    subst h
    exact ⟨us.toArray,rfl,by simpa using hv,by simpa using h1⟩
  | _,_,[],_ :: _,_,_,_,_,hl,_ =>by simp at hl
  | _,_,_ :: _,[],_,_,_,_,hl,_ =>by simp at hl
  | cells,us,(off,size,v) :: ps,(i,u) :: qs,r,h,hv,h1,hl,hp =>by
    simp only [fill] at h
    split at h
    · rename_i cs hcs
      split at h
      · rename_i hc
        obtain ⟨pl,pv⟩:=hp 0 (off,size,v) (i,u) rfl rfl
        obtain ⟨g1,g2⟩:=pv.cells hcs
        have hlc:=g1.length
        have hlu:=hv.length
        have key : ∀ (xs : List Value) (arr : Array Value) (n : Nat),off + n + xs.length ≤ arr.size → ((xs.zipIdx n).foldl (fun cs (x : Value × Nat) =>cs.setIfInBounds (off + x.2) x.1) arr) = arrSet arr (off + n) xs:=by
          intro xs
          induction xs with
          | nil =>intro arr n _; rfl
          | cons x xs ih =>
            intro arr n hn
            simp only [List.zipIdx_cons,List.foldl_cons,arrSet]
            rw [ih _ _ (by simp at hn ⊢; omega)]
            rfl
        have hz : u.cells.zipIdx.foldl (fun cs (x : Value × Nat) =>cs.setIfInBounds (off + x.2) x.1) us.toArray = arrSet us.toArray off u.cells.toList:=by
          rw [← Array.foldl_toList,Array.toList_zipIdx]
          exact key _ _ 0 (by simp at hlc ⊢; omega)
        have hnew : VRs S.errT eb φ (splice cells off cs) (arrSet us.toArray off u.cells.toList).toList:=by
          refine .of_get (by rw [splice_length _ _ _ (by omega)]; simp [arrSet_size,hlu]) ?_
          intro j a b ha hb
          rw [splice_get _ _ _ _ (by omega)] at ha
          rw [Array.getElem?_toList,arrSet_get _ _ _ _ (by simp at hlc ⊢; omega)] at hb
          rw [← hlc] at hb
          split at ha
          · rename_i hj
            rw [if_pos hj] at hb
            obtain ⟨b',hb',hr⟩:=g1.get _ _ ha
            rw [hb'] at hb; cases hb; exact hr
          · rename_i hj
            rw [if_neg hj] at hb
            obtain ⟨b',hb',hr⟩:=hv.get _ _ ha
            simp at hb
            rw [hb'] at hb; cases hb; exact hr
        have hone : ∀ x ∈ (arrSet us.toArray off u.cells.toList).toList,x.oneCell' = true:=by
          intro x hx
          obtain ⟨j,hj⟩:=List.getElem?_of_mem hx
          rw [Array.getElem?_toList,arrSet_get _ _ _ _ (by simp at hlc ⊢; omega)] at hj
          split at hj
          · exact g2 x (List.mem_of_getElem? hj)
          · exact h1 x (List.mem_of_getElem? (by simpa using hj))
        obtain ⟨rs,k1,k2,k3⟩:=fill_ok place (us:=(arrSet us.toArray off u.cells.toList).toList) h hnew hone (by simpa using hl) (fun j a b ha hb =>hp (j + 1) a b (by simpa using ha) (by simpa using hb))
        refine ⟨rs,?_,k2,k3⟩
        have hsz : ¬ (u.cells.size ≠ size ∨ off + u.cells.size > us.toArray.size):=by simp at hlc hlu ⊢; omega
        simp only [Instr.fill,pl,Bool.or_eq_true,decide_eq_true_eq,hsz,if_false]
        rw [hz]
        simpa using k1
      · cases h
    · cases h
end AH
set_option linter.unusedSimpArgs false
namespace AH
open Go
variable {S : Sys} {eb : Nat → Addr} {φ : Emb} {M : Nat → Option Blk} {own : Nat → Prop} {w : World} {ρ : Operand → Value} {f : Opd → AV} {o : Oper} {fresh : Nat} {p : Prop} {e : Eff}
theorem mapM_get {α β : Type} {g : α → Option β} : ∀ {l : List α} {r : List β},l.mapM g = some r → l.length = r.length ∧ ∀ (i : Nat) a b,l[i]? = some a → r[i]? = some b → g a = some b
  | [],r,h =>by simp at h; subst h; simp
  | x :: l,r,h =>by
    rw [List.mapM_cons] at h
    simp only [bind,Option.bind_eq_some_iff,pure,Option.some.injEq] at h
    obtain ⟨c,hc,cs',hcs,rfl⟩:=h
    obtain ⟨h1,h2⟩:=mapM_get hcs
    refine ⟨by simp [h1],fun i a b ha hb => ?_⟩
    cases i with
    | zero =>simp at ha hb; subst ha hb; exact hc
    | succ i =>exact h2 i a b (by simpa using ha) (by simpa using hb)
theorem parts_ok {t : TypeId} {ps : Array (Nat × Operand)} {cps : List (Nat × Nat × Opd)} (h : partsOf S.P t ps = some cps) (hρ : Rho S eb φ ρ f) :
    (cps.map fun p =>(p.1,p.2.1,f p.2.2)).length = (ps.map fun x =>(x.1,ρ x.2)).toList.length ∧
    ∀ (i : Nat) (a : Nat × Nat × AV) (b : Nat × Value),(cps.map fun p =>(p.1,p.2.1,f p.2.2))[i]? = some a → (ps.map fun x =>(x.1,ρ x.2)).toList[i]? = some b → VR S.errT eb φ a.2.2 b.2 ∧
      ((∃ fs,S.P.underlying t = some (.struct fs) ∧ ∃ fd,fs[b.1]? = some fd ∧ a.1 = fd.offset ∧ a.2.1 = S.P.cellsOf fd.type) ∨
       (∃ n el,S.P.underlying t = some (.array n el) ∧ a.1 = b.1 * S.P.cellsOf el ∧ a.2.1 = S.P.cellsOf el) ∨
       (∃ el,S.P.underlying t = some (.slice el) ∧ a.1 = b.1 * S.P.cellsOf el ∧ a.2.1 = S.P.cellsOf el)):=by
  unfold partsOf at h
  split at h
  · rename_i fs hu
    obtain ⟨h1,h2⟩:=mapM_get h
    refine ⟨by simp at h1; simp [h1],fun i a b ha hb => ?_⟩
    simp only [List.getElem?_map,Option.map_eq_some_iff,Array.toList_map] at ha hb
    obtain ⟨c,hc,rfl⟩:=ha
    obtain ⟨q,hq,rfl⟩:=hb
    have:=h2 i q c hq hc
    simp only [bind,Option.bind_eq_some_iff,Option.some.injEq] at this
    obtain ⟨fd,hfd,cx,hcx,rfl⟩:=this
    exact ⟨hρ _ _ hcx,.inl ⟨fs,hu,fd,hfd,rfl,rfl⟩⟩
  · rename_i n el hu
    obtain ⟨h1,h2⟩:=mapM_get h
    refine ⟨by simp at h1; simp [h1],fun i a b ha hb => ?_⟩
    simp only [List.getElem?_map,Option.map_eq_some_iff,Array.toList_map] at ha hb
    obtain ⟨c,hc,rfl⟩:=ha
    obtain ⟨q,hq,rfl⟩:=hb
    have:=h2 i q c hq hc
    simp only [bind,Option.bind_eq_some_iff,Option.some.injEq] at this
    obtain ⟨cx,hcx,rfl⟩:=this
    exact ⟨hρ _ _ hcx,.inr (.inl ⟨n,el,hu,rfl,rfl⟩)⟩
  · rename_i el hu
    obtain ⟨h1,h2⟩:=mapM_get h
    refine ⟨by simp at h1; simp [h1],fun i a b ha hb => ?_⟩
    simp only [List.getElem?_map,Option.map_eq_some_iff,Array.toList_map] at ha hb
    obtain ⟨c,hc,rfl⟩:=ha
    obtain ⟨q,hq,rfl⟩:=hb
    have:=h2 i q c hq hc
    simp only [bind,Option.bind_eq_some_iff,Option.some.injEq] at this
    obtain ⟨cx,hcx,rfl⟩:=this
    exact ⟨hρ _ _ hcx,.inr (.inr ⟨el,hu,rfl,rfl⟩)⟩
  · cases h
theorem mapM_places {fs : Array Field} (hfs : ∀ fd ∈ fs.toList,(S.P.info? fd.type).isSome = true) : (fs.mapM fun fd =>do pure (fd.offset,← Go.sizeOf fd.type) : Sem (Array (Nat × Nat))).run S.P w = .ok (fs.map fun fd =>(fd.offset,S.P.cellsOf fd.type)) w:=by
  rw [← Array.toArray_toList (xs:=fs)]
  generalize fs.toList = l at hfs ⊢
  rw [List.mapM_toArray]
  have : (l.mapM fun fd =>do pure (fd.offset,← Go.sizeOf fd.type) : Sem (List (Nat × Nat))).run S.P w = .ok (l.map fun fd =>(fd.offset,S.P.cellsOf fd.type)) w:=by
    induction l with
    | nil =>rfl
    | cons x l ih =>
      obtain ⟨i,hi⟩:=Option.isSome_iff_exists.1 (hfs x (by simp))
      rw [List.mapM_cons]
      simp only [Sem.run_bind,sizeOf_run hi,Result.andThen_ok,Sem.run_pure,ih (fun y hy =>hfs y (by simp [hy])),List.map_cons]
  rw [Sem.run_map,this]
  simp
theorem build_ok {t : TypeId} {ps : Array (Nat × Operand)} {z : List AV} {cps : List (Nat × Nat × Opd)} (hz : zeroCells S.P t = some z) (hps : partsOf S.P t ps = some cps) (hfk : buildT S.P t = true) (hρ : Rho S eb φ ρ f) (hM : MR S.errT eb φ M own w)
    (hs : bstep fresh M (.build z (cps.map fun p =>(p.1,p.2.1,f p.2.2))) = some (p,e)) (ho : o.op = .build t ps) : OpRes S eb φ own M fresh w e ((execOp ρ o).run S.P w):=by
  simp only [bstep] at hs
  split at hs
  · rename_i cs hcs
    simp [pureE] at hs
    obtain ⟨_,rfl⟩:=hs
    obtain ⟨i,zv,hi,hzv,hrun,hvr,hone,hlen,hzl⟩:=zeroCells_run (S:=S) (eb:=eb) (φ:=φ) (w:=w) hz
    obtain ⟨hl,hp⟩:=parts_ok hps hρ
    have hex : execOp ρ o = (do pure (.value (← Instr.build t (ps.map fun x =>(x.1,ρ x.2))))):=by simp only [execOp,ho]
    have hu : ∃ td,S.P.underlying t = some td:=by
      unfold partsOf at hps
      split at hps
      · exact ⟨_,by assumption⟩
      · exact ⟨_,by assumption⟩
      · exact ⟨_,by assumption⟩
      · cases hps
    obtain ⟨td,hu⟩:=hu
    cases td
    case struct fs =>
      obtain ⟨rs,h1,h2,h3⟩:=fill_ok (S:=S) (eb:=eb) (φ:=φ) (fun j =>(fs.map fun fd =>(fd.offset,S.P.cellsOf fd.type))[j]?) hcs hvr hone hl (fun i a b ha hb =>by
        obtain ⟨q1,q2⟩:=hp i a b ha hb
        refine ⟨?_,q1⟩
        rcases q2 with ⟨fs',g1,fd,g2,g3,g4⟩ | ⟨n,el,g1,_⟩ | ⟨el,g1,_⟩
        · rw [hu] at g1; cases g1; simp [g2,g3,g4]
        · rw [hu] at g1; cases g1
        · rw [hu] at g1; cases g1)
      refine .quiet hM (u:=.agg rs) ?_ (.agg _ _ h2 h3)
      have hk : ∀ fd ∈ fs.toList,(S.P.info? fd.type).isSome = true:=by
        simp only [buildT,hu,List.all_eq_true] at hfk
        exact hfk
      rw [hex]
      simp only [Instr.build,Sem.run_bind,hrun,Result.andThen_ok,run_underlying hu,mapM_places hk]
      simp only [Array.toArray_toList] at h1
      rw [h1]
      rfl
    case array n el =>
      obtain ⟨rs,h1,h2,h3⟩:=fill_ok (S:=S) (eb:=eb) (φ:=φ) (fun j =>some (j * S.P.cellsOf el,S.P.cellsOf el)) hcs hvr hone hl (fun i a b ha hb =>by
        obtain ⟨q1,q2⟩:=hp i a b ha hb
        refine ⟨?_,q1⟩
        rcases q2 with ⟨fs',g1,fd,g2,g3,g4⟩ | ⟨n',el',g1,g2,g3⟩ | ⟨el,g1,_⟩
        · rw [hu] at g1; cases g1
        · rw [hu] at g1; cases g1; simp [g2,g3]
        · rw [hu] at g1; cases g1)
      refine .quiet hM (u:=.agg rs) ?_ (.agg _ _ h2 h3)
      rw [hex]
      obtain ⟨ie,hie⟩ : ∃ ie,S.P.info? el = some ie:=Option.isSome_iff_exists.1 (by simpa [buildT,hu] using hfk)
      simp only [Instr.build,Sem.run_bind,hrun,Result.andThen_ok,run_underlying hu,sizeOf_run hie]
      simp only [Array.toArray_toList] at h1
      rw [h1]
      rfl
    all_goals simp [buildT,hu] at hfk
  · cases hs
end AH
set_option linter.unusedSimpArgs false
namespace AH
open Go
variable {S : Sys} {eb : Nat → Addr} {φ : Emb} {M : Nat → Option Blk} {own : Nat → Prop} {w : World} {ρ : Operand → Value} {f : Opd → AV} {o : Oper} {fresh : Nat} {p : Prop} {e : Eff}
theorem flat_get {α : Type} (z : List α) : ∀ (n i : Nat),i < n * z.length → (List.replicate n z).flatten[i]? = z[i % z.length]?
  | 0,i,h =>by simp at h
  | n + 1,i,h =>by
    rw [List.replicate_succ,List.flatten_cons,List.getElem?_append]
    by_cases hi : i < z.length
    · rw [if_pos hi,Nat.mod_eq_of_lt hi]
    · have e:=Nat.mod_eq_sub_mod (a:=i) (b:=z.length) (by omega)
      rw [if_neg hi,e]
      refine flat_get z n _ ?_
      rw [Nat.add_mul,Nat.one_mul] at h
      omega
theorem madeCells_vrs {z : List AV} {us : Array Value} (h : VRs S.errT eb φ z us.toList) (h1 : ∀ u ∈ us.toList,u.oneCell' = true) (n : Nat) :
    VRs S.errT eb φ (List.replicate n z).flatten ((Array.range (n * us.size)).map (us[· % us.size]!)).toList ∧ ∀ u ∈ ((Array.range (n * us.size)).map (us[· % us.size]!)).toList,u.oneCell' = true:=by
  have hl : z.length = us.size:=by simpa using h.length
  have key : ∀ i,i < n * us.size → ((Array.range (n * us.size)).map (us[· % us.size]!)).toList[i]? = us.toList[i % us.size]?:=by
    intro i hi
    have hpos : 0 < us.size:=by
      rcases Nat.eq_zero_or_pos us.size with hz | hz
      · rw [hz] at hi; simp at hi
      · exact hz
    have hm : i % us.size < us.size:=Nat.mod_lt _ hpos
    rw [Array.getElem?_toList,Array.getElem?_toList,Array.getElem?_map,Array.getElem?_range,if_pos hi,Array.getElem?_eq_getElem hm]
    simp only [Option.map_some,Option.some.injEq]
    exact getElem!_pos us _ hm
  refine ⟨.of_get (by simp [hl]) ?_,?_⟩
  · intro i a b ha hb
    have hi : i < n * us.size:=by
      have:=(List.getElem?_eq_some_iff.1 hb).1
      simpa using this
    rw [key i hi] at hb
    rw [flat_get z n i (by rw [hl]; exact hi),hl] at ha
    obtain ⟨c,hc,hr⟩:=h.get _ _ ha
    rw [hc] at hb; cases hb; exact hr
  · intro u hu
    obtain ⟨i,hi⟩:=List.getElem?_of_mem hu
    have hi' : i < n * us.size:=by
      have:=(List.getElem?_eq_some_iff.1 hi).1
      simpa using this
    rw [key i hi'] at hi
    exact h1 u (List.mem_of_getElem? hi)
def cut (n e : Nat) (cs : List AV) : List (List AV):=(List.range n).map fun i =>(cs.drop (i * e)).take e
theorem br_cut {n k m : Nat} {cs : List AV} {us : Array Value} {et : TypeId} (φ' : Emb) (h1 : φ'.k n = k) (h2 : φ'.base n = 0) (h3 : φ'.size n = us.size) (hv : VRs S.errT eb φ' cs us.toList) (hone : ∀ u ∈ us.toList,u.oneCell' = true) (hl : cs.length = m * k) {ro : Bool} :
    BR S.errT eb φ' n (.row ro k (cut m k cs)) (.cells us et (0,0)):=by
  have hlen:=hv.length
  refine br_new (S:=S) φ' h1 h2 h3 (by simp [cut]; simp at hlen; omega) ?_
  intro i el hi
  simp only [cut,List.getElem?_map,Option.map_eq_some_iff] at hi
  obtain ⟨j,hj,rfl⟩:=hi
  have hij : j = i ∧ i < m:=by
    have:=List.getElem?_eq_some_iff.1 hj
    obtain ⟨q1,q2⟩:=this
    simp at q1 q2
    exact ⟨q2.symm,q1⟩
  obtain ⟨rfl,him⟩:=hij
  have hfit : (j + 1) * k ≤ m * k:=Nat.mul_le_mul_right _ (by omega)
  rw [Nat.add_mul,Nat.one_mul] at hfit
  refine ⟨by simp; omega,cellsAt_of_list ((hv.drop (j * k)).take k) (fun u hu =>hone u (List.mem_of_mem_drop (List.mem_of_mem_take hu))) ?_⟩
  intro q u hu
  rw [List.getElem?_take] at hu
  split at hu
  · rw [List.getElem?_drop,Array.getElem?_toList] at hu
    exact hu
  · cases hu
theorem new_run (hM : MR S.errT eb φ M own w) (hk : ∀ b,w.heap.size ≤ b → own b) (hf : ¬ φ.dom fresh) {w1 : World} (hw1 : w1.heap = w.heap) (hs1 : StepK own w w1) {ob : Obj} {b : Blk} {k size : Nat} {v : AV} {u : Value} {foot : List Nat} (_hfoot : fresh ∈ foot)
    (hB : BR S.errT eb (φ.add fresh w.heap.size 0 k size) fresh b ob) (hv : VR S.errT eb (φ.add fresh w.heap.size 0 k size) v u) {r : Result Next} (hr : r = .ok (.value u) (w1.alloc ob)) :
    OpRes S eb φ own M fresh w { val:=v,foot:=foot,wr:=[(fresh,some b)] } r:=by
  have ext:=Emb.add_ext (φ:=φ) (b:=w.heap.size) (base:=0) (k:=k) (size:=size) hf
  have hsz : w1.heap.size = w.heap.size:=by rw [hw1]
  have hM1 : MR S.errT eb φ M own w1:=hM.of_heap hw1
  refine ⟨u,φ.add fresh w.heap.size 0 k size,_,.inl hr,hv,?_,hs1.trans (.alloc _),ext,?_⟩
  · have:=MR.alloc hM1 (fun b hb =>hk b (by omega)) hf (base:=0) (k:=k) (size:=size) (o:=ob) (b:=b) (by rw [hsz]; exact hB)
    rw [hsz] at this
    exact this
  · intro id hid
    rcases hid with h | h
    · exact .inl h
    · exact .inr ⟨h,by simp⟩
theorem bslice_ok {t : TypeId} {el : TypeId} {n : Nat} {ps : Array (Nat × Operand)} {z : List AV} {cps : List (Nat × Nat × Opd)} (ht : S.P.underlying t = some (.slice el)) (hn : ¬ n * S.P.cellsOf el > 2 ^ 24) (hz : zeroCells S.P el = some z) (hps : partsOf S.P t ps = some cps) (hρ : Rho S eb φ ρ f)
    (hM : MR S.errT eb φ M own w) (hk : ∀ b,w.heap.size ≤ b → own b) (hf : fresh ∈ e.foot → ¬ φ.dom fresh)
    (hs : bstep fresh M (.bslice (S.P.cellsOf el) n z (cps.map fun p =>(p.1,p.2.1,f p.2.2))) = some (p,e)) (ho : o.op = .buildSlice t n ps) : OpRes S eb φ own M fresh w e ((execOp ρ o).run S.P w):=by
  simp only [bstep] at hs
  split at hs
  · rename_i cs hcs
    simp only [Option.some.injEq,Prod.mk.injEq] at hs
    obtain ⟨rfl,rfl⟩:=hs
    obtain ⟨i,zv,hi,hzv,hrun,hvr,hone,hlen,hzl⟩:=zeroCells_run (S:=S) (eb:=eb) (φ:=φ) (w:=w) hz
    obtain ⟨hl,hp⟩:=parts_ok hps hρ
    have hsz : zv.cells.size = S.P.cellsOf el:=by omega
    obtain ⟨m1,m2⟩:=madeCells_vrs hvr hone n
    obtain ⟨rs,h1,h2,h3⟩:=fill_ok (S:=S) (eb:=eb) (φ:=φ) (fun j =>some (j * S.P.cellsOf el,S.P.cellsOf el)) hcs m1 m2 hl (fun i a b ha hb =>by
      obtain ⟨q1,q2⟩:=hp i a b ha hb
      refine ⟨?_,q1⟩
      rcases q2 with ⟨fs',g1,fd,g2,g3,g4⟩ | ⟨n',el',g1,g2,g3⟩ | ⟨el',g1,g2,g3⟩
      · rw [ht] at g1; cases g1
      · rw [ht] at g1; cases g1
      · rw [ht] at g1; cases g1; simp [g2,g3])
    have hcl : cs.length = n * S.P.cellsOf el:=by
      have : ∀ (c : List AV) (l : List (Nat × Nat × AV)) (r : List AV),fill c l = some r → r.length = c.length:=by
        intro c l
        induction l generalizing c with
        | nil =>intro r h; simp [fill] at h; rw [h]
        | cons x l ih =>
          intro r h
          obtain ⟨a,b,v⟩:=x
          simp only [fill] at h
          split at h
          · split at h
            · rename_i hc
              rw [ih _ _ h,splice_length _ _ _ (by omega)]
            · cases h
          · cases h
      rw [this _ _ _ hcs]
      simp [hlen]
    have ext:=Emb.add_ext (φ:=φ) (b:=w.heap.size) (base:=0) (k:=S.P.cellsOf el) (size:=rs.size) (hf (by simp))
    have hrl : rs.size = n * S.P.cellsOf el:=by have:=h2.length; simp at this; omega
    refine new_run hM hk (hf (by simp)) (w1:=w) rfl .refl (k:=S.P.cellsOf el) (size:=rs.size) (ob:=.cells rs el) (by simp)
      (br_cut (S:=S) _ (by simp [Emb.add]) (by simp [Emb.add]) (by simp [Emb.add]) (h2.mono ext) h3 hcl)
      (u:=.slice (some ⟨w.heap.size,0,none⟩) n n) ?_ ?_
    · have:=VR.slc (T:=S.errT) (eb:=eb) (φ:=φ.add fresh w.heap.size 0 (S.P.cellsOf el) rs.size) fresh 0 n (some n) n (.inr rfl) (Nat.le_refl _) (by intro c0 h; simpa using h) (by simp [Emb.add]; omega)
      simpa [Emb.add] using this
    · simp only [execOp,ho,Instr.buildSlice,Sem.run_bind,run_underlying ht,Result.andThen_ok,sizeOf_run hi]
      rw [if_neg hn]
      simp only [Array.toArray_toList] at h1
      by_cases h0 : n * S.P.cellsOf el = 0
      · have harr : ((Array.range (n * S.P.cellsOf el)).map ((#[] : Array Value)[· % (#[] : Array Value).size]!)) = ((Array.range (n * zv.cells.size)).map (zv.cells[· % zv.cells.size]!)):=by
          rw [hsz]; simp [h0]
        rw [if_pos h0]
        simp only [Sem.run_bind,Sem.run_pure,Result.andThen_ok]
        rw [harr,h1]
        rfl
      · rw [if_neg h0]
        simp only [Sem.run_bind,Sem.run_pure,Result.andThen_ok,hrun]
        rw [show n * S.P.cellsOf el = n * zv.cells.size by rw [hsz],h1]
        rfl
  · cases hs
theorem run_newObj' (o : Obj) : (newObj o).run S.P w = .ok w.heap.size (w.alloc o):=rfl
theorem mkmap_ok {t : TypeId} (hM : MR S.errT eb φ M own w) (hk : ∀ b,w.heap.size ≤ b → own b) (hf : fresh ∈ e.foot → ¬ φ.dom fresh)
    (hs : bstep fresh M .mkmap = some (p,e)) (ho : o.op = .makeMap t none) : OpRes S eb φ own M fresh w e ((execOp ρ o).run S.P w):=by
  simp only [bstep,Option.some.injEq,Prod.mk.injEq] at hs
  obtain ⟨_,rfl⟩:=hs
  have ext:=Emb.add_ext (φ:=φ) (b:=w.heap.size) (base:=0) (k:=0) (size:=0) (hf (by simp))
  refine new_run hM hk (hf (by simp)) (w1:=w) rfl .refl (k:=0) (size:=0) (ob:=.map #[] 0) (b:=.map [] 0) (by simp) (show ∃ us,Obj.map #[] 0 = .map us 0 ∧ ER S.errT eb _ [] us.toList from ⟨#[],rfl,.nil⟩) (u:=.map (some w.heap.size)) ?_ ?_
  · have:=VR.map (T:=S.errT) (eb:=eb) (φ:=φ.add fresh w.heap.size 0 0 0) fresh (.inr rfl)
    simpa [Emb.add] using this
  · simp only [execOp,ho,Instr.makeMap,Option.map_none,Sem.run_bind,Sem.run_pure,Result.andThen_ok,run_newObj']
theorem mkslice_ok {t : TypeId} {el : TypeId} {z : List AV} {x y : Operand} {cx cy : Opd} (ht : S.P.underlying t = some (.slice el)) (hz : zeroCells S.P el = some z) (hx : cOpd x = some cx) (hy : cOpd y = some cy) (hρ : Rho S eb φ ρ f)
    (hM : MR S.errT eb φ M own w) (hk : ∀ b,w.heap.size ≤ b → own b) (hf : fresh ∈ e.foot → ¬ φ.dom fresh)
    (hs : bstep fresh M (.mkslice (S.P.cellsOf el) (S.P.bytesOf el) z (f cx) (f cy)) = some (p,e)) (hp : p) (ho : o.op = .makeSlice t x y) : OpRes S eb φ own M fresh w e ((execOp ρ o).run S.P w):=by
  have vx:=hρ x cx hx
  have vy:=hρ y cy hy
  simp only [bstep] at hs
  split at hs
  · rename_i l c e1 e2
    rw [e1] at vx
    rw [e2] at vy
    have hvx:=int_inv vx
    have hvy:=int_inv vy
    simp only [Option.some.injEq,Prod.mk.injEq] at hs
    obtain ⟨rfl,rfl⟩:=hs
    obtain ⟨p1,p2,p3,p4,p5,p6⟩:=hp
    obtain ⟨i,zv,hi,hzv,hrun,hvr,hone,hlen,hzl⟩:=zeroCells_run (S:=S) (eb:=eb) (φ:=φ) (w:=w) hz
    have hsz : zv.cells.size = S.P.cellsOf el:=by omega
    obtain ⟨m1,m2⟩:=madeCells_vrs hvr hone c.toNat
    have hby : S.P.bytesOf el = i.bytes:=by simp [Program.bytesOf,hi]
    have hl : (List.replicate c.toNat z).flatten.length = c.toNat * S.P.cellsOf el:=by simp [p1]
    have hsi : i.size = S.P.cellsOf el:=by simp [Program.cellsOf,hi]
    have ext:=Emb.add_ext (φ:=φ) (b:=w.heap.size) (base:=0) (k:=S.P.cellsOf el) (size:=c.toNat * S.P.cellsOf el) (hf (by simp))
    have hex : (execOp ρ o).run S.P w = .ok (.value (.slice (some ⟨w.heap.size,0,none⟩) l.toNat c.toNat)) (w.alloc (.cells (Go.madeCells zv.cells (c.toNat * i.size)) el)):=by
      have:=run_make (P:=S.P) w t el i zv ht hi hzv .i64 .i64 l c p3 p4 (by rw [hby,Int.mul_comm] at p5; omega) p6
      simp only [execOp,ho,hvx,hvy,Sem.run_bind,this,Result.andThen_ok,Sem.run_pure]
    have hm : Go.madeCells zv.cells (c.toNat * i.size) = ((Array.range (c.toNat * zv.cells.size)).map (zv.cells[· % zv.cells.size]!)):=by rw [hsi,← hsz]; rfl
    have hcut : cut c.toNat (S.P.cellsOf el) (List.replicate c.toNat z).flatten = List.replicate c.toNat z:=by
      refine List.ext_getElem? fun j => ?_
      simp only [cut,List.getElem?_map,List.getElem?_replicate]
      by_cases hj : j < c.toNat
      · rw [List.getElem?_range hj,if_pos hj]
        simp only [Option.map_some,Option.some.injEq]
        refine List.ext_getElem? fun q => ?_
        rw [List.getElem?_take,List.getElem?_drop]
        split
        · rename_i hq
          have hb : (j + 1) * S.P.cellsOf el ≤ c.toNat * S.P.cellsOf el:=Nat.mul_le_mul_right _ (by omega)
          rw [Nat.add_mul,Nat.one_mul] at hb
          rw [flat_get z c.toNat _ (by rw [p1]; omega),p1,Nat.mul_comm,Nat.mul_add_mod,Nat.mod_eq_of_lt hq]
        · rename_i hq
          rw [List.getElem?_eq_none (by omega)]
      · rw [List.getElem?_eq_none (by simp; omega),if_neg hj]
        rfl
    rw [← hm] at m1 m2
    have hzs : (Go.madeCells zv.cells (c.toNat * i.size)).size = c.toNat * S.P.cellsOf el:=by rw [size_madeCells,hsi]
    have hB:=br_cut (S:=S) (eb:=eb) (n:=fresh) (k:=S.P.cellsOf el) (m:=c.toNat) (et:=el) (ro:=false) (φ.add fresh w.heap.size 0 (S.P.cellsOf el) (c.toNat * S.P.cellsOf el)) (by simp [Emb.add]) (by simp [Emb.add]) (by simp [Emb.add,hzs]) (m1.mono ext) m2 hl
    rw [hcut] at hB
    refine new_run hM hk (hf (by simp)) (w1:=w) rfl .refl (k:=S.P.cellsOf el) (size:=c.toNat * S.P.cellsOf el) (by simp) hB ?_ hex
    have:=VR.slc (T:=S.errT) (eb:=eb) (φ:=φ.add fresh w.heap.size 0 (S.P.cellsOf el) (c.toNat * S.P.cellsOf el)) fresh 0 l.toNat (some c.toNat) c.toNat (.inr rfl) (by omega) (by intro c0 h; simpa using h) (by simp [Emb.add])
    simpa [Emb.add] using this
  · cases hs
end AH
set_option linter.unusedSimpArgs false
namespace AH
open Go
variable {S : Sys} {eb : Nat → Addr} {φ : Emb} {M : Nat → Option Blk} {own : Nat → Prop} {w : World} {ρ : Operand → Value} {f : Opd → AV} {o : Oper} {fresh : Nat} {p : Prop} {e : Eff}
variable {T : TypeId}
theorem ER.get : ∀ {es : List (AV × AV × Nat)} {us : List MapEntry},ER T eb φ es us → ∀ (i : Nat) k v s,es[i]? = some (k,v,s) → ∃ x y,us[i]? = some { key:=x,val:=y,born:=s } ∧ VR T eb φ k x ∧ VR T eb φ v y
  | _,_,.nil,i,k,v,s,h =>by simp at h
  | _,_,.cons k v s x y es us hk hv h,0,_,_,_,e =>by
    simp at e
    obtain ⟨rfl,rfl,rfl⟩:=e
    exact ⟨x,y,by simp,hk,hv⟩
  | _,_,.cons k v s x y es us hk hv h,i + 1,_,_,_,e =>by
    obtain ⟨a,b,h1,h2⟩:=h.get i _ _ _ (by simpa using e)
    exact ⟨a,b,by simpa using h1,h2⟩
theorem ER.append : ∀ {es es' : List (AV × AV × Nat)} {us us' : List MapEntry},ER T eb φ es us → ER T eb φ es' us' → ER T eb φ (es ++ es') (us ++ us')
  | _,_,_,_,.nil,h =>h
  | _,_,_,_,.cons k v s x y es us hk hv h,g => .cons _ _ _ _ _ _ _ hk hv (h.append g)
theorem ER.set : ∀ {es : List (AV × AV × Nat)} {us : List MapEntry},ER T eb φ es us → ∀ (i : Nat) (k v : AV) (s : Nat) (x y : Value),VR T eb φ k x → VR T eb φ v y → ER T eb φ (es.set i (k,v,s)) (us.set i { key:=x,val:=y,born:=s })
  | _,_,.nil,i,_,_,_,_,_,_,_ =>by simp; exact .nil
  | _,_,.cons k v s x y es us hk hv h,0,_,_,_,_,_,h1,h2 =>by simp; exact .cons _ _ _ _ _ _ _ h1 h2 h
  | _,_,.cons k v s x y es us hk hv h,i + 1,_,_,_,_,_,h1,h2 =>by simp; exact .cons _ _ _ _ _ _ _ hk hv (h.set i _ _ _ _ _ h1 h2)
theorem ER.eraseIdx : ∀ {es : List (AV × AV × Nat)} {us : List MapEntry},ER T eb φ es us → ∀ (i : Nat),ER T eb φ (es.eraseIdx i) (us.eraseIdx i)
  | _,_,.nil,i =>by simp; exact .nil
  | _,_,.cons k v s x y es us hk hv h,0 =>by simp; exact h
  | _,_,.cons k v s x y es us hk hv h,i + 1 =>by simp; exact .cons _ _ _ _ _ _ _ hk hv (h.eraseIdx i)
theorem ER.findIdx : ∀ {es : List (AV × AV × Nat)} {us : List MapEntry},ER T eb φ es us → ∀ (n : Int),es.findIdx? (fun e =>(e.2.2 : Int) == n) = us.findIdx? (fun e =>(e.born : Int) == n)
  | _,_,.nil,n =>rfl
  | _,_,.cons k v s x y es us hk hv h,n =>by simp only [List.findIdx?_cons,h.findIdx n]
theorem modify_set {α : Type} (l : List α) (i : Nat) (g : α → α) (a : α) (h : l[i]? = some a) : l.modify i g = l.set i (g a):=by
  refine List.ext_getElem? fun j => ?_
  rw [List.getElem?_modify,List.getElem?_set]
  by_cases hj : i = j
  · subst hj
    obtain ⟨h1,rfl⟩:=List.getElem?_eq_some_iff.1 h
    simp [h1]
  · simp [hj]
def keyEqV : KK → Value → Value → Option Bool
  | .sc k,a,b =>eqScV k a b
  | .fl ks,.agg a,.agg b =>eqFlatV ks a.toList b.toList
  | _,_,_ =>none
theorem keyEqV_of {kk : KK} {a b : AV} {x y : Value} {r : Bool} (h : keyEq kk a b = some r) (ha : VR T eb φ a x) (hb : VR T eb φ b y) : keyEqV kk x y = some r:=by
  cases kk with
  | sc k =>exact eqScV_of h ha hb
  | fl ks =>
    cases a <;> cases b <;> simp only [keyEq,reduceCtorEq] at h
    cases ha
    cases hb
    exact eqFlatV_of h (by assumption) (by assumption)
theorem sameBits_sc {k : SK} {x y : Value} (h : eqScV k x y = some true) (n : Nat) : Instr.sameBits n y x = true:=by
  cases x <;> cases y <;> simp only [eqScV,reduceCtorEq] at h <;> split at h <;> simp only [Option.some.injEq,reduceCtorEq] at h
  · simp only [beq_iff_eq] at h; subst h; simp [Instr.sameBits]
  · rename_i hk
    simp only [beq_iff_eq] at h
    subst h
    obtain ⟨_,rfl⟩:=hk
    simp [Instr.sameBits]
  · rw [← beq_toListBytes,MapKept.bytes_beq] at h
    subst h
    simp [Instr.sameBits,MapKept.bytes_beq]
theorem sameBits_fl : ∀ {ks : List SK} {x y : List Value},eqFlatV ks x y = some true → ∀ n,(y.zip x).all (fun (a,b) =>Instr.sameBits n a b) = true
  | [],[],[],_,_ =>rfl
  | [],[],_ :: _,h,_ =>by simp [eqFlatV] at h
  | [],_ :: _,_,h,_ =>by simp [eqFlatV] at h
  | _ :: _,[],_,h,_ =>by simp [eqFlatV] at h
  | _ :: _,_ :: _,[],h,_ =>by simp [eqFlatV] at h
  | k :: ks,a :: x,b :: y,h,n =>by
    simp only [eqFlatV] at h
    split at h
    · rename_i p q hp hq
      simp only [Option.some.injEq,Bool.and_eq_true] at h
      obtain ⟨rfl,rfl⟩:=h
      simp only [List.zip_cons_cons,List.all_cons,Bool.and_eq_true]
      exact ⟨sameBits_sc hp n,sameBits_fl hq n⟩
    · cases h
theorem sameBits_key {kk : KK} {x y : Value} (h : keyEqV kk x y = some true) : Instr.sameBits 10000 y x = true:=by
  cases kk with
  | sc k =>exact sameBits_sc h _
  | fl ks =>
    cases x <;> cases y <;> simp only [keyEqV,reduceCtorEq] at h
    have:=eqFlatV_len h
    simp only [Array.length_toList] at this
    simp only [Instr.sameBits,Bool.and_eq_true,beq_iff_eq]
    exact ⟨by omega,sameBits_fl h 9999⟩
theorem keyThatStays_run {kk : KK} {x y : Value} (h : keyEqV kk x y = some true) : (Instr.keyThatStays y x).run S.P w = .ok x w:=by
  simp [Instr.keyThatStays,sameBits_key h]
theorem keyT_flat {kt : TypeId} {ks : List SK} (h : keyT S.P kt = some (.fl ks)) : flatT S.P 8 kt = some ks ∧ isAggT S.P kt = true:=by
  unfold keyT at h
  split at h <;> simp only [Option.some.injEq,reduceCtorEq,Option.map_eq_some_iff] at h
  all_goals
    obtain ⟨q,h1,h2⟩:=h
    cases h2
    rename_i hu
    exact ⟨h1,by simp [isAggT,hu]⟩
theorem keyEqV_run {kt : TypeId} {kk : KK} (hk : keyT S.P kt = some kk) {x y : Value} {r : Bool} (h : keyEqV kk x y = some r) : (Op.equal kt x y).run S.P w = .ok r w:=by
  cases kk with
  | sc k =>
    unfold keyT at hk
    split at hk <;> simp only [Option.some.injEq,reduceCtorEq,Option.map_eq_some_iff,KK.sc.injEq,exists_and_right,and_false,exists_false] at hk
    · rename_i hu; exact eqScV_run (D:=9999) h (.inl ⟨hu,hk.symm⟩)
    · rename_i i hu; exact eqScV_run (D:=9999) h (.inr (.inl ⟨⟨i,hu⟩,hk.symm⟩))
    · rename_i hu; exact eqScV_run (D:=9999) h (.inr (.inr ⟨hu,hk.symm⟩))
  | fl ks =>
    obtain ⟨h1,h2⟩:=keyT_flat hk
    cases x <;> cases y <;> simp only [keyEqV,reduceCtorEq] at h
    rename_i xs ys
    have:=run_equal_flat (P:=S.P) (w:=w) 8 kt ks h1 10000 (by omega) _ _ _ h
    simpa [toV,h2,Op.equal,Op.maxDepth] using this
def findV (kk : KK) (k : Value) : List MapEntry → Nat → Option (Option (Nat × Value))
  | [],_ =>some none
  | e :: r,i =>match keyEqV kk k e.key with
    | some true =>some (some (i,e.val))
    | some false =>findV kk k r (i + 1)
    | none =>none
theorem findAsking_run {kt : TypeId} {kk : KK} (hk : keyT S.P kt = some kk) {k : Value} : ∀ {us : List MapEntry} {i : Nat} {r : Option (Nat × Value)},findV kk k us i = some r → (Instr.findAsking kt k us i).run S.P w = .ok r w
  | [],i,r,h =>by simp [findV] at h; subst h; simp [Instr.findAsking]
  | e :: us,i,r,h =>by
    simp only [findV] at h
    split at h
    · rename_i h1
      simp only [Option.some.injEq] at h
      subst h
      simp [Instr.findAsking,keyEqV_run hk h1]
    · rename_i h1
      simp [Instr.findAsking,keyEqV_run hk h1,findAsking_run hk h]
    · cases h
theorem findNow_or {kt : TypeId} {kk : KK} (hk : keyT S.P kt = some kk) {td : TypeDesc} (ht : S.P.underlying kt = some td) {k : Value} : ∀ {us : List MapEntry} {i : Nat} {r : Option (Nat × Value)},findV kk k us i = some r →
    Instr.findNow td k us i = some r ∨ Instr.findNow td k us i = none
  | [],i,r,h =>by simp [findV] at h; subst h; simp [Instr.findNow]
  | e :: us,i,r,h =>by
    simp only [findV] at h
    have key : ∀ b,keyEqV kk k e.key = some b → Instr.sameNow td k e.key = some b ∨ Instr.sameNow td k e.key = none:=by
      intro b hb
      unfold keyT at hk
      rw [ht] at hk
      cases td <;> simp only [Option.some.injEq,reduceCtorEq,Option.map_eq_some_iff] at hk
      case bool =>
        subst hk
        left
        generalize e.key = y at hb
        cases k <;> cases y <;> simp only [keyEqV,eqScV,reduceCtorEq,if_false,if_true,false_and] at hb
        simpa [Instr.sameNow] using hb
      case int =>
        subst hk
        left
        generalize e.key = y at hb
        cases k <;> cases y <;> simp only [keyEqV,eqScV,reduceCtorEq,if_false,if_true,true_and] at hb
        split at hb
        · rename_i hq; subst hq; simpa [Instr.sameNow] using hb
        · cases hb
      case string =>
        subst hk
        left
        generalize e.key = y at hb
        cases k <;> cases y <;> simp only [keyEqV,eqScV,reduceCtorEq,if_false,if_true,false_and] at hb
        rw [← beq_toListBytes] at hb
        simpa [Instr.sameNow] using hb
      all_goals (right; rfl)
    split at h
    · rename_i h1
      rcases key _ h1 with q | q
      · left; simp only [Instr.findNow,q]; exact h
      · right; simp only [Instr.findNow,q]
    · rename_i h1
      rcases key _ h1 with q | q
      · simp only [Instr.findNow,q]; exact findNow_or hk ht h
      · right; simp only [Instr.findNow,q]
    · cases h
theorem keyT_under {kt : TypeId} {kk : KK} (hk : keyT S.P kt = some kk) : ∃ td,S.P.underlying kt = some td:=by
  unfold keyT at hk
  split at hk
  all_goals first | exact ⟨_,by assumption⟩ | cases hk
theorem findKey_run {kt : TypeId} {kk : KK} (hk : keyT S.P kt = some kk) {k : Value} {us : List MapEntry} {r : Option (Nat × Value)} (h : findV kk k us 0 = some r) : (Instr.findKey kt k us).run S.P w = .ok r w:=by
  obtain ⟨td,ht⟩:=keyT_under hk
  simp only [Instr.findKey,Sem.run_bind,run_underlying ht,Result.andThen_ok]
  rcases findNow_or hk ht h with q | q
  · rw [q]; rfl
  · rw [q]; exact findAsking_run hk h
theorem findK_run {kk : KK} {k : AV} {x : Value} (hx : VR T eb φ k x) : ∀ {es : List (AV × AV × Nat)} {us : List MapEntry} {i : Nat} {r : Option (Nat × AV × Nat)},ER T eb φ es us → findK kk k es i = some r →
    (r = none ∧ findV kk x us i = some none) ∨ ∃ j v s y,r = some (i + j,v,s) ∧ findV kk x us i = some (some (i + j,y)) ∧ VR T eb φ v y ∧ ∃ k' x',es[j]? = some (k',v,s) ∧ us[j]? = some { key:=x',val:=y,born:=s } ∧ keyEqV kk x x' = some true
  | _,_,i,r,.nil,h =>by simp [findK] at h; subst h; left; exact ⟨rfl,rfl⟩
  | _,_,i,r,.cons k' v s x' y es us hk hv hr,h =>by
    simp only [findK] at h
    split at h
    · rename_i h1
      simp only [Option.some.injEq] at h
      subst h
      have q:=keyEqV_of h1 hx hk
      right
      exact ⟨0,v,s,y,rfl,by simp [findV,q],hv,k',x',by simp,by simp,q⟩
    · rename_i h1
      have q:=keyEqV_of h1 hx hk
      rcases findK_run hx hr h with ⟨a1,a2⟩ | ⟨j,v',s',y',a1,a2,a3,k2,x2,a4,a5,a6⟩
      · left; exact ⟨a1,by simp [findV,q,a2]⟩
      · right
        exact ⟨j + 1,v',s',y',by rw [a1]; congr 2; omega,by simp only [findV,q,a2]; congr 3; omega,a3,k2,x2,by simpa using a4,by simpa using a5,a6⟩
    · cases h
end AH
