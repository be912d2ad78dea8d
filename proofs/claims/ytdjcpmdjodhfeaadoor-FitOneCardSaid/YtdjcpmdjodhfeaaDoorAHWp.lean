import Derived.Test.YtdjcpmdjodhfeaaDoorAHRen
namespace AH
open Go

/-- What is known of calls: function, arguments, memory, what holds behind. -/
abbrev Callee := FuncId → List AV → Mem → (AV → Mem → Prop) → Prop

/-- What code runs in: what is known of calls; of calls that change nothing, their values and the blocks they look at; how many blocks there were at the function's entry. -/
structure Ctx where
  call : Callee
  read : FuncId → List AV → (Nat → Option Blk) → Option (AV × List Nat)
  base : Nat

def AOp.call? : AOp Opd → Option (Opd × List Opd)
  | .call f args => some (f, args)
  | _ => none

def evs (tm : Tm) : List Opd → List AV
  | [] => []
  | x :: r => x.ev tm :: evs tm r

/-- Behind a call. -/
def kCall (dst : Option Nat) (tm : Tm) (K : St → Prop) (r : AV) (m : Mem) : Prop := K (St.put ⟨tm, m⟩ dst r)

def wpCall (C : Ctx) (f : AV) (args : List AV) (m : Mem) (K : AV → Mem → Prop) : Prop :=
  match f with
  | .fn g first cap => C.call g (first ++ args ++ cap) m K
  | _ => False

def wpEff (dst : Option Nat) (st : St) (K : St → Prop) : Option (Prop × Eff) → Prop
  | some (pre, e) => pre ∧ K (st.eff dst e)
  | none => False

/-- Is it asked whether a slice is nil that may be an empty one? Both answers may come. -/
def missQ : AOp AV → Bool
  | .eq _ .slice _ (.slc _ _ n _) .nils => n == 0
  | _ => false

def wpEffX (dst : Option Nat) (st : St) (K : St → Prop) (r : Option (Prop × Eff)) : Bool → Prop
  | false => wpEff dst st K r
  | true => K (st.put dst (.bool true)) ∧ K (st.put dst (.bool false))

def wpOp (C : Ctx) (dst : Option Nat) (op : AOp Opd) (st : St) (K : St → Prop) : Prop :=
  match op.call? with
  | some (f, args) => wpCall C (f.ev st.tm) (evs st.tm args) st.mem (kCall dst st.tm K)
  | none => wpEffX dst st K (bstep st.mem.length (mget st.mem) (op.map (Opd.ev st.tm))) (missQ (op.map (Opd.ev st.tm)))

/-- A guarded operation: it runs where b is what is wanted. -/
def wpG (C : Ctx) (o : AOper) (st : St) (K : St → Prop) (want : Bool) : AV → Prop
  | .bool b => (b = want → wpOp C o.dst o.op st K) ∧ (b = !want → K (st.put o.dst (.tup [])))
  | .tup [] => K (st.put o.dst (.tup []))
  | _ => False

def wpOps (C : Ctx) : List AOper → (St → Prop) → St → Prop
  | [], K, st => K st
  | o :: r, K, st => match o.guard with
    | none => wpOp C o.dst o.op st (wpOps C r K)
    | some (t, want) => wpG C o st (wpOps C r K) want (tget st.tm t)

/-- What an operation of a region with a free order looked at and wrote. -/
abbrev Log := List (Nat × List Nat × List Nat)

def noCommon : List Nat → List Nat → Bool
  | [], _ => true
  | a :: r, l => !l.contains a && noCommon r l

/-- May an operation with these steps ahead of it, this foot and these writes come behind what is logged, in any order? -/
def okLog (ahead foot wr : List Nat) : Log → Bool
  | [] => true
  | (j, f, w) :: r => (ahead.contains j || (noCommon w foot && noCommon wr f)) && okLog ahead foot wr r

def opdT : Opd → List Nat
  | .t n => [n]
  | .c _ => []

def optT : Option Opd → List Nat
  | some x => opdT x
  | none => []

/-- The temporaries that an operation reads. -/
def AOp.uses : AOp Opd → List Nat
  | .mov x | .box _ x | .load _ _ x | .nilchk x | .un _ x | .i2i _ x | .same x | .s2b x | .b2s x | .mkifc _ x | .faddr _ x | .fld _ _ _ x | .len _ x | .extract x _ => opdT x
  | .pick c a b => opdT c ++ opdT a ++ opdT b
  | .build _ ps | .bslice _ _ _ ps => (ps.map fun p => opdT p.2.2).flatten
  | .loadg _ | .mkmap | .lenArr _ => []
  | .store _ p x => opdT p ++ opdT x
  | .ibin _ x y | .eq _ _ _ x y | .iaddrArr _ _ x y | .iaddrSl _ x y | .idxArr _ _ _ x y | .idxStr x y | .append _ _ _ x y | .copy _ x y | .mdel _ x y | .mentry _ _ x y | .mkslice _ _ _ x y => opdT x ++ opdT y
  | .mkfn _ a b => (a.map opdT).flatten ++ (b.map opdT).flatten
  | .sliceArr _ _ x l h | .sliceStr x l h => opdT x ++ optT l ++ optT h
  | .slice _ x l h m => opdT x ++ optT l ++ optT h ++ optT m
  | .lookup _ _ x k _ => opdT x ++ opdT k
  | .mapupd _ x k v | .estore x k v => opdT x ++ opdT k ++ opdT v
  | .minmax _ l => (l.map opdT).flatten
  | .call g l => opdT g ++ (l.map opdT).flatten

def AOper.looks (o : AOper) : List Nat :=
  match o.guard with
  | some (t, _) => t :: o.op.uses
  | none => o.op.uses

/-- Of two operations of a region, the first ahead of the second in the list: do they share no temporary? -/
def AOper.apartT (x y : AOper) : Bool :=
  match x.dst, y.dst with
  | none, none => true
  | some d, none => !y.looks.contains d
  | none, some e => !x.looks.contains e
  | some d, some e => !y.looks.contains d && !x.looks.contains e && d != e

/-- Against those listed behind it. -/
def apartFrom (i : Nat) (x : AOper) : List AOper → List (List Nat) → Bool
  | y :: r, a :: ix => (a.contains i || x.apartT y) && apartFrom i x r ix
  | _, _ => true

def apartAll : Nat → List AOper → List (List Nat) → Bool
  | i, x :: r, _ :: ix => apartFrom i x r ix && apartAll (i + 1) r ix
  | _, _, _ => true

/-- What was looked at and written is logged, if there is any. -/
def addLog (i : Nat) (foot wr : List Nat) (lg : Log) : Log :=
  match foot with
  | [] => lg
  | _ :: _ => (i, foot, wr) :: lg

def wpRead (i : Nat) (ahead : List Nat) (lg : Log) (st : St) (dst : Option Nat) (K : Log → St → Prop) : Option (AV × List Nat) → Prop
  | some (v, foot) => okLog ahead foot [] lg = true ∧ K (addLog i foot [] lg) (st.put dst v)
  | none => False

def readOf (C : Ctx) (m : Mem) (args : List AV) : AV → Option (AV × List Nat)
  | .fn g first cap => C.read g (first ++ args ++ cap) (mget m)
  | _ => none

/-- The new block's number is named only if a block of it is made. -/
def okFresh (fresh : Nat) (e : Eff) : Bool := !e.foot.contains fresh || (e.wr.map Prod.fst).contains fresh

def wpEffD (i : Nat) (ahead : List Nat) (lg : Log) (dst : Option Nat) (st : St) (K : Log → St → Prop) : Option (Prop × Eff) → Prop
  | some (pre, e) => pre ∧ okFresh st.mem.length e = true ∧ okLog ahead (e.wr.map Prod.fst ++ e.foot) (e.wr.map Prod.fst) lg = true ∧ K (addLog i (e.wr.map Prod.fst ++ e.foot) (e.wr.map Prod.fst) lg) (st.eff dst e)
  | none => False

def wpOpD (C : Ctx) (i : Nat) (ahead : List Nat) (lg : Log) (dst : Option Nat) (op : AOp Opd) (st : St) (K : Log → St → Prop) : Prop :=
  match op.call? with
  | some (f, args) => wpRead i ahead lg st dst K (readOf C st.mem (evs st.tm args) (f.ev st.tm))
  | none => wpEffD i ahead lg dst st K (bstep st.mem.length (mget st.mem) (op.map (Opd.ev st.tm)))

def wpGD (C : Ctx) (i : Nat) (ahead : List Nat) (lg : Log) (o : AOper) (st : St) (K : Log → St → Prop) (want : Bool) : AV → Prop
  | .bool b => (b = want → wpOpD C i ahead lg o.dst o.op st K) ∧ (b = !want → K lg (st.put o.dst (.tup [])))
  | .tup [] => K lg (st.put o.dst (.tup []))
  | _ => False

/-- The operations of a region whose order is free: in the list's order, and none of them may meet another that is not ordered against it. -/
def wpDs (C : Ctx) (K : St → Prop) : Nat → List AOper → List (List Nat) → Log → St → Prop
  | i, o :: r, a :: ix, lg, st => match o.guard with
    | none => wpOpD C i a lg o.dst o.op st (wpDs C K (i + 1) r ix)
    | some (t, want) => wpGD C i a lg o st (wpDs C K (i + 1) r ix) want (tget st.tm t)
  | _, [], [], _, st => K st
  | _, _, _, _, _ => False

def thenQ (K : St → Prop) (Q : Exit → St → Prop) : Exit → St → Prop
  | .normal, st => K st
  | e, st => Q e st

def inBlk (id : Nat) (Q : Exit → St → Prop) : Exit → St → Prop
  | .exit i, st => if i = id then Q .normal st else Q (.exit i) st
  | e, st => Q e st

mutual
/-- Does a value name only blocks below n? -/
def AV.lt (n : Nat) : AV → Bool
  | .ptr id _ _ => decide (id < n)
  | .slc id _ _ _ => decide (id < n)
  | .isl id _ _ _ => decide (id < n)
  | .map id => decide (id < n)
  | .fn _ a b => AV.lts n a && AV.lts n b
  | .ifc _ v => v.lt n
  | .agg cs => AV.lts n cs
  | .tup cs => AV.lts n cs
  | _ => true
def AV.lts (n : Nat) : List AV → Bool
  | [] => true
  | v :: r => v.lt n && AV.lts n r
end

def Blk.lt (n : Nat) : Blk → Bool
  | .row _ _ es => es.all (AV.lts n)
  | .map es _ => es.all fun e => e.1.lt n && e.2.1.lt n

def memLt (n : Nat) (m : Mem) : Bool := m.all fun b => match b with
  | some b => b.lt n
  | none => true

/-- What is no longer needed is forgotten: temporaries, and blocks made since the function's entry; blocks made since then may get other numbers. -/
def Gc (base : Nat) (s s' : St) : Prop :=
  ((∀ t, tget s'.tm t = .undef ∨ tget s'.tm t = tget s.tm t) ∧
  (s'.mem = s.mem ∨ (base ≤ s'.mem.length ∧ s'.mem = s.mem.take s'.mem.length ∧ memLt s'.mem.length s'.mem = true ∧ ∀ t, (tget s'.tm t).lt s'.mem.length = true))) ∨
  ∃ l : List Nat, heads base 0 l = true ∧ distN l = true ∧ packB l s.mem l = true ∧ s'.mem = packM l s.mem l ∧
    ∀ t, tget s'.tm t = .undef ∨ ((tget s.tm t).inB (inN l) = true ∧ tget s'.tm t = (tget s.tm t).ren (posN l))

def gcX (base : Nat) (X : St → Prop) (s : St) : Prop := ∃ s', Gc base s s' ∧ X s'

def LoopA (F : (St → Prop) → St → Prop) (st : St) : Prop := ∀ X : St → Prop, (∀ s, F X s → X s) → X st

def wpC (X Y : St → Prop) (st : St) : AV → Prop
  | .bool t => (t = true → X st) ∧ (t = false → Y st)
  | _ => False

def wpA (C : Ctx) : ACode → (Exit → St → Prop) → St → Prop
  | .skip, Q, st => Q .normal st
  | .reg ops, Q, st => wpOps C ops (Q .normal) st
  | .draw ops ix, Q, st => apartAll 0 ops ix = true ∧ wpDs C (Q .normal) 0 ops ix [] st
  | .seq a b, Q, st => wpA C a (thenQ (wpA C b Q) Q) st
  | .cond c a b, Q, st => wpC (wpA C a Q) (wpA C b Q) st (c.ev st.tm)
  | .block id b, Q, st => wpA C b (inBlk id Q) st
  | .loop b, Q, st => gcX C.base (LoopA fun X s => wpA C b (thenQ (gcX C.base X) Q) s) st
  | .exit id, Q, st => Q (.exit id) st
  | .ret, Q, st => Q .ret st

section
variable {C : Ctx} {Q : Exit → St → Prop} {st : St}
theorem wpA_skip : wpA C .skip Q st = Q .normal st := rfl
theorem wpA_reg {ops : List AOper} : wpA C (.reg ops) Q st = wpOps C ops (Q .normal) st := rfl
theorem wpA_draw {ops : List AOper} {ix : List (List Nat)} : wpA C (.draw ops ix) Q st = (apartAll 0 ops ix = true ∧ wpDs C (Q .normal) 0 ops ix [] st) := rfl
theorem wpA_seq {a b : ACode} : wpA C (.seq a b) Q st = wpA C a (thenQ (wpA C b Q) Q) st := rfl
theorem wpA_cond {c : Opd} {a b : ACode} : wpA C (.cond c a b) Q st = wpC (wpA C a Q) (wpA C b Q) st (c.ev st.tm) := rfl
theorem wpA_block {id : Nat} {b : ACode} : wpA C (.block id b) Q st = wpA C b (inBlk id Q) st := rfl
theorem wpA_exit {id : Nat} : wpA C (.exit id) Q st = Q (.exit id) st := rfl
theorem wpA_ret : wpA C .ret Q st = Q .ret st := rfl
theorem thenQ_normal {K : St → Prop} : thenQ K Q .normal st = K st := rfl
theorem thenQ_exit {K : St → Prop} {i : Nat} : thenQ K Q (.exit i) st = Q (.exit i) st := rfl
theorem thenQ_ret {K : St → Prop} : thenQ K Q .ret st = Q .ret st := rfl
theorem inBlk_normal {i : Nat} : inBlk i Q .normal st = Q .normal st := rfl
theorem inBlk_exit {i j : Nat} : inBlk i Q (.exit j) st = if j = i then Q .normal st else Q (.exit j) st := rfl
theorem inBlk_ret {i : Nat} : inBlk i Q .ret st = Q .ret st := rfl
theorem kCall_eq {dst : Option Nat} {tm : Tm} {K : St → Prop} {r : AV} {m : Mem} : kCall dst tm K r m = K (St.put ⟨tm, m⟩ dst r) := rfl
theorem wpEff_some {dst : Option Nat} {K : St → Prop} {p : Prop} {e : Eff} : wpEff dst st K (some (p, e)) = (p ∧ K (st.eff dst e)) := rfl
theorem wpEffX_false {dst : Option Nat} {K : St → Prop} {r : Option (Prop × Eff)} : wpEffX dst st K r false = wpEff dst st K r := rfl
theorem wpEffX_true {dst : Option Nat} {K : St → Prop} {r : Option (Prop × Eff)} : wpEffX dst st K r true = (K (st.put dst (.bool true)) ∧ K (st.put dst (.bool false))) := rfl
theorem wpOp_call {dst : Option Nat} {f : Opd} {args : List Opd} {K : St → Prop} : wpOp C dst (.call f args) st K = wpCall C (f.ev st.tm) (evs st.tm args) st.mem (kCall dst st.tm K) := rfl
theorem wpCall_fn {g : FuncId} {first cap args : List AV} {m : Mem} {K : AV → Mem → Prop} : wpCall C (.fn g first cap) args m K = C.call g (first ++ args ++ cap) m K := rfl
end
theorem wpC_true {X Y : St → Prop} {st : St} : wpC X Y st (.bool true) = X st := by simp [wpC]
theorem wpC_false {X Y : St → Prop} {st : St} : wpC X Y st (.bool false) = Y st := by simp [wpC]
theorem wpG_tt {C : Ctx} {o : AOper} {st : St} {K : St → Prop} : wpG C o st K true (.bool true) = wpOp C o.dst o.op st K := by simp [wpG]
theorem wpG_ff {C : Ctx} {o : AOper} {st : St} {K : St → Prop} : wpG C o st K false (.bool false) = wpOp C o.dst o.op st K := by simp [wpG]
theorem wpG_tf {C : Ctx} {o : AOper} {st : St} {K : St → Prop} : wpG C o st K true (.bool false) = K (st.put o.dst (.tup [])) := by simp [wpG]
theorem wpG_ft {C : Ctx} {o : AOper} {st : St} {K : St → Prop} : wpG C o st K false (.bool true) = K (st.put o.dst (.tup [])) := by simp [wpG]
theorem wpG_tu {C : Ctx} {o : AOper} {st : St} {K : St → Prop} {w : Bool} : wpG C o st K w (.tup []) = K (st.put o.dst (.tup [])) := by simp [wpG]
theorem wpOps_nil {C : Ctx} {K : St → Prop} {st : St} : wpOps C [] K st = K st := rfl
theorem wpOps_plain {C : Ctx} {d : Option Nat} {op : AOp Opd} {r : List AOper} {K : St → Prop} {st : St} : wpOps C (⟨d, none, op⟩ :: r) K st = wpOp C d op st (wpOps C r K) := rfl
theorem wpOps_guard {C : Ctx} {d : Option Nat} {t : Nat} {w : Bool} {op : AOp Opd} {r : List AOper} {K : St → Prop} {st : St} : wpOps C (⟨d, some (t, w), op⟩ :: r) K st = wpG C ⟨d, some (t, w), op⟩ st (wpOps C r K) w (tget st.tm t) := rfl

inductive RV where
  | tmp (t : Nat)
  | cell (t : Nat) (agg : Bool) (n : Nat)

structure AFun where
  ntmps : Nat
  nargs : Nat
  results : List RV
  body : ACode

def rvs (st : St) : List RV → Option (Prop × List AV)
  | [] => some (True, [])
  | .tmp t :: r => (rvs st r).map fun x => (x.1, tget st.tm t :: x.2)
  | .cell t agg n :: r => match bstep 0 (mget st.mem) (.load agg n (tget st.tm t)), rvs st r with
    | some (p, e), some x => some (p ∧ x.1, e.val :: x.2)
    | _, _ => none

def retV (K : AV → Mem → Prop) (m : Mem) : Option (Prop × List AV) → Prop
  | some (p, [v]) => p ∧ K v m
  | some (p, vs) => p ∧ K (.tup vs) m
  | none => False

def retQ (rs : List RV) (K : AV → Mem → Prop) : Exit → St → Prop
  | .normal, st => retV K st.mem (rvs st rs)
  | .ret, st => retV K st.mem (rvs st rs)
  | _, _ => False

def argTm : Nat → List AV → Tm
  | _, [] => []
  | i, v :: r => (i, v) :: argTm (i + 1) r

def wpF (C : Ctx) (f : AFun) (args : List AV) (m : Mem) (K : AV → Mem → Prop) : Prop :=
  args.length = f.nargs ∧ wpA { C with base := m.length } f.body (retQ f.results K) ⟨argTm 0 args, m⟩

end AH
