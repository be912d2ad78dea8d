import Derived.Test.YtdjcpmdjodhfeaaDoorAHDefs
/-
AH: from the model's code to compiled code.
-/
namespace AH
open Go

def fnOnly : Value → Option FuncId
  | .func (.func f) first cap => if first.size = 0 ∧ cap.size = 0 then some f else none
  | _ => none

/-- Constants. -/
def scalarV : Value → Option AV
  | .bool b => some (.bool b)
  | .int k n => some (.int k n)
  | .string s => some (.str s)
  | .pointer none => some .nilp
  | .slice none 0 0 => some .nils
  | .map none => some .nilm
  | .nilFunc => some .nilf
  | .nilIface => some .nili
  | _ => none

def ofValue : Value → Option AV
  | .agg cs => (cs.toList.mapM scalarV).map AV.agg
  | .func f first cap => match f with
    | .func g => if first.size = 0 ∧ cap.size = 0 then some (.fn g [] []) else none
    | _ => none
  | v => scalarV v

def cOpd : Operand → Option Opd
  | .tmp t => some (.t t)
  | .const v => (ofValue v).map Opd.c
  | .global _ => none
  | .func f => some (.c (.fn f [] []))

/-- The zero cells of a type. -/
def zeroCells (P : Program) (t : TypeId) : Option (List AV) := do
  let i ← P.info? t
  let z ← i.zero
  let cs ← z.cells.toList.mapM scalarV
  if cs.length = i.size then some cs else none

def isAggT (P : Program) (t : TypeId) : Bool :=
  match P.underlying t with
  | some (.struct _) => true
  | some (.array _ _) => true
  | _ => false

def zeroAV (P : Program) (t : TypeId) : Option AV := do
  let i ← P.info? t
  ofValue (← i.zero)

/-- The cells of a struct's fields, one behind the other. -/
def flatFs (g : TypeId → Option (List SK)) : List Field → Nat → Option (List SK)
  | [], _ => some []
  | f :: r, off => if f.name = "_" ∨ f.offset ≠ off then none else match g f.type with
    | some ks => if ks.length = 0 then none else (flatFs g r (off + ks.length)).map (ks ++ ·)
    | none => none

/-- A type all of whose cells are whole numbers, bools or strings, none of them hidden from '=='. -/
def flatT (P : Program) : Nat → TypeId → Option (List SK)
  | 0, _ => none
  | d + 1, t => match P.underlying t with
    | some .bool => some [.bool]
    | some (.int _) => some [.int]
    | some .string => some [.str]
    | some (.struct fs) => if P.stoodInHeld t then none else match flatFs (flatT P d) fs.toList 0 with
      | some ks => if P.cellsOf t = ks.length then some ks else none
      | none => none
    | some (.array n e) => match flatT P d e with
      | some ks => if P.cellsOf e = ks.length ∧ P.cellsOf t = n * ks.length ∧ ks.length ≠ 0 then some (List.replicate n ks).flatten else none
      | none => none
    | _ => none

def eqKind (P : Program) (t : TypeId) : Option EqK :=
  match P.underlying t with
  | some .bool => some .bool
  | some (.pointer e) => if P.cellsOf e = 0 then none else some .ptr
  | some (.interface _) => some .iface
  | some (.slice _) => some .slice
  | some (.map _ _) => some .map
  | some (.func _ _ _) => some .func
  | some (.struct _) => (flatT P 8 t).map .flat
  | some (.array _ _) => (flatT P 8 t).map .flat
  | _ => none

def keyT (P : Program) (t : TypeId) : Option KK :=
  match P.underlying t with
  | some .bool => some (.sc .bool)
  | some (.int _) => some (.sc .int)
  | some .string => some (.sc .str)
  | some (.struct _) => (flatT P 8 t).map .fl
  | some (.array _ _) => (flatT P 8 t).map .fl
  | _ => none

def isConst : Operand → Bool
  | .const _ => true
  | _ => false

def oOpd : Option Operand → Option (Option Opd)
  | none => some none
  | some x => (cOpd x).map some

def partsOf (P : Program) (t : TypeId) (parts : Array (Nat × Operand)) : Option (List (Nat × Nat × Opd)) :=
  match P.underlying t with
  | some (.struct fs) => parts.toList.mapM fun (i, x) => do
      let f ← fs[i]?
      some (f.offset, P.cellsOf f.type, ← cOpd x)
  | some (.array _ e) => parts.toList.mapM fun (i, x) => do some (i * P.cellsOf e, P.cellsOf e, ← cOpd x)
  | some (.slice e) => parts.toList.mapM fun (i, x) => do some (i * P.cellsOf e, P.cellsOf e, ← cOpd x)
  | _ => none

/-- A struct or an array, of whose parts' types there are rows. -/
def buildT (P : Program) (t : TypeId) : Bool :=
  match P.underlying t with
  | some (.struct fs) => fs.toList.all fun fd => (P.info? fd.type).isSome
  | some (.array _ e) => (P.info? e).isSome
  | _ => false

def fieldOf (P : Program) (s : TypeId) (i : Nat) : Option Field :=
  match P.underlying s with
  | some (.struct fs) => fs[i]?
  | _ => none


/-- errs: the package-level variables that hold the sentinels. -/
def cOp (P : Program) (errs : List Nat) : Op → Option (AOp Opd)
  | .move x | .assign x => do some (.mov (← cOpd x))
  | .pick c a b => do some (.pick (← cOpd c) (← cOpd a) (← cOpd b))
  | .alloc e => do some (.box (P.cellsOf e) (.c (← zeroAV P e)))
  | .box e x => do some (.box (P.cellsOf e) (← cOpd x))
  | .build t ps => do
    if buildT P t then some () else none
    some (.build (← zeroCells P t) (← partsOf P t ps))
  | .buildSlice t n ps => match P.underlying t with
    | some (.slice e) => do
      if n * P.cellsOf e > 2 ^ 24 then none
      some (.bslice (P.cellsOf e) n (← zeroCells P e) (← partsOf P t ps))
    | _ => none
  | .load t (.global g) => if errs.contains g && (!isAggT P t && (P.underlying t).isSome) then some (.loadg g) else none
  | .load t x => if (P.underlying t).isSome = false then none else do some (.load (isAggT P t) (bif isAggT P t then P.cellsOf t else 1) (← cOpd x))
  | .store t a x => if P.cellsOf t = 0 then none else do some (.store (P.cellsOf t) (← cOpd a) (← cOpd x))
  | .nilCheck x => do some (.nilchk (← cOpd x))
  | .binOp op t x y _ => match P.underlying t with
    | some (.int _) => do some (.ibin op (← cOpd x) (← cOpd y))
    | some .string => do some (.ibin op (← cOpd x) (← cOpd y))
    | _ => match op with
      | .eql => do some (.eq false (← eqKind P t) (isConst x || isConst y) (← cOpd x) (← cOpd y))
      | .neq => do some (.eq true (← eqKind P t) (isConst x || isConst y) (← cOpd x) (← cOpd y))
      | _ => none
  | .unOp op _ x => do some (.un op (← cOpd x))
  | .convert s d x => match P.underlying s, P.underlying d with
    | some (.int _), some (.int k) => do some (.i2i k (← cOpd x))
    | some .string, some .string => do some (.same (← cOpd x))
    | some .string, some (.slice e) => match P.underlying e with
      | some (.int .u8) => do some (.s2b (← cOpd x))
      | _ => none
    | some (.slice e), some .string => match P.underlying e with
      | some (.int .u8) => do some (.b2s (← cOpd x))
      | _ => none
    | _, _ => none
  | .makeInterface t x => match P.underlying t with
    | some (.interface _) => none
    | some _ => do some (.mkifc t (← cOpd x))
    | none => none
  | .makeFunc (.func f) first cap => do some (.mkfn f (← first.toList.mapM cOpd) (← cap.toList.mapM cOpd))
  | .makeMap _ none => some .mkmap
  | .makeSlice t n c => match P.underlying t with
    | some (.slice e) => do some (.mkslice (P.cellsOf e) (P.bytesOf e) (← zeroCells P e) (← cOpd n) (← cOpd c))
    | _ => none
  | .slice t x lo hi mx => match P.underlying t with
    | some (.array n e) => do if mx.isSome then none else some (.sliceArr n (P.cellsOf e) (← cOpd x) (← oOpd lo) (← oOpd hi))
    | some (.slice e) => if P.cellsOf e = 0 then none else do some (.slice (P.cellsOf e) (← cOpd x) (← oOpd lo) (← oOpd hi) (← oOpd mx))
    | some .string => do if mx.isSome then none else some (.sliceStr (← cOpd x) (← oOpd lo) (← oOpd hi))
    | _ => none
  | .fieldAddr s x i => do
    let f ← fieldOf P s i
    if P.cellsOf f.type = 0 then none else some (.faddr f.offset (← cOpd x))
  | .field s x i => do
    let f ← fieldOf P s i
    if (P.underlying f.type).isSome = false then none else some (.fld (isAggT P f.type) (bif isAggT P f.type then P.cellsOf f.type else 1) f.offset (← cOpd x))
  | .indexAddr t x i => match P.underlying t with
    | some (.array n e) => do if P.cellsOf e = 0 then none else some (.iaddrArr n (P.cellsOf e) (← cOpd x) (← cOpd i))
    | some (.slice e) => do if P.cellsOf e = 0 then none else some (.iaddrSl (P.cellsOf e) (← cOpd x) (← cOpd i))
    | _ => none
  | .index t x i => match P.underlying t with
    | some (.array n e) => if (P.underlying e).isSome = false || (!isAggT P e && P.cellsOf e != 1) then none else do some (.idxArr n (isAggT P e) (P.cellsOf e) (← cOpd x) (← cOpd i))
    | some .string => do some (.idxStr (← cOpd x) (← cOpd i))
    | _ => none
  | .lookup t x k ok => match P.underlying t with
    | some (.map kt e) => do some (.lookup (← keyT P kt) (← zeroAV P e) (← cOpd x) (← cOpd k) ok)
    | _ => none
  | .mapUpdate t m k v => match P.underlying t with
    | some (.map kt _) => do some (.mapupd (← keyT P kt) (← cOpd m) (← cOpd k) (← cOpd v))
    | _ => none
  | .insert t m k v => match P.underlying t with
    | some (.map kt _) => do some (.mapupd (← keyT P kt) (← cOpd m) (← cOpd k) (← cOpd v))
    | _ => none
  | .mapEntry t m k => match P.underlying t with
    | some (.map kt e) => do some (.mentry (← keyT P kt) (← zeroAV P e) (← cOpd m) (← cOpd k))
    | _ => none
  | .entryStore _ m s v => do some (.estore (← cOpd m) (← cOpd s) (← cOpd v))
  | .extract x i => do some (.extract (← cOpd x) i)
  | .call { callee := .builtin b, args, argTypes } => match b, args.toList, argTypes.toList with
    | .len, [x], t :: _ => match P.underlying t with
      | some (.array n _) => some (.lenArr n)
      | some (.pointer e) => match P.underlying e with
        | some (.array n _) => some (.lenArr n)
        | _ => none
      | some .string => do some (.len .str (← cOpd x))
      | some (.slice _) => do some (.len .sl (← cOpd x))
      | some (.map _ _) => do some (.len .map (← cOpd x))
      | _ => none
    | .append, [x, y], [t, u] => match P.underlying t, P.underlying u with
      | some (.slice e), some (.slice e') => if e = e' then do some (.append (P.cellsOf e) (P.bytesOf e) (← zeroCells P e) (← cOpd x) (← cOpd y)) else none
      | _, _ => none
    | .copy, [x, y], [t, u] => match P.underlying t, P.underlying u with
      | some (.slice e), some (.slice e') => if e = e' ∧ (P.underlying e).isSome = true then do some (.copy (P.cellsOf e) (← cOpd x) (← cOpd y)) else none
      | _, _ => none
    | .delete, [x, k], t :: _ => match P.underlying t with
      | some (.map kt _) => do some (.mdel (← keyT P kt) (← cOpd x) (← cOpd k))
      | _ => none
    | .min, _, _ => do some (.minmax false (← args.toList.mapM cOpd))
    | .max, _, _ => do some (.minmax true (← args.toList.mapM cOpd))
    | _, _, _ => none
  | .call { callee := .value f, args, .. } => do some (.call (← cOpd f) (← args.toList.mapM cOpd))
  | _ => none

def cOper (P : Program) (errs : List Nat) (nt : Nat) (ops : Array Oper) (o : Oper) : Option AOper := do
  let op ← cOp P errs o.op
  if o.dst.all (· < nt) then some () else none
  match o.guard with
  | none => some { dst := o.dst, guard := none, op }
  | some (j, want) => do
    let d ← (← ops[j]?).dst
    some { dst := o.dst, guard := some (d, want), op }

def onOf (o : Oper) : List Nat := (o.after.toList.filter fun e => Region.binds .any e).map (·.on)

/-- Of each operation those that come ahead of it in every order. -/
def aheadOf (ops : Array Oper) : List (List Nat) :=
  (List.range ops.size).foldl (init := []) fun acc i =>
    let on := ((ops[i]?).map onOf).getD []
    acc ++ [(on ++ (on.map fun j => acc.getD j []).flatten).eraseDups]

def closedB (ops : Array Oper) (ix : List (List Nat)) : Bool :=
  (List.range ops.size).all fun i => ((((ops[i]?).map onOf).getD []).all fun j => decide (j < i)) && (ix.getD i []).all fun j => (((ops[i]?).map onOf).getD []).contains j || (((ops[i]?).map onOf).getD []).any fun k => (ix.getD k []).contains j

def cCode (P : Program) (errs : List Nat) (nt : Nat) : Code → Option ACode
  | .skip => some .skip
  | .region _ ops draw => do
    let l ← ops.toList.mapM (cOper P errs nt ops)
    if draw then (if closedB ops (aheadOf ops) then some (.draw l (aheadOf ops)) else none) else some (.reg l)
  | .seq a b => do some (.seq (← cCode P errs nt a) (← cCode P errs nt b))
  | .cond c a b => do some (.cond (← cOpd c) (← cCode P errs nt a) (← cCode P errs nt b))
  | .block id b => do some (.block id (← cCode P errs nt b))
  | .loop b => do some (.loop (← cCode P errs nt b))
  | .exit id => some (.exit id)
  | .ret => some .ret
  | _ => none

end AH
