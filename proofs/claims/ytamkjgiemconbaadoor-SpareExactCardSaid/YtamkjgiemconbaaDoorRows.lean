/-
  NARROWER THAN 'FOR EVERY INPUT', by the rows' own cells (each row's printed sentence says how): VictimFair: laid · VictimNone: laid · SpareForced: laid · SpareExact: laid · KinExact: laid · KinOrder: laid · KinDown: laid.
  DERIVED. THE GIVEN ROWS OF THIS SEAT. 7 by the template 'for every input the law returns true; each argument reads behind the call as it read before'; 0 by the template 'total and deterministic' (their statements: YtamkjgiemconbaaDoorTotals.lean).
  GIVEN WITH THE SEED: the statements are not yours to turn. If you find one false, say at which input.
  Laid BY PROGRAM, IN A SANDBOX (cutbox-rows.mjs): the forced cells as the released guide's own fill.sh prints them over the translation d3a8447e65cfff12… (all of the seat's roots in one cut). By AI agents, Wed Nov 11 2026. No macro, syntax, notation, axiom, sorry.
-/
import Derived.Test.YtamkjgiemconbaaDoorChecked
import GoSem.Claim
import GoSem.ClaimJoined
import GoSem.ClaimMapViews
import Derived.JoinedTies
import Derived.KernelRfl
namespace Go.Proofs.YtamkjgiemconbaaDoor
/- THE CELL 'sum', in the pinned program and in every row, IS THE sha256 OF THE DUMP (.gsa) THAT YtamkjgiemconbaaDoorProg.lean LOADS. Nothing in Lean hashes anything: it is a label: what it is worth is what the hold of that sum in a sandbox is worth. -/
noncomputable def Tryd.pinned : Pinned := { name := "ytamkjgiemconbaadoor", sum := "d3a8447e65cfff121899f1394d6e3a656140d52f701ba379be575cc03187ba11", checked := Tryd.checked }
namespace Rows
def none {H : Type} : Left H := { results := [], args := [] }

/- WHAT THE LISTED PACKAGE-LEVEL VARIABLES READ AS WHEN THE CALL BEGINS. Each datum BY PROGRAM (the guide's laid-datum.mjs) off the statement by which the dump's own 'gosem.cut.vars' lays the variable. In a bare row this is a premise. The card (YtamkjgiemconbaaDoorCards.lean) ties it to the program's text. -/
def laid_quitrent_api_ErrArg {H : Type} : DataW H := .iface "*errors.errorString" (.ptr (.agg [.lit (.string [97, 110, 32, 97, 114, 103, 117, 109, 101, 110, 116, 32, 116, 104, 97, 116, 32, 99, 97, 110, 39, 116, 32, 98, 101])]))
def laid_quitrent_api_ErrNil {H : Type} : DataW H := .iface "*errors.errorString" (.ptr (.agg [.lit (.string [97, 32, 110, 105, 108, 32, 116, 104, 105, 110, 103])]))
def laid_quitrent_api_ErrForm {H : Type} : DataW H := .iface "*errors.errorString" (.ptr (.agg [.lit (.string [98, 121, 116, 101, 115, 32, 111, 102, 32, 110, 111, 32, 102, 111, 114, 109])]))
def laid_quitrent_api_ErrOver {H : Type} : DataW H := .iface "*errors.errorString" (.ptr (.agg [.lit (.string [97, 32, 110, 117, 109, 98, 101, 114, 32, 116, 104, 97, 116, 32, 105, 115, 32, 116, 111, 111, 32, 103, 114, 101, 97, 116, 44, 32, 111, 114, 32, 98, 101, 108, 111, 119, 32, 110, 111, 116, 104, 105, 110, 103])]))
def laid_quitrent_api_ErrNone {H : Type} : DataW H := .iface "*errors.errorString" (.ptr (.agg [.lit (.string [116, 104, 101, 114, 101, 32, 105, 115, 32, 110, 111, 110, 101])]))
def laid_quitrent_api_ErrDup {H : Type} : DataW H := .iface "*errors.errorString" (.ptr (.agg [.lit (.string [116, 104, 101, 114, 101, 32, 105, 115, 32, 111, 110, 101])]))
def laid_quitrent_api_ErrFull {H : Type} : DataW H := .iface "*errors.errorString" (.ptr (.agg [.lit (.string [116, 104, 101, 114, 101, 32, 97, 114, 101, 32, 116, 111, 111, 32, 109, 97, 110, 121])]))
def laid_quitrent_api_ErrQuota {H : Type} : DataW H := .iface "*errors.errorString" (.ptr (.agg [.lit (.string [116, 111, 111, 32, 108, 105, 116, 116, 108, 101, 32, 113, 117, 111, 116, 97])]))
def laid_quitrent_api_ErrCeil {H : Type} : DataW H := .iface "*errors.errorString" (.ptr (.agg [.lit (.string [109, 111, 114, 101, 32, 116, 104, 97, 110, 32, 109, 97, 121, 32, 98, 101, 32, 103, 105, 118, 101, 110, 32, 111, 117, 116])]))
def laid_quitrent_api_ErrRoom {H : Type} : DataW H := .iface "*errors.errorString" (.ptr (.agg [.lit (.string [110, 111, 32, 109, 97, 99, 104, 105, 110, 101, 32, 104, 97, 115, 32, 114, 111, 111, 109])]))
def laid_quitrent_api_ErrBudget {H : Type} : DataW H := .iface "*errors.errorString" (.ptr (.agg [.lit (.string [116, 111, 111, 32, 109, 97, 110, 121, 32, 101, 118, 105, 99, 116, 105, 111, 110, 115, 32, 111, 102, 32, 97, 32, 106, 111, 98])]))
def laid_quitrent_api_ErrFunds {H : Type} : DataW H := .iface "*errors.errorString" (.ptr (.agg [.lit (.string [116, 111, 111, 32, 108, 105, 116, 116, 108, 101, 32, 99, 114, 101, 100, 105, 116])]))
def laid_quitrent_api_ErrState {H : Type} : DataW H := .iface "*errors.errorString" (.ptr (.agg [.lit (.string [110, 111, 116, 32, 110, 111, 119])]))
def laid_quitrent_api_ErrDown {H : Type} : DataW H := .iface "*errors.errorString" (.ptr (.agg [.lit (.string [116, 104, 101, 32, 112, 111, 119, 101, 114, 32, 105, 115, 32, 97, 119, 97, 121])]))

/-- 'quitrentlaw20.VictimFair': WHATEVER THE INPUT: true; the input reads as it did. -/
def victimFairSpec : ChangeSpec := { name := "victimFair", fn := fun _ => fun
  | [d1, d2, d3, d4] => { results := [.lit (.bool true)], args := [d1, d2, d3, d4] }
  | _ => none }
def victimFairRow : OpenClaim := { program := "ytamkjgiemconbaadoor", sum := "d3a8447e65cfff121899f1394d6e3a656140d52f701ba379be575cc03187ba11", func := "quitrent/quitrentlaw20.VictimFair", spec := "victimFair", inPlace := ["internal/reflectlite.TypeOf"], unfollowed := true, recurses := true, named := ["quitrent/api.ErrArg", "quitrent/api.ErrBudget", "quitrent/api.ErrRoom", "quitrent/api.ErrOver", "quitrent/api.ErrNil", "quitrent/api.ErrForm", "quitrent/api.ErrNone", "quitrent/api.ErrDup", "quitrent/api.ErrFull", "quitrent/api.ErrQuota", "quitrent/api.ErrCeil", "quitrent/api.ErrFunds", "quitrent/api.ErrState", "quitrent/api.ErrDown"], plainKeys := false, apart := false, laid := [("quitrent/api.ErrArg", laid_quitrent_api_ErrArg), ("quitrent/api.ErrNil", laid_quitrent_api_ErrNil), ("quitrent/api.ErrForm", laid_quitrent_api_ErrForm), ("quitrent/api.ErrOver", laid_quitrent_api_ErrOver), ("quitrent/api.ErrNone", laid_quitrent_api_ErrNone), ("quitrent/api.ErrDup", laid_quitrent_api_ErrDup), ("quitrent/api.ErrFull", laid_quitrent_api_ErrFull), ("quitrent/api.ErrQuota", laid_quitrent_api_ErrQuota), ("quitrent/api.ErrCeil", laid_quitrent_api_ErrCeil), ("quitrent/api.ErrRoom", laid_quitrent_api_ErrRoom), ("quitrent/api.ErrBudget", laid_quitrent_api_ErrBudget), ("quitrent/api.ErrFunds", laid_quitrent_api_ErrFunds), ("quitrent/api.ErrState", laid_quitrent_api_ErrState), ("quitrent/api.ErrDown", laid_quitrent_api_ErrDown)] }
def VictimFairSaid : Prop := victimFairRow.holds Tryd.pinned (OpenSpec.ofChange victimFairSpec)

/-- ITS FALSE NEIGHBOUR: 'it returns false'. Refute it at one input. -/
def victimFairWrong : ChangeSpec := { name := "victimFair", fn := fun _ => fun
  | [d1, d2, d3, d4] => { results := [.lit (.bool false)], args := [d1, d2, d3, d4] }
  | _ => none }
def VictimFairWrongFalsely : Prop := victimFairRow.holds Tryd.pinned (OpenSpec.ofChange victimFairWrong)

/-- 'quitrentlaw20.VictimNone': WHATEVER THE INPUT: true; the input reads as it did. -/
def victimNoneSpec : ChangeSpec := { name := "victimNone", fn := fun _ => fun
  | [d1, d2, d3] => { results := [.lit (.bool true)], args := [d1, d2, d3] }
  | _ => none }
def victimNoneRow : OpenClaim := { program := "ytamkjgiemconbaadoor", sum := "d3a8447e65cfff121899f1394d6e3a656140d52f701ba379be575cc03187ba11", func := "quitrent/quitrentlaw20.VictimNone", spec := "victimNone", inPlace := ["internal/reflectlite.TypeOf"], unfollowed := true, recurses := true, named := ["quitrent/api.ErrArg", "quitrent/api.ErrBudget", "quitrent/api.ErrRoom", "quitrent/api.ErrOver", "quitrent/api.ErrNil", "quitrent/api.ErrForm", "quitrent/api.ErrNone", "quitrent/api.ErrDup", "quitrent/api.ErrFull", "quitrent/api.ErrQuota", "quitrent/api.ErrCeil", "quitrent/api.ErrFunds", "quitrent/api.ErrState", "quitrent/api.ErrDown"], plainKeys := false, apart := false, laid := [("quitrent/api.ErrArg", laid_quitrent_api_ErrArg), ("quitrent/api.ErrNil", laid_quitrent_api_ErrNil), ("quitrent/api.ErrForm", laid_quitrent_api_ErrForm), ("quitrent/api.ErrOver", laid_quitrent_api_ErrOver), ("quitrent/api.ErrNone", laid_quitrent_api_ErrNone), ("quitrent/api.ErrDup", laid_quitrent_api_ErrDup), ("quitrent/api.ErrFull", laid_quitrent_api_ErrFull), ("quitrent/api.ErrQuota", laid_quitrent_api_ErrQuota), ("quitrent/api.ErrCeil", laid_quitrent_api_ErrCeil), ("quitrent/api.ErrRoom", laid_quitrent_api_ErrRoom), ("quitrent/api.ErrBudget", laid_quitrent_api_ErrBudget), ("quitrent/api.ErrFunds", laid_quitrent_api_ErrFunds), ("quitrent/api.ErrState", laid_quitrent_api_ErrState), ("quitrent/api.ErrDown", laid_quitrent_api_ErrDown)] }
def VictimNoneSaid : Prop := victimNoneRow.holds Tryd.pinned (OpenSpec.ofChange victimNoneSpec)

/-- ITS FALSE NEIGHBOUR: 'it returns false'. Refute it at one input. -/
def victimNoneWrong : ChangeSpec := { name := "victimNone", fn := fun _ => fun
  | [d1, d2, d3] => { results := [.lit (.bool false)], args := [d1, d2, d3] }
  | _ => none }
def VictimNoneWrongFalsely : Prop := victimNoneRow.holds Tryd.pinned (OpenSpec.ofChange victimNoneWrong)

/-- 'quitrentlaw19.SpareForced': WHATEVER THE INPUT: true; the input reads as it did. -/
def spareForcedSpec : ChangeSpec := { name := "spareForced", fn := fun _ => fun
  | [d1, d2] => { results := [.lit (.bool true)], args := [d1, d2] }
  | _ => none }
def spareForcedRow : OpenClaim := { program := "ytamkjgiemconbaadoor", sum := "d3a8447e65cfff121899f1394d6e3a656140d52f701ba379be575cc03187ba11", func := "quitrent/quitrentlaw19.SpareForced", spec := "spareForced", unfollowed := true, recurses := true, named := ["quitrent/api.ErrNil"], plainKeys := false, apart := false, laid := [("quitrent/api.ErrNil", laid_quitrent_api_ErrNil)] }
def SpareForcedSaid : Prop := spareForcedRow.holds Tryd.pinned (OpenSpec.ofChange spareForcedSpec)

/-- ITS FALSE NEIGHBOUR: 'it returns false'. Refute it at one input. -/
def spareForcedWrong : ChangeSpec := { name := "spareForced", fn := fun _ => fun
  | [d1, d2] => { results := [.lit (.bool false)], args := [d1, d2] }
  | _ => none }
def SpareForcedWrongFalsely : Prop := spareForcedRow.holds Tryd.pinned (OpenSpec.ofChange spareForcedWrong)

/-- 'quitrentlaw19.SpareExact': WHATEVER THE INPUT: true; the input reads as it did. -/
def spareExactSpec : ChangeSpec := { name := "spareExact", fn := fun _ => fun
  | [d1, d2] => { results := [.lit (.bool true)], args := [d1, d2] }
  | _ => none }
def spareExactRow : OpenClaim := { program := "ytamkjgiemconbaadoor", sum := "d3a8447e65cfff121899f1394d6e3a656140d52f701ba379be575cc03187ba11", func := "quitrent/quitrentlaw19.SpareExact", spec := "spareExact", inPlace := ["internal/reflectlite.TypeOf"], unfollowed := true, recurses := true, named := ["quitrent/api.ErrNil"], plainKeys := false, apart := false, laid := [("quitrent/api.ErrNil", laid_quitrent_api_ErrNil)] }
def SpareExactSaid : Prop := spareExactRow.holds Tryd.pinned (OpenSpec.ofChange spareExactSpec)

/-- ITS FALSE NEIGHBOUR: 'it returns false'. Refute it at one input. -/
def spareExactWrong : ChangeSpec := { name := "spareExact", fn := fun _ => fun
  | [d1, d2] => { results := [.lit (.bool false)], args := [d1, d2] }
  | _ => none }
def SpareExactWrongFalsely : Prop := spareExactRow.holds Tryd.pinned (OpenSpec.ofChange spareExactWrong)

/-- 'quitrentlaw08.KinExact': WHATEVER THE INPUT: true; the input reads as it did. -/
def kinExactSpec : ChangeSpec := { name := "kinExact", fn := fun _ => fun
  | [d] => { results := [.lit (.bool true)], args := [d] }
  | _ => none }
def kinExactRow : OpenClaim := { program := "ytamkjgiemconbaadoor", sum := "d3a8447e65cfff121899f1394d6e3a656140d52f701ba379be575cc03187ba11", func := "quitrent/quitrentlaw08.KinExact", spec := "kinExact", inPlace := ["internal/reflectlite.TypeOf"], unfollowed := true, recurses := true, named := ["quitrent/api.ErrNil", "quitrent/api.ErrArg", "quitrent/api.ErrDup", "quitrent/api.ErrNone", "quitrent/api.ErrFull", "quitrent/api.ErrForm", "quitrent/api.ErrOver", "quitrent/api.ErrQuota", "quitrent/api.ErrCeil", "quitrent/api.ErrRoom", "quitrent/api.ErrBudget", "quitrent/api.ErrFunds", "quitrent/api.ErrState", "quitrent/api.ErrDown"], plainKeys := false, apart := false, laid := [("quitrent/api.ErrArg", laid_quitrent_api_ErrArg), ("quitrent/api.ErrNil", laid_quitrent_api_ErrNil), ("quitrent/api.ErrForm", laid_quitrent_api_ErrForm), ("quitrent/api.ErrOver", laid_quitrent_api_ErrOver), ("quitrent/api.ErrNone", laid_quitrent_api_ErrNone), ("quitrent/api.ErrDup", laid_quitrent_api_ErrDup), ("quitrent/api.ErrFull", laid_quitrent_api_ErrFull), ("quitrent/api.ErrQuota", laid_quitrent_api_ErrQuota), ("quitrent/api.ErrCeil", laid_quitrent_api_ErrCeil), ("quitrent/api.ErrRoom", laid_quitrent_api_ErrRoom), ("quitrent/api.ErrBudget", laid_quitrent_api_ErrBudget), ("quitrent/api.ErrFunds", laid_quitrent_api_ErrFunds), ("quitrent/api.ErrState", laid_quitrent_api_ErrState), ("quitrent/api.ErrDown", laid_quitrent_api_ErrDown)] }
def KinExactSaid : Prop := kinExactRow.holds Tryd.pinned (OpenSpec.ofChange kinExactSpec)

/-- ITS FALSE NEIGHBOUR: 'it returns false'. Refute it at one input. -/
def kinExactWrong : ChangeSpec := { name := "kinExact", fn := fun _ => fun
  | [d] => { results := [.lit (.bool false)], args := [d] }
  | _ => none }
def KinExactWrongFalsely : Prop := kinExactRow.holds Tryd.pinned (OpenSpec.ofChange kinExactWrong)

/-- 'quitrentlaw08.KinOrder': WHATEVER THE INPUT: true; the input reads as it did. -/
def kinOrderSpec : ChangeSpec := { name := "kinOrder", fn := fun _ => fun
  | [d1, d2, d3, d4] => { results := [.lit (.bool true)], args := [d1, d2, d3, d4] }
  | _ => none }
def kinOrderRow : OpenClaim := { program := "ytamkjgiemconbaadoor", sum := "d3a8447e65cfff121899f1394d6e3a656140d52f701ba379be575cc03187ba11", func := "quitrent/quitrentlaw08.KinOrder", spec := "kinOrder", inPlace := ["internal/reflectlite.TypeOf"], unfollowed := true, recurses := true, named := ["quitrent/api.ErrNil", "quitrent/api.ErrArg", "quitrent/api.ErrDup", "quitrent/api.ErrNone", "quitrent/api.ErrFull", "quitrent/api.ErrForm", "quitrent/api.ErrOver", "quitrent/api.ErrQuota", "quitrent/api.ErrCeil", "quitrent/api.ErrRoom", "quitrent/api.ErrBudget", "quitrent/api.ErrFunds", "quitrent/api.ErrState", "quitrent/api.ErrDown"], plainKeys := false, apart := false, laid := [("quitrent/api.ErrArg", laid_quitrent_api_ErrArg), ("quitrent/api.ErrNil", laid_quitrent_api_ErrNil), ("quitrent/api.ErrForm", laid_quitrent_api_ErrForm), ("quitrent/api.ErrOver", laid_quitrent_api_ErrOver), ("quitrent/api.ErrNone", laid_quitrent_api_ErrNone), ("quitrent/api.ErrDup", laid_quitrent_api_ErrDup), ("quitrent/api.ErrFull", laid_quitrent_api_ErrFull), ("quitrent/api.ErrQuota", laid_quitrent_api_ErrQuota), ("quitrent/api.ErrCeil", laid_quitrent_api_ErrCeil), ("quitrent/api.ErrRoom", laid_quitrent_api_ErrRoom), ("quitrent/api.ErrBudget", laid_quitrent_api_ErrBudget), ("quitrent/api.ErrFunds", laid_quitrent_api_ErrFunds), ("quitrent/api.ErrState", laid_quitrent_api_ErrState), ("quitrent/api.ErrDown", laid_quitrent_api_ErrDown)] }
def KinOrderSaid : Prop := kinOrderRow.holds Tryd.pinned (OpenSpec.ofChange kinOrderSpec)

/-- ITS FALSE NEIGHBOUR: 'it returns false'. Refute it at one input. -/
def kinOrderWrong : ChangeSpec := { name := "kinOrder", fn := fun _ => fun
  | [d1, d2, d3, d4] => { results := [.lit (.bool false)], args := [d1, d2, d3, d4] }
  | _ => none }
def KinOrderWrongFalsely : Prop := kinOrderRow.holds Tryd.pinned (OpenSpec.ofChange kinOrderWrong)

/-- 'quitrentlaw08.KinDown': WHATEVER THE INPUT: true; the input reads as it did. -/
def kinDownSpec : ChangeSpec := { name := "kinDown", fn := fun _ => fun
  | [d] => { results := [.lit (.bool true)], args := [d] }
  | _ => none }
def kinDownRow : OpenClaim := { program := "ytamkjgiemconbaadoor", sum := "d3a8447e65cfff121899f1394d6e3a656140d52f701ba379be575cc03187ba11", func := "quitrent/quitrentlaw08.KinDown", spec := "kinDown", inPlace := ["internal/reflectlite.TypeOf"], unfollowed := true, recurses := true, named := ["quitrent/api.ErrNil", "quitrent/api.ErrArg", "quitrent/api.ErrDup", "quitrent/api.ErrNone", "quitrent/api.ErrFull", "quitrent/api.ErrForm", "quitrent/api.ErrOver", "quitrent/api.ErrQuota", "quitrent/api.ErrCeil", "quitrent/api.ErrRoom", "quitrent/api.ErrBudget", "quitrent/api.ErrFunds", "quitrent/api.ErrState", "quitrent/api.ErrDown"], plainKeys := false, apart := false, laid := [("quitrent/api.ErrArg", laid_quitrent_api_ErrArg), ("quitrent/api.ErrNil", laid_quitrent_api_ErrNil), ("quitrent/api.ErrForm", laid_quitrent_api_ErrForm), ("quitrent/api.ErrOver", laid_quitrent_api_ErrOver), ("quitrent/api.ErrNone", laid_quitrent_api_ErrNone), ("quitrent/api.ErrDup", laid_quitrent_api_ErrDup), ("quitrent/api.ErrFull", laid_quitrent_api_ErrFull), ("quitrent/api.ErrQuota", laid_quitrent_api_ErrQuota), ("quitrent/api.ErrCeil", laid_quitrent_api_ErrCeil), ("quitrent/api.ErrRoom", laid_quitrent_api_ErrRoom), ("quitrent/api.ErrBudget", laid_quitrent_api_ErrBudget), ("quitrent/api.ErrFunds", laid_quitrent_api_ErrFunds), ("quitrent/api.ErrState", laid_quitrent_api_ErrState), ("quitrent/api.ErrDown", laid_quitrent_api_ErrDown)] }
def KinDownSaid : Prop := kinDownRow.holds Tryd.pinned (OpenSpec.ofChange kinDownSpec)

/-- ITS FALSE NEIGHBOUR: 'it returns false'. Refute it at one input. -/
def kinDownWrong : ChangeSpec := { name := "kinDown", fn := fun _ => fun
  | [d] => { results := [.lit (.bool false)], args := [d] }
  | _ => none }
def KinDownWrongFalsely : Prop := kinDownRow.holds Tryd.pinned (OpenSpec.ofChange kinDownWrong)

/- THE SECOND FORM. 'bulk': how many values and letters a reading holds, each counted each time it is reached (what is shared counts as often as it is met; a slice's spare places count too). A statement '..UptoSaid' is the law's where the arguments, and the package variables that the reading takes, are together of bulk at most 1048576: NARROWER than '..Said'. Prove '..Said' where nothing that the law and all that it calls make is longer than what came in: it says more and counts as full. Else prove '..UptoSaid'. A law counts once. -/
mutual
def uptoBulk {H : Type} : DataW H → Nat
  | .lit (.string bytes) => bytes.length + 1
  | .lit _ => 1
  | .nil => 1
  | .ptr d => uptoBulk d + 1
  | .slice elems spare => uptoBulkAll elems + uptoBulkAll spare + 1
  | .agg parts => uptoBulkAll parts + 1
  | .iface _ d => uptoBulk d + 1
  | .map entries => uptoBulkEntries entries + 1
  | .held _ => 1
def uptoBulkAll {H : Type} : List (DataW H) → Nat
  | [] => 0
  | d :: r => uptoBulk d + uptoBulkAll r
def uptoBulkEntries {H : Type} : List (Lit × DataW H) → Nat
  | [] => 0
  | x :: r => uptoBulkEntry x + uptoBulkEntries r
def uptoBulkEntry {H : Type} : Lit × DataW H → Nat
  | (.string bytes, d) => bytes.length + uptoBulk d + 1
  | (_, d) => uptoBulk d + 1
 end
def uptoSmall : (H : Type) → List (DataW H) → Bool := fun _ ds => decide (uptoBulkAll ds ≤ 1048576)
def OpenSpec.upto (s : _root_.Go.ChangeSpec) : _root_.Go.OpenSpec := { _root_.Go.OpenSpec.ofChange s with cond := some uptoSmall }

/-- 'quitrentlaw20.VictimFair', WHERE WHAT IT READS IS OF BULK AT MOST 1048576: true; the input reads as it did. -/
def victimFairUptoRow : OpenClaim := { program := "ytamkjgiemconbaadoor", sum := "d3a8447e65cfff121899f1394d6e3a656140d52f701ba379be575cc03187ba11", func := "quitrent/quitrentlaw20.VictimFair", spec := "victimFair", inPlace := ["internal/reflectlite.TypeOf"], unfollowed := true, recurses := true, named := ["quitrent/api.ErrArg", "quitrent/api.ErrBudget", "quitrent/api.ErrRoom", "quitrent/api.ErrOver", "quitrent/api.ErrNil", "quitrent/api.ErrForm", "quitrent/api.ErrNone", "quitrent/api.ErrDup", "quitrent/api.ErrFull", "quitrent/api.ErrQuota", "quitrent/api.ErrCeil", "quitrent/api.ErrFunds", "quitrent/api.ErrState", "quitrent/api.ErrDown"], plainKeys := false, apart := false, laid := [("quitrent/api.ErrArg", laid_quitrent_api_ErrArg), ("quitrent/api.ErrNil", laid_quitrent_api_ErrNil), ("quitrent/api.ErrForm", laid_quitrent_api_ErrForm), ("quitrent/api.ErrOver", laid_quitrent_api_ErrOver), ("quitrent/api.ErrNone", laid_quitrent_api_ErrNone), ("quitrent/api.ErrDup", laid_quitrent_api_ErrDup), ("quitrent/api.ErrFull", laid_quitrent_api_ErrFull), ("quitrent/api.ErrQuota", laid_quitrent_api_ErrQuota), ("quitrent/api.ErrCeil", laid_quitrent_api_ErrCeil), ("quitrent/api.ErrRoom", laid_quitrent_api_ErrRoom), ("quitrent/api.ErrBudget", laid_quitrent_api_ErrBudget), ("quitrent/api.ErrFunds", laid_quitrent_api_ErrFunds), ("quitrent/api.ErrState", laid_quitrent_api_ErrState), ("quitrent/api.ErrDown", laid_quitrent_api_ErrDown)], narrowed := true }
def VictimFairUptoSaid : Prop := victimFairUptoRow.holds Tryd.pinned (OpenSpec.upto victimFairSpec)

/-- 'quitrentlaw20.VictimNone', WHERE WHAT IT READS IS OF BULK AT MOST 1048576: true; the input reads as it did. -/
def victimNoneUptoRow : OpenClaim := { program := "ytamkjgiemconbaadoor", sum := "d3a8447e65cfff121899f1394d6e3a656140d52f701ba379be575cc03187ba11", func := "quitrent/quitrentlaw20.VictimNone", spec := "victimNone", inPlace := ["internal/reflectlite.TypeOf"], unfollowed := true, recurses := true, named := ["quitrent/api.ErrArg", "quitrent/api.ErrBudget", "quitrent/api.ErrRoom", "quitrent/api.ErrOver", "quitrent/api.ErrNil", "quitrent/api.ErrForm", "quitrent/api.ErrNone", "quitrent/api.ErrDup", "quitrent/api.ErrFull", "quitrent/api.ErrQuota", "quitrent/api.ErrCeil", "quitrent/api.ErrFunds", "quitrent/api.ErrState", "quitrent/api.ErrDown"], plainKeys := false, apart := false, laid := [("quitrent/api.ErrArg", laid_quitrent_api_ErrArg), ("quitrent/api.ErrNil", laid_quitrent_api_ErrNil), ("quitrent/api.ErrForm", laid_quitrent_api_ErrForm), ("quitrent/api.ErrOver", laid_quitrent_api_ErrOver), ("quitrent/api.ErrNone", laid_quitrent_api_ErrNone), ("quitrent/api.ErrDup", laid_quitrent_api_ErrDup), ("quitrent/api.ErrFull", laid_quitrent_api_ErrFull), ("quitrent/api.ErrQuota", laid_quitrent_api_ErrQuota), ("quitrent/api.ErrCeil", laid_quitrent_api_ErrCeil), ("quitrent/api.ErrRoom", laid_quitrent_api_ErrRoom), ("quitrent/api.ErrBudget", laid_quitrent_api_ErrBudget), ("quitrent/api.ErrFunds", laid_quitrent_api_ErrFunds), ("quitrent/api.ErrState", laid_quitrent_api_ErrState), ("quitrent/api.ErrDown", laid_quitrent_api_ErrDown)], narrowed := true }
def VictimNoneUptoSaid : Prop := victimNoneUptoRow.holds Tryd.pinned (OpenSpec.upto victimNoneSpec)

/-- 'quitrentlaw19.SpareForced', WHERE WHAT IT READS IS OF BULK AT MOST 1048576: true; the input reads as it did. -/
def spareForcedUptoRow : OpenClaim := { program := "ytamkjgiemconbaadoor", sum := "d3a8447e65cfff121899f1394d6e3a656140d52f701ba379be575cc03187ba11", func := "quitrent/quitrentlaw19.SpareForced", spec := "spareForced", unfollowed := true, recurses := true, named := ["quitrent/api.ErrNil"], plainKeys := false, apart := false, laid := [("quitrent/api.ErrNil", laid_quitrent_api_ErrNil)], narrowed := true }
def SpareForcedUptoSaid : Prop := spareForcedUptoRow.holds Tryd.pinned (OpenSpec.upto spareForcedSpec)

/-- 'quitrentlaw19.SpareExact', WHERE WHAT IT READS IS OF BULK AT MOST 1048576: true; the input reads as it did. -/
def spareExactUptoRow : OpenClaim := { program := "ytamkjgiemconbaadoor", sum := "d3a8447e65cfff121899f1394d6e3a656140d52f701ba379be575cc03187ba11", func := "quitrent/quitrentlaw19.SpareExact", spec := "spareExact", inPlace := ["internal/reflectlite.TypeOf"], unfollowed := true, recurses := true, named := ["quitrent/api.ErrNil"], plainKeys := false, apart := false, laid := [("quitrent/api.ErrNil", laid_quitrent_api_ErrNil)], narrowed := true }
def SpareExactUptoSaid : Prop := spareExactUptoRow.holds Tryd.pinned (OpenSpec.upto spareExactSpec)

/-- 'quitrentlaw08.KinExact', WHERE WHAT IT READS IS OF BULK AT MOST 1048576: true; the input reads as it did. -/
def kinExactUptoRow : OpenClaim := { program := "ytamkjgiemconbaadoor", sum := "d3a8447e65cfff121899f1394d6e3a656140d52f701ba379be575cc03187ba11", func := "quitrent/quitrentlaw08.KinExact", spec := "kinExact", inPlace := ["internal/reflectlite.TypeOf"], unfollowed := true, recurses := true, named := ["quitrent/api.ErrNil", "quitrent/api.ErrArg", "quitrent/api.ErrDup", "quitrent/api.ErrNone", "quitrent/api.ErrFull", "quitrent/api.ErrForm", "quitrent/api.ErrOver", "quitrent/api.ErrQuota", "quitrent/api.ErrCeil", "quitrent/api.ErrRoom", "quitrent/api.ErrBudget", "quitrent/api.ErrFunds", "quitrent/api.ErrState", "quitrent/api.ErrDown"], plainKeys := false, apart := false, laid := [("quitrent/api.ErrArg", laid_quitrent_api_ErrArg), ("quitrent/api.ErrNil", laid_quitrent_api_ErrNil), ("quitrent/api.ErrForm", laid_quitrent_api_ErrForm), ("quitrent/api.ErrOver", laid_quitrent_api_ErrOver), ("quitrent/api.ErrNone", laid_quitrent_api_ErrNone), ("quitrent/api.ErrDup", laid_quitrent_api_ErrDup), ("quitrent/api.ErrFull", laid_quitrent_api_ErrFull), ("quitrent/api.ErrQuota", laid_quitrent_api_ErrQuota), ("quitrent/api.ErrCeil", laid_quitrent_api_ErrCeil), ("quitrent/api.ErrRoom", laid_quitrent_api_ErrRoom), ("quitrent/api.ErrBudget", laid_quitrent_api_ErrBudget), ("quitrent/api.ErrFunds", laid_quitrent_api_ErrFunds), ("quitrent/api.ErrState", laid_quitrent_api_ErrState), ("quitrent/api.ErrDown", laid_quitrent_api_ErrDown)], narrowed := true }
def KinExactUptoSaid : Prop := kinExactUptoRow.holds Tryd.pinned (OpenSpec.upto kinExactSpec)

/-- 'quitrentlaw08.KinOrder', WHERE WHAT IT READS IS OF BULK AT MOST 1048576: true; the input reads as it did. -/
def kinOrderUptoRow : OpenClaim := { program := "ytamkjgiemconbaadoor", sum := "d3a8447e65cfff121899f1394d6e3a656140d52f701ba379be575cc03187ba11", func := "quitrent/quitrentlaw08.KinOrder", spec := "kinOrder", inPlace := ["internal/reflectlite.TypeOf"], unfollowed := true, recurses := true, named := ["quitrent/api.ErrNil", "quitrent/api.ErrArg", "quitrent/api.ErrDup", "quitrent/api.ErrNone", "quitrent/api.ErrFull", "quitrent/api.ErrForm", "quitrent/api.ErrOver", "quitrent/api.ErrQuota", "quitrent/api.ErrCeil", "quitrent/api.ErrRoom", "quitrent/api.ErrBudget", "quitrent/api.ErrFunds", "quitrent/api.ErrState", "quitrent/api.ErrDown"], plainKeys := false, apart := false, laid := [("quitrent/api.ErrArg", laid_quitrent_api_ErrArg), ("quitrent/api.ErrNil", laid_quitrent_api_ErrNil), ("quitrent/api.ErrForm", laid_quitrent_api_ErrForm), ("quitrent/api.ErrOver", laid_quitrent_api_ErrOver), ("quitrent/api.ErrNone", laid_quitrent_api_ErrNone), ("quitrent/api.ErrDup", laid_quitrent_api_ErrDup), ("quitrent/api.ErrFull", laid_quitrent_api_ErrFull), ("quitrent/api.ErrQuota", laid_quitrent_api_ErrQuota), ("quitrent/api.ErrCeil", laid_quitrent_api_ErrCeil), ("quitrent/api.ErrRoom", laid_quitrent_api_ErrRoom), ("quitrent/api.ErrBudget", laid_quitrent_api_ErrBudget), ("quitrent/api.ErrFunds", laid_quitrent_api_ErrFunds), ("quitrent/api.ErrState", laid_quitrent_api_ErrState), ("quitrent/api.ErrDown", laid_quitrent_api_ErrDown)], narrowed := true }
def KinOrderUptoSaid : Prop := kinOrderUptoRow.holds Tryd.pinned (OpenSpec.upto kinOrderSpec)

/-- 'quitrentlaw08.KinDown', WHERE WHAT IT READS IS OF BULK AT MOST 1048576: true; the input reads as it did. -/
def kinDownUptoRow : OpenClaim := { program := "ytamkjgiemconbaadoor", sum := "d3a8447e65cfff121899f1394d6e3a656140d52f701ba379be575cc03187ba11", func := "quitrent/quitrentlaw08.KinDown", spec := "kinDown", inPlace := ["internal/reflectlite.TypeOf"], unfollowed := true, recurses := true, named := ["quitrent/api.ErrNil", "quitrent/api.ErrArg", "quitrent/api.ErrDup", "quitrent/api.ErrNone", "quitrent/api.ErrFull", "quitrent/api.ErrForm", "quitrent/api.ErrOver", "quitrent/api.ErrQuota", "quitrent/api.ErrCeil", "quitrent/api.ErrRoom", "quitrent/api.ErrBudget", "quitrent/api.ErrFunds", "quitrent/api.ErrState", "quitrent/api.ErrDown"], plainKeys := false, apart := false, laid := [("quitrent/api.ErrArg", laid_quitrent_api_ErrArg), ("quitrent/api.ErrNil", laid_quitrent_api_ErrNil), ("quitrent/api.ErrForm", laid_quitrent_api_ErrForm), ("quitrent/api.ErrOver", laid_quitrent_api_ErrOver), ("quitrent/api.ErrNone", laid_quitrent_api_ErrNone), ("quitrent/api.ErrDup", laid_quitrent_api_ErrDup), ("quitrent/api.ErrFull", laid_quitrent_api_ErrFull), ("quitrent/api.ErrQuota", laid_quitrent_api_ErrQuota), ("quitrent/api.ErrCeil", laid_quitrent_api_ErrCeil), ("quitrent/api.ErrRoom", laid_quitrent_api_ErrRoom), ("quitrent/api.ErrBudget", laid_quitrent_api_ErrBudget), ("quitrent/api.ErrFunds", laid_quitrent_api_ErrFunds), ("quitrent/api.ErrState", laid_quitrent_api_ErrState), ("quitrent/api.ErrDown", laid_quitrent_api_ErrDown)], narrowed := true }
def KinDownUptoSaid : Prop := kinDownUptoRow.holds Tryd.pinned (OpenSpec.upto kinDownSpec)

end Rows
end Go.Proofs.YtamkjgiemconbaaDoor
