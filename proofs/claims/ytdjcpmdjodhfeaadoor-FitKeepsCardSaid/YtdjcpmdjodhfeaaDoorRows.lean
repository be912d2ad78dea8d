/-
  NARROWER THAN 'FOR EVERY INPUT', by the rows' own cells (each row's printed sentence says how): FitOne: laid · FitExact: laid · FitKeeps: laid · CeilExact: laid · CeilKeeps: laid · CeilTwice: laid.
  DERIVED. THE GIVEN ROWS OF THIS SEAT. 6 by the template 'for every input the law returns true; each argument reads behind the call as it read before'; 0 by the template 'total and deterministic' (their statements: YtdjcpmdjodhfeaaDoorTotals.lean).
  GIVEN WITH THE SEED: the statements are not yours to turn. If you find one false, say at which input.
  Laid BY PROGRAM, IN A SANDBOX (cutbox-rows.mjs): the forced cells as the released guide's own fill.sh prints them over the translation 9d867b5404fa9365… (all of the seat's roots in one cut). By AI agents, Wed Nov 11 2026. No macro, syntax, notation, axiom, sorry.
-/
import Derived.Test.YtdjcpmdjodhfeaaDoorChecked
import GoSem.Claim
import GoSem.ClaimJoined
import GoSem.ClaimMapViews
import Derived.JoinedTies
import Derived.KernelRfl
namespace Go.Proofs.YtdjcpmdjodhfeaaDoor
/- THE CELL 'sum', in the pinned program and in every row, IS THE sha256 OF THE DUMP (.gsa) THAT YtdjcpmdjodhfeaaDoorProg.lean LOADS. Nothing in Lean hashes anything: it is a label: what it is worth is what the hold of that sum in a sandbox is worth. -/
noncomputable def Tryd.pinned : Pinned := { name := "ytdjcpmdjodhfeaadoor", sum := "9d867b5404fa93654353f7c56e3b00bc03c1d226dc71eb086c11eeaec7bc5e10", checked := Tryd.checked }
namespace Rows
def none {H : Type} : Left H := { results := [], args := [] }

/- WHAT THE LISTED PACKAGE-LEVEL VARIABLES READ AS WHEN THE CALL BEGINS. Each datum BY PROGRAM (the guide's laid-datum.mjs) off the statement by which the dump's own 'gosem.cut.vars' lays the variable. In a bare row this is a premise. The card (YtdjcpmdjodhfeaaDoorCards.lean) ties it to the program's text. -/
def laid_quitrent_api_ErrArg {H : Type} : DataW H := .iface "*errors.errorString" (.ptr (.agg [.lit (.string [97, 110, 32, 97, 114, 103, 117, 109, 101, 110, 116, 32, 116, 104, 97, 116, 32, 99, 97, 110, 39, 116, 32, 98, 101])]))
def laid_quitrent_api_ErrOver {H : Type} : DataW H := .iface "*errors.errorString" (.ptr (.agg [.lit (.string [97, 32, 110, 117, 109, 98, 101, 114, 32, 116, 104, 97, 116, 32, 105, 115, 32, 116, 111, 111, 32, 103, 114, 101, 97, 116, 44, 32, 111, 114, 32, 98, 101, 108, 111, 119, 32, 110, 111, 116, 104, 105, 110, 103])]))
def laid_errors_errorType {H : Type} : DataW H := .iface "internal/reflectlite.rtype" (.agg [.ptr (.lit (.string [101, 114, 114, 111, 114]))])
def laid_quitrent_api_ErrNil {H : Type} : DataW H := .iface "*errors.errorString" (.ptr (.agg [.lit (.string [97, 32, 110, 105, 108, 32, 116, 104, 105, 110, 103])]))
def laid_quitrent_api_ErrForm {H : Type} : DataW H := .iface "*errors.errorString" (.ptr (.agg [.lit (.string [98, 121, 116, 101, 115, 32, 111, 102, 32, 110, 111, 32, 102, 111, 114, 109])]))
def laid_quitrent_api_ErrNone {H : Type} : DataW H := .iface "*errors.errorString" (.ptr (.agg [.lit (.string [116, 104, 101, 114, 101, 32, 105, 115, 32, 110, 111, 110, 101])]))
def laid_quitrent_api_ErrDup {H : Type} : DataW H := .iface "*errors.errorString" (.ptr (.agg [.lit (.string [116, 104, 101, 114, 101, 32, 105, 115, 32, 111, 110, 101])]))
def laid_quitrent_api_ErrFull {H : Type} : DataW H := .iface "*errors.errorString" (.ptr (.agg [.lit (.string [116, 104, 101, 114, 101, 32, 97, 114, 101, 32, 116, 111, 111, 32, 109, 97, 110, 121])]))
def laid_quitrent_api_ErrQuota {H : Type} : DataW H := .iface "*errors.errorString" (.ptr (.agg [.lit (.string [116, 111, 111, 32, 108, 105, 116, 116, 108, 101, 32, 113, 117, 111, 116, 97])]))
def laid_quitrent_api_ErrCeil {H : Type} : DataW H := .iface "*errors.errorString" (.ptr (.agg [.lit (.string [109, 111, 114, 101, 32, 116, 104, 97, 110, 32, 109, 97, 121, 32, 98, 101, 32, 103, 105, 118, 101, 110, 32, 111, 117, 116])]))
def laid_quitrent_api_ErrRoom {H : Type} : DataW H := .iface "*errors.errorString" (.ptr (.agg [.lit (.string [110, 111, 32, 109, 97, 99, 104, 105, 110, 101, 32, 104, 97, 115, 32, 114, 111, 111, 109])]))
def laid_quitrent_api_ErrBudget {H : Type} : DataW H := .iface "*errors.errorString" (.ptr (.agg [.lit (.string [116, 111, 111, 32, 109, 97, 110, 121, 32, 101, 118, 105, 99, 116, 105, 111, 110, 115, 32, 111, 102, 32, 97, 32, 106, 111, 98])]))
def laid_quitrent_api_ErrFunds {H : Type} : DataW H := .iface "*errors.errorString" (.ptr (.agg [.lit (.string [116, 111, 111, 32, 108, 105, 116, 116, 108, 101, 32, 99, 114, 101, 100, 105, 116])]))
def laid_quitrent_api_ErrState {H : Type} : DataW H := .iface "*errors.errorString" (.ptr (.agg [.lit (.string [110, 111, 116, 32, 110, 111, 119])]))
def laid_quitrent_api_ErrDown {H : Type} : DataW H := .iface "*errors.errorString" (.ptr (.agg [.lit (.string [116, 104, 101, 32, 112, 111, 119, 101, 114, 32, 105, 115, 32, 97, 119, 97, 121])]))

/-- 'quitrentlaw16.FitOne': WHATEVER THE INPUT: true; the input reads as it did. -/
def fitOneSpec : ChangeSpec := { name := "fitOne", fn := fun _ => fun
  | [d1, d2] => { results := [.lit (.bool true)], args := [d1, d2] }
  | _ => none }
def fitOneRow : OpenClaim := { program := "ytdjcpmdjodhfeaadoor", sum := "9d867b5404fa93654353f7c56e3b00bc03c1d226dc71eb086c11eeaec7bc5e10", func := "quitrent/quitrentlaw16.FitOne", spec := "fitOne", unfollowed := true, recurses := true, named := ["quitrent/api.ErrArg", "quitrent/api.ErrOver"], apart := false, laid := [("quitrent/api.ErrArg", laid_quitrent_api_ErrArg), ("quitrent/api.ErrOver", laid_quitrent_api_ErrOver)] }
def FitOneSaid : Prop := fitOneRow.holds Tryd.pinned (OpenSpec.ofChange fitOneSpec)

/-- ITS FALSE NEIGHBOUR: 'it returns false'. Refute it at one input. -/
def fitOneWrong : ChangeSpec := { name := "fitOne", fn := fun _ => fun
  | [d1, d2] => { results := [.lit (.bool false)], args := [d1, d2] }
  | _ => none }
def FitOneWrongFalsely : Prop := fitOneRow.holds Tryd.pinned (OpenSpec.ofChange fitOneWrong)

/-- 'quitrentlaw16.FitExact': WHATEVER THE INPUT: true; the input reads as it did. -/
def fitExactSpec : ChangeSpec := { name := "fitExact", fn := fun _ => fun
  | [d1, d2, d3] => { results := [.lit (.bool true)], args := [d1, d2, d3] }
  | _ => none }
def fitExactRow : OpenClaim := { program := "ytdjcpmdjodhfeaadoor", sum := "9d867b5404fa93654353f7c56e3b00bc03c1d226dc71eb086c11eeaec7bc5e10", func := "quitrent/quitrentlaw16.FitExact", spec := "fitExact", unfollowed := true, recurses := true, named := ["quitrent/api.ErrArg", "quitrent/api.ErrOver"], apart := false, laid := [("quitrent/api.ErrArg", laid_quitrent_api_ErrArg), ("quitrent/api.ErrOver", laid_quitrent_api_ErrOver)] }
def FitExactSaid : Prop := fitExactRow.holds Tryd.pinned (OpenSpec.ofChange fitExactSpec)

/-- ITS FALSE NEIGHBOUR: 'it returns false'. Refute it at one input. -/
def fitExactWrong : ChangeSpec := { name := "fitExact", fn := fun _ => fun
  | [d1, d2, d3] => { results := [.lit (.bool false)], args := [d1, d2, d3] }
  | _ => none }
def FitExactWrongFalsely : Prop := fitExactRow.holds Tryd.pinned (OpenSpec.ofChange fitExactWrong)

/-- 'quitrentlaw16.FitKeeps': WHATEVER THE INPUT: true; the input reads as it did. -/
def fitKeepsSpec : ChangeSpec := { name := "fitKeeps", fn := fun _ => fun
  | [d1, d2, d3] => { results := [.lit (.bool true)], args := [d1, d2, d3] }
  | _ => none }
def fitKeepsRow : OpenClaim := { program := "ytdjcpmdjodhfeaadoor", sum := "9d867b5404fa93654353f7c56e3b00bc03c1d226dc71eb086c11eeaec7bc5e10", func := "quitrent/quitrentlaw16.FitKeeps", spec := "fitKeeps", unfollowed := true, recurses := true, named := ["quitrent/api.ErrArg", "quitrent/api.ErrOver"], apart := false, laid := [("quitrent/api.ErrArg", laid_quitrent_api_ErrArg), ("quitrent/api.ErrOver", laid_quitrent_api_ErrOver)] }
def FitKeepsSaid : Prop := fitKeepsRow.holds Tryd.pinned (OpenSpec.ofChange fitKeepsSpec)

/-- ITS FALSE NEIGHBOUR: 'it returns false'. Refute it at one input. -/
def fitKeepsWrong : ChangeSpec := { name := "fitKeeps", fn := fun _ => fun
  | [d1, d2, d3] => { results := [.lit (.bool false)], args := [d1, d2, d3] }
  | _ => none }
def FitKeepsWrongFalsely : Prop := fitKeepsRow.holds Tryd.pinned (OpenSpec.ofChange fitKeepsWrong)

/-- 'quitrentlaw12.CeilExact': WHATEVER THE INPUT: true; the input reads as it did. -/
def ceilExactSpec : ChangeSpec := { name := "ceilExact", fn := fun _ => fun
  | [d1, d2, d3, d4] => { results := [.lit (.bool true)], args := [d1, d2, d3, d4] }
  | _ => none }
def ceilExactRow : OpenClaim := { program := "ytdjcpmdjodhfeaadoor", sum := "9d867b5404fa93654353f7c56e3b00bc03c1d226dc71eb086c11eeaec7bc5e10", func := "quitrent/quitrentlaw12.CeilExact", spec := "ceilExact", inPlace := ["internal/reflectlite.TypeOf", "internal/reflectlite.ValueOf", "(internal/reflectlite.Value).Type", "(internal/reflectlite.Value).IsNil", "(internal/reflectlite.Value).Elem", "(internal/reflectlite.Value).Set"], unfollowed := true, recurses := true, named := ["quitrent/api.ErrCeil", "quitrent/api.ErrArg", "quitrent/api.ErrOver", "quitrent/api.ErrNil", "quitrent/api.ErrForm", "quitrent/api.ErrNone", "quitrent/api.ErrDup", "quitrent/api.ErrFull", "quitrent/api.ErrQuota", "quitrent/api.ErrRoom", "quitrent/api.ErrBudget", "quitrent/api.ErrFunds", "quitrent/api.ErrState", "quitrent/api.ErrDown", "errors.errorType"], apart := false, laid := [("errors.errorType", laid_errors_errorType), ("quitrent/api.ErrArg", laid_quitrent_api_ErrArg), ("quitrent/api.ErrNil", laid_quitrent_api_ErrNil), ("quitrent/api.ErrForm", laid_quitrent_api_ErrForm), ("quitrent/api.ErrOver", laid_quitrent_api_ErrOver), ("quitrent/api.ErrNone", laid_quitrent_api_ErrNone), ("quitrent/api.ErrDup", laid_quitrent_api_ErrDup), ("quitrent/api.ErrFull", laid_quitrent_api_ErrFull), ("quitrent/api.ErrQuota", laid_quitrent_api_ErrQuota), ("quitrent/api.ErrCeil", laid_quitrent_api_ErrCeil), ("quitrent/api.ErrRoom", laid_quitrent_api_ErrRoom), ("quitrent/api.ErrBudget", laid_quitrent_api_ErrBudget), ("quitrent/api.ErrFunds", laid_quitrent_api_ErrFunds), ("quitrent/api.ErrState", laid_quitrent_api_ErrState), ("quitrent/api.ErrDown", laid_quitrent_api_ErrDown)] }
def CeilExactSaid : Prop := ceilExactRow.holds Tryd.pinned (OpenSpec.ofChange ceilExactSpec)

/-- ITS FALSE NEIGHBOUR: 'it returns false'. Refute it at one input. -/
def ceilExactWrong : ChangeSpec := { name := "ceilExact", fn := fun _ => fun
  | [d1, d2, d3, d4] => { results := [.lit (.bool false)], args := [d1, d2, d3, d4] }
  | _ => none }
def CeilExactWrongFalsely : Prop := ceilExactRow.holds Tryd.pinned (OpenSpec.ofChange ceilExactWrong)

/-- 'quitrentlaw12.CeilKeeps': WHATEVER THE INPUT: true; the input reads as it did. -/
def ceilKeepsSpec : ChangeSpec := { name := "ceilKeeps", fn := fun _ => fun
  | [d1, d2, d3, d4] => { results := [.lit (.bool true)], args := [d1, d2, d3, d4] }
  | _ => none }
def ceilKeepsRow : OpenClaim := { program := "ytdjcpmdjodhfeaadoor", sum := "9d867b5404fa93654353f7c56e3b00bc03c1d226dc71eb086c11eeaec7bc5e10", func := "quitrent/quitrentlaw12.CeilKeeps", spec := "ceilKeeps", inPlace := ["internal/reflectlite.TypeOf", "internal/reflectlite.ValueOf", "(internal/reflectlite.Value).Type", "(internal/reflectlite.Value).IsNil", "(internal/reflectlite.Value).Elem", "(internal/reflectlite.Value).Set"], unfollowed := true, recurses := true, named := ["quitrent/api.ErrCeil", "quitrent/api.ErrArg", "quitrent/api.ErrOver", "quitrent/api.ErrNil", "quitrent/api.ErrForm", "quitrent/api.ErrNone", "quitrent/api.ErrDup", "quitrent/api.ErrFull", "quitrent/api.ErrQuota", "quitrent/api.ErrRoom", "quitrent/api.ErrBudget", "quitrent/api.ErrFunds", "quitrent/api.ErrState", "quitrent/api.ErrDown", "errors.errorType"], apart := false, laid := [("errors.errorType", laid_errors_errorType), ("quitrent/api.ErrArg", laid_quitrent_api_ErrArg), ("quitrent/api.ErrNil", laid_quitrent_api_ErrNil), ("quitrent/api.ErrForm", laid_quitrent_api_ErrForm), ("quitrent/api.ErrOver", laid_quitrent_api_ErrOver), ("quitrent/api.ErrNone", laid_quitrent_api_ErrNone), ("quitrent/api.ErrDup", laid_quitrent_api_ErrDup), ("quitrent/api.ErrFull", laid_quitrent_api_ErrFull), ("quitrent/api.ErrQuota", laid_quitrent_api_ErrQuota), ("quitrent/api.ErrCeil", laid_quitrent_api_ErrCeil), ("quitrent/api.ErrRoom", laid_quitrent_api_ErrRoom), ("quitrent/api.ErrBudget", laid_quitrent_api_ErrBudget), ("quitrent/api.ErrFunds", laid_quitrent_api_ErrFunds), ("quitrent/api.ErrState", laid_quitrent_api_ErrState), ("quitrent/api.ErrDown", laid_quitrent_api_ErrDown)] }
def CeilKeepsSaid : Prop := ceilKeepsRow.holds Tryd.pinned (OpenSpec.ofChange ceilKeepsSpec)

/-- ITS FALSE NEIGHBOUR: 'it returns false'. Refute it at one input. -/
def ceilKeepsWrong : ChangeSpec := { name := "ceilKeeps", fn := fun _ => fun
  | [d1, d2, d3, d4] => { results := [.lit (.bool false)], args := [d1, d2, d3, d4] }
  | _ => none }
def CeilKeepsWrongFalsely : Prop := ceilKeepsRow.holds Tryd.pinned (OpenSpec.ofChange ceilKeepsWrong)

/-- 'quitrentlaw12.CeilTwice': WHATEVER THE INPUT: true; the input reads as it did. -/
def ceilTwiceSpec : ChangeSpec := { name := "ceilTwice", fn := fun _ => fun
  | [d1, d2, d3, d4, d5] => { results := [.lit (.bool true)], args := [d1, d2, d3, d4, d5] }
  | _ => none }
def ceilTwiceRow : OpenClaim := { program := "ytdjcpmdjodhfeaadoor", sum := "9d867b5404fa93654353f7c56e3b00bc03c1d226dc71eb086c11eeaec7bc5e10", func := "quitrent/quitrentlaw12.CeilTwice", spec := "ceilTwice", inPlace := ["internal/reflectlite.TypeOf", "internal/reflectlite.ValueOf", "(internal/reflectlite.Value).Type", "(internal/reflectlite.Value).IsNil", "(internal/reflectlite.Value).Elem", "(internal/reflectlite.Value).Set"], unfollowed := true, recurses := true, named := ["quitrent/api.ErrCeil", "quitrent/api.ErrArg", "quitrent/api.ErrOver", "quitrent/api.ErrNil", "quitrent/api.ErrForm", "quitrent/api.ErrNone", "quitrent/api.ErrDup", "quitrent/api.ErrFull", "quitrent/api.ErrQuota", "quitrent/api.ErrRoom", "quitrent/api.ErrBudget", "quitrent/api.ErrFunds", "quitrent/api.ErrState", "quitrent/api.ErrDown", "errors.errorType"], apart := false, laid := [("errors.errorType", laid_errors_errorType), ("quitrent/api.ErrArg", laid_quitrent_api_ErrArg), ("quitrent/api.ErrNil", laid_quitrent_api_ErrNil), ("quitrent/api.ErrForm", laid_quitrent_api_ErrForm), ("quitrent/api.ErrOver", laid_quitrent_api_ErrOver), ("quitrent/api.ErrNone", laid_quitrent_api_ErrNone), ("quitrent/api.ErrDup", laid_quitrent_api_ErrDup), ("quitrent/api.ErrFull", laid_quitrent_api_ErrFull), ("quitrent/api.ErrQuota", laid_quitrent_api_ErrQuota), ("quitrent/api.ErrCeil", laid_quitrent_api_ErrCeil), ("quitrent/api.ErrRoom", laid_quitrent_api_ErrRoom), ("quitrent/api.ErrBudget", laid_quitrent_api_ErrBudget), ("quitrent/api.ErrFunds", laid_quitrent_api_ErrFunds), ("quitrent/api.ErrState", laid_quitrent_api_ErrState), ("quitrent/api.ErrDown", laid_quitrent_api_ErrDown)] }
def CeilTwiceSaid : Prop := ceilTwiceRow.holds Tryd.pinned (OpenSpec.ofChange ceilTwiceSpec)

/-- ITS FALSE NEIGHBOUR: 'it returns false'. Refute it at one input. -/
def ceilTwiceWrong : ChangeSpec := { name := "ceilTwice", fn := fun _ => fun
  | [d1, d2, d3, d4, d5] => { results := [.lit (.bool false)], args := [d1, d2, d3, d4, d5] }
  | _ => none }
def CeilTwiceWrongFalsely : Prop := ceilTwiceRow.holds Tryd.pinned (OpenSpec.ofChange ceilTwiceWrong)

/- THE SECOND FORM. 'bulk': how many values and letters a reading holds, each counted each time it is reached (what is shared counts as often as it is met; a slice's spare places count too). A statement '..UptoSaid' is the law's where the arguments, and the package variables that the reading takes, are together of bulk at most 1048576: NARROWER than '..Said'. Prove '..Said' where nothing that the law and all that it calls make is longer than what came in: it says more and counts as full. Else prove '..UptoSaid'. A law counts once. -/
mutual
def uptoBulk {H : Type} : DataW H → Nat
  | .lit (.string bytes) => bytes.length + 1
  | .lit _ => 1
  | .nil => 1
  | .ptr d => uptoBulk d + 1
  | .slice elems spare => uptoBulkAll elems + uptoBulkAll spare + 1
  | .agg parts => uptoBulkAll parts + 1
  | .iface _ d => uptoBulk d + 1
  | .map entries => uptoBulkEntries entries + 1
  | .held _ => 1
def uptoBulkAll {H : Type} : List (DataW H) → Nat
  | [] => 0
  | d :: r => uptoBulk d + uptoBulkAll r
def uptoBulkEntries {H : Type} : List (Lit × DataW H) → Nat
  | [] => 0
  | x :: r => uptoBulkEntry x + uptoBulkEntries r
def uptoBulkEntry {H : Type} : Lit × DataW H → Nat
  | (.string bytes, d) => bytes.length + uptoBulk d + 1
  | (_, d) => uptoBulk d + 1
 end
def uptoSmall : (H : Type) → List (DataW H) → Bool := fun _ ds => decide (uptoBulkAll ds ≤ 1048576)
def OpenSpec.upto (s : _root_.Go.ChangeSpec) : _root_.Go.OpenSpec := { _root_.Go.OpenSpec.ofChange s with cond := some uptoSmall }

/-- 'quitrentlaw16.FitOne', WHERE WHAT IT READS IS OF BULK AT MOST 1048576: true; the input reads as it did. -/
def fitOneUptoRow : OpenClaim := { program := "ytdjcpmdjodhfeaadoor", sum := "9d867b5404fa93654353f7c56e3b00bc03c1d226dc71eb086c11eeaec7bc5e10", func := "quitrent/quitrentlaw16.FitOne", spec := "fitOne", unfollowed := true, recurses := true, named := ["quitrent/api.ErrArg", "quitrent/api.ErrOver"], apart := false, laid := [("quitrent/api.ErrArg", laid_quitrent_api_ErrArg), ("quitrent/api.ErrOver", laid_quitrent_api_ErrOver)], narrowed := true }
def FitOneUptoSaid : Prop := fitOneUptoRow.holds Tryd.pinned (OpenSpec.upto fitOneSpec)

/-- 'quitrentlaw16.FitExact', WHERE WHAT IT READS IS OF BULK AT MOST 1048576: true; the input reads as it did. -/
def fitExactUptoRow : OpenClaim := { program := "ytdjcpmdjodhfeaadoor", sum := "9d867b5404fa93654353f7c56e3b00bc03c1d226dc71eb086c11eeaec7bc5e10", func := "quitrent/quitrentlaw16.FitExact", spec := "fitExact", unfollowed := true, recurses := true, named := ["quitrent/api.ErrArg", "quitrent/api.ErrOver"], apart := false, laid := [("quitrent/api.ErrArg", laid_quitrent_api_ErrArg), ("quitrent/api.ErrOver", laid_quitrent_api_ErrOver)], narrowed := true }
def FitExactUptoSaid : Prop := fitExactUptoRow.holds Tryd.pinned (OpenSpec.upto fitExactSpec)

/-- 'quitrentlaw16.FitKeeps', WHERE WHAT IT READS IS OF BULK AT MOST 1048576: true; the input reads as it did. -/
def fitKeepsUptoRow : OpenClaim := { program := "ytdjcpmdjodhfeaadoor", sum := "9d867b5404fa93654353f7c56e3b00bc03c1d226dc71eb086c11eeaec7bc5e10", func := "quitrent/quitrentlaw16.FitKeeps", spec := "fitKeeps", unfollowed := true, recurses := true, named := ["quitrent/api.ErrArg", "quitrent/api.ErrOver"], apart := false, laid := [("quitrent/api.ErrArg", laid_quitrent_api_ErrArg), ("quitrent/api.ErrOver", laid_quitrent_api_ErrOver)], narrowed := true }
def FitKeepsUptoSaid : Prop := fitKeepsUptoRow.holds Tryd.pinned (OpenSpec.upto fitKeepsSpec)

/-- 'quitrentlaw12.CeilExact', WHERE WHAT IT READS IS OF BULK AT MOST 1048576: true; the input reads as it did. -/
def ceilExactUptoRow : OpenClaim := { program := "ytdjcpmdjodhfeaadoor", sum := "9d867b5404fa93654353f7c56e3b00bc03c1d226dc71eb086c11eeaec7bc5e10", func := "quitrent/quitrentlaw12.CeilExact", spec := "ceilExact", inPlace := ["internal/reflectlite.TypeOf", "internal/reflectlite.ValueOf", "(internal/reflectlite.Value).Type", "(internal/reflectlite.Value).IsNil", "(internal/reflectlite.Value).Elem", "(internal/reflectlite.Value).Set"], unfollowed := true, recurses := true, named := ["quitrent/api.ErrCeil", "quitrent/api.ErrArg", "quitrent/api.ErrOver", "quitrent/api.ErrNil", "quitrent/api.ErrForm", "quitrent/api.ErrNone", "quitrent/api.ErrDup", "quitrent/api.ErrFull", "quitrent/api.ErrQuota", "quitrent/api.ErrRoom", "quitrent/api.ErrBudget", "quitrent/api.ErrFunds", "quitrent/api.ErrState", "quitrent/api.ErrDown", "errors.errorType"], apart := false, laid := [("errors.errorType", laid_errors_errorType), ("quitrent/api.ErrArg", laid_quitrent_api_ErrArg), ("quitrent/api.ErrNil", laid_quitrent_api_ErrNil), ("quitrent/api.ErrForm", laid_quitrent_api_ErrForm), ("quitrent/api.ErrOver", laid_quitrent_api_ErrOver), ("quitrent/api.ErrNone", laid_quitrent_api_ErrNone), ("quitrent/api.ErrDup", laid_quitrent_api_ErrDup), ("quitrent/api.ErrFull", laid_quitrent_api_ErrFull), ("quitrent/api.ErrQuota", laid_quitrent_api_ErrQuota), ("quitrent/api.ErrCeil", laid_quitrent_api_ErrCeil), ("quitrent/api.ErrRoom", laid_quitrent_api_ErrRoom), ("quitrent/api.ErrBudget", laid_quitrent_api_ErrBudget), ("quitrent/api.ErrFunds", laid_quitrent_api_ErrFunds), ("quitrent/api.ErrState", laid_quitrent_api_ErrState), ("quitrent/api.ErrDown", laid_quitrent_api_ErrDown)], narrowed := true }
def CeilExactUptoSaid : Prop := ceilExactUptoRow.holds Tryd.pinned (OpenSpec.upto ceilExactSpec)

/-- 'quitrentlaw12.CeilKeeps', WHERE WHAT IT READS IS OF BULK AT MOST 1048576: true; the input reads as it did. -/
def ceilKeepsUptoRow : OpenClaim := { program := "ytdjcpmdjodhfeaadoor", sum := "9d867b5404fa93654353f7c56e3b00bc03c1d226dc71eb086c11eeaec7bc5e10", func := "quitrent/quitrentlaw12.CeilKeeps", spec := "ceilKeeps", inPlace := ["internal/reflectlite.TypeOf", "internal/reflectlite.ValueOf", "(internal/reflectlite.Value).Type", "(internal/reflectlite.Value).IsNil", "(internal/reflectlite.Value).Elem", "(internal/reflectlite.Value).Set"], unfollowed := true, recurses := true, named := ["quitrent/api.ErrCeil", "quitrent/api.ErrArg", "quitrent/api.ErrOver", "quitrent/api.ErrNil", "quitrent/api.ErrForm", "quitrent/api.ErrNone", "quitrent/api.ErrDup", "quitrent/api.ErrFull", "quitrent/api.ErrQuota", "quitrent/api.ErrRoom", "quitrent/api.ErrBudget", "quitrent/api.ErrFunds", "quitrent/api.ErrState", "quitrent/api.ErrDown", "errors.errorType"], apart := false, laid := [("errors.errorType", laid_errors_errorType), ("quitrent/api.ErrArg", laid_quitrent_api_ErrArg), ("quitrent/api.ErrNil", laid_quitrent_api_ErrNil), ("quitrent/api.ErrForm", laid_quitrent_api_ErrForm), ("quitrent/api.ErrOver", laid_quitrent_api_ErrOver), ("quitrent/api.ErrNone", laid_quitrent_api_ErrNone), ("quitrent/api.ErrDup", laid_quitrent_api_ErrDup), ("quitrent/api.ErrFull", laid_quitrent_api_ErrFull), ("quitrent/api.ErrQuota", laid_quitrent_api_ErrQuota), ("quitrent/api.ErrCeil", laid_quitrent_api_ErrCeil), ("quitrent/api.ErrRoom", laid_quitrent_api_ErrRoom), ("quitrent/api.ErrBudget", laid_quitrent_api_ErrBudget), ("quitrent/api.ErrFunds", laid_quitrent_api_ErrFunds), ("quitrent/api.ErrState", laid_quitrent_api_ErrState), ("quitrent/api.ErrDown", laid_quitrent_api_ErrDown)], narrowed := true }
def CeilKeepsUptoSaid : Prop := ceilKeepsUptoRow.holds Tryd.pinned (OpenSpec.upto ceilKeepsSpec)

/-- 'quitrentlaw12.CeilTwice', WHERE WHAT IT READS IS OF BULK AT MOST 1048576: true; the input reads as it did. -/
def ceilTwiceUptoRow : OpenClaim := { program := "ytdjcpmdjodhfeaadoor", sum := "9d867b5404fa93654353f7c56e3b00bc03c1d226dc71eb086c11eeaec7bc5e10", func := "quitrent/quitrentlaw12.CeilTwice", spec := "ceilTwice", inPlace := ["internal/reflectlite.TypeOf", "internal/reflectlite.ValueOf", "(internal/reflectlite.Value).Type", "(internal/reflectlite.Value).IsNil", "(internal/reflectlite.Value).Elem", "(internal/reflectlite.Value).Set"], unfollowed := true, recurses := true, named := ["quitrent/api.ErrCeil", "quitrent/api.ErrArg", "quitrent/api.ErrOver", "quitrent/api.ErrNil", "quitrent/api.ErrForm", "quitrent/api.ErrNone", "quitrent/api.ErrDup", "quitrent/api.ErrFull", "quitrent/api.ErrQuota", "quitrent/api.ErrRoom", "quitrent/api.ErrBudget", "quitrent/api.ErrFunds", "quitrent/api.ErrState", "quitrent/api.ErrDown", "errors.errorType"], apart := false, laid := [("errors.errorType", laid_errors_errorType), ("quitrent/api.ErrArg", laid_quitrent_api_ErrArg), ("quitrent/api.ErrNil", laid_quitrent_api_ErrNil), ("quitrent/api.ErrForm", laid_quitrent_api_ErrForm), ("quitrent/api.ErrOver", laid_quitrent_api_ErrOver), ("quitrent/api.ErrNone", laid_quitrent_api_ErrNone), ("quitrent/api.ErrDup", laid_quitrent_api_ErrDup), ("quitrent/api.ErrFull", laid_quitrent_api_ErrFull), ("quitrent/api.ErrQuota", laid_quitrent_api_ErrQuota), ("quitrent/api.ErrCeil", laid_quitrent_api_ErrCeil), ("quitrent/api.ErrRoom", laid_quitrent_api_ErrRoom), ("quitrent/api.ErrBudget", laid_quitrent_api_ErrBudget), ("quitrent/api.ErrFunds", laid_quitrent_api_ErrFunds), ("quitrent/api.ErrState", laid_quitrent_api_ErrState), ("quitrent/api.ErrDown", laid_quitrent_api_ErrDown)], narrowed := true }
def CeilTwiceUptoSaid : Prop := ceilTwiceUptoRow.holds Tryd.pinned (OpenSpec.upto ceilTwiceSpec)

end Rows
end Go.Proofs.YtdjcpmdjodhfeaaDoor
