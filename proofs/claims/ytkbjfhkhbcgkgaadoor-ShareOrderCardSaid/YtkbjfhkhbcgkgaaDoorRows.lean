/-
  NARROWER THAN 'FOR EVERY INPUT', by the rows' own cells (each row's printed sentence says how): VecSum: laid · VecOrder: laid · VecExact: laid · VecScale: laid · ShareExact: laid · ShareChain: laid · ShareMore: laid · ShareOrder: laid.
  DERIVED. THE GIVEN ROWS OF THIS SEAT. 8 by the template 'for every input the law returns true; each argument reads behind the call as it read before'; 0 by the template 'total and deterministic' (their statements: YtkbjfhkhbcgkgaaDoorTotals.lean).
  GIVEN WITH THE SEED: the statements are not yours to turn. If you find one false, say at which input.
  Laid BY PROGRAM, IN A SANDBOX (cutbox-rows.mjs): the forced cells as the released guide's own fill.sh prints them over the translation 31dceef7213d5497… (all of the seat's roots in one cut). By AI agents, Wed Nov 11 2026. No macro, syntax, notation, axiom, sorry.
-/
import Derived.Test.YtkbjfhkhbcgkgaaDoorChecked
import GoSem.Claim
import GoSem.ClaimJoined
import GoSem.ClaimMapViews
import Derived.JoinedTies
import Derived.KernelRfl
namespace Go.Proofs.YtkbjfhkhbcgkgaaDoor
/- THE CELL 'sum', in the pinned program and in every row, IS THE sha256 OF THE DUMP (.gsa) THAT YtkbjfhkhbcgkgaaDoorProg.lean LOADS. Nothing in Lean hashes anything: it is a label: what it is worth is what the hold of that sum in a sandbox is worth. -/
noncomputable def Tryd.pinned : Pinned := { name := "ytkbjfhkhbcgkgaadoor", sum := "31dceef7213d54971d9b9ee7eed3bfc0609f8a1e7b1a213d95ae0f5c9f3fef1c", checked := Tryd.checked }
namespace Rows
def none {H : Type} : Left H := { results := [], args := [] }

/- WHAT THE LISTED PACKAGE-LEVEL VARIABLES READ AS WHEN THE CALL BEGINS. Each datum BY PROGRAM (the guide's laid-datum.mjs) off the statement by which the dump's own 'gosem.cut.vars' lays the variable. In a bare row this is a premise. The card (YtkbjfhkhbcgkgaaDoorCards.lean) ties it to the program's text. -/
def laid_errors_errorType {H : Type} : DataW H := .iface "internal/reflectlite.rtype" (.agg [.ptr (.lit (.string [101, 114, 114, 111, 114]))])
def laid_quitrent_api_ErrArg {H : Type} : DataW H := .iface "*errors.errorString" (.ptr (.agg [.lit (.string [97, 110, 32, 97, 114, 103, 117, 109, 101, 110, 116, 32, 116, 104, 97, 116, 32, 99, 97, 110, 39, 116, 32, 98, 101])]))
def laid_quitrent_api_ErrNil {H : Type} : DataW H := .iface "*errors.errorString" (.ptr (.agg [.lit (.string [97, 32, 110, 105, 108, 32, 116, 104, 105, 110, 103])]))
def laid_quitrent_api_ErrForm {H : Type} : DataW H := .iface "*errors.errorString" (.ptr (.agg [.lit (.string [98, 121, 116, 101, 115, 32, 111, 102, 32, 110, 111, 32, 102, 111, 114, 109])]))
def laid_quitrent_api_ErrOver {H : Type} : DataW H := .iface "*errors.errorString" (.ptr (.agg [.lit (.string [97, 32, 110, 117, 109, 98, 101, 114, 32, 116, 104, 97, 116, 32, 105, 115, 32, 116, 111, 111, 32, 103, 114, 101, 97, 116, 44, 32, 111, 114, 32, 98, 101, 108, 111, 119, 32, 110, 111, 116, 104, 105, 110, 103])]))
def laid_quitrent_api_ErrNone {H : Type} : DataW H := .iface "*errors.errorString" (.ptr (.agg [.lit (.string [116, 104, 101, 114, 101, 32, 105, 115, 32, 110, 111, 110, 101])]))
def laid_quitrent_api_ErrDup {H : Type} : DataW H := .iface "*errors.errorString" (.ptr (.agg [.lit (.string [116, 104, 101, 114, 101, 32, 105, 115, 32, 111, 110, 101])]))
def laid_quitrent_api_ErrFull {H : Type} : DataW H := .iface "*errors.errorString" (.ptr (.agg [.lit (.string [116, 104, 101, 114, 101, 32, 97, 114, 101, 32, 116, 111, 111, 32, 109, 97, 110, 121])]))
def laid_quitrent_api_ErrQuota {H : Type} : DataW H := .iface "*errors.errorString" (.ptr (.agg [.lit (.string [116, 111, 111, 32, 108, 105, 116, 116, 108, 101, 32, 113, 117, 111, 116, 97])]))
def laid_quitrent_api_ErrCeil {H : Type} : DataW H := .iface "*errors.errorString" (.ptr (.agg [.lit (.string [109, 111, 114, 101, 32, 116, 104, 97, 110, 32, 109, 97, 121, 32, 98, 101, 32, 103, 105, 118, 101, 110, 32, 111, 117, 116])]))
def laid_quitrent_api_ErrRoom {H : Type} : DataW H := .iface "*errors.errorString" (.ptr (.agg [.lit (.string [110, 111, 32, 109, 97, 99, 104, 105, 110, 101, 32, 104, 97, 115, 32, 114, 111, 111, 109])]))
def laid_quitrent_api_ErrBudget {H : Type} : DataW H := .iface "*errors.errorString" (.ptr (.agg [.lit (.string [116, 111, 111, 32, 109, 97, 110, 121, 32, 101, 118, 105, 99, 116, 105, 111, 110, 115, 32, 111, 102, 32, 97, 32, 106, 111, 98])]))
def laid_quitrent_api_ErrFunds {H : Type} : DataW H := .iface "*errors.errorString" (.ptr (.agg [.lit (.string [116, 111, 111, 32, 108, 105, 116, 116, 108, 101, 32, 99, 114, 101, 100, 105, 116])]))
def laid_quitrent_api_ErrState {H : Type} : DataW H := .iface "*errors.errorString" (.ptr (.agg [.lit (.string [110, 111, 116, 32, 110, 111, 119])]))
def laid_quitrent_api_ErrDown {H : Type} : DataW H := .iface "*errors.errorString" (.ptr (.agg [.lit (.string [116, 104, 101, 32, 112, 111, 119, 101, 114, 32, 105, 115, 32, 97, 119, 97, 121])]))

/-- 'quitrentlaw01.VecSum': WHATEVER THE INPUT: true; the input reads as it did. -/
def vecSumSpec : ChangeSpec := { name := "vecSum", fn := fun _ => fun
  | [d] => { results := [.lit (.bool true)], args := [d] }
  | _ => none }
def vecSumRow : OpenClaim := { program := "ytkbjfhkhbcgkgaadoor", sum := "31dceef7213d54971d9b9ee7eed3bfc0609f8a1e7b1a213d95ae0f5c9f3fef1c", func := "quitrent/quitrentlaw01.VecSum", spec := "vecSum", inPlace := ["internal/reflectlite.TypeOf", "internal/reflectlite.ValueOf", "(internal/reflectlite.Value).Type", "(internal/reflectlite.Value).IsNil", "(internal/reflectlite.Value).Elem", "(internal/reflectlite.Value).Set"], unfollowed := true, recurses := true, named := ["quitrent/api.ErrArg", "quitrent/api.ErrOver", "quitrent/api.ErrNil", "quitrent/api.ErrForm", "quitrent/api.ErrNone", "quitrent/api.ErrDup", "quitrent/api.ErrFull", "quitrent/api.ErrQuota", "quitrent/api.ErrCeil", "quitrent/api.ErrRoom", "quitrent/api.ErrBudget", "quitrent/api.ErrFunds", "quitrent/api.ErrState", "quitrent/api.ErrDown", "errors.errorType"], apart := false, laid := [("errors.errorType", laid_errors_errorType), ("quitrent/api.ErrArg", laid_quitrent_api_ErrArg), ("quitrent/api.ErrNil", laid_quitrent_api_ErrNil), ("quitrent/api.ErrForm", laid_quitrent_api_ErrForm), ("quitrent/api.ErrOver", laid_quitrent_api_ErrOver), ("quitrent/api.ErrNone", laid_quitrent_api_ErrNone), ("quitrent/api.ErrDup", laid_quitrent_api_ErrDup), ("quitrent/api.ErrFull", laid_quitrent_api_ErrFull), ("quitrent/api.ErrQuota", laid_quitrent_api_ErrQuota), ("quitrent/api.ErrCeil", laid_quitrent_api_ErrCeil), ("quitrent/api.ErrRoom", laid_quitrent_api_ErrRoom), ("quitrent/api.ErrBudget", laid_quitrent_api_ErrBudget), ("quitrent/api.ErrFunds", laid_quitrent_api_ErrFunds), ("quitrent/api.ErrState", laid_quitrent_api_ErrState), ("quitrent/api.ErrDown", laid_quitrent_api_ErrDown)] }
def VecSumSaid : Prop := vecSumRow.holds Tryd.pinned (OpenSpec.ofChange vecSumSpec)

/-- ITS FALSE NEIGHBOUR: 'it returns false'. Refute it at one input. -/
def vecSumWrong : ChangeSpec := { name := "vecSum", fn := fun _ => fun
  | [d] => { results := [.lit (.bool false)], args := [d] }
  | _ => none }
def VecSumWrongFalsely : Prop := vecSumRow.holds Tryd.pinned (OpenSpec.ofChange vecSumWrong)

/-- 'quitrentlaw01.VecOrder': WHATEVER THE INPUT: true; the input reads as it did. -/
def vecOrderSpec : ChangeSpec := { name := "vecOrder", fn := fun _ => fun
  | [d1, d2, d3] => { results := [.lit (.bool true)], args := [d1, d2, d3] }
  | _ => none }
def vecOrderRow : OpenClaim := { program := "ytkbjfhkhbcgkgaadoor", sum := "31dceef7213d54971d9b9ee7eed3bfc0609f8a1e7b1a213d95ae0f5c9f3fef1c", func := "quitrent/quitrentlaw01.VecOrder", spec := "vecOrder", inPlace := ["internal/reflectlite.TypeOf", "internal/reflectlite.ValueOf", "(internal/reflectlite.Value).Type", "(internal/reflectlite.Value).IsNil", "(internal/reflectlite.Value).Elem", "(internal/reflectlite.Value).Set"], unfollowed := true, recurses := true, named := ["quitrent/api.ErrArg", "quitrent/api.ErrOver", "quitrent/api.ErrNil", "quitrent/api.ErrForm", "quitrent/api.ErrNone", "quitrent/api.ErrDup", "quitrent/api.ErrFull", "quitrent/api.ErrQuota", "quitrent/api.ErrCeil", "quitrent/api.ErrRoom", "quitrent/api.ErrBudget", "quitrent/api.ErrFunds", "quitrent/api.ErrState", "quitrent/api.ErrDown", "errors.errorType"], apart := false, laid := [("errors.errorType", laid_errors_errorType), ("quitrent/api.ErrArg", laid_quitrent_api_ErrArg), ("quitrent/api.ErrNil", laid_quitrent_api_ErrNil), ("quitrent/api.ErrForm", laid_quitrent_api_ErrForm), ("quitrent/api.ErrOver", laid_quitrent_api_ErrOver), ("quitrent/api.ErrNone", laid_quitrent_api_ErrNone), ("quitrent/api.ErrDup", laid_quitrent_api_ErrDup), ("quitrent/api.ErrFull", laid_quitrent_api_ErrFull), ("quitrent/api.ErrQuota", laid_quitrent_api_ErrQuota), ("quitrent/api.ErrCeil", laid_quitrent_api_ErrCeil), ("quitrent/api.ErrRoom", laid_quitrent_api_ErrRoom), ("quitrent/api.ErrBudget", laid_quitrent_api_ErrBudget), ("quitrent/api.ErrFunds", laid_quitrent_api_ErrFunds), ("quitrent/api.ErrState", laid_quitrent_api_ErrState), ("quitrent/api.ErrDown", laid_quitrent_api_ErrDown)] }
def VecOrderSaid : Prop := vecOrderRow.holds Tryd.pinned (OpenSpec.ofChange vecOrderSpec)

/-- ITS FALSE NEIGHBOUR: 'it returns false'. Refute it at one input. -/
def vecOrderWrong : ChangeSpec := { name := "vecOrder", fn := fun _ => fun
  | [d1, d2, d3] => { results := [.lit (.bool false)], args := [d1, d2, d3] }
  | _ => none }
def VecOrderWrongFalsely : Prop := vecOrderRow.holds Tryd.pinned (OpenSpec.ofChange vecOrderWrong)

/-- 'quitrentlaw01.VecExact': WHATEVER THE INPUT: true; the input reads as it did. -/
def vecExactSpec : ChangeSpec := { name := "vecExact", fn := fun _ => fun
  | [d1, d2, d3] => { results := [.lit (.bool true)], args := [d1, d2, d3] }
  | _ => none }
def vecExactRow : OpenClaim := { program := "ytkbjfhkhbcgkgaadoor", sum := "31dceef7213d54971d9b9ee7eed3bfc0609f8a1e7b1a213d95ae0f5c9f3fef1c", func := "quitrent/quitrentlaw01.VecExact", spec := "vecExact", inPlace := ["internal/reflectlite.TypeOf", "internal/reflectlite.ValueOf", "(internal/reflectlite.Value).Type", "(internal/reflectlite.Value).IsNil", "(internal/reflectlite.Value).Elem", "(internal/reflectlite.Value).Set"], unfollowed := true, recurses := true, named := ["quitrent/api.ErrArg", "quitrent/api.ErrOver", "quitrent/api.ErrNil", "quitrent/api.ErrForm", "quitrent/api.ErrNone", "quitrent/api.ErrDup", "quitrent/api.ErrFull", "quitrent/api.ErrQuota", "quitrent/api.ErrCeil", "quitrent/api.ErrRoom", "quitrent/api.ErrBudget", "quitrent/api.ErrFunds", "quitrent/api.ErrState", "quitrent/api.ErrDown", "errors.errorType"], apart := false, laid := [("errors.errorType", laid_errors_errorType), ("quitrent/api.ErrArg", laid_quitrent_api_ErrArg), ("quitrent/api.ErrNil", laid_quitrent_api_ErrNil), ("quitrent/api.ErrForm", laid_quitrent_api_ErrForm), ("quitrent/api.ErrOver", laid_quitrent_api_ErrOver), ("quitrent/api.ErrNone", laid_quitrent_api_ErrNone), ("quitrent/api.ErrDup", laid_quitrent_api_ErrDup), ("quitrent/api.ErrFull", laid_quitrent_api_ErrFull), ("quitrent/api.ErrQuota", laid_quitrent_api_ErrQuota), ("quitrent/api.ErrCeil", laid_quitrent_api_ErrCeil), ("quitrent/api.ErrRoom", laid_quitrent_api_ErrRoom), ("quitrent/api.ErrBudget", laid_quitrent_api_ErrBudget), ("quitrent/api.ErrFunds", laid_quitrent_api_ErrFunds), ("quitrent/api.ErrState", laid_quitrent_api_ErrState), ("quitrent/api.ErrDown", laid_quitrent_api_ErrDown)] }
def VecExactSaid : Prop := vecExactRow.holds Tryd.pinned (OpenSpec.ofChange vecExactSpec)

/-- ITS FALSE NEIGHBOUR: 'it returns false'. Refute it at one input. -/
def vecExactWrong : ChangeSpec := { name := "vecExact", fn := fun _ => fun
  | [d1, d2, d3] => { results := [.lit (.bool false)], args := [d1, d2, d3] }
  | _ => none }
def VecExactWrongFalsely : Prop := vecExactRow.holds Tryd.pinned (OpenSpec.ofChange vecExactWrong)

/-- 'quitrentlaw01.VecScale': WHATEVER THE INPUT: true; the input reads as it did. -/
def vecScaleSpec : ChangeSpec := { name := "vecScale", fn := fun _ => fun
  | [d1, d2] => { results := [.lit (.bool true)], args := [d1, d2] }
  | _ => none }
def vecScaleRow : OpenClaim := { program := "ytkbjfhkhbcgkgaadoor", sum := "31dceef7213d54971d9b9ee7eed3bfc0609f8a1e7b1a213d95ae0f5c9f3fef1c", func := "quitrent/quitrentlaw01.VecScale", spec := "vecScale", inPlace := ["internal/reflectlite.TypeOf", "internal/reflectlite.ValueOf", "(internal/reflectlite.Value).Type", "(internal/reflectlite.Value).IsNil", "(internal/reflectlite.Value).Elem", "(internal/reflectlite.Value).Set"], unfollowed := true, recurses := true, named := ["quitrent/api.ErrArg", "quitrent/api.ErrOver", "quitrent/api.ErrNil", "quitrent/api.ErrForm", "quitrent/api.ErrNone", "quitrent/api.ErrDup", "quitrent/api.ErrFull", "quitrent/api.ErrQuota", "quitrent/api.ErrCeil", "quitrent/api.ErrRoom", "quitrent/api.ErrBudget", "quitrent/api.ErrFunds", "quitrent/api.ErrState", "quitrent/api.ErrDown", "errors.errorType"], apart := false, laid := [("errors.errorType", laid_errors_errorType), ("quitrent/api.ErrArg", laid_quitrent_api_ErrArg), ("quitrent/api.ErrNil", laid_quitrent_api_ErrNil), ("quitrent/api.ErrForm", laid_quitrent_api_ErrForm), ("quitrent/api.ErrOver", laid_quitrent_api_ErrOver), ("quitrent/api.ErrNone", laid_quitrent_api_ErrNone), ("quitrent/api.ErrDup", laid_quitrent_api_ErrDup), ("quitrent/api.ErrFull", laid_quitrent_api_ErrFull), ("quitrent/api.ErrQuota", laid_quitrent_api_ErrQuota), ("quitrent/api.ErrCeil", laid_quitrent_api_ErrCeil), ("quitrent/api.ErrRoom", laid_quitrent_api_ErrRoom), ("quitrent/api.ErrBudget", laid_quitrent_api_ErrBudget), ("quitrent/api.ErrFunds", laid_quitrent_api_ErrFunds), ("quitrent/api.ErrState", laid_quitrent_api_ErrState), ("quitrent/api.ErrDown", laid_quitrent_api_ErrDown)] }
def VecScaleSaid : Prop := vecScaleRow.holds Tryd.pinned (OpenSpec.ofChange vecScaleSpec)

/-- ITS FALSE NEIGHBOUR: 'it returns false'. Refute it at one input. -/
def vecScaleWrong : ChangeSpec := { name := "vecScale", fn := fun _ => fun
  | [d1, d2] => { results := [.lit (.bool false)], args := [d1, d2] }
  | _ => none }
def VecScaleWrongFalsely : Prop := vecScaleRow.holds Tryd.pinned (OpenSpec.ofChange vecScaleWrong)

/-- 'quitrentlaw33.ShareExact': WHATEVER THE INPUT: true; the input reads as it did. -/
def shareExactSpec : ChangeSpec := { name := "shareExact", fn := fun _ => fun
  | [d1, d2] => { results := [.lit (.bool true)], args := [d1, d2] }
  | _ => none }
def shareExactRow : OpenClaim := { program := "ytkbjfhkhbcgkgaadoor", sum := "31dceef7213d54971d9b9ee7eed3bfc0609f8a1e7b1a213d95ae0f5c9f3fef1c", func := "quitrent/quitrentlaw33.ShareExact", spec := "shareExact", unfollowed := true, recurses := true, named := ["quitrent/api.ErrArg", "math/bits.divideError", "math/bits.overflowError"], apart := false, laid := [("quitrent/api.ErrArg", laid_quitrent_api_ErrArg)] }
def ShareExactSaid : Prop := shareExactRow.holds Tryd.pinned (OpenSpec.ofChange shareExactSpec)

/-- ITS FALSE NEIGHBOUR: 'it returns false'. Refute it at one input. -/
def shareExactWrong : ChangeSpec := { name := "shareExact", fn := fun _ => fun
  | [d1, d2] => { results := [.lit (.bool false)], args := [d1, d2] }
  | _ => none }
def ShareExactWrongFalsely : Prop := shareExactRow.holds Tryd.pinned (OpenSpec.ofChange shareExactWrong)

/-- 'quitrentlaw33.ShareChain': WHATEVER THE INPUT: true; the input reads as it did. -/
def shareChainSpec : ChangeSpec := { name := "shareChain", fn := fun _ => fun
  | [d1, d2, d3] => { results := [.lit (.bool true)], args := [d1, d2, d3] }
  | _ => none }
def shareChainRow : OpenClaim := { program := "ytkbjfhkhbcgkgaadoor", sum := "31dceef7213d54971d9b9ee7eed3bfc0609f8a1e7b1a213d95ae0f5c9f3fef1c", func := "quitrent/quitrentlaw33.ShareChain", spec := "shareChain", unfollowed := true, recurses := true, named := ["quitrent/api.ErrArg", "math/bits.divideError", "math/bits.overflowError"], apart := false, laid := [("quitrent/api.ErrArg", laid_quitrent_api_ErrArg)] }
def ShareChainSaid : Prop := shareChainRow.holds Tryd.pinned (OpenSpec.ofChange shareChainSpec)

/-- ITS FALSE NEIGHBOUR: 'it returns false'. Refute it at one input. -/
def shareChainWrong : ChangeSpec := { name := "shareChain", fn := fun _ => fun
  | [d1, d2, d3] => { results := [.lit (.bool false)], args := [d1, d2, d3] }
  | _ => none }
def ShareChainWrongFalsely : Prop := shareChainRow.holds Tryd.pinned (OpenSpec.ofChange shareChainWrong)

/-- 'quitrentlaw33.ShareMore': WHATEVER THE INPUT: true; the input reads as it did. -/
def shareMoreSpec : ChangeSpec := { name := "shareMore", fn := fun _ => fun
  | [d1, d2, d3] => { results := [.lit (.bool true)], args := [d1, d2, d3] }
  | _ => none }
def shareMoreRow : OpenClaim := { program := "ytkbjfhkhbcgkgaadoor", sum := "31dceef7213d54971d9b9ee7eed3bfc0609f8a1e7b1a213d95ae0f5c9f3fef1c", func := "quitrent/quitrentlaw33.ShareMore", spec := "shareMore", unfollowed := true, recurses := true, named := ["quitrent/api.ErrArg", "math/bits.divideError", "math/bits.overflowError", "quitrent/api.ErrOver"], apart := false, laid := [("quitrent/api.ErrArg", laid_quitrent_api_ErrArg), ("quitrent/api.ErrOver", laid_quitrent_api_ErrOver)] }
def ShareMoreSaid : Prop := shareMoreRow.holds Tryd.pinned (OpenSpec.ofChange shareMoreSpec)

/-- ITS FALSE NEIGHBOUR: 'it returns false'. Refute it at one input. -/
def shareMoreWrong : ChangeSpec := { name := "shareMore", fn := fun _ => fun
  | [d1, d2, d3] => { results := [.lit (.bool false)], args := [d1, d2, d3] }
  | _ => none }
def ShareMoreWrongFalsely : Prop := shareMoreRow.holds Tryd.pinned (OpenSpec.ofChange shareMoreWrong)

/-- 'quitrentlaw33.ShareOrder': WHATEVER THE INPUT: true; the input reads as it did. -/
def shareOrderSpec : ChangeSpec := { name := "shareOrder", fn := fun _ => fun
  | [d1, d2] => { results := [.lit (.bool true)], args := [d1, d2] }
  | _ => none }
def shareOrderRow : OpenClaim := { program := "ytkbjfhkhbcgkgaadoor", sum := "31dceef7213d54971d9b9ee7eed3bfc0609f8a1e7b1a213d95ae0f5c9f3fef1c", func := "quitrent/quitrentlaw33.ShareOrder", spec := "shareOrder", inPlace := ["internal/reflectlite.TypeOf"], unfollowed := true, recurses := true, named := ["quitrent/api.ErrArg", "math/bits.divideError", "math/bits.overflowError"], apart := false, laid := [("quitrent/api.ErrArg", laid_quitrent_api_ErrArg)] }
def ShareOrderSaid : Prop := shareOrderRow.holds Tryd.pinned (OpenSpec.ofChange shareOrderSpec)

/-- ITS FALSE NEIGHBOUR: 'it returns false'. Refute it at one input. -/
def shareOrderWrong : ChangeSpec := { name := "shareOrder", fn := fun _ => fun
  | [d1, d2] => { results := [.lit (.bool false)], args := [d1, d2] }
  | _ => none }
def ShareOrderWrongFalsely : Prop := shareOrderRow.holds Tryd.pinned (OpenSpec.ofChange shareOrderWrong)

/- THE SECOND FORM. 'bulk': how many values and letters a reading holds, each counted each time it is reached (what is shared counts as often as it is met; a slice's spare places count too). A statement '..UptoSaid' is the law's where the arguments, and the package variables that the reading takes, are together of bulk at most 1048576: NARROWER than '..Said'. Prove '..Said' where nothing that the law and all that it calls make is longer than what came in: it says more and counts as full. Else prove '..UptoSaid'. A law counts once. -/
mutual
def uptoBulk {H : Type} : DataW H → Nat
  | .lit (.string bytes) => bytes.length + 1
  | .lit _ => 1
  | .nil => 1
  | .ptr d => uptoBulk d + 1
  | .slice elems spare => uptoBulkAll elems + uptoBulkAll spare + 1
  | .agg parts => uptoBulkAll parts + 1
  | .iface _ d => uptoBulk d + 1
  | .map entries => uptoBulkEntries entries + 1
  | .held _ => 1
def uptoBulkAll {H : Type} : List (DataW H) → Nat
  | [] => 0
  | d :: r => uptoBulk d + uptoBulkAll r
def uptoBulkEntries {H : Type} : List (Lit × DataW H) → Nat
  | [] => 0
  | x :: r => uptoBulkEntry x + uptoBulkEntries r
def uptoBulkEntry {H : Type} : Lit × DataW H → Nat
  | (.string bytes, d) => bytes.length + uptoBulk d + 1
  | (_, d) => uptoBulk d + 1
 end
def uptoSmall : (H : Type) → List (DataW H) → Bool := fun _ ds => decide (uptoBulkAll ds ≤ 1048576)
def OpenSpec.upto (s : _root_.Go.ChangeSpec) : _root_.Go.OpenSpec := { _root_.Go.OpenSpec.ofChange s with cond := some uptoSmall }

/-- 'quitrentlaw01.VecSum', WHERE WHAT IT READS IS OF BULK AT MOST 1048576: true; the input reads as it did. -/
def vecSumUptoRow : OpenClaim := { program := "ytkbjfhkhbcgkgaadoor", sum := "31dceef7213d54971d9b9ee7eed3bfc0609f8a1e7b1a213d95ae0f5c9f3fef1c", func := "quitrent/quitrentlaw01.VecSum", spec := "vecSum", inPlace := ["internal/reflectlite.TypeOf", "internal/reflectlite.ValueOf", "(internal/reflectlite.Value).Type", "(internal/reflectlite.Value).IsNil", "(internal/reflectlite.Value).Elem", "(internal/reflectlite.Value).Set"], unfollowed := true, recurses := true, named := ["quitrent/api.ErrArg", "quitrent/api.ErrOver", "quitrent/api.ErrNil", "quitrent/api.ErrForm", "quitrent/api.ErrNone", "quitrent/api.ErrDup", "quitrent/api.ErrFull", "quitrent/api.ErrQuota", "quitrent/api.ErrCeil", "quitrent/api.ErrRoom", "quitrent/api.ErrBudget", "quitrent/api.ErrFunds", "quitrent/api.ErrState", "quitrent/api.ErrDown", "errors.errorType"], apart := false, laid := [("errors.errorType", laid_errors_errorType), ("quitrent/api.ErrArg", laid_quitrent_api_ErrArg), ("quitrent/api.ErrNil", laid_quitrent_api_ErrNil), ("quitrent/api.ErrForm", laid_quitrent_api_ErrForm), ("quitrent/api.ErrOver", laid_quitrent_api_ErrOver), ("quitrent/api.ErrNone", laid_quitrent_api_ErrNone), ("quitrent/api.ErrDup", laid_quitrent_api_ErrDup), ("quitrent/api.ErrFull", laid_quitrent_api_ErrFull), ("quitrent/api.ErrQuota", laid_quitrent_api_ErrQuota), ("quitrent/api.ErrCeil", laid_quitrent_api_ErrCeil), ("quitrent/api.ErrRoom", laid_quitrent_api_ErrRoom), ("quitrent/api.ErrBudget", laid_quitrent_api_ErrBudget), ("quitrent/api.ErrFunds", laid_quitrent_api_ErrFunds), ("quitrent/api.ErrState", laid_quitrent_api_ErrState), ("quitrent/api.ErrDown", laid_quitrent_api_ErrDown)], narrowed := true }
def VecSumUptoSaid : Prop := vecSumUptoRow.holds Tryd.pinned (OpenSpec.upto vecSumSpec)

/-- 'quitrentlaw01.VecOrder', WHERE WHAT IT READS IS OF BULK AT MOST 1048576: true; the input reads as it did. -/
def vecOrderUptoRow : OpenClaim := { program := "ytkbjfhkhbcgkgaadoor", sum := "31dceef7213d54971d9b9ee7eed3bfc0609f8a1e7b1a213d95ae0f5c9f3fef1c", func := "quitrent/quitrentlaw01.VecOrder", spec := "vecOrder", inPlace := ["internal/reflectlite.TypeOf", "internal/reflectlite.ValueOf", "(internal/reflectlite.Value).Type", "(internal/reflectlite.Value).IsNil", "(internal/reflectlite.Value).Elem", "(internal/reflectlite.Value).Set"], unfollowed := true, recurses := true, named := ["quitrent/api.ErrArg", "quitrent/api.ErrOver", "quitrent/api.ErrNil", "quitrent/api.ErrForm", "quitrent/api.ErrNone", "quitrent/api.ErrDup", "quitrent/api.ErrFull", "quitrent/api.ErrQuota", "quitrent/api.ErrCeil", "quitrent/api.ErrRoom", "quitrent/api.ErrBudget", "quitrent/api.ErrFunds", "quitrent/api.ErrState", "quitrent/api.ErrDown", "errors.errorType"], apart := false, laid := [("errors.errorType", laid_errors_errorType), ("quitrent/api.ErrArg", laid_quitrent_api_ErrArg), ("quitrent/api.ErrNil", laid_quitrent_api_ErrNil), ("quitrent/api.ErrForm", laid_quitrent_api_ErrForm), ("quitrent/api.ErrOver", laid_quitrent_api_ErrOver), ("quitrent/api.ErrNone", laid_quitrent_api_ErrNone), ("quitrent/api.ErrDup", laid_quitrent_api_ErrDup), ("quitrent/api.ErrFull", laid_quitrent_api_ErrFull), ("quitrent/api.ErrQuota", laid_quitrent_api_ErrQuota), ("quitrent/api.ErrCeil", laid_quitrent_api_ErrCeil), ("quitrent/api.ErrRoom", laid_quitrent_api_ErrRoom), ("quitrent/api.ErrBudget", laid_quitrent_api_ErrBudget), ("quitrent/api.ErrFunds", laid_quitrent_api_ErrFunds), ("quitrent/api.ErrState", laid_quitrent_api_ErrState), ("quitrent/api.ErrDown", laid_quitrent_api_ErrDown)], narrowed := true }
def VecOrderUptoSaid : Prop := vecOrderUptoRow.holds Tryd.pinned (OpenSpec.upto vecOrderSpec)

/-- 'quitrentlaw01.VecExact', WHERE WHAT IT READS IS OF BULK AT MOST 1048576: true; the input reads as it did. -/
def vecExactUptoRow : OpenClaim := { program := "ytkbjfhkhbcgkgaadoor", sum := "31dceef7213d54971d9b9ee7eed3bfc0609f8a1e7b1a213d95ae0f5c9f3fef1c", func := "quitrent/quitrentlaw01.VecExact", spec := "vecExact", inPlace := ["internal/reflectlite.TypeOf", "internal/reflectlite.ValueOf", "(internal/reflectlite.Value).Type", "(internal/reflectlite.Value).IsNil", "(internal/reflectlite.Value).Elem", "(internal/reflectlite.Value).Set"], unfollowed := true, recurses := true, named := ["quitrent/api.ErrArg", "quitrent/api.ErrOver", "quitrent/api.ErrNil", "quitrent/api.ErrForm", "quitrent/api.ErrNone", "quitrent/api.ErrDup", "quitrent/api.ErrFull", "quitrent/api.ErrQuota", "quitrent/api.ErrCeil", "quitrent/api.ErrRoom", "quitrent/api.ErrBudget", "quitrent/api.ErrFunds", "quitrent/api.ErrState", "quitrent/api.ErrDown", "errors.errorType"], apart := false, laid := [("errors.errorType", laid_errors_errorType), ("quitrent/api.ErrArg", laid_quitrent_api_ErrArg), ("quitrent/api.ErrNil", laid_quitrent_api_ErrNil), ("quitrent/api.ErrForm", laid_quitrent_api_ErrForm), ("quitrent/api.ErrOver", laid_quitrent_api_ErrOver), ("quitrent/api.ErrNone", laid_quitrent_api_ErrNone), ("quitrent/api.ErrDup", laid_quitrent_api_ErrDup), ("quitrent/api.ErrFull", laid_quitrent_api_ErrFull), ("quitrent/api.ErrQuota", laid_quitrent_api_ErrQuota), ("quitrent/api.ErrCeil", laid_quitrent_api_ErrCeil), ("quitrent/api.ErrRoom", laid_quitrent_api_ErrRoom), ("quitrent/api.ErrBudget", laid_quitrent_api_ErrBudget), ("quitrent/api.ErrFunds", laid_quitrent_api_ErrFunds), ("quitrent/api.ErrState", laid_quitrent_api_ErrState), ("quitrent/api.ErrDown", laid_quitrent_api_ErrDown)], narrowed := true }
def VecExactUptoSaid : Prop := vecExactUptoRow.holds Tryd.pinned (OpenSpec.upto vecExactSpec)

/-- 'quitrentlaw01.VecScale', WHERE WHAT IT READS IS OF BULK AT MOST 1048576: true; the input reads as it did. -/
def vecScaleUptoRow : OpenClaim := { program := "ytkbjfhkhbcgkgaadoor", sum := "31dceef7213d54971d9b9ee7eed3bfc0609f8a1e7b1a213d95ae0f5c9f3fef1c", func := "quitrent/quitrentlaw01.VecScale", spec := "vecScale", inPlace := ["internal/reflectlite.TypeOf", "internal/reflectlite.ValueOf", "(internal/reflectlite.Value).Type", "(internal/reflectlite.Value).IsNil", "(internal/reflectlite.Value).Elem", "(internal/reflectlite.Value).Set"], unfollowed := true, recurses := true, named := ["quitrent/api.ErrArg", "quitrent/api.ErrOver", "quitrent/api.ErrNil", "quitrent/api.ErrForm", "quitrent/api.ErrNone", "quitrent/api.ErrDup", "quitrent/api.ErrFull", "quitrent/api.ErrQuota", "quitrent/api.ErrCeil", "quitrent/api.ErrRoom", "quitrent/api.ErrBudget", "quitrent/api.ErrFunds", "quitrent/api.ErrState", "quitrent/api.ErrDown", "errors.errorType"], apart := false, laid := [("errors.errorType", laid_errors_errorType), ("quitrent/api.ErrArg", laid_quitrent_api_ErrArg), ("quitrent/api.ErrNil", laid_quitrent_api_ErrNil), ("quitrent/api.ErrForm", laid_quitrent_api_ErrForm), ("quitrent/api.ErrOver", laid_quitrent_api_ErrOver), ("quitrent/api.ErrNone", laid_quitrent_api_ErrNone), ("quitrent/api.ErrDup", laid_quitrent_api_ErrDup), ("quitrent/api.ErrFull", laid_quitrent_api_ErrFull), ("quitrent/api.ErrQuota", laid_quitrent_api_ErrQuota), ("quitrent/api.ErrCeil", laid_quitrent_api_ErrCeil), ("quitrent/api.ErrRoom", laid_quitrent_api_ErrRoom), ("quitrent/api.ErrBudget", laid_quitrent_api_ErrBudget), ("quitrent/api.ErrFunds", laid_quitrent_api_ErrFunds), ("quitrent/api.ErrState", laid_quitrent_api_ErrState), ("quitrent/api.ErrDown", laid_quitrent_api_ErrDown)], narrowed := true }
def VecScaleUptoSaid : Prop := vecScaleUptoRow.holds Tryd.pinned (OpenSpec.upto vecScaleSpec)

/-- 'quitrentlaw33.ShareExact', WHERE WHAT IT READS IS OF BULK AT MOST 1048576: true; the input reads as it did. -/
def shareExactUptoRow : OpenClaim := { program := "ytkbjfhkhbcgkgaadoor", sum := "31dceef7213d54971d9b9ee7eed3bfc0609f8a1e7b1a213d95ae0f5c9f3fef1c", func := "quitrent/quitrentlaw33.ShareExact", spec := "shareExact", unfollowed := true, recurses := true, named := ["quitrent/api.ErrArg", "math/bits.divideError", "math/bits.overflowError"], apart := false, laid := [("quitrent/api.ErrArg", laid_quitrent_api_ErrArg)], narrowed := true }
def ShareExactUptoSaid : Prop := shareExactUptoRow.holds Tryd.pinned (OpenSpec.upto shareExactSpec)

/-- 'quitrentlaw33.ShareChain', WHERE WHAT IT READS IS OF BULK AT MOST 1048576: true; the input reads as it did. -/
def shareChainUptoRow : OpenClaim := { program := "ytkbjfhkhbcgkgaadoor", sum := "31dceef7213d54971d9b9ee7eed3bfc0609f8a1e7b1a213d95ae0f5c9f3fef1c", func := "quitrent/quitrentlaw33.ShareChain", spec := "shareChain", unfollowed := true, recurses := true, named := ["quitrent/api.ErrArg", "math/bits.divideError", "math/bits.overflowError"], apart := false, laid := [("quitrent/api.ErrArg", laid_quitrent_api_ErrArg)], narrowed := true }
def ShareChainUptoSaid : Prop := shareChainUptoRow.holds Tryd.pinned (OpenSpec.upto shareChainSpec)

/-- 'quitrentlaw33.ShareMore', WHERE WHAT IT READS IS OF BULK AT MOST 1048576: true; the input reads as it did. -/
def shareMoreUptoRow : OpenClaim := { program := "ytkbjfhkhbcgkgaadoor", sum := "31dceef7213d54971d9b9ee7eed3bfc0609f8a1e7b1a213d95ae0f5c9f3fef1c", func := "quitrent/quitrentlaw33.ShareMore", spec := "shareMore", unfollowed := true, recurses := true, named := ["quitrent/api.ErrArg", "math/bits.divideError", "math/bits.overflowError", "quitrent/api.ErrOver"], apart := false, laid := [("quitrent/api.ErrArg", laid_quitrent_api_ErrArg), ("quitrent/api.ErrOver", laid_quitrent_api_ErrOver)], narrowed := true }
def ShareMoreUptoSaid : Prop := shareMoreUptoRow.holds Tryd.pinned (OpenSpec.upto shareMoreSpec)

/-- 'quitrentlaw33.ShareOrder', WHERE WHAT IT READS IS OF BULK AT MOST 1048576: true; the input reads as it did. -/
def shareOrderUptoRow : OpenClaim := { program := "ytkbjfhkhbcgkgaadoor", sum := "31dceef7213d54971d9b9ee7eed3bfc0609f8a1e7b1a213d95ae0f5c9f3fef1c", func := "quitrent/quitrentlaw33.ShareOrder", spec := "shareOrder", inPlace := ["internal/reflectlite.TypeOf"], unfollowed := true, recurses := true, named := ["quitrent/api.ErrArg", "math/bits.divideError", "math/bits.overflowError"], apart := false, laid := [("quitrent/api.ErrArg", laid_quitrent_api_ErrArg)], narrowed := true }
def ShareOrderUptoSaid : Prop := shareOrderUptoRow.holds Tryd.pinned (OpenSpec.upto shareOrderSpec)

end Rows
end Go.Proofs.YtkbjfhkhbcgkgaaDoor
