/-
  NARROWER THAN 'FOR EVERY INPUT', by the rows' own cells (each row's printed sentence says how): PurseTotal: laid · PurseBack: laid · ParkExact: laid · ParkLive: laid · ParkEnd: laid · GrantRound: laid · GrantTotal: laid.
  DERIVED. THE GIVEN ROWS OF THIS SEAT. 7 by the template 'for every input the law returns true; each argument reads behind the call as it read before'; 0 by the template 'total and deterministic' (their statements: YtnlolefgifeohaaDoorTotals.lean).
  GIVEN WITH THE SEED: the statements are not yours to turn. If you find one false, say at which input.
  Laid BY PROGRAM, IN A SANDBOX (cutbox-rows.mjs): the forced cells as the released guide's own fill.sh prints them over the translation 940375a8d115c3f9… (all of the seat's roots in one cut). By AI agents, Wed Nov 11 2026. No macro, syntax, notation, axiom, sorry.
-/
import Derived.Test.YtnlolefgifeohaaDoorChecked
import GoSem.Claim
import GoSem.ClaimJoined
import GoSem.ClaimMapViews
import Derived.JoinedTies
import Derived.KernelRfl
namespace Go.Proofs.YtnlolefgifeohaaDoor
/- THE CELL 'sum', in the pinned program and in every row, IS THE sha256 OF THE DUMP (.gsa) THAT YtnlolefgifeohaaDoorProg.lean LOADS. Nothing in Lean hashes anything: it is a label: what it is worth is what the hold of that sum in a sandbox is worth. -/
noncomputable def Tryd.pinned : Pinned := { name := "ytnlolefgifeohaadoor", sum := "940375a8d115c3f9b60b298a58cf7a05491ccbacd756385ff5674408e30ec25a", checked := Tryd.checked }
namespace Rows
def none {H : Type} : Left H := { results := [], args := [] }

/- WHAT THE LISTED PACKAGE-LEVEL VARIABLES READ AS WHEN THE CALL BEGINS. Each datum BY PROGRAM (the guide's laid-datum.mjs) off the statement by which the dump's own 'gosem.cut.vars' lays the variable. In a bare row this is a premise. The card (YtnlolefgifeohaaDoorCards.lean) ties it to the program's text. -/
def laid_quitrent_api_ErrArg {H : Type} : DataW H := .iface "*errors.errorString" (.ptr (.agg [.lit (.string [97, 110, 32, 97, 114, 103, 117, 109, 101, 110, 116, 32, 116, 104, 97, 116, 32, 99, 97, 110, 39, 116, 32, 98, 101])]))
def laid_quitrent_api_ErrNil {H : Type} : DataW H := .iface "*errors.errorString" (.ptr (.agg [.lit (.string [97, 32, 110, 105, 108, 32, 116, 104, 105, 110, 103])]))
def laid_quitrent_api_ErrForm {H : Type} : DataW H := .iface "*errors.errorString" (.ptr (.agg [.lit (.string [98, 121, 116, 101, 115, 32, 111, 102, 32, 110, 111, 32, 102, 111, 114, 109])]))
def laid_quitrent_api_ErrOver {H : Type} : DataW H := .iface "*errors.errorString" (.ptr (.agg [.lit (.string [97, 32, 110, 117, 109, 98, 101, 114, 32, 116, 104, 97, 116, 32, 105, 115, 32, 116, 111, 111, 32, 103, 114, 101, 97, 116, 44, 32, 111, 114, 32, 98, 101, 108, 111, 119, 32, 110, 111, 116, 104, 105, 110, 103])]))
def laid_quitrent_api_ErrNone {H : Type} : DataW H := .iface "*errors.errorString" (.ptr (.agg [.lit (.string [116, 104, 101, 114, 101, 32, 105, 115, 32, 110, 111, 110, 101])]))
def laid_quitrent_api_ErrDup {H : Type} : DataW H := .iface "*errors.errorString" (.ptr (.agg [.lit (.string [116, 104, 101, 114, 101, 32, 105, 115, 32, 111, 110, 101])]))
def laid_quitrent_api_ErrFull {H : Type} : DataW H := .iface "*errors.errorString" (.ptr (.agg [.lit (.string [116, 104, 101, 114, 101, 32, 97, 114, 101, 32, 116, 111, 111, 32, 109, 97, 110, 121])]))
def laid_quitrent_api_ErrQuota {H : Type} : DataW H := .iface "*errors.errorString" (.ptr (.agg [.lit (.string [116, 111, 111, 32, 108, 105, 116, 116, 108, 101, 32, 113, 117, 111, 116, 97])]))
def laid_quitrent_api_ErrCeil {H : Type} : DataW H := .iface "*errors.errorString" (.ptr (.agg [.lit (.string [109, 111, 114, 101, 32, 116, 104, 97, 110, 32, 109, 97, 121, 32, 98, 101, 32, 103, 105, 118, 101, 110, 32, 111, 117, 116])]))
def laid_quitrent_api_ErrRoom {H : Type} : DataW H := .iface "*errors.errorString" (.ptr (.agg [.lit (.string [110, 111, 32, 109, 97, 99, 104, 105, 110, 101, 32, 104, 97, 115, 32, 114, 111, 111, 109])]))
def laid_quitrent_api_ErrBudget {H : Type} : DataW H := .iface "*errors.errorString" (.ptr (.agg [.lit (.string [116, 111, 111, 32, 109, 97, 110, 121, 32, 101, 118, 105, 99, 116, 105, 111, 110, 115, 32, 111, 102, 32, 97, 32, 106, 111, 98])]))
def laid_quitrent_api_ErrFunds {H : Type} : DataW H := .iface "*errors.errorString" (.ptr (.agg [.lit (.string [116, 111, 111, 32, 108, 105, 116, 116, 108, 101, 32, 99, 114, 101, 100, 105, 116])]))
def laid_quitrent_api_ErrState {H : Type} : DataW H := .iface "*errors.errorString" (.ptr (.agg [.lit (.string [110, 111, 116, 32, 110, 111, 119])]))
def laid_quitrent_api_ErrDown {H : Type} : DataW H := .iface "*errors.errorString" (.ptr (.agg [.lit (.string [116, 104, 101, 32, 112, 111, 119, 101, 114, 32, 105, 115, 32, 97, 119, 97, 121])]))

/-- 'quitrentlaw10.PurseTotal': WHATEVER THE INPUT: true; the input reads as it did. -/
def purseTotalSpec : ChangeSpec := { name := "purseTotal", fn := fun _ => fun
  | [d] => { results := [.lit (.bool true)], args := [d] }
  | _ => none }
def purseTotalRow : OpenClaim := { program := "ytnlolefgifeohaadoor", sum := "940375a8d115c3f9b60b298a58cf7a05491ccbacd756385ff5674408e30ec25a", func := "quitrent/quitrentlaw10.PurseTotal", spec := "purseTotal", inPlace := ["internal/reflectlite.TypeOf"], unfollowed := true, recurses := true, named := ["quitrent/api.ErrOver", "quitrent/api.ErrNil", "quitrent/api.ErrArg", "quitrent/api.ErrFunds", "quitrent/api.ErrState", "quitrent/api.ErrForm", "quitrent/api.ErrNone", "quitrent/api.ErrDup", "quitrent/api.ErrFull", "quitrent/api.ErrQuota", "quitrent/api.ErrCeil", "quitrent/api.ErrRoom", "quitrent/api.ErrBudget", "quitrent/api.ErrDown"], plainKeys := false, apart := false, laid := [("quitrent/api.ErrArg", laid_quitrent_api_ErrArg), ("quitrent/api.ErrNil", laid_quitrent_api_ErrNil), ("quitrent/api.ErrForm", laid_quitrent_api_ErrForm), ("quitrent/api.ErrOver", laid_quitrent_api_ErrOver), ("quitrent/api.ErrNone", laid_quitrent_api_ErrNone), ("quitrent/api.ErrDup", laid_quitrent_api_ErrDup), ("quitrent/api.ErrFull", laid_quitrent_api_ErrFull), ("quitrent/api.ErrQuota", laid_quitrent_api_ErrQuota), ("quitrent/api.ErrCeil", laid_quitrent_api_ErrCeil), ("quitrent/api.ErrRoom", laid_quitrent_api_ErrRoom), ("quitrent/api.ErrBudget", laid_quitrent_api_ErrBudget), ("quitrent/api.ErrFunds", laid_quitrent_api_ErrFunds), ("quitrent/api.ErrState", laid_quitrent_api_ErrState), ("quitrent/api.ErrDown", laid_quitrent_api_ErrDown)] }
def PurseTotalSaid : Prop := purseTotalRow.holds Tryd.pinned (OpenSpec.ofChange purseTotalSpec)

/-- ITS FALSE NEIGHBOUR: 'it returns false'. Refute it at one input. -/
def purseTotalWrong : ChangeSpec := { name := "purseTotal", fn := fun _ => fun
  | [d] => { results := [.lit (.bool false)], args := [d] }
  | _ => none }
def PurseTotalWrongFalsely : Prop := purseTotalRow.holds Tryd.pinned (OpenSpec.ofChange purseTotalWrong)

/-- 'quitrentlaw10.PurseBack': WHATEVER THE INPUT: true; the input reads as it did. -/
def purseBackSpec : ChangeSpec := { name := "purseBack", fn := fun _ => fun
  | [d1, d2, d3, d4] => { results := [.lit (.bool true)], args := [d1, d2, d3, d4] }
  | _ => none }
def purseBackRow : OpenClaim := { program := "ytnlolefgifeohaadoor", sum := "940375a8d115c3f9b60b298a58cf7a05491ccbacd756385ff5674408e30ec25a", func := "quitrent/quitrentlaw10.PurseBack", spec := "purseBack", inPlace := ["internal/reflectlite.TypeOf"], unfollowed := true, recurses := true, named := ["quitrent/api.ErrOver", "quitrent/api.ErrNil", "quitrent/api.ErrArg", "quitrent/api.ErrFunds", "quitrent/api.ErrState", "quitrent/api.ErrForm", "quitrent/api.ErrNone", "quitrent/api.ErrDup", "quitrent/api.ErrFull", "quitrent/api.ErrQuota", "quitrent/api.ErrCeil", "quitrent/api.ErrRoom", "quitrent/api.ErrBudget", "quitrent/api.ErrDown"], plainKeys := false, apart := false, laid := [("quitrent/api.ErrArg", laid_quitrent_api_ErrArg), ("quitrent/api.ErrNil", laid_quitrent_api_ErrNil), ("quitrent/api.ErrForm", laid_quitrent_api_ErrForm), ("quitrent/api.ErrOver", laid_quitrent_api_ErrOver), ("quitrent/api.ErrNone", laid_quitrent_api_ErrNone), ("quitrent/api.ErrDup", laid_quitrent_api_ErrDup), ("quitrent/api.ErrFull", laid_quitrent_api_ErrFull), ("quitrent/api.ErrQuota", laid_quitrent_api_ErrQuota), ("quitrent/api.ErrCeil", laid_quitrent_api_ErrCeil), ("quitrent/api.ErrRoom", laid_quitrent_api_ErrRoom), ("quitrent/api.ErrBudget", laid_quitrent_api_ErrBudget), ("quitrent/api.ErrFunds", laid_quitrent_api_ErrFunds), ("quitrent/api.ErrState", laid_quitrent_api_ErrState), ("quitrent/api.ErrDown", laid_quitrent_api_ErrDown)] }
def PurseBackSaid : Prop := purseBackRow.holds Tryd.pinned (OpenSpec.ofChange purseBackSpec)

/-- ITS FALSE NEIGHBOUR: 'it returns false'. Refute it at one input. -/
def purseBackWrong : ChangeSpec := { name := "purseBack", fn := fun _ => fun
  | [d1, d2, d3, d4] => { results := [.lit (.bool false)], args := [d1, d2, d3, d4] }
  | _ => none }
def PurseBackWrongFalsely : Prop := purseBackRow.holds Tryd.pinned (OpenSpec.ofChange purseBackWrong)

/-- 'quitrentlaw15.ParkExact': WHATEVER THE INPUT: true; the input reads as it did. -/
def parkExactSpec : ChangeSpec := { name := "parkExact", fn := fun _ => fun
  | [d] => { results := [.lit (.bool true)], args := [d] }
  | _ => none }
def parkExactRow : OpenClaim := { program := "ytnlolefgifeohaadoor", sum := "940375a8d115c3f9b60b298a58cf7a05491ccbacd756385ff5674408e30ec25a", func := "quitrent/quitrentlaw15.ParkExact", spec := "parkExact", inPlace := ["internal/reflectlite.TypeOf"], unfollowed := true, recurses := true, named := ["quitrent/api.ErrNil", "quitrent/api.ErrArg", "quitrent/api.ErrDup", "quitrent/api.ErrFull", "quitrent/api.ErrOver", "quitrent/api.ErrNone", "quitrent/api.ErrState", "quitrent/api.ErrForm", "quitrent/api.ErrQuota", "quitrent/api.ErrCeil", "quitrent/api.ErrRoom", "quitrent/api.ErrBudget", "quitrent/api.ErrFunds", "quitrent/api.ErrDown"], plainKeys := false, apart := false, laid := [("quitrent/api.ErrArg", laid_quitrent_api_ErrArg), ("quitrent/api.ErrNil", laid_quitrent_api_ErrNil), ("quitrent/api.ErrForm", laid_quitrent_api_ErrForm), ("quitrent/api.ErrOver", laid_quitrent_api_ErrOver), ("quitrent/api.ErrNone", laid_quitrent_api_ErrNone), ("quitrent/api.ErrDup", laid_quitrent_api_ErrDup), ("quitrent/api.ErrFull", laid_quitrent_api_ErrFull), ("quitrent/api.ErrQuota", laid_quitrent_api_ErrQuota), ("quitrent/api.ErrCeil", laid_quitrent_api_ErrCeil), ("quitrent/api.ErrRoom", laid_quitrent_api_ErrRoom), ("quitrent/api.ErrBudget", laid_quitrent_api_ErrBudget), ("quitrent/api.ErrFunds", laid_quitrent_api_ErrFunds), ("quitrent/api.ErrState", laid_quitrent_api_ErrState), ("quitrent/api.ErrDown", laid_quitrent_api_ErrDown)] }
def ParkExactSaid : Prop := parkExactRow.holds Tryd.pinned (OpenSpec.ofChange parkExactSpec)

/-- ITS FALSE NEIGHBOUR: 'it returns false'. Refute it at one input. -/
def parkExactWrong : ChangeSpec := { name := "parkExact", fn := fun _ => fun
  | [d] => { results := [.lit (.bool false)], args := [d] }
  | _ => none }
def ParkExactWrongFalsely : Prop := parkExactRow.holds Tryd.pinned (OpenSpec.ofChange parkExactWrong)

/-- 'quitrentlaw15.ParkLive': WHATEVER THE INPUT: true; the input reads as it did. -/
def parkLiveSpec : ChangeSpec := { name := "parkLive", fn := fun _ => fun
  | [d] => { results := [.lit (.bool true)], args := [d] }
  | _ => none }
def parkLiveRow : OpenClaim := { program := "ytnlolefgifeohaadoor", sum := "940375a8d115c3f9b60b298a58cf7a05491ccbacd756385ff5674408e30ec25a", func := "quitrent/quitrentlaw15.ParkLive", spec := "parkLive", inPlace := ["internal/reflectlite.TypeOf"], unfollowed := true, recurses := true, named := ["quitrent/api.ErrNil", "quitrent/api.ErrArg", "quitrent/api.ErrDup", "quitrent/api.ErrFull", "quitrent/api.ErrOver", "quitrent/api.ErrNone", "quitrent/api.ErrState", "quitrent/api.ErrForm", "quitrent/api.ErrQuota", "quitrent/api.ErrCeil", "quitrent/api.ErrRoom", "quitrent/api.ErrBudget", "quitrent/api.ErrFunds", "quitrent/api.ErrDown"], plainKeys := false, apart := false, laid := [("quitrent/api.ErrArg", laid_quitrent_api_ErrArg), ("quitrent/api.ErrNil", laid_quitrent_api_ErrNil), ("quitrent/api.ErrForm", laid_quitrent_api_ErrForm), ("quitrent/api.ErrOver", laid_quitrent_api_ErrOver), ("quitrent/api.ErrNone", laid_quitrent_api_ErrNone), ("quitrent/api.ErrDup", laid_quitrent_api_ErrDup), ("quitrent/api.ErrFull", laid_quitrent_api_ErrFull), ("quitrent/api.ErrQuota", laid_quitrent_api_ErrQuota), ("quitrent/api.ErrCeil", laid_quitrent_api_ErrCeil), ("quitrent/api.ErrRoom", laid_quitrent_api_ErrRoom), ("quitrent/api.ErrBudget", laid_quitrent_api_ErrBudget), ("quitrent/api.ErrFunds", laid_quitrent_api_ErrFunds), ("quitrent/api.ErrState", laid_quitrent_api_ErrState), ("quitrent/api.ErrDown", laid_quitrent_api_ErrDown)] }
def ParkLiveSaid : Prop := parkLiveRow.holds Tryd.pinned (OpenSpec.ofChange parkLiveSpec)

/-- ITS FALSE NEIGHBOUR: 'it returns false'. Refute it at one input. -/
def parkLiveWrong : ChangeSpec := { name := "parkLive", fn := fun _ => fun
  | [d] => { results := [.lit (.bool false)], args := [d] }
  | _ => none }
def ParkLiveWrongFalsely : Prop := parkLiveRow.holds Tryd.pinned (OpenSpec.ofChange parkLiveWrong)

/-- 'quitrentlaw15.ParkEnd': WHATEVER THE INPUT: true; the input reads as it did. -/
def parkEndSpec : ChangeSpec := { name := "parkEnd", fn := fun _ => fun
  | [d] => { results := [.lit (.bool true)], args := [d] }
  | _ => none }
def parkEndRow : OpenClaim := { program := "ytnlolefgifeohaadoor", sum := "940375a8d115c3f9b60b298a58cf7a05491ccbacd756385ff5674408e30ec25a", func := "quitrent/quitrentlaw15.ParkEnd", spec := "parkEnd", inPlace := ["internal/reflectlite.TypeOf"], unfollowed := true, recurses := true, named := ["quitrent/api.ErrNil", "quitrent/api.ErrArg", "quitrent/api.ErrDup", "quitrent/api.ErrFull", "quitrent/api.ErrOver", "quitrent/api.ErrNone", "quitrent/api.ErrState", "quitrent/api.ErrForm", "quitrent/api.ErrQuota", "quitrent/api.ErrCeil", "quitrent/api.ErrRoom", "quitrent/api.ErrBudget", "quitrent/api.ErrFunds", "quitrent/api.ErrDown"], plainKeys := false, apart := false, laid := [("quitrent/api.ErrArg", laid_quitrent_api_ErrArg), ("quitrent/api.ErrNil", laid_quitrent_api_ErrNil), ("quitrent/api.ErrForm", laid_quitrent_api_ErrForm), ("quitrent/api.ErrOver", laid_quitrent_api_ErrOver), ("quitrent/api.ErrNone", laid_quitrent_api_ErrNone), ("quitrent/api.ErrDup", laid_quitrent_api_ErrDup), ("quitrent/api.ErrFull", laid_quitrent_api_ErrFull), ("quitrent/api.ErrQuota", laid_quitrent_api_ErrQuota), ("quitrent/api.ErrCeil", laid_quitrent_api_ErrCeil), ("quitrent/api.ErrRoom", laid_quitrent_api_ErrRoom), ("quitrent/api.ErrBudget", laid_quitrent_api_ErrBudget), ("quitrent/api.ErrFunds", laid_quitrent_api_ErrFunds), ("quitrent/api.ErrState", laid_quitrent_api_ErrState), ("quitrent/api.ErrDown", laid_quitrent_api_ErrDown)] }
def ParkEndSaid : Prop := parkEndRow.holds Tryd.pinned (OpenSpec.ofChange parkEndSpec)

/-- ITS FALSE NEIGHBOUR: 'it returns false'. Refute it at one input. -/
def parkEndWrong : ChangeSpec := { name := "parkEnd", fn := fun _ => fun
  | [d] => { results := [.lit (.bool false)], args := [d] }
  | _ => none }
def ParkEndWrongFalsely : Prop := parkEndRow.holds Tryd.pinned (OpenSpec.ofChange parkEndWrong)

/-- 'quitrentlaw11.GrantRound': WHATEVER THE INPUT: true; the input reads as it did. -/
def grantRoundSpec : ChangeSpec := { name := "grantRound", fn := fun _ => fun
  | [d1, d2, d3, d4] => { results := [.lit (.bool true)], args := [d1, d2, d3, d4] }
  | _ => none }
def grantRoundRow : OpenClaim := { program := "ytnlolefgifeohaadoor", sum := "940375a8d115c3f9b60b298a58cf7a05491ccbacd756385ff5674408e30ec25a", func := "quitrent/quitrentlaw11.GrantRound", spec := "grantRound", inPlace := ["internal/reflectlite.TypeOf"], unfollowed := true, recurses := true, named := ["quitrent/api.ErrNil", "quitrent/api.ErrArg", "quitrent/api.ErrOver", "quitrent/api.ErrQuota", "quitrent/api.ErrState", "quitrent/api.ErrForm", "quitrent/api.ErrNone", "quitrent/api.ErrDup", "quitrent/api.ErrFull", "quitrent/api.ErrCeil", "quitrent/api.ErrRoom", "quitrent/api.ErrBudget", "quitrent/api.ErrFunds", "quitrent/api.ErrDown"], plainKeys := false, apart := false, laid := [("quitrent/api.ErrArg", laid_quitrent_api_ErrArg), ("quitrent/api.ErrNil", laid_quitrent_api_ErrNil), ("quitrent/api.ErrForm", laid_quitrent_api_ErrForm), ("quitrent/api.ErrOver", laid_quitrent_api_ErrOver), ("quitrent/api.ErrNone", laid_quitrent_api_ErrNone), ("quitrent/api.ErrDup", laid_quitrent_api_ErrDup), ("quitrent/api.ErrFull", laid_quitrent_api_ErrFull), ("quitrent/api.ErrQuota", laid_quitrent_api_ErrQuota), ("quitrent/api.ErrCeil", laid_quitrent_api_ErrCeil), ("quitrent/api.ErrRoom", laid_quitrent_api_ErrRoom), ("quitrent/api.ErrBudget", laid_quitrent_api_ErrBudget), ("quitrent/api.ErrFunds", laid_quitrent_api_ErrFunds), ("quitrent/api.ErrState", laid_quitrent_api_ErrState), ("quitrent/api.ErrDown", laid_quitrent_api_ErrDown)] }
def GrantRoundSaid : Prop := grantRoundRow.holds Tryd.pinned (OpenSpec.ofChange grantRoundSpec)

/-- ITS FALSE NEIGHBOUR: 'it returns false'. Refute it at one input. -/
def grantRoundWrong : ChangeSpec := { name := "grantRound", fn := fun _ => fun
  | [d1, d2, d3, d4] => { results := [.lit (.bool false)], args := [d1, d2, d3, d4] }
  | _ => none }
def GrantRoundWrongFalsely : Prop := grantRoundRow.holds Tryd.pinned (OpenSpec.ofChange grantRoundWrong)

/-- 'quitrentlaw11.GrantTotal': WHATEVER THE INPUT: true; the input reads as it did. -/
def grantTotalSpec : ChangeSpec := { name := "grantTotal", fn := fun _ => fun
  | [d1, d2] => { results := [.lit (.bool true)], args := [d1, d2] }
  | _ => none }
def grantTotalRow : OpenClaim := { program := "ytnlolefgifeohaadoor", sum := "940375a8d115c3f9b60b298a58cf7a05491ccbacd756385ff5674408e30ec25a", func := "quitrent/quitrentlaw11.GrantTotal", spec := "grantTotal", inPlace := ["internal/reflectlite.TypeOf"], unfollowed := true, recurses := true, named := ["quitrent/api.ErrNil", "quitrent/api.ErrArg", "quitrent/api.ErrOver", "quitrent/api.ErrQuota", "quitrent/api.ErrState", "quitrent/api.ErrForm", "quitrent/api.ErrNone", "quitrent/api.ErrDup", "quitrent/api.ErrFull", "quitrent/api.ErrCeil", "quitrent/api.ErrRoom", "quitrent/api.ErrBudget", "quitrent/api.ErrFunds", "quitrent/api.ErrDown"], plainKeys := false, apart := false, laid := [("quitrent/api.ErrArg", laid_quitrent_api_ErrArg), ("quitrent/api.ErrNil", laid_quitrent_api_ErrNil), ("quitrent/api.ErrForm", laid_quitrent_api_ErrForm), ("quitrent/api.ErrOver", laid_quitrent_api_ErrOver), ("quitrent/api.ErrNone", laid_quitrent_api_ErrNone), ("quitrent/api.ErrDup", laid_quitrent_api_ErrDup), ("quitrent/api.ErrFull", laid_quitrent_api_ErrFull), ("quitrent/api.ErrQuota", laid_quitrent_api_ErrQuota), ("quitrent/api.ErrCeil", laid_quitrent_api_ErrCeil), ("quitrent/api.ErrRoom", laid_quitrent_api_ErrRoom), ("quitrent/api.ErrBudget", laid_quitrent_api_ErrBudget), ("quitrent/api.ErrFunds", laid_quitrent_api_ErrFunds), ("quitrent/api.ErrState", laid_quitrent_api_ErrState), ("quitrent/api.ErrDown", laid_quitrent_api_ErrDown)] }
def GrantTotalSaid : Prop := grantTotalRow.holds Tryd.pinned (OpenSpec.ofChange grantTotalSpec)

/-- ITS FALSE NEIGHBOUR: 'it returns false'. Refute it at one input. -/
def grantTotalWrong : ChangeSpec := { name := "grantTotal", fn := fun _ => fun
  | [d1, d2] => { results := [.lit (.bool false)], args := [d1, d2] }
  | _ => none }
def GrantTotalWrongFalsely : Prop := grantTotalRow.holds Tryd.pinned (OpenSpec.ofChange grantTotalWrong)

/- THE SECOND FORM. 'bulk': how many values and letters a reading holds, each counted each time it is reached (what is shared counts as often as it is met; a slice's spare places count too). A statement '..UptoSaid' is the law's where the arguments, and the package variables that the reading takes, are together of bulk at most 1048576: NARROWER than '..Said'. Prove '..Said' where nothing that the law and all that it calls make is longer than what came in: it says more and counts as full. Else prove '..UptoSaid'. A law counts once. -/
mutual
def uptoBulk {H : Type} : DataW H → Nat
  | .lit (.string bytes) => bytes.length + 1
  | .lit _ => 1
  | .nil => 1
  | .ptr d => uptoBulk d + 1
  | .slice elems spare => uptoBulkAll elems + uptoBulkAll spare + 1
  | .agg parts => uptoBulkAll parts + 1
  | .iface _ d => uptoBulk d + 1
  | .map entries => uptoBulkEntries entries + 1
  | .held _ => 1
def uptoBulkAll {H : Type} : List (DataW H) → Nat
  | [] => 0
  | d :: r => uptoBulk d + uptoBulkAll r
def uptoBulkEntries {H : Type} : List (Lit × DataW H) → Nat
  | [] => 0
  | x :: r => uptoBulkEntry x + uptoBulkEntries r
def uptoBulkEntry {H : Type} : Lit × DataW H → Nat
  | (.string bytes, d) => bytes.length + uptoBulk d + 1
  | (_, d) => uptoBulk d + 1
 end
def uptoSmall : (H : Type) → List (DataW H) → Bool := fun _ ds => decide (uptoBulkAll ds ≤ 1048576)
def OpenSpec.upto (s : _root_.Go.ChangeSpec) : _root_.Go.OpenSpec := { _root_.Go.OpenSpec.ofChange s with cond := some uptoSmall }

/-- 'quitrentlaw10.PurseTotal', WHERE WHAT IT READS IS OF BULK AT MOST 1048576: true; the input reads as it did. -/
def purseTotalUptoRow : OpenClaim := { program := "ytnlolefgifeohaadoor", sum := "940375a8d115c3f9b60b298a58cf7a05491ccbacd756385ff5674408e30ec25a", func := "quitrent/quitrentlaw10.PurseTotal", spec := "purseTotal", inPlace := ["internal/reflectlite.TypeOf"], unfollowed := true, recurses := true, named := ["quitrent/api.ErrOver", "quitrent/api.ErrNil", "quitrent/api.ErrArg", "quitrent/api.ErrFunds", "quitrent/api.ErrState", "quitrent/api.ErrForm", "quitrent/api.ErrNone", "quitrent/api.ErrDup", "quitrent/api.ErrFull", "quitrent/api.ErrQuota", "quitrent/api.ErrCeil", "quitrent/api.ErrRoom", "quitrent/api.ErrBudget", "quitrent/api.ErrDown"], plainKeys := false, apart := false, laid := [("quitrent/api.ErrArg", laid_quitrent_api_ErrArg), ("quitrent/api.ErrNil", laid_quitrent_api_ErrNil), ("quitrent/api.ErrForm", laid_quitrent_api_ErrForm), ("quitrent/api.ErrOver", laid_quitrent_api_ErrOver), ("quitrent/api.ErrNone", laid_quitrent_api_ErrNone), ("quitrent/api.ErrDup", laid_quitrent_api_ErrDup), ("quitrent/api.ErrFull", laid_quitrent_api_ErrFull), ("quitrent/api.ErrQuota", laid_quitrent_api_ErrQuota), ("quitrent/api.ErrCeil", laid_quitrent_api_ErrCeil), ("quitrent/api.ErrRoom", laid_quitrent_api_ErrRoom), ("quitrent/api.ErrBudget", laid_quitrent_api_ErrBudget), ("quitrent/api.ErrFunds", laid_quitrent_api_ErrFunds), ("quitrent/api.ErrState", laid_quitrent_api_ErrState), ("quitrent/api.ErrDown", laid_quitrent_api_ErrDown)], narrowed := true }
def PurseTotalUptoSaid : Prop := purseTotalUptoRow.holds Tryd.pinned (OpenSpec.upto purseTotalSpec)

/-- 'quitrentlaw10.PurseBack', WHERE WHAT IT READS IS OF BULK AT MOST 1048576: true; the input reads as it did. -/
def purseBackUptoRow : OpenClaim := { program := "ytnlolefgifeohaadoor", sum := "940375a8d115c3f9b60b298a58cf7a05491ccbacd756385ff5674408e30ec25a", func := "quitrent/quitrentlaw10.PurseBack", spec := "purseBack", inPlace := ["internal/reflectlite.TypeOf"], unfollowed := true, recurses := true, named := ["quitrent/api.ErrOver", "quitrent/api.ErrNil", "quitrent/api.ErrArg", "quitrent/api.ErrFunds", "quitrent/api.ErrState", "quitrent/api.ErrForm", "quitrent/api.ErrNone", "quitrent/api.ErrDup", "quitrent/api.ErrFull", "quitrent/api.ErrQuota", "quitrent/api.ErrCeil", "quitrent/api.ErrRoom", "quitrent/api.ErrBudget", "quitrent/api.ErrDown"], plainKeys := false, apart := false, laid := [("quitrent/api.ErrArg", laid_quitrent_api_ErrArg), ("quitrent/api.ErrNil", laid_quitrent_api_ErrNil), ("quitrent/api.ErrForm", laid_quitrent_api_ErrForm), ("quitrent/api.ErrOver", laid_quitrent_api_ErrOver), ("quitrent/api.ErrNone", laid_quitrent_api_ErrNone), ("quitrent/api.ErrDup", laid_quitrent_api_ErrDup), ("quitrent/api.ErrFull", laid_quitrent_api_ErrFull), ("quitrent/api.ErrQuota", laid_quitrent_api_ErrQuota), ("quitrent/api.ErrCeil", laid_quitrent_api_ErrCeil), ("quitrent/api.ErrRoom", laid_quitrent_api_ErrRoom), ("quitrent/api.ErrBudget", laid_quitrent_api_ErrBudget), ("quitrent/api.ErrFunds", laid_quitrent_api_ErrFunds), ("quitrent/api.ErrState", laid_quitrent_api_ErrState), ("quitrent/api.ErrDown", laid_quitrent_api_ErrDown)], narrowed := true }
def PurseBackUptoSaid : Prop := purseBackUptoRow.holds Tryd.pinned (OpenSpec.upto purseBackSpec)

/-- 'quitrentlaw15.ParkExact', WHERE WHAT IT READS IS OF BULK AT MOST 1048576: true; the input reads as it did. -/
def parkExactUptoRow : OpenClaim := { program := "ytnlolefgifeohaadoor", sum := "940375a8d115c3f9b60b298a58cf7a05491ccbacd756385ff5674408e30ec25a", func := "quitrent/quitrentlaw15.ParkExact", spec := "parkExact", inPlace := ["internal/reflectlite.TypeOf"], unfollowed := true, recurses := true, named := ["quitrent/api.ErrNil", "quitrent/api.ErrArg", "quitrent/api.ErrDup", "quitrent/api.ErrFull", "quitrent/api.ErrOver", "quitrent/api.ErrNone", "quitrent/api.ErrState", "quitrent/api.ErrForm", "quitrent/api.ErrQuota", "quitrent/api.ErrCeil", "quitrent/api.ErrRoom", "quitrent/api.ErrBudget", "quitrent/api.ErrFunds", "quitrent/api.ErrDown"], plainKeys := false, apart := false, laid := [("quitrent/api.ErrArg", laid_quitrent_api_ErrArg), ("quitrent/api.ErrNil", laid_quitrent_api_ErrNil), ("quitrent/api.ErrForm", laid_quitrent_api_ErrForm), ("quitrent/api.ErrOver", laid_quitrent_api_ErrOver), ("quitrent/api.ErrNone", laid_quitrent_api_ErrNone), ("quitrent/api.ErrDup", laid_quitrent_api_ErrDup), ("quitrent/api.ErrFull", laid_quitrent_api_ErrFull), ("quitrent/api.ErrQuota", laid_quitrent_api_ErrQuota), ("quitrent/api.ErrCeil", laid_quitrent_api_ErrCeil), ("quitrent/api.ErrRoom", laid_quitrent_api_ErrRoom), ("quitrent/api.ErrBudget", laid_quitrent_api_ErrBudget), ("quitrent/api.ErrFunds", laid_quitrent_api_ErrFunds), ("quitrent/api.ErrState", laid_quitrent_api_ErrState), ("quitrent/api.ErrDown", laid_quitrent_api_ErrDown)], narrowed := true }
def ParkExactUptoSaid : Prop := parkExactUptoRow.holds Tryd.pinned (OpenSpec.upto parkExactSpec)

/-- 'quitrentlaw15.ParkLive', WHERE WHAT IT READS IS OF BULK AT MOST 1048576: true; the input reads as it did. -/
def parkLiveUptoRow : OpenClaim := { program := "ytnlolefgifeohaadoor", sum := "940375a8d115c3f9b60b298a58cf7a05491ccbacd756385ff5674408e30ec25a", func := "quitrent/quitrentlaw15.ParkLive", spec := "parkLive", inPlace := ["internal/reflectlite.TypeOf"], unfollowed := true, recurses := true, named := ["quitrent/api.ErrNil", "quitrent/api.ErrArg", "quitrent/api.ErrDup", "quitrent/api.ErrFull", "quitrent/api.ErrOver", "quitrent/api.ErrNone", "quitrent/api.ErrState", "quitrent/api.ErrForm", "quitrent/api.ErrQuota", "quitrent/api.ErrCeil", "quitrent/api.ErrRoom", "quitrent/api.ErrBudget", "quitrent/api.ErrFunds", "quitrent/api.ErrDown"], plainKeys := false, apart := false, laid := [("quitrent/api.ErrArg", laid_quitrent_api_ErrArg), ("quitrent/api.ErrNil", laid_quitrent_api_ErrNil), ("quitrent/api.ErrForm", laid_quitrent_api_ErrForm), ("quitrent/api.ErrOver", laid_quitrent_api_ErrOver), ("quitrent/api.ErrNone", laid_quitrent_api_ErrNone), ("quitrent/api.ErrDup", laid_quitrent_api_ErrDup), ("quitrent/api.ErrFull", laid_quitrent_api_ErrFull), ("quitrent/api.ErrQuota", laid_quitrent_api_ErrQuota), ("quitrent/api.ErrCeil", laid_quitrent_api_ErrCeil), ("quitrent/api.ErrRoom", laid_quitrent_api_ErrRoom), ("quitrent/api.ErrBudget", laid_quitrent_api_ErrBudget), ("quitrent/api.ErrFunds", laid_quitrent_api_ErrFunds), ("quitrent/api.ErrState", laid_quitrent_api_ErrState), ("quitrent/api.ErrDown", laid_quitrent_api_ErrDown)], narrowed := true }
def ParkLiveUptoSaid : Prop := parkLiveUptoRow.holds Tryd.pinned (OpenSpec.upto parkLiveSpec)

/-- 'quitrentlaw15.ParkEnd', WHERE WHAT IT READS IS OF BULK AT MOST 1048576: true; the input reads as it did. -/
def parkEndUptoRow : OpenClaim := { program := "ytnlolefgifeohaadoor", sum := "940375a8d115c3f9b60b298a58cf7a05491ccbacd756385ff5674408e30ec25a", func := "quitrent/quitrentlaw15.ParkEnd", spec := "parkEnd", inPlace := ["internal/reflectlite.TypeOf"], unfollowed := true, recurses := true, named := ["quitrent/api.ErrNil", "quitrent/api.ErrArg", "quitrent/api.ErrDup", "quitrent/api.ErrFull", "quitrent/api.ErrOver", "quitrent/api.ErrNone", "quitrent/api.ErrState", "quitrent/api.ErrForm", "quitrent/api.ErrQuota", "quitrent/api.ErrCeil", "quitrent/api.ErrRoom", "quitrent/api.ErrBudget", "quitrent/api.ErrFunds", "quitrent/api.ErrDown"], plainKeys := false, apart := false, laid := [("quitrent/api.ErrArg", laid_quitrent_api_ErrArg), ("quitrent/api.ErrNil", laid_quitrent_api_ErrNil), ("quitrent/api.ErrForm", laid_quitrent_api_ErrForm), ("quitrent/api.ErrOver", laid_quitrent_api_ErrOver), ("quitrent/api.ErrNone", laid_quitrent_api_ErrNone), ("quitrent/api.ErrDup", laid_quitrent_api_ErrDup), ("quitrent/api.ErrFull", laid_quitrent_api_ErrFull), ("quitrent/api.ErrQuota", laid_quitrent_api_ErrQuota), ("quitrent/api.ErrCeil", laid_quitrent_api_ErrCeil), ("quitrent/api.ErrRoom", laid_quitrent_api_ErrRoom), ("quitrent/api.ErrBudget", laid_quitrent_api_ErrBudget), ("quitrent/api.ErrFunds", laid_quitrent_api_ErrFunds), ("quitrent/api.ErrState", laid_quitrent_api_ErrState), ("quitrent/api.ErrDown", laid_quitrent_api_ErrDown)], narrowed := true }
def ParkEndUptoSaid : Prop := parkEndUptoRow.holds Tryd.pinned (OpenSpec.upto parkEndSpec)

/-- 'quitrentlaw11.GrantRound', WHERE WHAT IT READS IS OF BULK AT MOST 1048576: true; the input reads as it did. -/
def grantRoundUptoRow : OpenClaim := { program := "ytnlolefgifeohaadoor", sum := "940375a8d115c3f9b60b298a58cf7a05491ccbacd756385ff5674408e30ec25a", func := "quitrent/quitrentlaw11.GrantRound", spec := "grantRound", inPlace := ["internal/reflectlite.TypeOf"], unfollowed := true, recurses := true, named := ["quitrent/api.ErrNil", "quitrent/api.ErrArg", "quitrent/api.ErrOver", "quitrent/api.ErrQuota", "quitrent/api.ErrState", "quitrent/api.ErrForm", "quitrent/api.ErrNone", "quitrent/api.ErrDup", "quitrent/api.ErrFull", "quitrent/api.ErrCeil", "quitrent/api.ErrRoom", "quitrent/api.ErrBudget", "quitrent/api.ErrFunds", "quitrent/api.ErrDown"], plainKeys := false, apart := false, laid := [("quitrent/api.ErrArg", laid_quitrent_api_ErrArg), ("quitrent/api.ErrNil", laid_quitrent_api_ErrNil), ("quitrent/api.ErrForm", laid_quitrent_api_ErrForm), ("quitrent/api.ErrOver", laid_quitrent_api_ErrOver), ("quitrent/api.ErrNone", laid_quitrent_api_ErrNone), ("quitrent/api.ErrDup", laid_quitrent_api_ErrDup), ("quitrent/api.ErrFull", laid_quitrent_api_ErrFull), ("quitrent/api.ErrQuota", laid_quitrent_api_ErrQuota), ("quitrent/api.ErrCeil", laid_quitrent_api_ErrCeil), ("quitrent/api.ErrRoom", laid_quitrent_api_ErrRoom), ("quitrent/api.ErrBudget", laid_quitrent_api_ErrBudget), ("quitrent/api.ErrFunds", laid_quitrent_api_ErrFunds), ("quitrent/api.ErrState", laid_quitrent_api_ErrState), ("quitrent/api.ErrDown", laid_quitrent_api_ErrDown)], narrowed := true }
def GrantRoundUptoSaid : Prop := grantRoundUptoRow.holds Tryd.pinned (OpenSpec.upto grantRoundSpec)

/-- 'quitrentlaw11.GrantTotal', WHERE WHAT IT READS IS OF BULK AT MOST 1048576: true; the input reads as it did. -/
def grantTotalUptoRow : OpenClaim := { program := "ytnlolefgifeohaadoor", sum := "940375a8d115c3f9b60b298a58cf7a05491ccbacd756385ff5674408e30ec25a", func := "quitrent/quitrentlaw11.GrantTotal", spec := "grantTotal", inPlace := ["internal/reflectlite.TypeOf"], unfollowed := true, recurses := true, named := ["quitrent/api.ErrNil", "quitrent/api.ErrArg", "quitrent/api.ErrOver", "quitrent/api.ErrQuota", "quitrent/api.ErrState", "quitrent/api.ErrForm", "quitrent/api.ErrNone", "quitrent/api.ErrDup", "quitrent/api.ErrFull", "quitrent/api.ErrCeil", "quitrent/api.ErrRoom", "quitrent/api.ErrBudget", "quitrent/api.ErrFunds", "quitrent/api.ErrDown"], plainKeys := false, apart := false, laid := [("quitrent/api.ErrArg", laid_quitrent_api_ErrArg), ("quitrent/api.ErrNil", laid_quitrent_api_ErrNil), ("quitrent/api.ErrForm", laid_quitrent_api_ErrForm), ("quitrent/api.ErrOver", laid_quitrent_api_ErrOver), ("quitrent/api.ErrNone", laid_quitrent_api_ErrNone), ("quitrent/api.ErrDup", laid_quitrent_api_ErrDup), ("quitrent/api.ErrFull", laid_quitrent_api_ErrFull), ("quitrent/api.ErrQuota", laid_quitrent_api_ErrQuota), ("quitrent/api.ErrCeil", laid_quitrent_api_ErrCeil), ("quitrent/api.ErrRoom", laid_quitrent_api_ErrRoom), ("quitrent/api.ErrBudget", laid_quitrent_api_ErrBudget), ("quitrent/api.ErrFunds", laid_quitrent_api_ErrFunds), ("quitrent/api.ErrState", laid_quitrent_api_ErrState), ("quitrent/api.ErrDown", laid_quitrent_api_ErrDown)], narrowed := true }
def GrantTotalUptoSaid : Prop := grantTotalUptoRow.holds Tryd.pinned (OpenSpec.upto grantTotalSpec)

end Rows
end Go.Proofs.YtnlolefgifeohaaDoor
