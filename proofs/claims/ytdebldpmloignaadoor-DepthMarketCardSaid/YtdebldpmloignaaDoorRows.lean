/-
  NARROWER THAN 'FOR EVERY INPUT', by the rows' own cells (each row's printed sentence says how): WireOnly: laid · WireReads: laid · WireWrites: laid · WireBack: laid · BookCuts: laid · BookOrder: laid · DealFair: laid · DealParts: laid · BookExact: laid · DealExact: laid · DepthMarket: laid.
  DERIVED. THE GIVEN ROWS OF THIS SEAT. 11 by the template 'for every input the law returns true; each argument reads behind the call as it read before'; 0 by the template 'total and deterministic' (their statements: YtdebldpmloignaaDoorTotals.lean).
  GIVEN WITH THE SEED: the statements are not yours to turn. If you find one false, say at which input.
  Laid BY PROGRAM, IN A SANDBOX (cutbox-rows.mjs): the forced cells as the released guide's own fill.sh prints them over the translation f0ec96cbc7d174c0… (all of the seat's roots in one cut). By AI agents, Wed Nov 11 2026. No macro, syntax, notation, axiom, sorry.
-/
import Derived.Test.YtdebldpmloignaaDoorChecked
import GoSem.Claim
import GoSem.ClaimJoined
import GoSem.ClaimMapViews
import Derived.JoinedTies
import Derived.KernelRfl
namespace Go.Proofs.YtdebldpmloignaaDoor
/- THE CELL 'sum', in the pinned program and in every row, IS THE sha256 OF THE DUMP (.gsa) THAT YtdebldpmloignaaDoorProg.lean LOADS. Nothing in Lean hashes anything: it is a label: what it is worth is what the hold of that sum in a sandbox is worth. -/
noncomputable def Tryd.pinned : Pinned := { name := "ytdebldpmloignaadoor", sum := "f0ec96cbc7d174c0eac5aaa1be42b17f3764d93f6af9a0766510201cba68508b", checked := Tryd.checked }
namespace Rows
def none {H : Type} : Left H := { results := [], args := [] }

/- WHAT THE LISTED PACKAGE-LEVEL VARIABLES READ AS WHEN THE CALL BEGINS. Each datum BY PROGRAM (the guide's laid-datum.mjs) off the statement by which the dump's own 'gosem.cut.vars' lays the variable. In a bare row this is a premise. The card (YtdebldpmloignaaDoorCards.lean) ties it to the program's text. -/
def laid_errors_errorType {H : Type} : DataW H := .iface "internal/reflectlite.rtype" (.agg [.ptr (.lit (.string [101, 114, 114, 111, 114]))])
def laid_quitrent_api_ErrNil {H : Type} : DataW H := .iface "*errors.errorString" (.ptr (.agg [.lit (.string [97, 32, 110, 105, 108, 32, 116, 104, 105, 110, 103])]))
def laid_quitrent_api_ErrForm {H : Type} : DataW H := .iface "*errors.errorString" (.ptr (.agg [.lit (.string [98, 121, 116, 101, 115, 32, 111, 102, 32, 110, 111, 32, 102, 111, 114, 109])]))
def laid_quitrent_api_ErrArg {H : Type} : DataW H := .iface "*errors.errorString" (.ptr (.agg [.lit (.string [97, 110, 32, 97, 114, 103, 117, 109, 101, 110, 116, 32, 116, 104, 97, 116, 32, 99, 97, 110, 39, 116, 32, 98, 101])]))
def laid_quitrent_api_ErrOver {H : Type} : DataW H := .iface "*errors.errorString" (.ptr (.agg [.lit (.string [97, 32, 110, 117, 109, 98, 101, 114, 32, 116, 104, 97, 116, 32, 105, 115, 32, 116, 111, 111, 32, 103, 114, 101, 97, 116, 44, 32, 111, 114, 32, 98, 101, 108, 111, 119, 32, 110, 111, 116, 104, 105, 110, 103])]))
def laid_quitrent_api_ErrNone {H : Type} : DataW H := .iface "*errors.errorString" (.ptr (.agg [.lit (.string [116, 104, 101, 114, 101, 32, 105, 115, 32, 110, 111, 110, 101])]))
def laid_quitrent_api_ErrDup {H : Type} : DataW H := .iface "*errors.errorString" (.ptr (.agg [.lit (.string [116, 104, 101, 114, 101, 32, 105, 115, 32, 111, 110, 101])]))
def laid_quitrent_api_ErrFull {H : Type} : DataW H := .iface "*errors.errorString" (.ptr (.agg [.lit (.string [116, 104, 101, 114, 101, 32, 97, 114, 101, 32, 116, 111, 111, 32, 109, 97, 110, 121])]))
def laid_quitrent_api_ErrQuota {H : Type} : DataW H := .iface "*errors.errorString" (.ptr (.agg [.lit (.string [116, 111, 111, 32, 108, 105, 116, 116, 108, 101, 32, 113, 117, 111, 116, 97])]))
def laid_quitrent_api_ErrCeil {H : Type} : DataW H := .iface "*errors.errorString" (.ptr (.agg [.lit (.string [109, 111, 114, 101, 32, 116, 104, 97, 110, 32, 109, 97, 121, 32, 98, 101, 32, 103, 105, 118, 101, 110, 32, 111, 117, 116])]))
def laid_quitrent_api_ErrRoom {H : Type} : DataW H := .iface "*errors.errorString" (.ptr (.agg [.lit (.string [110, 111, 32, 109, 97, 99, 104, 105, 110, 101, 32, 104, 97, 115, 32, 114, 111, 111, 109])]))
def laid_quitrent_api_ErrBudget {H : Type} : DataW H := .iface "*errors.errorString" (.ptr (.agg [.lit (.string [116, 111, 111, 32, 109, 97, 110, 121, 32, 101, 118, 105, 99, 116, 105, 111, 110, 115, 32, 111, 102, 32, 97, 32, 106, 111, 98])]))
def laid_quitrent_api_ErrFunds {H : Type} : DataW H := .iface "*errors.errorString" (.ptr (.agg [.lit (.string [116, 111, 111, 32, 108, 105, 116, 116, 108, 101, 32, 99, 114, 101, 100, 105, 116])]))
def laid_quitrent_api_ErrState {H : Type} : DataW H := .iface "*errors.errorString" (.ptr (.agg [.lit (.string [110, 111, 116, 32, 110, 111, 119])]))
def laid_quitrent_api_ErrDown {H : Type} : DataW H := .iface "*errors.errorString" (.ptr (.agg [.lit (.string [116, 104, 101, 32, 112, 111, 119, 101, 114, 32, 105, 115, 32, 97, 119, 97, 121])]))

/-- 'quitrentlaw03.WireOnly': WHATEVER THE INPUT: true; the input reads as it did. -/
def wireOnlySpec : ChangeSpec := { name := "wireOnly", fn := fun _ => fun
  | [d] => { results := [.lit (.bool true)], args := [d] }
  | _ => none }
def wireOnlyRow : OpenClaim := { program := "ytdebldpmloignaadoor", sum := "f0ec96cbc7d174c0eac5aaa1be42b17f3764d93f6af9a0766510201cba68508b", func := "quitrent/quitrentlaw03.WireOnly", spec := "wireOnly", inPlace := ["internal/abi.NoEscape", "internal/reflectlite.ValueOf", "(internal/reflectlite.Value).Type", "(internal/reflectlite.Value).IsNil", "internal/reflectlite.TypeOf", "(internal/reflectlite.Value).Elem", "(internal/reflectlite.Value).Set"], unfollowed := true, recurses := true, named := ["quitrent/api.ErrForm", "quitrent/api.ErrNil", "errors.errorType"], apart := false, laid := [("errors.errorType", laid_errors_errorType), ("quitrent/api.ErrNil", laid_quitrent_api_ErrNil), ("quitrent/api.ErrForm", laid_quitrent_api_ErrForm)] }
def WireOnlySaid : Prop := wireOnlyRow.holds Tryd.pinned (OpenSpec.ofChange wireOnlySpec)

/-- ITS FALSE NEIGHBOUR: 'it returns false'. Refute it at one input. -/
def wireOnlyWrong : ChangeSpec := { name := "wireOnly", fn := fun _ => fun
  | [d] => { results := [.lit (.bool false)], args := [d] }
  | _ => none }
def WireOnlyWrongFalsely : Prop := wireOnlyRow.holds Tryd.pinned (OpenSpec.ofChange wireOnlyWrong)

/-- 'quitrentlaw03.WireReads': WHATEVER THE INPUT: true; the input reads as it did. -/
def wireReadsSpec : ChangeSpec := { name := "wireReads", fn := fun _ => fun
  | [d1, d2] => { results := [.lit (.bool true)], args := [d1, d2] }
  | _ => none }
def wireReadsRow : OpenClaim := { program := "ytdebldpmloignaadoor", sum := "f0ec96cbc7d174c0eac5aaa1be42b17f3764d93f6af9a0766510201cba68508b", func := "quitrent/quitrentlaw03.WireReads", spec := "wireReads", inPlace := ["internal/abi.NoEscape", "internal/reflectlite.ValueOf", "(internal/reflectlite.Value).Type", "(internal/reflectlite.Value).IsNil", "internal/reflectlite.TypeOf", "(internal/reflectlite.Value).Elem", "(internal/reflectlite.Value).Set"], unfollowed := true, recurses := true, named := ["quitrent/api.ErrNil", "quitrent/api.ErrForm", "errors.errorType"], apart := false, laid := [("errors.errorType", laid_errors_errorType), ("quitrent/api.ErrNil", laid_quitrent_api_ErrNil), ("quitrent/api.ErrForm", laid_quitrent_api_ErrForm)] }
def WireReadsSaid : Prop := wireReadsRow.holds Tryd.pinned (OpenSpec.ofChange wireReadsSpec)

/-- ITS FALSE NEIGHBOUR: 'it returns false'. Refute it at one input. -/
def wireReadsWrong : ChangeSpec := { name := "wireReads", fn := fun _ => fun
  | [d1, d2] => { results := [.lit (.bool false)], args := [d1, d2] }
  | _ => none }
def WireReadsWrongFalsely : Prop := wireReadsRow.holds Tryd.pinned (OpenSpec.ofChange wireReadsWrong)

/-- 'quitrentlaw03.WireWrites': WHATEVER THE INPUT: true; the input reads as it did. -/
def wireWritesSpec : ChangeSpec := { name := "wireWrites", fn := fun _ => fun
  | [d] => { results := [.lit (.bool true)], args := [d] }
  | _ => none }
def wireWritesRow : OpenClaim := { program := "ytdebldpmloignaadoor", sum := "f0ec96cbc7d174c0eac5aaa1be42b17f3764d93f6af9a0766510201cba68508b", func := "quitrent/quitrentlaw03.WireWrites", spec := "wireWrites", inPlace := ["internal/abi.NoEscape", "internal/reflectlite.ValueOf", "(internal/reflectlite.Value).Type", "(internal/reflectlite.Value).IsNil", "internal/reflectlite.TypeOf", "(internal/reflectlite.Value).Elem", "(internal/reflectlite.Value).Set"], unfollowed := true, recurses := true, named := ["quitrent/api.ErrForm", "quitrent/api.ErrNil", "errors.errorType"], apart := false, laid := [("errors.errorType", laid_errors_errorType), ("quitrent/api.ErrNil", laid_quitrent_api_ErrNil), ("quitrent/api.ErrForm", laid_quitrent_api_ErrForm)] }
def WireWritesSaid : Prop := wireWritesRow.holds Tryd.pinned (OpenSpec.ofChange wireWritesSpec)

/-- ITS FALSE NEIGHBOUR: 'it returns false'. Refute it at one input. -/
def wireWritesWrong : ChangeSpec := { name := "wireWrites", fn := fun _ => fun
  | [d] => { results := [.lit (.bool false)], args := [d] }
  | _ => none }
def WireWritesWrongFalsely : Prop := wireWritesRow.holds Tryd.pinned (OpenSpec.ofChange wireWritesWrong)

/-- 'quitrentlaw03.WireBack': WHATEVER THE INPUT: true; the input reads as it did. -/
def wireBackSpec : ChangeSpec := { name := "wireBack", fn := fun _ => fun
  | [d1, d2, d3, d4] => { results := [.lit (.bool true)], args := [d1, d2, d3, d4] }
  | _ => none }
def wireBackRow : OpenClaim := { program := "ytdebldpmloignaadoor", sum := "f0ec96cbc7d174c0eac5aaa1be42b17f3764d93f6af9a0766510201cba68508b", func := "quitrent/quitrentlaw03.WireBack", spec := "wireBack", inPlace := ["internal/abi.NoEscape", "internal/reflectlite.ValueOf", "(internal/reflectlite.Value).Type", "(internal/reflectlite.Value).IsNil", "internal/reflectlite.TypeOf", "(internal/reflectlite.Value).Elem", "(internal/reflectlite.Value).Set"], unfollowed := true, recurses := true, named := ["quitrent/api.ErrForm", "quitrent/api.ErrNil", "errors.errorType"], apart := false, laid := [("errors.errorType", laid_errors_errorType), ("quitrent/api.ErrNil", laid_quitrent_api_ErrNil), ("quitrent/api.ErrForm", laid_quitrent_api_ErrForm)] }
def WireBackSaid : Prop := wireBackRow.holds Tryd.pinned (OpenSpec.ofChange wireBackSpec)

/-- ITS FALSE NEIGHBOUR: 'it returns false'. Refute it at one input. -/
def wireBackWrong : ChangeSpec := { name := "wireBack", fn := fun _ => fun
  | [d1, d2, d3, d4] => { results := [.lit (.bool false)], args := [d1, d2, d3, d4] }
  | _ => none }
def WireBackWrongFalsely : Prop := wireBackRow.holds Tryd.pinned (OpenSpec.ofChange wireBackWrong)

/-- 'quitrentlaw13.BookCuts': WHATEVER THE INPUT: true; the input reads as it did. -/
def bookCutsSpec : ChangeSpec := { name := "bookCuts", fn := fun _ => fun
  | [d1, d2, d3] => { results := [.lit (.bool true)], args := [d1, d2, d3] }
  | _ => none }
def bookCutsRow : OpenClaim := { program := "ytdebldpmloignaadoor", sum := "f0ec96cbc7d174c0eac5aaa1be42b17f3764d93f6af9a0766510201cba68508b", func := "quitrent/quitrentlaw13.BookCuts", spec := "bookCuts", inPlace := ["slices.overlaps[quitrent/book.Order]", "internal/reflectlite.TypeOf"], unfollowed := true, recurses := true, named := ["quitrent/api.ErrNil", "quitrent/api.ErrArg", "quitrent/api.ErrDup", "quitrent/api.ErrFull", "quitrent/api.ErrNone", "quitrent/api.ErrForm", "quitrent/api.ErrOver", "quitrent/api.ErrQuota", "quitrent/api.ErrCeil", "quitrent/api.ErrRoom", "quitrent/api.ErrBudget", "quitrent/api.ErrFunds", "quitrent/api.ErrState", "quitrent/api.ErrDown"], apart := false, laid := [("quitrent/api.ErrArg", laid_quitrent_api_ErrArg), ("quitrent/api.ErrNil", laid_quitrent_api_ErrNil), ("quitrent/api.ErrForm", laid_quitrent_api_ErrForm), ("quitrent/api.ErrOver", laid_quitrent_api_ErrOver), ("quitrent/api.ErrNone", laid_quitrent_api_ErrNone), ("quitrent/api.ErrDup", laid_quitrent_api_ErrDup), ("quitrent/api.ErrFull", laid_quitrent_api_ErrFull), ("quitrent/api.ErrQuota", laid_quitrent_api_ErrQuota), ("quitrent/api.ErrCeil", laid_quitrent_api_ErrCeil), ("quitrent/api.ErrRoom", laid_quitrent_api_ErrRoom), ("quitrent/api.ErrBudget", laid_quitrent_api_ErrBudget), ("quitrent/api.ErrFunds", laid_quitrent_api_ErrFunds), ("quitrent/api.ErrState", laid_quitrent_api_ErrState), ("quitrent/api.ErrDown", laid_quitrent_api_ErrDown)] }
def BookCutsSaid : Prop := bookCutsRow.holds Tryd.pinned (OpenSpec.ofChange bookCutsSpec)

/-- ITS FALSE NEIGHBOUR: 'it returns false'. Refute it at one input. -/
def bookCutsWrong : ChangeSpec := { name := "bookCuts", fn := fun _ => fun
  | [d1, d2, d3] => { results := [.lit (.bool false)], args := [d1, d2, d3] }
  | _ => none }
def BookCutsWrongFalsely : Prop := bookCutsRow.holds Tryd.pinned (OpenSpec.ofChange bookCutsWrong)

/-- 'quitrentlaw13.BookOrder': WHATEVER THE INPUT: true; the input reads as it did. -/
def bookOrderSpec : ChangeSpec := { name := "bookOrder", fn := fun _ => fun
  | [d1, d2, d3] => { results := [.lit (.bool true)], args := [d1, d2, d3] }
  | _ => none }
def bookOrderRow : OpenClaim := { program := "ytdebldpmloignaadoor", sum := "f0ec96cbc7d174c0eac5aaa1be42b17f3764d93f6af9a0766510201cba68508b", func := "quitrent/quitrentlaw13.BookOrder", spec := "bookOrder", inPlace := ["slices.overlaps[quitrent/book.Order]", "internal/reflectlite.TypeOf"], unfollowed := true, recurses := true, named := ["quitrent/api.ErrNil", "quitrent/api.ErrArg", "quitrent/api.ErrDup", "quitrent/api.ErrFull", "quitrent/api.ErrNone", "quitrent/api.ErrForm", "quitrent/api.ErrOver", "quitrent/api.ErrQuota", "quitrent/api.ErrCeil", "quitrent/api.ErrRoom", "quitrent/api.ErrBudget", "quitrent/api.ErrFunds", "quitrent/api.ErrState", "quitrent/api.ErrDown"], apart := false, laid := [("quitrent/api.ErrArg", laid_quitrent_api_ErrArg), ("quitrent/api.ErrNil", laid_quitrent_api_ErrNil), ("quitrent/api.ErrForm", laid_quitrent_api_ErrForm), ("quitrent/api.ErrOver", laid_quitrent_api_ErrOver), ("quitrent/api.ErrNone", laid_quitrent_api_ErrNone), ("quitrent/api.ErrDup", laid_quitrent_api_ErrDup), ("quitrent/api.ErrFull", laid_quitrent_api_ErrFull), ("quitrent/api.ErrQuota", laid_quitrent_api_ErrQuota), ("quitrent/api.ErrCeil", laid_quitrent_api_ErrCeil), ("quitrent/api.ErrRoom", laid_quitrent_api_ErrRoom), ("quitrent/api.ErrBudget", laid_quitrent_api_ErrBudget), ("quitrent/api.ErrFunds", laid_quitrent_api_ErrFunds), ("quitrent/api.ErrState", laid_quitrent_api_ErrState), ("quitrent/api.ErrDown", laid_quitrent_api_ErrDown)] }
def BookOrderSaid : Prop := bookOrderRow.holds Tryd.pinned (OpenSpec.ofChange bookOrderSpec)

/-- ITS FALSE NEIGHBOUR: 'it returns false'. Refute it at one input. -/
def bookOrderWrong : ChangeSpec := { name := "bookOrder", fn := fun _ => fun
  | [d1, d2, d3] => { results := [.lit (.bool false)], args := [d1, d2, d3] }
  | _ => none }
def BookOrderWrongFalsely : Prop := bookOrderRow.holds Tryd.pinned (OpenSpec.ofChange bookOrderWrong)

/-- 'quitrentlaw14.DealFair': WHATEVER THE INPUT: true; the input reads as it did. -/
def dealFairSpec : ChangeSpec := { name := "dealFair", fn := fun _ => fun
  | [d] => { results := [.lit (.bool true)], args := [d] }
  | _ => none }
def dealFairRow : OpenClaim := { program := "ytdebldpmloignaadoor", sum := "f0ec96cbc7d174c0eac5aaa1be42b17f3764d93f6af9a0766510201cba68508b", func := "quitrent/quitrentlaw14.DealFair", spec := "dealFair", inPlace := ["slices.overlaps[quitrent/book.Order]"], unfollowed := true, recurses := true, named := ["quitrent/api.ErrNil", "quitrent/api.ErrArg", "quitrent/api.ErrDup", "quitrent/api.ErrFull", "quitrent/api.ErrNone"], apart := false, laid := [("quitrent/api.ErrArg", laid_quitrent_api_ErrArg), ("quitrent/api.ErrNil", laid_quitrent_api_ErrNil), ("quitrent/api.ErrNone", laid_quitrent_api_ErrNone), ("quitrent/api.ErrDup", laid_quitrent_api_ErrDup), ("quitrent/api.ErrFull", laid_quitrent_api_ErrFull)] }
def DealFairSaid : Prop := dealFairRow.holds Tryd.pinned (OpenSpec.ofChange dealFairSpec)

/-- ITS FALSE NEIGHBOUR: 'it returns false'. Refute it at one input. -/
def dealFairWrong : ChangeSpec := { name := "dealFair", fn := fun _ => fun
  | [d] => { results := [.lit (.bool false)], args := [d] }
  | _ => none }
def DealFairWrongFalsely : Prop := dealFairRow.holds Tryd.pinned (OpenSpec.ofChange dealFairWrong)

/-- 'quitrentlaw14.DealParts': WHATEVER THE INPUT: true; the input reads as it did. -/
def dealPartsSpec : ChangeSpec := { name := "dealParts", fn := fun _ => fun
  | [d1, d2, d3] => { results := [.lit (.bool true)], args := [d1, d2, d3] }
  | _ => none }
def dealPartsRow : OpenClaim := { program := "ytdebldpmloignaadoor", sum := "f0ec96cbc7d174c0eac5aaa1be42b17f3764d93f6af9a0766510201cba68508b", func := "quitrent/quitrentlaw14.DealParts", spec := "dealParts", inPlace := ["slices.overlaps[quitrent/book.Order]"], unfollowed := true, recurses := true, named := ["quitrent/api.ErrNil", "quitrent/api.ErrArg", "quitrent/api.ErrDup", "quitrent/api.ErrFull", "quitrent/api.ErrNone"], apart := false, laid := [("quitrent/api.ErrArg", laid_quitrent_api_ErrArg), ("quitrent/api.ErrNil", laid_quitrent_api_ErrNil), ("quitrent/api.ErrNone", laid_quitrent_api_ErrNone), ("quitrent/api.ErrDup", laid_quitrent_api_ErrDup), ("quitrent/api.ErrFull", laid_quitrent_api_ErrFull)] }
def DealPartsSaid : Prop := dealPartsRow.holds Tryd.pinned (OpenSpec.ofChange dealPartsSpec)

/-- ITS FALSE NEIGHBOUR: 'it returns false'. Refute it at one input. -/
def dealPartsWrong : ChangeSpec := { name := "dealParts", fn := fun _ => fun
  | [d1, d2, d3] => { results := [.lit (.bool false)], args := [d1, d2, d3] }
  | _ => none }
def DealPartsWrongFalsely : Prop := dealPartsRow.holds Tryd.pinned (OpenSpec.ofChange dealPartsWrong)

/-- 'quitrentlaw13.BookExact': WHATEVER THE INPUT: true; the input reads as it did. -/
def bookExactSpec : ChangeSpec := { name := "bookExact", fn := fun _ => fun
  | [d] => { results := [.lit (.bool true)], args := [d] }
  | _ => none }
def bookExactRow : OpenClaim := { program := "ytdebldpmloignaadoor", sum := "f0ec96cbc7d174c0eac5aaa1be42b17f3764d93f6af9a0766510201cba68508b", func := "quitrent/quitrentlaw13.BookExact", spec := "bookExact", inPlace := ["slices.overlaps[quitrent/book.Order]", "internal/reflectlite.TypeOf"], unfollowed := true, recurses := true, named := ["quitrent/api.ErrNil", "quitrent/api.ErrArg", "quitrent/api.ErrDup", "quitrent/api.ErrFull", "quitrent/api.ErrNone", "quitrent/api.ErrForm", "quitrent/api.ErrOver", "quitrent/api.ErrQuota", "quitrent/api.ErrCeil", "quitrent/api.ErrRoom", "quitrent/api.ErrBudget", "quitrent/api.ErrFunds", "quitrent/api.ErrState", "quitrent/api.ErrDown"], apart := false, laid := [("quitrent/api.ErrArg", laid_quitrent_api_ErrArg), ("quitrent/api.ErrNil", laid_quitrent_api_ErrNil), ("quitrent/api.ErrForm", laid_quitrent_api_ErrForm), ("quitrent/api.ErrOver", laid_quitrent_api_ErrOver), ("quitrent/api.ErrNone", laid_quitrent_api_ErrNone), ("quitrent/api.ErrDup", laid_quitrent_api_ErrDup), ("quitrent/api.ErrFull", laid_quitrent_api_ErrFull), ("quitrent/api.ErrQuota", laid_quitrent_api_ErrQuota), ("quitrent/api.ErrCeil", laid_quitrent_api_ErrCeil), ("quitrent/api.ErrRoom", laid_quitrent_api_ErrRoom), ("quitrent/api.ErrBudget", laid_quitrent_api_ErrBudget), ("quitrent/api.ErrFunds", laid_quitrent_api_ErrFunds), ("quitrent/api.ErrState", laid_quitrent_api_ErrState), ("quitrent/api.ErrDown", laid_quitrent_api_ErrDown)] }
def BookExactSaid : Prop := bookExactRow.holds Tryd.pinned (OpenSpec.ofChange bookExactSpec)

/-- ITS FALSE NEIGHBOUR: 'it returns false'. Refute it at one input. -/
def bookExactWrong : ChangeSpec := { name := "bookExact", fn := fun _ => fun
  | [d] => { results := [.lit (.bool false)], args := [d] }
  | _ => none }
def BookExactWrongFalsely : Prop := bookExactRow.holds Tryd.pinned (OpenSpec.ofChange bookExactWrong)

/-- 'quitrentlaw14.DealExact': WHATEVER THE INPUT: true; the input reads as it did. -/
def dealExactSpec : ChangeSpec := { name := "dealExact", fn := fun _ => fun
  | [d] => { results := [.lit (.bool true)], args := [d] }
  | _ => none }
def dealExactRow : OpenClaim := { program := "ytdebldpmloignaadoor", sum := "f0ec96cbc7d174c0eac5aaa1be42b17f3764d93f6af9a0766510201cba68508b", func := "quitrent/quitrentlaw14.DealExact", spec := "dealExact", inPlace := ["slices.overlaps[quitrent/book.Order]", "internal/reflectlite.TypeOf"], unfollowed := true, recurses := true, named := ["quitrent/api.ErrNil", "quitrent/api.ErrArg", "quitrent/api.ErrDup", "quitrent/api.ErrFull", "quitrent/api.ErrNone", "quitrent/api.ErrForm", "quitrent/api.ErrOver", "quitrent/api.ErrQuota", "quitrent/api.ErrCeil", "quitrent/api.ErrRoom", "quitrent/api.ErrBudget", "quitrent/api.ErrFunds", "quitrent/api.ErrState", "quitrent/api.ErrDown"], apart := false, laid := [("quitrent/api.ErrArg", laid_quitrent_api_ErrArg), ("quitrent/api.ErrNil", laid_quitrent_api_ErrNil), ("quitrent/api.ErrForm", laid_quitrent_api_ErrForm), ("quitrent/api.ErrOver", laid_quitrent_api_ErrOver), ("quitrent/api.ErrNone", laid_quitrent_api_ErrNone), ("quitrent/api.ErrDup", laid_quitrent_api_ErrDup), ("quitrent/api.ErrFull", laid_quitrent_api_ErrFull), ("quitrent/api.ErrQuota", laid_quitrent_api_ErrQuota), ("quitrent/api.ErrCeil", laid_quitrent_api_ErrCeil), ("quitrent/api.ErrRoom", laid_quitrent_api_ErrRoom), ("quitrent/api.ErrBudget", laid_quitrent_api_ErrBudget), ("quitrent/api.ErrFunds", laid_quitrent_api_ErrFunds), ("quitrent/api.ErrState", laid_quitrent_api_ErrState), ("quitrent/api.ErrDown", laid_quitrent_api_ErrDown)] }
def DealExactSaid : Prop := dealExactRow.holds Tryd.pinned (OpenSpec.ofChange dealExactSpec)

/-- ITS FALSE NEIGHBOUR: 'it returns false'. Refute it at one input. -/
def dealExactWrong : ChangeSpec := { name := "dealExact", fn := fun _ => fun
  | [d] => { results := [.lit (.bool false)], args := [d] }
  | _ => none }
def DealExactWrongFalsely : Prop := dealExactRow.holds Tryd.pinned (OpenSpec.ofChange dealExactWrong)

/-- 'quitrentlaw34.DepthMarket': WHATEVER THE INPUT: true; the input reads as it did. -/
def depthMarketSpec : ChangeSpec := { name := "depthMarket", fn := fun _ => fun
  | [d1, d2] => { results := [.lit (.bool true)], args := [d1, d2] }
  | _ => none }
def depthMarketRow : OpenClaim := { program := "ytdebldpmloignaadoor", sum := "f0ec96cbc7d174c0eac5aaa1be42b17f3764d93f6af9a0766510201cba68508b", func := "quitrent/quitrentlaw34.DepthMarket", spec := "depthMarket", inPlace := ["slices.overlaps[quitrent/book.Order]"], unfollowed := true, recurses := true, named := ["quitrent/api.ErrArg", "quitrent/api.ErrNil", "quitrent/api.ErrDup", "quitrent/api.ErrFull", "quitrent/api.ErrNone"], apart := false, laid := [("quitrent/api.ErrArg", laid_quitrent_api_ErrArg), ("quitrent/api.ErrNil", laid_quitrent_api_ErrNil), ("quitrent/api.ErrNone", laid_quitrent_api_ErrNone), ("quitrent/api.ErrDup", laid_quitrent_api_ErrDup), ("quitrent/api.ErrFull", laid_quitrent_api_ErrFull)] }
def DepthMarketSaid : Prop := depthMarketRow.holds Tryd.pinned (OpenSpec.ofChange depthMarketSpec)

/-- ITS FALSE NEIGHBOUR: 'it returns false'. Refute it at one input. -/
def depthMarketWrong : ChangeSpec := { name := "depthMarket", fn := fun _ => fun
  | [d1, d2] => { results := [.lit (.bool false)], args := [d1, d2] }
  | _ => none }
def DepthMarketWrongFalsely : Prop := depthMarketRow.holds Tryd.pinned (OpenSpec.ofChange depthMarketWrong)

/- THE SECOND FORM. 'bulk': how many values and letters a reading holds, each counted each time it is reached (what is shared counts as often as it is met; a slice's spare places count too). A statement '..UptoSaid' is the law's where the arguments, and the package variables that the reading takes, are together of bulk at most 1048576: NARROWER than '..Said'. Prove '..Said' where nothing that the law and all that it calls make is longer than what came in: it says more and counts as full. Else prove '..UptoSaid'. A law counts once. -/
mutual
def uptoBulk {H : Type} : DataW H → Nat
  | .lit (.string bytes) => bytes.length + 1
  | .lit _ => 1
  | .nil => 1
  | .ptr d => uptoBulk d + 1
  | .slice elems spare => uptoBulkAll elems + uptoBulkAll spare + 1
  | .agg parts => uptoBulkAll parts + 1
  | .iface _ d => uptoBulk d + 1
  | .map entries => uptoBulkEntries entries + 1
  | .held _ => 1
def uptoBulkAll {H : Type} : List (DataW H) → Nat
  | [] => 0
  | d :: r => uptoBulk d + uptoBulkAll r
def uptoBulkEntries {H : Type} : List (Lit × DataW H) → Nat
  | [] => 0
  | x :: r => uptoBulkEntry x + uptoBulkEntries r
def uptoBulkEntry {H : Type} : Lit × DataW H → Nat
  | (.string bytes, d) => bytes.length + uptoBulk d + 1
  | (_, d) => uptoBulk d + 1
 end
def uptoSmall : (H : Type) → List (DataW H) → Bool := fun _ ds => decide (uptoBulkAll ds ≤ 1048576)
def OpenSpec.upto (s : _root_.Go.ChangeSpec) : _root_.Go.OpenSpec := { _root_.Go.OpenSpec.ofChange s with cond := some uptoSmall }

/-- 'quitrentlaw03.WireOnly', WHERE WHAT IT READS IS OF BULK AT MOST 1048576: true; the input reads as it did. -/
def wireOnlyUptoRow : OpenClaim := { program := "ytdebldpmloignaadoor", sum := "f0ec96cbc7d174c0eac5aaa1be42b17f3764d93f6af9a0766510201cba68508b", func := "quitrent/quitrentlaw03.WireOnly", spec := "wireOnly", inPlace := ["internal/abi.NoEscape", "internal/reflectlite.ValueOf", "(internal/reflectlite.Value).Type", "(internal/reflectlite.Value).IsNil", "internal/reflectlite.TypeOf", "(internal/reflectlite.Value).Elem", "(internal/reflectlite.Value).Set"], unfollowed := true, recurses := true, named := ["quitrent/api.ErrForm", "quitrent/api.ErrNil", "errors.errorType"], apart := false, laid := [("errors.errorType", laid_errors_errorType), ("quitrent/api.ErrNil", laid_quitrent_api_ErrNil), ("quitrent/api.ErrForm", laid_quitrent_api_ErrForm)], narrowed := true }
def WireOnlyUptoSaid : Prop := wireOnlyUptoRow.holds Tryd.pinned (OpenSpec.upto wireOnlySpec)

/-- 'quitrentlaw03.WireReads', WHERE WHAT IT READS IS OF BULK AT MOST 1048576: true; the input reads as it did. -/
def wireReadsUptoRow : OpenClaim := { program := "ytdebldpmloignaadoor", sum := "f0ec96cbc7d174c0eac5aaa1be42b17f3764d93f6af9a0766510201cba68508b", func := "quitrent/quitrentlaw03.WireReads", spec := "wireReads", inPlace := ["internal/abi.NoEscape", "internal/reflectlite.ValueOf", "(internal/reflectlite.Value).Type", "(internal/reflectlite.Value).IsNil", "internal/reflectlite.TypeOf", "(internal/reflectlite.Value).Elem", "(internal/reflectlite.Value).Set"], unfollowed := true, recurses := true, named := ["quitrent/api.ErrNil", "quitrent/api.ErrForm", "errors.errorType"], apart := false, laid := [("errors.errorType", laid_errors_errorType), ("quitrent/api.ErrNil", laid_quitrent_api_ErrNil), ("quitrent/api.ErrForm", laid_quitrent_api_ErrForm)], narrowed := true }
def WireReadsUptoSaid : Prop := wireReadsUptoRow.holds Tryd.pinned (OpenSpec.upto wireReadsSpec)

/-- 'quitrentlaw03.WireWrites', WHERE WHAT IT READS IS OF BULK AT MOST 1048576: true; the input reads as it did. -/
def wireWritesUptoRow : OpenClaim := { program := "ytdebldpmloignaadoor", sum := "f0ec96cbc7d174c0eac5aaa1be42b17f3764d93f6af9a0766510201cba68508b", func := "quitrent/quitrentlaw03.WireWrites", spec := "wireWrites", inPlace := ["internal/abi.NoEscape", "internal/reflectlite.ValueOf", "(internal/reflectlite.Value).Type", "(internal/reflectlite.Value).IsNil", "internal/reflectlite.TypeOf", "(internal/reflectlite.Value).Elem", "(internal/reflectlite.Value).Set"], unfollowed := true, recurses := true, named := ["quitrent/api.ErrForm", "quitrent/api.ErrNil", "errors.errorType"], apart := false, laid := [("errors.errorType", laid_errors_errorType), ("quitrent/api.ErrNil", laid_quitrent_api_ErrNil), ("quitrent/api.ErrForm", laid_quitrent_api_ErrForm)], narrowed := true }
def WireWritesUptoSaid : Prop := wireWritesUptoRow.holds Tryd.pinned (OpenSpec.upto wireWritesSpec)

/-- 'quitrentlaw03.WireBack', WHERE WHAT IT READS IS OF BULK AT MOST 1048576: true; the input reads as it did. -/
def wireBackUptoRow : OpenClaim := { program := "ytdebldpmloignaadoor", sum := "f0ec96cbc7d174c0eac5aaa1be42b17f3764d93f6af9a0766510201cba68508b", func := "quitrent/quitrentlaw03.WireBack", spec := "wireBack", inPlace := ["internal/abi.NoEscape", "internal/reflectlite.ValueOf", "(internal/reflectlite.Value).Type", "(internal/reflectlite.Value).IsNil", "internal/reflectlite.TypeOf", "(internal/reflectlite.Value).Elem", "(internal/reflectlite.Value).Set"], unfollowed := true, recurses := true, named := ["quitrent/api.ErrForm", "quitrent/api.ErrNil", "errors.errorType"], apart := false, laid := [("errors.errorType", laid_errors_errorType), ("quitrent/api.ErrNil", laid_quitrent_api_ErrNil), ("quitrent/api.ErrForm", laid_quitrent_api_ErrForm)], narrowed := true }
def WireBackUptoSaid : Prop := wireBackUptoRow.holds Tryd.pinned (OpenSpec.upto wireBackSpec)

/-- 'quitrentlaw13.BookCuts', WHERE WHAT IT READS IS OF BULK AT MOST 1048576: true; the input reads as it did. -/
def bookCutsUptoRow : OpenClaim := { program := "ytdebldpmloignaadoor", sum := "f0ec96cbc7d174c0eac5aaa1be42b17f3764d93f6af9a0766510201cba68508b", func := "quitrent/quitrentlaw13.BookCuts", spec := "bookCuts", inPlace := ["slices.overlaps[quitrent/book.Order]", "internal/reflectlite.TypeOf"], unfollowed := true, recurses := true, named := ["quitrent/api.ErrNil", "quitrent/api.ErrArg", "quitrent/api.ErrDup", "quitrent/api.ErrFull", "quitrent/api.ErrNone", "quitrent/api.ErrForm", "quitrent/api.ErrOver", "quitrent/api.ErrQuota", "quitrent/api.ErrCeil", "quitrent/api.ErrRoom", "quitrent/api.ErrBudget", "quitrent/api.ErrFunds", "quitrent/api.ErrState", "quitrent/api.ErrDown"], apart := false, laid := [("quitrent/api.ErrArg", laid_quitrent_api_ErrArg), ("quitrent/api.ErrNil", laid_quitrent_api_ErrNil), ("quitrent/api.ErrForm", laid_quitrent_api_ErrForm), ("quitrent/api.ErrOver", laid_quitrent_api_ErrOver), ("quitrent/api.ErrNone", laid_quitrent_api_ErrNone), ("quitrent/api.ErrDup", laid_quitrent_api_ErrDup), ("quitrent/api.ErrFull", laid_quitrent_api_ErrFull), ("quitrent/api.ErrQuota", laid_quitrent_api_ErrQuota), ("quitrent/api.ErrCeil", laid_quitrent_api_ErrCeil), ("quitrent/api.ErrRoom", laid_quitrent_api_ErrRoom), ("quitrent/api.ErrBudget", laid_quitrent_api_ErrBudget), ("quitrent/api.ErrFunds", laid_quitrent_api_ErrFunds), ("quitrent/api.ErrState", laid_quitrent_api_ErrState), ("quitrent/api.ErrDown", laid_quitrent_api_ErrDown)], narrowed := true }
def BookCutsUptoSaid : Prop := bookCutsUptoRow.holds Tryd.pinned (OpenSpec.upto bookCutsSpec)

/-- 'quitrentlaw13.BookOrder', WHERE WHAT IT READS IS OF BULK AT MOST 1048576: true; the input reads as it did. -/
def bookOrderUptoRow : OpenClaim := { program := "ytdebldpmloignaadoor", sum := "f0ec96cbc7d174c0eac5aaa1be42b17f3764d93f6af9a0766510201cba68508b", func := "quitrent/quitrentlaw13.BookOrder", spec := "bookOrder", inPlace := ["slices.overlaps[quitrent/book.Order]", "internal/reflectlite.TypeOf"], unfollowed := true, recurses := true, named := ["quitrent/api.ErrNil", "quitrent/api.ErrArg", "quitrent/api.ErrDup", "quitrent/api.ErrFull", "quitrent/api.ErrNone", "quitrent/api.ErrForm", "quitrent/api.ErrOver", "quitrent/api.ErrQuota", "quitrent/api.ErrCeil", "quitrent/api.ErrRoom", "quitrent/api.ErrBudget", "quitrent/api.ErrFunds", "quitrent/api.ErrState", "quitrent/api.ErrDown"], apart := false, laid := [("quitrent/api.ErrArg", laid_quitrent_api_ErrArg), ("quitrent/api.ErrNil", laid_quitrent_api_ErrNil), ("quitrent/api.ErrForm", laid_quitrent_api_ErrForm), ("quitrent/api.ErrOver", laid_quitrent_api_ErrOver), ("quitrent/api.ErrNone", laid_quitrent_api_ErrNone), ("quitrent/api.ErrDup", laid_quitrent_api_ErrDup), ("quitrent/api.ErrFull", laid_quitrent_api_ErrFull), ("quitrent/api.ErrQuota", laid_quitrent_api_ErrQuota), ("quitrent/api.ErrCeil", laid_quitrent_api_ErrCeil), ("quitrent/api.ErrRoom", laid_quitrent_api_ErrRoom), ("quitrent/api.ErrBudget", laid_quitrent_api_ErrBudget), ("quitrent/api.ErrFunds", laid_quitrent_api_ErrFunds), ("quitrent/api.ErrState", laid_quitrent_api_ErrState), ("quitrent/api.ErrDown", laid_quitrent_api_ErrDown)], narrowed := true }
def BookOrderUptoSaid : Prop := bookOrderUptoRow.holds Tryd.pinned (OpenSpec.upto bookOrderSpec)

/-- 'quitrentlaw14.DealFair', WHERE WHAT IT READS IS OF BULK AT MOST 1048576: true; the input reads as it did. -/
def dealFairUptoRow : OpenClaim := { program := "ytdebldpmloignaadoor", sum := "f0ec96cbc7d174c0eac5aaa1be42b17f3764d93f6af9a0766510201cba68508b", func := "quitrent/quitrentlaw14.DealFair", spec := "dealFair", inPlace := ["slices.overlaps[quitrent/book.Order]"], unfollowed := true, recurses := true, named := ["quitrent/api.ErrNil", "quitrent/api.ErrArg", "quitrent/api.ErrDup", "quitrent/api.ErrFull", "quitrent/api.ErrNone"], apart := false, laid := [("quitrent/api.ErrArg", laid_quitrent_api_ErrArg), ("quitrent/api.ErrNil", laid_quitrent_api_ErrNil), ("quitrent/api.ErrNone", laid_quitrent_api_ErrNone), ("quitrent/api.ErrDup", laid_quitrent_api_ErrDup), ("quitrent/api.ErrFull", laid_quitrent_api_ErrFull)], narrowed := true }
def DealFairUptoSaid : Prop := dealFairUptoRow.holds Tryd.pinned (OpenSpec.upto dealFairSpec)

/-- 'quitrentlaw14.DealParts', WHERE WHAT IT READS IS OF BULK AT MOST 1048576: true; the input reads as it did. -/
def dealPartsUptoRow : OpenClaim := { program := "ytdebldpmloignaadoor", sum := "f0ec96cbc7d174c0eac5aaa1be42b17f3764d93f6af9a0766510201cba68508b", func := "quitrent/quitrentlaw14.DealParts", spec := "dealParts", inPlace := ["slices.overlaps[quitrent/book.Order]"], unfollowed := true, recurses := true, named := ["quitrent/api.ErrNil", "quitrent/api.ErrArg", "quitrent/api.ErrDup", "quitrent/api.ErrFull", "quitrent/api.ErrNone"], apart := false, laid := [("quitrent/api.ErrArg", laid_quitrent_api_ErrArg), ("quitrent/api.ErrNil", laid_quitrent_api_ErrNil), ("quitrent/api.ErrNone", laid_quitrent_api_ErrNone), ("quitrent/api.ErrDup", laid_quitrent_api_ErrDup), ("quitrent/api.ErrFull", laid_quitrent_api_ErrFull)], narrowed := true }
def DealPartsUptoSaid : Prop := dealPartsUptoRow.holds Tryd.pinned (OpenSpec.upto dealPartsSpec)

/-- 'quitrentlaw13.BookExact', WHERE WHAT IT READS IS OF BULK AT MOST 1048576: true; the input reads as it did. -/
def bookExactUptoRow : OpenClaim := { program := "ytdebldpmloignaadoor", sum := "f0ec96cbc7d174c0eac5aaa1be42b17f3764d93f6af9a0766510201cba68508b", func := "quitrent/quitrentlaw13.BookExact", spec := "bookExact", inPlace := ["slices.overlaps[quitrent/book.Order]", "internal/reflectlite.TypeOf"], unfollowed := true, recurses := true, named := ["quitrent/api.ErrNil", "quitrent/api.ErrArg", "quitrent/api.ErrDup", "quitrent/api.ErrFull", "quitrent/api.ErrNone", "quitrent/api.ErrForm", "quitrent/api.ErrOver", "quitrent/api.ErrQuota", "quitrent/api.ErrCeil", "quitrent/api.ErrRoom", "quitrent/api.ErrBudget", "quitrent/api.ErrFunds", "quitrent/api.ErrState", "quitrent/api.ErrDown"], apart := false, laid := [("quitrent/api.ErrArg", laid_quitrent_api_ErrArg), ("quitrent/api.ErrNil", laid_quitrent_api_ErrNil), ("quitrent/api.ErrForm", laid_quitrent_api_ErrForm), ("quitrent/api.ErrOver", laid_quitrent_api_ErrOver), ("quitrent/api.ErrNone", laid_quitrent_api_ErrNone), ("quitrent/api.ErrDup", laid_quitrent_api_ErrDup), ("quitrent/api.ErrFull", laid_quitrent_api_ErrFull), ("quitrent/api.ErrQuota", laid_quitrent_api_ErrQuota), ("quitrent/api.ErrCeil", laid_quitrent_api_ErrCeil), ("quitrent/api.ErrRoom", laid_quitrent_api_ErrRoom), ("quitrent/api.ErrBudget", laid_quitrent_api_ErrBudget), ("quitrent/api.ErrFunds", laid_quitrent_api_ErrFunds), ("quitrent/api.ErrState", laid_quitrent_api_ErrState), ("quitrent/api.ErrDown", laid_quitrent_api_ErrDown)], narrowed := true }
def BookExactUptoSaid : Prop := bookExactUptoRow.holds Tryd.pinned (OpenSpec.upto bookExactSpec)

/-- 'quitrentlaw14.DealExact', WHERE WHAT IT READS IS OF BULK AT MOST 1048576: true; the input reads as it did. -/
def dealExactUptoRow : OpenClaim := { program := "ytdebldpmloignaadoor", sum := "f0ec96cbc7d174c0eac5aaa1be42b17f3764d93f6af9a0766510201cba68508b", func := "quitrent/quitrentlaw14.DealExact", spec := "dealExact", inPlace := ["slices.overlaps[quitrent/book.Order]", "internal/reflectlite.TypeOf"], unfollowed := true, recurses := true, named := ["quitrent/api.ErrNil", "quitrent/api.ErrArg", "quitrent/api.ErrDup", "quitrent/api.ErrFull", "quitrent/api.ErrNone", "quitrent/api.ErrForm", "quitrent/api.ErrOver", "quitrent/api.ErrQuota", "quitrent/api.ErrCeil", "quitrent/api.ErrRoom", "quitrent/api.ErrBudget", "quitrent/api.ErrFunds", "quitrent/api.ErrState", "quitrent/api.ErrDown"], apart := false, laid := [("quitrent/api.ErrArg", laid_quitrent_api_ErrArg), ("quitrent/api.ErrNil", laid_quitrent_api_ErrNil), ("quitrent/api.ErrForm", laid_quitrent_api_ErrForm), ("quitrent/api.ErrOver", laid_quitrent_api_ErrOver), ("quitrent/api.ErrNone", laid_quitrent_api_ErrNone), ("quitrent/api.ErrDup", laid_quitrent_api_ErrDup), ("quitrent/api.ErrFull", laid_quitrent_api_ErrFull), ("quitrent/api.ErrQuota", laid_quitrent_api_ErrQuota), ("quitrent/api.ErrCeil", laid_quitrent_api_ErrCeil), ("quitrent/api.ErrRoom", laid_quitrent_api_ErrRoom), ("quitrent/api.ErrBudget", laid_quitrent_api_ErrBudget), ("quitrent/api.ErrFunds", laid_quitrent_api_ErrFunds), ("quitrent/api.ErrState", laid_quitrent_api_ErrState), ("quitrent/api.ErrDown", laid_quitrent_api_ErrDown)], narrowed := true }
def DealExactUptoSaid : Prop := dealExactUptoRow.holds Tryd.pinned (OpenSpec.upto dealExactSpec)

/-- 'quitrentlaw34.DepthMarket', WHERE WHAT IT READS IS OF BULK AT MOST 1048576: true; the input reads as it did. -/
def depthMarketUptoRow : OpenClaim := { program := "ytdebldpmloignaadoor", sum := "f0ec96cbc7d174c0eac5aaa1be42b17f3764d93f6af9a0766510201cba68508b", func := "quitrent/quitrentlaw34.DepthMarket", spec := "depthMarket", inPlace := ["slices.overlaps[quitrent/book.Order]"], unfollowed := true, recurses := true, named := ["quitrent/api.ErrArg", "quitrent/api.ErrNil", "quitrent/api.ErrDup", "quitrent/api.ErrFull", "quitrent/api.ErrNone"], apart := false, laid := [("quitrent/api.ErrArg", laid_quitrent_api_ErrArg), ("quitrent/api.ErrNil", laid_quitrent_api_ErrNil), ("quitrent/api.ErrNone", laid_quitrent_api_ErrNone), ("quitrent/api.ErrDup", laid_quitrent_api_ErrDup), ("quitrent/api.ErrFull", laid_quitrent_api_ErrFull)], narrowed := true }
def DepthMarketUptoSaid : Prop := depthMarketUptoRow.holds Tryd.pinned (OpenSpec.upto depthMarketSpec)

end Rows
end Go.Proofs.YtdebldpmloignaaDoor
