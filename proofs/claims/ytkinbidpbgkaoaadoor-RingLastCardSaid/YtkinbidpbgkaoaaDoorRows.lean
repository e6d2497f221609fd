/-
  NARROWER THAN 'FOR EVERY INPUT', by the rows' own cells (each row's printed sentence says how): DepthFills: laid · QueueBands: laid · QueueExact: laid · QueueKeeps: laid · RingLast: laid · DepthExact: laid · RingExact: laid.
  DERIVED. THE GIVEN ROWS OF THIS SEAT. 7 by the template 'for every input the law returns true; each argument reads behind the call as it read before'; 0 by the template 'total and deterministic' (their statements: YtkinbidpbgkaoaaDoorTotals.lean).
  GIVEN WITH THE SEED: the statements are not yours to turn. If you find one false, say at which input.
  Laid BY PROGRAM, IN A SANDBOX (cutbox-rows.mjs): the forced cells as the released guide's own fill.sh prints them over the translation c45f1e8b84d1b209… (all of the seat's roots in one cut). By AI agents, Wed Nov 11 2026. No macro, syntax, notation, axiom, sorry.
-/
import Derived.Test.YtkinbidpbgkaoaaDoorChecked
import GoSem.Claim
import GoSem.ClaimJoined
import GoSem.ClaimMapViews
import Derived.JoinedTies
import Derived.KernelRfl
namespace Go.Proofs.YtkinbidpbgkaoaaDoor
/- THE CELL 'sum', in the pinned program and in every row, IS THE sha256 OF THE DUMP (.gsa) THAT YtkinbidpbgkaoaaDoorProg.lean LOADS. Nothing in Lean hashes anything: it is a label: what it is worth is what the hold of that sum in a sandbox is worth. -/
noncomputable def Tryd.pinned : Pinned := { name := "ytkinbidpbgkaoaadoor", sum := "c45f1e8b84d1b2099c6767d377a1f31c45f0b9613c525337d7f897625ee380de", checked := Tryd.checked }
namespace Rows
def none {H : Type} : Left H := { results := [], args := [] }

/- WHAT THE LISTED PACKAGE-LEVEL VARIABLES READ AS WHEN THE CALL BEGINS. Each datum BY PROGRAM (the guide's laid-datum.mjs) off the statement by which the dump's own 'gosem.cut.vars' lays the variable. In a bare row this is a premise. The card (YtkinbidpbgkaoaaDoorCards.lean) ties it to the program's text. -/
def laid_quitrent_api_ErrArg {H : Type} : DataW H := .iface "*errors.errorString" (.ptr (.agg [.lit (.string [97, 110, 32, 97, 114, 103, 117, 109, 101, 110, 116, 32, 116, 104, 97, 116, 32, 99, 97, 110, 39, 116, 32, 98, 101])]))
def laid_quitrent_api_ErrNil {H : Type} : DataW H := .iface "*errors.errorString" (.ptr (.agg [.lit (.string [97, 32, 110, 105, 108, 32, 116, 104, 105, 110, 103])]))
def laid_quitrent_api_ErrForm {H : Type} : DataW H := .iface "*errors.errorString" (.ptr (.agg [.lit (.string [98, 121, 116, 101, 115, 32, 111, 102, 32, 110, 111, 32, 102, 111, 114, 109])]))
def laid_quitrent_api_ErrOver {H : Type} : DataW H := .iface "*errors.errorString" (.ptr (.agg [.lit (.string [97, 32, 110, 117, 109, 98, 101, 114, 32, 116, 104, 97, 116, 32, 105, 115, 32, 116, 111, 111, 32, 103, 114, 101, 97, 116, 44, 32, 111, 114, 32, 98, 101, 108, 111, 119, 32, 110, 111, 116, 104, 105, 110, 103])]))
def laid_quitrent_api_ErrNone {H : Type} : DataW H := .iface "*errors.errorString" (.ptr (.agg [.lit (.string [116, 104, 101, 114, 101, 32, 105, 115, 32, 110, 111, 110, 101])]))
def laid_quitrent_api_ErrDup {H : Type} : DataW H := .iface "*errors.errorString" (.ptr (.agg [.lit (.string [116, 104, 101, 114, 101, 32, 105, 115, 32, 111, 110, 101])]))
def laid_quitrent_api_ErrFull {H : Type} : DataW H := .iface "*errors.errorString" (.ptr (.agg [.lit (.string [116, 104, 101, 114, 101, 32, 97, 114, 101, 32, 116, 111, 111, 32, 109, 97, 110, 121])]))
def laid_quitrent_api_ErrQuota {H : Type} : DataW H := .iface "*errors.errorString" (.ptr (.agg [.lit (.string [116, 111, 111, 32, 108, 105, 116, 116, 108, 101, 32, 113, 117, 111, 116, 97])]))
def laid_quitrent_api_ErrCeil {H : Type} : DataW H := .iface "*errors.errorString" (.ptr (.agg [.lit (.string [109, 111, 114, 101, 32, 116, 104, 97, 110, 32, 109, 97, 121, 32, 98, 101, 32, 103, 105, 118, 101, 110, 32, 111, 117, 116])]))
def laid_quitrent_api_ErrRoom {H : Type} : DataW H := .iface "*errors.errorString" (.ptr (.agg [.lit (.string [110, 111, 32, 109, 97, 99, 104, 105, 110, 101, 32, 104, 97, 115, 32, 114, 111, 111, 109])]))
def laid_quitrent_api_ErrBudget {H : Type} : DataW H := .iface "*errors.errorString" (.ptr (.agg [.lit (.string [116, 111, 111, 32, 109, 97, 110, 121, 32, 101, 118, 105, 99, 116, 105, 111, 110, 115, 32, 111, 102, 32, 97, 32, 106, 111, 98])]))
def laid_quitrent_api_ErrFunds {H : Type} : DataW H := .iface "*errors.errorString" (.ptr (.agg [.lit (.string [116, 111, 111, 32, 108, 105, 116, 116, 108, 101, 32, 99, 114, 101, 100, 105, 116])]))
def laid_quitrent_api_ErrState {H : Type} : DataW H := .iface "*errors.errorString" (.ptr (.agg [.lit (.string [110, 111, 116, 32, 110, 111, 119])]))
def laid_quitrent_api_ErrDown {H : Type} : DataW H := .iface "*errors.errorString" (.ptr (.agg [.lit (.string [116, 104, 101, 32, 112, 111, 119, 101, 114, 32, 105, 115, 32, 97, 119, 97, 121])]))

/-- 'quitrentlaw34.DepthFills': WHATEVER THE INPUT: true; the input reads as it did. -/
def depthFillsSpec : ChangeSpec := { name := "depthFills", fn := fun _ => fun
  | [d] => { results := [.lit (.bool true)], args := [d] }
  | _ => none }
def depthFillsRow : OpenClaim := { program := "ytkinbidpbgkaoaadoor", sum := "c45f1e8b84d1b2099c6767d377a1f31c45f0b9613c525337d7f897625ee380de", func := "quitrent/quitrentlaw34.DepthFills", spec := "depthFills", unfollowed := true, recurses := true, named := ["quitrent/api.ErrArg"], apart := false, laid := [("quitrent/api.ErrArg", laid_quitrent_api_ErrArg)] }
def DepthFillsSaid : Prop := depthFillsRow.holds Tryd.pinned (OpenSpec.ofChange depthFillsSpec)

/-- ITS FALSE NEIGHBOUR: 'it returns false'. Refute it at one input. -/
def depthFillsWrong : ChangeSpec := { name := "depthFills", fn := fun _ => fun
  | [d] => { results := [.lit (.bool false)], args := [d] }
  | _ => none }
def DepthFillsWrongFalsely : Prop := depthFillsRow.holds Tryd.pinned (OpenSpec.ofChange depthFillsWrong)

/-- 'quitrentlaw21.QueueBands': WHATEVER THE INPUT: true; the input reads as it did. -/
def queueBandsSpec : ChangeSpec := { name := "queueBands", fn := fun _ => fun
  | [d] => { results := [.lit (.bool true)], args := [d] }
  | _ => none }
def queueBandsRow : OpenClaim := { program := "ytkinbidpbgkaoaadoor", sum := "c45f1e8b84d1b2099c6767d377a1f31c45f0b9613c525337d7f897625ee380de", func := "quitrent/quitrentlaw21.QueueBands", spec := "queueBands", inPlace := ["internal/reflectlite.TypeOf"], unfollowed := true, recurses := true, named := ["quitrent/api.ErrNil", "quitrent/api.ErrArg", "quitrent/api.ErrDup", "quitrent/api.ErrForm", "quitrent/api.ErrOver", "quitrent/api.ErrNone", "quitrent/api.ErrFull", "quitrent/api.ErrQuota", "quitrent/api.ErrCeil", "quitrent/api.ErrRoom", "quitrent/api.ErrBudget", "quitrent/api.ErrFunds", "quitrent/api.ErrState", "quitrent/api.ErrDown"], apart := false, laid := [("quitrent/api.ErrArg", laid_quitrent_api_ErrArg), ("quitrent/api.ErrNil", laid_quitrent_api_ErrNil), ("quitrent/api.ErrForm", laid_quitrent_api_ErrForm), ("quitrent/api.ErrOver", laid_quitrent_api_ErrOver), ("quitrent/api.ErrNone", laid_quitrent_api_ErrNone), ("quitrent/api.ErrDup", laid_quitrent_api_ErrDup), ("quitrent/api.ErrFull", laid_quitrent_api_ErrFull), ("quitrent/api.ErrQuota", laid_quitrent_api_ErrQuota), ("quitrent/api.ErrCeil", laid_quitrent_api_ErrCeil), ("quitrent/api.ErrRoom", laid_quitrent_api_ErrRoom), ("quitrent/api.ErrBudget", laid_quitrent_api_ErrBudget), ("quitrent/api.ErrFunds", laid_quitrent_api_ErrFunds), ("quitrent/api.ErrState", laid_quitrent_api_ErrState), ("quitrent/api.ErrDown", laid_quitrent_api_ErrDown)] }
def QueueBandsSaid : Prop := queueBandsRow.holds Tryd.pinned (OpenSpec.ofChange queueBandsSpec)

/-- ITS FALSE NEIGHBOUR: 'it returns false'. Refute it at one input. -/
def queueBandsWrong : ChangeSpec := { name := "queueBands", fn := fun _ => fun
  | [d] => { results := [.lit (.bool false)], args := [d] }
  | _ => none }
def QueueBandsWrongFalsely : Prop := queueBandsRow.holds Tryd.pinned (OpenSpec.ofChange queueBandsWrong)

/-- 'quitrentlaw21.QueueExact': WHATEVER THE INPUT: true; the input reads as it did. -/
def queueExactSpec : ChangeSpec := { name := "queueExact", fn := fun _ => fun
  | [d] => { results := [.lit (.bool true)], args := [d] }
  | _ => none }
def queueExactRow : OpenClaim := { program := "ytkinbidpbgkaoaadoor", sum := "c45f1e8b84d1b2099c6767d377a1f31c45f0b9613c525337d7f897625ee380de", func := "quitrent/quitrentlaw21.QueueExact", spec := "queueExact", inPlace := ["internal/reflectlite.TypeOf"], unfollowed := true, recurses := true, named := ["quitrent/api.ErrNil", "quitrent/api.ErrArg", "quitrent/api.ErrDup", "quitrent/api.ErrForm", "quitrent/api.ErrOver", "quitrent/api.ErrNone", "quitrent/api.ErrFull", "quitrent/api.ErrQuota", "quitrent/api.ErrCeil", "quitrent/api.ErrRoom", "quitrent/api.ErrBudget", "quitrent/api.ErrFunds", "quitrent/api.ErrState", "quitrent/api.ErrDown"], apart := false, laid := [("quitrent/api.ErrArg", laid_quitrent_api_ErrArg), ("quitrent/api.ErrNil", laid_quitrent_api_ErrNil), ("quitrent/api.ErrForm", laid_quitrent_api_ErrForm), ("quitrent/api.ErrOver", laid_quitrent_api_ErrOver), ("quitrent/api.ErrNone", laid_quitrent_api_ErrNone), ("quitrent/api.ErrDup", laid_quitrent_api_ErrDup), ("quitrent/api.ErrFull", laid_quitrent_api_ErrFull), ("quitrent/api.ErrQuota", laid_quitrent_api_ErrQuota), ("quitrent/api.ErrCeil", laid_quitrent_api_ErrCeil), ("quitrent/api.ErrRoom", laid_quitrent_api_ErrRoom), ("quitrent/api.ErrBudget", laid_quitrent_api_ErrBudget), ("quitrent/api.ErrFunds", laid_quitrent_api_ErrFunds), ("quitrent/api.ErrState", laid_quitrent_api_ErrState), ("quitrent/api.ErrDown", laid_quitrent_api_ErrDown)] }
def QueueExactSaid : Prop := queueExactRow.holds Tryd.pinned (OpenSpec.ofChange queueExactSpec)

/-- ITS FALSE NEIGHBOUR: 'it returns false'. Refute it at one input. -/
def queueExactWrong : ChangeSpec := { name := "queueExact", fn := fun _ => fun
  | [d] => { results := [.lit (.bool false)], args := [d] }
  | _ => none }
def QueueExactWrongFalsely : Prop := queueExactRow.holds Tryd.pinned (OpenSpec.ofChange queueExactWrong)

/-- 'quitrentlaw21.QueueKeeps': WHATEVER THE INPUT: true; the input reads as it did. -/
def queueKeepsSpec : ChangeSpec := { name := "queueKeeps", fn := fun _ => fun
  | [d] => { results := [.lit (.bool true)], args := [d] }
  | _ => none }
def queueKeepsRow : OpenClaim := { program := "ytkinbidpbgkaoaadoor", sum := "c45f1e8b84d1b2099c6767d377a1f31c45f0b9613c525337d7f897625ee380de", func := "quitrent/quitrentlaw21.QueueKeeps", spec := "queueKeeps", inPlace := ["internal/reflectlite.TypeOf"], unfollowed := true, recurses := true, named := ["quitrent/api.ErrNil", "quitrent/api.ErrArg", "quitrent/api.ErrDup", "quitrent/api.ErrForm", "quitrent/api.ErrOver", "quitrent/api.ErrNone", "quitrent/api.ErrFull", "quitrent/api.ErrQuota", "quitrent/api.ErrCeil", "quitrent/api.ErrRoom", "quitrent/api.ErrBudget", "quitrent/api.ErrFunds", "quitrent/api.ErrState", "quitrent/api.ErrDown"], apart := false, laid := [("quitrent/api.ErrArg", laid_quitrent_api_ErrArg), ("quitrent/api.ErrNil", laid_quitrent_api_ErrNil), ("quitrent/api.ErrForm", laid_quitrent_api_ErrForm), ("quitrent/api.ErrOver", laid_quitrent_api_ErrOver), ("quitrent/api.ErrNone", laid_quitrent_api_ErrNone), ("quitrent/api.ErrDup", laid_quitrent_api_ErrDup), ("quitrent/api.ErrFull", laid_quitrent_api_ErrFull), ("quitrent/api.ErrQuota", laid_quitrent_api_ErrQuota), ("quitrent/api.ErrCeil", laid_quitrent_api_ErrCeil), ("quitrent/api.ErrRoom", laid_quitrent_api_ErrRoom), ("quitrent/api.ErrBudget", laid_quitrent_api_ErrBudget), ("quitrent/api.ErrFunds", laid_quitrent_api_ErrFunds), ("quitrent/api.ErrState", laid_quitrent_api_ErrState), ("quitrent/api.ErrDown", laid_quitrent_api_ErrDown)] }
def QueueKeepsSaid : Prop := queueKeepsRow.holds Tryd.pinned (OpenSpec.ofChange queueKeepsSpec)

/-- ITS FALSE NEIGHBOUR: 'it returns false'. Refute it at one input. -/
def queueKeepsWrong : ChangeSpec := { name := "queueKeeps", fn := fun _ => fun
  | [d] => { results := [.lit (.bool false)], args := [d] }
  | _ => none }
def QueueKeepsWrongFalsely : Prop := queueKeepsRow.holds Tryd.pinned (OpenSpec.ofChange queueKeepsWrong)

/-- 'quitrentlaw38.RingLast': WHATEVER THE INPUT: true; the input reads as it did. -/
def ringLastSpec : ChangeSpec := { name := "ringLast", fn := fun _ => fun
  | [d1, d2] => { results := [.lit (.bool true)], args := [d1, d2] }
  | _ => none }
def ringLastRow : OpenClaim := { program := "ytkinbidpbgkaoaadoor", sum := "c45f1e8b84d1b2099c6767d377a1f31c45f0b9613c525337d7f897625ee380de", func := "quitrent/quitrentlaw38.RingLast", spec := "ringLast", inPlace := ["internal/bytealg.IndexByteString", "internal/bytealg.IndexString"], named := ["quitrent/api.ErrNil", "quitrent/api.ErrArg", "internal/bytealg.MaxLen"], apart := false, laid := [("quitrent/api.ErrArg", laid_quitrent_api_ErrArg), ("quitrent/api.ErrNil", laid_quitrent_api_ErrNil)] }
def RingLastSaid : Prop := ringLastRow.holds Tryd.pinned (OpenSpec.ofChange ringLastSpec)

/-- ITS FALSE NEIGHBOUR: 'it returns false'. Refute it at one input. -/
def ringLastWrong : ChangeSpec := { name := "ringLast", fn := fun _ => fun
  | [d1, d2] => { results := [.lit (.bool false)], args := [d1, d2] }
  | _ => none }
def RingLastWrongFalsely : Prop := ringLastRow.holds Tryd.pinned (OpenSpec.ofChange ringLastWrong)

/-- 'quitrentlaw34.DepthExact': WHATEVER THE INPUT: true; the input reads as it did. -/
def depthExactSpec : ChangeSpec := { name := "depthExact", fn := fun _ => fun
  | [d1, d2, d3] => { results := [.lit (.bool true)], args := [d1, d2, d3] }
  | _ => none }
def depthExactRow : OpenClaim := { program := "ytkinbidpbgkaoaadoor", sum := "c45f1e8b84d1b2099c6767d377a1f31c45f0b9613c525337d7f897625ee380de", func := "quitrent/quitrentlaw34.DepthExact", spec := "depthExact", inPlace := ["internal/reflectlite.TypeOf"], unfollowed := true, recurses := true, named := ["quitrent/api.ErrArg"], apart := false, laid := [("quitrent/api.ErrArg", laid_quitrent_api_ErrArg)] }
def DepthExactSaid : Prop := depthExactRow.holds Tryd.pinned (OpenSpec.ofChange depthExactSpec)

/-- ITS FALSE NEIGHBOUR: 'it returns false'. Refute it at one input. -/
def depthExactWrong : ChangeSpec := { name := "depthExact", fn := fun _ => fun
  | [d1, d2, d3] => { results := [.lit (.bool false)], args := [d1, d2, d3] }
  | _ => none }
def DepthExactWrongFalsely : Prop := depthExactRow.holds Tryd.pinned (OpenSpec.ofChange depthExactWrong)

/-- 'quitrentlaw38.RingExact': WHATEVER THE INPUT: true; the input reads as it did. -/
def ringExactSpec : ChangeSpec := { name := "ringExact", fn := fun _ => fun
  | [d1, d2, d3] => { results := [.lit (.bool true)], args := [d1, d2, d3] }
  | _ => none }
def ringExactRow : OpenClaim := { program := "ytkinbidpbgkaoaadoor", sum := "c45f1e8b84d1b2099c6767d377a1f31c45f0b9613c525337d7f897625ee380de", func := "quitrent/quitrentlaw38.RingExact", spec := "ringExact", inPlace := ["internal/bytealg.IndexByteString", "internal/bytealg.IndexString", "internal/reflectlite.TypeOf"], unfollowed := true, recurses := true, named := ["quitrent/api.ErrArg", "quitrent/api.ErrNil", "internal/bytealg.MaxLen"], apart := false, laid := [("quitrent/api.ErrArg", laid_quitrent_api_ErrArg), ("quitrent/api.ErrNil", laid_quitrent_api_ErrNil)] }
def RingExactSaid : Prop := ringExactRow.holds Tryd.pinned (OpenSpec.ofChange ringExactSpec)

/-- ITS FALSE NEIGHBOUR: 'it returns false'. Refute it at one input. -/
def ringExactWrong : ChangeSpec := { name := "ringExact", fn := fun _ => fun
  | [d1, d2, d3] => { results := [.lit (.bool false)], args := [d1, d2, d3] }
  | _ => none }
def RingExactWrongFalsely : Prop := ringExactRow.holds Tryd.pinned (OpenSpec.ofChange ringExactWrong)

/- THE SECOND FORM. 'bulk': how many values and letters a reading holds, each counted each time it is reached (what is shared counts as often as it is met; a slice's spare places count too). A statement '..UptoSaid' is the law's where the arguments, and the package variables that the reading takes, are together of bulk at most 1048576: NARROWER than '..Said'. Prove '..Said' where nothing that the law and all that it calls make is longer than what came in: it says more and counts as full. Else prove '..UptoSaid'. A law counts once. -/
mutual
def uptoBulk {H : Type} : DataW H → Nat
  | .lit (.string bytes) => bytes.length + 1
  | .lit _ => 1
  | .nil => 1
  | .ptr d => uptoBulk d + 1
  | .slice elems spare => uptoBulkAll elems + uptoBulkAll spare + 1
  | .agg parts => uptoBulkAll parts + 1
  | .iface _ d => uptoBulk d + 1
  | .map entries => uptoBulkEntries entries + 1
  | .held _ => 1
def uptoBulkAll {H : Type} : List (DataW H) → Nat
  | [] => 0
  | d :: r => uptoBulk d + uptoBulkAll r
def uptoBulkEntries {H : Type} : List (Lit × DataW H) → Nat
  | [] => 0
  | x :: r => uptoBulkEntry x + uptoBulkEntries r
def uptoBulkEntry {H : Type} : Lit × DataW H → Nat
  | (.string bytes, d) => bytes.length + uptoBulk d + 1
  | (_, d) => uptoBulk d + 1
 end
def uptoSmall : (H : Type) → List (DataW H) → Bool := fun _ ds => decide (uptoBulkAll ds ≤ 1048576)
def OpenSpec.upto (s : _root_.Go.ChangeSpec) : _root_.Go.OpenSpec := { _root_.Go.OpenSpec.ofChange s with cond := some uptoSmall }

/-- 'quitrentlaw34.DepthFills', WHERE WHAT IT READS IS OF BULK AT MOST 1048576: true; the input reads as it did. -/
def depthFillsUptoRow : OpenClaim := { program := "ytkinbidpbgkaoaadoor", sum := "c45f1e8b84d1b2099c6767d377a1f31c45f0b9613c525337d7f897625ee380de", func := "quitrent/quitrentlaw34.DepthFills", spec := "depthFills", unfollowed := true, recurses := true, named := ["quitrent/api.ErrArg"], apart := false, laid := [("quitrent/api.ErrArg", laid_quitrent_api_ErrArg)], narrowed := true }
def DepthFillsUptoSaid : Prop := depthFillsUptoRow.holds Tryd.pinned (OpenSpec.upto depthFillsSpec)

/-- 'quitrentlaw21.QueueBands', WHERE WHAT IT READS IS OF BULK AT MOST 1048576: true; the input reads as it did. -/
def queueBandsUptoRow : OpenClaim := { program := "ytkinbidpbgkaoaadoor", sum := "c45f1e8b84d1b2099c6767d377a1f31c45f0b9613c525337d7f897625ee380de", func := "quitrent/quitrentlaw21.QueueBands", spec := "queueBands", inPlace := ["internal/reflectlite.TypeOf"], unfollowed := true, recurses := true, named := ["quitrent/api.ErrNil", "quitrent/api.ErrArg", "quitrent/api.ErrDup", "quitrent/api.ErrForm", "quitrent/api.ErrOver", "quitrent/api.ErrNone", "quitrent/api.ErrFull", "quitrent/api.ErrQuota", "quitrent/api.ErrCeil", "quitrent/api.ErrRoom", "quitrent/api.ErrBudget", "quitrent/api.ErrFunds", "quitrent/api.ErrState", "quitrent/api.ErrDown"], apart := false, laid := [("quitrent/api.ErrArg", laid_quitrent_api_ErrArg), ("quitrent/api.ErrNil", laid_quitrent_api_ErrNil), ("quitrent/api.ErrForm", laid_quitrent_api_ErrForm), ("quitrent/api.ErrOver", laid_quitrent_api_ErrOver), ("quitrent/api.ErrNone", laid_quitrent_api_ErrNone), ("quitrent/api.ErrDup", laid_quitrent_api_ErrDup), ("quitrent/api.ErrFull", laid_quitrent_api_ErrFull), ("quitrent/api.ErrQuota", laid_quitrent_api_ErrQuota), ("quitrent/api.ErrCeil", laid_quitrent_api_ErrCeil), ("quitrent/api.ErrRoom", laid_quitrent_api_ErrRoom), ("quitrent/api.ErrBudget", laid_quitrent_api_ErrBudget), ("quitrent/api.ErrFunds", laid_quitrent_api_ErrFunds), ("quitrent/api.ErrState", laid_quitrent_api_ErrState), ("quitrent/api.ErrDown", laid_quitrent_api_ErrDown)], narrowed := true }
def QueueBandsUptoSaid : Prop := queueBandsUptoRow.holds Tryd.pinned (OpenSpec.upto queueBandsSpec)

/-- 'quitrentlaw21.QueueExact', WHERE WHAT IT READS IS OF BULK AT MOST 1048576: true; the input reads as it did. -/
def queueExactUptoRow : OpenClaim := { program := "ytkinbidpbgkaoaadoor", sum := "c45f1e8b84d1b2099c6767d377a1f31c45f0b9613c525337d7f897625ee380de", func := "quitrent/quitrentlaw21.QueueExact", spec := "queueExact", inPlace := ["internal/reflectlite.TypeOf"], unfollowed := true, recurses := true, named := ["quitrent/api.ErrNil", "quitrent/api.ErrArg", "quitrent/api.ErrDup", "quitrent/api.ErrForm", "quitrent/api.ErrOver", "quitrent/api.ErrNone", "quitrent/api.ErrFull", "quitrent/api.ErrQuota", "quitrent/api.ErrCeil", "quitrent/api.ErrRoom", "quitrent/api.ErrBudget", "quitrent/api.ErrFunds", "quitrent/api.ErrState", "quitrent/api.ErrDown"], apart := false, laid := [("quitrent/api.ErrArg", laid_quitrent_api_ErrArg), ("quitrent/api.ErrNil", laid_quitrent_api_ErrNil), ("quitrent/api.ErrForm", laid_quitrent_api_ErrForm), ("quitrent/api.ErrOver", laid_quitrent_api_ErrOver), ("quitrent/api.ErrNone", laid_quitrent_api_ErrNone), ("quitrent/api.ErrDup", laid_quitrent_api_ErrDup), ("quitrent/api.ErrFull", laid_quitrent_api_ErrFull), ("quitrent/api.ErrQuota", laid_quitrent_api_ErrQuota), ("quitrent/api.ErrCeil", laid_quitrent_api_ErrCeil), ("quitrent/api.ErrRoom", laid_quitrent_api_ErrRoom), ("quitrent/api.ErrBudget", laid_quitrent_api_ErrBudget), ("quitrent/api.ErrFunds", laid_quitrent_api_ErrFunds), ("quitrent/api.ErrState", laid_quitrent_api_ErrState), ("quitrent/api.ErrDown", laid_quitrent_api_ErrDown)], narrowed := true }
def QueueExactUptoSaid : Prop := queueExactUptoRow.holds Tryd.pinned (OpenSpec.upto queueExactSpec)

/-- 'quitrentlaw21.QueueKeeps', WHERE WHAT IT READS IS OF BULK AT MOST 1048576: true; the input reads as it did. -/
def queueKeepsUptoRow : OpenClaim := { program := "ytkinbidpbgkaoaadoor", sum := "c45f1e8b84d1b2099c6767d377a1f31c45f0b9613c525337d7f897625ee380de", func := "quitrent/quitrentlaw21.QueueKeeps", spec := "queueKeeps", inPlace := ["internal/reflectlite.TypeOf"], unfollowed := true, recurses := true, named := ["quitrent/api.ErrNil", "quitrent/api.ErrArg", "quitrent/api.ErrDup", "quitrent/api.ErrForm", "quitrent/api.ErrOver", "quitrent/api.ErrNone", "quitrent/api.ErrFull", "quitrent/api.ErrQuota", "quitrent/api.ErrCeil", "quitrent/api.ErrRoom", "quitrent/api.ErrBudget", "quitrent/api.ErrFunds", "quitrent/api.ErrState", "quitrent/api.ErrDown"], apart := false, laid := [("quitrent/api.ErrArg", laid_quitrent_api_ErrArg), ("quitrent/api.ErrNil", laid_quitrent_api_ErrNil), ("quitrent/api.ErrForm", laid_quitrent_api_ErrForm), ("quitrent/api.ErrOver", laid_quitrent_api_ErrOver), ("quitrent/api.ErrNone", laid_quitrent_api_ErrNone), ("quitrent/api.ErrDup", laid_quitrent_api_ErrDup), ("quitrent/api.ErrFull", laid_quitrent_api_ErrFull), ("quitrent/api.ErrQuota", laid_quitrent_api_ErrQuota), ("quitrent/api.ErrCeil", laid_quitrent_api_ErrCeil), ("quitrent/api.ErrRoom", laid_quitrent_api_ErrRoom), ("quitrent/api.ErrBudget", laid_quitrent_api_ErrBudget), ("quitrent/api.ErrFunds", laid_quitrent_api_ErrFunds), ("quitrent/api.ErrState", laid_quitrent_api_ErrState), ("quitrent/api.ErrDown", laid_quitrent_api_ErrDown)], narrowed := true }
def QueueKeepsUptoSaid : Prop := queueKeepsUptoRow.holds Tryd.pinned (OpenSpec.upto queueKeepsSpec)

/-- 'quitrentlaw38.RingLast', WHERE WHAT IT READS IS OF BULK AT MOST 1048576: true; the input reads as it did. -/
def ringLastUptoRow : OpenClaim := { program := "ytkinbidpbgkaoaadoor", sum := "c45f1e8b84d1b2099c6767d377a1f31c45f0b9613c525337d7f897625ee380de", func := "quitrent/quitrentlaw38.RingLast", spec := "ringLast", inPlace := ["internal/bytealg.IndexByteString", "internal/bytealg.IndexString"], named := ["quitrent/api.ErrNil", "quitrent/api.ErrArg", "internal/bytealg.MaxLen"], apart := false, laid := [("quitrent/api.ErrArg", laid_quitrent_api_ErrArg), ("quitrent/api.ErrNil", laid_quitrent_api_ErrNil)], narrowed := true }
def RingLastUptoSaid : Prop := ringLastUptoRow.holds Tryd.pinned (OpenSpec.upto ringLastSpec)

/-- 'quitrentlaw34.DepthExact', WHERE WHAT IT READS IS OF BULK AT MOST 1048576: true; the input reads as it did. -/
def depthExactUptoRow : OpenClaim := { program := "ytkinbidpbgkaoaadoor", sum := "c45f1e8b84d1b2099c6767d377a1f31c45f0b9613c525337d7f897625ee380de", func := "quitrent/quitrentlaw34.DepthExact", spec := "depthExact", inPlace := ["internal/reflectlite.TypeOf"], unfollowed := true, recurses := true, named := ["quitrent/api.ErrArg"], apart := false, laid := [("quitrent/api.ErrArg", laid_quitrent_api_ErrArg)], narrowed := true }
def DepthExactUptoSaid : Prop := depthExactUptoRow.holds Tryd.pinned (OpenSpec.upto depthExactSpec)

/-- 'quitrentlaw38.RingExact', WHERE WHAT IT READS IS OF BULK AT MOST 1048576: true; the input reads as it did. -/
def ringExactUptoRow : OpenClaim := { program := "ytkinbidpbgkaoaadoor", sum := "c45f1e8b84d1b2099c6767d377a1f31c45f0b9613c525337d7f897625ee380de", func := "quitrent/quitrentlaw38.RingExact", spec := "ringExact", inPlace := ["internal/bytealg.IndexByteString", "internal/bytealg.IndexString", "internal/reflectlite.TypeOf"], unfollowed := true, recurses := true, named := ["quitrent/api.ErrArg", "quitrent/api.ErrNil", "internal/bytealg.MaxLen"], apart := false, laid := [("quitrent/api.ErrArg", laid_quitrent_api_ErrArg), ("quitrent/api.ErrNil", laid_quitrent_api_ErrNil)], narrowed := true }
def RingExactUptoSaid : Prop := ringExactUptoRow.holds Tryd.pinned (OpenSpec.upto ringExactSpec)

end Rows
end Go.Proofs.YtkinbidpbgkaoaaDoor
