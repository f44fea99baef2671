/-
  NARROWER THAN 'FOR EVERY INPUT', by the rows' own cells (each row's printed sentence says how): OrderExact: laid · OrderBack: laid · OrderTrims: laid · ReplyCodes: laid · ReplyExact: laid · ReplyBack: laid · CauseExact: laid.
  DERIVED. THE GIVEN ROWS OF THIS SEAT. 7 by the template 'for every input the law returns true; each argument reads behind the call as it read before'; 0 by the template 'total and deterministic' (their statements: YtnlhmlgoipnekaaDoorTotals.lean).
  GIVEN WITH THE SEED: the statements are not yours to turn. If you find one false, say at which input.
  Laid BY PROGRAM, IN A SANDBOX (cutbox-rows.mjs): the forced cells as the released guide's own fill.sh prints them over the translation 3a38baf4c190d367… (all of the seat's roots in one cut). By AI agents, Wed Nov 11 2026. No macro, syntax, notation, axiom, sorry.
-/
import Derived.Test.YtnlhmlgoipnekaaDoorChecked
import GoSem.Claim
import GoSem.ClaimJoined
import GoSem.ClaimMapViews
import Derived.JoinedTies
import Derived.KernelRfl
namespace Go.Proofs.YtnlhmlgoipnekaaDoor
/- THE CELL 'sum', in the pinned program and in every row, IS THE sha256 OF THE DUMP (.gsa) THAT YtnlhmlgoipnekaaDoorProg.lean LOADS. Nothing in Lean hashes anything: it is a label: what it is worth is what the hold of that sum in a sandbox is worth. -/
noncomputable def Tryd.pinned : Pinned := { name := "ytnlhmlgoipnekaadoor", sum := "3a38baf4c190d367fe43f5f4d52220f6f8ba50ffd5feacd5245dac78de0abf9b", checked := Tryd.checked }
namespace Rows
def none {H : Type} : Left H := { results := [], args := [] }

/- WHAT THE LISTED PACKAGE-LEVEL VARIABLES READ AS WHEN THE CALL BEGINS. Each datum BY PROGRAM (the guide's laid-datum.mjs) off the statement by which the dump's own 'gosem.cut.vars' lays the variable. In a bare row this is a premise. The card (YtnlhmlgoipnekaaDoorCards.lean) ties it to the program's text. -/
def laid_errors_errorType {H : Type} : DataW H := .iface "internal/reflectlite.rtype" (.agg [.ptr (.lit (.string [101, 114, 114, 111, 114]))])
def laid_quitrent_api_ErrArg {H : Type} : DataW H := .iface "*errors.errorString" (.ptr (.agg [.lit (.string [97, 110, 32, 97, 114, 103, 117, 109, 101, 110, 116, 32, 116, 104, 97, 116, 32, 99, 97, 110, 39, 116, 32, 98, 101])]))
def laid_quitrent_api_ErrNil {H : Type} : DataW H := .iface "*errors.errorString" (.ptr (.agg [.lit (.string [97, 32, 110, 105, 108, 32, 116, 104, 105, 110, 103])]))
def laid_quitrent_api_ErrForm {H : Type} : DataW H := .iface "*errors.errorString" (.ptr (.agg [.lit (.string [98, 121, 116, 101, 115, 32, 111, 102, 32, 110, 111, 32, 102, 111, 114, 109])]))
def laid_quitrent_api_ErrOver {H : Type} : DataW H := .iface "*errors.errorString" (.ptr (.agg [.lit (.string [97, 32, 110, 117, 109, 98, 101, 114, 32, 116, 104, 97, 116, 32, 105, 115, 32, 116, 111, 111, 32, 103, 114, 101, 97, 116, 44, 32, 111, 114, 32, 98, 101, 108, 111, 119, 32, 110, 111, 116, 104, 105, 110, 103])]))
def laid_quitrent_api_ErrNone {H : Type} : DataW H := .iface "*errors.errorString" (.ptr (.agg [.lit (.string [116, 104, 101, 114, 101, 32, 105, 115, 32, 110, 111, 110, 101])]))
def laid_quitrent_api_ErrDup {H : Type} : DataW H := .iface "*errors.errorString" (.ptr (.agg [.lit (.string [116, 104, 101, 114, 101, 32, 105, 115, 32, 111, 110, 101])]))
def laid_quitrent_api_ErrFull {H : Type} : DataW H := .iface "*errors.errorString" (.ptr (.agg [.lit (.string [116, 104, 101, 114, 101, 32, 97, 114, 101, 32, 116, 111, 111, 32, 109, 97, 110, 121])]))
def laid_quitrent_api_ErrQuota {H : Type} : DataW H := .iface "*errors.errorString" (.ptr (.agg [.lit (.string [116, 111, 111, 32, 108, 105, 116, 116, 108, 101, 32, 113, 117, 111, 116, 97])]))
def laid_quitrent_api_ErrCeil {H : Type} : DataW H := .iface "*errors.errorString" (.ptr (.agg [.lit (.string [109, 111, 114, 101, 32, 116, 104, 97, 110, 32, 109, 97, 121, 32, 98, 101, 32, 103, 105, 118, 101, 110, 32, 111, 117, 116])]))
def laid_quitrent_api_ErrRoom {H : Type} : DataW H := .iface "*errors.errorString" (.ptr (.agg [.lit (.string [110, 111, 32, 109, 97, 99, 104, 105, 110, 101, 32, 104, 97, 115, 32, 114, 111, 111, 109])]))
def laid_quitrent_api_ErrBudget {H : Type} : DataW H := .iface "*errors.errorString" (.ptr (.agg [.lit (.string [116, 111, 111, 32, 109, 97, 110, 121, 32, 101, 118, 105, 99, 116, 105, 111, 110, 115, 32, 111, 102, 32, 97, 32, 106, 111, 98])]))
def laid_quitrent_api_ErrFunds {H : Type} : DataW H := .iface "*errors.errorString" (.ptr (.agg [.lit (.string [116, 111, 111, 32, 108, 105, 116, 116, 108, 101, 32, 99, 114, 101, 100, 105, 116])]))
def laid_quitrent_api_ErrState {H : Type} : DataW H := .iface "*errors.errorString" (.ptr (.agg [.lit (.string [110, 111, 116, 32, 110, 111, 119])]))
def laid_quitrent_api_ErrDown {H : Type} : DataW H := .iface "*errors.errorString" (.ptr (.agg [.lit (.string [116, 104, 101, 32, 112, 111, 119, 101, 114, 32, 105, 115, 32, 97, 119, 97, 121])]))
def laid_math_bits_deBruijn32tab {H : Type} : DataW H := .agg [.lit (.int .u8 0), .lit (.int .u8 1), .lit (.int .u8 28), .lit (.int .u8 2), .lit (.int .u8 29), .lit (.int .u8 14), .lit (.int .u8 24), .lit (.int .u8 3), .lit (.int .u8 30), .lit (.int .u8 22), .lit (.int .u8 20), .lit (.int .u8 15), .lit (.int .u8 25), .lit (.int .u8 17), .lit (.int .u8 4), .lit (.int .u8 8), .lit (.int .u8 31), .lit (.int .u8 27), .lit (.int .u8 13), .lit (.int .u8 23), .lit (.int .u8 21), .lit (.int .u8 19), .lit (.int .u8 16), .lit (.int .u8 7), .lit (.int .u8 26), .lit (.int .u8 12), .lit (.int .u8 18), .lit (.int .u8 6), .lit (.int .u8 11), .lit (.int .u8 5), .lit (.int .u8 10), .lit (.int .u8 9)]
def laid_math_bits_deBruijn64tab {H : Type} : DataW H := .agg [.lit (.int .u8 0), .lit (.int .u8 1), .lit (.int .u8 56), .lit (.int .u8 2), .lit (.int .u8 57), .lit (.int .u8 49), .lit (.int .u8 28), .lit (.int .u8 3), .lit (.int .u8 61), .lit (.int .u8 58), .lit (.int .u8 42), .lit (.int .u8 50), .lit (.int .u8 38), .lit (.int .u8 29), .lit (.int .u8 17), .lit (.int .u8 4), .lit (.int .u8 62), .lit (.int .u8 47), .lit (.int .u8 59), .lit (.int .u8 36), .lit (.int .u8 45), .lit (.int .u8 43), .lit (.int .u8 51), .lit (.int .u8 22), .lit (.int .u8 53), .lit (.int .u8 39), .lit (.int .u8 33), .lit (.int .u8 30), .lit (.int .u8 24), .lit (.int .u8 18), .lit (.int .u8 12), .lit (.int .u8 5), .lit (.int .u8 63), .lit (.int .u8 55), .lit (.int .u8 48), .lit (.int .u8 27), .lit (.int .u8 60), .lit (.int .u8 41), .lit (.int .u8 37), .lit (.int .u8 16), .lit (.int .u8 46), .lit (.int .u8 35), .lit (.int .u8 44), .lit (.int .u8 21), .lit (.int .u8 52), .lit (.int .u8 32), .lit (.int .u8 23), .lit (.int .u8 11), .lit (.int .u8 54), .lit (.int .u8 26), .lit (.int .u8 40), .lit (.int .u8 15), .lit (.int .u8 34), .lit (.int .u8 20), .lit (.int .u8 31), .lit (.int .u8 10), .lit (.int .u8 25), .lit (.int .u8 14), .lit (.int .u8 19), .lit (.int .u8 9), .lit (.int .u8 13), .lit (.int .u8 8), .lit (.int .u8 7), .lit (.int .u8 6)]
def laid_internal_strconv_uint64pow10 {H : Type} : DataW H := .agg [.lit (.int .u64 1), .lit (.int .u64 10), .lit (.int .u64 100), .lit (.int .u64 1000), .lit (.int .u64 10000), .lit (.int .u64 100000), .lit (.int .u64 1000000), .lit (.int .u64 10000000), .lit (.int .u64 100000000), .lit (.int .u64 1000000000), .lit (.int .u64 10000000000), .lit (.int .u64 100000000000), .lit (.int .u64 1000000000000), .lit (.int .u64 10000000000000), .lit (.int .u64 100000000000000), .lit (.int .u64 1000000000000000), .lit (.int .u64 10000000000000000), .lit (.int .u64 100000000000000000), .lit (.int .u64 1000000000000000000), .lit (.int .u64 10000000000000000000)]

/-- 'quitrentlaw23.OrderExact': WHATEVER THE INPUT: true; the input reads as it did. -/
def orderExactSpec : ChangeSpec := { name := "orderExact", fn := fun _ => fun
  | [d1, d2] => { results := [.lit (.bool true)], args := [d1, d2] }
  | _ => none }
def orderExactRow : OpenClaim := { program := "ytnlhmlgoipnekaadoor", sum := "3a38baf4c190d367fe43f5f4d52220f6f8ba50ffd5feacd5245dac78de0abf9b", func := "quitrent/quitrentlaw23.OrderExact", spec := "orderExact", inPlace := ["internal/abi.NoEscape", "internal/reflectlite.ValueOf", "(internal/reflectlite.Value).Type", "(internal/reflectlite.Value).IsNil", "internal/reflectlite.TypeOf", "(internal/reflectlite.Value).Elem", "(internal/reflectlite.Value).Set"], unfollowed := true, recurses := true, named := ["quitrent/api.ErrArg", "quitrent/api.ErrForm", "quitrent/api.ErrNil", "errors.errorType"], apart := false, laid := [("errors.errorType", laid_errors_errorType), ("quitrent/api.ErrArg", laid_quitrent_api_ErrArg), ("quitrent/api.ErrNil", laid_quitrent_api_ErrNil), ("quitrent/api.ErrForm", laid_quitrent_api_ErrForm)] }
def OrderExactSaid : Prop := orderExactRow.holds Tryd.pinned (OpenSpec.ofChange orderExactSpec)

/-- ITS FALSE NEIGHBOUR: 'it returns false'. Refute it at one input. -/
def orderExactWrong : ChangeSpec := { name := "orderExact", fn := fun _ => fun
  | [d1, d2] => { results := [.lit (.bool false)], args := [d1, d2] }
  | _ => none }
def OrderExactWrongFalsely : Prop := orderExactRow.holds Tryd.pinned (OpenSpec.ofChange orderExactWrong)

/-- 'quitrentlaw23.OrderBack': WHATEVER THE INPUT: true; the input reads as it did. -/
def orderBackSpec : ChangeSpec := { name := "orderBack", fn := fun _ => fun
  | [d1, d2, d3] => { results := [.lit (.bool true)], args := [d1, d2, d3] }
  | _ => none }
def orderBackRow : OpenClaim := { program := "ytnlhmlgoipnekaadoor", sum := "3a38baf4c190d367fe43f5f4d52220f6f8ba50ffd5feacd5245dac78de0abf9b", func := "quitrent/quitrentlaw23.OrderBack", spec := "orderBack", inPlace := ["internal/abi.NoEscape", "internal/reflectlite.ValueOf", "(internal/reflectlite.Value).Type", "(internal/reflectlite.Value).IsNil", "internal/reflectlite.TypeOf", "(internal/reflectlite.Value).Elem", "(internal/reflectlite.Value).Set"], unfollowed := true, recurses := true, named := ["quitrent/api.ErrArg", "quitrent/api.ErrForm", "quitrent/api.ErrNil", "errors.errorType"], apart := false, laid := [("errors.errorType", laid_errors_errorType), ("quitrent/api.ErrArg", laid_quitrent_api_ErrArg), ("quitrent/api.ErrNil", laid_quitrent_api_ErrNil), ("quitrent/api.ErrForm", laid_quitrent_api_ErrForm)] }
def OrderBackSaid : Prop := orderBackRow.holds Tryd.pinned (OpenSpec.ofChange orderBackSpec)

/-- ITS FALSE NEIGHBOUR: 'it returns false'. Refute it at one input. -/
def orderBackWrong : ChangeSpec := { name := "orderBack", fn := fun _ => fun
  | [d1, d2, d3] => { results := [.lit (.bool false)], args := [d1, d2, d3] }
  | _ => none }
def OrderBackWrongFalsely : Prop := orderBackRow.holds Tryd.pinned (OpenSpec.ofChange orderBackWrong)

/-- 'quitrentlaw23.OrderTrims': WHATEVER THE INPUT: true; the input reads as it did. -/
def orderTrimsSpec : ChangeSpec := { name := "orderTrims", fn := fun _ => fun
  | [d] => { results := [.lit (.bool true)], args := [d] }
  | _ => none }
def orderTrimsRow : OpenClaim := { program := "ytnlhmlgoipnekaadoor", sum := "3a38baf4c190d367fe43f5f4d52220f6f8ba50ffd5feacd5245dac78de0abf9b", func := "quitrent/quitrentlaw23.OrderTrims", spec := "orderTrims", inPlace := ["internal/abi.NoEscape", "internal/reflectlite.ValueOf", "(internal/reflectlite.Value).Type", "(internal/reflectlite.Value).IsNil", "internal/reflectlite.TypeOf", "(internal/reflectlite.Value).Elem", "(internal/reflectlite.Value).Set"], unfollowed := true, recurses := true, named := ["quitrent/api.ErrArg", "quitrent/api.ErrForm", "quitrent/api.ErrNil", "errors.errorType"], apart := false, laid := [("errors.errorType", laid_errors_errorType), ("quitrent/api.ErrArg", laid_quitrent_api_ErrArg), ("quitrent/api.ErrNil", laid_quitrent_api_ErrNil), ("quitrent/api.ErrForm", laid_quitrent_api_ErrForm)] }
def OrderTrimsSaid : Prop := orderTrimsRow.holds Tryd.pinned (OpenSpec.ofChange orderTrimsSpec)

/-- ITS FALSE NEIGHBOUR: 'it returns false'. Refute it at one input. -/
def orderTrimsWrong : ChangeSpec := { name := "orderTrims", fn := fun _ => fun
  | [d] => { results := [.lit (.bool false)], args := [d] }
  | _ => none }
def OrderTrimsWrongFalsely : Prop := orderTrimsRow.holds Tryd.pinned (OpenSpec.ofChange orderTrimsWrong)

/-- 'quitrentlaw24.ReplyCodes': WHATEVER THE INPUT: true; the input reads as it did. -/
def replyCodesSpec : ChangeSpec := { name := "replyCodes", fn := fun _ => fun
  | [d1, d2] => { results := [.lit (.bool true)], args := [d1, d2] }
  | _ => none }
def replyCodesRow : OpenClaim := { program := "ytnlhmlgoipnekaadoor", sum := "3a38baf4c190d367fe43f5f4d52220f6f8ba50ffd5feacd5245dac78de0abf9b", func := "quitrent/quitrentlaw24.ReplyCodes", spec := "replyCodes", inPlace := ["internal/abi.NoEscape", "internal/reflectlite.TypeOf", "internal/reflectlite.ValueOf", "(internal/reflectlite.Value).Type", "(internal/reflectlite.Value).IsNil", "(internal/reflectlite.Value).Elem", "(internal/reflectlite.Value).Set"], unfollowed := true, recurses := true, named := ["quitrent/api.ErrCeil", "quitrent/api.ErrFunds", "quitrent/api.ErrForm", "quitrent/api.ErrNil", "quitrent/api.ErrArg", "quitrent/api.ErrOver", "quitrent/api.ErrNone", "quitrent/api.ErrDup", "quitrent/api.ErrFull", "quitrent/api.ErrQuota", "quitrent/api.ErrRoom", "quitrent/api.ErrBudget", "quitrent/api.ErrState", "quitrent/api.ErrDown", "errors.errorType"], apart := false, laid := [("errors.errorType", laid_errors_errorType), ("quitrent/api.ErrArg", laid_quitrent_api_ErrArg), ("quitrent/api.ErrNil", laid_quitrent_api_ErrNil), ("quitrent/api.ErrForm", laid_quitrent_api_ErrForm), ("quitrent/api.ErrOver", laid_quitrent_api_ErrOver), ("quitrent/api.ErrNone", laid_quitrent_api_ErrNone), ("quitrent/api.ErrDup", laid_quitrent_api_ErrDup), ("quitrent/api.ErrFull", laid_quitrent_api_ErrFull), ("quitrent/api.ErrQuota", laid_quitrent_api_ErrQuota), ("quitrent/api.ErrCeil", laid_quitrent_api_ErrCeil), ("quitrent/api.ErrRoom", laid_quitrent_api_ErrRoom), ("quitrent/api.ErrBudget", laid_quitrent_api_ErrBudget), ("quitrent/api.ErrFunds", laid_quitrent_api_ErrFunds), ("quitrent/api.ErrState", laid_quitrent_api_ErrState), ("quitrent/api.ErrDown", laid_quitrent_api_ErrDown)] }
def ReplyCodesSaid : Prop := replyCodesRow.holds Tryd.pinned (OpenSpec.ofChange replyCodesSpec)

/-- ITS FALSE NEIGHBOUR: 'it returns false'. Refute it at one input. -/
def replyCodesWrong : ChangeSpec := { name := "replyCodes", fn := fun _ => fun
  | [d1, d2] => { results := [.lit (.bool false)], args := [d1, d2] }
  | _ => none }
def ReplyCodesWrongFalsely : Prop := replyCodesRow.holds Tryd.pinned (OpenSpec.ofChange replyCodesWrong)

/-- 'quitrentlaw24.ReplyExact': WHATEVER THE INPUT: true; the input reads as it did. -/
def replyExactSpec : ChangeSpec := { name := "replyExact", fn := fun _ => fun
  | [d1, d2, d3] => { results := [.lit (.bool true)], args := [d1, d2, d3] }
  | _ => none }
def replyExactRow : OpenClaim := { program := "ytnlhmlgoipnekaadoor", sum := "3a38baf4c190d367fe43f5f4d52220f6f8ba50ffd5feacd5245dac78de0abf9b", func := "quitrent/quitrentlaw24.ReplyExact", spec := "replyExact", inPlace := ["internal/abi.NoEscape", "internal/reflectlite.TypeOf", "internal/reflectlite.ValueOf", "(internal/reflectlite.Value).Type", "(internal/reflectlite.Value).IsNil", "(internal/reflectlite.Value).Elem", "(internal/reflectlite.Value).Set"], unfollowed := true, recurses := true, named := ["quitrent/api.ErrForm", "quitrent/api.ErrCeil", "quitrent/api.ErrFunds", "quitrent/api.ErrNil", "quitrent/api.ErrArg", "quitrent/api.ErrOver", "quitrent/api.ErrNone", "quitrent/api.ErrDup", "quitrent/api.ErrFull", "quitrent/api.ErrQuota", "quitrent/api.ErrRoom", "quitrent/api.ErrBudget", "quitrent/api.ErrState", "quitrent/api.ErrDown", "errors.errorType"], apart := false, laid := [("errors.errorType", laid_errors_errorType), ("quitrent/api.ErrArg", laid_quitrent_api_ErrArg), ("quitrent/api.ErrNil", laid_quitrent_api_ErrNil), ("quitrent/api.ErrForm", laid_quitrent_api_ErrForm), ("quitrent/api.ErrOver", laid_quitrent_api_ErrOver), ("quitrent/api.ErrNone", laid_quitrent_api_ErrNone), ("quitrent/api.ErrDup", laid_quitrent_api_ErrDup), ("quitrent/api.ErrFull", laid_quitrent_api_ErrFull), ("quitrent/api.ErrQuota", laid_quitrent_api_ErrQuota), ("quitrent/api.ErrCeil", laid_quitrent_api_ErrCeil), ("quitrent/api.ErrRoom", laid_quitrent_api_ErrRoom), ("quitrent/api.ErrBudget", laid_quitrent_api_ErrBudget), ("quitrent/api.ErrFunds", laid_quitrent_api_ErrFunds), ("quitrent/api.ErrState", laid_quitrent_api_ErrState), ("quitrent/api.ErrDown", laid_quitrent_api_ErrDown)] }
def ReplyExactSaid : Prop := replyExactRow.holds Tryd.pinned (OpenSpec.ofChange replyExactSpec)

/-- ITS FALSE NEIGHBOUR: 'it returns false'. Refute it at one input. -/
def replyExactWrong : ChangeSpec := { name := "replyExact", fn := fun _ => fun
  | [d1, d2, d3] => { results := [.lit (.bool false)], args := [d1, d2, d3] }
  | _ => none }
def ReplyExactWrongFalsely : Prop := replyExactRow.holds Tryd.pinned (OpenSpec.ofChange replyExactWrong)

/-- 'quitrentlaw24.ReplyBack': WHATEVER THE INPUT: true; the input reads as it did. -/
def replyBackSpec : ChangeSpec := { name := "replyBack", fn := fun _ => fun
  | [d1, d2, d3] => { results := [.lit (.bool true)], args := [d1, d2, d3] }
  | _ => none }
def replyBackRow : OpenClaim := { program := "ytnlhmlgoipnekaadoor", sum := "3a38baf4c190d367fe43f5f4d52220f6f8ba50ffd5feacd5245dac78de0abf9b", func := "quitrent/quitrentlaw24.ReplyBack", spec := "replyBack", inPlace := ["internal/abi.NoEscape", "internal/reflectlite.TypeOf", "internal/reflectlite.ValueOf", "(internal/reflectlite.Value).Type", "(internal/reflectlite.Value).IsNil", "(internal/reflectlite.Value).Elem", "(internal/reflectlite.Value).Set"], unfollowed := true, recurses := true, named := ["quitrent/api.ErrForm", "quitrent/api.ErrCeil", "quitrent/api.ErrFunds", "quitrent/api.ErrNil", "quitrent/api.ErrArg", "quitrent/api.ErrOver", "quitrent/api.ErrNone", "quitrent/api.ErrDup", "quitrent/api.ErrFull", "quitrent/api.ErrQuota", "quitrent/api.ErrRoom", "quitrent/api.ErrBudget", "quitrent/api.ErrState", "quitrent/api.ErrDown", "errors.errorType"], apart := false, laid := [("errors.errorType", laid_errors_errorType), ("quitrent/api.ErrArg", laid_quitrent_api_ErrArg), ("quitrent/api.ErrNil", laid_quitrent_api_ErrNil), ("quitrent/api.ErrForm", laid_quitrent_api_ErrForm), ("quitrent/api.ErrOver", laid_quitrent_api_ErrOver), ("quitrent/api.ErrNone", laid_quitrent_api_ErrNone), ("quitrent/api.ErrDup", laid_quitrent_api_ErrDup), ("quitrent/api.ErrFull", laid_quitrent_api_ErrFull), ("quitrent/api.ErrQuota", laid_quitrent_api_ErrQuota), ("quitrent/api.ErrCeil", laid_quitrent_api_ErrCeil), ("quitrent/api.ErrRoom", laid_quitrent_api_ErrRoom), ("quitrent/api.ErrBudget", laid_quitrent_api_ErrBudget), ("quitrent/api.ErrFunds", laid_quitrent_api_ErrFunds), ("quitrent/api.ErrState", laid_quitrent_api_ErrState), ("quitrent/api.ErrDown", laid_quitrent_api_ErrDown)] }
def ReplyBackSaid : Prop := replyBackRow.holds Tryd.pinned (OpenSpec.ofChange replyBackSpec)

/-- ITS FALSE NEIGHBOUR: 'it returns false'. Refute it at one input. -/
def replyBackWrong : ChangeSpec := { name := "replyBack", fn := fun _ => fun
  | [d1, d2, d3] => { results := [.lit (.bool false)], args := [d1, d2, d3] }
  | _ => none }
def ReplyBackWrongFalsely : Prop := replyBackRow.holds Tryd.pinned (OpenSpec.ofChange replyBackWrong)

/-- 'quitrentlaw39.CauseExact': WHATEVER THE INPUT: true; the input reads as it did. -/
def causeExactSpec : ChangeSpec := { name := "causeExact", fn := fun _ => fun
  | [d1, d2, d3, d4] => { results := [.lit (.bool true)], args := [d1, d2, d3, d4] }
  | _ => none }
def causeExactRow : OpenClaim := { program := "ytnlhmlgoipnekaadoor", sum := "3a38baf4c190d367fe43f5f4d52220f6f8ba50ffd5feacd5245dac78de0abf9b", func := "quitrent/quitrentlaw39.CauseExact", spec := "causeExact", inPlace := ["internal/reflectlite.TypeOf", "internal/abi.NoEscape", "internal/reflectlite.ValueOf", "(internal/reflectlite.Value).Type", "(internal/reflectlite.Value).IsNil", "(internal/reflectlite.Value).Elem", "(internal/reflectlite.Value).Set"], unfollowed := true, recurses := true, named := ["quitrent/api.ErrQuota", "quitrent/api.ErrArg", "quitrent/api.ErrNil", "quitrent/api.ErrForm", "quitrent/api.ErrOver", "quitrent/api.ErrNone", "quitrent/api.ErrDup", "quitrent/api.ErrFull", "quitrent/api.ErrCeil", "quitrent/api.ErrRoom", "quitrent/api.ErrBudget", "quitrent/api.ErrFunds", "quitrent/api.ErrState", "quitrent/api.ErrDown", "internal/strconv.uint64pow10", "math/bits.deBruijn32tab", "math/bits.deBruijn64tab", "errors.errorType"], apart := false, laid := [("math/bits.deBruijn32tab", laid_math_bits_deBruijn32tab), ("math/bits.deBruijn64tab", laid_math_bits_deBruijn64tab), ("internal/strconv.uint64pow10", laid_internal_strconv_uint64pow10), ("errors.errorType", laid_errors_errorType), ("quitrent/api.ErrArg", laid_quitrent_api_ErrArg), ("quitrent/api.ErrNil", laid_quitrent_api_ErrNil), ("quitrent/api.ErrForm", laid_quitrent_api_ErrForm), ("quitrent/api.ErrOver", laid_quitrent_api_ErrOver), ("quitrent/api.ErrNone", laid_quitrent_api_ErrNone), ("quitrent/api.ErrDup", laid_quitrent_api_ErrDup), ("quitrent/api.ErrFull", laid_quitrent_api_ErrFull), ("quitrent/api.ErrQuota", laid_quitrent_api_ErrQuota), ("quitrent/api.ErrCeil", laid_quitrent_api_ErrCeil), ("quitrent/api.ErrRoom", laid_quitrent_api_ErrRoom), ("quitrent/api.ErrBudget", laid_quitrent_api_ErrBudget), ("quitrent/api.ErrFunds", laid_quitrent_api_ErrFunds), ("quitrent/api.ErrState", laid_quitrent_api_ErrState), ("quitrent/api.ErrDown", laid_quitrent_api_ErrDown)] }
def CauseExactSaid : Prop := causeExactRow.holds Tryd.pinned (OpenSpec.ofChange causeExactSpec)

/-- ITS FALSE NEIGHBOUR: 'it returns false'. Refute it at one input. -/
def causeExactWrong : ChangeSpec := { name := "causeExact", fn := fun _ => fun
  | [d1, d2, d3, d4] => { results := [.lit (.bool false)], args := [d1, d2, d3, d4] }
  | _ => none }
def CauseExactWrongFalsely : Prop := causeExactRow.holds Tryd.pinned (OpenSpec.ofChange causeExactWrong)

/- THE SECOND FORM. 'bulk': how many values and letters a reading holds, each counted each time it is reached (what is shared counts as often as it is met; a slice's spare places count too). A statement '..UptoSaid' is the law's where the arguments, and the package variables that the reading takes, are together of bulk at most 1048576: NARROWER than '..Said'. Prove '..Said' where nothing that the law and all that it calls make is longer than what came in: it says more and counts as full. Else prove '..UptoSaid'. A law counts once. -/
mutual
def uptoBulk {H : Type} : DataW H → Nat
  | .lit (.string bytes) => bytes.length + 1
  | .lit _ => 1
  | .nil => 1
  | .ptr d => uptoBulk d + 1
  | .slice elems spare => uptoBulkAll elems + uptoBulkAll spare + 1
  | .agg parts => uptoBulkAll parts + 1
  | .iface _ d => uptoBulk d + 1
  | .map entries => uptoBulkEntries entries + 1
  | .held _ => 1
def uptoBulkAll {H : Type} : List (DataW H) → Nat
  | [] => 0
  | d :: r => uptoBulk d + uptoBulkAll r
def uptoBulkEntries {H : Type} : List (Lit × DataW H) → Nat
  | [] => 0
  | x :: r => uptoBulkEntry x + uptoBulkEntries r
def uptoBulkEntry {H : Type} : Lit × DataW H → Nat
  | (.string bytes, d) => bytes.length + uptoBulk d + 1
  | (_, d) => uptoBulk d + 1
 end
def uptoSmall : (H : Type) → List (DataW H) → Bool := fun _ ds => decide (uptoBulkAll ds ≤ 1048576)
def OpenSpec.upto (s : _root_.Go.ChangeSpec) : _root_.Go.OpenSpec := { _root_.Go.OpenSpec.ofChange s with cond := some uptoSmall }

/-- 'quitrentlaw23.OrderExact', WHERE WHAT IT READS IS OF BULK AT MOST 1048576: true; the input reads as it did. -/
def orderExactUptoRow : OpenClaim := { program := "ytnlhmlgoipnekaadoor", sum := "3a38baf4c190d367fe43f5f4d52220f6f8ba50ffd5feacd5245dac78de0abf9b", func := "quitrent/quitrentlaw23.OrderExact", spec := "orderExact", inPlace := ["internal/abi.NoEscape", "internal/reflectlite.ValueOf", "(internal/reflectlite.Value).Type", "(internal/reflectlite.Value).IsNil", "internal/reflectlite.TypeOf", "(internal/reflectlite.Value).Elem", "(internal/reflectlite.Value).Set"], unfollowed := true, recurses := true, named := ["quitrent/api.ErrArg", "quitrent/api.ErrForm", "quitrent/api.ErrNil", "errors.errorType"], apart := false, laid := [("errors.errorType", laid_errors_errorType), ("quitrent/api.ErrArg", laid_quitrent_api_ErrArg), ("quitrent/api.ErrNil", laid_quitrent_api_ErrNil), ("quitrent/api.ErrForm", laid_quitrent_api_ErrForm)], narrowed := true }
def OrderExactUptoSaid : Prop := orderExactUptoRow.holds Tryd.pinned (OpenSpec.upto orderExactSpec)

/-- 'quitrentlaw23.OrderBack', WHERE WHAT IT READS IS OF BULK AT MOST 1048576: true; the input reads as it did. -/
def orderBackUptoRow : OpenClaim := { program := "ytnlhmlgoipnekaadoor", sum := "3a38baf4c190d367fe43f5f4d52220f6f8ba50ffd5feacd5245dac78de0abf9b", func := "quitrent/quitrentlaw23.OrderBack", spec := "orderBack", inPlace := ["internal/abi.NoEscape", "internal/reflectlite.ValueOf", "(internal/reflectlite.Value).Type", "(internal/reflectlite.Value).IsNil", "internal/reflectlite.TypeOf", "(internal/reflectlite.Value).Elem", "(internal/reflectlite.Value).Set"], unfollowed := true, recurses := true, named := ["quitrent/api.ErrArg", "quitrent/api.ErrForm", "quitrent/api.ErrNil", "errors.errorType"], apart := false, laid := [("errors.errorType", laid_errors_errorType), ("quitrent/api.ErrArg", laid_quitrent_api_ErrArg), ("quitrent/api.ErrNil", laid_quitrent_api_ErrNil), ("quitrent/api.ErrForm", laid_quitrent_api_ErrForm)], narrowed := true }
def OrderBackUptoSaid : Prop := orderBackUptoRow.holds Tryd.pinned (OpenSpec.upto orderBackSpec)

/-- 'quitrentlaw23.OrderTrims', WHERE WHAT IT READS IS OF BULK AT MOST 1048576: true; the input reads as it did. -/
def orderTrimsUptoRow : OpenClaim := { program := "ytnlhmlgoipnekaadoor", sum := "3a38baf4c190d367fe43f5f4d52220f6f8ba50ffd5feacd5245dac78de0abf9b", func := "quitrent/quitrentlaw23.OrderTrims", spec := "orderTrims", inPlace := ["internal/abi.NoEscape", "internal/reflectlite.ValueOf", "(internal/reflectlite.Value).Type", "(internal/reflectlite.Value).IsNil", "internal/reflectlite.TypeOf", "(internal/reflectlite.Value).Elem", "(internal/reflectlite.Value).Set"], unfollowed := true, recurses := true, named := ["quitrent/api.ErrArg", "quitrent/api.ErrForm", "quitrent/api.ErrNil", "errors.errorType"], apart := false, laid := [("errors.errorType", laid_errors_errorType), ("quitrent/api.ErrArg", laid_quitrent_api_ErrArg), ("quitrent/api.ErrNil", laid_quitrent_api_ErrNil), ("quitrent/api.ErrForm", laid_quitrent_api_ErrForm)], narrowed := true }
def OrderTrimsUptoSaid : Prop := orderTrimsUptoRow.holds Tryd.pinned (OpenSpec.upto orderTrimsSpec)

/-- 'quitrentlaw24.ReplyCodes', WHERE WHAT IT READS IS OF BULK AT MOST 1048576: true; the input reads as it did. -/
def replyCodesUptoRow : OpenClaim := { program := "ytnlhmlgoipnekaadoor", sum := "3a38baf4c190d367fe43f5f4d52220f6f8ba50ffd5feacd5245dac78de0abf9b", func := "quitrent/quitrentlaw24.ReplyCodes", spec := "replyCodes", inPlace := ["internal/abi.NoEscape", "internal/reflectlite.TypeOf", "internal/reflectlite.ValueOf", "(internal/reflectlite.Value).Type", "(internal/reflectlite.Value).IsNil", "(internal/reflectlite.Value).Elem", "(internal/reflectlite.Value).Set"], unfollowed := true, recurses := true, named := ["quitrent/api.ErrCeil", "quitrent/api.ErrFunds", "quitrent/api.ErrForm", "quitrent/api.ErrNil", "quitrent/api.ErrArg", "quitrent/api.ErrOver", "quitrent/api.ErrNone", "quitrent/api.ErrDup", "quitrent/api.ErrFull", "quitrent/api.ErrQuota", "quitrent/api.ErrRoom", "quitrent/api.ErrBudget", "quitrent/api.ErrState", "quitrent/api.ErrDown", "errors.errorType"], apart := false, laid := [("errors.errorType", laid_errors_errorType), ("quitrent/api.ErrArg", laid_quitrent_api_ErrArg), ("quitrent/api.ErrNil", laid_quitrent_api_ErrNil), ("quitrent/api.ErrForm", laid_quitrent_api_ErrForm), ("quitrent/api.ErrOver", laid_quitrent_api_ErrOver), ("quitrent/api.ErrNone", laid_quitrent_api_ErrNone), ("quitrent/api.ErrDup", laid_quitrent_api_ErrDup), ("quitrent/api.ErrFull", laid_quitrent_api_ErrFull), ("quitrent/api.ErrQuota", laid_quitrent_api_ErrQuota), ("quitrent/api.ErrCeil", laid_quitrent_api_ErrCeil), ("quitrent/api.ErrRoom", laid_quitrent_api_ErrRoom), ("quitrent/api.ErrBudget", laid_quitrent_api_ErrBudget), ("quitrent/api.ErrFunds", laid_quitrent_api_ErrFunds), ("quitrent/api.ErrState", laid_quitrent_api_ErrState), ("quitrent/api.ErrDown", laid_quitrent_api_ErrDown)], narrowed := true }
def ReplyCodesUptoSaid : Prop := replyCodesUptoRow.holds Tryd.pinned (OpenSpec.upto replyCodesSpec)

/-- 'quitrentlaw24.ReplyExact', WHERE WHAT IT READS IS OF BULK AT MOST 1048576: true; the input reads as it did. -/
def replyExactUptoRow : OpenClaim := { program := "ytnlhmlgoipnekaadoor", sum := "3a38baf4c190d367fe43f5f4d52220f6f8ba50ffd5feacd5245dac78de0abf9b", func := "quitrent/quitrentlaw24.ReplyExact", spec := "replyExact", inPlace := ["internal/abi.NoEscape", "internal/reflectlite.TypeOf", "internal/reflectlite.ValueOf", "(internal/reflectlite.Value).Type", "(internal/reflectlite.Value).IsNil", "(internal/reflectlite.Value).Elem", "(internal/reflectlite.Value).Set"], unfollowed := true, recurses := true, named := ["quitrent/api.ErrForm", "quitrent/api.ErrCeil", "quitrent/api.ErrFunds", "quitrent/api.ErrNil", "quitrent/api.ErrArg", "quitrent/api.ErrOver", "quitrent/api.ErrNone", "quitrent/api.ErrDup", "quitrent/api.ErrFull", "quitrent/api.ErrQuota", "quitrent/api.ErrRoom", "quitrent/api.ErrBudget", "quitrent/api.ErrState", "quitrent/api.ErrDown", "errors.errorType"], apart := false, laid := [("errors.errorType", laid_errors_errorType), ("quitrent/api.ErrArg", laid_quitrent_api_ErrArg), ("quitrent/api.ErrNil", laid_quitrent_api_ErrNil), ("quitrent/api.ErrForm", laid_quitrent_api_ErrForm), ("quitrent/api.ErrOver", laid_quitrent_api_ErrOver), ("quitrent/api.ErrNone", laid_quitrent_api_ErrNone), ("quitrent/api.ErrDup", laid_quitrent_api_ErrDup), ("quitrent/api.ErrFull", laid_quitrent_api_ErrFull), ("quitrent/api.ErrQuota", laid_quitrent_api_ErrQuota), ("quitrent/api.ErrCeil", laid_quitrent_api_ErrCeil), ("quitrent/api.ErrRoom", laid_quitrent_api_ErrRoom), ("quitrent/api.ErrBudget", laid_quitrent_api_ErrBudget), ("quitrent/api.ErrFunds", laid_quitrent_api_ErrFunds), ("quitrent/api.ErrState", laid_quitrent_api_ErrState), ("quitrent/api.ErrDown", laid_quitrent_api_ErrDown)], narrowed := true }
def ReplyExactUptoSaid : Prop := replyExactUptoRow.holds Tryd.pinned (OpenSpec.upto replyExactSpec)

/-- 'quitrentlaw24.ReplyBack', WHERE WHAT IT READS IS OF BULK AT MOST 1048576: true; the input reads as it did. -/
def replyBackUptoRow : OpenClaim := { program := "ytnlhmlgoipnekaadoor", sum := "3a38baf4c190d367fe43f5f4d52220f6f8ba50ffd5feacd5245dac78de0abf9b", func := "quitrent/quitrentlaw24.ReplyBack", spec := "replyBack", inPlace := ["internal/abi.NoEscape", "internal/reflectlite.TypeOf", "internal/reflectlite.ValueOf", "(internal/reflectlite.Value).Type", "(internal/reflectlite.Value).IsNil", "(internal/reflectlite.Value).Elem", "(internal/reflectlite.Value).Set"], unfollowed := true, recurses := true, named := ["quitrent/api.ErrForm", "quitrent/api.ErrCeil", "quitrent/api.ErrFunds", "quitrent/api.ErrNil", "quitrent/api.ErrArg", "quitrent/api.ErrOver", "quitrent/api.ErrNone", "quitrent/api.ErrDup", "quitrent/api.ErrFull", "quitrent/api.ErrQuota", "quitrent/api.ErrRoom", "quitrent/api.ErrBudget", "quitrent/api.ErrState", "quitrent/api.ErrDown", "errors.errorType"], apart := false, laid := [("errors.errorType", laid_errors_errorType), ("quitrent/api.ErrArg", laid_quitrent_api_ErrArg), ("quitrent/api.ErrNil", laid_quitrent_api_ErrNil), ("quitrent/api.ErrForm", laid_quitrent_api_ErrForm), ("quitrent/api.ErrOver", laid_quitrent_api_ErrOver), ("quitrent/api.ErrNone", laid_quitrent_api_ErrNone), ("quitrent/api.ErrDup", laid_quitrent_api_ErrDup), ("quitrent/api.ErrFull", laid_quitrent_api_ErrFull), ("quitrent/api.ErrQuota", laid_quitrent_api_ErrQuota), ("quitrent/api.ErrCeil", laid_quitrent_api_ErrCeil), ("quitrent/api.ErrRoom", laid_quitrent_api_ErrRoom), ("quitrent/api.ErrBudget", laid_quitrent_api_ErrBudget), ("quitrent/api.ErrFunds", laid_quitrent_api_ErrFunds), ("quitrent/api.ErrState", laid_quitrent_api_ErrState), ("quitrent/api.ErrDown", laid_quitrent_api_ErrDown)], narrowed := true }
def ReplyBackUptoSaid : Prop := replyBackUptoRow.holds Tryd.pinned (OpenSpec.upto replyBackSpec)

/-- 'quitrentlaw39.CauseExact', WHERE WHAT IT READS IS OF BULK AT MOST 1048576: true; the input reads as it did. -/
def causeExactUptoRow : OpenClaim := { program := "ytnlhmlgoipnekaadoor", sum := "3a38baf4c190d367fe43f5f4d52220f6f8ba50ffd5feacd5245dac78de0abf9b", func := "quitrent/quitrentlaw39.CauseExact", spec := "causeExact", inPlace := ["internal/reflectlite.TypeOf", "internal/abi.NoEscape", "internal/reflectlite.ValueOf", "(internal/reflectlite.Value).Type", "(internal/reflectlite.Value).IsNil", "(internal/reflectlite.Value).Elem", "(internal/reflectlite.Value).Set"], unfollowed := true, recurses := true, named := ["quitrent/api.ErrQuota", "quitrent/api.ErrArg", "quitrent/api.ErrNil", "quitrent/api.ErrForm", "quitrent/api.ErrOver", "quitrent/api.ErrNone", "quitrent/api.ErrDup", "quitrent/api.ErrFull", "quitrent/api.ErrCeil", "quitrent/api.ErrRoom", "quitrent/api.ErrBudget", "quitrent/api.ErrFunds", "quitrent/api.ErrState", "quitrent/api.ErrDown", "internal/strconv.uint64pow10", "math/bits.deBruijn32tab", "math/bits.deBruijn64tab", "errors.errorType"], apart := false, laid := [("math/bits.deBruijn32tab", laid_math_bits_deBruijn32tab), ("math/bits.deBruijn64tab", laid_math_bits_deBruijn64tab), ("internal/strconv.uint64pow10", laid_internal_strconv_uint64pow10), ("errors.errorType", laid_errors_errorType), ("quitrent/api.ErrArg", laid_quitrent_api_ErrArg), ("quitrent/api.ErrNil", laid_quitrent_api_ErrNil), ("quitrent/api.ErrForm", laid_quitrent_api_ErrForm), ("quitrent/api.ErrOver", laid_quitrent_api_ErrOver), ("quitrent/api.ErrNone", laid_quitrent_api_ErrNone), ("quitrent/api.ErrDup", laid_quitrent_api_ErrDup), ("quitrent/api.ErrFull", laid_quitrent_api_ErrFull), ("quitrent/api.ErrQuota", laid_quitrent_api_ErrQuota), ("quitrent/api.ErrCeil", laid_quitrent_api_ErrCeil), ("quitrent/api.ErrRoom", laid_quitrent_api_ErrRoom), ("quitrent/api.ErrBudget", laid_quitrent_api_ErrBudget), ("quitrent/api.ErrFunds", laid_quitrent_api_ErrFunds), ("quitrent/api.ErrState", laid_quitrent_api_ErrState), ("quitrent/api.ErrDown", laid_quitrent_api_ErrDown)], narrowed := true }
def CauseExactUptoSaid : Prop := causeExactUptoRow.holds Tryd.pinned (OpenSpec.upto causeExactSpec)

end Rows
end Go.Proofs.YtnlhmlgoipnekaaDoor
