/-
  NARROWER THAN 'FOR EVERY INPUT', by the rows' own cells (each row's printed sentence says how): StreamsFair: laid · StreamsIDs: laid · StreamsFinalSize: laid · StreamsConflict: laid · StreamsEarlyLimits: laid · StreamsPrefix: laid · StreamsResetFreesCredit: laid · StreamsStopSending: laid · StreamsWithinLimits: laid · StreamsRemoteBounded: laid · StreamsBudget: laid · StreamsMatchReference: laid · StreamsParamsMatchReference: laid.
  DERIVED. THE GIVEN ROWS OF THIS SEAT. 13 by the template 'for every input the law returns true; each argument reads behind the call as it read before'; 0 by the template 'total and deterministic' (their statements: YthckbmcmdcemkaaGreatDoorTotals.lean).
  GIVEN WITH THE SEED: the statements are not yours to turn. If you find one false, say at which input.
  Laid BY PROGRAM, IN A SANDBOX (cutbox-rows.mjs): the forced cells as the released guide's own fill.sh prints them over the translation a9f4d04a96d6143d… (all of the seat's roots in one cut). By AI agents, Wed Nov 11 2026. No macro, syntax, notation, axiom, sorry.
-/
import Derived.Test.YthckbmcmdcemkaaGreatDoorChecked
import GoSem.Claim
import GoSem.ClaimJoined
import GoSem.ClaimMapViews
import Derived.JoinedTies
import Derived.KernelRfl
namespace Go.Proofs.YthckbmcmdcemkaaGreatDoor
/- THE CELL 'sum', in the pinned program and in every row, IS THE sha256 OF THE DUMP (.gsa) THAT YthckbmcmdcemkaaGreatDoorProg.lean LOADS. Nothing in Lean hashes anything: it is a label: what it is worth is what the hold of that sum in a sandbox is worth. -/
noncomputable def Tryz.pinned : Pinned := { name := "ythckbmcmdcemkaagreatdoor", sum := "a9f4d04a96d6143dd9d511d566e9699fafb1bbae4e4b0e52dbdb4d8047cfbd6e", checked := Tryz.checked }
namespace Rows
def none {H : Type} : Left H := { results := [], args := [] }

/- WHAT THE LISTED PACKAGE-LEVEL VARIABLES READ AS WHEN THE CALL BEGINS. Each datum BY PROGRAM (the guide's laid-datum.mjs) off the statement by which the dump's own 'gosem.cut.vars' lays the variable. In a bare row this is a premise. The card (YthckbmcmdcemkaaGreatDoorCards.lean) ties it to the program's text. -/
def laid_peregrine_reassembly_errArgument {H : Type} : DataW H := .iface "*errors.errorString" (.ptr (.agg [.lit (.string [114, 101, 97, 115, 115, 101, 109, 98, 108, 121, 58, 32, 105, 110, 118, 97, 108, 105, 100, 32, 97, 114, 103, 117, 109, 101, 110, 116])]))
def laid_peregrine_reassembly_errConflict {H : Type} : DataW H := .iface "*errors.errorString" (.ptr (.agg [.lit (.string [114, 101, 97, 115, 115, 101, 109, 98, 108, 121, 58, 32, 112, 105, 101, 99, 101, 115, 32, 100, 105, 115, 97, 103, 114, 101, 101])]))
def laid_peregrine_reassembly_errFinalSize {H : Type} : DataW H := .iface "*errors.errorString" (.ptr (.agg [.lit (.string [114, 101, 97, 115, 115, 101, 109, 98, 108, 121, 58, 32, 102, 105, 110, 97, 108, 32, 115, 105, 122, 101, 115, 32, 100, 105, 115, 97, 103, 114, 101, 101])]))
def laid_peregrine_reassembly_errRoom {H : Type} : DataW H := .iface "*errors.errorString" (.ptr (.agg [.lit (.string [114, 101, 97, 115, 115, 101, 109, 98, 108, 121, 58, 32, 98, 101, 121, 111, 110, 100, 32, 116, 104, 101, 32, 98, 117, 102, 102, 101, 114])]))

/-- 'peregrinelaw19.StreamsFair': WHATEVER THE INPUT: true; the input reads as it did. -/
def streamsFairSpec : ChangeSpec := { name := "streamsFair", fn := fun _ => fun
  | [d1, d2, d3] => { results := [.lit (.bool true)], args := [d1, d2, d3] }
  | _ => none }
def streamsFairRow : OpenClaim := { program := "ythckbmcmdcemkaagreatdoor", sum := "a9f4d04a96d6143dd9d511d566e9699fafb1bbae4e4b0e52dbdb4d8047cfbd6e", func := "peregrine/peregrinelaw19.StreamsFair", spec := "streamsFair", inPlace := ["internal/abi.NoEscape", "internal/reflectlite.TypeOf"], unfollowed := true, recurses := true, named := ["peregrine/reassembly.errArgument", "peregrine/reassembly.errConflict", "peregrine/reassembly.errFinalSize", "peregrine/reassembly.errRoom"], apart := false, laid := [("peregrine/reassembly.errArgument", laid_peregrine_reassembly_errArgument), ("peregrine/reassembly.errConflict", laid_peregrine_reassembly_errConflict), ("peregrine/reassembly.errFinalSize", laid_peregrine_reassembly_errFinalSize), ("peregrine/reassembly.errRoom", laid_peregrine_reassembly_errRoom)] }
def StreamsFairSaid : Prop := streamsFairRow.holds Tryz.pinned (OpenSpec.ofChange streamsFairSpec)

/-- ITS FALSE NEIGHBOUR: 'it returns false'. Refute it at one input. -/
def streamsFairWrong : ChangeSpec := { name := "streamsFair", fn := fun _ => fun
  | [d1, d2, d3] => { results := [.lit (.bool false)], args := [d1, d2, d3] }
  | _ => none }
def StreamsFairWrongFalsely : Prop := streamsFairRow.holds Tryz.pinned (OpenSpec.ofChange streamsFairWrong)

/-- 'peregrinelaw19.StreamsIDs': WHATEVER THE INPUT: true; the input reads as it did. -/
def streamsIDsSpec : ChangeSpec := { name := "streamsIDs", fn := fun _ => fun
  | [d1, d2, d3] => { results := [.lit (.bool true)], args := [d1, d2, d3] }
  | _ => none }
def streamsIDsRow : OpenClaim := { program := "ythckbmcmdcemkaagreatdoor", sum := "a9f4d04a96d6143dd9d511d566e9699fafb1bbae4e4b0e52dbdb4d8047cfbd6e", func := "peregrine/peregrinelaw19.StreamsIDs", spec := "streamsIDs", inPlace := ["internal/abi.NoEscape", "internal/reflectlite.TypeOf"], unfollowed := true, recurses := true, named := ["peregrine/reassembly.errArgument", "peregrine/reassembly.errConflict", "peregrine/reassembly.errFinalSize", "peregrine/reassembly.errRoom"], apart := false, laid := [("peregrine/reassembly.errArgument", laid_peregrine_reassembly_errArgument), ("peregrine/reassembly.errConflict", laid_peregrine_reassembly_errConflict), ("peregrine/reassembly.errFinalSize", laid_peregrine_reassembly_errFinalSize), ("peregrine/reassembly.errRoom", laid_peregrine_reassembly_errRoom)] }
def StreamsIDsSaid : Prop := streamsIDsRow.holds Tryz.pinned (OpenSpec.ofChange streamsIDsSpec)

/-- ITS FALSE NEIGHBOUR: 'it returns false'. Refute it at one input. -/
def streamsIDsWrong : ChangeSpec := { name := "streamsIDs", fn := fun _ => fun
  | [d1, d2, d3] => { results := [.lit (.bool false)], args := [d1, d2, d3] }
  | _ => none }
def StreamsIDsWrongFalsely : Prop := streamsIDsRow.holds Tryz.pinned (OpenSpec.ofChange streamsIDsWrong)

/-- 'peregrinelaw19.StreamsFinalSize': WHATEVER THE INPUT: true; the input reads as it did. -/
def streamsFinalSizeSpec : ChangeSpec := { name := "streamsFinalSize", fn := fun _ => fun
  | [d1, d2, d3] => { results := [.lit (.bool true)], args := [d1, d2, d3] }
  | _ => none }
def streamsFinalSizeRow : OpenClaim := { program := "ythckbmcmdcemkaagreatdoor", sum := "a9f4d04a96d6143dd9d511d566e9699fafb1bbae4e4b0e52dbdb4d8047cfbd6e", func := "peregrine/peregrinelaw19.StreamsFinalSize", spec := "streamsFinalSize", inPlace := ["internal/abi.NoEscape", "internal/reflectlite.TypeOf"], unfollowed := true, recurses := true, named := ["peregrine/reassembly.errArgument", "peregrine/reassembly.errConflict", "peregrine/reassembly.errFinalSize", "peregrine/reassembly.errRoom"], apart := false, laid := [("peregrine/reassembly.errArgument", laid_peregrine_reassembly_errArgument), ("peregrine/reassembly.errConflict", laid_peregrine_reassembly_errConflict), ("peregrine/reassembly.errFinalSize", laid_peregrine_reassembly_errFinalSize), ("peregrine/reassembly.errRoom", laid_peregrine_reassembly_errRoom)] }
def StreamsFinalSizeSaid : Prop := streamsFinalSizeRow.holds Tryz.pinned (OpenSpec.ofChange streamsFinalSizeSpec)

/-- ITS FALSE NEIGHBOUR: 'it returns false'. Refute it at one input. -/
def streamsFinalSizeWrong : ChangeSpec := { name := "streamsFinalSize", fn := fun _ => fun
  | [d1, d2, d3] => { results := [.lit (.bool false)], args := [d1, d2, d3] }
  | _ => none }
def StreamsFinalSizeWrongFalsely : Prop := streamsFinalSizeRow.holds Tryz.pinned (OpenSpec.ofChange streamsFinalSizeWrong)

/-- 'peregrinelaw19.StreamsConflict': WHATEVER THE INPUT: true; the input reads as it did. -/
def streamsConflictSpec : ChangeSpec := { name := "streamsConflict", fn := fun _ => fun
  | [d1, d2, d3, d4] => { results := [.lit (.bool true)], args := [d1, d2, d3, d4] }
  | _ => none }
def streamsConflictRow : OpenClaim := { program := "ythckbmcmdcemkaagreatdoor", sum := "a9f4d04a96d6143dd9d511d566e9699fafb1bbae4e4b0e52dbdb4d8047cfbd6e", func := "peregrine/peregrinelaw19.StreamsConflict", spec := "streamsConflict", inPlace := ["internal/abi.NoEscape", "internal/reflectlite.TypeOf"], unfollowed := true, recurses := true, named := ["peregrine/reassembly.errArgument", "peregrine/reassembly.errConflict", "peregrine/reassembly.errFinalSize", "peregrine/reassembly.errRoom"], apart := false, laid := [("peregrine/reassembly.errArgument", laid_peregrine_reassembly_errArgument), ("peregrine/reassembly.errConflict", laid_peregrine_reassembly_errConflict), ("peregrine/reassembly.errFinalSize", laid_peregrine_reassembly_errFinalSize), ("peregrine/reassembly.errRoom", laid_peregrine_reassembly_errRoom)] }
def StreamsConflictSaid : Prop := streamsConflictRow.holds Tryz.pinned (OpenSpec.ofChange streamsConflictSpec)

/-- ITS FALSE NEIGHBOUR: 'it returns false'. Refute it at one input. -/
def streamsConflictWrong : ChangeSpec := { name := "streamsConflict", fn := fun _ => fun
  | [d1, d2, d3, d4] => { results := [.lit (.bool false)], args := [d1, d2, d3, d4] }
  | _ => none }
def StreamsConflictWrongFalsely : Prop := streamsConflictRow.holds Tryz.pinned (OpenSpec.ofChange streamsConflictWrong)

/-- 'peregrinelaw19.StreamsEarlyLimits': WHATEVER THE INPUT: true; the input reads as it did. -/
def streamsEarlyLimitsSpec : ChangeSpec := { name := "streamsEarlyLimits", fn := fun _ => fun
  | [d1, d2] => { results := [.lit (.bool true)], args := [d1, d2] }
  | _ => none }
def streamsEarlyLimitsRow : OpenClaim := { program := "ythckbmcmdcemkaagreatdoor", sum := "a9f4d04a96d6143dd9d511d566e9699fafb1bbae4e4b0e52dbdb4d8047cfbd6e", func := "peregrine/peregrinelaw19.StreamsEarlyLimits", spec := "streamsEarlyLimits", inPlace := ["internal/abi.NoEscape", "internal/reflectlite.TypeOf"], unfollowed := true, recurses := true, named := ["peregrine/reassembly.errArgument", "peregrine/reassembly.errConflict", "peregrine/reassembly.errFinalSize", "peregrine/reassembly.errRoom"], apart := false, laid := [("peregrine/reassembly.errArgument", laid_peregrine_reassembly_errArgument), ("peregrine/reassembly.errConflict", laid_peregrine_reassembly_errConflict), ("peregrine/reassembly.errFinalSize", laid_peregrine_reassembly_errFinalSize), ("peregrine/reassembly.errRoom", laid_peregrine_reassembly_errRoom)] }
def StreamsEarlyLimitsSaid : Prop := streamsEarlyLimitsRow.holds Tryz.pinned (OpenSpec.ofChange streamsEarlyLimitsSpec)

/-- ITS FALSE NEIGHBOUR: 'it returns false'. Refute it at one input. -/
def streamsEarlyLimitsWrong : ChangeSpec := { name := "streamsEarlyLimits", fn := fun _ => fun
  | [d1, d2] => { results := [.lit (.bool false)], args := [d1, d2] }
  | _ => none }
def StreamsEarlyLimitsWrongFalsely : Prop := streamsEarlyLimitsRow.holds Tryz.pinned (OpenSpec.ofChange streamsEarlyLimitsWrong)

/-- 'peregrinelaw19.StreamsPrefix': WHATEVER THE INPUT: true; the input reads as it did. -/
def streamsPrefixSpec : ChangeSpec := { name := "streamsPrefix", fn := fun _ => fun
  | [d1, d2, d3] => { results := [.lit (.bool true)], args := [d1, d2, d3] }
  | _ => none }
def streamsPrefixRow : OpenClaim := { program := "ythckbmcmdcemkaagreatdoor", sum := "a9f4d04a96d6143dd9d511d566e9699fafb1bbae4e4b0e52dbdb4d8047cfbd6e", func := "peregrine/peregrinelaw19.StreamsPrefix", spec := "streamsPrefix", inPlace := ["internal/abi.NoEscape", "internal/reflectlite.TypeOf"], unfollowed := true, recurses := true, named := ["peregrine/reassembly.errArgument", "peregrine/reassembly.errConflict", "peregrine/reassembly.errFinalSize", "peregrine/reassembly.errRoom"], apart := false, laid := [("peregrine/reassembly.errArgument", laid_peregrine_reassembly_errArgument), ("peregrine/reassembly.errConflict", laid_peregrine_reassembly_errConflict), ("peregrine/reassembly.errFinalSize", laid_peregrine_reassembly_errFinalSize), ("peregrine/reassembly.errRoom", laid_peregrine_reassembly_errRoom)] }
def StreamsPrefixSaid : Prop := streamsPrefixRow.holds Tryz.pinned (OpenSpec.ofChange streamsPrefixSpec)

/-- ITS FALSE NEIGHBOUR: 'it returns false'. Refute it at one input. -/
def streamsPrefixWrong : ChangeSpec := { name := "streamsPrefix", fn := fun _ => fun
  | [d1, d2, d3] => { results := [.lit (.bool false)], args := [d1, d2, d3] }
  | _ => none }
def StreamsPrefixWrongFalsely : Prop := streamsPrefixRow.holds Tryz.pinned (OpenSpec.ofChange streamsPrefixWrong)

/-- 'peregrinelaw19.StreamsResetFreesCredit': WHATEVER THE INPUT: true; the input reads as it did. -/
def streamsResetFreesCreditSpec : ChangeSpec := { name := "streamsResetFreesCredit", fn := fun _ => fun
  | [d1, d2] => { results := [.lit (.bool true)], args := [d1, d2] }
  | _ => none }
def streamsResetFreesCreditRow : OpenClaim := { program := "ythckbmcmdcemkaagreatdoor", sum := "a9f4d04a96d6143dd9d511d566e9699fafb1bbae4e4b0e52dbdb4d8047cfbd6e", func := "peregrine/peregrinelaw19.StreamsResetFreesCredit", spec := "streamsResetFreesCredit", inPlace := ["internal/abi.NoEscape", "internal/reflectlite.TypeOf"], unfollowed := true, recurses := true, named := ["peregrine/reassembly.errArgument", "peregrine/reassembly.errConflict", "peregrine/reassembly.errFinalSize", "peregrine/reassembly.errRoom"], apart := false, laid := [("peregrine/reassembly.errArgument", laid_peregrine_reassembly_errArgument), ("peregrine/reassembly.errConflict", laid_peregrine_reassembly_errConflict), ("peregrine/reassembly.errFinalSize", laid_peregrine_reassembly_errFinalSize), ("peregrine/reassembly.errRoom", laid_peregrine_reassembly_errRoom)] }
def StreamsResetFreesCreditSaid : Prop := streamsResetFreesCreditRow.holds Tryz.pinned (OpenSpec.ofChange streamsResetFreesCreditSpec)

/-- ITS FALSE NEIGHBOUR: 'it returns false'. Refute it at one input. -/
def streamsResetFreesCreditWrong : ChangeSpec := { name := "streamsResetFreesCredit", fn := fun _ => fun
  | [d1, d2] => { results := [.lit (.bool false)], args := [d1, d2] }
  | _ => none }
def StreamsResetFreesCreditWrongFalsely : Prop := streamsResetFreesCreditRow.holds Tryz.pinned (OpenSpec.ofChange streamsResetFreesCreditWrong)

/-- 'peregrinelaw19.StreamsStopSending': WHATEVER THE INPUT: true; the input reads as it did. -/
def streamsStopSendingSpec : ChangeSpec := { name := "streamsStopSending", fn := fun _ => fun
  | [d1, d2, d3, d4] => { results := [.lit (.bool true)], args := [d1, d2, d3, d4] }
  | _ => none }
def streamsStopSendingRow : OpenClaim := { program := "ythckbmcmdcemkaagreatdoor", sum := "a9f4d04a96d6143dd9d511d566e9699fafb1bbae4e4b0e52dbdb4d8047cfbd6e", func := "peregrine/peregrinelaw19.StreamsStopSending", spec := "streamsStopSending", inPlace := ["internal/abi.NoEscape", "internal/reflectlite.TypeOf"], unfollowed := true, recurses := true, named := ["peregrine/reassembly.errArgument", "peregrine/reassembly.errConflict", "peregrine/reassembly.errFinalSize", "peregrine/reassembly.errRoom"], apart := false, laid := [("peregrine/reassembly.errArgument", laid_peregrine_reassembly_errArgument), ("peregrine/reassembly.errConflict", laid_peregrine_reassembly_errConflict), ("peregrine/reassembly.errFinalSize", laid_peregrine_reassembly_errFinalSize), ("peregrine/reassembly.errRoom", laid_peregrine_reassembly_errRoom)] }
def StreamsStopSendingSaid : Prop := streamsStopSendingRow.holds Tryz.pinned (OpenSpec.ofChange streamsStopSendingSpec)

/-- ITS FALSE NEIGHBOUR: 'it returns false'. Refute it at one input. -/
def streamsStopSendingWrong : ChangeSpec := { name := "streamsStopSending", fn := fun _ => fun
  | [d1, d2, d3, d4] => { results := [.lit (.bool false)], args := [d1, d2, d3, d4] }
  | _ => none }
def StreamsStopSendingWrongFalsely : Prop := streamsStopSendingRow.holds Tryz.pinned (OpenSpec.ofChange streamsStopSendingWrong)

/-- 'peregrinelaw19.StreamsWithinLimits': WHATEVER THE INPUT: true; the input reads as it did. -/
def streamsWithinLimitsSpec : ChangeSpec := { name := "streamsWithinLimits", fn := fun _ => fun
  | [d1, d2, d3] => { results := [.lit (.bool true)], args := [d1, d2, d3] }
  | _ => none }
def streamsWithinLimitsRow : OpenClaim := { program := "ythckbmcmdcemkaagreatdoor", sum := "a9f4d04a96d6143dd9d511d566e9699fafb1bbae4e4b0e52dbdb4d8047cfbd6e", func := "peregrine/peregrinelaw19.StreamsWithinLimits", spec := "streamsWithinLimits", inPlace := ["internal/abi.NoEscape", "internal/reflectlite.TypeOf"], unfollowed := true, recurses := true, named := ["peregrine/reassembly.errArgument", "peregrine/reassembly.errConflict", "peregrine/reassembly.errFinalSize", "peregrine/reassembly.errRoom"], apart := false, laid := [("peregrine/reassembly.errArgument", laid_peregrine_reassembly_errArgument), ("peregrine/reassembly.errConflict", laid_peregrine_reassembly_errConflict), ("peregrine/reassembly.errFinalSize", laid_peregrine_reassembly_errFinalSize), ("peregrine/reassembly.errRoom", laid_peregrine_reassembly_errRoom)] }
def StreamsWithinLimitsSaid : Prop := streamsWithinLimitsRow.holds Tryz.pinned (OpenSpec.ofChange streamsWithinLimitsSpec)

/-- ITS FALSE NEIGHBOUR: 'it returns false'. Refute it at one input. -/
def streamsWithinLimitsWrong : ChangeSpec := { name := "streamsWithinLimits", fn := fun _ => fun
  | [d1, d2, d3] => { results := [.lit (.bool false)], args := [d1, d2, d3] }
  | _ => none }
def StreamsWithinLimitsWrongFalsely : Prop := streamsWithinLimitsRow.holds Tryz.pinned (OpenSpec.ofChange streamsWithinLimitsWrong)

/-- 'peregrinelaw19.StreamsRemoteBounded': WHATEVER THE INPUT: true; the input reads as it did. -/
def streamsRemoteBoundedSpec : ChangeSpec := { name := "streamsRemoteBounded", fn := fun _ => fun
  | [d1, d2, d3] => { results := [.lit (.bool true)], args := [d1, d2, d3] }
  | _ => none }
def streamsRemoteBoundedRow : OpenClaim := { program := "ythckbmcmdcemkaagreatdoor", sum := "a9f4d04a96d6143dd9d511d566e9699fafb1bbae4e4b0e52dbdb4d8047cfbd6e", func := "peregrine/peregrinelaw19.StreamsRemoteBounded", spec := "streamsRemoteBounded", inPlace := ["internal/abi.NoEscape", "internal/reflectlite.TypeOf"], unfollowed := true, recurses := true, named := ["peregrine/reassembly.errArgument", "peregrine/reassembly.errConflict", "peregrine/reassembly.errFinalSize", "peregrine/reassembly.errRoom"], apart := false, laid := [("peregrine/reassembly.errArgument", laid_peregrine_reassembly_errArgument), ("peregrine/reassembly.errConflict", laid_peregrine_reassembly_errConflict), ("peregrine/reassembly.errFinalSize", laid_peregrine_reassembly_errFinalSize), ("peregrine/reassembly.errRoom", laid_peregrine_reassembly_errRoom)] }
def StreamsRemoteBoundedSaid : Prop := streamsRemoteBoundedRow.holds Tryz.pinned (OpenSpec.ofChange streamsRemoteBoundedSpec)

/-- ITS FALSE NEIGHBOUR: 'it returns false'. Refute it at one input. -/
def streamsRemoteBoundedWrong : ChangeSpec := { name := "streamsRemoteBounded", fn := fun _ => fun
  | [d1, d2, d3] => { results := [.lit (.bool false)], args := [d1, d2, d3] }
  | _ => none }
def StreamsRemoteBoundedWrongFalsely : Prop := streamsRemoteBoundedRow.holds Tryz.pinned (OpenSpec.ofChange streamsRemoteBoundedWrong)

/-- 'peregrinelaw19.StreamsBudget': WHATEVER THE INPUT: true; the input reads as it did. -/
def streamsBudgetSpec : ChangeSpec := { name := "streamsBudget", fn := fun _ => fun
  | [d1, d2, d3, d4] => { results := [.lit (.bool true)], args := [d1, d2, d3, d4] }
  | _ => none }
def streamsBudgetRow : OpenClaim := { program := "ythckbmcmdcemkaagreatdoor", sum := "a9f4d04a96d6143dd9d511d566e9699fafb1bbae4e4b0e52dbdb4d8047cfbd6e", func := "peregrine/peregrinelaw19.StreamsBudget", spec := "streamsBudget", inPlace := ["internal/abi.NoEscape", "internal/reflectlite.TypeOf"], unfollowed := true, recurses := true, named := ["peregrine/reassembly.errArgument", "peregrine/reassembly.errConflict", "peregrine/reassembly.errFinalSize", "peregrine/reassembly.errRoom"], apart := false, laid := [("peregrine/reassembly.errArgument", laid_peregrine_reassembly_errArgument), ("peregrine/reassembly.errConflict", laid_peregrine_reassembly_errConflict), ("peregrine/reassembly.errFinalSize", laid_peregrine_reassembly_errFinalSize), ("peregrine/reassembly.errRoom", laid_peregrine_reassembly_errRoom)] }
def StreamsBudgetSaid : Prop := streamsBudgetRow.holds Tryz.pinned (OpenSpec.ofChange streamsBudgetSpec)

/-- ITS FALSE NEIGHBOUR: 'it returns false'. Refute it at one input. -/
def streamsBudgetWrong : ChangeSpec := { name := "streamsBudget", fn := fun _ => fun
  | [d1, d2, d3, d4] => { results := [.lit (.bool false)], args := [d1, d2, d3, d4] }
  | _ => none }
def StreamsBudgetWrongFalsely : Prop := streamsBudgetRow.holds Tryz.pinned (OpenSpec.ofChange streamsBudgetWrong)

/-- 'peregrinelaw19.StreamsMatchReference': WHATEVER THE INPUT: true; the input reads as it did. -/
def streamsMatchReferenceSpec : ChangeSpec := { name := "streamsMatchReference", fn := fun _ => fun
  | [d1, d2, d3, d4] => { results := [.lit (.bool true)], args := [d1, d2, d3, d4] }
  | _ => none }
def streamsMatchReferenceRow : OpenClaim := { program := "ythckbmcmdcemkaagreatdoor", sum := "a9f4d04a96d6143dd9d511d566e9699fafb1bbae4e4b0e52dbdb4d8047cfbd6e", func := "peregrine/peregrinelaw19.StreamsMatchReference", spec := "streamsMatchReference", inPlace := ["internal/abi.NoEscape", "internal/reflectlite.TypeOf"], unfollowed := true, recurses := true, named := ["peregrine/reassembly.errArgument", "peregrine/reassembly.errConflict", "peregrine/reassembly.errFinalSize", "peregrine/reassembly.errRoom"], apart := false, laid := [("peregrine/reassembly.errArgument", laid_peregrine_reassembly_errArgument), ("peregrine/reassembly.errConflict", laid_peregrine_reassembly_errConflict), ("peregrine/reassembly.errFinalSize", laid_peregrine_reassembly_errFinalSize), ("peregrine/reassembly.errRoom", laid_peregrine_reassembly_errRoom)] }
def StreamsMatchReferenceSaid : Prop := streamsMatchReferenceRow.holds Tryz.pinned (OpenSpec.ofChange streamsMatchReferenceSpec)

/-- ITS FALSE NEIGHBOUR: 'it returns false'. Refute it at one input. -/
def streamsMatchReferenceWrong : ChangeSpec := { name := "streamsMatchReference", fn := fun _ => fun
  | [d1, d2, d3, d4] => { results := [.lit (.bool false)], args := [d1, d2, d3, d4] }
  | _ => none }
def StreamsMatchReferenceWrongFalsely : Prop := streamsMatchReferenceRow.holds Tryz.pinned (OpenSpec.ofChange streamsMatchReferenceWrong)

/-- 'peregrinelaw19.StreamsParamsMatchReference': WHATEVER THE INPUT: true; the input reads as it did. -/
def streamsParamsMatchReferenceSpec : ChangeSpec := { name := "streamsParamsMatchReference", fn := fun _ => fun
  | [d1, d2, d3, d4, d5, d6] => { results := [.lit (.bool true)], args := [d1, d2, d3, d4, d5, d6] }
  | _ => none }
def streamsParamsMatchReferenceRow : OpenClaim := { program := "ythckbmcmdcemkaagreatdoor", sum := "a9f4d04a96d6143dd9d511d566e9699fafb1bbae4e4b0e52dbdb4d8047cfbd6e", func := "peregrine/peregrinelaw19.StreamsParamsMatchReference", spec := "streamsParamsMatchReference", inPlace := ["internal/abi.NoEscape", "internal/reflectlite.TypeOf"], unfollowed := true, recurses := true, named := ["peregrine/reassembly.errArgument", "peregrine/reassembly.errConflict", "peregrine/reassembly.errFinalSize", "peregrine/reassembly.errRoom"], apart := false, laid := [("peregrine/reassembly.errArgument", laid_peregrine_reassembly_errArgument), ("peregrine/reassembly.errConflict", laid_peregrine_reassembly_errConflict), ("peregrine/reassembly.errFinalSize", laid_peregrine_reassembly_errFinalSize), ("peregrine/reassembly.errRoom", laid_peregrine_reassembly_errRoom)] }
def StreamsParamsMatchReferenceSaid : Prop := streamsParamsMatchReferenceRow.holds Tryz.pinned (OpenSpec.ofChange streamsParamsMatchReferenceSpec)

/-- ITS FALSE NEIGHBOUR: 'it returns false'. Refute it at one input. -/
def streamsParamsMatchReferenceWrong : ChangeSpec := { name := "streamsParamsMatchReference", fn := fun _ => fun
  | [d1, d2, d3, d4, d5, d6] => { results := [.lit (.bool false)], args := [d1, d2, d3, d4, d5, d6] }
  | _ => none }
def StreamsParamsMatchReferenceWrongFalsely : Prop := streamsParamsMatchReferenceRow.holds Tryz.pinned (OpenSpec.ofChange streamsParamsMatchReferenceWrong)

/- THE SECOND FORM. 'bulk': how many values and letters a reading holds, each counted each time it is reached (what is shared counts as often as it is met; a slice's spare places count too). A statement '..UptoSaid' is the law's where the arguments, and the package variables that the reading takes, are together of bulk at most 1048576: NARROWER than '..Said'. Prove '..Said' where nothing that the law and all that it calls make is longer than what came in: it says more and counts as full. Else prove '..UptoSaid'. A law counts once. -/
mutual
def uptoBulk {H : Type} : DataW H → Nat
  | .lit (.string bytes) => bytes.length + 1
  | .lit _ => 1
  | .nil => 1
  | .ptr d => uptoBulk d + 1
  | .slice elems spare => uptoBulkAll elems + uptoBulkAll spare + 1
  | .agg parts => uptoBulkAll parts + 1
  | .iface _ d => uptoBulk d + 1
  | .map entries => uptoBulkEntries entries + 1
  | .held _ => 1
def uptoBulkAll {H : Type} : List (DataW H) → Nat
  | [] => 0
  | d :: r => uptoBulk d + uptoBulkAll r
def uptoBulkEntries {H : Type} : List (Lit × DataW H) → Nat
  | [] => 0
  | x :: r => uptoBulkEntry x + uptoBulkEntries r
def uptoBulkEntry {H : Type} : Lit × DataW H → Nat
  | (.string bytes, d) => bytes.length + uptoBulk d + 1
  | (_, d) => uptoBulk d + 1
 end
def uptoSmall : (H : Type) → List (DataW H) → Bool := fun _ ds => decide (uptoBulkAll ds ≤ 1048576)
def OpenSpec.upto (s : _root_.Go.ChangeSpec) : _root_.Go.OpenSpec := { _root_.Go.OpenSpec.ofChange s with cond := some uptoSmall }

/-- 'peregrinelaw19.StreamsFair', WHERE WHAT IT READS IS OF BULK AT MOST 1048576: true; the input reads as it did. -/
def streamsFairUptoRow : OpenClaim := { program := "ythckbmcmdcemkaagreatdoor", sum := "a9f4d04a96d6143dd9d511d566e9699fafb1bbae4e4b0e52dbdb4d8047cfbd6e", func := "peregrine/peregrinelaw19.StreamsFair", spec := "streamsFair", inPlace := ["internal/abi.NoEscape", "internal/reflectlite.TypeOf"], unfollowed := true, recurses := true, named := ["peregrine/reassembly.errArgument", "peregrine/reassembly.errConflict", "peregrine/reassembly.errFinalSize", "peregrine/reassembly.errRoom"], apart := false, laid := [("peregrine/reassembly.errArgument", laid_peregrine_reassembly_errArgument), ("peregrine/reassembly.errConflict", laid_peregrine_reassembly_errConflict), ("peregrine/reassembly.errFinalSize", laid_peregrine_reassembly_errFinalSize), ("peregrine/reassembly.errRoom", laid_peregrine_reassembly_errRoom)], narrowed := true }
def StreamsFairUptoSaid : Prop := streamsFairUptoRow.holds Tryz.pinned (OpenSpec.upto streamsFairSpec)

/-- 'peregrinelaw19.StreamsIDs', WHERE WHAT IT READS IS OF BULK AT MOST 1048576: true; the input reads as it did. -/
def streamsIDsUptoRow : OpenClaim := { program := "ythckbmcmdcemkaagreatdoor", sum := "a9f4d04a96d6143dd9d511d566e9699fafb1bbae4e4b0e52dbdb4d8047cfbd6e", func := "peregrine/peregrinelaw19.StreamsIDs", spec := "streamsIDs", inPlace := ["internal/abi.NoEscape", "internal/reflectlite.TypeOf"], unfollowed := true, recurses := true, named := ["peregrine/reassembly.errArgument", "peregrine/reassembly.errConflict", "peregrine/reassembly.errFinalSize", "peregrine/reassembly.errRoom"], apart := false, laid := [("peregrine/reassembly.errArgument", laid_peregrine_reassembly_errArgument), ("peregrine/reassembly.errConflict", laid_peregrine_reassembly_errConflict), ("peregrine/reassembly.errFinalSize", laid_peregrine_reassembly_errFinalSize), ("peregrine/reassembly.errRoom", laid_peregrine_reassembly_errRoom)], narrowed := true }
def StreamsIDsUptoSaid : Prop := streamsIDsUptoRow.holds Tryz.pinned (OpenSpec.upto streamsIDsSpec)

/-- 'peregrinelaw19.StreamsFinalSize', WHERE WHAT IT READS IS OF BULK AT MOST 1048576: true; the input reads as it did. -/
def streamsFinalSizeUptoRow : OpenClaim := { program := "ythckbmcmdcemkaagreatdoor", sum := "a9f4d04a96d6143dd9d511d566e9699fafb1bbae4e4b0e52dbdb4d8047cfbd6e", func := "peregrine/peregrinelaw19.StreamsFinalSize", spec := "streamsFinalSize", inPlace := ["internal/abi.NoEscape", "internal/reflectlite.TypeOf"], unfollowed := true, recurses := true, named := ["peregrine/reassembly.errArgument", "peregrine/reassembly.errConflict", "peregrine/reassembly.errFinalSize", "peregrine/reassembly.errRoom"], apart := false, laid := [("peregrine/reassembly.errArgument", laid_peregrine_reassembly_errArgument), ("peregrine/reassembly.errConflict", laid_peregrine_reassembly_errConflict), ("peregrine/reassembly.errFinalSize", laid_peregrine_reassembly_errFinalSize), ("peregrine/reassembly.errRoom", laid_peregrine_reassembly_errRoom)], narrowed := true }
def StreamsFinalSizeUptoSaid : Prop := streamsFinalSizeUptoRow.holds Tryz.pinned (OpenSpec.upto streamsFinalSizeSpec)

/-- 'peregrinelaw19.StreamsConflict', WHERE WHAT IT READS IS OF BULK AT MOST 1048576: true; the input reads as it did. -/
def streamsConflictUptoRow : OpenClaim := { program := "ythckbmcmdcemkaagreatdoor", sum := "a9f4d04a96d6143dd9d511d566e9699fafb1bbae4e4b0e52dbdb4d8047cfbd6e", func := "peregrine/peregrinelaw19.StreamsConflict", spec := "streamsConflict", inPlace := ["internal/abi.NoEscape", "internal/reflectlite.TypeOf"], unfollowed := true, recurses := true, named := ["peregrine/reassembly.errArgument", "peregrine/reassembly.errConflict", "peregrine/reassembly.errFinalSize", "peregrine/reassembly.errRoom"], apart := false, laid := [("peregrine/reassembly.errArgument", laid_peregrine_reassembly_errArgument), ("peregrine/reassembly.errConflict", laid_peregrine_reassembly_errConflict), ("peregrine/reassembly.errFinalSize", laid_peregrine_reassembly_errFinalSize), ("peregrine/reassembly.errRoom", laid_peregrine_reassembly_errRoom)], narrowed := true }
def StreamsConflictUptoSaid : Prop := streamsConflictUptoRow.holds Tryz.pinned (OpenSpec.upto streamsConflictSpec)

/-- 'peregrinelaw19.StreamsEarlyLimits', WHERE WHAT IT READS IS OF BULK AT MOST 1048576: true; the input reads as it did. -/
def streamsEarlyLimitsUptoRow : OpenClaim := { program := "ythckbmcmdcemkaagreatdoor", sum := "a9f4d04a96d6143dd9d511d566e9699fafb1bbae4e4b0e52dbdb4d8047cfbd6e", func := "peregrine/peregrinelaw19.StreamsEarlyLimits", spec := "streamsEarlyLimits", inPlace := ["internal/abi.NoEscape", "internal/reflectlite.TypeOf"], unfollowed := true, recurses := true, named := ["peregrine/reassembly.errArgument", "peregrine/reassembly.errConflict", "peregrine/reassembly.errFinalSize", "peregrine/reassembly.errRoom"], apart := false, laid := [("peregrine/reassembly.errArgument", laid_peregrine_reassembly_errArgument), ("peregrine/reassembly.errConflict", laid_peregrine_reassembly_errConflict), ("peregrine/reassembly.errFinalSize", laid_peregrine_reassembly_errFinalSize), ("peregrine/reassembly.errRoom", laid_peregrine_reassembly_errRoom)], narrowed := true }
def StreamsEarlyLimitsUptoSaid : Prop := streamsEarlyLimitsUptoRow.holds Tryz.pinned (OpenSpec.upto streamsEarlyLimitsSpec)

/-- 'peregrinelaw19.StreamsPrefix', WHERE WHAT IT READS IS OF BULK AT MOST 1048576: true; the input reads as it did. -/
def streamsPrefixUptoRow : OpenClaim := { program := "ythckbmcmdcemkaagreatdoor", sum := "a9f4d04a96d6143dd9d511d566e9699fafb1bbae4e4b0e52dbdb4d8047cfbd6e", func := "peregrine/peregrinelaw19.StreamsPrefix", spec := "streamsPrefix", inPlace := ["internal/abi.NoEscape", "internal/reflectlite.TypeOf"], unfollowed := true, recurses := true, named := ["peregrine/reassembly.errArgument", "peregrine/reassembly.errConflict", "peregrine/reassembly.errFinalSize", "peregrine/reassembly.errRoom"], apart := false, laid := [("peregrine/reassembly.errArgument", laid_peregrine_reassembly_errArgument), ("peregrine/reassembly.errConflict", laid_peregrine_reassembly_errConflict), ("peregrine/reassembly.errFinalSize", laid_peregrine_reassembly_errFinalSize), ("peregrine/reassembly.errRoom", laid_peregrine_reassembly_errRoom)], narrowed := true }
def StreamsPrefixUptoSaid : Prop := streamsPrefixUptoRow.holds Tryz.pinned (OpenSpec.upto streamsPrefixSpec)

/-- 'peregrinelaw19.StreamsResetFreesCredit', WHERE WHAT IT READS IS OF BULK AT MOST 1048576: true; the input reads as it did. -/
def streamsResetFreesCreditUptoRow : OpenClaim := { program := "ythckbmcmdcemkaagreatdoor", sum := "a9f4d04a96d6143dd9d511d566e9699fafb1bbae4e4b0e52dbdb4d8047cfbd6e", func := "peregrine/peregrinelaw19.StreamsResetFreesCredit", spec := "streamsResetFreesCredit", inPlace := ["internal/abi.NoEscape", "internal/reflectlite.TypeOf"], unfollowed := true, recurses := true, named := ["peregrine/reassembly.errArgument", "peregrine/reassembly.errConflict", "peregrine/reassembly.errFinalSize", "peregrine/reassembly.errRoom"], apart := false, laid := [("peregrine/reassembly.errArgument", laid_peregrine_reassembly_errArgument), ("peregrine/reassembly.errConflict", laid_peregrine_reassembly_errConflict), ("peregrine/reassembly.errFinalSize", laid_peregrine_reassembly_errFinalSize), ("peregrine/reassembly.errRoom", laid_peregrine_reassembly_errRoom)], narrowed := true }
def StreamsResetFreesCreditUptoSaid : Prop := streamsResetFreesCreditUptoRow.holds Tryz.pinned (OpenSpec.upto streamsResetFreesCreditSpec)

/-- 'peregrinelaw19.StreamsStopSending', WHERE WHAT IT READS IS OF BULK AT MOST 1048576: true; the input reads as it did. -/
def streamsStopSendingUptoRow : OpenClaim := { program := "ythckbmcmdcemkaagreatdoor", sum := "a9f4d04a96d6143dd9d511d566e9699fafb1bbae4e4b0e52dbdb4d8047cfbd6e", func := "peregrine/peregrinelaw19.StreamsStopSending", spec := "streamsStopSending", inPlace := ["internal/abi.NoEscape", "internal/reflectlite.TypeOf"], unfollowed := true, recurses := true, named := ["peregrine/reassembly.errArgument", "peregrine/reassembly.errConflict", "peregrine/reassembly.errFinalSize", "peregrine/reassembly.errRoom"], apart := false, laid := [("peregrine/reassembly.errArgument", laid_peregrine_reassembly_errArgument), ("peregrine/reassembly.errConflict", laid_peregrine_reassembly_errConflict), ("peregrine/reassembly.errFinalSize", laid_peregrine_reassembly_errFinalSize), ("peregrine/reassembly.errRoom", laid_peregrine_reassembly_errRoom)], narrowed := true }
def StreamsStopSendingUptoSaid : Prop := streamsStopSendingUptoRow.holds Tryz.pinned (OpenSpec.upto streamsStopSendingSpec)

/-- 'peregrinelaw19.StreamsWithinLimits', WHERE WHAT IT READS IS OF BULK AT MOST 1048576: true; the input reads as it did. -/
def streamsWithinLimitsUptoRow : OpenClaim := { program := "ythckbmcmdcemkaagreatdoor", sum := "a9f4d04a96d6143dd9d511d566e9699fafb1bbae4e4b0e52dbdb4d8047cfbd6e", func := "peregrine/peregrinelaw19.StreamsWithinLimits", spec := "streamsWithinLimits", inPlace := ["internal/abi.NoEscape", "internal/reflectlite.TypeOf"], unfollowed := true, recurses := true, named := ["peregrine/reassembly.errArgument", "peregrine/reassembly.errConflict", "peregrine/reassembly.errFinalSize", "peregrine/reassembly.errRoom"], apart := false, laid := [("peregrine/reassembly.errArgument", laid_peregrine_reassembly_errArgument), ("peregrine/reassembly.errConflict", laid_peregrine_reassembly_errConflict), ("peregrine/reassembly.errFinalSize", laid_peregrine_reassembly_errFinalSize), ("peregrine/reassembly.errRoom", laid_peregrine_reassembly_errRoom)], narrowed := true }
def StreamsWithinLimitsUptoSaid : Prop := streamsWithinLimitsUptoRow.holds Tryz.pinned (OpenSpec.upto streamsWithinLimitsSpec)

/-- 'peregrinelaw19.StreamsRemoteBounded', WHERE WHAT IT READS IS OF BULK AT MOST 1048576: true; the input reads as it did. -/
def streamsRemoteBoundedUptoRow : OpenClaim := { program := "ythckbmcmdcemkaagreatdoor", sum := "a9f4d04a96d6143dd9d511d566e9699fafb1bbae4e4b0e52dbdb4d8047cfbd6e", func := "peregrine/peregrinelaw19.StreamsRemoteBounded", spec := "streamsRemoteBounded", inPlace := ["internal/abi.NoEscape", "internal/reflectlite.TypeOf"], unfollowed := true, recurses := true, named := ["peregrine/reassembly.errArgument", "peregrine/reassembly.errConflict", "peregrine/reassembly.errFinalSize", "peregrine/reassembly.errRoom"], apart := false, laid := [("peregrine/reassembly.errArgument", laid_peregrine_reassembly_errArgument), ("peregrine/reassembly.errConflict", laid_peregrine_reassembly_errConflict), ("peregrine/reassembly.errFinalSize", laid_peregrine_reassembly_errFinalSize), ("peregrine/reassembly.errRoom", laid_peregrine_reassembly_errRoom)], narrowed := true }
def StreamsRemoteBoundedUptoSaid : Prop := streamsRemoteBoundedUptoRow.holds Tryz.pinned (OpenSpec.upto streamsRemoteBoundedSpec)

/-- 'peregrinelaw19.StreamsBudget', WHERE WHAT IT READS IS OF BULK AT MOST 1048576: true; the input reads as it did. -/
def streamsBudgetUptoRow : OpenClaim := { program := "ythckbmcmdcemkaagreatdoor", sum := "a9f4d04a96d6143dd9d511d566e9699fafb1bbae4e4b0e52dbdb4d8047cfbd6e", func := "peregrine/peregrinelaw19.StreamsBudget", spec := "streamsBudget", inPlace := ["internal/abi.NoEscape", "internal/reflectlite.TypeOf"], unfollowed := true, recurses := true, named := ["peregrine/reassembly.errArgument", "peregrine/reassembly.errConflict", "peregrine/reassembly.errFinalSize", "peregrine/reassembly.errRoom"], apart := false, laid := [("peregrine/reassembly.errArgument", laid_peregrine_reassembly_errArgument), ("peregrine/reassembly.errConflict", laid_peregrine_reassembly_errConflict), ("peregrine/reassembly.errFinalSize", laid_peregrine_reassembly_errFinalSize), ("peregrine/reassembly.errRoom", laid_peregrine_reassembly_errRoom)], narrowed := true }
def StreamsBudgetUptoSaid : Prop := streamsBudgetUptoRow.holds Tryz.pinned (OpenSpec.upto streamsBudgetSpec)

/-- 'peregrinelaw19.StreamsMatchReference', WHERE WHAT IT READS IS OF BULK AT MOST 1048576: true; the input reads as it did. -/
def streamsMatchReferenceUptoRow : OpenClaim := { program := "ythckbmcmdcemkaagreatdoor", sum := "a9f4d04a96d6143dd9d511d566e9699fafb1bbae4e4b0e52dbdb4d8047cfbd6e", func := "peregrine/peregrinelaw19.StreamsMatchReference", spec := "streamsMatchReference", inPlace := ["internal/abi.NoEscape", "internal/reflectlite.TypeOf"], unfollowed := true, recurses := true, named := ["peregrine/reassembly.errArgument", "peregrine/reassembly.errConflict", "peregrine/reassembly.errFinalSize", "peregrine/reassembly.errRoom"], apart := false, laid := [("peregrine/reassembly.errArgument", laid_peregrine_reassembly_errArgument), ("peregrine/reassembly.errConflict", laid_peregrine_reassembly_errConflict), ("peregrine/reassembly.errFinalSize", laid_peregrine_reassembly_errFinalSize), ("peregrine/reassembly.errRoom", laid_peregrine_reassembly_errRoom)], narrowed := true }
def StreamsMatchReferenceUptoSaid : Prop := streamsMatchReferenceUptoRow.holds Tryz.pinned (OpenSpec.upto streamsMatchReferenceSpec)

/-- 'peregrinelaw19.StreamsParamsMatchReference', WHERE WHAT IT READS IS OF BULK AT MOST 1048576: true; the input reads as it did. -/
def streamsParamsMatchReferenceUptoRow : OpenClaim := { program := "ythckbmcmdcemkaagreatdoor", sum := "a9f4d04a96d6143dd9d511d566e9699fafb1bbae4e4b0e52dbdb4d8047cfbd6e", func := "peregrine/peregrinelaw19.StreamsParamsMatchReference", spec := "streamsParamsMatchReference", inPlace := ["internal/abi.NoEscape", "internal/reflectlite.TypeOf"], unfollowed := true, recurses := true, named := ["peregrine/reassembly.errArgument", "peregrine/reassembly.errConflict", "peregrine/reassembly.errFinalSize", "peregrine/reassembly.errRoom"], apart := false, laid := [("peregrine/reassembly.errArgument", laid_peregrine_reassembly_errArgument), ("peregrine/reassembly.errConflict", laid_peregrine_reassembly_errConflict), ("peregrine/reassembly.errFinalSize", laid_peregrine_reassembly_errFinalSize), ("peregrine/reassembly.errRoom", laid_peregrine_reassembly_errRoom)], narrowed := true }
def StreamsParamsMatchReferenceUptoSaid : Prop := streamsParamsMatchReferenceUptoRow.holds Tryz.pinned (OpenSpec.upto streamsParamsMatchReferenceSpec)

end Rows
end Go.Proofs.YthckbmcmdcemkaaGreatDoor
