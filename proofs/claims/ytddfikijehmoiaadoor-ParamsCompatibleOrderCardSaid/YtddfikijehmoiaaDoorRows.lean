/-
  NARROWER THAN 'FOR EVERY INPUT', by the rows' own cells (each row's printed sentence says how): ParamsRoundTrip: laid · ParamsUnique: laid · ParamsCompatibleOrder: laid · ParamsCompatibleRaise: laid · ParamsFields: laid.
  DERIVED. THE GIVEN ROWS OF THIS SEAT. 5 by the template 'for every input the law returns true; each argument reads behind the call as it read before'; 0 by the template 'total and deterministic' (their statements: YtddfikijehmoiaaDoorTotals.lean).
  GIVEN WITH THE SEED: the statements are not yours to turn. If you find one false, say at which input.
  Laid BY PROGRAM, IN A SANDBOX (cutbox-rows.mjs): the forced cells as the released guide's own fill.sh prints them over the translation 8345214751340f82… (all of the seat's roots in one cut). By AI agents, Wed Nov 11 2026. No macro, syntax, notation, axiom, sorry.
-/
import Derived.Test.YtddfikijehmoiaaDoorChecked
import GoSem.Claim
import GoSem.ClaimJoined
import GoSem.ClaimMapViews
import Derived.JoinedTies
import Derived.KernelRfl
namespace Go.Proofs.YtddfikijehmoiaaDoor
/- THE CELL 'sum', in the pinned program and in every row, IS THE sha256 OF THE DUMP (.gsa) THAT YtddfikijehmoiaaDoorProg.lean LOADS. Nothing in Lean hashes anything: it is a label: what it is worth is what the hold of that sum in a sandbox is worth. -/
noncomputable def Tryd.pinned : Pinned := { name := "ytddfikijehmoiaadoor", sum := "8345214751340f826766af5cdd1d5cdd25ce11fcf8c681a27f293b59d75e3c60", checked := Tryd.checked }
namespace Rows
def none {H : Type} : Left H := { results := [], args := [] }

/- WHAT THE LISTED PACKAGE-LEVEL VARIABLES READ AS WHEN THE CALL BEGINS. Each datum BY PROGRAM (the guide's laid-datum.mjs) off the statement by which the dump's own 'gosem.cut.vars' lays the variable. In a bare row this is a premise. The card (YtddfikijehmoiaaDoorCards.lean) ties it to the program's text. -/
def laid_peregrine_params_errParams {H : Type} : DataW H := .iface "*errors.errorString" (.ptr (.agg [.lit (.string [112, 97, 114, 97, 109, 115, 58, 32, 105, 110, 118, 97, 108, 105, 100, 32, 112, 97, 114, 97, 109, 101, 116, 101, 114, 115])]))

/-- 'peregrinelaw20.ParamsRoundTrip': WHATEVER THE INPUT: true; the input reads as it did. -/
def paramsRoundTripSpec : ChangeSpec := { name := "paramsRoundTrip", fn := fun _ => fun
  | [d1, d2, d3] => { results := [.lit (.bool true)], args := [d1, d2, d3] }
  | _ => none }
def paramsRoundTripRow : OpenClaim := { program := "ytddfikijehmoiaadoor", sum := "8345214751340f826766af5cdd1d5cdd25ce11fcf8c681a27f293b59d75e3c60", func := "peregrine/peregrinelaw20.ParamsRoundTrip", spec := "paramsRoundTrip", inPlace := ["internal/reflectlite.TypeOf"], unfollowed := true, recurses := true, named := ["peregrine/params.errParams"], apart := false, laid := [("peregrine/params.errParams", laid_peregrine_params_errParams)] }
def ParamsRoundTripSaid : Prop := paramsRoundTripRow.holds Tryd.pinned (OpenSpec.ofChange paramsRoundTripSpec)

/-- ITS FALSE NEIGHBOUR: 'it returns false'. Refute it at one input. -/
def paramsRoundTripWrong : ChangeSpec := { name := "paramsRoundTrip", fn := fun _ => fun
  | [d1, d2, d3] => { results := [.lit (.bool false)], args := [d1, d2, d3] }
  | _ => none }
def ParamsRoundTripWrongFalsely : Prop := paramsRoundTripRow.holds Tryd.pinned (OpenSpec.ofChange paramsRoundTripWrong)

/-- 'peregrinelaw20.ParamsUnique': WHATEVER THE INPUT: true; the input reads as it did. -/
def paramsUniqueSpec : ChangeSpec := { name := "paramsUnique", fn := fun _ => fun
  | [d1, d2, d3, d4] => { results := [.lit (.bool true)], args := [d1, d2, d3, d4] }
  | _ => none }
def paramsUniqueRow : OpenClaim := { program := "ytddfikijehmoiaadoor", sum := "8345214751340f826766af5cdd1d5cdd25ce11fcf8c681a27f293b59d75e3c60", func := "peregrine/peregrinelaw20.ParamsUnique", spec := "paramsUnique", inPlace := ["internal/reflectlite.TypeOf"], unfollowed := true, recurses := true, named := ["peregrine/params.errParams"], apart := false, laid := [("peregrine/params.errParams", laid_peregrine_params_errParams)] }
def ParamsUniqueSaid : Prop := paramsUniqueRow.holds Tryd.pinned (OpenSpec.ofChange paramsUniqueSpec)

/-- ITS FALSE NEIGHBOUR: 'it returns false'. Refute it at one input. -/
def paramsUniqueWrong : ChangeSpec := { name := "paramsUnique", fn := fun _ => fun
  | [d1, d2, d3, d4] => { results := [.lit (.bool false)], args := [d1, d2, d3, d4] }
  | _ => none }
def ParamsUniqueWrongFalsely : Prop := paramsUniqueRow.holds Tryd.pinned (OpenSpec.ofChange paramsUniqueWrong)

/-- 'peregrinelaw20.ParamsCompatibleOrder': WHATEVER THE INPUT: true; the input reads as it did. -/
def paramsCompatibleOrderSpec : ChangeSpec := { name := "paramsCompatibleOrder", fn := fun _ => fun
  | [d1, d2, d3] => { results := [.lit (.bool true)], args := [d1, d2, d3] }
  | _ => none }
def paramsCompatibleOrderRow : OpenClaim := { program := "ytddfikijehmoiaadoor", sum := "8345214751340f826766af5cdd1d5cdd25ce11fcf8c681a27f293b59d75e3c60", func := "peregrine/peregrinelaw20.ParamsCompatibleOrder", spec := "paramsCompatibleOrder", inPlace := ["internal/reflectlite.TypeOf"], unfollowed := true, recurses := true, named := ["peregrine/params.errParams"], apart := false, laid := [("peregrine/params.errParams", laid_peregrine_params_errParams)] }
def ParamsCompatibleOrderSaid : Prop := paramsCompatibleOrderRow.holds Tryd.pinned (OpenSpec.ofChange paramsCompatibleOrderSpec)

/-- ITS FALSE NEIGHBOUR: 'it returns false'. Refute it at one input. -/
def paramsCompatibleOrderWrong : ChangeSpec := { name := "paramsCompatibleOrder", fn := fun _ => fun
  | [d1, d2, d3] => { results := [.lit (.bool false)], args := [d1, d2, d3] }
  | _ => none }
def ParamsCompatibleOrderWrongFalsely : Prop := paramsCompatibleOrderRow.holds Tryd.pinned (OpenSpec.ofChange paramsCompatibleOrderWrong)

/-- 'peregrinelaw20.ParamsCompatibleRaise': WHATEVER THE INPUT: true; the input reads as it did. -/
def paramsCompatibleRaiseSpec : ChangeSpec := { name := "paramsCompatibleRaise", fn := fun _ => fun
  | [d1, d2, d3, d4] => { results := [.lit (.bool true)], args := [d1, d2, d3, d4] }
  | _ => none }
def paramsCompatibleRaiseRow : OpenClaim := { program := "ytddfikijehmoiaadoor", sum := "8345214751340f826766af5cdd1d5cdd25ce11fcf8c681a27f293b59d75e3c60", func := "peregrine/peregrinelaw20.ParamsCompatibleRaise", spec := "paramsCompatibleRaise", inPlace := ["internal/reflectlite.TypeOf"], unfollowed := true, recurses := true, named := ["peregrine/params.errParams"], apart := false, laid := [("peregrine/params.errParams", laid_peregrine_params_errParams)] }
def ParamsCompatibleRaiseSaid : Prop := paramsCompatibleRaiseRow.holds Tryd.pinned (OpenSpec.ofChange paramsCompatibleRaiseSpec)

/-- ITS FALSE NEIGHBOUR: 'it returns false'. Refute it at one input. -/
def paramsCompatibleRaiseWrong : ChangeSpec := { name := "paramsCompatibleRaise", fn := fun _ => fun
  | [d1, d2, d3, d4] => { results := [.lit (.bool false)], args := [d1, d2, d3, d4] }
  | _ => none }
def ParamsCompatibleRaiseWrongFalsely : Prop := paramsCompatibleRaiseRow.holds Tryd.pinned (OpenSpec.ofChange paramsCompatibleRaiseWrong)

/-- 'peregrinelaw20.ParamsFields': WHATEVER THE INPUT: true; the input reads as it did. -/
def paramsFieldsSpec : ChangeSpec := { name := "paramsFields", fn := fun _ => fun
  | [d] => { results := [.lit (.bool true)], args := [d] }
  | _ => none }
def paramsFieldsRow : OpenClaim := { program := "ytddfikijehmoiaadoor", sum := "8345214751340f826766af5cdd1d5cdd25ce11fcf8c681a27f293b59d75e3c60", func := "peregrine/peregrinelaw20.ParamsFields", spec := "paramsFields", inPlace := ["internal/reflectlite.TypeOf"], unfollowed := true, recurses := true, named := ["peregrine/params.errParams"], apart := false, laid := [("peregrine/params.errParams", laid_peregrine_params_errParams)] }
def ParamsFieldsSaid : Prop := paramsFieldsRow.holds Tryd.pinned (OpenSpec.ofChange paramsFieldsSpec)

/-- ITS FALSE NEIGHBOUR: 'it returns false'. Refute it at one input. -/
def paramsFieldsWrong : ChangeSpec := { name := "paramsFields", fn := fun _ => fun
  | [d] => { results := [.lit (.bool false)], args := [d] }
  | _ => none }
def ParamsFieldsWrongFalsely : Prop := paramsFieldsRow.holds Tryd.pinned (OpenSpec.ofChange paramsFieldsWrong)

/- THE SECOND FORM. 'bulk': how many values and letters a reading holds, each counted each time it is reached (what is shared counts as often as it is met; a slice's spare places count too). A statement '..UptoSaid' is the law's where the arguments, and the package variables that the reading takes, are together of bulk at most 1048576: NARROWER than '..Said'. Prove '..Said' where nothing that the law and all that it calls make is longer than what came in: it says more and counts as full. Else prove '..UptoSaid'. A law counts once. -/
mutual
def uptoBulk {H : Type} : DataW H → Nat
  | .lit (.string bytes) => bytes.length + 1
  | .lit _ => 1
  | .nil => 1
  | .ptr d => uptoBulk d + 1
  | .slice elems spare => uptoBulkAll elems + uptoBulkAll spare + 1
  | .agg parts => uptoBulkAll parts + 1
  | .iface _ d => uptoBulk d + 1
  | .map entries => uptoBulkEntries entries + 1
  | .held _ => 1
def uptoBulkAll {H : Type} : List (DataW H) → Nat
  | [] => 0
  | d :: r => uptoBulk d + uptoBulkAll r
def uptoBulkEntries {H : Type} : List (Lit × DataW H) → Nat
  | [] => 0
  | x :: r => uptoBulkEntry x + uptoBulkEntries r
def uptoBulkEntry {H : Type} : Lit × DataW H → Nat
  | (.string bytes, d) => bytes.length + uptoBulk d + 1
  | (_, d) => uptoBulk d + 1
 end
def uptoSmall : (H : Type) → List (DataW H) → Bool := fun _ ds => decide (uptoBulkAll ds ≤ 1048576)
def OpenSpec.upto (s : _root_.Go.ChangeSpec) : _root_.Go.OpenSpec := { _root_.Go.OpenSpec.ofChange s with cond := some uptoSmall }

/-- 'peregrinelaw20.ParamsRoundTrip', WHERE WHAT IT READS IS OF BULK AT MOST 1048576: true; the input reads as it did. -/
def paramsRoundTripUptoRow : OpenClaim := { program := "ytddfikijehmoiaadoor", sum := "8345214751340f826766af5cdd1d5cdd25ce11fcf8c681a27f293b59d75e3c60", func := "peregrine/peregrinelaw20.ParamsRoundTrip", spec := "paramsRoundTrip", inPlace := ["internal/reflectlite.TypeOf"], unfollowed := true, recurses := true, named := ["peregrine/params.errParams"], apart := false, laid := [("peregrine/params.errParams", laid_peregrine_params_errParams)], narrowed := true }
def ParamsRoundTripUptoSaid : Prop := paramsRoundTripUptoRow.holds Tryd.pinned (OpenSpec.upto paramsRoundTripSpec)

/-- 'peregrinelaw20.ParamsUnique', WHERE WHAT IT READS IS OF BULK AT MOST 1048576: true; the input reads as it did. -/
def paramsUniqueUptoRow : OpenClaim := { program := "ytddfikijehmoiaadoor", sum := "8345214751340f826766af5cdd1d5cdd25ce11fcf8c681a27f293b59d75e3c60", func := "peregrine/peregrinelaw20.ParamsUnique", spec := "paramsUnique", inPlace := ["internal/reflectlite.TypeOf"], unfollowed := true, recurses := true, named := ["peregrine/params.errParams"], apart := false, laid := [("peregrine/params.errParams", laid_peregrine_params_errParams)], narrowed := true }
def ParamsUniqueUptoSaid : Prop := paramsUniqueUptoRow.holds Tryd.pinned (OpenSpec.upto paramsUniqueSpec)

/-- 'peregrinelaw20.ParamsCompatibleOrder', WHERE WHAT IT READS IS OF BULK AT MOST 1048576: true; the input reads as it did. -/
def paramsCompatibleOrderUptoRow : OpenClaim := { program := "ytddfikijehmoiaadoor", sum := "8345214751340f826766af5cdd1d5cdd25ce11fcf8c681a27f293b59d75e3c60", func := "peregrine/peregrinelaw20.ParamsCompatibleOrder", spec := "paramsCompatibleOrder", inPlace := ["internal/reflectlite.TypeOf"], unfollowed := true, recurses := true, named := ["peregrine/params.errParams"], apart := false, laid := [("peregrine/params.errParams", laid_peregrine_params_errParams)], narrowed := true }
def ParamsCompatibleOrderUptoSaid : Prop := paramsCompatibleOrderUptoRow.holds Tryd.pinned (OpenSpec.upto paramsCompatibleOrderSpec)

/-- 'peregrinelaw20.ParamsCompatibleRaise', WHERE WHAT IT READS IS OF BULK AT MOST 1048576: true; the input reads as it did. -/
def paramsCompatibleRaiseUptoRow : OpenClaim := { program := "ytddfikijehmoiaadoor", sum := "8345214751340f826766af5cdd1d5cdd25ce11fcf8c681a27f293b59d75e3c60", func := "peregrine/peregrinelaw20.ParamsCompatibleRaise", spec := "paramsCompatibleRaise", inPlace := ["internal/reflectlite.TypeOf"], unfollowed := true, recurses := true, named := ["peregrine/params.errParams"], apart := false, laid := [("peregrine/params.errParams", laid_peregrine_params_errParams)], narrowed := true }
def ParamsCompatibleRaiseUptoSaid : Prop := paramsCompatibleRaiseUptoRow.holds Tryd.pinned (OpenSpec.upto paramsCompatibleRaiseSpec)

/-- 'peregrinelaw20.ParamsFields', WHERE WHAT IT READS IS OF BULK AT MOST 1048576: true; the input reads as it did. -/
def paramsFieldsUptoRow : OpenClaim := { program := "ytddfikijehmoiaadoor", sum := "8345214751340f826766af5cdd1d5cdd25ce11fcf8c681a27f293b59d75e3c60", func := "peregrine/peregrinelaw20.ParamsFields", spec := "paramsFields", inPlace := ["internal/reflectlite.TypeOf"], unfollowed := true, recurses := true, named := ["peregrine/params.errParams"], apart := false, laid := [("peregrine/params.errParams", laid_peregrine_params_errParams)], narrowed := true }
def ParamsFieldsUptoSaid : Prop := paramsFieldsUptoRow.holds Tryd.pinned (OpenSpec.upto paramsFieldsSpec)

end Rows
end Go.Proofs.YtddfikijehmoiaaDoor
