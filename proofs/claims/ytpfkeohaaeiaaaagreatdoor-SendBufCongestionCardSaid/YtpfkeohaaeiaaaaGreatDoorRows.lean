/-
  NARROWER THAN 'FOR EVERY INPUT', by the rows' own cells (each row's printed sentence says how): SendBufReliable: laid · SendBufCongestion: laid.
  DERIVED. THE GIVEN ROWS OF THIS SEAT. 2 by the template 'for every input the law returns true; each argument reads behind the call as it read before'; 0 by the template 'total and deterministic' (their statements: YtpfkeohaaeiaaaaGreatDoorTotals.lean).
  GIVEN WITH THE SEED: the statements are not yours to turn. If you find one false, say at which input.
  Laid BY PROGRAM, IN A SANDBOX (cutbox-rows.mjs): the forced cells as the released guide's own fill.sh prints them over the translation a16377786b8aa2df… (all of the seat's roots in one cut). By AI agents, Wed Nov 11 2026. No macro, syntax, notation, axiom, sorry.
-/
import Derived.Test.YtpfkeohaaeiaaaaGreatDoorChecked
import GoSem.Claim
import GoSem.ClaimJoined
import GoSem.ClaimMapViews
import Derived.JoinedTies
import Derived.KernelRfl
namespace Go.Proofs.YtpfkeohaaeiaaaaGreatDoor
/- THE CELL 'sum', in the pinned program and in every row, IS THE sha256 OF THE DUMP (.gsa) THAT YtpfkeohaaeiaaaaGreatDoorProg.lean LOADS. Nothing in Lean hashes anything: it is a label: what it is worth is what the hold of that sum in a sandbox is worth. -/
noncomputable def Tryz.pinned : Pinned := { name := "ytpfkeohaaeiaaaagreatdoor", sum := "a16377786b8aa2dfc5f7bdbd06dc15e35cbfc32743e6b0217502812d2d86b77a", checked := Tryz.checked }
namespace Rows
def none {H : Type} : Left H := { results := [], args := [] }

/- WHAT THE LISTED PACKAGE-LEVEL VARIABLES READ AS WHEN THE CALL BEGINS. Each datum BY PROGRAM (the guide's laid-datum.mjs) off the statement by which the dump's own 'gosem.cut.vars' lays the variable. In a bare row this is a premise. The card (YtpfkeohaaeiaaaaGreatDoorCards.lean) ties it to the program's text. -/
def laid_peregrine_reassembly_errArgument {H : Type} : DataW H := .iface "*errors.errorString" (.ptr (.agg [.lit (.string [114, 101, 97, 115, 115, 101, 109, 98, 108, 121, 58, 32, 105, 110, 118, 97, 108, 105, 100, 32, 97, 114, 103, 117, 109, 101, 110, 116])]))
def laid_peregrine_reassembly_errConflict {H : Type} : DataW H := .iface "*errors.errorString" (.ptr (.agg [.lit (.string [114, 101, 97, 115, 115, 101, 109, 98, 108, 121, 58, 32, 112, 105, 101, 99, 101, 115, 32, 100, 105, 115, 97, 103, 114, 101, 101])]))
def laid_peregrine_reassembly_errFinalSize {H : Type} : DataW H := .iface "*errors.errorString" (.ptr (.agg [.lit (.string [114, 101, 97, 115, 115, 101, 109, 98, 108, 121, 58, 32, 102, 105, 110, 97, 108, 32, 115, 105, 122, 101, 115, 32, 100, 105, 115, 97, 103, 114, 101, 101])]))
def laid_peregrine_reassembly_errRoom {H : Type} : DataW H := .iface "*errors.errorString" (.ptr (.agg [.lit (.string [114, 101, 97, 115, 115, 101, 109, 98, 108, 121, 58, 32, 98, 101, 121, 111, 110, 100, 32, 116, 104, 101, 32, 98, 117, 102, 102, 101, 114])]))

/-- 'peregrinelaw17.SendBufReliable': WHATEVER THE INPUT: true; the input reads as it did. -/
def sendBufReliableSpec : ChangeSpec := { name := "sendBufReliable", fn := fun _ => fun
  | [d1, d2, d3, d4] => { results := [.lit (.bool true)], args := [d1, d2, d3, d4] }
  | _ => none }
def sendBufReliableRow : OpenClaim := { program := "ytpfkeohaaeiaaaagreatdoor", sum := "a16377786b8aa2dfc5f7bdbd06dc15e35cbfc32743e6b0217502812d2d86b77a", func := "peregrine/peregrinelaw17.SendBufReliable", spec := "sendBufReliable", inPlace := ["internal/abi.NoEscape", "internal/reflectlite.TypeOf"], unfollowed := true, recurses := true, named := ["peregrine/reassembly.errArgument", "peregrine/reassembly.errConflict", "peregrine/reassembly.errFinalSize", "peregrine/reassembly.errRoom"], apart := false, laid := [("peregrine/reassembly.errArgument", laid_peregrine_reassembly_errArgument), ("peregrine/reassembly.errConflict", laid_peregrine_reassembly_errConflict), ("peregrine/reassembly.errFinalSize", laid_peregrine_reassembly_errFinalSize), ("peregrine/reassembly.errRoom", laid_peregrine_reassembly_errRoom)] }
def SendBufReliableSaid : Prop := sendBufReliableRow.holds Tryz.pinned (OpenSpec.ofChange sendBufReliableSpec)

/-- ITS FALSE NEIGHBOUR: 'it returns false'. Refute it at one input. -/
def sendBufReliableWrong : ChangeSpec := { name := "sendBufReliable", fn := fun _ => fun
  | [d1, d2, d3, d4] => { results := [.lit (.bool false)], args := [d1, d2, d3, d4] }
  | _ => none }
def SendBufReliableWrongFalsely : Prop := sendBufReliableRow.holds Tryz.pinned (OpenSpec.ofChange sendBufReliableWrong)

/-- 'peregrinelaw17.SendBufCongestion': WHATEVER THE INPUT: true; the input reads as it did. -/
def sendBufCongestionSpec : ChangeSpec := { name := "sendBufCongestion", fn := fun _ => fun
  | [d1, d2] => { results := [.lit (.bool true)], args := [d1, d2] }
  | _ => none }
def sendBufCongestionRow : OpenClaim := { program := "ytpfkeohaaeiaaaagreatdoor", sum := "a16377786b8aa2dfc5f7bdbd06dc15e35cbfc32743e6b0217502812d2d86b77a", func := "peregrine/peregrinelaw17.SendBufCongestion", spec := "sendBufCongestion", inPlace := ["internal/abi.NoEscape", "internal/reflectlite.TypeOf"], unfollowed := true, recurses := true, named := ["peregrine/reassembly.errArgument", "peregrine/reassembly.errConflict", "peregrine/reassembly.errFinalSize", "peregrine/reassembly.errRoom"], apart := false, laid := [("peregrine/reassembly.errArgument", laid_peregrine_reassembly_errArgument), ("peregrine/reassembly.errConflict", laid_peregrine_reassembly_errConflict), ("peregrine/reassembly.errFinalSize", laid_peregrine_reassembly_errFinalSize), ("peregrine/reassembly.errRoom", laid_peregrine_reassembly_errRoom)] }
def SendBufCongestionSaid : Prop := sendBufCongestionRow.holds Tryz.pinned (OpenSpec.ofChange sendBufCongestionSpec)

/-- ITS FALSE NEIGHBOUR: 'it returns false'. Refute it at one input. -/
def sendBufCongestionWrong : ChangeSpec := { name := "sendBufCongestion", fn := fun _ => fun
  | [d1, d2] => { results := [.lit (.bool false)], args := [d1, d2] }
  | _ => none }
def SendBufCongestionWrongFalsely : Prop := sendBufCongestionRow.holds Tryz.pinned (OpenSpec.ofChange sendBufCongestionWrong)

/- THE SECOND FORM. 'bulk': how many values and letters a reading holds, each counted each time it is reached (what is shared counts as often as it is met; a slice's spare places count too). A statement '..UptoSaid' is the law's where the arguments, and the package variables that the reading takes, are together of bulk at most 1048576: NARROWER than '..Said'. Prove '..Said' where nothing that the law and all that it calls make is longer than what came in: it says more and counts as full. Else prove '..UptoSaid'. A law counts once. -/
mutual
def uptoBulk {H : Type} : DataW H → Nat
  | .lit (.string bytes) => bytes.length + 1
  | .lit _ => 1
  | .nil => 1
  | .ptr d => uptoBulk d + 1
  | .slice elems spare => uptoBulkAll elems + uptoBulkAll spare + 1
  | .agg parts => uptoBulkAll parts + 1
  | .iface _ d => uptoBulk d + 1
  | .map entries => uptoBulkEntries entries + 1
  | .held _ => 1
def uptoBulkAll {H : Type} : List (DataW H) → Nat
  | [] => 0
  | d :: r => uptoBulk d + uptoBulkAll r
def uptoBulkEntries {H : Type} : List (Lit × DataW H) → Nat
  | [] => 0
  | x :: r => uptoBulkEntry x + uptoBulkEntries r
def uptoBulkEntry {H : Type} : Lit × DataW H → Nat
  | (.string bytes, d) => bytes.length + uptoBulk d + 1
  | (_, d) => uptoBulk d + 1
 end
def uptoSmall : (H : Type) → List (DataW H) → Bool := fun _ ds => decide (uptoBulkAll ds ≤ 1048576)
def OpenSpec.upto (s : _root_.Go.ChangeSpec) : _root_.Go.OpenSpec := { _root_.Go.OpenSpec.ofChange s with cond := some uptoSmall }

/-- 'peregrinelaw17.SendBufReliable', WHERE WHAT IT READS IS OF BULK AT MOST 1048576: true; the input reads as it did. -/
def sendBufReliableUptoRow : OpenClaim := { program := "ytpfkeohaaeiaaaagreatdoor", sum := "a16377786b8aa2dfc5f7bdbd06dc15e35cbfc32743e6b0217502812d2d86b77a", func := "peregrine/peregrinelaw17.SendBufReliable", spec := "sendBufReliable", inPlace := ["internal/abi.NoEscape", "internal/reflectlite.TypeOf"], unfollowed := true, recurses := true, named := ["peregrine/reassembly.errArgument", "peregrine/reassembly.errConflict", "peregrine/reassembly.errFinalSize", "peregrine/reassembly.errRoom"], apart := false, laid := [("peregrine/reassembly.errArgument", laid_peregrine_reassembly_errArgument), ("peregrine/reassembly.errConflict", laid_peregrine_reassembly_errConflict), ("peregrine/reassembly.errFinalSize", laid_peregrine_reassembly_errFinalSize), ("peregrine/reassembly.errRoom", laid_peregrine_reassembly_errRoom)], narrowed := true }
def SendBufReliableUptoSaid : Prop := sendBufReliableUptoRow.holds Tryz.pinned (OpenSpec.upto sendBufReliableSpec)

/-- 'peregrinelaw17.SendBufCongestion', WHERE WHAT IT READS IS OF BULK AT MOST 1048576: true; the input reads as it did. -/
def sendBufCongestionUptoRow : OpenClaim := { program := "ytpfkeohaaeiaaaagreatdoor", sum := "a16377786b8aa2dfc5f7bdbd06dc15e35cbfc32743e6b0217502812d2d86b77a", func := "peregrine/peregrinelaw17.SendBufCongestion", spec := "sendBufCongestion", inPlace := ["internal/abi.NoEscape", "internal/reflectlite.TypeOf"], unfollowed := true, recurses := true, named := ["peregrine/reassembly.errArgument", "peregrine/reassembly.errConflict", "peregrine/reassembly.errFinalSize", "peregrine/reassembly.errRoom"], apart := false, laid := [("peregrine/reassembly.errArgument", laid_peregrine_reassembly_errArgument), ("peregrine/reassembly.errConflict", laid_peregrine_reassembly_errConflict), ("peregrine/reassembly.errFinalSize", laid_peregrine_reassembly_errFinalSize), ("peregrine/reassembly.errRoom", laid_peregrine_reassembly_errRoom)], narrowed := true }
def SendBufCongestionUptoSaid : Prop := sendBufCongestionUptoRow.holds Tryz.pinned (OpenSpec.upto sendBufCongestionSpec)

end Rows
end Go.Proofs.YtpfkeohaaeiaaaaGreatDoor
