/-
  No cell of these rows narrows 'for every input' (looked for: loops, veiled, ifaces, maps, wideKeys, modest, calm, conditions, laid).
  DERIVED. THE GIVEN ROWS OF THIS SEAT. 8 by the template 'for every input the law returns true; each argument reads behind the call as it read before'; 0 by the template 'total and deterministic' (their statements: YtafkndhnbnpahaaGreatTotals.lean).
  GIVEN WITH THE SEED: the statements are not yours to turn. If you find one false, say at which input.
  Laid BY PROGRAM, IN A SANDBOX (cutbox-rows.mjs): the forced cells as the released guide's own fill.sh prints them over the translation 2a775dd87bf596be… (all of the seat's roots in one cut). By AI agents, Wed Nov 11 2026. No macro, syntax, notation, axiom, sorry.
-/
import Derived.Test.YtafkndhnbnpahaaGreatChecked
import GoSem.Claim
import GoSem.ClaimJoined
import GoSem.ClaimMapViews
import Derived.JoinedTies
import Derived.KernelRfl
namespace Go.Proofs.YtafkndhnbnpahaaGreat
/- THE CELL 'sum', in the pinned program and in every row, IS THE sha256 OF THE DUMP (.gsa) THAT YtafkndhnbnpahaaGreatProg.lean LOADS. Nothing in Lean hashes anything: it is a label: what it is worth is what the hold of that sum in a sandbox is worth. -/
noncomputable def Tryz.pinned : Pinned := { name := "ytafkndhnbnpahaagreat", sum := "2a775dd87bf596be4269f39622497b1b82a19228be0bd3b382771abe91c3cb1e", checked := Tryz.checked }
namespace Rows
def none {H : Type} : Left H := { results := [], args := [] }

/-- 'peregrinelaw13.LossOnlyWithCause': WHATEVER THE INPUT: true; the input reads as it did. -/
def lossOnlyWithCauseSpec : ChangeSpec := { name := "lossOnlyWithCause", fn := fun _ => fun
  | [d1, d2] => { results := [.lit (.bool true)], args := [d1, d2] }
  | _ => none }
def lossOnlyWithCauseRow : OpenClaim := { program := "ytafkndhnbnpahaagreat", sum := "2a775dd87bf596be4269f39622497b1b82a19228be0bd3b382771abe91c3cb1e", func := "peregrine/peregrinelaw13.LossOnlyWithCause", spec := "lossOnlyWithCause", inPlace := ["internal/abi.NoEscape"], unfollowed := true, recurses := true, apart := false }
def LossOnlyWithCauseSaid : Prop := lossOnlyWithCauseRow.holds Tryz.pinned (OpenSpec.ofChange lossOnlyWithCauseSpec)

/-- ITS FALSE NEIGHBOUR: 'it returns false'. Refute it at one input. -/
def lossOnlyWithCauseWrong : ChangeSpec := { name := "lossOnlyWithCause", fn := fun _ => fun
  | [d1, d2] => { results := [.lit (.bool false)], args := [d1, d2] }
  | _ => none }
def LossOnlyWithCauseWrongFalsely : Prop := lossOnlyWithCauseRow.holds Tryz.pinned (OpenSpec.ofChange lossOnlyWithCauseWrong)

/-- 'peregrinelaw13.LossRejectsUnsent': WHATEVER THE INPUT: true; the input reads as it did. -/
def lossRejectsUnsentSpec : ChangeSpec := { name := "lossRejectsUnsent", fn := fun _ => fun
  | [d1, d2, d3] => { results := [.lit (.bool true)], args := [d1, d2, d3] }
  | _ => none }
def lossRejectsUnsentRow : OpenClaim := { program := "ytafkndhnbnpahaagreat", sum := "2a775dd87bf596be4269f39622497b1b82a19228be0bd3b382771abe91c3cb1e", func := "peregrine/peregrinelaw13.LossRejectsUnsent", spec := "lossRejectsUnsent", inPlace := ["internal/abi.NoEscape"], unfollowed := true, recurses := true, apart := false }
def LossRejectsUnsentSaid : Prop := lossRejectsUnsentRow.holds Tryz.pinned (OpenSpec.ofChange lossRejectsUnsentSpec)

/-- ITS FALSE NEIGHBOUR: 'it returns false'. Refute it at one input. -/
def lossRejectsUnsentWrong : ChangeSpec := { name := "lossRejectsUnsent", fn := fun _ => fun
  | [d1, d2, d3] => { results := [.lit (.bool false)], args := [d1, d2, d3] }
  | _ => none }
def LossRejectsUnsentWrongFalsely : Prop := lossRejectsUnsentRow.holds Tryz.pinned (OpenSpec.ofChange lossRejectsUnsentWrong)

/-- 'peregrinelaw13.LossAckAgain': WHATEVER THE INPUT: true; the input reads as it did. -/
def lossAckAgainSpec : ChangeSpec := { name := "lossAckAgain", fn := fun _ => fun
  | [d1, d2, d3] => { results := [.lit (.bool true)], args := [d1, d2, d3] }
  | _ => none }
def lossAckAgainRow : OpenClaim := { program := "ytafkndhnbnpahaagreat", sum := "2a775dd87bf596be4269f39622497b1b82a19228be0bd3b382771abe91c3cb1e", func := "peregrine/peregrinelaw13.LossAckAgain", spec := "lossAckAgain", inPlace := ["internal/abi.NoEscape"], unfollowed := true, recurses := true, apart := false }
def LossAckAgainSaid : Prop := lossAckAgainRow.holds Tryz.pinned (OpenSpec.ofChange lossAckAgainSpec)

/-- ITS FALSE NEIGHBOUR: 'it returns false'. Refute it at one input. -/
def lossAckAgainWrong : ChangeSpec := { name := "lossAckAgain", fn := fun _ => fun
  | [d1, d2, d3] => { results := [.lit (.bool false)], args := [d1, d2, d3] }
  | _ => none }
def LossAckAgainWrongFalsely : Prop := lossAckAgainRow.holds Tryz.pinned (OpenSpec.ofChange lossAckAgainWrong)

/-- 'peregrinelaw13.LossDeadline': WHATEVER THE INPUT: true; the input reads as it did. -/
def lossDeadlineSpec : ChangeSpec := { name := "lossDeadline", fn := fun _ => fun
  | [d1, d2, d3] => { results := [.lit (.bool true)], args := [d1, d2, d3] }
  | _ => none }
def lossDeadlineRow : OpenClaim := { program := "ytafkndhnbnpahaagreat", sum := "2a775dd87bf596be4269f39622497b1b82a19228be0bd3b382771abe91c3cb1e", func := "peregrine/peregrinelaw13.LossDeadline", spec := "lossDeadline", inPlace := ["internal/abi.NoEscape"], unfollowed := true, recurses := true, apart := false }
def LossDeadlineSaid : Prop := lossDeadlineRow.holds Tryz.pinned (OpenSpec.ofChange lossDeadlineSpec)

/-- ITS FALSE NEIGHBOUR: 'it returns false'. Refute it at one input. -/
def lossDeadlineWrong : ChangeSpec := { name := "lossDeadline", fn := fun _ => fun
  | [d1, d2, d3] => { results := [.lit (.bool false)], args := [d1, d2, d3] }
  | _ => none }
def LossDeadlineWrongFalsely : Prop := lossDeadlineRow.holds Tryz.pinned (OpenSpec.ofChange lossDeadlineWrong)

/-- 'peregrinelaw13.LossMatchesReference': WHATEVER THE INPUT: true; the input reads as it did. -/
def lossMatchesReferenceSpec : ChangeSpec := { name := "lossMatchesReference", fn := fun _ => fun
  | [d1, d2] => { results := [.lit (.bool true)], args := [d1, d2] }
  | _ => none }
def lossMatchesReferenceRow : OpenClaim := { program := "ytafkndhnbnpahaagreat", sum := "2a775dd87bf596be4269f39622497b1b82a19228be0bd3b382771abe91c3cb1e", func := "peregrine/peregrinelaw13.LossMatchesReference", spec := "lossMatchesReference", inPlace := ["internal/abi.NoEscape"], unfollowed := true, recurses := true, apart := false }
def LossMatchesReferenceSaid : Prop := lossMatchesReferenceRow.holds Tryz.pinned (OpenSpec.ofChange lossMatchesReferenceSpec)

/-- ITS FALSE NEIGHBOUR: 'it returns false'. Refute it at one input. -/
def lossMatchesReferenceWrong : ChangeSpec := { name := "lossMatchesReference", fn := fun _ => fun
  | [d1, d2] => { results := [.lit (.bool false)], args := [d1, d2] }
  | _ => none }
def LossMatchesReferenceWrongFalsely : Prop := lossMatchesReferenceRow.holds Tryz.pinned (OpenSpec.ofChange lossMatchesReferenceWrong)

/-- 'peregrinelaw13.LossConservation': WHATEVER THE INPUT: true; the input reads as it did. -/
def lossConservationSpec : ChangeSpec := { name := "lossConservation", fn := fun _ => fun
  | [d1, d2] => { results := [.lit (.bool true)], args := [d1, d2] }
  | _ => none }
def lossConservationRow : OpenClaim := { program := "ytafkndhnbnpahaagreat", sum := "2a775dd87bf596be4269f39622497b1b82a19228be0bd3b382771abe91c3cb1e", func := "peregrine/peregrinelaw13.LossConservation", spec := "lossConservation", inPlace := ["internal/abi.NoEscape"], unfollowed := true, recurses := true, apart := false }
def LossConservationSaid : Prop := lossConservationRow.holds Tryz.pinned (OpenSpec.ofChange lossConservationSpec)

/-- ITS FALSE NEIGHBOUR: 'it returns false'. Refute it at one input. -/
def lossConservationWrong : ChangeSpec := { name := "lossConservation", fn := fun _ => fun
  | [d1, d2] => { results := [.lit (.bool false)], args := [d1, d2] }
  | _ => none }
def LossConservationWrongFalsely : Prop := lossConservationRow.holds Tryz.pinned (OpenSpec.ofChange lossConservationWrong)

/-- 'peregrinelaw13.LossNil': WHATEVER THE INPUT: true; the input reads as it did. -/
def lossNilSpec : ChangeSpec := { name := "lossNil", fn := fun _ => fun
  | [d1, d2, d3] => { results := [.lit (.bool true)], args := [d1, d2, d3] }
  | _ => none }
def lossNilRow : OpenClaim := { program := "ytafkndhnbnpahaagreat", sum := "2a775dd87bf596be4269f39622497b1b82a19228be0bd3b382771abe91c3cb1e", func := "peregrine/peregrinelaw13.LossNil", spec := "lossNil", inPlace := ["internal/abi.NoEscape"], unfollowed := true, recurses := true, apart := false }
def LossNilSaid : Prop := lossNilRow.holds Tryz.pinned (OpenSpec.ofChange lossNilSpec)

/-- ITS FALSE NEIGHBOUR: 'it returns false'. Refute it at one input. -/
def lossNilWrong : ChangeSpec := { name := "lossNil", fn := fun _ => fun
  | [d1, d2, d3] => { results := [.lit (.bool false)], args := [d1, d2, d3] }
  | _ => none }
def LossNilWrongFalsely : Prop := lossNilRow.holds Tryz.pinned (OpenSpec.ofChange lossNilWrong)

/-- 'peregrinelaw13.LossTracker': WHATEVER THE INPUT: true; the input reads as it did. -/
def lossTrackerSpec : ChangeSpec := { name := "lossTracker", fn := fun _ => fun
  | [d1, d2] => { results := [.lit (.bool true)], args := [d1, d2] }
  | _ => none }
def lossTrackerRow : OpenClaim := { program := "ytafkndhnbnpahaagreat", sum := "2a775dd87bf596be4269f39622497b1b82a19228be0bd3b382771abe91c3cb1e", func := "peregrine/peregrinelaw13.LossTracker", spec := "lossTracker", inPlace := ["internal/abi.NoEscape"], unfollowed := true, recurses := true, apart := false }
def LossTrackerSaid : Prop := lossTrackerRow.holds Tryz.pinned (OpenSpec.ofChange lossTrackerSpec)

/-- ITS FALSE NEIGHBOUR: 'it returns false'. Refute it at one input. -/
def lossTrackerWrong : ChangeSpec := { name := "lossTracker", fn := fun _ => fun
  | [d1, d2] => { results := [.lit (.bool false)], args := [d1, d2] }
  | _ => none }
def LossTrackerWrongFalsely : Prop := lossTrackerRow.holds Tryz.pinned (OpenSpec.ofChange lossTrackerWrong)

/- THE SECOND FORM. 'bulk': how many values and letters a reading holds, each counted each time it is reached (what is shared counts as often as it is met; a slice's spare places count too). A statement '..UptoSaid' is the law's where the arguments, and the package variables that the reading takes, are together of bulk at most 1048576: NARROWER than '..Said'. Prove '..Said' where nothing that the law and all that it calls make is longer than what came in: it says more and counts as full. Else prove '..UptoSaid'. A law counts once. -/
mutual
def uptoBulk {H : Type} : DataW H → Nat
  | .lit (.string bytes) => bytes.length + 1
  | .lit _ => 1
  | .nil => 1
  | .ptr d => uptoBulk d + 1
  | .slice elems spare => uptoBulkAll elems + uptoBulkAll spare + 1
  | .agg parts => uptoBulkAll parts + 1
  | .iface _ d => uptoBulk d + 1
  | .map entries => uptoBulkEntries entries + 1
  | .held _ => 1
def uptoBulkAll {H : Type} : List (DataW H) → Nat
  | [] => 0
  | d :: r => uptoBulk d + uptoBulkAll r
def uptoBulkEntries {H : Type} : List (Lit × DataW H) → Nat
  | [] => 0
  | x :: r => uptoBulkEntry x + uptoBulkEntries r
def uptoBulkEntry {H : Type} : Lit × DataW H → Nat
  | (.string bytes, d) => bytes.length + uptoBulk d + 1
  | (_, d) => uptoBulk d + 1
 end
def uptoSmall : (H : Type) → List (DataW H) → Bool := fun _ ds => decide (uptoBulkAll ds ≤ 1048576)
def OpenSpec.upto (s : _root_.Go.ChangeSpec) : _root_.Go.OpenSpec := { _root_.Go.OpenSpec.ofChange s with cond := some uptoSmall }

/-- 'peregrinelaw13.LossOnlyWithCause', WHERE WHAT IT READS IS OF BULK AT MOST 1048576: true; the input reads as it did. -/
def lossOnlyWithCauseUptoRow : OpenClaim := { program := "ytafkndhnbnpahaagreat", sum := "2a775dd87bf596be4269f39622497b1b82a19228be0bd3b382771abe91c3cb1e", func := "peregrine/peregrinelaw13.LossOnlyWithCause", spec := "lossOnlyWithCause", inPlace := ["internal/abi.NoEscape"], unfollowed := true, recurses := true, apart := false, narrowed := true }
def LossOnlyWithCauseUptoSaid : Prop := lossOnlyWithCauseUptoRow.holds Tryz.pinned (OpenSpec.upto lossOnlyWithCauseSpec)

/-- 'peregrinelaw13.LossRejectsUnsent', WHERE WHAT IT READS IS OF BULK AT MOST 1048576: true; the input reads as it did. -/
def lossRejectsUnsentUptoRow : OpenClaim := { program := "ytafkndhnbnpahaagreat", sum := "2a775dd87bf596be4269f39622497b1b82a19228be0bd3b382771abe91c3cb1e", func := "peregrine/peregrinelaw13.LossRejectsUnsent", spec := "lossRejectsUnsent", inPlace := ["internal/abi.NoEscape"], unfollowed := true, recurses := true, apart := false, narrowed := true }
def LossRejectsUnsentUptoSaid : Prop := lossRejectsUnsentUptoRow.holds Tryz.pinned (OpenSpec.upto lossRejectsUnsentSpec)

/-- 'peregrinelaw13.LossAckAgain', WHERE WHAT IT READS IS OF BULK AT MOST 1048576: true; the input reads as it did. -/
def lossAckAgainUptoRow : OpenClaim := { program := "ytafkndhnbnpahaagreat", sum := "2a775dd87bf596be4269f39622497b1b82a19228be0bd3b382771abe91c3cb1e", func := "peregrine/peregrinelaw13.LossAckAgain", spec := "lossAckAgain", inPlace := ["internal/abi.NoEscape"], unfollowed := true, recurses := true, apart := false, narrowed := true }
def LossAckAgainUptoSaid : Prop := lossAckAgainUptoRow.holds Tryz.pinned (OpenSpec.upto lossAckAgainSpec)

/-- 'peregrinelaw13.LossDeadline', WHERE WHAT IT READS IS OF BULK AT MOST 1048576: true; the input reads as it did. -/
def lossDeadlineUptoRow : OpenClaim := { program := "ytafkndhnbnpahaagreat", sum := "2a775dd87bf596be4269f39622497b1b82a19228be0bd3b382771abe91c3cb1e", func := "peregrine/peregrinelaw13.LossDeadline", spec := "lossDeadline", inPlace := ["internal/abi.NoEscape"], unfollowed := true, recurses := true, apart := false, narrowed := true }
def LossDeadlineUptoSaid : Prop := lossDeadlineUptoRow.holds Tryz.pinned (OpenSpec.upto lossDeadlineSpec)

/-- 'peregrinelaw13.LossMatchesReference', WHERE WHAT IT READS IS OF BULK AT MOST 1048576: true; the input reads as it did. -/
def lossMatchesReferenceUptoRow : OpenClaim := { program := "ytafkndhnbnpahaagreat", sum := "2a775dd87bf596be4269f39622497b1b82a19228be0bd3b382771abe91c3cb1e", func := "peregrine/peregrinelaw13.LossMatchesReference", spec := "lossMatchesReference", inPlace := ["internal/abi.NoEscape"], unfollowed := true, recurses := true, apart := false, narrowed := true }
def LossMatchesReferenceUptoSaid : Prop := lossMatchesReferenceUptoRow.holds Tryz.pinned (OpenSpec.upto lossMatchesReferenceSpec)

/-- 'peregrinelaw13.LossConservation', WHERE WHAT IT READS IS OF BULK AT MOST 1048576: true; the input reads as it did. -/
def lossConservationUptoRow : OpenClaim := { program := "ytafkndhnbnpahaagreat", sum := "2a775dd87bf596be4269f39622497b1b82a19228be0bd3b382771abe91c3cb1e", func := "peregrine/peregrinelaw13.LossConservation", spec := "lossConservation", inPlace := ["internal/abi.NoEscape"], unfollowed := true, recurses := true, apart := false, narrowed := true }
def LossConservationUptoSaid : Prop := lossConservationUptoRow.holds Tryz.pinned (OpenSpec.upto lossConservationSpec)

/-- 'peregrinelaw13.LossNil', WHERE WHAT IT READS IS OF BULK AT MOST 1048576: true; the input reads as it did. -/
def lossNilUptoRow : OpenClaim := { program := "ytafkndhnbnpahaagreat", sum := "2a775dd87bf596be4269f39622497b1b82a19228be0bd3b382771abe91c3cb1e", func := "peregrine/peregrinelaw13.LossNil", spec := "lossNil", inPlace := ["internal/abi.NoEscape"], unfollowed := true, recurses := true, apart := false, narrowed := true }
def LossNilUptoSaid : Prop := lossNilUptoRow.holds Tryz.pinned (OpenSpec.upto lossNilSpec)

/-- 'peregrinelaw13.LossTracker', WHERE WHAT IT READS IS OF BULK AT MOST 1048576: true; the input reads as it did. -/
def lossTrackerUptoRow : OpenClaim := { program := "ytafkndhnbnpahaagreat", sum := "2a775dd87bf596be4269f39622497b1b82a19228be0bd3b382771abe91c3cb1e", func := "peregrine/peregrinelaw13.LossTracker", spec := "lossTracker", inPlace := ["internal/abi.NoEscape"], unfollowed := true, recurses := true, apart := false, narrowed := true }
def LossTrackerUptoSaid : Prop := lossTrackerUptoRow.holds Tryz.pinned (OpenSpec.upto lossTrackerSpec)

end Rows
end Go.Proofs.YtafkndhnbnpahaaGreat
