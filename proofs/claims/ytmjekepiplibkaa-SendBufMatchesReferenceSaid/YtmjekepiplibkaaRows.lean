/-
  No cell of these rows narrows 'for every input' (looked for: loops, veiled, ifaces, maps, wideKeys, modest, calm, conditions, laid).
  DERIVED. THE GIVEN ROWS OF THIS SEAT. 6 by the template 'for every input the law returns true; each argument reads behind the call as it read before'; 0 by the template 'total and deterministic' (their statements: YtmjekepiplibkaaTotals.lean).
  GIVEN WITH THE SEED: the statements are not yours to turn. If you find one false, say at which input.
  Laid BY PROGRAM, IN A SANDBOX (cutbox-rows.mjs): the forced cells as the released guide's own fill.sh prints them over the translation 0127daaab815cc4b… (all of the seat's roots in one cut). By AI agents, Wed Nov 11 2026. No macro, syntax, notation, axiom, sorry.
-/
import Derived.Test.YtmjekepiplibkaaChecked
import GoSem.Claim
import GoSem.ClaimJoined
import GoSem.ClaimMapViews
import Derived.JoinedTies
import Derived.KernelRfl
namespace Go.Proofs.Ytmjekepiplibkaa
/- THE CELL 'sum', in the pinned program and in every row, IS THE sha256 OF THE DUMP (.gsa) THAT YtmjekepiplibkaaProg.lean LOADS. Nothing in Lean hashes anything: it is a label: what it is worth is what the hold of that sum in a sandbox is worth. -/
noncomputable def Try.pinned : Pinned := { name := "ytmjekepiplibkaa", sum := "0127daaab815cc4be84aef849131ee253b9837ed5fc69581c5b9eae33727076f", checked := Try.checked }
namespace Rows
def none {H : Type} : Left H := { results := [], args := [] }

/-- 'peregrinelaw17.SendBufDelivers': WHATEVER THE INPUT: true; the input reads as it did. -/
def sendBufDeliversSpec : ChangeSpec := { name := "sendBufDelivers", fn := fun _ => fun
  | [d1, d2, d3, d4] => { results := [.lit (.bool true)], args := [d1, d2, d3, d4] }
  | _ => none }
def sendBufDeliversRow : OpenClaim := { program := "ytmjekepiplibkaa", sum := "0127daaab815cc4be84aef849131ee253b9837ed5fc69581c5b9eae33727076f", func := "peregrine/peregrinelaw17.SendBufDelivers", spec := "sendBufDelivers", unfollowed := true, recurses := true, apart := false }
def SendBufDeliversSaid : Prop := sendBufDeliversRow.holds Try.pinned (OpenSpec.ofChange sendBufDeliversSpec)

/-- ITS FALSE NEIGHBOUR: 'it returns false'. Refute it at one input. -/
def sendBufDeliversWrong : ChangeSpec := { name := "sendBufDelivers", fn := fun _ => fun
  | [d1, d2, d3, d4] => { results := [.lit (.bool false)], args := [d1, d2, d3, d4] }
  | _ => none }
def SendBufDeliversWrongFalsely : Prop := sendBufDeliversRow.holds Try.pinned (OpenSpec.ofChange sendBufDeliversWrong)

/-- 'peregrinelaw17.SendBufFrames': WHATEVER THE INPUT: true; the input reads as it did. -/
def sendBufFramesSpec : ChangeSpec := { name := "sendBufFrames", fn := fun _ => fun
  | [d1, d2] => { results := [.lit (.bool true)], args := [d1, d2] }
  | _ => none }
def sendBufFramesRow : OpenClaim := { program := "ytmjekepiplibkaa", sum := "0127daaab815cc4be84aef849131ee253b9837ed5fc69581c5b9eae33727076f", func := "peregrine/peregrinelaw17.SendBufFrames", spec := "sendBufFrames", unfollowed := true, recurses := true, apart := false }
def SendBufFramesSaid : Prop := sendBufFramesRow.holds Try.pinned (OpenSpec.ofChange sendBufFramesSpec)

/-- ITS FALSE NEIGHBOUR: 'it returns false'. Refute it at one input. -/
def sendBufFramesWrong : ChangeSpec := { name := "sendBufFrames", fn := fun _ => fun
  | [d1, d2] => { results := [.lit (.bool false)], args := [d1, d2] }
  | _ => none }
def SendBufFramesWrongFalsely : Prop := sendBufFramesRow.holds Try.pinned (OpenSpec.ofChange sendBufFramesWrong)

/-- 'peregrinelaw17.SendBufCredit': WHATEVER THE INPUT: true; the input reads as it did. -/
def sendBufCreditSpec : ChangeSpec := { name := "sendBufCredit", fn := fun _ => fun
  | [d1, d2] => { results := [.lit (.bool true)], args := [d1, d2] }
  | _ => none }
def sendBufCreditRow : OpenClaim := { program := "ytmjekepiplibkaa", sum := "0127daaab815cc4be84aef849131ee253b9837ed5fc69581c5b9eae33727076f", func := "peregrine/peregrinelaw17.SendBufCredit", spec := "sendBufCredit", unfollowed := true, recurses := true, apart := false }
def SendBufCreditSaid : Prop := sendBufCreditRow.holds Try.pinned (OpenSpec.ofChange sendBufCreditSpec)

/-- ITS FALSE NEIGHBOUR: 'it returns false'. Refute it at one input. -/
def sendBufCreditWrong : ChangeSpec := { name := "sendBufCredit", fn := fun _ => fun
  | [d1, d2] => { results := [.lit (.bool false)], args := [d1, d2] }
  | _ => none }
def SendBufCreditWrongFalsely : Prop := sendBufCreditRow.holds Try.pinned (OpenSpec.ofChange sendBufCreditWrong)

/-- 'peregrinelaw17.SendBufSpace': WHATEVER THE INPUT: true; the input reads as it did. -/
def sendBufSpaceSpec : ChangeSpec := { name := "sendBufSpace", fn := fun _ => fun
  | [d1, d2, d3] => { results := [.lit (.bool true)], args := [d1, d2, d3] }
  | _ => none }
def sendBufSpaceRow : OpenClaim := { program := "ytmjekepiplibkaa", sum := "0127daaab815cc4be84aef849131ee253b9837ed5fc69581c5b9eae33727076f", func := "peregrine/peregrinelaw17.SendBufSpace", spec := "sendBufSpace", unfollowed := true, recurses := true, apart := false }
def SendBufSpaceSaid : Prop := sendBufSpaceRow.holds Try.pinned (OpenSpec.ofChange sendBufSpaceSpec)

/-- ITS FALSE NEIGHBOUR: 'it returns false'. Refute it at one input. -/
def sendBufSpaceWrong : ChangeSpec := { name := "sendBufSpace", fn := fun _ => fun
  | [d1, d2, d3] => { results := [.lit (.bool false)], args := [d1, d2, d3] }
  | _ => none }
def SendBufSpaceWrongFalsely : Prop := sendBufSpaceRow.holds Try.pinned (OpenSpec.ofChange sendBufSpaceWrong)

/-- 'peregrinelaw17.SendBufRejects': WHATEVER THE INPUT: true; the input reads as it did. -/
def sendBufRejectsSpec : ChangeSpec := { name := "sendBufRejects", fn := fun _ => fun
  | [d1, d2, d3] => { results := [.lit (.bool true)], args := [d1, d2, d3] }
  | _ => none }
def sendBufRejectsRow : OpenClaim := { program := "ytmjekepiplibkaa", sum := "0127daaab815cc4be84aef849131ee253b9837ed5fc69581c5b9eae33727076f", func := "peregrine/peregrinelaw17.SendBufRejects", spec := "sendBufRejects", unfollowed := true, recurses := true, apart := false }
def SendBufRejectsSaid : Prop := sendBufRejectsRow.holds Try.pinned (OpenSpec.ofChange sendBufRejectsSpec)

/-- ITS FALSE NEIGHBOUR: 'it returns false'. Refute it at one input. -/
def sendBufRejectsWrong : ChangeSpec := { name := "sendBufRejects", fn := fun _ => fun
  | [d1, d2, d3] => { results := [.lit (.bool false)], args := [d1, d2, d3] }
  | _ => none }
def SendBufRejectsWrongFalsely : Prop := sendBufRejectsRow.holds Try.pinned (OpenSpec.ofChange sendBufRejectsWrong)

/-- 'peregrinelaw17.SendBufMatchesReference': WHATEVER THE INPUT: true; the input reads as it did. -/
def sendBufMatchesReferenceSpec : ChangeSpec := { name := "sendBufMatchesReference", fn := fun _ => fun
  | [d1, d2] => { results := [.lit (.bool true)], args := [d1, d2] }
  | _ => none }
def sendBufMatchesReferenceRow : OpenClaim := { program := "ytmjekepiplibkaa", sum := "0127daaab815cc4be84aef849131ee253b9837ed5fc69581c5b9eae33727076f", func := "peregrine/peregrinelaw17.SendBufMatchesReference", spec := "sendBufMatchesReference", unfollowed := true, recurses := true, apart := false }
def SendBufMatchesReferenceSaid : Prop := sendBufMatchesReferenceRow.holds Try.pinned (OpenSpec.ofChange sendBufMatchesReferenceSpec)

/-- ITS FALSE NEIGHBOUR: 'it returns false'. Refute it at one input. -/
def sendBufMatchesReferenceWrong : ChangeSpec := { name := "sendBufMatchesReference", fn := fun _ => fun
  | [d1, d2] => { results := [.lit (.bool false)], args := [d1, d2] }
  | _ => none }
def SendBufMatchesReferenceWrongFalsely : Prop := sendBufMatchesReferenceRow.holds Try.pinned (OpenSpec.ofChange sendBufMatchesReferenceWrong)

/- THE SECOND FORM. 'bulk': how many values and letters a reading holds, each counted each time it is reached (what is shared counts as often as it is met; a slice's spare places count too). A statement '..UptoSaid' is the law's where the arguments, and the package variables that the reading takes, are together of bulk at most 1048576: NARROWER than '..Said'. Prove '..Said' where nothing that the law and all that it calls make is longer than what came in: it says more and counts as full. Else prove '..UptoSaid'. A law counts once. -/
mutual
def uptoBulk {H : Type} : DataW H → Nat
  | .lit (.string bytes) => bytes.length + 1
  | .lit _ => 1
  | .nil => 1
  | .ptr d => uptoBulk d + 1
  | .slice elems spare => uptoBulkAll elems + uptoBulkAll spare + 1
  | .agg parts => uptoBulkAll parts + 1
  | .iface _ d => uptoBulk d + 1
  | .map entries => uptoBulkEntries entries + 1
  | .held _ => 1
def uptoBulkAll {H : Type} : List (DataW H) → Nat
  | [] => 0
  | d :: r => uptoBulk d + uptoBulkAll r
def uptoBulkEntries {H : Type} : List (Lit × DataW H) → Nat
  | [] => 0
  | x :: r => uptoBulkEntry x + uptoBulkEntries r
def uptoBulkEntry {H : Type} : Lit × DataW H → Nat
  | (.string bytes, d) => bytes.length + uptoBulk d + 1
  | (_, d) => uptoBulk d + 1
 end
def uptoSmall : (H : Type) → List (DataW H) → Bool := fun _ ds => decide (uptoBulkAll ds ≤ 1048576)
def OpenSpec.upto (s : _root_.Go.ChangeSpec) : _root_.Go.OpenSpec := { _root_.Go.OpenSpec.ofChange s with cond := some uptoSmall }

/-- 'peregrinelaw17.SendBufDelivers', WHERE WHAT IT READS IS OF BULK AT MOST 1048576: true; the input reads as it did. -/
def sendBufDeliversUptoRow : OpenClaim := { program := "ytmjekepiplibkaa", sum := "0127daaab815cc4be84aef849131ee253b9837ed5fc69581c5b9eae33727076f", func := "peregrine/peregrinelaw17.SendBufDelivers", spec := "sendBufDelivers", unfollowed := true, recurses := true, apart := false, narrowed := true }
def SendBufDeliversUptoSaid : Prop := sendBufDeliversUptoRow.holds Try.pinned (OpenSpec.upto sendBufDeliversSpec)

/-- 'peregrinelaw17.SendBufFrames', WHERE WHAT IT READS IS OF BULK AT MOST 1048576: true; the input reads as it did. -/
def sendBufFramesUptoRow : OpenClaim := { program := "ytmjekepiplibkaa", sum := "0127daaab815cc4be84aef849131ee253b9837ed5fc69581c5b9eae33727076f", func := "peregrine/peregrinelaw17.SendBufFrames", spec := "sendBufFrames", unfollowed := true, recurses := true, apart := false, narrowed := true }
def SendBufFramesUptoSaid : Prop := sendBufFramesUptoRow.holds Try.pinned (OpenSpec.upto sendBufFramesSpec)

/-- 'peregrinelaw17.SendBufCredit', WHERE WHAT IT READS IS OF BULK AT MOST 1048576: true; the input reads as it did. -/
def sendBufCreditUptoRow : OpenClaim := { program := "ytmjekepiplibkaa", sum := "0127daaab815cc4be84aef849131ee253b9837ed5fc69581c5b9eae33727076f", func := "peregrine/peregrinelaw17.SendBufCredit", spec := "sendBufCredit", unfollowed := true, recurses := true, apart := false, narrowed := true }
def SendBufCreditUptoSaid : Prop := sendBufCreditUptoRow.holds Try.pinned (OpenSpec.upto sendBufCreditSpec)

/-- 'peregrinelaw17.SendBufSpace', WHERE WHAT IT READS IS OF BULK AT MOST 1048576: true; the input reads as it did. -/
def sendBufSpaceUptoRow : OpenClaim := { program := "ytmjekepiplibkaa", sum := "0127daaab815cc4be84aef849131ee253b9837ed5fc69581c5b9eae33727076f", func := "peregrine/peregrinelaw17.SendBufSpace", spec := "sendBufSpace", unfollowed := true, recurses := true, apart := false, narrowed := true }
def SendBufSpaceUptoSaid : Prop := sendBufSpaceUptoRow.holds Try.pinned (OpenSpec.upto sendBufSpaceSpec)

/-- 'peregrinelaw17.SendBufRejects', WHERE WHAT IT READS IS OF BULK AT MOST 1048576: true; the input reads as it did. -/
def sendBufRejectsUptoRow : OpenClaim := { program := "ytmjekepiplibkaa", sum := "0127daaab815cc4be84aef849131ee253b9837ed5fc69581c5b9eae33727076f", func := "peregrine/peregrinelaw17.SendBufRejects", spec := "sendBufRejects", unfollowed := true, recurses := true, apart := false, narrowed := true }
def SendBufRejectsUptoSaid : Prop := sendBufRejectsUptoRow.holds Try.pinned (OpenSpec.upto sendBufRejectsSpec)

/-- 'peregrinelaw17.SendBufMatchesReference', WHERE WHAT IT READS IS OF BULK AT MOST 1048576: true; the input reads as it did. -/
def sendBufMatchesReferenceUptoRow : OpenClaim := { program := "ytmjekepiplibkaa", sum := "0127daaab815cc4be84aef849131ee253b9837ed5fc69581c5b9eae33727076f", func := "peregrine/peregrinelaw17.SendBufMatchesReference", spec := "sendBufMatchesReference", unfollowed := true, recurses := true, apart := false, narrowed := true }
def SendBufMatchesReferenceUptoSaid : Prop := sendBufMatchesReferenceUptoRow.holds Try.pinned (OpenSpec.upto sendBufMatchesReferenceSpec)

end Rows
end Go.Proofs.Ytmjekepiplibkaa
