/-
  No cell of these rows narrows 'for every input' (looked for: loops, veiled, ifaces, maps, wideKeys, modest, calm, conditions, laid).
  DERIVED. THE GIVEN ROWS OF THIS SEAT. 4 by the template 'for every input the law returns true; each argument reads behind the call as it read before'; 0 by the template 'total and deterministic' (their statements: YtieiplalnekmkaaTotals.lean).
  GIVEN WITH THE SEED: the statements are not yours to turn. If you find one false, say at which input.
  Laid BY PROGRAM, IN A SANDBOX (cutbox-rows.mjs): the forced cells as the released guide's own fill.sh prints them over the translation 85b9d37486ec5527… (all of the seat's roots in one cut). By AI agents, Wed Nov 11 2026. No macro, syntax, notation, axiom, sorry.
-/
import Derived.Test.YtieiplalnekmkaaChecked
import GoSem.Claim
import GoSem.ClaimJoined
import GoSem.ClaimMapViews
import Derived.JoinedTies
import Derived.KernelRfl
namespace Go.Proofs.Ytieiplalnekmkaa
/- THE CELL 'sum', in the pinned program and in every row, IS THE sha256 OF THE DUMP (.gsa) THAT YtieiplalnekmkaaProg.lean LOADS. Nothing in Lean hashes anything: it is a label: what it is worth is what the hold of that sum in a sandbox is worth. -/
noncomputable def Try.pinned : Pinned := { name := "ytieiplalnekmkaa", sum := "85b9d37486ec5527957232fccc5b1c07edd4eaf7ca637784fe39f3ceeb8b628d", checked := Try.checked }
namespace Rows
def none {H : Type} : Left H := { results := [], args := [] }

/-- 'peregrinelaw25.KeyPhaseUpdate': WHATEVER THE INPUT: true; the input reads as it did. -/
def keyPhaseUpdateSpec : ChangeSpec := { name := "keyPhaseUpdate", fn := fun _ => fun
  | [d1, d2, d3, d4, d5] => { results := [.lit (.bool true)], args := [d1, d2, d3, d4, d5] }
  | _ => none }
def keyPhaseUpdateRow : OpenClaim := { program := "ytieiplalnekmkaa", sum := "85b9d37486ec5527957232fccc5b1c07edd4eaf7ca637784fe39f3ceeb8b628d", func := "peregrine/peregrinelaw25.KeyPhaseUpdate", spec := "keyPhaseUpdate", unfollowed := true, recurses := true, apart := false }
def KeyPhaseUpdateSaid : Prop := keyPhaseUpdateRow.holds Try.pinned (OpenSpec.ofChange keyPhaseUpdateSpec)

/-- ITS FALSE NEIGHBOUR: 'it returns false'. Refute it at one input. -/
def keyPhaseUpdateWrong : ChangeSpec := { name := "keyPhaseUpdate", fn := fun _ => fun
  | [d1, d2, d3, d4, d5] => { results := [.lit (.bool false)], args := [d1, d2, d3, d4, d5] }
  | _ => none }
def KeyPhaseUpdateWrongFalsely : Prop := keyPhaseUpdateRow.holds Try.pinned (OpenSpec.ofChange keyPhaseUpdateWrong)

/-- 'peregrinelaw25.KeyPhaseOrder': WHATEVER THE INPUT: true; the input reads as it did. -/
def keyPhaseOrderSpec : ChangeSpec := { name := "keyPhaseOrder", fn := fun _ => fun
  | [d1, d2, d3, d4, d5, d6] => { results := [.lit (.bool true)], args := [d1, d2, d3, d4, d5, d6] }
  | _ => none }
def keyPhaseOrderRow : OpenClaim := { program := "ytieiplalnekmkaa", sum := "85b9d37486ec5527957232fccc5b1c07edd4eaf7ca637784fe39f3ceeb8b628d", func := "peregrine/peregrinelaw25.KeyPhaseOrder", spec := "keyPhaseOrder", unfollowed := true, recurses := true, apart := false }
def KeyPhaseOrderSaid : Prop := keyPhaseOrderRow.holds Try.pinned (OpenSpec.ofChange keyPhaseOrderSpec)

/-- ITS FALSE NEIGHBOUR: 'it returns false'. Refute it at one input. -/
def keyPhaseOrderWrong : ChangeSpec := { name := "keyPhaseOrder", fn := fun _ => fun
  | [d1, d2, d3, d4, d5, d6] => { results := [.lit (.bool false)], args := [d1, d2, d3, d4, d5, d6] }
  | _ => none }
def KeyPhaseOrderWrongFalsely : Prop := keyPhaseOrderRow.holds Try.pinned (OpenSpec.ofChange keyPhaseOrderWrong)

/-- 'peregrinelaw25.KeyPhaseOldKeys': WHATEVER THE INPUT: true; the input reads as it did. -/
def keyPhaseOldKeysSpec : ChangeSpec := { name := "keyPhaseOldKeys", fn := fun _ => fun
  | [d1, d2, d3, d4] => { results := [.lit (.bool true)], args := [d1, d2, d3, d4] }
  | _ => none }
def keyPhaseOldKeysRow : OpenClaim := { program := "ytieiplalnekmkaa", sum := "85b9d37486ec5527957232fccc5b1c07edd4eaf7ca637784fe39f3ceeb8b628d", func := "peregrine/peregrinelaw25.KeyPhaseOldKeys", spec := "keyPhaseOldKeys", unfollowed := true, recurses := true, apart := false }
def KeyPhaseOldKeysSaid : Prop := keyPhaseOldKeysRow.holds Try.pinned (OpenSpec.ofChange keyPhaseOldKeysSpec)

/-- ITS FALSE NEIGHBOUR: 'it returns false'. Refute it at one input. -/
def keyPhaseOldKeysWrong : ChangeSpec := { name := "keyPhaseOldKeys", fn := fun _ => fun
  | [d1, d2, d3, d4] => { results := [.lit (.bool false)], args := [d1, d2, d3, d4] }
  | _ => none }
def KeyPhaseOldKeysWrongFalsely : Prop := keyPhaseOldKeysRow.holds Try.pinned (OpenSpec.ofChange keyPhaseOldKeysWrong)

/-- 'peregrinelaw25.KeyPhaseKeys': WHATEVER THE INPUT: true; the input reads as it did. -/
def keyPhaseKeysSpec : ChangeSpec := { name := "keyPhaseKeys", fn := fun _ => fun
  | [d1, d2, d3] => { results := [.lit (.bool true)], args := [d1, d2, d3] }
  | _ => none }
def keyPhaseKeysRow : OpenClaim := { program := "ytieiplalnekmkaa", sum := "85b9d37486ec5527957232fccc5b1c07edd4eaf7ca637784fe39f3ceeb8b628d", func := "peregrine/peregrinelaw25.KeyPhaseKeys", spec := "keyPhaseKeys", unfollowed := true, recurses := true, apart := false }
def KeyPhaseKeysSaid : Prop := keyPhaseKeysRow.holds Try.pinned (OpenSpec.ofChange keyPhaseKeysSpec)

/-- ITS FALSE NEIGHBOUR: 'it returns false'. Refute it at one input. -/
def keyPhaseKeysWrong : ChangeSpec := { name := "keyPhaseKeys", fn := fun _ => fun
  | [d1, d2, d3] => { results := [.lit (.bool false)], args := [d1, d2, d3] }
  | _ => none }
def KeyPhaseKeysWrongFalsely : Prop := keyPhaseKeysRow.holds Try.pinned (OpenSpec.ofChange keyPhaseKeysWrong)

/- THE SECOND FORM. 'bulk': how many values and letters a reading holds, each counted each time it is reached (what is shared counts as often as it is met; a slice's spare places count too). A statement '..UptoSaid' is the law's where the arguments, and the package variables that the reading takes, are together of bulk at most 1048576: NARROWER than '..Said'. Prove '..Said' where nothing that the law and all that it calls make is longer than what came in: it says more and counts as full. Else prove '..UptoSaid'. A law counts once. -/
mutual
def uptoBulk {H : Type} : DataW H → Nat
  | .lit (.string bytes) => bytes.length + 1
  | .lit _ => 1
  | .nil => 1
  | .ptr d => uptoBulk d + 1
  | .slice elems spare => uptoBulkAll elems + uptoBulkAll spare + 1
  | .agg parts => uptoBulkAll parts + 1
  | .iface _ d => uptoBulk d + 1
  | .map entries => uptoBulkEntries entries + 1
  | .held _ => 1
def uptoBulkAll {H : Type} : List (DataW H) → Nat
  | [] => 0
  | d :: r => uptoBulk d + uptoBulkAll r
def uptoBulkEntries {H : Type} : List (Lit × DataW H) → Nat
  | [] => 0
  | x :: r => uptoBulkEntry x + uptoBulkEntries r
def uptoBulkEntry {H : Type} : Lit × DataW H → Nat
  | (.string bytes, d) => bytes.length + uptoBulk d + 1
  | (_, d) => uptoBulk d + 1
 end
def uptoSmall : (H : Type) → List (DataW H) → Bool := fun _ ds => decide (uptoBulkAll ds ≤ 1048576)
def OpenSpec.upto (s : _root_.Go.ChangeSpec) : _root_.Go.OpenSpec := { _root_.Go.OpenSpec.ofChange s with cond := some uptoSmall }

/-- 'peregrinelaw25.KeyPhaseUpdate', WHERE WHAT IT READS IS OF BULK AT MOST 1048576: true; the input reads as it did. -/
def keyPhaseUpdateUptoRow : OpenClaim := { program := "ytieiplalnekmkaa", sum := "85b9d37486ec5527957232fccc5b1c07edd4eaf7ca637784fe39f3ceeb8b628d", func := "peregrine/peregrinelaw25.KeyPhaseUpdate", spec := "keyPhaseUpdate", unfollowed := true, recurses := true, apart := false, narrowed := true }
def KeyPhaseUpdateUptoSaid : Prop := keyPhaseUpdateUptoRow.holds Try.pinned (OpenSpec.upto keyPhaseUpdateSpec)

/-- 'peregrinelaw25.KeyPhaseOrder', WHERE WHAT IT READS IS OF BULK AT MOST 1048576: true; the input reads as it did. -/
def keyPhaseOrderUptoRow : OpenClaim := { program := "ytieiplalnekmkaa", sum := "85b9d37486ec5527957232fccc5b1c07edd4eaf7ca637784fe39f3ceeb8b628d", func := "peregrine/peregrinelaw25.KeyPhaseOrder", spec := "keyPhaseOrder", unfollowed := true, recurses := true, apart := false, narrowed := true }
def KeyPhaseOrderUptoSaid : Prop := keyPhaseOrderUptoRow.holds Try.pinned (OpenSpec.upto keyPhaseOrderSpec)

/-- 'peregrinelaw25.KeyPhaseOldKeys', WHERE WHAT IT READS IS OF BULK AT MOST 1048576: true; the input reads as it did. -/
def keyPhaseOldKeysUptoRow : OpenClaim := { program := "ytieiplalnekmkaa", sum := "85b9d37486ec5527957232fccc5b1c07edd4eaf7ca637784fe39f3ceeb8b628d", func := "peregrine/peregrinelaw25.KeyPhaseOldKeys", spec := "keyPhaseOldKeys", unfollowed := true, recurses := true, apart := false, narrowed := true }
def KeyPhaseOldKeysUptoSaid : Prop := keyPhaseOldKeysUptoRow.holds Try.pinned (OpenSpec.upto keyPhaseOldKeysSpec)

/-- 'peregrinelaw25.KeyPhaseKeys', WHERE WHAT IT READS IS OF BULK AT MOST 1048576: true; the input reads as it did. -/
def keyPhaseKeysUptoRow : OpenClaim := { program := "ytieiplalnekmkaa", sum := "85b9d37486ec5527957232fccc5b1c07edd4eaf7ca637784fe39f3ceeb8b628d", func := "peregrine/peregrinelaw25.KeyPhaseKeys", spec := "keyPhaseKeys", unfollowed := true, recurses := true, apart := false, narrowed := true }
def KeyPhaseKeysUptoSaid : Prop := keyPhaseKeysUptoRow.holds Try.pinned (OpenSpec.upto keyPhaseKeysSpec)

end Rows
end Go.Proofs.Ytieiplalnekmkaa
