/-
  No cell of these rows narrows 'for every input' (looked for: loops, veiled, ifaces, maps, wideKeys, modest, calm, conditions, laid).
  DERIVED. THE GIVEN ROWS OF THIS SEAT. 5 by the template 'for every input the law returns true; each argument reads behind the call as it read before'; 0 by the template 'total and deterministic' (their statements: YtcgcgdbcbmdahaaTotals.lean).
  GIVEN WITH THE SEED: the statements are not yours to turn. If you find one false, say at which input.
  Laid BY PROGRAM, IN A SANDBOX (cutbox-rows.mjs): the forced cells as the released guide's own fill.sh prints them over the translation e77ccaf07f8fe1b2… (all of the seat's roots in one cut). By AI agents, Wed Nov 11 2026. No macro, syntax, notation, axiom, sorry.
-/
import Derived.Test.YtcgcgdbcbmdahaaChecked
import GoSem.Claim
import GoSem.ClaimJoined
import GoSem.ClaimMapViews
import Derived.JoinedTies
import Derived.KernelRfl
namespace Go.Proofs.Ytcgcgdbcbmdahaa
/- THE CELL 'sum', in the pinned program and in every row, IS THE sha256 OF THE DUMP (.gsa) THAT YtcgcgdbcbmdahaaProg.lean LOADS. Nothing in Lean hashes anything: it is a label: what it is worth is what the hold of that sum in a sandbox is worth. -/
noncomputable def Try.pinned : Pinned := { name := "ytcgcgdbcbmdahaa", sum := "e77ccaf07f8fe1b21649534f83f73bb3067beb4bf98a4ec3eafcc056133ee22f", checked := Try.checked }
namespace Rows
def none {H : Type} : Left H := { results := [], args := [] }

/-- 'peregrinelaw14.CongestionMatchesReference': WHATEVER THE INPUT: true; the input reads as it did. -/
def congestionMatchesReferenceSpec : ChangeSpec := { name := "congestionMatchesReference", fn := fun _ => fun
  | [d1, d2, d3] => { results := [.lit (.bool true)], args := [d1, d2, d3] }
  | _ => none }
def congestionMatchesReferenceRow : OpenClaim := { program := "ytcgcgdbcbmdahaa", sum := "e77ccaf07f8fe1b21649534f83f73bb3067beb4bf98a4ec3eafcc056133ee22f", func := "peregrine/peregrinelaw14.CongestionMatchesReference", spec := "congestionMatchesReference", unfollowed := true, recurses := true, apart := false }
def CongestionMatchesReferenceSaid : Prop := congestionMatchesReferenceRow.holds Try.pinned (OpenSpec.ofChange congestionMatchesReferenceSpec)

/-- ITS FALSE NEIGHBOUR: 'it returns false'. Refute it at one input. -/
def congestionMatchesReferenceWrong : ChangeSpec := { name := "congestionMatchesReference", fn := fun _ => fun
  | [d1, d2, d3] => { results := [.lit (.bool false)], args := [d1, d2, d3] }
  | _ => none }
def CongestionMatchesReferenceWrongFalsely : Prop := congestionMatchesReferenceRow.holds Try.pinned (OpenSpec.ofChange congestionMatchesReferenceWrong)

/-- 'peregrinelaw14.CongestionBounds': WHATEVER THE INPUT: true; the input reads as it did. -/
def congestionBoundsSpec : ChangeSpec := { name := "congestionBounds", fn := fun _ => fun
  | [d1, d2] => { results := [.lit (.bool true)], args := [d1, d2] }
  | _ => none }
def congestionBoundsRow : OpenClaim := { program := "ytcgcgdbcbmdahaa", sum := "e77ccaf07f8fe1b21649534f83f73bb3067beb4bf98a4ec3eafcc056133ee22f", func := "peregrine/peregrinelaw14.CongestionBounds", spec := "congestionBounds", unfollowed := true, recurses := true, apart := false }
def CongestionBoundsSaid : Prop := congestionBoundsRow.holds Try.pinned (OpenSpec.ofChange congestionBoundsSpec)

/-- ITS FALSE NEIGHBOUR: 'it returns false'. Refute it at one input. -/
def congestionBoundsWrong : ChangeSpec := { name := "congestionBounds", fn := fun _ => fun
  | [d1, d2] => { results := [.lit (.bool false)], args := [d1, d2] }
  | _ => none }
def CongestionBoundsWrongFalsely : Prop := congestionBoundsRow.holds Try.pinned (OpenSpec.ofChange congestionBoundsWrong)

/-- 'peregrinelaw14.CongestionHalvesOnce': WHATEVER THE INPUT: true; the input reads as it did. -/
def congestionHalvesOnceSpec : ChangeSpec := { name := "congestionHalvesOnce", fn := fun _ => fun
  | [d1, d2, d3, d4] => { results := [.lit (.bool true)], args := [d1, d2, d3, d4] }
  | _ => none }
def congestionHalvesOnceRow : OpenClaim := { program := "ytcgcgdbcbmdahaa", sum := "e77ccaf07f8fe1b21649534f83f73bb3067beb4bf98a4ec3eafcc056133ee22f", func := "peregrine/peregrinelaw14.CongestionHalvesOnce", spec := "congestionHalvesOnce", unfollowed := true, recurses := true, apart := false }
def CongestionHalvesOnceSaid : Prop := congestionHalvesOnceRow.holds Try.pinned (OpenSpec.ofChange congestionHalvesOnceSpec)

/-- ITS FALSE NEIGHBOUR: 'it returns false'. Refute it at one input. -/
def congestionHalvesOnceWrong : ChangeSpec := { name := "congestionHalvesOnce", fn := fun _ => fun
  | [d1, d2, d3, d4] => { results := [.lit (.bool false)], args := [d1, d2, d3, d4] }
  | _ => none }
def CongestionHalvesOnceWrongFalsely : Prop := congestionHalvesOnceRow.holds Try.pinned (OpenSpec.ofChange congestionHalvesOnceWrong)

/-- 'peregrinelaw14.CongestionSlowStart': WHATEVER THE INPUT: true; the input reads as it did. -/
def congestionSlowStartSpec : ChangeSpec := { name := "congestionSlowStart", fn := fun _ => fun
  | [d1, d2] => { results := [.lit (.bool true)], args := [d1, d2] }
  | _ => none }
def congestionSlowStartRow : OpenClaim := { program := "ytcgcgdbcbmdahaa", sum := "e77ccaf07f8fe1b21649534f83f73bb3067beb4bf98a4ec3eafcc056133ee22f", func := "peregrine/peregrinelaw14.CongestionSlowStart", spec := "congestionSlowStart", unfollowed := true, recurses := true, apart := false }
def CongestionSlowStartSaid : Prop := congestionSlowStartRow.holds Try.pinned (OpenSpec.ofChange congestionSlowStartSpec)

/-- ITS FALSE NEIGHBOUR: 'it returns false'. Refute it at one input. -/
def congestionSlowStartWrong : ChangeSpec := { name := "congestionSlowStart", fn := fun _ => fun
  | [d1, d2] => { results := [.lit (.bool false)], args := [d1, d2] }
  | _ => none }
def CongestionSlowStartWrongFalsely : Prop := congestionSlowStartRow.holds Try.pinned (OpenSpec.ofChange congestionSlowStartWrong)

/-- 'peregrinelaw14.CongestionPacing': WHATEVER THE INPUT: true; the input reads as it did. -/
def congestionPacingSpec : ChangeSpec := { name := "congestionPacing", fn := fun _ => fun
  | [d1, d2, d3] => { results := [.lit (.bool true)], args := [d1, d2, d3] }
  | _ => none }
def congestionPacingRow : OpenClaim := { program := "ytcgcgdbcbmdahaa", sum := "e77ccaf07f8fe1b21649534f83f73bb3067beb4bf98a4ec3eafcc056133ee22f", func := "peregrine/peregrinelaw14.CongestionPacing", spec := "congestionPacing", unfollowed := true, recurses := true, apart := false }
def CongestionPacingSaid : Prop := congestionPacingRow.holds Try.pinned (OpenSpec.ofChange congestionPacingSpec)

/-- ITS FALSE NEIGHBOUR: 'it returns false'. Refute it at one input. -/
def congestionPacingWrong : ChangeSpec := { name := "congestionPacing", fn := fun _ => fun
  | [d1, d2, d3] => { results := [.lit (.bool false)], args := [d1, d2, d3] }
  | _ => none }
def CongestionPacingWrongFalsely : Prop := congestionPacingRow.holds Try.pinned (OpenSpec.ofChange congestionPacingWrong)

/- THE SECOND FORM. 'bulk': how many values and letters a reading holds, each counted each time it is reached (what is shared counts as often as it is met; a slice's spare places count too). A statement '..UptoSaid' is the law's where the arguments, and the package variables that the reading takes, are together of bulk at most 1048576: NARROWER than '..Said'. Prove '..Said' where nothing that the law and all that it calls make is longer than what came in: it says more and counts as full. Else prove '..UptoSaid'. A law counts once. -/
mutual
def uptoBulk {H : Type} : DataW H → Nat
  | .lit (.string bytes) => bytes.length + 1
  | .lit _ => 1
  | .nil => 1
  | .ptr d => uptoBulk d + 1
  | .slice elems spare => uptoBulkAll elems + uptoBulkAll spare + 1
  | .agg parts => uptoBulkAll parts + 1
  | .iface _ d => uptoBulk d + 1
  | .map entries => uptoBulkEntries entries + 1
  | .held _ => 1
def uptoBulkAll {H : Type} : List (DataW H) → Nat
  | [] => 0
  | d :: r => uptoBulk d + uptoBulkAll r
def uptoBulkEntries {H : Type} : List (Lit × DataW H) → Nat
  | [] => 0
  | x :: r => uptoBulkEntry x + uptoBulkEntries r
def uptoBulkEntry {H : Type} : Lit × DataW H → Nat
  | (.string bytes, d) => bytes.length + uptoBulk d + 1
  | (_, d) => uptoBulk d + 1
 end
def uptoSmall : (H : Type) → List (DataW H) → Bool := fun _ ds => decide (uptoBulkAll ds ≤ 1048576)
def OpenSpec.upto (s : _root_.Go.ChangeSpec) : _root_.Go.OpenSpec := { _root_.Go.OpenSpec.ofChange s with cond := some uptoSmall }

/-- 'peregrinelaw14.CongestionMatchesReference', WHERE WHAT IT READS IS OF BULK AT MOST 1048576: true; the input reads as it did. -/
def congestionMatchesReferenceUptoRow : OpenClaim := { program := "ytcgcgdbcbmdahaa", sum := "e77ccaf07f8fe1b21649534f83f73bb3067beb4bf98a4ec3eafcc056133ee22f", func := "peregrine/peregrinelaw14.CongestionMatchesReference", spec := "congestionMatchesReference", unfollowed := true, recurses := true, apart := false, narrowed := true }
def CongestionMatchesReferenceUptoSaid : Prop := congestionMatchesReferenceUptoRow.holds Try.pinned (OpenSpec.upto congestionMatchesReferenceSpec)

/-- 'peregrinelaw14.CongestionBounds', WHERE WHAT IT READS IS OF BULK AT MOST 1048576: true; the input reads as it did. -/
def congestionBoundsUptoRow : OpenClaim := { program := "ytcgcgdbcbmdahaa", sum := "e77ccaf07f8fe1b21649534f83f73bb3067beb4bf98a4ec3eafcc056133ee22f", func := "peregrine/peregrinelaw14.CongestionBounds", spec := "congestionBounds", unfollowed := true, recurses := true, apart := false, narrowed := true }
def CongestionBoundsUptoSaid : Prop := congestionBoundsUptoRow.holds Try.pinned (OpenSpec.upto congestionBoundsSpec)

/-- 'peregrinelaw14.CongestionHalvesOnce', WHERE WHAT IT READS IS OF BULK AT MOST 1048576: true; the input reads as it did. -/
def congestionHalvesOnceUptoRow : OpenClaim := { program := "ytcgcgdbcbmdahaa", sum := "e77ccaf07f8fe1b21649534f83f73bb3067beb4bf98a4ec3eafcc056133ee22f", func := "peregrine/peregrinelaw14.CongestionHalvesOnce", spec := "congestionHalvesOnce", unfollowed := true, recurses := true, apart := false, narrowed := true }
def CongestionHalvesOnceUptoSaid : Prop := congestionHalvesOnceUptoRow.holds Try.pinned (OpenSpec.upto congestionHalvesOnceSpec)

/-- 'peregrinelaw14.CongestionSlowStart', WHERE WHAT IT READS IS OF BULK AT MOST 1048576: true; the input reads as it did. -/
def congestionSlowStartUptoRow : OpenClaim := { program := "ytcgcgdbcbmdahaa", sum := "e77ccaf07f8fe1b21649534f83f73bb3067beb4bf98a4ec3eafcc056133ee22f", func := "peregrine/peregrinelaw14.CongestionSlowStart", spec := "congestionSlowStart", unfollowed := true, recurses := true, apart := false, narrowed := true }
def CongestionSlowStartUptoSaid : Prop := congestionSlowStartUptoRow.holds Try.pinned (OpenSpec.upto congestionSlowStartSpec)

/-- 'peregrinelaw14.CongestionPacing', WHERE WHAT IT READS IS OF BULK AT MOST 1048576: true; the input reads as it did. -/
def congestionPacingUptoRow : OpenClaim := { program := "ytcgcgdbcbmdahaa", sum := "e77ccaf07f8fe1b21649534f83f73bb3067beb4bf98a4ec3eafcc056133ee22f", func := "peregrine/peregrinelaw14.CongestionPacing", spec := "congestionPacing", unfollowed := true, recurses := true, apart := false, narrowed := true }
def CongestionPacingUptoSaid : Prop := congestionPacingUptoRow.holds Try.pinned (OpenSpec.upto congestionPacingSpec)

end Rows
end Go.Proofs.Ytcgcgdbcbmdahaa
