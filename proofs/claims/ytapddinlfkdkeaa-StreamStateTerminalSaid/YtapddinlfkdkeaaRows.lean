/-
  No cell of these rows narrows 'for every input' (looked for: loops, veiled, ifaces, maps, wideKeys, modest, calm, conditions, laid).
  DERIVED. THE GIVEN ROWS OF THIS SEAT. 4 by the template 'for every input the law returns true; each argument reads behind the call as it read before'; 0 by the template 'total and deterministic' (their statements: YtapddinlfkdkeaaTotals.lean).
  GIVEN WITH THE SEED: the statements are not yours to turn. If you find one false, say at which input.
  Laid BY PROGRAM, IN A SANDBOX (cutbox-rows.mjs): the forced cells as the released guide's own fill.sh prints them over the translation edf620934aa25d66… (all of the seat's roots in one cut). By AI agents, Wed Nov 11 2026. No macro, syntax, notation, axiom, sorry.
-/
import Derived.Test.YtapddinlfkdkeaaChecked
import GoSem.Claim
import GoSem.ClaimJoined
import GoSem.ClaimMapViews
import Derived.JoinedTies
import Derived.KernelRfl
namespace Go.Proofs.Ytapddinlfkdkeaa
/- THE CELL 'sum', in the pinned program and in every row, IS THE sha256 OF THE DUMP (.gsa) THAT YtapddinlfkdkeaaProg.lean LOADS. Nothing in Lean hashes anything: it is a label: what it is worth is what the hold of that sum in a sandbox is worth. -/
noncomputable def Try.pinned : Pinned := { name := "ytapddinlfkdkeaa", sum := "edf620934aa25d660dc20806cc8055b520b39b8b3ba7ba5d2d7af8bc8793c47d", checked := Try.checked }
namespace Rows
def none {H : Type} : Left H := { results := [], args := [] }

/-- 'peregrinelaw18.StreamStateMatchesReference': WHATEVER THE INPUT: true; the input reads as it did. -/
def streamStateMatchesReferenceSpec : ChangeSpec := { name := "streamStateMatchesReference", fn := fun _ => fun
  | [d1, d2] => { results := [.lit (.bool true)], args := [d1, d2] }
  | _ => none }
def streamStateMatchesReferenceRow : OpenClaim := { program := "ytapddinlfkdkeaa", sum := "edf620934aa25d660dc20806cc8055b520b39b8b3ba7ba5d2d7af8bc8793c47d", func := "peregrine/peregrinelaw18.StreamStateMatchesReference", spec := "streamStateMatchesReference", unfollowed := true, recurses := true, apart := false }
def StreamStateMatchesReferenceSaid : Prop := streamStateMatchesReferenceRow.holds Try.pinned (OpenSpec.ofChange streamStateMatchesReferenceSpec)

/-- ITS FALSE NEIGHBOUR: 'it returns false'. Refute it at one input. -/
def streamStateMatchesReferenceWrong : ChangeSpec := { name := "streamStateMatchesReference", fn := fun _ => fun
  | [d1, d2] => { results := [.lit (.bool false)], args := [d1, d2] }
  | _ => none }
def StreamStateMatchesReferenceWrongFalsely : Prop := streamStateMatchesReferenceRow.holds Try.pinned (OpenSpec.ofChange streamStateMatchesReferenceWrong)

/-- 'peregrinelaw18.StreamStateTerminal': WHATEVER THE INPUT: true; the input reads as it did. -/
def streamStateTerminalSpec : ChangeSpec := { name := "streamStateTerminal", fn := fun _ => fun
  | [d1, d2] => { results := [.lit (.bool true)], args := [d1, d2] }
  | _ => none }
def streamStateTerminalRow : OpenClaim := { program := "ytapddinlfkdkeaa", sum := "edf620934aa25d660dc20806cc8055b520b39b8b3ba7ba5d2d7af8bc8793c47d", func := "peregrine/peregrinelaw18.StreamStateTerminal", spec := "streamStateTerminal", unfollowed := true, recurses := true, apart := false }
def StreamStateTerminalSaid : Prop := streamStateTerminalRow.holds Try.pinned (OpenSpec.ofChange streamStateTerminalSpec)

/-- ITS FALSE NEIGHBOUR: 'it returns false'. Refute it at one input. -/
def streamStateTerminalWrong : ChangeSpec := { name := "streamStateTerminal", fn := fun _ => fun
  | [d1, d2] => { results := [.lit (.bool false)], args := [d1, d2] }
  | _ => none }
def StreamStateTerminalWrongFalsely : Prop := streamStateTerminalRow.holds Try.pinned (OpenSpec.ofChange streamStateTerminalWrong)

/-- 'peregrinelaw18.StreamStateProgress': WHATEVER THE INPUT: true; the input reads as it did. -/
def streamStateProgressSpec : ChangeSpec := { name := "streamStateProgress", fn := fun _ => fun
  | [d] => { results := [.lit (.bool true)], args := [d] }
  | _ => none }
def streamStateProgressRow : OpenClaim := { program := "ytapddinlfkdkeaa", sum := "edf620934aa25d660dc20806cc8055b520b39b8b3ba7ba5d2d7af8bc8793c47d", func := "peregrine/peregrinelaw18.StreamStateProgress", spec := "streamStateProgress", unfollowed := true, recurses := true, apart := false }
def StreamStateProgressSaid : Prop := streamStateProgressRow.holds Try.pinned (OpenSpec.ofChange streamStateProgressSpec)

/-- ITS FALSE NEIGHBOUR: 'it returns false'. Refute it at one input. -/
def streamStateProgressWrong : ChangeSpec := { name := "streamStateProgress", fn := fun _ => fun
  | [d] => { results := [.lit (.bool false)], args := [d] }
  | _ => none }
def StreamStateProgressWrongFalsely : Prop := streamStateProgressRow.holds Try.pinned (OpenSpec.ofChange streamStateProgressWrong)

/-- 'peregrinelaw18.StreamStateOrders': WHATEVER THE INPUT: true; the input reads as it did. -/
def streamStateOrdersSpec : ChangeSpec := { name := "streamStateOrders", fn := fun _ => fun
  | [d1, d2] => { results := [.lit (.bool true)], args := [d1, d2] }
  | _ => none }
def streamStateOrdersRow : OpenClaim := { program := "ytapddinlfkdkeaa", sum := "edf620934aa25d660dc20806cc8055b520b39b8b3ba7ba5d2d7af8bc8793c47d", func := "peregrine/peregrinelaw18.StreamStateOrders", spec := "streamStateOrders", unfollowed := true, recurses := true, apart := false }
def StreamStateOrdersSaid : Prop := streamStateOrdersRow.holds Try.pinned (OpenSpec.ofChange streamStateOrdersSpec)

/-- ITS FALSE NEIGHBOUR: 'it returns false'. Refute it at one input. -/
def streamStateOrdersWrong : ChangeSpec := { name := "streamStateOrders", fn := fun _ => fun
  | [d1, d2] => { results := [.lit (.bool false)], args := [d1, d2] }
  | _ => none }
def StreamStateOrdersWrongFalsely : Prop := streamStateOrdersRow.holds Try.pinned (OpenSpec.ofChange streamStateOrdersWrong)

/- THE SECOND FORM. 'bulk': how many values and letters a reading holds, each counted each time it is reached (what is shared counts as often as it is met; a slice's spare places count too). A statement '..UptoSaid' is the law's where the arguments, and the package variables that the reading takes, are together of bulk at most 1048576: NARROWER than '..Said'. Prove '..Said' where nothing that the law and all that it calls make is longer than what came in: it says more and counts as full. Else prove '..UptoSaid'. A law counts once. -/
mutual
def uptoBulk {H : Type} : DataW H → Nat
  | .lit (.string bytes) => bytes.length + 1
  | .lit _ => 1
  | .nil => 1
  | .ptr d => uptoBulk d + 1
  | .slice elems spare => uptoBulkAll elems + uptoBulkAll spare + 1
  | .agg parts => uptoBulkAll parts + 1
  | .iface _ d => uptoBulk d + 1
  | .map entries => uptoBulkEntries entries + 1
  | .held _ => 1
def uptoBulkAll {H : Type} : List (DataW H) → Nat
  | [] => 0
  | d :: r => uptoBulk d + uptoBulkAll r
def uptoBulkEntries {H : Type} : List (Lit × DataW H) → Nat
  | [] => 0
  | x :: r => uptoBulkEntry x + uptoBulkEntries r
def uptoBulkEntry {H : Type} : Lit × DataW H → Nat
  | (.string bytes, d) => bytes.length + uptoBulk d + 1
  | (_, d) => uptoBulk d + 1
 end
def uptoSmall : (H : Type) → List (DataW H) → Bool := fun _ ds => decide (uptoBulkAll ds ≤ 1048576)
def OpenSpec.upto (s : _root_.Go.ChangeSpec) : _root_.Go.OpenSpec := { _root_.Go.OpenSpec.ofChange s with cond := some uptoSmall }

/-- 'peregrinelaw18.StreamStateMatchesReference', WHERE WHAT IT READS IS OF BULK AT MOST 1048576: true; the input reads as it did. -/
def streamStateMatchesReferenceUptoRow : OpenClaim := { program := "ytapddinlfkdkeaa", sum := "edf620934aa25d660dc20806cc8055b520b39b8b3ba7ba5d2d7af8bc8793c47d", func := "peregrine/peregrinelaw18.StreamStateMatchesReference", spec := "streamStateMatchesReference", unfollowed := true, recurses := true, apart := false, narrowed := true }
def StreamStateMatchesReferenceUptoSaid : Prop := streamStateMatchesReferenceUptoRow.holds Try.pinned (OpenSpec.upto streamStateMatchesReferenceSpec)

/-- 'peregrinelaw18.StreamStateTerminal', WHERE WHAT IT READS IS OF BULK AT MOST 1048576: true; the input reads as it did. -/
def streamStateTerminalUptoRow : OpenClaim := { program := "ytapddinlfkdkeaa", sum := "edf620934aa25d660dc20806cc8055b520b39b8b3ba7ba5d2d7af8bc8793c47d", func := "peregrine/peregrinelaw18.StreamStateTerminal", spec := "streamStateTerminal", unfollowed := true, recurses := true, apart := false, narrowed := true }
def StreamStateTerminalUptoSaid : Prop := streamStateTerminalUptoRow.holds Try.pinned (OpenSpec.upto streamStateTerminalSpec)

/-- 'peregrinelaw18.StreamStateProgress', WHERE WHAT IT READS IS OF BULK AT MOST 1048576: true; the input reads as it did. -/
def streamStateProgressUptoRow : OpenClaim := { program := "ytapddinlfkdkeaa", sum := "edf620934aa25d660dc20806cc8055b520b39b8b3ba7ba5d2d7af8bc8793c47d", func := "peregrine/peregrinelaw18.StreamStateProgress", spec := "streamStateProgress", unfollowed := true, recurses := true, apart := false, narrowed := true }
def StreamStateProgressUptoSaid : Prop := streamStateProgressUptoRow.holds Try.pinned (OpenSpec.upto streamStateProgressSpec)

/-- 'peregrinelaw18.StreamStateOrders', WHERE WHAT IT READS IS OF BULK AT MOST 1048576: true; the input reads as it did. -/
def streamStateOrdersUptoRow : OpenClaim := { program := "ytapddinlfkdkeaa", sum := "edf620934aa25d660dc20806cc8055b520b39b8b3ba7ba5d2d7af8bc8793c47d", func := "peregrine/peregrinelaw18.StreamStateOrders", spec := "streamStateOrders", unfollowed := true, recurses := true, apart := false, narrowed := true }
def StreamStateOrdersUptoSaid : Prop := streamStateOrdersUptoRow.holds Try.pinned (OpenSpec.upto streamStateOrdersSpec)

end Rows
end Go.Proofs.Ytapddinlfkdkeaa
