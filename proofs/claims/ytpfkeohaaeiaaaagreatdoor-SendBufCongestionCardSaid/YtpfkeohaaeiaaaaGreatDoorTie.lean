/-
  DERIVED. GIVEN WITH THE SEED: THE PROGRAM's TIES (one call each: nine closed facts by the kernel) AND EACH ROW's TIE, after the 31st guide's Derived/Test/Toyas{Tie, Card}.lean. No idea stands in it: it is a product of the set-up. Laid BY PROGRAM, IN A SANDBOX (cutbox-door.mjs). By AI agents, Wed Nov 11 2026. No macro, syntax, notation, axiom, sorry.
-/
import Derived.Test.YtpfkeohaaeiaaaaGreatDoorRows
import Derived.LaidByTextLater
import Derived.SevenTiedAt
import Derived.LaidSub
import Derived.LaidOnce
namespace Go.Proofs.YtpfkeohaaeiaaaaGreatDoor
open Go
set_option maxRecDepth 100000
theorem seatTie1 : Tryz.prog.laidByTextLater [("peregrine/reassembly.errArgument", Rows.laid_peregrine_reassembly_errArgument), ("peregrine/reassembly.errConflict", Rows.laid_peregrine_reassembly_errConflict), ("peregrine/reassembly.errFinalSize", Rows.laid_peregrine_reassembly_errFinalSize), ("peregrine/reassembly.errRoom", Rows.laid_peregrine_reassembly_errRoom)] [.sentinel, .sentinel, .sentinel, .sentinel] true :=
  Program.laidByTextLater_by_one 85 8 2 (by kernel_rfl) (by kernel_rfl) (by kernel_rfl) (by kernel_rfl) (by kernel_rfl) (by kernel_rfl) (fun _ _ => by kernel_rfl)
theorem noOwnUnsafe : Tryz.pinned.checked.prog.headLifts.contains "ownunsafe" = false := by kernel_rfl
theorem tie : Tryz.prog.laidByTextLater [("peregrine/reassembly.errArgument", Rows.laid_peregrine_reassembly_errArgument), ("peregrine/reassembly.errConflict", Rows.laid_peregrine_reassembly_errConflict), ("peregrine/reassembly.errFinalSize", Rows.laid_peregrine_reassembly_errFinalSize), ("peregrine/reassembly.errRoom", Rows.laid_peregrine_reassembly_errRoom)] [.sentinel, .sentinel, .sentinel, .sentinel] true :=
  Program.laidByTextLater.sub seatTie1 ["peregrine/reassembly.errArgument", "peregrine/reassembly.errConflict", "peregrine/reassembly.errFinalSize", "peregrine/reassembly.errRoom"] (by kernel_rfl) (by kernel_rfl)
theorem sendBufReliable_row_tie : Rows.sendBufReliableRow.laidByTextAt .later Tryz.pinned [.sentinel, .sentinel, .sentinel, .sentinel] true :=
  OpenClaim.laidByTextAt_later rfl rfl tie noOwnUnsafe
theorem sendBufCongestion_row_tie : Rows.sendBufCongestionRow.laidByTextAt .later Tryz.pinned [.sentinel, .sentinel, .sentinel, .sentinel] true :=
  OpenClaim.laidByTextAt_later rfl rfl tie noOwnUnsafe
theorem sendBufReliableUpto_row_tie : Rows.sendBufReliableUptoRow.laidByTextAt .later Tryz.pinned [.sentinel, .sentinel, .sentinel, .sentinel] true :=
  OpenClaim.laidByTextAt_later rfl rfl tie noOwnUnsafe
theorem sendBufCongestionUpto_row_tie : Rows.sendBufCongestionUptoRow.laidByTextAt .later Tryz.pinned [.sentinel, .sentinel, .sentinel, .sentinel] true :=
  OpenClaim.laidByTextAt_later rfl rfl tie noOwnUnsafe
end Go.Proofs.YtpfkeohaaeiaaaaGreatDoor
