/-
  DERIVED. GIVEN WITH THE SEED: THE CARDS: each row of YtpfkeohaaeiaaaaDoorRows.lean that lists a variable, with what it lists TIED to the program's text (the seventh form; the later family's looks); each row that meets fmt, with fmt's text TOLD by the authors' own Lean function (tested against real Go, not proved from fmt's source: count such statements apart). THE CARD IS WHAT COUNTS. Prove the row's statement (the work); the ties are given (YtpfkeohaaeiaaaaDoorTie.lean); close each card by the builder's one call (the guide's Derived/Test/ToyasCard.lean, 'card_holds'). Laid BY PROGRAM, IN A SANDBOX (cutbox-door.mjs). By AI agents, Wed Nov 11 2026. No macro, syntax, notation, axiom, sorry.
-/
import Derived.Test.YtpfkeohaaeiaaaaDoorRows
import GoSem.ClaimSeven
namespace Go.Proofs.YtpfkeohaaeiaaaaDoor
namespace Rows

/-- THE TIED CARD OF 'peregrinelaw17.SendBufWithinLimits'. -/
def sendBufWithinLimitsCard : Claim7 := { stood := { row := sendBufWithinLimitsRow, standIns := [], harness := (true, "42ab89e5df766c400ebd58a1ad483aa1302cd94022d876ec7f1d50928d70c736"), looks := true }, kinds := [], alts := [], laidByText := true, laidKinds := [.sentinel, .sentinel, .sentinel, .sentinel], laidTests := true, laidLooks := .later }
def SendBufWithinLimitsCardSaid : Prop := Claim7.holds Tryd.pinned (.plain (OpenSpec.ofChange sendBufWithinLimitsSpec)) sendBufWithinLimitsCard

/-- THE SECOND FORM's CARD OF 'peregrinelaw17.SendBufWithinLimits'. -/
def sendBufWithinLimitsUptoCard : Claim7 := { stood := { row := sendBufWithinLimitsUptoRow, standIns := [], harness := (true, "42ab89e5df766c400ebd58a1ad483aa1302cd94022d876ec7f1d50928d70c736"), looks := true }, kinds := [], alts := [], laidByText := true, laidKinds := [.sentinel, .sentinel, .sentinel, .sentinel], laidTests := true, laidLooks := .later }
def SendBufWithinLimitsUptoCardSaid : Prop := Claim7.holds Tryd.pinned (.plain (OpenSpec.upto sendBufWithinLimitsSpec)) sendBufWithinLimitsUptoCard
end Rows
end Go.Proofs.YtpfkeohaaeiaaaaDoor
