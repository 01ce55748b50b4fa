/-
  DERIVED. GIVEN WITH THE SEED: THE CARDS: each row of YtpfkeohaaeiaaaaGreatDoorRows.lean that lists a variable, with what it lists TIED to the program's text (the seventh form; the later family's looks); each row that meets fmt, with fmt's text TOLD by the authors' own Lean function (tested against real Go, not proved from fmt's source: count such statements apart). THE CARD IS WHAT COUNTS. Prove the row's statement (the work); the ties are given (YtpfkeohaaeiaaaaGreatDoorTie.lean); close each card by the builder's one call (the guide's Derived/Test/ToyasCard.lean, 'card_holds'). Laid BY PROGRAM, IN A SANDBOX (cutbox-door.mjs). By AI agents, Wed Nov 11 2026. No macro, syntax, notation, axiom, sorry.
-/
import Derived.Test.YtpfkeohaaeiaaaaGreatDoorRows
import GoSem.ClaimSeven
namespace Go.Proofs.YtpfkeohaaeiaaaaGreatDoor
namespace Rows

/-- THE TIED CARD OF 'peregrinelaw17.SendBufReliable'. -/
def sendBufReliableCard : Claim7 := { stood := { row := sendBufReliableRow, standIns := [], harness := (true, "13def335afe2fa14a21ed8743ed26b5b472ac840795680aaca16c5f33360e12d"), looks := true }, kinds := [], alts := [], laidByText := true, laidKinds := [.sentinel, .sentinel, .sentinel, .sentinel], laidTests := true, laidLooks := .later }
def SendBufReliableCardSaid : Prop := Claim7.holds Tryz.pinned (.plain (OpenSpec.ofChange sendBufReliableSpec)) sendBufReliableCard

/-- THE TIED CARD OF 'peregrinelaw17.SendBufCongestion'. -/
def sendBufCongestionCard : Claim7 := { stood := { row := sendBufCongestionRow, standIns := [], harness := (true, "13def335afe2fa14a21ed8743ed26b5b472ac840795680aaca16c5f33360e12d"), looks := true }, kinds := [], alts := [], laidByText := true, laidKinds := [.sentinel, .sentinel, .sentinel, .sentinel], laidTests := true, laidLooks := .later }
def SendBufCongestionCardSaid : Prop := Claim7.holds Tryz.pinned (.plain (OpenSpec.ofChange sendBufCongestionSpec)) sendBufCongestionCard

/-- THE SECOND FORM's CARD OF 'peregrinelaw17.SendBufReliable'. -/
def sendBufReliableUptoCard : Claim7 := { stood := { row := sendBufReliableUptoRow, standIns := [], harness := (true, "13def335afe2fa14a21ed8743ed26b5b472ac840795680aaca16c5f33360e12d"), looks := true }, kinds := [], alts := [], laidByText := true, laidKinds := [.sentinel, .sentinel, .sentinel, .sentinel], laidTests := true, laidLooks := .later }
def SendBufReliableUptoCardSaid : Prop := Claim7.holds Tryz.pinned (.plain (OpenSpec.upto sendBufReliableSpec)) sendBufReliableUptoCard

/-- THE SECOND FORM's CARD OF 'peregrinelaw17.SendBufCongestion'. -/
def sendBufCongestionUptoCard : Claim7 := { stood := { row := sendBufCongestionUptoRow, standIns := [], harness := (true, "13def335afe2fa14a21ed8743ed26b5b472ac840795680aaca16c5f33360e12d"), looks := true }, kinds := [], alts := [], laidByText := true, laidKinds := [.sentinel, .sentinel, .sentinel, .sentinel], laidTests := true, laidLooks := .later }
def SendBufCongestionUptoCardSaid : Prop := Claim7.holds Tryz.pinned (.plain (OpenSpec.upto sendBufCongestionSpec)) sendBufCongestionUptoCard
end Rows
end Go.Proofs.YtpfkeohaaeiaaaaGreatDoor
