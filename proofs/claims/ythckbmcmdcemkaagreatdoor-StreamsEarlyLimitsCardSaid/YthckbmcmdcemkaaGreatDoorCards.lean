/-
  DERIVED. GIVEN WITH THE SEED: THE CARDS: each row of YthckbmcmdcemkaaGreatDoorRows.lean that lists a variable, with what it lists TIED to the program's text (the seventh form; the later family's looks); each row that meets fmt, with fmt's text TOLD by the authors' own Lean function (tested against real Go, not proved from fmt's source: count such statements apart). THE CARD IS WHAT COUNTS. Prove the row's statement (the work); the ties are given (YthckbmcmdcemkaaGreatDoorTie.lean); close each card by the builder's one call (the guide's Derived/Test/ToyasCard.lean, 'card_holds'). Laid BY PROGRAM, IN A SANDBOX (cutbox-door.mjs). By AI agents, Wed Nov 11 2026. No macro, syntax, notation, axiom, sorry.
-/
import Derived.Test.YthckbmcmdcemkaaGreatDoorRows
import GoSem.ClaimSeven
namespace Go.Proofs.YthckbmcmdcemkaaGreatDoor
namespace Rows

/-- THE TIED CARD OF 'peregrinelaw19.StreamsFair'. -/
def streamsFairCard : Claim7 := { stood := { row := streamsFairRow, standIns := [], harness := (true, "eef46f693fd9202005d34019879f0db1f4fe13921794b3e7002c8302224efa97"), looks := true }, kinds := [], alts := [], laidByText := true, laidKinds := [.sentinel, .sentinel, .sentinel, .sentinel], laidTests := true, laidLooks := .later }
def StreamsFairCardSaid : Prop := Claim7.holds Tryz.pinned (.plain (OpenSpec.ofChange streamsFairSpec)) streamsFairCard

/-- THE TIED CARD OF 'peregrinelaw19.StreamsIDs'. -/
def streamsIDsCard : Claim7 := { stood := { row := streamsIDsRow, standIns := [], harness := (true, "eef46f693fd9202005d34019879f0db1f4fe13921794b3e7002c8302224efa97"), looks := true }, kinds := [], alts := [], laidByText := true, laidKinds := [.sentinel, .sentinel, .sentinel, .sentinel], laidTests := true, laidLooks := .later }
def StreamsIDsCardSaid : Prop := Claim7.holds Tryz.pinned (.plain (OpenSpec.ofChange streamsIDsSpec)) streamsIDsCard

/-- THE TIED CARD OF 'peregrinelaw19.StreamsFinalSize'. -/
def streamsFinalSizeCard : Claim7 := { stood := { row := streamsFinalSizeRow, standIns := [], harness := (true, "eef46f693fd9202005d34019879f0db1f4fe13921794b3e7002c8302224efa97"), looks := true }, kinds := [], alts := [], laidByText := true, laidKinds := [.sentinel, .sentinel, .sentinel, .sentinel], laidTests := true, laidLooks := .later }
def StreamsFinalSizeCardSaid : Prop := Claim7.holds Tryz.pinned (.plain (OpenSpec.ofChange streamsFinalSizeSpec)) streamsFinalSizeCard

/-- THE TIED CARD OF 'peregrinelaw19.StreamsConflict'. -/
def streamsConflictCard : Claim7 := { stood := { row := streamsConflictRow, standIns := [], harness := (true, "eef46f693fd9202005d34019879f0db1f4fe13921794b3e7002c8302224efa97"), looks := true }, kinds := [], alts := [], laidByText := true, laidKinds := [.sentinel, .sentinel, .sentinel, .sentinel], laidTests := true, laidLooks := .later }
def StreamsConflictCardSaid : Prop := Claim7.holds Tryz.pinned (.plain (OpenSpec.ofChange streamsConflictSpec)) streamsConflictCard

/-- THE TIED CARD OF 'peregrinelaw19.StreamsEarlyLimits'. -/
def streamsEarlyLimitsCard : Claim7 := { stood := { row := streamsEarlyLimitsRow, standIns := [], harness := (true, "eef46f693fd9202005d34019879f0db1f4fe13921794b3e7002c8302224efa97"), looks := true }, kinds := [], alts := [], laidByText := true, laidKinds := [.sentinel, .sentinel, .sentinel, .sentinel], laidTests := true, laidLooks := .later }
def StreamsEarlyLimitsCardSaid : Prop := Claim7.holds Tryz.pinned (.plain (OpenSpec.ofChange streamsEarlyLimitsSpec)) streamsEarlyLimitsCard

/-- THE TIED CARD OF 'peregrinelaw19.StreamsPrefix'. -/
def streamsPrefixCard : Claim7 := { stood := { row := streamsPrefixRow, standIns := [], harness := (true, "eef46f693fd9202005d34019879f0db1f4fe13921794b3e7002c8302224efa97"), looks := true }, kinds := [], alts := [], laidByText := true, laidKinds := [.sentinel, .sentinel, .sentinel, .sentinel], laidTests := true, laidLooks := .later }
def StreamsPrefixCardSaid : Prop := Claim7.holds Tryz.pinned (.plain (OpenSpec.ofChange streamsPrefixSpec)) streamsPrefixCard

/-- THE TIED CARD OF 'peregrinelaw19.StreamsResetFreesCredit'. -/
def streamsResetFreesCreditCard : Claim7 := { stood := { row := streamsResetFreesCreditRow, standIns := [], harness := (true, "eef46f693fd9202005d34019879f0db1f4fe13921794b3e7002c8302224efa97"), looks := true }, kinds := [], alts := [], laidByText := true, laidKinds := [.sentinel, .sentinel, .sentinel, .sentinel], laidTests := true, laidLooks := .later }
def StreamsResetFreesCreditCardSaid : Prop := Claim7.holds Tryz.pinned (.plain (OpenSpec.ofChange streamsResetFreesCreditSpec)) streamsResetFreesCreditCard

/-- THE TIED CARD OF 'peregrinelaw19.StreamsStopSending'. -/
def streamsStopSendingCard : Claim7 := { stood := { row := streamsStopSendingRow, standIns := [], harness := (true, "eef46f693fd9202005d34019879f0db1f4fe13921794b3e7002c8302224efa97"), looks := true }, kinds := [], alts := [], laidByText := true, laidKinds := [.sentinel, .sentinel, .sentinel, .sentinel], laidTests := true, laidLooks := .later }
def StreamsStopSendingCardSaid : Prop := Claim7.holds Tryz.pinned (.plain (OpenSpec.ofChange streamsStopSendingSpec)) streamsStopSendingCard

/-- THE TIED CARD OF 'peregrinelaw19.StreamsWithinLimits'. -/
def streamsWithinLimitsCard : Claim7 := { stood := { row := streamsWithinLimitsRow, standIns := [], harness := (true, "eef46f693fd9202005d34019879f0db1f4fe13921794b3e7002c8302224efa97"), looks := true }, kinds := [], alts := [], laidByText := true, laidKinds := [.sentinel, .sentinel, .sentinel, .sentinel], laidTests := true, laidLooks := .later }
def StreamsWithinLimitsCardSaid : Prop := Claim7.holds Tryz.pinned (.plain (OpenSpec.ofChange streamsWithinLimitsSpec)) streamsWithinLimitsCard

/-- THE TIED CARD OF 'peregrinelaw19.StreamsRemoteBounded'. -/
def streamsRemoteBoundedCard : Claim7 := { stood := { row := streamsRemoteBoundedRow, standIns := [], harness := (true, "eef46f693fd9202005d34019879f0db1f4fe13921794b3e7002c8302224efa97"), looks := true }, kinds := [], alts := [], laidByText := true, laidKinds := [.sentinel, .sentinel, .sentinel, .sentinel], laidTests := true, laidLooks := .later }
def StreamsRemoteBoundedCardSaid : Prop := Claim7.holds Tryz.pinned (.plain (OpenSpec.ofChange streamsRemoteBoundedSpec)) streamsRemoteBoundedCard

/-- THE TIED CARD OF 'peregrinelaw19.StreamsBudget'. -/
def streamsBudgetCard : Claim7 := { stood := { row := streamsBudgetRow, standIns := [], harness := (true, "eef46f693fd9202005d34019879f0db1f4fe13921794b3e7002c8302224efa97"), looks := true }, kinds := [], alts := [], laidByText := true, laidKinds := [.sentinel, .sentinel, .sentinel, .sentinel], laidTests := true, laidLooks := .later }
def StreamsBudgetCardSaid : Prop := Claim7.holds Tryz.pinned (.plain (OpenSpec.ofChange streamsBudgetSpec)) streamsBudgetCard

/-- THE TIED CARD OF 'peregrinelaw19.StreamsMatchReference'. -/
def streamsMatchReferenceCard : Claim7 := { stood := { row := streamsMatchReferenceRow, standIns := [], harness := (true, "eef46f693fd9202005d34019879f0db1f4fe13921794b3e7002c8302224efa97"), looks := true }, kinds := [], alts := [], laidByText := true, laidKinds := [.sentinel, .sentinel, .sentinel, .sentinel], laidTests := true, laidLooks := .later }
def StreamsMatchReferenceCardSaid : Prop := Claim7.holds Tryz.pinned (.plain (OpenSpec.ofChange streamsMatchReferenceSpec)) streamsMatchReferenceCard

/-- THE TIED CARD OF 'peregrinelaw19.StreamsParamsMatchReference'. -/
def streamsParamsMatchReferenceCard : Claim7 := { stood := { row := streamsParamsMatchReferenceRow, standIns := [], harness := (true, "eef46f693fd9202005d34019879f0db1f4fe13921794b3e7002c8302224efa97"), looks := true }, kinds := [], alts := [], laidByText := true, laidKinds := [.sentinel, .sentinel, .sentinel, .sentinel], laidTests := true, laidLooks := .later }
def StreamsParamsMatchReferenceCardSaid : Prop := Claim7.holds Tryz.pinned (.plain (OpenSpec.ofChange streamsParamsMatchReferenceSpec)) streamsParamsMatchReferenceCard

/-- THE SECOND FORM's CARD OF 'peregrinelaw19.StreamsFair'. -/
def streamsFairUptoCard : Claim7 := { stood := { row := streamsFairUptoRow, standIns := [], harness := (true, "eef46f693fd9202005d34019879f0db1f4fe13921794b3e7002c8302224efa97"), looks := true }, kinds := [], alts := [], laidByText := true, laidKinds := [.sentinel, .sentinel, .sentinel, .sentinel], laidTests := true, laidLooks := .later }
def StreamsFairUptoCardSaid : Prop := Claim7.holds Tryz.pinned (.plain (OpenSpec.upto streamsFairSpec)) streamsFairUptoCard

/-- THE SECOND FORM's CARD OF 'peregrinelaw19.StreamsIDs'. -/
def streamsIDsUptoCard : Claim7 := { stood := { row := streamsIDsUptoRow, standIns := [], harness := (true, "eef46f693fd9202005d34019879f0db1f4fe13921794b3e7002c8302224efa97"), looks := true }, kinds := [], alts := [], laidByText := true, laidKinds := [.sentinel, .sentinel, .sentinel, .sentinel], laidTests := true, laidLooks := .later }
def StreamsIDsUptoCardSaid : Prop := Claim7.holds Tryz.pinned (.plain (OpenSpec.upto streamsIDsSpec)) streamsIDsUptoCard

/-- THE SECOND FORM's CARD OF 'peregrinelaw19.StreamsFinalSize'. -/
def streamsFinalSizeUptoCard : Claim7 := { stood := { row := streamsFinalSizeUptoRow, standIns := [], harness := (true, "eef46f693fd9202005d34019879f0db1f4fe13921794b3e7002c8302224efa97"), looks := true }, kinds := [], alts := [], laidByText := true, laidKinds := [.sentinel, .sentinel, .sentinel, .sentinel], laidTests := true, laidLooks := .later }
def StreamsFinalSizeUptoCardSaid : Prop := Claim7.holds Tryz.pinned (.plain (OpenSpec.upto streamsFinalSizeSpec)) streamsFinalSizeUptoCard

/-- THE SECOND FORM's CARD OF 'peregrinelaw19.StreamsConflict'. -/
def streamsConflictUptoCard : Claim7 := { stood := { row := streamsConflictUptoRow, standIns := [], harness := (true, "eef46f693fd9202005d34019879f0db1f4fe13921794b3e7002c8302224efa97"), looks := true }, kinds := [], alts := [], laidByText := true, laidKinds := [.sentinel, .sentinel, .sentinel, .sentinel], laidTests := true, laidLooks := .later }
def StreamsConflictUptoCardSaid : Prop := Claim7.holds Tryz.pinned (.plain (OpenSpec.upto streamsConflictSpec)) streamsConflictUptoCard

/-- THE SECOND FORM's CARD OF 'peregrinelaw19.StreamsEarlyLimits'. -/
def streamsEarlyLimitsUptoCard : Claim7 := { stood := { row := streamsEarlyLimitsUptoRow, standIns := [], harness := (true, "eef46f693fd9202005d34019879f0db1f4fe13921794b3e7002c8302224efa97"), looks := true }, kinds := [], alts := [], laidByText := true, laidKinds := [.sentinel, .sentinel, .sentinel, .sentinel], laidTests := true, laidLooks := .later }
def StreamsEarlyLimitsUptoCardSaid : Prop := Claim7.holds Tryz.pinned (.plain (OpenSpec.upto streamsEarlyLimitsSpec)) streamsEarlyLimitsUptoCard

/-- THE SECOND FORM's CARD OF 'peregrinelaw19.StreamsPrefix'. -/
def streamsPrefixUptoCard : Claim7 := { stood := { row := streamsPrefixUptoRow, standIns := [], harness := (true, "eef46f693fd9202005d34019879f0db1f4fe13921794b3e7002c8302224efa97"), looks := true }, kinds := [], alts := [], laidByText := true, laidKinds := [.sentinel, .sentinel, .sentinel, .sentinel], laidTests := true, laidLooks := .later }
def StreamsPrefixUptoCardSaid : Prop := Claim7.holds Tryz.pinned (.plain (OpenSpec.upto streamsPrefixSpec)) streamsPrefixUptoCard

/-- THE SECOND FORM's CARD OF 'peregrinelaw19.StreamsResetFreesCredit'. -/
def streamsResetFreesCreditUptoCard : Claim7 := { stood := { row := streamsResetFreesCreditUptoRow, standIns := [], harness := (true, "eef46f693fd9202005d34019879f0db1f4fe13921794b3e7002c8302224efa97"), looks := true }, kinds := [], alts := [], laidByText := true, laidKinds := [.sentinel, .sentinel, .sentinel, .sentinel], laidTests := true, laidLooks := .later }
def StreamsResetFreesCreditUptoCardSaid : Prop := Claim7.holds Tryz.pinned (.plain (OpenSpec.upto streamsResetFreesCreditSpec)) streamsResetFreesCreditUptoCard

/-- THE SECOND FORM's CARD OF 'peregrinelaw19.StreamsStopSending'. -/
def streamsStopSendingUptoCard : Claim7 := { stood := { row := streamsStopSendingUptoRow, standIns := [], harness := (true, "eef46f693fd9202005d34019879f0db1f4fe13921794b3e7002c8302224efa97"), looks := true }, kinds := [], alts := [], laidByText := true, laidKinds := [.sentinel, .sentinel, .sentinel, .sentinel], laidTests := true, laidLooks := .later }
def StreamsStopSendingUptoCardSaid : Prop := Claim7.holds Tryz.pinned (.plain (OpenSpec.upto streamsStopSendingSpec)) streamsStopSendingUptoCard

/-- THE SECOND FORM's CARD OF 'peregrinelaw19.StreamsWithinLimits'. -/
def streamsWithinLimitsUptoCard : Claim7 := { stood := { row := streamsWithinLimitsUptoRow, standIns := [], harness := (true, "eef46f693fd9202005d34019879f0db1f4fe13921794b3e7002c8302224efa97"), looks := true }, kinds := [], alts := [], laidByText := true, laidKinds := [.sentinel, .sentinel, .sentinel, .sentinel], laidTests := true, laidLooks := .later }
def StreamsWithinLimitsUptoCardSaid : Prop := Claim7.holds Tryz.pinned (.plain (OpenSpec.upto streamsWithinLimitsSpec)) streamsWithinLimitsUptoCard

/-- THE SECOND FORM's CARD OF 'peregrinelaw19.StreamsRemoteBounded'. -/
def streamsRemoteBoundedUptoCard : Claim7 := { stood := { row := streamsRemoteBoundedUptoRow, standIns := [], harness := (true, "eef46f693fd9202005d34019879f0db1f4fe13921794b3e7002c8302224efa97"), looks := true }, kinds := [], alts := [], laidByText := true, laidKinds := [.sentinel, .sentinel, .sentinel, .sentinel], laidTests := true, laidLooks := .later }
def StreamsRemoteBoundedUptoCardSaid : Prop := Claim7.holds Tryz.pinned (.plain (OpenSpec.upto streamsRemoteBoundedSpec)) streamsRemoteBoundedUptoCard

/-- THE SECOND FORM's CARD OF 'peregrinelaw19.StreamsBudget'. -/
def streamsBudgetUptoCard : Claim7 := { stood := { row := streamsBudgetUptoRow, standIns := [], harness := (true, "eef46f693fd9202005d34019879f0db1f4fe13921794b3e7002c8302224efa97"), looks := true }, kinds := [], alts := [], laidByText := true, laidKinds := [.sentinel, .sentinel, .sentinel, .sentinel], laidTests := true, laidLooks := .later }
def StreamsBudgetUptoCardSaid : Prop := Claim7.holds Tryz.pinned (.plain (OpenSpec.upto streamsBudgetSpec)) streamsBudgetUptoCard

/-- THE SECOND FORM's CARD OF 'peregrinelaw19.StreamsMatchReference'. -/
def streamsMatchReferenceUptoCard : Claim7 := { stood := { row := streamsMatchReferenceUptoRow, standIns := [], harness := (true, "eef46f693fd9202005d34019879f0db1f4fe13921794b3e7002c8302224efa97"), looks := true }, kinds := [], alts := [], laidByText := true, laidKinds := [.sentinel, .sentinel, .sentinel, .sentinel], laidTests := true, laidLooks := .later }
def StreamsMatchReferenceUptoCardSaid : Prop := Claim7.holds Tryz.pinned (.plain (OpenSpec.upto streamsMatchReferenceSpec)) streamsMatchReferenceUptoCard

/-- THE SECOND FORM's CARD OF 'peregrinelaw19.StreamsParamsMatchReference'. -/
def streamsParamsMatchReferenceUptoCard : Claim7 := { stood := { row := streamsParamsMatchReferenceUptoRow, standIns := [], harness := (true, "eef46f693fd9202005d34019879f0db1f4fe13921794b3e7002c8302224efa97"), looks := true }, kinds := [], alts := [], laidByText := true, laidKinds := [.sentinel, .sentinel, .sentinel, .sentinel], laidTests := true, laidLooks := .later }
def StreamsParamsMatchReferenceUptoCardSaid : Prop := Claim7.holds Tryz.pinned (.plain (OpenSpec.upto streamsParamsMatchReferenceSpec)) streamsParamsMatchReferenceUptoCard
end Rows
end Go.Proofs.YthckbmcmdcemkaaGreatDoor
