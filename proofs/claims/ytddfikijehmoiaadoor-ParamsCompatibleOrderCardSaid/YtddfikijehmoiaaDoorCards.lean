/-
  DERIVED. GIVEN WITH THE SEED: THE CARDS: each row of YtddfikijehmoiaaDoorRows.lean that lists a variable, with what it lists TIED to the program's text (the seventh form; the later family's looks); each row that meets fmt, with fmt's text TOLD by the authors' own Lean function (tested against real Go, not proved from fmt's source: count such statements apart). THE CARD IS WHAT COUNTS. Prove the row's statement (the work); the ties are given (YtddfikijehmoiaaDoorTie.lean); close each card by the builder's one call (the guide's Derived/Test/ToyasCard.lean, 'card_holds'). Laid BY PROGRAM, IN A SANDBOX (cutbox-door.mjs). By AI agents, Wed Nov 11 2026. No macro, syntax, notation, axiom, sorry.
-/
import Derived.Test.YtddfikijehmoiaaDoorRows
import GoSem.ClaimSeven
namespace Go.Proofs.YtddfikijehmoiaaDoor
namespace Rows

/-- THE TIED CARD OF 'peregrinelaw20.ParamsRoundTrip'. -/
def paramsRoundTripCard : Claim7 := { stood := { row := paramsRoundTripRow, standIns := [], harness := (true, "441dd9f0e71e7f6be7ae6a77f45becdebd69a8317828f8acfa68b075bdf6df74"), looks := true }, kinds := [], alts := [], laidByText := true, laidKinds := [.sentinel], laidTests := true, laidLooks := .later }
def ParamsRoundTripCardSaid : Prop := Claim7.holds Tryd.pinned (.plain (OpenSpec.ofChange paramsRoundTripSpec)) paramsRoundTripCard

/-- THE TIED CARD OF 'peregrinelaw20.ParamsUnique'. -/
def paramsUniqueCard : Claim7 := { stood := { row := paramsUniqueRow, standIns := [], harness := (true, "441dd9f0e71e7f6be7ae6a77f45becdebd69a8317828f8acfa68b075bdf6df74"), looks := true }, kinds := [], alts := [], laidByText := true, laidKinds := [.sentinel], laidTests := true, laidLooks := .later }
def ParamsUniqueCardSaid : Prop := Claim7.holds Tryd.pinned (.plain (OpenSpec.ofChange paramsUniqueSpec)) paramsUniqueCard

/-- THE TIED CARD OF 'peregrinelaw20.ParamsCompatibleOrder'. -/
def paramsCompatibleOrderCard : Claim7 := { stood := { row := paramsCompatibleOrderRow, standIns := [], harness := (true, "441dd9f0e71e7f6be7ae6a77f45becdebd69a8317828f8acfa68b075bdf6df74"), looks := true }, kinds := [], alts := [], laidByText := true, laidKinds := [.sentinel], laidTests := true, laidLooks := .later }
def ParamsCompatibleOrderCardSaid : Prop := Claim7.holds Tryd.pinned (.plain (OpenSpec.ofChange paramsCompatibleOrderSpec)) paramsCompatibleOrderCard

/-- THE TIED CARD OF 'peregrinelaw20.ParamsCompatibleRaise'. -/
def paramsCompatibleRaiseCard : Claim7 := { stood := { row := paramsCompatibleRaiseRow, standIns := [], harness := (true, "441dd9f0e71e7f6be7ae6a77f45becdebd69a8317828f8acfa68b075bdf6df74"), looks := true }, kinds := [], alts := [], laidByText := true, laidKinds := [.sentinel], laidTests := true, laidLooks := .later }
def ParamsCompatibleRaiseCardSaid : Prop := Claim7.holds Tryd.pinned (.plain (OpenSpec.ofChange paramsCompatibleRaiseSpec)) paramsCompatibleRaiseCard

/-- THE TIED CARD OF 'peregrinelaw20.ParamsFields'. -/
def paramsFieldsCard : Claim7 := { stood := { row := paramsFieldsRow, standIns := [], harness := (true, "441dd9f0e71e7f6be7ae6a77f45becdebd69a8317828f8acfa68b075bdf6df74"), looks := true }, kinds := [], alts := [], laidByText := true, laidKinds := [.sentinel], laidTests := true, laidLooks := .later }
def ParamsFieldsCardSaid : Prop := Claim7.holds Tryd.pinned (.plain (OpenSpec.ofChange paramsFieldsSpec)) paramsFieldsCard

/-- THE SECOND FORM's CARD OF 'peregrinelaw20.ParamsRoundTrip'. -/
def paramsRoundTripUptoCard : Claim7 := { stood := { row := paramsRoundTripUptoRow, standIns := [], harness := (true, "441dd9f0e71e7f6be7ae6a77f45becdebd69a8317828f8acfa68b075bdf6df74"), looks := true }, kinds := [], alts := [], laidByText := true, laidKinds := [.sentinel], laidTests := true, laidLooks := .later }
def ParamsRoundTripUptoCardSaid : Prop := Claim7.holds Tryd.pinned (.plain (OpenSpec.upto paramsRoundTripSpec)) paramsRoundTripUptoCard

/-- THE SECOND FORM's CARD OF 'peregrinelaw20.ParamsUnique'. -/
def paramsUniqueUptoCard : Claim7 := { stood := { row := paramsUniqueUptoRow, standIns := [], harness := (true, "441dd9f0e71e7f6be7ae6a77f45becdebd69a8317828f8acfa68b075bdf6df74"), looks := true }, kinds := [], alts := [], laidByText := true, laidKinds := [.sentinel], laidTests := true, laidLooks := .later }
def ParamsUniqueUptoCardSaid : Prop := Claim7.holds Tryd.pinned (.plain (OpenSpec.upto paramsUniqueSpec)) paramsUniqueUptoCard

/-- THE SECOND FORM's CARD OF 'peregrinelaw20.ParamsCompatibleOrder'. -/
def paramsCompatibleOrderUptoCard : Claim7 := { stood := { row := paramsCompatibleOrderUptoRow, standIns := [], harness := (true, "441dd9f0e71e7f6be7ae6a77f45becdebd69a8317828f8acfa68b075bdf6df74"), looks := true }, kinds := [], alts := [], laidByText := true, laidKinds := [.sentinel], laidTests := true, laidLooks := .later }
def ParamsCompatibleOrderUptoCardSaid : Prop := Claim7.holds Tryd.pinned (.plain (OpenSpec.upto paramsCompatibleOrderSpec)) paramsCompatibleOrderUptoCard

/-- THE SECOND FORM's CARD OF 'peregrinelaw20.ParamsCompatibleRaise'. -/
def paramsCompatibleRaiseUptoCard : Claim7 := { stood := { row := paramsCompatibleRaiseUptoRow, standIns := [], harness := (true, "441dd9f0e71e7f6be7ae6a77f45becdebd69a8317828f8acfa68b075bdf6df74"), looks := true }, kinds := [], alts := [], laidByText := true, laidKinds := [.sentinel], laidTests := true, laidLooks := .later }
def ParamsCompatibleRaiseUptoCardSaid : Prop := Claim7.holds Tryd.pinned (.plain (OpenSpec.upto paramsCompatibleRaiseSpec)) paramsCompatibleRaiseUptoCard

/-- THE SECOND FORM's CARD OF 'peregrinelaw20.ParamsFields'. -/
def paramsFieldsUptoCard : Claim7 := { stood := { row := paramsFieldsUptoRow, standIns := [], harness := (true, "441dd9f0e71e7f6be7ae6a77f45becdebd69a8317828f8acfa68b075bdf6df74"), looks := true }, kinds := [], alts := [], laidByText := true, laidKinds := [.sentinel], laidTests := true, laidLooks := .later }
def ParamsFieldsUptoCardSaid : Prop := Claim7.holds Tryd.pinned (.plain (OpenSpec.upto paramsFieldsSpec)) paramsFieldsUptoCard
end Rows
end Go.Proofs.YtddfikijehmoiaaDoor
