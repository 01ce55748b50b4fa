/- Law 25: sane's steps. -/
import Derived.Test.YtieiplalnekmkaaTw
namespace Go.Proofs.Ytieiplalnekmkaa
open Go.RowKit
variable {w0 w w' : World} {bp bq : Nat} {X Y X' : Ph} {os : List (Nat × Obj)} {A B : ByteArray}
def pa1 (A B : ByteArray) : Ph := { nwP A B with sf := 0 }
def pa2 (A B : ByteArray) : Ph := { nwP A B with sf := 0, sc := true }
def pa3 (A B : ByteArray) : Ph := { nwP A B with ss := nx A, sg := 1 }
def qa1 (A B : ByteArray) : Ph := { nwP B A with lg := 1, old := A, kept := true, unt := 150, b0 := 1, b1 := 1, rs := nx A, rg := 1, ss := nx B, sg := 1 }
def qa2 (A B : ByteArray) : Ph := { nwP B A with lg := 1, old := A, unt := 150, b0 := 1, b1 := 1, rs := nx A, rg := 1, ss := nx B, sg := 1 }
theorem x_u0 : updR (nwP A B) = 251 ∧ updP (nwP A B) = nwP A B := ⟨rfl, rfl⟩
theorem x_s0 : sentP (nwP A B) 0 = pa1 A B := rfl
theorem x_a0 : ackedP (pa1 A B) 0 = pa2 A B := rfl
theorem x_u1 : updR (pa2 A B) = 0 ∧ updP (pa2 A B) = pa3 A B := ⟨rfl, rfl⟩
theorem x_u2 : updR (pa3 A B) = 251 ∧ updP (pa3 A B) = pa3 A B := ⟨rfl, rfl⟩
theorem x_r0 : rcvV (nwP B A) 1 1 = .tuple #[(kyF (exF A).h (nx A)).val, .int .i64 1, .int .i64 0] := rfl
theorem x_o0 : opnR (nwP B A) 1 1 = 0 ∧ opnP (nwP B A) 50 1 1 = qa1 A B := ⟨rfl, rfl⟩
theorem x_r1 : rcvV (qa1 A B) 0 0 = .tuple #[(kyF (exF A).h A).val, .int .i64 0, .int .i64 0] := rfl
theorem x_t0 : tickP (qa1 A B) 149 = qa1 A B := rfl
theorem x_t1 : tickP (qa1 A B) 150 = qa2 A B := rfl
theorem x_r2 : rcvV (qa2 A B) 0 0 = .tuple #[.agg #[.string ⟨#[]⟩, .string ⟨#[]⟩, .string ⟨#[]⟩, .string ⟨#[]⟩], .int .i64 0, .int .i64 250] := rfl
end Go.Proofs.Ytieiplalnekmkaa
