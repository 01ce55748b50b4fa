/- Texts of this claim, one behind the other: ZRpq. -/
import Derived.Test.YthckbmcmdcemkaaGreatDoorBs20
import Derived.Test.YthckbmcmdcemkaaGreatDoorBs19
import Derived.LaidEql
import Derived.Stop.Asserts
import Derived.Stop.IfaceNil
import Derived.RowKitTokens
import Derived.Test.YthckbmcmdcemkaaGreatDoorZs1
set_option maxRecDepth 100000
set_option maxHeartbeats 16000000
set_option linter.unusedSimpArgs false
set_option linter.unusedVariables false
namespace Go.Proofs.YthckbmcmdcemkaaGreatDoor.rea
section
open Go.RowKit Go.Extern.Stop Go.Stop Go.Extern
theorem Put_no (b g1 g2 : Nat) (R : Rb) (off : Nat) (s : ByteArray) (fin : Bool) (a0 a1 a2 a3 : Addr) (w : World) (h : RbAt w b g1 g2 R) (hE : Errs w a0 a1 a2 a3) (hA : Apt w a0 a1) (hsz : s.size ≤ 8192) (hmx : (off : Int) + s.size ≤ 1099511627776) (hat : R.at_ ≤ 1125899906842624) (hp : putE R off s fin ≠ 0) :
  Calls Tryz.prog 212 #[.pointer (some ⟨b,0,none⟩),.int .i64 off,.string s,.bool fin] w fun e w'=>e = .returned (.int .i64 (putE R off s fin)) ∧ Below w.heap.size w w':=by
 cases hag : agF R.at_ R.bs R.hs off (bytesOf s) with
 | false=>
  have e : putE R off s fin = 160:=by unfold putE;rw [hag];rfl
  rw [e]
  exact Put_conflict b g1 g2 R off s fin a0 a1 a2 a3 w h hE hsz hmx hat hag
 | true=>
  cases hfb : finB R ((off : Int) + s.size) fin with
  | false=>
   have e : putE R off s fin = 161:=by unfold putE;rw [hag,hfb];rfl
   rw [e]
   refine Put_final b g1 g2 R off s fin a0 a1 a2 a3 w h hE hA hsz hmx hat hag ?_
   unfold finB at hfb
   cases fin <;> cases hk : R.kn <;> simp [hk] at hfb ⊢ <;> omega
  | true=>exact absurd (by unfold putE;rw [hag,hfb];rfl) hp
end
end Go.Proofs.YthckbmcmdcemkaaGreatDoor.rea
