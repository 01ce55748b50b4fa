/- Texts of this claim, one behind the other: FO FP FQ. -/
import Derived.Test.YthckbmcmdcemkaaGreatDoorBs3
import Derived.Test.YthckbmcmdcemkaaGreatDoorBs4
import Derived.StillTailTactics
import Derived.Deep.RegionHeld3
import Derived.Laws.Concat
set_option maxRecDepth 100000
set_option maxHeartbeats 16000000
set_option linter.unusedSimpArgs false
set_option linter.unusedVariables false
namespace Go.Proofs.YthckbmcmdcemkaaGreatDoor.frm
section
open Go.RowKit
theorem encV_len (n : Int) : (encV n).length ≤ 8:=by
 unfold encV
 split
 ·simp
 ·rw [beB_len]
  have : (cls n).toNat ≤ 3:=by unfold cls;split <;> (try split) <;> (try split) <;> (try split) <;> (try split) <;> decide
  exact Nat.pow_le_pow_right (by decide) this
theorem strOf_size (l : List Int) : (strOfNums l).size = l.length:=by simp [strOfNums,ByteArray.size]
theorem below_drew {w w' : World} (h : Below w.drew.heap.size w.drew w') : Below w.heap.size w w':=((Below.refl w.heap.size w).drew).trans h
end
section
open Go.RowKit
end
section
open Go.RowKit Go.Maps
theorem has_of_atKey {D : DataW Value} {k : Lit} {z u : Value} (h : D.atKey k (.held z) = .held u) (hu : u ≠ z) : Maps.has D k = true ∧ ∀ z',D.atKey k (.held z') = .held u:=by
 unfold DataW.atKey at h ⊢
 unfold Maps.has
 cases D <;> simp only [DataW.held.injEq] at h <;> try exact absurd h.symm hu
 rename_i es
 cases hf : es.find? (fun p=>p.1.sameKey k) with
 | none=>rw [hf] at h;simp only [DataW.held.injEq] at h;exact absurd h.symm hu
 | some p=>
  rw [hf] at h
  refine ⟨?_,fun z'=>by simp only [hf];exact h⟩
  simp only
  exact List.any_eq_true.2 ⟨p,List.mem_of_find?_eq_some hf,by simpa using List.find?_some hf⟩
theorem equal_nil (w : World) : Calls Tryz.prog 225 #[.slice none 0 0,.slice none 0 0] w fun e w'=>e = .returned (.bool true) ∧ w = w':=by
 go_enter Tryz.func225,Tryz.ntmps225
 go_wp2
 refine wp_loop_rounds 1 ?_
 rw [rounds_succ]
 go_wp2
 go_ret
 exact ⟨rfl,rfl⟩
end
end Go.Proofs.YthckbmcmdcemkaaGreatDoor.frm
