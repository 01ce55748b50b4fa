/- Texts of this claim, one behind the other: Oi. -/
import Derived.Shelf.Spec.SlicesGrow
import Derived.Test.YthckbmcmdcemkaaGreatDoorBs32
set_option maxRecDepth 100000
set_option maxHeartbeats 16000000
set_option linter.unusedSimpArgs false
set_option linter.unusedVariables false
namespace Go.Proofs
set_option maxRecDepth 100000
set_option maxHeartbeats 16000000
open Go.Shelf
def Tryz.growS_ren : Go.Shelf.Ren:=⟨fun | 4=>206 | n=>n,fun | 22=>140 | 25=>121 | 3=>3 | 4=>4 | 9=>9 | 20=>20 | 0=>0 | n=>n,fun | n=>n⟩
theorem Tryz.growS : Go.Proofs.Lays8.n4 Tryz.prog Tryz.growS_ren:={
 mixed:=by kernel_rfl
 f4:=⟨Tryz.f206.name,by decide,Tryz.func206.trans (congrArg some (by kernel_rfl))⟩
 t0:=Tryz.underlying0
 a0:=Tryz.isAgg0
 z0:=Tryz.sizeOf0
 v0:=Tryz.zeroValue0
 t3:=Tryz.underlying3
 a3:=Tryz.isAgg3
 z3:=Tryz.sizeOf3
 v3:=Tryz.zeroValue3
 t4:=Tryz.underlying4
 a4:=Tryz.isAgg4
 z4:=Tryz.sizeOf4
 v4:=Tryz.zeroValue4
 t9:=Tryz.underlying9
 a9:=Tryz.isAgg9
 z9:=Tryz.sizeOf9
 v9:=Tryz.zeroValue9
 t20:=Tryz.underlying20
 a20:=Tryz.isAgg20
 z20:=Tryz.sizeOf20
 v20:=Tryz.zeroValue20
 t22:=Tryz.underlying140
 a22:=Tryz.isAgg140
 z22:=Tryz.sizeOf140
 v22:=Tryz.zeroValue140 }
end Go.Proofs
namespace Go.Proofs.YthckbmcmdcemkaaGreatDoor.stm
open Go.RowKit Go.Shelf
theorem grow_nil (n : Nat) (hn : n ≤ 1000000) (w : World) : Calls Tryz.prog 206 #[.slice none 0 0,.int .i64 n] w fun e w'=>∃ v,e = .returned v ∧ Below w.heap.size w w' ∧ w'.ownsRow w.heap.size 121 1 v 0 []:=by
 by_cases h0 : n = 0
 ·subst h0
  refine (Any8.slices_Grow_room Tryz.growS none 0 0 0 w (by omega) (by omega) (by omega) (by omega)).mono ?_
  rintro e w' ⟨rfl,rfl⟩
  exact ⟨_,rfl,Below.refl _ _,⟨by simp,.inl ⟨rfl,rfl⟩⟩⟩
 ·obtain ⟨i0,hi,hz,h1,h2⟩:=info_parts info121
  refine (Any8.slices_Grow_grow Tryz.growS i0 (.pointer none) hi hz (by omega) none 0 0 n [] w (by omega) (by omega) (by rw [h2];omega) (by omega) (by simp) (fun _=>rfl) (fun a e=>by cases e)).mono ?_
  rintro e w' ⟨rfl,rfl⟩
  refine ⟨_,rfl,(Below.refl _ w).drew.alloc (Nat.le_refl _) _,?_⟩
  have hg:=grownCap_ge w (0 + n) 0 121
  refine ⟨by simp,.inr ⟨w.heap.size,grownCap w (0 + n) 0 121,_,rfl,Nat.le_refl _,heap_alloc_new w.drew _,Nat.zero_le _,grownCap_le_maxLen w _ _ _ (by unfold maxLen;omega),?_,by simp⟩⟩
  have hc : (Value.pointer none).cells.size = 1:=rfl
  show Array.size (#[] ++ Builtin.zeroCells (Value.pointer none).cells (0 + n - 0) ++ Builtin.zeroCells (Value.pointer none).cells (grownCap w (0 + n) 0 121 - (0 + n))) = _
  rw [Array.size_append,Array.size_append,size_zeroCells,size_zeroCells,hc]
  generalize grownCap w (0 + n) 0 121 = G at *
  rw [Nat.mul_one,Nat.mul_one,Nat.mul_one]
  show 0 + _ + _ = _
  omega
end Go.Proofs.YthckbmcmdcemkaaGreatDoor.stm
