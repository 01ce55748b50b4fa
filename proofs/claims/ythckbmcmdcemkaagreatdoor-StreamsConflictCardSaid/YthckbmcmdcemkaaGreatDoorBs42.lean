/- Texts of this claim, one behind the other: LaidAt. -/
import Derived.Test.YthckbmcmdcemkaaGreatDoorRows
import Derived.Test.YthckbmcmdcemkaaGreatDoorBs20
import Derived.ProofKit
import Derived.LaidMore
import Derived.OpenShut
import Derived.Stop.Joined
import Derived.Stop.LaidErr
import Derived.Stop.LaidTwo
set_option maxRecDepth 100000
set_option maxHeartbeats 16000000
set_option linter.unusedSimpArgs false
set_option linter.unusedVariables false
namespace Go.Proofs.YthckbmcmdcemkaaGreatDoor
section
open Go.ChangeShapes Go.WideShapes Go.ChangeAt Go.RowKit Go.Stop
abbrev laidL : List (String × DataW Unit) := [("peregrine/reassembly.errArgument", Rows.laid_peregrine_reassembly_errArgument), ("peregrine/reassembly.errConflict", Rows.laid_peregrine_reassembly_errConflict), ("peregrine/reassembly.errFinalSize", Rows.laid_peregrine_reassembly_errFinalSize), ("peregrine/reassembly.errRoom", Rows.laid_peregrine_reassembly_errRoom)]
def Laid (ad : Addr × Addr × Addr × Addr) (W : World) : Prop:=rea.Errs W ad.1 ad.2.1 ad.2.2.1 ad.2.2.2 ∧ rea.Apt W ad.1 ad.2.1
theorem gl0 : Tryz.prog.globalNamed "peregrine/reassembly.errConflict" = some 0 := by kernel_rfl
theorem gl1 : Tryz.prog.globalNamed "peregrine/reassembly.errFinalSize" = some 1 := by kernel_rfl
theorem gl2 : Tryz.prog.globalNamed "peregrine/reassembly.errRoom" = some 2 := by kernel_rfl
theorem gl3 : Tryz.prog.globalNamed "peregrine/reassembly.errArgument" = some 3 := by kernel_rfl
theorem glt0 : (Tryz.prog.globals[0]?).map (·.type) = some 170:=by kernel_rfl
theorem glt1 : (Tryz.prog.globals[1]?).map (·.type) = some 170:=by kernel_rfl
theorem glt2 : (Tryz.prog.globals[2]?).map (·.type) = some 170:=by kernel_rfl
theorem glt3 : (Tryz.prog.globals[3]?).map (·.type) = some 170:=by kernel_rfl
theorem star : "*" ++ "errors.errorString" = "*errors.errorString" := by decide
theorem row116 (u : TypeId) (h : Tryz.prog.typeName? 3 u = some "*errors.errorString") : u = 377 :=
 typeName_ptr_named (nm := "errors.errorString") (by rw [star]; kernel_rfl) (by kernel_rfl) (by decide) u (by rw [star]; exact h)
theorem door_met (os : Os) (args : Array Value) : laidMetH Tryz.prog laidL ((World.doorLaid Tryz.prog 400 os).forCall (fun _ _=>0) ⟨#[],args,[]⟩).memory:=
 laidMetH_of_parts (laidMet_of_run' 8 (by kernel_rfl) (by kernel_rfl)) (by kernel_rfl)
theorem laid_cell {W : World} (h : laidMetH Tryz.prog laidL W) : ∃ ad,Laid ad W:=by
 rw [MakeChecks.laidMetH_plain _ _ _ (by kernel_rfl)] at h
 have h1:=h.tail
 have h2:=h1.tail
 have h3:=h2.tail
 obtain ⟨a3,s3,v3,_⟩:=laid_sentinel (P:=Tryz.prog) h gl3 glt3 Tryz.underlying170 row116 Tryz.underlying377 Tryz.underlying399 rfl rfl Tryz.underlying9 (by kernel_rfl) (by kernel_rfl)
 obtain ⟨a0,a1,s0,s1,c0,c1,t0,t1,v0,v1,_,_,_,_,_,_,hne,hb0,hb1⟩:=laid_sentinels2 (P:=Tryz.prog) h1 gl0 glt0 gl1 glt1 Tryz.underlying170 row116 Tryz.underlying377 Tryz.underlying399 rfl rfl Tryz.underlying9 (by kernel_rfl) (by kernel_rfl)
 obtain ⟨a2,s2,v2,_⟩:=laid_sentinel (P:=Tryz.prog) h3 gl2 glt2 Tryz.underlying170 row116 Tryz.underlying377 Tryz.underlying399 rfl rfl Tryz.underlying9 (by kernel_rfl) (by kernel_rfl)
 exact ⟨(a0,a1,a2,a3),⟨by simpa using World.var?_cell gl0 v0 0,by simpa using World.var?_cell gl1 v1 0,by simpa using World.var?_cell gl2 v2 0,by simpa using World.var?_cell gl3 v3 0⟩,hne,⟨c0,t0,hb0⟩,⟨c1,t1,hb1⟩⟩
end
end Go.Proofs.YthckbmcmdcemkaaGreatDoor
