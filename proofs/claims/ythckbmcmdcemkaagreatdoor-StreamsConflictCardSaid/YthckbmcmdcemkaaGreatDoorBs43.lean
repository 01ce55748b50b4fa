/- Texts of this claim, one behind the other: CardK. -/
import Derived.Test.YthckbmcmdcemkaaGreatDoorProg
import Derived.KernelRfl
import Derived.SevenTiedAt
set_option maxRecDepth 100000
set_option maxHeartbeats 16000000
set_option linter.unusedSimpArgs false
set_option linter.unusedVariables false
namespace Go.Proofs.YthckbmcmdcemkaaGreatDoor
theorem pHm : Tryz.prog.mainIs = some (true, "eef46f693fd9202005d34019879f0db1f4fe13921794b3e7002c8302224efa97".toList) := by kernel_rfl
theorem pLk : true = Tryz.prog.looks []:=by kernel_rfl
end Go.Proofs.YthckbmcmdcemkaaGreatDoor
