/- Texts of this claim, one behind the other: FSi. -/
import Derived.Shelf.SlIterI.Nil
import Derived.Shelf.SlIterI.Sorted
import Derived.Test.YthckbmcmdcemkaaGreatDoorProg
set_option maxRecDepth 100000
set_option maxHeartbeats 16000000
set_option linter.unusedSimpArgs false
set_option linter.unusedVariables false
namespace Go.Proofs
section
open Go.Shelf
def Tryz.keysL_ren : Go.Shelf.Ren:=⟨fun | 7=>128 | 10=>204 | n=>n,fun | 23=>109 | 26=>3 | 3=>121 | 28=>215 | 0=>0 | 27=>214 | 33=>152 | 4=>4 | n=>n,fun | n=>n⟩
theorem Tryz.keysL : Go.Proofs.SlLaysZI.n7 Tryz.prog Tryz.keysL_ren:={
 mixed:=by kernel_rfl
 f7:=⟨Tryz.f128.name,by decide,Tryz.func128.trans (congrArg some (by kernel_rfl))⟩
 f10:=⟨Tryz.f204.name,by decide,Tryz.func204.trans (congrArg some (by kernel_rfl))⟩
 t0:=Tryz.underlying0
 a0:=Tryz.isAgg0
 z0:=Tryz.sizeOf0
 v0:=Tryz.zeroValue0
 t4:=Tryz.underlying4
 a4:=Tryz.isAgg4
 z4:=Tryz.sizeOf4
 v4:=Tryz.zeroValue4
 t23:=Tryz.underlying109
 a23:=Tryz.isAgg109
 z23:=Tryz.sizeOf109
 v23:=Tryz.zeroValue109
 t26:=Tryz.underlying3
 a26:=Tryz.isAgg3
 z26:=Tryz.sizeOf3
 v26:=Tryz.zeroValue3
 t27:=Tryz.underlying214
 a27:=Tryz.isAgg214
 z27:=Tryz.sizeOf214
 v27:=Tryz.zeroValue214
 t28:=Tryz.underlying215
 a28:=Tryz.isAgg215
 z28:=Tryz.sizeOf215
 v28:=Tryz.zeroValue215
 t33:=Tryz.underlying152
 a33:=Tryz.isAgg152
 z33:=Tryz.sizeOf152
 v33:=Tryz.zeroValue152 }
def Tryz.sortedL_ren : Go.Shelf.Ren:=⟨fun | 6=>127 | 8=>202 | 9=>203 | 11=>267 | 13=>223 | 12=>268 | 23=>281 | 24=>282 | 14=>294 | 15=>295 | 16=>296 | 17=>297 | 18=>298 | 19=>299 | 20=>300 | 21=>301 | 22=>302 | 25=>318 | 26=>308 | 27=>309 | 28=>319 | 29=>320 | 30=>321 | 31=>334 | n=>n,fun | 26=>3 | 28=>215 | 24=>33 | 0=>0 | 3=>3 | 37=>119 | 48=>318 | 50=>320 | 4=>4 | 40=>312 | 39=>311 | 45=>48 | 5=>5 | 9=>9 | 51=>340 | 55=>244 | 57=>359 | 58=>275 | 33=>152 | n=>n,fun | n=>n⟩
theorem Tryz.sortedL : Go.Proofs.SlLaysZI.n6 Tryz.prog Tryz.sortedL_ren:={
 mixed:=by kernel_rfl
 f6:=⟨Tryz.f127.name,by decide,Tryz.func127.trans (congrArg some (by kernel_rfl))⟩
 f8:=⟨Tryz.f202.name,by decide,Tryz.func202.trans (congrArg some (by kernel_rfl))⟩
 f11:=⟨Tryz.f267.name,by decide,Tryz.func267.trans (congrArg some (by kernel_rfl))⟩
 t0:=Tryz.underlying0
 a0:=Tryz.isAgg0
 z0:=Tryz.sizeOf0
 v0:=Tryz.zeroValue0
 t24:=Tryz.underlying33
 a24:=Tryz.isAgg33
 z24:=Tryz.sizeOf33
 v24:=Tryz.zeroValue33
 t26:=Tryz.underlying3
 a26:=Tryz.isAgg3
 z26:=Tryz.sizeOf3
 v26:=Tryz.zeroValue3
 t28:=Tryz.underlying215
 a28:=Tryz.isAgg215
 z28:=Tryz.sizeOf215
 v28:=Tryz.zeroValue215
 i26:=by kernel_rfl }
end
end Go.Proofs
