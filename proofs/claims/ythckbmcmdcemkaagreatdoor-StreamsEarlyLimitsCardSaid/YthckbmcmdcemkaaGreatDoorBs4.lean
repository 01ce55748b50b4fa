/- Texts of this claim, one behind the other: FSh. -/
import Derived.Shelf.Strings.Builder1
import Derived.Shelf.Sort.Plain
import Derived.Shelf.Slices.In.SortNone
import Derived.Test.YthckbmcmdcemkaaGreatDoorProg
set_option maxRecDepth 100000
set_option maxHeartbeats 16000000
set_option linter.unusedSimpArgs false
set_option linter.unusedVariables false
namespace Go.Proofs
section
open Go.Shelf
def Tryz.lays189_ren : Go.Shelf.Ren:=⟨fun | 189=>203 | 125=>223 | 257=>268 | 128=>281 | 129=>282 | 294=>294 | 295=>295 | 296=>296 | 297=>297 | 298=>298 | 299=>299 | 216=>300 | 300=>301 | 301=>302 | 328=>318 | 329=>308 | 330=>309 | 331=>319 | 332=>320 | 215=>321 | 343=>334 | n=>n,fun | 28=>33 | 3=>3 | 46=>119 | 0=>0 | 51=>318 | 53=>320 | 4=>4 | 183=>312 | 182=>311 | 131=>48 | 5=>5 | 9=>9 | 218=>340 | 222=>244 | 228=>359 | 229=>275 | n=>n,fun | n=>n⟩
theorem Tryz.lays189 : Go.Proofs.Lays.n189 Tryz.prog Tryz.lays189_ren:={
 mixed:=by kernel_rfl
 f125:=Tryz.func223.trans (congrArg some (by kernel_rfl))
 f128:=Tryz.func281.trans (congrArg some (by kernel_rfl))
 f129:=Tryz.func282.trans (congrArg some (by kernel_rfl))
 f189:=Tryz.func203.trans (congrArg some (by kernel_rfl))
 f215:=Tryz.func321.trans (congrArg some (by kernel_rfl))
 f216:=Tryz.func300.trans (congrArg some (by kernel_rfl))
 f257:=Tryz.func268.trans (congrArg some (by kernel_rfl))
 f294:=Tryz.func294.trans (congrArg some (by kernel_rfl))
 f295:=Tryz.func295.trans (congrArg some (by kernel_rfl))
 f296:=Tryz.func296.trans (congrArg some (by kernel_rfl))
 f297:=Tryz.func297.trans (congrArg some (by kernel_rfl))
 f298:=Tryz.func298.trans (congrArg some (by kernel_rfl))
 f299:=Tryz.func299.trans (congrArg some (by kernel_rfl))
 f300:=Tryz.func301.trans (congrArg some (by kernel_rfl))
 f301:=Tryz.func302.trans (congrArg some (by kernel_rfl))
 f328:=Tryz.func318.trans (congrArg some (by kernel_rfl))
 f329:=Tryz.func308.trans (congrArg some (by kernel_rfl))
 f330:=Tryz.func309.trans (congrArg some (by kernel_rfl))
 f331:=Tryz.func319.trans (congrArg some (by kernel_rfl))
 f332:=Tryz.func320.trans (congrArg some (by kernel_rfl))
 f343:=Tryz.func334.trans (congrArg some (by kernel_rfl))
 t0:=Tryz.underlying0
 a0:=Tryz.isAgg0
 z0:=Tryz.sizeOf0
 v0:=Tryz.zeroValue0
 t3:=Tryz.underlying3
 a3:=Tryz.isAgg3
 z3:=Tryz.sizeOf3
 v3:=Tryz.zeroValue3
 t4:=Tryz.underlying4
 a4:=Tryz.isAgg4
 z4:=Tryz.sizeOf4
 v4:=Tryz.zeroValue4
 t5:=Tryz.underlying5
 a5:=Tryz.isAgg5
 z5:=Tryz.sizeOf5
 v5:=Tryz.zeroValue5
 t9:=Tryz.underlying9
 a9:=Tryz.isAgg9
 z9:=Tryz.sizeOf9
 v9:=Tryz.zeroValue9
 t28:=Tryz.underlying33
 a28:=Tryz.isAgg33
 z28:=Tryz.sizeOf33
 v28:=Tryz.zeroValue33
 t46:=Tryz.underlying119
 a46:=Tryz.isAgg119
 z46:=Tryz.sizeOf119
 v46:=Tryz.zeroValue119
 t51:=Tryz.underlying318
 a51:=Tryz.isAgg318
 z51:=Tryz.sizeOf318
 v51:=Tryz.zeroValue318
 t53:=Tryz.underlying320
 a53:=Tryz.isAgg320
 z53:=Tryz.sizeOf320
 v53:=Tryz.zeroValue320
 t131:=Tryz.underlying48
 a131:=Tryz.isAgg48
 z131:=Tryz.sizeOf48
 v131:=Tryz.zeroValue48
 t182:=Tryz.underlying311
 a182:=Tryz.isAgg311
 z182:=Tryz.sizeOf311
 v182:=Tryz.zeroValue311
 t183:=Tryz.underlying312
 a183:=Tryz.isAgg312
 z183:=Tryz.sizeOf312
 v183:=Tryz.zeroValue312
 t218:=Tryz.underlying340
 a218:=Tryz.isAgg340
 z218:=Tryz.sizeOf340
 v218:=Tryz.zeroValue340
 t222:=Tryz.underlying244
 a222:=Tryz.isAgg244
 z222:=Tryz.sizeOf244
 v222:=Tryz.zeroValue244
 t228:=Tryz.underlying359
 a228:=Tryz.isAgg359
 z228:=Tryz.sizeOf359
 v228:=Tryz.zeroValue359
 t229:=Tryz.underlying275
 a229:=Tryz.isAgg275
 z229:=Tryz.sizeOf275
 v229:=Tryz.zeroValue275 }
open Go.Sort Go.RowKit in
theorem Tryz.slices_Sort_int (blk off cap : Nat) (zs : List Int) (w : World) (hH : Holds (Value.int .i64) w blk off zs.toArray) (hblk : blk < w.heap.size) (hsz : zs.length < 4611686018427387904) :
  Calls Tryz.prog 203 #[.slice (some ⟨blk,off,none⟩) zs.length cap] w fun e w'=>
   e = .returned (.tuple #[]) ∧ ∃ n os,w' = grow (putRow (Value.int .i64) (Sort.ahead w n) blk off (zs.mergeSort fun x y=>decide (x ≤ y)).toArray) os:=Any.slices_Sort_int Tryz.lays189 blk off cap zs w hH hblk hsz
open Go.RowKit Go.Sort in
theorem Tryz.slices_Sort_int_none (p : Option Addr) (cap : Nat) (w : World) :
  Calls Tryz.prog 203 #[.slice p 0 cap] w fun e w'=>e = .returned (.tuple #[]) ∧ w' = w:=Any.slices_Sort_int_none Tryz.lays189 p cap w
end
end Go.Proofs
