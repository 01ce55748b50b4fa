/- Texts of this claim, one behind the other: ZUd ZFsEnd. -/
import Derived.Test.YthckbmcmdcemkaaGreatDoorZs5
import Derived.Test.YthckbmcmdcemkaaGreatDoorBs41
import Derived.Test.YthckbmcmdcemkaaGreatDoorZs2
import Derived.Test.YthckbmcmdcemkaaGreatDoorZs1
import Derived.Test.YthckbmcmdcemkaaGreatDoorZs3
import Derived.Test.YthckbmcmdcemkaaGreatDoorZs4
import Derived.Test.YthckbmcmdcemkaaGreatDoorBs42
import Derived.OpenShut
set_option maxRecDepth 100000
set_option maxHeartbeats 16000000
set_option linter.unusedSimpArgs false
set_option linter.unusedVariables false
namespace Go.Proofs.YthckbmcmdcemkaaGreatDoor.stm
section
open Go.RowKit Go.Maps
theorem fin_new {W w : World} (hb : Below W.heap.size W w) : Calls Tryz.prog 17 #[.bool false,.agg #[.int .i64 1000,.int .i64 500,.int .i64 4,.int .i64 4,.int .i64 0,.int .i64 0],.agg #[.int .i64 1000,.int .i64 500,.int .i64 4,.int .i64 4,.int .i64 0,.int .i64 0]] w fun e w'=>∃ a : SetA,e = .returned (.tuple #[.pointer (some ⟨a.sb,0,none⟩),.int .i64 0]) ∧ Mn W w' a u0 []:=
 mn_new hb false uP uP (by decide) (by decide) (by decide)
theorem fin_walk (b0 b1 : Int) (h0 : 0 ≤ b0 ∧ b0 ≤ 255) (h1 : 0 ≤ b1 ∧ b1 ≤ 255) (r : Bool) {w : World} {a0 a1 a2 a3 : Addr} (hE : rea.Errs w a0 a1 a2 a3) (hA : rea.Apt w a0 a1) : Calls Tryz.prog 5 #[.int .u8 b0,.int .u8 b1,.bool r] w fun e w'=>e = .returned (.bool true) ∧ Below w.heap.size w w':=by
 have SN:=Lib.hid (sane_any hE hA)
 have EA:=Lib.hid (And.intro hE hA)
 have HB:=Lib.hid (And.intro h0 h1)
 clear hE hA h0 h1
 go_enter Tryz.func5,Tryz.ntmps5
 go_upto_region 3 with (go_at_call 16;refine SN.out.mono ?_;rintro e w0 ⟨rfl,hb⟩;have B0:=Lib.hid hb;clear hb)
 clear SN
 have X:=Lib.hid (box1 w0 (.cells #[.int .i64 1000,.int .i64 500,.int .i64 4,.int .i64 4,.int .i64 0,.int .i64 0] 24))
 have ER:=Lib.hid (And.intro ((EA.out.1.below B0.out).below X.out.2) ((EA.out.2.below B0.out).below X.out.2))
 have XB:=Lib.hid (btr2 B0.out X.out.2)
 clear EA B0
 go_upto_region 4 with (fail)
 obtain ⟨X1,X2⟩:=X.out
 obtain ⟨b,hb⟩ : ∃ b,w0.heap.size = b:=⟨_,rfl⟩
 rw [hb] at X1 ⊢
 clear X hb X2
 generalize World.alloc _ _ = W at *
 have q0 : W.cell? ⟨b,0,none⟩ = some (.int .i64 1000):=at_whole' X1 rfl
 have q1 : W.cell? ⟨b,1,none⟩ = some (.int .i64 500):=at_whole' X1 rfl
 have q2 : W.cell? ⟨b,2,none⟩ = some (.int .i64 4):=at_whole' X1 rfl
 have q3 : W.cell? ⟨b,3,none⟩ = some (.int .i64 4):=at_whole' X1 rfl
 have q4 : W.cell? ⟨b,4,none⟩ = some (.int .i64 0):=at_whole' X1 rfl
 have q5 : W.cell? ⟨b,5,none⟩ = some (.int .i64 0):=at_whole' X1 rfl
 clear X1
 have NW:=Lib.hid (fin_new (Below.refl W.heap.size W))
 go_upto_region 7 with (go_at_call 17;refine NW.out.mono ?_;rintro e w1 ⟨a,rfl,hM⟩;have M1:=Lib.hid hM;clear hM NW q0 q1 q2 q3 q4 q5)
 go_upto_region 9 with (fail)
 have en : ∃ n : Nat,(wrap64 b0).tmod 101 = (n : Int) ∧ n ≤ 100:=by
  have hw : wrap64 b0 = b0:=by
   have:=HB.out.1
   unfold wrap64
   omega
  have h2:=Int.tmod_nonneg 101 HB.out.1.1
  have h3:=Int.tmod_lt_of_pos b0 (show (0 : Int) < 101 by decide)
  rw [hw]
  exact ⟨(b0.tmod 101).toNat,by omega,by omega⟩
 have em : ∃ m : Nat,(wrap64 b1).tmod 200 = (m : Int) ∧ m ≤ 199:=by
  have hw : wrap64 b1 = b1:=by
   have:=HB.out.2
   unfold wrap64
   omega
  have h2:=Int.tmod_nonneg 200 HB.out.2.1
  have h3:=Int.tmod_lt_of_pos b1 (show (0 : Int) < 200 by decide)
  rw [hw]
  exact ⟨(b1.tmod 200).toNat,by omega,by omega⟩
 obtain ⟨n,hn,hn1⟩:=en
 obtain ⟨m,hm,hm1⟩:=em
 rw [hn,hm]
 have HN:=Lib.hid (And.intro hn1 hm1)
 clear HB hn hm hn1 hm1
 have Y:=Lib.hid (box1 w1 (.cells #[.int .i64 8,.int .i64 2,.int .i64 n,.string { data:=#[] },.bool true,.int .i64 0,.int .i64 0,.bool false,.int .i64 0,.slice none 0 0,.int .i64 0,.int .i64 0,.string { data:=#[] }] 38))
 generalize hc : w1.heap.size = c at *
 obtain ⟨y1,y2⟩:=Y.out
 have Y2:=Lib.hid y2
 clear Y y2
 have HC:=Lib.hid hc
 cases r
 ·go_upto_region 12 with (fail)
  generalize World.alloc w1 _ = w2 at *
  have M3:=Lib.hid (M1.out.lay (hc ▸ Y2.out) (Nat.le_of_eq hc) y1)
  have z0 : w2.cell? ⟨c,0,none⟩ = some (.int .i64 8):=at_whole' y1 rfl
  have z1 : w2.cell? ⟨c,1,none⟩ = some (.int .i64 2):=at_whole' y1 rfl
  have z2 : w2.cell? ⟨c,2,none⟩ = some (.int .i64 n):=at_whole' y1 rfl
  have z3 : w2.cell? ⟨c,3,none⟩ = some (.string { data:=#[] }):=at_whole' y1 rfl
  have z4 : w2.cell? ⟨c,4,none⟩ = some (.bool true):=at_whole' y1 rfl
  have z5 : w2.cell? ⟨c,5,none⟩ = some (.int .i64 0):=at_whole' y1 rfl
  have z6 : w2.cell? ⟨c,6,none⟩ = some (.int .i64 0):=at_whole' y1 rfl
  have z7 : w2.cell? ⟨c,7,none⟩ = some (.bool false):=at_whole' y1 rfl
  have z8 : w2.cell? ⟨c,8,none⟩ = some (.int .i64 0):=at_whole' y1 rfl
  have z9 : w2.cell? ⟨c,9,none⟩ = some (.slice none 0 0):=at_whole' y1 rfl
  have z10 : w2.cell? ⟨c,10,none⟩ = some (.int .i64 0):=at_whole' y1 rfl
  have z11 : w2.cell? ⟨c,11,none⟩ = some (.int .i64 0):=at_whole' y1 rfl
  have z12 : w2.cell? ⟨c,12,none⟩ = some (.string { data:=#[] }):=at_whole' y1 rfl
  clear y1 hc
  have C1:=Lib.hid (show Calls Tryz.prog 24 #[.pointer (some ⟨a.sb,0,none⟩),.agg #[.int .i64 8,.int .i64 2,.int .i64 n,.string { data:=#[] },.bool true,.int .i64 0,.int .i64 0,.bool false,.int .i64 0,.slice none 0 0,.int .i64 0,.int .i64 0,.string { data:=#[] }]] w2 (fun e w'=>e = .returned (.int .i64 0) ∧ FsOk n false W w' a [(c,.cells #[.int .i64 8,.int .i64 2,.int .i64 n,.string { data:=#[] },.bool true,.int .i64 0,.int .i64 0,.bool false,.int .i64 0,.slice none 0 0,.int .i64 0,.int .i64 0,.string { data:=#[] }] 38 (0,0))]) from fs_first M3.out HN.out.1 ER.out.1 ER.out.2 false)
  have C2:=Lib.hid (fun (wx : World) (h : FsOk n false W wx a [(c,.cells #[.int .i64 8,.int .i64 2,.int .i64 n,.string { data:=#[] },.bool true,.int .i64 0,.int .i64 0,.bool false,.int .i64 0,.slice none 0 0,.int .i64 0,.int .i64 0,.string { data:=#[] }] 38 (0,0))])=>(show Calls Tryz.prog 24 #[.pointer (some ⟨a.sb,0,none⟩),.agg #[.int .i64 8,.int .i64 2,.int .i64 m,.string { data:=#[] },.bool true,.int .i64 0,.int .i64 0,.bool false,.int .i64 0,.slice none 0 0,.int .i64 0,.int .i64 0,.string { data:=#[] }]] wx (fun e w'=>e = .returned (.int .i64 (if m = n then 0 else 161)) ∧ FsOk n false W w' a [(c,.cells #[.int .i64 8,.int .i64 2,.int .i64 n,.string { data:=#[] },.bool true,.int .i64 0,.int .i64 0,.bool false,.int .i64 0,.slice none 0 0,.int .i64 0,.int .i64 0,.string { data:=#[] }] 38 (0,0))]) from fs_end HN.out.1 HN.out.2 ER.out.1 ER.out.2 false h))
  have C3:=Lib.hid (fun (wx : World) (h : FsOk n false W wx a [(c,.cells #[.int .i64 8,.int .i64 2,.int .i64 n,.string { data:=#[] },.bool true,.int .i64 0,.int .i64 0,.bool false,.int .i64 0,.slice none 0 0,.int .i64 0,.int .i64 0,.string { data:=#[] }] 38 (0,0))])=>(show Calls Tryz.prog 24 #[.pointer (some ⟨a.sb,0,none⟩),.agg #[.int .i64 8,.int .i64 2,.int .i64 n,.string { data:=#[120] },.bool false,.int .i64 0,.int .i64 0,.bool false,.int .i64 0,.slice none 0 0,.int .i64 0,.int .i64 0,.string { data:=#[] }]] wx (fun e w'=>e = .returned (.int .i64 161) ∧ FsOk n false W w' a [(c,.cells #[.int .i64 8,.int .i64 2,.int .i64 n,.string { data:=#[] },.bool true,.int .i64 0,.int .i64 0,.bool false,.int .i64 0,.slice none 0 0,.int .i64 0,.int .i64 0,.string { data:=#[] }] 38 (0,0))]) from fs_x HN.out.1 ER.out.1 ER.out.2 false h))
  have C4:=Lib.hid (fun (wx : World) (h : FsOk n false W wx a [(c,.cells #[.int .i64 8,.int .i64 2,.int .i64 n,.string { data:=#[] },.bool true,.int .i64 0,.int .i64 0,.bool false,.int .i64 0,.slice none 0 0,.int .i64 0,.int .i64 0,.string { data:=#[] }] 38 (0,0))])=>(show Calls Tryz.prog 24 #[.pointer (some ⟨a.sb,0,none⟩),.agg #[.int .i64 4,.int .i64 2,.int .i64 0,.string { data:=#[] },.bool false,.int .i64 ((n + 1 + m : Nat) : Int),.int .i64 6,.bool false,.int .i64 0,.slice none 0 0,.int .i64 0,.int .i64 0,.string { data:=#[] }]] wx (fun e w'=>e = .returned (.int .i64 161) ∧ FsOk n false W w' a [(c,.cells #[.int .i64 8,.int .i64 2,.int .i64 n,.string { data:=#[] },.bool true,.int .i64 0,.int .i64 0,.bool false,.int .i64 0,.slice none 0 0,.int .i64 0,.int .i64 0,.string { data:=#[] }] 38 (0,0))]) from fs_rst (k:=n + 1 + m) HN.out.1 (by omega) (by have:=HN.out;omega) false h))
  have C5:=Lib.hid (fun (wx : World) (h : FsOk n false W wx a [(c,.cells #[.int .i64 8,.int .i64 2,.int .i64 n,.string { data:=#[] },.bool true,.int .i64 0,.int .i64 0,.bool false,.int .i64 0,.slice none 0 0,.int .i64 0,.int .i64 0,.string { data:=#[] }] 38 (0,0))])=>(show Calls Tryz.prog 24 #[.pointer (some ⟨a.sb,0,none⟩),.agg #[.int .i64 8,.int .i64 2,.int .i64 n,.string { data:=#[] },.bool true,.int .i64 0,.int .i64 0,.bool false,.int .i64 0,.slice none 0 0,.int .i64 0,.int .i64 0,.string { data:=#[] }]] wx (fun e w'=>e = .returned (.int .i64 0) ∧ FsOk n false W w' a [(c,.cells #[.int .i64 8,.int .i64 2,.int .i64 n,.string { data:=#[] },.bool true,.int .i64 0,.int .i64 0,.bool false,.int .i64 0,.slice none 0 0,.int .i64 0,.int .i64 0,.string { data:=#[] }] 38 (0,0))]) from fs_again HN.out.1 ER.out.1 ER.out.2 false h))
  have ez : ∃ z : Int,(if m = n then (0 : Int) else 161) = z:=⟨_,rfl⟩
  obtain ⟨z,hz⟩:=ez
  rw [hz] at C2
  have HZ:=Lib.hid hz
  clear hz
  have wr1 : IntKind.i64.wrap ((n : Int) + 1) = (n : Int) + 1:=IntWalk.i64_in _ (by have:=HN.out;omega)
  have wr2 : IntKind.i64.wrap ((n : Int) + 1 + (m : Int)) = ((n + 1 + m : Nat) : Int):=by rw [IntWalk.i64_in _ (by have:=HN.out;omega)];omega
  go_upto_region 14 with (go_at_call 24;refine C1.out.mono ?_;rintro e w4 ⟨rfl,hF⟩;have F4:=Lib.hid hF;clear hF z0 z1 z2 z3 z4 z5 z6 z7 z8 z9 z10 z11 z12 C1)
  go_upto_region 15 with (go_at_call 24;refine (C2.out _ F4.out).mono ?_;rintro e w5 ⟨rfl,hF⟩;have F5:=Lib.hid hF;clear hF F4)
  go_upto_region 16 with (go_at_call 24;refine (C3.out _ F5.out).mono ?_;rintro e w6 ⟨rfl,hF⟩;have F6:=Lib.hid hF;clear hF F5)
  go_upto_region 17 with (go_at_call 24;refine (C4.out _ F6.out).mono ?_;rintro e w7 ⟨rfl,hF⟩;have F7:=Lib.hid hF;clear hF F6)
  have y7:=F7.out.row (x:=(c,.cells #[.int .i64 8,.int .i64 2,.int .i64 n,.string { data:=#[] },.bool true,.int .i64 0,.int .i64 0,.bool false,.int .i64 0,.slice none 0 0,.int .i64 0,.int .i64 0,.string { data:=#[] }] 38 (0,0))) (by simp)
  have z0 : w7.cell? ⟨c,0,none⟩ = some (.int .i64 8):=at_whole' y7 rfl
  have z1 : w7.cell? ⟨c,1,none⟩ = some (.int .i64 2):=at_whole' y7 rfl
  have z2 : w7.cell? ⟨c,2,none⟩ = some (.int .i64 n):=at_whole' y7 rfl
  have z3 : w7.cell? ⟨c,3,none⟩ = some (.string { data:=#[] }):=at_whole' y7 rfl
  have z4 : w7.cell? ⟨c,4,none⟩ = some (.bool true):=at_whole' y7 rfl
  have z5 : w7.cell? ⟨c,5,none⟩ = some (.int .i64 0):=at_whole' y7 rfl
  have z6 : w7.cell? ⟨c,6,none⟩ = some (.int .i64 0):=at_whole' y7 rfl
  have z7 : w7.cell? ⟨c,7,none⟩ = some (.bool false):=at_whole' y7 rfl
  have z8 : w7.cell? ⟨c,8,none⟩ = some (.int .i64 0):=at_whole' y7 rfl
  have z9 : w7.cell? ⟨c,9,none⟩ = some (.slice none 0 0):=at_whole' y7 rfl
  have z10 : w7.cell? ⟨c,10,none⟩ = some (.int .i64 0):=at_whole' y7 rfl
  have z11 : w7.cell? ⟨c,11,none⟩ = some (.int .i64 0):=at_whole' y7 rfl
  have z12 : w7.cell? ⟨c,12,none⟩ = some (.string { data:=#[] }):=at_whole' y7 rfl
  clear y7
  go_upto_region 18 with (go_at_call 24;refine (C5.out _ F7.out).mono ?_;rintro e w8 ⟨rfl,hF⟩;have F8:=Lib.hid (btr2 XB.out hF.below);clear hF F7 z0 z1 z2 z3 z4 z5 z6 z7 z8 z9 z10 z11 z12)
  clear C2 C3 C4 C5
  by_cases hmn : m = n
  ·have hz0 : z = 0:=by rw [← HZ.out,if_pos hmn]
   subst hz0
   have HM:=Lib.hid hmn
   clear hmn
   go_wp2
   all_goals first | (exfalso;have:=HM.out;omega) | (go_ret;exact ⟨rfl,F8.out⟩)
  ·have hz1 : z = 161:=by rw [← HZ.out,if_neg hmn]
   subst hz1
   have HM:=Lib.hid hmn
   clear hmn
   go_wp2
   all_goals first | (exfalso;have:=HM.out;omega) | (go_ret;exact ⟨rfl,F8.out⟩)
 ·go_upto_region 11 with (fail)
  generalize World.alloc w1 _ = w2 at *
  have z0 : w2.cell? ⟨c,0,none⟩ = some (.int .i64 8):=at_whole' y1 rfl
  have z1 : w2.cell? ⟨c,1,none⟩ = some (.int .i64 2):=at_whole' y1 rfl
  have z2 : w2.cell? ⟨c,2,none⟩ = some (.int .i64 n):=at_whole' y1 rfl
  have z3 : w2.cell? ⟨c,3,none⟩ = some (.string { data:=#[] }):=at_whole' y1 rfl
  have z4 : w2.cell? ⟨c,4,none⟩ = some (.bool true):=at_whole' y1 rfl
  have z5 : w2.cell? ⟨c,5,none⟩ = some (.int .i64 0):=at_whole' y1 rfl
  have z6 : w2.cell? ⟨c,6,none⟩ = some (.int .i64 0):=at_whole' y1 rfl
  have z7 : w2.cell? ⟨c,7,none⟩ = some (.bool false):=at_whole' y1 rfl
  have z8 : w2.cell? ⟨c,8,none⟩ = some (.int .i64 0):=at_whole' y1 rfl
  have z9 : w2.cell? ⟨c,9,none⟩ = some (.slice none 0 0):=at_whole' y1 rfl
  have z10 : w2.cell? ⟨c,10,none⟩ = some (.int .i64 0):=at_whole' y1 rfl
  have z11 : w2.cell? ⟨c,11,none⟩ = some (.int .i64 0):=at_whole' y1 rfl
  have z12 : w2.cell? ⟨c,12,none⟩ = some (.string { data:=#[] }):=at_whole' y1 rfl
  have zf:=frozen_whole y1
  go_upto_region 12 with (fail)
  have BB:=((((((((((((((Blk.start y1).set 0 (.int .i64 4)).set 1 (.int .i64 2)).set 2 (.int .i64 0)).set 3 (.string { data:=#[] })).set 4 (.bool false)).set 5 (.int .i64 n)).set 6 (.int .i64 5)).set 7 (.bool false)).set 8 (.int .i64 0)).set 9 (.slice none 0 0)).set 10 (.int .i64 0)).set 11 (.int .i64 0)).set 12 (.string { data:=#[] }))
  generalize hw3 : World.setCell _ _ _ = w3
  rw [hw3] at BB
  clear z0 z1 z2 z3 z4 z5 z6 z7 z8 z9 z10 z11 z12 zf hw3
  simp only [List.setIfInBounds_toArray] at BB
  have y3 : w3.heap[c]? = some (.cells #[.int .i64 4,.int .i64 2,.int .i64 0,.string { data:=#[] },.bool false,.int .i64 n,.int .i64 5,.bool false,.int .i64 0,.slice none 0 0,.int .i64 0,.int .i64 0,.string { data:=#[] }] 38 (0,0)):=BB.1
  have M3:=Lib.hid (M1.out.lay (below_grown (hc ▸ Y2.out) BB.2 (Nat.le_of_eq hc)) (Nat.le_of_eq hc) y3)
  have z0 : w3.cell? ⟨c,0,none⟩ = some (.int .i64 4):=at_whole' y3 rfl
  have z1 : w3.cell? ⟨c,1,none⟩ = some (.int .i64 2):=at_whole' y3 rfl
  have z2 : w3.cell? ⟨c,2,none⟩ = some (.int .i64 0):=at_whole' y3 rfl
  have z3 : w3.cell? ⟨c,3,none⟩ = some (.string { data:=#[] }):=at_whole' y3 rfl
  have z4 : w3.cell? ⟨c,4,none⟩ = some (.bool false):=at_whole' y3 rfl
  have z5 : w3.cell? ⟨c,5,none⟩ = some (.int .i64 n):=at_whole' y3 rfl
  have z6 : w3.cell? ⟨c,6,none⟩ = some (.int .i64 5):=at_whole' y3 rfl
  have z7 : w3.cell? ⟨c,7,none⟩ = some (.bool false):=at_whole' y3 rfl
  have z8 : w3.cell? ⟨c,8,none⟩ = some (.int .i64 0):=at_whole' y3 rfl
  have z9 : w3.cell? ⟨c,9,none⟩ = some (.slice none 0 0):=at_whole' y3 rfl
  have z10 : w3.cell? ⟨c,10,none⟩ = some (.int .i64 0):=at_whole' y3 rfl
  have z11 : w3.cell? ⟨c,11,none⟩ = some (.int .i64 0):=at_whole' y3 rfl
  have z12 : w3.cell? ⟨c,12,none⟩ = some (.string { data:=#[] }):=at_whole' y3 rfl
  clear y1 y3 BB hc
  have C1:=Lib.hid (show Calls Tryz.prog 24 #[.pointer (some ⟨a.sb,0,none⟩),.agg #[.int .i64 4,.int .i64 2,.int .i64 0,.string { data:=#[] },.bool false,.int .i64 n,.int .i64 5,.bool false,.int .i64 0,.slice none 0 0,.int .i64 0,.int .i64 0,.string { data:=#[] }]] w3 (fun e w'=>e = .returned (.int .i64 0) ∧ FsOk n true W w' a [(c,.cells #[.int .i64 4,.int .i64 2,.int .i64 0,.string { data:=#[] },.bool false,.int .i64 n,.int .i64 5,.bool false,.int .i64 0,.slice none 0 0,.int .i64 0,.int .i64 0,.string { data:=#[] }] 38 (0,0))]) from fs_first M3.out HN.out.1 ER.out.1 ER.out.2 true)
  have C2:=Lib.hid (fun (wx : World) (h : FsOk n true W wx a [(c,.cells #[.int .i64 4,.int .i64 2,.int .i64 0,.string { data:=#[] },.bool false,.int .i64 n,.int .i64 5,.bool false,.int .i64 0,.slice none 0 0,.int .i64 0,.int .i64 0,.string { data:=#[] }] 38 (0,0))])=>(show Calls Tryz.prog 24 #[.pointer (some ⟨a.sb,0,none⟩),.agg #[.int .i64 8,.int .i64 2,.int .i64 m,.string { data:=#[] },.bool true,.int .i64 0,.int .i64 0,.bool false,.int .i64 0,.slice none 0 0,.int .i64 0,.int .i64 0,.string { data:=#[] }]] wx (fun e w'=>e = .returned (.int .i64 (if m = n then 0 else 161)) ∧ FsOk n true W w' a [(c,.cells #[.int .i64 4,.int .i64 2,.int .i64 0,.string { data:=#[] },.bool false,.int .i64 n,.int .i64 5,.bool false,.int .i64 0,.slice none 0 0,.int .i64 0,.int .i64 0,.string { data:=#[] }] 38 (0,0))]) from fs_end HN.out.1 HN.out.2 ER.out.1 ER.out.2 true h))
  have C3:=Lib.hid (fun (wx : World) (h : FsOk n true W wx a [(c,.cells #[.int .i64 4,.int .i64 2,.int .i64 0,.string { data:=#[] },.bool false,.int .i64 n,.int .i64 5,.bool false,.int .i64 0,.slice none 0 0,.int .i64 0,.int .i64 0,.string { data:=#[] }] 38 (0,0))])=>(show Calls Tryz.prog 24 #[.pointer (some ⟨a.sb,0,none⟩),.agg #[.int .i64 8,.int .i64 2,.int .i64 n,.string { data:=#[120] },.bool false,.int .i64 0,.int .i64 0,.bool false,.int .i64 0,.slice none 0 0,.int .i64 0,.int .i64 0,.string { data:=#[] }]] wx (fun e w'=>e = .returned (.int .i64 161) ∧ FsOk n true W w' a [(c,.cells #[.int .i64 4,.int .i64 2,.int .i64 0,.string { data:=#[] },.bool false,.int .i64 n,.int .i64 5,.bool false,.int .i64 0,.slice none 0 0,.int .i64 0,.int .i64 0,.string { data:=#[] }] 38 (0,0))]) from fs_x HN.out.1 ER.out.1 ER.out.2 true h))
  have C4:=Lib.hid (fun (wx : World) (h : FsOk n true W wx a [(c,.cells #[.int .i64 4,.int .i64 2,.int .i64 0,.string { data:=#[] },.bool false,.int .i64 n,.int .i64 5,.bool false,.int .i64 0,.slice none 0 0,.int .i64 0,.int .i64 0,.string { data:=#[] }] 38 (0,0))])=>(show Calls Tryz.prog 24 #[.pointer (some ⟨a.sb,0,none⟩),.agg #[.int .i64 4,.int .i64 2,.int .i64 0,.string { data:=#[] },.bool false,.int .i64 ((n + 1 + m : Nat) : Int),.int .i64 6,.bool false,.int .i64 0,.slice none 0 0,.int .i64 0,.int .i64 0,.string { data:=#[] }]] wx (fun e w'=>e = .returned (.int .i64 161) ∧ FsOk n true W w' a [(c,.cells #[.int .i64 4,.int .i64 2,.int .i64 0,.string { data:=#[] },.bool false,.int .i64 n,.int .i64 5,.bool false,.int .i64 0,.slice none 0 0,.int .i64 0,.int .i64 0,.string { data:=#[] }] 38 (0,0))]) from fs_rst (k:=n + 1 + m) HN.out.1 (by omega) (by have:=HN.out;omega) true h))
  have C5:=Lib.hid (fun (wx : World) (h : FsOk n true W wx a [(c,.cells #[.int .i64 4,.int .i64 2,.int .i64 0,.string { data:=#[] },.bool false,.int .i64 n,.int .i64 5,.bool false,.int .i64 0,.slice none 0 0,.int .i64 0,.int .i64 0,.string { data:=#[] }] 38 (0,0))])=>(show Calls Tryz.prog 24 #[.pointer (some ⟨a.sb,0,none⟩),.agg #[.int .i64 4,.int .i64 2,.int .i64 0,.string { data:=#[] },.bool false,.int .i64 n,.int .i64 5,.bool false,.int .i64 0,.slice none 0 0,.int .i64 0,.int .i64 0,.string { data:=#[] }]] wx (fun e w'=>e = .returned (.int .i64 0) ∧ FsOk n true W w' a [(c,.cells #[.int .i64 4,.int .i64 2,.int .i64 0,.string { data:=#[] },.bool false,.int .i64 n,.int .i64 5,.bool false,.int .i64 0,.slice none 0 0,.int .i64 0,.int .i64 0,.string { data:=#[] }] 38 (0,0))]) from fs_again HN.out.1 ER.out.1 ER.out.2 true h))
  have ez : ∃ z : Int,(if m = n then (0 : Int) else 161) = z:=⟨_,rfl⟩
  obtain ⟨z,hz⟩:=ez
  rw [hz] at C2
  have HZ:=Lib.hid hz
  clear hz
  have wr1 : IntKind.i64.wrap ((n : Int) + 1) = (n : Int) + 1:=IntWalk.i64_in _ (by have:=HN.out;omega)
  have wr2 : IntKind.i64.wrap ((n : Int) + 1 + (m : Int)) = ((n + 1 + m : Nat) : Int):=by rw [IntWalk.i64_in _ (by have:=HN.out;omega)];omega
  go_upto_region 14 with (go_at_call 24;refine C1.out.mono ?_;rintro e w4 ⟨rfl,hF⟩;have F4:=Lib.hid hF;clear hF z0 z1 z2 z3 z4 z5 z6 z7 z8 z9 z10 z11 z12 C1)
  go_upto_region 15 with (go_at_call 24;refine (C2.out _ F4.out).mono ?_;rintro e w5 ⟨rfl,hF⟩;have F5:=Lib.hid hF;clear hF F4)
  go_upto_region 16 with (go_at_call 24;refine (C3.out _ F5.out).mono ?_;rintro e w6 ⟨rfl,hF⟩;have F6:=Lib.hid hF;clear hF F5)
  go_upto_region 17 with (go_at_call 24;refine (C4.out _ F6.out).mono ?_;rintro e w7 ⟨rfl,hF⟩;have F7:=Lib.hid hF;clear hF F6)
  have y7:=F7.out.row (x:=(c,.cells #[.int .i64 4,.int .i64 2,.int .i64 0,.string { data:=#[] },.bool false,.int .i64 n,.int .i64 5,.bool false,.int .i64 0,.slice none 0 0,.int .i64 0,.int .i64 0,.string { data:=#[] }] 38 (0,0))) (by simp)
  have z0 : w7.cell? ⟨c,0,none⟩ = some (.int .i64 4):=at_whole' y7 rfl
  have z1 : w7.cell? ⟨c,1,none⟩ = some (.int .i64 2):=at_whole' y7 rfl
  have z2 : w7.cell? ⟨c,2,none⟩ = some (.int .i64 0):=at_whole' y7 rfl
  have z3 : w7.cell? ⟨c,3,none⟩ = some (.string { data:=#[] }):=at_whole' y7 rfl
  have z4 : w7.cell? ⟨c,4,none⟩ = some (.bool false):=at_whole' y7 rfl
  have z5 : w7.cell? ⟨c,5,none⟩ = some (.int .i64 n):=at_whole' y7 rfl
  have z6 : w7.cell? ⟨c,6,none⟩ = some (.int .i64 5):=at_whole' y7 rfl
  have z7 : w7.cell? ⟨c,7,none⟩ = some (.bool false):=at_whole' y7 rfl
  have z8 : w7.cell? ⟨c,8,none⟩ = some (.int .i64 0):=at_whole' y7 rfl
  have z9 : w7.cell? ⟨c,9,none⟩ = some (.slice none 0 0):=at_whole' y7 rfl
  have z10 : w7.cell? ⟨c,10,none⟩ = some (.int .i64 0):=at_whole' y7 rfl
  have z11 : w7.cell? ⟨c,11,none⟩ = some (.int .i64 0):=at_whole' y7 rfl
  have z12 : w7.cell? ⟨c,12,none⟩ = some (.string { data:=#[] }):=at_whole' y7 rfl
  clear y7
  go_upto_region 18 with (go_at_call 24;refine (C5.out _ F7.out).mono ?_;rintro e w8 ⟨rfl,hF⟩;have F8:=Lib.hid (btr2 XB.out hF.below);clear hF F7 z0 z1 z2 z3 z4 z5 z6 z7 z8 z9 z10 z11 z12)
  clear C2 C3 C4 C5
  by_cases hmn : m = n
  ·have hz0 : z = 0:=by rw [← HZ.out,if_pos hmn]
   subst hz0
   have HM:=Lib.hid hmn
   clear hmn
   go_wp2
   all_goals first | (exfalso;have:=HM.out;omega) | (go_ret;exact ⟨rfl,F8.out⟩)
  ·have hz1 : z = 161:=by rw [← HZ.out,if_neg hmn]
   subst hz1
   have HM:=Lib.hid hmn
   clear hmn
   go_wp2
   all_goals first | (exfalso;have:=HM.out;omega) | (go_ret;exact ⟨rfl,F8.out⟩)
end
end Go.Proofs.YthckbmcmdcemkaaGreatDoor.stm
namespace Go.Proofs.YthckbmcmdcemkaaGreatDoor.streamsFinalSize
section
open Go.RowKit Go.WideShapes Go.ChangeShapes
theorem main {H : Type} {enc : TypeId × Value → H} (W : World) (ad : Addr × Addr × Addr × Addr) (hl : Laid ad W) (d0 d1 d2 : DataW H) (_hw : (DataW.weightsEach Tryz.prog [5,5,4] [d0,d1,d2]).all (· ≤ reachBytes) = true)
  (b0 : Nat) (v0 : Value) (p0 : List MemPlace) (k0 : Value.okWide Tryz.prog W .any b0 5 v0) (h0 : DataW.Trod enc Tryz.prog W 0 (fun _=>true) true 5 v0 d0 p0)
  (b1 : Nat) (v1 : Value) (p1 : List MemPlace) (k1 : Value.okWide Tryz.prog W .any b1 5 v1) (h1 : DataW.Trod enc Tryz.prog W 0 (fun _=>true) true 5 v1 d1 p1)
  (b2 : Nat) (v2 : Value) (p2 : List MemPlace) (k2 : Value.okWide Tryz.prog W .any b2 4 v2) (h2 : DataW.Trod enc Tryz.prog W 0 (fun _=>true) true 4 v2 d2 p2) :
  Calls Tryz.prog 5 #[v0,v1,v2] W fun e w'=>e = .returned (.bool true) ∧ Below W.heap.size W w':=by
 obtain ⟨a0,rfl,_,_,w0⟩:=open_int Tryz.underlying5 k0 h0
 obtain ⟨a1,rfl,_,_,w1⟩:=open_int Tryz.underlying5 k1 h1
 obtain ⟨r,rfl,_,_⟩:=open_bool Tryz.underlying4 k2 h2
 exact stm.fin_walk a0 a1 (bounds_u8 w0) (bounds_u8 w1) r hl.1 hl.2
end
end Go.Proofs.YthckbmcmdcemkaaGreatDoor.streamsFinalSize
