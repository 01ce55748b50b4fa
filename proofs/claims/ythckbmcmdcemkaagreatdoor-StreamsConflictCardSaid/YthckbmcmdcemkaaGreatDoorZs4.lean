/- Texts of this claim, one behind the other: ZSb ZSd ZTc ZUa ZUb. -/
import Derived.Test.YthckbmcmdcemkaaGreatDoorBs39
import Derived.Test.YthckbmcmdcemkaaGreatDoorZs2
import Derived.Test.YthckbmcmdcemkaaGreatDoorZs1
import Derived.Test.YthckbmcmdcemkaaGreatDoorZs3
import Derived.Test.YthckbmcmdcemkaaGreatDoorBs40
import Derived.Test.YthckbmcmdcemkaaGreatDoorBs8
import Derived.Test.YthckbmcmdcemkaaGreatDoorBs29
import Derived.Test.YthckbmcmdcemkaaGreatDoorBs20
import Derived.Deep.CutRange
import Derived.Deep.CutBlock
import Derived.Test.YthckbmcmdcemkaaGreatDoorBs41
import Derived.Test.YthckbmcmdcemkaaGreatDoorBs38
set_option maxRecDepth 100000
set_option maxHeartbeats 16000000
set_option linter.unusedSimpArgs false
set_option linter.unusedVariables false
namespace Go.Proofs.YthckbmcmdcemkaaGreatDoor.stm
section
open Go.RowKit
section
variable {W w w' : World} {H H' : Nat → Option Obj} {a : SetA} {s : SetS}
theorem onData_no (hs : SetIn H a s) (hm : Mem W w H) {l1 l2 : List (StA × Strm)} {xa : StA} {x : Strm} {i : InP} (hl : s.ss = l1 ++ (xa,x) :: l2) (hi : x.inp = some i) (f : Fr) (hf0 : 0 ≤ f.off) (hf1 : f.off + f.s.size ≤ 1099511627776) (hf2 : f.s.size ≤ 8192) (hc : 0 ≤ i.cn ∧ i.cn ≤ maxOff) (ht : 0 ≤ s.tot ∧ s.tot ≤ maxOff) (hat : i.R.at_ ≤ 1125899906842624)
  {a0 a1 a2 a3 : Addr} (hE : rea.Errs w a0 a1 a2 a3) (hA : rea.Apt w a0 a1) (hno : i.wasR = true ∨ datE s i f ≠ 0) :
  Calls Tryz.prog 138 #[ptr a.sb,ptr xa.xb,f.val] w fun e w'=>e = .returned (.int .i64 (datE s i f)) ∧ ∃ H',To W w' H H' (s.foot a) (s.foot a) ∧ SetIn H' a s:=by
 obtain ⟨H1,T1,n1⟩:=To.alloc hm (.cells f.cells 38)
 obtain ⟨S1,TS1⟩:=hs.laid T1
 have hx:=S1.li.all (xa,x) (by rw [hl];simp)
 have h0:=hx.i
 simp only [hi] at h0
 obtain ⟨ia,h1,h2⟩:=h0.some_of
 have c2:=hx.c2 TS1.mem
 rw [h1] at c2
 simp only [Option.map_some,optP,ptr] at c2
 have hb0:=(Below.refl w.heap.size w).alloc (Nat.le_refl _) (.cells f.cells 38)
 have d0 : (w.alloc (.cells f.cells 38)).cell? ⟨ia.ib,0,none⟩ = some (.pointer (some ⟨ia.rb,0,none⟩)):=h2.facts TS1.mem 0 rfl
 have d8 : (w.alloc (.cells f.cells 38)).cell? ⟨ia.ib,8,none⟩ = some (.int .i64 i.fl):=h2.facts TS1.mem 8 rfl
 have f2 : (w.alloc (.cells f.cells 38)).cell? ⟨w.heap.size,2,none⟩ = some (.int .i64 f.off):=at_whole (heap_alloc_new w _) 2 rfl
 have f3 : (w.alloc (.cells f.cells 38)).cell? ⟨w.heap.size,3,none⟩ = some (.string f.s):=at_whole (heap_alloc_new w _) 3 rfl
 have f4 : (w.alloc (.cells f.cells 38)).cell? ⟨w.heap.size,4,none⟩ = some (.bool f.fin):=at_whole (heap_alloc_new w _) 4 rfl
 have WR:=Lib.hid (fun wx (hb : Below (w.alloc (.cells f.cells 38)).heap.size (w.alloc (.cells f.cells 38)) wx)=>wasReset_any h2 (TS1.mem.same hb))
 have EX:=Lib.hid (fun wx (hb : Below (w.alloc (.cells f.cells 38)).heap.size (w.alloc (.cells f.cells 38)) wx)=>exceeds_any S1 (TS1.mem.same hb) h2 (datEnd f) (by unfold datEnd;omega) hc ht)
 have PT:=Lib.hid (fun wx (hb : Below (w.alloc (.cells f.cells 38)).heap.size (w.alloc (.cells f.cells 38)) wx) (h : rea.putE i.R f.off.toNat f.s f.fin ≠ 0)=>rea.Put_no ia.rb ia.g1 ia.g2 i.R f.off.toNat f.s f.fin a0 a1 a2 a3 wx (h2.rbAt (TS1.mem.same hb)) ((hE.below hb0).below hb) ((hA.below hb0).below hb) hf2 (by omega) hat h)
 rw [show ((f.off.toNat : Nat) : Int) = f.off by omega] at PT
 have RR:=Lib.hid (fun wx (hb : Below (w.alloc (.cells f.cells 38)).heap.size (w.alloc (.cells f.cells 38)) wx)=>And.intro (TS1.same hb) S1)
 have hw : IntKind.i64.wrap (f.off + (f.s.size : Int)) = datEnd f:=IntWalk.i64_in _ (by omega)
 clear hs hm T1 n1 S1 TS1 hl hx h0 h2 h1 hf0 hf1 hf2 hc ht hi hE hA hat hb0
 unfold datE at *
 obtain ⟨ed,hed⟩ : ∃ q,datEnd f = q:=⟨_,rfl⟩
 rw [hed] at hw EX hno ⊢
 obtain ⟨pe,hpe⟩ : ∃ q,rea.putE i.R f.off.toNat f.s f.fin = q:=⟨_,rfl⟩
 rw [hpe] at PT hno ⊢
 clear hed hpe
 generalize i.wasR = wr at *
 generalize excB s i ed = ex at *
 generalize i.fl = fl at *
 unfold Fr.val
 unfold ptr at *
 cases wr with
 | true=>
  clear hno PT EX
  obtain ⟨fin,hfin⟩ : ∃ q,f.fin = q:=⟨_,rfl⟩
  rw [hfin] at f4 ⊢
  cases hlt : decide (fl < ed) with
  | true=>
   have h1 : fl < ed:=of_decide_eq_true hlt
   simp only [Bool.true_or,if_true]
   go_enter Tryz.func138,Tryz.ntmps138
   go_upto_region 1 with fail
   generalize w.alloc (.cells f.cells 38) = wv at *
   generalize w.heap.size = n at *
   go_quiet (fail)
   go_wp2_with (first | (go_at_call 210;refine (WR.out _ (by first | exact bz0 | exact bz0.drew | exact bz1 | exact bz1.drew | exact bz2 | exact bz2.drew)).mono ?_;rintro e w1 ⟨rfl,rfl⟩) | (go_at_call 211;refine (EX.out _ (by first | exact bz0 | exact bz0.drew | exact bz1 | exact bz1.drew | exact bz2 | exact bz2.drew)).mono ?_;rintro e w1 ⟨rfl,q2,rfl⟩))
   go_ret
   exact ⟨rfl,H1,RR.out _ (by first | exact bz0 | exact bz0.drew | exact bz1 | exact bz1.drew | exact bz2 | exact bz2.drew)⟩
  | false=>
   have h1 : ¬ fl < ed:=of_decide_eq_false hlt
   cases fin with
   | false=>
    simp only [Bool.false_or,Bool.false_and,if_true,Bool.false_eq_true,if_false]
    go_enter Tryz.func138,Tryz.ntmps138
    go_upto_region 1 with fail
    generalize w.alloc (.cells f.cells 38) = wv at *
    generalize w.heap.size = n at *
    go_quiet (fail)
    go_wp2_with (first | (go_at_call 210;refine (WR.out _ (by first | exact bz0 | exact bz0.drew | exact bz1 | exact bz1.drew | exact bz2 | exact bz2.drew)).mono ?_;rintro e w1 ⟨rfl,rfl⟩) | (go_at_call 211;refine (EX.out _ (by first | exact bz0 | exact bz0.drew | exact bz1 | exact bz1.drew | exact bz2 | exact bz2.drew)).mono ?_;rintro e w1 ⟨rfl,q2,rfl⟩))
    go_ret
    exact ⟨rfl,H1,RR.out _ (by first | exact bz0 | exact bz0.drew | exact bz1 | exact bz1.drew | exact bz2 | exact bz2.drew)⟩
   | true=>
    by_cases hq : ed = fl
    ·have h2 : (ed == fl) = true:=beq_iff_eq.2 hq
     have hd : decide (ed = fl) = true:=decide_eq_true hq
     simp only [hd,Bool.false_or,Bool.not_true,Bool.and_false,if_true,Bool.false_eq_true,if_false]
     clear hq
     go_enter Tryz.func138,Tryz.ntmps138
     go_upto_region 1 with fail
     generalize w.alloc (.cells f.cells 38) = wv at *
     generalize w.heap.size = n at *
     go_quiet (fail)
     go_wp2_with (first | (go_at_call 210;refine (WR.out _ (by first | exact bz0 | exact bz0.drew | exact bz1 | exact bz1.drew | exact bz2 | exact bz2.drew)).mono ?_;rintro e w1 ⟨rfl,rfl⟩) | (go_at_call 211;refine (EX.out _ (by first | exact bz0 | exact bz0.drew | exact bz1 | exact bz1.drew | exact bz2 | exact bz2.drew)).mono ?_;rintro e w1 ⟨rfl,q2,rfl⟩))
     go_ret
     exact ⟨rfl,H1,RR.out _ (by first | exact bz0 | exact bz0.drew | exact bz1 | exact bz1.drew | exact bz2 | exact bz2.drew)⟩
    ·have h2 : (ed == fl) = false:=beq_eq_false_iff_ne.2 hq
     have hd : decide (ed = fl) = false:=decide_eq_false hq
     simp only [hd,Bool.false_or,Bool.not_false,Bool.and_true,if_true,Bool.false_eq_true,if_false]
     go_enter Tryz.func138,Tryz.ntmps138
     go_upto_region 1 with fail
     generalize w.alloc (.cells f.cells 38) = wv at *
     generalize w.heap.size = n at *
     go_quiet (fail)
     go_wp2_with (first | (go_at_call 210;refine (WR.out _ (by first | exact bz0 | exact bz0.drew | exact bz1 | exact bz1.drew | exact bz2 | exact bz2.drew)).mono ?_;rintro e w1 ⟨rfl,rfl⟩) | (go_at_call 211;refine (EX.out _ (by first | exact bz0 | exact bz0.drew | exact bz1 | exact bz1.drew | exact bz2 | exact bz2.drew)).mono ?_;rintro e w1 ⟨rfl,q2,rfl⟩))
     go_ret
     exact ⟨rfl,H1,RR.out _ (by first | exact bz0 | exact bz0.drew | exact bz1 | exact bz1.drew | exact bz2 | exact bz2.drew)⟩
 | false=>
  cases ex with
  | true=>
   simp only [Bool.false_eq_true,if_false,if_true]
   clear hno PT
   go_enter Tryz.func138,Tryz.ntmps138
   go_upto_region 1 with fail
   generalize w.alloc (.cells f.cells 38) = wv at *
   generalize w.heap.size = n at *
   go_quiet (fail)
   go_wp2_with (first | (go_at_call 210;refine (WR.out _ (by first | exact bz0 | exact bz0.drew | exact bz1 | exact bz1.drew | exact bz2 | exact bz2.drew)).mono ?_;rintro e w1 ⟨rfl,rfl⟩) | (go_at_call 211;refine (EX.out _ (by first | exact bz0 | exact bz0.drew | exact bz1 | exact bz1.drew | exact bz2 | exact bz2.drew)).mono ?_;rintro e w1 ⟨rfl,q2,rfl⟩))
   go_ret
   exact ⟨rfl,H1,RR.out _ (by first | exact bz0 | exact bz0.drew | exact bz1 | exact bz1.drew | exact bz2 | exact bz2.drew)⟩
  | false=>
   have hp : pe ≠ 0:=by simpa using hno
   have PT:=Lib.hid (fun wx hb=>PT.out wx hb hp)
   have hb1 : (pe == 0) = false:=beq_eq_false_iff_ne.2 hp
   simp only [Bool.false_eq_true,if_false]
   clear hno
   go_enter Tryz.func138,Tryz.ntmps138
   go_upto_region 1 with fail
   generalize w.alloc (.cells f.cells 38) = wv at *
   generalize w.heap.size = n at *
   go_quiet (fail)
   go_upto_region 8 with (first | (go_at_call 210;refine (WR.out _ (by first | exact bz0 | exact bz0.drew | exact bz1 | exact bz1.drew | exact bz2 | exact bz2.drew)).mono ?_;rintro e w1 ⟨rfl,rfl⟩) | (go_at_call 211;refine (EX.out _ (by first | exact bz0 | exact bz0.drew | exact bz1 | exact bz1.drew | exact bz2 | exact bz2.drew)).mono ?_;rintro e w1 ⟨rfl,q2,rfl⟩))
   go_region_with (go_at_call 212;refine (PT.out _ (by first | exact bz0 | exact bz0.drew | exact bz1 | exact bz1.drew | exact bz2 | exact bz2.drew)).mono ?_;rintro e w5 ⟨rfl,hb5⟩;have G5:=Lib.hid hb5;clear hb5)
   all_goals
    go_wp2
    go_ret
    exact ⟨rfl,H1,RR.out _ (Below.trans (by first | exact bz0 | exact bz0.drew | exact bz1 | exact bz1.drew | exact bz2 | exact bz2.drew) (G5.out.mono (by exact Nat.le_refl _)))⟩
end
end
section
open Go.RowKit Go.Maps
open frm (FrV)
section
variable {W w w' : World} {H H' : Nat → Option Obj} {a : SetA} {s : SetS}
theorem Receive_139 (hs : SetIn H a s) (hm : Mem W w H) (f : Fr) (hv : FrV f) (hwf : (Lit.int .i64 f.ty).wf = true) (h16 : f.ty ≠ 16 ∧ f.ty ≠ 18 ∧ f.ty ≠ 20 ∧ f.ty ≠ 22) (hat : hnD5.atKey (.int .i64 f.ty) (.held (.agg #[.bool false,.nilFunc])) = .held (hnV false 139)) (hhas : Maps.has hnD5 (.int .i64 f.ty) = true)
  (C : Nat → SetS → Prop) (Q : Int → SetS → List (StA × Strm) → List (StA × Strm) → StA → Strm → Prop)
  (CH : ∀ w1 H1,Mem W w1 H1 → SetIn H1 a s → Calls Tryz.prog 71 #[ptr a.sb,.int .i64 f.str,.bool false] w1 fun e w2=>∃ xb H2 s2,e = .returned (.tuple #[ptr xb,.int .i64 0]) ∧ To W w2 H1 H2 (s.foot a) (s2.foot a) ∧ SetIn H2 a s2 ∧ C xb s2)
  (HA : ∀ w2 H2 s2 xb,C xb s2 → Mem W w2 H2 → SetIn H2 a s2 → Calls Tryz.prog 139 #[ptr a.sb,ptr xb,f.val] w2 fun e w3=>∃ er H3 s3 l1 l2 xa3 x3,e = .returned (.int .i64 er) ∧ To W w3 H2 H3 (s2.foot a) (s3.foot a) ∧ SetIn H3 a s3 ∧ s3.ss = l1 ++ (xa3,x3) :: l2 ∧ xa3.xb = xb ∧ s3.g0.Ok ∧ s3.g1.Ok ∧ Q er s3 l1 l2 xa3 x3) :
  Calls Tryz.prog 24 #[ptr a.sb,f.val] w fun e w'=>∃ er H4 s3 l1 l2 xa3 x3,e = .returned (.int .i64 er) ∧ Q er s3 l1 l2 xa3 x3 ∧ s3.ss = l1 ++ (xa3,x3) :: l2 ∧ To W w' H H4 (s.foot a) ((stlS s3 l1 l2 xa3 x3).foot a) ∧ SetIn H4 a (stlS s3 l1 l2 xa3 x3):=by
 obtain ⟨H1,T1,n1⟩:=To.alloc hm (.cells f.cells 38)
 obtain ⟨S1,TS1⟩:=hs.laid T1
 have VA:=Lib.hid (fun wx=>frm.valid_any f wx hv)
 have hone:=FrV.one hv
 have FT:=Lib.hid (show ∀ k,s.foot a k → k < w.heap.size from fun k hk=>by
  obtain ⟨o,ho⟩:=hs.dom hk
  exact heap_lt (hm.at ho))
 have WN:=Lib.hid hm.below.size
 have hwz : (w.alloc (.cells f.cells 38)).heap.size = w.heap.size + 1:=World.size_alloc ..
 have WZ:=Lib.hid hwz
 have X0:=Lib.hid (heap_alloc_new w (.cells f.cells 38))
 have HL:=Lib.hid (fun (wx : World) (M : Nat) (hM : frm.MapAt wx 3 M 5 hnD5)=>handler_look hM f.ty hwf hat hhas)
 have k16 : (f.ty == 16) = false:=beq_eq_false_iff_ne.2 h16.1
 have k18 : (f.ty == 18) = false:=beq_eq_false_iff_ne.2 h16.2.1
 have k20 : (f.ty == 20) = false:=beq_eq_false_iff_ne.2 h16.2.2.1
 have k22 : (f.ty == 22) = false:=beq_eq_false_iff_ne.2 h16.2.2.2
 have CHH:=Lib.hid CH
 have HAH:=Lib.hid HA
 have R1:=Lib.hid (And.intro TS1 (And.intro S1 n1))
 clear hs hm T1 S1 TS1 n1 hwf hat hhas h16 CH HA hv hwz
 obtain ⟨ty,hty⟩ : ∃ q,f.ty = q:=⟨_,rfl⟩
 obtain ⟨sd,hsd⟩ : ∃ q,f.str = q:=⟨_,rfl⟩
 have f0 : (w.alloc (.cells f.cells 38)).cell? ⟨w.heap.size,0,none⟩ = some (.int .i64 ty):=by rw [← hty];exact at_whole X0.out 0 rfl
 have f1 : (w.alloc (.cells f.cells 38)).cell? ⟨w.heap.size,1,none⟩ = some (.int .i64 sd):=by rw [← hsd];exact at_whole X0.out 1 rfl
 rw [hty] at k16 k18 k20 k22 HL
 rw [hsd] at CHH
 unfold Fr.val at *
 unfold ptr at *
 obtain ⟨FC,hFC⟩ : ∃ y,f.cells = y:=⟨_,rfl⟩
 have hsz : FC.size = 13:=by rw [← hFC];rfl
 have h1c : FC.all (·.oneCell') = true:=by rw [← hFC];exact hone
 rw [hFC] at VA HAH f0 f1 X0 R1 WZ ⊢
 have HF:=Lib.hid (And.intro hFC hty)
 have HSZ:=Lib.hid (show (Tryz.prog.info? 38).map (·.size) = some FC.size from by rw [hsz];kernel_rfl)
 have H1C:=Lib.hid (And.intro hsz h1c)
 clear hFC hty hsd hone hsz h1c
 go_enter_defers Tryz.func24,Tryz.ntmps24
 go_upto_region 3 with fail
 generalize hwv : w.alloc (.cells FC 38) = wv at *
 generalize hn : w.heap.size = n at *
 have hlt:=heap_lt X0.out
 go_upto_region 5 with (first | (refine wpList_load_row rfl 38 _ rfl n rfl 38 FC (0,0) _ X0.out Tryz.underlying38 rfl HSZ.out ?_) | (go_at_call 47;refine (VA.out _).mono ?_;rintro e w1 ⟨rfl,hb1⟩;have g0:=(hb1.cell (p:=⟨n,0,none⟩) hlt).trans f0;have g1:=(hb1.cell (p:=⟨n,1,none⟩) hlt).trans f1;have B1:=Lib.hid hb1;clear hb1))
 have M1:=Lib.hid (And.intro (R1.out.1.same B1.out) (heap_below B1.out X0.out))
 clear f0 f1 hlt
 go_upto_region 16 with fail
 have HSZ2:=Lib.hid (show (Tryz.prog.info? 146).map (·.size) = some 2 from by kernel_rfl)
 refine rea.any_regionT (τ:=Nat × Nat) (0,0) 10 slH (valH n ty false 139) (fun x L w'=>WRh w1 false 139 x L w') rfl (by kernel_rfl) rfl (fun i d hi h=>by have:=slH_lt i hi d h;simp;omega) (fun i j d hi hj h1 h2=>slH_inj i hi j hj (h1.trans h2.symm) (by rw [h1];simp)) ⟨(Below.refl _ w1).drew,(fun h=>by cases h),(fun h=>by cases h),(fun h=>by cases h),(fun h=>by cases h)⟩ ?_ (fun _=>rfl) ?_
 ·rintro x i o hi ho L aa w2 hLi hdl hW ⟨hold,hdep⟩
  have o3:=hold 3 slH_ne3
  simp at o3
  have g0':=(hW.b.cell (p:=⟨n,0,none⟩) (heap_lt M1.out.2)).trans g0
  have hii : i = 0 ∨ i = 3 ∨ i = 7 ∨ i = 8 ∨ i = 1 ∨ i = 2 ∨ i = 4 ∨ i = 5 ∨ i = 6 ∨ i = 9:=by omega
  rcases hii with rfl | rfl | rfl | rfl | rfl | rfl | rfl | rfl | rfl | rfl
  ·cases ho
   refine ⟨rfl,rfl,fun K' hK=>?_⟩
   unfold Oper.wp
   simp [execOp,Oper.upon,resolve,invoke,go_sem,Act.eval]
   refine (handlers_any w2).mono ?_
   rintro e w3 ⟨M,rfl,hM,hb,hl⟩
   exact hK (M,x.2) _ (fun i hi=>valH_eq _ _ _ _ (fun e=>by subst e;rw [hLi] at hi;cases hi) (fun _=>rfl)) (hW.call hM hb hl)
  ·cases ho
   simp [Region.binds,slH] at hdep hdl
   have hlk:=HL.out w2 x.1 (hW.m hdl.1)
   unfold hnV at hlk
   refine ⟨rfl,rfl,fun K' hK=>?_⟩
   unfold Oper.wp
   simp [execOp,Oper.upon,go_sem,Act.eval,hdep,valH,hlk]
   exact hK x _ (fun _ _=>rfl) (hW.mono 3 (by decide) (by decide) (by decide))
  ·cases ho
   refine ⟨rfl,rfl,fun K' hK=>?_⟩
   unfold Oper.wp
   simp [execOp,Oper.upon,go_sem]
   exact hK (x.1,w2.heap.size) _ (fun i hi=>valH_eq _ _ _ _ (fun _=>rfl) (fun e=>by subst e;rw [hLi] at hi;cases hi)) (hW.alloc hLi)
  ·cases ho
   simp [Region.binds,slH] at hdep hdl
   refine ⟨rfl,rfl,fun K' hK=>?_⟩
   have h7 : L 7 = true:=by simp [hdl]
   obtain ⟨t1,t2⟩:=hW.t h7
   rw [hLi] at t2
   exact wp_store_row 146 (.tmp 6) (.tmp 50) rfl x.2 (hnC false 139) (by simp [Act.eval,hdep,valH]) (by simp [Act.eval,hdep,valH]) 146 _ t2 HSZ2.out rfl (by simp [Value.oneCell']) (hK x _ (fun _ _=>rfl) (hW.store h7 hLi))
  all_goals
   cases ho
   simp [Region.binds,slH] at hdep hdl
   refine ⟨rfl,rfl,fun K' hK=>?_⟩
   unfold Oper.wp
   first
    | (simp [execOp,Oper.upon,go_sem,Act.eval,hdep,o3,g0',valH];exact hK x _ (fun _ _=>rfl) (hW.mono _ (by decide) (by decide) (by decide)))
    | (simp [execOp,Oper.upon,go_sem,Act.eval,o3,g0',valH];exact hK x _ (fun _ _=>rfl) (hW.mono _ (by decide) (by decide) (by decide)))
 ·rintro ⟨M,tb⟩ L w2 hall hW
  obtain ⟨t1,t2⟩:=hW.t (hall 7 (by decide))
  rw [hall 8 (by decide),if_pos rfl] at t2
  have M2:=Lib.hid (And.intro (M1.out.1.same hW.b) (And.intro (heap_below hW.b M1.out.2) (And.intro t1 t2)))
  clear hW hall t1 t2 HL g0
  simp only [rea.setAll,slH,valH]
  rw [show List.range 10 = [0,1,2,3,4,5,6,7,8,9] from rfl]
  simp only [List.foldl_cons,List.foldl_nil,List.getD_cons_zero,List.getD_cons_succ]
  simp (decide:=true) only [List.setIfInBounds_toArray,List.set_cons_succ,List.set_cons_zero,List.getElem?_toArray,List.getElem?_cons_succ,List.getElem?_cons_zero,Option.getD_some]
  have s0 : w2.cell? ⟨tb,0,none⟩ = some (.bool false):=at_whole M2.out.2.2.2 0 rfl
  have s1 : w2.cell? ⟨n,1,none⟩ = some (.int .i64 sd):=(World.cell?_of_block (a:=⟨n,1,none⟩) (M2.out.2.1.trans M1.out.2.symm)).trans g1
  have hn1 : n < w1.heap.size:=by have:=B1.out.size;have:=WZ.out;omega
  have S2 : SetIn (full W w2) a s:=R1.out.2.1.keep (fun k o _ e=>full_at M2.out.1.mem e)
  have CC:=Lib.hid (CHH.out w2 (full W w2) (Mem.full M2.out.1.mem.below) S2)
  have T2:=Lib.hid M2.out.1.full
  go_upto_region 20 with (go_at_call 71;refine CC.out.mono ?_;rintro e w3 ⟨xb,H3,s3,rfl,hT3,hS3,hC3⟩;have G3:=Lib.hid (And.intro hT3 (And.intro hS3 hC3));clear hT3 hS3 hC3)
  have nb3 : H3 n = some (.cells FC 38 (0,0)):=G3.out.1.kp n _ (full_is M2.out.2.1 WN.out) (fun c=>by have:=FT.out n c;omega)
  have tb3 : H3 tb = some (.cells (hnC false 139) 146 (0,0)):=G3.out.1.kp tb _ (full_is M2.out.2.2.2 (by have h1 : w1.heap.size ≤ tb:=M2.out.2.2.1;have:=WN.out;omega)) (fun c=>by have:=FT.out tb c;have h1 : w1.heap.size ≤ tb:=M2.out.2.2.1;omega)
  have HX3:=Lib.hid (G3.out.1.mem.at nb3)
  have t1 : w3.cell? ⟨tb,1,none⟩ = some (.func (.func 139) #[] #[]):=at_whole (G3.out.1.mem.at tb3) 1 rfl
  have AA:=Lib.hid (HAH.out w3 H3 s3 xb G3.out.2.2 G3.out.1.mem G3.out.2.1)
  clear s0 s1 nb3 tb3 CC S2
  go_wp2_with (first | (refine wpList_load_row rfl 38 _ rfl n rfl 38 FC (0,0) _ HX3.out Tryz.underlying38 rfl HSZ.out ?_) | (go_at_call 139;refine AA.out.mono ?_;rintro e w4 ⟨er,H4,s4,l1,l2,xa3,x3,rfl,hT4,hS4,hl4,hx4,ho0,ho1,hQ⟩;have G4:=Lib.hid (And.intro hT4 (And.intro hS4 (And.intro hl4 (And.intro hx4 (And.intro ho0 (And.intro ho1 hQ))))));clear hT4 hS4 hl4 hx4 ho0 ho1 hQ))
  refine leaves_cons (f:=72) (args:=#[.pointer (some ⟨a.sb,0,none⟩),.pointer (some ⟨xb,0,none⟩)]) (by simp) (by simp [go_sem]) ?_
  have SD:=settle_anyD G4.out.2.1 G4.out.1.mem G4.out.2.2.1 G4.out.2.2.2.2.1 G4.out.2.2.2.2.2.1
  rw [G4.out.2.2.2.1] at SD
  refine SD.mono ?_
  rintro e u' w5 ⟨rfl,rfl,H5,T5,S5⟩
  exact ⟨_,results_tmp rfl _ _ _,er,H5,s4,l1,l2,xa3,x3,rfl,G4.out.2.2.2.2.2.2,G4.out.2.2.1,((T2.out.trans G3.out.1).trans G4.out.1).trans T5,S5⟩
end
end
section
open Go.RowKit Go.Maps
section
variable {W w w' : World} {H H' : Nat → Option Obj} {a : SetA} {s s' : SetS} {p p2 : SetP} {R : List (Nat × Obj)}
theorem mn_data_no (h : Mn W w a p R) (f : Fr) (hv : frm.FrV f) (hty : f.ty = 8) {x : Strm} {i : InP} {q1 q2 : List Strm} (hstr : f.str = x.id) (CN : CnOk W a p p2 x.id false) (hq : p2.ss = q1 ++ x :: q2) (hi : x.inp = some i) (hg0 : p2.g0.Ok) (hg1 : p2.g1.Ok)
  (hf0 : 0 ≤ f.off) (hf1 : f.off + f.s.size ≤ 1099511627776) (hf2 : f.s.size ≤ 8192) (hc : 0 ≤ i.cn ∧ i.cn ≤ maxOff) (ht : 0 ≤ p2.tot ∧ p2.tot ≤ maxOff) (hat : i.R.at_ ≤ 1125899906842624)
  {a0 a1 a2 a3 : Addr} (hE : rea.Errs W a0 a1 a2 a3) (hA : rea.Apt W a0 a1) (hno : i.wasR = true ∨ datEP p2 i f ≠ 0) :
  Calls Tryz.prog 24 #[ptr a.sb,f.val] w fun e w'=>e = .returned (.int .i64 (datEP p2 i f)) ∧ Mn W w' a (stlP p2 q1 q2 x) R:=by
 obtain ⟨H,s,hm,hs,rfl,hr⟩:=h
 refine (Receive_138 hs hm f hv (by rw [hty];decide) (by rw [hty];decide) (by rw [hty];rfl) (by rw [hty];rfl)
  (fun xb s2=>s2.pl = p2 ∧ fndP s2.ss x.id = ptr xb)
  (fun er s3 l1 l2 _ x3=>er = datEP p2 i f ∧ s3.pl = p2 ∧ l1.map (·.2) = q1 ∧ l2.map (·.2) = q2 ∧ x3 = x)
  (fun w1 H1 hm1 hs1=>by rw [hstr];exact CN s w1 H1 rfl hm1 hs1) ?_).mono fun e w' hh=>?_
 ·rintro w2 H2 s2 xb ⟨rfl,hf⟩ hm2 hs2
  obtain ⟨l1,xa,l2,hl,e1,e2⟩:=pl_split (l:=s2.ss) hq
  have hxb:=xb_of hs2 hl hf
  subst hxb
  refine (onData_no hs2 hm2 hl hi f hf0 hf1 hf2 hc ht hat (hE.below hm2.below) (hA.below hm2.below) hno).mono fun e w3 hh=>?_
  obtain ⟨rfl,H3,T,S⟩:=hh
  exact ⟨_,H3,s2,l1,l2,xa,x,rfl,T,S,hl,rfl,hg0,hg1,rfl,rfl,e1,e2,rfl⟩
 ·obtain ⟨er,H4,s3,l1,l2,xa3,x3,rfl,⟨rfl,h1,rfl,rfl,rfl⟩,hl,T,S⟩:=hh
  exact ⟨rfl,Mn.to hr T S (by rw [pl_stl,h1])⟩
end
end
section
open Go.RowKit Go.Maps
section
variable {W w w' : World} {a : SetA} {p p2 : SetP} {R : List (Nat × Obj)}
def rstEP (p : SetP) (i : InP) (m : Int) : Int:=if (rstK i && !(decide (m = rstS i))) || decide (m < i.cn) then 161 else if excP p i m then 150 else 0
def rstTP (p : SetP) (i : InP) (m : Int) (L : List Strm) : SetP:={ cntSP p i m L with wn:=(cntSP p i m L).wn.read (m - i.R.at_) }
theorem mn_reset (h : Mn W w a p R) (f : Fr) (hv : frm.FrV f) (hty : f.ty = 4) {x : Strm} {i : InP} {q1 q2 : List Strm} (hstr : f.str = x.id) (CN : CnOk W a p p2 x.id false) (hq : p2.ss = q1 ++ x :: q2) (hi : x.inp = some i) (hg0 : p2.g0.Ok) (hg1 : p2.g1.Ok)
  (hf : 0 ≤ f.max ∧ f.max ≤ 4611686018427387904) (hc : 0 ≤ i.cn ∧ i.cn ≤ maxOff) (ht : 0 ≤ p2.tot ∧ p2.tot ≤ maxOff) (hE : rstEP p2 i f.max = 0) (ho : i.opn = true) (hat : i.R.at_ ≤ 1125899906842624) :
  Calls Tryz.prog 24 #[ptr a.sb,f.val] w fun e w'=>e = .returned (.int .i64 0) ∧ Mn W w' a (stlP (rstTP p2 i f.max (q1 ++ { x with inp:=some (rstI i f.max f.code) } :: q2)) q1 q2 { x with inp:=some (rstI i f.max f.code) }) R:=by
 obtain ⟨H,s,hm,hs,rfl,hr⟩:=h
 refine (Receive_139 hs hm f hv (by rw [hty];decide) (by rw [hty];decide) (by rw [hty];rfl) (by rw [hty];rfl)
  (fun xb s2=>s2.pl = p2 ∧ fndP s2.ss x.id = ptr xb)
  (fun er s3 l1 l2 _ x3=>er = 0 ∧ s3.pl = rstTP p2 i f.max (q1 ++ { x with inp:=some (rstI i f.max f.code) } :: q2) ∧ l1.map (·.2) = q1 ∧ l2.map (·.2) = q2 ∧ x3 = { x with inp:=some (rstI i f.max f.code) })
  (fun w1 H1 hm1 hs1=>by rw [hstr];exact CN s w1 H1 rfl hm1 hs1) ?_).mono fun e w' hh=>?_
 ·rintro w2 H2 s2 xb ⟨rfl,hf2⟩ hm2 hs2
  obtain ⟨l1,xa,l2,hl,e1,e2⟩:=pl_split (l:=s2.ss) hq
  have hxb:=xb_of hs2 hl hf2
  subst hxb
  refine (onReset_yes hs2 hm2 hl hi f hf hc ht hE ho hat).mono fun e w3 hh=>?_
  obtain ⟨rfl,H3,xa',hx',T,S⟩:=hh
  refine ⟨0,H3,_,l1,l2,xa',_,rfl,T,S,rfl,hx',hg0,hg1,rfl,?_,e1,e2,rfl⟩
  unfold rstT rstTP cntS cntSP cntT cntTP SetS.pl
  simp only [pl_set q1 q2 l1 l2 _ _ e1 e2]
 ·obtain ⟨er,H4,s3,l1,l2,xa3,x3,rfl,⟨rfl,h1,rfl,rfl,rfl⟩,hl,T,S⟩:=hh
  exact ⟨rfl,Mn.to hr T S (by rw [pl_stl,h1])⟩
theorem mn_reset_no (h : Mn W w a p R) (f : Fr) (hv : frm.FrV f) (hty : f.ty = 4) {x : Strm} {i : InP} {q1 q2 : List Strm} (hstr : f.str = x.id) (CN : CnOk W a p p2 x.id false) (hq : p2.ss = q1 ++ x :: q2) (hi : x.inp = some i) (hg0 : p2.g0.Ok) (hg1 : p2.g1.Ok)
  (hf : 0 ≤ f.max ∧ f.max ≤ 4611686018427387904) (hc : 0 ≤ i.cn ∧ i.cn ≤ maxOff) (ht : 0 ≤ p2.tot ∧ p2.tot ≤ maxOff) (hno : rstEP p2 i f.max ≠ 0 ∨ i.opn = false) :
  Calls Tryz.prog 24 #[ptr a.sb,f.val] w fun e w'=>e = .returned (.int .i64 (rstEP p2 i f.max)) ∧ Mn W w' a (stlP p2 q1 q2 x) R:=by
 obtain ⟨H,s,hm,hs,rfl,hr⟩:=h
 refine (Receive_139 hs hm f hv (by rw [hty];decide) (by rw [hty];decide) (by rw [hty];rfl) (by rw [hty];rfl)
  (fun xb s2=>s2.pl = p2 ∧ fndP s2.ss x.id = ptr xb)
  (fun er s3 l1 l2 _ x3=>er = rstEP p2 i f.max ∧ s3.pl = p2 ∧ l1.map (·.2) = q1 ∧ l2.map (·.2) = q2 ∧ x3 = x)
  (fun w1 H1 hm1 hs1=>by rw [hstr];exact CN s w1 H1 rfl hm1 hs1) ?_).mono fun e w' hh=>?_
 ·rintro w2 H2 s2 xb ⟨rfl,hf2⟩ hm2 hs2
  obtain ⟨l1,xa,l2,hl,e1,e2⟩:=pl_split (l:=s2.ss) hq
  have hxb:=xb_of hs2 hl hf2
  subst hxb
  refine (onReset_no hs2 hm2 hl hi f hf hc ht hno).mono fun e w3 hh=>?_
  obtain ⟨rfl,H3,T,S⟩:=hh
  exact ⟨_,H3,s2,l1,l2,xa,x,rfl,T,S,hl,rfl,hg0,hg1,rfl,rfl,e1,e2,rfl⟩
 ·obtain ⟨er,H4,s3,l1,l2,xa3,x3,rfl,⟨rfl,h1,rfl,rfl,rfl⟩,hl,T,S⟩:=hh
  exact ⟨rfl,Mn.to hr T S (by rw [pl_stl,h1])⟩
def uP : Pms:=⟨1000,500,4,4,0,0⟩
def u0 : SetP:=newP false uP uP
def vX (i : InP) : Strm:=⟨2,none,some i,false⟩
def vS (i : InP) (wn : Rcr) (tot : Int) : SetP:={ u0 with ss:=[] ++ vX i :: [],g1:={ u0.g1 with acc:=1 },wn:=wn,tot:=tot }
def j0 : InP:=newIn 500
theorem cn_u0 : CnOk W a u0 (vS j0 u0.wn 0) 2 false:=
 cn_new1 2 (by decide) (by decide) (by decide) 0 rfl (by decide) (by decide) (by decide) (by decide) 500 rfl (by decide) (by decide) (fun e he=>by cases he) (by decide) (q1:=[]) (x:=vX j0) (q2:=[]) rfl rfl
theorem cn_vS (i : InP) (wn : Rcr) (tot : Int) : CnOk W a (vS i wn tot) (vS i wn tot) 2 false:=by
 have hf : ∀ e ∈ (vS i wn tot).ss,e.id % 4 = 2 % 4 → e.id / 4 < 1:=fun e he _=>by
  have : e = vX i:=by simpa [vS] using he
  rw [this];show 2 / 4 < 1;decide
 have hl : (vS i wn tot).ss.length + (2 / 4 + 1 - 1) ≤ 900000:=by show 1 + (2 / 4 + 1 - 1) ≤ 900000;decide
 exact cn_new1 (p:=vS i wn tot) 2 (by decide) (by decide) (by decide : isLoc false 2 = false) 1 rfl (by decide : ((2 : Nat) : Int) / 4 < u0.g1.gr + u0.g1.fg) (by decide : -9223372036854775808 ≤ u0.g1.gr + u0.g1.fg ∧ u0.g1.gr + u0.g1.fg ≤ 800000) (by decide : 0 ≤ u0.peer.sdata) (by decide : u0.peer.sdata ≤ 1073741824) 500 rfl (by decide) (by decide) hf hl (q1:=[]) (x:=vX i) (q2:=[]) rfl rfl
theorem gvS (i : InP) (wn : Rcr) (tot : Int) : (vS i wn tot).g0.Ok ∧ (vS i wn tot).g1.Ok:=⟨gB_ok (by decide : gB u0.g0 = true),gB_ok (by decide : gB { u0.g1 with acc:=1 } = true)⟩
theorem stl_vS (p : SetP) (i : InP) (h : dn i.recv = false) : stlP p [] [] (vX i) = { p with ss:=[] ++ vX i :: [] }:=by
 have hd : (vX i).done = false:=by simp [Strm.done,vX,h]
 unfold stlP
 rw [hd]
 simp
section
variable {i : InP} {wn : Rcr} {tot : Int} {a0 a1 a2 a3 : Addr}
theorem u_data (h : Mn W w a p R) (CN : CnOk W a p (vS i wn tot) 2 false) (f : Fr) (hv : frm.FrV f) (hty : f.ty = 8) (hstr : f.str = 2) (hf0 : 0 ≤ f.off) (hf1 : f.off + f.s.size ≤ 1099511627776) (hf2 : f.s.size ≤ 8192) (hc : 0 ≤ i.cn ∧ i.cn ≤ maxOff) (ht : 0 ≤ tot ∧ tot ≤ maxOff) (hat : i.R.at_ ≤ 1125899906842624)
  (hcw : i.cn ≤ i.wn.most) (htw : tot ≤ wn.most) (hroom : i.wn.most ≤ i.R.at_ + i.R.bs.length) (hE : rea.Errs W a0 a1 a2 a3) (hA : rea.Apt W a0 a1) (hwr : i.wasR = false) (hstp : i.stp = false) (hd : datEP (vS i wn tot) i f = 0) (hn : dn (datI i f).recv = false) :
  Calls Tryz.prog 24 #[ptr a.sb,f.val] w fun e w'=>e = .returned (.int .i64 0) ∧ Mn W w' a (vS (datI i f) (wn.recH (tot + (cntN i (datEnd f) - i.cn))) (tot + (cntN i (datEnd f) - i.cn))) R:=by
 refine (mn_data h f hv hty (x:=vX i) (i:=i) (q1:=[]) (q2:=[]) hstr CN rfl rfl (gvS i wn tot).1 (gvS i wn tot).2 hf0 hf1 hf2 hc ht hat hcw htw hroom hE hA hwr hd).mono fun e w' hh=>⟨hh.1,?_⟩
 have h2:=hh.2
 have e1 : datI2 i f = datI i f:=by unfold datI2;rw [hstp];rfl
 rw [e1] at h2
 rw [show ({ vX i with inp:=some (datI i f) } : Strm) = vX (datI i f) from rfl,stl_vS _ _ hn] at h2
 unfold datSP at h2
 rw [hstp] at h2
 exact h2
theorem u_data_no (h : Mn W w a p R) (CN : CnOk W a p (vS i wn tot) 2 false) (f : Fr) (hv : frm.FrV f) (hty : f.ty = 8) (hstr : f.str = 2) (hf0 : 0 ≤ f.off) (hf1 : f.off + f.s.size ≤ 1099511627776) (hf2 : f.s.size ≤ 8192) (hc : 0 ≤ i.cn ∧ i.cn ≤ maxOff) (ht : 0 ≤ tot ∧ tot ≤ maxOff) (hat : i.R.at_ ≤ 1125899906842624)
  (hE : rea.Errs W a0 a1 a2 a3) (hA : rea.Apt W a0 a1) (hno : i.wasR = true ∨ datEP (vS i wn tot) i f ≠ 0) (hn : dn i.recv = false) :
  Calls Tryz.prog 24 #[ptr a.sb,f.val] w fun e w'=>e = .returned (.int .i64 (datEP (vS i wn tot) i f)) ∧ Mn W w' a (vS i wn tot) R:=by
 refine (mn_data_no h f hv hty (x:=vX i) (i:=i) (q1:=[]) (q2:=[]) hstr CN rfl rfl (gvS i wn tot).1 (gvS i wn tot).2 hf0 hf1 hf2 hc ht hat hE hA hno).mono fun e w' hh=>⟨hh.1,?_⟩
 have h2:=hh.2
 rw [stl_vS _ _ hn] at h2
 exact h2
theorem u_reset (h : Mn W w a p R) (CN : CnOk W a p (vS i wn tot) 2 false) (f : Fr) (hv : frm.FrV f) (hty : f.ty = 4) (hstr : f.str = 2) (hf : 0 ≤ f.max ∧ f.max ≤ 4611686018427387904) (hc : 0 ≤ i.cn ∧ i.cn ≤ maxOff) (ht : 0 ≤ tot ∧ tot ≤ maxOff) (hE : rstEP (vS i wn tot) i f.max = 0) (ho : i.opn = true) (hat : i.R.at_ ≤ 1125899906842624) (hn : dn (rstI i f.max f.code).recv = false) :
  Calls Tryz.prog 24 #[ptr a.sb,f.val] w fun e w'=>e = .returned (.int .i64 0) ∧ Mn W w' a (vS (rstI i f.max f.code) ((wn.recH (tot + (cntN i f.max - i.cn))).read (f.max - i.R.at_)) (tot + (cntN i f.max - i.cn))) R:=by
 refine (mn_reset h f hv hty (x:=vX i) (i:=i) (q1:=[]) (q2:=[]) hstr CN rfl rfl (gvS i wn tot).1 (gvS i wn tot).2 hf hc ht hE ho hat).mono fun e w' hh=>⟨hh.1,?_⟩
 have h2:=hh.2
 rw [show ({ vX i with inp:=some (rstI i f.max f.code) } : Strm) = vX (rstI i f.max f.code) from rfl,stl_vS _ _ hn] at h2
 exact h2
theorem u_reset_no (h : Mn W w a p R) (CN : CnOk W a p (vS i wn tot) 2 false) (f : Fr) (hv : frm.FrV f) (hty : f.ty = 4) (hstr : f.str = 2) (hf : 0 ≤ f.max ∧ f.max ≤ 4611686018427387904) (hc : 0 ≤ i.cn ∧ i.cn ≤ maxOff) (ht : 0 ≤ tot ∧ tot ≤ maxOff) (hno : rstEP (vS i wn tot) i f.max ≠ 0 ∨ i.opn = false) (hn : dn i.recv = false) :
  Calls Tryz.prog 24 #[ptr a.sb,f.val] w fun e w'=>e = .returned (.int .i64 (rstEP (vS i wn tot) i f.max)) ∧ Mn W w' a (vS i wn tot) R:=by
 refine (mn_reset_no h f hv hty (x:=vX i) (i:=i) (q1:=[]) (q2:=[]) hstr CN rfl rfl (gvS i wn tot).1 (gvS i wn tot).2 hf hc ht hno).mono fun e w' hh=>⟨hh.1,?_⟩
 have h2:=hh.2
 rw [stl_vS _ _ hn] at h2
 exact h2
end
end
end
section
open Go.RowKit Go.Maps
structure Fin (n : Nat) (i : InP) : Prop where
 kn : i.R.kn = true
 fin : i.R.fin = n
 hi : i.R.hi = n
 at0 : i.R.at_ = 0
 hs : i.R.hs = List.replicate 500 false
 bl : i.R.bs.length = 500
 cn : i.cn = n
 ms : i.wn.most = 500
 st : i.stp = false
 rc : i.recv = 1 ∨ i.recv = 2
def fEnd (n : Int) : Fr:=fStr 2 n ByteArray.empty true
def fX (n : Int) : Fr:=fStr 2 n ⟨#[120]⟩ false
theorem vEnd {n : Int} (h0 : 0 ≤ n) (h1 : n ≤ 1000) : frm.FrV (fEnd n):=v_str (by decide) h0 (by show n + 0 ≤ _;omega) (by decide)
theorem vXx {n : Int} (h0 : 0 ≤ n) (h1 : n ≤ 1000) : frm.FrV (fX n):=v_str (by decide) h0 (by show n + 1 ≤ _;omega) (by decide)
theorem hg_rep (k j : Nat) : rea.hg (List.replicate k false) j = false:=by
 unfold rea.hg
 rw [List.getElem?_replicate]
 split <;> rfl
theorem putH_nil (a off : Int) (hs : List Bool) : rea.putH a off 0 hs = hs:=by
 apply List.ext_getElem
 ·simp [rea.putH]
 ·intro k h1 h2
  simp [rea.putH,rea.hg,h2]
  omega
theorem end_le (n : Nat) : datEnd (fEnd n) = n:=by show (n : Int) + 0 = n;omega
section
variable {n : Nat} {i : InP} {wn : Rcr} {tot : Int}
theorem j0_end (hn : n ≤ 100) : datEP (vS j0 u0.wn 0) j0 (fEnd n) = 0:=by
 have e1 : excP (vS j0 u0.wn 0) j0 (n : Int) = false:=by
  unfold excP
  have h1 : decide (j0.wn.most < (n : Int)) = false:=decide_eq_false (by show ¬ (500 : Int) < n;omega)
  have h2 : decide ((vS j0 u0.wn 0).wn.most < (vS j0 u0.wn 0).tot + max ((n : Int) - j0.cn) 0) = false:=decide_eq_false (by show ¬ (1000 : Int) < 0 + max ((n : Int) - 0) 0;omega)
  rw [h1,h2];rfl
 have e2 : rea.putE j0.R n ByteArray.empty true = 0:=by
  unfold rea.putE
  rw [show rea.bytesOf ByteArray.empty = [] from rfl,agF_nil]
  have : rea.finB j0.R ((n : Int) + (ByteArray.empty.size : Nat)) true = true:=by
   unfold rea.finB
   rw [show ((n : Int) + (ByteArray.empty.size : Nat)) = n by show (n : Int) + 0 = n;omega]
   rw [show decide ((n : Int) < j0.R.hi) = false from decide_eq_false (by show ¬ (n : Int) < 0;omega)]
   rfl
  rw [this];rfl
 unfold datEP
 rw [end_le,e1]
 exact e2
theorem on6_ok {r : Int} (h : r = 0 ∨ r = 1 ∨ r = 2) : onR r 6 = 1 ∨ onR r 6 = 2:=by rcases h with rfl | rfl | rfl <;> decide
theorem on7_ok {r : Int} (h : r = 1 ∨ r = 2) : onR r 7 = 1 ∨ onR r 7 = 2:=by rcases h with rfl | rfl <;> decide
theorem fin_step (hc : i.cn ≤ n) (hh : i.R.hi ≤ n) (h0 : i.R.at_ = 0) (hs : i.R.hs = List.replicate 500 false) (hb : i.R.bs.length = 500) (hm : i.wn.most = 500) (hst : i.stp = false) (hr : i.recv = 0 ∨ i.recv = 1 ∨ i.recv = 2) : Fin n (datI i (fEnd n)):=by
 have hoff : (fEnd (n : Int)).off.toNat = n:=by show ((n : Int)).toNat = n;omega
 have hsz : (fEnd (n : Int)).s.size = 0:=rfl
 have base : Fin n (datF i (fEnd n)):=by
  unfold datF
  have hfin : (fEnd (n : Int)).fin = true:=rfl
  rw [if_pos hfin]
  unfold datP
  rw [end_le]
  have hcn : cntN { i with R:=i.R.put (fEnd (n : Int)).off.toNat (fEnd (n : Int)).s (fEnd (n : Int)).fin } (n : Int) = n:=by
   unfold cntN
   show (if i.cn < (n : Int) then (n : Int) else i.cn) = n
   split <;> omega
  refine ⟨?_,?_,?_,h0,?_,?_,hcn,hm,hst,on6_ok hr⟩
  ·show (i.R.kn || true) = true;simp
  ·show (if true = true then (((fEnd (n : Int)).off.toNat : Nat) : Int) + (0 : Nat) else i.R.fin) = n
   rw [hoff];simp
  ·show max i.R.hi ((((fEnd (n : Int)).off.toNat : Nat) : Int) + (0 : Nat)) = n
   rw [hoff];omega
  ·show rea.putH i.R.at_ ((fEnd (n : Int)).off.toNat : Nat) 0 i.R.hs = _
   have:=putH_nil i.R.at_ ((fEnd (n : Int)).off.toNat : Nat) i.R.hs
   rw [← hs];exact this
  ·show (rea.putB _ _ _ _ i.R.bs).length = 500
   rw [rea.putB_length,hb]
 unfold datI
 split
 ·exact ⟨base.kn,base.fin,base.hi,base.at0,base.hs,base.bl,base.cn,base.ms,base.st,on7_ok base.rc⟩
 ·exact base
theorem Fin.notR (h : Fin n i) : i.wasR = false:=by
 unfold InP.wasR
 rcases h.rc with e | e <;> rw [e] <;> rfl
theorem Fin.dn (h : Fin n i) : stm.dn i.recv = false:=by
 rcases h.rc with e | e <;> rw [e] <;> rfl
theorem Fin.exc (h : Fin n i) (hn : n ≤ 100) {m : Nat} (hm : m ≤ 400) (hw : wn.most = 1000) (ht : tot = n) : excP (vS i wn tot) i (m : Int) = false:=by
 unfold excP
 have h1 : decide (i.wn.most < (m : Int)) = false:=decide_eq_false (by rw [h.ms];omega)
 have h2 : decide ((vS i wn tot).wn.most < (vS i wn tot).tot + max ((m : Int) - i.cn) 0) = false:=decide_eq_false (by
  show ¬ wn.most < tot + max ((m : Int) - i.cn) 0
  rw [hw,ht,h.cn];omega)
 rw [h1,h2];rfl
theorem Fin.end (h : Fin n i) (hn : n ≤ 100) {m : Nat} (hm : m ≤ 199) (hw : wn.most = 1000) (ht : tot = n) : datEP (vS i wn tot) i (fEnd m) = if m = n then 0 else 161:=by
 unfold datEP
 rw [h.notR,end_le,h.exc hn (by omega) hw ht]
 show rea.putE i.R m ByteArray.empty true = _
 unfold rea.putE
 rw [show rea.bytesOf ByteArray.empty = [] from rfl,agF_nil]
 unfold rea.finB
 rw [show ((m : Int) + (ByteArray.empty.size : Nat)) = m by show (m : Int) + 0 = m;omega,h.kn,h.fin,h.hi]
 by_cases e : m = n
 ·subst e;simp
 ·have e2 : ¬ (m : Int) = n:=by omega
  simp [e,e2]
theorem Fin.x (h : Fin n i) (hn : n ≤ 100) (hw : wn.most = 1000) (ht : tot = n) : datEP (vS i wn tot) i (fX n) = 161:=by
 unfold datEP
 rw [h.notR,show datEnd (fX (n : Int)) = ((n + 1 : Nat) : Int) from rfl,h.exc hn (by omega) hw ht]
 show rea.putE i.R n ⟨#[120]⟩ false = _
 unfold rea.putE
 have e1 : rea.agF i.R.at_ i.R.bs i.R.hs n (rea.bytesOf ⟨#[120]⟩) = true:=by
  unfold rea.agF
  rw [List.all_eq_true]
  intro x hx
  unfold rea.agAt
  rw [h.hs,hg_rep]
  rfl
 rw [e1]
 unfold rea.finB
 rw [h.kn,h.fin,h.hi]
 have e2 : ¬ ((n : Int) + ((⟨#[120]⟩ : ByteArray).size : Nat) = n):=by show ¬ (n : Int) + 1 = n;omega
 have e3 : ¬ ((n : Int) + ((⟨#[120]⟩ : ByteArray).size : Nat) < n):=by show ¬ (n : Int) + 1 < n;omega
 simp [e2,e3]
theorem Fin.rst (h : Fin n i) {k : Nat} (hk : k ≠ n) : rstEP (vS i wn tot) i (k : Int) = 161:=by
 unfold rstEP rstK rstS
 rw [h.notR,h.kn,h.fin]
 have : ¬ ((k : Int) = n):=by omega
 simp [this]
def fRs (n : Int) : Fr:=fReset 2 5 n
theorem j0_rst (hn : n ≤ 100) : rstEP (vS j0 u0.wn 0) j0 (n : Int) = 0:=by
 have e1 : excP (vS j0 u0.wn 0) j0 (n : Int) = false:=by
  unfold excP
  have h1 : decide (j0.wn.most < (n : Int)) = false:=decide_eq_false (by show ¬ (500 : Int) < n;omega)
  have h2 : decide ((vS j0 u0.wn 0).wn.most < (vS j0 u0.wn 0).tot + max ((n : Int) - j0.cn) 0) = false:=decide_eq_false (by show ¬ (1000 : Int) < 0 + max ((n : Int) - 0) 0;omega)
  rw [h1,h2];rfl
 unfold rstEP
 rw [e1,show rstK j0 = false from rfl,show decide ((n : Int) < j0.cn) = false from decide_eq_false (by show ¬ (n : Int) < 0;omega)]
 rfl
theorem j0_rs : Rs n (rstI j0 n 5):=by
 unfold rstI
 rw [show j0.stp = false from rfl]
 refine ⟨rfl,rfl,?_,rfl,rfl,rfl⟩
 show (if (0 : Int) < n then (n : Int) else 0) = n
 split <;> omega
theorem Rs.was (h : Rs n i) : i.wasR = true:=by unfold InP.wasR;rw [h.rc];rfl
theorem Rs.dn (h : Rs n i) : stm.dn i.recv = false:=by rw [h.rc];rfl
theorem Rs.opn (h : Rs n i) : i.opn = false:=by unfold InP.opn;rw [h.rc];rfl
theorem Rs.end (h : Rs n i) {m : Nat} : datEP (vS i wn tot) i (fEnd m) = if m = n then 0 else 161:=by
 unfold datEP
 rw [h.was,end_le,h.fl,show (fEnd (m : Int)).fin = true from rfl]
 by_cases e : m = n
 ·subst e;simp
 ·have e2 : ¬ ((m : Int) = n):=by omega
  simp [e,e2]
theorem Rs.x (h : Rs n i) : datEP (vS i wn tot) i (fX n) = 161:=by
 unfold datEP
 rw [h.was,show datEnd (fX (n : Int)) = ((n + 1 : Nat) : Int) from rfl,h.fl]
 have : ((n : Int) < ((n + 1 : Nat) : Int)):=by omega
 rw [decide_eq_true this]
 rfl
theorem Rs.rst (h : Rs n i) {k : Nat} (hk : k ≠ n) : rstEP (vS i wn tot) i (k : Int) = 161:=by
 unfold rstEP rstK rstS
 rw [h.was,h.fl]
 have : ¬ ((k : Int) = n):=by omega
 simp [this]
theorem Rs.rst0 (h : Rs n i) (hn : n ≤ 100) (hw : wn.most = 1000) (ht : tot = n) : rstEP (vS i wn tot) i (n : Int) = 0:=by
 have e1 : excP (vS i wn tot) i (n : Int) = false:=by
  unfold excP
  have h1 : decide (i.wn.most < (n : Int)) = false:=decide_eq_false (by rw [h.ms];omega)
  have h2 : decide ((vS i wn tot).wn.most < (vS i wn tot).tot + max ((n : Int) - i.cn) 0) = false:=decide_eq_false (by
   show ¬ wn.most < tot + max ((n : Int) - i.cn) 0
   rw [hw,ht,h.cn];omega)
  rw [h1,h2];rfl
 unfold rstEP rstS
 rw [e1,h.was,h.fl,h.cn]
 simp
end
end
end Go.Proofs.YthckbmcmdcemkaaGreatDoor.stm
