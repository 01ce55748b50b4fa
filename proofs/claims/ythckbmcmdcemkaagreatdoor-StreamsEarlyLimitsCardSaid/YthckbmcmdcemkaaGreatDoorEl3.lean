/- Texts of this claim, one behind the other: Xe. -/
import Derived.Deep.MidRow
import Derived.Test.YthckbmcmdcemkaaGreatDoorEl2
import Derived.Test.YthckbmcmdcemkaaGreatDoorBs31
import Derived.Test.YthckbmcmdcemkaaGreatDoorBs26
set_option maxRecDepth 100000
set_option maxHeartbeats 16000000
set_option linter.unusedSimpArgs false
set_option linter.unusedVariables false
namespace Go.Proofs.YthckbmcmdcemkaaGreatDoor.stm
section
open Go.RowKit
attribute [local go_sem] Oper.semAt_some
theorem size24s : (Tryz.prog.info? 24).map (·.size) = some 6:=by kernel_rfl
section
variable {W w w' w0 X Y : World} {H H' : Nat → Option Obj} {a : SetA} {s s' : SetS}
theorem SetIn.blkS (hs : SetIn H a s) (hm : Mem W w H) {s' : SetS} (hB : Blk a.sb (s'.cells a) 115 w w') (hss : s'.ss = s.ss) (hcr : s'.cr = s.cr) (hwn : s'.wn = s.wn) : ∃ H',SetIn H' a s' ∧ To W w' H H' (s.foot a) (s'.foot a):=by
 obtain ⟨H',T,h⟩:=To.blk hm hs.sb hB
 obtain ⟨_,_,_,n4,n5,_⟩:=hs.ne
 exact ⟨H',hs.own_turn T (fun k c=>.inl c) hss h (by rw [hcr];exact T.kp _ _ hs.cb (Ne.symm n4)) (by rw [hwn];exact T.kp _ _ hs.wb (Ne.symm n5)) (by rw [hcr];exact hs.cr) (by rw [hwn];exact hs.wn)⟩
theorem set6 {w wx : World} {b : Nat} {cs : Array Value} {T : TypeId} (h : w.heap[b]? = some (.cells cs T (0,0))) {i0 i1 i2 i3 i4 i5 : Nat} {v0 v1 v2 v3 v4 v5 : Value}
  (e : (((((w.setCell ⟨b,i0,none⟩ v0).setCell ⟨b,i1,none⟩ v1).setCell ⟨b,i2,none⟩ v2).setCell ⟨b,i3,none⟩ v3).setCell ⟨b,i4,none⟩ v4).setCell ⟨b,i5,none⟩ v5 = wx) : Blk b ((((((cs.setIfInBounds i0 v0).setIfInBounds i1 v1).setIfInBounds i2 v2).setIfInBounds i3 v3).setIfInBounds i4 v4).setIfInBounds i5 v5) T w wx:=by
 subst e
 exact ⟨heap_set v5 (heap_set v4 (heap_set v3 (heap_set v2 (heap_set v1 (heap_set v0 h))))),grown_set (grown_set (grown_set (grown_set (grown_set (grown_set (grown_refl w (some b)) v0) v1) v2) v3) v4) v5⟩
theorem SetPeer_no0 (hm : Mem W w H) (h : SetIn H a s) (y : Pms) (hy : pmOk y = true)  (g0 : y.data < s.peer.data) :
  Calls Tryz.prog 28 #[ptr a.sb,.agg y.cs] w fun e w'=>e = .returned (.int .i64 200) ∧ To W w' H H (s.foot a) (s.foot a) ∧ SetIn H a s:=by
 have IR:=Lib.hid (fun wx=>inRange_any y wx)
 rw [hy] at IR
 clear hy
 obtain ⟨yd,ys,yb,yu,ya,yi⟩:=y
 have X:=Lib.hid (box1 w (.cells #[.int .i64 yd,.int .i64 ys,.int .i64 yb,.int .i64 yu,.int .i64 ya,.int .i64 yi] 24))
 have hm0 : Mem W (w.alloc (.cells #[.int .i64 yd,.int .i64 ys,.int .i64 yb,.int .i64 yu,.int .i64 ya,.int .i64 yi] 24)) H:=hm.same X.out.2.1
 have HH:=Lib.hid (And.intro hm (And.intro h True.intro))
 obtain ⟨pd,hpd⟩ : ∃ q,s.peer.data = q:=⟨_,rfl⟩
 obtain ⟨ps,hps⟩ : ∃ q,s.peer.sdata = q:=⟨_,rfl⟩
 obtain ⟨pb,hpb⟩ : ∃ q,s.peer.bidi = q:=⟨_,rfl⟩
 obtain ⟨pu,hpu⟩ : ∃ q,s.peer.uni = q:=⟨_,rfl⟩
 simp only [Pms.cs] at IR ⊢
 simp only [hpd,hps,hpb,hpu] at g0
 have n1:=heap_lt (hm.at h.sb)
 clear hm h
 unfold ptr at *
 have d0 : (yd < pd) = True:=eq_true g0
 clear g0
 refine (callsIn_wide (n:=20)).1 ?_
 refine callsIn_of_wp_marks Tryz.func28 rfl trivial ?_ rfl
 simp only [Tryz.ntmps28,List.size_toArray,List.length_cons,List.length_nil,Nat.reduceAdd,Nat.reduceSub,Array.replicate_succ,Array.replicate_zero,List.push_toArray,List.append_toArray,List.nil_append,List.cons_append]
 refine wpIn_wide.2 ?_
 go_upto_region 3 with (fail)
 obtain ⟨X1,X2,X3⟩:=X.out
 obtain ⟨n0,hn0⟩ : ∃ n0,w.heap.size = n0:=⟨_,rfl⟩
 rw [hn0] at X1 ⊢
 have XB:=Lib.hid X2
 clear X X2 X3
 generalize World.alloc _ _ = W0 at *
 have HN:=Lib.hid (And.intro hn0 n1)
 clear hn0 n1
 have XX:=Lib.hid X1
 clear X1
 have OLD : Hid (∀ wx : World,Below W0.heap.size W0 wx → wx.cell? ⟨n0,0,none⟩ = some (.int .i64 yd) ∧ wx.cell? ⟨n0,1,none⟩ = some (.int .i64 ys) ∧ wx.cell? ⟨n0,2,none⟩ = some (.int .i64 yb) ∧ wx.cell? ⟨n0,3,none⟩ = some (.int .i64 yu) ∧ wx.cell? ⟨a.sb,7,none⟩ = some (.int .i64 pd) ∧ wx.cell? ⟨a.sb,8,none⟩ = some (.int .i64 ps) ∧ wx.cell? ⟨a.sb,9,none⟩ = some (.int .i64 pb) ∧ wx.cell? ⟨a.sb,10,none⟩ = some (.int .i64 pu) ∧ wx.heap[n0]? = some (.cells #[.int .i64 yd,.int .i64 ys,.int .i64 yb,.int .i64 yu,.int .i64 ya,.int .i64 yi] 24 (0,0))):=Lib.hid (fun wx hb=>by
  have e0:=heap_below hb XX.out
  have e1:=heap_below hb (hm0.at HH.out.2.1.sb)
  refine ⟨at_whole' e0 rfl,at_whole' e0 rfl,at_whole' e0 rfl,at_whole' e0 rfl,?_,?_,?_,?_,e0⟩
  ·rw [← hpd];exact at_whole' e1 rfl
  ·rw [← hps];exact at_whole' e1 rfl
  ·rw [← hpb];exact at_whole' e1 rfl
  ·rw [← hpu];exact at_whole' e1 rfl)
 have HM:=Lib.hid hm0
 have HP:=Lib.hid (And.intro hpd (And.intro hps (And.intro hpb hpu)))
 clear hm0 hpd hps hpb hpu
 refine rea.grow_region 43 (rea.slotG 8 43 0) (fun jj=>(#[.agg #[.int .i64 yd,.int .i64 ys,.int .i64 yb,.int .i64 yu,.int .i64 ya,.int .i64 yi],.bool true,.bool false,.bool false,.pointer (some ⟨n0,0,none⟩),.int .i64 yd,.pointer (some ⟨a.sb,0,none⟩),.pointer (some ⟨a.sb,0,none⟩),.pointer (some ⟨a.sb,7,none⟩),.pointer (some ⟨a.sb,7,none⟩),.int .i64 pd,.bool true,.bool true,.bool true,undef,undef,undef,undef,undef,undef,undef,undef,.bool true,.bool true,undef,undef,undef,undef,undef,undef,undef,undef,.bool true,.bool true,undef,undef,undef,undef,undef,undef,undef,undef,.bool true] : Array Value)[jj]?.getD undef) (by kernel_rfl) (by kernel_rfl) rfl (fun i d _ h=>by have:=rea.slotG_is h;simp;omega) (fun i j d _ _ h1 h2=>by have:=rea.slotG_is h1;have:=rea.slotG_is h2;omega) ?_ rfl ?_
 ·rintro j o hj ho aa w1 hb ⟨hold,hdep⟩
  obtain ⟨r0,r1,r2,r3,r4,r5,r6,r7,rb⟩:=OLD.out w1 hb
  have o0:=hold 0 (fun i hi h=>by have:=rea.slotG_is h;omega)
  have o3:=hold 3 (fun i hi h=>by have:=rea.slotG_is h;omega)
  simp at o0 o3
  have hjj : j = 0 ∨ j = 1 ∨ j = 2 ∨ j = 3 ∨ j = 4 ∨ j = 5 ∨ j = 6 ∨ j = 7 ∨ j = 8 ∨ j = 9 ∨ j = 10 ∨ j = 11 ∨ j = 12 ∨ j = 13 ∨ j = 14 ∨ j = 15 ∨ j = 16 ∨ j = 17 ∨ j = 18 ∨ j = 19 ∨ j = 20 ∨ j = 21 ∨ j = 22 ∨ j = 23 ∨ j = 24 ∨ j = 25 ∨ j = 26 ∨ j = 27 ∨ j = 28 ∨ j = 29 ∨ j = 30 ∨ j = 31 ∨ j = 32 ∨ j = 33 ∨ j = 34 ∨ j = 35 ∨ j = 36 ∨ j = 37 ∨ j = 38 ∨ j = 39 ∨ j = 40 ∨ j = 41 ∨ j = 42:=by omega
  rcases hjj with rfl | rfl | rfl | rfl | rfl | rfl | rfl | rfl | rfl | rfl | rfl | rfl | rfl | rfl | rfl | rfl | rfl | rfl | rfl | rfl | rfl | rfl | rfl | rfl | rfl | rfl | rfl | rfl | rfl | rfl | rfl | rfl | rfl | rfl | rfl | rfl | rfl | rfl | rfl | rfl | rfl | rfl | rfl
  all_goals (cases ho;simp [Region.binds,rea.slotG] at hdep;refine ⟨rfl,rfl,?_⟩)
  ·refine .inl ⟨rfl,fun K hK=>?_⟩;exact wp_load_row 24 _ rfl n0 (by simp [Act.eval,o3]) 24 _ (0,0) _ rb Tryz.underlying24 rfl size24s (hK _ bz0)
  ·refine .inl ⟨rfl,fun K hK=>?_⟩;unfold Oper.wp;simp [execOp,Oper.upon,resolve,invoke,go_sem,Act.eval,hdep];refine (IR.out w1).mono ?_;rintro e w6 ⟨rfl,hb6⟩;exact hK _ hb6
  iterate 12 (· first | (refine .inl ⟨(by first | rfl | (simp [Region.wanted,yielded,hdep];done)),fun K hK=>?_⟩;unfold Oper.wp;simp [execOp,Oper.upon,go_sem,Act.eval,hdep,o0,o3,r0,r1,r2,r3,r4,r5,r6,r7,d0];exact hK _ bz0) | (refine .inl ⟨rfl,fun K hK=>?_⟩;unfold Oper.wp;simp [execOp,Oper.upon,go_sem,Act.eval,o0,o3,r0,r1,r2,r3,r4,r5,r6,r7];exact hK _ bz0))
  iterate 8 (· exact .inr ⟨(by simp [Region.wanted,yielded,hdep,undef];done),rfl⟩)
  iterate 2 (· first | (refine .inl ⟨(by first | rfl | (simp [Region.wanted,yielded,hdep];done)),fun K hK=>?_⟩;unfold Oper.wp;simp [execOp,Oper.upon,go_sem,Act.eval,hdep,o0,o3,r0,r1,r2,r3,r4,r5,r6,r7,d0];exact hK _ bz0) | (refine .inl ⟨rfl,fun K hK=>?_⟩;unfold Oper.wp;simp [execOp,Oper.upon,go_sem,Act.eval,o0,o3,r0,r1,r2,r3,r4,r5,r6,r7];exact hK _ bz0))
  iterate 8 (· exact .inr ⟨(by simp [Region.wanted,yielded,hdep,undef];done),rfl⟩)
  iterate 2 (· first | (refine .inl ⟨(by first | rfl | (simp [Region.wanted,yielded,hdep];done)),fun K hK=>?_⟩;unfold Oper.wp;simp [execOp,Oper.upon,go_sem,Act.eval,hdep,o0,o3,r0,r1,r2,r3,r4,r5,r6,r7,d0];exact hK _ bz0) | (refine .inl ⟨rfl,fun K hK=>?_⟩;unfold Oper.wp;simp [execOp,Oper.upon,go_sem,Act.eval,o0,o3,r0,r1,r2,r3,r4,r5,r6,r7];exact hK _ bz0))
  iterate 8 (· exact .inr ⟨(by simp [Region.wanted,yielded,hdep,undef];done),rfl⟩)
  ·first | (refine .inl ⟨(by first | rfl | (simp [Region.wanted,yielded,hdep];done)),fun K hK=>?_⟩;unfold Oper.wp;simp [execOp,Oper.upon,go_sem,Act.eval,hdep,o0,o3,r0,r1,r2,r3,r4,r5,r6,r7,d0];exact hK _ bz0) | (refine .inl ⟨rfl,fun K hK=>?_⟩;unfold Oper.wp;simp [execOp,Oper.upon,go_sem,Act.eval,o0,o3,r0,r1,r2,r3,r4,r5,r6,r7];exact hK _ bz0)
 rintro w1 hb1
 have HB1:=Lib.hid hb1
 clear hb1
 simp only [rea.setAll,rea.slotG]
 rw [show List.range 43 = [0,1,2,3,4,5,6,7,8,9,10,11,12,13,14,15,16,17,18,19,20,21,22,23,24,25,26,27,28,29,30,31,32,33,34,35,36,37,38,39,40,41,42] from rfl]
 simp (decide:=true) only [List.foldl_cons,List.foldl_nil,if_true,Nat.reduceAdd]
 simp (decide:=true) only [List.setIfInBounds_toArray,List.set_cons_succ,List.set_cons_zero,List.getElem?_toArray,List.getElem?_cons_succ,List.getElem?_cons_zero,Option.getD_some]
 go_wp2_with fail
 trace_state
 refine ⟨_,by simp [results,Tryz.f28,go_sem],rfl,To.refl ((HM.out.same HB1.out)) _,HH.out.2.1⟩
theorem SetPeer_no1 (hm : Mem W w H) (h : SetIn H a s) (y : Pms) (hy : pmOk y = true) (g0 : ¬ (y.data < s.peer.data)) (g1 : y.sdata < s.peer.sdata) :
  Calls Tryz.prog 28 #[ptr a.sb,.agg y.cs] w fun e w'=>e = .returned (.int .i64 200) ∧ To W w' H H (s.foot a) (s.foot a) ∧ SetIn H a s:=by
 have IR:=Lib.hid (fun wx=>inRange_any y wx)
 rw [hy] at IR
 clear hy
 obtain ⟨yd,ys,yb,yu,ya,yi⟩:=y
 have X:=Lib.hid (box1 w (.cells #[.int .i64 yd,.int .i64 ys,.int .i64 yb,.int .i64 yu,.int .i64 ya,.int .i64 yi] 24))
 have hm0 : Mem W (w.alloc (.cells #[.int .i64 yd,.int .i64 ys,.int .i64 yb,.int .i64 yu,.int .i64 ya,.int .i64 yi] 24)) H:=hm.same X.out.2.1
 have HH:=Lib.hid (And.intro hm (And.intro h True.intro))
 obtain ⟨pd,hpd⟩ : ∃ q,s.peer.data = q:=⟨_,rfl⟩
 obtain ⟨ps,hps⟩ : ∃ q,s.peer.sdata = q:=⟨_,rfl⟩
 obtain ⟨pb,hpb⟩ : ∃ q,s.peer.bidi = q:=⟨_,rfl⟩
 obtain ⟨pu,hpu⟩ : ∃ q,s.peer.uni = q:=⟨_,rfl⟩
 simp only [Pms.cs] at IR ⊢
 simp only [hpd,hps,hpb,hpu] at g0 g1
 have n1:=heap_lt (hm.at h.sb)
 clear hm h
 unfold ptr at *
 have d0 : (yd < pd) = False:=eq_false g0
 have d1 : (ys < ps) = True:=eq_true g1
 clear g0 g1
 refine (callsIn_wide (n:=20)).1 ?_
 refine callsIn_of_wp_marks Tryz.func28 rfl trivial ?_ rfl
 simp only [Tryz.ntmps28,List.size_toArray,List.length_cons,List.length_nil,Nat.reduceAdd,Nat.reduceSub,Array.replicate_succ,Array.replicate_zero,List.push_toArray,List.append_toArray,List.nil_append,List.cons_append]
 refine wpIn_wide.2 ?_
 go_upto_region 3 with (fail)
 obtain ⟨X1,X2,X3⟩:=X.out
 obtain ⟨n0,hn0⟩ : ∃ n0,w.heap.size = n0:=⟨_,rfl⟩
 rw [hn0] at X1 ⊢
 have XB:=Lib.hid X2
 clear X X2 X3
 generalize World.alloc _ _ = W0 at *
 have HN:=Lib.hid (And.intro hn0 n1)
 clear hn0 n1
 have XX:=Lib.hid X1
 clear X1
 have OLD : Hid (∀ wx : World,Below W0.heap.size W0 wx → wx.cell? ⟨n0,0,none⟩ = some (.int .i64 yd) ∧ wx.cell? ⟨n0,1,none⟩ = some (.int .i64 ys) ∧ wx.cell? ⟨n0,2,none⟩ = some (.int .i64 yb) ∧ wx.cell? ⟨n0,3,none⟩ = some (.int .i64 yu) ∧ wx.cell? ⟨a.sb,7,none⟩ = some (.int .i64 pd) ∧ wx.cell? ⟨a.sb,8,none⟩ = some (.int .i64 ps) ∧ wx.cell? ⟨a.sb,9,none⟩ = some (.int .i64 pb) ∧ wx.cell? ⟨a.sb,10,none⟩ = some (.int .i64 pu) ∧ wx.heap[n0]? = some (.cells #[.int .i64 yd,.int .i64 ys,.int .i64 yb,.int .i64 yu,.int .i64 ya,.int .i64 yi] 24 (0,0))):=Lib.hid (fun wx hb=>by
  have e0:=heap_below hb XX.out
  have e1:=heap_below hb (hm0.at HH.out.2.1.sb)
  refine ⟨at_whole' e0 rfl,at_whole' e0 rfl,at_whole' e0 rfl,at_whole' e0 rfl,?_,?_,?_,?_,e0⟩
  ·rw [← hpd];exact at_whole' e1 rfl
  ·rw [← hps];exact at_whole' e1 rfl
  ·rw [← hpb];exact at_whole' e1 rfl
  ·rw [← hpu];exact at_whole' e1 rfl)
 have HM:=Lib.hid hm0
 have HP:=Lib.hid (And.intro hpd (And.intro hps (And.intro hpb hpu)))
 clear hm0 hpd hps hpb hpu
 refine rea.grow_region 43 (rea.slotG 8 43 0) (fun jj=>(#[.agg #[.int .i64 yd,.int .i64 ys,.int .i64 yb,.int .i64 yu,.int .i64 ya,.int .i64 yi],.bool true,.bool false,.bool false,.pointer (some ⟨n0,0,none⟩),.int .i64 yd,.pointer (some ⟨a.sb,0,none⟩),.pointer (some ⟨a.sb,0,none⟩),.pointer (some ⟨a.sb,7,none⟩),.pointer (some ⟨a.sb,7,none⟩),.int .i64 pd,.bool false,.bool false,.bool false,.pointer (some ⟨n0,1,none⟩),.int .i64 ys,.pointer (some ⟨a.sb,0,none⟩),.pointer (some ⟨a.sb,0,none⟩),.pointer (some ⟨a.sb,7,none⟩),.pointer (some ⟨a.sb,8,none⟩),.int .i64 ps,.bool true,.bool true,.bool true,undef,undef,undef,undef,undef,undef,undef,undef,.bool true,.bool true,undef,undef,undef,undef,undef,undef,undef,undef,.bool true] : Array Value)[jj]?.getD undef) (by kernel_rfl) (by kernel_rfl) rfl (fun i d _ h=>by have:=rea.slotG_is h;simp;omega) (fun i j d _ _ h1 h2=>by have:=rea.slotG_is h1;have:=rea.slotG_is h2;omega) ?_ rfl ?_
 ·rintro j o hj ho aa w1 hb ⟨hold,hdep⟩
  obtain ⟨r0,r1,r2,r3,r4,r5,r6,r7,rb⟩:=OLD.out w1 hb
  have o0:=hold 0 (fun i hi h=>by have:=rea.slotG_is h;omega)
  have o3:=hold 3 (fun i hi h=>by have:=rea.slotG_is h;omega)
  simp at o0 o3
  have hjj : j = 0 ∨ j = 1 ∨ j = 2 ∨ j = 3 ∨ j = 4 ∨ j = 5 ∨ j = 6 ∨ j = 7 ∨ j = 8 ∨ j = 9 ∨ j = 10 ∨ j = 11 ∨ j = 12 ∨ j = 13 ∨ j = 14 ∨ j = 15 ∨ j = 16 ∨ j = 17 ∨ j = 18 ∨ j = 19 ∨ j = 20 ∨ j = 21 ∨ j = 22 ∨ j = 23 ∨ j = 24 ∨ j = 25 ∨ j = 26 ∨ j = 27 ∨ j = 28 ∨ j = 29 ∨ j = 30 ∨ j = 31 ∨ j = 32 ∨ j = 33 ∨ j = 34 ∨ j = 35 ∨ j = 36 ∨ j = 37 ∨ j = 38 ∨ j = 39 ∨ j = 40 ∨ j = 41 ∨ j = 42:=by omega
  rcases hjj with rfl | rfl | rfl | rfl | rfl | rfl | rfl | rfl | rfl | rfl | rfl | rfl | rfl | rfl | rfl | rfl | rfl | rfl | rfl | rfl | rfl | rfl | rfl | rfl | rfl | rfl | rfl | rfl | rfl | rfl | rfl | rfl | rfl | rfl | rfl | rfl | rfl | rfl | rfl | rfl | rfl | rfl | rfl
  all_goals (cases ho;simp [Region.binds,rea.slotG] at hdep;refine ⟨rfl,rfl,?_⟩)
  ·refine .inl ⟨rfl,fun K hK=>?_⟩;exact wp_load_row 24 _ rfl n0 (by simp [Act.eval,o3]) 24 _ (0,0) _ rb Tryz.underlying24 rfl size24s (hK _ bz0)
  ·refine .inl ⟨rfl,fun K hK=>?_⟩;unfold Oper.wp;simp [execOp,Oper.upon,resolve,invoke,go_sem,Act.eval,hdep];refine (IR.out w1).mono ?_;rintro e w6 ⟨rfl,hb6⟩;exact hK _ hb6
  iterate 22 (· first | (refine .inl ⟨(by first | rfl | (simp [Region.wanted,yielded,hdep];done)),fun K hK=>?_⟩;unfold Oper.wp;simp [execOp,Oper.upon,go_sem,Act.eval,hdep,o0,o3,r0,r1,r2,r3,r4,r5,r6,r7,d0,d1];exact hK _ bz0) | (refine .inl ⟨rfl,fun K hK=>?_⟩;unfold Oper.wp;simp [execOp,Oper.upon,go_sem,Act.eval,o0,o3,r0,r1,r2,r3,r4,r5,r6,r7];exact hK _ bz0))
  iterate 8 (· exact .inr ⟨(by simp [Region.wanted,yielded,hdep,undef];done),rfl⟩)
  iterate 2 (· first | (refine .inl ⟨(by first | rfl | (simp [Region.wanted,yielded,hdep];done)),fun K hK=>?_⟩;unfold Oper.wp;simp [execOp,Oper.upon,go_sem,Act.eval,hdep,o0,o3,r0,r1,r2,r3,r4,r5,r6,r7,d0,d1];exact hK _ bz0) | (refine .inl ⟨rfl,fun K hK=>?_⟩;unfold Oper.wp;simp [execOp,Oper.upon,go_sem,Act.eval,o0,o3,r0,r1,r2,r3,r4,r5,r6,r7];exact hK _ bz0))
  iterate 8 (· exact .inr ⟨(by simp [Region.wanted,yielded,hdep,undef];done),rfl⟩)
  ·first | (refine .inl ⟨(by first | rfl | (simp [Region.wanted,yielded,hdep];done)),fun K hK=>?_⟩;unfold Oper.wp;simp [execOp,Oper.upon,go_sem,Act.eval,hdep,o0,o3,r0,r1,r2,r3,r4,r5,r6,r7,d0,d1];exact hK _ bz0) | (refine .inl ⟨rfl,fun K hK=>?_⟩;unfold Oper.wp;simp [execOp,Oper.upon,go_sem,Act.eval,o0,o3,r0,r1,r2,r3,r4,r5,r6,r7];exact hK _ bz0)
 rintro w1 hb1
 have HB1:=Lib.hid hb1
 clear hb1
 simp only [rea.setAll,rea.slotG]
 rw [show List.range 43 = [0,1,2,3,4,5,6,7,8,9,10,11,12,13,14,15,16,17,18,19,20,21,22,23,24,25,26,27,28,29,30,31,32,33,34,35,36,37,38,39,40,41,42] from rfl]
 simp (decide:=true) only [List.foldl_cons,List.foldl_nil,if_true,Nat.reduceAdd]
 simp (decide:=true) only [List.setIfInBounds_toArray,List.set_cons_succ,List.set_cons_zero,List.getElem?_toArray,List.getElem?_cons_succ,List.getElem?_cons_zero,Option.getD_some]
 go_wp2_with fail
 trace_state
 refine ⟨_,by simp [results,Tryz.f28,go_sem],rfl,To.refl ((HM.out.same HB1.out)) _,HH.out.2.1⟩
theorem SetPeer_no2 (hm : Mem W w H) (h : SetIn H a s) (y : Pms) (hy : pmOk y = true) (g0 : ¬ (y.data < s.peer.data)) (g1 : ¬ (y.sdata < s.peer.sdata)) (g2 : y.bidi < s.peer.bidi) :
  Calls Tryz.prog 28 #[ptr a.sb,.agg y.cs] w fun e w'=>e = .returned (.int .i64 200) ∧ To W w' H H (s.foot a) (s.foot a) ∧ SetIn H a s:=by
 have IR:=Lib.hid (fun wx=>inRange_any y wx)
 rw [hy] at IR
 clear hy
 obtain ⟨yd,ys,yb,yu,ya,yi⟩:=y
 have X:=Lib.hid (box1 w (.cells #[.int .i64 yd,.int .i64 ys,.int .i64 yb,.int .i64 yu,.int .i64 ya,.int .i64 yi] 24))
 have hm0 : Mem W (w.alloc (.cells #[.int .i64 yd,.int .i64 ys,.int .i64 yb,.int .i64 yu,.int .i64 ya,.int .i64 yi] 24)) H:=hm.same X.out.2.1
 have HH:=Lib.hid (And.intro hm (And.intro h True.intro))
 obtain ⟨pd,hpd⟩ : ∃ q,s.peer.data = q:=⟨_,rfl⟩
 obtain ⟨ps,hps⟩ : ∃ q,s.peer.sdata = q:=⟨_,rfl⟩
 obtain ⟨pb,hpb⟩ : ∃ q,s.peer.bidi = q:=⟨_,rfl⟩
 obtain ⟨pu,hpu⟩ : ∃ q,s.peer.uni = q:=⟨_,rfl⟩
 simp only [Pms.cs] at IR ⊢
 simp only [hpd,hps,hpb,hpu] at g0 g1 g2
 have n1:=heap_lt (hm.at h.sb)
 clear hm h
 unfold ptr at *
 have d0 : (yd < pd) = False:=eq_false g0
 have d1 : (ys < ps) = False:=eq_false g1
 have d2 : (yb < pb) = True:=eq_true g2
 clear g0 g1 g2
 refine (callsIn_wide (n:=20)).1 ?_
 refine callsIn_of_wp_marks Tryz.func28 rfl trivial ?_ rfl
 simp only [Tryz.ntmps28,List.size_toArray,List.length_cons,List.length_nil,Nat.reduceAdd,Nat.reduceSub,Array.replicate_succ,Array.replicate_zero,List.push_toArray,List.append_toArray,List.nil_append,List.cons_append]
 refine wpIn_wide.2 ?_
 go_upto_region 3 with (fail)
 obtain ⟨X1,X2,X3⟩:=X.out
 obtain ⟨n0,hn0⟩ : ∃ n0,w.heap.size = n0:=⟨_,rfl⟩
 rw [hn0] at X1 ⊢
 have XB:=Lib.hid X2
 clear X X2 X3
 generalize World.alloc _ _ = W0 at *
 have HN:=Lib.hid (And.intro hn0 n1)
 clear hn0 n1
 have XX:=Lib.hid X1
 clear X1
 have OLD : Hid (∀ wx : World,Below W0.heap.size W0 wx → wx.cell? ⟨n0,0,none⟩ = some (.int .i64 yd) ∧ wx.cell? ⟨n0,1,none⟩ = some (.int .i64 ys) ∧ wx.cell? ⟨n0,2,none⟩ = some (.int .i64 yb) ∧ wx.cell? ⟨n0,3,none⟩ = some (.int .i64 yu) ∧ wx.cell? ⟨a.sb,7,none⟩ = some (.int .i64 pd) ∧ wx.cell? ⟨a.sb,8,none⟩ = some (.int .i64 ps) ∧ wx.cell? ⟨a.sb,9,none⟩ = some (.int .i64 pb) ∧ wx.cell? ⟨a.sb,10,none⟩ = some (.int .i64 pu) ∧ wx.heap[n0]? = some (.cells #[.int .i64 yd,.int .i64 ys,.int .i64 yb,.int .i64 yu,.int .i64 ya,.int .i64 yi] 24 (0,0))):=Lib.hid (fun wx hb=>by
  have e0:=heap_below hb XX.out
  have e1:=heap_below hb (hm0.at HH.out.2.1.sb)
  refine ⟨at_whole' e0 rfl,at_whole' e0 rfl,at_whole' e0 rfl,at_whole' e0 rfl,?_,?_,?_,?_,e0⟩
  ·rw [← hpd];exact at_whole' e1 rfl
  ·rw [← hps];exact at_whole' e1 rfl
  ·rw [← hpb];exact at_whole' e1 rfl
  ·rw [← hpu];exact at_whole' e1 rfl)
 have HM:=Lib.hid hm0
 have HP:=Lib.hid (And.intro hpd (And.intro hps (And.intro hpb hpu)))
 clear hm0 hpd hps hpb hpu
 refine rea.grow_region 43 (rea.slotG 8 43 0) (fun jj=>(#[.agg #[.int .i64 yd,.int .i64 ys,.int .i64 yb,.int .i64 yu,.int .i64 ya,.int .i64 yi],.bool true,.bool false,.bool false,.pointer (some ⟨n0,0,none⟩),.int .i64 yd,.pointer (some ⟨a.sb,0,none⟩),.pointer (some ⟨a.sb,0,none⟩),.pointer (some ⟨a.sb,7,none⟩),.pointer (some ⟨a.sb,7,none⟩),.int .i64 pd,.bool false,.bool false,.bool false,.pointer (some ⟨n0,1,none⟩),.int .i64 ys,.pointer (some ⟨a.sb,0,none⟩),.pointer (some ⟨a.sb,0,none⟩),.pointer (some ⟨a.sb,7,none⟩),.pointer (some ⟨a.sb,8,none⟩),.int .i64 ps,.bool false,.bool false,.bool false,.pointer (some ⟨n0,2,none⟩),.int .i64 yb,.pointer (some ⟨a.sb,0,none⟩),.pointer (some ⟨a.sb,0,none⟩),.pointer (some ⟨a.sb,7,none⟩),.pointer (some ⟨a.sb,9,none⟩),.int .i64 pb,.bool true,.bool true,.bool true,undef,undef,undef,undef,undef,undef,undef,undef,.bool true] : Array Value)[jj]?.getD undef) (by kernel_rfl) (by kernel_rfl) rfl (fun i d _ h=>by have:=rea.slotG_is h;simp;omega) (fun i j d _ _ h1 h2=>by have:=rea.slotG_is h1;have:=rea.slotG_is h2;omega) ?_ rfl ?_
 ·rintro j o hj ho aa w1 hb ⟨hold,hdep⟩
  obtain ⟨r0,r1,r2,r3,r4,r5,r6,r7,rb⟩:=OLD.out w1 hb
  have o0:=hold 0 (fun i hi h=>by have:=rea.slotG_is h;omega)
  have o3:=hold 3 (fun i hi h=>by have:=rea.slotG_is h;omega)
  simp at o0 o3
  have hjj : j = 0 ∨ j = 1 ∨ j = 2 ∨ j = 3 ∨ j = 4 ∨ j = 5 ∨ j = 6 ∨ j = 7 ∨ j = 8 ∨ j = 9 ∨ j = 10 ∨ j = 11 ∨ j = 12 ∨ j = 13 ∨ j = 14 ∨ j = 15 ∨ j = 16 ∨ j = 17 ∨ j = 18 ∨ j = 19 ∨ j = 20 ∨ j = 21 ∨ j = 22 ∨ j = 23 ∨ j = 24 ∨ j = 25 ∨ j = 26 ∨ j = 27 ∨ j = 28 ∨ j = 29 ∨ j = 30 ∨ j = 31 ∨ j = 32 ∨ j = 33 ∨ j = 34 ∨ j = 35 ∨ j = 36 ∨ j = 37 ∨ j = 38 ∨ j = 39 ∨ j = 40 ∨ j = 41 ∨ j = 42:=by omega
  rcases hjj with rfl | rfl | rfl | rfl | rfl | rfl | rfl | rfl | rfl | rfl | rfl | rfl | rfl | rfl | rfl | rfl | rfl | rfl | rfl | rfl | rfl | rfl | rfl | rfl | rfl | rfl | rfl | rfl | rfl | rfl | rfl | rfl | rfl | rfl | rfl | rfl | rfl | rfl | rfl | rfl | rfl | rfl | rfl
  all_goals (cases ho;simp [Region.binds,rea.slotG] at hdep;refine ⟨rfl,rfl,?_⟩)
  ·refine .inl ⟨rfl,fun K hK=>?_⟩;exact wp_load_row 24 _ rfl n0 (by simp [Act.eval,o3]) 24 _ (0,0) _ rb Tryz.underlying24 rfl size24s (hK _ bz0)
  ·refine .inl ⟨rfl,fun K hK=>?_⟩;unfold Oper.wp;simp [execOp,Oper.upon,resolve,invoke,go_sem,Act.eval,hdep];refine (IR.out w1).mono ?_;rintro e w6 ⟨rfl,hb6⟩;exact hK _ hb6
  iterate 32 (· first | (refine .inl ⟨(by first | rfl | (simp [Region.wanted,yielded,hdep];done)),fun K hK=>?_⟩;unfold Oper.wp;simp [execOp,Oper.upon,go_sem,Act.eval,hdep,o0,o3,r0,r1,r2,r3,r4,r5,r6,r7,d0,d1,d2];exact hK _ bz0) | (refine .inl ⟨rfl,fun K hK=>?_⟩;unfold Oper.wp;simp [execOp,Oper.upon,go_sem,Act.eval,o0,o3,r0,r1,r2,r3,r4,r5,r6,r7];exact hK _ bz0))
  iterate 8 (· exact .inr ⟨(by simp [Region.wanted,yielded,hdep,undef];done),rfl⟩)
  ·first | (refine .inl ⟨(by first | rfl | (simp [Region.wanted,yielded,hdep];done)),fun K hK=>?_⟩;unfold Oper.wp;simp [execOp,Oper.upon,go_sem,Act.eval,hdep,o0,o3,r0,r1,r2,r3,r4,r5,r6,r7,d0,d1,d2];exact hK _ bz0) | (refine .inl ⟨rfl,fun K hK=>?_⟩;unfold Oper.wp;simp [execOp,Oper.upon,go_sem,Act.eval,o0,o3,r0,r1,r2,r3,r4,r5,r6,r7];exact hK _ bz0)
 rintro w1 hb1
 have HB1:=Lib.hid hb1
 clear hb1
 simp only [rea.setAll,rea.slotG]
 rw [show List.range 43 = [0,1,2,3,4,5,6,7,8,9,10,11,12,13,14,15,16,17,18,19,20,21,22,23,24,25,26,27,28,29,30,31,32,33,34,35,36,37,38,39,40,41,42] from rfl]
 simp (decide:=true) only [List.foldl_cons,List.foldl_nil,if_true,Nat.reduceAdd]
 simp (decide:=true) only [List.setIfInBounds_toArray,List.set_cons_succ,List.set_cons_zero,List.getElem?_toArray,List.getElem?_cons_succ,List.getElem?_cons_zero,Option.getD_some]
 go_wp2_with fail
 trace_state
 refine ⟨_,by simp [results,Tryz.f28,go_sem],rfl,To.refl ((HM.out.same HB1.out)) _,HH.out.2.1⟩
theorem SetPeer_no3 (hm : Mem W w H) (h : SetIn H a s) (y : Pms) (hy : pmOk y = true) (g0 : ¬ (y.data < s.peer.data)) (g1 : ¬ (y.sdata < s.peer.sdata)) (g2 : ¬ (y.bidi < s.peer.bidi)) (g3 : y.uni < s.peer.uni) :
  Calls Tryz.prog 28 #[ptr a.sb,.agg y.cs] w fun e w'=>e = .returned (.int .i64 200) ∧ To W w' H H (s.foot a) (s.foot a) ∧ SetIn H a s:=by
 have IR:=Lib.hid (fun wx=>inRange_any y wx)
 rw [hy] at IR
 clear hy
 obtain ⟨yd,ys,yb,yu,ya,yi⟩:=y
 have X:=Lib.hid (box1 w (.cells #[.int .i64 yd,.int .i64 ys,.int .i64 yb,.int .i64 yu,.int .i64 ya,.int .i64 yi] 24))
 have hm0 : Mem W (w.alloc (.cells #[.int .i64 yd,.int .i64 ys,.int .i64 yb,.int .i64 yu,.int .i64 ya,.int .i64 yi] 24)) H:=hm.same X.out.2.1
 have HH:=Lib.hid (And.intro hm (And.intro h True.intro))
 obtain ⟨pd,hpd⟩ : ∃ q,s.peer.data = q:=⟨_,rfl⟩
 obtain ⟨ps,hps⟩ : ∃ q,s.peer.sdata = q:=⟨_,rfl⟩
 obtain ⟨pb,hpb⟩ : ∃ q,s.peer.bidi = q:=⟨_,rfl⟩
 obtain ⟨pu,hpu⟩ : ∃ q,s.peer.uni = q:=⟨_,rfl⟩
 simp only [Pms.cs] at IR ⊢
 simp only [hpd,hps,hpb,hpu] at g0 g1 g2 g3
 have n1:=heap_lt (hm.at h.sb)
 clear hm h
 unfold ptr at *
 have d0 : (yd < pd) = False:=eq_false g0
 have d1 : (ys < ps) = False:=eq_false g1
 have d2 : (yb < pb) = False:=eq_false g2
 have d3 : (yu < pu) = True:=eq_true g3
 clear g0 g1 g2 g3
 refine (callsIn_wide (n:=20)).1 ?_
 refine callsIn_of_wp_marks Tryz.func28 rfl trivial ?_ rfl
 simp only [Tryz.ntmps28,List.size_toArray,List.length_cons,List.length_nil,Nat.reduceAdd,Nat.reduceSub,Array.replicate_succ,Array.replicate_zero,List.push_toArray,List.append_toArray,List.nil_append,List.cons_append]
 refine wpIn_wide.2 ?_
 go_upto_region 3 with (fail)
 obtain ⟨X1,X2,X3⟩:=X.out
 obtain ⟨n0,hn0⟩ : ∃ n0,w.heap.size = n0:=⟨_,rfl⟩
 rw [hn0] at X1 ⊢
 have XB:=Lib.hid X2
 clear X X2 X3
 generalize World.alloc _ _ = W0 at *
 have HN:=Lib.hid (And.intro hn0 n1)
 clear hn0 n1
 have XX:=Lib.hid X1
 clear X1
 have OLD : Hid (∀ wx : World,Below W0.heap.size W0 wx → wx.cell? ⟨n0,0,none⟩ = some (.int .i64 yd) ∧ wx.cell? ⟨n0,1,none⟩ = some (.int .i64 ys) ∧ wx.cell? ⟨n0,2,none⟩ = some (.int .i64 yb) ∧ wx.cell? ⟨n0,3,none⟩ = some (.int .i64 yu) ∧ wx.cell? ⟨a.sb,7,none⟩ = some (.int .i64 pd) ∧ wx.cell? ⟨a.sb,8,none⟩ = some (.int .i64 ps) ∧ wx.cell? ⟨a.sb,9,none⟩ = some (.int .i64 pb) ∧ wx.cell? ⟨a.sb,10,none⟩ = some (.int .i64 pu) ∧ wx.heap[n0]? = some (.cells #[.int .i64 yd,.int .i64 ys,.int .i64 yb,.int .i64 yu,.int .i64 ya,.int .i64 yi] 24 (0,0))):=Lib.hid (fun wx hb=>by
  have e0:=heap_below hb XX.out
  have e1:=heap_below hb (hm0.at HH.out.2.1.sb)
  refine ⟨at_whole' e0 rfl,at_whole' e0 rfl,at_whole' e0 rfl,at_whole' e0 rfl,?_,?_,?_,?_,e0⟩
  ·rw [← hpd];exact at_whole' e1 rfl
  ·rw [← hps];exact at_whole' e1 rfl
  ·rw [← hpb];exact at_whole' e1 rfl
  ·rw [← hpu];exact at_whole' e1 rfl)
 have HM:=Lib.hid hm0
 have HP:=Lib.hid (And.intro hpd (And.intro hps (And.intro hpb hpu)))
 clear hm0 hpd hps hpb hpu
 refine rea.grow_region 43 (rea.slotG 8 43 0) (fun jj=>(#[.agg #[.int .i64 yd,.int .i64 ys,.int .i64 yb,.int .i64 yu,.int .i64 ya,.int .i64 yi],.bool true,.bool false,.bool false,.pointer (some ⟨n0,0,none⟩),.int .i64 yd,.pointer (some ⟨a.sb,0,none⟩),.pointer (some ⟨a.sb,0,none⟩),.pointer (some ⟨a.sb,7,none⟩),.pointer (some ⟨a.sb,7,none⟩),.int .i64 pd,.bool false,.bool false,.bool false,.pointer (some ⟨n0,1,none⟩),.int .i64 ys,.pointer (some ⟨a.sb,0,none⟩),.pointer (some ⟨a.sb,0,none⟩),.pointer (some ⟨a.sb,7,none⟩),.pointer (some ⟨a.sb,8,none⟩),.int .i64 ps,.bool false,.bool false,.bool false,.pointer (some ⟨n0,2,none⟩),.int .i64 yb,.pointer (some ⟨a.sb,0,none⟩),.pointer (some ⟨a.sb,0,none⟩),.pointer (some ⟨a.sb,7,none⟩),.pointer (some ⟨a.sb,9,none⟩),.int .i64 pb,.bool false,.bool false,.bool false,.pointer (some ⟨n0,3,none⟩),.int .i64 yu,.pointer (some ⟨a.sb,0,none⟩),.pointer (some ⟨a.sb,0,none⟩),.pointer (some ⟨a.sb,7,none⟩),.pointer (some ⟨a.sb,10,none⟩),.int .i64 pu,.bool true,.bool true] : Array Value)[jj]?.getD undef) (by kernel_rfl) (by kernel_rfl) rfl (fun i d _ h=>by have:=rea.slotG_is h;simp;omega) (fun i j d _ _ h1 h2=>by have:=rea.slotG_is h1;have:=rea.slotG_is h2;omega) ?_ rfl ?_
 ·rintro j o hj ho aa w1 hb ⟨hold,hdep⟩
  obtain ⟨r0,r1,r2,r3,r4,r5,r6,r7,rb⟩:=OLD.out w1 hb
  have o0:=hold 0 (fun i hi h=>by have:=rea.slotG_is h;omega)
  have o3:=hold 3 (fun i hi h=>by have:=rea.slotG_is h;omega)
  simp at o0 o3
  have hjj : j = 0 ∨ j = 1 ∨ j = 2 ∨ j = 3 ∨ j = 4 ∨ j = 5 ∨ j = 6 ∨ j = 7 ∨ j = 8 ∨ j = 9 ∨ j = 10 ∨ j = 11 ∨ j = 12 ∨ j = 13 ∨ j = 14 ∨ j = 15 ∨ j = 16 ∨ j = 17 ∨ j = 18 ∨ j = 19 ∨ j = 20 ∨ j = 21 ∨ j = 22 ∨ j = 23 ∨ j = 24 ∨ j = 25 ∨ j = 26 ∨ j = 27 ∨ j = 28 ∨ j = 29 ∨ j = 30 ∨ j = 31 ∨ j = 32 ∨ j = 33 ∨ j = 34 ∨ j = 35 ∨ j = 36 ∨ j = 37 ∨ j = 38 ∨ j = 39 ∨ j = 40 ∨ j = 41 ∨ j = 42:=by omega
  rcases hjj with rfl | rfl | rfl | rfl | rfl | rfl | rfl | rfl | rfl | rfl | rfl | rfl | rfl | rfl | rfl | rfl | rfl | rfl | rfl | rfl | rfl | rfl | rfl | rfl | rfl | rfl | rfl | rfl | rfl | rfl | rfl | rfl | rfl | rfl | rfl | rfl | rfl | rfl | rfl | rfl | rfl | rfl | rfl
  all_goals (cases ho;simp [Region.binds,rea.slotG] at hdep;refine ⟨rfl,rfl,?_⟩)
  ·refine .inl ⟨rfl,fun K hK=>?_⟩;exact wp_load_row 24 _ rfl n0 (by simp [Act.eval,o3]) 24 _ (0,0) _ rb Tryz.underlying24 rfl size24s (hK _ bz0)
  ·refine .inl ⟨rfl,fun K hK=>?_⟩;unfold Oper.wp;simp [execOp,Oper.upon,resolve,invoke,go_sem,Act.eval,hdep];refine (IR.out w1).mono ?_;rintro e w6 ⟨rfl,hb6⟩;exact hK _ hb6
  iterate 41 (· first | (refine .inl ⟨(by first | rfl | (simp [Region.wanted,yielded,hdep];done)),fun K hK=>?_⟩;unfold Oper.wp;simp [execOp,Oper.upon,go_sem,Act.eval,hdep,o0,o3,r0,r1,r2,r3,r4,r5,r6,r7,d0,d1,d2,d3];exact hK _ bz0) | (refine .inl ⟨rfl,fun K hK=>?_⟩;unfold Oper.wp;simp [execOp,Oper.upon,go_sem,Act.eval,o0,o3,r0,r1,r2,r3,r4,r5,r6,r7];exact hK _ bz0))
 rintro w1 hb1
 have HB1:=Lib.hid hb1
 clear hb1
 simp only [rea.setAll,rea.slotG]
 rw [show List.range 43 = [0,1,2,3,4,5,6,7,8,9,10,11,12,13,14,15,16,17,18,19,20,21,22,23,24,25,26,27,28,29,30,31,32,33,34,35,36,37,38,39,40,41,42] from rfl]
 simp (decide:=true) only [List.foldl_cons,List.foldl_nil,if_true,Nat.reduceAdd]
 simp (decide:=true) only [List.setIfInBounds_toArray,List.set_cons_succ,List.set_cons_zero,List.getElem?_toArray,List.getElem?_cons_succ,List.getElem?_cons_zero,Option.getD_some]
 go_wp2_with fail
 trace_state
 refine ⟨_,by simp [results,Tryz.f28,go_sem],rfl,To.refl ((HM.out.same HB1.out)) _,HH.out.2.1⟩
theorem SetPeer_yes (hm : Mem W w H) (h : SetIn H a s) (y : Pms) (hy : pmOk y = true) (hge : s.peer.data ≤ y.data ∧ s.peer.sdata ≤ y.sdata ∧ s.peer.bidi ≤ y.bidi ∧ s.peer.uni ≤ y.uni) (hlen : s.ss.length ≤ 100000) :
  Calls Tryz.prog 28 #[ptr a.sb,.agg y.cs] w fun e w'=>e = .returned (.int .i64 0) ∧ ∃ H' s',s'.pl = stP s.pl y ∧ To W w' H H' (s.foot a) (s'.foot a) ∧ SetIn H' a s':=by
 have IR:=Lib.hid (fun wx=>inRange_any y wx)
 rw [hy] at IR
 clear hy
 obtain ⟨yd,ys,yb,yu,ya,yi⟩:=y
 have X:=Lib.hid (box1 w (.cells #[.int .i64 yd,.int .i64 ys,.int .i64 yb,.int .i64 yu,.int .i64 ya,.int .i64 yi] 24))
 have hm0 : Mem W (w.alloc (.cells #[.int .i64 yd,.int .i64 ys,.int .i64 yb,.int .i64 yu,.int .i64 ya,.int .i64 yi] 24)) H:=hm.same X.out.2.1
 have HH:=Lib.hid (And.intro hm (And.intro h True.intro))
 obtain ⟨pd,hpd⟩ : ∃ q,s.peer.data = q:=⟨_,rfl⟩
 obtain ⟨ps,hps⟩ : ∃ q,s.peer.sdata = q:=⟨_,rfl⟩
 obtain ⟨pb,hpb⟩ : ∃ q,s.peer.bidi = q:=⟨_,rfl⟩
 obtain ⟨pu,hpu⟩ : ∃ q,s.peer.uni = q:=⟨_,rfl⟩
 simp only [Pms.cs] at IR ⊢
 simp only [hpd,hps,hpb,hpu] at hge
 have n1:=heap_lt (hm.at h.sb)
 clear hm h
 unfold ptr at *
 have HG:=Lib.hid (And.intro hge hlen)
 have d0 : (yd < pd) = False:=eq_false (by omega)
 have d1 : (ys < ps) = False:=eq_false (by omega)
 have d2 : (yb < pb) = False:=eq_false (by omega)
 have d3 : (yu < pu) = False:=eq_false (by omega)
 clear hge hlen
 refine (callsIn_wide (n:=20)).1 ?_
 refine callsIn_of_wp_marks Tryz.func28 rfl trivial ?_ rfl
 simp only [Tryz.ntmps28,List.size_toArray,List.length_cons,List.length_nil,Nat.reduceAdd,Nat.reduceSub,Array.replicate_succ,Array.replicate_zero,List.push_toArray,List.append_toArray,List.nil_append,List.cons_append]
 refine wpIn_wide.2 ?_
 go_upto_region 3 with (fail)
 obtain ⟨X1,X2,X3⟩:=X.out
 obtain ⟨n0,hn0⟩ : ∃ n0,w.heap.size = n0:=⟨_,rfl⟩
 rw [hn0] at X1 ⊢
 have XB:=Lib.hid X2
 clear X X2 X3
 generalize World.alloc _ _ = W0 at *
 have HN:=Lib.hid (And.intro hn0 n1)
 clear hn0 n1
 have XX:=Lib.hid X1
 clear X1
 have OLD : Hid (∀ wx : World,Below W0.heap.size W0 wx → wx.cell? ⟨n0,0,none⟩ = some (.int .i64 yd) ∧ wx.cell? ⟨n0,1,none⟩ = some (.int .i64 ys) ∧ wx.cell? ⟨n0,2,none⟩ = some (.int .i64 yb) ∧ wx.cell? ⟨n0,3,none⟩ = some (.int .i64 yu) ∧ wx.cell? ⟨a.sb,7,none⟩ = some (.int .i64 pd) ∧ wx.cell? ⟨a.sb,8,none⟩ = some (.int .i64 ps) ∧ wx.cell? ⟨a.sb,9,none⟩ = some (.int .i64 pb) ∧ wx.cell? ⟨a.sb,10,none⟩ = some (.int .i64 pu) ∧ wx.heap[n0]? = some (.cells #[.int .i64 yd,.int .i64 ys,.int .i64 yb,.int .i64 yu,.int .i64 ya,.int .i64 yi] 24 (0,0))):=Lib.hid (fun wx hb=>by
  have e0:=heap_below hb XX.out
  have e1:=heap_below hb (hm0.at HH.out.2.1.sb)
  refine ⟨at_whole' e0 rfl,at_whole' e0 rfl,at_whole' e0 rfl,at_whole' e0 rfl,?_,?_,?_,?_,e0⟩
  ·rw [← hpd];exact at_whole' e1 rfl
  ·rw [← hps];exact at_whole' e1 rfl
  ·rw [← hpb];exact at_whole' e1 rfl
  ·rw [← hpu];exact at_whole' e1 rfl)
 have HM:=Lib.hid hm0
 have HP:=Lib.hid (And.intro hpd (And.intro hps (And.intro hpb hpu)))
 clear hm0 hpd hps hpb hpu
 refine rea.grow_region 43 (rea.slotG 8 43 0) (fun jj=>(#[.agg #[.int .i64 yd,.int .i64 ys,.int .i64 yb,.int .i64 yu,.int .i64 ya,.int .i64 yi],.bool true,.bool false,.bool false,.pointer (some ⟨n0,0,none⟩),.int .i64 yd,.pointer (some ⟨a.sb,0,none⟩),.pointer (some ⟨a.sb,0,none⟩),.pointer (some ⟨a.sb,7,none⟩),.pointer (some ⟨a.sb,7,none⟩),.int .i64 pd,.bool false,.bool false,.bool false,.pointer (some ⟨n0,1,none⟩),.int .i64 ys,.pointer (some ⟨a.sb,0,none⟩),.pointer (some ⟨a.sb,0,none⟩),.pointer (some ⟨a.sb,7,none⟩),.pointer (some ⟨a.sb,8,none⟩),.int .i64 ps,.bool false,.bool false,.bool false,.pointer (some ⟨n0,2,none⟩),.int .i64 yb,.pointer (some ⟨a.sb,0,none⟩),.pointer (some ⟨a.sb,0,none⟩),.pointer (some ⟨a.sb,7,none⟩),.pointer (some ⟨a.sb,9,none⟩),.int .i64 pb,.bool false,.bool false,.bool false,.pointer (some ⟨n0,3,none⟩),.int .i64 yu,.pointer (some ⟨a.sb,0,none⟩),.pointer (some ⟨a.sb,0,none⟩),.pointer (some ⟨a.sb,7,none⟩),.pointer (some ⟨a.sb,10,none⟩),.int .i64 pu,.bool false,.bool false] : Array Value)[jj]?.getD undef) (by kernel_rfl) (by kernel_rfl) rfl (fun i d _ h=>by have:=rea.slotG_is h;simp;omega) (fun i j d _ _ h1 h2=>by have:=rea.slotG_is h1;have:=rea.slotG_is h2;omega) ?_ rfl ?_
 ·rintro j o hj ho aa w1 hb ⟨hold,hdep⟩
  obtain ⟨r0,r1,r2,r3,r4,r5,r6,r7,rb⟩:=OLD.out w1 hb
  have o0:=hold 0 (fun i hi h=>by have:=rea.slotG_is h;omega)
  have o3:=hold 3 (fun i hi h=>by have:=rea.slotG_is h;omega)
  simp at o0 o3
  have hjj : j = 0 ∨ j = 1 ∨ j = 2 ∨ j = 3 ∨ j = 4 ∨ j = 5 ∨ j = 6 ∨ j = 7 ∨ j = 8 ∨ j = 9 ∨ j = 10 ∨ j = 11 ∨ j = 12 ∨ j = 13 ∨ j = 14 ∨ j = 15 ∨ j = 16 ∨ j = 17 ∨ j = 18 ∨ j = 19 ∨ j = 20 ∨ j = 21 ∨ j = 22 ∨ j = 23 ∨ j = 24 ∨ j = 25 ∨ j = 26 ∨ j = 27 ∨ j = 28 ∨ j = 29 ∨ j = 30 ∨ j = 31 ∨ j = 32 ∨ j = 33 ∨ j = 34 ∨ j = 35 ∨ j = 36 ∨ j = 37 ∨ j = 38 ∨ j = 39 ∨ j = 40 ∨ j = 41 ∨ j = 42:=by omega
  rcases hjj with rfl | rfl | rfl | rfl | rfl | rfl | rfl | rfl | rfl | rfl | rfl | rfl | rfl | rfl | rfl | rfl | rfl | rfl | rfl | rfl | rfl | rfl | rfl | rfl | rfl | rfl | rfl | rfl | rfl | rfl | rfl | rfl | rfl | rfl | rfl | rfl | rfl | rfl | rfl | rfl | rfl | rfl | rfl
  all_goals (cases ho;simp [Region.binds,rea.slotG] at hdep;refine ⟨rfl,rfl,?_⟩)
  ·refine .inl ⟨rfl,fun K hK=>?_⟩;exact wp_load_row 24 _ rfl n0 (by simp [Act.eval,o3]) 24 _ (0,0) _ rb Tryz.underlying24 rfl size24s (hK _ bz0)
  ·refine .inl ⟨rfl,fun K hK=>?_⟩;unfold Oper.wp;simp [execOp,Oper.upon,resolve,invoke,go_sem,Act.eval,hdep];refine (IR.out w1).mono ?_;rintro e w6 ⟨rfl,hb6⟩;exact hK _ hb6
  iterate 41 (· first | (refine .inl ⟨(by first | rfl | (simp [Region.wanted,yielded,hdep];done)),fun K hK=>?_⟩;unfold Oper.wp;simp [execOp,Oper.upon,go_sem,Act.eval,hdep,o0,o3,r0,r1,r2,r3,r4,r5,r6,r7,d0,d1,d2,d3];exact hK _ bz0) | (refine .inl ⟨rfl,fun K hK=>?_⟩;unfold Oper.wp;simp [execOp,Oper.upon,go_sem,Act.eval,o0,o3,r0,r1,r2,r3,r4,r5,r6,r7];exact hK _ bz0))
 rintro w1 hb1
 have HB1:=Lib.hid hb1
 clear hb1
 simp only [rea.setAll,rea.slotG]
 rw [show List.range 43 = [0,1,2,3,4,5,6,7,8,9,10,11,12,13,14,15,16,17,18,19,20,21,22,23,24,25,26,27,28,29,30,31,32,33,34,35,36,37,38,39,40,41,42] from rfl]
 simp (decide:=true) only [List.foldl_cons,List.foldl_nil,if_true,Nat.reduceAdd]
 simp (decide:=true) only [List.setIfInBounds_toArray,List.set_cons_succ,List.set_cons_zero,List.getElem?_toArray,List.getElem?_cons_succ,List.getElem?_cons_zero,Option.getD_some]
 have hmw : Mem W w1 H:=HM.out.same HB1.out
 have XW:=Lib.hid (heap_below HB1.out XX.out)
 have hnf : ¬ s.foot a n0:=fun c=>by obtain ⟨o,ho⟩:=HH.out.2.1.dom c;have:=HH.out.1.lt ho;have:=HN.out.1;omega
 have hle : W.heap.size ≤ n0:=by have:=HH.out.1.below.size;have:=HN.out.1;omega
 have SF : SetIn (full W w1) a s:=HH.out.2.1.keep (fun k o _ e=>full_at hmw e)
 have hsb:=hmw.at HH.out.2.1.sb
 have HF:=Lib.hid (And.intro hmw (And.intro SF (And.intro hnf (And.intro hle hsb))))
 clear hmw SF hnf hle hsb
 have c7 : w1.cell? ⟨a.sb,7,none⟩ = some (.int .i64 s.peer.data):=at_whole' HF.out.2.2.2.2 rfl
 have c8 : w1.cell? ⟨a.sb,8,none⟩ = some (.int .i64 s.peer.sdata):=at_whole' HF.out.2.2.2.2 rfl
 have c9 : w1.cell? ⟨a.sb,9,none⟩ = some (.int .i64 s.peer.bidi):=at_whole' HF.out.2.2.2.2 rfl
 have c10 : w1.cell? ⟨a.sb,10,none⟩ = some (.int .i64 s.peer.uni):=at_whole' HF.out.2.2.2.2 rfl
 have c11 : w1.cell? ⟨a.sb,11,none⟩ = some (.int .i64 s.peer.ad):=at_whole' HF.out.2.2.2.2 rfl
 have c12 : w1.cell? ⟨a.sb,12,none⟩ = some (.int .i64 s.peer.idle):=at_whole' HF.out.2.2.2.2 rfl
 have z7:=frozen_whole HF.out.2.2.2.2 7
 have z8:=frozen_whole HF.out.2.2.2.2 8
 have z9:=frozen_whole HF.out.2.2.2.2 9
 have z10:=frozen_whole HF.out.2.2.2.2 10
 have z11:=frozen_whole HF.out.2.2.2.2 11
 have z12:=frozen_whole HF.out.2.2.2.2 12
 go_upto_region 6 with (refine wpList_load_row rfl 24 _ rfl n0 rfl 24 _ (0,0) _ XW.out Tryz.underlying24 rfl size24s ?_)
 clear c7 c8 c9 c10 c11 c12 z7 z8 z9 z10 z11 z12
 obtain ⟨w2,hw2⟩ : ∃ q,(((((w1.setCell ⟨a.sb,7,none⟩ (.int .i64 yd)).setCell ⟨a.sb,8,none⟩ (.int .i64 ys)).setCell ⟨a.sb,9,none⟩ (.int .i64 yb)).setCell ⟨a.sb,10,none⟩ (.int .i64 yu)).setCell ⟨a.sb,11,none⟩ (.int .i64 ya)).setCell ⟨a.sb,12,none⟩ (.int .i64 yi) = q:=⟨_,rfl⟩
 have B5:=set6 HF.out.2.2.2.2 hw2
 rw [hw2]
 obtain ⟨H2,S2,T2⟩:=HF.out.2.1.blkS (Mem.full HF.out.1.below) (s':={ s with peer:=⟨yd,ys,yb,yu,ya,yi⟩ }) B5 rfl rfl rfl
 have x2:=(T2.box XW.out HF.out.2.2.2.1 HF.out.2.2.1).1
 have c16 : w2.cell? ⟨a.sb,16,none⟩ = some (.int .i64 s.g0.olim):=at_whole' (T2.mem.at S2.sb) rfl
 have z16:=frozen_whole (T2.mem.at S2.sb) 16
 have k2 : w2.cell? ⟨n0,2,none⟩ = some (.int .i64 yb):=at_whole' x2 rfl
 obtain ⟨o0,ho0⟩ : ∃ q,s.g0.olim = q:=⟨_,rfl⟩
 rw [ho0] at c16
 obtain ⟨H3,S3,T3⟩:=S2.set T2.mem (s':={ s with peer:=⟨yd,ys,yb,yu,ya,yi⟩,g0:={ s.g0 with olim:=max o0 yb } }) 16 (.int .i64 (max o0 yb)) rfl rfl rfl rfl
 have R3:=Lib.hid (And.intro S3 ((fun (T : To W _ (full W w1) H3 _ _)=>(⟨T.mem.drew,T.kp,T.nw⟩ : To W _ (full W w1) H3 _ _)) (T2.trans T3)))
 have HO0:=Lib.hid ho0
 clear S2 T2 S3 T3 x2 B5 hw2 ho0
 go_still_tail 14,(by kernel_rfl)
 repeat still_step
 go_upto_region 7 with (fail)
 generalize World.drew _ = w3 at *
 have x3:=(R3.out.2.box XW.out HF.out.2.2.2.1 HF.out.2.2.1).1
 clear c16 z16 k2
 have c24 : w3.cell? ⟨a.sb,24,none⟩ = some (.int .i64 s.g1.olim):=at_whole' (R3.out.2.mem.at R3.out.1.sb) rfl
 have z24:=frozen_whole (R3.out.2.mem.at R3.out.1.sb) 24
 have k3 : w3.cell? ⟨n0,3,none⟩ = some (.int .i64 yu):=at_whole' x3 rfl
 obtain ⟨o1,ho1⟩ : ∃ q,s.g1.olim = q:=⟨_,rfl⟩
 rw [ho1] at c24
 obtain ⟨H4,S4,T4⟩:=R3.out.1.set R3.out.2.mem (s':={ s with peer:=⟨yd,ys,yb,yu,ya,yi⟩,g0:={ s.g0 with olim:=max o0 yb },g1:={ s.g1 with olim:=max o1 yu } }) 24 (.int .i64 (max o1 yu)) rfl rfl rfl rfl
 have R4:=Lib.hid (And.intro S4 ((fun (T : To W _ (full W w1) H4 _ _)=>(⟨T.mem.drew,T.kp,T.nw⟩ : To W _ (full W w1) H4 _ _)) (R3.out.2.trans T4)))
 have HO1:=Lib.hid ho1
 clear S4 T4 x3 ho1
 go_still_tail 14,(by kernel_rfl)
 repeat still_step
 go_upto_region 8 with (fail)
 generalize World.drew _ = w4 at *
 have x4:=(R4.out.2.box XW.out HF.out.2.2.2.1 HF.out.2.2.1).1
 clear c24 z24 k3
 have c30 : w4.cell? ⟨a.sb,30,none⟩ = some (.pointer (some ⟨a.cb,0,none⟩)):=at_whole' (R4.out.2.mem.at R4.out.1.sb) rfl
 have k0 : w4.cell? ⟨n0,0,none⟩ = some (.int .i64 yd):=at_whole' x4 rfl
 have BW:=Lib.hid (R4.out.2.mem.at R4.out.1.cb)
 have RC:=Lib.hid (fun wx hx=>raiseS_any a.cb s.cr yd wx hx)
 unfold ptr at RC
 clear x4
 go_still_tail 6,(by kernel_rfl)
 repeat still_step
 go_upto_region 9 with (go_at_call 68;refine (RC.out _ (by exact BW.out)).mono ?_;rintro e5 w5 ⟨rfl,hB⟩;have G5:=Lib.hid ((Blk.start BW.out).drew.trans hB);clear hB)
 obtain ⟨H5,S5,T5⟩:=R4.out.1.setC R4.out.2.mem G5.out (R4.out.1.cr.raise yd)
 have R5:=Lib.hid (And.intro S5 (R4.out.2.trans T5))
 have x5:=(R5.out.2.box XW.out HF.out.2.2.2.1 HF.out.2.2.1).1
 have f5:=(R5.out.2.box XW.out HF.out.2.2.2.1 HF.out.2.2.1).2
 clear S5 T5 c30 k0 BW RC G5
 obtain ⟨s5,hs5⟩ : ∃ q,({ s with peer:=⟨yd,ys,yb,yu,ya,yi⟩,g0:={ s.g0 with olim:=max o0 yb },g1:={ s.g1 with olim:=max o1 yu },cr:=s.cr.raise yd } : SetS) = q:=⟨_,rfl⟩
 have R6 : Hid (SetIn H5 a s5 ∧ To W w5 (full W w1) H5 (s.foot a) (s5.foot a)):=Lib.hid (by rw [← hs5];exact R5.out)
 have f6 : ¬ s5.foot a n0:=by rw [← hs5];exact f5
 have hss : s5.ss = s.ss:=by rw [← hs5]
 have HS5:=Lib.hid (And.intro hs5 (And.intro hss f6))
 clear f5 f6 hs5 hss R5 R4 R3
 go_wp2_with (go_at_call 62;refine (all_any _ _).mono ?_;rintro e wv ⟨rfl,rfl⟩)
 have x6:=heap_alloc_new w5 (.cells #[.pointer (some ⟨a.sb,0,none⟩)] 25)
 have hz6 : (w5.alloc (.cells #[.pointer (some ⟨a.sb,0,none⟩)] 25)).heap.size = w5.heap.size + 1:=World.size_alloc ..
 have hb6 : Below w5.heap.size w5 (w5.alloc (.cells #[.pointer (some ⟨a.sb,0,none⟩)] 25)):=(Below.refl _ w5).alloc (Nat.le_refl _) _
 obtain ⟨W6,hW6⟩ : ∃ y,w5.alloc (.cells #[.pointer (some ⟨a.sb,0,none⟩)] 25) = y:=⟨_,rfl⟩
 rw [hW6] at x6 hz6 hb6 ⊢
 obtain ⟨B,hB⟩ : ∃ B,w5.heap.size = B:=⟨_,rfl⟩
 have y6:=heap_below hb6 x5
 have n5:=heap_lt x5
 have hm6 : Mem W W6 H5:=R6.out.2.mem.same hb6
 rw [hB] at x6 hz6 n5 ⊢
 have SP0:=SpO.start hm6 R6.out.1
 have hmp : MapE W6 a.M (ents s5.ss).length (ents s5.ss):=by
  obtain ⟨mo,m1,_,m3⟩:=R6.out.1.mp
  exact m3 W6 (hm6.at m1)
 have cB:=at_whole x6 0 rfl
 have cb13:=R6.out.1.c13 hm6
 have hli:=R6.out.1.li
 have hinc : Inc s5.ss:=hli.up
 have hupE : UpE 1152921504606846976 (ents s5.ss):=⟨by unfold ents;rw [List.pairwise_map];exact hinc,fun p hp=>by
  obtain ⟨l1,xa,x,l2,e,e2,_⟩:=ents_split hp
  rw [← e2];exact hli.bd (xa,x) (by rw [e];simp)⟩
 have hll : (ents s5.ss).length ≤ 1000000:=by rw [HS5.out.2.1];unfold ents;simp;have:=HG.out.2;omega
 have lsb : a.sb < B:=by rw [← hB];exact heap_lt (R6.out.2.mem.at R6.out.1.sb)
 have lM : a.M < B:=by
  obtain ⟨mo,m1,_,_⟩:=R6.out.1.mp
  rw [← hB];exact heap_lt (R6.out.2.mem.at m1)
 have hWB : W.heap.size ≤ B:=by rw [← hB];exact R6.out.2.mem.below.size
 have hsbf : ¬ s5.foot a B:=fun c=>by obtain ⟨o,ho⟩:=R6.out.1.dom c;have:=R6.out.2.mem.lt ho;omega
 have HX:=Lib.hid (And.intro y6 (And.intro x6 (And.intro hz6 (And.intro lsb (And.intro lM (And.intro hWB (And.intro n5 (And.intro hsbf hinc))))))))
 have HSP:=Lib.hid SP0
 have HM6:=Lib.hid hm6
 have HB:=Lib.hid hB
 clear y6 x5 SP0 hm6 hli hW6 hb6 hB
 refine (wpIn_wide (n:=20)).1 ?_
 refine wpIn_rangeFunc_ownH rfl (by decide) (gf:=126) (lb:=#[.pointer (some ⟨B,0,none⟩)]) rfl trivial (enters_of Tryz.func126 (by kernel_rfl) rfl)
  (all_stops 19 (by decide) B a.sb a.M (ents s5.ss).length W6.heap.size (ents s5.ss) 1152921504606846976 hupE (by decide) hll W6 (Nat.le_refl _) (by omega) (by omega) (by omega) cB cb13 hmp)
  (fun h k=>h.trans k) (fun X l o o' hl hX hc hw=>KpS.put hX hc (by omega) (by omega) (by omega)) bz0 (fun _=>rfl)
  (fun pre X=>SpO W W6 a s5 { s5 with ss:=spL ys (pre.map fun y : InE (ents s5.ss)=>y.1.1) s5.ss } X)
  (fun _ _ _=>False)
  (fun pre X Y row h hg hr=>h.own hg (fun k e=>by obtain ⟨q1,q2⟩:=hr k e;exact ⟨q1,by have:=HX.out.2.2.1;have:=HX.out.2.2.2.2.2.1;omega,q2⟩))
  (fun c s X Y row h _ _=>h)
  (by rw [show (([] : List (InE (ents s5.ss))).map fun y=>y.1.1) = [] from rfl,spL_nil];exact HSP.out)
  (fun x a' X=>a' = { tmps:=#[.pointer (some ⟨a.sb,0,none⟩),.agg #[.int .i64 yd,.int .i64 ys,.int .i64 yb,.int .i64 yu,.int .i64 ya,.int .i64 yi],undef,.pointer (some ⟨n0,0,none⟩),.int .i64 0,.pointer (some ⟨x.1.2,0,none⟩),.pointer (some ⟨a.sb,0,none⟩),.bool false,.agg #[.int .i64 yd,.int .i64 ys,.int .i64 yb,.int .i64 yu,.int .i64 ya,.int .i64 yi],.bool true,.bool false,.bool false,.pointer (some ⟨n0,0,none⟩),.int .i64 yd,.pointer (some ⟨a.sb,0,none⟩),.pointer (some ⟨a.sb,0,none⟩),.pointer (some ⟨a.sb,7,none⟩),.pointer (some ⟨a.sb,7,none⟩),.int .i64 pd,.bool false,.bool false,.bool false,.pointer (some ⟨n0,1,none⟩),.int .i64 ys,.pointer (some ⟨a.sb,0,none⟩),.pointer (some ⟨a.sb,0,none⟩),.pointer (some ⟨a.sb,7,none⟩),.pointer (some ⟨a.sb,8,none⟩),.int .i64 ps,.bool false,.bool false,.bool false,.pointer (some ⟨n0,2,none⟩),.int .i64 yb,.pointer (some ⟨a.sb,0,none⟩),.pointer (some ⟨a.sb,0,none⟩),.pointer (some ⟨a.sb,7,none⟩),.pointer (some ⟨a.sb,9,none⟩),.int .i64 pb,.bool false,.bool false,.bool false,.pointer (some ⟨n0,3,none⟩),.int .i64 yu,.pointer (some ⟨a.sb,0,none⟩),.pointer (some ⟨a.sb,0,none⟩),.pointer (some ⟨a.sb,7,none⟩),.pointer (some ⟨a.sb,10,none⟩),.int .i64 pu,.bool false,.bool false,.pointer (some ⟨a.sb,0,none⟩),.agg #[.int .i64 yd,.int .i64 ys,.int .i64 yb,.int .i64 yu,.int .i64 ya,.int .i64 yi],.pointer (some ⟨a.sb,0,none⟩),.pointer (some ⟨a.sb,7,none⟩),.pointer (some ⟨a.sb,0,none⟩),.pointer (some ⟨a.sb,0,none⟩),.pointer (some ⟨a.sb,0,none⟩),.pointer (some ⟨a.sb,14,none⟩),.pointer (some ⟨a.sb,14,none⟩),.pointer (some ⟨a.sb,16,none⟩),.int .i64 o0,.pointer (some ⟨n0,2,none⟩),.int .i64 yb,.int .i64 (max o0 yb),.pointer (some ⟨a.sb,0,none⟩),.pointer (some ⟨a.sb,14,none⟩),.pointer (some ⟨a.sb,14,none⟩),.pointer (some ⟨a.sb,16,none⟩),.pointer (some ⟨a.sb,0,none⟩),.pointer (some ⟨a.sb,0,none⟩),.pointer (some ⟨a.sb,0,none⟩),.pointer (some ⟨a.sb,14,none⟩),.pointer (some ⟨a.sb,22,none⟩),.pointer (some ⟨a.sb,24,none⟩),.int .i64 o1,.pointer (some ⟨n0,3,none⟩),.int .i64 yu,.int .i64 (max o1 yu),.pointer (some ⟨a.sb,0,none⟩),.pointer (some ⟨a.sb,14,none⟩),.pointer (some ⟨a.sb,22,none⟩),.pointer (some ⟨a.sb,24,none⟩),.pointer (some ⟨a.sb,0,none⟩),.pointer (some ⟨a.sb,0,none⟩),.pointer (some ⟨a.sb,30,none⟩),.pointer (some ⟨a.cb,0,none⟩),.pointer (some ⟨n0,0,none⟩),.int .i64 yd,.tuple #[],.pointer (some ⟨a.sb,0,none⟩),.func (.func 126) #[] #[.pointer (some ⟨B,0,none⟩)],.pointer (some ⟨x.1.2,0,none⟩),undef,undef,undef,undef,undef,undef,undef,undef,undef,undef,undef,undef,undef,undef,undef],defers:=[] })
  (fun x a' s A C row hs hg hr=>hs)
  ?assign ?body ?done ?stop
 case stop=>rintro D c pre X _ _ hF _;exact hF.elim
 case assign=>
  rintro ly pre ⟨⟨id,xb⟩,hx⟩ X K hi hK
  simp only [encE,eP] at hK ⊢
  have H1:=Lib.hid (And.intro hi hK)
  clear hi hK
  gi_wp2
  trace_state
  exact H1.out.2 _ _ ((KeepsOthers.refl _).from _) (KpS.refl _ _ _ _ _) H1.out.1 rfl
 case body=>
  rintro ly pre ⟨⟨id,xb⟩,hx⟩ a' X hl ⟨r,hr⟩ hI rfl hlen
  have hx4 : (id,xb) ∈ ents (spL ys (pre.map fun y : InE (ents s5.ss)=>y.1.1) s5.ss):=by rw [spL_ents];exact hx
  obtain ⟨l1,xa,x,l2,hsp,hid,hxb⟩:=ents_split hx4
  simp only at hid hxb
  subst hid hxb
  have hst : StIn (full W X) xa x:=hI.st.li.all (xa,x) (by show _ ∈ spL _ _ _;rw [hsp];simp)
  have hmX:=Mem.full hI.be
  have hsn:=spL_step HX.out.2.2.2.2.2.2.2.2 hsp
  have c1:=hst.c1 hmX
  have hbx:=hI.box HX.out.1 (by have:=HF.out.2.2.2.1;exact this) HS5.out.2.2
  have hbB:=hI.box HX.out.2.1 HX.out.2.2.2.2.2.1 HX.out.2.2.2.2.2.2.2.1
  have kn : X.cell? ⟨n0,1,none⟩ = some (.int .i64 ys):=at_whole' hbx rfl
  have hXW : W6.heap.size ≤ X.heap.size:=by
   have h1:=heap_lt hbB
   have h2:=HX.out.2.2.1
   omega
  have FIN : Hid (∀ Y,SpO W W6 a s5 { s5 with ss:=l1 ++ (xa,spX ys x) :: l2 } Y → KeepsFrom W6.heap.size X Y → KpS W6.heap.size B a.sb a.M X Y → KeepsFrom W6.heap.size X Y ∧ KpS W6.heap.size B a.sb a.M X Y ∧ SpO W W6 a s5 { s5 with ss:=spL ys ((pre ++ ([⟨(x.id,xa.xb),hx⟩] : List (InE (ents s5.ss)))).map fun y : InE (ents s5.ss)=>y.1.1) s5.ss } Y):=Lib.hid (fun Y h1 h2 h3=>⟨h2,h3,by
   rw [List.map_append]
   show SpO W W6 a s5 { s5 with ss:=spL ys (_ ++ [x.id]) s5.ss } Y
   rw [hsn]
   exact h1⟩)
  have HI:=Lib.hid (And.intro hI (And.intro hsp (And.intro hst (And.intro hmX (And.intro hbB hXW)))))
  cases hxo : x.out with
  | none=>
   have h0:=hst.o
   rw [hxo] at h0
   have hpo : xa.o = none:=by
    cases ha : xa.o with
    | none=>rfl
    | some oa=>rw [ha] at h0;exact h0.elim
   rw [hpo] at c1
   have e1 : spX ys x = x:=by unfold spX;rw [hxo];cases x;simp at hxo;subst hxo;rfl
   have e2 : SpO W W6 a s5 { s5 with ss:=l1 ++ (xa,spX ys x) :: l2 } X:=by rw [e1,← hsp];exact hI
   have E2:=Lib.hid e2
   simp only [Option.map_none,optP] at c1
   clear hx4 hsp hst hmX hsn hbx hbB hI hr cB cb13 hmp hxo h0 hpo e1 e2 hXW
   gi_wp2
   exact FIN.out _ E2.out ((KeepsOthers.refl _).from _) (KpS.refl _ _ _ _ _)
  | some o=>
   have h0:=hst.o
   rw [hxo] at h0
   obtain ⟨oa,h1,h2⟩:=h0.some_of
   rw [h1] at c1
   simp only [Option.map_some,optP,ptr] at c1
   have co : X.cell? ⟨oa.ob,1,none⟩ = some (.pointer (some ⟨oa.cb,0,none⟩)):=h2.facts hmX 1 rfl
   have BW:=Lib.hid (hmX.at h2.cb)
   have RC : Hid (Calls Tryz.prog 68 #[.pointer (some ⟨oa.cb,0,none⟩),.int .i64 ys] X.drew fun e w6=>e = .returned (.tuple #[]) ∧ Blk oa.cb (o.cr.raise ys).cells 161 X w6):=Lib.hid ((raiseS_any oa.cb o.cr ys X.drew (by exact BW.out)).mono (fun e w6 hh=>⟨hh.1,(Blk.start BW.out).drew.trans hh.2⟩))
   have HQ:=Lib.hid (And.intro h1 (And.intro hxo h2))
   clear hx4 hsp hst hmX hsn hbx hbB hI hr cB cb13 hmp h0 h1 h2 hxo BW hXW
   gi_wp2_with fail
   refine rea.tail_region 98 9 (fun jj=>(#[.pointer (some ⟨xa.xb,0,none⟩),.pointer (some ⟨xa.xb,0,none⟩),.pointer (some ⟨xa.xb,1,none⟩),.pointer (some ⟨oa.ob,0,none⟩),.pointer (some ⟨oa.ob,0,none⟩),.pointer (some ⟨oa.ob,1,none⟩),.pointer (some ⟨oa.cb,0,none⟩),.pointer (some ⟨n0,1,none⟩),.int .i64 ys] : Array Value)[jj]?.getD undef) (fun _ w6=>Blk oa.cb (o.cr.raise ys).cells 161 X w6) rfl (by kernel_rfl) (by kernel_rfl) rfl (by simp) ?_ ?_ (fun v=>rfl) ?_
   ·rintro j oo hj ho aa ⟨hold,hdep⟩
    have o3:=hold 3 (by decide)
    have o5:=hold 5 (by decide)
    simp at o3 o5
    have d1 : X.drew.cell? ⟨xa.xb,1,none⟩ = some (.pointer (some ⟨oa.ob,0,none⟩)):=c1
    have d2 : X.drew.cell? ⟨oa.ob,1,none⟩ = some (.pointer (some ⟨oa.cb,0,none⟩)):=co
    have d3 : X.drew.cell? ⟨n0,1,none⟩ = some (.int .i64 ys):=kn
    have hjj : j = 0 ∨ j = 1 ∨ j = 2 ∨ j = 3 ∨ j = 4 ∨ j = 5 ∨ j = 6 ∨ j = 7 ∨ j = 8:=by omega
    rcases hjj with rfl | rfl | rfl | rfl | rfl | rfl | rfl | rfl | rfl
    all_goals (cases ho;simp [Region.binds] at hdep;refine ⟨rfl,rfl,fun _ hf=>absurd hf (by simp [Oper.about]),?_⟩)
    all_goals first | (simp [go_sem,Act.eval,hdep,o3,o5,d1,d2,d3];done) | (simp [go_sem,Act.eval,o3,o5,d1,d2,d3];done)
   ·rintro oo ho aa ⟨hold,hdep⟩
    cases ho
    simp [Region.binds] at hdep
    refine ⟨rfl,rfl,fun K hK=>?_⟩
    unfold Oper.wpIn
    refine ⟨?_,?_⟩
    ·intro f hf;trivial
    ·simp [execOp,Oper.semAt,Oper.uponIn,resolve,invoke,go_sem,Act.eval,hdep]
     refine (CallsIn.inRound ly (callsIn_wide.2 RC.out)).mono ?_
     rintro e w6 ⟨rfl,hB6⟩
     exact hK _ _ hB6
   ·rintro vv w6 hB6
    have HB6:=Lib.hid hB6
    clear hB6
    have hnb : oa.cb < B ∧ oa.cb ≠ a.M ∧ oa.cb ≠ a.sb:=by
     have hf : xa.foot oa.cb:=.inr (.inl (by rw [HQ.out.1];exact .inr (.inr (.inl rfl))))
     obtain ⟨x0,hx0⟩:=spL_addr (n:=ys) (pre:=pre.map fun y : InE (ents s5.ss)=>y.1.1) (ss:=s5.ss) (xa:=xa) (x:=x) (by rw [HI.out.2.1];simp)
     have hdj:=R6.out.1.dj
     have nf : ∀ k,a.own k → ¬ xa.foot k:=fun k hk c=>hdj k hk ⟨_,hx0,c⟩
     refine ⟨?_,fun c=>nf a.M (.inr (.inl rfl)) (c ▸ hf),fun c=>nf a.sb (.inl rfl) (c ▸ hf)⟩
     obtain ⟨o2,ho2⟩:=R6.out.1.dom (k:=oa.cb) (.inr ⟨_,hx0,hf⟩)
     have:=R6.out.2.mem.lt ho2
     have:=HB.out
     omega
    refine FIN.out _ (HI.out.1.cred HI.out.2.1 HQ.out.1 HQ.out.2.1 HQ.out.2.2 ys HB6.out) ⟨HB6.out.2.size,fun k o' _ hk ho'=>?_⟩ (KpS.chg (f:=fun k=>k = oa.cb) (Chg.grown HB6.out.2 rfl) (heap_lt HI.out.2.2.2.2.1) ?_ (fun k e=>?_) ?_)
    ·refine (HB6.out.2.block k (heap_lt hk) (fun c=>?_)).trans hk
     cases c
     rw [HI.out.2.2.2.1.at HQ.out.2.2.cb] at hk
     cases hk;cases ho'
    ·have:=HX.out.2.2.2.2.1;have:=heap_lt HI.out.2.2.2.2.1;omega
    ·subst e;have:=HX.out.2.2.1;exact ⟨by omega,by omega,hnb.2.1⟩
    ·exact World.cell?_of_block (a:=⟨a.sb,13,none⟩) (HB6.out.2.block a.sb (by have:=HX.out.2.2.2.1;have:=heap_lt HI.out.2.2.2.2.1;omega) (fun c=>hnb.2.2 (Option.some.inj c).symm))
 case done=>
  rintro D xs X hD hxs hI hKD
  have hids : ∀ e ∈ s5.ss,e.2.id ∈ xs.map (fun y : InE (ents s5.ss)=>y.1.1):=fun e he=>by
   have h1:=congrArg (fun l=>l.map (fun p : Ent=>p.1)) hxs
   simp only [List.map_map] at h1
   have h2 : xs.map (fun y : InE (ents s5.ss)=>y.1.1) = s5.ss.map (·.2.id):=h1.trans (by unfold ents;rw [List.map_map];rfl)
   rw [h2]
   exact List.mem_map.mpr ⟨e,he,rfl⟩
  rw [spL_all hids] at hI
  have HI:=Lib.hid (And.intro hI hKD)
  clear hI hxs hids hKD cB cb13 hmp
  go_wp2_with fail
  refine ⟨by simp,.inl ⟨_,_,rfl,run_takeDeferred HI.out.2,?_⟩⟩
  have hI2:=HI.out.1.own (Y:=X.putObj D (.deferred none)) (grownBy_putObj' X D _) (fun k e=>by cases e;exact ⟨hD,by have:=HX.out.2.2.1;have:=HX.out.2.2.2.2.2.1;omega,_,HI.out.2,rfl⟩)
  refine ⟨.int .i64 0,by simp [results,Tryz.f28,go_sem],rfl,_,_,?_,?_,hI2.st⟩
  ·rw [← HS5.out.1]
   unfold SetS.pl stP
   simp only [List.map_map]
   rw [HO0.out,HO1.out]
   rfl
  ·exact ((⟨Mem.full HF.out.1.below,fun k o e _=>full_at HF.out.1 e,fun k h=>.inl h⟩ : To W w1 H (full W w1) (s.foot a) (s.foot a)).trans R6.out.2).trans (hI2.to HM6.out)
end
end
end Go.Proofs.YthckbmcmdcemkaaGreatDoor.stm
