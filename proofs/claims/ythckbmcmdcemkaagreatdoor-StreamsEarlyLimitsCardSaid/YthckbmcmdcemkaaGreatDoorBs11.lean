/- Texts of this claim, one behind the other: I J K L M N O P Q W. -/
import Derived.Test.YthckbmcmdcemkaaGreatDoorBs10
import Derived.Laws.Cover1
set_option maxRecDepth 100000
set_option maxHeartbeats 16000000
set_option linter.unusedSimpArgs false
set_option linter.unusedVariables false
namespace Go.Proofs.YthckbmcmdcemkaaGreatDoor
section
open Go.RowKit
theorem next_glue2 {w w1 w2 : World} {b : Nat} {F : Nat → Prop} {B : Bf} {o : Obj} (h0 : Below w.heap.size w w1) (hz : w1.heap.size = w.heap.size + 1) (hq : w1.heap[w.heap.size]? = some o) (hC : Chg (Own w F) w1 w2) (hI : Inv w2 b (Ext (Own w F) w1 w2) B) :
  w2.heap[w.heap.size]? = some o ∧ ∀ cs : Array Value,Chg F w (w2.setRow w.heap.size cs) ∧ Inv (w2.setRow w.heap.size cs) b (Ext F w (w2.setRow w.heap.size cs)) B:=
 ⟨(hC.block w.heap.size (by omega) (fun e=>Nat.lt_irrefl _ e.2)).trans hq,next_glue h0 hz hC hI⟩
theorem next_new (b : Nat) (F : Nat → Prop) (B : Bf) (most credit : Int) (w : World) (h : Inv w b F B) (hg : Good B) (hm : 0 < most) (hft : ¬ ((runF B most).1 < (runF B most).2)) (R f : Nat) (hR : writtenF B - B.sent = R) (hf : B.sent - B.base = f) (n : Nat) (hn : min (R : Int) (min most credit) = n) (h1 : 0 < R) (h3 : 0 < credit) :
  Calls Tryz.prog 135 #[.pointer (some ⟨b,0,none⟩),.int .i64 most,.int .i64 credit] w (NextPost b F B (some (f,f + n)) w):=by
 have H0 : Below w.heap.size w (w.alloc (.cells fr0.cells 38)):=(Below.refl _ w).alloc (Nat.le_refl _) _
 have HQ:=Lib.hid (heap_alloc_new w (.cells fr0.cells 38))
 have HZ : Hid ((w.alloc (.cells fr0.cells 38)).heap.size = w.heap.size + 1):=Lib.hid (by simp)
 have RN:=Lib.hid (run_any b F B most (w.alloc (.cells fr0.cells 38)) (h.below H0) hg)
 have WR:=Lib.hid (fun k=>written_any b F B ((w.alloc (.cells fr0.cells 38)).drewN k) ((h.below H0).drewN k) hg)
 have OP:=Lib.hid (fun k=>open_any b F B ((w.alloc (.cells fr0.cells 38)).drewN k) ((h.below H0).drewN k))
 have hw1 : IntKind.i64.wrap (writtenF B - B.sent) = (R : Int):=by rw [← hR];exact IntWalk.i64_in _ (by have:=hg.b1;have:=hg.l2;have:=hg.b0;have:=hg.cap;have:=hg.s0;have:=hg.s1;unfold writtenF;omega)
 have hw2 : IntKind.i64.wrap (B.sent - B.base) = (f : Int):=by rw [← hf];exact IntWalk.i64_in _ (by have:=hg.b1;have:=hg.l2;have:=hg.b0;have:=hg.cap;have:=hg.s0;have:=hg.s1;omega)
 have hb : f + R = B.data.length:=by have:=hg.s0;have:=hg.s1;unfold writtenF at hR;omega
 have hl9 : B.data.length ≤ 8192:=by have:=hg.cap;have:=hg.l2;omega
 have HI0:=Lib.hid (h.own.below H0)
 have hnR : n ≤ R:=by omega
 have hw3 : IntKind.i64.wrap ((f : Int) + (n : Int)) = (f : Int) + (n : Int):=IntWalk.i64_in _ (by omega)
 have FRM:=Lib.hid (fun w2 hI=>frame_any b (Own w F) B f (f + n) w2 hI hg (by omega) (by omega))
 rw [show (((f + n : Nat) : Int)) = (f : Int) + (n : Int) from by omega] at FRM
 obtain ⟨m1,hm1⟩ : ∃ m1,(if most < (R : Int) then most else (R : Int)) = m1:=⟨_,rfl⟩
 have hm2 : (if credit < m1 then credit else m1) = (n : Int):=by split at hm1 <;> split <;> omega
 clear hn
 have HA:=Lib.hid h
 obtain ⟨vd,vs,h⟩:=h
 have R1:=(h.below H0).facts
 obtain ⟨c0,c1,c2,c3,c4,c5,c6,fr⟩:=R1
 clear c0 c2 c3 c5 c6 fr hR hf h hg
 generalize writtenF B = wn at *
 generalize (runF B most).1 = x at *
 generalize (runF B most).2 = y at *
 go_enter Tryz.func135,Tryz.ntmps135
 go_wp2_with (go_at_call 207;refine RN.out.mono ?_;rintro e w1 ⟨rfl,rfl⟩)
 go_quiet ((go_at_call 79;exact Calls.quiet_of (WR.out _)))
 go_wp2
 go_quiet (fail)
 go_wp2_with (first | (go_at_call 208;refine (FRM.out _ (HI0.out.drewN _)).mono ?_;rintro e w2 ⟨rfl,hC,hI⟩;have GL:=Lib.hid (next_glue2 (belowN H0 _) HZ.out HQ.out hC hI)) | (refine wpList_store_row rfl 38 _ _ rfl w.heap.size _ rfl rfl 38 _ GL.out.1 (size38 _) rfl (one35 _ _ _ _) ?_))
 refine bodyPost_ret (results_cell_tmp rfl _ _ w.heap.size 38 (frameR B f (f + n)).cells (0,0) _ rfl (setRow_heap _ _ _ _ 38 _ GL.out.1) Tryz.underlying38 rfl (size38 _)) rfl ⟨?_,GL.out.2 _⟩
 rfl
theorem next_end0 (b : Nat) (F : Nat → Prop) (B : Bf) (most credit : Int) (w : World) (h : Inv w b F B) (hg : Good B) (hm : most = 0) (R f : Nat) (hR : writtenF B - B.sent = R) (hf : B.sent - B.base = f) (h1 : R = 0) (h2 : openF B = true) :
  Calls Tryz.prog 135 #[.pointer (some ⟨b,0,none⟩),.int .i64 most,.int .i64 credit] w (NextPost b F B (some (f,f)) w):=by
 have H0 : Below w.heap.size w (w.alloc (.cells fr0.cells 38)):=(Below.refl _ w).alloc (Nat.le_refl _) _
 have HQ:=Lib.hid (heap_alloc_new w (.cells fr0.cells 38))
 have HZ : Hid ((w.alloc (.cells fr0.cells 38)).heap.size = w.heap.size + 1):=Lib.hid (by simp)
 have RN:=Lib.hid (run_any b F B most (w.alloc (.cells fr0.cells 38)) (h.below H0) hg)
 have WR:=Lib.hid (fun k=>written_any b F B ((w.alloc (.cells fr0.cells 38)).drewN k) ((h.below H0).drewN k) hg)
 have OP:=Lib.hid (fun k=>open_any b F B ((w.alloc (.cells fr0.cells 38)).drewN k) ((h.below H0).drewN k))
 have hw1 : IntKind.i64.wrap (writtenF B - B.sent) = (R : Int):=by rw [← hR];exact IntWalk.i64_in _ (by have:=hg.b1;have:=hg.l2;have:=hg.b0;have:=hg.cap;have:=hg.s0;have:=hg.s1;unfold writtenF;omega)
 have hw2 : IntKind.i64.wrap (B.sent - B.base) = (f : Int):=by rw [← hf];exact IntWalk.i64_in _ (by have:=hg.b1;have:=hg.l2;have:=hg.b0;have:=hg.cap;have:=hg.s0;have:=hg.s1;omega)
 have hb : f + R = B.data.length:=by have:=hg.s0;have:=hg.s1;unfold writtenF at hR;omega
 have hl9 : B.data.length ≤ 8192:=by have:=hg.cap;have:=hg.l2;omega
 have HI0:=Lib.hid (h.own.below H0)
 have FRM:=Lib.hid (fun w2 hI=>frame_any b (Own w F) B f f w2 hI hg (by omega) (by omega))
 rw [h2] at OP
 subst h1
 have HA:=Lib.hid h
 obtain ⟨vd,vs,h⟩:=h
 have R1:=(h.below H0).facts
 obtain ⟨c0,c1,c2,c3,c4,c5,c6,fr⟩:=R1
 clear c0 c2 c3 c5 c6 fr hR hf h hg
 generalize writtenF B = wn at *
 subst hm
 go_enter Tryz.func135,Tryz.ntmps135
 go_wp2
 change Code.wp _ _ _ _ (w.alloc (.cells fr0.cells 38))
 go_quiet ((go_at_call 79;exact Calls.quiet_of (WR.out _)))
 go_wp2
 go_quiet (fail)
 go_wp2_with (first | (go_at_call 209;refine (OP.out _).mono ?_;rintro e w2 ⟨rfl,rfl⟩) | (go_at_call 208;refine (FRM.out _ (HI0.out.drewN _)).mono ?_;rintro e w2 ⟨rfl,hC,hI⟩;have GL:=Lib.hid (next_glue2 (belowN H0 _) HZ.out HQ.out hC hI)) | (refine wpList_store_row rfl 38 _ _ rfl w.heap.size _ rfl rfl 38 _ GL.out.1 (size38 _) rfl (one35 _ _ _ _) ?_))
 refine bodyPost_ret (results_cell_tmp rfl _ _ w.heap.size 38 (frameR B f f).cells (0,0) _ rfl (setRow_heap _ _ _ _ 38 _ GL.out.1) Tryz.underlying38 rfl (size38 _)) rfl ⟨?_,GL.out.2 _⟩
 rfl
theorem next_end1 (b : Nat) (F : Nat → Prop) (B : Bf) (most credit : Int) (w : World) (h : Inv w b F B) (hg : Good B) (hm : 0 < most) (hft : ¬ ((runF B most).1 < (runF B most).2)) (R f : Nat) (hR : writtenF B - B.sent = R) (hf : B.sent - B.base = f) (h1 : R = 0) (h2 : openF B = true) :
  Calls Tryz.prog 135 #[.pointer (some ⟨b,0,none⟩),.int .i64 most,.int .i64 credit] w (NextPost b F B (some (f,f)) w):=by
 have H0 : Below w.heap.size w (w.alloc (.cells fr0.cells 38)):=(Below.refl _ w).alloc (Nat.le_refl _) _
 have HQ:=Lib.hid (heap_alloc_new w (.cells fr0.cells 38))
 have HZ : Hid ((w.alloc (.cells fr0.cells 38)).heap.size = w.heap.size + 1):=Lib.hid (by simp)
 have RN:=Lib.hid (run_any b F B most (w.alloc (.cells fr0.cells 38)) (h.below H0) hg)
 have WR:=Lib.hid (fun k=>written_any b F B ((w.alloc (.cells fr0.cells 38)).drewN k) ((h.below H0).drewN k) hg)
 have OP:=Lib.hid (fun k=>open_any b F B ((w.alloc (.cells fr0.cells 38)).drewN k) ((h.below H0).drewN k))
 have hw1 : IntKind.i64.wrap (writtenF B - B.sent) = (R : Int):=by rw [← hR];exact IntWalk.i64_in _ (by have:=hg.b1;have:=hg.l2;have:=hg.b0;have:=hg.cap;have:=hg.s0;have:=hg.s1;unfold writtenF;omega)
 have hw2 : IntKind.i64.wrap (B.sent - B.base) = (f : Int):=by rw [← hf];exact IntWalk.i64_in _ (by have:=hg.b1;have:=hg.l2;have:=hg.b0;have:=hg.cap;have:=hg.s0;have:=hg.s1;omega)
 have hb : f + R = B.data.length:=by have:=hg.s0;have:=hg.s1;unfold writtenF at hR;omega
 have hl9 : B.data.length ≤ 8192:=by have:=hg.cap;have:=hg.l2;omega
 have HI0:=Lib.hid (h.own.below H0)
 have FRM:=Lib.hid (fun w2 hI=>frame_any b (Own w F) B f f w2 hI hg (by omega) (by omega))
 rw [h2] at OP
 subst h1
 have HA:=Lib.hid h
 obtain ⟨vd,vs,h⟩:=h
 have R1:=(h.below H0).facts
 obtain ⟨c0,c1,c2,c3,c4,c5,c6,fr⟩:=R1
 clear c0 c2 c3 c5 c6 fr hR hf h hg
 generalize writtenF B = wn at *
 generalize (runF B most).1 = x at *
 generalize (runF B most).2 = y at *
 go_enter Tryz.func135,Tryz.ntmps135
 go_wp2_with (go_at_call 207;refine RN.out.mono ?_;rintro e w1 ⟨rfl,rfl⟩)
 go_quiet ((go_at_call 79;exact Calls.quiet_of (WR.out _)))
 go_wp2
 go_quiet (fail)
 go_wp2_with (first | (go_at_call 209;refine (OP.out _).mono ?_;rintro e w2 ⟨rfl,rfl⟩) | (go_at_call 208;refine (FRM.out _ (HI0.out.drewN _)).mono ?_;rintro e w2 ⟨rfl,hC,hI⟩;have GL:=Lib.hid (next_glue2 (belowN H0 _) HZ.out HQ.out hC hI)) | (refine wpList_store_row rfl 38 _ _ rfl w.heap.size _ rfl rfl 38 _ GL.out.1 (size38 _) rfl (one35 _ _ _ _) ?_))
 refine bodyPost_ret (results_cell_tmp rfl _ _ w.heap.size 38 (frameR B f f).cells (0,0) _ rfl (setRow_heap _ _ _ _ 38 _ GL.out.1) Tryz.underlying38 rfl (size38 _)) rfl ⟨?_,GL.out.2 _⟩
 rfl
theorem next_shut0 (b : Nat) (F : Nat → Prop) (B : Bf) (most credit : Int) (w : World) (h : Inv w b F B) (hg : Good B) (hm : most = 0) (R f : Nat) (hR : writtenF B - B.sent = R) (hf : B.sent - B.base = f) (h1 : R = 0) (h2 : openF B = false) :
  Calls Tryz.prog 135 #[.pointer (some ⟨b,0,none⟩),.int .i64 most,.int .i64 credit] w (NextPost b F B none w):=by
 have H0 : Below w.heap.size w (w.alloc (.cells fr0.cells 38)):=(Below.refl _ w).alloc (Nat.le_refl _) _
 have HQ:=Lib.hid (heap_alloc_new w (.cells fr0.cells 38))
 have HZ : Hid ((w.alloc (.cells fr0.cells 38)).heap.size = w.heap.size + 1):=Lib.hid (by simp)
 have RN:=Lib.hid (run_any b F B most (w.alloc (.cells fr0.cells 38)) (h.below H0) hg)
 have WR:=Lib.hid (fun k=>written_any b F B ((w.alloc (.cells fr0.cells 38)).drewN k) ((h.below H0).drewN k) hg)
 have OP:=Lib.hid (fun k=>open_any b F B ((w.alloc (.cells fr0.cells 38)).drewN k) ((h.below H0).drewN k))
 have hw1 : IntKind.i64.wrap (writtenF B - B.sent) = (R : Int):=by rw [← hR];exact IntWalk.i64_in _ (by have:=hg.b1;have:=hg.l2;have:=hg.b0;have:=hg.cap;have:=hg.s0;have:=hg.s1;unfold writtenF;omega)
 have hw2 : IntKind.i64.wrap (B.sent - B.base) = (f : Int):=by rw [← hf];exact IntWalk.i64_in _ (by have:=hg.b1;have:=hg.l2;have:=hg.b0;have:=hg.cap;have:=hg.s0;have:=hg.s1;omega)
 have hb : f + R = B.data.length:=by have:=hg.s0;have:=hg.s1;unfold writtenF at hR;omega
 have hl9 : B.data.length ≤ 8192:=by have:=hg.cap;have:=hg.l2;omega
 have HI0:=Lib.hid (h.own.below H0)
 have HQK : Hid (∀ k,((w.alloc (.cells fr0.cells 38)).drewN k).heap[w.heap.size]? = some (.cells fr0.cells 38 (0,0))):=Lib.hid (fun _=>HQ.out)
 have NG : Hid (∀ k cs,Chg F w (((w.alloc (.cells fr0.cells 38)).drewN k).setRow w.heap.size cs) ∧ Inv (((w.alloc (.cells fr0.cells 38)).drewN k).setRow w.heap.size cs) b (Ext F w (((w.alloc (.cells fr0.cells 38)).drewN k).setRow w.heap.size cs)) B):=Lib.hid (fun k cs=>(next_glue2 (o:=.cells fr0.cells 38) (belowN H0 k) HZ.out HQ.out (Chg.refl _ _) ((HI0.out.drewN k).ext (fun j hj=>.inl hj))).2 cs)
 rw [h2] at OP
 subst h1
 have HA:=Lib.hid h
 obtain ⟨vd,vs,h⟩:=h
 have R1:=(h.below H0).facts
 obtain ⟨c0,c1,c2,c3,c4,c5,c6,fr⟩:=R1
 clear c0 c2 c3 c5 c6 fr hR hf h hg
 generalize writtenF B = wn at *
 subst hm
 go_enter Tryz.func135,Tryz.ntmps135
 go_wp2
 change Code.wp _ _ _ _ (w.alloc (.cells fr0.cells 38))
 go_quiet ((go_at_call 79;exact Calls.quiet_of (WR.out _)))
 go_wp2
 go_quiet (fail)
 go_wp2_with (first | (go_at_call 209;refine (OP.out _).mono ?_;rintro e w2 ⟨rfl,rfl⟩) | (refine wpList_store_row rfl 38 _ _ rfl w.heap.size fr0.cells rfl rfl 38 _ (HQK.out _) (size38 fr0) rfl (one35 0 0 ⟨#[]⟩ false) ?_))
 refine bodyPost_ret (results_cell_tmp rfl _ _ w.heap.size 38 fr0.cells (0,0) _ rfl (setRow_heap _ _ _ _ 38 _ (HQK.out _)) Tryz.underlying38 rfl (size38 _)) rfl ⟨?_,NG.out _ _⟩
 rfl
theorem next_shut1 (b : Nat) (F : Nat → Prop) (B : Bf) (most credit : Int) (w : World) (h : Inv w b F B) (hg : Good B) (hm : 0 < most) (hft : ¬ ((runF B most).1 < (runF B most).2)) (R f : Nat) (hR : writtenF B - B.sent = R) (hf : B.sent - B.base = f) (h1 : R = 0) (h2 : openF B = false) :
  Calls Tryz.prog 135 #[.pointer (some ⟨b,0,none⟩),.int .i64 most,.int .i64 credit] w (NextPost b F B none w):=by
 have H0 : Below w.heap.size w (w.alloc (.cells fr0.cells 38)):=(Below.refl _ w).alloc (Nat.le_refl _) _
 have HQ:=Lib.hid (heap_alloc_new w (.cells fr0.cells 38))
 have HZ : Hid ((w.alloc (.cells fr0.cells 38)).heap.size = w.heap.size + 1):=Lib.hid (by simp)
 have RN:=Lib.hid (run_any b F B most (w.alloc (.cells fr0.cells 38)) (h.below H0) hg)
 have WR:=Lib.hid (fun k=>written_any b F B ((w.alloc (.cells fr0.cells 38)).drewN k) ((h.below H0).drewN k) hg)
 have OP:=Lib.hid (fun k=>open_any b F B ((w.alloc (.cells fr0.cells 38)).drewN k) ((h.below H0).drewN k))
 have hw1 : IntKind.i64.wrap (writtenF B - B.sent) = (R : Int):=by rw [← hR];exact IntWalk.i64_in _ (by have:=hg.b1;have:=hg.l2;have:=hg.b0;have:=hg.cap;have:=hg.s0;have:=hg.s1;unfold writtenF;omega)
 have hw2 : IntKind.i64.wrap (B.sent - B.base) = (f : Int):=by rw [← hf];exact IntWalk.i64_in _ (by have:=hg.b1;have:=hg.l2;have:=hg.b0;have:=hg.cap;have:=hg.s0;have:=hg.s1;omega)
 have hb : f + R = B.data.length:=by have:=hg.s0;have:=hg.s1;unfold writtenF at hR;omega
 have hl9 : B.data.length ≤ 8192:=by have:=hg.cap;have:=hg.l2;omega
 have HI0:=Lib.hid (h.own.below H0)
 have HQK : Hid (∀ k,((w.alloc (.cells fr0.cells 38)).drewN k).heap[w.heap.size]? = some (.cells fr0.cells 38 (0,0))):=Lib.hid (fun _=>HQ.out)
 have NG : Hid (∀ k cs,Chg F w (((w.alloc (.cells fr0.cells 38)).drewN k).setRow w.heap.size cs) ∧ Inv (((w.alloc (.cells fr0.cells 38)).drewN k).setRow w.heap.size cs) b (Ext F w (((w.alloc (.cells fr0.cells 38)).drewN k).setRow w.heap.size cs)) B):=Lib.hid (fun k cs=>(next_glue2 (o:=.cells fr0.cells 38) (belowN H0 k) HZ.out HQ.out (Chg.refl _ _) ((HI0.out.drewN k).ext (fun j hj=>.inl hj))).2 cs)
 rw [h2] at OP
 subst h1
 have HA:=Lib.hid h
 obtain ⟨vd,vs,h⟩:=h
 have R1:=(h.below H0).facts
 obtain ⟨c0,c1,c2,c3,c4,c5,c6,fr⟩:=R1
 clear c0 c2 c3 c5 c6 fr hR hf h hg
 generalize writtenF B = wn at *
 generalize (runF B most).1 = x at *
 generalize (runF B most).2 = y at *
 go_enter Tryz.func135,Tryz.ntmps135
 go_wp2_with (go_at_call 207;refine RN.out.mono ?_;rintro e w1 ⟨rfl,rfl⟩)
 go_quiet ((go_at_call 79;exact Calls.quiet_of (WR.out _)))
 go_wp2
 go_quiet (fail)
 go_wp2_with (first | (go_at_call 209;refine (OP.out _).mono ?_;rintro e w2 ⟨rfl,rfl⟩) | (refine wpList_store_row rfl 38 _ _ rfl w.heap.size fr0.cells rfl rfl 38 _ (HQK.out _) (size38 fr0) rfl (one35 0 0 ⟨#[]⟩ false) ?_))
 refine bodyPost_ret (results_cell_tmp rfl _ _ w.heap.size 38 fr0.cells (0,0) _ rfl (setRow_heap _ _ _ _ 38 _ (HQK.out _)) Tryz.underlying38 rfl (size38 _)) rfl ⟨?_,NG.out _ _⟩
 rfl
theorem next_low0 (b : Nat) (F : Nat → Prop) (B : Bf) (most credit : Int) (w : World) (h : Inv w b F B) (hg : Good B) (hm : most = 0) (R f : Nat) (hR : writtenF B - B.sent = R) (hf : B.sent - B.base = f) (h1 : 0 < R) :
  Calls Tryz.prog 135 #[.pointer (some ⟨b,0,none⟩),.int .i64 most,.int .i64 credit] w (NextPost b F B none w):=by
 have H0 : Below w.heap.size w (w.alloc (.cells fr0.cells 38)):=(Below.refl _ w).alloc (Nat.le_refl _) _
 have HQ:=Lib.hid (heap_alloc_new w (.cells fr0.cells 38))
 have HZ : Hid ((w.alloc (.cells fr0.cells 38)).heap.size = w.heap.size + 1):=Lib.hid (by simp)
 have RN:=Lib.hid (run_any b F B most (w.alloc (.cells fr0.cells 38)) (h.below H0) hg)
 have WR:=Lib.hid (fun k=>written_any b F B ((w.alloc (.cells fr0.cells 38)).drewN k) ((h.below H0).drewN k) hg)
 have OP:=Lib.hid (fun k=>open_any b F B ((w.alloc (.cells fr0.cells 38)).drewN k) ((h.below H0).drewN k))
 have hw1 : IntKind.i64.wrap (writtenF B - B.sent) = (R : Int):=by rw [← hR];exact IntWalk.i64_in _ (by have:=hg.b1;have:=hg.l2;have:=hg.b0;have:=hg.cap;have:=hg.s0;have:=hg.s1;unfold writtenF;omega)
 have hw2 : IntKind.i64.wrap (B.sent - B.base) = (f : Int):=by rw [← hf];exact IntWalk.i64_in _ (by have:=hg.b1;have:=hg.l2;have:=hg.b0;have:=hg.cap;have:=hg.s0;have:=hg.s1;omega)
 have hb : f + R = B.data.length:=by have:=hg.s0;have:=hg.s1;unfold writtenF at hR;omega
 have hl9 : B.data.length ≤ 8192:=by have:=hg.cap;have:=hg.l2;omega
 have HI0:=Lib.hid (h.own.below H0)
 have HQK : Hid (∀ k,((w.alloc (.cells fr0.cells 38)).drewN k).heap[w.heap.size]? = some (.cells fr0.cells 38 (0,0))):=Lib.hid (fun _=>HQ.out)
 have NG : Hid (∀ k cs,Chg F w (((w.alloc (.cells fr0.cells 38)).drewN k).setRow w.heap.size cs) ∧ Inv (((w.alloc (.cells fr0.cells 38)).drewN k).setRow w.heap.size cs) b (Ext F w (((w.alloc (.cells fr0.cells 38)).drewN k).setRow w.heap.size cs)) B):=Lib.hid (fun k cs=>(next_glue2 (o:=.cells fr0.cells 38) (belowN H0 k) HZ.out HQ.out (Chg.refl _ _) ((HI0.out.drewN k).ext (fun j hj=>.inl hj))).2 cs)
 have h1i : ¬ ((R : Int) = 0):=by omega
 have HA:=Lib.hid h
 obtain ⟨vd,vs,h⟩:=h
 have R1:=(h.below H0).facts
 obtain ⟨c0,c1,c2,c3,c4,c5,c6,fr⟩:=R1
 clear c0 c2 c3 c5 c6 fr hR hf h hg
 generalize writtenF B = wn at *
 subst hm
 go_enter Tryz.func135,Tryz.ntmps135
 go_wp2
 change Code.wp _ _ _ _ (w.alloc (.cells fr0.cells 38))
 go_quiet ((go_at_call 79;exact Calls.quiet_of (WR.out _)))
 go_wp2
 go_quiet (fail)
 go_wp2_with (first | (refine wpList_store_row rfl 38 _ _ rfl w.heap.size fr0.cells rfl rfl 38 _ (HQK.out _) (size38 fr0) rfl (one35 0 0 ⟨#[]⟩ false) ?_))
 refine bodyPost_ret (results_cell_tmp rfl _ _ w.heap.size 38 fr0.cells (0,0) _ rfl (setRow_heap _ _ _ _ 38 _ (HQK.out _)) Tryz.underlying38 rfl (size38 _)) rfl ⟨?_,NG.out _ _⟩
 rfl
theorem next_low1 (b : Nat) (F : Nat → Prop) (B : Bf) (most credit : Int) (w : World) (h : Inv w b F B) (hg : Good B) (hm : 0 < most) (hft : ¬ ((runF B most).1 < (runF B most).2)) (R f : Nat) (hR : writtenF B - B.sent = R) (hf : B.sent - B.base = f) (h1 : 0 < R) (h3 : ¬ (0 < credit)) :
  Calls Tryz.prog 135 #[.pointer (some ⟨b,0,none⟩),.int .i64 most,.int .i64 credit] w (NextPost b F B none w):=by
 have H0 : Below w.heap.size w (w.alloc (.cells fr0.cells 38)):=(Below.refl _ w).alloc (Nat.le_refl _) _
 have HQ:=Lib.hid (heap_alloc_new w (.cells fr0.cells 38))
 have HZ : Hid ((w.alloc (.cells fr0.cells 38)).heap.size = w.heap.size + 1):=Lib.hid (by simp)
 have RN:=Lib.hid (run_any b F B most (w.alloc (.cells fr0.cells 38)) (h.below H0) hg)
 have WR:=Lib.hid (fun k=>written_any b F B ((w.alloc (.cells fr0.cells 38)).drewN k) ((h.below H0).drewN k) hg)
 have OP:=Lib.hid (fun k=>open_any b F B ((w.alloc (.cells fr0.cells 38)).drewN k) ((h.below H0).drewN k))
 have hw1 : IntKind.i64.wrap (writtenF B - B.sent) = (R : Int):=by rw [← hR];exact IntWalk.i64_in _ (by have:=hg.b1;have:=hg.l2;have:=hg.b0;have:=hg.cap;have:=hg.s0;have:=hg.s1;unfold writtenF;omega)
 have hw2 : IntKind.i64.wrap (B.sent - B.base) = (f : Int):=by rw [← hf];exact IntWalk.i64_in _ (by have:=hg.b1;have:=hg.l2;have:=hg.b0;have:=hg.cap;have:=hg.s0;have:=hg.s1;omega)
 have hb : f + R = B.data.length:=by have:=hg.s0;have:=hg.s1;unfold writtenF at hR;omega
 have hl9 : B.data.length ≤ 8192:=by have:=hg.cap;have:=hg.l2;omega
 have HI0:=Lib.hid (h.own.below H0)
 have HQK : Hid (∀ k,((w.alloc (.cells fr0.cells 38)).drewN k).heap[w.heap.size]? = some (.cells fr0.cells 38 (0,0))):=Lib.hid (fun _=>HQ.out)
 have NG : Hid (∀ k cs,Chg F w (((w.alloc (.cells fr0.cells 38)).drewN k).setRow w.heap.size cs) ∧ Inv (((w.alloc (.cells fr0.cells 38)).drewN k).setRow w.heap.size cs) b (Ext F w (((w.alloc (.cells fr0.cells 38)).drewN k).setRow w.heap.size cs)) B):=Lib.hid (fun k cs=>(next_glue2 (o:=.cells fr0.cells 38) (belowN H0 k) HZ.out HQ.out (Chg.refl _ _) ((HI0.out.drewN k).ext (fun j hj=>.inl hj))).2 cs)
 have h1i : ¬ ((R : Int) = 0):=by omega
 have HA:=Lib.hid h
 obtain ⟨vd,vs,h⟩:=h
 have R1:=(h.below H0).facts
 obtain ⟨c0,c1,c2,c3,c4,c5,c6,fr⟩:=R1
 clear c0 c2 c3 c5 c6 fr hR hf h hg
 generalize writtenF B = wn at *
 generalize (runF B most).1 = x at *
 generalize (runF B most).2 = y at *
 go_enter Tryz.func135,Tryz.ntmps135
 go_wp2_with (go_at_call 207;refine RN.out.mono ?_;rintro e w1 ⟨rfl,rfl⟩)
 go_quiet ((go_at_call 79;exact Calls.quiet_of (WR.out _)))
 go_wp2
 go_quiet (fail)
 go_wp2_with (first | (refine wpList_store_row rfl 38 _ _ rfl w.heap.size fr0.cells rfl rfl 38 _ (HQK.out _) (size38 fr0) rfl (one35 0 0 ⟨#[]⟩ false) ?_))
 refine bodyPost_ret (results_cell_tmp rfl _ _ w.heap.size 38 fr0.cells (0,0) _ rfl (setRow_heap _ _ _ _ 38 _ (HQK.out _)) Tryz.underlying38 rfl (size38 _)) rfl ⟨?_,NG.out _ _⟩
 rfl
theorem next_any (b : Nat) (F : Nat → Prop) (B : Bf) (most credit : Int) (w : World) (h : Inv w b F B) (hg : Good B) :
  Calls Tryz.prog 135 #[.pointer (some ⟨b,0,none⟩),.int .i64 most,.int .i64 credit] w (NextPost b F B (nextP B most credit) w):=by
 have hrb:=runF_bound B most
 have e1:=hg.s0
 have e2:=hg.s1
 unfold nextP
 by_cases hm : most < 0
 ·rw [if_pos hm]
  exact next_neg b F B most credit w h hm
 ·rw [if_neg hm]
  by_cases hr : 0 < most ∧ (runF B most).1 < (runF B most).2
  ·rw [if_pos hr]
   exact next_run b F B most credit w h hg hr.1 _ _ (by omega) (by omega) (by omega)
  ·rw [if_neg hr]
   obtain ⟨R,hR⟩ : ∃ R : Nat,writtenF B - B.sent = R:=⟨(writtenF B - B.sent).toNat,by unfold writtenF;omega⟩
   obtain ⟨f,hf⟩ : ∃ f : Nat,B.sent - B.base = f:=⟨(B.sent - B.base).toNat,by omega⟩
   by_cases hn : 0 < writtenF B - B.sent ∧ 0 < most ∧ 0 < credit
   ·rw [if_pos hn]
    obtain ⟨n,hn2⟩ : ∃ n : Nat,min (R : Int) (min most credit) = n:=⟨(min (R : Int) (min most credit)).toNat,by omega⟩
    have:=next_new b F B most credit w h hg hn.2.1 (by omega) R f hR hf n hn2 (by omega) hn.2.2
    rw [hR,hf,hn2,show ((f : Int)).toNat = f from by omega,show ((f : Int) + (n : Int)).toNat = f + n from by omega]
    exact this
   ·rw [if_neg hn]
    by_cases ho : writtenF B - B.sent = 0 ∧ openF B = true
    ·rw [if_pos ho,hf,show ((f : Int)).toNat = f from by omega]
     by_cases h0 : most = 0
     ·exact next_end0 b F B most credit w h hg h0 R f hR hf (by omega) ho.2
     ·exact next_end1 b F B most credit w h hg (by omega) (by omega) R f hR hf (by omega) ho.2
    ·rw [if_neg ho]
     by_cases hR0 : R = 0
     ·have hop : openF B = false:=by cases hc : openF B;rfl;exact absurd ⟨by omega,hc⟩ ho
      by_cases h0 : most = 0
      ·exact next_shut0 b F B most credit w h hg h0 R f hR hf hR0 hop
      ·exact next_shut1 b F B most credit w h hg (by omega) (by omega) R f hR hf hR0 hop
     ·by_cases h0 : most = 0
      ·exact next_low0 b F B most credit w h hg h0 R f hR hf (by omega)
      ·exact next_low1 b F B most credit w h hg (by omega) (by omega) R f hR hf (by omega) (by omega)
end
section
open Go.RowKit
structure Boxed (w : World) (g : Nat) (f : Fr) : Prop where
 d0 : w.cell? ⟨g,0,none⟩ = some (.int .i64 f.ty)
 d2 : w.cell? ⟨g,2,none⟩ = some (.int .i64 f.off)
 d3 : w.cell? ⟨g,3,none⟩ = some (.string f.s)
 d4 : w.cell? ⟨g,4,none⟩ = some (.bool f.fin)
end
section
open Go.RowKit
end
section
open Go.RowKit
end
section
open Go.RowKit
end
section
open Go.RowKit
end
section
open Go.RowKit
theorem info5 : (Tryz.prog.info? 5).map (·.size) = some 1:=by kernel_rfl
/-- how many of the first states are 'acknowledged' -/
def lead : List Int → Nat
 | []=>0
 | x :: l=>if x = 3 then lead l + 1 else 0
theorem lead_le (l : List Int) : lead l ≤ l.length:=by
 induction l with
 | nil=>exact Nat.le_refl _
 | cons x l ih=>simp only [lead];split <;> simp <;> omega
theorem lead_lt : ∀ (l : List Int) (k : Nat),k < lead l → l[k]?.getD 0 = 3:=by
 intro l
 induction l with
 | nil=>intro k h;simp [lead] at h
 | cons x l ih=>
  intro k h
  simp only [lead] at h
  split at h
  ·cases k with
   | zero=>simpa using ‹x = 3›
   | succ k=>simpa using ih k (by omega)
  ·omega
theorem lead_at : ∀ (l : List Int),lead l < l.length → l[lead l]?.getD 0 ≠ 3:=by
 intro l
 induction l with
 | nil=>intro h;simp [lead] at h
 | cons x l ih=>
  intro h
  simp only [lead] at h ⊢
  split
  ·rename_i hx
   rw [if_pos hx] at h
   simpa using ih (by simpa using h)
  ·simpa using ‹¬ x = 3›
end
section
open Go.RowKit
end
section
open Go.RowKit
end
section
open Go.RowKit
/-! plain laws on lists of states -/
abbrev gd (l : List Int) (j : Nat) : Int:=l[j]?.getD 0
theorem ext_gd {l m : List Int} (hl : l.length = m.length) (h : ∀ j,j < l.length → gd l j = gd m j) : l = m:=by
 apply List.ext_getElem hl
 intro j h1 h2
 have:=h j h1
 simpa [gd,h1,h2] using this
theorem gd_lt {l : List Int} {j : Nat} (h : j < l.length) : gd l j = l[j]:=by simp [gd,h]
theorem gd_ge {l : List Int} {j : Nat} (h : l.length ≤ j) : gd l j = 0:=by simp [gd,h]
theorem gd_drop (l : List Int) (k j : Nat) : gd (l.drop k) j = gd l (k + j):=by simp [gd,List.getElem?_drop]
theorem gd_set (l : List Int) (k j : Nat) (v : Int) (h : k < l.length) : gd (l.set k v) j = if j = k then v else gd l j:=by
 unfold gd
 rw [List.getElem?_set]
 by_cases e : k = j
 ·subst e;simp [h]
 ·rw [if_neg e,if_neg (fun h=>e h.symm)]
theorem gd_append (l m : List Int) (j : Nat) : gd (l ++ m) j = if j < l.length then gd l j else gd m (j - l.length):=by
 unfold gd
 by_cases h : j < l.length
 ·rw [if_pos h,List.getElem?_append_left h]
 ·rw [if_neg h,List.getElem?_append_right (by omega)]
theorem gd_replicate (n j : Nat) (v : Int) (h : j < n) : gd (List.replicate n v) j = v:=by simp [gd,h]
theorem gd_setTo (st : List Int) (v : Int) (i n j : Nat) (h : i + n ≤ st.length) : gd (setTo st v i n) j = if i ≤ j ∧ j < i + n then v else gd st j:=by
 induction n with
 | zero=>rw [setTo,if_neg (by omega)]
 | succ n ih=>
  rw [setTo,gd_set _ _ _ _ (by rw [setTo_length];omega),ih (by omega)]
  by_cases e : j = i + n
  ·subst e;rw [if_pos rfl,if_pos (by omega)]
  ·rw [if_neg e]
   by_cases e2 : i ≤ j ∧ j < i + n
   ·rw [if_pos e2,if_pos (by omega)]
   ·rw [if_neg e2,if_neg (by omega)]
theorem lead_is {l : List Int} {m : Nat} (hm : m ≤ l.length) (h1 : ∀ k,k < m → gd l k = 3) (h2 : m < l.length → gd l m ≠ 3) : lead l = m:=by
 rcases Nat.lt_trichotomy (lead l) m with h | h | h
 ·exact absurd (h1 _ h) (lead_at l (by omega))
 ·exact h
 ·have:=lead_lt l m h
  have hl:=lead_le l
  exact absurd this (h2 (by omega))
def first (x : Int) : List Int → Nat
 | []=>0
 | y :: l=>if y = x then 0 else first x l + 1
theorem first_le (x : Int) (l : List Int) : first x l ≤ l.length:=by
 induction l with
 | nil=>exact Nat.le_refl _
 | cons y l ih=>simp only [first];split <;> simp <;> omega
theorem first_lt (x : Int) : ∀ (l : List Int) (k : Nat),k < first x l → gd l k ≠ x:=by
 intro l
 induction l with
 | nil=>intro k h;simp [first] at h
 | cons y l ih=>
  intro k h
  simp only [first] at h
  split at h
  ·omega
  ·cases k with
   | zero=>simpa [gd] using ‹¬ y = x›
   | succ k=>simpa [gd] using ih k (by omega)
theorem first_at (x : Int) : ∀ (l : List Int),first x l < l.length → gd l (first x l) = x:=by
 intro l
 induction l with
 | nil=>intro h;simp [first] at h
 | cons y l ih=>
  intro h
  simp only [first] at h ⊢
  split
  ·simpa [gd] using ‹y = x›
  ·rename_i hx
   rw [if_neg hx] at h
   simpa [gd] using ih (by simpa using h)
theorem first_is {x : Int} {l : List Int} {m : Nat} (hm : m ≤ l.length) (h1 : ∀ k,k < m → gd l k ≠ x) (h2 : m < l.length → gd l m = x) : first x l = m:=by
 rcases Nat.lt_trichotomy (first x l) m with h | h | h
 ·exact absurd (first_at x l (by omega)) (h1 _ h)
 ·exact h
 ·have:=first_lt x l m h
  have hl:=first_le x l
  exact absurd (h2 (by omega)) this
theorem first_drop (x : Int) (l : List Int) (k : Nat) (hk : k ≤ l.length) (h : ∀ j,j < k → gd l j ≠ x) : first x l = k + first x (l.drop k):=by
 refine first_is ?_ (fun j hj=>?_) (fun hj=>?_)
 ·have:=first_le x (l.drop k);simp at this;omega
 ·by_cases e : j < k
  ·exact h j e
  ·have:=first_lt x (l.drop k) (j - k) (by omega)
   rw [gd_drop,show k + (j - k) = j by omega] at this
   exact this
 ·have:=first_at x (l.drop k) (by simp;omega)
  rw [gd_drop] at this
  exact this
def runLen (x : Int) : List Int → Nat → Nat
 | [],_=>0
 | _ :: _,0=>0
 | y :: l,m + 1=>if y = x then runLen x l m + 1 else 0
theorem runLen_le (x : Int) : ∀ (l : List Int) (m : Nat),runLen x l m ≤ m ∧ runLen x l m ≤ l.length:=by
 intro l
 induction l with
 | nil=>intro m;simp [runLen]
 | cons y l ih=>
  intro m
  cases m with
  | zero=>simp [runLen]
  | succ m=>have:=ih m;simp only [runLen];split <;> simp <;> omega
theorem runLen_lt (x : Int) : ∀ (l : List Int) (m k : Nat),k < runLen x l m → gd l k = x:=by
 intro l
 induction l with
 | nil=>intro m k h;simp [runLen] at h
 | cons y l ih=>
  intro m k h
  cases m with
  | zero=>simp [runLen] at h
  | succ m=>
   simp only [runLen] at h
   split at h
   ·cases k with
    | zero=>simpa [gd] using ‹y = x›
    | succ k=>simpa [gd] using ih m k (by omega)
   ·omega
theorem runGo_cont (most : Int) : ∀ (l : List Int) (i f t : Int) (n : Nat),f < t → t = i → t - f + n = most → runGo most l i f t = (f,t + runLen 2 l n):=by
 intro l
 induction l with
 | nil=>intro i f t n h1 h2 h3;simp [runGo,runLen]
 | cons s l ih=>
  intro i f t n h1 h2 h3
  rw [runGo]
  by_cases hs : s = 2
  ·subst hs
   cases n with
   | zero=>rw [if_pos ⟨h1,.inr (by simpa using h3)⟩];simp [runLen]
   | succ n=>
    rw [if_neg (by omega),if_neg (by omega),if_pos rfl,ih (i + 1) f (t + 1) n (by omega) (by omega) (by omega)]
    simp [runLen];omega
  ·rw [if_pos ⟨h1,.inl hs⟩]
   cases n <;> simp [runLen,hs]
theorem runGo_start (most : Int) (m : Nat) (hm : most = m) (h1 : 1 ≤ m) : ∀ (l : List Int) (i f : Int),runGo most l i f f = if first 2 l < l.length then (i + first 2 l,i + first 2 l + runLen 2 (l.drop (first 2 l)) m) else (f,f):=by
 intro l
 induction l with
 | nil=>intro i f;simp [runGo]
 | cons s l ih=>
  intro i f
  rw [runGo,if_neg (by omega)]
  by_cases hs : s = 2
  ·subst hs
   obtain ⟨n,rfl⟩ : ∃ n,m = n + 1:=⟨m - 1,by omega⟩
   rw [if_pos ⟨rfl,rfl⟩,runGo_cont most l (i + 1) i (i + 1) n (by omega) rfl (by omega)]
   simp [first,runLen];omega
  ·rw [if_neg (by simp [hs]),if_neg hs,ih (i + 1) f]
   simp only [first,if_neg hs,List.length_cons,Nat.add_lt_add_iff_right,List.drop_succ_cons]
   split
   ·simp only [Prod.mk.injEq];omega
   ·rfl
theorem runF_eq (B : Bf) (most : Int) (hm : 1 ≤ most) : runF B most = if first 2 B.st < B.st.length then ((first 2 B.st : Int),(first 2 B.st : Int) + runLen 2 (B.st.drop (first 2 B.st)) most.toNat) else (0,0):=by
 unfold runF
 rw [runGo_start most most.toNat (by omega) (by omega)]
 simp only [Int.zero_add]
end
end Go.Proofs.YthckbmcmdcemkaaGreatDoor
