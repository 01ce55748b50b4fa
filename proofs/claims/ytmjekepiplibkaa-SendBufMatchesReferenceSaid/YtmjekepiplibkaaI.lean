import Derived.Test.YtmjekepiplibkaaH
import Derived.Laws.Cover1
namespace Go.Proofs.Ytmjekepiplibkaa
open Go.RowKit
theorem belowN {n : Nat} {w w1 : World} (h : Below n w w1) (k : Nat) : Below n w (w1.drewN k) := ⟨h.os, h.tape, h.output, h.size, h.block⟩
theorem next_glue2 {w w1 w2 : World} {b : Nat} {F : Nat → Prop} {B : Bf} {o : Obj} (h0 : Below w.heap.size w w1) (hz : w1.heap.size = w.heap.size + 1) (hq : w1.heap[w.heap.size]? = some o) (hC : Chg (Own w F) w1 w2) (hI : Inv w2 b (Ext (Own w F) w1 w2) B) :
    w2.heap[w.heap.size]? = some o ∧ ∀ cs : Array Value, Chg F w (w2.setRow w.heap.size cs) ∧ Inv (w2.setRow w.heap.size cs) b (Ext F w (w2.setRow w.heap.size cs)) B :=
  ⟨(hC.block w.heap.size (by omega) (fun e => Nat.lt_irrefl _ e.2)).trans hq, next_glue h0 hz hC hI⟩
set_option maxHeartbeats 8000000 in
theorem next_new (b : Nat) (F : Nat → Prop) (B : Bf) (most credit : Int) (w : World) (h : Inv w b F B) (hg : Good B) (hm : 0 < most) (hft : ¬ ((runF B most).1 < (runF B most).2)) (R f : Nat) (hR : writtenF B - B.sent = R) (hf : B.sent - B.base = f) (n : Nat) (hn : min (R : Int) (min most credit) = n) (h1 : 0 < R) (h3 : 0 < credit) :
    Calls Try.prog 16 #[.pointer (some ⟨b, 0, none⟩), .int .i64 most, .int .i64 credit] w (NextPost b F B (some (f, f + n)) w) := by
  have H0 : Below w.heap.size w (w.alloc (.cells fr0.cells 35)) := (Below.refl _ w).alloc (Nat.le_refl _) _
  have HQ := Lib.hid (heap_alloc_new w (.cells fr0.cells 35))
  have HZ : Hid ((w.alloc (.cells fr0.cells 35)).heap.size = w.heap.size + 1) := Lib.hid (by simp)
  have RN := Lib.hid (run_any b F B most (w.alloc (.cells fr0.cells 35)) (h.below H0) hg)
  have WR := Lib.hid (fun k => written_any b F B ((w.alloc (.cells fr0.cells 35)).drewN k) ((h.below H0).drewN k) hg)
  have OP := Lib.hid (fun k => open_any b F B ((w.alloc (.cells fr0.cells 35)).drewN k) ((h.below H0).drewN k))
  have hw1 : IntKind.i64.wrap (writtenF B - B.sent) = (R : Int) := by rw [← hR]; exact IntWalk.i64_in _ (by have := hg.b1; have := hg.l2; have := hg.b0; have := hg.cap; have := hg.s0; have := hg.s1; unfold writtenF; omega)
  have hw2 : IntKind.i64.wrap (B.sent - B.base) = (f : Int) := by rw [← hf]; exact IntWalk.i64_in _ (by have := hg.b1; have := hg.l2; have := hg.b0; have := hg.cap; have := hg.s0; have := hg.s1; omega)
  have hb : f + R = B.data.length := by have := hg.s0; have := hg.s1; unfold writtenF at hR; omega
  have hl9 : B.data.length ≤ 8192 := by have := hg.cap; have := hg.l2; omega
  have HI0 := Lib.hid (h.own.below H0)
  have hnR : n ≤ R := by omega
  have hw3 : IntKind.i64.wrap ((f : Int) + (n : Int)) = (f : Int) + (n : Int) := IntWalk.i64_in _ (by omega)
  have FRM := Lib.hid (fun w2 hI => frame_any b (Own w F) B f (f + n) w2 hI hg (by omega) (by omega))
  rw [show (((f + n : Nat) : Int)) = (f : Int) + (n : Int) from by omega] at FRM
  obtain ⟨m1, hm1⟩ : ∃ m1, (if most < (R : Int) then most else (R : Int)) = m1 := ⟨_, rfl⟩
  have hm2 : (if credit < m1 then credit else m1) = (n : Int) := by split at hm1 <;> split <;> omega
  clear hn
  have HA := Lib.hid h
  obtain ⟨vd, vs, h⟩ := h
  have R1 := (h.below H0).facts
  obtain ⟨c0, c1, c2, c3, c4, c5, c6, fr⟩ := R1
  clear c0 c2 c3 c5 c6 fr hR hf h hg
  generalize writtenF B = wn at *
  generalize (runF B most).1 = x at *
  generalize (runF B most).2 = y at *
  go_enter Try.func16, Try.ntmps16
  go_wp2_with (go_at_call 30; refine RN.out.mono ?_; rintro e w1 ⟨rfl, rfl⟩)
  go_quiet ((go_at_call 20; exact Calls.quiet_of (WR.out _)))
  go_wp2
  go_quiet (fail)
  go_wp2_with (first | (go_at_call 31; refine (FRM.out _ (HI0.out.drewN _)).mono ?_; rintro e w2 ⟨rfl, hC, hI⟩; have GL := Lib.hid (next_glue2 (belowN H0 _) HZ.out HQ.out hC hI)) | (refine wpList_store_row rfl 35 _ _ rfl w.heap.size _ rfl rfl 35 _ GL.out.1 (size35 _) rfl (one35 _ _ _ _) ?_))
  refine bodyPost_ret (results_cell_tmp rfl _ _ w.heap.size 35 (frameR B f (f + n)).cells (0, 0) _ rfl (setRow_heap _ _ _ _ 35 _ GL.out.1) Try.underlying35 rfl (size35 _)) rfl ⟨?_, GL.out.2 _⟩
  rfl
set_option maxHeartbeats 8000000 in
theorem next_end0 (b : Nat) (F : Nat → Prop) (B : Bf) (most credit : Int) (w : World) (h : Inv w b F B) (hg : Good B) (hm : most = 0) (R f : Nat) (hR : writtenF B - B.sent = R) (hf : B.sent - B.base = f) (h1 : R = 0) (h2 : openF B = true) :
    Calls Try.prog 16 #[.pointer (some ⟨b, 0, none⟩), .int .i64 most, .int .i64 credit] w (NextPost b F B (some (f, f)) w) := by
  have H0 : Below w.heap.size w (w.alloc (.cells fr0.cells 35)) := (Below.refl _ w).alloc (Nat.le_refl _) _
  have HQ := Lib.hid (heap_alloc_new w (.cells fr0.cells 35))
  have HZ : Hid ((w.alloc (.cells fr0.cells 35)).heap.size = w.heap.size + 1) := Lib.hid (by simp)
  have RN := Lib.hid (run_any b F B most (w.alloc (.cells fr0.cells 35)) (h.below H0) hg)
  have WR := Lib.hid (fun k => written_any b F B ((w.alloc (.cells fr0.cells 35)).drewN k) ((h.below H0).drewN k) hg)
  have OP := Lib.hid (fun k => open_any b F B ((w.alloc (.cells fr0.cells 35)).drewN k) ((h.below H0).drewN k))
  have hw1 : IntKind.i64.wrap (writtenF B - B.sent) = (R : Int) := by rw [← hR]; exact IntWalk.i64_in _ (by have := hg.b1; have := hg.l2; have := hg.b0; have := hg.cap; have := hg.s0; have := hg.s1; unfold writtenF; omega)
  have hw2 : IntKind.i64.wrap (B.sent - B.base) = (f : Int) := by rw [← hf]; exact IntWalk.i64_in _ (by have := hg.b1; have := hg.l2; have := hg.b0; have := hg.cap; have := hg.s0; have := hg.s1; omega)
  have hb : f + R = B.data.length := by have := hg.s0; have := hg.s1; unfold writtenF at hR; omega
  have hl9 : B.data.length ≤ 8192 := by have := hg.cap; have := hg.l2; omega
  have HI0 := Lib.hid (h.own.below H0)
  have FRM := Lib.hid (fun w2 hI => frame_any b (Own w F) B f f w2 hI hg (by omega) (by omega))
  rw [h2] at OP
  subst h1
  have HA := Lib.hid h
  obtain ⟨vd, vs, h⟩ := h
  have R1 := (h.below H0).facts
  obtain ⟨c0, c1, c2, c3, c4, c5, c6, fr⟩ := R1
  clear c0 c2 c3 c5 c6 fr hR hf h hg
  generalize writtenF B = wn at *
  subst hm
  go_enter Try.func16, Try.ntmps16
  go_wp2
  change Code.wp _ _ _ _ (w.alloc (.cells fr0.cells 35))
  go_quiet ((go_at_call 20; exact Calls.quiet_of (WR.out _)))
  go_wp2
  go_quiet (fail)
  go_wp2_with (first | (go_at_call 32; refine (OP.out _).mono ?_; rintro e w2 ⟨rfl, rfl⟩) | (go_at_call 31; refine (FRM.out _ (HI0.out.drewN _)).mono ?_; rintro e w2 ⟨rfl, hC, hI⟩; have GL := Lib.hid (next_glue2 (belowN H0 _) HZ.out HQ.out hC hI)) | (refine wpList_store_row rfl 35 _ _ rfl w.heap.size _ rfl rfl 35 _ GL.out.1 (size35 _) rfl (one35 _ _ _ _) ?_))
  refine bodyPost_ret (results_cell_tmp rfl _ _ w.heap.size 35 (frameR B f f).cells (0, 0) _ rfl (setRow_heap _ _ _ _ 35 _ GL.out.1) Try.underlying35 rfl (size35 _)) rfl ⟨?_, GL.out.2 _⟩
  rfl
set_option maxHeartbeats 8000000 in
theorem next_end1 (b : Nat) (F : Nat → Prop) (B : Bf) (most credit : Int) (w : World) (h : Inv w b F B) (hg : Good B) (hm : 0 < most) (hft : ¬ ((runF B most).1 < (runF B most).2)) (R f : Nat) (hR : writtenF B - B.sent = R) (hf : B.sent - B.base = f) (h1 : R = 0) (h2 : openF B = true) :
    Calls Try.prog 16 #[.pointer (some ⟨b, 0, none⟩), .int .i64 most, .int .i64 credit] w (NextPost b F B (some (f, f)) w) := by
  have H0 : Below w.heap.size w (w.alloc (.cells fr0.cells 35)) := (Below.refl _ w).alloc (Nat.le_refl _) _
  have HQ := Lib.hid (heap_alloc_new w (.cells fr0.cells 35))
  have HZ : Hid ((w.alloc (.cells fr0.cells 35)).heap.size = w.heap.size + 1) := Lib.hid (by simp)
  have RN := Lib.hid (run_any b F B most (w.alloc (.cells fr0.cells 35)) (h.below H0) hg)
  have WR := Lib.hid (fun k => written_any b F B ((w.alloc (.cells fr0.cells 35)).drewN k) ((h.below H0).drewN k) hg)
  have OP := Lib.hid (fun k => open_any b F B ((w.alloc (.cells fr0.cells 35)).drewN k) ((h.below H0).drewN k))
  have hw1 : IntKind.i64.wrap (writtenF B - B.sent) = (R : Int) := by rw [← hR]; exact IntWalk.i64_in _ (by have := hg.b1; have := hg.l2; have := hg.b0; have := hg.cap; have := hg.s0; have := hg.s1; unfold writtenF; omega)
  have hw2 : IntKind.i64.wrap (B.sent - B.base) = (f : Int) := by rw [← hf]; exact IntWalk.i64_in _ (by have := hg.b1; have := hg.l2; have := hg.b0; have := hg.cap; have := hg.s0; have := hg.s1; omega)
  have hb : f + R = B.data.length := by have := hg.s0; have := hg.s1; unfold writtenF at hR; omega
  have hl9 : B.data.length ≤ 8192 := by have := hg.cap; have := hg.l2; omega
  have HI0 := Lib.hid (h.own.below H0)
  have FRM := Lib.hid (fun w2 hI => frame_any b (Own w F) B f f w2 hI hg (by omega) (by omega))
  rw [h2] at OP
  subst h1
  have HA := Lib.hid h
  obtain ⟨vd, vs, h⟩ := h
  have R1 := (h.below H0).facts
  obtain ⟨c0, c1, c2, c3, c4, c5, c6, fr⟩ := R1
  clear c0 c2 c3 c5 c6 fr hR hf h hg
  generalize writtenF B = wn at *
  generalize (runF B most).1 = x at *
  generalize (runF B most).2 = y at *
  go_enter Try.func16, Try.ntmps16
  go_wp2_with (go_at_call 30; refine RN.out.mono ?_; rintro e w1 ⟨rfl, rfl⟩)
  go_quiet ((go_at_call 20; exact Calls.quiet_of (WR.out _)))
  go_wp2
  go_quiet (fail)
  go_wp2_with (first | (go_at_call 32; refine (OP.out _).mono ?_; rintro e w2 ⟨rfl, rfl⟩) | (go_at_call 31; refine (FRM.out _ (HI0.out.drewN _)).mono ?_; rintro e w2 ⟨rfl, hC, hI⟩; have GL := Lib.hid (next_glue2 (belowN H0 _) HZ.out HQ.out hC hI)) | (refine wpList_store_row rfl 35 _ _ rfl w.heap.size _ rfl rfl 35 _ GL.out.1 (size35 _) rfl (one35 _ _ _ _) ?_))
  refine bodyPost_ret (results_cell_tmp rfl _ _ w.heap.size 35 (frameR B f f).cells (0, 0) _ rfl (setRow_heap _ _ _ _ 35 _ GL.out.1) Try.underlying35 rfl (size35 _)) rfl ⟨?_, GL.out.2 _⟩
  rfl
set_option maxHeartbeats 8000000 in
theorem next_shut0 (b : Nat) (F : Nat → Prop) (B : Bf) (most credit : Int) (w : World) (h : Inv w b F B) (hg : Good B) (hm : most = 0) (R f : Nat) (hR : writtenF B - B.sent = R) (hf : B.sent - B.base = f) (h1 : R = 0) (h2 : openF B = false) :
    Calls Try.prog 16 #[.pointer (some ⟨b, 0, none⟩), .int .i64 most, .int .i64 credit] w (NextPost b F B none w) := by
  have H0 : Below w.heap.size w (w.alloc (.cells fr0.cells 35)) := (Below.refl _ w).alloc (Nat.le_refl _) _
  have HQ := Lib.hid (heap_alloc_new w (.cells fr0.cells 35))
  have HZ : Hid ((w.alloc (.cells fr0.cells 35)).heap.size = w.heap.size + 1) := Lib.hid (by simp)
  have RN := Lib.hid (run_any b F B most (w.alloc (.cells fr0.cells 35)) (h.below H0) hg)
  have WR := Lib.hid (fun k => written_any b F B ((w.alloc (.cells fr0.cells 35)).drewN k) ((h.below H0).drewN k) hg)
  have OP := Lib.hid (fun k => open_any b F B ((w.alloc (.cells fr0.cells 35)).drewN k) ((h.below H0).drewN k))
  have hw1 : IntKind.i64.wrap (writtenF B - B.sent) = (R : Int) := by rw [← hR]; exact IntWalk.i64_in _ (by have := hg.b1; have := hg.l2; have := hg.b0; have := hg.cap; have := hg.s0; have := hg.s1; unfold writtenF; omega)
  have hw2 : IntKind.i64.wrap (B.sent - B.base) = (f : Int) := by rw [← hf]; exact IntWalk.i64_in _ (by have := hg.b1; have := hg.l2; have := hg.b0; have := hg.cap; have := hg.s0; have := hg.s1; omega)
  have hb : f + R = B.data.length := by have := hg.s0; have := hg.s1; unfold writtenF at hR; omega
  have hl9 : B.data.length ≤ 8192 := by have := hg.cap; have := hg.l2; omega
  have HI0 := Lib.hid (h.own.below H0)
  have HQK : Hid (∀ k, ((w.alloc (.cells fr0.cells 35)).drewN k).heap[w.heap.size]? = some (.cells fr0.cells 35 (0, 0))) := Lib.hid (fun _ => HQ.out)
  have NG : Hid (∀ k cs, Chg F w (((w.alloc (.cells fr0.cells 35)).drewN k).setRow w.heap.size cs) ∧ Inv (((w.alloc (.cells fr0.cells 35)).drewN k).setRow w.heap.size cs) b (Ext F w (((w.alloc (.cells fr0.cells 35)).drewN k).setRow w.heap.size cs)) B) := Lib.hid (fun k cs => (next_glue2 (o := .cells fr0.cells 35) (belowN H0 k) HZ.out HQ.out (Chg.refl _ _) ((HI0.out.drewN k).ext (fun j hj => .inl hj))).2 cs)
  rw [h2] at OP
  subst h1
  have HA := Lib.hid h
  obtain ⟨vd, vs, h⟩ := h
  have R1 := (h.below H0).facts
  obtain ⟨c0, c1, c2, c3, c4, c5, c6, fr⟩ := R1
  clear c0 c2 c3 c5 c6 fr hR hf h hg
  generalize writtenF B = wn at *
  subst hm
  go_enter Try.func16, Try.ntmps16
  go_wp2
  change Code.wp _ _ _ _ (w.alloc (.cells fr0.cells 35))
  go_quiet ((go_at_call 20; exact Calls.quiet_of (WR.out _)))
  go_wp2
  go_quiet (fail)
  go_wp2_with (first | (go_at_call 32; refine (OP.out _).mono ?_; rintro e w2 ⟨rfl, rfl⟩) | (refine wpList_store_row rfl 35 _ _ rfl w.heap.size fr0.cells rfl rfl 35 _ (HQK.out _) (size35 fr0) rfl (one35 0 0 ⟨#[]⟩ false) ?_))
  refine bodyPost_ret (results_cell_tmp rfl _ _ w.heap.size 35 fr0.cells (0, 0) _ rfl (setRow_heap _ _ _ _ 35 _ (HQK.out _)) Try.underlying35 rfl (size35 _)) rfl ⟨?_, NG.out _ _⟩
  rfl
set_option maxHeartbeats 8000000 in
theorem next_shut1 (b : Nat) (F : Nat → Prop) (B : Bf) (most credit : Int) (w : World) (h : Inv w b F B) (hg : Good B) (hm : 0 < most) (hft : ¬ ((runF B most).1 < (runF B most).2)) (R f : Nat) (hR : writtenF B - B.sent = R) (hf : B.sent - B.base = f) (h1 : R = 0) (h2 : openF B = false) :
    Calls Try.prog 16 #[.pointer (some ⟨b, 0, none⟩), .int .i64 most, .int .i64 credit] w (NextPost b F B none w) := by
  have H0 : Below w.heap.size w (w.alloc (.cells fr0.cells 35)) := (Below.refl _ w).alloc (Nat.le_refl _) _
  have HQ := Lib.hid (heap_alloc_new w (.cells fr0.cells 35))
  have HZ : Hid ((w.alloc (.cells fr0.cells 35)).heap.size = w.heap.size + 1) := Lib.hid (by simp)
  have RN := Lib.hid (run_any b F B most (w.alloc (.cells fr0.cells 35)) (h.below H0) hg)
  have WR := Lib.hid (fun k => written_any b F B ((w.alloc (.cells fr0.cells 35)).drewN k) ((h.below H0).drewN k) hg)
  have OP := Lib.hid (fun k => open_any b F B ((w.alloc (.cells fr0.cells 35)).drewN k) ((h.below H0).drewN k))
  have hw1 : IntKind.i64.wrap (writtenF B - B.sent) = (R : Int) := by rw [← hR]; exact IntWalk.i64_in _ (by have := hg.b1; have := hg.l2; have := hg.b0; have := hg.cap; have := hg.s0; have := hg.s1; unfold writtenF; omega)
  have hw2 : IntKind.i64.wrap (B.sent - B.base) = (f : Int) := by rw [← hf]; exact IntWalk.i64_in _ (by have := hg.b1; have := hg.l2; have := hg.b0; have := hg.cap; have := hg.s0; have := hg.s1; omega)
  have hb : f + R = B.data.length := by have := hg.s0; have := hg.s1; unfold writtenF at hR; omega
  have hl9 : B.data.length ≤ 8192 := by have := hg.cap; have := hg.l2; omega
  have HI0 := Lib.hid (h.own.below H0)
  have HQK : Hid (∀ k, ((w.alloc (.cells fr0.cells 35)).drewN k).heap[w.heap.size]? = some (.cells fr0.cells 35 (0, 0))) := Lib.hid (fun _ => HQ.out)
  have NG : Hid (∀ k cs, Chg F w (((w.alloc (.cells fr0.cells 35)).drewN k).setRow w.heap.size cs) ∧ Inv (((w.alloc (.cells fr0.cells 35)).drewN k).setRow w.heap.size cs) b (Ext F w (((w.alloc (.cells fr0.cells 35)).drewN k).setRow w.heap.size cs)) B) := Lib.hid (fun k cs => (next_glue2 (o := .cells fr0.cells 35) (belowN H0 k) HZ.out HQ.out (Chg.refl _ _) ((HI0.out.drewN k).ext (fun j hj => .inl hj))).2 cs)
  rw [h2] at OP
  subst h1
  have HA := Lib.hid h
  obtain ⟨vd, vs, h⟩ := h
  have R1 := (h.below H0).facts
  obtain ⟨c0, c1, c2, c3, c4, c5, c6, fr⟩ := R1
  clear c0 c2 c3 c5 c6 fr hR hf h hg
  generalize writtenF B = wn at *
  generalize (runF B most).1 = x at *
  generalize (runF B most).2 = y at *
  go_enter Try.func16, Try.ntmps16
  go_wp2_with (go_at_call 30; refine RN.out.mono ?_; rintro e w1 ⟨rfl, rfl⟩)
  go_quiet ((go_at_call 20; exact Calls.quiet_of (WR.out _)))
  go_wp2
  go_quiet (fail)
  go_wp2_with (first | (go_at_call 32; refine (OP.out _).mono ?_; rintro e w2 ⟨rfl, rfl⟩) | (refine wpList_store_row rfl 35 _ _ rfl w.heap.size fr0.cells rfl rfl 35 _ (HQK.out _) (size35 fr0) rfl (one35 0 0 ⟨#[]⟩ false) ?_))
  refine bodyPost_ret (results_cell_tmp rfl _ _ w.heap.size 35 fr0.cells (0, 0) _ rfl (setRow_heap _ _ _ _ 35 _ (HQK.out _)) Try.underlying35 rfl (size35 _)) rfl ⟨?_, NG.out _ _⟩
  rfl
set_option maxHeartbeats 8000000 in
theorem next_low0 (b : Nat) (F : Nat → Prop) (B : Bf) (most credit : Int) (w : World) (h : Inv w b F B) (hg : Good B) (hm : most = 0) (R f : Nat) (hR : writtenF B - B.sent = R) (hf : B.sent - B.base = f) (h1 : 0 < R) :
    Calls Try.prog 16 #[.pointer (some ⟨b, 0, none⟩), .int .i64 most, .int .i64 credit] w (NextPost b F B none w) := by
  have H0 : Below w.heap.size w (w.alloc (.cells fr0.cells 35)) := (Below.refl _ w).alloc (Nat.le_refl _) _
  have HQ := Lib.hid (heap_alloc_new w (.cells fr0.cells 35))
  have HZ : Hid ((w.alloc (.cells fr0.cells 35)).heap.size = w.heap.size + 1) := Lib.hid (by simp)
  have RN := Lib.hid (run_any b F B most (w.alloc (.cells fr0.cells 35)) (h.below H0) hg)
  have WR := Lib.hid (fun k => written_any b F B ((w.alloc (.cells fr0.cells 35)).drewN k) ((h.below H0).drewN k) hg)
  have OP := Lib.hid (fun k => open_any b F B ((w.alloc (.cells fr0.cells 35)).drewN k) ((h.below H0).drewN k))
  have hw1 : IntKind.i64.wrap (writtenF B - B.sent) = (R : Int) := by rw [← hR]; exact IntWalk.i64_in _ (by have := hg.b1; have := hg.l2; have := hg.b0; have := hg.cap; have := hg.s0; have := hg.s1; unfold writtenF; omega)
  have hw2 : IntKind.i64.wrap (B.sent - B.base) = (f : Int) := by rw [← hf]; exact IntWalk.i64_in _ (by have := hg.b1; have := hg.l2; have := hg.b0; have := hg.cap; have := hg.s0; have := hg.s1; omega)
  have hb : f + R = B.data.length := by have := hg.s0; have := hg.s1; unfold writtenF at hR; omega
  have hl9 : B.data.length ≤ 8192 := by have := hg.cap; have := hg.l2; omega
  have HI0 := Lib.hid (h.own.below H0)
  have HQK : Hid (∀ k, ((w.alloc (.cells fr0.cells 35)).drewN k).heap[w.heap.size]? = some (.cells fr0.cells 35 (0, 0))) := Lib.hid (fun _ => HQ.out)
  have NG : Hid (∀ k cs, Chg F w (((w.alloc (.cells fr0.cells 35)).drewN k).setRow w.heap.size cs) ∧ Inv (((w.alloc (.cells fr0.cells 35)).drewN k).setRow w.heap.size cs) b (Ext F w (((w.alloc (.cells fr0.cells 35)).drewN k).setRow w.heap.size cs)) B) := Lib.hid (fun k cs => (next_glue2 (o := .cells fr0.cells 35) (belowN H0 k) HZ.out HQ.out (Chg.refl _ _) ((HI0.out.drewN k).ext (fun j hj => .inl hj))).2 cs)
  have h1i : ¬ ((R : Int) = 0) := by omega
  have HA := Lib.hid h
  obtain ⟨vd, vs, h⟩ := h
  have R1 := (h.below H0).facts
  obtain ⟨c0, c1, c2, c3, c4, c5, c6, fr⟩ := R1
  clear c0 c2 c3 c5 c6 fr hR hf h hg
  generalize writtenF B = wn at *
  subst hm
  go_enter Try.func16, Try.ntmps16
  go_wp2
  change Code.wp _ _ _ _ (w.alloc (.cells fr0.cells 35))
  go_quiet ((go_at_call 20; exact Calls.quiet_of (WR.out _)))
  go_wp2
  go_quiet (fail)
  go_wp2_with (first | (refine wpList_store_row rfl 35 _ _ rfl w.heap.size fr0.cells rfl rfl 35 _ (HQK.out _) (size35 fr0) rfl (one35 0 0 ⟨#[]⟩ false) ?_))
  refine bodyPost_ret (results_cell_tmp rfl _ _ w.heap.size 35 fr0.cells (0, 0) _ rfl (setRow_heap _ _ _ _ 35 _ (HQK.out _)) Try.underlying35 rfl (size35 _)) rfl ⟨?_, NG.out _ _⟩
  rfl
set_option maxHeartbeats 8000000 in
theorem next_low1 (b : Nat) (F : Nat → Prop) (B : Bf) (most credit : Int) (w : World) (h : Inv w b F B) (hg : Good B) (hm : 0 < most) (hft : ¬ ((runF B most).1 < (runF B most).2)) (R f : Nat) (hR : writtenF B - B.sent = R) (hf : B.sent - B.base = f) (h1 : 0 < R) (h3 : ¬ (0 < credit)) :
    Calls Try.prog 16 #[.pointer (some ⟨b, 0, none⟩), .int .i64 most, .int .i64 credit] w (NextPost b F B none w) := by
  have H0 : Below w.heap.size w (w.alloc (.cells fr0.cells 35)) := (Below.refl _ w).alloc (Nat.le_refl _) _
  have HQ := Lib.hid (heap_alloc_new w (.cells fr0.cells 35))
  have HZ : Hid ((w.alloc (.cells fr0.cells 35)).heap.size = w.heap.size + 1) := Lib.hid (by simp)
  have RN := Lib.hid (run_any b F B most (w.alloc (.cells fr0.cells 35)) (h.below H0) hg)
  have WR := Lib.hid (fun k => written_any b F B ((w.alloc (.cells fr0.cells 35)).drewN k) ((h.below H0).drewN k) hg)
  have OP := Lib.hid (fun k => open_any b F B ((w.alloc (.cells fr0.cells 35)).drewN k) ((h.below H0).drewN k))
  have hw1 : IntKind.i64.wrap (writtenF B - B.sent) = (R : Int) := by rw [← hR]; exact IntWalk.i64_in _ (by have := hg.b1; have := hg.l2; have := hg.b0; have := hg.cap; have := hg.s0; have := hg.s1; unfold writtenF; omega)
  have hw2 : IntKind.i64.wrap (B.sent - B.base) = (f : Int) := by rw [← hf]; exact IntWalk.i64_in _ (by have := hg.b1; have := hg.l2; have := hg.b0; have := hg.cap; have := hg.s0; have := hg.s1; omega)
  have hb : f + R = B.data.length := by have := hg.s0; have := hg.s1; unfold writtenF at hR; omega
  have hl9 : B.data.length ≤ 8192 := by have := hg.cap; have := hg.l2; omega
  have HI0 := Lib.hid (h.own.below H0)
  have HQK : Hid (∀ k, ((w.alloc (.cells fr0.cells 35)).drewN k).heap[w.heap.size]? = some (.cells fr0.cells 35 (0, 0))) := Lib.hid (fun _ => HQ.out)
  have NG : Hid (∀ k cs, Chg F w (((w.alloc (.cells fr0.cells 35)).drewN k).setRow w.heap.size cs) ∧ Inv (((w.alloc (.cells fr0.cells 35)).drewN k).setRow w.heap.size cs) b (Ext F w (((w.alloc (.cells fr0.cells 35)).drewN k).setRow w.heap.size cs)) B) := Lib.hid (fun k cs => (next_glue2 (o := .cells fr0.cells 35) (belowN H0 k) HZ.out HQ.out (Chg.refl _ _) ((HI0.out.drewN k).ext (fun j hj => .inl hj))).2 cs)
  have h1i : ¬ ((R : Int) = 0) := by omega
  have HA := Lib.hid h
  obtain ⟨vd, vs, h⟩ := h
  have R1 := (h.below H0).facts
  obtain ⟨c0, c1, c2, c3, c4, c5, c6, fr⟩ := R1
  clear c0 c2 c3 c5 c6 fr hR hf h hg
  generalize writtenF B = wn at *
  generalize (runF B most).1 = x at *
  generalize (runF B most).2 = y at *
  go_enter Try.func16, Try.ntmps16
  go_wp2_with (go_at_call 30; refine RN.out.mono ?_; rintro e w1 ⟨rfl, rfl⟩)
  go_quiet ((go_at_call 20; exact Calls.quiet_of (WR.out _)))
  go_wp2
  go_quiet (fail)
  go_wp2_with (first | (refine wpList_store_row rfl 35 _ _ rfl w.heap.size fr0.cells rfl rfl 35 _ (HQK.out _) (size35 fr0) rfl (one35 0 0 ⟨#[]⟩ false) ?_))
  refine bodyPost_ret (results_cell_tmp rfl _ _ w.heap.size 35 fr0.cells (0, 0) _ rfl (setRow_heap _ _ _ _ 35 _ (HQK.out _)) Try.underlying35 rfl (size35 _)) rfl ⟨?_, NG.out _ _⟩
  rfl
theorem next_any (b : Nat) (F : Nat → Prop) (B : Bf) (most credit : Int) (w : World) (h : Inv w b F B) (hg : Good B) :
    Calls Try.prog 16 #[.pointer (some ⟨b, 0, none⟩), .int .i64 most, .int .i64 credit] w (NextPost b F B (nextP B most credit) w) := by
  have hrb := runF_bound B most
  have e1 := hg.s0
  have e2 := hg.s1
  unfold nextP
  by_cases hm : most < 0
  · rw [if_pos hm]
    exact next_neg b F B most credit w h hm
  · rw [if_neg hm]
    by_cases hr : 0 < most ∧ (runF B most).1 < (runF B most).2
    · rw [if_pos hr]
      exact next_run b F B most credit w h hg hr.1 _ _ (by omega) (by omega) (by omega)
    · rw [if_neg hr]
      obtain ⟨R, hR⟩ : ∃ R : Nat, writtenF B - B.sent = R := ⟨(writtenF B - B.sent).toNat, by unfold writtenF; omega⟩
      obtain ⟨f, hf⟩ : ∃ f : Nat, B.sent - B.base = f := ⟨(B.sent - B.base).toNat, by omega⟩
      by_cases hn : 0 < writtenF B - B.sent ∧ 0 < most ∧ 0 < credit
      · rw [if_pos hn]
        obtain ⟨n, hn2⟩ : ∃ n : Nat, min (R : Int) (min most credit) = n := ⟨(min (R : Int) (min most credit)).toNat, by omega⟩
        have := next_new b F B most credit w h hg hn.2.1 (by omega) R f hR hf n hn2 (by omega) hn.2.2
        rw [hR, hf, hn2, show ((f : Int)).toNat = f from by omega, show ((f : Int) + (n : Int)).toNat = f + n from by omega]
        exact this
      · rw [if_neg hn]
        by_cases ho : writtenF B - B.sent = 0 ∧ openF B = true
        · rw [if_pos ho, hf, show ((f : Int)).toNat = f from by omega]
          by_cases h0 : most = 0
          · exact next_end0 b F B most credit w h hg h0 R f hR hf (by omega) ho.2
          · exact next_end1 b F B most credit w h hg (by omega) (by omega) R f hR hf (by omega) ho.2
        · rw [if_neg ho]
          by_cases hR0 : R = 0
          · have hop : openF B = false := by cases hc : openF B; rfl; exact absurd ⟨by omega, hc⟩ ho
            by_cases h0 : most = 0
            · exact next_shut0 b F B most credit w h hg h0 R f hR hf hR0 hop
            · exact next_shut1 b F B most credit w h hg (by omega) (by omega) R f hR hf hR0 hop
          · by_cases h0 : most = 0
            · exact next_low0 b F B most credit w h hg h0 R f hR hf (by omega)
            · exact next_low1 b F B most credit w h hg (by omega) (by omega) R f hR hf (by omega) (by omega)
end Go.Proofs.Ytmjekepiplibkaa
