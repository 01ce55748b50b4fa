/- Law 20: the law's ParamsFrom. -/
import Derived.Test.YtddfikijehmoiaaDoorJ
import Derived.StillTailTactics
import Derived.Laws.CopyOwn
import Derived.Laws.Tables
namespace Go.Proofs.YtddfikijehmoiaaDoor
open Go.RowKit
def fromP (p : Pm) : Pm := ⟨pickF p.a 1073741825, pickF p.b 1073741825, pickF p.c 65, pickF p.d 65, pickF p.e 21, 50 + pickF p.f 99951⟩
/-- every field is an int -/
def Pm.ok (p : Pm) : Prop := ∀ x ∈ p.vals, -9223372036854775808 ≤ x ∧ x ≤ 9223372036854775807
theorem fromP_valid (p : Pm) : vldP (fromP p) = true := by
  have h1 := pickF_range p.a 1073741825 (by decide)
  have h2 := pickF_range p.b 1073741825 (by decide)
  have h3 := pickF_range p.c 65 (by decide)
  have h4 := pickF_range p.d 65 (by decide)
  have h5 := pickF_range p.e 21 (by decide)
  have h6 := pickF_range p.f 99951 (by decide)
  simp [vldP, items, fTab, fromP, Pm.vals, okI]
  omega
theorem zero23' : (∀ w, (zeroValue 23).run Tryd.prog w = .ok (.agg #[.int .i64 0, .int .i64 0, .int .i64 0, .int .i64 0, .int .i64 0, .int .i64 0]) w) ∧ (Tryd.prog.info? 23).map (·.size) = some 6 := zero_of_info (by kernel_rfl)
def FromPost (p : Pm) (w : World) (e : Ending) (w' : World) : Prop := e = .returned (.agg (fromP p).cells) ∧ Below w.heap.size w w'
set_option maxRecDepth 100000 in
set_option maxHeartbeats 4000000 in
theorem from_any (p : Pm) (w : World) (h : p.ok) : Calls Tryd.prog 9 #[.agg p.cells] w (FromPost p w) := by
  have e1 := h p.a (by simp [Pm.vals])
  have e2 := h p.b (by simp [Pm.vals])
  have e3 := h p.c (by simp [Pm.vals])
  have e4 := h p.d (by simp [Pm.vals])
  have e5 := h p.e (by simp [Pm.vals])
  have e6 := h p.f (by simp [Pm.vals])
  have P1 := Lib.hid (fun w => (pick_any p.a 1073741825 w e1.1 e1.2 (by decide) (by decide)).mono (fun e w' h => (⟨h.1, h.2.symm⟩ : e = _ ∧ w' = w)))
  have P2 := Lib.hid (fun w => (pick_any p.b 1073741825 w e2.1 e2.2 (by decide) (by decide)).mono (fun e w' h => (⟨h.1, h.2.symm⟩ : e = _ ∧ w' = w)))
  have P3 := Lib.hid (fun w => (pick_any p.c 65 w e3.1 e3.2 (by decide) (by decide)).mono (fun e w' h => (⟨h.1, h.2.symm⟩ : e = _ ∧ w' = w)))
  have P4 := Lib.hid (fun w => (pick_any p.d 65 w e4.1 e4.2 (by decide) (by decide)).mono (fun e w' h => (⟨h.1, h.2.symm⟩ : e = _ ∧ w' = w)))
  have P5 := Lib.hid (fun w => (pick_any p.e 21 w e5.1 e5.2 (by decide) (by decide)).mono (fun e w' h => (⟨h.1, h.2.symm⟩ : e = _ ∧ w' = w)))
  have P6 := Lib.hid (fun w => (pick_any p.f 99951 w e6.1 e6.2 (by decide) (by decide)).mono (fun e w' h => (⟨h.1, h.2.symm⟩ : e = _ ∧ w' = w)))
  have h6 := pickF_range p.f 99951 (by decide)
  have E : Hid ((fromP p).cells = #[.int .i64 (pickF p.a 1073741825), .int .i64 (pickF p.b 1073741825), .int .i64 (pickF p.c 65), .int .i64 (pickF p.d 65), .int .i64 (pickF p.e 21), .int .i64 (50 + pickF p.f 99951)]) := Lib.hid rfl
  generalize pickF p.a 1073741825 = x1 at *
  generalize pickF p.b 1073741825 = x2 at *
  generalize pickF p.c 65 = x3 at *
  generalize pickF p.d 65 = x4 at *
  generalize pickF p.e 21 = x5 at *
  generalize pickF p.f 99951 = x6 at *
  have hw : IntKind.i64.wrap (50 + x6) = 50 + x6 := IntWalk.i64_in _ (by omega)
  have n1 := heap_alloc_new w (.cells p.cells 23)
  have N2 : Hid (((w.alloc (.cells p.cells 23)).alloc (.cells #[.int .i64 0, .int .i64 0, .int .i64 0, .int .i64 0, .int .i64 0, .int .i64 0] 23)).heap[w.heap.size + 1]? = some (.cells #[.int .i64 0, .int .i64 0, .int .i64 0, .int .i64 0, .int .i64 0, .int .i64 0] 23 (0, 0))) := Lib.hid (by
    have := heap_alloc_new (w.alloc (.cells p.cells 23)) (.cells #[.int .i64 0, .int .i64 0, .int .i64 0, .int .i64 0, .int .i64 0, .int .i64 0] 23)
    rw [World.size_alloc] at this
    exact this)
  have N1 : Hid (((w.alloc (.cells p.cells 23)).alloc (.cells #[.int .i64 0, .int .i64 0, .int .i64 0, .int .i64 0, .int .i64 0, .int .i64 0] 23)).heap[w.heap.size]? = some (.cells p.cells 23 (0, 0))) := Lib.hid ((Below.heap_alloc _ _ _ (by simp)).trans n1)
  have HB : Hid (Below w.heap.size w ((w.alloc (.cells p.cells 23)).alloc (.cells #[.int .i64 0, .int .i64 0, .int .i64 0, .int .i64 0, .int .i64 0, .int .i64 0] 23))) := Lib.hid (((Below.refl _ w).alloc (Nat.le_refl _) _).alloc (by simp) _)
  clear e1 e2 e3 e4 e5 e6 h6 n1 h
  unfold Pm.cells at *
  go_enter Tryd.func9, Tryd.ntmps9
  go_wp2
  obtain ⟨w3, hw3⟩ : ∃ w3, ((w.alloc (.cells #[.int .i64 p.a, .int .i64 p.b, .int .i64 p.c, .int .i64 p.d, .int .i64 p.e, .int .i64 p.f] 23)).alloc (.cells #[.int .i64 0, .int .i64 0, .int .i64 0, .int .i64 0, .int .i64 0, .int .i64 0] 23)) = w3 := ⟨_, rfl⟩
  rw [hw3] at N1 N2 HB ⊢
  clear hw3
  obtain ⟨k0, k1, k2, k3, k4, k5⟩ := box6 (p := p) N1.out
  go_still_tail 20, (by kernel_rfl)
  repeat still_step
  still_call (P1.out _)
  repeat still_step
  still_call (P2.out _)
  repeat still_step
  still_call (P3.out _)
  repeat still_step
  still_call (P4.out _)
  repeat still_step
  still_call (P5.out _)
  repeat still_step
  still_call (P6.out _)
  repeat still_step
  refine wpStill_nil ?_
  change wpList _ _ _ _ _ w3.drew
  have H7 : Hid (w3.drew.heap[w.heap.size + 1]? = some (.cells #[.int .i64 0, .int .i64 0, .int .i64 0, .int .i64 0, .int .i64 0, .int .i64 0] 23 (0, 0))) := Lib.hid N2.out
  have H8 : Hid (Below w.heap.size w w3.drew) := Lib.hid HB.out.drew
  generalize w3.drew = w4 at *
  go_wp2_with (refine wpList_store_row rfl 23 _ _ rfl (w.heap.size + 1) _ rfl rfl 23 _ H7.out zero23'.2 rfl (by simp [Value.oneCell']) ?_)
  refine bodyPost_ret (results_cell_row rfl _ _ (w.heap.size + 1) 23 _ (0, 0) _ rfl (setRow_heap _ _ _ _ _ _ H7.out) Tryd.underlying23 rfl zero23'.2) rfl ⟨by rw [← E.out]; rfl, below_setRow H8.out (by omega) _⟩
end Go.Proofs.YtddfikijehmoiaaDoor
