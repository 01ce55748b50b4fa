/- Law 20: ParamsCompatibleOrder. -/
import Derived.Test.YtddfikijehmoiaaDoorRaiseMain
import Derived.Deep.RegionHeld3
import Derived.Deep.DeepCutAuto
namespace Go.Proofs.YtddfikijehmoiaaDoor.paramsCompatibleOrder
open Go.ChangeShapes Go.WideShapes Go.ChangeAt Go.RowKit
/-- three bytes -/
structure B3 where
  x : Int
  y : Int
  z : Int
def B3.cells (b : B3) : Array Value := #[.int .u8 b.x, .int .u8 b.y, .int .u8 b.z]
def B3.ok (b : B3) : Prop := (0 ≤ b.x ∧ b.x ≤ 255) ∧ (0 ≤ b.y ∧ b.y ≤ 255) ∧ (0 ≤ b.z ∧ b.z ≤ 255)
def PB (b : B3) : Pm := ⟨b.x % 4, b.x / 4 % 4, b.y % 4, b.y / 4 % 4, b.z % 21, 50 + b.z⟩
def row3 (p q r : Pm) : Array Value := (p.cells ++ q.cells) ++ r.cells
theorem rset0 (p q r n : Pm) : ((((((row3 p q r).setIfInBounds 0 (.int .i64 n.a)).setIfInBounds 1 (.int .i64 n.b)).setIfInBounds 2 (.int .i64 n.c)).setIfInBounds 3 (.int .i64 n.d)).setIfInBounds 4 (.int .i64 n.e)).setIfInBounds 5 (.int .i64 n.f) = row3 n q r := by
  unfold row3 Pm.cells
  simp
theorem rset1 (p q r n : Pm) : ((((((row3 p q r).setIfInBounds 6 (.int .i64 n.a)).setIfInBounds 7 (.int .i64 n.b)).setIfInBounds 8 (.int .i64 n.c)).setIfInBounds 9 (.int .i64 n.d)).setIfInBounds 10 (.int .i64 n.e)).setIfInBounds 11 (.int .i64 n.f) = row3 p n r := by
  unfold row3 Pm.cells
  simp
theorem rset2 (p q r n : Pm) : ((((((row3 p q r).setIfInBounds 12 (.int .i64 n.a)).setIfInBounds 13 (.int .i64 n.b)).setIfInBounds 14 (.int .i64 n.c)).setIfInBounds 15 (.int .i64 n.d)).setIfInBounds 16 (.int .i64 n.e)).setIfInBounds 17 (.int .i64 n.f) = row3 p q n := by
  unfold row3 Pm.cells
  simp
def rowK (a b c : B3) (k : Nat) : Array Value := row3 (if 0 < k then PB a else pZ) (if 1 < k then PB b else pZ) (if 2 < k then PB c else pZ)
theorem rowK0 (a b c : B3) : rowK a b c 0 = row3 pZ pZ pZ := rfl
theorem rowK1 (a b c : B3) : rowK a b c 1 = row3 (PB a) pZ pZ := rfl
theorem rowK2 (a b c : B3) : rowK a b c 2 = row3 (PB a) (PB b) pZ := rfl
theorem rowK3 (a b c : B3) : rowK a b c 3 = row3 (PB a) (PB b) (PB c) := rfl
theorem row18 {w : World} {g : Nat} {p q r : Pm} {T : TypeId} (h : w.heap[g]? = some (.cells (row3 p q r) T (0, 0))) : w.cell? ⟨g, 0, none⟩ = some (.int .i64 p.a) ∧ w.cell? ⟨g, 1, none⟩ = some (.int .i64 p.b) ∧ w.cell? ⟨g, 2, none⟩ = some (.int .i64 p.c) ∧ w.cell? ⟨g, 3, none⟩ = some (.int .i64 p.d) ∧ w.cell? ⟨g, 4, none⟩ = some (.int .i64 p.e) ∧ w.cell? ⟨g, 5, none⟩ = some (.int .i64 p.f) ∧ w.cell? ⟨g, 6, none⟩ = some (.int .i64 q.a) ∧ w.cell? ⟨g, 7, none⟩ = some (.int .i64 q.b) ∧ w.cell? ⟨g, 8, none⟩ = some (.int .i64 q.c) ∧ w.cell? ⟨g, 9, none⟩ = some (.int .i64 q.d) ∧ w.cell? ⟨g, 10, none⟩ = some (.int .i64 q.e) ∧ w.cell? ⟨g, 11, none⟩ = some (.int .i64 q.f) ∧ w.cell? ⟨g, 12, none⟩ = some (.int .i64 r.a) ∧ w.cell? ⟨g, 13, none⟩ = some (.int .i64 r.b) ∧ w.cell? ⟨g, 14, none⟩ = some (.int .i64 r.c) ∧ w.cell? ⟨g, 15, none⟩ = some (.int .i64 r.d) ∧ w.cell? ⟨g, 16, none⟩ = some (.int .i64 r.e) ∧ w.cell? ⟨g, 17, none⟩ = some (.int .i64 r.f) := by
  refine ⟨?_, ?_, ?_, ?_, ?_, ?_, ?_, ?_, ?_, ?_, ?_, ?_, ?_, ?_, ?_, ?_, ?_, ?_⟩ <;> (rw [cell_whole h]; unfold row3 Pm.cells; simp)
theorem row9 {w : World} {g : Nat} {a b c : B3} {T : TypeId} (h : w.heap[g]? = some (.cells (a.cells ++ b.cells ++ c.cells) T (0, 0))) : w.cell? ⟨g, 0, none⟩ = some (.int .u8 a.x) ∧ w.cell? ⟨g, 1, none⟩ = some (.int .u8 a.y) ∧ w.cell? ⟨g, 2, none⟩ = some (.int .u8 a.z) ∧ w.cell? ⟨g, 3, none⟩ = some (.int .u8 b.x) ∧ w.cell? ⟨g, 4, none⟩ = some (.int .u8 b.y) ∧ w.cell? ⟨g, 5, none⟩ = some (.int .u8 b.z) ∧ w.cell? ⟨g, 6, none⟩ = some (.int .u8 c.x) ∧ w.cell? ⟨g, 7, none⟩ = some (.int .u8 c.y) ∧ w.cell? ⟨g, 8, none⟩ = some (.int .u8 c.z) := by
  refine ⟨?_, ?_, ?_, ?_, ?_, ?_, ?_, ?_, ?_⟩ <;> (rw [cell_whole h]; unfold B3.cells; simp)
def OR (a b c : B3) (g : Nat) (k : Nat) (ad : Addr) (w wr : World) : Prop :=
  wr.heap[g]? = some (.cells (rowK a b c k) 38 (0, 0)) ∧ wr.heap[g + 1]? = some (.cells (a.cells ++ b.cells ++ c.cells) 37 (0, 0)) ∧ Laid ad wr ∧ Below w.heap.size w wr
theorem OR.below {a b c : B3} {g k : Nat} {ad : Addr} {w wr wq : World} (h : OR a b c g k ad w wr) (hb : Below wr.heap.size wr wq) : OR a b c g k ad w wq :=
  ⟨heap_below hb h.1, heap_below hb h.2.1, h.2.2.1.below hb, btrans h.2.2.2 hb⟩
theorem and3 (n : Int) (h0 : 0 ≤ n) (h1 : n ≤ 255) : bits .and .i64 n 3 = n % 4 := by
  have key : ∀ m : Fin 256, bits .and .i64 ((m.val : Nat) : Int) 3 = ((m.val : Nat) : Int) % 4 := by decide +kernel
  obtain ⟨m, rfl⟩ := Int.eq_ofNat_of_zero_le h0
  exact key ⟨m, by omega⟩
set_option maxRecDepth 100000 in
set_option maxHeartbeats 8000000 in
theorem walk (a b c : B3) (ha : a.ok) (hb : b.ok) (hc : c.ok) (ad : Addr) (w : World) (h : Laid ad w) :
    Calls Tryd.prog 5 #[.agg a.cells, .agg b.cells, .agg c.cells] w (LB (.bool true) ad w) := by
  have L0 := Lib.hid (((h.alloc (.cells a.cells 37)).alloc (.cells b.cells 37)).alloc (.cells c.cells 37))
  have B0 := Lib.hid ((((Below.refl _ w).alloc (Nat.le_refl _) (.cells a.cells 37)).alloc (by simp) (.cells b.cells 37)).alloc (by simp; omega) (.cells c.cells 37))
  have P0 := Lib.hid ((Below.heap_alloc ((w.alloc (.cells a.cells 37)).alloc (.cells b.cells 37)) (.cells c.cells 37) _ (heap_lt (rows2 w (.cells a.cells 37) (.cells b.cells 37)).1)).trans (rows2 w (.cells a.cells 37) (.cells b.cells 37)).1)
  have P1 := Lib.hid (rows2 (w.alloc (.cells a.cells 37)) (.cells b.cells 37) (.cells c.cells 37))
  unfold B3.ok at ha hb hc
  unfold B3.cells at *
  go_enter Tryd.func5, Tryd.ntmps5
  go_wp2_with fail
  refine (sane_any ad _ L0.out).mono ?_
  rintro e w1 ⟨rfl, hb, hl⟩
  have p0 := heap_below hb P0.out
  have p1 := heap_below hb P1.out.1
  have p2 := heap_below hb P1.out.2
  rw [World.size_alloc] at p1 p2
  have a0 : w1.cell? ⟨w.heap.size, 0, none⟩ = some (.int .u8 a.x) := by rw [cell_whole p0]; rfl
  have a1 : w1.cell? ⟨w.heap.size, 1, none⟩ = some (.int .u8 a.y) := by rw [cell_whole p0]; rfl
  have a2 : w1.cell? ⟨w.heap.size, 2, none⟩ = some (.int .u8 a.z) := by rw [cell_whole p0]; rfl
  have b0 : w1.cell? ⟨w.heap.size + 1, 0, none⟩ = some (.int .u8 b.x) := by rw [cell_whole p1]; rfl
  have b1 : w1.cell? ⟨w.heap.size + 1, 1, none⟩ = some (.int .u8 b.y) := by rw [cell_whole p1]; rfl
  have b2 : w1.cell? ⟨w.heap.size + 1, 2, none⟩ = some (.int .u8 b.z) := by rw [cell_whole p1]; rfl
  have c0 : w1.cell? ⟨w.heap.size + 1 + 1, 0, none⟩ = some (.int .u8 c.x) := by rw [cell_whole p2]; rfl
  have c1 : w1.cell? ⟨w.heap.size + 1 + 1, 1, none⟩ = some (.int .u8 c.y) := by rw [cell_whole p2]; rfl
  have c2 : w1.cell? ⟨w.heap.size + 1 + 1, 2, none⟩ = some (.int .u8 c.z) := by rw [cell_whole p2]; rfl
  have hq := heap_lt p2
  have hq1 : ¬ w.heap.size = w1.heap.size := by omega
  have hq2 : ¬ w.heap.size + 1 = w1.heap.size := by omega
  have hq3 : ¬ w.heap.size + 1 + 1 = w1.heap.size := by omega
  have hq4 : w.heap.size < w1.heap.size := by omega
  have hq5 : w.heap.size + 1 < w1.heap.size := by omega
  have hq6 : w.heap.size + 1 + 1 < w1.heap.size := by omega
  have LL := Lib.hid hl
  have BB := Lib.hid (btrans B0.out hb)
  clear hb hl p0 p1 p2 P0 P1 L0 B0
  go_wp2_with fail
  have HO : Hid (OR a b c w1.heap.size 0 ad w ((w1.alloc (.cells (rowK a b c 0) 38)).alloc (.cells (a.cells ++ b.cells ++ c.cells) 37))) := Lib.hid ⟨(rows2 w1 _ _).1, (rows2 w1 _ _).2, (LL.out.alloc _).alloc _, (BB.out.alloc BB.out.size _).alloc (by have := BB.out.size; simp; omega) _⟩
  have hg0 : 3 ≤ w1.heap.size ∧ w.heap.size ≤ w1.heap.size := by omega
  clear a0 a1 a2 b0 b1 b2 c0 c1 c2 hq hq1 hq2 hq3 hq4 hq5 hq6 LL BB
  go_loopw [22] (fun i wr => ∃ k : Nat, k ≤ 3 ∧ i = .int .i64 k ∧ OR a b c w1.heap.size k ad w wr) (fun i _ => 3 - (intOf i).toNat)
  case atStart => exact ⟨0, by omega, rfl, HO.out⟩
  case round =>
    obtain ⟨k, hk, rfl, hR⟩ := hrel
    clear HO
    generalize w1.heap.size = g at *
    have hlg := heap_lt hR.2.1
    have hlg0 := heap_lt hR.1
    have hng : ¬ g = wr.heap.size := by omega
    have hng2 : ¬ g + 1 = wr.heap.size := by omega
    have HR := Lib.hid hR
    by_cases hlt : k < 3
    · have hk3 : k = 0 ∨ k = 1 ∨ k = 2 := by omega
      rcases hk3 with rfl | rfl | rfl
      · show _
        all_goals
          obtain ⟨X0, X1, X2, X3, X4, X5, X6, X7, X8⟩ := row9 hR.2.1
          obtain ⟨Y0, Y1, Y2, Y3, Y4, Y5, Y6, Y7, Y8, Y9, Y10, Y11, Y12, Y13, Y14, Y15, Y16, Y17⟩ := row18 (hR.1.trans (congrArg (fun z => some (Obj.cells z 38 (0, 0))) (rowK0 a b c)))
          have x0 := X0
          have x1 := X1
          have x2 := X2
          have y0 : wr.cell? ⟨g, 0, none⟩ = some (.int .i64 0) := Y0
          have y1 : wr.cell? ⟨g, 1, none⟩ = some (.int .i64 0) := Y1
          have y2 : wr.cell? ⟨g, 2, none⟩ = some (.int .i64 0) := Y2
          have y3 : wr.cell? ⟨g, 3, none⟩ = some (.int .i64 0) := Y3
          have y4 : wr.cell? ⟨g, 4, none⟩ = some (.int .i64 0) := Y4
          have y5 : wr.cell? ⟨g, 5, none⟩ = some (.int .i64 0) := Y5
          clear X0 X1 X2 X3 X4 X5 X6 X7 X8 Y0 Y1 Y2 Y3 Y4 Y5 Y6 Y7 Y8 Y9 Y10 Y11 Y12 Y13 Y14 Y15 Y16 Y17
          have fr := fun j => frozen_whole hR.1 j
          have n1 := and3 a.x ha.1.1 ha.1.2
          have n2 := and3 (a.x / 4) (by omega) (by omega)
          have n3 := and3 a.y ha.2.1.1 ha.2.1.2
          have n4 := and3 (a.y / 4) (by omega) (by omega)
          have hv : vldP (PB a) = true := (vldP_iff _).2 (by unfold PB; dsimp; omega)
          have KC := Lib.hid (fun w h => kcomp (PB a) (PB a) true ((compB_iff _ _).2 ⟨hv, hv, Int.le_refl _, Int.le_refl _, Int.le_refl _, Int.le_refl _⟩) ad w h)
          unfold PB Pm.cells at KC
          obtain ⟨wq, hwq⟩ : ∃ wq, ((((((wr.setCell ⟨g, 0, none⟩ (.int .i64 (a.x % 4))).setCell ⟨g, 1, none⟩ (.int .i64 (a.x / 4 % 4))).setCell ⟨g, 2, none⟩ (.int .i64 (a.y % 4))).setCell ⟨g, 3, none⟩ (.int .i64 (a.y / 4 % 4))).setCell ⟨g, 4, none⟩ (.int .i64 (a.z % 21))).setCell ⟨g, 5, none⟩ (.int .i64 (50 + a.z))).alloc (.cells #[.int .u8 a.x, .int .u8 a.y, .int .u8 a.z] 37) = wq := ⟨_, rfl⟩
          have HQ1 : wq.heap[g]? = some (.cells (rowK a b c 1) 38 (0, 0)) := by
            have hh := ((((((((Blk.start HR.out.1).set 0 (.int .i64 (a.x % 4))).set 1 (.int .i64 (a.x / 4 % 4))).set 2 (.int .i64 (a.y % 4))).set 3 (.int .i64 (a.y / 4 % 4))).set 4 (.int .i64 (a.z % 21))).set 5 (.int .i64 (50 + a.z))).alloc (.cells a.cells 37)).1
            rw [rowK0] at hh
            rw [rowK1, ← rset0 _ _ _ (PB a)]
            rw [← hwq]
            exact hh
          have HQ : Hid (OR a b c g 1 ad w wq) := Lib.hid ⟨HQ1, by rw [← hwq]; exact (Below.heap_alloc _ _ _ (by simpa using hlg)).trans ((heap_setCell_other _ _ _ _ (by simp)).trans ((heap_setCell_other _ _ _ _ (by simp)).trans ((heap_setCell_other _ _ _ _ (by simp)).trans ((heap_setCell_other _ _ _ _ (by simp)).trans ((heap_setCell_other _ _ _ _ (by simp)).trans ((heap_setCell_other _ _ _ _ (by simp)).trans (HR.out.2.1))))))), by rw [← hwq]; exact (((((((HR.out.2.2.1).set _ _ _ (by omega)).set _ _ _ (by omega)).set _ _ _ (by omega)).set _ _ _ (by omega)).set _ _ _ (by omega)).set _ _ _ (by omega)).alloc _, by rw [← hwq]; exact (((((((HR.out.2.2.2).setCell (by dsimp; omega) _).setCell (by dsimp; omega) _).setCell (by dsimp; omega) _).setCell (by dsimp; omega) _).setCell (by dsimp; omega) _).setCell (by dsimp; omega) _).alloc (by have := HR.out.2.2.2.size; simp; omega) _⟩
          have HWQ := Lib.hid hwq
          clear hR hv HQ1 hwq
          go_wp2_with fail
          rw [HWQ.out]
          clear HWQ
          obtain ⟨Y0, Y1, Y2, Y3, Y4, Y5, Y6, Y7, Y8, Y9, Y10, Y11, Y12, Y13, Y14, Y15, Y16, Y17⟩ := row18 (HQ.out.1.trans (congrArg (fun z => some (Obj.cells z 38 (0, 0))) (rowK1 a b c)))
          have z0 : wq.cell? ⟨g, 0, none⟩ = some (.int .i64 (a.x % 4)) := Y0
          have z1 : wq.cell? ⟨g, 1, none⟩ = some (.int .i64 (a.x / 4 % 4)) := Y1
          have z2 : wq.cell? ⟨g, 2, none⟩ = some (.int .i64 (a.y % 4)) := Y2
          have z3 : wq.cell? ⟨g, 3, none⟩ = some (.int .i64 (a.y / 4 % 4)) := Y3
          have z4 : wq.cell? ⟨g, 4, none⟩ = some (.int .i64 (a.z % 21)) := Y4
          have z5 : wq.cell? ⟨g, 5, none⟩ = some (.int .i64 (50 + a.z)) := Y5
          clear Y0 Y1 Y2 Y3 Y4 Y5 Y6 Y7 Y8 Y9 Y10 Y11 Y12 Y13 Y14 Y15 Y16 Y17
          clear x0 x1 x2 y0 y1 y2 y3 y4 y5 fr n1 n2 n3 n4
          go_region_held3 (fun w' => w'.cell? ⟨g, 0, none⟩ = some (.int .i64 (a.x % 4)) ∧ w'.cell? ⟨g, 1, none⟩ = some (.int .i64 (a.x / 4 % 4)) ∧ w'.cell? ⟨g, 2, none⟩ = some (.int .i64 (a.y % 4)) ∧ w'.cell? ⟨g, 3, none⟩ = some (.int .i64 (a.y / 4 % 4)) ∧ w'.cell? ⟨g, 4, none⟩ = some (.int .i64 (a.z % 21)) ∧ w'.cell? ⟨g, 5, none⟩ = some (.int .i64 (50 + a.z))) (first | exact ⟨z0, z1, z2, z3, z4, z5⟩ | exact ⟨(hb5.cell (p := ⟨g, 0, none⟩) (heap_lt HQ.out.1)).trans z0, (hb5.cell (p := ⟨g, 1, none⟩) (heap_lt HQ.out.1)).trans z1, (hb5.cell (p := ⟨g, 2, none⟩) (heap_lt HQ.out.1)).trans z2, (hb5.cell (p := ⟨g, 3, none⟩) (heap_lt HQ.out.1)).trans z3, (hb5.cell (p := ⟨g, 4, none⟩) (heap_lt HQ.out.1)).trans z4, (hb5.cell (p := ⟨g, 5, none⟩) (heap_lt HQ.out.1)).trans z5⟩) (first
            | (go_at_call 14; refine (KC.out wq.drew HQ.out.2.2.1).mono ?_; rintro e w5 ⟨rfl, hb5, hl5⟩))
          go_wp2_with fail
          go_roundw
          case rel => exact ⟨0 + 1, by omega, by simp, HQ.out.below (((Below.refl _ wq).drew).trans hb5)⟩
          case measure => simp [intOf]
      · show _
        all_goals
          obtain ⟨X0, X1, X2, X3, X4, X5, X6, X7, X8⟩ := row9 hR.2.1
          obtain ⟨Y0, Y1, Y2, Y3, Y4, Y5, Y6, Y7, Y8, Y9, Y10, Y11, Y12, Y13, Y14, Y15, Y16, Y17⟩ := row18 (hR.1.trans (congrArg (fun z => some (Obj.cells z 38 (0, 0))) (rowK1 a b c)))
          have x0 := X3
          have x1 := X4
          have x2 := X5
          have y0 : wr.cell? ⟨g, 6, none⟩ = some (.int .i64 0) := Y6
          have y1 : wr.cell? ⟨g, 7, none⟩ = some (.int .i64 0) := Y7
          have y2 : wr.cell? ⟨g, 8, none⟩ = some (.int .i64 0) := Y8
          have y3 : wr.cell? ⟨g, 9, none⟩ = some (.int .i64 0) := Y9
          have y4 : wr.cell? ⟨g, 10, none⟩ = some (.int .i64 0) := Y10
          have y5 : wr.cell? ⟨g, 11, none⟩ = some (.int .i64 0) := Y11
          clear X0 X1 X2 X3 X4 X5 X6 X7 X8 Y0 Y1 Y2 Y3 Y4 Y5 Y6 Y7 Y8 Y9 Y10 Y11 Y12 Y13 Y14 Y15 Y16 Y17
          have fr := fun j => frozen_whole hR.1 j
          have n1 := and3 b.x hb.1.1 hb.1.2
          have n2 := and3 (b.x / 4) (by omega) (by omega)
          have n3 := and3 b.y hb.2.1.1 hb.2.1.2
          have n4 := and3 (b.y / 4) (by omega) (by omega)
          have hv : vldP (PB b) = true := (vldP_iff _).2 (by unfold PB; dsimp; omega)
          have KC := Lib.hid (fun w h => kcomp (PB b) (PB b) true ((compB_iff _ _).2 ⟨hv, hv, Int.le_refl _, Int.le_refl _, Int.le_refl _, Int.le_refl _⟩) ad w h)
          unfold PB Pm.cells at KC
          obtain ⟨wq, hwq⟩ : ∃ wq, ((((((wr.setCell ⟨g, 6, none⟩ (.int .i64 (b.x % 4))).setCell ⟨g, 7, none⟩ (.int .i64 (b.x / 4 % 4))).setCell ⟨g, 8, none⟩ (.int .i64 (b.y % 4))).setCell ⟨g, 9, none⟩ (.int .i64 (b.y / 4 % 4))).setCell ⟨g, 10, none⟩ (.int .i64 (b.z % 21))).setCell ⟨g, 11, none⟩ (.int .i64 (50 + b.z))).alloc (.cells #[.int .u8 b.x, .int .u8 b.y, .int .u8 b.z] 37) = wq := ⟨_, rfl⟩
          have HQ1 : wq.heap[g]? = some (.cells (rowK a b c 2) 38 (0, 0)) := by
            have hh := ((((((((Blk.start HR.out.1).set 6 (.int .i64 (b.x % 4))).set 7 (.int .i64 (b.x / 4 % 4))).set 8 (.int .i64 (b.y % 4))).set 9 (.int .i64 (b.y / 4 % 4))).set 10 (.int .i64 (b.z % 21))).set 11 (.int .i64 (50 + b.z))).alloc (.cells b.cells 37)).1
            rw [rowK1] at hh
            rw [rowK2, ← rset1 _ _ _ (PB b)]
            rw [← hwq]
            exact hh
          have HQ : Hid (OR a b c g 2 ad w wq) := Lib.hid ⟨HQ1, by rw [← hwq]; exact (Below.heap_alloc _ _ _ (by simpa using hlg)).trans ((heap_setCell_other _ _ _ _ (by simp)).trans ((heap_setCell_other _ _ _ _ (by simp)).trans ((heap_setCell_other _ _ _ _ (by simp)).trans ((heap_setCell_other _ _ _ _ (by simp)).trans ((heap_setCell_other _ _ _ _ (by simp)).trans ((heap_setCell_other _ _ _ _ (by simp)).trans (HR.out.2.1))))))), by rw [← hwq]; exact (((((((HR.out.2.2.1).set _ _ _ (by omega)).set _ _ _ (by omega)).set _ _ _ (by omega)).set _ _ _ (by omega)).set _ _ _ (by omega)).set _ _ _ (by omega)).alloc _, by rw [← hwq]; exact (((((((HR.out.2.2.2).setCell (by dsimp; omega) _).setCell (by dsimp; omega) _).setCell (by dsimp; omega) _).setCell (by dsimp; omega) _).setCell (by dsimp; omega) _).setCell (by dsimp; omega) _).alloc (by have := HR.out.2.2.2.size; simp; omega) _⟩
          have HWQ := Lib.hid hwq
          clear hR hv HQ1 hwq
          go_wp2_with fail
          rw [HWQ.out]
          clear HWQ
          obtain ⟨Y0, Y1, Y2, Y3, Y4, Y5, Y6, Y7, Y8, Y9, Y10, Y11, Y12, Y13, Y14, Y15, Y16, Y17⟩ := row18 (HQ.out.1.trans (congrArg (fun z => some (Obj.cells z 38 (0, 0))) (rowK2 a b c)))
          have z0 : wq.cell? ⟨g, 6, none⟩ = some (.int .i64 (b.x % 4)) := Y6
          have z1 : wq.cell? ⟨g, 7, none⟩ = some (.int .i64 (b.x / 4 % 4)) := Y7
          have z2 : wq.cell? ⟨g, 8, none⟩ = some (.int .i64 (b.y % 4)) := Y8
          have z3 : wq.cell? ⟨g, 9, none⟩ = some (.int .i64 (b.y / 4 % 4)) := Y9
          have z4 : wq.cell? ⟨g, 10, none⟩ = some (.int .i64 (b.z % 21)) := Y10
          have z5 : wq.cell? ⟨g, 11, none⟩ = some (.int .i64 (50 + b.z)) := Y11
          clear Y0 Y1 Y2 Y3 Y4 Y5 Y6 Y7 Y8 Y9 Y10 Y11 Y12 Y13 Y14 Y15 Y16 Y17
          clear x0 x1 x2 y0 y1 y2 y3 y4 y5 fr n1 n2 n3 n4
          go_region_held3 (fun w' => w'.cell? ⟨g, 6, none⟩ = some (.int .i64 (b.x % 4)) ∧ w'.cell? ⟨g, 7, none⟩ = some (.int .i64 (b.x / 4 % 4)) ∧ w'.cell? ⟨g, 8, none⟩ = some (.int .i64 (b.y % 4)) ∧ w'.cell? ⟨g, 9, none⟩ = some (.int .i64 (b.y / 4 % 4)) ∧ w'.cell? ⟨g, 10, none⟩ = some (.int .i64 (b.z % 21)) ∧ w'.cell? ⟨g, 11, none⟩ = some (.int .i64 (50 + b.z))) (first | exact ⟨z0, z1, z2, z3, z4, z5⟩ | exact ⟨(hb5.cell (p := ⟨g, 6, none⟩) (heap_lt HQ.out.1)).trans z0, (hb5.cell (p := ⟨g, 7, none⟩) (heap_lt HQ.out.1)).trans z1, (hb5.cell (p := ⟨g, 8, none⟩) (heap_lt HQ.out.1)).trans z2, (hb5.cell (p := ⟨g, 9, none⟩) (heap_lt HQ.out.1)).trans z3, (hb5.cell (p := ⟨g, 10, none⟩) (heap_lt HQ.out.1)).trans z4, (hb5.cell (p := ⟨g, 11, none⟩) (heap_lt HQ.out.1)).trans z5⟩) (first
            | (go_at_call 14; refine (KC.out wq.drew HQ.out.2.2.1).mono ?_; rintro e w5 ⟨rfl, hb5, hl5⟩))
          go_wp2_with fail
          go_roundw
          case rel => exact ⟨1 + 1, by omega, by simp, HQ.out.below (((Below.refl _ wq).drew).trans hb5)⟩
          case measure => simp [intOf]
      · show _
        all_goals
          obtain ⟨X0, X1, X2, X3, X4, X5, X6, X7, X8⟩ := row9 hR.2.1
          obtain ⟨Y0, Y1, Y2, Y3, Y4, Y5, Y6, Y7, Y8, Y9, Y10, Y11, Y12, Y13, Y14, Y15, Y16, Y17⟩ := row18 (hR.1.trans (congrArg (fun z => some (Obj.cells z 38 (0, 0))) (rowK2 a b c)))
          have x0 := X6
          have x1 := X7
          have x2 := X8
          have y0 : wr.cell? ⟨g, 12, none⟩ = some (.int .i64 0) := Y12
          have y1 : wr.cell? ⟨g, 13, none⟩ = some (.int .i64 0) := Y13
          have y2 : wr.cell? ⟨g, 14, none⟩ = some (.int .i64 0) := Y14
          have y3 : wr.cell? ⟨g, 15, none⟩ = some (.int .i64 0) := Y15
          have y4 : wr.cell? ⟨g, 16, none⟩ = some (.int .i64 0) := Y16
          have y5 : wr.cell? ⟨g, 17, none⟩ = some (.int .i64 0) := Y17
          clear X0 X1 X2 X3 X4 X5 X6 X7 X8 Y0 Y1 Y2 Y3 Y4 Y5 Y6 Y7 Y8 Y9 Y10 Y11 Y12 Y13 Y14 Y15 Y16 Y17
          have fr := fun j => frozen_whole hR.1 j
          have n1 := and3 c.x hc.1.1 hc.1.2
          have n2 := and3 (c.x / 4) (by omega) (by omega)
          have n3 := and3 c.y hc.2.1.1 hc.2.1.2
          have n4 := and3 (c.y / 4) (by omega) (by omega)
          have hv : vldP (PB c) = true := (vldP_iff _).2 (by unfold PB; dsimp; omega)
          have KC := Lib.hid (fun w h => kcomp (PB c) (PB c) true ((compB_iff _ _).2 ⟨hv, hv, Int.le_refl _, Int.le_refl _, Int.le_refl _, Int.le_refl _⟩) ad w h)
          unfold PB Pm.cells at KC
          obtain ⟨wq, hwq⟩ : ∃ wq, ((((((wr.setCell ⟨g, 12, none⟩ (.int .i64 (c.x % 4))).setCell ⟨g, 13, none⟩ (.int .i64 (c.x / 4 % 4))).setCell ⟨g, 14, none⟩ (.int .i64 (c.y % 4))).setCell ⟨g, 15, none⟩ (.int .i64 (c.y / 4 % 4))).setCell ⟨g, 16, none⟩ (.int .i64 (c.z % 21))).setCell ⟨g, 17, none⟩ (.int .i64 (50 + c.z))).alloc (.cells #[.int .u8 c.x, .int .u8 c.y, .int .u8 c.z] 37) = wq := ⟨_, rfl⟩
          have HQ1 : wq.heap[g]? = some (.cells (rowK a b c 3) 38 (0, 0)) := by
            have hh := ((((((((Blk.start HR.out.1).set 12 (.int .i64 (c.x % 4))).set 13 (.int .i64 (c.x / 4 % 4))).set 14 (.int .i64 (c.y % 4))).set 15 (.int .i64 (c.y / 4 % 4))).set 16 (.int .i64 (c.z % 21))).set 17 (.int .i64 (50 + c.z))).alloc (.cells c.cells 37)).1
            rw [rowK2] at hh
            rw [rowK3, ← rset2 _ _ _ (PB c)]
            rw [← hwq]
            exact hh
          have HQ : Hid (OR a b c g 3 ad w wq) := Lib.hid ⟨HQ1, by rw [← hwq]; exact (Below.heap_alloc _ _ _ (by simpa using hlg)).trans ((heap_setCell_other _ _ _ _ (by simp)).trans ((heap_setCell_other _ _ _ _ (by simp)).trans ((heap_setCell_other _ _ _ _ (by simp)).trans ((heap_setCell_other _ _ _ _ (by simp)).trans ((heap_setCell_other _ _ _ _ (by simp)).trans ((heap_setCell_other _ _ _ _ (by simp)).trans (HR.out.2.1))))))), by rw [← hwq]; exact (((((((HR.out.2.2.1).set _ _ _ (by omega)).set _ _ _ (by omega)).set _ _ _ (by omega)).set _ _ _ (by omega)).set _ _ _ (by omega)).set _ _ _ (by omega)).alloc _, by rw [← hwq]; exact (((((((HR.out.2.2.2).setCell (by dsimp; omega) _).setCell (by dsimp; omega) _).setCell (by dsimp; omega) _).setCell (by dsimp; omega) _).setCell (by dsimp; omega) _).setCell (by dsimp; omega) _).alloc (by have := HR.out.2.2.2.size; simp; omega) _⟩
          have HWQ := Lib.hid hwq
          clear hR hv HQ1 hwq
          go_wp2_with fail
          rw [HWQ.out]
          clear HWQ
          obtain ⟨Y0, Y1, Y2, Y3, Y4, Y5, Y6, Y7, Y8, Y9, Y10, Y11, Y12, Y13, Y14, Y15, Y16, Y17⟩ := row18 (HQ.out.1.trans (congrArg (fun z => some (Obj.cells z 38 (0, 0))) (rowK3 a b c)))
          have z0 : wq.cell? ⟨g, 12, none⟩ = some (.int .i64 (c.x % 4)) := Y12
          have z1 : wq.cell? ⟨g, 13, none⟩ = some (.int .i64 (c.x / 4 % 4)) := Y13
          have z2 : wq.cell? ⟨g, 14, none⟩ = some (.int .i64 (c.y % 4)) := Y14
          have z3 : wq.cell? ⟨g, 15, none⟩ = some (.int .i64 (c.y / 4 % 4)) := Y15
          have z4 : wq.cell? ⟨g, 16, none⟩ = some (.int .i64 (c.z % 21)) := Y16
          have z5 : wq.cell? ⟨g, 17, none⟩ = some (.int .i64 (50 + c.z)) := Y17
          clear Y0 Y1 Y2 Y3 Y4 Y5 Y6 Y7 Y8 Y9 Y10 Y11 Y12 Y13 Y14 Y15 Y16 Y17
          clear x0 x1 x2 y0 y1 y2 y3 y4 y5 fr n1 n2 n3 n4
          go_region_held3 (fun w' => w'.cell? ⟨g, 12, none⟩ = some (.int .i64 (c.x % 4)) ∧ w'.cell? ⟨g, 13, none⟩ = some (.int .i64 (c.x / 4 % 4)) ∧ w'.cell? ⟨g, 14, none⟩ = some (.int .i64 (c.y % 4)) ∧ w'.cell? ⟨g, 15, none⟩ = some (.int .i64 (c.y / 4 % 4)) ∧ w'.cell? ⟨g, 16, none⟩ = some (.int .i64 (c.z % 21)) ∧ w'.cell? ⟨g, 17, none⟩ = some (.int .i64 (50 + c.z))) (first | exact ⟨z0, z1, z2, z3, z4, z5⟩ | exact ⟨(hb5.cell (p := ⟨g, 12, none⟩) (heap_lt HQ.out.1)).trans z0, (hb5.cell (p := ⟨g, 13, none⟩) (heap_lt HQ.out.1)).trans z1, (hb5.cell (p := ⟨g, 14, none⟩) (heap_lt HQ.out.1)).trans z2, (hb5.cell (p := ⟨g, 15, none⟩) (heap_lt HQ.out.1)).trans z3, (hb5.cell (p := ⟨g, 16, none⟩) (heap_lt HQ.out.1)).trans z4, (hb5.cell (p := ⟨g, 17, none⟩) (heap_lt HQ.out.1)).trans z5⟩) (first
            | (go_at_call 14; refine (KC.out wq.drew HQ.out.2.2.1).mono ?_; rintro e w5 ⟨rfl, hb5, hl5⟩))
          go_wp2_with fail
          go_roundw
          case rel => exact ⟨2 + 1, by omega, by simp, HQ.out.below (((Below.refl _ wq).drew).trans hb5)⟩
          case measure => simp [intOf]
    · obtain rfl : k = 3 := by omega
      have hvA : vldP (PB a) = true := (vldP_iff _).2 (by unfold PB; dsimp; omega)
      have hvB : vldP (PB b) = true := (vldP_iff _).2 (by unfold PB; dsimp; omega)
      have hvC : vldP (PB c) = true := (vldP_iff _).2 (by unfold PB; dsimp; omega)
      have h18 := hR.1.trans (congrArg (fun z => some (Obj.cells z 38 (0, 0))) (rowK3 a b c))
      have hL := hR.2.2.1
      have hB := hR.2.2.2
      clear HR hR hlg hlg0 hng hng2 hg0 hlt hk ha hb hc
      generalize PB a = A at *
      generalize PB b = B at *
      generalize PB c = C at *
      have F1 := compB_iff A B
      have F2 := compB_iff B C
      have F3 := compB_iff A C
      have F4 := compB_iff B A
      have K1 := Lib.hid (fun w h => kcomp A B _ rfl ad w h)
      have K2 := Lib.hid (fun w h => kcomp B C _ rfl ad w h)
      have K3 := Lib.hid (fun w h => kcomp A C _ rfl ad w h)
      have K4 := Lib.hid (fun w h => kcomp B A _ rfl ad w h)
      unfold Pm.cells at K1 K2 K3 K4
      generalize compB A B = x at *
      generalize compB B C = y at *
      generalize compB A C = z at *
      generalize compB B A = v at *
      have T : x = true → y = true → z = true := fun h1 h2 => F3.2 ⟨hvA, hvC, by have := F1.1 h1; have := F2.1 h2; omega, by have := F1.1 h1; have := F2.1 h2; omega, by have := F1.1 h1; have := F2.1 h2; omega, by have := F1.1 h1; have := F2.1 h2; omega⟩
      have HT := Lib.hid T
      have R1 : (A.a = B.a ∧ A.b = B.b ∧ A.c = B.c ∧ A.d = B.d) → x = true ∧ v = true := fun h => ⟨F1.2 ⟨hvA, hvB, by omega, by omega, by omega, by omega⟩, F4.2 ⟨hvB, hvA, by omega, by omega, by omega, by omega⟩⟩
      have R2 : x = true → v = true → (A.a = B.a ∧ A.b = B.b ∧ A.c = B.c ∧ A.d = B.d) := fun h1 h2 => by have := F1.1 h1; have := F4.1 h2; omega
      have HR1 := Lib.hid R1
      have HR2 := Lib.hid R2
      have H18 := Lib.hid h18
      have HB := Lib.hid hB
      clear T R1 R2 F1 F2 F3 F4 hvA hvB hvC h18 hB
      obtain ⟨y0, y1, y2, y3, y4, y5, y6, y7, y8, y9, y10, y11, y12, y13, y14, y15, y16, y17⟩ := row18 H18.out
      go_wp2_with fail
      refine (K1.out _ hL).mono ?_
      rintro e w5 ⟨rfl, hb, hl⟩
      have H18b := Lib.hid (heap_below hb H18.out)
      have HBb := Lib.hid (btrans HB.out hb)
      clear y0 y1 y2 y3 y4 y5 y6 y7 y8 y9 y10 y11 y12 y13 y14 y15 y16 y17 hb hL
      obtain ⟨y0, y1, y2, y3, y4, y5, y6, y7, y8, y9, y10, y11, y12, y13, y14, y15, y16, y17⟩ := row18 H18b.out
      go_wp2_with fail
      refine (K2.out _ hl).mono ?_
      rintro e w6 ⟨rfl, hb, hl6⟩
      have H18c := Lib.hid (heap_below hb H18b.out)
      have HBc := Lib.hid (btrans HBb.out hb)
      clear y0 y1 y2 y3 y4 y5 y6 y7 y8 y9 y10 y11 y12 y13 y14 y15 y16 y17 hb hl
      obtain ⟨y0, y1, y2, y3, y4, y5, y6, y7, y8, y9, y10, y11, y12, y13, y14, y15, y16, y17⟩ := row18 H18c.out
      go_wp2_with fail
      refine (K3.out _ hl6).mono ?_
      rintro e w7 ⟨rfl, hb, hl7⟩
      have H18d := Lib.hid (heap_below hb H18c.out)
      have HBd := Lib.hid (btrans HBc.out hb)
      clear y0 y1 y2 y3 y4 y5 y6 y7 y8 y9 y10 y11 y12 y13 y14 y15 y16 y17 hb hl6
      obtain ⟨y0, y1, y2, y3, y4, y5, y6, y7, y8, y9, y10, y11, y12, y13, y14, y15, y16, y17⟩ := row18 H18d.out
      go_wp2_with fail
      refine (K4.out _ hl7).mono ?_
      rintro e w8 ⟨rfl, hb, hl8⟩
      have H18e := Lib.hid (heap_below hb H18d.out)
      have HBe := Lib.hid (btrans HBd.out hb)
      have HL8 := Lib.hid hl8
      clear y0 y1 y2 y3 y4 y5 y6 y7 y8 y9 y10 y11 y12 y13 y14 y15 y16 y17 hb hl7 hl8 K1 K2 K3 K4
      obtain ⟨y0, y1, y2, y3, y4, y5, y6, y7, y8, y9, y10, y11, y12, y13, y14, y15, y16, y17⟩ := row18 H18e.out
      have hq : (A.a ≠ B.a) ∨ (A.a = B.a ∧ A.b ≠ B.b) ∨ (A.a = B.a ∧ A.b = B.b ∧ A.c ≠ B.c) ∨ (A.a = B.a ∧ A.b = B.b ∧ A.c = B.c ∧ A.d ≠ B.d) ∨ (A.a = B.a ∧ A.b = B.b ∧ A.c = B.c ∧ A.d = B.d) := by omega
      rcases hq with q | q | q | q | q
      · have e0 : (A.a == B.a) = false := by simp; omega
        have R : (x && v) = false := by
          cases x <;> cases v <;> first | rfl | (exfalso; have := HR2.out rfl rfl; omega)
        have T := HT.out
        clear q HT HR1 HR2
        cases x <;> cases y <;> cases z <;> cases v <;> first | (exfalso; simp at R; done) | (exfalso; simp at T; done) | (clear R T; go_wp2_with fail; go_ret; exact ⟨rfl, HBe.out, HL8.out⟩)
      · have e0 : (A.a == B.a) = true := by simp; omega
        have e1 : (A.b == B.b) = false := by simp; omega
        have R : (x && v) = false := by
          cases x <;> cases v <;> first | rfl | (exfalso; have := HR2.out rfl rfl; omega)
        have T := HT.out
        clear q HT HR1 HR2
        cases x <;> cases y <;> cases z <;> cases v <;> first | (exfalso; simp at R; done) | (exfalso; simp at T; done) | (clear R T; go_wp2_with fail; go_ret; exact ⟨rfl, HBe.out, HL8.out⟩)
      · have e0 : (A.a == B.a) = true := by simp; omega
        have e1 : (A.b == B.b) = true := by simp; omega
        have e2 : (A.c == B.c) = false := by simp; omega
        have R : (x && v) = false := by
          cases x <;> cases v <;> first | rfl | (exfalso; have := HR2.out rfl rfl; omega)
        have T := HT.out
        clear q HT HR1 HR2
        cases x <;> cases y <;> cases z <;> cases v <;> first | (exfalso; simp at R; done) | (exfalso; simp at T; done) | (clear R T; go_wp2_with fail; go_ret; exact ⟨rfl, HBe.out, HL8.out⟩)
      · have e0 : (A.a == B.a) = true := by simp; omega
        have e1 : (A.b == B.b) = true := by simp; omega
        have e2 : (A.c == B.c) = true := by simp; omega
        have e3 : (A.d == B.d) = false := by simp; omega
        have R : (x && v) = false := by
          cases x <;> cases v <;> first | rfl | (exfalso; have := HR2.out rfl rfl; omega)
        have T := HT.out
        clear q HT HR1 HR2
        cases x <;> cases y <;> cases z <;> cases v <;> first | (exfalso; simp at R; done) | (exfalso; simp at T; done) | (clear R T; go_wp2_with fail; go_ret; exact ⟨rfl, HBe.out, HL8.out⟩)
      · have e0 : (A.a == B.a) = true := by simp; omega
        have e1 : (A.b == B.b) = true := by simp; omega
        have e2 : (A.c == B.c) = true := by simp; omega
        have e3 : (A.d == B.d) = true := by simp; omega
        have R : (x && v) = true := by rw [(HR1.out q).1, (HR1.out q).2]; rfl
        have T := HT.out
        clear q HT HR1 HR2
        cases x <;> cases y <;> cases z <;> cases v <;> first | (exfalso; simp at R; done) | (exfalso; simp at T; done) | (clear R T; go_wp2_with fail; go_ret; exact ⟨rfl, HBe.out, HL8.out⟩)
end Go.Proofs.YtddfikijehmoiaaDoor.paramsCompatibleOrder
