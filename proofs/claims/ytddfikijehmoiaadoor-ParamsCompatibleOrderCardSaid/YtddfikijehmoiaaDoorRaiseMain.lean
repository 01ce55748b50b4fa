/- Law 20: ParamsCompatibleRaise. -/
import Derived.Test.YtddfikijehmoiaaDoorRoundMain
import Derived.Test.YtddfikijehmoiaaDoorLaidAt
namespace Go.Proofs.YtddfikijehmoiaaDoor
open Go.RowKit
theorem vldP_iff (p : Pm) : vldP p = true ↔ (0 ≤ p.a ∧ p.a ≤ 1073741824) ∧ (0 ≤ p.b ∧ p.b ≤ 1073741824) ∧ (0 ≤ p.c ∧ p.c ≤ 64) ∧ (0 ≤ p.d ∧ p.d ≤ 64) ∧ (0 ≤ p.e ∧ p.e ≤ 20) ∧ (50 ≤ p.f ∧ p.f ≤ 100000) := by
  simp [vldP, items, fTab, Pm.vals, okI]
theorem compB_iff (o p : Pm) : compB o p = true ↔ vldP o = true ∧ vldP p = true ∧ o.a ≤ p.a ∧ o.b ≤ p.b ∧ o.c ≤ p.c ∧ o.d ≤ p.d := by
  have e : (items p).all (okC o) = (decide (o.a ≤ p.a) && (decide (o.b ≤ p.b) && (decide (o.c ≤ p.c) && decide (o.d ≤ p.d)))) := by
    rw [Bool.eq_iff_iff]
    simp [items, fTab, Pm.vals, okC, oldv]
  unfold compB
  rw [e]
  simp
theorem kcomp (o p : Pm) (r : Bool) (hr : compB o p = r) (ad : Addr) (w : World) (h : Laid ad w) : Calls Tryd.prog 14 #[.agg o.cells, .agg p.cells] w (LB (.bool r) ad w) :=
  (comp_any o p ad w h).mono fun e w' ⟨a, b⟩ => ⟨a.trans (by rw [hr]), b, h.below b⟩
theorem rows2 (w : World) (o1 o2 : Obj) : ((w.alloc o1).alloc o2).heap[w.heap.size]? = some o1 ∧ ((w.alloc o1).alloc o2).heap[w.heap.size + 1]? = some o2 :=
  ⟨(Below.heap_alloc _ _ _ (by simp)).trans (heap_alloc_new w _), by have := heap_alloc_new (w.alloc o1) o2; rw [World.size_alloc] at this; exact this⟩
namespace paramsCompatibleRaise
open Go.ChangeShapes Go.WideShapes Go.ChangeAt Go.RowKit
set_option maxRecDepth 100000 in
set_option maxHeartbeats 8000000 in
theorem walk (p q : Pm) (hp : p.ok) (hq : q.ok) (b : Int) (hb0 : 0 ≤ b) (hb1 : b ≤ 255) (n : Int) (hn1 : -9223372036854775808 ≤ n) (hn2 : n ≤ 9223372036854775807) (ad : Addr) (w : World) (h : Laid ad w) :
    Calls Tryd.prog 6 #[.agg p.cells, .agg q.cells, .int .u8 b, .int .i64 n] w (LB (.bool true) ad w) := by
  have P0 := Lib.hid (rows2 w (.cells p.cells 23) (.cells q.cells 23)).2
  have PP := Lib.hid ((Below.heap_alloc (w.alloc (.cells p.cells 23)) (.cells q.cells 23) w.heap.size (by simp)).trans (heap_alloc_new w (.cells p.cells 23)))
  have L0 := Lib.hid ((h.alloc (.cells p.cells 23)).alloc (.cells q.cells 23))
  have B0 := Lib.hid (((Below.refl _ w).alloc (Nat.le_refl _) (.cells p.cells 23)).alloc (by simp) (.cells q.cells 23))
  have HF := Lib.hid (fun w h => kfrom p hp ad w h)
  have HF2 := Lib.hid (fun w h => kfrom q hq ad w h)
  have hv := (vldP_iff _).1 (fromP_valid p)
  have hv2 := (vldP_iff _).1 (fromP_valid q)
  generalize fromP p = X at *
  generalize fromP q = Z at *
  have hpk := pickF_range n 4 (by decide)
  have HPK := Lib.hid (fun w => pick_any n 4 w hn1 hn2 (by decide) (by decide))
  generalize pickF n 4 = r at *
  obtain ⟨m1, hm1⟩ : ∃ m, (if 536870912 < X.a then 536870912 else X.a) = m := ⟨_, rfl⟩
  obtain ⟨m2, hm2⟩ : ∃ m, (if 536870912 < X.b then 536870912 else X.b) = m := ⟨_, rfl⟩
  obtain ⟨m3, hm3⟩ : ∃ m, (if 30 < X.c then 30 else X.c) = m := ⟨_, rfl⟩
  obtain ⟨m4, hm4⟩ : ∃ m, (if 30 < X.d then 30 else X.d) = m := ⟨_, rfl⟩
  have e1 : 0 ≤ m1 ∧ m1 ≤ 536870912 := by rw [← hm1]; split <;> omega
  have e2 : 0 ≤ m2 ∧ m2 ≤ 536870912 := by rw [← hm2]; split <;> omega
  have e3 : 0 ≤ m3 ∧ m3 ≤ 30 := by rw [← hm3]; split <;> omega
  have e4 : 0 ≤ m4 ∧ m4 ≤ 30 := by rw [← hm4]; split <;> omega
  clear h hp hq
  unfold Pm.cells at *
  go_enter Tryd.func6, Tryd.ntmps6
  go_wp2_with fail
  refine (sane_any ad _ L0.out).mono ?_
  rintro e w1 ⟨rfl, hb, hl⟩
  obtain ⟨a0, a1, a2, a3, a4, a5⟩ := box6 (p := p) (heap_below hb PP.out)
  have P1 := Lib.hid (heap_below hb P0.out)
  have B1 := Lib.hid (btrans B0.out hb)
  have L1 := Lib.hid hl
  clear hb hl B0 P0 L0 PP
  go_wp2_with fail
  refine (HF.out _ L1.out).mono ?_
  rintro e w2 ⟨rfl, hb, hl⟩
  have P2 := Lib.hid (heap_below hb P1.out)
  have B2 := Lib.hid (btrans B1.out hb)
  have L2 := Lib.hid hl
  clear a0 a1 a2 a3 a4 a5 hb hl
  go_wp2_with fail
  have hr30 : 0 ≤ b % 30 ∧ b % 30 < 30 := by omega
  obtain ⟨v, hv⟩ : ∃ v, 1 + b % 30 = v := ⟨_, rfl⟩
  have hv30 : 1 ≤ v ∧ v ≤ 30 := by omega
  rw [hv]
  have HXV := Lib.hid hv
  clear hv hr30
  refine (HPK.out _).mono ?_
  rintro e w' ⟨rfl, rfl⟩
  obtain ⟨q0, q1, q2, q3, q4, q5⟩ := box6 (p := q) P2.out
  have hlt2 : w.heap.size + 1 < w2.heap.size := by have := heap_lt P2.out; simpa using this
  have hne1 : ¬ w.heap.size + 1 = w2.heap.size := Nat.ne_of_lt hlt2
  have hne2 : ¬ w.heap.size = w2.heap.size := by omega
  have hlt3 : w.heap.size < w2.heap.size := by omega
  have hM1 := Lib.hid hm1
  have hM2 := Lib.hid hm2
  have hM3 := Lib.hid hm3
  have hM4 := Lib.hid hm4
  clear hm1 hm2 hm3 hm4
  have hr4 : r = 0 ∨ r = 1 ∨ r = 2 ∨ r = 3 := by omega
  rcases hr4 with rfl | rfl | rfl | rfl
  · as_aux_lemma =>
      go_wp2_with fail
      have R := rows2 w2 (.cells (⟨m1, m2, m3, m4, X.e, X.f⟩ : Pm).cells 23) (.cells (⟨m1 + v, m2, m3, m4, X.e, X.f⟩ : Pm).cells 23)
      refine (HF2.out _ ((L2.out.alloc (.cells (⟨m1, m2, m3, m4, X.e, X.f⟩ : Pm).cells 23)).alloc (.cells (⟨m1 + v, m2, m3, m4, X.e, X.f⟩ : Pm).cells 23))).mono ?_
      rintro e w3 ⟨rfl, hb, hl⟩
      have hx := heap_below hb R.1
      have hy := heap_below hb R.2
      obtain ⟨x0, x1, x2, x3, x4, x5⟩ := box6 (p := (⟨m1, m2, m3, m4, X.e, X.f⟩ : Pm)) hx
      obtain ⟨y0, y1, y2, y3, y4, y5⟩ := box6 (p := (⟨m1 + v, m2, m3, m4, X.e, X.f⟩ : Pm)) hy
      have fy := fun j => frozen_whole hy j
      have l1 : w2.heap.size < w3.heap.size := heap_lt hx
      have l2 : w2.heap.size + 1 < w3.heap.size := heap_lt hy
      have l3 : ¬ w2.heap.size = w3.heap.size := Nat.ne_of_lt l1
      have l4 : ¬ w2.heap.size + 1 = w3.heap.size := Nat.ne_of_lt l2
      have BB : Hid (Below w.heap.size w w3) := Lib.hid (((B2.out.alloc B2.out.size _).alloc (by have := B2.out.size; simp; omega) _).trans (hb.mono (by have := B2.out.size; simp; omega)))
      have HX := Lib.hid hx
      have HY := Lib.hid hy
      have HL := Lib.hid hl
      clear hb hl hx hy R q0 q1 q2 q3 q4 q5 P2 L2 L1 P1 B1 B2
      go_wp2_with fail
      obtain ⟨w4, hw4⟩ : ∃ w4, (((w3.setCell ⟨w2.heap.size + 1, 4, none⟩ (.int .i64 Z.e)).setCell ⟨w2.heap.size + 1, 5, none⟩ (.int .i64 Z.f)).alloc (.cells Z.cells 23)) = w4 := ⟨_, rfl⟩
      have hY3 : ((w3.setCell ⟨w2.heap.size + 1, 4, none⟩ (.int .i64 Z.e)).setCell ⟨w2.heap.size + 1, 5, none⟩ (.int .i64 Z.f)).heap[w2.heap.size + 1]? = some (.cells (⟨m1 + v, m2, m3, m4, Z.e, Z.f⟩ : Pm).cells 23 (0, 0)) := (((Blk.start HY.out).set 4 (.int .i64 Z.e)).set 5 (.int .i64 Z.f)).1.trans rfl
      have hX3 : ((w3.setCell ⟨w2.heap.size + 1, 4, none⟩ (.int .i64 Z.e)).setCell ⟨w2.heap.size + 1, 5, none⟩ (.int .i64 Z.f)).heap[w2.heap.size]? = some (.cells (⟨m1, m2, m3, m4, X.e, X.f⟩ : Pm).cells 23 (0, 0)) := (heap_setCell_other _ _ _ _ (by simp)).trans ((heap_setCell_other _ _ _ _ (by simp)).trans HX.out)
      have hX : Hid (w4.heap[w2.heap.size]? = some (.cells (⟨m1, m2, m3, m4, X.e, X.f⟩ : Pm).cells 23 (0, 0))) := Lib.hid (by rw [← hw4]; exact (Below.heap_alloc _ _ _ (heap_lt hX3)).trans hX3)
      have hY : Hid (w4.heap[w2.heap.size + 1]? = some (.cells (⟨m1 + v, m2, m3, m4, Z.e, Z.f⟩ : Pm).cells 23 (0, 0))) := Lib.hid (by rw [← hw4]; exact (Below.heap_alloc _ _ _ (heap_lt hY3)).trans hY3)
      have hL : Hid (Laid ad w4) := Lib.hid (by rw [← hw4]; exact ((HL.out.set _ _ _ (by omega)).set _ _ _ (by omega)).alloc _)
      have hB : Hid (Below w.heap.size w w4) := Lib.hid (by rw [← hw4]; exact (((BB.out.setCell (by dsimp; omega) _).setCell (by dsimp; omega) _)).alloc (by simp; have := BB.out.size; omega) _)
      clear hX3 hY3 x0 x1 x2 x3 x4 x5 y0 y1 y2 y3 y4 y5 fy
      have hc1 : compB (⟨m1, m2, m3, m4, X.e, X.f⟩ : Pm) (⟨m1 + v, m2, m3, m4, Z.e, Z.f⟩ : Pm) = true := (compB_iff _ _).2 ⟨(vldP_iff _).2 (by dsimp; omega), (vldP_iff _).2 (by dsimp; omega), by dsimp; omega, by dsimp; omega, by dsimp; omega, by dsimp; omega⟩
      have hc2 : compB (⟨m1 + v, m2, m3, m4, Z.e, Z.f⟩ : Pm) (⟨m1, m2, m3, m4, X.e, X.f⟩ : Pm) = false := by
        cases hcc : compB (⟨m1 + v, m2, m3, m4, Z.e, Z.f⟩ : Pm) (⟨m1, m2, m3, m4, X.e, X.f⟩ : Pm) with
        | false => rfl
        | true =>
          have := (compB_iff _ _).1 hcc
          dsimp at this
          omega
      have K1 := kcomp _ _ _ hc1 ad w4 hL.out
      have K2 := Lib.hid (fun w h => kcomp _ _ _ hc2 ad w h)
      clear hc1 hc2
      unfold Pm.cells at K1 K2
      change Calls Tryd.prog 14 _ (((w3.setCell ⟨w2.heap.size + 1, 4, none⟩ (.int .i64 Z.e)).setCell ⟨w2.heap.size + 1, 5, none⟩ (.int .i64 Z.f)).alloc (.cells Z.cells 23)) _
      rw [hw4]
      refine K1.mono ?_
      rintro e w5 ⟨rfl, hb, hl⟩
      obtain ⟨x0, x1, x2, x3, x4, x5⟩ := box6 (p := (⟨m1, m2, m3, m4, X.e, X.f⟩ : Pm)) (heap_below hb hX.out)
      obtain ⟨y0, y1, y2, y3, y4, y5⟩ := box6 (p := (⟨m1 + v, m2, m3, m4, Z.e, Z.f⟩ : Pm)) (heap_below hb hY.out)
      have B5 := Lib.hid (btrans hB.out hb)
      have L5 := Lib.hid hl
      clear hb hl K1 hw4
      go_wp2_with fail
      refine (K2.out _ L5.out).mono ?_
      rintro e w6 ⟨rfl, hb, hl⟩
      have B6 := Lib.hid (btrans B5.out hb)
      have L6 := Lib.hid hl
      clear hb hl
      go_wp2_with fail
      go_ret
      exact ⟨rfl, B6.out, L6.out⟩
  · as_aux_lemma =>
      go_wp2_with fail
      have R := rows2 w2 (.cells (⟨m1, m2, m3, m4, X.e, X.f⟩ : Pm).cells 23) (.cells (⟨m1, m2 + v, m3, m4, X.e, X.f⟩ : Pm).cells 23)
      refine (HF2.out _ ((L2.out.alloc (.cells (⟨m1, m2, m3, m4, X.e, X.f⟩ : Pm).cells 23)).alloc (.cells (⟨m1, m2 + v, m3, m4, X.e, X.f⟩ : Pm).cells 23))).mono ?_
      rintro e w3 ⟨rfl, hb, hl⟩
      have hx := heap_below hb R.1
      have hy := heap_below hb R.2
      obtain ⟨x0, x1, x2, x3, x4, x5⟩ := box6 (p := (⟨m1, m2, m3, m4, X.e, X.f⟩ : Pm)) hx
      obtain ⟨y0, y1, y2, y3, y4, y5⟩ := box6 (p := (⟨m1, m2 + v, m3, m4, X.e, X.f⟩ : Pm)) hy
      have fy := fun j => frozen_whole hy j
      have l1 : w2.heap.size < w3.heap.size := heap_lt hx
      have l2 : w2.heap.size + 1 < w3.heap.size := heap_lt hy
      have l3 : ¬ w2.heap.size = w3.heap.size := Nat.ne_of_lt l1
      have l4 : ¬ w2.heap.size + 1 = w3.heap.size := Nat.ne_of_lt l2
      have BB : Hid (Below w.heap.size w w3) := Lib.hid (((B2.out.alloc B2.out.size _).alloc (by have := B2.out.size; simp; omega) _).trans (hb.mono (by have := B2.out.size; simp; omega)))
      have HX := Lib.hid hx
      have HY := Lib.hid hy
      have HL := Lib.hid hl
      clear hb hl hx hy R q0 q1 q2 q3 q4 q5 P2 L2 L1 P1 B1 B2
      go_wp2_with fail
      obtain ⟨w4, hw4⟩ : ∃ w4, (((w3.setCell ⟨w2.heap.size + 1, 4, none⟩ (.int .i64 Z.e)).setCell ⟨w2.heap.size + 1, 5, none⟩ (.int .i64 Z.f)).alloc (.cells Z.cells 23)) = w4 := ⟨_, rfl⟩
      have hY3 : ((w3.setCell ⟨w2.heap.size + 1, 4, none⟩ (.int .i64 Z.e)).setCell ⟨w2.heap.size + 1, 5, none⟩ (.int .i64 Z.f)).heap[w2.heap.size + 1]? = some (.cells (⟨m1, m2 + v, m3, m4, Z.e, Z.f⟩ : Pm).cells 23 (0, 0)) := (((Blk.start HY.out).set 4 (.int .i64 Z.e)).set 5 (.int .i64 Z.f)).1.trans rfl
      have hX3 : ((w3.setCell ⟨w2.heap.size + 1, 4, none⟩ (.int .i64 Z.e)).setCell ⟨w2.heap.size + 1, 5, none⟩ (.int .i64 Z.f)).heap[w2.heap.size]? = some (.cells (⟨m1, m2, m3, m4, X.e, X.f⟩ : Pm).cells 23 (0, 0)) := (heap_setCell_other _ _ _ _ (by simp)).trans ((heap_setCell_other _ _ _ _ (by simp)).trans HX.out)
      have hX : Hid (w4.heap[w2.heap.size]? = some (.cells (⟨m1, m2, m3, m4, X.e, X.f⟩ : Pm).cells 23 (0, 0))) := Lib.hid (by rw [← hw4]; exact (Below.heap_alloc _ _ _ (heap_lt hX3)).trans hX3)
      have hY : Hid (w4.heap[w2.heap.size + 1]? = some (.cells (⟨m1, m2 + v, m3, m4, Z.e, Z.f⟩ : Pm).cells 23 (0, 0))) := Lib.hid (by rw [← hw4]; exact (Below.heap_alloc _ _ _ (heap_lt hY3)).trans hY3)
      have hL : Hid (Laid ad w4) := Lib.hid (by rw [← hw4]; exact ((HL.out.set _ _ _ (by omega)).set _ _ _ (by omega)).alloc _)
      have hB : Hid (Below w.heap.size w w4) := Lib.hid (by rw [← hw4]; exact (((BB.out.setCell (by dsimp; omega) _).setCell (by dsimp; omega) _)).alloc (by simp; have := BB.out.size; omega) _)
      clear hX3 hY3 x0 x1 x2 x3 x4 x5 y0 y1 y2 y3 y4 y5 fy
      have hc1 : compB (⟨m1, m2, m3, m4, X.e, X.f⟩ : Pm) (⟨m1, m2 + v, m3, m4, Z.e, Z.f⟩ : Pm) = true := (compB_iff _ _).2 ⟨(vldP_iff _).2 (by dsimp; omega), (vldP_iff _).2 (by dsimp; omega), by dsimp; omega, by dsimp; omega, by dsimp; omega, by dsimp; omega⟩
      have hc2 : compB (⟨m1, m2 + v, m3, m4, Z.e, Z.f⟩ : Pm) (⟨m1, m2, m3, m4, X.e, X.f⟩ : Pm) = false := by
        cases hcc : compB (⟨m1, m2 + v, m3, m4, Z.e, Z.f⟩ : Pm) (⟨m1, m2, m3, m4, X.e, X.f⟩ : Pm) with
        | false => rfl
        | true =>
          have := (compB_iff _ _).1 hcc
          dsimp at this
          omega
      have K1 := kcomp _ _ _ hc1 ad w4 hL.out
      have K2 := Lib.hid (fun w h => kcomp _ _ _ hc2 ad w h)
      clear hc1 hc2
      unfold Pm.cells at K1 K2
      change Calls Tryd.prog 14 _ (((w3.setCell ⟨w2.heap.size + 1, 4, none⟩ (.int .i64 Z.e)).setCell ⟨w2.heap.size + 1, 5, none⟩ (.int .i64 Z.f)).alloc (.cells Z.cells 23)) _
      rw [hw4]
      refine K1.mono ?_
      rintro e w5 ⟨rfl, hb, hl⟩
      obtain ⟨x0, x1, x2, x3, x4, x5⟩ := box6 (p := (⟨m1, m2, m3, m4, X.e, X.f⟩ : Pm)) (heap_below hb hX.out)
      obtain ⟨y0, y1, y2, y3, y4, y5⟩ := box6 (p := (⟨m1, m2 + v, m3, m4, Z.e, Z.f⟩ : Pm)) (heap_below hb hY.out)
      have B5 := Lib.hid (btrans hB.out hb)
      have L5 := Lib.hid hl
      clear hb hl K1 hw4
      go_wp2_with fail
      refine (K2.out _ L5.out).mono ?_
      rintro e w6 ⟨rfl, hb, hl⟩
      have B6 := Lib.hid (btrans B5.out hb)
      have L6 := Lib.hid hl
      clear hb hl
      go_wp2_with fail
      go_ret
      exact ⟨rfl, B6.out, L6.out⟩
  · as_aux_lemma =>
      go_wp2_with fail
      have R := rows2 w2 (.cells (⟨m1, m2, m3, m4, X.e, X.f⟩ : Pm).cells 23) (.cells (⟨m1, m2, m3 + v, m4, X.e, X.f⟩ : Pm).cells 23)
      refine (HF2.out _ ((L2.out.alloc (.cells (⟨m1, m2, m3, m4, X.e, X.f⟩ : Pm).cells 23)).alloc (.cells (⟨m1, m2, m3 + v, m4, X.e, X.f⟩ : Pm).cells 23))).mono ?_
      rintro e w3 ⟨rfl, hb, hl⟩
      have hx := heap_below hb R.1
      have hy := heap_below hb R.2
      obtain ⟨x0, x1, x2, x3, x4, x5⟩ := box6 (p := (⟨m1, m2, m3, m4, X.e, X.f⟩ : Pm)) hx
      obtain ⟨y0, y1, y2, y3, y4, y5⟩ := box6 (p := (⟨m1, m2, m3 + v, m4, X.e, X.f⟩ : Pm)) hy
      have fy := fun j => frozen_whole hy j
      have l1 : w2.heap.size < w3.heap.size := heap_lt hx
      have l2 : w2.heap.size + 1 < w3.heap.size := heap_lt hy
      have l3 : ¬ w2.heap.size = w3.heap.size := Nat.ne_of_lt l1
      have l4 : ¬ w2.heap.size + 1 = w3.heap.size := Nat.ne_of_lt l2
      have BB : Hid (Below w.heap.size w w3) := Lib.hid (((B2.out.alloc B2.out.size _).alloc (by have := B2.out.size; simp; omega) _).trans (hb.mono (by have := B2.out.size; simp; omega)))
      have HX := Lib.hid hx
      have HY := Lib.hid hy
      have HL := Lib.hid hl
      clear hb hl hx hy R q0 q1 q2 q3 q4 q5 P2 L2 L1 P1 B1 B2
      go_wp2_with fail
      obtain ⟨w4, hw4⟩ : ∃ w4, (((w3.setCell ⟨w2.heap.size + 1, 4, none⟩ (.int .i64 Z.e)).setCell ⟨w2.heap.size + 1, 5, none⟩ (.int .i64 Z.f)).alloc (.cells Z.cells 23)) = w4 := ⟨_, rfl⟩
      have hY3 : ((w3.setCell ⟨w2.heap.size + 1, 4, none⟩ (.int .i64 Z.e)).setCell ⟨w2.heap.size + 1, 5, none⟩ (.int .i64 Z.f)).heap[w2.heap.size + 1]? = some (.cells (⟨m1, m2, m3 + v, m4, Z.e, Z.f⟩ : Pm).cells 23 (0, 0)) := (((Blk.start HY.out).set 4 (.int .i64 Z.e)).set 5 (.int .i64 Z.f)).1.trans rfl
      have hX3 : ((w3.setCell ⟨w2.heap.size + 1, 4, none⟩ (.int .i64 Z.e)).setCell ⟨w2.heap.size + 1, 5, none⟩ (.int .i64 Z.f)).heap[w2.heap.size]? = some (.cells (⟨m1, m2, m3, m4, X.e, X.f⟩ : Pm).cells 23 (0, 0)) := (heap_setCell_other _ _ _ _ (by simp)).trans ((heap_setCell_other _ _ _ _ (by simp)).trans HX.out)
      have hX : Hid (w4.heap[w2.heap.size]? = some (.cells (⟨m1, m2, m3, m4, X.e, X.f⟩ : Pm).cells 23 (0, 0))) := Lib.hid (by rw [← hw4]; exact (Below.heap_alloc _ _ _ (heap_lt hX3)).trans hX3)
      have hY : Hid (w4.heap[w2.heap.size + 1]? = some (.cells (⟨m1, m2, m3 + v, m4, Z.e, Z.f⟩ : Pm).cells 23 (0, 0))) := Lib.hid (by rw [← hw4]; exact (Below.heap_alloc _ _ _ (heap_lt hY3)).trans hY3)
      have hL : Hid (Laid ad w4) := Lib.hid (by rw [← hw4]; exact ((HL.out.set _ _ _ (by omega)).set _ _ _ (by omega)).alloc _)
      have hB : Hid (Below w.heap.size w w4) := Lib.hid (by rw [← hw4]; exact (((BB.out.setCell (by dsimp; omega) _).setCell (by dsimp; omega) _)).alloc (by simp; have := BB.out.size; omega) _)
      clear hX3 hY3 x0 x1 x2 x3 x4 x5 y0 y1 y2 y3 y4 y5 fy
      have hc1 : compB (⟨m1, m2, m3, m4, X.e, X.f⟩ : Pm) (⟨m1, m2, m3 + v, m4, Z.e, Z.f⟩ : Pm) = true := (compB_iff _ _).2 ⟨(vldP_iff _).2 (by dsimp; omega), (vldP_iff _).2 (by dsimp; omega), by dsimp; omega, by dsimp; omega, by dsimp; omega, by dsimp; omega⟩
      have hc2 : compB (⟨m1, m2, m3 + v, m4, Z.e, Z.f⟩ : Pm) (⟨m1, m2, m3, m4, X.e, X.f⟩ : Pm) = false := by
        cases hcc : compB (⟨m1, m2, m3 + v, m4, Z.e, Z.f⟩ : Pm) (⟨m1, m2, m3, m4, X.e, X.f⟩ : Pm) with
        | false => rfl
        | true =>
          have := (compB_iff _ _).1 hcc
          dsimp at this
          omega
      have K1 := kcomp _ _ _ hc1 ad w4 hL.out
      have K2 := Lib.hid (fun w h => kcomp _ _ _ hc2 ad w h)
      clear hc1 hc2
      unfold Pm.cells at K1 K2
      change Calls Tryd.prog 14 _ (((w3.setCell ⟨w2.heap.size + 1, 4, none⟩ (.int .i64 Z.e)).setCell ⟨w2.heap.size + 1, 5, none⟩ (.int .i64 Z.f)).alloc (.cells Z.cells 23)) _
      rw [hw4]
      refine K1.mono ?_
      rintro e w5 ⟨rfl, hb, hl⟩
      obtain ⟨x0, x1, x2, x3, x4, x5⟩ := box6 (p := (⟨m1, m2, m3, m4, X.e, X.f⟩ : Pm)) (heap_below hb hX.out)
      obtain ⟨y0, y1, y2, y3, y4, y5⟩ := box6 (p := (⟨m1, m2, m3 + v, m4, Z.e, Z.f⟩ : Pm)) (heap_below hb hY.out)
      have B5 := Lib.hid (btrans hB.out hb)
      have L5 := Lib.hid hl
      clear hb hl K1 hw4
      go_wp2_with fail
      refine (K2.out _ L5.out).mono ?_
      rintro e w6 ⟨rfl, hb, hl⟩
      have B6 := Lib.hid (btrans B5.out hb)
      have L6 := Lib.hid hl
      clear hb hl
      go_wp2_with fail
      go_ret
      exact ⟨rfl, B6.out, L6.out⟩
  · as_aux_lemma =>
      go_wp2_with fail
      have R := rows2 w2 (.cells (⟨m1, m2, m3, m4, X.e, X.f⟩ : Pm).cells 23) (.cells (⟨m1, m2, m3, m4 + v, X.e, X.f⟩ : Pm).cells 23)
      refine (HF2.out _ ((L2.out.alloc (.cells (⟨m1, m2, m3, m4, X.e, X.f⟩ : Pm).cells 23)).alloc (.cells (⟨m1, m2, m3, m4 + v, X.e, X.f⟩ : Pm).cells 23))).mono ?_
      rintro e w3 ⟨rfl, hb, hl⟩
      have hx := heap_below hb R.1
      have hy := heap_below hb R.2
      obtain ⟨x0, x1, x2, x3, x4, x5⟩ := box6 (p := (⟨m1, m2, m3, m4, X.e, X.f⟩ : Pm)) hx
      obtain ⟨y0, y1, y2, y3, y4, y5⟩ := box6 (p := (⟨m1, m2, m3, m4 + v, X.e, X.f⟩ : Pm)) hy
      have fy := fun j => frozen_whole hy j
      have l1 : w2.heap.size < w3.heap.size := heap_lt hx
      have l2 : w2.heap.size + 1 < w3.heap.size := heap_lt hy
      have l3 : ¬ w2.heap.size = w3.heap.size := Nat.ne_of_lt l1
      have l4 : ¬ w2.heap.size + 1 = w3.heap.size := Nat.ne_of_lt l2
      have BB : Hid (Below w.heap.size w w3) := Lib.hid (((B2.out.alloc B2.out.size _).alloc (by have := B2.out.size; simp; omega) _).trans (hb.mono (by have := B2.out.size; simp; omega)))
      have HX := Lib.hid hx
      have HY := Lib.hid hy
      have HL := Lib.hid hl
      clear hb hl hx hy R q0 q1 q2 q3 q4 q5 P2 L2 L1 P1 B1 B2
      go_wp2_with fail
      obtain ⟨w4, hw4⟩ : ∃ w4, (((w3.setCell ⟨w2.heap.size + 1, 4, none⟩ (.int .i64 Z.e)).setCell ⟨w2.heap.size + 1, 5, none⟩ (.int .i64 Z.f)).alloc (.cells Z.cells 23)) = w4 := ⟨_, rfl⟩
      have hY3 : ((w3.setCell ⟨w2.heap.size + 1, 4, none⟩ (.int .i64 Z.e)).setCell ⟨w2.heap.size + 1, 5, none⟩ (.int .i64 Z.f)).heap[w2.heap.size + 1]? = some (.cells (⟨m1, m2, m3, m4 + v, Z.e, Z.f⟩ : Pm).cells 23 (0, 0)) := (((Blk.start HY.out).set 4 (.int .i64 Z.e)).set 5 (.int .i64 Z.f)).1.trans rfl
      have hX3 : ((w3.setCell ⟨w2.heap.size + 1, 4, none⟩ (.int .i64 Z.e)).setCell ⟨w2.heap.size + 1, 5, none⟩ (.int .i64 Z.f)).heap[w2.heap.size]? = some (.cells (⟨m1, m2, m3, m4, X.e, X.f⟩ : Pm).cells 23 (0, 0)) := (heap_setCell_other _ _ _ _ (by simp)).trans ((heap_setCell_other _ _ _ _ (by simp)).trans HX.out)
      have hX : Hid (w4.heap[w2.heap.size]? = some (.cells (⟨m1, m2, m3, m4, X.e, X.f⟩ : Pm).cells 23 (0, 0))) := Lib.hid (by rw [← hw4]; exact (Below.heap_alloc _ _ _ (heap_lt hX3)).trans hX3)
      have hY : Hid (w4.heap[w2.heap.size + 1]? = some (.cells (⟨m1, m2, m3, m4 + v, Z.e, Z.f⟩ : Pm).cells 23 (0, 0))) := Lib.hid (by rw [← hw4]; exact (Below.heap_alloc _ _ _ (heap_lt hY3)).trans hY3)
      have hL : Hid (Laid ad w4) := Lib.hid (by rw [← hw4]; exact ((HL.out.set _ _ _ (by omega)).set _ _ _ (by omega)).alloc _)
      have hB : Hid (Below w.heap.size w w4) := Lib.hid (by rw [← hw4]; exact (((BB.out.setCell (by dsimp; omega) _).setCell (by dsimp; omega) _)).alloc (by simp; have := BB.out.size; omega) _)
      clear hX3 hY3 x0 x1 x2 x3 x4 x5 y0 y1 y2 y3 y4 y5 fy
      have hc1 : compB (⟨m1, m2, m3, m4, X.e, X.f⟩ : Pm) (⟨m1, m2, m3, m4 + v, Z.e, Z.f⟩ : Pm) = true := (compB_iff _ _).2 ⟨(vldP_iff _).2 (by dsimp; omega), (vldP_iff _).2 (by dsimp; omega), by dsimp; omega, by dsimp; omega, by dsimp; omega, by dsimp; omega⟩
      have hc2 : compB (⟨m1, m2, m3, m4 + v, Z.e, Z.f⟩ : Pm) (⟨m1, m2, m3, m4, X.e, X.f⟩ : Pm) = false := by
        cases hcc : compB (⟨m1, m2, m3, m4 + v, Z.e, Z.f⟩ : Pm) (⟨m1, m2, m3, m4, X.e, X.f⟩ : Pm) with
        | false => rfl
        | true =>
          have := (compB_iff _ _).1 hcc
          dsimp at this
          omega
      have K1 := kcomp _ _ _ hc1 ad w4 hL.out
      have K2 := Lib.hid (fun w h => kcomp _ _ _ hc2 ad w h)
      clear hc1 hc2
      unfold Pm.cells at K1 K2
      change Calls Tryd.prog 14 _ (((w3.setCell ⟨w2.heap.size + 1, 4, none⟩ (.int .i64 Z.e)).setCell ⟨w2.heap.size + 1, 5, none⟩ (.int .i64 Z.f)).alloc (.cells Z.cells 23)) _
      rw [hw4]
      refine K1.mono ?_
      rintro e w5 ⟨rfl, hb, hl⟩
      obtain ⟨x0, x1, x2, x3, x4, x5⟩ := box6 (p := (⟨m1, m2, m3, m4, X.e, X.f⟩ : Pm)) (heap_below hb hX.out)
      obtain ⟨y0, y1, y2, y3, y4, y5⟩ := box6 (p := (⟨m1, m2, m3, m4 + v, Z.e, Z.f⟩ : Pm)) (heap_below hb hY.out)
      have B5 := Lib.hid (btrans hB.out hb)
      have L5 := Lib.hid hl
      clear hb hl K1 hw4
      go_wp2_with fail
      refine (K2.out _ L5.out).mono ?_
      rintro e w6 ⟨rfl, hb, hl⟩
      have B6 := Lib.hid (btrans B5.out hb)
      have L6 := Lib.hid hl
      clear hb hl
      go_wp2_with fail
      go_ret
      exact ⟨rfl, B6.out, L6.out⟩
set_option maxRecDepth 100000 in
theorem main {H : Type} {enc : TypeId × Value → H} (W : World) (ad : Addr) (hl : Laid ad W) (d0 d1 d2 d3 : DataW H) (_hw : (DataW.weightsEach Tryd.prog [23, 23, 5, 3] [d0, d1, d2, d3]).all (· ≤ reachBytes) = true)
    (b0 : Nat) (v0 : Value) (p0 : List MemPlace) (k0 : Value.okWide Tryd.prog W .any b0 23 v0) (h0 : DataW.Trod enc Tryd.prog W 0 (fun _ => true) true 23 v0 d0 p0)
    (b1 : Nat) (v1 : Value) (p1 : List MemPlace) (k1 : Value.okWide Tryd.prog W .any b1 23 v1) (h1 : DataW.Trod enc Tryd.prog W 0 (fun _ => true) true 23 v1 d1 p1)
    (b2 : Nat) (v2 : Value) (p2 : List MemPlace) (k2 : Value.okWide Tryd.prog W .any b2 5 v2) (h2 : DataW.Trod enc Tryd.prog W 0 (fun _ => true) true 5 v2 d2 p2)
    (b3 : Nat) (v3 : Value) (p3 : List MemPlace) (k3 : Value.okWide Tryd.prog W .any b3 3 v3) (h3 : DataW.Trod enc Tryd.prog W 0 (fun _ => true) true 3 v3 d3 p3) :
    Calls Tryd.prog 6 #[v0, v1, v2, v3] W fun e w' => e = .returned (.bool true) ∧ Below W.heap.size W w' := by
  obtain ⟨pm, rfl, hok⟩ := open_pm k0 h0
  obtain ⟨qm, rfl, hoq⟩ := open_pm k1 h1
  obtain ⟨b, rfl, _, _, hb⟩ := open_int Tryd.underlying5 k2 h2
  obtain ⟨n, rfl, _, _, hn⟩ := open_int Tryd.underlying3 k3 h3
  have hnb := wf_bounds hn
  have hbb : 0 ≤ b ∧ b ≤ 255 := by
    simp [Lit.wf, IntKind.min, IntKind.max, IntKind.bits, IntKind.signed] at hb
    omega
  exact (walk pm qm hok hoq b hbb.1 hbb.2 n hnb.1 hnb.2 ad W hl).mono fun e w' h => ⟨h.1, h.2.1⟩
end paramsCompatibleRaise
end Go.Proofs.YtddfikijehmoiaaDoor
