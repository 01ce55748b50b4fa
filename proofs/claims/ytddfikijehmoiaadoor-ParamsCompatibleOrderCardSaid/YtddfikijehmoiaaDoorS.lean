/- Law 20: sane returns true. -/
import Derived.Test.YtddfikijehmoiaaDoorM
import Derived.Test.YtddfikijehmoiaaDoorN
import Derived.Test.YtddfikijehmoiaaDoorO
namespace Go.Proofs.YtddfikijehmoiaaDoor
open Go.RowKit
/-- errParams is laid -/
def Laid (ad : Addr) (w : World) : Prop := w.cell? ⟨0, 0, none⟩ = some (.iface 98 (.pointer (some ad)))
theorem Laid.below {ad : Addr} {w w' : World} (h : Laid ad w) (hb : Below w.heap.size w w') : Laid ad w' := (hb.cell (p := ⟨0, 0, none⟩) (World.block_lt_of_cell? _ _ h)).trans h
theorem Laid.lt {ad : Addr} {w : World} (h : Laid ad w) : 0 < w.heap.size := World.block_lt_of_cell? _ _ h
theorem encode_any (p : Pm) (ad : Addr) (w : World) (h0 : Laid ad w) :
    Calls Tryd.prog 10 #[.agg p.cells] w fun e w' => e = .returned (if vldP p = true then .tuple #[.string (strOfNums (flat (pvals p))), .int .i64 0] else .tuple #[.string ⟨#[]⟩, .int .i64 200]) ∧ Below w.heap.size w w' := by
  by_cases h : vldP p = true
  · rw [if_pos h]; exact encode_yes p ad w h0 h
  · rw [if_neg h]; exact encode_no p ad w h0 (by simpa using h)
def pS : Pm := ⟨1000, 100, 3, 0, 5, 50⟩
def pM : Pm := ⟨1000, 100, 3, 1, 5, 50⟩
def pZ : Pm := ⟨0, 0, 0, 0, 0, 0⟩
def sS : ByteArray := ⟨#[67, 232, 64, 100, 3, 0, 5, 50]⟩
theorem f1 : strOfNums (flat (pvals pS)) = sS := by kernel_rfl
theorem f2 : decE sS = .tuple #[.agg pS.cells, .int .i64 0] := by kernel_rfl
theorem f3 : decE ⟨#[67, 232, 64, 100, 3, 0, 5, 50, 0]⟩ = .tuple #[.agg pZ.cells, .int .i64 200] := by kernel_rfl
theorem f4 : vldP pS = true := by kernel_rfl
theorem f5 : vldP pZ = false := by kernel_rfl
theorem f6 : compB pS pM = true := by kernel_rfl
theorem f7 : compB pM pS = false := by kernel_rfl
def LB (r : Value) (ad : Addr) (w : World) (e : Ending) (w' : World) : Prop := e = .returned r ∧ Below w.heap.size w w' ∧ Laid ad w'
theorem k1 (ad : Addr) (w : World) (h : Laid ad w) : Calls Tryd.prog 10 #[.agg #[.int .i64 1000, .int .i64 100, .int .i64 3, .int .i64 0, .int .i64 5, .int .i64 50]] w (LB (.tuple #[.string ⟨#[67, 232, 64, 100, 3, 0, 5, 50]⟩, .int .i64 0]) ad w) := by
  have := encode_any pS ad w h
  rw [if_pos f4, f1] at this
  exact this.mono fun e w' ⟨a, b⟩ => ⟨a, b, h.below b⟩
theorem k2 (ad : Addr) (w : World) (h : Laid ad w) : Calls Tryd.prog 11 #[.string ⟨#[67, 232, 64, 100, 3, 0, 5, 50]⟩] w (LB (.tuple #[.agg #[.int .i64 1000, .int .i64 100, .int .i64 3, .int .i64 0, .int .i64 5, .int .i64 50], .int .i64 0]) ad w) :=
  (decode_par sS ad w (by decide) h).mono fun e w' ⟨a, b⟩ => ⟨a.trans (by rw [f2]; rfl), b, h.below b⟩
theorem k3 (ad : Addr) (w : World) (h : Laid ad w) : Calls Tryd.prog 11 #[.string ⟨#[67, 232, 64, 100, 3, 0, 5, 50, 0]⟩] w (LB (.tuple #[.agg #[.int .i64 0, .int .i64 0, .int .i64 0, .int .i64 0, .int .i64 0, .int .i64 0], .int .i64 200]) ad w) :=
  (decode_par _ ad w (by decide) h).mono fun e w' ⟨a, b⟩ => ⟨a.trans (by rw [f3]; rfl), b, h.below b⟩
theorem k4 (ad : Addr) (w : World) (h : Laid ad w) : Calls Tryd.prog 10 #[.agg #[.int .i64 0, .int .i64 0, .int .i64 0, .int .i64 0, .int .i64 0, .int .i64 0]] w (LB (.tuple #[.string ⟨#[]⟩, .int .i64 200]) ad w) := by
  have := encode_any pZ ad w h
  rw [if_neg (by simp [f5])] at this
  exact this.mono fun e w' ⟨a, b⟩ => ⟨a, b, h.below b⟩
theorem k5 (ad : Addr) (w : World) (h : Laid ad w) : Calls Tryd.prog 13 #[.agg #[.int .i64 1000, .int .i64 100, .int .i64 3, .int .i64 0, .int .i64 5, .int .i64 50]] w (LB (.bool true) ad w) :=
  (valid_any pS ad w h).mono fun e w' ⟨a, b⟩ => ⟨a.trans (by rw [f4]), b, h.below b⟩
theorem k6 (ad : Addr) (w : World) (h : Laid ad w) : Calls Tryd.prog 13 #[.agg #[.int .i64 0, .int .i64 0, .int .i64 0, .int .i64 0, .int .i64 0, .int .i64 0]] w (LB (.bool false) ad w) :=
  (valid_any pZ ad w h).mono fun e w' ⟨a, b⟩ => ⟨a.trans (by rw [f5]), b, h.below b⟩
theorem k7 (ad : Addr) (w : World) (h : Laid ad w) : Calls Tryd.prog 14 #[.agg #[.int .i64 1000, .int .i64 100, .int .i64 3, .int .i64 0, .int .i64 5, .int .i64 50], .agg #[.int .i64 1000, .int .i64 100, .int .i64 3, .int .i64 1, .int .i64 5, .int .i64 50]] w (LB (.bool true) ad w) :=
  (comp_any pS pM ad w h).mono fun e w' ⟨a, b⟩ => ⟨a.trans (by rw [f6]), b, h.below b⟩
theorem k8 (ad : Addr) (w : World) (h : Laid ad w) : Calls Tryd.prog 14 #[.agg #[.int .i64 1000, .int .i64 100, .int .i64 3, .int .i64 1, .int .i64 5, .int .i64 50], .agg #[.int .i64 1000, .int .i64 100, .int .i64 3, .int .i64 0, .int .i64 5, .int .i64 50]] w (LB (.bool false) ad w) :=
  (comp_any pM pS ad w h).mono fun e w' ⟨a, b⟩ => ⟨a.trans (by rw [f7]), b, h.below b⟩
theorem Laid.alloc {ad : Addr} {w : World} (h : Laid ad w) (o : Obj) : Laid ad (w.alloc o) := h.below ((Below.refl _ w).alloc (Nat.le_refl _) _)
theorem Laid.set {ad : Addr} {w : World} (h : Laid ad w) (b i : Nat) (v : Value) (hb : b ≠ 0) : Laid ad (w.setCell ⟨b, i, none⟩ v) := (World.cell?_of_block (a := ⟨0, 0, none⟩) (heap_setCell_other w ⟨b, i, none⟩ 0 v (by simp; omega))).trans h
set_option maxRecDepth 100000 in
set_option maxHeartbeats 4000000 in
theorem sane_any (ad : Addr) (w : World) (h : Laid ad w) : Calls Tryd.prog 8 #[] w (LB (.bool true) ad w) := by
  have H0 := Lib.hid (h.alloc (.cells #[.int .i64 1000, .int .i64 100, .int .i64 3, .int .i64 0, .int .i64 5, .int .i64 50] 23))
  have P0 := Lib.hid (heap_alloc_new w (.cells pS.cells 23))
  have B0 := Lib.hid (((Below.refl _ w).alloc (Nat.le_refl _) (.cells #[.int .i64 1000, .int .i64 100, .int .i64 3, .int .i64 0, .int .i64 5, .int .i64 50] 23)))
  have T0 := Lib.hid trivial
  clear h
  go_enter Tryd.func8, Tryd.ntmps8
  go_wp2_with fail
  refine (k1 ad _ H0.out).mono ?_
  rintro e w1 ⟨rfl, hb, hl⟩
  have P1 := Lib.hid (heap_below hb P0.out)
  have L1 := Lib.hid hl
  have B1 := Lib.hid (btrans B0.out hb)
  clear hb hl P0 H0 B0 T0
  go_wp2_with fail
  refine (k2 ad _ L1.out).mono ?_
  rintro e w2 ⟨rfl, hb, hl⟩
  have P2 := Lib.hid ((Below.heap_alloc w2 (.cells #[.int .i64 1000, .int .i64 100, .int .i64 3, .int .i64 0, .int .i64 5, .int .i64 50] 23) _ (heap_lt (heap_below hb P1.out))).trans (heap_below hb P1.out))
  have N2 := Lib.hid (heap_alloc_new w2 (.cells pS.cells 23))
  have L2 := Lib.hid (hl.alloc (.cells #[.int .i64 1000, .int .i64 100, .int .i64 3, .int .i64 0, .int .i64 5, .int .i64 50] 23))
  have B2 := Lib.hid ((btrans B1.out hb).alloc (btrans B1.out hb).size (.cells #[.int .i64 1000, .int .i64 100, .int .i64 3, .int .i64 0, .int .i64 5, .int .i64 50] 23))
  have hn1 : w.heap.size < w2.heap.size := heap_lt (heap_below hb P1.out)
  clear hb hl P1 L1 B1
  go_wp2_with fail
  refine (k3 ad _ L2.out).mono ?_
  rintro e w3 ⟨rfl, hb, hl⟩
  have P3 := Lib.hid ((Below.heap_alloc w3 (.cells #[.int .i64 0, .int .i64 0, .int .i64 0, .int .i64 0, .int .i64 0, .int .i64 0] 23) _ (heap_lt (heap_below hb P2.out))).trans (heap_below hb P2.out))
  have N3 := Lib.hid ((Below.heap_alloc w3 (.cells #[.int .i64 0, .int .i64 0, .int .i64 0, .int .i64 0, .int .i64 0, .int .i64 0] 23) _ (heap_lt (heap_below hb N2.out))).trans (heap_below hb N2.out))
  have L3 := Lib.hid (hl.alloc (.cells #[.int .i64 0, .int .i64 0, .int .i64 0, .int .i64 0, .int .i64 0, .int .i64 0] 23))
  have B3 := Lib.hid ((btrans B2.out hb).alloc (btrans B2.out hb).size (.cells #[.int .i64 0, .int .i64 0, .int .i64 0, .int .i64 0, .int .i64 0, .int .i64 0] 23))
  clear hb hl P2 L2 B2 N2
  go_wp2_with fail
  refine (k4 ad _ L3.out).mono ?_
  rintro e w4 ⟨rfl, hb, hl⟩
  have p4 := heap_below hb P3.out
  have n4 := heap_below hb N3.out
  obtain ⟨a0, a1, a2, a3, a4, a5⟩ := box6 p4
  obtain ⟨b0, b1, b2, b3, b4, b5⟩ := box6 n4
  have hn2 : w.heap.size < w4.heap.size := heap_lt p4
  have hn3 : w2.heap.size < w4.heap.size := heap_lt n4
  have hn4 : ¬ w.heap.size = w4.heap.size := Nat.ne_of_lt hn2
  have hn5 : ¬ w2.heap.size = w4.heap.size := Nat.ne_of_lt hn3
  have hn6 : ¬ w4.heap.size = w.heap.size := fun e => hn4 e.symm
  have hn7 : ¬ w4.heap.size = w2.heap.size := fun e => hn5 e.symm
  have P4 := Lib.hid p4
  have L4 := Lib.hid hl
  have B4 := Lib.hid (btrans B3.out hb)
  clear hb hl P3 L3 B3 N3 p4 n4
  go_wp2_with fail
  have M5 := Lib.hid (heap_alloc_new w4 (.cells pM.cells 23))
  have P5 := Lib.hid ((Below.heap_alloc w4 (.cells pM.cells 23) _ (heap_lt P4.out)).trans P4.out)
  have L5 := Lib.hid (L4.out.alloc (.cells pM.cells 23))
  have B5 := Lib.hid (B4.out.alloc B4.out.size (.cells pM.cells 23))
  change Calls Tryd.prog 13 #[.agg #[.int .i64 1000, .int .i64 100, .int .i64 3, .int .i64 0, .int .i64 5, .int .i64 50]] (w4.alloc (.cells pM.cells 23)) _
  generalize w4.alloc (.cells pM.cells 23) = w5 at *
  clear a0 a1 a2 a3 a4 a5 b0 b1 b2 b3 b4 b5 P4 L4 B4
  refine (k5 ad _ L5.out).mono ?_
  rintro e w6 ⟨rfl, hb, hl⟩
  have p6 := heap_below hb P5.out
  have m6 := heap_below hb M5.out
  have P6 := Lib.hid p6
  have M6 := Lib.hid m6
  have L6 := Lib.hid hl
  have B6 := Lib.hid (btrans B5.out hb)
  clear hb hl p6 m6 P5 M5 L5 B5
  go_wp2_with fail
  refine (k6 ad _ L6.out).mono ?_
  rintro e w7 ⟨rfl, hb, hl⟩
  have p7 := heap_below hb P6.out
  have m7 := heap_below hb M6.out
  obtain ⟨a0, a1, a2, a3, a4, a5⟩ := box6 p7
  obtain ⟨b0, b1, b2, b3, b4, b5⟩ := box6 m7
  have P7 := Lib.hid p7
  have M7 := Lib.hid m7
  have L7 := Lib.hid hl
  have B7 := Lib.hid (btrans B6.out hb)
  clear hb hl p7 m7 P6 M6 L6 B6
  go_wp2_with fail
  clear a0 a1 a2 a3 a4 a5 b0 b1 b2 b3 b4 b5
  refine (k7 ad _ L7.out).mono ?_
  rintro e w8 ⟨rfl, hb, hl⟩
  have p8 := heap_below hb P7.out
  have m8 := heap_below hb M7.out
  obtain ⟨a0, a1, a2, a3, a4, a5⟩ := box6 p8
  obtain ⟨b0, b1, b2, b3, b4, b5⟩ := box6 m8
  have P8 := Lib.hid p8
  have M8 := Lib.hid m8
  have L8 := Lib.hid hl
  have B8 := Lib.hid (btrans B7.out hb)
  clear hb hl p8 m8 P7 M7 L7 B7
  go_wp2_with fail
  clear a0 a1 a2 a3 a4 a5 b0 b1 b2 b3 b4 b5
  refine (k8 ad _ L8.out).mono ?_
  rintro e w9 ⟨rfl, hb, hl⟩
  have hb9 := btrans B8.out hb
  clear hb
  go_wp2_with fail
  go_ret
  exact ⟨rfl, hb9, hl⟩
end Go.Proofs.YtddfikijehmoiaaDoor
