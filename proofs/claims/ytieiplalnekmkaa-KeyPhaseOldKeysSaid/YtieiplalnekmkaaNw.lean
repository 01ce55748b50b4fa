/- Law 25: New. -/
import Derived.Test.YtieiplalnekmkaaOb
namespace Go.Proofs.Ytieiplalnekmkaa
open Go.RowKit
theorem none_ex (w : World) : Calls Try.prog 26 #[] w fun e w' => e = .returned (.agg #[.int .i64 (-1), .int .i64 (-1)]) ∧ w' = w.alloc (.cells #[.int .i64 (-1), .int .i64 (-1)] 61) := by
  go_enter Try.func26, Try.ntmps26
  go_wp2
  exact bodyPost_ret (v := .agg #[.int .i64 (-1), .int .i64 (-1)]) (by simp [results, Try.results26, go_sem]) rfl ⟨rfl, rfl⟩
theorem box3d (w : World) (o0 o1 o2 : Obj) : (((w.alloc o0).alloc o1).alloc o2).drew.heap[w.heap.size]? = some o0 ∧ (((w.alloc o0).alloc o1).alloc o2).drew.heap[w.heap.size + 1]? = some o1 ∧ (((w.alloc o0).alloc o1).alloc o2).drew.heap[w.heap.size + 1 + 1]? = some o2 ∧
    Below w.heap.size w (((w.alloc o0).alloc o1).alloc o2).drew ∧ (((w.alloc o0).alloc o1).alloc o2).drew.heap.size = w.heap.size + 1 + 1 + 1 := by
  obtain ⟨a, b, c, d, e⟩ := box3 w o0 o1 o2
  exact ⟨a, b, c, d.drew, e⟩
theorem heap3d (w : World) (o0 o1 o2 : Obj) {k : Nat} {o : Obj} (h : w.heap[k]? = some o) : (((w.alloc o0).alloc o1).alloc o2).drew.heap[k]? = some o := heap_below (box3d w o0 o1 o2).2.2.2.1 h
theorem nw_close {w V : World} (hB : Below w.heap.size w V) (o0 o1 o2 o3 : Obj) : w.heap.size ≤ V.heap.size + 1 + 1 + 1 ∧ ((((V.alloc o0).alloc o1).alloc o2).alloc o3).drew.heap[V.heap.size + 1 + 1 + 1]? = some o3 ∧ Below w.heap.size w ((((V.alloc o0).alloc o1).alloc o2).alloc o3).drew := by
  obtain ⟨a, b, c, d, e⟩ := box3 V o0 o1 o2
  obtain ⟨f, g, h⟩ := box1 (((V.alloc o0).alloc o1).alloc o2) o3
  rw [e] at f
  have := hB.size
  exact ⟨by omega, f, ((btrans hB d).trans (g.mono (by omega))).drew⟩
theorem size59 : (Try.prog.info? 59).map (·.size) = some 5 := by kernel_rfl
theorem size64 : (Try.prog.info? 64).map (·.size) = some 11 := by kernel_rfl
def nwP (s r : ByteArray) : Ph := ⟨s, (exF s).h, 0, -1, false, r, (exF r).h, 0, -1, -1, -1, -1, -1, ⟨#[]⟩, false, 0⟩
def NewOk (s r : ByteArray) (w : World) (e : Ending) (w' : World) : Prop := ∃ b, e = .returned (.tuple #[.pointer (some ⟨b, 0, none⟩), .int .i64 0]) ∧ w.heap.size ≤ b ∧ w'.heap[b]? = some (.cells (nwP s r).cells 66 (0, 0)) ∧ Below w.heap.size w w'
set_option maxRecDepth 100000 in
set_option maxHeartbeats 8000000 in
theorem new_any (s r : ByteArray) (w : World) (hs : s.size = 16) (hr : r.size = 16) : Calls Try.prog 21 #[.string s, .string r] w (NewOk s r w) := by
  have E1 := Lib.hid (fun w => ex_any s w hs)
  have E2 := Lib.hid (fun w => ex_any r w hr)
  unfold NewOk nwP
  generalize exF s = y at *
  generalize exF r = z at *
  obtain ⟨y0, y1, y2, y3⟩ := y
  obtain ⟨z0, z1, z2, z3⟩ := z
  unfold Ky.val Ky.cells at *
  simp only at *
  clear hs hr
  go_enter Try.func21, Try.ntmps21
  go_wp2_with fail
  refine (E1.out _).mono ?_
  rintro e w1 ⟨rfl, hb1⟩
  have HB1 := Lib.hid hb1
  have F1 := Lib.hid (box1 w1 (.cells #[.string y0, .string y1, .string y2, .string y3] 42))
  clear hb1
  go_wp2_with fail
  generalize w1.alloc (.cells #[.string y0, .string y1, .string y2, .string y3] 42) = V1 at F1 ⊢
  refine (E2.out _).mono ?_
  rintro e w2 ⟨rfl, hb2⟩
  have HB2 := Lib.hid (And.intro (heap_below hb2 F1.out.1) (btrans (btrans HB1.out (F1.out.2.1)) hb2))
  have k3 : w2.cell? ⟨w1.heap.size, 3, none⟩ = some (.string y3) := at_whole HB2.out.1 3 rfl
  have lk : w1.heap.size < w2.heap.size := heap_lt HB2.out.1
  have F2 := Lib.hid (box2 w2 (.cells #[.string z0, .string z1, .string z2, .string z3] 42) (.cells #[.string s, .string y3, .int .i64 0, .int .i64 (-1), .bool false] 59))
  clear hb2
  go_wp2_with fail
  have q3 : ((w2.alloc (.cells #[.string z0, .string z1, .string z2, .string z3] 42)).alloc (.cells #[.string s, .string y3, .int .i64 0, .int .i64 (-1), .bool false] 59)).cell? ⟨w2.heap.size, 3, none⟩ = some (.string z3) := at_whole F2.out.1 3 rfl
  generalize ((w2.alloc (.cells #[.string z0, .string z1, .string z2, .string z3] 42)).alloc (.cells #[.string s, .string y3, .int .i64 0, .int .i64 (-1), .bool false] 59)) = V at F2 q3 ⊢
  have lq : w2.heap.size < V.heap.size := heap_lt F2.out.1
  clear k3 lk
  go_region_held3 (fun w' => w'.cell? ⟨w2.heap.size, 3, none⟩ = some (.string z3)) (first | exact q3 | exact cell_alloc_l _ q3 | exact cell_alloc_l _ (cell_alloc_l _ q3) | exact cell_alloc_l _ (cell_alloc_l _ (cell_alloc_l _ q3))) (first | (go_at_call 26; refine (none_ex _).mono ?_; rintro e w' ⟨rfl, rfl⟩))
  all_goals
    go_wp2_with (first | (refine wpList_load_row rfl 59 _ rfl (w2.heap.size + 1) rfl 59 #[.string s, .string y3, .int .i64 0, .int .i64 (-1), .bool false] (0, 0) _ (heap3d V _ _ _ F2.out.2.1) Try.underlying59 rfl size59 ?_) | (refine wpList_load_row rfl 64 _ rfl _ rfl 64 #[.string r, .string z3, .int .i64 0, .int .i64 (-1), .int .i64 (-1), .int .i64 (-1), .int .i64 (-1), .int .i64 (-1), .string ⟨#[]⟩, .bool false, .int .i64 0] (0, 0) _ (box3d V _ _ _).1 Try.underlying64 rfl size64 ?_) | (refine wpList_load_row rfl 64 _ rfl _ rfl 64 #[.string r, .string z3, .int .i64 0, .int .i64 (-1), .int .i64 (-1), .int .i64 (-1), .int .i64 (-1), .int .i64 (-1), .string ⟨#[]⟩, .bool false, .int .i64 0] (0, 0) _ (box3d V _ _ _).2.1 Try.underlying64 rfl size64 ?_) | (refine wpList_load_row rfl 64 _ rfl _ rfl 64 #[.string r, .string z3, .int .i64 0, .int .i64 (-1), .int .i64 (-1), .int .i64 (-1), .int .i64 (-1), .int .i64 (-1), .string ⟨#[]⟩, .bool false, .int .i64 0] (0, 0) _ (box3d V _ _ _).2.2.1 Try.underlying64 rfl size64 ?_))
    go_ret2
    exact ⟨_, rfl, nw_close (btrans HB2.out.2 F2.out.2.2.1) _ _ _ _⟩
set_option maxRecDepth 100000 in
set_option maxHeartbeats 4000000 in
theorem new_bad (s r : ByteArray) (w : World) (hs : s.size ≠ 16) (hr : r.size = 16) : Calls Try.prog 21 #[.string s, .string r] w fun e w' => e = .returned (.tuple #[.pointer none, .int .i64 2]) ∧ Below w.heap.size w w' := by
  have E1 := Lib.hid (fun w => ex_bad s w hs)
  have E2 := Lib.hid (fun w => ex_any r w hr)
  generalize exF r = z at *
  obtain ⟨z0, z1, z2, z3⟩ := z
  unfold Ky.val Ky.cells at *
  simp only at *
  clear hs hr
  go_enter Try.func21, Try.ntmps21
  go_wp2_with fail
  refine (E1.out _).mono ?_
  rintro e w1 ⟨rfl, hb1⟩
  have HB1 := Lib.hid hb1
  have F1 := Lib.hid (box1 w1 (.cells #[.string ⟨#[]⟩, .string ⟨#[]⟩, .string ⟨#[]⟩, .string ⟨#[]⟩] 42))
  clear hb1
  go_wp2_with fail
  generalize w1.alloc (.cells #[.string ⟨#[]⟩, .string ⟨#[]⟩, .string ⟨#[]⟩, .string ⟨#[]⟩] 42) = V1 at F1 ⊢
  refine (E2.out _).mono ?_
  rintro e w2 ⟨rfl, hb2⟩
  have HB2 := Lib.hid (btrans (btrans HB1.out (F1.out.2.1)) hb2)
  clear hb2
  go_wp2
  go_ret2
  exact ⟨rfl, HB2.out.alloc HB2.out.size _⟩
end Go.Proofs.Ytieiplalnekmkaa
