/- Law 13: encode at an ACK frame. -/
import Derived.Test.YtafkndhnbnpahaaGreatQ
import Derived.Deep.RegionWith
namespace Go.Proofs.YtafkndhnbnpahaaGreat
open Go.RowKit Go.Maps
/-- string([]byte{2}) -/
theorem conv1 (b : Nat) (w : World) (h : w.heap[b]? = some (.cells #[.int .u8 2] 5 (0, 0))) : (convert 119 9 (.slice (some ⟨b, 0, none⟩) 1 1)).run Tryz.prog w = .ok (.string (strOfNums [2])) w :=
  run_convert_bytes_arg (P := Tryz.prog) w 119 5 Tryz.underlying119 Tryz.underlying5 b 0 1 1 [2] (by decide) (fun i hi => by
    have e : i = 0 := by omega
    subst e
    exact at_whole h 0 rfl) 9 Tryz.underlying9
/-- behind w1: a block of a frame's own, made first; nothing that lay in w1 has turned -/
structure Eb (w1 : World) (cs : Array Value) (W : World) : Prop where
  new : W.heap[w1.heap.size]? = some (.cells cs 41 (0, 0))
  bel : Below w1.heap.size w1 W
theorem Eb.below {w1 W W' : World} {cs : Array Value} (h : Eb w1 cs W) (hb : Below W.heap.size W W') : Eb w1 cs W' := ⟨heap_below hb h.new, h.bel.trans (hb.mono h.bel.size)⟩
theorem Eb.alloc {w1 W : World} {cs : Array Value} (h : Eb w1 cs W) (o : Obj) : Eb w1 cs (W.alloc o) := h.below ((Below.refl _ _).alloc (Nat.le_refl _) _)
theorem Eb.set {w1 W : World} {cs : Array Value} (h : Eb w1 cs W) (i : Nat) (v : Value) : Eb w1 (cs.setIfInBounds i v) (W.setCell ⟨w1.heap.size, i, none⟩ v) := ⟨heap_set v h.new, h.bel.setCell (p := ⟨w1.heap.size, i, none⟩) (Nat.le_refl _) _⟩
theorem Eb.old {w1 W : World} {cs : Array Value} (h : Eb w1 cs W) {k : Nat} {o : Obj} (hk : w1.heap[k]? = some o) : W.heap[k]? = some o := heap_below h.bel hk
theorem size41 : (Tryz.prog.info? 41).map (·.size) = some 13 := by kernel_rfl
set_option maxRecDepth 100000 in
set_option maxHeartbeats 8000000 in
theorem encode_ack (d : Int) (rv : Value) (n : Nat) (F T : Nat → Int) (w : World) (h0 : 0 ≤ d) (h1 : d ≤ 4611686018427387903) (hR : RgOk n F T) (hS : SpansAt w rv n F T) :
    Calls Tryz.prog 65 #[.agg (ackE d rv)] w fun e w' => ∃ s, e = .returned (.string s) ∧ Below w.heap.size w w' := by
  have HR := Lib.hid hR
  obtain ⟨g0, o0, c0, hrv, q1, q2, q3⟩ := hS
  subst hrv
  have HS := Lib.hid (show SpansAt w (.slice (some ⟨g0, o0, none⟩) n c0) n F T from ⟨g0, o0, c0, rfl, q1, q2, q3⟩)
  clear q1 q2 q3
  clear hR
  have X := Lib.hid (box1 w (.cells (ackE d (.slice (some ⟨g0, o0, none⟩) n c0)) 41))
  have XC := Lib.hid (fun (W : World) (h : W.heap[w.heap.size]? = some (.cells (ackE d (.slice (some ⟨g0, o0, none⟩) n c0)) 41 (0, 0))) => (show W.cell? ⟨w.heap.size, 0, none⟩ = some (.int .i64 2) ∧ W.cell? ⟨w.heap.size, 4, none⟩ = some (.bool false) from ⟨at_whole h 0 rfl, at_whole h 4 rfl⟩))
  have x0 := XC.out _ X.out.1
  obtain ⟨x0, x4⟩ := x0
  unfold ackE at *
  go_enter Tryz.func65, Tryz.ntmps65
  go_wp2
  generalize hV : w.alloc _ = V at X x0 x4 ⊢
  clear hV
  go_region_with ((go_at_call 78; refine (parts_any _).mono ?_; rintro e w1 ⟨M, bx, L, m, rfl, hM, hL, hb, h7, h12, n0, n1⟩; obtain ⟨g, cs, hg, hcs, z7, z12, hlook⟩ := ack_row hM hL; have hx := Lib.hid (heap_below (below_drew hb) X.out.1); have y0 := (XC.out _ hx.out).1; have y4 := (XC.out _ hx.out).2; have HG := Lib.hid (And.intro hg (And.intro hcs (And.intro h7 (And.intro h12 (And.intro n0 n1))))); have HB := Lib.hid (btrans X.out.2.1 (below_drew hb)); clear hM hL hb h7 h12 n0 n1 hg hcs z7 z12))
  all_goals
    go_wp2_with (first | (refine wpList_load_row rfl 41 _ rfl w.heap.size rfl 41 _ (0, 0) _ hx.out Tryz.underlying41 rfl size41 ?_) | (refine wpList_store_row rfl 41 _ _ rfl w1.heap.size _ rfl rfl 41 _ (heap_alloc_new _ _) size41 rfl rfl ?_; rw [World.setRow_alloc_new]))
    have F2 := Lib.hid (box2 w1 (.cells #[.int .i64 2, .int .i64 0, .int .i64 0, .string ⟨#[]⟩, .bool false, .int .i64 0, .int .i64 0, .bool false, .int .i64 d, .slice (some ⟨g0, o0, none⟩) n c0, .int .i64 0, .int .i64 0, .string ⟨#[]⟩] 41) (.cells #[.int .u8 2] 5))
    generalize (w1.alloc _).alloc _ = W2 at F2 ⊢
    rw [conv1 _ _ F2.out.2.1]
    simp only [Result.andThen]
    rw [Oper.upon_value]
    have E2 := Lib.hid (Eb.mk F2.out.1 F2.out.2.2.1)
    have G1 := Lib.hid (show w1.heap[g]? = some (.cells (intP m ++ rngP) 124 (0, 0)) from by
      obtain ⟨q1, q2, q3, q4, _, _⟩ := HG.out
      rw [q2, q3, q4] at q1
      exact q1)
    have hz : (strOfNums [2]).size = 1 := by decide
    generalize strOfNums [2] = s0 at *
    clear F2 x0 x4 y0 y4 hlook XC
    go_wp2
    refine wp_loop_rounds 3 ?_
    rw [rounds_succ]
    have p0 := at_whole (E2.out.old G1.out) 0 rfl
    have p1 := at_whole (E2.out.old G1.out) 1 rfl
    have p2 := at_whole (E2.out.old G1.out) 2 rfl
    simp only [intP, rngP, fnv] at p0 p1 p2
    go_wp2_with fail
    have E3 := Lib.hid (E2.out.alloc (.cells (intP m) 124))
    have P3 := Lib.hid (heap_alloc_new W2 (.cells (intP m) 124))
    simp only [intP] at E3 P3
    generalize W2.alloc _ = W3 at E3 P3 ⊢
    refine (putDelay_any w.heap.size m d 4611686018427387903 _ h0 h1 h1 (at_whole (E3.out.old hx.out) 8 rfl) (at_whole (E3.out.old HG.out.2.2.2.2.2) 0 rfl) (at_whole (E3.out.old HG.out.2.2.2.2.1) 0 rfl)).mono ?_
    rintro e W4 ⟨s1, hs1, rfl, hb4⟩
    have E4 := Lib.hid (E3.out.below hb4)
    have r2 := at_whole (heap_below hb4 P3.out) 2 rfl
    have z1 : (9223372036854775807 < s0.size + s1.size) = False := eq_false (by omega)
    simp only [List.getElem_toArray, List.getElem_cons_zero, List.getElem_cons_succ] at r2
    clear E2 E3 hb4 p0 p1 p2 P3
    go_wp2_with fail
    refine (clearDelay_any w1.heap.size m _ _ E4.out.new rfl (at_whole (E4.out.old HG.out.2.2.2.2.2) 0 rfl)).mono ?_
    rintro e W5 ⟨rfl, rfl⟩
    have E5 := Lib.hid (E4.out.set 8 (.int .i64 0))
    simp only [List.setIfInBounds_toArray, List.set_cons_zero, List.set_cons_succ] at E5
    generalize W4.setCell _ _ = W5 at E5 ⊢
    have hz1 : (s0 ++ s1).size ≤ 281 := by rw [ByteArray.size_append]; omega
    generalize s0 ++ s1 = s2 at hz1 ⊢
    clear E4 r2 z1 hz hs1
    go_wp2
    rw [rounds_succ]
    have p3 := at_whole (E5.out.old G1.out) 3 rfl
    have p4 := at_whole (E5.out.old G1.out) 4 rfl
    have p5 := at_whole (E5.out.old G1.out) 5 rfl
    simp only [intP, rngP, fnv] at p3 p4 p5
    go_wp2_with fail
    have E6 := Lib.hid (E5.out.alloc (.cells rngP 124))
    have P6 := Lib.hid (heap_alloc_new W5 (.cells rngP 124))
    simp only [rngP, fnv] at E6 P6
    generalize W5.alloc _ = W6 at E6 P6 ⊢
    refine (putRanges_any w.heap.size n F T _ _ _ HR.out (HS.out.below (btrans HB.out E6.out.bel)) (E6.out.old hx.out) rfl).mono ?_
    rintro e W7 ⟨s3, hs3, rfl, hb7⟩
    have E7 := Lib.hid (E6.out.below hb7)
    have r8 := at_whole (heap_below hb7 P6.out) 2 rfl
    have z2 : (9223372036854775807 < s2.size + s3.size) = False := eq_false (by omega)
    simp only [List.getElem_toArray, List.getElem_cons_zero, List.getElem_cons_succ] at r8
    clear E5 E6 hb7 p3 p4 p5 P6
    go_wp2_with fail
    refine (clearRanges_any w1.heap.size _ _ E7.out.new rfl).mono ?_
    rintro e W8 ⟨rfl, rfl⟩
    have E8 := Lib.hid (E7.out.set 9 (.slice none 0 0))
    simp only [List.setIfInBounds_toArray, List.set_cons_zero, List.set_cons_succ] at E8
    generalize W7.setCell _ _ = W8 at E8 ⊢
    clear E7 r8 z2
    go_wp2
    rw [rounds_succ]
    have x0 := at_whole (E8.out.old hx.out) 0 rfl
    simp only [List.getElem_toArray, List.getElem_cons_zero] at x0
    go_wp2_with (first | (refine wpList_load_row rfl 41 _ rfl w1.heap.size rfl 41 _ (0, 0) _ E8.out.new Tryz.underlying41 rfl size41 ?_) | (go_at_call 79; refine (same_ack _).mono ?_; rintro e W9 ⟨rfl, hb9⟩))
    go_ret
    exact ⟨_, rfl, HB.out.trans ((E8.out.below hb9).bel.mono HB.out.size)⟩
end Go.Proofs.YtafkndhnbnpahaaGreat
