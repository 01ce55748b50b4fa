/- Law 20: params' Compatible. -/
import Derived.Test.YtddfikijehmoiaaDoorJ
namespace Go.Proofs.YtddfikijehmoiaaDoor
open Go.RowKit Go.Shelf
attribute [local go_sem] Oper.semAt_some
def oldv (o : Pm) (g : Nat) : Int := o.vals[g - 32]?.getD 0
def okC (o : Pm) (x : Fd × Int) : Bool := !(x.1.2.2.2 && decide (x.2 < oldv o x.1.1))
def compB (o p : Pm) : Bool := vldP o && (vldP p && (items p).all (okC o))
def okM (o : Pm) {p : Pm} (l : List {x : Fd × Int // x ∈ items p}) : Bool := l.all fun x => okC o x.1
theorem okM_snoc (o : Pm) {p : Pm} (l : List {x : Fd × Int // x ∈ items p}) (x) : okM o (l ++ [x]) = (okM o l && okC o x.1) := by simp [okM]
theorem okM_all (o : Pm) {p : Pm} (l : List {x : Fd × Int // x ∈ items p}) (h : l.map (·.1) = items p) : okM o l = (items p).all (okC o) := by
  have := congrArg (fun z => z.all (okC o)) h
  rw [List.all_map] at this
  exact this
theorem okM_part (o : Pm) {p : Pm} (l : List {x : Fd × Int // x ∈ items p}) (h : l.map (·.1) <+: items p) (hl : okM o l = false) : (items p).all (okC o) = false := by
  obtain ⟨t, ht⟩ := h
  rw [← ht, List.all_append, List.all_map]
  have : (l.all (okC o ∘ fun x => x.1)) = false := hl
  rw [this]; rfl
theorem item_at {p : Pm} (x : Fd × Int) (hx : x ∈ items p) : x = ((32, 0, 1073741824, true), p.a) ∨ x = ((33, 0, 1073741824, true), p.b) ∨ x = ((34, 0, 64, true), p.c) ∨ x = ((35, 0, 64, true), p.d) ∨ x = ((36, 0, 20, false), p.e) ∨ x = ((37, 50, 100000, false), p.f) := by
  simpa [items, fTab, Pm.vals] using hx
theorem three (o p : Pm) (w : World) : ∃ w3, w3 = ((w.alloc (.cells o.cells 23)).alloc (.cells p.cells 23)).alloc (.cells #[.bool false] 4) ∧ w3.heap.size = w.heap.size + 3 ∧ w3.heap[w.heap.size]? = some (.cells o.cells 23 (0, 0)) ∧ w3.heap[w.heap.size + 1]? = some (.cells p.cells 23 (0, 0)) ∧ Boxed w3 (w.heap.size + 2) 4 (.bool false) ∧ Below w.heap.size w w3 := by
  refine ⟨_, rfl, by simp, ?_, ?_, ?_, (((Below.refl _ w).alloc (Nat.le_refl _) _).alloc (by simp) _).alloc (by simp; omega) _⟩
  · exact (Below.heap_alloc _ _ _ (by simp; omega)).trans ((Below.heap_alloc _ _ _ (by simp)).trans (heap_alloc_new w _))
  · have := heap_alloc_new (w.alloc (.cells o.cells 23)) (.cells p.cells 23)
    rw [World.size_alloc] at this
    exact (Below.heap_alloc _ _ _ (by simp)).trans this
  · have := Boxed.new ((w.alloc (.cells o.cells 23)).alloc (.cells p.cells 23)) 4 (.bool false)
    rw [World.size_alloc, World.size_alloc] at this
    exact this
def CompPost (r : Bool) (w : World) (e : Ending) (w' : World) : Prop := e = .returned (.bool r) ∧ Below w.heap.size w w'
set_option maxRecDepth 100000 in
set_option maxHeartbeats 2000000 in
theorem comp_no1 (o p : Pm) (a : Addr) (w : World) (h0 : w.cell? ⟨0, 0, none⟩ = some (.iface 98 (.pointer (some a)))) (h : vldP o = false) :
    Calls Tryd.prog 14 #[.agg o.cells, .agg p.cells] w (CompPost false w) := by
  have h00 : 0 < w.heap.size := World.block_lt_of_cell? _ _ h0
  obtain ⟨w3, hw3, hz, b1, b2, b3, hB⟩ := three o p w
  have V := Lib.hid (valid_any o a w3 ((hB.cell (p := ⟨0, 0, none⟩) h00).trans h0))
  rw [h] at V
  have HF := Lib.hid (fun w' (h : Below w3.heap.size w3 w') => (Boxed.cell (show Boxed w' (w.heap.size + 2) 4 (.bool false) from heap_below h b3)))
  have HG := Lib.hid (fun w' (h : Below w3.heap.size w3 w') => (Boxed.frozen (show Boxed w' (w.heap.size + 2) 4 (.bool false) from heap_below h b3)))
  have HC := Lib.hid (fun w' (h : Below w3.heap.size w3 w') => (show Boxed w' (w.heap.size + 2) 4 (.bool false) from heap_below h b3))
  have HB := Lib.hid hB
  rw [hw3] at V HF HG HB HC
  clear h h0 hz b1 b2 b3 hw3 hB
  unfold Pm.cells at *
  go_enter Tryd.func14, Tryd.ntmps14
  go_wp2_with (go_at_call 13; refine V.out.mono ?_; rintro e w4 ⟨rfl, hb⟩; have cR := HF.out _ hb; have fR := HG.out _ hb)
  refine bodyPost_ret (v := .bool false) (by have hc5 := ((HC.out _ hb).set (.bool false)).cell; simp [results, Tryd.f14, go_sem, hc5]) rfl ⟨rfl, (btrans HB.out hb).setCell (by dsimp; omega) _⟩
set_option maxRecDepth 100000 in
set_option maxHeartbeats 2000000 in
theorem comp_no2 (o p : Pm) (a : Addr) (w : World) (h0 : w.cell? ⟨0, 0, none⟩ = some (.iface 98 (.pointer (some a)))) (h1 : vldP o = true) (h : vldP p = false) :
    Calls Tryd.prog 14 #[.agg o.cells, .agg p.cells] w (CompPost false w) := by
  have h00 : 0 < w.heap.size := World.block_lt_of_cell? _ _ h0
  obtain ⟨w3, hw3, hz, b1, b2, b3, hB⟩ := three o p w
  have h3 := (hB.cell (p := ⟨0, 0, none⟩) h00).trans h0
  have V := Lib.hid (valid_any o a w3 h3)
  have V2 := Lib.hid (fun w' (h : Below w3.heap.size w3 w') => valid_any p a w' ((h.cell (p := ⟨0, 0, none⟩) (World.block_lt_of_cell? _ _ h3)).trans h3))
  rw [h1] at V
  rw [h] at V2
  have HP := Lib.hid (fun w' (h : Below w3.heap.size w3 w') => box6 (heap_below h b2))
  have HF := Lib.hid (fun w' (h : Below w3.heap.size w3 w') => (Boxed.cell (show Boxed w' (w.heap.size + 2) 4 (.bool false) from heap_below h b3)))
  have HG := Lib.hid (fun w' (h : Below w3.heap.size w3 w') => (Boxed.frozen (show Boxed w' (w.heap.size + 2) 4 (.bool false) from heap_below h b3)))
  have HC := Lib.hid (fun w' (h : Below w3.heap.size w3 w') => (show Boxed w' (w.heap.size + 2) 4 (.bool false) from heap_below h b3))
  have HB := Lib.hid hB
  rw [hw3] at V V2 HF HG HB HP HC
  clear h h0 h1 h3 hz b1 b2 b3 hw3 hB
  unfold Pm.cells at *
  have T0 := Lib.hid trivial
  go_enter Tryd.func14, Tryd.ntmps14
  go_wp2_with (first
    | (go_at_call 13; have T1 := Lib.hid T0.out; clear T0; refine V.out.mono ?_; rintro e w4 ⟨rfl, hb⟩; obtain ⟨k0, k1, k2, k3, k4, k5⟩ := HP.out _ hb; clear V)
    | (go_at_call 13; refine (V2.out _ hb).mono ?_; rintro e w5 ⟨rfl, hb2⟩; have hb3 := btrans hb hb2; have cR := HF.out _ hb3; have fR := HG.out _ hb3))
  refine bodyPost_ret (v := .bool false) (by have hc5 := ((HC.out _ hb3).set (.bool false)).cell; simp [results, Tryd.f14, go_sem, hc5]) rfl ⟨rfl, (btrans HB.out hb3).setCell (by dsimp; omega) _⟩
def decC (o : Pm) (p : Pm) : Bool := (items p).all (okC o)
set_option maxRecDepth 100000 in
set_option maxHeartbeats 4000000 in
theorem comp_yes (o p : Pm) (a : Addr) (w : World) (h0 : w.cell? ⟨0, 0, none⟩ = some (.iface 98 (.pointer (some a)))) (h1 : vldP o = true) (h : vldP p = true) :
    Calls Tryd.prog 14 #[.agg o.cells, .agg p.cells] w (CompPost (decC o p) w) := by
  have h00 : 0 < w.heap.size := World.block_lt_of_cell? _ _ h0
  obtain ⟨w3, hw3, hz, b1, b2, b3, hB⟩ := three o p w
  have h3 := (hB.cell (p := ⟨0, 0, none⟩) h00).trans h0
  have V := Lib.hid (valid_any o a w3 h3)
  have V2 := Lib.hid (fun w' (h : Below w3.heap.size w3 w') => valid_any p a w' ((h.cell (p := ⟨0, 0, none⟩) (World.block_lt_of_cell? _ _ h3)).trans h3))
  rw [h1] at V
  rw [h] at V2
  have VA := Lib.hid (vals_any p)
  have HP := Lib.hid (fun w' (h : Below w3.heap.size w3 w') => box6 (heap_below h b2))
  have HO := Lib.hid (fun w' (h : Below w3.heap.size w3 w') => heap_below h b1)
  have HC := Lib.hid (fun w' (h : Below w3.heap.size w3 w') => (show Boxed w' (w.heap.size + 2) 4 (.bool false) from heap_below h b3))
  have HB := Lib.hid hB
  have HZ := Lib.hid hz
  rw [hw3] at V V2 HB HP HO HC HZ
  clear h h0 h1 h3 hz b1 b2 b3 hw3 hB
  unfold Pm.cells at V V2 VA HB HP HC HZ ⊢
  have T0 := Lib.hid trivial
  refine (callsIn_wide (n := 4)).1 ?_
  refine callsIn_of_wp_marks Tryd.func14 rfl trivial ?_ rfl
  simp only [Tryd.ntmps14, List.size_toArray, List.length_cons, List.length_nil, Nat.reduceAdd, Nat.reduceSub, Array.replicate_succ, Array.replicate_zero, List.push_toArray, List.append_toArray, List.nil_append, List.cons_append]
  gi_wp2_with (first
    | (refine ⟨trivial, ?_⟩; gi_at_call 13; have T1 := Lib.hid T0.out; clear T0; refine (callsIn_wide.2 V.out).mono ?_; rintro e w4 ⟨rfl, hb⟩; obtain ⟨k0, k1, k2, k3, k4, k5⟩ := HP.out _ hb; clear V)
    | (refine ⟨trivial, ?_⟩; gi_at_call 13; refine (callsIn_wide.2 (V2.out _ hb)).mono ?_; rintro e w5 ⟨rfl, hb2⟩; have hb3 := btrans hb hb2; clear k0 k1 k2 k3 k4 k5; obtain ⟨k0, k1, k2, k3, k4, k5⟩ := HP.out _ hb3)
    | (refine ⟨trivial, ?_⟩; gi_at_call 19; refine (callsIn_wide.2 (VA.out _)).mono ?_; rintro e w' ⟨rfl, rfl⟩))
  have hz5 : w.heap.size + 3 ≤ w5.heap.size := by have := hb3.size; rw [HZ.out] at this; exact this
  have hb4 := btrans HB.out hb3
  have b5 := HC.out _ hb3
  have o5 := HO.out _ hb3
  clear hb hb2 hb3 k0 k1 k2 k3 k4 k5
  obtain ⟨w6, hw6⟩ : ∃ w6, w5.alloc (.cells #[.int .i64 p.a, .int .i64 p.b, .int .i64 p.c, .int .i64 p.d, .int .i64 p.e, .int .i64 p.f] 23) = w6 := ⟨_, rfl⟩
  have hz6 : w5.heap.size + 1 ≤ w6.heap.size := by rw [← hw6]; simp
  have bP : w6.heap[w5.heap.size]? = some (.cells p.cells 23 (0, 0)) := by rw [← hw6]; exact heap_alloc_new w5 _
  have bR : Boxed w6 (w.heap.size + 2) 4 (.bool false) := by rw [← hw6]; exact b5.alloc _
  have bO : w6.heap[w.heap.size]? = some (.cells o.cells 23 (0, 0)) := by rw [← hw6]; exact (Below.heap_alloc _ _ _ (heap_lt o5)).trans o5
  have hB0 : Below w.heap.size w w6 := by rw [← hw6]; exact hb4.alloc hb4.size _
  rw [hw6]
  clear b5 o5 hb4
  have HW := Lib.hid hw6
  clear hw6
  refine wpIn_rangeFunc_ownH rfl (by decide) (gf := 25) (lb := #[.pointer (some ⟨w5.heap.size, 0, none⟩)]) rfl trivial (enters_of Tryd.func25 (by kernel_rfl) rfl)
    (vals_stops (4 - 1) (by decide) w5.heap.size p w6 bP) KeepB.tr (KeepB.put (by omega)) (Below.refl _ _) (fun _ => rfl)
    (fun pre W => (okM o pre = true ∧ Boxed W (w.heap.size + 2) 4 (.bool false) ∧ W.heap[w.heap.size]? = some (.cells o.cells 23 (0, 0)) ∧ w6.heap.size ≤ W.heap.size) ∧ Below w.heap.size w W)
    (fun c pre W => (c = .ret ∧ okM o pre = false ∧ Boxed W (w.heap.size + 2) 4 (.bool false)) ∧ Below w.heap.size w W)
    (OwnFrom.and (Own.from (fun s A B row hs hg hr => ⟨hs.1, boxed_own _ _ (fun (_ : Unit) => Value.bool false) () A B row hs.2.1 hg hr, blk_own (β := Unit) _ _ _ () A B row hs.2.2.1 hg hr, Nat.le_trans hs.2.2.2 hg.size⟩) _) (ownFrom_below (Nat.le_refl _) (by omega)))
    (fun c => OwnFrom.and (Own.from (fun s A B row hs hg hr => ⟨hs.1, hs.2.1, boxed_own _ _ (fun (_ : Unit) => Value.bool false) () A B row hs.2.2 hg hr⟩) _) (ownFrom_below (Nat.le_refl _) (by omega)))
    ⟨⟨rfl, bR, bO, Nat.le_refl _⟩, hB0⟩
    (fun x a' W => ∃ Bx, w5.heap.size < Bx ∧ W.heap[Bx]? = some (.cells (fd x.1.1) 57 (0, 0)) ∧ a' = { tmps := #[Value.agg #[Value.int IntKind.i64 o.a, Value.int IntKind.i64 o.b, Value.int IntKind.i64 o.c, Value.int IntKind.i64 o.d, Value.int IntKind.i64 o.e, Value.int IntKind.i64 o.f], Value.agg #[Value.int IntKind.i64 p.a, Value.int IntKind.i64 p.b, Value.int IntKind.i64 p.c, Value.int IntKind.i64 p.d, Value.int IntKind.i64 p.e, Value.int IntKind.i64 p.f], Value.pointer (some { block := w.heap.size, off := 0 }), Value.pointer (some { block := w.heap.size + 1, off := 0 }), Value.pointer (some { block := w.heap.size + 1 + 1, off := 0 }), .pointer (some ⟨Bx, 0, none⟩), .int .i64 x.1.2, Value.agg #[Value.int IntKind.i64 o.a, Value.int IntKind.i64 o.b, Value.int IntKind.i64 o.c, Value.int IntKind.i64 o.d, Value.int IntKind.i64 o.e, Value.int IntKind.i64 o.f], .bool true, .bool false, .bool false, Value.agg #[Value.int IntKind.i64 p.a, Value.int IntKind.i64 p.b, Value.int IntKind.i64 p.c, Value.int IntKind.i64 p.d, Value.int IntKind.i64 p.e, Value.int IntKind.i64 p.f], .bool true, .bool false, .bool false, Value.agg #[Value.int IntKind.i64 p.a, Value.int IntKind.i64 p.b, Value.int IntKind.i64 p.c, Value.int IntKind.i64 p.d, Value.int IntKind.i64 p.e, Value.int IntKind.i64 p.f], Value.func (Fn.func 25) #[] #[Value.pointer (some { block := w5.heap.size, off := 0 })], .agg (fd x.1.1), .int .i64 x.1.2, undef, undef, undef, undef, undef, undef, undef, undef, undef, undef, undef], defers := [] })
    (fun x a' _ X Y row hs hg hr => by obtain ⟨Bx, g1, g2, g3⟩ := hs; exact ⟨Bx, g1, blk_own (β := Unit) Bx _ 57 () X Y row g2 hg (fun r e => (hr r e).2), g3⟩)
    ?assign ?body ?done ?stop
  case assign =>
    rintro l pre x W K ⟨⟨hok, bR1, bO1, hsz⟩, hB1⟩ hK
    simp only [encI, fd] at hK ⊢
    gi_wp2
    exact hK _ _ ((KeepsOthers.alloc _ _).from _) (KeepB.of_grown (World.grownBy_alloc W _ none) (by omega) (by simp)) ⟨⟨hok, bR1.alloc _, (Below.heap_alloc _ _ _ (heap_lt bO1)).trans bO1, by simp; omega⟩, hB1.alloc hB1.size _⟩ ⟨W.heap.size, by omega, heap_alloc_new W _, rfl⟩
  case body =>
    rintro l pre x a' W hl ⟨r, hr⟩ ⟨⟨hok, bR1, bO1, hsz⟩, hB1⟩ ⟨Bx, hBx, bX, rfl⟩ hlt
    obtain ⟨x, hmem⟩ := x
    have cR := bR1.cell
    have fR := bR1.frozen
    obtain ⟨q0, q1, q2, q3, q4, q5⟩ := box6 bO1
    have HB := Lib.hid hB1
    have HR := Lib.hid bR1
    have HOK := Lib.hid hok
    have HBO := Lib.hid bO1
    clear hB1 bR1 hok bO1 hlt
    rcases item_at x hmem with rfl | rfl | rfl | rfl | rfl | rfl
    · as_aux_lemma =>
        have c0 : W.cell? ⟨Bx, 0, none⟩ = some (.func (.func 32) #[] #[]) := by rw [cell_whole bX]; rfl
        have c3 : W.cell? ⟨Bx, 3, none⟩ = some (.bool true) := by rw [cell_whole bX]; rfl
        simp only [fd]
        by_cases h1 : p.a < o.a
        · have g1 : decide (p.a < o.a) = true := by simpa using h1
          have HE : Hid (okC o ((32, 0, 1073741824, true), p.a) = false) := Lib.hid (by show (!(true && decide (p.a < o.a))) = false; rw [g1]; rfl)
          gi_wp2_with (refine ⟨trivial, ?_⟩; gi_at_call 32; refine (CallsIn.inRound l (callsIn_wide.2 (get0 w.heap.size _))).mono ?_; rintro e w' ⟨rfl, rfl⟩)
          exact ⟨(KeepsOthers.setCell _ _ _).from _, ⟨rfl, by rw [okM_snoc]; simp only [HE.out, Bool.and_false], HR.out.set _⟩, HB.out.setCell (p := ⟨w.heap.size + 2, 0, none⟩) (by simp) _⟩
        · have g1 : decide (p.a < o.a) = false := by simpa using h1
          have HE : Hid (okC o ((32, 0, 1073741824, true), p.a) = true) := Lib.hid (by show (!(true && decide (p.a < o.a))) = true; rw [g1]; rfl)
          gi_wp2_with (refine ⟨trivial, ?_⟩; gi_at_call 32; refine (CallsIn.inRound l (callsIn_wide.2 (get0 w.heap.size _))).mono ?_; rintro e w' ⟨rfl, rfl⟩)
          exact ⟨(KeepsOthers.refl _).from _, KeepB.refl _ _, ⟨by rw [okM_snoc, HOK.out]; simp only [HE.out, Bool.and_true], HR.out, HBO.out, hsz⟩, HB.out⟩
    · as_aux_lemma =>
        have c0 : W.cell? ⟨Bx, 0, none⟩ = some (.func (.func 33) #[] #[]) := by rw [cell_whole bX]; rfl
        have c3 : W.cell? ⟨Bx, 3, none⟩ = some (.bool true) := by rw [cell_whole bX]; rfl
        simp only [fd]
        by_cases h1 : p.b < o.b
        · have g1 : decide (p.b < o.b) = true := by simpa using h1
          have HE : Hid (okC o ((33, 0, 1073741824, true), p.b) = false) := Lib.hid (by show (!(true && decide (p.b < o.b))) = false; rw [g1]; rfl)
          gi_wp2_with (refine ⟨trivial, ?_⟩; gi_at_call 33; refine (CallsIn.inRound l (callsIn_wide.2 (get1 w.heap.size _))).mono ?_; rintro e w' ⟨rfl, rfl⟩)
          exact ⟨(KeepsOthers.setCell _ _ _).from _, ⟨rfl, by rw [okM_snoc]; simp only [HE.out, Bool.and_false], HR.out.set _⟩, HB.out.setCell (p := ⟨w.heap.size + 2, 0, none⟩) (by simp) _⟩
        · have g1 : decide (p.b < o.b) = false := by simpa using h1
          have HE : Hid (okC o ((33, 0, 1073741824, true), p.b) = true) := Lib.hid (by show (!(true && decide (p.b < o.b))) = true; rw [g1]; rfl)
          gi_wp2_with (refine ⟨trivial, ?_⟩; gi_at_call 33; refine (CallsIn.inRound l (callsIn_wide.2 (get1 w.heap.size _))).mono ?_; rintro e w' ⟨rfl, rfl⟩)
          exact ⟨(KeepsOthers.refl _).from _, KeepB.refl _ _, ⟨by rw [okM_snoc, HOK.out]; simp only [HE.out, Bool.and_true], HR.out, HBO.out, hsz⟩, HB.out⟩
    · as_aux_lemma =>
        have c0 : W.cell? ⟨Bx, 0, none⟩ = some (.func (.func 34) #[] #[]) := by rw [cell_whole bX]; rfl
        have c3 : W.cell? ⟨Bx, 3, none⟩ = some (.bool true) := by rw [cell_whole bX]; rfl
        simp only [fd]
        by_cases h1 : p.c < o.c
        · have g1 : decide (p.c < o.c) = true := by simpa using h1
          have HE : Hid (okC o ((34, 0, 64, true), p.c) = false) := Lib.hid (by show (!(true && decide (p.c < o.c))) = false; rw [g1]; rfl)
          gi_wp2_with (refine ⟨trivial, ?_⟩; gi_at_call 34; refine (CallsIn.inRound l (callsIn_wide.2 (get2 w.heap.size _))).mono ?_; rintro e w' ⟨rfl, rfl⟩)
          exact ⟨(KeepsOthers.setCell _ _ _).from _, ⟨rfl, by rw [okM_snoc]; simp only [HE.out, Bool.and_false], HR.out.set _⟩, HB.out.setCell (p := ⟨w.heap.size + 2, 0, none⟩) (by simp) _⟩
        · have g1 : decide (p.c < o.c) = false := by simpa using h1
          have HE : Hid (okC o ((34, 0, 64, true), p.c) = true) := Lib.hid (by show (!(true && decide (p.c < o.c))) = true; rw [g1]; rfl)
          gi_wp2_with (refine ⟨trivial, ?_⟩; gi_at_call 34; refine (CallsIn.inRound l (callsIn_wide.2 (get2 w.heap.size _))).mono ?_; rintro e w' ⟨rfl, rfl⟩)
          exact ⟨(KeepsOthers.refl _).from _, KeepB.refl _ _, ⟨by rw [okM_snoc, HOK.out]; simp only [HE.out, Bool.and_true], HR.out, HBO.out, hsz⟩, HB.out⟩
    · as_aux_lemma =>
        have c0 : W.cell? ⟨Bx, 0, none⟩ = some (.func (.func 35) #[] #[]) := by rw [cell_whole bX]; rfl
        have c3 : W.cell? ⟨Bx, 3, none⟩ = some (.bool true) := by rw [cell_whole bX]; rfl
        simp only [fd]
        by_cases h1 : p.d < o.d
        · have g1 : decide (p.d < o.d) = true := by simpa using h1
          have HE : Hid (okC o ((35, 0, 64, true), p.d) = false) := Lib.hid (by show (!(true && decide (p.d < o.d))) = false; rw [g1]; rfl)
          gi_wp2_with (refine ⟨trivial, ?_⟩; gi_at_call 35; refine (CallsIn.inRound l (callsIn_wide.2 (get3 w.heap.size _))).mono ?_; rintro e w' ⟨rfl, rfl⟩)
          exact ⟨(KeepsOthers.setCell _ _ _).from _, ⟨rfl, by rw [okM_snoc]; simp only [HE.out, Bool.and_false], HR.out.set _⟩, HB.out.setCell (p := ⟨w.heap.size + 2, 0, none⟩) (by simp) _⟩
        · have g1 : decide (p.d < o.d) = false := by simpa using h1
          have HE : Hid (okC o ((35, 0, 64, true), p.d) = true) := Lib.hid (by show (!(true && decide (p.d < o.d))) = true; rw [g1]; rfl)
          gi_wp2_with (refine ⟨trivial, ?_⟩; gi_at_call 35; refine (CallsIn.inRound l (callsIn_wide.2 (get3 w.heap.size _))).mono ?_; rintro e w' ⟨rfl, rfl⟩)
          exact ⟨(KeepsOthers.refl _).from _, KeepB.refl _ _, ⟨by rw [okM_snoc, HOK.out]; simp only [HE.out, Bool.and_true], HR.out, HBO.out, hsz⟩, HB.out⟩
    · as_aux_lemma =>
        have c0 : W.cell? ⟨Bx, 0, none⟩ = some (.func (.func 36) #[] #[]) := by rw [cell_whole bX]; rfl
        have c3 : W.cell? ⟨Bx, 3, none⟩ = some (.bool false) := by rw [cell_whole bX]; rfl
        simp only [fd]
        have HE : Hid (okC o ((36, 0, 20, false), p.e) = true) := Lib.hid rfl
        gi_wp2
        refine ⟨fun _ h => (by cases h), ?_⟩
        gi_wp2
        exact ⟨(KeepsOthers.refl _).from _, KeepB.refl _ _, ⟨by rw [okM_snoc, HOK.out]; simp only [HE.out, Bool.and_true], HR.out, HBO.out, hsz⟩, HB.out⟩
    · as_aux_lemma =>
        have c0 : W.cell? ⟨Bx, 0, none⟩ = some (.func (.func 37) #[] #[]) := by rw [cell_whole bX]; rfl
        have c3 : W.cell? ⟨Bx, 3, none⟩ = some (.bool false) := by rw [cell_whole bX]; rfl
        simp only [fd]
        have HE : Hid (okC o ((37, 50, 100000, false), p.f) = true) := Lib.hid rfl
        gi_wp2
        refine ⟨fun _ h => (by cases h), ?_⟩
        gi_wp2
        exact ⟨(KeepsOthers.refl _).from _, KeepB.refl _ _, ⟨by rw [okM_snoc, HOK.out]; simp only [HE.out, Bool.and_true], HR.out, HBO.out, hsz⟩, HB.out⟩
  case done =>
    rintro D ys W hD hys ⟨⟨hok, bR1, bO1, hsz⟩, hB1⟩ hK
    have e := Lib.hid (show decC o p = true by rw [← hok, okM_all o ys hys]; rfl)
    have cR := bR1.cell
    have fR := bR1.frozen
    clear bO1
    gi_wp2
    have hK' := (KeepsOthers.setCell W ⟨w.heap.size + 2, 0, none⟩ (.bool true)).same D _ hK rfl
    refine ⟨by simp, .inl ⟨_, _, rfl, run_takeDeferred hK', ?_⟩⟩
    have hc5 := cell_kept (World.cell?_setCell_same' W ⟨w.heap.size + 2, 0, none⟩ (.bool true) (by rw [cR]; rfl)) (grownBy_putObj' _ D (.deferred none)) (fun r e => by cases e; exact ⟨_, hK', rfl⟩)
    refine ⟨.bool true, ?_, by rw [e.out], (hB1.setCell (p := ⟨w.heap.size + 2, 0, none⟩) (by simp) _).trans (belowK_b (w := w) (Nat.le_refl _) _ D _ _ (by omega) hK' rfl rfl)⟩
    simp [results, Tryd.f14, go_sem, hc5]
  case stop =>
    rintro D c pre W hD ⟨hpre, hne⟩ ⟨⟨rfl, hok, bR1⟩, hB1⟩ hK
    have e := Lib.hid (show decC o p = false from okM_part o pre hpre hok)
    have cR := bR1.cell
    gi_wp2
    refine ⟨by simp, .inl ⟨_, _, rfl, run_takeDeferred hK, ?_⟩⟩
    have hc5 := cell_kept cR (grownBy_putObj' _ D (.deferred none)) (fun r e => by cases e; exact ⟨_, hK, rfl⟩)
    refine ⟨.bool false, ?_, by rw [e.out], hB1.trans (belowK_b (w := w) (Nat.le_refl _) W D _ _ (by omega) hK rfl rfl)⟩
    simp [results, Tryd.f14, go_sem, hc5]
theorem comp_any (o p : Pm) (a : Addr) (w : World) (h0 : w.cell? ⟨0, 0, none⟩ = some (.iface 98 (.pointer (some a)))) :
    Calls Tryd.prog 14 #[.agg o.cells, .agg p.cells] w fun e w' => e = .returned (.bool (compB o p)) ∧ Below w.heap.size w w' := by
  unfold compB
  by_cases h1 : vldP o = true
  · by_cases h2 : vldP p = true
    · rw [h1, h2, Bool.true_and, Bool.true_and]; exact comp_yes o p a w h0 h1 h2
    · rw [h1, Bool.true_and, show vldP p = false by simpa using h2, Bool.false_and]; exact comp_no2 o p a w h0 h1 (by simpa using h2)
  · rw [show vldP o = false by simpa using h1, Bool.false_and]; exact comp_no1 o p a w h0 (by simpa using h1)
end Go.Proofs.YtddfikijehmoiaaDoor
