/- Law 20: values, check, Valid, errno. -/
import Derived.Test.YtddfikijehmoiaaDoorE
import Derived.Test.YtddfikijehmoiaaDoorIs
import Derived.RangeFuncBox
namespace Go.Proofs.YtddfikijehmoiaaDoor
open Go.RowKit Go.Shelf
attribute [local go_sem] Oper.semAt_some
theorem vals_any (p : Pm) (w : World) : Calls Tryd.prog 19 #[.agg p.cells] w fun e w' =>
    e = .returned (.func (.func 25) #[] #[.pointer (some ⟨w.heap.size, 0, none⟩)]) ∧ w' = w.alloc (.cells p.cells 23) := by
  unfold Pm.cells
  go_enter Tryd.func19, Tryd.ntmps19
  go_wp2
  go_ret
  exact ⟨rfl, rfl⟩
theorem blk_own {β : Type} (B : Nat) (cs : Array Value) (T : TypeId) : Own (fun (_ : β) W => W.heap[B]? = some (.cells cs T (0, 0))) := by
  intro s X Y row h hg hr
  refine (hg.block B (Array.getElem?_eq_some_iff.1 h).1 (fun e => ?_)).trans h
  obtain ⟨o, ho, hc⟩ := hr B e.symm
  rw [h] at ho; cases ho; cases hc
def okI (x : Fd × Int) : Bool := decide (x.1.2.1 ≤ x.2) && decide (x.2 ≤ x.1.2.2.1)
def vldP (p : Pm) : Bool := (items p).all okI
def chkV (p : Pm) (a : Addr) : Value := if vldP p then .nilIface else .iface 98 (.pointer (some a))
def okL {p : Pm} (l : List {x : Fd × Int // x ∈ items p}) : Bool := l.all fun x => okI x.1
theorem okL_snoc {p : Pm} (l : List {x : Fd × Int // x ∈ items p}) (x) : okL (l ++ [x]) = (okL l && okI x.1) := by simp [okL]
theorem okL_all {p : Pm} (l : List {x : Fd × Int // x ∈ items p}) (h : l.map (·.1) = items p) : okL l = vldP p := by
  have := congrArg (fun z => z.all okI) h
  rw [List.all_map] at this
  exact this
theorem okL_part {p : Pm} (l : List {x : Fd × Int // x ∈ items p}) (h : l.map (·.1) <+: items p) (hl : okL l = false) : vldP p = false := by
  unfold vldP
  obtain ⟨t, ht⟩ := h
  rw [← ht, List.all_append, List.all_map]
  have : (l.all (okI ∘ fun x => x.1)) = false := hl
  rw [this]; rfl
set_option maxRecDepth 100000 in
set_option maxHeartbeats 2000000 in
theorem check_any (p : Pm) (a : Addr) (w : World) (h0 : w.cell? ⟨0, 0, none⟩ = some (.iface 98 (.pointer (some a)))) :
    Calls Tryd.prog 17 #[.agg p.cells] w fun e w' => e = .returned (chkV p a) ∧ Below w.heap.size w w' := by
  refine (callsIn_wide (n := 4)).1 ?_
  refine callsIn_of_wp_marks Tryd.func17 rfl trivial ?_ rfl
  simp only [Tryd.ntmps17, List.size_toArray, List.length_cons, List.length_nil, Nat.reduceAdd, Nat.reduceSub, Array.replicate_succ, Array.replicate_zero, List.push_toArray, List.append_toArray, List.nil_append, List.cons_append]
  have V := Lib.hid (vals_any p)
  unfold Pm.cells at V ⊢
  gi_wp2_with (refine ⟨trivial, ?_⟩; gi_at_call 19; refine (callsIn_wide.2 (V.out _)).mono ?_; rintro e w' ⟨rfl, rfl⟩)
  obtain ⟨w3, hw3⟩ : ∃ w3, (((w.alloc (.cells #[.int .i64 p.a, .int .i64 p.b, .int .i64 p.c, .int .i64 p.d, .int .i64 p.e, .int .i64 p.f] 23)).alloc (.cells #[.nilIface] 49)).alloc (.cells #[.int .i64 p.a, .int .i64 p.b, .int .i64 p.c, .int .i64 p.d, .int .i64 p.e, .int .i64 p.f] 23)) = w3 := ⟨_, rfl⟩
  have hz : w.heap.size + 3 ≤ w3.heap.size := by rw [← hw3]; simp
  have bR : Boxed w3 (w.heap.size + 1) 49 .nilIface := by
    rw [← hw3]
    have := (Boxed.new (w.alloc (.cells #[.int .i64 p.a, .int .i64 p.b, .int .i64 p.c, .int .i64 p.d, .int .i64 p.e, .int .i64 p.f] 23)) 49 .nilIface).alloc (.cells #[.int .i64 p.a, .int .i64 p.b, .int .i64 p.c, .int .i64 p.d, .int .i64 p.e, .int .i64 p.f] 23)
    rwa [World.size_alloc] at this
  have bP : w3.heap[w.heap.size + 1 + 1]? = some (.cells p.cells 23 (0, 0)) := by
    rw [← hw3]
    have := heap_alloc_new ((w.alloc (.cells #[.int .i64 p.a, .int .i64 p.b, .int .i64 p.c, .int .i64 p.d, .int .i64 p.e, .int .i64 p.f] 23)).alloc (.cells #[.nilIface] 49)) (.cells #[.int .i64 p.a, .int .i64 p.b, .int .i64 p.c, .int .i64 p.d, .int .i64 p.e, .int .i64 p.f] 23)
    rw [World.size_alloc, World.size_alloc] at this
    exact this
  have hB0 : Below w.heap.size w w3 := by
    rw [← hw3]
    exact (((Below.refl _ w).alloc (Nat.le_refl _) _).alloc (by simp) _).alloc (by simp; omega) _
  have h00 : 0 < w.heap.size := World.block_lt_of_cell? _ _ h0
  rw [hw3]
  refine wpIn_rangeFunc_ownH rfl (by decide) (gf := 25) (lb := #[.pointer (some ⟨w.heap.size + 1 + 1, 0, none⟩)]) rfl trivial (enters_of Tryd.func25 (by kernel_rfl) rfl)
    (vals_stops (4 - 1) (by decide) (w.heap.size + 1 + 1) p w3 bP) KeepB.tr (KeepB.put (by omega)) (Below.refl _ _) (fun _ => rfl)
    (fun pre W => (okL pre = true ∧ Boxed W (w.heap.size + 1) 49 .nilIface ∧ w3.heap.size ≤ W.heap.size) ∧ Below w.heap.size w W)
    (fun c pre W => (c = .ret ∧ okL pre = false ∧ Boxed W (w.heap.size + 1) 49 (.iface 98 (.pointer (some a)))) ∧ Below w.heap.size w W)
    (OwnFrom.and (Own.from (fun s A B row hs hg hr => ⟨hs.1, boxed_own _ _ (fun (_ : Unit) => Value.nilIface) () A B row hs.2.1 hg hr, Nat.le_trans hs.2.2 hg.size⟩) _) (ownFrom_below (Nat.le_refl _) (by omega)))
    (fun c => OwnFrom.and (Own.from (fun s A B row hs hg hr => ⟨hs.1, hs.2.1, boxed_own _ _ (fun (_ : Unit) => Value.iface 98 (.pointer (some a))) () A B row hs.2.2 hg hr⟩) _) (ownFrom_below (Nat.le_refl _) (by omega)))
    ⟨⟨rfl, bR, Nat.le_refl _⟩, hB0⟩
    (fun x a' W => ∃ Bx, w.heap.size + 2 < Bx ∧ W.heap[Bx]? = some (.cells (fd x.1.1) 57 (0, 0)) ∧ a' = { tmps := #[Value.agg #[Value.int IntKind.i64 p.a, Value.int IntKind.i64 p.b, Value.int IntKind.i64 p.c, Value.int IntKind.i64 p.d, Value.int IntKind.i64 p.e, Value.int IntKind.i64 p.f], Value.pointer (some { block := w.heap.size, off := 0 }), Value.pointer (some { block := w.heap.size + 1, off := 0 }), .pointer (some ⟨Bx, 0, none⟩), .int .i64 x.1.2, Value.agg #[Value.int IntKind.i64 p.a, Value.int IntKind.i64 p.b, Value.int IntKind.i64 p.c, Value.int IntKind.i64 p.d, Value.int IntKind.i64 p.e, Value.int IntKind.i64 p.f], Value.func (Fn.func 25) #[] #[Value.pointer (some { block := w.heap.size + 1 + 1, off := 0 })], .agg (fd x.1.1), .int .i64 x.1.2, undef, undef, undef, undef, undef, undef, undef, undef, undef, undef, undef], defers := [] })
    (fun x a' _ X Y row hs hg hr => by obtain ⟨Bx, g1, g2, g3⟩ := hs; exact ⟨Bx, g1, blk_own Bx _ 57 () X Y row g2 hg (fun r e => (hr r e).2), g3⟩)
    ?assign ?body ?done ?stop
  case assign =>
    rintro l pre x W K ⟨⟨hok, bR1, hsz⟩, hB1⟩ hK
    simp only [encI, fd] at hK ⊢
    gi_wp2
    exact hK _ _ ((KeepsOthers.alloc _ _).from _) (KeepB.of_grown (World.grownBy_alloc W _ none) (by omega) (by simp)) ⟨⟨hok, bR1.alloc _, by simp; omega⟩, hB1.alloc hB1.size _⟩ ⟨W.heap.size, by omega, heap_alloc_new W _, rfl⟩
  case body =>
    rintro l pre x a' W hl ⟨r, hr⟩ ⟨⟨hok, bR1, hsz⟩, hB1⟩ ⟨Bx, hBx, bX, rfl⟩ hlt
    obtain ⟨⟨⟨g, lo, hi, il⟩, n⟩, hmem⟩ := x
    have c1 : W.cell? ⟨Bx, 1, none⟩ = some (.int .i64 lo) := by rw [cell_whole bX]; rfl
    have c2 : W.cell? ⟨Bx, 2, none⟩ = some (.int .i64 hi) := by rw [cell_whole bX]; rfl
    have c0 : W.cell? ⟨0, 0, none⟩ = some (.iface 98 (.pointer (some a))) := (hB1.cell (p := ⟨0, 0, none⟩) h00).trans h0
    have cR := bR1.cell
    have fR := bR1.frozen
    have HB := Lib.hid hB1
    have HR := Lib.hid bR1
    have HO := Lib.hid hok
    clear hB1 bR1 bX hok
    by_cases h1 : n < lo
    · have g1 : decide (n < lo) = true := by simpa using h1
      have e : okI ((g, lo, hi, il), n) = false := by simp [okI]; omega
      have HE := Lib.hid e
      clear e
      simp only [fd]
      gi_wp2
      exact ⟨(KeepsOthers.setCell _ _ _).from _, ⟨rfl, by rw [okL_snoc]; simp only [HE.out, Bool.and_false], HR.out.set _⟩, HB.out.setCell (p := ⟨w.heap.size + 1, 0, none⟩) (by simp) _⟩
    · have g1 : decide (n < lo) = false := by simpa using h1
      by_cases h2 : hi < n
      · have g2 : decide (hi < n) = true := by simpa using h2
        have e : okI ((g, lo, hi, il), n) = false := by simp [okI]; omega
        have HE := Lib.hid e
        clear e
        simp only [fd]
        gi_wp2
        exact ⟨(KeepsOthers.setCell _ _ _).from _, ⟨rfl, by rw [okL_snoc]; simp only [HE.out, Bool.and_false], HR.out.set _⟩, HB.out.setCell (p := ⟨w.heap.size + 1, 0, none⟩) (by simp) _⟩
      · have g2 : decide (hi < n) = false := by simpa using h2
        have e : okI ((g, lo, hi, il), n) = true := by simp [okI]; omega
        have HE := Lib.hid e
        clear e
        simp only [fd]
        gi_wp2
        exact ⟨(KeepsOthers.refl _).from _, KeepB.refl _ _, ⟨by rw [okL_snoc, HO.out]; simp only [HE.out, Bool.and_true], HR.out, hsz⟩, HB.out⟩
  case done =>
    rintro D ys W hD hys ⟨⟨hok, bR1, hsz⟩, hB1⟩ hK
    have e := Lib.hid (show vldP p = true by rw [← okL_all ys hys]; exact hok)
    have cR := bR1.cell
    have fR := bR1.frozen
    gi_wp2
    have hK' := (KeepsOthers.setCell W ⟨w.heap.size + 1, 0, none⟩ .nilIface).same D _ hK rfl
    refine ⟨by simp, .inl ⟨_, _, rfl, run_takeDeferred hK', ?_⟩⟩
    have hc5 := cell_kept (World.cell?_setCell_same' W ⟨w.heap.size + 1, 0, none⟩ .nilIface (by rw [cR]; rfl)) (grownBy_putObj' _ D (.deferred none)) (fun r e => by cases e; exact ⟨_, hK', rfl⟩)
    refine ⟨.nilIface, ?_, by unfold chkV; rw [if_pos e.out], (hB1.setCell (p := ⟨w.heap.size + 1, 0, none⟩) (by simp) _).trans (belowK_b (w := w) (Nat.le_refl _) _ D _ _ (by omega) hK' rfl rfl)⟩
    simp [results, Tryd.f17, go_sem, hc5]
  case stop =>
    rintro D c pre W hD ⟨hpre, hne⟩ ⟨⟨rfl, hok, bR1⟩, hB1⟩ hK
    have e := Lib.hid (okL_part pre hpre hok)
    have cR := bR1.cell
    gi_wp2
    refine ⟨by simp, .inl ⟨_, _, rfl, run_takeDeferred hK, ?_⟩⟩
    have hc5 := cell_kept cR (grownBy_putObj' _ D (.deferred none)) (fun r e => by cases e; exact ⟨_, hK, rfl⟩)
    refine ⟨.iface 98 (.pointer (some a)), ?_, by unfold chkV; rw [if_neg (by simp [e.out])], hB1.trans (belowK_b (w := w) (Nat.le_refl _) W D _ _ (by omega) hK rfl rfl)⟩
    simp [results, Tryd.f17, go_sem, hc5]
end Go.Proofs.YtddfikijehmoiaaDoor
