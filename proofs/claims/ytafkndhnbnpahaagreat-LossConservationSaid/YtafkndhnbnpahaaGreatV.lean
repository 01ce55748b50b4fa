/- Law 13: filter: the packets that a condition wants. -/
import Derived.Test.YtafkndhnbnpahaaGreatU
import Derived.Deep.AppendLies
import Derived.Test.YtafkndhnbnpahaaGreatHeld
namespace Go.Proofs.YtafkndhnbnpahaaGreat
open Go.RowKit Go.Shelf
attribute [local go_sem] Oper.semAt_some
theorem Ints.grown {W W' : World} {row : Option Nat} (hg : W.grownBy W' row) (hr : ∀ k cs fz, some k = row → W.heap[k]? ≠ some (.cells cs 3 fz)) : Ints W W' := fun k cs fz h => by
  refine (hg.block k (heap_lt h) (fun e => hr k cs fz e h)).trans h
theorem Ints.row {B n : Nat} {W W' : World} {v : Value} {xs : List Value} (hown : W.ownsRow B 32 5 v n xs) (hg : W.grownBy W' v.ownBlock) : Ints W W' := Ints.grown hg (fun k cs fz e h => by
  rcases hown.2 with ⟨rfl, _⟩ | ⟨g, cap, cur, rfl, hb, hgg, _⟩
  · simp [Value.ownBlock] at e
  · simp [Value.ownBlock] at e
    subst e
    rw [hgg] at h
    cases h)
theorem Ints.set {W : World} {B : Nat} {v u : Value} (h : Boxed W B 35 v) : Ints W (W.setCell ⟨B, 0, none⟩ u) := fun k cs fz hk => by
  refine (heap_setCell_other W _ k u (fun e => ?_)).trans hk
  have e : k = B := e
  subst e
  rw [show W.heap[k]? = _ from h] at hk
  cases hk
theorem row_keep {B n : Nat} {e : TypeId} {z : Nat} {W W' : World} {v : Value} {xs : List Value} (hown : W.ownsRow B e z v n xs) (hg : W.grownBy W' v.ownBlock) {k : Nat} {cs : Array Value} {T : TypeId} {fz : Nat × Nat} (h : W.heap[k]? = some (.cells cs T fz)) (hT : T ≠ e) : W'.heap[k]? = some (.cells cs T fz) := by
  refine (hg.block k (heap_lt h) (fun e => ?_)).trans h
  rcases hown.2 with ⟨rfl, _⟩ | ⟨g, cap, cur, rfl, hb, hgg, _⟩
  · simp [Value.ownBlock] at e
  · simp [Value.ownBlock] at e
    subst e
    rw [hgg] at h
    cases h
    exact hT rfl
theorem kpi_t {n₀ : Nat} {A B C : World} (h : KpI n₀ A B) (k : KpI n₀ B C) : KpI n₀ A C := h.trans k
theorem kpi_b {n₀ : Nat} {w : World} (hn : n₀ ≤ w.heap.size) (W : World) (l : Nat) (o o' : Obj) (hl : w.heap.size ≤ l) (h : W.heap[l]? = some o) (hc : o.isCells = false) (hw : o.isWalk = false) : KpI n₀ W (W.putObj l o') :=
  ⟨belowK_b hn W l o o' hl h hc hw, Ints.grown (grownBy_putObj' W l o') (fun k cs fz e hk => by cases e; rw [h] at hk; cases hk; cases hc)⟩
theorem KeepsFrom.below {B : Nat} {W W' : World} (h : Below W.heap.size W W') : KeepsFrom B W W' := KeepsFrom.of_grownBy (grown_below (r := none) h) (fun j e => by cases e)
theorem heap_own {β : Type} (B : Nat) (k : Nat) (cs : Array Value) (T : TypeId) : OwnFrom B (fun (_ : β) W => W.heap[k]? = some (.cells cs T (0, 0))) := fun s X Y row hs hg hr =>
  (hg.block k (heap_lt hs) (fun e => by obtain ⟨_, o, ho, hc⟩ := hr k e.symm; rw [hs] at ho; cases ho; cases hc)).trans hs
/-- the ones among those that have come -/
def FL {l : List Pk} (f : Pk → Bool) (pre : List (In l)) : List Pk := (pre.map (·.1)).filter f
theorem FL_snoc {l : List Pk} (f : Pk → Bool) (pre : List (In l)) (x : In l) : FL f (pre ++ [x]) = if f x.1 then FL f pre ++ [x.1] else FL f pre := by
  unfold FL
  rw [List.map_append, List.filter_append]
  by_cases h : f x.1 <;> simp [h]
theorem FL_le {l : List Pk} (f : Pk → Bool) (pre : List (In l)) : (FL f pre).length ≤ pre.length := by
  unfold FL
  exact Nat.le_trans (List.length_filter_le _ _) (by simp)
set_option maxRecDepth 100000 in
set_option maxHeartbeats 4000000 in
theorem filter_any (l : List Pk) (nx : Int) (hu : Up nx l) (hll : l.length ≤ 1000000) (B k : Nat) (lb : Array Value) (f : Pk → Bool) (w : World)
    (hS : SeqStopsK Fence.wide 7 Tryz.prog 67 #[.pointer (some ⟨B, 0, none⟩)] (fun x : In l => encP x.1) (KpI w.heap.size) (fun ys => ys.map (·.1) = l) (fun _ => True) l.length w)
    (ek : ∀ args w, (callFunc k args).run Tryz.prog w = .ok (.enter k args) w)
    (hwant : ∀ p ∈ l, ∀ W, Below w.heap.size w W → Calls Tryz.prog k (#[p.val] ++ lb) W fun e W' => e = .returned (.bool (f p)) ∧ Below W.heap.size W W') :
    Calls Tryz.prog 44 #[.func (.func 67) #[] #[.pointer (some ⟨B, 0, none⟩)], .func (.func k) #[] lb] w fun e w' =>
      ∃ v, e = .returned v ∧ w'.ownsRow w.heap.size 32 5 v (l.filter f).length (pcs (l.filter f)) ∧ (v = .slice none 0 0 ↔ l.filter f = []) ∧ Below w.heap.size w w' := by
  obtain ⟨i0, hi, hz0, hz1, hz2⟩ := info_parts info32
  have HW := Lib.hid hwant
  have X := Lib.hid (box2 w (.cells #[.func (.func k) #[] lb] 77) (.cells #[.slice none 0 0] 35))
  clear hwant
  refine (callsIn_wide (n := 8)).1 ?_
  refine callsIn_of_wp_marks Tryz.func44 rfl trivial ?_ rfl
  simp only [Tryz.ntmps44, List.size_toArray, List.length_cons, List.length_nil, Nat.reduceAdd, Nat.reduceSub, Array.replicate_succ, Array.replicate_zero, List.push_toArray, List.append_toArray, List.nil_append, List.cons_append]
  gi_wp2
  generalize (w.alloc _).alloc _ = W0 at X ⊢
  obtain ⟨X1, X2, X3, X4⟩ := X.out
  refine wpIn_rangeFunc_ownH rfl (by decide) (gf := 67) (lb := #[.pointer (some ⟨B, 0, none⟩)]) rfl trivial (enters_of Tryz.func67 (by kernel_rfl) rfl)
    hS kpi_t (kpi_b (by omega)) X3 (fun _ => rfl)
    (fun (pre : List (In l)) W => (W.heap[w.heap.size]? = some (.cells #[.func (.func k) #[] lb] 77 (0, 0)) ∧ ∃ v, Boxed W (w.heap.size + 1) 35 v ∧ W.ownsRow w.heap.size 32 5 v (FL f pre).length (pcs (FL f pre)) ∧ (v = .slice none 0 0 ↔ FL f pre = [])) ∧ Below w.heap.size w W)
    (fun _ _ _ => False)
    (OwnFrom.and (OwnFrom.and (heap_own _ _ _ _) (Own.from (holdsRow_own w.heap.size (w.heap.size + 1) 35 32 5 (fun (pre : List (In l)) => (FL f pre).length) (fun pre => pcs (FL f pre)) (fun pre v => v = .slice none 0 0 ↔ FL f pre = [])) _)) (ownFrom_below (Nat.le_refl _) (by omega)))
    (fun _ _ _ _ _ hs _ _ => hs)
    ⟨⟨X1, _, X2, World.ownsRow_nil _ _ _ _, by simp [FL]⟩, X3⟩
    (fun x a' W => ∃ Bx, W0.heap.size ≤ Bx ∧ W.heap[Bx]? = some (.cells x.1.cells 32 (0, 0)) ∧ a' = { tmps := #[.func (.func 67) #[] #[.pointer (some ⟨B, 0, none⟩)], .func (.func k) #[] lb, undef, .pointer (some ⟨w.heap.size, 0, none⟩), .slice none 0 0, .pointer (some ⟨w.heap.size + 1, 0, none⟩), .pointer (some ⟨Bx, 0, none⟩), .func (.func 67) #[] #[.pointer (some ⟨B, 0, none⟩)], x.1.val, undef, undef, undef, undef, undef, undef, undef, undef], defers := [] })
    (fun x a' s A C row hs hg hr => by
      obtain ⟨Bx, h1, h2, h3⟩ := hs
      exact ⟨Bx, h1, heap_own _ _ _ _ () A C row h2 hg hr, h3⟩)
    ?assign ?body ?done ?stop
  case assign =>
    rintro ly pre x W K hi hK
    obtain ⟨⟨pn, time, size, el, fv⟩, hx⟩ := x
    obtain ⟨fa, fl, fc, e⟩ := hu.fvs _ hx
    obtain rfl : fv = .slice fa fl fc := e
    simp only [encP, Pk.val, Pk.cells] at hK ⊢
    have H1 := Lib.hid (And.intro hi hK)
    clear hi hK
    gi_wp2
    refine H1.out.2 _ _ ((KeepsOthers.alloc _ _).from _) ⟨(Below.refl _ W).alloc H1.out.1.2.size _, Ints.below ((Below.refl _ W).alloc (Nat.le_refl _) _)⟩ ?_ ⟨W.heap.size, ?_, heap_alloc_new W _, rfl⟩
    · obtain ⟨⟨q1, v, q2, q3, q4⟩, q5⟩ := H1.out.1
      exact ⟨⟨(Below.heap_alloc W _ _ (heap_lt q1)).trans q1, v, q2.alloc _, q3.alloc _, q4⟩, q5.trans ((Below.refl _ W).alloc q5.size _)⟩
    · obtain ⟨⟨q1, v, q2, q3, q4⟩, q5⟩ := H1.out.1
      have := heap_lt (show W.heap[w.heap.size + 1]? = some (.cells #[v] 35 (0, 0)) from q2)
      omega
  case body =>
    rintro ly pre x a' W hl ⟨r, hr⟩ ⟨⟨hw3, v, hv, hrow, hnil⟩, hB⟩ ⟨Bx, hBx, hbx, rfl⟩ hlen
    have c3 := at_whole hw3 0 rfl
    simp only [List.getElem_toArray, List.getElem_cons_zero] at c3
    have hfv := hu.fvs _ x.2
    obtain ⟨⟨pn, time, size, el, fv⟩, hx⟩ := x
    obtain ⟨fa, fl, fc, e⟩ := hfv
    obtain rfl : fv = .slice fa fl fc := e
    simp only [Pk.val, Pk.cells] at hbx ⊢
    have l0 := at_whole hbx 0 rfl
    have l1 := at_whole hbx 1 rfl
    have l2 := at_whole hbx 2 rfl
    have l3 := at_whole hbx 3 rfl
    have l4 := at_whole hbx 4 rfl
    simp only [List.getElem_toArray, List.getElem_cons_zero, List.getElem_cons_succ] at l0 l1 l2 l3 l4
    have G := Lib.hid (And.intro hw3 (And.intro hv (And.intro hrow (And.intro hnil (And.intro hB hbx)))))
    clear hw3 hv hrow hnil hB hbx
    gi_wp2_with fail
    refine ⟨trivial, (CallsIn.inRound ly (callsIn_wide.2 (HW.out _ hx W G.out.2.2.2.2.1))).mono ?_⟩
    rintro e W1 ⟨rfl, hb1⟩
    have m0 := at_whole (heap_below hb1 G.out.2.2.2.2.2) 0 rfl
    have m1 := at_whole (heap_below hb1 G.out.2.2.2.2.2) 1 rfl
    have m2 := at_whole (heap_below hb1 G.out.2.2.2.2.2) 2 rfl
    have m3 := at_whole (heap_below hb1 G.out.2.2.2.2.2) 3 rfl
    have m4 := at_whole (heap_below hb1 G.out.2.2.2.2.2) 4 rfl
    simp only [List.getElem_toArray, List.getElem_cons_zero, List.getElem_cons_succ] at m0 m1 m2 m3 m4
    obtain ⟨q1, q2, q3, q4, q5, q6⟩ := G.out
    have hv1 : Boxed W1 (w.heap.size + 1) 35 v := heap_below hb1 q2
    have hr1 : W1.ownsRow w.heap.size 32 5 v (FL f pre).length (pcs (FL f pre)) := q3.kept (grown_below (r := none) hb1) (by cases hv : v.ownBlock <;> simp)
    have hB1 := q5.trans (hb1.mono q5.size)
    have hle := FL_le f pre
    have hs := Lib.hid (FL_snoc f pre ⟨_, hx⟩)
    have K1 := Lib.hid (And.intro (KeepsFrom.below (B := W0.heap.size) hb1) (And.intro (show KpI w.heap.size W W1 from ⟨hb1.mono q5.size, Ints.below hb1⟩) (heap_below hb1 q1)))
    clear q1 q2 q3 q5 q6 hb1 l0 l1 l2 l3 l4
    cases hfx : f { pn := pn, time := time, size := size, el := el, fv := Value.slice fa fl fc } with
    | false =>
      rw [hfx] at hs
      simp only [Bool.false_eq_true, if_false] at hs
      have H := Lib.hid (And.intro hv1 (And.intro hr1 (And.intro q4 hB1)))
      clear hv1 hr1 q4 hB1 m0 m1 m2 m3 m4 hfx
      gi_wp2
      refine ⟨K1.out.1, K1.out.2.1, ⟨K1.out.2.2, v, H.out.1, ?_, ?_⟩, H.out.2.2.2⟩
      · rw [hs.out]; exact H.out.2.1
      · rw [hs.out]; exact H.out.2.2.1
    | true =>
      rw [hfx] at hs
      simp only [if_true] at hs
      have hc := hv1.cell
      clear hfx
      gi_wp2_with (gi_at_builtin; refine wpListIn_append_own _ rfl _ _ 35 rfl w.heap.size 32 i0 (.agg #[.int .i64 0, .int .i64 0, .int .i64 0, .bool false, .slice none 0 0]) 5 56 Tryz.underlying35 hi hz0 hz1 hz2 rfl (by decide) _ _ _ rfl (hr1.alloc _) ⟨W1.heap.size, 0, none⟩ 1 1 (Pk.cells ⟨pn, time, size, el, .slice fa fl fc⟩).toList rfl rfl (World.news_of_block (heap_alloc_new _ _)) (Pk.one _ ⟨_, _, _, rfl⟩) (by unfold maxLen; omega) (by omega) (by have := hB1.size; simp; omega) ?_; intro v' w1 hown' hgrow _; obtain ⟨g', cap', rfl⟩ := ownsRow_succ hown'; obtain ⟨hv2, hv3, hr2, hk2, hb2⟩ := hv1.appended (by decide) hr1 hB1.size (by omega) hown' hgrow; have hi2 : Ints W1 w1 := (Ints.below ((Below.refl _ W1).alloc (Nat.le_refl _) _)).trans (Ints.row (hr1.alloc _) hgrow); have hc1 := hv2.cell; have hf1 := hv2.frozen)
      refine ⟨K1.out.1.trans (hk2.from _), K1.out.2.1.trans ⟨hb2, hi2.trans (Ints.set hv2)⟩, ⟨?_, _, hv3, ?_, ?_⟩, hB1.trans hb2⟩
      · exact (heap_setCell_other _ _ _ _ (fun e => by have : w.heap.size = w.heap.size + 1 := e; omega)).trans (row_keep (hr1.alloc _) hgrow ((Below.heap_alloc W1 _ _ (heap_lt K1.out.2.2)).trans K1.out.2.2) (by decide))
      · rw [hs.out, pcs_snoc, List.length_append]
        exact hr2
      · rw [hs.out]
        simp
  case done =>
    rintro D ys W hD hys ⟨⟨_, v, hv, hrow, hnil⟩, hB⟩ hK
    have hc := hv.cell
    have e : FL f ys = l.filter f := by unfold FL; rw [hys]
    rw [e] at hrow hnil
    have H := Lib.hid (And.intro hrow (And.intro hnil (And.intro hB hK)))
    clear e hrow hnil hB hK
    gi_wp2
    refine ⟨by simp, .inl ⟨_, _, rfl, run_takeDeferred H.out.2.2.2, ?_⟩⟩
    exact ⟨_, results_tmp rfl _ _ _, v, rfl, ownsRow_putObj H.out.1 _ H.out.2.2.2 rfl, H.out.2.1, H.out.2.2.1.trans (belowK_b (w := w) (Nat.le_refl _) W D _ _ (by omega) H.out.2.2.2 rfl rfl)⟩
  case stop =>
    rintro D c pre W _ _ h _
    exact h.elim
end Go.Proofs.YtafkndhnbnpahaaGreat
