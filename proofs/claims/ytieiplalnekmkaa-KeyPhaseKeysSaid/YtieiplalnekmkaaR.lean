/- Law 25: keyphase: the small functions. -/
import Derived.Test.YtieiplalnekmkaaQ
import Derived.Laws.Cover1
namespace Go.Proofs.Ytieiplalnekmkaa
open Go.RowKit
theorem none_any (w : World) : Calls Try.prog 26 #[] w fun e w' => e = .returned (.agg #[.int .i64 (-1), .int .i64 (-1)]) ∧ Below w.heap.size w w' := by
  go_enter Try.func26, Try.ntmps26
  go_wp2
  refine bodyPost_ret (v := .agg #[.int .i64 (-1), .int .i64 (-1)]) (by simp [results, Try.results26, go_sem]) rfl ⟨rfl, ?_⟩
  exact (Below.refl _ _).alloc (Nat.le_refl _) _
theorem valid_any (n : Int) (w : World) (h0 : 0 ≤ n) (h1 : n ≤ 281474976710655) : Calls Try.prog 23 #[.int .i64 n] w fun e w' => e = .returned (.bool true) ∧ w = w' := by
  go_enter Try.func23, Try.ntmps23
  go_wp2
  go_ret
  exact ⟨rfl, rfl⟩
def withF (l h p : Int) : Int × Int := if l = -1 ∧ h = -1 then (p, p) else (min l p, max h p)
set_option maxRecDepth 100000 in
set_option maxHeartbeats 4000000 in
theorem with_new (p : Int) (w : World) : Calls Try.prog 25 #[.agg #[.int .i64 (-1), .int .i64 (-1)], .int .i64 p] w fun e w' => e = .returned (.agg #[.int .i64 p, .int .i64 p]) ∧ Below w.heap.size w w' := by
  have F := Lib.hid (box2 w (.cells #[.int .i64 (-1), .int .i64 (-1)] 61) (.cells #[.int .i64 0, .int .i64 0] 61))
  go_enter Try.func25, Try.ntmps25
  go_wp2
  generalize (w.alloc (Obj.cells #[.int .i64 (-1), .int .i64 (-1)] 61)).alloc (.cells #[.int .i64 0, .int .i64 0] 61) = V at F ⊢
  have c0 := at_whole F.out.1 0 rfl
  have c1 := at_whole F.out.1 1 rfl
  have l0 : w.heap.size < V.heap.size := heap_lt F.out.1
  have l1 : w.heap.size + 1 < V.heap.size := heap_lt F.out.2.1
  simp only [List.getElem_toArray, List.getElem_cons_zero, List.getElem_cons_succ] at c0 c1
  go_region_with ((go_at_call 26; refine (none_any _).mono ?_; rintro e w2 ⟨rfl, hb2⟩; have hc2 : ∀ b o, b < V.heap.size → w2.cell? ⟨b, o, none⟩ = V.cell? ⟨b, o, none⟩ := fun b o h => hb2.cell (p := ⟨b, o, none⟩) h))
  all_goals
    have d0 := (hc2 _ 0 l0).trans c0
    have d1 := (hc2 _ 1 l0).trans c1
    clear hc2
    have HBV := Lib.hid (F.out.2.2.1.drew.trans (hb2.mono (show w.heap.size ≤ V.heap.size from Nat.le_of_lt l0)))
    have hR := heap_below hb2 (show V.drew.heap[w.heap.size + 1]? = some (.cells #[.int .i64 0, .int .i64 0] 61 (0, 0)) from F.out.2.1)
    have r0 := at_whole hR 0 rfl
    have r1 := at_whole hR 1 rfl
    have f0 := frozen_whole hR 0
    have f1 := frozen_whole hR 1
    simp only [List.getElem_toArray, List.getElem_cons_zero, List.getElem_cons_succ] at r0 r1
    have hq := heap_set (.int .i64 p) (i := 1) (heap_set (.int .i64 p) (i := 0) hR)
    have q0 := at_whole hq 0 rfl
    have q1 := at_whole hq 1 rfl
    simp only [List.setIfInBounds_toArray, List.set_cons_zero, List.set_cons_succ, List.getElem_toArray, List.getElem_cons_zero, List.getElem_cons_succ] at q0 q1
    clear hb2 hR hq
    go_wp2
    refine bodyPost_ret (v := .agg #[.int .i64 p, .int .i64 p]) (by simp [results, Try.results25, go_sem, q0, q1]) rfl ⟨rfl, ?_⟩
    exact (HBV.out.setCell (p := ⟨w.heap.size + 1, 0, none⟩) (Nat.le_succ _) _).setCell (p := ⟨w.heap.size + 1, 1, none⟩) (Nat.le_succ _) _
set_option maxRecDepth 100000 in
set_option maxHeartbeats 4000000 in
theorem with_old (l t p : Int) (w : World) (hl : 0 ≤ l) : Calls Try.prog 25 #[.agg #[.int .i64 l, .int .i64 t], .int .i64 p] w fun e w' => e = .returned (.agg #[.int .i64 (withF l t p).1, .int .i64 (withF l t p).2]) ∧ Below w.heap.size w w' := by
  have hw : withF l t p = (if p < l then p else l, if t < p then p else t) := by unfold withF; rw [if_neg (by omega)]; simp only [Prod.mk.injEq]; omega
  have hl1 : (l == -1) = false := by simp; omega
  rw [hw]
  obtain ⟨x, hx⟩ : ∃ x, (if p < l then p else l) = x := ⟨_, rfl⟩
  obtain ⟨y, hy⟩ : ∃ y, (if t < p then p else t) = y := ⟨_, rfl⟩
  simp only [hx, hy]
  have F := Lib.hid (box2 w (.cells #[.int .i64 l, .int .i64 t] 61) (.cells #[.int .i64 0, .int .i64 0] 61))
  go_enter Try.func25, Try.ntmps25
  go_wp2
  generalize (w.alloc (Obj.cells #[.int .i64 l, .int .i64 t] 61)).alloc (.cells #[.int .i64 0, .int .i64 0] 61) = V at F ⊢
  have c0 := at_whole F.out.1 0 rfl
  have c1 := at_whole F.out.1 1 rfl
  have l0 : w.heap.size < V.heap.size := heap_lt F.out.1
  have l1 : w.heap.size + 1 < V.heap.size := heap_lt F.out.2.1
  simp only [List.getElem_toArray, List.getElem_cons_zero, List.getElem_cons_succ] at c0 c1
  go_region_with ((go_at_call 26; refine (none_any _).mono ?_; rintro e w2 ⟨rfl, hb2⟩; have hc2 : ∀ b o, b < V.heap.size → w2.cell? ⟨b, o, none⟩ = V.cell? ⟨b, o, none⟩ := fun b o h => hb2.cell (p := ⟨b, o, none⟩) h))
  all_goals
    have d0 := (hc2 _ 0 l0).trans c0
    have d1 := (hc2 _ 1 l0).trans c1
    clear hc2
    have HBV := Lib.hid (F.out.2.2.1.drew.trans (hb2.mono (show w.heap.size ≤ V.heap.size from Nat.le_of_lt l0)))
    have hR := heap_below hb2 (show V.drew.heap[w.heap.size + 1]? = some (.cells #[.int .i64 0, .int .i64 0] 61 (0, 0)) from F.out.2.1)
    have r0 := at_whole hR 0 rfl
    have r1 := at_whole hR 1 rfl
    have f0 := frozen_whole hR 0
    have f1 := frozen_whole hR 1
    simp only [List.getElem_toArray, List.getElem_cons_zero, List.getElem_cons_succ] at r0 r1
    have hq := heap_set (.int .i64 y) (i := 1) (heap_set (.int .i64 x) (i := 0) hR)
    have q0 := at_whole hq 0 rfl
    have q1 := at_whole hq 1 rfl
    simp only [List.setIfInBounds_toArray, List.set_cons_zero, List.set_cons_succ, List.getElem_toArray, List.getElem_cons_zero, List.getElem_cons_succ] at q0 q1
    clear hb2 hR hq
    go_wp2
    refine bodyPost_ret (v := .agg #[.int .i64 x, .int .i64 y]) (by simp [results, Try.results25, go_sem, q0, q1]) rfl ⟨rfl, ?_⟩
    exact (HBV.out.setCell (p := ⟨w.heap.size + 1, 0, none⟩) (Nat.le_succ _) _).setCell (p := ⟨w.heap.size + 1, 1, none⟩) (Nat.le_succ _) _
end Go.Proofs.Ytieiplalnekmkaa
