import Derived.Test.YtapddinlfkdkeaaC
import Derived.Handy
namespace Go.Proofs
open Go.RowKit Go.Shelf
attribute [local go_sem] Oper.semAt_some

def six (w : World) (T : Array Value) (s v : Int) : World :=
  (((((w.alloc (.cells #[.int .i64 0] 3)).alloc (.cells #[.int .i64 0] 25)).alloc (.cells T 40)).alloc (.cells T 40)).alloc (.cells #[.int .i64 s] 3)).alloc (.cells #[.int .i64 v] 3)
theorem six_size (w : World) (T : Array Value) (s v : Int) : (six w T s v).heap.size = w.heap.size + 6 := by simp [six]
theorem six_heap (w : World) (T : Array Value) (s v : Int) : (six w T s v).heap = (((((w.heap.push (.cells #[.int .i64 0] 3)).push (.cells #[.int .i64 0] 25)).push (.cells T 40)).push (.cells T 40)).push (.cells #[.int .i64 s] 3)).push (.cells #[.int .i64 v] 3) := rfl
theorem six_0 (w : World) (T : Array Value) (s v : Int) : (six w T s v).heap[w.heap.size]? = some (.cells #[.int .i64 0] 3) := by
  rw [six_heap]; simp only [Array.getElem?_push, Array.size_push]; repeat (rw [if_neg (by omega)])
  exact if_pos trivial
theorem six_1 (w : World) (T : Array Value) (s v : Int) : (six w T s v).heap[w.heap.size + 1]? = some (.cells #[.int .i64 0] 25) := by
  rw [six_heap]; simp only [Array.getElem?_push, Array.size_push]; repeat (rw [if_neg (by omega)])
  exact if_pos trivial
theorem six_3 (w : World) (T : Array Value) (s v : Int) : (six w T s v).heap[w.heap.size + 1 + 1 + 1]? = some (.cells T 40) := by
  rw [six_heap]; simp only [Array.getElem?_push, Array.size_push]; repeat (rw [if_neg (by omega)])
  exact if_pos trivial
theorem six_4 (w : World) (T : Array Value) (s v : Int) : (six w T s v).heap[w.heap.size + 1 + 1 + 1 + 1]? = some (.cells #[.int .i64 s] 3) := by
  rw [six_heap]; simp only [Array.getElem?_push, Array.size_push]; repeat (rw [if_neg (by omega)])
  exact if_pos trivial
theorem six_5 (w : World) (T : Array Value) (s v : Int) : (six w T s v).heap[w.heap.size + 1 + 1 + 1 + 1 + 1]? = some (.cells #[.int .i64 v] 3) := by
  rw [six_heap]; simp only [Array.getElem?_push, Array.size_push]; repeat (rw [if_neg (by omega)])
  exact if_pos trivial
theorem six_below (w : World) (T : Array Value) (s v : Int) : Below w.heap.size w (six w T s v) := by
  unfold six
  exact ((((((Below.refl _ w).alloc (Nat.le_refl _) _).alloc (by simp) _).alloc (by simp; omega) _).alloc (by simp; omega) _).alloc (by simp; omega) _).alloc (by simp; omega) _
theorem cell_of_heap {w : World} {g : Nat} {v : Value} {t : TypeId} (h : w.heap[g]? = some (.cells #[v] t)) : w.cell? ⟨g, 0, none⟩ = some v := by simp [World.cell?, h]
theorem frozen_of_heap {w : World} {g : Nat} {v : Value} {t : TypeId} (h : w.heap[g]? = some (.cells #[v] t)) : w.frozen? ⟨g, 0, none⟩ = false := by simp [World.frozen?, h]

def Cell01 (w : World) (g : Nat) (a b : Int) : Prop := w.cell? ⟨g, 0, none⟩ = some (.int .i64 a) ∧ w.frozen? ⟨g, 0, none⟩ = false ∧ w.cell? ⟨g + 1, 0, none⟩ = some (.int .i64 b) ∧ w.frozen? ⟨g + 1, 0, none⟩ = false
theorem Cell01.own {β : Type} (f : β → Int × Int) (P : β → Prop) (g : Nat) : Own (fun (x : β) W => P x ∧ Cell01 W g (f x).1 (f x).2) :=
  fun _ _ _ _ hs hg hr => ⟨hs.1, cell_kept hs.2.1 hg hr, (frozen_kept hs.2.1 hg hr).trans hs.2.2.1, cell_kept hs.2.2.2.1 hg hr, (frozen_kept hs.2.2.2.1 hg hr).trans hs.2.2.2.2⟩

/-- what comes back -/
def back (l : List Int) : Value := match l.head? with | some x => .tuple #[.int .i64 x, .int .i64 0] | none => .tuple #[.int .i64 0, .int .i64 180]

set_option maxRecDepth 100000 in
set_option maxHeartbeats 2000000 in
theorem send_in (s v : Int) (w : World) :
    CallsIn Fence.wide 3 Try.prog 9 #[.int .i64 s, .int .i64 v] w fun e W' => e = .returned (back (hits sendTab s v)) ∧ Below w.heap.size w W' := by
  refine callsIn_of_wp_marks Try.func9 rfl trivial ?_ rfl
  simp only [Try.ntmps9, List.size_toArray, List.length_cons, List.length_nil, Nat.reduceAdd, Nat.reduceSub, Array.replicate_succ, Array.replicate_zero, List.push_toArray, List.append_toArray, List.nil_append, List.cons_append]
  gi_wp2_with (first | (refine ⟨trivial, ?_⟩; gi_at_call 19; refine (callsIn_wide.2 (sending_any _)).mono ?_; rintro e w' ⟨rfl, rfl⟩) | (refine ⟨trivial, ?_⟩; gi_at_call 20; refine (of_in Fence.wide _ trivial rfl (tabCells sendTab) (by kernel_rfl) _ _ _).mono ?_; rintro e w' ⟨rfl, rfl⟩))
  have h0 := six_0 w (tabCells sendTab) s v
  have h1 := six_1 w (tabCells sendTab) s v
  have h3 := six_3 w (tabCells sendTab) s v
  have h4 := six_4 w (tabCells sendTab) s v
  have h5 := six_5 w (tabCells sendTab) s v
  have hz := six_size w (tabCells sendTab) s v
  have hB0 := six_below w (tabCells sendTab) s v
  obtain ⟨W0, hW0⟩ : ∃ W0, six w (tabCells sendTab) s v = W0 := ⟨_, rfl⟩
  have hW0' := hW0
  unfold six at hW0'
  rw [hW0'] 
  rw [hW0] at h0 h1 h3 h4 h5 hz hB0
  clear hW0 hW0'
  refine wpIn_rangeFunc_ownF rfl (by omega) (gf := 22) (lb := #[.pointer (some ⟨w.heap.size + 1 + 1 + 1, 0, none⟩), .pointer (some ⟨w.heap.size + 1 + 1 + 1 + 1, 0, none⟩), .pointer (some ⟨w.heap.size + 1 + 1 + 1 + 1 + 1, 0, none⟩)]) rfl trivial (enters_of Try.func22 (by kernel_rfl) rfl)
    (of_stops Fence.wide _ trivial rfl (by omega) _ _ _ sendTab rfl s v W0 (by omega) (by omega) (by omega) h3 (cell_of_heap h4) (cell_of_heap h5)) belowK_t (belowK_b (by omega)) (Below.refl _ _) (fun _ => rfl)
    (fun pre W => (pre = [] ∧ Cell01 W w.heap.size 0 0) ∧ Below w.heap.size w W)
    (fun c pre W => ((c = .ret ∧ pre.length = 1) ∧ Cell01 W w.heap.size (pre.headD 0) 0) ∧ Below w.heap.size w W)
    (OwnFrom.and (Own.from (Cell01.own (fun _ => (0, 0)) _ _) _) (ownFrom_below (Nat.le_refl _) (by omega)))
    (fun c => OwnFrom.and (Own.from (Cell01.own (fun (pre : List Int) => (pre.headD 0, 0)) _ _) _) (ownFrom_below (Nat.le_refl _) (by omega)))
    ⟨⟨rfl, cell_of_heap h0, frozen_of_heap h0, cell_of_heap h1, frozen_of_heap h1⟩, hB0⟩
    (fun x => { tmps := #[.int .i64 s, .int .i64 v, undef, undef, .pointer (some ⟨w.heap.size, 0, none⟩), .pointer (some ⟨w.heap.size + 1, 0, none⟩), .int .i64 x, .agg (tabCells sendTab), .int .i64 s, .int .i64 v, .func (.func 22) #[] #[.pointer (some ⟨w.heap.size + 1 + 1 + 1, 0, none⟩), .pointer (some ⟨w.heap.size + 1 + 1 + 1 + 1, 0, none⟩), .pointer (some ⟨w.heap.size + 1 + 1 + 1 + 1 + 1, 0, none⟩)], .int .i64 x, undef], defers := [] }) ?assign ?body ?done ?stop
  case assign =>
    intro l x W K hK
    gi_wp2
    exact hK
  case body =>
    rintro l pre x W ⟨⟨rfl, hc0, hf0, hc1, hf1⟩, hB⟩ _
    gi_wp2
    refine ⟨(KeepsOthers.setCell _ _ _).trans (KeepsOthers.setCell _ _ _), ⟨⟨rfl, rfl⟩, ?_, ?_, ?_, ?_⟩, (hB.setCell (p := ⟨w.heap.size, 0, none⟩) (Nat.le_refl _) _).setCell (p := ⟨w.heap.size + 1, 0, none⟩) (by simp) _⟩
    all_goals go_cell
  case done =>
    rintro D ys W hD hS ⟨⟨rfl, hc0, hf0, hc1, hf1⟩, hB⟩ hK
    gi_wp2
    have hK' := ((KeepsOthers.setCell W ⟨w.heap.size, 0, none⟩ (.int .i64 0)).trans (KeepsOthers.setCell _ ⟨w.heap.size + 1, 0, none⟩ (.int .i64 180))).same D _ hK rfl
    refine ⟨by simp, .inl ⟨_, _, rfl, run_takeDeferred hK', ?_⟩⟩
    obtain ⟨W', hW'⟩ : ∃ W', ((W.setCell ⟨w.heap.size, 0, none⟩ (.int .i64 0)).setCell ⟨w.heap.size + 1, 0, none⟩ (.int .i64 180)) = W' := ⟨_, rfl⟩
    have g0 : W'.cell? ⟨w.heap.size, 0, none⟩ = some (.int .i64 0) := by rw [← hW']; go_cell
    have g1 : W'.cell? ⟨w.heap.size + 1, 0, none⟩ = some (.int .i64 180) := by rw [← hW']; go_cell
    have hB' : Below w.heap.size w W' := by rw [← hW']; exact (hB.setCell (p := ⟨w.heap.size, 0, none⟩) (Nat.le_refl _) _).setCell (p := ⟨w.heap.size + 1, 0, none⟩) (by simp) _
    rw [hW'] at hK' ⊢
    have e0 := cell_kept g0 (grownBy_putObj' _ D (.deferred none)) (fun r e => by cases e; exact ⟨_, hK', rfl⟩)
    have e1 := cell_kept g1 (grownBy_putObj' _ D (.deferred none)) (fun r e => by cases e; exact ⟨_, hK', rfl⟩)
    refine ⟨.tuple #[.int .i64 0, .int .i64 180], ?_, by rw [← hS]; rfl, hB'.trans (belowK_b (w := w) (Nat.le_refl _) _ D _ _ (by omega) hK' rfl rfl)⟩
    simp [results, Try.f9, go_sem, e0, e1]
  case stop =>
    rintro D c pre W hD ⟨hpre, hne⟩ ⟨⟨⟨rfl, hl⟩, hc0, hf0, hc1, hf1⟩, hB⟩ hK
    gi_wp2
    refine ⟨by simp, .inl ⟨_, _, rfl, run_takeDeferred hK, ?_⟩⟩
    have e0 := cell_kept hc0 (grownBy_putObj' _ D (.deferred none)) (fun r e => by cases e; exact ⟨_, hK, rfl⟩)
    have e1 := cell_kept hc1 (grownBy_putObj' _ D (.deferred none)) (fun r e => by cases e; exact ⟨_, hK, rfl⟩)
    obtain ⟨x, rfl⟩ := List.length_eq_one_iff.1 hl
    obtain ⟨t, ht⟩ := hpre
    refine ⟨.tuple #[.int .i64 x, .int .i64 0], ?_, by rw [← ht]; rfl, hB.trans (belowK_b (w := w) (Nat.le_refl _) W D _ _ (by omega) hK rfl rfl)⟩
    simp [results, Try.f9, go_sem, e0, e1]
end Go.Proofs
