/- Law 20: params' Decode. -/
import Derived.Test.YtddfikijehmoiaaDoorL
import Derived.StillTailTactics
import Derived.Laws.CopyOwn
namespace Go.Proofs.YtddfikijehmoiaaDoor
open Go.RowKit
/-- what Decode returns -/
def decE (s : ByteArray) : Value := match decP s with | some pm => .tuple #[.agg pm.cells, .int .i64 0] | none => .tuple #[.agg (pmOf []).cells, .int .i64 200]
def DecPost (s : ByteArray) (w : World) (e : Ending) (w' : World) : Prop := e = .returned (decE s) ∧ Below w.heap.size w w'
set_option maxRecDepth 100000 in
set_option maxHeartbeats 2000000 in
theorem decode_some (s : ByteArray) (pm : Pm) (ad : Addr) (w : World) (hs : s.size ≤ maxLen) (h0 : w.cell? ⟨0, 0, none⟩ = some (.iface 98 (.pointer (some ad)))) (h : decP s = some pm) :
    Calls Tryd.prog 11 #[.string s] w (DecPost s w) := by
  have h00 : 0 < w.heap.size := World.block_lt_of_cell? _ _ h0
  have n1 := heap_alloc_new w (.cells (pmOf []).cells 23)
  obtain ⟨w1, hw1⟩ : ∃ w1, w1 = (w.alloc (.cells (pmOf []).cells 23)).alloc (.cells #[.string s, .int .i64 ((0 : Nat) : Int)] 62) := ⟨_, rfl⟩
  have hz : w1.heap.size = w.heap.size + 2 := by rw [hw1]; simp
  have b1 : w1.heap[w.heap.size]? = some (.cells (pmOf []).cells 23 (0, 0)) := by rw [hw1]; exact (Below.heap_alloc _ _ _ (by simp)).trans n1
  have b2 : w1.heap[w.heap.size + 1]? = some (.cells #[.string s, .int .i64 ((0 : Nat) : Int)] 62 (0, 0)) := by
    rw [hw1]
    have := heap_alloc_new (w.alloc (.cells (pmOf []).cells 23)) (.cells #[.string s, .int .i64 ((0 : Nat) : Int)] 62)
    rw [World.size_alloc] at this
    exact this
  have hB : Below w.heap.size w w1 := by rw [hw1]; exact ((Below.refl _ w).alloc (Nat.le_refl _) _).alloc (by simp) _
  have PA := params_any s (w.heap.size + 1) ad w1 hs ((hB.cell (p := ⟨0, 0, none⟩) h00).trans h0) (by omega) b2
  have PB : Calls Tryd.prog 21 #[.pointer (some ⟨w.heap.size + 1, 0, none⟩)] w1 (fun e w' => e = .returned (.tuple #[.agg pm.cells, .nilIface]) ∧ Below w.heap.size w w' ∧ w'.heap[w.heap.size]? = some (.cells (pmOf []).cells 23 (0, 0)) ∧ w.heap.size < w'.heap.size) :=
    PA.mono (fun e w' ⟨he, hg⟩ => ⟨by rw [he, decR_some h], hB.grown hg (by omega) (fun k e => by cases e; omega), heap_grown hg b1 (by omega), by have := hg.size; omega⟩)
  have HP := Lib.hid PB
  have HE := Lib.hid (fun w' (h : Below w.heap.size w w') => errno_nil ad w' ((h.cell (p := ⟨0, 0, none⟩) h00).trans h0))
  have HR : Hid (decE s = .tuple #[.agg pm.cells, .int .i64 0]) := Lib.hid (by unfold decE; rw [h])
  clear PA PB n1 hz b1 b2 hB h h0 hs
  subst hw1
  go_enter Tryd.func11, Tryd.ntmps11
  have H1 : Hid (pm.cells.all (·.oneCell') = true) := Lib.hid (by unfold Pm.cells; simp [Value.oneCell'])
  have HS : Hid ((Tryd.prog.info? 23).map (·.size) = some pm.cells.size) := Lib.hid zero23.2
  go_wp2_with (first
    | (go_at_call 21; refine HP.out.mono ?_; rintro e w2 ⟨rfl, hb, hb2, hlt⟩; have HB := Lib.hid hb; have HB2 := Lib.hid hb2; clear hb hb2)
    | ((refine wpList_store_row rfl 23 _ _ rfl w2.heap.size _ rfl rfl 23 (pmOf []).cells (heap_alloc_new w2 _) (by exact HS.out) rfl (by exact H1.out) ?_); rw [World.setRow_alloc_new]))
  obtain ⟨w3, hw3⟩ : ∃ w3, w2.alloc (.cells pm.cells 23) = w3 := ⟨_, rfl⟩
  have H5 : Hid (w3.heap[w2.heap.size]? = some (.cells pm.cells 23 (0, 0))) := Lib.hid (by rw [← hw3]; exact heap_alloc_new w2 _)
  have HB3 : Hid (Below w.heap.size w w3) := Lib.hid (by rw [← hw3]; exact HB.out.alloc HB.out.size _)
  have H6 : Hid (w3.heap[w.heap.size]? = some (.cells (pmOf []).cells 23 (0, 0))) := Lib.hid (by rw [← hw3]; exact (Below.heap_alloc _ _ _ (heap_lt HB2.out)).trans HB2.out)
  rw [hw3]
  clear hw3
  have HEr := HE.out w3.drew HB3.out.drew
  obtain ⟨k0, k1, k2, k3, k4, k5⟩ := box6 H5.out
  go_still_tail 3, (by kernel_rfl)
  still_call HEr
  refine wpStill_nil ?_
  change wpList _ _ _ _ _ w3.drew
  have H7 : Hid (w3.drew.heap[w.heap.size]? = some (.cells (pmOf []).cells 23 (0, 0))) := Lib.hid H6.out
  have H8 : Hid (Below w.heap.size w w3.drew) := Lib.hid HB3.out.drew
  generalize w3.drew = w4 at *
  go_wp2_with (refine wpList_store_row rfl 23 _ _ rfl w.heap.size _ rfl rfl 23 (pmOf []).cells H7.out (by exact HS.out) rfl (by exact H1.out) ?_)
  change bodyPost _ _ _ _ _ (w4.setRow w.heap.size pm.cells)
  refine bodyPost_ret (results_cell_tmp rfl _ _ _ 23 pm.cells (0, 0) _ rfl (setRow_heap _ _ _ _ _ _ H7.out) Tryd.underlying23 rfl (by exact HS.out)) rfl ⟨by rw [HR.out]; rfl, below_setRow H8.out (Nat.le_refl _) _⟩
set_option maxRecDepth 100000 in
set_option maxHeartbeats 2000000 in
theorem decode_none (s : ByteArray) (ad : Addr) (w : World) (hs : s.size ≤ maxLen) (h0 : w.cell? ⟨0, 0, none⟩ = some (.iface 98 (.pointer (some ad)))) (h : decP s = none) :
    Calls Tryd.prog 11 #[.string s] w (DecPost s w) := by
  have h00 : 0 < w.heap.size := World.block_lt_of_cell? _ _ h0
  have n1 := heap_alloc_new w (.cells (pmOf []).cells 23)
  obtain ⟨w1, hw1⟩ : ∃ w1, w1 = (w.alloc (.cells (pmOf []).cells 23)).alloc (.cells #[.string s, .int .i64 ((0 : Nat) : Int)] 62) := ⟨_, rfl⟩
  have hz : w1.heap.size = w.heap.size + 2 := by rw [hw1]; simp
  have b1 : w1.heap[w.heap.size]? = some (.cells (pmOf []).cells 23 (0, 0)) := by rw [hw1]; exact (Below.heap_alloc _ _ _ (by simp)).trans n1
  have b2 : w1.heap[w.heap.size + 1]? = some (.cells #[.string s, .int .i64 ((0 : Nat) : Int)] 62 (0, 0)) := by
    rw [hw1]
    have := heap_alloc_new (w.alloc (.cells (pmOf []).cells 23)) (.cells #[.string s, .int .i64 ((0 : Nat) : Int)] 62)
    rw [World.size_alloc] at this
    exact this
  have hB : Below w.heap.size w w1 := by rw [hw1]; exact ((Below.refl _ w).alloc (Nat.le_refl _) _).alloc (by simp) _
  have PA := params_any s (w.heap.size + 1) ad w1 hs ((hB.cell (p := ⟨0, 0, none⟩) h00).trans h0) (by omega) b2
  have PB : Calls Tryd.prog 21 #[.pointer (some ⟨w.heap.size + 1, 0, none⟩)] w1 (fun e w' => e = .returned (.tuple #[.agg (pmOf []).cells, .iface 98 (.pointer (some ad))]) ∧ Below w.heap.size w w' ∧ w'.heap[w.heap.size]? = some (.cells (pmOf []).cells 23 (0, 0)) ∧ w.heap.size < w'.heap.size) :=
    PA.mono (fun e w' ⟨he, hg⟩ => ⟨by rw [he, decR_none h], hB.grown hg (by omega) (fun k e => by cases e; omega), heap_grown hg b1 (by omega), by have := hg.size; omega⟩)
  have HP := Lib.hid PB
  have HE := Lib.hid (fun w' (h : Below w.heap.size w w') => errno_err ad w' ((h.cell (p := ⟨0, 0, none⟩) h00).trans h0))
  have HR : Hid (decE s = .tuple #[.agg (pmOf []).cells, .int .i64 200]) := Lib.hid (by unfold decE; rw [h])
  clear PA PB n1 hz b1 b2 hB h h0 hs
  subst hw1
  go_enter Tryd.func11, Tryd.ntmps11
  have H1 : Hid ((pmOf []).cells.all (·.oneCell') = true) := Lib.hid (by kernel_rfl)
  have HS : Hid ((Tryd.prog.info? 23).map (·.size) = some (pmOf []).cells.size) := Lib.hid zero23.2
  go_wp2_with (first
    | (go_at_call 21; refine HP.out.mono ?_; rintro e w2 ⟨rfl, hb, hb2, hlt⟩; have HB := Lib.hid hb; have HB2 := Lib.hid hb2; clear hb hb2)
    | ((refine wpList_store_row rfl 23 _ _ rfl w2.heap.size _ rfl rfl 23 (pmOf []).cells (heap_alloc_new w2 _) (by exact HS.out) rfl (by exact H1.out) ?_); rw [World.setRow_alloc_new]))
  obtain ⟨w3, hw3⟩ : ∃ w3, w2.alloc (.cells (pmOf []).cells 23) = w3 := ⟨_, rfl⟩
  have H5 : Hid (w3.heap[w2.heap.size]? = some (.cells (pmOf []).cells 23 (0, 0))) := Lib.hid (by rw [← hw3]; exact heap_alloc_new w2 _)
  have HB3 : Hid (Below w.heap.size w w3) := Lib.hid (by rw [← hw3]; exact HB.out.alloc HB.out.size _)
  have H6 : Hid (w3.heap[w.heap.size]? = some (.cells (pmOf []).cells 23 (0, 0))) := Lib.hid (by rw [← hw3]; exact (Below.heap_alloc _ _ _ (heap_lt HB2.out)).trans HB2.out)
  rw [hw3]
  clear hw3
  have HEr := HE.out w3.drew HB3.out.drew
  obtain ⟨k0, k1, k2, k3, k4, k5⟩ := box6 H5.out
  go_still_tail 3, (by kernel_rfl)
  still_call HEr
  refine wpStill_nil ?_
  change wpList _ _ _ _ _ w3.drew
  have H7 : Hid (w3.drew.heap[w.heap.size]? = some (.cells (pmOf []).cells 23 (0, 0))) := Lib.hid H6.out
  have H8 : Hid (Below w.heap.size w w3.drew) := Lib.hid HB3.out.drew
  generalize w3.drew = w4 at *
  go_wp2_with (refine wpList_store_row rfl 23 _ _ rfl w.heap.size _ rfl rfl 23 (pmOf []).cells H7.out (by exact HS.out) rfl (by exact H1.out) ?_)
  change bodyPost _ _ _ _ _ (w4.setRow w.heap.size (pmOf []).cells)
  refine bodyPost_ret (results_cell_tmp rfl _ _ _ 23 (pmOf []).cells (0, 0) _ rfl (setRow_heap _ _ _ _ _ _ H7.out) Tryd.underlying23 rfl (by exact HS.out)) rfl ⟨by rw [HR.out]; rfl, below_setRow H8.out (Nat.le_refl _) _⟩
theorem decode_par (s : ByteArray) (ad : Addr) (w : World) (hs : s.size ≤ maxLen) (h0 : w.cell? ⟨0, 0, none⟩ = some (.iface 98 (.pointer (some ad)))) :
    Calls Tryd.prog 11 #[.string s] w (DecPost s w) := by
  cases h : decP s with
  | none => exact decode_none s ad w hs h0 h
  | some pm => exact decode_some s pm ad w hs h0 h
end Go.Proofs.YtddfikijehmoiaaDoor
