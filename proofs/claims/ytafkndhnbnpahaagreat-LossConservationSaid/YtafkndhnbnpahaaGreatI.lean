/- Law 13: a frame's parts: the map of all of them. -/
import Derived.Test.YtafkndhnbnpahaaGreatH
import Derived.Test.YtafkndhnbnpahaaGreatOs
namespace Go.Proofs.YtafkndhnbnpahaaGreat
open Go.RowKit
theorem size124 : (Tryz.prog.info? 124).map (·.size) = some 3 := by kernel_rfl
theorem int_ex (m : Int) (k : Nat) (w : World) : Calls Tryz.prog 85 #[.int .i64 m, .func (.func k) #[] #[]] w fun e w' => ∃ n,
    e = .returned (.agg #[.func (.func 106) #[] #[.pointer (some ⟨n + 1, 0, none⟩), .pointer (some ⟨n, 0, none⟩)], .func (.func 108) #[] #[.pointer (some ⟨n + 1, 0, none⟩)], .func (.func 110) #[] #[.pointer (some ⟨n + 1, 0, none⟩)]]) ∧
    w'.heap[n]? = some (.cells #[.int .i64 m] 3 (0, 0)) ∧ w'.heap[n + 1]? = some (.cells #[.func (.func k) #[] #[]] 131 (0, 0)) ∧ Below w.heap.size w w' := (integer_any m k w).mono fun _ _ h => ⟨_, h.1, h.2⟩
theorem txt_ex (l m : Int) (w : World) : Calls Tryz.prog 93 #[.int .i64 l, .int .i64 m] w fun e w' => ∃ n,
    e = .returned (.agg #[.func (.func 111) #[] #[.pointer (some ⟨n, 0, none⟩), .pointer (some ⟨n + 1, 0, none⟩)], .func (.func 112) #[] #[], .func (.func 114) #[] #[]]) ∧
    w'.heap[n]? = some (.cells #[.int .i64 l] 3 (0, 0)) ∧ w'.heap[n + 1]? = some (.cells #[.int .i64 m] 3 (0, 0)) ∧ Below w.heap.size w w' := (text_any l m w).mono fun _ _ h => ⟨_, h.1, h.2⟩
theorem fix_ex (m : Int) (k : Nat) (w : World) : Calls Tryz.prog 94 #[.int .i64 m, .func (.func k) #[] #[]] w fun e w' => ∃ n,
    e = .returned (.agg #[.func (.func 115) #[] #[.pointer (some ⟨n + 1, 0, none⟩), .pointer (some ⟨n, 0, none⟩)], .func (.func 116) #[] #[.pointer (some ⟨n, 0, none⟩), .pointer (some ⟨n + 1, 0, none⟩)], .func (.func 117) #[] #[.pointer (some ⟨n + 1, 0, none⟩)]]) ∧
    w'.heap[n]? = some (.cells #[.int .i64 m] 3 (0, 0)) ∧ w'.heap[n + 1]? = some (.cells #[.func (.func k) #[] #[]] 135 (0, 0)) ∧ Below w.heap.size w w' := (fixed_any m k w).mono fun _ _ h => ⟨_, h.1, h.2⟩
theorem uni_ex (w : World) : Calls Tryz.prog 100 #[] w fun e w' => e = .returned (.agg #[.func (.func 120) #[] #[], .func (.func 121) #[] #[], .func (.func 122) #[] #[]]) ∧ Below w.heap.size w w' := uni_any w
set_option maxRecDepth 100000 in
set_option maxHeartbeats 2000000 in
theorem ret_ex (w : World) : Calls Tryz.prog 101 #[] w fun e w' => ∃ n,
    e = .returned (.agg #[.func (.func 124) #[] #[], .func (.func 108) #[] #[.pointer (some ⟨n + 1, 0, none⟩)], .func (.func 110) #[] #[.pointer (some ⟨n + 1, 0, none⟩)]]) ∧
    w'.heap[n]? = some (.cells #[.int .i64 4611686018427387903] 3 (0, 0)) ∧ w'.heap[n + 1]? = some (.cells #[.func (.func 123) #[] #[]] 131 (0, 0)) ∧ Below w.heap.size w w' := by
  go_enter Tryz.func101, Tryz.ntmps101
  go_wp2_with fail
  refine (int_ex _ _ _).mono ?_
  rintro e w1 ⟨n, rfl, h0, h1, hb⟩
  have hz : w.heap.size < w1.heap.size := Nat.lt_of_lt_of_le (by simp) hb.size
  have hR := heap_below hb (heap_alloc_new w _)
  have r0 := at_whole hR 0 rfl
  have r1 := at_whole hR 1 rfl
  have r2 := at_whole hR 2 rfl
  have f0 := frozen_whole hR 0
  have f1 := frozen_whole hR 1
  have f2 := frozen_whole hR 2
  simp only [List.getElem_toArray, List.getElem_cons_zero, List.getElem_cons_succ] at r0 r1 r2
  have G := Lib.hid (And.intro h0 (And.intro h1 (And.intro hb hR)))
  clear h0 h1 hb hR
  go_wp2
  obtain ⟨h0, h1, hb, hR⟩ := G.out
  have hw : Below w.heap.size w w1 := ((Below.refl _ w).alloc (Nat.le_refl _) _).trans (hb.mono (by simp))
  have e0 : n ≠ w.heap.size := fun e => by rw [e, hR] at h0; cases h0
  have e1 : n + 1 ≠ w.heap.size := fun e => by rw [e, hR] at h1; cases h1
  have B := ((((Blk.start hR).set 0 (.func (.func 124) #[] #[])).set 1 (.func (.func 108) #[] #[.pointer (some ⟨n + 1, 0, none⟩)])).set 2 (.func (.func 110) #[] #[.pointer (some ⟨n + 1, 0, none⟩)])).alloc (.cells #[.func (.func 124) #[] #[], .func (.func 108) #[] #[.pointer (some ⟨n + 1, 0, none⟩)], .func (.func 110) #[] #[.pointer (some ⟨n + 1, 0, none⟩)]] 124)
  generalize World.alloc (World.setCell _ _ _) _ = W' at B ⊢
  have g := B.2
  have c0 := at_whole B.1 0 rfl
  have c1 := at_whole B.1 1 rfl
  have c2 := at_whole B.1 2 rfl
  simp only [List.getElem_toArray, List.getElem_cons_zero, List.getElem_cons_succ, List.setIfInBounds_toArray, List.set_cons_zero, List.set_cons_succ] at c0 c1 c2
  refine bodyPost_ret (v := .agg #[.func (.func 124) #[] #[], .func (.func 108) #[] #[.pointer (some ⟨n + 1, 0, none⟩)], .func (.func 110) #[] #[.pointer (some ⟨n + 1, 0, none⟩)]]) (by simp [results, Tryz.results101, go_sem, c0, c1, c2]) rfl ⟨n, rfl, heap_grown g h0 e0, heap_grown g h1 e1, below_grown hw g (Nat.le_refl _)⟩
end Go.Proofs.YtafkndhnbnpahaaGreat
