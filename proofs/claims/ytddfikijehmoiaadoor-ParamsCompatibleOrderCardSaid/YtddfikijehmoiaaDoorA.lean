/- Law 20: the small functions: pick, the closures that give a field's place, class, Len. -/
import Derived.Test.YtddfikijehmoiaaDoorObj
namespace Go.Proofs.YtddfikijehmoiaaDoor
open Go.RowKit
def pickF (c n : Int) : Int := if c < 0 then (-(c+1)) % n else c % n
theorem pickF_range (c n : Int) (h : 1 ≤ n) : 0 ≤ pickF c n ∧ pickF c n < n := by
  unfold pickF; split
  · exact ⟨Int.emod_nonneg _ (by omega), Int.emod_lt_of_pos _ (by omega)⟩
  · exact ⟨Int.emod_nonneg _ (by omega), Int.emod_lt_of_pos _ (by omega)⟩
theorem pick_any (c n : Int) (w : World) (hc : -9223372036854775808 ≤ c) (hc' : c ≤ 9223372036854775807) (hn : 1 ≤ n) (hn2 : n ≤ 1152921504606846976) :
    Calls Tryd.prog 12 #[.int .i64 c, .int .i64 n] w fun e w' => e = .returned (.int .i64 (pickF c n)) ∧ w = w' := by
  by_cases h : c < 0
  · have e : pickF c n = -((c+1).tmod n) := by
      unfold pickF; rw [if_pos h, ← Int.neg_tmod, Int.tmod_eq_emod_of_nonneg (by omega)]
    have H := Lib.hid e
    clear e
    go_enter Tryd.func12, Tryd.ntmps12
    go_wp2
    go_ret
    exact ⟨by rw [H.out]; rfl, rfl⟩
  · have e : pickF c n = c % n := by unfold pickF; rw [if_neg h]
    have H := Lib.hid e
    clear e
    go_enter Tryd.func12, Tryd.ntmps12
    go_wp2
    go_ret
    exact ⟨by rw [H.out]; rfl, rfl⟩
theorem get0 (b : Nat) (w : World) : Calls Tryd.prog 32 #[.pointer (some ⟨b, 0, none⟩)] w fun e w' => e = .returned (.pointer (some ⟨b, 0, none⟩)) ∧ w' = w := by
  go_enter Tryd.func32, Tryd.ntmps32
  go_wp2
  go_ret
  exact ⟨rfl, rfl⟩
theorem get1 (b : Nat) (w : World) : Calls Tryd.prog 33 #[.pointer (some ⟨b, 0, none⟩)] w fun e w' => e = .returned (.pointer (some ⟨b, 1, none⟩)) ∧ w' = w := by
  go_enter Tryd.func33, Tryd.ntmps33
  go_wp2
  go_ret
  exact ⟨rfl, rfl⟩
theorem get2 (b : Nat) (w : World) : Calls Tryd.prog 34 #[.pointer (some ⟨b, 0, none⟩)] w fun e w' => e = .returned (.pointer (some ⟨b, 2, none⟩)) ∧ w' = w := by
  go_enter Tryd.func34, Tryd.ntmps34
  go_wp2
  go_ret
  exact ⟨rfl, rfl⟩
theorem get3 (b : Nat) (w : World) : Calls Tryd.prog 35 #[.pointer (some ⟨b, 0, none⟩)] w fun e w' => e = .returned (.pointer (some ⟨b, 3, none⟩)) ∧ w' = w := by
  go_enter Tryd.func35, Tryd.ntmps35
  go_wp2
  go_ret
  exact ⟨rfl, rfl⟩
theorem get4 (b : Nat) (w : World) : Calls Tryd.prog 36 #[.pointer (some ⟨b, 0, none⟩)] w fun e w' => e = .returned (.pointer (some ⟨b, 4, none⟩)) ∧ w' = w := by
  go_enter Tryd.func36, Tryd.ntmps36
  go_wp2
  go_ret
  exact ⟨rfl, rfl⟩
theorem get5 (b : Nat) (w : World) : Calls Tryd.prog 37 #[.pointer (some ⟨b, 0, none⟩)] w fun e w' => e = .returned (.pointer (some ⟨b, 5, none⟩)) ∧ w' = w := by
  go_enter Tryd.func37, Tryd.ntmps37
  go_wp2
  go_ret
  exact ⟨rfl, rfl⟩
def cls (n : Int) : Int := if n < 0 then -1 else if n ≤ 63 then 0 else if n ≤ 16383 then 1 else if n ≤ 1073741823 then 2 else if n ≤ 4611686018427387903 then 3 else -1
theorem cidx0 (w : World) : (Instr.index 80 (.agg #[.int .i64 63, .int .i64 16383, .int .i64 1073741823, .int .i64 4611686018427387903]) (.int .i64 0)).run Tryd.prog w = .ok (.int .i64 63) w := by kernel_rfl
theorem cidx1 (w : World) : (Instr.index 80 (.agg #[.int .i64 63, .int .i64 16383, .int .i64 1073741823, .int .i64 4611686018427387903]) (.int .i64 1)).run Tryd.prog w = .ok (.int .i64 16383) w := by kernel_rfl
theorem cidx2 (w : World) : (Instr.index 80 (.agg #[.int .i64 63, .int .i64 16383, .int .i64 1073741823, .int .i64 4611686018427387903]) (.int .i64 2)).run Tryd.prog w = .ok (.int .i64 1073741823) w := by kernel_rfl
theorem cidx3 (w : World) : (Instr.index 80 (.agg #[.int .i64 63, .int .i64 16383, .int .i64 1073741823, .int .i64 4611686018427387903]) (.int .i64 3)).run Tryd.prog w = .ok (.int .i64 4611686018427387903) w := by kernel_rfl
set_option maxRecDepth 100000 in
set_option maxHeartbeats 2000000 in
theorem class_any (n : Int) (w : World) : Calls Tryd.prog 23 #[.int .i64 n] w fun e w' => e = .returned (.int .i64 (cls n)) ∧ Below w.heap.size w w' := by
  by_cases h0 : n < 0
  · have E : Hid (cls n = -1) := Lib.hid (by unfold cls; rw [if_pos h0])
    go_enter Tryd.func23, Tryd.ntmps23
    go_wp2
    go_ret
    exact ⟨by rw [E.out]; try rfl, (Below.refl _ _).alloc (Nat.le_refl _) _⟩
  · have h0' : 0 ≤ n := by omega
    have hc : n ≤ 63 ∨ (63 < n ∧ n ≤ 16383) ∨ (16383 < n ∧ n ≤ 1073741823) ∨ (1073741823 < n ∧ n ≤ 4611686018427387903) ∨ 4611686018427387903 < n := by omega
    clear h0
    have x0 := cidx0
    have x1 := cidx1
    have x2 := cidx2
    have x3 := cidx3
    rcases hc with h1 | ⟨h1, h2⟩ | ⟨h1, h2⟩ | ⟨h1, h2⟩ | h1
    · have E : Hid (cls n = 0) := Lib.hid (by unfold cls; rw [if_neg (by omega), if_pos h1])
      go_enter Tryd.func23, Tryd.ntmps23
      go_wp2
      refine wp_loop_rounds 1 ?_
      rw [rounds_succ]
      go_wp2
      go_ret
      exact ⟨by rw [E.out]; try rfl, (Below.refl _ _).alloc (Nat.le_refl _) _⟩
    · have E : Hid (cls n = 1) := Lib.hid (by unfold cls; rw [if_neg (by omega), if_neg (by omega), if_pos h2])
      have g1 : ¬ n ≤ 63 := by omega
      go_enter Tryd.func23, Tryd.ntmps23
      go_wp2
      refine wp_loop_rounds 2 ?_
      rw [rounds_succ]
      go_wp2
      rw [rounds_succ]
      go_wp2
      go_ret
      exact ⟨by rw [E.out]; try rfl, (Below.refl _ _).alloc (Nat.le_refl _) _⟩
    · have E : Hid (cls n = 2) := Lib.hid (by unfold cls; rw [if_neg (by omega), if_neg (by omega), if_neg (by omega), if_pos h2])
      have g1 : ¬ n ≤ 63 := by omega
      have g2 : ¬ n ≤ 16383 := by omega
      go_enter Tryd.func23, Tryd.ntmps23
      go_wp2
      refine wp_loop_rounds 3 ?_
      rw [rounds_succ]
      go_wp2
      rw [rounds_succ]
      go_wp2
      rw [rounds_succ]
      go_wp2
      go_ret
      exact ⟨by rw [E.out]; try rfl, (Below.refl _ _).alloc (Nat.le_refl _) _⟩
    · have E : Hid (cls n = 3) := Lib.hid (by unfold cls; rw [if_neg (by omega), if_neg (by omega), if_neg (by omega), if_neg (by omega), if_pos h2])
      have g1 : ¬ n ≤ 63 := by omega
      have g2 : ¬ n ≤ 16383 := by omega
      have g3 : ¬ n ≤ 1073741823 := by omega
      go_enter Tryd.func23, Tryd.ntmps23
      go_wp2
      refine wp_loop_rounds 4 ?_
      rw [rounds_succ]
      go_wp2
      rw [rounds_succ]
      go_wp2
      rw [rounds_succ]
      go_wp2
      rw [rounds_succ]
      go_wp2
      go_ret
      exact ⟨by rw [E.out]; try rfl, (Below.refl _ _).alloc (Nat.le_refl _) _⟩
    · have E : Hid (cls n = -1) := Lib.hid (by unfold cls; rw [if_neg (by omega), if_neg (by omega), if_neg (by omega), if_neg (by omega), if_neg (by omega)])
      have g1 : ¬ n ≤ 63 := by omega
      have g2 : ¬ n ≤ 16383 := by omega
      have g3 : ¬ n ≤ 1073741823 := by omega
      have g4 : ¬ n ≤ 4611686018427387903 := by omega
      go_enter Tryd.func23, Tryd.ntmps23
      go_wp2
      refine wp_loop_rounds 5 ?_
      rw [rounds_succ]
      go_wp2
      rw [rounds_succ]
      go_wp2
      rw [rounds_succ]
      go_wp2
      rw [rounds_succ]
      go_wp2
      rw [rounds_succ]
      go_wp2
      go_ret
      exact ⟨by rw [E.out]; try rfl, (Below.refl _ _).alloc (Nat.le_refl _) _⟩
def wid (n : Int) : Int := if cls n < 0 then 0 else 2 ^ (cls n).toNat
theorem len_any (n : Int) (w : World) : Calls Tryd.prog 16 #[.int .i64 n] w fun e w' => e = .returned (.int .i64 (wid n)) ∧ Below w.heap.size w w' := by
  have hc : cls n = -1 ∨ cls n = 0 ∨ cls n = 1 ∨ cls n = 2 ∨ cls n = 3 := by unfold cls; (repeat' split) <;> simp
  have CL := Lib.hid (class_any n w)
  unfold wid
  rcases hc with h | h | h | h | h
  all_goals
    rw [h] at CL ⊢
    clear h
    go_enter Tryd.func16, Tryd.ntmps16
    go_wp2_with (go_at_call 23; refine CL.out.mono ?_; rintro e w' ⟨rfl, hb⟩)
    go_ret
    exact ⟨rfl, hb⟩
end Go.Proofs.YtddfikijehmoiaaDoor
