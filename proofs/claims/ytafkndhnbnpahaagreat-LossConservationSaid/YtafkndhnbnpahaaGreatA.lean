/- Law 13: pick (both), varint's class. -/
import Derived.Test.YtafkndhnbnpahaaGreatObj
namespace Go.Proofs.YtafkndhnbnpahaaGreat
open Go.RowKit
def pickF (c n : Int) : Int := if c < 0 then (-(c+1)) % n else c % n
theorem pickF_range (c n : Int) (h : 1 ≤ n) : 0 ≤ pickF c n ∧ pickF c n < n := by
  unfold pickF; split
  · exact ⟨Int.emod_nonneg _ (by omega), Int.emod_lt_of_pos _ (by omega)⟩
  · exact ⟨Int.emod_nonneg _ (by omega), Int.emod_lt_of_pos _ (by omega)⟩
theorem pick_any (c n : Int) (w : World) (hc : -9223372036854775808 ≤ c) (hc' : c ≤ 9223372036854775807) (hn : 1 ≤ n) (hn2 : n ≤ 1152921504606846976) :
    Calls Tryz.prog 13 #[.int .i64 c, .int .i64 n] w fun e w' => e = .returned (.int .i64 (pickF c n)) ∧ w = w' := by
  by_cases h : c < 0
  · have e : pickF c n = -((c+1).tmod n) := by
      unfold pickF; rw [if_pos h, ← Int.neg_tmod, Int.tmod_eq_emod_of_nonneg (by omega)]
    have H := Lib.hid e
    clear e
    go_enter Tryz.func13, Tryz.ntmps13
    go_wp2
    go_ret
    exact ⟨by rw [H.out]; rfl, rfl⟩
  · have e : pickF c n = c % n := by unfold pickF; rw [if_neg h]
    have H := Lib.hid e
    clear e
    go_enter Tryz.func13, Tryz.ntmps13
    go_wp2
    go_ret
    exact ⟨by rw [H.out]; rfl, rfl⟩
theorem pick9_any (c n : Int) (w : World) (hc : -9223372036854775808 ≤ c) (hc' : c ≤ 9223372036854775807) (hn : 1 ≤ n) (hn2 : n ≤ 1152921504606846976) :
    Calls Tryz.prog 48 #[.int .i64 c, .int .i64 n] w fun e w' => e = .returned (.int .i64 (pickF c n)) ∧ w = w' := by
  by_cases h : c < 0
  · have e : pickF c n = -((c+1).tmod n) := by
      unfold pickF; rw [if_pos h, ← Int.neg_tmod, Int.tmod_eq_emod_of_nonneg (by omega)]
    have H := Lib.hid e
    clear e
    go_enter Tryz.func48, Tryz.ntmps48
    go_wp2
    go_ret
    exact ⟨by rw [H.out]; rfl, rfl⟩
  · have e : pickF c n = c % n := by unfold pickF; rw [if_neg h]
    have H := Lib.hid e
    clear e
    go_enter Tryz.func48, Tryz.ntmps48
    go_wp2
    go_ret
    exact ⟨by rw [H.out]; rfl, rfl⟩
def cls (n : Int) : Int := if n < 0 then -1 else if n ≤ 63 then 0 else if n ≤ 16383 then 1 else if n ≤ 1073741823 then 2 else if n ≤ 4611686018427387903 then 3 else -1
theorem cidx0 (w : World) : (Instr.index 186 (.agg #[.int .i64 63, .int .i64 16383, .int .i64 1073741823, .int .i64 4611686018427387903]) (.int .i64 0)).run Tryz.prog w = .ok (.int .i64 63) w := by kernel_rfl
theorem cidx1 (w : World) : (Instr.index 186 (.agg #[.int .i64 63, .int .i64 16383, .int .i64 1073741823, .int .i64 4611686018427387903]) (.int .i64 1)).run Tryz.prog w = .ok (.int .i64 16383) w := by kernel_rfl
theorem cidx2 (w : World) : (Instr.index 186 (.agg #[.int .i64 63, .int .i64 16383, .int .i64 1073741823, .int .i64 4611686018427387903]) (.int .i64 2)).run Tryz.prog w = .ok (.int .i64 1073741823) w := by kernel_rfl
theorem cidx3 (w : World) : (Instr.index 186 (.agg #[.int .i64 63, .int .i64 16383, .int .i64 1073741823, .int .i64 4611686018427387903]) (.int .i64 3)).run Tryz.prog w = .ok (.int .i64 4611686018427387903) w := by kernel_rfl
set_option maxRecDepth 100000 in
set_option maxHeartbeats 2000000 in
theorem class_any (n : Int) (w : World) : Calls Tryz.prog 145 #[.int .i64 n] w fun e w' => e = .returned (.int .i64 (cls n)) ∧ Below w.heap.size w w' := by
  by_cases h0 : n < 0
  · have E : Hid (cls n = -1) := Lib.hid (by unfold cls; rw [if_pos h0])
    go_enter Tryz.func145, Tryz.ntmps145
    go_wp2
    go_ret
    exact ⟨by rw [E.out]; try rfl, (Below.refl _ _).alloc (Nat.le_refl _) _⟩
  · have h0' : 0 ≤ n := by omega
    have hc : n ≤ 63 ∨ (63 < n ∧ n ≤ 16383) ∨ (16383 < n ∧ n ≤ 1073741823) ∨ (1073741823 < n ∧ n ≤ 4611686018427387903) ∨ 4611686018427387903 < n := by omega
    clear h0
    have x0 := cidx0
    have x1 := cidx1
    have x2 := cidx2
    have x3 := cidx3
    rcases hc with h1 | ⟨h1, h2⟩ | ⟨h1, h2⟩ | ⟨h1, h2⟩ | h1
    · have E : Hid (cls n = 0) := Lib.hid (by unfold cls; rw [if_neg (by omega), if_pos h1])
      go_enter Tryz.func145, Tryz.ntmps145
      go_wp2
      refine wp_loop_rounds 1 ?_
      rw [rounds_succ]
      go_wp2
      go_ret
      exact ⟨by rw [E.out]; try rfl, (Below.refl _ _).alloc (Nat.le_refl _) _⟩
    · have E : Hid (cls n = 1) := Lib.hid (by unfold cls; rw [if_neg (by omega), if_neg (by omega), if_pos h2])
      have g1 : ¬ n ≤ 63 := by omega
      go_enter Tryz.func145, Tryz.ntmps145
      go_wp2
      refine wp_loop_rounds 2 ?_
      rw [rounds_succ]
      go_wp2
      rw [rounds_succ]
      go_wp2
      go_ret
      exact ⟨by rw [E.out]; try rfl, (Below.refl _ _).alloc (Nat.le_refl _) _⟩
    · have E : Hid (cls n = 2) := Lib.hid (by unfold cls; rw [if_neg (by omega), if_neg (by omega), if_neg (by omega), if_pos h2])
      have g1 : ¬ n ≤ 63 := by omega
      have g2 : ¬ n ≤ 16383 := by omega
      go_enter Tryz.func145, Tryz.ntmps145
      go_wp2
      refine wp_loop_rounds 3 ?_
      rw [rounds_succ]
      go_wp2
      rw [rounds_succ]
      go_wp2
      rw [rounds_succ]
      go_wp2
      go_ret
      exact ⟨by rw [E.out]; try rfl, (Below.refl _ _).alloc (Nat.le_refl _) _⟩
    · have E : Hid (cls n = 3) := Lib.hid (by unfold cls; rw [if_neg (by omega), if_neg (by omega), if_neg (by omega), if_neg (by omega), if_pos h2])
      have g1 : ¬ n ≤ 63 := by omega
      have g2 : ¬ n ≤ 16383 := by omega
      have g3 : ¬ n ≤ 1073741823 := by omega
      go_enter Tryz.func145, Tryz.ntmps145
      go_wp2
      refine wp_loop_rounds 4 ?_
      rw [rounds_succ]
      go_wp2
      rw [rounds_succ]
      go_wp2
      rw [rounds_succ]
      go_wp2
      rw [rounds_succ]
      go_wp2
      go_ret
      exact ⟨by rw [E.out]; try rfl, (Below.refl _ _).alloc (Nat.le_refl _) _⟩
    · have E : Hid (cls n = -1) := Lib.hid (by unfold cls; rw [if_neg (by omega), if_neg (by omega), if_neg (by omega), if_neg (by omega), if_neg (by omega)])
      have g1 : ¬ n ≤ 63 := by omega
      have g2 : ¬ n ≤ 16383 := by omega
      have g3 : ¬ n ≤ 1073741823 := by omega
      have g4 : ¬ n ≤ 4611686018427387903 := by omega
      go_enter Tryz.func145, Tryz.ntmps145
      go_wp2
      refine wp_loop_rounds 5 ?_
      rw [rounds_succ]
      go_wp2
      rw [rounds_succ]
      go_wp2
      rw [rounds_succ]
      go_wp2
      rw [rounds_succ]
      go_wp2
      rw [rounds_succ]
      go_wp2
      go_ret
      exact ⟨by rw [E.out]; try rfl, (Below.refl _ _).alloc (Nat.le_refl _) _⟩
end Go.Proofs.YtafkndhnbnpahaaGreat
