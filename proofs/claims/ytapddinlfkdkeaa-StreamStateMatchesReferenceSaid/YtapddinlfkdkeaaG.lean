import Derived.Test.YtapddinlfkdkeaaF
import Derived.Test.YtapddinlfkdkeaaRows
import Derived.Handy
namespace Go.Proofs
open Go.RowKit Go.Shelf
set_option maxRecDepth 100000 in
set_option maxHeartbeats 2000000 in
theorem match_walk (a0 : Int) (a1 : Int) (w0 : (Lit.int .i64 a0).wf = true) (w1 : (Lit.int .i64 a1).wf = true) (w : World) :
    Calls Try.prog 3 #[.int .i64 a0, .int .i64 a1] w fun e w' => e = .returned (.bool true) ∧ Below w.heap.size w w' := by
  obtain ⟨b01, b02⟩ := bounds_i64 w0
  obtain ⟨b11, b12⟩ := bounds_i64 w1
  clear w0 w1
  have p10 := pickF_range a1 10 (by omega)
  go_enter Try.func3, Try.ntmps3
  go_wp2_with (first | (go_at_call 7; refine (sane_any _).mono ?_; rintro e w' ⟨rfl, hb⟩) | (go_at_call 8; refine (pick_any _ _ _ (by omega) (by omega) (by omega) (by omega)).mono ?_; rintro e w' ⟨rfl, rfl⟩) | (go_at_call 9; refine (send_any _ _ _).mono ?_; rintro e w' ⟨rfl, hb⟩) | (go_at_call 10; refine (refSend_any _ _ _).mono ?_; rintro e w' ⟨rfl, rfl⟩) | (go_at_call 11; refine (recv_any _ _ _).mono ?_; rintro e w' ⟨rfl, hb⟩) | (go_at_call 12; refine (refRecv_any _ _ _).mono ?_; rintro e w' ⟨rfl, rfl⟩) | (go_at_call 13; refine (sendDone_any _ _).mono ?_; rintro e w' ⟨rfl, rfl⟩) | (go_at_call 14; refine (refSendDone_any _ _).mono ?_; rintro e w' ⟨rfl, rfl⟩) | (go_at_call 15; refine (recvDone_any _ _).mono ?_; rintro e w' ⟨rfl, rfl⟩) | (go_at_call 16; refine (refRecvDone_any _ _).mono ?_; rintro e w' ⟨rfl, rfl⟩))
  have hB0 : Below w.heap.size w (w'.alloc (.cells #[.int .i64 a0, .int .i64 (pickF a0 6)] 3)) := hb.alloc hb.size _
  have h0 : (w'.alloc (.cells #[.int .i64 a0, .int .i64 (pickF a0 6)] 3)).cell? ⟨w'.heap.size, 0, none⟩ = some (.int .i64 a0) := by go_cell
  have h1 : (w'.alloc (.cells #[.int .i64 a0, .int .i64 (pickF a0 6)] 3)).cell? ⟨w'.heap.size, 1, none⟩ = some (.int .i64 (pickF a0 6)) := by go_cell
  have hs0 : w'.heap.size < (w'.alloc (.cells #[.int .i64 a0, .int .i64 (pickF a0 6)] 3)).heap.size := by simp
  generalize (w'.alloc (.cells #[.int .i64 a0, .int .i64 (pickF a0 6)] 3)) = W1 at *
  generalize w'.heap.size = B1 at *
  clear hb
  go_loopw [24] (fun i wr => ∃ k : Nat, k ≤ 2 ∧ i = .int .i64 k ∧ Below W1.heap.size W1 wr) (fun i _ => 2 - (intOf i).toNat)
  case atStart => exact ⟨0, by omega, rfl, Below.refl _ _⟩
  case round =>
    obtain ⟨k, hk, rfl, hB⟩ := hrel
    by_cases hlt : k < 2
    · obtain ⟨x, hx⟩ : ∃ x, wr.cell? ⟨B1, k, none⟩ = some (.int .i64 x) := by
        obtain rfl | rfl : k = 0 ∨ k = 1 := by omega
        · exact ⟨_, (hB.cell (p := ⟨B1, 0, none⟩) hs0).trans h0⟩
        · exact ⟨_, (hB.cell (p := ⟨B1, 1, none⟩) hs0).trans h1⟩
      go_wp2_with (first | (go_at_call 7; refine (sane_any _).mono ?_; rintro e w' ⟨rfl, hb⟩) | (go_at_call 8; refine (pick_any _ _ _ (by omega) (by omega) (by omega) (by omega)).mono ?_; rintro e w' ⟨rfl, rfl⟩) | (go_at_call 9; refine (send_any _ _ _).mono ?_; rintro e w' ⟨rfl, hb⟩) | (go_at_call 10; refine (refSend_any _ _ _).mono ?_; rintro e w' ⟨rfl, rfl⟩) | (go_at_call 11; refine (recv_any _ _ _).mono ?_; rintro e w' ⟨rfl, hb⟩) | (go_at_call 12; refine (refRecv_any _ _ _).mono ?_; rintro e w' ⟨rfl, rfl⟩) | (go_at_call 13; refine (sendDone_any _ _).mono ?_; rintro e w' ⟨rfl, rfl⟩) | (go_at_call 14; refine (refSendDone_any _ _).mono ?_; rintro e w' ⟨rfl, rfl⟩) | (go_at_call 15; refine (recvDone_any _ _).mono ?_; rintro e w' ⟨rfl, rfl⟩) | (go_at_call 16; refine (refRecvDone_any _ _).mono ?_; rintro e w' ⟨rfl, rfl⟩))
      have hBi : Below W1.heap.size W1 (wr.alloc (.cells #[.int .i64 a1, .int .i64 (1 + pickF a1 10)] 3)) := hB.alloc hB.size _
      have g0 : (wr.alloc (.cells #[.int .i64 a1, .int .i64 (1 + pickF a1 10)] 3)).cell? ⟨wr.heap.size, 0, none⟩ = some (.int .i64 a1) := by go_cell
      have g1 : (wr.alloc (.cells #[.int .i64 a1, .int .i64 (1 + pickF a1 10)] 3)).cell? ⟨wr.heap.size, 1, none⟩ = some (.int .i64 (1 + pickF a1 10)) := by go_cell
      have gs0 : wr.heap.size < (wr.alloc (.cells #[.int .i64 a1, .int .i64 (1 + pickF a1 10)] 3)).heap.size := by simp
      generalize (wr.alloc (.cells #[.int .i64 a1, .int .i64 (1 + pickF a1 10)] 3)) = W2 at *
      generalize wr.heap.size = B2 at *
      clear hB hx
      go_loopw [34] (fun i wr => ∃ k : Nat, k ≤ 2 ∧ i = .int .i64 k ∧ Below W2.heap.size W2 wr) (fun i _ => 2 - (intOf i).toNat)
      case atStart => exact ⟨0, by omega, rfl, Below.refl _ _⟩
      case round =>
        obtain ⟨j, hj, rfl, hC⟩ := hrel
        by_cases hlt2 : j < 2
        · obtain ⟨y, hy⟩ : ∃ x, wr.cell? ⟨B2, j, none⟩ = some (.int .i64 x) := by
            obtain rfl | rfl : j = 0 ∨ j = 1 := by omega
            · exact ⟨_, (hC.cell (p := ⟨B2, 0, none⟩) gs0).trans g0⟩
            · exact ⟨_, (hC.cell (p := ⟨B2, 1, none⟩) gs0).trans g1⟩
          go_wp2_with (first | (go_at_call 7; refine (sane_any _).mono ?_; rintro e w' ⟨rfl, hb⟩) | (go_at_call 8; refine (pick_any _ _ _ (by omega) (by omega) (by omega) (by omega)).mono ?_; rintro e w' ⟨rfl, rfl⟩) | (go_at_call 9; refine (send_any _ _ _).mono ?_; rintro e w' ⟨rfl, hb⟩) | (go_at_call 10; refine (refSend_any _ _ _).mono ?_; rintro e w' ⟨rfl, rfl⟩) | (go_at_call 11; refine (recv_any _ _ _).mono ?_; rintro e w' ⟨rfl, hb⟩) | (go_at_call 12; refine (refRecv_any _ _ _).mono ?_; rintro e w' ⟨rfl, rfl⟩) | (go_at_call 13; refine (sendDone_any _ _).mono ?_; rintro e w' ⟨rfl, rfl⟩) | (go_at_call 14; refine (refSendDone_any _ _).mono ?_; rintro e w' ⟨rfl, rfl⟩) | (go_at_call 15; refine (recvDone_any _ _).mono ?_; rintro e w' ⟨rfl, rfl⟩) | (go_at_call 16; refine (refRecvDone_any _ _).mono ?_; rintro e w' ⟨rfl, rfl⟩))
          go_roundw
          case rel => exact ⟨j + 1, by omega, by simp, (by repeat (first | assumption | exact Below.refl _ _ | refine btrans ?_ (by assumption)))⟩
          case measure => simp [intOf]; omega
        · obtain rfl : j = 2 := by omega
          go_wp2_with (first | (go_at_call 7; refine (sane_any _).mono ?_; rintro e w' ⟨rfl, hb⟩) | (go_at_call 8; refine (pick_any _ _ _ (by omega) (by omega) (by omega) (by omega)).mono ?_; rintro e w' ⟨rfl, rfl⟩) | (go_at_call 9; refine (send_any _ _ _).mono ?_; rintro e w' ⟨rfl, hb⟩) | (go_at_call 10; refine (refSend_any _ _ _).mono ?_; rintro e w' ⟨rfl, rfl⟩) | (go_at_call 11; refine (recv_any _ _ _).mono ?_; rintro e w' ⟨rfl, hb⟩) | (go_at_call 12; refine (refRecv_any _ _ _).mono ?_; rintro e w' ⟨rfl, rfl⟩) | (go_at_call 13; refine (sendDone_any _ _).mono ?_; rintro e w' ⟨rfl, rfl⟩) | (go_at_call 14; refine (refSendDone_any _ _).mono ?_; rintro e w' ⟨rfl, rfl⟩) | (go_at_call 15; refine (recvDone_any _ _).mono ?_; rintro e w' ⟨rfl, rfl⟩) | (go_at_call 16; refine (refRecvDone_any _ _).mono ?_; rintro e w' ⟨rfl, rfl⟩))
          go_roundw
          case rel => exact ⟨k + 1, by omega, by simp, btrans hBi hC⟩
          case measure => simp [intOf]; omega
    · obtain rfl : k = 2 := by omega
      go_wp2_with (first | (go_at_call 7; refine (sane_any _).mono ?_; rintro e w' ⟨rfl, hb⟩) | (go_at_call 8; refine (pick_any _ _ _ (by omega) (by omega) (by omega) (by omega)).mono ?_; rintro e w' ⟨rfl, rfl⟩) | (go_at_call 9; refine (send_any _ _ _).mono ?_; rintro e w' ⟨rfl, hb⟩) | (go_at_call 10; refine (refSend_any _ _ _).mono ?_; rintro e w' ⟨rfl, rfl⟩) | (go_at_call 11; refine (recv_any _ _ _).mono ?_; rintro e w' ⟨rfl, hb⟩) | (go_at_call 12; refine (refRecv_any _ _ _).mono ?_; rintro e w' ⟨rfl, rfl⟩) | (go_at_call 13; refine (sendDone_any _ _).mono ?_; rintro e w' ⟨rfl, rfl⟩) | (go_at_call 14; refine (refSendDone_any _ _).mono ?_; rintro e w' ⟨rfl, rfl⟩) | (go_at_call 15; refine (recvDone_any _ _).mono ?_; rintro e w' ⟨rfl, rfl⟩) | (go_at_call 16; refine (refRecvDone_any _ _).mono ?_; rintro e w' ⟨rfl, rfl⟩))
      go_ret
      exact ⟨rfl, btrans hB0 hB⟩
end Go.Proofs
