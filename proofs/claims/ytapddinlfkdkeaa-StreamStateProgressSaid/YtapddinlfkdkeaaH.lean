import Derived.Test.YtapddinlfkdkeaaF
import Derived.Test.YtapddinlfkdkeaaBase
namespace Go.Proofs.Ytapddinlfkdkeaa
open Go.RowKit Go.Shelf Go.Proofs

def ev (x : Int) : Int := 1 + pickF x 10
def stepS (s x : Int) : Int := if (sF s (ev x)).2 = 0 then (sF s (ev x)).1 else s
def stepR (s x : Int) : Int := if (rF s (ev x)).2 = 0 then (rF s (ev x)).1 else s
def walkS (zs : List Int) : Int := (zs.take 50).foldl stepS 0
def walkR (zs : List Int) : Int := (zs.take 50).foldl stepR 0
def toS (zs : List Int) (k : Nat) : Int := (zs.take k).foldl stepS 0
def toR (zs : List Int) (k : Nat) : Int := (zs.take k).foldl stepR 0
theorem toS_succ (zs : List Int) (k : Nat) (h : k < zs.length) : toS zs (k + 1) = stepS (toS zs k) (zs[k]?.getD 0) := by
  unfold toS; rw [List.take_succ_eq_append_getElem h, List.foldl_append]; simp [h]
theorem toR_succ (zs : List Int) (k : Nat) (h : k < zs.length) : toR zs (k + 1) = stepR (toR zs k) (zs[k]?.getD 0) := by
  unfold toR; rw [List.take_succ_eq_append_getElem h, List.foldl_append]; simp [h]
theorem toS_end (zs : List Int) (k : Nat) (h : ¬ (k < zs.length ∧ k < 50)) (h1 : k ≤ zs.length) (h2 : k ≤ 50) : toS zs k = walkS zs := by
  unfold toS walkS
  rcases Nat.lt_or_ge k 50 with h3 | h3
  · have : k = zs.length := by omega
    subst this
    rw [List.take_of_length_le (Nat.le_refl _), List.take_of_length_le (by omega)]
  · have : k = 50 := by omega
    rw [this]
theorem toR_end (zs : List Int) (k : Nat) (h : ¬ (k < zs.length ∧ k < 50)) (h1 : k ≤ zs.length) (h2 : k ≤ 50) : toR zs k = walkR zs := by
  unfold toR walkR
  rcases Nat.lt_or_ge k 50 with h3 | h3
  · have : k = zs.length := by omega
    subst this
    rw [List.take_of_length_le (Nat.le_refl _), List.take_of_length_le (by omega)]
  · have : k = 50 := by omega
    rw [this]

set_option maxRecDepth 100000 in
set_option maxHeartbeats 2000000 in
theorem walk_any (zs : List Int) (v : Value) (w : World) (h : IntsAt .i64 w v zs) (hm : zs.length ≤ maxLen) (hr : ∀ n ∈ zs, (Lit.int .i64 n).wf = true) :
    Calls Try.prog 17 #[v] w fun e w' => e = .returned (.tuple #[.int .i64 (walkS zs), .int .i64 (walkR zs)]) ∧ Below w.heap.size w w' := by
  rcases h with ⟨a, cap, rfl, _, rfl⟩ | ⟨b, off, cap, rfl, h0, hl, hc, hcell⟩
  · go_enter Try.func17, Try.ntmps17
    go_wp2
    refine wp_loop_rounds 1 ?_
    rw [rounds_succ]
    go_wp2
    go_ret2
    exact ⟨rfl, Below.refl _ _⟩
  · unfold maxLen at hm hc
    have hblk : b < w.heap.size := World.block_lt_of_cell? _ _ (hcell 0 h0)
    have HC := Lib.hid hcell
    have HR := Lib.hid hr
    clear hcell hr
    go_enter Try.func17, Try.ntmps17
    go_wp2
    go_loopw [4, 5, 6] (fun s r i wr => ∃ k : Nat, k ≤ zs.length ∧ k ≤ 50 ∧ s = .int .i64 (toS zs k) ∧ r = .int .i64 (toR zs k) ∧ i = .int .i64 k ∧ Below w.heap.size w wr) (fun _ _ i _ => 50 - (intOf i).toNat)
    case atStart => exact ⟨0, by omega, by omega, rfl, rfl, rfl, Below.refl _ _⟩
    case round =>
      obtain ⟨k, hk1, hk2, rfl, rfl, rfl, hB⟩ := hrel
      by_cases hlt : k < zs.length ∧ k < 50
      · obtain ⟨hlt1, hlt2⟩ := hlt
        have hx := (hB.cell (p := ⟨b, off + k, none⟩) hblk).trans (HC.out k hlt1)
        have hwf := bounds_i64 (HR.out (zs[k]?.getD 0) (by simp [hlt1]))
        have hp := pickF_range (zs[k]?.getD 0) 10 (by omega)
        obtain ⟨hp1, hp2⟩ := hp
        obtain ⟨hw1, hw2⟩ := hwf
        have T1 := Lib.hid (toS_succ zs k hlt1)
        have T2 := Lib.hid (toR_succ zs k hlt1)
        generalize zs[k]?.getD 0 = x at *
        generalize toS zs k = s0 at *
        generalize toR zs k = r0 at *
        have hS : ((sF s0 (1 + pickF x 10)).2 == 0) = true ∨ ((sF s0 (1 + pickF x 10)).2 == 0) = false := by cases ((sF s0 (1 + pickF x 10)).2 == 0) <;> simp
        have hR : ((rF r0 (1 + pickF x 10)).2 == 0) = true ∨ ((rF r0 (1 + pickF x 10)).2 == 0) = false := by cases ((rF r0 (1 + pickF x 10)).2 == 0) <;> simp
        rcases hS with hS | hS
        all_goals rcases hR with hR | hR
        all_goals
          have S1 := Lib.hid hS
          have R1 := Lib.hid hR
          go_wp2_with (first | (go_at_call 8; refine (pick_any _ _ _ (by omega) (by omega) (by omega) (by omega)).mono ?_; rintro e w' ⟨rfl, rfl⟩) | (go_at_call 9; refine (send_any _ _ _).mono ?_; rintro e w' ⟨rfl, hb⟩; have hx' := (hb.cell (p := ⟨b, off + k, none⟩) (by have := hB.size; simp only []; omega)).trans hx) | (go_at_call 11; refine (recv_any _ _ _).mono ?_; rintro e w' ⟨rfl, hb2⟩))
          go_roundw
          case rel => exact ⟨k + 1, by omega, by omega, by rw [T1.out]; unfold stepS ev; first | rw [if_pos (beq_iff_eq.1 S1.out)] | rw [if_neg (beq_eq_false_iff_ne.1 S1.out)], by rw [T2.out]; unfold stepR ev; first | rw [if_pos (beq_iff_eq.1 R1.out)] | rw [if_neg (beq_eq_false_iff_ne.1 R1.out)], by simp, btrans hB (btrans hb hb2)⟩
          case measure => simp [intOf]; omega
      · have E1 := Lib.hid (toS_end zs k hlt hk1 hk2)
        have E2 := Lib.hid (toR_end zs k hlt hk1 hk2)
        have hcase : (k < zs.length ∧ 50 ≤ k) ∨ zs.length ≤ k := by omega
        clear hlt
        rcases hcase with ⟨hc1, hc2⟩ | hc1
        all_goals
          go_wp2
          go_ret2
          refine ⟨?_, hB⟩
          rw [← E1.out, ← E2.out]
          rfl
end Go.Proofs.Ytapddinlfkdkeaa
