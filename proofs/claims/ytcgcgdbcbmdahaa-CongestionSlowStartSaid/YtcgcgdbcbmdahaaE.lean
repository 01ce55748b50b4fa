import Derived.Test.YtcgcgdbcbmdahaaD
namespace Go.Proofs.Ytcgcgdbcbmdahaa
open Go.RowKit
theorem Blk.drewN {b : Nat} {cs : Array Value} {T : TypeId} {w w' : World} (h : Blk b cs T w w') (n : Nat) : Blk b cs T w (w'.drewN n) := ⟨h.1, ⟨h.2.os, h.2.tape, h.2.output, h.2.size, h.2.block⟩⟩
theorem counted_any (n : Int) (w : World) : Calls Try.prog 29 #[.int .i64 n] w fun e w' => e = .returned (.int .i64 (bytesF n)) ∧ w = w' := (counted_still n w).mono fun _ _ h => ⟨h.1, h.2.symm⟩
set_option maxHeartbeats 4000000 in
theorem ackedR_go (b : Nat) (d : Ctl) (sent n : Int) (w : World) (D : Calls Try.prog 26 #[.pointer (some ⟨b, 0, none⟩), .int .i64 n] w fun e w' => e = .returned (.tuple #[]) ∧ ToR b d w w') (h3 : 1024 ≤ d.size) (h4 : d.size ≤ 65536)
    (hr : d.recov = false ∨ (d.recov = true ∧ ¬ sent ≤ d.since)) :
    Calls Try.prog 24 #[.pointer (some ⟨b, 0, none⟩), .int .i64 sent, .int .i64 n] w fun e w' => e = .returned (.tuple #[]) ∧ ToR b (if d.size < d.thr then growF d (bytesF n) else growF d (avoidBy d (bytesF n))) w w' := by
  have D := Lib.hid D
  have hb := bytesF_range n
  obtain ⟨hb1, hb2⟩ := hb
  have HC := Lib.hid (fun w => counted_any n w)
  generalize bytesF n = k at *
  have q0 : 0 ≤ 512 * k / d.size := Int.ediv_nonneg (by omega) (by omega)
  have q1 : 512 * k / d.size ≤ 32768 := by
    apply Int.ediv_le_of_le_mul (by omega)
    have : (32768 : Int) * 1024 ≤ 32768 * d.size := by omega
    omega
  have s1 : IntKind.i64.wrap ((512 * k).tdiv d.size) = 512 * k / d.size := IntWalk.i64_quo _ _ ⟨by omega, by omega, by omega⟩
  have HE : ∃ y, (if d.size < d.thr then growF d k else growF d (avoidBy d k)) = { d with size := y } ∧ ((d.size < d.thr ∧ (if 65536 < d.size + k then 65536 else d.size + k) = y) ∨ (d.thr ≤ d.size ∧ 0 < k ∧ (512 * k / d.size == 0) = true ∧ (if 65536 < d.size + 1 then 65536 else d.size + 1) = y) ∨ (d.thr ≤ d.size ∧ 0 < k ∧ (512 * k / d.size == 0) = false ∧ (if 65536 < d.size + 512 * k / d.size then 65536 else d.size + 512 * k / d.size) = y) ∨ (d.thr ≤ d.size ∧ k ≤ 0 ∧ (if 65536 < d.size + 512 * k / d.size then 65536 else d.size + 512 * k / d.size) = y)) := by
    by_cases a : d.size < d.thr
    · exact ⟨_, (if_pos a).trans rfl, .inl ⟨a, rfl⟩⟩
    · by_cases p : 0 < k
      · by_cases q : 512 * k / d.size < 1
        · refine ⟨_, (if_neg a).trans rfl, .inr (.inl ⟨by omega, p, by simp; omega, ?_⟩)⟩
          unfold avoidBy; rw [if_pos p, if_pos q]
        · refine ⟨_, (if_neg a).trans rfl, .inr (.inr (.inl ⟨by omega, p, by simp; omega, ?_⟩))⟩
          unfold avoidBy; rw [if_pos p, if_neg q]
      · refine ⟨_, (if_neg a).trans rfl, .inr (.inr (.inr ⟨by omega, by omega, ?_⟩))⟩
        unfold avoidBy; rw [if_neg p]
  obtain ⟨y, hy, hcase⟩ := HE
  rw [hy]
  clear hy
  generalize 512 * k / d.size = Q at *
  have HF : Hid (∀ w1, AtR w1 b d → (Facts w1 b d)) := Lib.hid (fun w1 h => h.facts)
  rcases hr with hr | ⟨hr, hs⟩
  all_goals
    have HR := Lib.hid hr
    clear hr
    rcases hcase with ⟨a, hy⟩ | ⟨a, p, q, hy⟩ | ⟨a, p, q, hy⟩ | ⟨a, p, hy⟩
  all_goals
    go_enter Try.func24, Try.ntmps24
    go_wp2_with (first | (go_at_call 26; refine D.out.mono ?_; rintro e w1 ⟨rfl, ht⟩; obtain ⟨c0, c1, c2, c3, c4, c5, c6, fr⟩ := HF.out w1 ht.1; rw [HR.out] at c3) | (go_at_call 29; refine (HC.out _).mono ?_; rintro e w2 ⟨rfl, rfl⟩))
    go_quiet (fail)
    go_wp2
    go_returns
    refine ⟨rfl, ?_⟩
    exact (show ToR b _ w _ from ((Blk.trans ht (Blk.start ht.1)).set 0 _).drewN _)
theorem ackedR_any (b : Nat) (c : Ctl) (sent n : Int) (w : World) (hA : AtR w b c) (h1 : 0 ≤ c.flight) (h2 : c.flight ≤ 1125899906842624) (h3 : 1024 ≤ c.size) (h4 : c.size ≤ 65536) :
    Calls Try.prog 24 #[.pointer (some ⟨b, 0, none⟩), .int .i64 sent, .int .i64 n] w fun e w' => e = .returned (.tuple #[]) ∧ ToR b (ackedF c sent n) w w' := by
  have D := discR_any b c n w hA h1 h2
  have EL : ackedF c sent n = if oldF (discF c n) sent then discF c n else if (discF c n).size < (discF c n).thr then growF (discF c n) (bytesF n) else growF (discF c n) (avoidBy (discF c n) (bytesF n)) := rfl
  have h3 : 1024 ≤ (discF c n).size := h3
  have h4 : (discF c n).size ≤ 65536 := h4
  generalize discF c n = d at *
  by_cases ho : oldF d sent = true
  · rw [EL, ho]
    have hr : d.recov = true ∧ sent ≤ d.since := by unfold oldF at ho; simpa using ho
    obtain ⟨hr, hs⟩ := hr
    have D := Lib.hid D
    have HR := Lib.hid hr
    clear hr ho EL
    go_enter Try.func24, Try.ntmps24
    go_wp2_with (go_at_call 26; refine D.out.mono ?_; rintro e w1 ⟨rfl, ht⟩; obtain ⟨c0, c1, c2, c3, c4, c5, c6, fr⟩ := (show AtR w1 b d from ht.1).facts; rw [HR.out] at c3)
    go_returns
    exact ⟨rfl, ht⟩
  · rw [EL, if_neg ho]
    refine ackedR_go b d sent n w D h3 h4 ?_
    unfold oldF at ho
    cases hr : d.recov
    · exact .inl rfl
    · exact .inr ⟨rfl, by rw [hr] at ho; simpa using ho⟩
end Go.Proofs.Ytcgcgdbcbmdahaa
