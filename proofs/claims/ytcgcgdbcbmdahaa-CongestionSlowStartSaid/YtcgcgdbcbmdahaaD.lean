import Derived.Test.YtcgcgdbcbmdahaaB
import Derived.Test.YtcgcgdbcbmdahaaC
namespace Go.Proofs.Ytcgcgdbcbmdahaa
open Go.RowKit
def AtR (w : World) (b : Nat) (c : Ctl) : Prop := w.heap[b]? = some (.cells c.enc 34 (0, 0))
theorem AtR.facts {w : World} {b : Nat} {c : Ctl} (h : AtR w b c) : Facts w b c :=
  ⟨cell_whole h 0, cell_whole h 1, cell_whole h 2, cell_whole h 3, cell_whole h 4, cell_whole h 5, cell_whole h 6, frozen_whole h⟩
def ToR (b : Nat) (c' : Ctl) (w w' : World) : Prop := Blk b c'.enc 34 w w'
theorem counted_still (n : Int) (w : World) : Calls Try.prog 29 #[.int .i64 n] w fun e w' => e = .returned (.int .i64 (bytesF n)) ∧ w' = w := by
  go_enter Try.func29, Try.ntmps29
  go_wp2
  all_goals go_ret
  all_goals refine ⟨?_, rfl⟩
  all_goals (unfold bytesF; simp_all)
  all_goals omega
theorem newR_any (w : World) : Calls Try.prog 10 #[] w fun e w' => e = .returned (.pointer (some ⟨w.heap.size, 0, none⟩)) ∧ w' = w.alloc (.cells newC.enc 34) := by
  go_enter Try.func10, Try.ntmps10
  go_wp2
  go_ret
  exact ⟨rfl, rfl⟩
theorem collR_any (b : Nat) (c : Ctl) (w : World) (h : AtR w b c) : Calls Try.prog 27 #[.pointer (some ⟨b, 0, none⟩)] w fun e w' => e = .returned (.tuple #[]) ∧ ToR b (collF c) w w' := by
  obtain ⟨c0, c1, c2, c3, c4, c5, c6, fr⟩ := h.facts
  go_enter Try.func27, Try.ntmps27
  go_wp2
  go_returns
  exact ⟨rfl, ((Blk.start h).set 0 _).set 3 _⟩
set_option maxHeartbeats 1000000 in
theorem sentR_any (b : Nat) (c : Ctl) (n : Int) (w : World) (hA : AtR w b c) (h1 : 0 ≤ c.flight) (h2 : c.flight ≤ 1125899906842624) (h3 : -1125899906842624 ≤ c.budget) (h4 : c.budget ≤ 1125899906842624) :
    Calls Try.prog 23 #[.pointer (some ⟨b, 0, none⟩), .int .i64 n] w fun e w' => e = .returned (.tuple #[]) ∧ ToR b (sentF c n) w w' := by
  have HB : Hid (Blk b (c.enc.setIfInBounds 2 (.int .i64 (c.flight + bytesF n))) 34 w (w.setCell ⟨b, 2, none⟩ (.int .i64 (c.flight + bytesF n))).drew) := Lib.hid (((Blk.start hA).set 2 _).drew)
  have c5' := (cell_whole HB.out.1 5).trans (rfl : _ = some (Value.int .i64 c.budget))
  have fr' := frozen_whole HB.out.1
  obtain ⟨c0, c1, c2, c3, c4, c5, c6, fr⟩ := hA.facts
  have hb := bytesF_range n
  obtain ⟨hb1, hb2⟩ := hb
  have hs : IntKind.i64.wrap (c.flight + bytesF n) = c.flight + bytesF n := IntWalk.i64_in _ (by omega)
  have hs2 : IntKind.i64.wrap (c.budget - bytesF n) = c.budget - bytesF n := IntWalk.i64_in _ (by omega)
  clear c0 c1 c3 c4 c6
  go_enter Try.func23, Try.ntmps23
  go_wp2
  go_still_tail 10, (by kernel_rfl)
  repeat (first | still_step | still_call (counted_still _ _))
  refine wpStill_nil ?_
  go_wp2
  generalize (w.setCell ⟨b, 2, none⟩ (.int .i64 (c.flight + bytesF n))).drew = W1 at *
  go_still_tail 10, (by kernel_rfl)
  repeat (first | still_step | still_call (counted_still _ _))
  refine wpStill_nil ?_
  go_wp2
  go_returns
  exact ⟨rfl, (HB.out.set 5 _).drew⟩
set_option maxHeartbeats 1000000 in
theorem discR_any (b : Nat) (c : Ctl) (n : Int) (w : World) (hA : AtR w b c) (h1 : 0 ≤ c.flight) (h2 : c.flight ≤ 1125899906842624) :
    Calls Try.prog 26 #[.pointer (some ⟨b, 0, none⟩), .int .i64 n] w fun e w' => e = .returned (.tuple #[]) ∧ ToR b (discF c n) w w' := by
  obtain ⟨c0, c1, c2, c3, c4, c5, c6, fr⟩ := hA.facts
  have hb := bytesF_range n
  obtain ⟨hb1, hb2⟩ := hb
  have hs : IntKind.i64.wrap (c.flight - bytesF n) = c.flight - bytesF n := IntWalk.i64_in _ (by omega)
  by_cases hc : c.flight < bytesF n
  all_goals
    go_enter Try.func26, Try.ntmps26
    go_wp2
    go_still_tail 11, (by kernel_rfl)
    repeat (first | still_step | still_call (counted_still _ _))
    refine wpStill_nil ?_
    go_wp2
    go_returns
    refine ⟨rfl, ?_⟩
    unfold discF
    first | rw [if_pos (by omega)] | rw [if_neg (by omega)]
    exact Blk.cast ((Blk.start hA).set 2 _).drew (by simp [Ctl.enc]; try omega)
set_option maxHeartbeats 4000000 in
theorem lostR_any (b : Nat) (c : Ctl) (now sent n : Int) (w : World) (hA : AtR w b c) (h1 : 0 ≤ c.flight) (h2 : c.flight ≤ 1125899906842624) (h3 : 1024 ≤ c.size) (h4 : c.size ≤ 65536) :
    Calls Try.prog 25 #[.pointer (some ⟨b, 0, none⟩), .int .i64 now, .int .i64 sent, .int .i64 n] w fun e w' => e = .returned (.tuple #[]) ∧ ToR b (lostF c now sent n) w w' := by
  have D := Lib.hid (discR_any b c n w hA h1 h2)
  have EL : Hid (lostF c now sent n = if oldF (discF c n) sent then discF c n else halveF { discF c n with recov := true, since := now }) := Lib.hid rfl
  have h3 : 1024 ≤ (discF c n).size := h3
  have h4 : (discF c n).size ≤ 65536 := h4
  generalize discF c n = d at *
  cases hr : d.recov
  · have ho : oldF d sent = false := by unfold oldF; rw [hr]; rfl
    rw [ho] at EL
    have HR := Lib.hid hr
    clear hr ho
    by_cases hc : d.size / 2 < 1024
    all_goals
      have E := Lib.hid (show halveF { d with recov := true, since := now } = _ from by unfold halveF; first | rw [if_pos hc] | rw [if_neg hc])
      go_enter Try.func25, Try.ntmps25
      go_wp2_with (go_at_call 26; refine D.out.mono ?_; rintro e w1 ⟨rfl, ht⟩; obtain ⟨c0, c1, c2, c3, c4, c5, c6, fr⟩ := (show AtR w1 b d from ht.1).facts; rw [HR.out] at c3)
      go_returns
      refine ⟨rfl, ?_⟩
      rw [EL.out, if_neg Bool.false_ne_true, E.out]
      exact ((((Blk.trans ht (Blk.start ht.1)).set 3 _).set 4 _).set 0 _).set 1 _
  · have HR := Lib.hid hr
    by_cases hs : sent ≤ d.since
    · have ho : oldF d sent = true := by unfold oldF; rw [hr]; simpa using hs
      rw [ho] at EL
      clear hr ho
      go_enter Try.func25, Try.ntmps25
      go_wp2_with (go_at_call 26; refine D.out.mono ?_; rintro e w1 ⟨rfl, ht⟩; obtain ⟨c0, c1, c2, c3, c4, c5, c6, fr⟩ := (show AtR w1 b d from ht.1).facts; rw [HR.out] at c3)
      go_returns
      exact ⟨rfl, by rw [EL.out]; exact ht⟩
    · have ho : oldF d sent = false := by unfold oldF; rw [hr]; simpa using hs
      rw [ho] at EL
      clear hr ho
      by_cases hc : d.size / 2 < 1024
      all_goals
        have E := Lib.hid (show halveF { d with recov := true, since := now } = _ from by unfold halveF; first | rw [if_pos hc] | rw [if_neg hc])
        go_enter Try.func25, Try.ntmps25
        go_wp2_with (go_at_call 26; refine D.out.mono ?_; rintro e w1 ⟨rfl, ht⟩; obtain ⟨c0, c1, c2, c3, c4, c5, c6, fr⟩ := (show AtR w1 b d from ht.1).facts; rw [HR.out] at c3)
        go_returns
        refine ⟨rfl, ?_⟩
        rw [EL.out, if_neg Bool.false_ne_true, E.out]
        exact ((((Blk.trans ht (Blk.start ht.1)).set 3 _).set 4 _).set 0 _).set 1 _
end Go.Proofs.Ytcgcgdbcbmdahaa
