/- Law 13: delay's part of an ACK frame, and what strings the parts give: short ones. -/
import Derived.Test.YtafkndhnbnpahaaGreatN
import Derived.Test.YtafkndhnbnpahaaGreatSh
import Derived.StillTailTactics
namespace Go.Proofs.YtafkndhnbnpahaaGreat
open Go.RowKit
theorem encV_len (n : Int) : (encV n).length ≤ 8 := by
  unfold encV
  split
  · simp
  · rw [beB_len]
    have : (cls n).toNat ≤ 3 := by unfold cls; split <;> (try split) <;> (try split) <;> (try split) <;> (try split) <;> decide
    exact Nat.pow_le_pow_right (by decide) this
theorem strOf_size (l : List Int) : (strOfNums l).size = l.length := by simp [strOfNums, ByteArray.size]
theorem number_ex (n lim : Int) (w : World) (h0 : 0 ≤ n) (hl : n ≤ lim) (hm : n ≤ 4611686018427387903) : Calls Tryz.prog 107 #[.int .i64 n, .int .i64 lim] w fun e w' => ∃ s : ByteArray, s.size ≤ 8 ∧ e = .returned (.string s) ∧ Below w.heap.size w w' :=
  (number_any n lim w h0 hl hm).mono fun _ _ h => ⟨_, by rw [strOf_size]; exact encV_len n, h.1, h.2⟩
theorem fdelay_any (b : Nat) (w : World) : Calls Tryz.prog 92 #[.pointer (some ⟨b, 0, none⟩)] w fun e w' => e = .returned (.pointer (some ⟨b, 8, none⟩)) ∧ w = w' := by
  go_enter Tryz.func92, Tryz.ntmps92
  go_wp2
  go_ret
  exact ⟨rfl, rfl⟩
theorem fdelay_q (b : Nat) (w : World) : Calls Tryz.prog 92 #[.pointer (some ⟨b, 0, none⟩)] w fun e w' => e = .returned (.pointer (some ⟨b, 8, none⟩)) ∧ w' = w := (fdelay_any b w).mono fun _ _ h => ⟨h.1, h.2.symm⟩
theorem below_drew {w w' : World} (h : Below w.drew.heap.size w.drew w') : Below w.heap.size w w' := ((Below.refl w.heap.size w).drew).trans h
/-- a short string comes back; nothing that lay has turned -/
def Short (w : World) (e : Ending) (w' : World) : Prop := ∃ s : ByteArray, s.size ≤ 280 ∧ e = .returned (.string s) ∧ Below w.heap.size w w'
set_option maxRecDepth 100000 in
set_option maxHeartbeats 2000000 in
theorem putDelay_any (b n : Nat) (d lim : Int) (w : World) (h0 : 0 ≤ d) (hl : d ≤ lim) (hm : d ≤ 4611686018427387903) (hc : w.cell? ⟨b, 8, none⟩ = some (.int .i64 d)) (c1 : w.cell? ⟨n + 1, 0, none⟩ = some (fnv 92)) (c0 : w.cell? ⟨n, 0, none⟩ = some (.int .i64 lim)) :
    Calls Tryz.prog 106 #[.pointer (some ⟨b, 0, none⟩), .pointer (some ⟨n + 1, 0, none⟩), .pointer (some ⟨n, 0, none⟩)] w (Short w) := by
  unfold fnv at c1
  go_enter Tryz.func106, Tryz.ntmps106
  go_wp2
  go_still_tail 6, (by kernel_rfl)
  repeat (first | still_step | still_call (fdelay_q _ _))
  refine wpStill_nil ?_
  go_wp2_with (go_at_call 107; refine (number_ex d lim _ h0 hl hm).mono ?_; rintro e w' ⟨s, hs, rfl, hb⟩)
  go_ret
  exact ⟨s, by omega, rfl, below_drew hb⟩
set_option maxRecDepth 100000 in
set_option maxHeartbeats 2000000 in
theorem clearDelay_any (b n : Nat) (cs : Array Value) (w : World) (hb : w.heap[b]? = some (.cells cs 41 (0, 0))) (hz : cs.size = 13) (c1 : w.cell? ⟨n + 1, 0, none⟩ = some (fnv 92)) :
    Calls Tryz.prog 110 #[.pointer (some ⟨b, 0, none⟩), .pointer (some ⟨n + 1, 0, none⟩)] w fun e w' => e = .returned (.tuple #[]) ∧ w' = w.setCell ⟨b, 8, none⟩ (.int .i64 0) := by
  unfold fnv at c1
  have c8 : w.cell? ⟨b, 8, none⟩ = some cs[8] := (cell_whole hb 8).trans (by simp [hz])
  have f8 := frozen_whole hb 8
  have HB := Lib.hid hb
  clear hb
  go_enter Tryz.func110, Tryz.ntmps110
  go_wp2_with (go_at_call 92; refine (fdelay_any b _).mono ?_; rintro e w' ⟨rfl, rfl⟩)
  go_end0
  exact ⟨rfl, rfl⟩
set_option maxRecDepth 100000 in
set_option maxHeartbeats 2000000 in
theorem clearRanges_any (b : Nat) (cs : Array Value) (w : World) (hb : w.heap[b]? = some (.cells cs 41 (0, 0))) (hz : cs.size = 13) :
    Calls Tryz.prog 99 #[.pointer (some ⟨b, 0, none⟩)] w fun e w' => e = .returned (.tuple #[]) ∧ w' = w.setCell ⟨b, 9, none⟩ (.slice none 0 0) := by
  have c8 : w.cell? ⟨b, 9, none⟩ = some cs[9] := (cell_whole hb 9).trans (by simp [hz])
  have f8 := frozen_whole hb 9
  have HB := Lib.hid hb
  clear hb
  go_enter Tryz.func99, Tryz.ntmps99
  go_wp2
  go_end0
  exact ⟨rfl, rfl⟩
end Go.Proofs.YtafkndhnbnpahaaGreat
