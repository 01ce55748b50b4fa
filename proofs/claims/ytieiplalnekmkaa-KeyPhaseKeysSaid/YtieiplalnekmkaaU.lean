/- Law 25: Acked, Sent, Tick, Generation. -/
import Derived.Test.YtieiplalnekmkaaT
namespace Go.Proofs.Ytieiplalnekmkaa
open Go.RowKit
def sentP (X : Ph) (p : Int) : Ph := if 0 ≤ p ∧ X.sf < 0 then { X with sf := p } else X
def ackedP (X : Ph) (p : Int) : Ph := if 0 ≤ X.sf ∧ X.sf ≤ p then { X with sc := true } else X
def tickP (X : Ph) (t : Int) : Ph := if X.kept = true ∧ X.unt ≤ t then { X with kept := false } else X
set_option maxRecDepth 100000 in
set_option maxHeartbeats 2000000 in
theorem sent_any (b : Nat) (X : Ph) (p : Int) (w : World) (hb : w.heap[b]? = some (.cells X.cells 66 (0, 0))) :
    Calls Try.prog 12 #[.pointer (some ⟨b, 0, none⟩), .int .i64 p] w fun e w' => (∃ v, e = .returned v) ∧ Blk b (sentP X p).cells 66 w w' := by
  have c3 : w.cell? ⟨b, 3, none⟩ = some (.int .i64 X.sf) := at_whole hb 3 rfl
  have f3 := frozen_whole hb 3
  have HB := Lib.hid (Blk.start hb)
  unfold sentP
  clear hb
  by_cases h1 : 0 ≤ p
  · by_cases h2 : X.sf < 0
    · rw [if_pos ⟨h1, h2⟩]
      go_enter Try.func12, Try.ntmps12
      go_wp2
      go_end0
      exact ⟨⟨_, rfl⟩, (HB.out.set 3 _).cast rfl⟩
    · rw [if_neg (fun h => h2 h.2)]
      have h2' : decide (X.sf < 0) = false := by simpa using h2
      go_enter Try.func12, Try.ntmps12
      go_wp2
      go_end0
      exact ⟨⟨_, rfl⟩, HB.out⟩
  · rw [if_neg (fun h => h1 h.1)]
    have h1' : decide (0 ≤ p) = false := by simpa using h1
    go_enter Try.func12, Try.ntmps12
    go_wp2
    go_end0
    exact ⟨⟨_, rfl⟩, HB.out⟩
set_option maxRecDepth 100000 in
set_option maxHeartbeats 2000000 in
theorem acked_any (b : Nat) (X : Ph) (p : Int) (w : World) (hb : w.heap[b]? = some (.cells X.cells 66 (0, 0))) :
    Calls Try.prog 11 #[.pointer (some ⟨b, 0, none⟩), .int .i64 p] w fun e w' => (∃ v, e = .returned v) ∧ Blk b (ackedP X p).cells 66 w w' := by
  have c3 : w.cell? ⟨b, 3, none⟩ = some (.int .i64 X.sf) := at_whole hb 3 rfl
  have c4 : w.cell? ⟨b, 4, none⟩ = some (.bool X.sc) := at_whole hb 4 rfl
  have f4 := frozen_whole hb 4
  have HB := Lib.hid (Blk.start hb)
  unfold ackedP
  clear hb
  by_cases h1 : 0 ≤ X.sf
  · by_cases h2 : X.sf ≤ p
    · rw [if_pos ⟨h1, h2⟩]
      go_enter Try.func11, Try.ntmps11
      go_wp2
      go_end0
      exact ⟨⟨_, rfl⟩, (HB.out.set 4 _).cast rfl⟩
    · rw [if_neg (fun h => h2 h.2)]
      have h2' : decide (X.sf ≤ p) = false := by simpa using h2
      go_enter Try.func11, Try.ntmps11
      go_wp2
      go_end0
      exact ⟨⟨_, rfl⟩, HB.out⟩
  · rw [if_neg (fun h => h1 h.1)]
    have h1' : decide (0 ≤ X.sf) = false := by simpa using h1
    go_enter Try.func11, Try.ntmps11
    go_wp2
    go_end0
    exact ⟨⟨_, rfl⟩, HB.out⟩
set_option maxRecDepth 100000 in
set_option maxHeartbeats 2000000 in
theorem tick_any (b : Nat) (X : Ph) (t : Int) (w : World) (hb : w.heap[b]? = some (.cells X.cells 66 (0, 0))) :
    Calls Try.prog 16 #[.pointer (some ⟨b, 0, none⟩), .int .i64 t] w fun e w' => (∃ v, e = .returned v) ∧ Blk b (tickP X t).cells 66 w w' := by
  have c14 : w.cell? ⟨b, 14, none⟩ = some (.bool X.kept) := at_whole hb 14 rfl
  have c15 : w.cell? ⟨b, 15, none⟩ = some (.int .i64 X.unt) := at_whole hb 15 rfl
  have f14 := frozen_whole hb 14
  have HB := Lib.hid (Blk.start hb)
  unfold tickP
  clear hb
  by_cases h1 : X.kept = true
  · by_cases h2 : X.unt ≤ t
    · rw [if_pos ⟨h1, h2⟩]
      rw [h1] at c14
      clear h1
      go_enter Try.func16, Try.ntmps16
      go_wp2
      go_end0
      exact ⟨⟨_, rfl⟩, (HB.out.set 14 _).cast rfl⟩
    · rw [if_neg (fun h => h2 h.2)]
      rw [h1] at c14
      have h2' : decide (X.unt ≤ t) = false := by simpa using h2
      clear h1
      go_enter Try.func16, Try.ntmps16
      go_wp2
      go_end0
      exact ⟨⟨_, rfl⟩, HB.out⟩
  · rw [if_neg (fun h => h1 h.1)]
    rw [show X.kept = false by simpa using h1] at c14
    clear h1
    go_enter Try.func16, Try.ntmps16
    go_wp2
    go_end0
    exact ⟨⟨_, rfl⟩, HB.out⟩
set_option maxRecDepth 100000 in
set_option maxHeartbeats 2000000 in
theorem gen_any (b : Nat) (X : Ph) (w : World) (hb : w.heap[b]? = some (.cells X.cells 66 (0, 0))) :
    Calls Try.prog 13 #[.pointer (some ⟨b, 0, none⟩)] w fun e w' => e = .returned (.tuple #[.int .i64 X.sg, .int .i64 X.rg]) ∧ Blk b X.cells 66 w w' := by
  have c2 : w.cell? ⟨b, 2, none⟩ = some (.int .i64 X.sg) := at_whole hb 2 rfl
  have c7 : w.cell? ⟨b, 7, none⟩ = some (.int .i64 X.rg) := at_whole hb 7 rfl
  have HB := Lib.hid (Blk.start hb)
  clear hb
  go_enter Try.func13, Try.ntmps13
  go_wp2
  go_quiet (fail)
  go_wp2
  go_ret2
  exact ⟨rfl, HB.out.drewN _⟩
end Go.Proofs.Ytieiplalnekmkaa
