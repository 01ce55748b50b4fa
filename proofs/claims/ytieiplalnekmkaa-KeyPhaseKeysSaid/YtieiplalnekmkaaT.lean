/- Law 25: Update, Acked, Sent, Tick, Generation. -/
import Derived.Test.YtieiplalnekmkaaS
import Derived.BigQuiet
namespace Go.Proofs.Ytieiplalnekmkaa
open Go.RowKit
theorem up_nil (w : World) : Calls Try.prog 10 #[.pointer none] w fun e w' => e = .returned (.int .i64 1) ∧ w = w' := by
  go_enter Try.func10, Try.ntmps10
  go_wp2
  go_ret
  exact ⟨rfl, rfl⟩
def updB (X : Ph) : Bool := X.sc && decide (X.sg = X.rg)
def updP (X : Ph) : Ph := if updB X = true then { X with ss := nx X.ss, sg := X.sg + 1, sf := -1, sc := false } else X
def updR (X : Ph) : Int := if updB X = true then 0 else 251
set_option maxRecDepth 100000 in
set_option maxHeartbeats 2000000 in
theorem up_no1 (b : Nat) (X : Ph) (w : World) (hsc : X.sc = false) (hb : w.heap[b]? = some (.cells X.cells 66 (0, 0))) :
    Calls Try.prog 10 #[.pointer (some ⟨b, 0, none⟩)] w fun e w' => e = .returned (.int .i64 251) ∧ Blk b X.cells 66 w w' := by
  have c4 : w.cell? ⟨b, 4, none⟩ = some (.bool false) := by rw [← hsc]; exact at_whole hb 4 rfl
  have HB := Lib.hid (Blk.start hb)
  clear hsc hb
  go_enter Try.func10, Try.ntmps10
  go_wp2
  go_quiet (fail)
  go_wp2
  go_ret
  exact ⟨rfl, HB.out.drewN _⟩
set_option maxRecDepth 100000 in
set_option maxHeartbeats 2000000 in
theorem up_no2 (b : Nat) (X : Ph) (w : World) (hsc : X.sc = true) (hg : X.sg ≠ X.rg) (hb : w.heap[b]? = some (.cells X.cells 66 (0, 0))) :
    Calls Try.prog 10 #[.pointer (some ⟨b, 0, none⟩)] w fun e w' => e = .returned (.int .i64 251) ∧ Blk b X.cells 66 w w' := by
  have c4 : w.cell? ⟨b, 4, none⟩ = some (.bool true) := by rw [← hsc]; exact at_whole hb 4 rfl
  have c2 : w.cell? ⟨b, 2, none⟩ = some (.int .i64 X.sg) := at_whole hb 2 rfl
  have c7 : w.cell? ⟨b, 7, none⟩ = some (.int .i64 X.rg) := at_whole hb 7 rfl
  have hd : (X.sg != X.rg) = true := by simpa using hg
  have HB := Lib.hid (Blk.start hb)
  clear hsc hb hg
  go_enter Try.func10, Try.ntmps10
  go_wp2
  go_quiet (fail)
  go_wp2
  go_ret
  exact ⟨rfl, HB.out.drewN _⟩
set_option maxRecDepth 100000 in
set_option maxHeartbeats 2000000 in
theorem up_yes (b : Nat) (X : Ph) (w : World) (hsc : X.sc = true) (hg : X.sg = X.rg) (hs : X.ss.size = 16) (hg0 : 0 ≤ X.sg) (hg1 : X.sg ≤ 1000000) (hb : w.heap[b]? = some (.cells X.cells 66 (0, 0))) :
    Calls Try.prog 10 #[.pointer (some ⟨b, 0, none⟩)] w fun e w' => e = .returned (.int .i64 0) ∧ Blk b ({ X with ss := nx X.ss, sg := X.sg + 1, sf := -1, sc := false } : Ph).cells 66 w w' := by
  have c4 : w.cell? ⟨b, 4, none⟩ = some (.bool true) := by rw [← hsc]; exact at_whole hb 4 rfl
  have c2 : w.cell? ⟨b, 2, none⟩ = some (.int .i64 X.sg) := at_whole hb 2 rfl
  have c7 : w.cell? ⟨b, 7, none⟩ = some (.int .i64 X.rg) := at_whole hb 7 rfl
  have hd : (X.sg != X.rg) = false := by simpa using hg
  have HB := Lib.hid (Blk.start hb)
  have RN := Lib.hid (fun n => renew_any b X (w.drewN n) hs hg0 hg1 hb)
  have R0 := Lib.hid (renew_any b X w.drew hs hg0 hg1 hb)
  clear hsc hb hg hs
  go_enter Try.func10, Try.ntmps10
  go_wp2
  go_quiet (fail)
  go_wp2_with fail
  refine (RN.out _).mono ?_
  rintro e w1 ⟨⟨v, rfl⟩, h1⟩
  have H1 := Lib.hid ((HB.out.drewN _).trans h1)
  clear h1
  go_wp2
  go_ret
  exact ⟨rfl, H1.out⟩
theorem up_any (b : Nat) (X : Ph) (w : World) (hs : X.ss.size = 16) (hg0 : 0 ≤ X.sg) (hg1 : X.sg ≤ 1000000) (hb : w.heap[b]? = some (.cells X.cells 66 (0, 0))) :
    Calls Try.prog 10 #[.pointer (some ⟨b, 0, none⟩)] w fun e w' => e = .returned (.int .i64 (updR X)) ∧ Blk b (updP X).cells 66 w w' := by
  unfold updR updP
  by_cases h1 : X.sc = true
  · by_cases h2 : X.sg = X.rg
    · have : updB X = true := by simp [updB, h1, h2]
      rw [if_pos this, if_pos this]
      exact up_yes b X w h1 h2 hs hg0 hg1 hb
    · have : ¬ updB X = true := by simp [updB, h2]
      rw [if_neg this, if_neg this]
      exact up_no2 b X w h1 h2 hb
  · have : ¬ updB X = true := by simp [updB, h1]
    rw [if_neg this, if_neg this]
    exact up_no1 b X w (by simpa using h1) hb
end Go.Proofs.Ytieiplalnekmkaa
