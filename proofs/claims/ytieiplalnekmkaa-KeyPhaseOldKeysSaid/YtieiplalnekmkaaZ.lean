/- Law 25: conflict; Opened within the generations that are there. -/
import Derived.Test.YtieiplalnekmkaaW
namespace Go.Proofs.Ytieiplalnekmkaa
open Go.RowKit
theorem with_any (l t p : Int) (w : World) (h : (l = -1 ∧ t = -1) ∨ 0 ≤ l) : Calls Try.prog 25 #[.agg #[.int .i64 l, .int .i64 t], .int .i64 p] w fun e w' => e = .returned (.agg #[.int .i64 (withF l t p).1, .int .i64 (withF l t p).2]) ∧ Below w.heap.size w w' := by
  rcases h with ⟨rfl, rfl⟩ | h
  · exact with_new p w
  · exact with_old l t p w h
def cfB (X : Ph) (st pn : Int) : Bool := if st = -1 then decide (X.b0 < pn) else if st = 0 then X.kept && decide (pn < X.a1) else decide (pn < X.b1)
set_option maxRecDepth 100000 in
set_option maxHeartbeats 2000000 in
theorem cf_low (b : Nat) (X : Ph) (pn : Int) (w : World) (hb : w.heap[b]? = some (.cells X.cells 66 (0, 0))) :
    Calls Try.prog 24 #[.pointer (some ⟨b, 5, none⟩), .int .i64 (-1), .int .i64 pn] w fun e w' => e = .returned (.bool (cfB X (-1) pn)) ∧ w = w' := by
  have c10 : w.cell? ⟨b, 10, none⟩ = some (.int .i64 X.b0) := at_whole hb 10 rfl
  have E : Hid (cfB X (-1) pn = decide (X.b0 < pn)) := Lib.hid rfl
  clear hb
  go_enter Try.func24, Try.ntmps24
  go_wp2
  go_ret
  exact ⟨by rw [E.out]; rfl, rfl⟩
set_option maxRecDepth 100000 in
set_option maxHeartbeats 2000000 in
theorem cf_now (b : Nat) (X : Ph) (pn : Int) (w : World) (hb : w.heap[b]? = some (.cells X.cells 66 (0, 0))) :
    Calls Try.prog 24 #[.pointer (some ⟨b, 5, none⟩), .int .i64 0, .int .i64 pn] w fun e w' => e = .returned (.bool (cfB X 0 pn)) ∧ w = w' := by
  have c14 : w.cell? ⟨b, 14, none⟩ = some (.bool X.kept) := at_whole hb 14 rfl
  have c9 : w.cell? ⟨b, 9, none⟩ = some (.int .i64 X.a1) := at_whole hb 9 rfl
  clear hb
  by_cases h : X.kept = true
  · have E : Hid (cfB X 0 pn = decide (pn < X.a1)) := Lib.hid (by simp [cfB, h])
    rw [h] at c14
    clear h
    go_enter Try.func24, Try.ntmps24
    go_wp2
    go_ret
    exact ⟨by rw [E.out]; rfl, rfl⟩
  · have E : Hid (cfB X 0 pn = false) := Lib.hid (by simp [cfB, h])
    rw [show X.kept = false by simpa using h] at c14
    clear h
    go_enter Try.func24, Try.ntmps24
    go_wp2
    go_ret
    exact ⟨by rw [E.out]; rfl, rfl⟩
set_option maxRecDepth 100000 in
set_option maxHeartbeats 2000000 in
theorem cf_next (b : Nat) (X : Ph) (pn : Int) (w : World) (hb : w.heap[b]? = some (.cells X.cells 66 (0, 0))) :
    Calls Try.prog 24 #[.pointer (some ⟨b, 5, none⟩), .int .i64 1, .int .i64 pn] w fun e w' => e = .returned (.bool (cfB X 1 pn)) ∧ w = w' := by
  have c11 : w.cell? ⟨b, 11, none⟩ = some (.int .i64 X.b1) := at_whole hb 11 rfl
  have E : Hid (cfB X 1 pn = decide (pn < X.b1)) := Lib.hid rfl
  clear hb
  go_enter Try.func24, Try.ntmps24
  go_wp2
  go_ret
  exact ⟨by rw [E.out]; rfl, rfl⟩
theorem cf_any (b : Nat) (X : Ph) (st pn : Int) (w : World) (hst : st = -1 ∨ st = 0 ∨ st = 1) (hb : w.heap[b]? = some (.cells X.cells 66 (0, 0))) :
    Calls Try.prog 24 #[.pointer (some ⟨b, 5, none⟩), .int .i64 st, .int .i64 pn] w fun e w' => e = .returned (.bool (cfB X st pn)) ∧ w = w' := by
  rcases hst with rfl | rfl | rfl
  · exact cf_low b X pn w hb
  · exact cf_now b X pn w hb
  · exact cf_next b X pn w hb
set_option maxRecDepth 100000 in
set_option maxHeartbeats 2000000 in
theorem op_arg (b : Nat) (X : Ph) (t g pn : Int) (w : World) (ht0 : 0 ≤ t) (ht1 : t ≤ 1000000000) (hn0 : 0 ≤ pn) (hn1 : pn ≤ 281474976710655) (hg0 : 0 ≤ X.rg) (hg1 : X.rg ≤ 1000000) (hg : g = X.rg - 1) (hk : X.kept = false)
    (hb : w.heap[b]? = some (.cells X.cells 66 (0, 0))) :
    Calls Try.prog 14 #[.pointer (some ⟨b, 0, none⟩), .int .i64 t, .int .i64 g, .int .i64 pn] w fun e w' => e = .returned (.int .i64 2) ∧ Blk b X.cells 66 w w' := by
  have c7 : w.cell? ⟨b, 7, none⟩ = some (.int .i64 X.rg) := at_whole hb 7 rfl
  have c14 : w.cell? ⟨b, 14, none⟩ = some (.bool false) := by rw [← hk]; exact at_whole hb 14 rfl
  have VA := Lib.hid (fun w => valid_any pn w hn0 hn1)
  have HB := Lib.hid (Blk.start hb)
  have g0 : -1 ≤ g := by omega
  have g1 : g ≤ 1000000 := by omega
  have e1 : decide (g < X.rg - 1) = false := by simp; omega
  have e2 : decide (X.rg + 1 < g) = false := by simp; omega
  have e3 : g - X.rg = -1 := by omega
  clear hb hk hg
  go_enter Try.func14, Try.ntmps14
  go_wp2_with (go_at_call 23; refine (VA.out _).mono ?_; rintro e w' ⟨rfl, rfl⟩)
  go_ret
  exact ⟨rfl, HB.out⟩
set_option maxRecDepth 100000 in
set_option maxHeartbeats 2000000 in
theorem op_cf (b : Nat) (X : Ph) (t g pn st : Int) (w : World) (ht0 : 0 ≤ t) (ht1 : t ≤ 1000000000) (hn0 : 0 ≤ pn) (hn1 : pn ≤ 281474976710655) (hg0 : 0 ≤ X.rg) (hg1 : X.rg ≤ 1000000) (hst : st = -1 ∨ st = 0 ∨ st = 1) (hg : g = X.rg + st) (hk : st = -1 → X.kept = true)
    (hc : cfB X st pn = true) (hb : w.heap[b]? = some (.cells X.cells 66 (0, 0))) :
    Calls Try.prog 14 #[.pointer (some ⟨b, 0, none⟩), .int .i64 t, .int .i64 g, .int .i64 pn] w fun e w' => e = .returned (.int .i64 251) ∧ Blk b X.cells 66 w w' := by
  have c7 : w.cell? ⟨b, 7, none⟩ = some (.int .i64 X.rg) := at_whole hb 7 rfl
  have c14 : w.cell? ⟨b, 14, none⟩ = some (.bool X.kept) := at_whole hb 14 rfl
  have VA := Lib.hid (fun w => valid_any pn w hn0 hn1)
  have CF := Lib.hid (cf_any b X st pn w hst hb)
  rw [hc] at CF
  have HB := Lib.hid (Blk.start hb)
  have g0 : -1 ≤ g := by omega
  have g1 : g ≤ 1000001 := by omega
  have e1 : decide (g < X.rg - 1) = false := by simp; omega
  have e2 : decide (X.rg + 1 < g) = false := by simp; omega
  have e3 : g - X.rg = st := by omega
  clear hb hg hc
  rcases hst with rfl | rfl | rfl
  · rw [hk rfl] at c14
    clear hk
    go_enter Try.func14, Try.ntmps14
    go_wp2_with (first | (go_at_call 23; refine (VA.out _).mono ?_; rintro e w' ⟨rfl, rfl⟩) | (go_at_call 24; refine CF.out.mono ?_; rintro e w' ⟨rfl, rfl⟩))
    go_ret
    exact ⟨rfl, HB.out⟩
  · clear hk
    go_enter Try.func14, Try.ntmps14
    go_wp2_with (first | (go_at_call 23; refine (VA.out _).mono ?_; rintro e w' ⟨rfl, rfl⟩) | (go_at_call 24; refine CF.out.mono ?_; rintro e w' ⟨rfl, rfl⟩))
    go_ret
    exact ⟨rfl, HB.out⟩
  · clear hk
    go_enter Try.func14, Try.ntmps14
    go_wp2_with (first | (go_at_call 23; refine (VA.out _).mono ?_; rintro e w' ⟨rfl, rfl⟩) | (go_at_call 24; refine CF.out.mono ?_; rintro e w' ⟨rfl, rfl⟩))
    go_ret
    exact ⟨rfl, HB.out⟩
end Go.Proofs.Ytieiplalnekmkaa
