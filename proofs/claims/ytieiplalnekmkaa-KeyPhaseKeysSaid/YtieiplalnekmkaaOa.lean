/- Law 25: Opened within the generations that are there. -/
import Derived.Test.YtieiplalnekmkaaZ
namespace Go.Proofs.Ytieiplalnekmkaa
open Go.RowKit
set_option maxRecDepth 100000 in
set_option maxHeartbeats 4000000 in
theorem op_cur (b : Nat) (X : Ph) (t g pn : Int) (w : World) (ht0 : 0 ≤ t) (ht1 : t ≤ 1000000000) (hn0 : 0 ≤ pn) (hn1 : pn ≤ 281474976710655) (hg0 : 0 ≤ X.rg) (hg1 : X.rg ≤ 1000000) (hg : g = X.rg + 0)  (hc : cfB X (0) pn = false)
    (hw : (X.b0 = -1 ∧ X.b1 = -1) ∨ 0 ≤ X.b0) (hb : w.heap[b]? = some (.cells X.cells 66 (0, 0))) :
    Calls Try.prog 14 #[.pointer (some ⟨b, 0, none⟩), .int .i64 t, .int .i64 g, .int .i64 pn] w fun e w' => e = .returned (.int .i64 0) ∧ Blk b (Ph.cells { X with lg := max X.lg pn, b0 := (withF X.b0 X.b1 pn).1, b1 := (withF X.b0 X.b1 pn).2 }) 66 w w' := by
  have c7 : w.cell? ⟨b, 7, none⟩ = some (.int .i64 X.rg) := at_whole hb 7 rfl
  have c12 : w.cell? ⟨b, 12, none⟩ = some (.int .i64 X.lg) := at_whole hb 12 rfl
  have f12 := frozen_whole hb 12
  have VA := Lib.hid (fun w => valid_any pn w hn0 hn1)
  have CF := Lib.hid (cf_any b X (0) pn w (by decide) hb)
  rw [hc] at CF
  have WI := Lib.hid (fun w => with_any X.b0 X.b1 pn w hw)
  have hM : (if X.lg < pn then pn else X.lg) = max X.lg pn := by omega
  obtain ⟨m, hm⟩ : ∃ m, max X.lg pn = m := ⟨_, rfl⟩
  rw [hm] at hM ⊢
  obtain ⟨x, hx⟩ : ∃ x, (withF X.b0 X.b1 pn).1 = x := ⟨_, rfl⟩
  obtain ⟨y, hy⟩ : ∃ y, (withF X.b0 X.b1 pn).2 = y := ⟨_, rfl⟩
  simp only [hx, hy] at WI ⊢
  have g0 : -1 ≤ g := by omega
  have g1 : g ≤ 1000001 := by omega
  have e1 : decide (g < X.rg - 1) = false := by simp; omega
  have e2 : decide (X.rg + 1 < g) = false := by simp; omega
  have e3 : g - X.rg = 0 := by omega
  have HX := Lib.hid ((Blk.start hb).set 12 (.int .i64 m))
  clear hb hg hc hm hx hy hw 
  go_enter Try.func14, Try.ntmps14
  go_wp2_with (first | (go_at_call 23; refine (VA.out _).mono ?_; rintro e w' ⟨rfl, rfl⟩) | (go_at_call 24; refine CF.out.mono ?_; rintro e w' ⟨rfl, rfl⟩))
  generalize w.setCell ⟨b, 12, none⟩ (.int .i64 m) = V at HX ⊢
  have d0 : V.cell? ⟨b, 10, none⟩ = some (.int .i64 X.b0) := at_whole HX.out.1 10 rfl
  have d1 : V.cell? ⟨b, 11, none⟩ = some (.int .i64 X.b1) := at_whole HX.out.1 11 rfl
  have fd0 := frozen_whole HX.out.1 10
  have fd1 := frozen_whole HX.out.1 11
  have lb : b < V.heap.size := heap_lt HX.out.1
  clear c7 c12 f12 
  go_region_with ((go_at_call 25; refine (WI.out _).mono ?_; rintro e w2 ⟨rfl, hb2⟩; have hcc : ∀ o, w2.cell? ⟨b, o, none⟩ = V.cell? ⟨b, o, none⟩ := fun o => hb2.cell (p := ⟨b, o, none⟩) lb; have hff : ∀ o, w2.frozen? ⟨b, o, none⟩ = V.frozen? ⟨b, o, none⟩ := fun o => hb2.frozen (p := ⟨b, o, none⟩) lb))
  all_goals
    have H2 := Lib.hid ((((HX.out.drew).below hb2).set 10 (.int .i64 x)).set 11 (.int .i64 y))
    clear hb2 hcc hff
    go_wp2
    go_ret
    exact ⟨rfl, H2.out.cast rfl⟩
set_option maxRecDepth 100000 in
set_option maxHeartbeats 4000000 in
theorem op_low (b : Nat) (X : Ph) (t g pn : Int) (w : World) (ht0 : 0 ≤ t) (ht1 : t ≤ 1000000000) (hn0 : 0 ≤ pn) (hn1 : pn ≤ 281474976710655) (hg0 : 0 ≤ X.rg) (hg1 : X.rg ≤ 1000000) (hg : g = X.rg + -1) (hk : X.kept = true) (hc : cfB X (-1) pn = false)
    (hw : (X.a0 = -1 ∧ X.a1 = -1) ∨ 0 ≤ X.a0) (hb : w.heap[b]? = some (.cells X.cells 66 (0, 0))) :
    Calls Try.prog 14 #[.pointer (some ⟨b, 0, none⟩), .int .i64 t, .int .i64 g, .int .i64 pn] w fun e w' => e = .returned (.int .i64 0) ∧ Blk b (Ph.cells { X with lg := max X.lg pn, a0 := (withF X.a0 X.a1 pn).1, a1 := (withF X.a0 X.a1 pn).2 }) 66 w w' := by
  have c7 : w.cell? ⟨b, 7, none⟩ = some (.int .i64 X.rg) := at_whole hb 7 rfl
  have c14 : w.cell? ⟨b, 14, none⟩ = some (.bool true) := by rw [← hk]; exact at_whole hb 14 rfl
  have c12 : w.cell? ⟨b, 12, none⟩ = some (.int .i64 X.lg) := at_whole hb 12 rfl
  have f12 := frozen_whole hb 12
  have VA := Lib.hid (fun w => valid_any pn w hn0 hn1)
  have CF := Lib.hid (cf_any b X (-1) pn w (by decide) hb)
  rw [hc] at CF
  have WI := Lib.hid (fun w => with_any X.a0 X.a1 pn w hw)
  have hM : (if X.lg < pn then pn else X.lg) = max X.lg pn := by omega
  obtain ⟨m, hm⟩ : ∃ m, max X.lg pn = m := ⟨_, rfl⟩
  rw [hm] at hM ⊢
  obtain ⟨x, hx⟩ : ∃ x, (withF X.a0 X.a1 pn).1 = x := ⟨_, rfl⟩
  obtain ⟨y, hy⟩ : ∃ y, (withF X.a0 X.a1 pn).2 = y := ⟨_, rfl⟩
  simp only [hx, hy] at WI ⊢
  have g0 : -1 ≤ g := by omega
  have g1 : g ≤ 1000001 := by omega
  have e1 : decide (g < X.rg - 1) = false := by simp; omega
  have e2 : decide (X.rg + 1 < g) = false := by simp; omega
  have e3 : g - X.rg = -1 := by omega
  have HX := Lib.hid ((Blk.start hb).set 12 (.int .i64 m))
  clear hb hg hc hm hx hy hw hk
  go_enter Try.func14, Try.ntmps14
  go_wp2_with (first | (go_at_call 23; refine (VA.out _).mono ?_; rintro e w' ⟨rfl, rfl⟩) | (go_at_call 24; refine CF.out.mono ?_; rintro e w' ⟨rfl, rfl⟩))
  generalize w.setCell ⟨b, 12, none⟩ (.int .i64 m) = V at HX ⊢
  have d0 : V.cell? ⟨b, 8, none⟩ = some (.int .i64 X.a0) := at_whole HX.out.1 8 rfl
  have d1 : V.cell? ⟨b, 9, none⟩ = some (.int .i64 X.a1) := at_whole HX.out.1 9 rfl
  have fd0 := frozen_whole HX.out.1 8
  have fd1 := frozen_whole HX.out.1 9
  have lb : b < V.heap.size := heap_lt HX.out.1
  clear c7 c12 f12 c14
  go_region_with ((go_at_call 25; refine (WI.out _).mono ?_; rintro e w2 ⟨rfl, hb2⟩; have hcc : ∀ o, w2.cell? ⟨b, o, none⟩ = V.cell? ⟨b, o, none⟩ := fun o => hb2.cell (p := ⟨b, o, none⟩) lb; have hff : ∀ o, w2.frozen? ⟨b, o, none⟩ = V.frozen? ⟨b, o, none⟩ := fun o => hb2.frozen (p := ⟨b, o, none⟩) lb))
  all_goals
    have H2 := Lib.hid ((((HX.out.drew).below hb2).set 8 (.int .i64 x)).set 9 (.int .i64 y))
    clear hb2 hcc hff
    go_wp2
    go_ret
    exact ⟨rfl, H2.out.cast rfl⟩
end Go.Proofs.Ytieiplalnekmkaa
