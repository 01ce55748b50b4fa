/- Law 25: Opened in the next generation. -/
import Derived.Test.YtieiplalnekmkaaOa
namespace Go.Proofs.Ytieiplalnekmkaa
open Go.RowKit
def opX (X : Ph) (t pn : Int) : Ph := { X with lg := max X.lg pn, old := X.rs, kept := true, unt := t + 100, a0 := X.b0, a1 := X.b1, b0 := pn, b1 := pn, rs := nx X.rs, rg := X.rg + 1 }
def rnP (X : Ph) : Ph := { X with ss := nx X.ss, sg := X.sg + 1, sf := -1, sc := false }
set_option maxRecDepth 100000 in
set_option maxHeartbeats 8000000 in
theorem op_next1 (b : Nat) (X : Ph) (t g pn : Int) (w : World) (ht0 : 0 ≤ t) (ht1 : t ≤ 1000000000) (hn0 : 0 ≤ pn) (hn1 : pn ≤ 281474976710655) (hg0 : 0 ≤ X.rg) (hg1 : X.rg ≤ 1000000) (hg : g = X.rg + 1) (hc : cfB X 1 pn = false)
    (hs : X.rs.size = 16) (hlt0 : decide (X.sg < X.rg + 1) = false) (hb : w.heap[b]? = some (.cells X.cells 66 (0, 0))) :
    Calls Try.prog 14 #[.pointer (some ⟨b, 0, none⟩), .int .i64 t, .int .i64 g, .int .i64 pn] w fun e w' => e = .returned (.int .i64 0) ∧ Blk b (Ph.cells (opX X t pn)) 66 w w' := by
  have c7 : w.cell? ⟨b, 7, none⟩ = some (.int .i64 X.rg) := at_whole hb 7 rfl
  have c12 : w.cell? ⟨b, 12, none⟩ = some (.int .i64 X.lg) := at_whole hb 12 rfl
  have c13 : w.cell? ⟨b, 13, none⟩ = some (.string X.old) := at_whole hb 13 rfl
  have c14 : w.cell? ⟨b, 14, none⟩ = some (.bool X.kept) := at_whole hb 14 rfl
  have c15 : w.cell? ⟨b, 15, none⟩ = some (.int .i64 X.unt) := at_whole hb 15 rfl
  have c5 : w.cell? ⟨b, 5, none⟩ = some (.string X.rs) := at_whole hb 5 rfl
  have f12 := frozen_whole hb 12
  have f13 := frozen_whole hb 13
  have f14 := frozen_whole hb 14
  have f15 := frozen_whole hb 15
  have VA := Lib.hid (fun w => valid_any pn w hn0 hn1)
  have CF := Lib.hid (cf_any b X 1 pn w (by decide) hb)
  rw [hc] at CF
  have hM : (if X.lg < pn then pn else X.lg) = max X.lg pn := by omega
  unfold opX
  obtain ⟨m, hm⟩ : ∃ m, max X.lg pn = m := ⟨_, rfl⟩
  rw [hm] at hM ⊢
  have g0 : -1 ≤ g := by omega
  have g1 : g ≤ 1000001 := by omega
  have e1 : decide (g < X.rg - 1) = false := by simp; omega
  have e2 : decide (X.rg + 1 < g) = false := by simp; omega
  have e3 : g - X.rg = 1 := by omega
  have AD := Lib.hid (fun w hb => adv_any b 5 X.rs X.rg 66 (Ph.cells { X with lg := m, old := X.rs, kept := true, unt := t + 100, a0 := X.b0, a1 := X.b1, b0 := pn, b1 := pn }) w hs hg0 hg1 hb rfl rfl)
  have HX := Lib.hid ((((((Blk.start hb).set 12 (.int .i64 m)).set 13 (.string X.rs)).set 14 (.bool true)).set 15 (.int .i64 (t + 100))).cast (cs' := Ph.cells { X with lg := m, old := X.rs, kept := true, unt := t + 100 }) rfl)
  have hlt := hlt0
  clear hlt0
  clear hb hg hc hm hs
  go_enter Try.func14, Try.ntmps14
  go_wp2_with (first | (go_at_call 23; refine (VA.out _).mono ?_; rintro e w' ⟨rfl, rfl⟩) | (go_at_call 24; refine CF.out.mono ?_; rintro e w' ⟨rfl, rfl⟩))
  generalize (((w.setCell ⟨b, 12, none⟩ (.int .i64 m)).setCell ⟨b, 13, none⟩ (.string X.rs)).setCell ⟨b, 14, none⟩ (.bool true)).setCell ⟨b, 15, none⟩ (.int .i64 (t + 100)) = V at HX ⊢
  have d8 : V.cell? ⟨b, 8, none⟩ = some (.int .i64 X.a0) := at_whole HX.out.1 8 rfl
  have d9 : V.cell? ⟨b, 9, none⟩ = some (.int .i64 X.a1) := at_whole HX.out.1 9 rfl
  have d10 : V.cell? ⟨b, 10, none⟩ = some (.int .i64 X.b0) := at_whole HX.out.1 10 rfl
  have d11 : V.cell? ⟨b, 11, none⟩ = some (.int .i64 X.b1) := at_whole HX.out.1 11 rfl
  have fd8 := frozen_whole HX.out.1 8
  have fd9 := frozen_whole HX.out.1 9
  have fd10 := frozen_whole HX.out.1 10
  have fd11 := frozen_whole HX.out.1 11
  have lb : b < V.heap.size := heap_lt HX.out.1
  clear c5 c7 c12 c13 c14 c15 f12 f13 f14 f15
  go_region_with (first
    | (go_at_call 26; refine (none_any _).mono ?_; rintro e w2 ⟨rfl, hb2⟩; have lb2 : b < w2.heap.size := Nat.lt_of_lt_of_le lb hb2.size; have hcc : ∀ o, w2.cell? ⟨b, o, none⟩ = V.cell? ⟨b, o, none⟩ := fun o => hb2.cell (p := ⟨b, o, none⟩) lb; have hff : ∀ o, w2.frozen? ⟨b, o, none⟩ = V.frozen? ⟨b, o, none⟩ := fun o => hb2.frozen (p := ⟨b, o, none⟩) lb)
    | (go_at_call 25; refine (with_new pn _).mono ?_; rintro e w3 ⟨rfl, hb3⟩; have hcd : ∀ o, w3.cell? ⟨b, o, none⟩ = w2.cell? ⟨b, o, none⟩ := fun o => hb3.cell (p := ⟨b, o, none⟩) lb2; have hfd : ∀ o, w3.frozen? ⟨b, o, none⟩ = w2.frozen? ⟨b, o, none⟩ := fun o => hb3.frozen (p := ⟨b, o, none⟩) lb2))
  all_goals
    have H2 := Lib.hid ((((((((HX.out.drew).below hb2).below hb3).set 8 (.int .i64 X.b0)).set 9 (.int .i64 X.b1)).set 10 (.int .i64 pn)).set 11 (.int .i64 pn)).cast (cs' := Ph.cells { X with lg := m, old := X.rs, kept := true, unt := t + 100, a0 := X.b0, a1 := X.b1, b0 := pn, b1 := pn }) rfl)
    clear hb2 hb3 hcc hff hcd hfd d8 d9 d10 d11 fd8 fd9 fd10 fd11
    go_wp2_with fail
    refine (AD.out _ H2.out.1).mono ?_
    rintro e w4 ⟨⟨v, rfl⟩, h4⟩
    have H4 := Lib.hid ((H2.out.trans h4).cast (cs' := Ph.cells { X with lg := m, old := X.rs, kept := true, unt := t + 100, a0 := X.b0, a1 := X.b1, b0 := pn, b1 := pn, rs := nx X.rs, rg := X.rg + 1 }) rfl)
    have k2 : w4.cell? ⟨b, 2, none⟩ = some (.int .i64 X.sg) := at_whole H4.out.1 2 rfl
    have k7 : w4.cell? ⟨b, 7, none⟩ = some (.int .i64 (X.rg + 1)) := at_whole H4.out.1 7 rfl
    clear h4
    go_wp2
    go_quiet (fail)
    go_wp2
    go_ret
    exact ⟨rfl, H4.out.drewN _⟩
set_option maxRecDepth 100000 in
set_option maxHeartbeats 8000000 in
theorem op_next2 (b : Nat) (X : Ph) (t g pn : Int) (w : World) (ht0 : 0 ≤ t) (ht1 : t ≤ 1000000000) (hn0 : 0 ≤ pn) (hn1 : pn ≤ 281474976710655) (hg0 : 0 ≤ X.rg) (hg1 : X.rg ≤ 1000000) (hg : g = X.rg + 1) (hc : cfB X 1 pn = false)
    (hs : X.rs.size = 16) (hs2 : X.ss.size = 16) (hg2 : 0 ≤ X.sg) (hg3 : X.sg ≤ 1000000) (hlt : X.sg < X.rg + 1) (hb : w.heap[b]? = some (.cells X.cells 66 (0, 0))) :
    Calls Try.prog 14 #[.pointer (some ⟨b, 0, none⟩), .int .i64 t, .int .i64 g, .int .i64 pn] w fun e w' => e = .returned (.int .i64 0) ∧ Blk b (Ph.cells (rnP (opX X t pn))) 66 w w' := by
  have c7 : w.cell? ⟨b, 7, none⟩ = some (.int .i64 X.rg) := at_whole hb 7 rfl
  have c12 : w.cell? ⟨b, 12, none⟩ = some (.int .i64 X.lg) := at_whole hb 12 rfl
  have c13 : w.cell? ⟨b, 13, none⟩ = some (.string X.old) := at_whole hb 13 rfl
  have c14 : w.cell? ⟨b, 14, none⟩ = some (.bool X.kept) := at_whole hb 14 rfl
  have c15 : w.cell? ⟨b, 15, none⟩ = some (.int .i64 X.unt) := at_whole hb 15 rfl
  have c5 : w.cell? ⟨b, 5, none⟩ = some (.string X.rs) := at_whole hb 5 rfl
  have f12 := frozen_whole hb 12
  have f13 := frozen_whole hb 13
  have f14 := frozen_whole hb 14
  have f15 := frozen_whole hb 15
  have VA := Lib.hid (fun w => valid_any pn w hn0 hn1)
  have CF := Lib.hid (cf_any b X 1 pn w (by decide) hb)
  rw [hc] at CF
  have hM : (if X.lg < pn then pn else X.lg) = max X.lg pn := by omega
  unfold opX
  obtain ⟨m, hm⟩ : ∃ m, max X.lg pn = m := ⟨_, rfl⟩
  rw [hm] at hM ⊢
  have g0 : -1 ≤ g := by omega
  have g1 : g ≤ 1000001 := by omega
  have e1 : decide (g < X.rg - 1) = false := by simp; omega
  have e2 : decide (X.rg + 1 < g) = false := by simp; omega
  have e3 : g - X.rg = 1 := by omega
  have AD := Lib.hid (fun w hb => adv_any b 5 X.rs X.rg 66 (Ph.cells { X with lg := m, old := X.rs, kept := true, unt := t + 100, a0 := X.b0, a1 := X.b1, b0 := pn, b1 := pn }) w hs hg0 hg1 hb rfl rfl)
  have HX := Lib.hid ((((((Blk.start hb).set 12 (.int .i64 m)).set 13 (.string X.rs)).set 14 (.bool true)).set 15 (.int .i64 (t + 100))).cast (cs' := Ph.cells { X with lg := m, old := X.rs, kept := true, unt := t + 100 }) rfl)
  have RN := Lib.hid (fun n w hb => renew_any b { X with lg := m, old := X.rs, kept := true, unt := t + 100, a0 := X.b0, a1 := X.b1, b0 := pn, b1 := pn, rs := nx X.rs, rg := X.rg + 1 } (World.drewN w n) hs2 hg2 hg3 hb)
  clear hs2
  clear hb hg hc hm hs
  go_enter Try.func14, Try.ntmps14
  go_wp2_with (first | (go_at_call 23; refine (VA.out _).mono ?_; rintro e w' ⟨rfl, rfl⟩) | (go_at_call 24; refine CF.out.mono ?_; rintro e w' ⟨rfl, rfl⟩))
  generalize (((w.setCell ⟨b, 12, none⟩ (.int .i64 m)).setCell ⟨b, 13, none⟩ (.string X.rs)).setCell ⟨b, 14, none⟩ (.bool true)).setCell ⟨b, 15, none⟩ (.int .i64 (t + 100)) = V at HX ⊢
  have d8 : V.cell? ⟨b, 8, none⟩ = some (.int .i64 X.a0) := at_whole HX.out.1 8 rfl
  have d9 : V.cell? ⟨b, 9, none⟩ = some (.int .i64 X.a1) := at_whole HX.out.1 9 rfl
  have d10 : V.cell? ⟨b, 10, none⟩ = some (.int .i64 X.b0) := at_whole HX.out.1 10 rfl
  have d11 : V.cell? ⟨b, 11, none⟩ = some (.int .i64 X.b1) := at_whole HX.out.1 11 rfl
  have fd8 := frozen_whole HX.out.1 8
  have fd9 := frozen_whole HX.out.1 9
  have fd10 := frozen_whole HX.out.1 10
  have fd11 := frozen_whole HX.out.1 11
  have lb : b < V.heap.size := heap_lt HX.out.1
  clear c5 c7 c12 c13 c14 c15 f12 f13 f14 f15
  go_region_with (first
    | (go_at_call 26; refine (none_any _).mono ?_; rintro e w2 ⟨rfl, hb2⟩; have lb2 : b < w2.heap.size := Nat.lt_of_lt_of_le lb hb2.size; have hcc : ∀ o, w2.cell? ⟨b, o, none⟩ = V.cell? ⟨b, o, none⟩ := fun o => hb2.cell (p := ⟨b, o, none⟩) lb; have hff : ∀ o, w2.frozen? ⟨b, o, none⟩ = V.frozen? ⟨b, o, none⟩ := fun o => hb2.frozen (p := ⟨b, o, none⟩) lb)
    | (go_at_call 25; refine (with_new pn _).mono ?_; rintro e w3 ⟨rfl, hb3⟩; have hcd : ∀ o, w3.cell? ⟨b, o, none⟩ = w2.cell? ⟨b, o, none⟩ := fun o => hb3.cell (p := ⟨b, o, none⟩) lb2; have hfd : ∀ o, w3.frozen? ⟨b, o, none⟩ = w2.frozen? ⟨b, o, none⟩ := fun o => hb3.frozen (p := ⟨b, o, none⟩) lb2))
  all_goals
    have H2 := Lib.hid ((((((((HX.out.drew).below hb2).below hb3).set 8 (.int .i64 X.b0)).set 9 (.int .i64 X.b1)).set 10 (.int .i64 pn)).set 11 (.int .i64 pn)).cast (cs' := Ph.cells { X with lg := m, old := X.rs, kept := true, unt := t + 100, a0 := X.b0, a1 := X.b1, b0 := pn, b1 := pn }) rfl)
    clear hb2 hb3 hcc hff hcd hfd d8 d9 d10 d11 fd8 fd9 fd10 fd11
    go_wp2_with fail
    refine (AD.out _ H2.out.1).mono ?_
    rintro e w4 ⟨⟨v, rfl⟩, h4⟩
    have H4 := Lib.hid ((H2.out.trans h4).cast (cs' := Ph.cells { X with lg := m, old := X.rs, kept := true, unt := t + 100, a0 := X.b0, a1 := X.b1, b0 := pn, b1 := pn, rs := nx X.rs, rg := X.rg + 1 }) rfl)
    have k2 : w4.cell? ⟨b, 2, none⟩ = some (.int .i64 X.sg) := at_whole H4.out.1 2 rfl
    have k7 : w4.cell? ⟨b, 7, none⟩ = some (.int .i64 (X.rg + 1)) := at_whole H4.out.1 7 rfl
    clear h4
    go_wp2
    go_quiet (fail)
    go_wp2_with fail
    refine (RN.out _ _ H4.out.1).mono ?_
    rintro e w5 ⟨⟨v, rfl⟩, h5⟩
    have H5 := Lib.hid ((H4.out.drewN _).trans h5)
    clear h5
    go_wp2
    go_ret
    exact ⟨rfl, H5.out⟩
end Go.Proofs.Ytieiplalnekmkaa
