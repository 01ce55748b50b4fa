import Derived.Test.YtmjekepiplibkaaCrA
import Derived.Test.YtmjekepiplibkaaS
namespace Go.Proofs.Ytmjekepiplibkaa
open Go.RowKit
theorem grown_setRow (w : World) (g : Nat) (cs : Array Value) : w.grownBy (w.setRow g cs) (some g) :=
  ⟨rfl, rfl, rfl, by simp, fun k hk hn => setRow_other w g k cs (fun e => hn (by rw [e]))⟩
/-- a whole frame is stored into a frame variable of the call's own -/
theorem St.setRow1 {W w : World} {b g : Nat} {F : Nat → Prop} {B : Bf} {fs : List (Nat × Fr)} {L : Fr} (h : St W w b F B fs) (hm : (g, L) ∈ fs) (hW : W.heap.size ≤ g) (f : Fr) : St W (w.setRow g f.cells) b F B [(g, f)] := by
  have hq := h.far (g, L) hm
  have h0 : St W w b F B [] := ⟨h.inv, h.own, h.below, fun p hp => by cases hp⟩
  exact (h0.other (grown_setRow w g f.cells) hq.2 hW (fun p hp => by cases hp)).add f (setRow_heap _ _ _ _ 35 _ hq.1) hq.2
theorem St.keep1 {W w : World} {b g : Nat} {F : Nat → Prop} {B : Bf} {fs : List (Nat × Fr)} {L : Fr} (h : St W w b F B fs) (hm : (g, L) ∈ fs) : St W w b F B [(g, L)] :=
  ⟨h.inv, h.own, h.below, fun p hp => by simp only [List.mem_singleton] at hp; subst hp; exact h.far _ hm⟩
theorem str_ne {s : ByteArray} (h : 0 < s.size) : s.data.toList ≠ [] := by
  intro e
  have e2 : s.data.toList.length = s.size := by rw [Array.length_toList]; rfl
  rw [e] at e2; simp at e2; omega
theorem str_ne' {s : ByteArray} (h : 0 < s.size) : s.toList.isEmpty = false := by
  rw [Go.ByteArray.toList_eq]
  simpa using str_ne h
def LastR (L : Fr) (a s : Nat) : Prop := L = fr0 ∨ (L = crR a s ∧ a < s)
theorem one_crR (a s : Nat) : (crR a s).cells.all (·.oneCell') = true := one35 _ _ _ _
end Go.Proofs.Ytmjekepiplibkaa
namespace Go.Proofs.Ytmjekepiplibkaa.sendBufCredit
open Go.RowKit Go.WideShapes Go.ChangeShapes
set_option maxRecDepth 100000 in
set_option maxHeartbeats 8000000 in
theorem walk (zs : List Int) (a0 : Option Addr) (cap : Nat) (size : Int) (w : World) (hsz : -9223372036854775808 ≤ size ∧ size ≤ 9223372036854775807)
    (hz : IntsAt .i64 w (.slice a0 zs.length cap) zs) (hmz : zs.length ≤ maxLen) (hrz : ∀ n ∈ zs, (Lit.int .i64 n).wf = true) :
    Calls Try.prog 5 #[.slice a0 zs.length cap, .int .i64 size] w fun e w' => e = .returned (.bool true) ∧ Below w.heap.size w w' := by
  unfold maxLen at hmz
  have PS := Lib.hid (fun (wx : World) => pick_any size 30 wx hsz.1 hsz.2 (by decide) (by decide))
  have rs := pickF_range size 30 (by decide)
  generalize pickF size 30 = ps at *
  obtain ⟨rs1, rs2⟩ := rs
  have HZ := Lib.hid hz
  have HRZ := Lib.hid hrz
  clear hz hrz hsz
  go_enter Try.func5, Try.ntmps5
  go_wp2_with (first
    | (go_at_call 9; refine (sane_any _).mono ?_; rintro e w1 ⟨rfl, HB2⟩; have HB := Lib.hid HB2; clear HB2)
    | (go_at_call 12; refine (cr_new HB.out).mono ?_; rintro e wn ⟨rfl, H2⟩; have H := Lib.hid H2; clear H2)
    | (go_at_call 10; refine (stream500 _).mono ?_; rintro e wk ⟨rfl, HK⟩; have H2 := H.out.same HK; clear H HK; have H := Lib.hid H2; clear H2)
    | (go_at_call 14; refine (cr_write H.out).mono ?_; rintro e wk ⟨rfl, F2, H2⟩; clear H; have H := Lib.hid H2; clear H2))
  have hWg := Lib.hid H.out.below.size
  have H0 := Lib.hid (H.out.frame fr0)
  clear H
  go_loopw [9, 11] (fun g i wr => ∃ (k s a : Nat) (G : Int) (L : Fr) (F : Nat → Prop), k ≤ zs.length ∧ k ≤ 40 ∧ i = .int .i64 k ∧ g = .int .i64 G ∧ s ≤ 500 ∧ (s : Int) ≤ G ∧ G ≤ 20 * (k : Int) ∧ LastR L a s ∧ Hid (St w wr w1.heap.size F (flX 500 500 s).buf [(wk.heap.size, L)])) (fun _ i _ => 40 - (intOf i).toNat)
  case atStart => exact ⟨0, 0, 0, 0, fr0, _, by omega, by omega, rfl, rfl, by omega, by omega, by omega, .inl rfl, H0⟩
  case round =>
    obtain ⟨k, s, a, G, L, F, hk1, hk2, rfl, rfl, hs, hsG, hG, hL, H⟩ := hrel
    clear H0
    have HL := Lib.hid hL
    clear hL
    by_cases hlt : k < zs.length ∧ k < 40
    · obtain ⟨hlt1, hlt2⟩ := hlt
      have hxw := bounds_i64 (HRZ.out (zs[k]?.getD 0) (by simp [hlt1]))
      obtain ⟨b4, off4, hz4, hx4⟩ : ∃ b4 off4, a0 = some ⟨b4, off4, none⟩ ∧ wr.cell? ⟨b4, off4 + k, none⟩ = some (.int .i64 (zs[k]?.getD 0)) ∧ zs.length ≤ cap ∧ cap ≤ maxLen := by
        rcases HZ.out with ⟨_, _, e, _, h0⟩ | ⟨b4, off4, c4, e, h0, hl4, hc4, hx4⟩
        · rw [h0] at hlt1; simp at hlt1
        · simp only [Value.slice.injEq] at e
          obtain ⟨e1, _, rfl⟩ := e
          exact ⟨b4, off4, e1, (H.out.below.cell (p := ⟨b4, off4 + k, none⟩) (World.block_lt_of_cell? _ _ (hx4 k hlt1))).trans (hx4 k hlt1), hl4, hc4⟩
      obtain ⟨hx4, hl4, hc4⟩ := hx4
      unfold maxLen at hc4
      subst hz4
      generalize zs[k]?.getD 0 = x at *
      have PX := Lib.hid (fun (wx : World) => pick_any x 20 wx hxw.1 hxw.2 (by decide) (by decide))
      have rx := pickF_range x 20 (by decide)
      generalize pickF x 20 = c at *
      obtain ⟨rx1, rx2⟩ := rx
      clear hxw
      by_cases hy : s < 500 ∧ 0 < c
      · obtain ⟨hy1, hy2⟩ := hy
        have T1 : Hid (1 = 1) := Lib.hid rfl
        have T2 : Hid (1 = 1) := Lib.hid rfl
        have f1 : decide ((s : Int) < 500) = true := by simp; omega
        have f2 : decide (0 < c) = true := by simp; omega
        have f3 : decide (s < 500) = true := by simp; omega
        go_wp2_with (first
          | (go_at_call 21; have T0 := T1.out; clear T0 T1; refine (cr_sent H.out hs).mono ?_; rintro e wt ⟨rfl, rfl⟩)
          | (go_at_call 11; have T0 := T2.out; clear T0 T2; refine (PX.out _).mono ?_; rintro e wm ⟨rfl, rfl⟩)
          | (go_at_call 11; refine (PS.out _).mono ?_; rintro e wm ⟨rfl, rfl⟩)
          | (go_at_call 16; refine (cr_yes H.out hy1 _ _ rs1 hy2).mono ?_; rintro e wn ⟨V, s2, HV, rfl, ⟨q1, q2, q3⟩, F2, H2⟩; clear H; have H := Lib.hid H2; clear H2; have g1 : decide (c < (s2 : Int) - s) = false := decide_eq_false (by omega); have g2 : decide (s2 < s) = false := decide_eq_false (by omega); have g3 : decide (G + c < (s2 : Int)) = false := decide_eq_false (by omega))
          | (go_at_call 21; refine (cr_sent H.out q2).mono ?_; rintro e wt ⟨rfl, rfl⟩)
          | (refine wpList_store_row rfl 35 _ _ rfl _ (crR s s2).cells rfl HV.out 35 _ (heap_alloc_new _ _) (size35 _) rfl (one_crR _ _) ?_; rw [World.setRow_alloc_new]; have H2 := H.out.frame (crR s s2); clear H HV; have H := Lib.hid H2; clear H2; generalize wn.alloc (.cells (crR s s2).cells 35) = wq at H ⊢)
          | (refine wpList_load_row rfl 35 _ rfl wn.heap.size rfl 35 (crR s s2).cells (0, 0) _ (H.out.far (wn.heap.size, crR s s2) (by simp)).1 Try.underlying35 rfl (size35 _) ?_)
          | (refine wpList_store_row rfl 35 _ _ rfl wk.heap.size (crR s s2).cells rfl rfl 35 _ (H.out.far (wk.heap.size, L) (by simp)).1 (size35 _) rfl (one_crR _ _) ?_))
        go_roundw
        case rel => exact ⟨k + 1, s2, s, G + c, crR s s2, F2, by omega, by omega, by simp, rfl, q2, by omega, by omega, .inr ⟨rfl, q1⟩, Lib.hid (H.out.setRow1 (L := L) (by simp) hWg.out _)⟩
        case measure => simp [intOf]; omega
      · have hcs : c = 0 ∨ (s = 500 ∧ 0 < c) := by omega
        have CN := Lib.hid (cr_no H.out hs ps c rs1 (by omega))
        have hG2 : G + c ≤ 20 * ((k + 1 : Nat) : Int) := by omega
        clear hy
        have T1 : Hid (1 = 1) := Lib.hid rfl
        have T2 : Hid (1 = 1) := Lib.hid rfl
        rcases hcs with rfl | ⟨rfl, hy2⟩
        · have g3 : decide (G + 0 < (s : Int)) = false := decide_eq_false (by omega)
          have g4 : decide (G < (s : Int)) = false := decide_eq_false (by omega)
          go_wp2_with (first
            | (go_at_call 21; have T0 := T1.out; clear T0 T1; refine (cr_sent H.out hs).mono ?_; rintro e wt ⟨rfl, rfl⟩)
            | (go_at_call 11; have T0 := T2.out; clear T0 T2; refine (PX.out _).mono ?_; rintro e wm ⟨rfl, rfl⟩)
            | (go_at_call 11; refine (PS.out _).mono ?_; rintro e wm ⟨rfl, rfl⟩)
            | (go_at_call 16; refine CN.out.mono ?_; rintro e wn ⟨V, HV, rfl, F2, H2⟩; clear H; have H := Lib.hid H2; clear H2)
            | (go_at_call 21; refine (cr_sent H.out hs).mono ?_; rintro e wt ⟨rfl, rfl⟩)
            | (refine wpList_store_row rfl 35 _ _ rfl _ fr0.cells rfl HV.out 35 _ (heap_alloc_new _ _) (size35 _) rfl (one35 _ _ _ _) ?_; rw [World.setRow_alloc_new]; have H2 := H.out.frame fr0; clear H HV; have H := Lib.hid H2; clear H2; generalize wn.alloc (.cells fr0.cells 35) = wq at H ⊢))
          go_roundw
          case rel => exact ⟨k + 1, s, a, G, L, F2, by omega, by omega, by simp, by simp, hs, by omega, by omega, HL.out, Lib.hid (H.out.keep1 (by simp))⟩
          case measure => simp [intOf]; omega
        · have g3 : decide (G + c < (500 : Int)) = false := decide_eq_false (by omega)
          have g4 : decide (c < 0) = false := decide_eq_false (by omega)
          have f2 : decide (0 < c) = true := decide_eq_true hy2
          go_wp2_with (first
            | (go_at_call 21; have T0 := T1.out; clear T0 T1; refine (cr_sent H.out hs).mono ?_; rintro e wt ⟨rfl, rfl⟩)
            | (go_at_call 11; have T0 := T2.out; clear T0 T2; refine (PX.out _).mono ?_; rintro e wm ⟨rfl, rfl⟩)
            | (go_at_call 11; refine (PS.out _).mono ?_; rintro e wm ⟨rfl, rfl⟩)
            | (go_at_call 16; refine CN.out.mono ?_; rintro e wn ⟨V, HV, rfl, F2, H2⟩; clear H; have H := Lib.hid H2; clear H2)
            | (go_at_call 21; refine (cr_sent H.out hs).mono ?_; rintro e wt ⟨rfl, rfl⟩)
            | (refine wpList_store_row rfl 35 _ _ rfl _ fr0.cells rfl HV.out 35 _ (heap_alloc_new _ _) (size35 _) rfl (one35 _ _ _ _) ?_; rw [World.setRow_alloc_new]; have H2 := H.out.frame fr0; clear H HV; have H := Lib.hid H2; clear H2; generalize wn.alloc (.cells fr0.cells 35) = wq at H ⊢))
          go_roundw
          case rel => exact ⟨k + 1, 500, a, G + c, L, F2, by omega, by omega, by simp, rfl, hs, by omega, by omega, HL.out, Lib.hid (H.out.keep1 (by simp))⟩
          case measure => simp [intOf]; omega
    · have hcase2 : (k < zs.length ∧ 40 ≤ k) ∨ zs.length ≤ k := by omega
      clear hlt
      rcases HL.out with rfl | ⟨rfl, has⟩
      · have D := (Boxed.of (H.out.far (wk.heap.size, fr0) (by simp)).1).d3
        change wr.cell? ⟨wk.heap.size, 3, none⟩ = some (.string ⟨#[]⟩) at D
        rcases hcase2 with ⟨hc1, hc2⟩ | hc1
        all_goals
          go_wp2_with (first
            | (go_at_call 16; refine (cr_none H.out hs).mono ?_; rintro e wn ⟨V, HV, rfl, F2, H2⟩; clear H; have H := Lib.hid H2; clear H2)
            | (refine wpList_store_row rfl 35 _ _ rfl _ fr0.cells rfl HV.out 35 _ (heap_alloc_new _ _) (size35 _) rfl (one35 _ _ _ _) ?_; rw [World.setRow_alloc_new]; have H2 := H.out.frame fr0; clear H HV; have H := Lib.hid H2; clear H2; generalize wn.alloc (.cells fr0.cells 35) = wq at H ⊢))
          go_ret
          exact ⟨rfl, H.out.below⟩
      · have D : wr.cell? ⟨wk.heap.size, 3, none⟩ = some (.string (crR a s).s) := (Boxed.of (H.out.far (wk.heap.size, crR a s) (by simp)).1).d3
        have hz := crR_size (a := a) hs
        obtain ⟨str, hstr⟩ : ∃ str, (crR a s).s = str := ⟨_, rfl⟩
        rw [hstr] at D hz
        have HS := Lib.hid hstr
        clear hstr
        have hz2 : 0 < str.size := by omega
        have hz3 := str_ne hz2
        have hz4 : str.toList.isEmpty = false := str_ne' hz2
        have HZ3 := Lib.hid hz
        clear hz
        rcases hcase2 with ⟨hc1, hc2⟩ | hc1
        all_goals
          go_wp2_with (first
            | (refine wpList_load_row rfl 35 _ rfl wk.heap.size rfl 35 (crR a s).cells (0, 0) _ (H.out.far (wk.heap.size, crR a s) (by simp)).1 Try.underlying35 rfl (size35 _) ?_)
            | (go_at_call 17; refine (cr_lost H.out (Nat.le_of_lt has) hs).mono ?_; rintro e wl ⟨rfl, F2, H2⟩; clear H; have H := Lib.hid H2; clear H2)
            | (go_at_call 16; refine (cr_again H.out has hs).mono ?_; rintro e wn ⟨V, HV, rfl, F2, X2, H2⟩; clear H; have H := Lib.hid H2; clear H2)
            | (refine wpList_store_row rfl 35 _ _ rfl _ (crR a s).cells rfl HV.out 35 _ (heap_alloc_new _ _) (size35 _) rfl (one_crR _ _) ?_; rw [World.setRow_alloc_new]; have H2 := H.out.frame (crR a s); clear H HV; have H := Lib.hid H2; clear H2; have D1 : (wn.alloc (.cells (crR a s).cells 35)).cell? ⟨wn.heap.size, 3, none⟩ = some (.string (crR a s).s) := (Boxed.of (H.out.far (wn.heap.size, crR a s) (by simp)).1).d3; have D2 : (wn.alloc (.cells (crR a s).cells 35)).cell? ⟨wn.heap.size, 2, none⟩ = some (.int .i64 a) := (Boxed.of (H.out.far (wn.heap.size, crR a s) (by simp)).1).d2; have D3 : (wn.alloc (.cells (crR a s).cells 35)).cell? ⟨wk.heap.size, 3, none⟩ = some (.string (crR a s).s) := (Boxed.of (H.out.far (wk.heap.size, crR a s) (by simp)).1).d3; have D4 : (wn.alloc (.cells (crR a s).cells 35)).cell? ⟨wk.heap.size, 2, none⟩ = some (.int .i64 a) := (Boxed.of (H.out.far (wk.heap.size, crR a s) (by simp)).1).d2; generalize wn.alloc (.cells (crR a s).cells 35) = wq at *))
          go_ret
          exact ⟨rfl, H.out.below⟩
theorem cells3 : Try.prog.cellsOf 3 = 1 := by kernel_rfl
theorem main {H : Type} {enc : TypeId × Value → H} (W : World) (base0 : Nat) (v0 : Value) (d0 : DataW H) (p0 : List MemPlace) (hv0 : Value.okWide Try.prog W .any base0 22 v0) (h0 : DataW.Trod enc Try.prog W 0 (fun _ => true) true 22 v0 d0 p0)
    (base1 : Nat) (v1 : Value) (d1 : DataW H) (p1 : List MemPlace) (hv1 : Value.okWide Try.prog W .any base1 3 v1) (h1 : DataW.Trod enc Try.prog W 0 (fun _ => true) true 3 v1 d1 p1) :
    Calls Try.prog 5 #[v0, v1] W fun e w' => e = .returned (.bool true) ∧ Below W.heap.size W w' := by
  obtain ⟨zs, hz, hmz, hrz⟩ := ints_at Try.underlying22 Try.underlying3 cells3 hv0 h0
  obtain ⟨a2, cap2, rfl, _⟩ := hz.form
  obtain ⟨n, rfl, _, _, w1⟩ := open_int Try.underlying3 hv1 h1
  exact walk zs a2 cap2 n W (bounds_i64 w1) hz hmz hrz
end Go.Proofs.Ytmjekepiplibkaa.sendBufCredit
