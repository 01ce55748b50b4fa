/- StreamStateOrders: the orders that finish a part, and a reset at any time before. -/
import Derived.Test.YtapddinlfkdkeaaQ
import Derived.Test.YtapddinlfkdkeaaAppend
namespace Go.Proofs.Ytapddinlfkdkeaa.streamStateOrders
open Go.RowKit Go.WideShapes Go.ChangeShapes Go.Proofs Go.Proofs.Ytapddinlfkdkeaa
theorem info3 : (Try.prog.info? 3).map (fun i => (i.zero, i.size, i.bytes)) = some (some (.int .i64 0), 1, 8) := by kernel_rfl
def plan (n : Nat) : List Int := List.replicate n 1 ++ [2, 3]
def st (n i : Nat) : Int := if i = 0 then 0 else if i ≤ n then 1 else if i = n + 1 then 2 else 4
theorem plan_len (n : Nat) : (plan n).length = n + 2 := by simp [plan]
theorem plan_at (n i : Nat) (h : i < n + 2) : (plan n)[i]?.getD 0 = if i < n then 1 else if i = n then 2 else 3 := by
  unfold plan
  rw [List.getElem?_append]
  by_cases h1 : i < n
  · simp [h1]
  · simp only [List.length_replicate, h1, if_false]
    by_cases h2 : i = n
    · subst h2; simp
    · have : i - n = 1 := by omega
      simp [this, h2]
theorem step_ok (n i : Nat) (h : i < n + 2) : sF (st n i) ((plan n)[i]?.getD 0) = (st n (i + 1), 0) := by
  rw [plan_at n i h]
  unfold st
  by_cases h0 : i = 0
  · subst h0
    by_cases hn : n = 0
    · subst hn; rfl
    · have : 1 ≤ n := by omega
      simp only [show 0 < n from by omega, if_true, Nat.zero_add, this]
      rfl
  · by_cases h1 : i < n
    · simp only [h0, h1, show i ≤ n from by omega, show i + 1 ≤ n from by omega, if_true, if_false, Nat.add_eq_zero_iff, false_and]; rfl
    · by_cases h2 : i = n
      · subst h2
        simp only [h0, Nat.lt_irrefl, Nat.le_refl, show ¬ (i + 1 ≤ i) from by omega, if_true, if_false, Nat.add_eq_zero_iff, false_and]; rfl
      · have : i = n + 1 := by omega
        subst this
        simp only [show ¬ (n + 1 < n) from by omega, show ¬ (n + 1 = n) from by omega, show ¬ (n + 1 ≤ n) from by omega, show ¬ (n + 1 + 1 ≤ n) from by omega, show ¬ (n + 1 + 1 = n + 1) from by omega, if_true, if_false, Nat.add_eq_zero_iff, and_false, Nat.one_ne_zero]; rfl
theorem reset_ok (n i : Nat) (h : i < n + 2) : sF (st n i) 4 = (3, 0) := by
  unfold st
  split
  · rfl
  · split
    · rfl
    · rw [if_pos (by omega)]; rfl
def rst (j : Nat) : Int := if j = 0 then 0 else if j = 1 then 1 else if j = 2 then 2 else 4
theorem rst_ok (j : Nat) (h : j < 3) : rF (rst j) (6 + j) = (rst (j + 1), 0) := by
  have : j = 0 ∨ j = 1 ∨ j = 2 := by omega
  rcases this with rfl | rfl | rfl <;> rfl
theorem reset_ack : sF 3 5 = (5, 0) := rfl
set_option maxRecDepth 100000 in
set_option maxHeartbeats 2000000 in
theorem walk (a0 : Int) (a1 : Int) (b01 : -9223372036854775808 ≤ a0) (b02 : a0 ≤ 9223372036854775807) (b11 : -9223372036854775808 ≤ a1) (b12 : a1 ≤ 9223372036854775807) (w : World) :
    Calls Try.prog 6 #[.int .i64 a0, .int .i64 a1] w fun e w' => e = .returned (.bool true) ∧ Below w.heap.size w w' := by
  obtain ⟨i0, hi0, hz0, hz1, hz2⟩ := info_parts info3
  have H1 := Lib.hid hi0
  have H2 := Lib.hid hz0
  have H3 := Lib.hid hz1
  have H4 := Lib.hid hz2
  clear hi0 hz0 hz1 hz2
  have hp := pickF_range a0 10 (by omega)
  obtain ⟨n, hn⟩ : ∃ n : Nat, pickF a0 10 = n := ⟨(pickF a0 10).toNat, by omega⟩
  have hn9 : n ≤ 9 := by omega
  have CP := Lib.hid (fun w => pick_any a0 10 w b01 b02 (by omega) (by omega))
  rw [hn] at CP
  clear hn hp
  go_enter Try.func6, Try.ntmps6
  go_wp2_with (first | (go_at_call 7; refine (sane_any _).mono ?_; rintro e w' ⟨rfl, hb⟩) | (go_at_call 8; refine (CP.out _).mono ?_; rintro e w' ⟨rfl, rfl⟩))
  go_loopw [7, 8] (fun v i wr => ∃ k : Nat, k ≤ n ∧ i = .int .i64 k ∧ wr.ownsRow w.heap.size 3 1 v k ((List.replicate k (1 : Int)).map (.int .i64)) ∧ Below w.heap.size w wr) (fun _ i _ => n - (intOf i).toNat)
  case atStart => exact ⟨0, by omega, rfl, World.ownsRow_nil _ _ _ _, hb⟩
  case round =>
    obtain ⟨k, hk, rfl, hown, hB⟩ := hrel
    have hbs := hB.size
    by_cases hlt : k < n
    · go_wp2_with (at_builtin; refine wpList_append_row rfl _ _ 24 rfl w.heap.size 3 i0 (.int .i64 0) 1 8 Try.underlying24 H1.out H2.out H3.out H4.out rfl (by decide) _ _ _ rfl (hown.alloc _) (.slice (some ⟨wr.heap.size, 0, none⟩) 1 1) 1 [.int .i64 1] rfl (RowAt.of_own (base := wr.heap.size) (World.ownsRow_lit wr #[.int .i64 1] 1 (Nat.le_refl _) (by decide) rfl)) (by simp [Value.oneCell']) (by unfold maxLen; omega) (by omega) (by simp; omega) ?_; intro v' w1 hown1 hgrow1)
      go_roundw
      case rel => exact ⟨k + 1, by omega, by simp, by rw [List.replicate_succ', List.map_append]; exact hown1, (hB.alloc hbs _).grown hgrow1 (by simp; omega) (own_base hown)⟩
      case measure => simp [intOf]; omega
    · obtain rfl : k = n := by omega
      go_wp2_with (at_builtin; refine wpList_append_row rfl _ _ 24 rfl w.heap.size 3 i0 (.int .i64 0) 1 8 Try.underlying24 H1.out H2.out H3.out H4.out rfl (by decide) _ _ _ rfl (hown.alloc _) (.slice (some ⟨wr.heap.size, 0, none⟩) 2 2) 2 [.int .i64 2, .int .i64 3] rfl (RowAt.of_own (base := wr.heap.size) (World.ownsRow_lit wr #[.int .i64 2, .int .i64 3] 2 (Nat.le_refl _) (by decide) rfl)) (by simp [Value.oneCell']) (by unfold maxLen; omega) (by omega) (by simp; omega) ?_; intro v' w1 hown1 hgrow1; have hB1 := (hB.alloc hbs (.cells #[.int .i64 2, .int .i64 3] 3)).grown hgrow1 (by simp; omega) (own_base hown); have hall0 := RowAt.of_own hown1; obtain ⟨g, cap, rfl, hgb, hgl⟩ := hown1.form (by omega))
      have hall : IntsAt .i64 w1 (.slice (some ⟨g, 0, none⟩) (k + 2) cap) (plan k) := RowAt.to_ints (n := k + 2) (by unfold plan; rw [List.map_append]; exact hall0)
      have hcell : ∀ j, j < k + 2 → w1.cell? ⟨g, j, none⟩ = some (.int .i64 ((plan k)[j]?.getD 0)) := by
        rcases hall with ⟨a, c, e, _, h0⟩ | ⟨b, off, c, e, h0, hl, hc, hx⟩
        · have := plan_len k; rw [h0] at this; simp at this
        · simp only [Value.slice.injEq, Option.some.injEq, Addr.mk.injEq] at e
          obtain ⟨⟨rfl, rfl, _⟩, _, rfl⟩ := e
          intro j hj
          have := hx j (by rw [plan_len]; exact hj)
          rwa [Nat.zero_add] at this
      have HC := Lib.hid hcell
      clear hall hall0 hcell hgrow1 hown hB
      have hq := pickF_range a1 ((k : Int) + 2 + 1) (by omega)
      obtain ⟨q, hq2⟩ : ∃ q : Nat, pickF a1 ((k : Int) + 2 + 1) = q := ⟨(pickF a1 ((k : Int) + 2 + 1)).toNat, by omega⟩
      have hq9 : q ≤ k + 2 := by omega
      have CQ := Lib.hid (fun w => pick_any a1 ((k : Int) + 2 + 1) w b11 b12 (by omega) (by omega))
      rw [hq2] at CQ
      clear hq hq2
      go_wp2_with (go_at_call 8; refine (CQ.out _).mono ?_; rintro e w' ⟨rfl, rfl⟩)
      have hst0 : Hid (st k 0 = 0) := Lib.hid rfl
      go_loopw [10, 11, 12] (fun s r i wr => ∃ j : Nat, j ≤ k + 2 ∧ i = .int .i64 j ∧ s = .int .i64 (st k j) ∧ r = .int .i64 (if j ≤ q then 0 else 5) ∧ Below w1.heap.size w1 wr) (fun _ _ i _ => k + 2 - (intOf i).toNat)
      case atStart => exact ⟨0, by omega, rfl, by rw [hst0.out], by rw [if_pos (Nat.zero_le _)], Below.refl _ _⟩
      case round =>
        obtain ⟨j, hj, rfl, rfl, rfl, hB2⟩ := hrel
        by_cases hlt2 : j < k + 2
        · have hx := (hB2.cell (p := ⟨g, j, none⟩) hgl).trans (HC.out j hlt2)
          have S1 := Lib.hid (fun w => send_c (st k j) ((plan k)[j]?.getD 0) _ _ (step_ok k j hlt2) w)
          have S2 := Lib.hid (fun w => send_c (st k j) 4 _ _ (reset_ok k j hlt2) w)
          have S3 := Lib.hid (fun w => send_c 3 5 _ _ reset_ack w)
          generalize (plan k)[j]?.getD 0 = x at *
          generalize st k j = s at *
          generalize hs' : st k (j + 1) = s' at *
          have HS' := Lib.hid hs'
          clear hs'
          by_cases hjq : j = q
          · subst hjq
            have hr : Hid ((if j + 1 ≤ j then (0 : Int) else 5) = 5) := Lib.hid (if_neg (by omega))
            go_wp2_with (go_at_call 9; (first | (with_reducible refine (S1.out _).mono ?_; rintro e w9 ⟨rfl, hb9⟩) | (with_reducible refine (S2.out _).mono ?_; rintro e w10 ⟨rfl, hb10⟩) | (with_reducible refine (S3.out _).mono ?_; rintro e w11 ⟨rfl, hb11⟩)))
            go_roundw
            case rel => exact ⟨j + 1, by omega, by simp, by rw [HS'.out], by rw [hr.out], by repeat (first | assumption | exact Below.refl _ _ | refine btrans ?_ (by assumption))⟩
            case measure => simp [intOf]; omega
          · have t1 : ((j : Int) == (q : Int)) = false := by simp; omega
            have hr : Hid ((if j + 1 ≤ q then (0 : Int) else 5) = if j ≤ q then 0 else 5) := Lib.hid (by by_cases h : j + 1 ≤ q; rw [if_pos h, if_pos (by omega)]; rw [if_neg h, if_neg (by omega)])
            generalize (if j ≤ q then (0 : Int) else 5) = r at *
            clear hjq
            go_wp2_with (go_at_call 9; (first | (with_reducible refine (S1.out _).mono ?_; rintro e w9 ⟨rfl, hb9⟩) | (with_reducible refine (S2.out _).mono ?_; rintro e w10 ⟨rfl, hb10⟩) | (with_reducible refine (S3.out _).mono ?_; rintro e w11 ⟨rfl, hb11⟩)))
            go_roundw
            case rel => exact ⟨j + 1, by omega, by simp, by rw [HS'.out], by rw [hr.out], by repeat (first | assumption | exact Below.refl _ _ | refine btrans ?_ (by assumption))⟩
            case measure => simp [intOf]; omega
        · have hj2 : j = k + 2 := by omega
          have he : st k j = 4 := by rw [hj2]; unfold st; rw [if_neg (by omega), if_neg (by omega), if_neg (by omega)]
          rw [he]
          have hBall : Below w.heap.size w wr := by repeat (first | assumption | exact Below.refl _ _ | refine btrans ?_ (by assumption))
          have hcase : ∃ r : Int, (if j ≤ q then (0 : Int) else 5) = r ∧ (((q : Int) == (k : Int) + 2) = true ∨ ((q : Int) == (k : Int) + 2) = false ∧ (r == 5) = true) := by
            by_cases h : j ≤ q
            · exact ⟨0, if_pos h, .inl (by simp; omega)⟩
            · exact ⟨5, if_neg h, .inr ⟨by simp; omega, rfl⟩⟩
          obtain ⟨r, hr, hcase⟩ := hcase
          have hj3 : k + 2 ≤ j := by omega
          clear hj2
          rw [hr]
          clear hr he
          go_wp2
          have hw2 : Below w.heap.size w (wr.alloc (.cells #[.int .i64 6, .int .i64 7, .int .i64 8] 3)) := hBall.alloc hBall.size _
          have g0 : (wr.alloc (.cells #[.int .i64 6, .int .i64 7, .int .i64 8] 3)).cell? ⟨wr.heap.size, 0, none⟩ = some (.int .i64 6) := by go_cell
          have g1 : (wr.alloc (.cells #[.int .i64 6, .int .i64 7, .int .i64 8] 3)).cell? ⟨wr.heap.size, 1, none⟩ = some (.int .i64 7) := by go_cell
          have g2 : (wr.alloc (.cells #[.int .i64 6, .int .i64 7, .int .i64 8] 3)).cell? ⟨wr.heap.size, 2, none⟩ = some (.int .i64 8) := by go_cell
          have gs : wr.heap.size < (wr.alloc (.cells #[.int .i64 6, .int .i64 7, .int .i64 8] 3)).heap.size := by simp
          generalize (wr.alloc (.cells #[.int .i64 6, .int .i64 7, .int .i64 8] 3)) = W2 at *
          generalize wr.heap.size = B2 at *
          clear hB2 hBall
          have HCASE := Lib.hid hcase
          clear hcase
          go_loopw [19, 91] (fun r i wr => ∃ j : Nat, j ≤ 3 ∧ i = .int .i64 j ∧ r = .int .i64 (rst j) ∧ Below W2.heap.size W2 wr) (fun _ i _ => 3 - (intOf i).toNat)
          case atStart => exact ⟨0, by omega, rfl, rfl, Below.refl _ _⟩
          case round =>
            obtain ⟨j, hj, rfl, rfl, hB3⟩ := hrel
            by_cases hlt3 : j < 3
            · have hx : wr.cell? ⟨B2, j, none⟩ = some (.int .i64 (6 + j)) := by
                refine (hB3.cell (p := ⟨B2, j, none⟩) gs).trans ?_
                have : j = 0 ∨ j = 1 ∨ j = 2 := by omega
                rcases this with rfl | rfl | rfl
                · exact g0
                · exact g1
                · exact g2
              have R1 := Lib.hid (fun w => recv_c (rst j) (6 + j) _ _ (rst_ok j hlt3) w)
              generalize rst j = s at *
              generalize hs' : rst (j + 1) = s' at *
              have HS' := Lib.hid hs'
              clear hs'
              go_wp2_with (go_at_call 11; with_reducible refine (R1.out _).mono ?_; rintro e w11 ⟨rfl, hb11⟩)
              go_roundw
              case rel => exact ⟨j + 1, by omega, by simp, by rw [HS'.out], by repeat (first | assumption | exact Below.refl _ _ | refine btrans ?_ (by assumption))⟩
              case measure => simp [intOf]; omega
            · obtain rfl : j = 3 := by omega
              have he3 : rst 3 = 4 := rfl
              rw [he3]
              clear he3
              rcases HCASE.out with hc1 | ⟨hc1, hc2⟩
              all_goals
                go_wp2
                go_ret
                exact ⟨rfl, btrans hw2 hB3⟩
theorem main {H : Type} {enc : TypeId × Value → H} (W : World) (base0 : Nat) (v0 : Value) (d0 : DataW H) (p0 : List MemPlace) (hv0 : Value.okWide Try.prog W .any base0 3 v0) (h0 : DataW.Trod enc Try.prog W 0 (fun _ => true) true 3 v0 d0 p0)
    (base1 : Nat) (v1 : Value) (d1 : DataW H) (p1 : List MemPlace) (hv1 : Value.okWide Try.prog W .any base1 3 v1) (h1 : DataW.Trod enc Try.prog W 0 (fun _ => true) true 3 v1 d1 p1) :
    Calls Try.prog 6 #[v0, v1] W fun e w' => e = .returned (.bool true) ∧ Below W.heap.size W w' := by
  obtain ⟨a0, rfl, _, _, w0⟩ := open_int Try.underlying3 hv0 h0
  obtain ⟨a1, rfl, _, _, w1⟩ := open_int Try.underlying3 hv1 h1
  exact walk a0 a1 (bounds_i64 w0).1 (bounds_i64 w0).2 (bounds_i64 w1).1 (bounds_i64 w1).2 W
end Go.Proofs.Ytapddinlfkdkeaa.streamStateOrders
