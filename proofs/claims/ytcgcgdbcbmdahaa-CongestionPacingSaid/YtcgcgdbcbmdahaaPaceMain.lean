/- CongestionPacing: no more is sent than the pacing budget of the period, one burst and one packet. -/
import Derived.Test.YtcgcgdbcbmdahaaL
namespace Go.Proofs.Ytcgcgdbcbmdahaa.congestionPacing
open Go.RowKit Go.WideShapes Go.ChangeShapes Go.Proofs.Ytcgcgdbcbmdahaa
def pc (B R : Int) : Ctl := ⟨4096, 65536, 0, false, 0, B, R⟩
theorem pc_1 (B R : Int) : 0 ≤ (pc B R).flight := by show (0 : Int) ≤ 0; decide
theorem pc_2 (B R : Int) : (pc B R).flight ≤ 1125899906842624 := by show (0 : Int) ≤ 1125899906842624; decide
theorem pc_3 (B R : Int) : 1024 ≤ (pc B R).size := by show (1024 : Int) ≤ 4096; decide
theorem pc_4 (B R : Int) : (pc B R).size ≤ 65536 := by show (4096 : Int) ≤ 65536; decide
def qF (x r : Int) : Int := x * 20480 / (4 * r)
theorem qF_add (x y r : Int) (hr : 1 ≤ r) : qF x r + qF y r ≤ qF (x + y) r := by
  unfold qF
  rw [Int.add_mul]
  have h4 : 0 < 4 * r := by omega
  rw [Int.le_ediv_iff_mul_le h4, Int.add_mul]
  have a := Int.ediv_mul_le (x * 20480) (show 4 * r ≠ 0 by omega)
  have b := Int.ediv_mul_le (y * 20480) (show 4 * r ≠ 0 by omega)
  omega
theorem qF_mono (x y r : Int) (hr : 1 ≤ r) (h : x ≤ y) : qF x r ≤ qF y r := by
  unfold qF; exact Int.ediv_le_ediv (by omega) (by omega)
theorem qF_range (x r : Int) (hr : 1 ≤ r) (h : 0 ≤ x) : 0 ≤ qF x r ∧ qF x r ≤ x * 20480 := by
  unfold qF
  exact ⟨Int.ediv_nonneg (by omega) (by omega), Int.ediv_le_self _ (by omega)⟩
theorem refill_pc (B R now r : Int) (hr1 : 1 ≤ r) (hr2 : r ≤ 100) (h : R ≤ now) (h0 : now - R ≤ 1000) (hB : B ≤ 2048) :
    ∃ B', refillF (pc B R) now r = pc B' now ∧ B ≤ B' ∧ B' ≤ 2048 ∧ B' + qF R r ≤ B + qF now r := by
  by_cases hlt : R < now
  · have ht : ticksF (pc B R) now = now - R := by
      unfold ticksF; rw [if_pos (show now - 1000 ≤ (pc B R).refilled by show now - 1000 ≤ R; omega)]; rfl
    have hrt : rttF r = r := by unfold rttF; rw [if_neg (by omega : ¬ r < 1), if_neg (by omega)]
    have hm : moreF (pc B R) now r = B + qF (now - R) r := by
      unfold moreF; rw [ht, hrt]
      show B + (now - R) * 4096 * 5 / (4 * r) = B + (now - R) * 20480 / (4 * r)
      rw [Int.mul_assoc]; rfl
    have hc : capF (pc B R) = 2048 := rfl
    have hq := (qF_range (now - R) r hr1 (by omega)).1
    have ha := qF_add (now - R) R r hr1
    rw [show now - R + R = now by omega] at ha
    refine ⟨if 2048 < B + qF (now - R) r then 2048 else B + qF (now - R) r, ?_, ?_, ?_, ?_⟩
    · unfold refillF
      rw [if_pos (show (pc B R).refilled < now from hlt), hc, hm]
      rfl
    · split <;> omega
    · split <;> omega
    · split <;> omega
  · obtain rfl : R = now := by omega
    exact ⟨B, by unfold refillF; rw [if_neg (show ¬ (pc B R).refilled < R from hlt)], Int.le_refl _, hB, Int.le_refl _⟩
theorem bytes_small {n : Int} (h1 : 0 ≤ n) (h2 : n ≤ 65536) : bytesF n = n := by unfold bytesF; rw [if_neg (by omega : ¬ n < 0), if_neg (by omega)]
theorem allows_pc (B R n : Int) (h1 : 0 ≤ n) (h2 : n ≤ 512) : allowsF (pc B R) n = decide (0 < B) := by
  unfold allowsF
  rw [bytes_small h1 (by omega)]
  show (decide (0 + n ≤ 4096) && decide (0 < B)) = decide (0 < B)
  rw [show decide (0 + n ≤ (4096 : Int)) = true by simp; omega, Bool.true_and]
theorem send_pc (B R n : Int) (h1 : 0 ≤ n) (h2 : n ≤ 512) : discF (sentF (pc B R) n) n = pc (B - n) R := by
  unfold discF sentF
  rw [bytes_small h1 (by omega)]
  show ({ size := 4096, thr := 65536, flight := 0 + n - (if 0 + n < n then 0 + n else n), recov := false, since := 0, budget := B - n, refilled := R } : Ctl) = pc (B - n) R
  rw [if_neg (by omega)]
  unfold pc
  congr 1
  omega
set_option maxRecDepth 100000 in
set_option maxHeartbeats 8000000 in
theorem walk (zs : List Int) (a2 : Option Addr) (cap2 : Nat) (sz rt : Int) (w : World) (s1 : -9223372036854775808 ≤ sz) (s2 : sz ≤ 9223372036854775807) (r1 : -9223372036854775808 ≤ rt) (r2 : rt ≤ 9223372036854775807)
    (hz : IntsAt .i64 w (.slice a2 zs.length cap2) zs) (hmz : zs.length ≤ maxLen) (hrz : ∀ n ∈ zs, (Lit.int .i64 n).wf = true) :
    Calls Try.prog 7 #[.slice a2 zs.length cap2, .int .i64 sz, .int .i64 rt] w fun e w' => e = .returned (.bool true) ∧ Below w.heap.size w w' := by
  unfold maxLen at hmz
  have CS := Lib.hid (fun w => pick_any sz 512 w s1 s2 (by omega) (by omega))
  have hk := pickF_range sz 512 (by omega)
  generalize pickF sz 512 = ps at *
  have CR := Lib.hid (fun w => pick_any rt 100 w r1 r2 (by omega) (by omega))
  have hk' := pickF_range rt 100 (by omega)
  generalize pickF rt 100 = pr at *
  obtain ⟨hk1, hk2⟩ := hk
  obtain ⟨hk3, hk4⟩ := hk'
  have HZ := Lib.hid hz
  have HRZ := Lib.hid hrz
  clear hz hrz
  go_enter Try.func7, Try.ntmps7
  go_wp2_with (first | (go_at_call 8; refine (sane_any _).mono ?_; rintro e w1 ⟨rfl, hb⟩) | (go_at_call 9; refine (new_any _).mono ?_; rintro e w2 ⟨rfl, rfl⟩) | (go_at_call 15; (first | (with_reducible refine (CS.out _).mono ?_; rintro e w3 ⟨rfl, rfl⟩) | (with_reducible refine (CR.out _).mono ?_; rintro e w3 ⟨rfl, rfl⟩))))
  have hB0 : Below w.heap.size w (w1.alloc (.cells newC.enc 50)) := hb.alloc hb.size _
  have hA0 := at_of_new w1
  have hbb := hb.size
  generalize w1.alloc (.cells newC.enc 50) = W0 at *
  generalize w1.heap.size = b at *
  clear hb
  have hn1 : 1 ≤ 1 + ps := by omega
  have hn2 : 1 + ps ≤ 512 := by omega
  have hr1 : 1 ≤ 1 + pr := by omega
  have hr2 : 1 + pr ≤ 100 := by omega
  go_loopw [11, 12, 13] (fun nw s i wr => ∃ (k : Nat) (now sent B R : Int), k ≤ zs.length ∧ k ≤ 60 ∧ i = .int .i64 k ∧ nw = .int .i64 now ∧ s = .int .i64 sent ∧ At wr b (pc B R) ∧
    (0 ≤ now ∧ now ≤ 4 * (k : Int) ∧ 0 ≤ R ∧ R ≤ now ∧ 0 ≤ sent ∧ sent ≤ 102400 * (k : Int) ∧ -(1 + ps) < B ∧ B ≤ 2048 ∧ sent + B ≤ 1024 + qF R (1 + pr) ∧ (0 < sent ∨ (k = 0 ∧ 0 < B))) ∧ Below w.heap.size w wr) (fun _ _ i _ => 60 - (intOf i).toNat)
  case atStart => exact ⟨0, 0, 0, 1024, 0, by omega, by omega, rfl, rfl, rfl, hA0, ⟨by omega, by omega, by omega, by omega, by omega, by omega, by omega, by omega, by have := (qF_range 0 (1 + pr) hr1 (by omega)).1; omega, .inr ⟨rfl, by omega⟩⟩, hB0⟩
  case round =>
    obtain ⟨k, now, sent, B, R, hz1, hz2, rfl, rfl, rfl, hA, HI, hB⟩ := hrel
    by_cases hlt : k < zs.length ∧ k < 60
    · obtain ⟨hlt1, hlt2⟩ := hlt
      have hxw := bounds_i64 (HRZ.out (zs[k]?.getD 0) (by simp [hlt1]))
      obtain ⟨b4, off4, hz4, hx4⟩ : ∃ b4 off4, a2 = some ⟨b4, off4, none⟩ ∧ wr.cell? ⟨b4, off4 + k, none⟩ = some (.int .i64 (zs[k]?.getD 0)) ∧ zs.length ≤ cap2 ∧ cap2 ≤ maxLen := by
        rcases HZ.out with ⟨_, _, e, _, h0⟩ | ⟨b4, off4, c4, e, h0, hl4, hc4, hx4⟩
        · rw [h0] at hlt1; simp at hlt1
        · simp only [Value.slice.injEq] at e
          obtain ⟨e1, _, rfl⟩ := e
          exact ⟨b4, off4, e1, (hB.cell (p := ⟨b4, off4 + k, none⟩) (World.block_lt_of_cell? _ _ (hx4 k hlt1))).trans (hx4 k hlt1), hl4, hc4⟩
      obtain ⟨hx4, hl4, hc4⟩ := hx4
      unfold maxLen at hc4
      subst hz4
      generalize zs[k]?.getD 0 = x at *
      obtain ⟨x1, x2⟩ := hxw
      have P1 := Lib.hid (fun w => pick_any x 5 w x1 x2 (by omega) (by omega))
      have hp1 := pickF_range x 5 (by omega)
      generalize pickF x 5 = p1 at *
      obtain ⟨hp11, hp12⟩ := hp1
      obtain ⟨i1, i2, i3, i4, i5, i6, i7, i8, i9, i10⟩ := HI
      have HI9 := Lib.hid i9
      have HI10 := Lib.hid i10
      clear i9 i10
      obtain ⟨nw2, hnw⟩ : ∃ nw2, now + p1 = nw2 := ⟨_, rfl⟩
      have hnw1 : R ≤ nw2 := by omega
      have hnw2 : nw2 ≤ 4 * (k : Int) + 4 := by omega
      have HNW := Lib.hid hnw
      go_wp2_with (go_at_call 15; refine (P1.out _).mono ?_; rintro e w3 ⟨rfl, rfl⟩)
      clear hnw hx4
      have hnw0 : 0 ≤ nw2 := by omega
      go_loopw [12, 14] (fun s i wr => ∃ (m : Nat) (S B R : Int), m ≤ 200 ∧ i = .int .i64 m ∧ s = .int .i64 S ∧ At wr b (pc B R) ∧
        (0 ≤ R ∧ R ≤ nw2 ∧ 0 ≤ S ∧ S ≤ 102400 * (k : Int) + 512 * (m : Int) ∧ -(1 + ps) < B ∧ B ≤ 2048 ∧ S + B ≤ 1024 + qF R (1 + pr) ∧ (0 < S ∨ (m = 0 ∧ 0 < B))) ∧ Below w.heap.size w wr) (fun _ i _ => 200 - (intOf i).toNat)
      case atStart => exact ⟨0, sent, B, R, by omega, rfl, rfl, hA, ⟨i3, hnw1, i5, by omega, i7, i8, HI9.out, by rcases HI10.out with h | ⟨_, h⟩; exact .inl h; exact .inr ⟨rfl, h⟩⟩, hB⟩
      case round =>
        obtain ⟨m, S, B1, R1, hm, rfl, rfl, hA1, ⟨j1, j2, j3, j4, j5, j6, j7, j8⟩, hB1⟩ := hrel
        have HB1 := Lib.hid hB1
        have J7 := Lib.hid j7
        have J8 := Lib.hid j8
        have hqm := qF_mono R1 nw2 (1 + pr) hr1 j2
        have hqr := qF_range nw2 (1 + pr) hr1 hnw0
        obtain ⟨Q, hQ⟩ : ∃ Q, qF nw2 (1 + pr) = Q := ⟨_, rfl⟩
        rw [hQ] at hqm hqr
        have HQ := Lib.hid hQ
        obtain ⟨hqr1, hqr2⟩ := hqr
        have hnz : ¬ (4 * (1 + pr) = 0) := by omega
        by_cases hlt3 : m < 200
        · obtain ⟨B2, hf, hb1, hb2, hb3⟩ := refill_pc B1 R1 nw2 (1 + pr) hr1 hr2 j2 (by omega) j6
          have AL := Lib.hid (allows_any b (pc B1 R1) nw2 (1 + ps) (1 + pr) wr hA1 (pc_1 _ _) (pc_2 _ _) (pc_3 _ _) (pc_4 _ _) (by show _ ≤ B1; omega) (by show B1 ≤ _; omega) j1 (by omega))
          rw [hf, allows_pc B2 nw2 (1 + ps) (by omega) hn2] at AL
          rw [hQ] at hb3
          have HB3 := Lib.hid hb3
          clear j7 j8 hf hb3 hQ
          by_cases hpos : 0 < B2
          · have hd : decide (0 < B2) = true := by simpa using hpos
            rw [hd] at AL
            have SD := Lib.hid (fun w' (h : At w' b (pc B2 nw2)) => sent_any b (pc B2 nw2) nw2 (1 + ps) w' h (pc_1 _ _) (pc_2 _ _) (by show _ ≤ B2; omega) (by show B2 ≤ _; omega))
            have DD := Lib.hid (fun w' (h : At w' b (sentF (pc B2 nw2) (1 + ps))) => disc_any b (sentF (pc B2 nw2) (1 + ps)) (1 + ps) w' h (by show 0 ≤ 0 + bytesF (1 + ps); have := bytesF_range (1 + ps); omega) (by show 0 + bytesF (1 + ps) ≤ _; have := bytesF_range (1 + ps); omega))
            rw [send_pc B2 nw2 (1 + ps) (by omega) hn2] at DD
            clear hd hA1 hB1
            go_wp2_with (first | (go_at_call 16; refine AL.out.mono ?_; rintro e w4 ⟨rfl, ht1⟩) | (go_at_call 21; refine (SD.out _ ht1.1).mono ?_; rintro e w5 ⟨rfl, ht2⟩) | (go_at_call 22; refine (DD.out _ ht2.1).mono ?_; rintro e w6 ⟨rfl, ht3⟩))
            go_roundw
            case rel => exact ⟨m + 1, S + (1 + ps), B2 - (1 + ps), nw2, by omega, by simp, rfl, ht3.1, ⟨hnw0, Int.le_refl _, by omega, by omega, by omega, by omega, by rw [HQ.out]; have := HB3.out; have := J7.out; omega, .inl (by omega)⟩, below_grown (below_grown (below_grown HB1.out ht1.2 hbb) ht2.2 hbb) ht3.2 hbb⟩
            case measure => simp [intOf]; omega
          · have hd : decide (0 < B2) = false := by simpa using hpos
            rw [hd] at AL
            have hS : 0 < S := by
              rcases J8.out with h | ⟨_, h⟩
              · exact h
              · omega
            have hfin : decide (3072 + (1 + ps) + Q + nw2 < S) = false := by simp; have := HB3.out; have := J7.out; omega
            have hQ2 : nw2 * 20480 / (4 * (1 + pr)) = Q := HQ.out
            clear hd hA1 hB1
            go_wp2_with (first | (go_at_call 16; refine AL.out.mono ?_; rintro e w4 ⟨rfl, ht1⟩))
            go_roundw
            case rel => exact ⟨k + 1, nw2, S, B2, nw2, by omega, by omega, by simp, rfl, rfl, ht1.1, ⟨hnw0, by omega, hnw0, Int.le_refl _, by omega, by omega, by omega, by omega, by rw [HQ.out]; have := HB3.out; have := J7.out; omega, .inl hS⟩, below_grown HB1.out ht1.2 hbb⟩
            case measure => simp [intOf]; omega
        · have hS : 0 < S := by
            rcases J8.out with h | ⟨h, _⟩
            · exact h
            · omega
          have hm2 : decide ((m : Int) < 200) = false := by simp; omega
          have hm3 : 200 ≤ m := by omega
          clear hlt3
          have hfin : decide (3072 + (1 + ps) + Q + nw2 < S) = false := by simp; have := J7.out; omega
          have hQ2 : nw2 * 20480 / (4 * (1 + pr)) = Q := HQ.out
          clear hQ j7 j8
          go_wp2
          go_roundw
          case rel => exact ⟨k + 1, nw2, S, B1, R1, by omega, by omega, by simp, rfl, rfl, hA1, ⟨hnw0, by omega, j1, j2, by omega, by omega, by omega, by omega, J7.out, .inl hS⟩, hB1⟩
          case measure => simp [intOf]; omega
    · have hcase2 : (k < zs.length ∧ 60 ≤ k) ∨ zs.length ≤ k := by omega
      clear hlt
      have W3 := Lib.hid (window_c b (pc B R) 4096 rfl wr hA)
      obtain ⟨i1, i2, i3, i4, i5, i6, i7, i8, i9, i10⟩ := HI
      have hor : zs.length = 0 ∨ (zs.length ≠ 0 ∧ 0 < sent) := by
        rcases i10 with h | ⟨h, _⟩
        · by_cases h0 : zs.length = 0
          · exact .inl h0
          · exact .inr ⟨h0, h⟩
        · omega
      clear i9 i10
      have HB := Lib.hid hB
      have hne : Hid (zs.length = 0 ∨ (zs.length ≠ 0 ∧ 0 < sent)) := Lib.hid hor
      have hb1 : ((zs.length : Int) == 0) = true ∨ (((zs.length : Int) == 0) = false ∧ decide (0 < sent) = true) := by
        rcases hor with h | ⟨h, h'⟩
        · exact .inl (by rw [h]; rfl)
        · refine .inr ⟨?_, by simpa using h'⟩
          rw [beq_eq_false_iff_ne]; omega
      clear hor hA hB
      rcases hcase2 with ⟨hd1, hd2⟩ | hd1
      all_goals
        rcases hb1 with g1 | ⟨g1, g2⟩
      all_goals
        go_wp2_with (go_at_call 13; refine W3.out.mono ?_; rintro e w7 ⟨rfl, rfl⟩)
        go_ret
        exact ⟨rfl, HB.out⟩
theorem cells3 : Try.prog.cellsOf 3 = 1 := by kernel_rfl
theorem main {H : Type} {enc : TypeId × Value → H} (W : World) (base0 : Nat) (v0 : Value) (d0 : DataW H) (p0 : List MemPlace) (hv0 : Value.okWide Try.prog W .any base0 39 v0) (h0 : DataW.Trod enc Try.prog W 0 (fun _ => true) true 39 v0 d0 p0)
    (base1 : Nat) (v1 : Value) (d1 : DataW H) (p1 : List MemPlace) (hv1 : Value.okWide Try.prog W .any base1 3 v1) (h1 : DataW.Trod enc Try.prog W 0 (fun _ => true) true 3 v1 d1 p1)
    (base2 : Nat) (v2 : Value) (d2 : DataW H) (p2 : List MemPlace) (hv2 : Value.okWide Try.prog W .any base2 3 v2) (h2 : DataW.Trod enc Try.prog W 0 (fun _ => true) true 3 v2 d2 p2) :
    Calls Try.prog 7 #[v0, v1, v2] W fun e w' => e = .returned (.bool true) ∧ Below W.heap.size W w' := by
  obtain ⟨zs, hz, hmz, hrz⟩ := ints_at Try.underlying39 Try.underlying3 cells3 hv0 h0
  obtain ⟨a2, cap2, rfl, _⟩ := hz.form
  obtain ⟨n, rfl, _, _, w1⟩ := open_int Try.underlying3 hv1 h1
  obtain ⟨r, rfl, _, _, w2⟩ := open_int Try.underlying3 hv2 h2
  exact walk zs a2 cap2 n r W (bounds_i64 w1).1 (bounds_i64 w1).2 (bounds_i64 w2).1 (bounds_i64 w2).2 hz hmz hrz
end Go.Proofs.Ytcgcgdbcbmdahaa.congestionPacing
