/- CongestionSlowStart: without losses the window grows by the bytes acknowledged; behind a loss by less than one packet per window. -/
import Derived.Test.YtcgcgdbcbmdahaaL
namespace Go.Proofs.Ytcgcgdbcbmdahaa.congestionSlowStart
open Go.RowKit Go.WideShapes Go.ChangeShapes Go.Proofs.Ytcgcgdbcbmdahaa
theorem bytes_small {n : Int} (h1 : 0 ≤ n) (h2 : n ≤ 65536) : bytesF n = n := by unfold bytesF; rw [if_neg (by omega : ¬ n < 0), if_neg (by omega)]
theorem slow_step {F : Int} {c : Ctl} (h : Ok F c) (hr : c.recov = false) (ht : c.thr = 65536) (n s : Int) (n1 : 1 ≤ n) (n2 : n ≤ 512) (hs : c.size + n ≤ 65536) :
    (ackedF (sentF c n) s n).size = c.size + n ∧ (ackedF (sentF c n) s n).thr = 65536 ∧ (ackedF (sentF c n) s n).recov = false ∧ Ok (F + 65536) (ackedF (sentF c n) s n) := by
  have hb := bytes_small (n := n) (by omega) (by omega)
  have ho : oldF (discF (sentF c n) n) s = false := by unfold oldF; rw [show (discF (sentF c n) n).recov = false from hr]; rfl
  have hlt : (discF (sentF c n) n).size < (discF (sentF c n) n).thr := by
    show c.size < c.thr
    rw [ht]; omega
  have e : ackedF (sentF c n) s n = growF (discF (sentF c n) n) n := by
    unfold ackedF; rw [ho, hb]; rw [if_neg Bool.false_ne_true, if_pos hlt]
  rw [e]
  refine ⟨?_, ht, hr, ?_⟩
  · show (if 65536 < c.size + n then 65536 else c.size + n) = c.size + n
    rw [if_neg (by omega)]
  · exact growF_ok (discF_ok (sentF_ok h n) n) n (by omega)
theorem avoid_step {F : Int} {c : Ctl} (h : Ok F c) (hr : c.recov = true) (n s : Int) (hs : c.since < s) (ht : c.thr ≤ c.size) (n1 : 1 ≤ n) (n2 : n ≤ 512) :
    c.size ≤ (ackedF c s n).size ∧ (ackedF c s n).size ≤ c.size + n ∧ (ackedF c s n).thr = c.thr ∧ (ackedF c s n).recov = true ∧ (ackedF c s n).since = c.since ∧ Ok F (ackedF c s n) := by
  have hb := bytes_small (n := n) (by omega) (by omega)
  have ho : oldF (discF c n) s = false := by
    unfold oldF; rw [show (discF c n).recov = true from hr, show (discF c n).since = c.since from rfl]; simp; omega
  have hge : ¬ (discF c n).size < (discF c n).thr := by show ¬ c.size < c.thr; omega
  have e : ackedF c s n = growF (discF c n) (avoidBy (discF c n) n) := by
    unfold ackedF; rw [ho, hb]; rw [if_neg Bool.false_ne_true, if_neg hge]
  have hok := ackedF_ok h s n
  rw [e] at hok ⊢
  have q : 512 * n / c.size ≤ n := by
    apply Int.ediv_le_of_le_mul (by have := h.s1; omega)
    have : n * 1024 ≤ n * c.size := Int.mul_le_mul_of_nonneg_left h.s1 (by omega)
    omega
  have q0 : 0 ≤ 512 * n / c.size := Int.ediv_nonneg (by omega) (by have := h.s1; omega)
  have ha : 0 ≤ avoidBy (discF c n) n ∧ avoidBy (discF c n) n ≤ n := by
    unfold avoidBy
    rw [show (discF c n).size = c.size from rfl, if_pos (by omega)]
    split <;> omega
  have h2 := h.s2
  refine ⟨?_, ?_, rfl, hr, rfl, hok⟩
  · show c.size ≤ (if 65536 < c.size + avoidBy (discF c n) n then 65536 else c.size + avoidBy (discF c n) n)
    split <;> omega
  · show (if 65536 < c.size + avoidBy (discF c n) n then 65536 else c.size + avoidBy (discF c n) n) ≤ c.size + n
    split <;> omega
theorem loss_step {F : Int} {c : Ctl} (h : Ok F c) (hr : c.recov = false) (hs : 4096 ≤ c.size) :
    (lostF c 100 100 0).size = c.size / 2 ∧ (lostF c 100 100 0).thr = c.size / 2 ∧ (lostF c 100 100 0).recov = true ∧ (lostF c 100 100 0).since = 100 ∧ Ok F (lostF c 100 100 0) := by
  have ho : oldF (discF c 0) 100 = false := by unfold oldF; rw [show (discF c 0).recov = false from hr]; rfl
  have e : lostF c 100 100 0 = halveF { discF c 0 with recov := true, since := 100 } := by unfold lostF; rw [ho]; rw [if_neg Bool.false_ne_true]
  have hok := lostF_ok h 100 100 0
  rw [e] at hok ⊢
  refine ⟨?_, ?_, rfl, rfl, hok⟩
  · show (if c.size / 2 < 1024 then 1024 else c.size / 2) = c.size / 2
    rw [if_neg (by omega)]
  · show (if c.size / 2 < 1024 then 1024 else c.size / 2) = c.size / 2
    rw [if_neg (by omega)]
set_option maxRecDepth 100000 in
set_option maxHeartbeats 8000000 in
theorem walk (zs : List Int) (a2 : Option Addr) (cap2 : Nat) (n : Int) (w : World) (n1 : -9223372036854775808 ≤ n) (n2 : n ≤ 9223372036854775807)
    (hz : IntsAt .i64 w (.slice a2 zs.length cap2) zs) (hmz : zs.length ≤ maxLen) (hrz : ∀ n ∈ zs, (Lit.int .i64 n).wf = true) :
    Calls Try.prog 6 #[.slice a2 zs.length cap2, .int .i64 n] w fun e w' => e = .returned (.bool true) ∧ Below w.heap.size w w' := by
  unfold maxLen at hmz
  have CK := Lib.hid (fun w => pick_any n 512 w n1 n2 (by omega) (by omega))
  have hk := pickF_range n 512 (by omega)
  generalize pickF n 512 = pk at *
  obtain ⟨hk1, hk2⟩ := hk
  have HZ := Lib.hid hz
  have HRZ := Lib.hid hrz
  clear hz hrz
  go_enter Try.func6, Try.ntmps6
  go_wp2_with (first | (go_at_call 8; refine (sane_any _).mono ?_; rintro e w1 ⟨rfl, hb⟩) | (go_at_call 9; refine (new_any _).mono ?_; rintro e w2 ⟨rfl, rfl⟩) | (go_at_call 13; refine (window_c _ newC 4096 rfl _ (at_of_new _)).mono ?_; rintro e w2 ⟨rfl, rfl⟩))
  have hB0 : Below w.heap.size w (w1.alloc (.cells newC.enc 50)) := hb.alloc hb.size _
  have hA0 := at_of_new w1
  have hbb := hb.size
  generalize w1.alloc (.cells newC.enc 50) = W0 at *
  generalize w1.heap.size = b at *
  clear hb
  go_loopw [7, 8] (fun s i wr => ∃ (k : Nat) (c : Ctl), k ≤ zs.length ∧ k ≤ 40 ∧ i = .int .i64 k ∧ s = .int .i64 c.size ∧ At wr b c ∧ (Ok ((k : Int) * 65536) c ∧ 4096 ≤ c.size ∧ c.size ≤ 4096 + 512 * (k : Int) ∧ c.thr = 65536 ∧ c.recov = false) ∧ Below w.heap.size w wr) (fun _ i _ => 40 - (intOf i).toNat)
  case atStart => exact ⟨0, newC, by omega, by omega, rfl, rfl, hA0, ⟨newC_ok, by decide, by decide, rfl, rfl⟩, hB0⟩
  case round =>
    obtain ⟨k, c, hk3, hk4, rfl, rfl, hA, ⟨hO, hs1, hs2, ht, hr⟩, hB⟩ := hrel
    by_cases hlt : k < zs.length ∧ k < 40
    · obtain ⟨hlt1, hlt2⟩ := hlt
      have hxw := bounds_i64 (HRZ.out (zs[k]?.getD 0) (by simp [hlt1]))
      obtain ⟨b4, off4, hz4, hx4⟩ : ∃ b4 off4, a2 = some ⟨b4, off4, none⟩ ∧ wr.cell? ⟨b4, off4 + k, none⟩ = some (.int .i64 (zs[k]?.getD 0)) ∧ zs.length ≤ cap2 ∧ cap2 ≤ maxLen := by
        rcases HZ.out with ⟨_, _, e, _, h0⟩ | ⟨b4, off4, c4, e, h0, hl4, hc4, hx4⟩
        · rw [h0] at hlt1; simp at hlt1
        · simp only [Value.slice.injEq] at e
          obtain ⟨e1, _, rfl⟩ := e
          exact ⟨b4, off4, e1, (hB.cell (p := ⟨b4, off4 + k, none⟩) (World.block_lt_of_cell? _ _ (hx4 k hlt1))).trans (hx4 k hlt1), hl4, hc4⟩
      obtain ⟨hx4, hl4, hc4⟩ := hx4
      unfold maxLen at hc4
      subst hz4
      generalize zs[k]?.getD 0 = x at *
      obtain ⟨x1, x2⟩ := hxw
      have P1 := Lib.hid (fun w => pick_any x 512 w x1 x2 (by omega) (by omega))
      have hp1 := pickF_range x 512 (by omega)
      generalize pickF x 512 = p1 at *
      obtain ⟨hp11, hp12⟩ := hp1
      have ST := slow_step hO hr ht (1 + p1) k (by omega) (by omega) (by omega)
      have S1 := Lib.hid (sent_any b c k (1 + p1) wr hA hO.f1 (by have := hO.f2; omega) (by have := hO.b1; omega) (by have := hO.b2; omega))
      have hO1 := sentF_ok hO (1 + p1)
      have A1 := Lib.hid (fun w' (h : At w' b (sentF c (1 + p1))) => acked_any b (sentF c (1 + p1)) ((k : Int) + 1) k (1 + p1) w' h hO1.f1 (by have := hO1.f2; omega) hO1.s1 hO1.s2)
      generalize ackedF (sentF c (1 + p1)) k (1 + p1) = c2 at *
      obtain ⟨t1, t2, t3, t4⟩ := ST
      have W2 := Lib.hid (fun w' (h : At w' b c2) => window_any b c2 w' h)
      rw [t1] at W2
      have INV : Hid (c2.size = c.size + (1 + p1) ∧ c2.thr = 65536 ∧ c2.recov = false ∧ Ok ((k : Int) * 65536 + 65536) c2) := Lib.hid ⟨t1, t2, t3, t4⟩
      have HB := Lib.hid hB
      clear t1 t2 t3 t4 hO hO1 ht hr hB hA
      generalize c.size = S at *
      have hmin : (if (65536 : Int) < S + (1 + p1) then (65536 : Int) else S + (1 + p1)) = S + (1 + p1) := if_neg (by omega)
      have hne : (S + (1 + p1) != S + (1 + p1)) = false := by simp
      go_wp2_with (first | (go_at_call 15; refine (P1.out _).mono ?_; rintro e w3 ⟨rfl, rfl⟩) | (go_at_call 21; refine S1.out.mono ?_; rintro e w4 ⟨rfl, ht1⟩) | (go_at_call 19; refine (A1.out _ ht1.1).mono ?_; rintro e w5 ⟨rfl, ht2⟩) | (go_at_call 13; refine (W2.out _ ht2.1).mono ?_; rintro e w7 ⟨rfl, rfl⟩))
      go_roundw
      case rel => exact ⟨k + 1, c2, by omega, by omega, by simp, by rw [INV.out.1], ht2.1, ⟨INV.out.2.2.2.up (by omega), by have := INV.out.1; omega, by have := INV.out.1; omega, INV.out.2.1, INV.out.2.2.1⟩, below_grown (below_grown HB.out ht1.2 hbb) ht2.2 hbb⟩
      case measure => simp [intOf]; omega
    · have hcase2 : (k < zs.length ∧ 40 ≤ k) ∨ zs.length ≤ k := by omega
      clear hlt
      have LS := loss_step hO hr hs1
      have L1 := Lib.hid (lost_any b c 100 100 0 wr hA hO.f1 (by have := hO.f2; omega) hO.s1 hO.s2)
      generalize lostF c 100 100 0 = c2 at *
      obtain ⟨t1, t2, t3, t4, t5⟩ := LS
      have W2 := Lib.hid (fun w' (h : At w' b c2) => window_any b c2 w' h)
      have INV : Hid (c2.size = c.size / 2 ∧ c2.thr = c.size / 2 ∧ c2.recov = true ∧ c2.since = 100 ∧ Ok 2621440 c2) := Lib.hid ⟨t1, t2, t3, t4, t5.up (by omega)⟩
      rw [t1] at W2
      have HB := Lib.hid hB
      clear t1 t2 t3 t4 t5 hO ht hr hB hA
      generalize c.size = S at *
      obtain ⟨h, hh⟩ : ∃ h, S / 2 = h := ⟨_, rfl⟩
      have hh1 : 2048 ≤ h ∧ h ≤ 12288 := by omega
      obtain ⟨hh1, hh2⟩ := hh1
      have hmin : (if (65536 : Int) < S then (65536 : Int) else S) = S := if_neg (by omega)
      have hq : IntKind.i64.wrap (S.tdiv 2) = h := by rw [IntWalk.i64_quo _ _ ⟨by omega, by omega, by omega⟩]; exact hh
      have hmax : (if h < 1024 then 1024 else h) = h := if_neg (by omega)
      have HQ := Lib.hid hq
      have HM := Lib.hid hmax
      rw [hh] at W2 INV
      clear hh hq hmax
      rcases hcase2 with ⟨hd1, hd2⟩ | hd1
      all_goals
        go_wp2_with (first | (go_at_call 20; refine L1.out.mono ?_; rintro e w4 ⟨rfl, ht1⟩) | (go_at_call 13; refine (W2.out _ ht1.1).mono ?_; rintro e w7 ⟨rfl, rfl⟩))
        have hB4 := below_grown HB.out ht1.2 hbb
        have hA4 := ht1.1
        clear ht1 L1 W2
        go_loopw [11, 12] (fun t i wr => ∃ (j : Nat) (c : Ctl) (T : Int), j ≤ 200 ∧ i = .int .i64 j ∧ t = .int .i64 T ∧ 0 ≤ T ∧ T ≤ 512 * (j : Int) ∧ At wr b c ∧ (Ok 2621440 c ∧ c.thr = h ∧ h ≤ c.size ∧ c.size ≤ h + T ∧ c.recov = true ∧ c.since = 100) ∧ Below w.heap.size w wr) (fun _ i _ => 200 - (intOf i).toNat)
        case atStart => exact ⟨0, c2, 0, by omega, rfl, rfl, by omega, by omega, hA4, ⟨INV.out.2.2.2.2, INV.out.2.1, by have := INV.out.1; omega, by have := INV.out.1; omega, INV.out.2.2.1, INV.out.2.2.2.1⟩, hB4⟩
        case round =>
          obtain ⟨j, c, T, hj, rfl, rfl, hT1, hT2, hA, ⟨hO, ht, hc1, hc2, hr, hsn⟩, hB⟩ := hrel
          have HB2 := Lib.hid hB
          by_cases hlt : T < h ∧ j < 200
          · obtain ⟨hlt1, hlt2⟩ := hlt
            have ST := avoid_step hO hr (1 + pk) (101 + j) (by omega) (by omega) (by omega) (by omega)
            have A1 := Lib.hid (acked_any b c (200 + (j : Int)) (101 + (j : Int)) (1 + pk) wr hA hO.f1 (by have := hO.f2; omega) hO.s1 hO.s2)
            generalize ackedF c (101 + (j : Int)) (1 + pk) = c3 at *
            have INV3 := Lib.hid ST
            have HH : Hid (c.thr = h ∧ h ≤ c.size ∧ c.size ≤ h + T ∧ c.since = 100) := Lib.hid ⟨ht, hc1, hc2, hsn⟩
            clear ST hO ht hc1 hc2 hr hsn hB hA
            go_wp2_with (first | (go_at_call 15; refine (CK.out _).mono ?_; rintro e w3 ⟨rfl, rfl⟩) | (go_at_call 19; refine A1.out.mono ?_; rintro e w5 ⟨rfl, ht2⟩))
            go_roundw
            case rel =>
              obtain ⟨i1, i2, i3, i4, i5, i6⟩ := INV3.out
              obtain ⟨g1, g2, g3, g4⟩ := HH.out
              exact ⟨j + 1, c3, T + (1 + pk), by omega, by simp, rfl, by omega, by omega, ht2.1, ⟨i6, by rw [i3, g1], by omega, by omega, i4, by rw [i5, g4]⟩, below_grown HB2.out ht2.2 hbb⟩
            case measure => simp [intOf]; omega
          · have hcase3 : (T < h ∧ 200 ≤ j) ∨ h ≤ T := by omega
            clear hlt
            have W3 := Lib.hid (fun w' (h : At w' b c) => window_any b c w' h)
            have HA := Lib.hid hA
            generalize c.size = S3 at *
            have hq := HQ.out
            have hmax := HM.out
            have g0 : (h == h) = true := by simp
            have g1 : decide (0 ≤ S3 - h) = true := by simp; omega
            have g2 : decide (S3 - h ≤ 2 * T) = true := by simp; omega
            clear hO ht hr hsn hB hA
            rcases hcase3 with ⟨hf1, hf2⟩ | hf1
            all_goals
              go_wp2_with (go_at_call 13; refine (W3.out _ HA.out).mono ?_; rintro e w7 ⟨rfl, rfl⟩)
              go_ret
              exact ⟨rfl, HB2.out⟩
theorem cells3 : Try.prog.cellsOf 3 = 1 := by kernel_rfl
theorem main {H : Type} {enc : TypeId × Value → H} (W : World) (base0 : Nat) (v0 : Value) (d0 : DataW H) (p0 : List MemPlace) (hv0 : Value.okWide Try.prog W .any base0 39 v0) (h0 : DataW.Trod enc Try.prog W 0 (fun _ => true) true 39 v0 d0 p0)
    (base1 : Nat) (v1 : Value) (d1 : DataW H) (p1 : List MemPlace) (hv1 : Value.okWide Try.prog W .any base1 3 v1) (h1 : DataW.Trod enc Try.prog W 0 (fun _ => true) true 3 v1 d1 p1) :
    Calls Try.prog 6 #[v0, v1] W fun e w' => e = .returned (.bool true) ∧ Below W.heap.size W w' := by
  obtain ⟨zs, hz, hmz, hrz⟩ := ints_at Try.underlying39 Try.underlying3 cells3 hv0 h0
  obtain ⟨a2, cap2, rfl, _⟩ := hz.form
  obtain ⟨n, rfl, _, _, w1⟩ := open_int Try.underlying3 hv1 h1
  exact walk zs a2 cap2 n W (bounds_i64 w1).1 (bounds_i64 w1).2 hz hmz hrz
end Go.Proofs.Ytcgcgdbcbmdahaa.congestionSlowStart
