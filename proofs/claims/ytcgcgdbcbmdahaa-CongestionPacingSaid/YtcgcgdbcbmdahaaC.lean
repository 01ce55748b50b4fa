import Derived.Test.YtcgcgdbcbmdahaaA
namespace Go.Proofs.Ytcgcgdbcbmdahaa
open Go.RowKit
def rttF (r : Int) : Int := if 1099511627776 < (if r < 1 then 1 else r) then 1099511627776 else (if r < 1 then 1 else r)
theorem rttF_range (r : Int) : 1 ≤ rttF r ∧ rttF r ≤ 1099511627776 := by unfold rttF; split <;> split <;> omega
def ticksF (c : Ctl) (now : Int) : Int := if now - 1000 ≤ c.refilled then now - c.refilled else 1000
def capF (c : Ctl) : Int := if 2048 < c.size / 4 then c.size / 4 else 2048
def moreF (c : Ctl) (now rtt : Int) : Int := c.budget + ticksF c now * c.size * 5 / (4 * rttF rtt)
def refillF (c : Ctl) (now rtt : Int) : Ctl := if c.refilled < now then { c with budget := if capF c < moreF c now rtt then capF c else moreF c now rtt, refilled := now } else c
def allowsF (c : Ctl) (n : Int) : Bool := decide (c.flight + bytesF n ≤ c.size) && decide (0 < c.budget)
theorem To.drewN {b : Nat} {c : Ctl} {w w' : World} (h : To b c w w') (n : Nat) : To b c w (w'.drewN n) := ⟨h.1, h.2.os, h.2.tape, h.2.output, h.2.size, h.2.block⟩
set_option maxHeartbeats 2000000 in
theorem allows_any (b : Nat) (c : Ctl) (now n rtt : Int) (w : World) (hA : At w b c) (h1 : 0 ≤ c.flight) (h2 : c.flight ≤ 1125899906842624) (h3 : 1024 ≤ c.size) (h4 : c.size ≤ 65536) (h5 : -1125899906842624 ≤ c.budget) (h6 : c.budget ≤ 1125899906842624)
    (h7 : 0 ≤ c.refilled) (h8 : now ≤ 9223372036854775807) :
    Calls Try.prog 16 #[.pointer (some ⟨b, 0, none⟩), .int .i64 now, .int .i64 n, .int .i64 rtt] w fun e w' => e = .returned (.bool (allowsF (refillF c now rtt) n)) ∧ To b (refillF c now rtt) w w' := by
  by_cases hn : c.refilled < now
  · obtain ⟨c0, c1, c2, c3, c4, c5, c6, fr⟩ := hA.facts
    obtain ⟨R, hR⟩ : ∃ R, rttF rtt = R := ⟨_, rfl⟩
    have hR1 := rttF_range rtt
    rw [hR] at hR1
    obtain ⟨hR1, hR2⟩ := hR1
    unfold rttF at hR
    obtain ⟨M, hM⟩ : ∃ M, (if rtt < 1 then 1 else rtt) = M := ⟨_, rfl⟩
    rw [hM] at hR
    obtain ⟨T, hT⟩ : ∃ T, ticksF c now = T := ⟨_, rfl⟩
    have hT1 : 0 ≤ T ∧ T ≤ 1000 := by rw [← hT]; unfold ticksF; split <;> omega
    obtain ⟨hT1, hT2⟩ := hT1
    have hp1 : 0 ≤ T * c.size := Int.mul_nonneg hT1 (by omega)
    have hp2 : T * c.size ≤ 65536000 := by
      have : T * c.size ≤ 1000 * 65536 := Int.mul_le_mul hT2 h4 (by omega) (by omega)
      omega
    have hq0 : 0 ≤ T * c.size * 5 := by omega
    have hq1 : T * c.size * 5 ≤ 327680000 := by omega
    have hd0 : 0 ≤ T * c.size * 5 / (4 * R) := Int.ediv_nonneg hq0 (by omega)
    have hd1 : T * c.size * 5 / (4 * R) ≤ 327680000 := Int.le_trans (Int.ediv_le_self _ hq0) hq1
    obtain ⟨Kc, hK⟩ : ∃ K, (if 2048 < c.size / 4 then c.size / 4 else 2048) = K := ⟨_, rfl⟩
    obtain ⟨B, hB⟩ : ∃ B, (if Kc < c.budget + T * c.size * 5 / (4 * R) then Kc else c.budget + T * c.size * 5 / (4 * R)) = B := ⟨_, rfl⟩
    have s1 : IntKind.i64.wrap (T * c.size) = T * c.size := IntWalk.i64_in _ (by omega)
    have s2 : IntKind.i64.wrap (T * c.size * 5) = T * c.size * 5 := IntWalk.i64_in _ (by omega)
    have s3 : IntKind.i64.wrap (4 * R) = 4 * R := IntWalk.i64_in _ (by omega)
    have s4 : IntKind.i64.wrap (c.budget + T * c.size * 5 / (4 * R)) = c.budget + T * c.size * 5 / (4 * R) := IntWalk.i64_in _ (by omega)
    have s5 : (T * c.size * 5).tdiv (4 * R) = T * c.size * 5 / (4 * R) := Int.tdiv_eq_ediv_of_nonneg hq0
    have s6 : IntKind.i64.wrap (T * c.size * 5 / (4 * R)) = T * c.size * 5 / (4 * R) := IntWalk.i64_in _ (by omega)
    have s7 : ¬ (4 * R = 0) := by omega
    have s8 : c.size / 4 ≤ 16384 := by omega
    have s9 : 256 ≤ c.size / 4 := by omega
    have s10 : IntKind.i64.wrap (c.size.tdiv 4) = c.size / 4 := IntWalk.i64_quo _ _ ⟨by omega, by omega, by omega⟩
    have E : Hid (refillF c now rtt = { c with budget := B, refilled := now }) := Lib.hid (by
      unfold refillF moreF capF
      rw [if_pos hn, hT, hK, show rttF rtt = R from by unfold rttF; rw [hM]; exact hR, hB])
    rw [E.out]
    have HBk := Lib.hid (((Blk.start hA).set 5 (.int .i64 B)).set 6 (.int .i64 now)).drew
    obtain ⟨C0, C1, C2, C3, C4, C5, C6, FR⟩ := (show At _ b { c with budget := B, refilled := now } from HBk.out.1).facts
    have HC0 := Lib.hid C0
    have HC2 := Lib.hid C2
    have HC5 := Lib.hid C5
    clear C0 C1 C2 C3 C4 C5 C6 FR
    have hb := bytesF_range n
    obtain ⟨hb1, hb2⟩ := hb
    have hs : IntKind.i64.wrap (c.flight + bytesF n) = c.flight + bytesF n := IntWalk.i64_in _ (by omega)
    have hTT : (now - 1000 ≤ c.refilled ∧ now - c.refilled = T) ∨ (c.refilled < now - 1000 ∧ T = 1000) := by
      rw [← hT]; unfold ticksF
      by_cases ht : now - 1000 ≤ c.refilled
      · rw [if_pos ht]; exact .inl ⟨ht, rfl⟩
      · rw [if_neg ht]; exact .inr ⟨by omega, rfl⟩
    clear hT
    by_cases hc : c.flight + bytesF n ≤ c.size
    · have t1 : decide (c.flight + bytesF n ≤ c.size) = true := by simpa using hc
      have HE : Hid (allowsF { c with budget := B, refilled := now } n = decide (0 < B)) := Lib.hid (by unfold allowsF; rw [t1]; rfl)
      rcases hTT with ⟨ht1, ht2⟩ | ⟨ht1, rfl⟩
      all_goals
        go_enter Try.func16, Try.ntmps16
        go_wp2
        go_still_tail 27, (by kernel_rfl)
        go_wp2
        have D0 := HC0.out
        have D2 := HC2.out
        have D5 := HC5.out
        generalize ((w.setCell ⟨b, 5, none⟩ (.int .i64 B)).setCell ⟨b, 6, none⟩ (.int .i64 now)).drew = W2 at *
        clear c0 c1 c2 c3 c4 c5 c6
        go_quiet ((go_at_call 28; exact Calls.quiet_of_same (bytes_still _ _)))
        go_wp2
        go_ret
        exact ⟨by rw [HE.out]; rfl, To.drewN (c := { c with budget := B, refilled := now }) HBk.out _⟩
    · have t1 : decide (c.flight + bytesF n ≤ c.size) = false := by simpa using hc
      have HE : Hid (allowsF { c with budget := B, refilled := now } n = false) := Lib.hid (by unfold allowsF; rw [t1]; rfl)
      rcases hTT with ⟨ht1, ht2⟩ | ⟨ht1, rfl⟩
      all_goals
        go_enter Try.func16, Try.ntmps16
        go_wp2
        go_still_tail 27, (by kernel_rfl)
        go_wp2
        have D0 := HC0.out
        have D2 := HC2.out
        generalize ((w.setCell ⟨b, 5, none⟩ (.int .i64 B)).setCell ⟨b, 6, none⟩ (.int .i64 now)).drew = W2 at *
        clear c0 c1 c2 c3 c4 c5 c6
        go_quiet ((go_at_call 28; exact Calls.quiet_of_same (bytes_still _ _)))
        go_wp2
        go_ret
        exact ⟨by rw [HE.out]; rfl, To.drewN (c := { c with budget := B, refilled := now }) HBk.out _⟩
  · have E := Lib.hid (show refillF c now rtt = c from by unfold refillF; rw [if_neg hn])
    rw [E.out]
    obtain ⟨c0, c1, c2, c3, c4, c5, c6, fr⟩ := hA.facts
    have hb := bytesF_range n
    obtain ⟨hb1, hb2⟩ := hb
    have hs : IntKind.i64.wrap (c.flight + bytesF n) = c.flight + bytesF n := IntWalk.i64_in _ (by omega)
    by_cases hc : c.flight + bytesF n ≤ c.size
    · have t1 : decide (c.flight + bytesF n ≤ c.size) = true := by simpa using hc
      go_enter Try.func16, Try.ntmps16
      go_wp2
      go_quiet ((go_at_call 28; exact Calls.quiet_of_same (bytes_still _ _)))
      go_wp2
      go_ret
      exact ⟨by unfold allowsF; rw [t1]; rfl, (To.same hA).drewN _⟩
    · have t1 : decide (c.flight + bytesF n ≤ c.size) = false := by simpa using hc
      go_enter Try.func16, Try.ntmps16
      go_wp2
      go_quiet ((go_at_call 28; exact Calls.quiet_of_same (bytes_still _ _)))
      go_wp2
      go_ret
      exact ⟨by unfold allowsF; rw [t1]; rfl, (To.same hA).drewN _⟩
end Go.Proofs.Ytcgcgdbcbmdahaa
