import Derived.Test.YtcgcgdbcbmdahaaF
namespace Go.Proofs.Ytcgcgdbcbmdahaa
open Go.RowKit
def pickF (c n : Int) : Int := if c < 0 then (-(c+1)) % n else c % n
theorem pickF_range (c n : Int) (h : 1 ≤ n) : 0 ≤ pickF c n ∧ pickF c n < n := by
  unfold pickF; split
  · exact ⟨Int.emod_nonneg _ (by omega), Int.emod_lt_of_pos _ (by omega)⟩
  · exact ⟨Int.emod_nonneg _ (by omega), Int.emod_lt_of_pos _ (by omega)⟩
theorem pick_any (c n : Int) (w : World) (hc : -9223372036854775808 ≤ c) (hc' : c ≤ 9223372036854775807) (hn : 1 ≤ n) (hn2 : n ≤ 1152921504606846976) :
    Calls Try.prog 15 #[.int .i64 c, .int .i64 n] w fun e w' => e = .returned (.int .i64 (pickF c n)) ∧ w = w' := by
  by_cases h : c < 0
  · have e : pickF c n = -((c+1).tmod n) := by
      unfold pickF; rw [if_pos h, ← Int.neg_tmod, Int.tmod_eq_emod_of_nonneg (by omega)]
    have H := Lib.hid e
    clear e
    go_enter Try.func15, Try.ntmps15
    go_wp2
    go_ret
    exact ⟨by rw [H.out]; rfl, rfl⟩
  · have e : pickF c n = c % n := by unfold pickF; rw [if_neg h]
    have H := Lib.hid e
    clear e
    go_enter Try.func15, Try.ntmps15
    go_wp2
    go_ret
    exact ⟨by rw [H.out]; rfl, rfl⟩
structure Prm where
  kind : Int
  now : Int
  sent : Int
  n : Int
def Prm.wf (p : Prm) : Prop := (-9223372036854775808 ≤ p.kind ∧ p.kind ≤ 9223372036854775807) ∧ (-9223372036854775808 ≤ p.now ∧ p.now ≤ 9223372036854775807) ∧ (-9223372036854775808 ≤ p.sent ∧ p.sent ≤ 9223372036854775807) ∧ (-9223372036854775808 ≤ p.n ∧ p.n ≤ 9223372036854775807)
def Prm.enc (p : Prm) : Array Value := #[.int .i64 p.kind, .int .i64 p.now, .int .i64 p.sent, .int .i64 p.n]
def doF (c : Ctl) (p : Prm) : Ctl :=
  if pickF p.kind 7 = 0 then sentF c p.n else if pickF p.kind 7 = 1 then sentF c p.n else if pickF p.kind 7 = 2 then ackedF c p.sent p.n else if pickF p.kind 7 = 3 then ackedF c p.sent p.n
  else if pickF p.kind 7 = 4 then lostF c p.now p.sent p.n else if pickF p.kind 7 = 5 then discF c p.n else if pickF p.n 4 = 0 then collF c else c
structure Ok (F : Int) (c : Ctl) : Prop where
  s1 : 1024 ≤ c.size
  s2 : c.size ≤ 65536
  f1 : 0 ≤ c.flight
  f2 : c.flight ≤ F
  b1 : -F ≤ c.budget
  b2 : c.budget ≤ 16384
  r1 : 0 ≤ c.refilled
theorem discF_ok {F : Int} {c : Ctl} (h : Ok F c) (n : Int) : Ok F (discF c n) := by
  have := bytesF_range n
  obtain ⟨h1, h2, h3, h4, h5, h6, h7⟩ := h
  refine ⟨h1, h2, ?_, ?_, h5, h6, h7⟩ <;> (unfold discF; dsimp only; split <;> omega)
theorem growF_ok {F : Int} {c : Ctl} (h : Ok F c) (x : Int) (hx : 0 ≤ x) : Ok F (growF c x) := by
  obtain ⟨h1, h2, h3, h4, h5, h6, h7⟩ := h
  refine ⟨?_, ?_, h3, h4, h5, h6, h7⟩ <;> (unfold growF; dsimp only; split <;> omega)
theorem halveF_ok {F : Int} {c : Ctl} (h : Ok F c) : Ok F (halveF c) := by
  obtain ⟨h1, h2, h3, h4, h5, h6, h7⟩ := h
  refine ⟨?_, ?_, h3, h4, h5, h6, h7⟩ <;> (unfold halveF; dsimp only; split <;> omega)
theorem sentF_ok {F : Int} {c : Ctl} (h : Ok F c) (n : Int) : Ok (F + 65536) (sentF c n) := by
  have := bytesF_range n
  obtain ⟨h1, h2, h3, h4, h5, h6, h7⟩ := h
  refine ⟨h1, h2, ?_, ?_, ?_, ?_, h7⟩ <;> (unfold sentF; dsimp only; omega)
theorem Ok.up {F G : Int} {c : Ctl} (h : Ok F c) (hg : F ≤ G) : Ok G c := ⟨h.s1, h.s2, h.f1, by have := h.f2; omega, by have := h.b1; omega, h.b2, h.r1⟩
theorem ackedF_ok {F : Int} {c : Ctl} (h : Ok F c) (s n : Int) : Ok F (ackedF c s n) := by
  have hd := discF_ok h n
  have hb := bytesF_range n
  have ha := avoidBy_range (discF c n) (bytesF n) hd.s1 hb.1 hb.2
  unfold ackedF
  split
  · exact hd
  · split
    · exact growF_ok hd _ hb.1
    · exact growF_ok hd _ ha.1
theorem lostF_ok {F : Int} {c : Ctl} (h : Ok F c) (now s n : Int) : Ok F (lostF c now s n) := by
  have hd := discF_ok h n
  unfold lostF
  split
  · exact hd
  · exact halveF_ok ⟨hd.s1, hd.s2, hd.f1, hd.f2, hd.b1, hd.b2, hd.r1⟩
theorem collF_ok {F : Int} {c : Ctl} (h : Ok F c) : Ok F (collF c) := ⟨by unfold collF; simp, by unfold collF; simp, h.f1, h.f2, h.b1, h.b2, h.r1⟩
theorem doF_ok {F : Int} {c : Ctl} (h : Ok F c) (hF : 0 ≤ F) (p : Prm) : Ok (F + 65536) (doF c p) := by
  unfold doF
  repeat' split
  · exact sentF_ok h _
  · exact sentF_ok h _
  · exact (ackedF_ok h _ _).up (by omega)
  · exact (ackedF_ok h _ _).up (by omega)
  · exact (lostF_ok h _ _ _).up (by omega)
  · exact (discF_ok h _).up (by omega)
  · exact (collF_ok h).up (by omega)
  · exact h.up (by omega)
theorem refillF_ok {F : Int} {c : Ctl} (h : Ok F c) (now rtt : Int) : Ok F (refillF c now rtt) := by
  obtain ⟨h1, h2, h3, h4, h5, h6, h7⟩ := h
  have hr := rttF_range rtt
  have ht : 0 ≤ ticksF c now ∨ ¬ c.refilled < now := by unfold ticksF; split <;> omega
  unfold refillF
  by_cases hn : c.refilled < now
  · rw [if_pos hn]
    have ht : 0 ≤ ticksF c now := by rcases ht with h | h; exact h; exact absurd hn h
    have hm : c.budget ≤ moreF c now rtt := by
      unfold moreF
      have : 0 ≤ ticksF c now * c.size * 5 / (4 * rttF rtt) := Int.ediv_nonneg (by have := Int.mul_nonneg ht (show 0 ≤ c.size by omega); omega) (by omega)
      omega
    have hc : 2048 ≤ capF c ∧ capF c ≤ 16384 := by unfold capF; split <;> omega
    refine ⟨h1, h2, h3, h4, ?_, ?_, ?_⟩
    · dsimp only; split <;> omega
    · dsimp only; split <;> omega
    · dsimp only; omega
  · rw [if_neg hn]; exact ⟨h1, h2, h3, h4, h5, h6, h7⟩
theorem newC_ok : Ok 0 newC := ⟨by decide, by decide, by decide, by decide, by decide, by decide, by decide⟩
set_option maxHeartbeats 4000000 in
theorem do_any (b : Nat) (c : Ctl) (p : Prm) (hp : p.wf) (w : World) (hA : At w b c) (F : Int) (hF : F ≤ 1125899906842624) (hO : Ok F c) :
    Calls Try.prog 11 #[.pointer (some ⟨b, 0, none⟩), .agg p.enc] w fun e w' => e = .returned (.tuple #[]) ∧ To b (doF c p) w w' := by
  obtain ⟨⟨k1, k2⟩, ⟨n1, n2⟩, ⟨t1, t2⟩, ⟨m1, m2⟩⟩ := hp
  have HB : Hid (Blk b c.enc 50 w (w.alloc (.cells p.enc 30))) := Lib.hid ((Blk.start hA).alloc _)
  obtain ⟨o1, o2, o3, o4, o5, o6, o7⟩ := hO
  have hk := pickF_range p.kind 7 (by omega)
  obtain ⟨d, hd⟩ : ∃ d, pickF p.kind 7 = d := ⟨_, rfl⟩
  have CP := Lib.hid (fun w => pick_any p.kind 7 w k1 k2 (by omega) (by omega))
  have EF : Hid (doF c p = if d = 0 then sentF c p.n else if d = 1 then sentF c p.n else if d = 2 then ackedF c p.sent p.n else if d = 3 then ackedF c p.sent p.n
    else if d = 4 then lostF c p.now p.sent p.n else if d = 5 then discF c p.n else if pickF p.n 4 = 0 then collF c else c) := Lib.hid (by rw [← hd]; rfl)
  rw [hd] at CP hk
  clear hd
  unfold Prm.enc at *
  have hd : d = 0 ∨ d = 1 ∨ d = 2 ∨ d = 3 ∨ d = 4 ∨ d = 5 ∨ d = 6 := by omega
  clear hk
  rcases hd with rfl | rfl | rfl | rfl | rfl | rfl | rfl
  case inr.inr.inr.inr.inr.inr =>
    have hk := pickF_range p.n 4 (by omega)
    obtain ⟨d, hd⟩ : ∃ d, pickF p.n 4 = d := ⟨_, rfl⟩
    have CQ := Lib.hid (fun w => pick_any p.n 4 w m1 m2 (by omega) (by omega))
    rw [hd] at CQ EF
    clear hd hk
    by_cases hd : d = 0
    · subst hd
      go_enter Try.func11, Try.ntmps11
      go_wp2_with (first | (go_at_call 15; (first | (with_reducible refine (CP.out _).mono ?_; rintro e w1 ⟨rfl, rfl⟩) | (with_reducible refine (CQ.out _).mono ?_; rintro e w1 ⟨rfl, rfl⟩))) | (go_at_call 18; refine (coll_any b c _ HB.out.1).mono ?_; rintro e w2 ⟨rfl, ht⟩))
      go_returns
      exact ⟨rfl, by rw [EF.out]; exact Blk.trans HB.out ht⟩
    · have hd2 : (d == 0) = false := by simpa using hd
      have EG : Hid (doF c p = c) := Lib.hid (by rw [EF.out]; simp [hd])
      clear hd
      go_enter Try.func11, Try.ntmps11
      go_wp2_with (first | (go_at_call 15; (first | (with_reducible refine (CP.out _).mono ?_; rintro e w1 ⟨rfl, rfl⟩) | (with_reducible refine (CQ.out _).mono ?_; rintro e w1 ⟨rfl, rfl⟩))))
      go_returns
      exact ⟨rfl, by rw [EG.out]; exact HB.out⟩
  all_goals
    go_enter Try.func11, Try.ntmps11
    go_wp2_with (first | (go_at_call 15; with_reducible refine (CP.out _).mono ?_; rintro e w1 ⟨rfl, rfl⟩) | (go_at_call 21; refine (sent_any b c _ _ _ HB.out.1 o3 (by omega) (by omega) (by omega)).mono ?_; rintro e w2 ⟨rfl, ht⟩) | (go_at_call 19; refine (acked_any b c _ _ _ _ HB.out.1 o3 (by omega) o1 o2).mono ?_; rintro e w2 ⟨rfl, ht⟩) | (go_at_call 20; refine (lost_any b c _ _ _ _ HB.out.1 o3 (by omega) o1 o2).mono ?_; rintro e w2 ⟨rfl, ht⟩) | (go_at_call 22; refine (disc_any b c _ _ HB.out.1 o3 (by omega)).mono ?_; rintro e w2 ⟨rfl, ht⟩))
    go_returns
    exact ⟨rfl, by rw [EF.out]; exact Blk.trans HB.out ht⟩
end Go.Proofs.Ytcgcgdbcbmdahaa
