import Derived.Test.YtcgcgdbcbmdahaaG
namespace Go.Proofs.Ytcgcgdbcbmdahaa
open Go.RowKit
set_option maxHeartbeats 4000000 in
theorem refer_any (b : Nat) (c : Ctl) (p : Prm) (hp : p.wf) (w : World) (hA : AtR w b c) (F : Int) (hF : F ≤ 1125899906842624) (hO : Ok F c) :
    Calls Try.prog 12 #[.pointer (some ⟨b, 0, none⟩), .agg p.enc] w fun e w' => e = .returned (.tuple #[]) ∧ ToR b (doF c p) w w' := by
  obtain ⟨⟨k1, k2⟩, ⟨n1, n2⟩, ⟨t1, t2⟩, ⟨m1, m2⟩⟩ := hp
  have HB : Hid (Blk b c.enc 34 w (w.alloc (.cells p.enc 30))) := Lib.hid ((Blk.start hA).alloc _)
  obtain ⟨o1, o2, o3, o4, o5, o6, o7⟩ := hO
  have hk := pickF_range p.kind 7 (by omega)
  obtain ⟨d, hd⟩ : ∃ d, pickF p.kind 7 = d := ⟨_, rfl⟩
  have CP := Lib.hid (fun w => pick_any p.kind 7 w k1 k2 (by omega) (by omega))
  have EF : Hid (doF c p = if d = 0 then sentF c p.n else if d = 1 then sentF c p.n else if d = 2 then ackedF c p.sent p.n else if d = 3 then ackedF c p.sent p.n
    else if d = 4 then lostF c p.now p.sent p.n else if d = 5 then discF c p.n else if pickF p.n 4 = 0 then collF c else c) := Lib.hid (by rw [← hd]; rfl)
  rw [hd] at CP hk
  clear hd
  unfold Prm.enc at *
  have hd : d = 0 ∨ d = 1 ∨ d = 2 ∨ d = 3 ∨ d = 4 ∨ d = 5 ∨ d = 6 := by omega
  clear hk
  rcases hd with rfl | rfl | rfl | rfl | rfl | rfl | rfl
  case inr.inr.inr.inr.inr.inr =>
    have hk := pickF_range p.n 4 (by omega)
    obtain ⟨d, hd⟩ : ∃ d, pickF p.n 4 = d := ⟨_, rfl⟩
    have CQ := Lib.hid (fun w => pick_any p.n 4 w m1 m2 (by omega) (by omega))
    rw [hd] at CQ EF
    clear hd hk
    by_cases hd : d = 0
    · subst hd
      go_enter Try.func12, Try.ntmps12
      go_wp2_with (first | (go_at_call 15; (first | (with_reducible refine (CP.out _).mono ?_; rintro e w1 ⟨rfl, rfl⟩) | (with_reducible refine (CQ.out _).mono ?_; rintro e w1 ⟨rfl, rfl⟩))) | (go_at_call 27; refine (collR_any b c _ HB.out.1).mono ?_; rintro e w2 ⟨rfl, ht⟩))
      go_returns
      exact ⟨rfl, by rw [EF.out]; exact Blk.trans HB.out ht⟩
    · have hd2 : (d == 0) = false := by simpa using hd
      have EG : Hid (doF c p = c) := Lib.hid (by rw [EF.out]; simp [hd])
      clear hd
      go_enter Try.func12, Try.ntmps12
      go_wp2_with (first | (go_at_call 15; (first | (with_reducible refine (CP.out _).mono ?_; rintro e w1 ⟨rfl, rfl⟩) | (with_reducible refine (CQ.out _).mono ?_; rintro e w1 ⟨rfl, rfl⟩))))
      go_returns
      exact ⟨rfl, by rw [EG.out]; exact HB.out⟩
  all_goals
    go_enter Try.func12, Try.ntmps12
    go_wp2_with (first | (go_at_call 15; with_reducible refine (CP.out _).mono ?_; rintro e w1 ⟨rfl, rfl⟩) | (go_at_call 23; refine (sentR_any b c _ _ HB.out.1 o3 (by omega) (by omega) (by omega)).mono ?_; rintro e w2 ⟨rfl, ht⟩) | (go_at_call 24; refine (ackedR_any b c _ _ _ HB.out.1 o3 (by omega) o1 o2).mono ?_; rintro e w2 ⟨rfl, ht⟩) | (go_at_call 25; refine (lostR_any b c _ _ _ _ HB.out.1 o3 (by omega) o1 o2).mono ?_; rintro e w2 ⟨rfl, ht⟩) | (go_at_call 26; refine (discR_any b c _ _ HB.out.1 o3 (by omega)).mono ?_; rintro e w2 ⟨rfl, ht⟩))
    go_returns
    exact ⟨rfl, by rw [EF.out]; exact Blk.trans HB.out ht⟩

theorem at_of_new (w : World) : At (w.alloc (.cells newC.enc 50)) w.heap.size newC := heap_alloc_new w _
theorem nilWindow (w : World) : Calls Try.prog 13 #[.pointer none] w fun e w' => e = .returned (.int .i64 0) ∧ w = w' := by
  go_enter Try.func13, Try.ntmps13
  go_wp2
  go_ret
  exact ⟨rfl, rfl⟩
theorem nilAllows (now n rtt : Int) (w : World) : Calls Try.prog 16 #[.pointer none, .int .i64 now, .int .i64 n, .int .i64 rtt] w fun e w' => e = .returned (.bool false) ∧ w = w' := by
  go_enter Try.func16, Try.ntmps16
  go_wp2
  go_ret
  exact ⟨rfl, rfl⟩
def S1 : Ctl := sentF newC 500
def S2 : Ctl := ackedF S1 0 500
def S3 : Ctl := sentF S2 500
def S4 : Ctl := lostF S3 9 6 500
def S5 : Ctl := lostF S4 9 8 500
def S6 : Ctl := refillF S5 20 10
def S7 : Ctl := refillF S6 20 10
def S8 : Ctl := collF S7
theorem window_c (b : Nat) (c : Ctl) (v : Int) (hv : c.size = v) (w : World) (h : At w b c) : Calls Try.prog 13 #[.pointer (some ⟨b, 0, none⟩)] w fun e w' => e = .returned (.int .i64 v) ∧ w = w' := hv ▸ window_any b c w h
theorem flight_c (b : Nat) (c : Ctl) (v : Int) (hv : c.flight = v) (w : World) (h : At w b c) : Calls Try.prog 14 #[.pointer (some ⟨b, 0, none⟩)] w fun e w' => e = .returned (.int .i64 v) ∧ w = w' := hv ▸ flight_any b c w h
theorem allows_c (b : Nat) (c c' : Ctl) (now n rtt : Int) (v : Bool) (hc : refillF c now rtt = c') (hv : allowsF c' n = v) (w : World) (hA : At w b c) (h1 : 0 ≤ c.flight) (h2 : c.flight ≤ 1125899906842624) (h3 : 1024 ≤ c.size) (h4 : c.size ≤ 65536) (h5 : -1125899906842624 ≤ c.budget) (h6 : c.budget ≤ 1125899906842624)
    (h7 : 0 ≤ c.refilled) (h8 : now ≤ 9223372036854775807) :
    Calls Try.prog 16 #[.pointer (some ⟨b, 0, none⟩), .int .i64 now, .int .i64 n, .int .i64 rtt] w fun e w' => e = .returned (.bool v) ∧ To b c' w w' := by
  have := allows_any b c now n rtt w hA h1 h2 h3 h4 h5 h6 h7 h8
  rw [hc, hv] at this
  exact this
set_option maxRecDepth 100000 in
set_option maxHeartbeats 8000000 in
theorem sane_any (w : World) : Calls Try.prog 8 #[] w fun e w' => e = .returned (.bool true) ∧ Below w.heap.size w w' := by
  go_enter Try.func8, Try.ntmps8
  go_wp2_with (first | (go_at_call 9; refine (new_any _).mono ?_; rintro e w1 ⟨rfl, rfl⟩))
  have hB : Below w.heap.size w (w.alloc (.cells newC.enc 50)) := (Below.refl _ _).alloc (Nat.le_refl _) _
  have hA0 := at_of_new w
  have hb : w.heap.size ≤ w.heap.size := Nat.le_refl _
  obtain ⟨b, hbb⟩ : ∃ b, w.heap.size = b := ⟨_, rfl⟩
  have HB : Hid (∀ w', (w.alloc (.cells newC.enc 50)).grownBy w' (some b) → Below w.heap.size w w') := Lib.hid (fun w' h => below_grown hB h (by omega))
  rw [hbb] at hA0 ⊢
  generalize w.alloc (.cells newC.enc 50) = W0 at *
  have G0 := Lib.hid (To.same hA0)
  clear hbb hb hB hA0
  refine (window_c b newC 4096 rfl _ G0.out.1).mono ?_
  rintro e w1 ⟨rfl, rfl⟩
  go_wp2_with fail
  refine (sent_any b newC 0 500 _ G0.out.1 (by decide) (by decide) (by decide) (by decide)).mono ?_
  rintro e w1 ⟨rfl, h1⟩
  have G1 := Lib.hid (G0.out.trans h1)
  clear h1 G0
  go_wp2_with fail
  refine (flight_c b S1 500 rfl _ G1.out.1).mono ?_
  rintro e w2 ⟨rfl, rfl⟩
  go_wp2_with fail
  refine (acked_any b S1 5 0 500 _ G1.out.1 (by decide) (by decide) (by decide) (by decide)).mono ?_
  rintro e w2 ⟨rfl, h2⟩
  have G2 := Lib.hid (G1.out.trans h2)
  clear h2 G1
  go_wp2_with fail
  refine (window_c b S2 4596 rfl _ G2.out.1).mono ?_
  rintro e w3 ⟨rfl, rfl⟩
  go_wp2_with fail
  refine (sent_any b S2 6 500 _ G2.out.1 (by decide) (by decide) (by decide) (by decide)).mono ?_
  rintro e w3 ⟨rfl, h3⟩
  have G3 := Lib.hid (G2.out.trans h3)
  clear h3 G2
  go_wp2_with fail
  refine (lost_any b S3 9 6 500 _ G3.out.1 (by decide) (by decide) (by decide) (by decide)).mono ?_
  rintro e w4 ⟨rfl, h4⟩
  have G4 := Lib.hid (G3.out.trans h4)
  clear h4 G3
  go_wp2_with fail
  refine (window_c b S4 2298 rfl _ G4.out.1).mono ?_
  rintro e w5 ⟨rfl, rfl⟩
  go_wp2_with fail
  refine (lost_any b S4 9 8 500 _ G4.out.1 (by decide) (by decide) (by decide) (by decide)).mono ?_
  rintro e w5 ⟨rfl, h5⟩
  have G5 := Lib.hid (G4.out.trans h5)
  clear h5 G4
  go_wp2_with fail
  refine (window_c b S5 2298 rfl _ G5.out.1).mono ?_
  rintro e w6 ⟨rfl, rfl⟩
  go_wp2_with fail
  refine (allows_c b S5 S6 20 500 10 true rfl rfl _ G5.out.1 (by decide) (by decide) (by decide) (by decide) (by decide) (by decide) (by decide) (by decide)).mono ?_
  rintro e w6 ⟨rfl, h6⟩
  have G6 := Lib.hid (G5.out.trans h6)
  clear h6 G5
  go_wp2_with fail
  refine (allows_c b S6 S7 20 5000 10 false rfl rfl _ G6.out.1 (by decide) (by decide) (by decide) (by decide) (by decide) (by decide) (by decide) (by decide)).mono ?_
  rintro e w7 ⟨rfl, h7⟩
  have G7 := Lib.hid (G6.out.trans h7)
  clear h7 G6
  go_wp2_with fail
  refine (coll_any b S7 _ G7.out.1).mono ?_
  rintro e w8 ⟨rfl, h8⟩
  have G8 := Lib.hid (G7.out.trans h8)
  clear h8 G7
  have W8 := Lib.hid (window_c b S8 1024 rfl _ G8.out.1)
  have F8 := Lib.hid (flight_c b S8 0 rfl _ G8.out.1)
  go_wp2_with (first | (go_at_call 13; (first | (with_reducible refine W8.out.mono ?_; rintro e w9 ⟨rfl, rfl⟩) | (with_reducible refine (nilWindow _).mono ?_; rintro e w9 ⟨rfl, rfl⟩))) | (go_at_call 14; refine F8.out.mono ?_; rintro e w9 ⟨rfl, rfl⟩) | (go_at_call 16; refine (nilAllows _ _ _ _).mono ?_; rintro e w9 ⟨rfl, rfl⟩))
  go_ret
  exact ⟨rfl, HB.out _ G8.out.2⟩
end Go.Proofs.Ytcgcgdbcbmdahaa
