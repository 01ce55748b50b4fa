import Derived.Test.YtcgcgdbcbmdahaaObj
import Derived.Deep.RegionHeld3
import Derived.BigQuiet
import Derived.Deep.QuietTactic
import Derived.StillTailTactics
import Derived.BigGuardPart
namespace Go.Proofs.Ytcgcgdbcbmdahaa
open Go.RowKit
structure Ctl where
  size : Int
  thr : Int
  flight : Int
  recov : Bool
  since : Int
  budget : Int
  refilled : Int
def Ctl.enc (c : Ctl) : Array Value := #[.int .i64 c.size, .int .i64 c.thr, .int .i64 c.flight, .bool c.recov, .int .i64 c.since, .int .i64 c.budget, .int .i64 c.refilled]
def At (w : World) (b : Nat) (c : Ctl) : Prop := w.heap[b]? = some (.cells c.enc 50 (0, 0))
/-- what a walk wants to know of such a block -/
structure Facts (w : World) (b : Nat) (c : Ctl) : Prop where
  c0 : w.cell? ⟨b, 0, none⟩ = some (.int .i64 c.size)
  c1 : w.cell? ⟨b, 1, none⟩ = some (.int .i64 c.thr)
  c2 : w.cell? ⟨b, 2, none⟩ = some (.int .i64 c.flight)
  c3 : w.cell? ⟨b, 3, none⟩ = some (.bool c.recov)
  c4 : w.cell? ⟨b, 4, none⟩ = some (.int .i64 c.since)
  c5 : w.cell? ⟨b, 5, none⟩ = some (.int .i64 c.budget)
  c6 : w.cell? ⟨b, 6, none⟩ = some (.int .i64 c.refilled)
  fr : ∀ j, w.frozen? ⟨b, j, none⟩ = false
theorem At.facts {w : World} {b : Nat} {c : Ctl} (h : At w b c) : Facts w b c :=
  ⟨cell_whole h 0, cell_whole h 1, cell_whole h 2, cell_whole h 3, cell_whole h 4, cell_whole h 5, cell_whole h 6, frozen_whole h⟩
/-- c became c', and nothing else that lay there has turned -/
def To (b : Nat) (c' : Ctl) (w w' : World) : Prop := At w' b c' ∧ w.grownBy w' (some b)

theorem To.blk {b : Nat} {c : Ctl} {w w' : World} (h : Blk b c.enc 50 w w') : To b c w w' := h
theorem To.set {b : Nat} {c : Ctl} {w : World} (h : At w b c) (i : Nat) (v : Value) (c' : Ctl) (e : c.enc.setIfInBounds i v = c'.enc) : To b c' w (w.setCell ⟨b, i, none⟩ v) :=
  ⟨by unfold At; rw [heap_set v h, e], grown_set (grown_refl _ _) _⟩
theorem To.set2 {b : Nat} {c : Ctl} {w w' : World} (h : To b c w w') (i : Nat) (v : Value) (c' : Ctl) (e : c.enc.setIfInBounds i v = c'.enc) : To b c' w (w'.setCell ⟨b, i, none⟩ v) :=
  ⟨by unfold At; rw [heap_set v h.1, e], grown_set h.2 _⟩
theorem To.trans {b : Nat} {c c' : Ctl} {w w' w'' : World} (h : To b c w w') (k : To b c' w' w'') : To b c' w w'' := ⟨k.1, grown_trans h.2 k.2⟩
theorem To.same {b : Nat} {c : Ctl} {w : World} (h : At w b c) : To b c w w := ⟨h, grown_refl _ _⟩
theorem To.drew {b : Nat} {c : Ctl} {w w' : World} (h : To b c w w') : To b c w w'.drew := ⟨h.1, grown_drew h.2⟩
theorem At.drew {b : Nat} {c : Ctl} {w : World} (h : At w b c) : At w.drew b c := h

def bytesF (n : Int) : Int := if 65536 < (if n < 0 then 0 else n) then 65536 else (if n < 0 then 0 else n)
theorem bytesF_range (n : Int) : 0 ≤ bytesF n ∧ bytesF n ≤ 65536 := by unfold bytesF; split <;> split <;> omega
theorem bytes_any (n : Int) (w : World) : Calls Try.prog 28 #[.int .i64 n] w fun e w' => e = .returned (.int .i64 (bytesF n)) ∧ w = w' := by
  go_enter Try.func28, Try.ntmps28
  go_wp2
  all_goals go_ret
  all_goals refine ⟨?_, rfl⟩
  all_goals (unfold bytesF; simp_all)
  all_goals omega
def growF (c : Ctl) (x : Int) : Ctl := { c with size := if 65536 < c.size + x then 65536 else c.size + x }
theorem grow_any (b : Nat) (c : Ctl) (x : Int) (w : World) (h : At w b c) (h1 : 0 ≤ c.size) (h2 : c.size ≤ 65536) (h3 : 0 ≤ x) (h4 : x ≤ 1000000000) :
    Calls Try.prog 34 #[.pointer (some ⟨b, 0, none⟩), .int .i64 x] w fun e w' => e = .returned (.tuple #[]) ∧ To b (growF c x) w w' := by
  obtain ⟨c0, c1, c2, c3, c4, c5, c6, fr⟩ := h.facts
  by_cases hc : 65536 < c.size + x
  all_goals
    have E := Lib.hid (show growF c x = _ from by unfold growF; first | rw [if_pos hc] | rw [if_neg hc])
    go_enter Try.func34, Try.ntmps34
    go_wp2
    go_returns
    exact ⟨rfl, by rw [E.out]; exact To.set h _ _ _ rfl⟩
theorem slow_any (b : Nat) (c : Ctl) (x : Int) (w : World) (h : At w b c) (h1 : 0 ≤ c.size) (h2 : c.size ≤ 65536) (h3 : 0 ≤ x) (h4 : x ≤ 1000000000) :
    Calls Try.prog 31 #[.pointer (some ⟨b, 0, none⟩), .int .i64 x] w fun e w' => e = .returned (.tuple #[]) ∧ To b (growF c x) w w' := by
  have G := Lib.hid (grow_any b c x w h h1 h2 h3 h4)
  go_enter Try.func31, Try.ntmps31
  go_wp2_with (go_at_call 34; refine G.out.mono ?_; rintro e w' ⟨rfl, ht⟩)
  go_returns
  exact ⟨rfl, ht⟩
def avoidBy (c : Ctl) (x : Int) : Int := if 0 < x then (if 512 * x / c.size < 1 then 1 else 512 * x / c.size) else 512 * x / c.size
theorem avoidBy_range (c : Ctl) (x : Int) (h1 : 1024 ≤ c.size) (h3 : 0 ≤ x) (h4 : x ≤ 65536) : 0 ≤ avoidBy c x ∧ avoidBy c x ≤ 32768 := by
  have a : 0 ≤ 512 * x / c.size := Int.ediv_nonneg (by omega) (by omega)
  have b : 512 * x / c.size ≤ 32768 := by
    apply Int.ediv_le_of_le_mul (by omega)
    have : (32768 : Int) * 1024 ≤ 32768 * c.size := by omega
    omega
  unfold avoidBy; split
  · split <;> omega
  · omega
theorem avoid_any (b : Nat) (c : Ctl) (x : Int) (w : World) (h : At w b c) (h1 : 1024 ≤ c.size) (h2 : c.size ≤ 65536) (h3 : 0 ≤ x) (h4 : x ≤ 65536) :
    Calls Try.prog 32 #[.pointer (some ⟨b, 0, none⟩), .int .i64 x] w fun e w' => e = .returned (.tuple #[]) ∧ To b (growF c (avoidBy c x)) w w' := by
  have hr := avoidBy_range c x h1 h3 h4
  have G := Lib.hid (fun y h3 h4 => grow_any b c y w h (by omega) h2 h3 h4)
  have a : 0 ≤ 512 * x / c.size := Int.ediv_nonneg (by omega) (by omega)
  obtain ⟨c0, c1, c2, c3, c4, c5, c6, fr⟩ := h.facts
  by_cases hx : 0 < x
  · by_cases hy : 512 * x / c.size < 1
    all_goals
      have E := Lib.hid (show avoidBy c x = _ from by unfold avoidBy; exact (if_pos hx).trans (by first | exact if_pos hy | exact if_neg hy))
      rw [E.out] at hr ⊢
      go_enter Try.func32, Try.ntmps32
      go_wp2_with (go_at_call 34; refine (G.out _ (by omega) (by omega)).mono ?_; rintro e w' ⟨rfl, ht⟩)
      go_returns
      exact ⟨rfl, ht⟩
  · have E := Lib.hid (show avoidBy c x = _ from by unfold avoidBy; rw [if_neg hx])
    rw [E.out] at hr ⊢
    go_enter Try.func32, Try.ntmps32
    go_wp2_with (go_at_call 34; refine (G.out _ (by omega) (by omega)).mono ?_; rintro e w' ⟨rfl, ht⟩)
    go_returns
    exact ⟨rfl, ht⟩
def halveF (c : Ctl) : Ctl := { c with size := if c.size / 2 < 1024 then 1024 else c.size / 2, thr := if c.size / 2 < 1024 then 1024 else c.size / 2 }
theorem halve_any (b : Nat) (c : Ctl) (w : World) (h : At w b c) (h1 : 1024 ≤ c.size) (h2 : c.size ≤ 65536) :
    Calls Try.prog 33 #[.pointer (some ⟨b, 0, none⟩)] w fun e w' => e = .returned (.tuple #[]) ∧ To b (halveF c) w w' := by
  obtain ⟨c0, c1, c2, c3, c4, c5, c6, fr⟩ := h.facts
  by_cases hc : c.size / 2 < 1024
  all_goals
    have E := Lib.hid (show halveF c = _ from by unfold halveF; first | rw [if_pos hc] | rw [if_neg hc])
    go_enter Try.func33, Try.ntmps33
    go_wp2
    go_returns
    exact ⟨rfl, by rw [E.out]; exact ((Blk.start h).set 0 _).set 1 _⟩
def oldF (c : Ctl) (sent : Int) : Bool := c.recov && decide (sent ≤ c.since)
theorem old_any (b : Nat) (c : Ctl) (s : Int) (w : World) (h : At w b c) :
    Calls Try.prog 30 #[.pointer (some ⟨b, 0, none⟩), .int .i64 s] w fun e w' => e = .returned (.bool (oldF c s)) ∧ w = w' := by
  obtain ⟨c0, c1, c2, c3, c4, c5, c6, fr⟩ := h.facts
  cases hr : c.recov
  · have E := Lib.hid (show oldF c s = false from by unfold oldF; rw [hr]; rfl)
    rw [hr] at c3
    clear hr
    go_enter Try.func30, Try.ntmps30
    go_wp2
    go_ret
    exact ⟨by rw [E.out]; rfl, rfl⟩
  · have E := Lib.hid (show oldF c s = decide (s ≤ c.since) from by unfold oldF; rw [hr]; rfl)
    rw [hr] at c3
    clear hr
    go_enter Try.func30, Try.ntmps30
    go_wp2
    go_ret
    exact ⟨by rw [E.out]; rfl, rfl⟩
theorem bytes_still (n : Int) (w : World) : Calls Try.prog 28 #[.int .i64 n] w fun e w' => e = .returned (.int .i64 (bytesF n)) ∧ w' = w := (bytes_any n w).mono fun _ _ h => ⟨h.1, h.2.symm⟩
def sentF (c : Ctl) (n : Int) : Ctl := { c with flight := c.flight + bytesF n, budget := c.budget - bytesF n }
set_option maxHeartbeats 1000000 in
theorem sent_any (b : Nat) (c : Ctl) (now n : Int) (w : World) (hA : At w b c) (h1 : 0 ≤ c.flight) (h2 : c.flight ≤ 1125899906842624) (h3 : -1125899906842624 ≤ c.budget) (h4 : c.budget ≤ 1125899906842624) :
    Calls Try.prog 21 #[.pointer (some ⟨b, 0, none⟩), .int .i64 now, .int .i64 n] w fun e w' => e = .returned (.tuple #[]) ∧ To b (sentF c n) w w' := by
  have HB : Hid (Blk b (c.enc.setIfInBounds 2 (.int .i64 (c.flight + bytesF n))) 50 w (w.setCell ⟨b, 2, none⟩ (.int .i64 (c.flight + bytesF n))).drew) := Lib.hid (((Blk.start hA).set 2 _).drew)
  have c5' := (cell_whole HB.out.1 5).trans (rfl : _ = some (Value.int .i64 c.budget))
  have fr' := frozen_whole HB.out.1
  obtain ⟨c0, c1, c2, c3, c4, c5, c6, fr⟩ := hA.facts
  have hb := bytesF_range n
  obtain ⟨hb1, hb2⟩ := hb
  have hs : IntKind.i64.wrap (c.flight + bytesF n) = c.flight + bytesF n := IntWalk.i64_in _ (by omega)
  have hs2 : IntKind.i64.wrap (c.budget - bytesF n) = c.budget - bytesF n := IntWalk.i64_in _ (by omega)
  clear c0 c1 c3 c4 c6
  go_enter Try.func21, Try.ntmps21
  go_wp2
  go_still_tail 9, (by kernel_rfl)
  repeat (first | still_call (bytes_still _ _) | still_step)
  refine wpStill_nil ?_
  go_wp2
  generalize (w.setCell ⟨b, 2, none⟩ (.int .i64 (c.flight + bytesF n))).drew = W1 at *
  go_still_tail 9, (by kernel_rfl)
  repeat (first | still_call (bytes_still _ _) | still_step)
  refine wpStill_nil ?_
  go_wp2
  go_returns
  exact ⟨rfl, (HB.out.set 5 _).drew⟩
def discF (c : Ctl) (n : Int) : Ctl := { c with flight := c.flight - (if c.flight < bytesF n then c.flight else bytesF n) }
set_option maxHeartbeats 1000000 in
theorem disc_any (b : Nat) (c : Ctl) (n : Int) (w : World) (hA : At w b c) (h1 : 0 ≤ c.flight) (h2 : c.flight ≤ 1125899906842624) :
    Calls Try.prog 22 #[.pointer (some ⟨b, 0, none⟩), .int .i64 n] w fun e w' => e = .returned (.tuple #[]) ∧ To b (discF c n) w w' := by
  obtain ⟨c0, c1, c2, c3, c4, c5, c6, fr⟩ := hA.facts
  have hb := bytesF_range n
  obtain ⟨hb1, hb2⟩ := hb
  have E0 := Lib.hid (show discF c n = _ from rfl)
  have hs : IntKind.i64.wrap (c.flight - bytesF n) = c.flight - bytesF n := IntWalk.i64_in _ (by omega)
  by_cases hc : c.flight < bytesF n
  all_goals
    go_enter Try.func22, Try.ntmps22
    go_wp2
    go_still_tail 14, (by kernel_rfl)
    repeat (first | still_call (bytes_still _ _) | still_step)
    refine wpStill_nil ?_
    go_wp2
    go_returns
    refine ⟨rfl, ?_⟩
    unfold discF
    first | rw [if_pos (by omega)] | rw [if_neg (by omega)]
    exact Blk.cast ((Blk.start hA).set 2 _).drew (by simp [Ctl.enc]; try omega)
theorem window_any (b : Nat) (c : Ctl) (w : World) (h : At w b c) : Calls Try.prog 13 #[.pointer (some ⟨b, 0, none⟩)] w fun e w' => e = .returned (.int .i64 c.size) ∧ w = w' := by
  obtain ⟨c0, c1, c2, c3, c4, c5, c6, fr⟩ := h.facts
  go_enter Try.func13, Try.ntmps13
  go_wp2
  go_ret
  exact ⟨rfl, rfl⟩
theorem flight_any (b : Nat) (c : Ctl) (w : World) (h : At w b c) : Calls Try.prog 14 #[.pointer (some ⟨b, 0, none⟩)] w fun e w' => e = .returned (.int .i64 c.flight) ∧ w = w' := by
  obtain ⟨c0, c1, c2, c3, c4, c5, c6, fr⟩ := h.facts
  go_enter Try.func14, Try.ntmps14
  go_wp2
  go_ret
  exact ⟨rfl, rfl⟩
def collF (c : Ctl) : Ctl := { c with size := 1024, recov := false }
theorem coll_any (b : Nat) (c : Ctl) (w : World) (h : At w b c) : Calls Try.prog 18 #[.pointer (some ⟨b, 0, none⟩)] w fun e w' => e = .returned (.tuple #[]) ∧ To b (collF c) w w' := by
  obtain ⟨c0, c1, c2, c3, c4, c5, c6, fr⟩ := h.facts
  go_enter Try.func18, Try.ntmps18
  go_wp2
  go_returns
  exact ⟨rfl, ((Blk.start h).set 0 _).set 3 _⟩
def newC : Ctl := ⟨4096, 65536, 0, false, 0, 1024, 0⟩
theorem new_any (w : World) : Calls Try.prog 9 #[] w fun e w' => e = .returned (.pointer (some ⟨w.heap.size, 0, none⟩)) ∧ w' = w.alloc (.cells newC.enc 50) := by
  go_enter Try.func9, Try.ntmps9
  go_wp2
  go_ret
  exact ⟨rfl, rfl⟩
set_option maxHeartbeats 1000000 in
def lostF (c : Ctl) (now sent n : Int) : Ctl := if oldF (discF c n) sent then discF c n else halveF { discF c n with recov := true, since := now }
theorem discF_flight (c : Ctl) (n : Int) (h1 : 0 ≤ c.flight) : 0 ≤ (discF c n).flight ∧ (discF c n).flight ≤ c.flight := by
  have := bytesF_range n
  unfold discF; dsimp only; split <;> omega
theorem lost_any (b : Nat) (c : Ctl) (now sent n : Int) (w : World) (h : At w b c) (h1 : 0 ≤ c.flight) (h2 : c.flight ≤ 1125899906842624) (h3 : 1024 ≤ c.size) (h4 : c.size ≤ 65536) :
    Calls Try.prog 20 #[.pointer (some ⟨b, 0, none⟩), .int .i64 now, .int .i64 sent, .int .i64 n] w fun e w' => e = .returned (.tuple #[]) ∧ To b (lostF c now sent n) w w' := by
  have D := Lib.hid (disc_any b c n w h h1 h2)
  have OL := Lib.hid (fun w (h : At w b (discF c n)) => old_any b (discF c n) sent w h)
  have HV := Lib.hid (fun w (h : At w b { discF c n with recov := true, since := now }) => halve_any b _ w h h3 h4)
  obtain ⟨o, ho⟩ : ∃ o, oldF (discF c n) sent = o := ⟨_, rfl⟩
  have EL : Hid (lostF c now sent n = if o then discF c n else halveF { discF c n with recov := true, since := now }) := Lib.hid (by unfold lostF; rw [ho])
  rw [ho] at OL
  clear ho
  cases o
  · go_enter Try.func20, Try.ntmps20
    go_wp2_with (first | (go_at_call 22; refine D.out.mono ?_; rintro e w1 ⟨rfl, ht⟩; have OL1 := Lib.hid (OL.out w1 ht.1)) | (go_at_call 30; refine OL1.out.mono ?_; rintro e w2 ⟨rfl, rfl⟩; obtain ⟨c0, c1, c2, c3, c4, c5, c6, fr⟩ := ht.1.facts) | (go_at_call 33; refine (HV.out _ (((Blk.start ht.1).set 3 _).set 4 _).1).mono ?_; rintro e w3 ⟨rfl, ht3⟩))
    go_returns
    refine ⟨rfl, ?_⟩
    rw [EL.out]
    exact (Blk.trans (((Blk.trans (cs := (discF c n).enc) ht (Blk.start ht.1)).set 3 _).set 4 _) ht3 : Blk b _ 50 w w3)
  · go_enter Try.func20, Try.ntmps20
    go_wp2_with (first | (go_at_call 22; refine D.out.mono ?_; rintro e w1 ⟨rfl, ht⟩; have OL1 := Lib.hid (OL.out w1 ht.1)) | (go_at_call 30; refine OL1.out.mono ?_; rintro e w2 ⟨rfl, rfl⟩))
    go_returns
    exact ⟨rfl, by rw [EL.out]; exact ht⟩
end Go.Proofs.Ytcgcgdbcbmdahaa
