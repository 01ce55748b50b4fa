/- Law 25: KeyPhaseOrder's walk. -/
import Derived.Test.YtieiplalnekmkaaPr
namespace Go.Proofs.Ytieiplalnekmkaa.keyPhaseOrder
open Go.RowKit
theorem ref_of {X : Ph} {t g n : Int} (hk : ¬ (g - X.rg = -1 ∧ X.kept = false)) (hc : cfB X (g - X.rg) n = true) : opnR X g n = 251 ∧ opnP X t g n = X := by
  unfold opnR opnP
  rw [if_neg hk, if_pos hc, if_neg hk, if_pos hc]
  exact ⟨rfl, rfl⟩
def o1 (a b : ByteArray) (x : Int) : Ph := { nwP a b with lg := max (-1) x, b0 := x, b1 := x }
def o2 (a b : ByteArray) (x y : Int) : Ph := rnP (opX (o1 a b x) 10 y)
def o3 (a b : ByteArray) (x y n : Int) : Ph := { o2 a b x y with lg := max (o2 a b x y).lg n, a0 := (withF x x n).1, a1 := (withF x x n).2 }
theorem z1 (a b : ByteArray) (x : Int) : opnR (nwP a b) 0 x = 0 ∧ opnP (nwP a b) 10 0 x = o1 a b x := ⟨rfl, rfl⟩
theorem z2 (a b : ByteArray) (x n : Int) (h : n < x) : opnR (o1 a b x) 1 n = 251 ∧ opnP (o1 a b x) 10 1 n = o1 a b x :=
  ref_of (fun hh => absurd hh.1 (show ¬ (1 : Int) - 0 = -1 by decide)) (show decide (n < x) = true by simpa using h)
theorem z3 (a b : ByteArray) (x y : Int) (h : x < y) : opnR (o1 a b x) 1 y = 0 ∧ opnP (o1 a b x) 10 1 y = o2 a b x y := by
  have hk : ¬ (1 - (o1 a b x).rg = -1 ∧ (o1 a b x).kept = false) := fun hh => absurd hh.1 (show ¬ (1 : Int) - 0 = -1 by decide)
  have hc : ¬ cfB (o1 a b x) (1 - (o1 a b x).rg) y = true := by
    have : cfB (o1 a b x) (1 - (o1 a b x).rg) y = decide (y < x) := rfl
    rw [this]; simp; omega
  unfold opnR opnP
  rw [if_neg hk, if_neg hc, if_neg hk, if_neg hc]
  exact ⟨rfl, rfl⟩
theorem z4 (a b : ByteArray) (x y n : Int) (h : y < n) : opnR (o2 a b x y) 0 n = 251 ∧ opnP (o2 a b x y) 11 0 n = o2 a b x y :=
  ref_of (fun hh => absurd hh.2 (show ¬ true = false by decide)) (show decide (y < n) = true by simpa using h)
theorem z5 (a b : ByteArray) (x y n : Int) (h : n < x) : opnR (o2 a b x y) 1 n = 251 ∧ opnP (o2 a b x y) 11 1 n = o2 a b x y :=
  ref_of (fun hh => absurd hh.2 (show ¬ true = false by decide)) (show (true && decide (n < x)) = true by simpa using h)
theorem z6 (a b : ByteArray) (x y n : Int) (h : ¬ y < n) : opnR (o2 a b x y) 0 n = 0 ∧ opnP (o2 a b x y) 11 0 n = o3 a b x y n := by
  have hk : ¬ (0 - (o2 a b x y).rg = -1 ∧ (o2 a b x y).kept = false) := fun hh => absurd hh.2 (show ¬ true = false by decide)
  have hc : ¬ cfB (o2 a b x y) (0 - (o2 a b x y).rg) n = true := by
    have : cfB (o2 a b x y) (0 - (o2 a b x y).rg) n = decide (y < n) := rfl
    rw [this]; simp; omega
  unfold opnR opnP
  rw [if_neg hk, if_neg hc, if_neg hk, if_neg hc]
  exact ⟨rfl, rfl⟩
set_option maxRecDepth 100000 in
set_option maxHeartbeats 8000000 in
theorem walk (s t : ByteArray) (ai bi ci di : Int) (w : World) (hs : s.size ≤ maxLen) (ht : t.size ≤ maxLen) (ha : -9223372036854775808 ≤ ai ∧ ai ≤ 9223372036854775807) (hb : -9223372036854775808 ≤ bi ∧ bi ≤ 9223372036854775807) (hc : -9223372036854775808 ≤ ci ∧ ci ≤ 9223372036854775807) (hd : -9223372036854775808 ≤ di ∧ di ≤ 9223372036854775807) :
    Calls Try.prog 4 #[.string s, .string t, .int .i64 ai, .int .i64 bi, .int .i64 ci, .int .i64 di] w fun e w' => e = .returned (.bool true) ∧ Below w.heap.size w w' := by
  have PA := Lib.hid (fun w => pair_any s t w hs ht)
  have P1 := Lib.hid (fun w => pick_any ai 100 w ha.1 ha.2 (by decide) (by decide))
  have P2 := Lib.hid (fun w => pick_any bi 100 w hb.1 hb.2 (by decide) (by decide))
  have P3 := Lib.hid (fun w => pick_any ci 50 w hc.1 hc.2 (by decide) (by decide))
  have P4 := Lib.hid (fun w => pick_any di 50 w hd.1 hd.2 (by decide) (by decide))
  have P5 := Lib.hid (fun n (h1 : 1 ≤ n) (h2 : n ≤ 1152921504606846976) w => pick_any di n w hd.1 hd.2 h1 h2)
  have R5 := Lib.hid (fun n (h1 : 1 ≤ n) => pickF_range di n h1)
  have r1 := pickF_range ai 100 (by decide)
  have r2 := pickF_range bi 100 (by decide)
  have r3 := pickF_range ci 50 (by decide)
  have r4 := pickF_range di 50 (by decide)
  have sz := Lib.hid (And.intro (sec_size s) (sec_size t))
  generalize sec s = a at *
  generalize sec t = b at *
  generalize pickF ai 100 = p at *
  generalize pickF bi 100 = q at *
  generalize pickF ci 50 = r at *
  generalize pickF di 50 = u at *
  obtain ⟨p0, p1⟩ := r1
  obtain ⟨q0, q1⟩ := r2
  obtain ⟨k0, k1⟩ := r3
  obtain ⟨u0, u1⟩ := r4
  clear hs ht ha hb hc hd
  go_enter Try.func4, Try.ntmps4
  go_wp2_with fail
  refine (sane_any _).mono ?_
  rintro e w1 ⟨rfl, h1⟩
  have H1 := Lib.hid h1
  clear h1
  go_wp2_with fail
  refine (PA.out _).mono ?_
  rintro e w2 ⟨W, bp, bq, rfl, h2⟩
  have H := Lib.hid h2
  have c0 : w2.cell? ⟨W, 0, none⟩ = some (.pointer (some ⟨bp, 0, none⟩)) := at_whole (h2.at (k := W) (List.mem_cons.2 (.inl rfl))) 0 rfl
  clear h2
  go_wp2_with fail
  refine (P1.out _).mono ?_
  rintro e wn ⟨rfl, rfl⟩
  go_wp2_with fail
  refine (P2.out _).mono ?_
  rintro e wn ⟨rfl, rfl⟩
  clear c0
  have C := H.out.opn 10 0 (50 + p) (by first | exact (show (0 : Int) ≤ 0 by decide) | exact (show (0 : Int) ≤ 1 by decide) | exact (show (0 : Int) ≤ 1000000 by decide) | exact (show (1 : Int) ≤ 1000000 by decide) | decide | omega) (by first | exact (show (0 : Int) ≤ 0 by decide) | exact (show (0 : Int) ≤ 1 by decide) | exact (show (0 : Int) ≤ 1000000 by decide) | exact (show (1 : Int) ≤ 1000000 by decide) | decide | omega) (by first | exact (show (0 : Int) ≤ 0 by decide) | exact (show (0 : Int) ≤ 1 by decide) | exact (show (0 : Int) ≤ 1000000 by decide) | exact (show (1 : Int) ≤ 1000000 by decide) | decide | omega) (by first | exact (show (0 : Int) ≤ 0 by decide) | exact (show (0 : Int) ≤ 1 by decide) | exact (show (0 : Int) ≤ 1000000 by decide) | exact (show (1 : Int) ≤ 1000000 by decide) | decide | omega) (by first | exact (show (0 : Int) ≤ 0 by decide) | exact (show (0 : Int) ≤ 1 by decide) | exact (show (0 : Int) ≤ 1000000 by decide) | exact (show (1 : Int) ≤ 1000000 by decide) | decide | omega) (by first | exact (show (0 : Int) ≤ 0 by decide) | exact (show (0 : Int) ≤ 1 by decide) | exact (show (0 : Int) ≤ 1000000 by decide) | exact (show (1 : Int) ≤ 1000000 by decide) | decide | omega) (by first | exact (show (0 : Int) ≤ 0 by decide) | exact (show (0 : Int) ≤ 1 by decide) | exact (show (0 : Int) ≤ 1000000 by decide) | exact (show (1 : Int) ≤ 1000000 by decide) | decide | omega) (by first | exact (show (0 : Int) ≤ 0 by decide) | exact (show (0 : Int) ≤ 1 by decide) | exact (show (0 : Int) ≤ 1000000 by decide) | exact (show (1 : Int) ≤ 1000000 by decide) | decide | omega) (.inr (.inl rfl)) sz.out.2 sz.out.1 (.inl ⟨rfl, rfl⟩) (.inl ⟨rfl, rfl⟩)
  rw [(z1 a b _).1, (z1 a b _).2] at C
  have CC := Lib.hid C
  clear C
  go_wp2_with fail
  refine CC.out.mono ?_
  rintro e wn ⟨rfl, h⟩
  have H2 := Lib.hid h
  clear h H CC
  have H := Lib.hid H2.out
  clear H2
  go_wp2_with fail
  refine (P3.out _).mono ?_
  rintro e wn ⟨rfl, rfl⟩
  have C := H.out.opn 10 1 (50 + p - 1 - r) (by first | exact (show (0 : Int) ≤ 0 by decide) | exact (show (0 : Int) ≤ 1 by decide) | exact (show (0 : Int) ≤ 1000000 by decide) | exact (show (1 : Int) ≤ 1000000 by decide) | decide | omega) (by first | exact (show (0 : Int) ≤ 0 by decide) | exact (show (0 : Int) ≤ 1 by decide) | exact (show (0 : Int) ≤ 1000000 by decide) | exact (show (1 : Int) ≤ 1000000 by decide) | decide | omega) (by first | exact (show (0 : Int) ≤ 0 by decide) | exact (show (0 : Int) ≤ 1 by decide) | exact (show (0 : Int) ≤ 1000000 by decide) | exact (show (1 : Int) ≤ 1000000 by decide) | decide | omega) (by first | exact (show (0 : Int) ≤ 0 by decide) | exact (show (0 : Int) ≤ 1 by decide) | exact (show (0 : Int) ≤ 1000000 by decide) | exact (show (1 : Int) ≤ 1000000 by decide) | decide | omega) (by first | exact (show (0 : Int) ≤ 0 by decide) | exact (show (0 : Int) ≤ 1 by decide) | exact (show (0 : Int) ≤ 1000000 by decide) | exact (show (1 : Int) ≤ 1000000 by decide) | decide | omega) (by first | exact (show (0 : Int) ≤ 0 by decide) | exact (show (0 : Int) ≤ 1 by decide) | exact (show (0 : Int) ≤ 1000000 by decide) | exact (show (1 : Int) ≤ 1000000 by decide) | decide | omega) (by first | exact (show (0 : Int) ≤ 0 by decide) | exact (show (0 : Int) ≤ 1 by decide) | exact (show (0 : Int) ≤ 1000000 by decide) | exact (show (1 : Int) ≤ 1000000 by decide) | decide | omega) (by first | exact (show (0 : Int) ≤ 0 by decide) | exact (show (0 : Int) ≤ 1 by decide) | exact (show (0 : Int) ≤ 1000000 by decide) | exact (show (1 : Int) ≤ 1000000 by decide) | decide | omega) (.inr (.inr rfl)) sz.out.2 sz.out.1 (.inl ⟨rfl, rfl⟩) (.inr (show 0 ≤ 50 + p by omega))
  rw [(z2 a b (50 + p) _ (by omega)).1, (z2 a b (50 + p) _ (by omega)).2] at C
  have CC := Lib.hid C
  clear C
  go_wp2_with fail
  refine CC.out.mono ?_
  rintro e wn ⟨rfl, h⟩
  have H2 := Lib.hid h
  clear h H CC
  have H := Lib.hid H2.out
  clear H2
  have C := H.out.opn 10 1 (50 + p + 1 + q) (by first | exact (show (0 : Int) ≤ 0 by decide) | exact (show (0 : Int) ≤ 1 by decide) | exact (show (0 : Int) ≤ 1000000 by decide) | exact (show (1 : Int) ≤ 1000000 by decide) | decide | omega) (by first | exact (show (0 : Int) ≤ 0 by decide) | exact (show (0 : Int) ≤ 1 by decide) | exact (show (0 : Int) ≤ 1000000 by decide) | exact (show (1 : Int) ≤ 1000000 by decide) | decide | omega) (by first | exact (show (0 : Int) ≤ 0 by decide) | exact (show (0 : Int) ≤ 1 by decide) | exact (show (0 : Int) ≤ 1000000 by decide) | exact (show (1 : Int) ≤ 1000000 by decide) | decide | omega) (by first | exact (show (0 : Int) ≤ 0 by decide) | exact (show (0 : Int) ≤ 1 by decide) | exact (show (0 : Int) ≤ 1000000 by decide) | exact (show (1 : Int) ≤ 1000000 by decide) | decide | omega) (by first | exact (show (0 : Int) ≤ 0 by decide) | exact (show (0 : Int) ≤ 1 by decide) | exact (show (0 : Int) ≤ 1000000 by decide) | exact (show (1 : Int) ≤ 1000000 by decide) | decide | omega) (by first | exact (show (0 : Int) ≤ 0 by decide) | exact (show (0 : Int) ≤ 1 by decide) | exact (show (0 : Int) ≤ 1000000 by decide) | exact (show (1 : Int) ≤ 1000000 by decide) | decide | omega) (by first | exact (show (0 : Int) ≤ 0 by decide) | exact (show (0 : Int) ≤ 1 by decide) | exact (show (0 : Int) ≤ 1000000 by decide) | exact (show (1 : Int) ≤ 1000000 by decide) | decide | omega) (by first | exact (show (0 : Int) ≤ 0 by decide) | exact (show (0 : Int) ≤ 1 by decide) | exact (show (0 : Int) ≤ 1000000 by decide) | exact (show (1 : Int) ≤ 1000000 by decide) | decide | omega) (.inr (.inr rfl)) sz.out.2 sz.out.1 (.inl ⟨rfl, rfl⟩) (.inr (show 0 ≤ 50 + p by omega))
  rw [(z3 a b (50 + p) _ (by omega)).1, (z3 a b (50 + p) _ (by omega)).2] at C
  have CC := Lib.hid C
  clear C
  go_wp2_with fail
  refine CC.out.mono ?_
  rintro e wn ⟨rfl, h⟩
  have H2 := Lib.hid h
  clear h H CC
  have H := Lib.hid H2.out
  clear H2
  go_wp2_with fail
  refine (P3.out _).mono ?_
  rintro e wn ⟨rfl, rfl⟩
  have C := H.out.opn 11 0 (50 + p + 1 + q + 1 + r) (by first | exact (show (0 : Int) ≤ 0 by decide) | exact (show (0 : Int) ≤ 1 by decide) | exact (show (0 : Int) ≤ 1000000 by decide) | exact (show (1 : Int) ≤ 1000000 by decide) | decide | omega) (by first | exact (show (0 : Int) ≤ 0 by decide) | exact (show (0 : Int) ≤ 1 by decide) | exact (show (0 : Int) ≤ 1000000 by decide) | exact (show (1 : Int) ≤ 1000000 by decide) | decide | omega) (by first | exact (show (0 : Int) ≤ 0 by decide) | exact (show (0 : Int) ≤ 1 by decide) | exact (show (0 : Int) ≤ 1000000 by decide) | exact (show (1 : Int) ≤ 1000000 by decide) | decide | omega) (by first | exact (show (0 : Int) ≤ 0 by decide) | exact (show (0 : Int) ≤ 1 by decide) | exact (show (0 : Int) ≤ 1000000 by decide) | exact (show (1 : Int) ≤ 1000000 by decide) | decide | omega) (by first | exact (show (0 : Int) ≤ 0 by decide) | exact (show (0 : Int) ≤ 1 by decide) | exact (show (0 : Int) ≤ 1000000 by decide) | exact (show (1 : Int) ≤ 1000000 by decide) | decide | omega) (by first | exact (show (0 : Int) ≤ 0 by decide) | exact (show (0 : Int) ≤ 1 by decide) | exact (show (0 : Int) ≤ 1000000 by decide) | exact (show (1 : Int) ≤ 1000000 by decide) | decide | omega) (by first | exact (show (0 : Int) ≤ 0 by decide) | exact (show (0 : Int) ≤ 1 by decide) | exact (show (0 : Int) ≤ 1000000 by decide) | exact (show (1 : Int) ≤ 1000000 by decide) | decide | omega) (by first | exact (show (0 : Int) ≤ 0 by decide) | exact (show (0 : Int) ≤ 1 by decide) | exact (show (0 : Int) ≤ 1000000 by decide) | exact (show (1 : Int) ≤ 1000000 by decide) | decide | omega) (.inl rfl) (nx_size b) (nx_size a) (.inr (show 0 ≤ 50 + p by omega)) (.inr (show 0 ≤ 50 + p + 1 + q by omega))
  rw [(z4 a b (50 + p) (50 + p + 1 + q) _ (by omega)).1, (z4 a b (50 + p) (50 + p + 1 + q) _ (by omega)).2] at C
  have CC := Lib.hid C
  clear C
  go_wp2_with fail
  refine CC.out.mono ?_
  rintro e wn ⟨rfl, h⟩
  have H2 := Lib.hid h
  clear h H CC
  have H := Lib.hid H2.out
  clear H2
  go_wp2_with fail
  refine (P4.out _).mono ?_
  rintro e wn ⟨rfl, rfl⟩
  have C := H.out.opn 11 1 (50 + p - 1 - u) (by first | exact (show (0 : Int) ≤ 0 by decide) | exact (show (0 : Int) ≤ 1 by decide) | exact (show (0 : Int) ≤ 1000000 by decide) | exact (show (1 : Int) ≤ 1000000 by decide) | decide | omega) (by first | exact (show (0 : Int) ≤ 0 by decide) | exact (show (0 : Int) ≤ 1 by decide) | exact (show (0 : Int) ≤ 1000000 by decide) | exact (show (1 : Int) ≤ 1000000 by decide) | decide | omega) (by first | exact (show (0 : Int) ≤ 0 by decide) | exact (show (0 : Int) ≤ 1 by decide) | exact (show (0 : Int) ≤ 1000000 by decide) | exact (show (1 : Int) ≤ 1000000 by decide) | decide | omega) (by first | exact (show (0 : Int) ≤ 0 by decide) | exact (show (0 : Int) ≤ 1 by decide) | exact (show (0 : Int) ≤ 1000000 by decide) | exact (show (1 : Int) ≤ 1000000 by decide) | decide | omega) (by first | exact (show (0 : Int) ≤ 0 by decide) | exact (show (0 : Int) ≤ 1 by decide) | exact (show (0 : Int) ≤ 1000000 by decide) | exact (show (1 : Int) ≤ 1000000 by decide) | decide | omega) (by first | exact (show (0 : Int) ≤ 0 by decide) | exact (show (0 : Int) ≤ 1 by decide) | exact (show (0 : Int) ≤ 1000000 by decide) | exact (show (1 : Int) ≤ 1000000 by decide) | decide | omega) (by first | exact (show (0 : Int) ≤ 0 by decide) | exact (show (0 : Int) ≤ 1 by decide) | exact (show (0 : Int) ≤ 1000000 by decide) | exact (show (1 : Int) ≤ 1000000 by decide) | decide | omega) (by first | exact (show (0 : Int) ≤ 0 by decide) | exact (show (0 : Int) ≤ 1 by decide) | exact (show (0 : Int) ≤ 1000000 by decide) | exact (show (1 : Int) ≤ 1000000 by decide) | decide | omega) (.inr (.inl rfl)) (nx_size b) (nx_size a) (.inr (show 0 ≤ 50 + p by omega)) (.inr (show 0 ≤ 50 + p + 1 + q by omega))
  rw [(z5 a b (50 + p) (50 + p + 1 + q) _ (by omega)).1, (z5 a b (50 + p) (50 + p + 1 + q) _ (by omega)).2] at C
  have CC := Lib.hid C
  clear C
  go_wp2_with fail
  refine CC.out.mono ?_
  rintro e wn ⟨rfl, h⟩
  have H2 := Lib.hid h
  clear h H CC
  have H := Lib.hid H2.out
  clear H2
  go_wp2_with fail
  have rr := R5.out (50 + p + 1 + q - (50 + p)) (by omega)
  have PX := Lib.hid (P5.out (50 + p + 1 + q - (50 + p)) (by omega) (by omega))
  generalize pickF di (50 + p + 1 + q - (50 + p)) = v at rr PX
  obtain ⟨v0, v1⟩ := rr
  refine (PX.out _).mono ?_
  rintro e wn ⟨rfl, rfl⟩
  have C := H.out.opn 11 0 (50 + p + v) (by first | exact (show (0 : Int) ≤ 0 by decide) | exact (show (0 : Int) ≤ 1 by decide) | exact (show (0 : Int) ≤ 1000000 by decide) | exact (show (1 : Int) ≤ 1000000 by decide) | decide | omega) (by first | exact (show (0 : Int) ≤ 0 by decide) | exact (show (0 : Int) ≤ 1 by decide) | exact (show (0 : Int) ≤ 1000000 by decide) | exact (show (1 : Int) ≤ 1000000 by decide) | decide | omega) (by first | exact (show (0 : Int) ≤ 0 by decide) | exact (show (0 : Int) ≤ 1 by decide) | exact (show (0 : Int) ≤ 1000000 by decide) | exact (show (1 : Int) ≤ 1000000 by decide) | decide | omega) (by first | exact (show (0 : Int) ≤ 0 by decide) | exact (show (0 : Int) ≤ 1 by decide) | exact (show (0 : Int) ≤ 1000000 by decide) | exact (show (1 : Int) ≤ 1000000 by decide) | decide | omega) (by first | exact (show (0 : Int) ≤ 0 by decide) | exact (show (0 : Int) ≤ 1 by decide) | exact (show (0 : Int) ≤ 1000000 by decide) | exact (show (1 : Int) ≤ 1000000 by decide) | decide | omega) (by first | exact (show (0 : Int) ≤ 0 by decide) | exact (show (0 : Int) ≤ 1 by decide) | exact (show (0 : Int) ≤ 1000000 by decide) | exact (show (1 : Int) ≤ 1000000 by decide) | decide | omega) (by first | exact (show (0 : Int) ≤ 0 by decide) | exact (show (0 : Int) ≤ 1 by decide) | exact (show (0 : Int) ≤ 1000000 by decide) | exact (show (1 : Int) ≤ 1000000 by decide) | decide | omega) (by first | exact (show (0 : Int) ≤ 0 by decide) | exact (show (0 : Int) ≤ 1 by decide) | exact (show (0 : Int) ≤ 1000000 by decide) | exact (show (1 : Int) ≤ 1000000 by decide) | decide | omega) (.inl rfl) (nx_size b) (nx_size a) (.inr (show 0 ≤ 50 + p by omega)) (.inr (show 0 ≤ 50 + p + 1 + q by omega))
  rw [(z6 a b (50 + p) (50 + p + 1 + q) _ (by omega)).1, (z6 a b (50 + p) (50 + p + 1 + q) _ (by omega)).2] at C
  have CC := Lib.hid C
  clear C
  go_wp2_with fail
  refine CC.out.mono ?_
  rintro e wn ⟨rfl, h⟩
  have H2 := Lib.hid h
  clear h H CC
  have H := Lib.hid H2.out
  clear H2
  have C := H.out.gen
  have CC := Lib.hid C
  clear C
  go_wp2_with fail
  refine CC.out.mono ?_
  rintro e wn ⟨rfl, h⟩
  have H2 := Lib.hid h
  clear h H CC
  have H := Lib.hid H2.out
  clear H2
  go_wp2
  go_ret
  exact ⟨rfl, btrans H1.out H.out.bel⟩
open Go.ChangeShapes Go.WideShapes in
set_option maxRecDepth 100000 in
theorem main {H : Type} {enc : TypeId × Value → H} (W : World) (base0 : Nat) (v0 : Value) (d0 : DataW H) (p0 : List MemPlace) (hv0 : Value.okWide Try.prog W .any base0 9 v0) (h0 : DataW.Trod enc Try.prog W 0 (fun _ => true) true 9 v0 d0 p0)
    (base1 : Nat) (v1 : Value) (d1 : DataW H) (p1 : List MemPlace) (hv1 : Value.okWide Try.prog W .any base1 9 v1) (h1 : DataW.Trod enc Try.prog W 0 (fun _ => true) true 9 v1 d1 p1)
    (base2 : Nat) (v2 : Value) (d2 : DataW H) (p2 : List MemPlace) (hv2 : Value.okWide Try.prog W .any base2 3 v2) (h2 : DataW.Trod enc Try.prog W 0 (fun _ => true) true 3 v2 d2 p2)
    (base3 : Nat) (v3 : Value) (d3 : DataW H) (p3 : List MemPlace) (hv3 : Value.okWide Try.prog W .any base3 3 v3) (h3 : DataW.Trod enc Try.prog W 0 (fun _ => true) true 3 v3 d3 p3)
    (base4 : Nat) (v4 : Value) (d4 : DataW H) (p4 : List MemPlace) (hv4 : Value.okWide Try.prog W .any base4 3 v4) (h4 : DataW.Trod enc Try.prog W 0 (fun _ => true) true 3 v4 d4 p4)
    (base5 : Nat) (v5 : Value) (d5 : DataW H) (p5 : List MemPlace) (hv5 : Value.okWide Try.prog W .any base5 3 v5) (h5 : DataW.Trod enc Try.prog W 0 (fun _ => true) true 3 v5 d5 p5) :
    Calls Try.prog 4 #[v0, v1, v2, v3, v4, v5] W fun e w' => e = .returned (.bool true) ∧ Below W.heap.size W w' := by
  obtain ⟨s, rfl, _, _, hs⟩ := Go.ChangeMaps.open_string Try.underlying9 hv0 h0
  obtain ⟨t, rfl, _, _, ht⟩ := Go.ChangeMaps.open_string Try.underlying9 hv1 h1
  obtain ⟨a, rfl, _, _, w2⟩ := open_int Try.underlying3 hv2 h2
  obtain ⟨b, rfl, _, _, w3⟩ := open_int Try.underlying3 hv3 h3
  obtain ⟨c, rfl, _, _, w4⟩ := open_int Try.underlying3 hv4 h4
  obtain ⟨d, rfl, _, _, w5⟩ := open_int Try.underlying3 hv5 h5
  exact walk s t a b c d W hs ht (wf_bounds w2) (wf_bounds w3) (wf_bounds w4) (wf_bounds w5)
end Go.Proofs.Ytieiplalnekmkaa.keyPhaseOrder
