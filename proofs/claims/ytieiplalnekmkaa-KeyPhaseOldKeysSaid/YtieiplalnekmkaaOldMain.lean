/- Law 25: KeyPhaseOldKeys' walk. -/
import Derived.Test.YtieiplalnekmkaaPr
namespace Go.Proofs.Ytieiplalnekmkaa.keyPhaseOldKeys
open Go.RowKit
def o1 (a b : ByteArray) : Ph := { nwP a b with lg := 5, b0 := 5, b1 := 5 }
def o2 (a b : ByteArray) (t : Int) : Ph := { nwP a b with ss := nx a, sg := 1, rs := nx b, rg := 1, a0 := 5, a1 := 5, b0 := 9, b1 := 9, lg := 9, old := b, kept := true, unt := t + 100 }
def o3 (a b : ByteArray) (t : Int) : Ph := { o2 a b t with kept := false }
theorem z0 (a b : ByteArray) : rcvV (nwP a b) 0 5 = .tuple #[(kyF (exF b).h b).val, .int .i64 0, .int .i64 0] := rfl
theorem z1 (a b : ByteArray) (t : Int) : opnR (nwP a b) 0 5 = 0 ∧ opnP (nwP a b) t 0 5 = o1 a b := ⟨rfl, rfl⟩
theorem z2 (a b : ByteArray) (t : Int) : opnR (o1 a b) 1 9 = 0 ∧ opnP (o1 a b) t 1 9 = o2 a b t := ⟨rfl, rfl⟩
theorem z3 (a b : ByteArray) (t n : Int) (h : 100 ≤ n) : tickP (o2 a b t) (t + n) = o3 a b t := if_pos ⟨rfl, show t + 100 ≤ t + n by omega⟩
theorem z4 (a b : ByteArray) (t n : Int) (h : n < 100) : tickP (o2 a b t) (t + n) = o2 a b t := if_neg (fun hh => absurd hh.2 (show ¬ t + 100 ≤ t + n by omega))
theorem z5 (a b : ByteArray) (t : Int) : rcvV (o2 a b t) 0 7 = .tuple #[(kyF (exF b).h b).val, .int .i64 0, .int .i64 0] := rfl
theorem z6 (a b : ByteArray) (t : Int) : rcvV (o3 a b t) 0 7 = .tuple #[.agg #[.string ⟨#[]⟩, .string ⟨#[]⟩, .string ⟨#[]⟩, .string ⟨#[]⟩], .int .i64 0, .int .i64 250] := rfl
theorem z7 (a b : ByteArray) (t : Int) : opnR (o2 a b t) 0 7 = 0 := rfl
theorem z8 (a b : ByteArray) (t : Int) : opnR (o3 a b t) 0 7 = 2 := rfl
set_option maxRecDepth 100000 in
set_option maxHeartbeats 8000000 in
theorem way_late (s t : ByteArray) (ai bi : Int) (w : World) (hs : s.size ≤ maxLen) (ht : t.size ≤ maxLen) (ha : -9223372036854775808 ≤ ai ∧ ai ≤ 9223372036854775807) (hb : -9223372036854775808 ≤ bi ∧ bi ≤ 9223372036854775807) (hn : 100 ≤ pickF bi 200) :
    Calls Try.prog 5 #[.string s, .string t, .int .i64 ai, .int .i64 bi] w fun e w' => e = .returned (.bool true) ∧ Below w.heap.size w w' := by
  have PA := Lib.hid (fun w => pair_any s t w hs ht)
  have P1 := Lib.hid (fun w => pick_any ai 100000 w ha.1 ha.2 (by decide) (by decide))
  have P2 := Lib.hid (fun w => pick_any bi 200 w hb.1 hb.2 (by decide) (by decide))
  have r1 := pickF_range ai 100000 (by decide)
  have r2 := pickF_range bi 200 (by decide)
  have sz := Lib.hid (And.intro (sec_size s) (sec_size t))
  generalize sec s = a at *
  generalize sec t = b at *
  generalize pickF ai 100000 = at0 at *
  generalize pickF bi 200 = n at *
  obtain ⟨p0, p1⟩ := r1
  obtain ⟨n0, n1⟩ := r2
  have HN := Lib.hid hn
  have Z0 := Lib.hid (z0 a b)
  have Z5 := Lib.hid (z5 a b at0)
  obtain ⟨K, hK⟩ : ∃ K, kyF (exF b).h b = K := ⟨_, rfl⟩
  rw [hK] at Z0 Z5
  clear hK
  obtain ⟨K0, K1, K2, K3⟩ := K
  unfold Ky.val Ky.cells at Z0 Z5
  simp only at Z0 Z5
  clear hs ht ha hb hn
  go_enter Try.func5, Try.ntmps5
  go_wp2_with fail
  refine (sane_any _).mono ?_
  rintro e w1 ⟨rfl, h1⟩
  have H1 := Lib.hid h1
  clear h1
  go_wp2_with fail
  refine (PA.out _).mono ?_
  rintro e w2 ⟨W, bp, bq, rfl, h2⟩
  have H := Lib.hid h2
  have c0 : w2.cell? ⟨W, 0, none⟩ = some (.pointer (some ⟨bp, 0, none⟩)) := at_whole (h2.at (k := W) (List.mem_cons.2 (.inl rfl))) 0 rfl
  clear h2
  go_wp2_with fail
  refine (P1.out _).mono ?_
  rintro e wn ⟨rfl, rfl⟩
  go_wp2_with fail
  refine (P2.out _).mono ?_
  rintro e wn ⟨rfl, rfl⟩
  clear c0
  have C := H.out.rcv 0 5 (by first | exact (show (0 : Int) ≤ 0 by decide) | exact (show (0 : Int) ≤ 1 by decide) | exact (show (0 : Int) ≤ 1000000 by decide) | exact (show (1 : Int) ≤ 1000000 by decide) | decide | omega) (by first | exact (show (0 : Int) ≤ 0 by decide) | exact (show (0 : Int) ≤ 1 by decide) | exact (show (0 : Int) ≤ 1000000 by decide) | exact (show (1 : Int) ≤ 1000000 by decide) | decide | omega) (by first | exact (show (0 : Int) ≤ 0 by decide) | exact (show (0 : Int) ≤ 1 by decide) | exact (show (0 : Int) ≤ 1000000 by decide) | exact (show (1 : Int) ≤ 1000000 by decide) | decide | omega) (by first | exact (show (0 : Int) ≤ 0 by decide) | exact (show (0 : Int) ≤ 1 by decide) | exact (show (0 : Int) ≤ 1000000 by decide) | exact (show (1 : Int) ≤ 1000000 by decide) | decide | omega) (by first | exact (show (0 : Int) ≤ 0 by decide) | exact (show (0 : Int) ≤ 1 by decide) | exact (show (0 : Int) ≤ 1000000 by decide) | exact (show (1 : Int) ≤ 1000000 by decide) | decide | omega) (by first | exact (show (0 : Int) ≤ 0 by decide) | exact (show (0 : Int) ≤ 1 by decide) | exact (show (0 : Int) ≤ 1000000 by decide) | exact (show (1 : Int) ≤ 1000000 by decide) | decide | omega) sz.out.2 (fun h => by cases h)
  rw [Z0.out] at C
  have CC := Lib.hid C
  clear C
  go_wp2_with fail
  refine CC.out.mono ?_
  rintro e wa ⟨rfl, h⟩
  have H2 := Lib.hid h
  clear h H CC
  have H := Lib.hid H2.out
  clear H2
  have H2 := Lib.hid (H.out.alloc (.cells #[.string K0, .string K1, .string K2, .string K3] 42))
  clear H
  have H := Lib.hid H2.out
  clear H2
  have C := H.out.opn at0 0 5 (by first | exact (show (0 : Int) ≤ 0 by decide) | exact (show (0 : Int) ≤ 1 by decide) | exact (show (0 : Int) ≤ 1000000 by decide) | exact (show (1 : Int) ≤ 1000000 by decide) | decide | omega) (by first | exact (show (0 : Int) ≤ 0 by decide) | exact (show (0 : Int) ≤ 1 by decide) | exact (show (0 : Int) ≤ 1000000 by decide) | exact (show (1 : Int) ≤ 1000000 by decide) | decide | omega) (by first | exact (show (0 : Int) ≤ 0 by decide) | exact (show (0 : Int) ≤ 1 by decide) | exact (show (0 : Int) ≤ 1000000 by decide) | exact (show (1 : Int) ≤ 1000000 by decide) | decide | omega) (by first | exact (show (0 : Int) ≤ 0 by decide) | exact (show (0 : Int) ≤ 1 by decide) | exact (show (0 : Int) ≤ 1000000 by decide) | exact (show (1 : Int) ≤ 1000000 by decide) | decide | omega) (by first | exact (show (0 : Int) ≤ 0 by decide) | exact (show (0 : Int) ≤ 1 by decide) | exact (show (0 : Int) ≤ 1000000 by decide) | exact (show (1 : Int) ≤ 1000000 by decide) | decide | omega) (by first | exact (show (0 : Int) ≤ 0 by decide) | exact (show (0 : Int) ≤ 1 by decide) | exact (show (0 : Int) ≤ 1000000 by decide) | exact (show (1 : Int) ≤ 1000000 by decide) | decide | omega) (by first | exact (show (0 : Int) ≤ 0 by decide) | exact (show (0 : Int) ≤ 1 by decide) | exact (show (0 : Int) ≤ 1000000 by decide) | exact (show (1 : Int) ≤ 1000000 by decide) | decide | omega) (by first | exact (show (0 : Int) ≤ 0 by decide) | exact (show (0 : Int) ≤ 1 by decide) | exact (show (0 : Int) ≤ 1000000 by decide) | exact (show (1 : Int) ≤ 1000000 by decide) | decide | omega) (.inr (.inl rfl)) sz.out.2 sz.out.1 (.inl ⟨rfl, rfl⟩) (.inl ⟨rfl, rfl⟩)
  rw [(z1 a b at0).1, (z1 a b at0).2] at C
  have CC := Lib.hid C
  clear C
  go_wp2_with fail
  refine CC.out.mono ?_
  rintro e wn ⟨rfl, h⟩
  have H2 := Lib.hid h
  clear h H CC
  have H := Lib.hid H2.out
  clear H2
  have C := H.out.opn at0 1 9 (by first | exact (show (0 : Int) ≤ 0 by decide) | exact (show (0 : Int) ≤ 1 by decide) | exact (show (0 : Int) ≤ 1000000 by decide) | exact (show (1 : Int) ≤ 1000000 by decide) | decide | omega) (by first | exact (show (0 : Int) ≤ 0 by decide) | exact (show (0 : Int) ≤ 1 by decide) | exact (show (0 : Int) ≤ 1000000 by decide) | exact (show (1 : Int) ≤ 1000000 by decide) | decide | omega) (by first | exact (show (0 : Int) ≤ 0 by decide) | exact (show (0 : Int) ≤ 1 by decide) | exact (show (0 : Int) ≤ 1000000 by decide) | exact (show (1 : Int) ≤ 1000000 by decide) | decide | omega) (by first | exact (show (0 : Int) ≤ 0 by decide) | exact (show (0 : Int) ≤ 1 by decide) | exact (show (0 : Int) ≤ 1000000 by decide) | exact (show (1 : Int) ≤ 1000000 by decide) | decide | omega) (by first | exact (show (0 : Int) ≤ 0 by decide) | exact (show (0 : Int) ≤ 1 by decide) | exact (show (0 : Int) ≤ 1000000 by decide) | exact (show (1 : Int) ≤ 1000000 by decide) | decide | omega) (by first | exact (show (0 : Int) ≤ 0 by decide) | exact (show (0 : Int) ≤ 1 by decide) | exact (show (0 : Int) ≤ 1000000 by decide) | exact (show (1 : Int) ≤ 1000000 by decide) | decide | omega) (by first | exact (show (0 : Int) ≤ 0 by decide) | exact (show (0 : Int) ≤ 1 by decide) | exact (show (0 : Int) ≤ 1000000 by decide) | exact (show (1 : Int) ≤ 1000000 by decide) | decide | omega) (by first | exact (show (0 : Int) ≤ 0 by decide) | exact (show (0 : Int) ≤ 1 by decide) | exact (show (0 : Int) ≤ 1000000 by decide) | exact (show (1 : Int) ≤ 1000000 by decide) | decide | omega) (.inr (.inr rfl)) sz.out.2 sz.out.1 (.inl ⟨rfl, rfl⟩) (.inr (show (0 : Int) ≤ 5 by decide))
  rw [(z2 a b at0).1, (z2 a b at0).2] at C
  have CC := Lib.hid C
  clear C
  go_wp2_with fail
  refine CC.out.mono ?_
  rintro e wn ⟨rfl, h⟩
  have H2 := Lib.hid h
  clear h H CC
  have H := Lib.hid H2.out
  clear H2
  have C := H.out.tick (at0 + n)
  rw [z3 a b at0 n HN.out] at C
  have CC := Lib.hid C
  clear C
  go_wp2_with fail
  refine CC.out.mono ?_
  rintro e wn ⟨⟨v, rfl⟩, h⟩
  have H2 := Lib.hid h
  clear h H CC
  have H := Lib.hid H2.out
  clear H2
  have C := H.out.rcv 0 7 (by first | exact (show (0 : Int) ≤ 0 by decide) | exact (show (0 : Int) ≤ 1 by decide) | exact (show (0 : Int) ≤ 1000000 by decide) | exact (show (1 : Int) ≤ 1000000 by decide) | decide | omega) (by first | exact (show (0 : Int) ≤ 0 by decide) | exact (show (0 : Int) ≤ 1 by decide) | exact (show (0 : Int) ≤ 1000000 by decide) | exact (show (1 : Int) ≤ 1000000 by decide) | decide | omega) (by first | exact (show (0 : Int) ≤ 0 by decide) | exact (show (0 : Int) ≤ 1 by decide) | exact (show (0 : Int) ≤ 1000000 by decide) | exact (show (1 : Int) ≤ 1000000 by decide) | decide | omega) (by first | exact (show (0 : Int) ≤ 0 by decide) | exact (show (0 : Int) ≤ 1 by decide) | exact (show (0 : Int) ≤ 1000000 by decide) | exact (show (1 : Int) ≤ 1000000 by decide) | decide | omega) (by first | exact (show (0 : Int) ≤ 0 by decide) | exact (show (0 : Int) ≤ 1 by decide) | exact (show (0 : Int) ≤ 1000000 by decide) | exact (show (1 : Int) ≤ 1000000 by decide) | decide | omega) (by first | exact (show (0 : Int) ≤ 0 by decide) | exact (show (0 : Int) ≤ 1 by decide) | exact (show (0 : Int) ≤ 1000000 by decide) | exact (show (1 : Int) ≤ 1000000 by decide) | decide | omega) (nx_size b) (fun h => by cases h)
  rw [z6] at C
  have CC := Lib.hid C
  clear C
  go_wp2_with fail
  refine CC.out.mono ?_
  rintro e wn ⟨rfl, h⟩
  have H2 := Lib.hid h
  clear h H CC
  have H := Lib.hid H2.out
  clear H2
  have H2 := Lib.hid (H.out.alloc (.cells #[.string ⟨#[]⟩, .string ⟨#[]⟩, .string ⟨#[]⟩, .string ⟨#[]⟩] 42))
  clear H
  have H := Lib.hid H2.out
  clear H2
  have C := Lib.hid (H.out.opn (at0 + n) 0 7 (by first | exact (show (0 : Int) ≤ 0 by decide) | exact (show (0 : Int) ≤ 1 by decide) | exact (show (0 : Int) ≤ 1000000 by decide) | exact (show (1 : Int) ≤ 1000000 by decide) | decide | omega) (by first | exact (show (0 : Int) ≤ 0 by decide) | exact (show (0 : Int) ≤ 1 by decide) | exact (show (0 : Int) ≤ 1000000 by decide) | exact (show (1 : Int) ≤ 1000000 by decide) | decide | omega) (by first | exact (show (0 : Int) ≤ 0 by decide) | exact (show (0 : Int) ≤ 1 by decide) | exact (show (0 : Int) ≤ 1000000 by decide) | exact (show (1 : Int) ≤ 1000000 by decide) | decide | omega) (by first | exact (show (0 : Int) ≤ 0 by decide) | exact (show (0 : Int) ≤ 1 by decide) | exact (show (0 : Int) ≤ 1000000 by decide) | exact (show (1 : Int) ≤ 1000000 by decide) | decide | omega) (by first | exact (show (0 : Int) ≤ 0 by decide) | exact (show (0 : Int) ≤ 1 by decide) | exact (show (0 : Int) ≤ 1000000 by decide) | exact (show (1 : Int) ≤ 1000000 by decide) | decide | omega) (by first | exact (show (0 : Int) ≤ 0 by decide) | exact (show (0 : Int) ≤ 1 by decide) | exact (show (0 : Int) ≤ 1000000 by decide) | exact (show (1 : Int) ≤ 1000000 by decide) | decide | omega) (by first | exact (show (0 : Int) ≤ 0 by decide) | exact (show (0 : Int) ≤ 1 by decide) | exact (show (0 : Int) ≤ 1000000 by decide) | exact (show (1 : Int) ≤ 1000000 by decide) | decide | omega) (by first | exact (show (0 : Int) ≤ 0 by decide) | exact (show (0 : Int) ≤ 1 by decide) | exact (show (0 : Int) ≤ 1000000 by decide) | exact (show (1 : Int) ≤ 1000000 by decide) | decide | omega) (.inl rfl) (nx_size b) (nx_size a) (.inr (show (0 : Int) ≤ 5 by decide)) (.inr (show (0 : Int) ≤ 9 by decide)))
  have hn2 := HN.out
  have e8 := z8 a b at0
  clear Z0 Z5
  go_wp2_with fail
  refine C.out.mono ?_
  rintro e wq ⟨rfl, h⟩
  have HQ := Lib.hid h
  clear h
  rw [e8]
  go_wp2
  go_ret
  exact ⟨rfl, btrans H1.out HQ.out.bel⟩
set_option maxRecDepth 100000 in
set_option maxHeartbeats 8000000 in
theorem way_soon (s t : ByteArray) (ai bi : Int) (w : World) (hs : s.size ≤ maxLen) (ht : t.size ≤ maxLen) (ha : -9223372036854775808 ≤ ai ∧ ai ≤ 9223372036854775807) (hb : -9223372036854775808 ≤ bi ∧ bi ≤ 9223372036854775807) (hn : pickF bi 200 < 100) :
    Calls Try.prog 5 #[.string s, .string t, .int .i64 ai, .int .i64 bi] w fun e w' => e = .returned (.bool true) ∧ Below w.heap.size w w' := by
  have PA := Lib.hid (fun w => pair_any s t w hs ht)
  have P1 := Lib.hid (fun w => pick_any ai 100000 w ha.1 ha.2 (by decide) (by decide))
  have P2 := Lib.hid (fun w => pick_any bi 200 w hb.1 hb.2 (by decide) (by decide))
  have r1 := pickF_range ai 100000 (by decide)
  have r2 := pickF_range bi 200 (by decide)
  have sz := Lib.hid (And.intro (sec_size s) (sec_size t))
  generalize sec s = a at *
  generalize sec t = b at *
  generalize pickF ai 100000 = at0 at *
  generalize pickF bi 200 = n at *
  obtain ⟨p0, p1⟩ := r1
  obtain ⟨n0, n1⟩ := r2
  have HN := Lib.hid hn
  have Z0 := Lib.hid (z0 a b)
  have Z5 := Lib.hid (z5 a b at0)
  obtain ⟨K, hK⟩ : ∃ K, kyF (exF b).h b = K := ⟨_, rfl⟩
  rw [hK] at Z0 Z5
  clear hK
  obtain ⟨K0, K1, K2, K3⟩ := K
  unfold Ky.val Ky.cells at Z0 Z5
  simp only at Z0 Z5
  clear hs ht ha hb hn
  go_enter Try.func5, Try.ntmps5
  go_wp2_with fail
  refine (sane_any _).mono ?_
  rintro e w1 ⟨rfl, h1⟩
  have H1 := Lib.hid h1
  clear h1
  go_wp2_with fail
  refine (PA.out _).mono ?_
  rintro e w2 ⟨W, bp, bq, rfl, h2⟩
  have H := Lib.hid h2
  have c0 : w2.cell? ⟨W, 0, none⟩ = some (.pointer (some ⟨bp, 0, none⟩)) := at_whole (h2.at (k := W) (List.mem_cons.2 (.inl rfl))) 0 rfl
  clear h2
  go_wp2_with fail
  refine (P1.out _).mono ?_
  rintro e wn ⟨rfl, rfl⟩
  go_wp2_with fail
  refine (P2.out _).mono ?_
  rintro e wn ⟨rfl, rfl⟩
  clear c0
  have C := H.out.rcv 0 5 (by first | exact (show (0 : Int) ≤ 0 by decide) | exact (show (0 : Int) ≤ 1 by decide) | exact (show (0 : Int) ≤ 1000000 by decide) | exact (show (1 : Int) ≤ 1000000 by decide) | decide | omega) (by first | exact (show (0 : Int) ≤ 0 by decide) | exact (show (0 : Int) ≤ 1 by decide) | exact (show (0 : Int) ≤ 1000000 by decide) | exact (show (1 : Int) ≤ 1000000 by decide) | decide | omega) (by first | exact (show (0 : Int) ≤ 0 by decide) | exact (show (0 : Int) ≤ 1 by decide) | exact (show (0 : Int) ≤ 1000000 by decide) | exact (show (1 : Int) ≤ 1000000 by decide) | decide | omega) (by first | exact (show (0 : Int) ≤ 0 by decide) | exact (show (0 : Int) ≤ 1 by decide) | exact (show (0 : Int) ≤ 1000000 by decide) | exact (show (1 : Int) ≤ 1000000 by decide) | decide | omega) (by first | exact (show (0 : Int) ≤ 0 by decide) | exact (show (0 : Int) ≤ 1 by decide) | exact (show (0 : Int) ≤ 1000000 by decide) | exact (show (1 : Int) ≤ 1000000 by decide) | decide | omega) (by first | exact (show (0 : Int) ≤ 0 by decide) | exact (show (0 : Int) ≤ 1 by decide) | exact (show (0 : Int) ≤ 1000000 by decide) | exact (show (1 : Int) ≤ 1000000 by decide) | decide | omega) sz.out.2 (fun h => by cases h)
  rw [Z0.out] at C
  have CC := Lib.hid C
  clear C
  go_wp2_with fail
  refine CC.out.mono ?_
  rintro e wa ⟨rfl, h⟩
  have H2 := Lib.hid h
  clear h H CC
  have H := Lib.hid H2.out
  clear H2
  have H2 := Lib.hid (H.out.alloc (.cells #[.string K0, .string K1, .string K2, .string K3] 42))
  clear H
  have H := Lib.hid H2.out
  clear H2
  have C := H.out.opn at0 0 5 (by first | exact (show (0 : Int) ≤ 0 by decide) | exact (show (0 : Int) ≤ 1 by decide) | exact (show (0 : Int) ≤ 1000000 by decide) | exact (show (1 : Int) ≤ 1000000 by decide) | decide | omega) (by first | exact (show (0 : Int) ≤ 0 by decide) | exact (show (0 : Int) ≤ 1 by decide) | exact (show (0 : Int) ≤ 1000000 by decide) | exact (show (1 : Int) ≤ 1000000 by decide) | decide | omega) (by first | exact (show (0 : Int) ≤ 0 by decide) | exact (show (0 : Int) ≤ 1 by decide) | exact (show (0 : Int) ≤ 1000000 by decide) | exact (show (1 : Int) ≤ 1000000 by decide) | decide | omega) (by first | exact (show (0 : Int) ≤ 0 by decide) | exact (show (0 : Int) ≤ 1 by decide) | exact (show (0 : Int) ≤ 1000000 by decide) | exact (show (1 : Int) ≤ 1000000 by decide) | decide | omega) (by first | exact (show (0 : Int) ≤ 0 by decide) | exact (show (0 : Int) ≤ 1 by decide) | exact (show (0 : Int) ≤ 1000000 by decide) | exact (show (1 : Int) ≤ 1000000 by decide) | decide | omega) (by first | exact (show (0 : Int) ≤ 0 by decide) | exact (show (0 : Int) ≤ 1 by decide) | exact (show (0 : Int) ≤ 1000000 by decide) | exact (show (1 : Int) ≤ 1000000 by decide) | decide | omega) (by first | exact (show (0 : Int) ≤ 0 by decide) | exact (show (0 : Int) ≤ 1 by decide) | exact (show (0 : Int) ≤ 1000000 by decide) | exact (show (1 : Int) ≤ 1000000 by decide) | decide | omega) (by first | exact (show (0 : Int) ≤ 0 by decide) | exact (show (0 : Int) ≤ 1 by decide) | exact (show (0 : Int) ≤ 1000000 by decide) | exact (show (1 : Int) ≤ 1000000 by decide) | decide | omega) (.inr (.inl rfl)) sz.out.2 sz.out.1 (.inl ⟨rfl, rfl⟩) (.inl ⟨rfl, rfl⟩)
  rw [(z1 a b at0).1, (z1 a b at0).2] at C
  have CC := Lib.hid C
  clear C
  go_wp2_with fail
  refine CC.out.mono ?_
  rintro e wn ⟨rfl, h⟩
  have H2 := Lib.hid h
  clear h H CC
  have H := Lib.hid H2.out
  clear H2
  have C := H.out.opn at0 1 9 (by first | exact (show (0 : Int) ≤ 0 by decide) | exact (show (0 : Int) ≤ 1 by decide) | exact (show (0 : Int) ≤ 1000000 by decide) | exact (show (1 : Int) ≤ 1000000 by decide) | decide | omega) (by first | exact (show (0 : Int) ≤ 0 by decide) | exact (show (0 : Int) ≤ 1 by decide) | exact (show (0 : Int) ≤ 1000000 by decide) | exact (show (1 : Int) ≤ 1000000 by decide) | decide | omega) (by first | exact (show (0 : Int) ≤ 0 by decide) | exact (show (0 : Int) ≤ 1 by decide) | exact (show (0 : Int) ≤ 1000000 by decide) | exact (show (1 : Int) ≤ 1000000 by decide) | decide | omega) (by first | exact (show (0 : Int) ≤ 0 by decide) | exact (show (0 : Int) ≤ 1 by decide) | exact (show (0 : Int) ≤ 1000000 by decide) | exact (show (1 : Int) ≤ 1000000 by decide) | decide | omega) (by first | exact (show (0 : Int) ≤ 0 by decide) | exact (show (0 : Int) ≤ 1 by decide) | exact (show (0 : Int) ≤ 1000000 by decide) | exact (show (1 : Int) ≤ 1000000 by decide) | decide | omega) (by first | exact (show (0 : Int) ≤ 0 by decide) | exact (show (0 : Int) ≤ 1 by decide) | exact (show (0 : Int) ≤ 1000000 by decide) | exact (show (1 : Int) ≤ 1000000 by decide) | decide | omega) (by first | exact (show (0 : Int) ≤ 0 by decide) | exact (show (0 : Int) ≤ 1 by decide) | exact (show (0 : Int) ≤ 1000000 by decide) | exact (show (1 : Int) ≤ 1000000 by decide) | decide | omega) (by first | exact (show (0 : Int) ≤ 0 by decide) | exact (show (0 : Int) ≤ 1 by decide) | exact (show (0 : Int) ≤ 1000000 by decide) | exact (show (1 : Int) ≤ 1000000 by decide) | decide | omega) (.inr (.inr rfl)) sz.out.2 sz.out.1 (.inl ⟨rfl, rfl⟩) (.inr (show (0 : Int) ≤ 5 by decide))
  rw [(z2 a b at0).1, (z2 a b at0).2] at C
  have CC := Lib.hid C
  clear C
  go_wp2_with fail
  refine CC.out.mono ?_
  rintro e wn ⟨rfl, h⟩
  have H2 := Lib.hid h
  clear h H CC
  have H := Lib.hid H2.out
  clear H2
  have C := H.out.tick (at0 + n)
  rw [z4 a b at0 n HN.out] at C
  have CC := Lib.hid C
  clear C
  go_wp2_with fail
  refine CC.out.mono ?_
  rintro e wn ⟨⟨v, rfl⟩, h⟩
  have H2 := Lib.hid h
  clear h H CC
  have H := Lib.hid H2.out
  clear H2
  have C := H.out.rcv 0 7 (by first | exact (show (0 : Int) ≤ 0 by decide) | exact (show (0 : Int) ≤ 1 by decide) | exact (show (0 : Int) ≤ 1000000 by decide) | exact (show (1 : Int) ≤ 1000000 by decide) | decide | omega) (by first | exact (show (0 : Int) ≤ 0 by decide) | exact (show (0 : Int) ≤ 1 by decide) | exact (show (0 : Int) ≤ 1000000 by decide) | exact (show (1 : Int) ≤ 1000000 by decide) | decide | omega) (by first | exact (show (0 : Int) ≤ 0 by decide) | exact (show (0 : Int) ≤ 1 by decide) | exact (show (0 : Int) ≤ 1000000 by decide) | exact (show (1 : Int) ≤ 1000000 by decide) | decide | omega) (by first | exact (show (0 : Int) ≤ 0 by decide) | exact (show (0 : Int) ≤ 1 by decide) | exact (show (0 : Int) ≤ 1000000 by decide) | exact (show (1 : Int) ≤ 1000000 by decide) | decide | omega) (by first | exact (show (0 : Int) ≤ 0 by decide) | exact (show (0 : Int) ≤ 1 by decide) | exact (show (0 : Int) ≤ 1000000 by decide) | exact (show (1 : Int) ≤ 1000000 by decide) | decide | omega) (by first | exact (show (0 : Int) ≤ 0 by decide) | exact (show (0 : Int) ≤ 1 by decide) | exact (show (0 : Int) ≤ 1000000 by decide) | exact (show (1 : Int) ≤ 1000000 by decide) | decide | omega) (nx_size b) (fun _ => sz.out.2)
  rw [Z5.out] at C
  have CC := Lib.hid C
  clear C
  go_wp2_with fail
  refine CC.out.mono ?_
  rintro e wn ⟨rfl, h⟩
  have H2 := Lib.hid h
  clear h H CC
  have H := Lib.hid H2.out
  clear H2
  have gA := H.out.at (k := wa.heap.size) (o := .cells #[.string K0, .string K1, .string K2, .string K3] 42) (List.mem_cons.2 (.inl rfl))
  have ka0 : wn.cell? ⟨wa.heap.size, 0, none⟩ = some (.string K0) := at_whole gA 0 rfl
  have ka1 : wn.cell? ⟨wa.heap.size, 1, none⟩ = some (.string K1) := at_whole gA 1 rfl
  have ka2 : wn.cell? ⟨wa.heap.size, 2, none⟩ = some (.string K2) := at_whole gA 2 rfl
  have ka3 : wn.cell? ⟨wa.heap.size, 3, none⟩ = some (.string K3) := at_whole gA 3 rfl
  have la : wa.heap.size < wn.heap.size := heap_lt gA
  clear gA
  have H2 := Lib.hid (H.out.alloc (.cells #[.string K0, .string K1, .string K2, .string K3] 42))
  clear H
  have H := Lib.hid H2.out
  clear H2
  have C := Lib.hid (H.out.opn (at0 + n) 0 7 (by first | exact (show (0 : Int) ≤ 0 by decide) | exact (show (0 : Int) ≤ 1 by decide) | exact (show (0 : Int) ≤ 1000000 by decide) | exact (show (1 : Int) ≤ 1000000 by decide) | decide | omega) (by first | exact (show (0 : Int) ≤ 0 by decide) | exact (show (0 : Int) ≤ 1 by decide) | exact (show (0 : Int) ≤ 1000000 by decide) | exact (show (1 : Int) ≤ 1000000 by decide) | decide | omega) (by first | exact (show (0 : Int) ≤ 0 by decide) | exact (show (0 : Int) ≤ 1 by decide) | exact (show (0 : Int) ≤ 1000000 by decide) | exact (show (1 : Int) ≤ 1000000 by decide) | decide | omega) (by first | exact (show (0 : Int) ≤ 0 by decide) | exact (show (0 : Int) ≤ 1 by decide) | exact (show (0 : Int) ≤ 1000000 by decide) | exact (show (1 : Int) ≤ 1000000 by decide) | decide | omega) (by first | exact (show (0 : Int) ≤ 0 by decide) | exact (show (0 : Int) ≤ 1 by decide) | exact (show (0 : Int) ≤ 1000000 by decide) | exact (show (1 : Int) ≤ 1000000 by decide) | decide | omega) (by first | exact (show (0 : Int) ≤ 0 by decide) | exact (show (0 : Int) ≤ 1 by decide) | exact (show (0 : Int) ≤ 1000000 by decide) | exact (show (1 : Int) ≤ 1000000 by decide) | decide | omega) (by first | exact (show (0 : Int) ≤ 0 by decide) | exact (show (0 : Int) ≤ 1 by decide) | exact (show (0 : Int) ≤ 1000000 by decide) | exact (show (1 : Int) ≤ 1000000 by decide) | decide | omega) (by first | exact (show (0 : Int) ≤ 0 by decide) | exact (show (0 : Int) ≤ 1 by decide) | exact (show (0 : Int) ≤ 1000000 by decide) | exact (show (1 : Int) ≤ 1000000 by decide) | decide | omega) (.inl rfl) (nx_size b) (nx_size a) (.inr (show (0 : Int) ≤ 5 by decide)) (.inr (show (0 : Int) ≤ 9 by decide)))
  have hn2 := HN.out
  have hn3 : decide (100 ≤ n) = false := by simp; omega
  have e7 := z7 a b at0
  clear Z0 Z5
  go_wp2_with fail
  refine C.out.mono ?_
  rintro e wq ⟨rfl, h⟩
  have HQ := Lib.hid h
  clear h
  rw [e7]
  go_wp2
  go_ret
  exact ⟨rfl, btrans H1.out HQ.out.bel⟩
theorem walk (s t : ByteArray) (ai bi : Int) (w : World) (hs : s.size ≤ maxLen) (ht : t.size ≤ maxLen) (ha : -9223372036854775808 ≤ ai ∧ ai ≤ 9223372036854775807) (hb : -9223372036854775808 ≤ bi ∧ bi ≤ 9223372036854775807) :
    Calls Try.prog 5 #[.string s, .string t, .int .i64 ai, .int .i64 bi] w fun e w' => e = .returned (.bool true) ∧ Below w.heap.size w w' := by
  by_cases h : pickF bi 200 < 100
  · exact way_soon s t ai bi w hs ht ha hb h
  · exact way_late s t ai bi w hs ht ha hb (by omega)
open Go.ChangeShapes Go.WideShapes in
set_option maxRecDepth 100000 in
theorem main {H : Type} {enc : TypeId × Value → H} (W : World) (base0 : Nat) (v0 : Value) (d0 : DataW H) (p0 : List MemPlace) (hv0 : Value.okWide Try.prog W .any base0 9 v0) (h0 : DataW.Trod enc Try.prog W 0 (fun _ => true) true 9 v0 d0 p0)
    (base1 : Nat) (v1 : Value) (d1 : DataW H) (p1 : List MemPlace) (hv1 : Value.okWide Try.prog W .any base1 9 v1) (h1 : DataW.Trod enc Try.prog W 0 (fun _ => true) true 9 v1 d1 p1)
    (base2 : Nat) (v2 : Value) (d2 : DataW H) (p2 : List MemPlace) (hv2 : Value.okWide Try.prog W .any base2 3 v2) (h2 : DataW.Trod enc Try.prog W 0 (fun _ => true) true 3 v2 d2 p2)
    (base3 : Nat) (v3 : Value) (d3 : DataW H) (p3 : List MemPlace) (hv3 : Value.okWide Try.prog W .any base3 3 v3) (h3 : DataW.Trod enc Try.prog W 0 (fun _ => true) true 3 v3 d3 p3) :
    Calls Try.prog 5 #[v0, v1, v2, v3] W fun e w' => e = .returned (.bool true) ∧ Below W.heap.size W w' := by
  obtain ⟨s, rfl, _, _, hs⟩ := Go.ChangeMaps.open_string Try.underlying9 hv0 h0
  obtain ⟨t, rfl, _, _, ht⟩ := Go.ChangeMaps.open_string Try.underlying9 hv1 h1
  obtain ⟨a, rfl, _, _, w2⟩ := open_int Try.underlying3 hv2 h2
  obtain ⟨b, rfl, _, _, w3⟩ := open_int Try.underlying3 hv3 h3
  exact walk s t a b W hs ht (wf_bounds w2) (wf_bounds w3)
end Go.Proofs.Ytieiplalnekmkaa.keyPhaseOldKeys
