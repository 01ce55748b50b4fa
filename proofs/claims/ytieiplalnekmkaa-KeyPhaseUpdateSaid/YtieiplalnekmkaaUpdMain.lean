/- Law 25: KeyPhaseUpdate's walk. -/
import Derived.Test.YtieiplalnekmkaaPr
namespace Go.Proofs.Ytieiplalnekmkaa.keyPhaseUpdate
open Go.RowKit
def u1 (a b : ByteArray) (f : Int) : Ph := { nwP a b with sf := f }
def u2 (a b : ByteArray) (f : Int) : Ph := { nwP a b with sf := f, sc := true }
def u3 (a b : ByteArray) : Ph := { pa3 a b with sf := 500, sc := true }
def u4 (a b : ByteArray) : Ph := { pa3 a b with sf := 500, sc := true, lg := 3, old := b, kept := true, unt := 101, b0 := 3, b1 := 3, rs := nx b, rg := 1 }
def u5 (a b : ByteArray) : Ph := { pa3 a b with ss := nx (nx a), sg := 2, lg := 3, old := b, kept := true, unt := 101, b0 := 3, b1 := 3, rs := nx b, rg := 1 }
theorem y_a (a b : ByteArray) (p : Int) : ackedP (nwP a b) p = nwP a b := rfl
theorem y_s (a b : ByteArray) (f : Int) (h : 0 ≤ f) : sentP (nwP a b) f = u1 a b f := if_pos ⟨h, show (-1 : Int) < 0 by decide⟩
theorem y_s2 (a b : ByteArray) (f g : Int) (h : 0 ≤ f) : sentP (u1 a b f) g = u1 a b f := if_neg (fun hh => absurd hh.2 (show ¬ f < 0 by omega))
theorem y_a1 (a b : ByteArray) (f p : Int) (h : 0 ≤ f) (h2 : f ≤ p) : ackedP (u1 a b f) p = u2 a b f := if_pos ⟨h, h2⟩
theorem y_a2 (a b : ByteArray) (f p : Int) (h2 : ¬ f ≤ p) : ackedP (u1 a b f) p = u1 a b f := if_neg (fun hh => h2 hh.2)
theorem y_u1 (a b : ByteArray) (f : Int) : updR (u1 a b f) = 251 ∧ updP (u1 a b f) = u1 a b f := ⟨rfl, rfl⟩
theorem y_u2 (a b : ByteArray) (f : Int) : updR (u2 a b f) = 0 ∧ updP (u2 a b f) = pa3 a b := ⟨rfl, rfl⟩
theorem y_3 (a b : ByteArray) : ackedP (sentP (pa3 a b) 500) 500 = u3 a b := rfl
theorem y_o (a b : ByteArray) : opnR (u3 a b) 1 3 = 0 ∧ opnP (u3 a b) 1 1 3 = u4 a b := ⟨rfl, rfl⟩
theorem y_u3 (a b : ByteArray) : updR (u3 a b) = 251 ∧ updP (u3 a b) = u3 a b := ⟨rfl, rfl⟩
theorem y_u4 (a b : ByteArray) : updR (u4 a b) = 0 ∧ updP (u4 a b) = u5 a b := ⟨rfl, rfl⟩
set_option maxRecDepth 100000 in
set_option maxHeartbeats 8000000 in
theorem way_low (s t : ByteArray) (fi ac : Int) (an : Bool) (w : World) (hs : s.size ≤ maxLen) (ht : t.size ≤ maxLen) (hf : -9223372036854775808 ≤ fi ∧ fi ≤ 9223372036854775807) (hc : -9223372036854775808 ≤ ac ∧ ac ≤ 9223372036854775807) (hlt : pickF ac 200 < pickF fi 100) :
    Calls Try.prog 3 #[.string s, .string t, .int .i64 fi, .int .i64 ac, .bool an] w fun e w' => e = .returned (.bool true) ∧ Below w.heap.size w w' := by
  have PA := Lib.hid (fun w => pair_any s t w hs ht)
  have PF := Lib.hid (fun w => pick_any fi 100 w hf.1 hf.2 (by decide) (by decide))
  have PC := Lib.hid (fun w => pick_any ac 200 w hc.1 hc.2 (by decide) (by decide))
  have rf := pickF_range fi 100 (by decide)
  have rc := pickF_range ac 200 (by decide)
  have sz := Lib.hid (And.intro (sec_size s) (sec_size t))
  generalize sec s = a at *
  generalize sec t = b at *
  generalize pickF fi 100 = f at *
  generalize pickF ac 200 = k at *
  obtain ⟨f0, f1⟩ := rf
  obtain ⟨k0, k1⟩ := rc
  clear hs ht hf hc
  go_enter Try.func3, Try.ntmps3
  go_wp2_with fail
  refine (sane_any _).mono ?_
  rintro e w1 ⟨rfl, h1⟩
  have H1 := Lib.hid h1
  clear h1
  go_wp2_with fail
  refine (PA.out _).mono ?_
  rintro e w2 ⟨W, bp, bq, rfl, h2⟩
  have H := Lib.hid h2
  have c0 : w2.cell? ⟨W, 0, none⟩ = some (.pointer (some ⟨bp, 0, none⟩)) := at_whole (h2.at (k := W) (List.mem_cons.2 (.inl rfl))) 0 rfl
  clear h2
  go_wp2_with fail
  refine (PF.out _).mono ?_
  rintro e w3 ⟨rfl, rfl⟩
  go_wp2_with fail
  refine (PC.out _).mono ?_
  rintro e w4 ⟨rfl, rfl⟩
  clear c0
  have C := H.out.upd sz.out.1 (by first | exact (show (0 : Int) ≤ 0 by decide) | exact (show (0 : Int) ≤ 1 by decide) | exact (show (0 : Int) ≤ 1000000 by decide) | exact (show (1 : Int) ≤ 1000000 by decide) | decide) (by first | exact (show (0 : Int) ≤ 0 by decide) | exact (show (0 : Int) ≤ 1 by decide) | exact (show (0 : Int) ≤ 1000000 by decide) | exact (show (1 : Int) ≤ 1000000 by decide) | decide)
  rw [x_u0.1, x_u0.2] at C
  have CC := Lib.hid C
  clear C
  go_wp2_with fail
  refine CC.out.mono ?_
  rintro e wn ⟨rfl, h⟩
  have H2 := Lib.hid h
  clear h H CC
  have H := Lib.hid H2.out
  clear H2
  have C := H.out.acked k
  rw [y_a] at C
  have CC := Lib.hid C
  clear C
  go_wp2_with fail
  refine CC.out.mono ?_
  rintro e wn ⟨⟨v, rfl⟩, h⟩
  have H2 := Lib.hid h
  clear h H CC
  have H := Lib.hid H2.out
  clear H2
  have C := H.out.upd sz.out.1 (by first | exact (show (0 : Int) ≤ 0 by decide) | exact (show (0 : Int) ≤ 1 by decide) | exact (show (0 : Int) ≤ 1000000 by decide) | exact (show (1 : Int) ≤ 1000000 by decide) | decide) (by first | exact (show (0 : Int) ≤ 0 by decide) | exact (show (0 : Int) ≤ 1 by decide) | exact (show (0 : Int) ≤ 1000000 by decide) | exact (show (1 : Int) ≤ 1000000 by decide) | decide)
  rw [x_u0.1, x_u0.2] at C
  have CC := Lib.hid C
  clear C
  go_wp2_with fail
  refine CC.out.mono ?_
  rintro e wn ⟨rfl, h⟩
  have H2 := Lib.hid h
  clear h H CC
  have H := Lib.hid H2.out
  clear H2
  have C := H.out.sent f
  rw [y_s a b f f0] at C
  have CC := Lib.hid C
  clear C
  go_wp2_with fail
  refine CC.out.mono ?_
  rintro e wn ⟨⟨v, rfl⟩, h⟩
  have H2 := Lib.hid h
  clear h H CC
  have H := Lib.hid H2.out
  clear H2
  have C := H.out.sent (f + 5)
  rw [y_s2 a b f (f + 5) f0] at C
  have CC := Lib.hid C
  clear C
  go_wp2_with fail
  refine CC.out.mono ?_
  rintro e wn ⟨⟨v, rfl⟩, h⟩
  have H2 := Lib.hid h
  clear h H CC
  have H := Lib.hid H2.out
  clear H2
  have hn := Lib.hid (show ¬ f ≤ k by omega)
  have C := H.out.acked k
  rw [y_a2 a b f k hn.out] at C
  have CC := Lib.hid C
  clear C
  go_wp2_with fail
  refine CC.out.mono ?_
  rintro e wn ⟨⟨v, rfl⟩, h⟩
  have H2 := Lib.hid h
  clear h H CC
  have H := Lib.hid H2.out
  clear H2
  have C := H.out.upd sz.out.1 (by first | exact (show (0 : Int) ≤ 0 by decide) | exact (show (0 : Int) ≤ 1 by decide) | exact (show (0 : Int) ≤ 1000000 by decide) | exact (show (1 : Int) ≤ 1000000 by decide) | decide) (by first | exact (show (0 : Int) ≤ 0 by decide) | exact (show (0 : Int) ≤ 1 by decide) | exact (show (0 : Int) ≤ 1000000 by decide) | exact (show (1 : Int) ≤ 1000000 by decide) | decide)
  rw [(y_u1 a b f).1, (y_u1 a b f).2] at C
  have CC := Lib.hid C
  clear C
  go_wp2_with fail
  refine CC.out.mono ?_
  rintro e wn ⟨rfl, h⟩
  have H2 := Lib.hid h
  clear h H CC
  have H := Lib.hid H2.out
  clear H2
  have C := H.out.gen
  have CC := Lib.hid C
  clear C
  go_wp2_with fail
  refine CC.out.mono ?_
  rintro e wn ⟨rfl, h⟩
  have H2 := Lib.hid h
  clear h H CC
  have H := Lib.hid H2.out
  clear H2
  go_wp2
  go_ret
  exact ⟨rfl, btrans H1.out H.out.bel⟩
set_option maxRecDepth 100000 in
set_option maxHeartbeats 8000000 in
theorem way_yes (s t : ByteArray) (fi ac : Int) (w : World) (hs : s.size ≤ maxLen) (ht : t.size ≤ maxLen) (hf : -9223372036854775808 ≤ fi ∧ fi ≤ 9223372036854775807) (hc : -9223372036854775808 ≤ ac ∧ ac ≤ 9223372036854775807) (hge : pickF fi 100 ≤ pickF ac 200) :
    Calls Try.prog 3 #[.string s, .string t, .int .i64 fi, .int .i64 ac, .bool true] w fun e w' => e = .returned (.bool true) ∧ Below w.heap.size w w' := by
  have PA := Lib.hid (fun w => pair_any s t w hs ht)
  have PF := Lib.hid (fun w => pick_any fi 100 w hf.1 hf.2 (by decide) (by decide))
  have PC := Lib.hid (fun w => pick_any ac 200 w hc.1 hc.2 (by decide) (by decide))
  have rf := pickF_range fi 100 (by decide)
  have rc := pickF_range ac 200 (by decide)
  have sz := Lib.hid (And.intro (sec_size s) (sec_size t))
  generalize sec s = a at *
  generalize sec t = b at *
  generalize pickF fi 100 = f at *
  generalize pickF ac 200 = k at *
  obtain ⟨f0, f1⟩ := rf
  obtain ⟨k0, k1⟩ := rc
  clear hs ht hf hc
  go_enter Try.func3, Try.ntmps3
  go_wp2_with fail
  refine (sane_any _).mono ?_
  rintro e w1 ⟨rfl, h1⟩
  have H1 := Lib.hid h1
  clear h1
  go_wp2_with fail
  refine (PA.out _).mono ?_
  rintro e w2 ⟨W, bp, bq, rfl, h2⟩
  have H := Lib.hid h2
  have c0 : w2.cell? ⟨W, 0, none⟩ = some (.pointer (some ⟨bp, 0, none⟩)) := at_whole (h2.at (k := W) (List.mem_cons.2 (.inl rfl))) 0 rfl
  clear h2
  go_wp2_with fail
  refine (PF.out _).mono ?_
  rintro e w3 ⟨rfl, rfl⟩
  go_wp2_with fail
  refine (PC.out _).mono ?_
  rintro e w4 ⟨rfl, rfl⟩
  clear c0
  have C := H.out.upd sz.out.1 (by first | exact (show (0 : Int) ≤ 0 by decide) | exact (show (0 : Int) ≤ 1 by decide) | exact (show (0 : Int) ≤ 1000000 by decide) | exact (show (1 : Int) ≤ 1000000 by decide) | decide) (by first | exact (show (0 : Int) ≤ 0 by decide) | exact (show (0 : Int) ≤ 1 by decide) | exact (show (0 : Int) ≤ 1000000 by decide) | exact (show (1 : Int) ≤ 1000000 by decide) | decide)
  rw [x_u0.1, x_u0.2] at C
  have CC := Lib.hid C
  clear C
  go_wp2_with fail
  refine CC.out.mono ?_
  rintro e wn ⟨rfl, h⟩
  have H2 := Lib.hid h
  clear h H CC
  have H := Lib.hid H2.out
  clear H2
  have C := H.out.acked k
  rw [y_a] at C
  have CC := Lib.hid C
  clear C
  go_wp2_with fail
  refine CC.out.mono ?_
  rintro e wn ⟨⟨v, rfl⟩, h⟩
  have H2 := Lib.hid h
  clear h H CC
  have H := Lib.hid H2.out
  clear H2
  have C := H.out.upd sz.out.1 (by first | exact (show (0 : Int) ≤ 0 by decide) | exact (show (0 : Int) ≤ 1 by decide) | exact (show (0 : Int) ≤ 1000000 by decide) | exact (show (1 : Int) ≤ 1000000 by decide) | decide) (by first | exact (show (0 : Int) ≤ 0 by decide) | exact (show (0 : Int) ≤ 1 by decide) | exact (show (0 : Int) ≤ 1000000 by decide) | exact (show (1 : Int) ≤ 1000000 by decide) | decide)
  rw [x_u0.1, x_u0.2] at C
  have CC := Lib.hid C
  clear C
  go_wp2_with fail
  refine CC.out.mono ?_
  rintro e wn ⟨rfl, h⟩
  have H2 := Lib.hid h
  clear h H CC
  have H := Lib.hid H2.out
  clear H2
  have C := H.out.sent f
  rw [y_s a b f f0] at C
  have CC := Lib.hid C
  clear C
  go_wp2_with fail
  refine CC.out.mono ?_
  rintro e wn ⟨⟨v, rfl⟩, h⟩
  have H2 := Lib.hid h
  clear h H CC
  have H := Lib.hid H2.out
  clear H2
  have C := H.out.sent (f + 5)
  rw [y_s2 a b f (f + 5) f0] at C
  have CC := Lib.hid C
  clear C
  go_wp2_with fail
  refine CC.out.mono ?_
  rintro e wn ⟨⟨v, rfl⟩, h⟩
  have H2 := Lib.hid h
  clear h H CC
  have H := Lib.hid H2.out
  clear H2
  have hn := Lib.hid hge
  have C := H.out.acked k
  rw [y_a1 a b f k f0 hn.out] at C
  have CC := Lib.hid C
  clear C
  go_wp2_with fail
  refine CC.out.mono ?_
  rintro e wn ⟨⟨v, rfl⟩, h⟩
  have H2 := Lib.hid h
  clear h H CC
  have H := Lib.hid H2.out
  clear H2
  have C := H.out.upd sz.out.1 (by first | exact (show (0 : Int) ≤ 0 by decide) | exact (show (0 : Int) ≤ 1 by decide) | exact (show (0 : Int) ≤ 1000000 by decide) | exact (show (1 : Int) ≤ 1000000 by decide) | decide) (by first | exact (show (0 : Int) ≤ 0 by decide) | exact (show (0 : Int) ≤ 1 by decide) | exact (show (0 : Int) ≤ 1000000 by decide) | exact (show (1 : Int) ≤ 1000000 by decide) | decide)
  rw [(y_u2 a b f).1, (y_u2 a b f).2] at C
  have CC := Lib.hid C
  clear C
  go_wp2_with fail
  refine CC.out.mono ?_
  rintro e wn ⟨rfl, h⟩
  have H2 := Lib.hid h
  clear h H CC
  have H := Lib.hid H2.out
  clear H2
  have C := H.out.sent 500
  have CC := Lib.hid C
  clear C
  go_wp2_with fail
  refine CC.out.mono ?_
  rintro e wn ⟨⟨v, rfl⟩, h⟩
  have H2 := Lib.hid h
  clear h H CC
  have H := Lib.hid H2.out
  clear H2
  have C := H.out.acked 500
  rw [y_3] at C
  have CC := Lib.hid C
  clear C
  go_wp2_with fail
  refine CC.out.mono ?_
  rintro e wn ⟨⟨v, rfl⟩, h⟩
  have H2 := Lib.hid h
  clear h H CC
  have H := Lib.hid H2.out
  clear H2
  have C := H.out.opn 1 1 3 (by first | exact (show (0 : Int) ≤ 0 by decide) | exact (show (0 : Int) ≤ 1 by decide) | exact (show (0 : Int) ≤ 1000000 by decide) | exact (show (1 : Int) ≤ 1000000 by decide) | decide) (by first | exact (show (0 : Int) ≤ 0 by decide) | exact (show (0 : Int) ≤ 1 by decide) | exact (show (0 : Int) ≤ 1000000 by decide) | exact (show (1 : Int) ≤ 1000000 by decide) | decide) (by first | exact (show (0 : Int) ≤ 0 by decide) | exact (show (0 : Int) ≤ 1 by decide) | exact (show (0 : Int) ≤ 1000000 by decide) | exact (show (1 : Int) ≤ 1000000 by decide) | decide) (by first | exact (show (0 : Int) ≤ 0 by decide) | exact (show (0 : Int) ≤ 1 by decide) | exact (show (0 : Int) ≤ 1000000 by decide) | exact (show (1 : Int) ≤ 1000000 by decide) | decide) (by first | exact (show (0 : Int) ≤ 0 by decide) | exact (show (0 : Int) ≤ 1 by decide) | exact (show (0 : Int) ≤ 1000000 by decide) | exact (show (1 : Int) ≤ 1000000 by decide) | decide) (by first | exact (show (0 : Int) ≤ 0 by decide) | exact (show (0 : Int) ≤ 1 by decide) | exact (show (0 : Int) ≤ 1000000 by decide) | exact (show (1 : Int) ≤ 1000000 by decide) | decide) (by first | exact (show (0 : Int) ≤ 0 by decide) | exact (show (0 : Int) ≤ 1 by decide) | exact (show (0 : Int) ≤ 1000000 by decide) | exact (show (1 : Int) ≤ 1000000 by decide) | decide) (by first | exact (show (0 : Int) ≤ 0 by decide) | exact (show (0 : Int) ≤ 1 by decide) | exact (show (0 : Int) ≤ 1000000 by decide) | exact (show (1 : Int) ≤ 1000000 by decide) | decide) (.inr (.inr rfl)) sz.out.2 (nx_size a) (.inl ⟨rfl, rfl⟩) (.inl ⟨rfl, rfl⟩)
  rw [(y_o a b).1, (y_o a b).2] at C
  have CC := Lib.hid C
  clear C
  go_wp2_with fail
  refine CC.out.mono ?_
  rintro e wn ⟨rfl, h⟩
  have H2 := Lib.hid h
  clear h H CC
  have H := Lib.hid H2.out
  clear H2
  have C := H.out.upd (nx_size a) (by first | exact (show (0 : Int) ≤ 0 by decide) | exact (show (0 : Int) ≤ 1 by decide) | exact (show (0 : Int) ≤ 1000000 by decide) | exact (show (1 : Int) ≤ 1000000 by decide) | decide) (by first | exact (show (0 : Int) ≤ 0 by decide) | exact (show (0 : Int) ≤ 1 by decide) | exact (show (0 : Int) ≤ 1000000 by decide) | exact (show (1 : Int) ≤ 1000000 by decide) | decide)
  rw [(y_u4 a b).1, (y_u4 a b).2] at C
  have CC := Lib.hid C
  clear C
  go_wp2_with fail
  refine CC.out.mono ?_
  rintro e wn ⟨rfl, h⟩
  have H2 := Lib.hid h
  clear h H CC
  have H := Lib.hid H2.out
  clear H2
  have C := H.out.gen
  have CC := Lib.hid C
  clear C
  go_wp2_with fail
  refine CC.out.mono ?_
  rintro e wn ⟨rfl, h⟩
  have H2 := Lib.hid h
  clear h H CC
  have H := Lib.hid H2.out
  clear H2
  go_wp2
  go_ret
  exact ⟨rfl, btrans H1.out H.out.bel⟩
set_option maxRecDepth 100000 in
set_option maxHeartbeats 8000000 in
theorem way_no (s t : ByteArray) (fi ac : Int) (w : World) (hs : s.size ≤ maxLen) (ht : t.size ≤ maxLen) (hf : -9223372036854775808 ≤ fi ∧ fi ≤ 9223372036854775807) (hc : -9223372036854775808 ≤ ac ∧ ac ≤ 9223372036854775807) (hge : pickF fi 100 ≤ pickF ac 200) :
    Calls Try.prog 3 #[.string s, .string t, .int .i64 fi, .int .i64 ac, .bool false] w fun e w' => e = .returned (.bool true) ∧ Below w.heap.size w w' := by
  have PA := Lib.hid (fun w => pair_any s t w hs ht)
  have PF := Lib.hid (fun w => pick_any fi 100 w hf.1 hf.2 (by decide) (by decide))
  have PC := Lib.hid (fun w => pick_any ac 200 w hc.1 hc.2 (by decide) (by decide))
  have rf := pickF_range fi 100 (by decide)
  have rc := pickF_range ac 200 (by decide)
  have sz := Lib.hid (And.intro (sec_size s) (sec_size t))
  generalize sec s = a at *
  generalize sec t = b at *
  generalize pickF fi 100 = f at *
  generalize pickF ac 200 = k at *
  obtain ⟨f0, f1⟩ := rf
  obtain ⟨k0, k1⟩ := rc
  clear hs ht hf hc
  go_enter Try.func3, Try.ntmps3
  go_wp2_with fail
  refine (sane_any _).mono ?_
  rintro e w1 ⟨rfl, h1⟩
  have H1 := Lib.hid h1
  clear h1
  go_wp2_with fail
  refine (PA.out _).mono ?_
  rintro e w2 ⟨W, bp, bq, rfl, h2⟩
  have H := Lib.hid h2
  have c0 : w2.cell? ⟨W, 0, none⟩ = some (.pointer (some ⟨bp, 0, none⟩)) := at_whole (h2.at (k := W) (List.mem_cons.2 (.inl rfl))) 0 rfl
  clear h2
  go_wp2_with fail
  refine (PF.out _).mono ?_
  rintro e w3 ⟨rfl, rfl⟩
  go_wp2_with fail
  refine (PC.out _).mono ?_
  rintro e w4 ⟨rfl, rfl⟩
  clear c0
  have C := H.out.upd sz.out.1 (by first | exact (show (0 : Int) ≤ 0 by decide) | exact (show (0 : Int) ≤ 1 by decide) | exact (show (0 : Int) ≤ 1000000 by decide) | exact (show (1 : Int) ≤ 1000000 by decide) | decide) (by first | exact (show (0 : Int) ≤ 0 by decide) | exact (show (0 : Int) ≤ 1 by decide) | exact (show (0 : Int) ≤ 1000000 by decide) | exact (show (1 : Int) ≤ 1000000 by decide) | decide)
  rw [x_u0.1, x_u0.2] at C
  have CC := Lib.hid C
  clear C
  go_wp2_with fail
  refine CC.out.mono ?_
  rintro e wn ⟨rfl, h⟩
  have H2 := Lib.hid h
  clear h H CC
  have H := Lib.hid H2.out
  clear H2
  have C := H.out.acked k
  rw [y_a] at C
  have CC := Lib.hid C
  clear C
  go_wp2_with fail
  refine CC.out.mono ?_
  rintro e wn ⟨⟨v, rfl⟩, h⟩
  have H2 := Lib.hid h
  clear h H CC
  have H := Lib.hid H2.out
  clear H2
  have C := H.out.upd sz.out.1 (by first | exact (show (0 : Int) ≤ 0 by decide) | exact (show (0 : Int) ≤ 1 by decide) | exact (show (0 : Int) ≤ 1000000 by decide) | exact (show (1 : Int) ≤ 1000000 by decide) | decide) (by first | exact (show (0 : Int) ≤ 0 by decide) | exact (show (0 : Int) ≤ 1 by decide) | exact (show (0 : Int) ≤ 1000000 by decide) | exact (show (1 : Int) ≤ 1000000 by decide) | decide)
  rw [x_u0.1, x_u0.2] at C
  have CC := Lib.hid C
  clear C
  go_wp2_with fail
  refine CC.out.mono ?_
  rintro e wn ⟨rfl, h⟩
  have H2 := Lib.hid h
  clear h H CC
  have H := Lib.hid H2.out
  clear H2
  have C := H.out.sent f
  rw [y_s a b f f0] at C
  have CC := Lib.hid C
  clear C
  go_wp2_with fail
  refine CC.out.mono ?_
  rintro e wn ⟨⟨v, rfl⟩, h⟩
  have H2 := Lib.hid h
  clear h H CC
  have H := Lib.hid H2.out
  clear H2
  have C := H.out.sent (f + 5)
  rw [y_s2 a b f (f + 5) f0] at C
  have CC := Lib.hid C
  clear C
  go_wp2_with fail
  refine CC.out.mono ?_
  rintro e wn ⟨⟨v, rfl⟩, h⟩
  have H2 := Lib.hid h
  clear h H CC
  have H := Lib.hid H2.out
  clear H2
  have hn := Lib.hid hge
  have C := H.out.acked k
  rw [y_a1 a b f k f0 hn.out] at C
  have CC := Lib.hid C
  clear C
  go_wp2_with fail
  refine CC.out.mono ?_
  rintro e wn ⟨⟨v, rfl⟩, h⟩
  have H2 := Lib.hid h
  clear h H CC
  have H := Lib.hid H2.out
  clear H2
  have C := H.out.upd sz.out.1 (by first | exact (show (0 : Int) ≤ 0 by decide) | exact (show (0 : Int) ≤ 1 by decide) | exact (show (0 : Int) ≤ 1000000 by decide) | exact (show (1 : Int) ≤ 1000000 by decide) | decide) (by first | exact (show (0 : Int) ≤ 0 by decide) | exact (show (0 : Int) ≤ 1 by decide) | exact (show (0 : Int) ≤ 1000000 by decide) | exact (show (1 : Int) ≤ 1000000 by decide) | decide)
  rw [(y_u2 a b f).1, (y_u2 a b f).2] at C
  have CC := Lib.hid C
  clear C
  go_wp2_with fail
  refine CC.out.mono ?_
  rintro e wn ⟨rfl, h⟩
  have H2 := Lib.hid h
  clear h H CC
  have H := Lib.hid H2.out
  clear H2
  have C := H.out.sent 500
  have CC := Lib.hid C
  clear C
  go_wp2_with fail
  refine CC.out.mono ?_
  rintro e wn ⟨⟨v, rfl⟩, h⟩
  have H2 := Lib.hid h
  clear h H CC
  have H := Lib.hid H2.out
  clear H2
  have C := H.out.acked 500
  rw [y_3] at C
  have CC := Lib.hid C
  clear C
  go_wp2_with fail
  refine CC.out.mono ?_
  rintro e wn ⟨⟨v, rfl⟩, h⟩
  have H2 := Lib.hid h
  clear h H CC
  have H := Lib.hid H2.out
  clear H2
  have C := H.out.upd (nx_size a) (by first | exact (show (0 : Int) ≤ 0 by decide) | exact (show (0 : Int) ≤ 1 by decide) | exact (show (0 : Int) ≤ 1000000 by decide) | exact (show (1 : Int) ≤ 1000000 by decide) | decide) (by first | exact (show (0 : Int) ≤ 0 by decide) | exact (show (0 : Int) ≤ 1 by decide) | exact (show (0 : Int) ≤ 1000000 by decide) | exact (show (1 : Int) ≤ 1000000 by decide) | decide)
  rw [(y_u3 a b).1, (y_u3 a b).2] at C
  have CC := Lib.hid C
  clear C
  go_wp2_with fail
  refine CC.out.mono ?_
  rintro e wn ⟨rfl, h⟩
  have H2 := Lib.hid h
  clear h H CC
  have H := Lib.hid H2.out
  clear H2
  have C := H.out.gen
  have CC := Lib.hid C
  clear C
  go_wp2_with fail
  refine CC.out.mono ?_
  rintro e wn ⟨rfl, h⟩
  have H2 := Lib.hid h
  clear h H CC
  have H := Lib.hid H2.out
  clear H2
  go_wp2
  go_ret
  exact ⟨rfl, btrans H1.out H.out.bel⟩
theorem walk (s t : ByteArray) (fi ac : Int) (an : Bool) (w : World) (hs : s.size ≤ maxLen) (ht : t.size ≤ maxLen) (hf : -9223372036854775808 ≤ fi ∧ fi ≤ 9223372036854775807) (hc : -9223372036854775808 ≤ ac ∧ ac ≤ 9223372036854775807) :
    Calls Try.prog 3 #[.string s, .string t, .int .i64 fi, .int .i64 ac, .bool an] w fun e w' => e = .returned (.bool true) ∧ Below w.heap.size w w' := by
  by_cases h : pickF ac 200 < pickF fi 100
  · exact way_low s t fi ac an w hs ht hf hc h
  · cases an with
    | true => exact way_yes s t fi ac w hs ht hf hc (by omega)
    | false => exact way_no s t fi ac w hs ht hf hc (by omega)
open Go.ChangeShapes Go.WideShapes in
set_option maxRecDepth 100000 in
theorem main {H : Type} {enc : TypeId × Value → H} (W : World) (base0 : Nat) (v0 : Value) (d0 : DataW H) (p0 : List MemPlace) (hv0 : Value.okWide Try.prog W .any base0 9 v0) (h0 : DataW.Trod enc Try.prog W 0 (fun _ => true) true 9 v0 d0 p0)
    (base1 : Nat) (v1 : Value) (d1 : DataW H) (p1 : List MemPlace) (hv1 : Value.okWide Try.prog W .any base1 9 v1) (h1 : DataW.Trod enc Try.prog W 0 (fun _ => true) true 9 v1 d1 p1)
    (base2 : Nat) (v2 : Value) (d2 : DataW H) (p2 : List MemPlace) (hv2 : Value.okWide Try.prog W .any base2 3 v2) (h2 : DataW.Trod enc Try.prog W 0 (fun _ => true) true 3 v2 d2 p2)
    (base3 : Nat) (v3 : Value) (d3 : DataW H) (p3 : List MemPlace) (hv3 : Value.okWide Try.prog W .any base3 3 v3) (h3 : DataW.Trod enc Try.prog W 0 (fun _ => true) true 3 v3 d3 p3)
    (base4 : Nat) (v4 : Value) (d4 : DataW H) (p4 : List MemPlace) (hv4 : Value.okWide Try.prog W .any base4 4 v4) (h4 : DataW.Trod enc Try.prog W 0 (fun _ => true) true 4 v4 d4 p4) :
    Calls Try.prog 3 #[v0, v1, v2, v3, v4] W fun e w' => e = .returned (.bool true) ∧ Below W.heap.size W w' := by
  obtain ⟨s, rfl, _, _, hs⟩ := Go.ChangeMaps.open_string Try.underlying9 hv0 h0
  obtain ⟨t, rfl, _, _, ht⟩ := Go.ChangeMaps.open_string Try.underlying9 hv1 h1
  obtain ⟨a, rfl, _, _, w2⟩ := open_int Try.underlying3 hv2 h2
  obtain ⟨c, rfl, _, _, w3⟩ := open_int Try.underlying3 hv3 h3
  obtain ⟨an, rfl, _, _⟩ := open_bool Try.underlying4 hv4 h4
  exact walk s t a c an W hs ht (wf_bounds w2) (wf_bounds w3)
end Go.Proofs.Ytieiplalnekmkaa.keyPhaseUpdate
