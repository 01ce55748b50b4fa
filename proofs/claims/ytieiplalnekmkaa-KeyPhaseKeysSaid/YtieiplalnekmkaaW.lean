/- Law 25: Receive. -/
import Derived.Test.YtieiplalnekmkaaV
namespace Go.Proofs.Ytieiplalnekmkaa
open Go.RowKit
set_option maxRecDepth 100000 in
set_option maxHeartbeats 4000000 in
theorem rcv_cur (b : Nat) (X : Ph) (ph pn : Int) (w : World) (hp0 : 0 ≤ ph) (hp1 : ph ≤ 1) (hn0 : 0 ≤ pn) (hn1 : pn ≤ 281474976710655) (hg0 : 0 ≤ X.rg) (hg1 : X.rg ≤ 1000000) (hs : X.rs.size = 16) (hc : ph = X.rg % 2) (hb : w.heap[b]? = some (.cells X.cells 66 (0, 0))) :
    Calls Try.prog 15 #[.pointer (some ⟨b, 0, none⟩), .int .i64 ph, .int .i64 pn] w fun e w' => e = .returned (.tuple #[(kyF X.rh X.rs).val, .int .i64 X.rg, .int .i64 0]) ∧ Below w.heap.size w w' := by
  have EX := Lib.hid (fun w => exp_any X.rs X.rh X.rs X.rg w hs)
  have hq : (ph == X.rg % 2) = true := by simpa using hc
  unfold Ky.val Ky.cells at *
  generalize kyF X.rh X.rs = y at *
  obtain ⟨y0, y1, y2, y3⟩ := y
  simp only at *
  clear hs hc
  have hlb := heap_lt hb
  have F := Lib.hid (box1 w (.cells #[.string ⟨#[]⟩, .string ⟨#[]⟩, .string ⟨#[]⟩, .string ⟨#[]⟩] 42))
  have HB := Lib.hid hb
  have VA := Lib.hid (fun w => valid_any pn w hn0 hn1)
  clear hb
  go_enter Try.func15, Try.ntmps15
  go_wp2_with fail
  generalize w.alloc (.cells #[.string ⟨#[]⟩, .string ⟨#[]⟩, .string ⟨#[]⟩, .string ⟨#[]⟩] 42) = V at F ⊢
  have hV := heap_below F.out.2.1 HB.out
  have c5 : V.cell? ⟨b, 5, none⟩ = some (.string X.rs) := at_whole hV 5 rfl
  have c6 : V.cell? ⟨b, 6, none⟩ = some (.string X.rh) := at_whole hV 6 rfl
  have c7 : V.cell? ⟨b, 7, none⟩ = some (.int .i64 X.rg) := at_whole hV 7 rfl
  have c12 : V.cell? ⟨b, 12, none⟩ = some (.int .i64 X.lg) := at_whole hV 12 rfl
  have c13 : V.cell? ⟨b, 13, none⟩ = some (.string X.old) := at_whole hV 13 rfl
  have c14 : V.cell? ⟨b, 14, none⟩ = some (.bool X.kept) := at_whole hV 14 rfl
  clear hV
  have hsz := F.out.2.2
  have r0 : V.cell? ⟨w.heap.size, 0, none⟩ = some (.string ⟨#[]⟩) := at_whole F.out.1 0 rfl
  have r1 : V.cell? ⟨w.heap.size, 1, none⟩ = some (.string ⟨#[]⟩) := at_whole F.out.1 1 rfl
  have r2 : V.cell? ⟨w.heap.size, 2, none⟩ = some (.string ⟨#[]⟩) := at_whole F.out.1 2 rfl
  have r3 : V.cell? ⟨w.heap.size, 3, none⟩ = some (.string ⟨#[]⟩) := at_whole F.out.1 3 rfl
  have fr0 := frozen_whole F.out.1 0
  have fr1 := frozen_whole F.out.1 1
  have fr2 := frozen_whole F.out.1 2
  have fr3 := frozen_whole F.out.1 3
  have lR : w.heap.size < V.heap.size := by omega
  clear hsz
  have HR0 := Lib.hid (And.intro r0 (And.intro r1 (And.intro r2 r3)))
  refine (VA.out _).mono ?_
  rintro e w' ⟨rfl, rfl⟩
  go_wp2
  have HS := Lib.hid (show ∀ w', Held V (w.heap.size) w' → (w'.cell? ⟨b, 5, none⟩ = some (.string X.rs) ∧ w'.cell? ⟨b, 6, none⟩ = some (.string X.rh) ∧ w'.cell? ⟨b, 7, none⟩ = some (.int .i64 X.rg) ∧ w'.frozen? ⟨w.heap.size, 0, none⟩ = false ∧ w'.frozen? ⟨w.heap.size, 1, none⟩ = false ∧ w'.frozen? ⟨w.heap.size, 2, none⟩ = false ∧ w'.frozen? ⟨w.heap.size, 3, none⟩ = false ∧ w'.cell? ⟨w.heap.size, 0, none⟩ = some (cur w' ⟨w.heap.size, 0, none⟩) ∧ w'.cell? ⟨w.heap.size, 1, none⟩ = some (cur w' ⟨w.heap.size, 1, none⟩) ∧ w'.cell? ⟨w.heap.size, 2, none⟩ = some (cur w' ⟨w.heap.size, 2, none⟩) ∧ w'.cell? ⟨w.heap.size, 3, none⟩ = some (cur w' ⟨w.heap.size, 3, none⟩)) from fun w' h => ⟨h.cell c5 (by omega), h.cell c6 (by omega), h.cell c7 (by omega), h.froz fr0 lR, h.froz fr1 lR, h.froz fr2 lR, h.froz fr3 lR, h.cur r0, h.cur r1, h.cur r2, h.cur r3⟩)
  go_region_held3 (fun w' => w'.cell? ⟨b, 5, none⟩ = some (.string X.rs) ∧ w'.cell? ⟨b, 6, none⟩ = some (.string X.rh) ∧ w'.cell? ⟨b, 7, none⟩ = some (.int .i64 X.rg) ∧ w'.frozen? ⟨w.heap.size, 0, none⟩ = false ∧ w'.frozen? ⟨w.heap.size, 1, none⟩ = false ∧ w'.frozen? ⟨w.heap.size, 2, none⟩ = false ∧ w'.frozen? ⟨w.heap.size, 3, none⟩ = false ∧ w'.cell? ⟨w.heap.size, 0, none⟩ = some (cur w' ⟨w.heap.size, 0, none⟩) ∧ w'.cell? ⟨w.heap.size, 1, none⟩ = some (cur w' ⟨w.heap.size, 1, none⟩) ∧ w'.cell? ⟨w.heap.size, 2, none⟩ = some (cur w' ⟨w.heap.size, 2, none⟩) ∧ w'.cell? ⟨w.heap.size, 3, none⟩ = some (cur w' ⟨w.heap.size, 3, none⟩)) (first | exact HS.out _ (Held.start _ _) | exact HS.out _ ((Held.start _ _).below hb2) | exact HS.out _ ((((((Held.start _ _).below hb2).set _ _).set _ _).set _ _).set _ _)) (first | (go_at_call 28; refine (EX.out _).mono ?_; rintro e w2 ⟨rfl, hb2⟩))
  have HBV : Hid (Below w.heap.size w w2) := Lib.hid ((F.out.2.1.drew).trans (hb2.mono (show w.heap.size ≤ V.heap.size by omega)))
  have hR := heap_below hb2 (show V.drew.heap[w.heap.size]? = some (.cells #[.string ⟨#[]⟩, .string ⟨#[]⟩, .string ⟨#[]⟩, .string ⟨#[]⟩] 42) from F.out.1)
  have G := Lib.hid (out4 HBV.out rfl hR (.string y0) (.string y1) (.string y2) (.string y3))
  clear hb2 hR HS
  generalize (((w2.setCell ⟨w.heap.size, 0, none⟩ (.string y0)).setCell ⟨w.heap.size, 1, none⟩ (.string y1)).setCell ⟨w.heap.size, 2, none⟩ (.string y2)).setCell ⟨w.heap.size, 3, none⟩ (.string y3) = Z at *
  have q0 : Z.cell? ⟨w.heap.size, 0, none⟩ = some (.string y0) := at_whole G.out.1 0 rfl
  have q1 : Z.cell? ⟨w.heap.size, 1, none⟩ = some (.string y1) := at_whole G.out.1 1 rfl
  have q2 : Z.cell? ⟨w.heap.size, 2, none⟩ = some (.string y2) := at_whole G.out.1 2 rfl
  have q3 : Z.cell? ⟨w.heap.size, 3, none⟩ = some (.string y3) := at_whole G.out.1 3 rfl
  go_wp2
  refine bodyPost_ret (v := .tuple #[.agg #[.string y0, .string y1, .string y2, .string y3], .int .i64 X.rg, .int .i64 0]) (by simp [results, Try.results15, go_sem, q0, q1, q2, q3]) rfl ⟨?_, G.out.2⟩
  rfl

set_option maxRecDepth 100000 in
set_option maxHeartbeats 4000000 in
theorem rcv_old (b : Nat) (X : Ph) (ph pn : Int) (w : World) (hp0 : 0 ≤ ph) (hp1 : ph ≤ 1) (hn0 : 0 ≤ pn) (hn1 : pn ≤ 281474976710655) (hg0 : 0 ≤ X.rg) (hg1 : X.rg ≤ 1000000) (hs : X.old.size = 16) (hc : ¬ ph = X.rg % 2) (hl : ¬ X.lg < pn) (hk : X.kept = true) (hb : w.heap[b]? = some (.cells X.cells 66 (0, 0))) :
    Calls Try.prog 15 #[.pointer (some ⟨b, 0, none⟩), .int .i64 ph, .int .i64 pn] w fun e w' => e = .returned (.tuple #[(kyF X.rh X.old).val, .int .i64 (X.rg - 1), .int .i64 0]) ∧ Below w.heap.size w w' := by
  have EX := Lib.hid (fun w => exp_any X.rs X.rh X.old X.rg w hs)
  have hq : (ph == X.rg % 2) = false := by simpa using hc
  have hl2 : decide (X.lg < pn) = false := by simpa using hl
  have HK := Lib.hid hk
  unfold Ky.val Ky.cells at *
  generalize kyF X.rh X.old = y at *
  obtain ⟨y0, y1, y2, y3⟩ := y
  simp only at *
  clear hs hc hl hk
  have hlb := heap_lt hb
  have F := Lib.hid (box1 w (.cells #[.string ⟨#[]⟩, .string ⟨#[]⟩, .string ⟨#[]⟩, .string ⟨#[]⟩] 42))
  have HB := Lib.hid hb
  have VA := Lib.hid (fun w => valid_any pn w hn0 hn1)
  clear hb
  go_enter Try.func15, Try.ntmps15
  go_wp2_with fail
  generalize w.alloc (.cells #[.string ⟨#[]⟩, .string ⟨#[]⟩, .string ⟨#[]⟩, .string ⟨#[]⟩] 42) = V at F ⊢
  have hV := heap_below F.out.2.1 HB.out
  have c5 : V.cell? ⟨b, 5, none⟩ = some (.string X.rs) := at_whole hV 5 rfl
  have c6 : V.cell? ⟨b, 6, none⟩ = some (.string X.rh) := at_whole hV 6 rfl
  have c7 : V.cell? ⟨b, 7, none⟩ = some (.int .i64 X.rg) := at_whole hV 7 rfl
  have c12 : V.cell? ⟨b, 12, none⟩ = some (.int .i64 X.lg) := at_whole hV 12 rfl
  have c13 : V.cell? ⟨b, 13, none⟩ = some (.string X.old) := at_whole hV 13 rfl
  have c14 : V.cell? ⟨b, 14, none⟩ = some (.bool X.kept) := at_whole hV 14 rfl
  clear hV
  have hsz := F.out.2.2
  have r0 : V.cell? ⟨w.heap.size, 0, none⟩ = some (.string ⟨#[]⟩) := at_whole F.out.1 0 rfl
  have r1 : V.cell? ⟨w.heap.size, 1, none⟩ = some (.string ⟨#[]⟩) := at_whole F.out.1 1 rfl
  have r2 : V.cell? ⟨w.heap.size, 2, none⟩ = some (.string ⟨#[]⟩) := at_whole F.out.1 2 rfl
  have r3 : V.cell? ⟨w.heap.size, 3, none⟩ = some (.string ⟨#[]⟩) := at_whole F.out.1 3 rfl
  have fr0 := frozen_whole F.out.1 0
  have fr1 := frozen_whole F.out.1 1
  have fr2 := frozen_whole F.out.1 2
  have fr3 := frozen_whole F.out.1 3
  have lR : w.heap.size < V.heap.size := by omega
  clear hsz
  have HR0 := Lib.hid (And.intro r0 (And.intro r1 (And.intro r2 r3)))
  refine (VA.out _).mono ?_
  rintro e w' ⟨rfl, rfl⟩
  rw [HK.out] at c14
  have hsub : IntKind.i64.wrap (X.rg - 1) = X.rg - 1 := IntWalk.i64_in _ (by omega)
  go_wp2
  have HS := Lib.hid (show ∀ w', Held V (w.heap.size) w' → (w'.cell? ⟨b, 5, none⟩ = some (.string X.rs) ∧ w'.cell? ⟨b, 6, none⟩ = some (.string X.rh) ∧ w'.cell? ⟨b, 7, none⟩ = some (.int .i64 X.rg) ∧ w'.cell? ⟨b, 13, none⟩ = some (.string X.old) ∧ w'.frozen? ⟨w.heap.size, 0, none⟩ = false ∧ w'.frozen? ⟨w.heap.size, 1, none⟩ = false ∧ w'.frozen? ⟨w.heap.size, 2, none⟩ = false ∧ w'.frozen? ⟨w.heap.size, 3, none⟩ = false ∧ w'.cell? ⟨w.heap.size, 0, none⟩ = some (cur w' ⟨w.heap.size, 0, none⟩) ∧ w'.cell? ⟨w.heap.size, 1, none⟩ = some (cur w' ⟨w.heap.size, 1, none⟩) ∧ w'.cell? ⟨w.heap.size, 2, none⟩ = some (cur w' ⟨w.heap.size, 2, none⟩) ∧ w'.cell? ⟨w.heap.size, 3, none⟩ = some (cur w' ⟨w.heap.size, 3, none⟩)) from fun w' h => ⟨h.cell c5 (by omega), h.cell c6 (by omega), h.cell c7 (by omega), h.cell c13 (by omega), h.froz fr0 lR, h.froz fr1 lR, h.froz fr2 lR, h.froz fr3 lR, h.cur r0, h.cur r1, h.cur r2, h.cur r3⟩)
  go_region_held3 (fun w' => w'.cell? ⟨b, 5, none⟩ = some (.string X.rs) ∧ w'.cell? ⟨b, 6, none⟩ = some (.string X.rh) ∧ w'.cell? ⟨b, 7, none⟩ = some (.int .i64 X.rg) ∧ w'.cell? ⟨b, 13, none⟩ = some (.string X.old) ∧ w'.frozen? ⟨w.heap.size, 0, none⟩ = false ∧ w'.frozen? ⟨w.heap.size, 1, none⟩ = false ∧ w'.frozen? ⟨w.heap.size, 2, none⟩ = false ∧ w'.frozen? ⟨w.heap.size, 3, none⟩ = false ∧ w'.cell? ⟨w.heap.size, 0, none⟩ = some (cur w' ⟨w.heap.size, 0, none⟩) ∧ w'.cell? ⟨w.heap.size, 1, none⟩ = some (cur w' ⟨w.heap.size, 1, none⟩) ∧ w'.cell? ⟨w.heap.size, 2, none⟩ = some (cur w' ⟨w.heap.size, 2, none⟩) ∧ w'.cell? ⟨w.heap.size, 3, none⟩ = some (cur w' ⟨w.heap.size, 3, none⟩)) (first | exact HS.out _ (Held.start _ _) | exact HS.out _ ((Held.start _ _).below hb2) | exact HS.out _ ((((((Held.start _ _).below hb2).set _ _).set _ _).set _ _).set _ _)) (first | (go_at_call 28; refine (EX.out _).mono ?_; rintro e w2 ⟨rfl, hb2⟩))
  have HBV : Hid (Below w.heap.size w w2) := Lib.hid ((F.out.2.1.drew).trans (hb2.mono (show w.heap.size ≤ V.heap.size by omega)))
  have hR := heap_below hb2 (show V.drew.heap[w.heap.size]? = some (.cells #[.string ⟨#[]⟩, .string ⟨#[]⟩, .string ⟨#[]⟩, .string ⟨#[]⟩] 42) from F.out.1)
  have G := Lib.hid (out4 HBV.out rfl hR (.string y0) (.string y1) (.string y2) (.string y3))
  clear hb2 hR HS
  generalize (((w2.setCell ⟨w.heap.size, 0, none⟩ (.string y0)).setCell ⟨w.heap.size, 1, none⟩ (.string y1)).setCell ⟨w.heap.size, 2, none⟩ (.string y2)).setCell ⟨w.heap.size, 3, none⟩ (.string y3) = Z at *
  have q0 : Z.cell? ⟨w.heap.size, 0, none⟩ = some (.string y0) := at_whole G.out.1 0 rfl
  have q1 : Z.cell? ⟨w.heap.size, 1, none⟩ = some (.string y1) := at_whole G.out.1 1 rfl
  have q2 : Z.cell? ⟨w.heap.size, 2, none⟩ = some (.string y2) := at_whole G.out.1 2 rfl
  have q3 : Z.cell? ⟨w.heap.size, 3, none⟩ = some (.string y3) := at_whole G.out.1 3 rfl
  go_wp2
  refine bodyPost_ret (v := .tuple #[.agg #[.string y0, .string y1, .string y2, .string y3], .int .i64 (X.rg - 1), .int .i64 0]) (by simp [results, Try.results15, go_sem, q0, q1, q2, q3]) rfl ⟨?_, G.out.2⟩
  rfl

set_option maxRecDepth 100000 in
set_option maxHeartbeats 4000000 in
theorem rcv_no (b : Nat) (X : Ph) (ph pn : Int) (w : World) (hp0 : 0 ≤ ph) (hp1 : ph ≤ 1) (hn0 : 0 ≤ pn) (hn1 : pn ≤ 281474976710655) (hg0 : 0 ≤ X.rg) (hg1 : X.rg ≤ 1000000) (hc : ¬ ph = X.rg % 2) (hl : ¬ X.lg < pn) (hk : X.kept = false) (hb : w.heap[b]? = some (.cells X.cells 66 (0, 0))) :
    Calls Try.prog 15 #[.pointer (some ⟨b, 0, none⟩), .int .i64 ph, .int .i64 pn] w fun e w' => e = .returned (.tuple #[.agg #[.string ⟨#[]⟩, .string ⟨#[]⟩, .string ⟨#[]⟩, .string ⟨#[]⟩], .int .i64 0, .int .i64 250]) ∧ Below w.heap.size w w' := by
  have hq : (ph == X.rg % 2) = false := by simpa using hc
  have hl2 : decide (X.lg < pn) = false := by simpa using hl
  have HK := Lib.hid hk
  clear hc hl hk
  have hlb := heap_lt hb
  have F := Lib.hid (box1 w (.cells #[.string ⟨#[]⟩, .string ⟨#[]⟩, .string ⟨#[]⟩, .string ⟨#[]⟩] 42))
  have HB := Lib.hid hb
  have VA := Lib.hid (fun w => valid_any pn w hn0 hn1)
  clear hb
  go_enter Try.func15, Try.ntmps15
  go_wp2_with fail
  generalize w.alloc (.cells #[.string ⟨#[]⟩, .string ⟨#[]⟩, .string ⟨#[]⟩, .string ⟨#[]⟩] 42) = V at F ⊢
  have hV := heap_below F.out.2.1 HB.out
  have c5 : V.cell? ⟨b, 5, none⟩ = some (.string X.rs) := at_whole hV 5 rfl
  have c6 : V.cell? ⟨b, 6, none⟩ = some (.string X.rh) := at_whole hV 6 rfl
  have c7 : V.cell? ⟨b, 7, none⟩ = some (.int .i64 X.rg) := at_whole hV 7 rfl
  have c12 : V.cell? ⟨b, 12, none⟩ = some (.int .i64 X.lg) := at_whole hV 12 rfl
  have c13 : V.cell? ⟨b, 13, none⟩ = some (.string X.old) := at_whole hV 13 rfl
  have c14 : V.cell? ⟨b, 14, none⟩ = some (.bool X.kept) := at_whole hV 14 rfl
  clear hV
  have hsz := F.out.2.2
  have r0 : V.cell? ⟨w.heap.size, 0, none⟩ = some (.string ⟨#[]⟩) := at_whole F.out.1 0 rfl
  have r1 : V.cell? ⟨w.heap.size, 1, none⟩ = some (.string ⟨#[]⟩) := at_whole F.out.1 1 rfl
  have r2 : V.cell? ⟨w.heap.size, 2, none⟩ = some (.string ⟨#[]⟩) := at_whole F.out.1 2 rfl
  have r3 : V.cell? ⟨w.heap.size, 3, none⟩ = some (.string ⟨#[]⟩) := at_whole F.out.1 3 rfl
  have fr0 := frozen_whole F.out.1 0
  have fr1 := frozen_whole F.out.1 1
  have fr2 := frozen_whole F.out.1 2
  have fr3 := frozen_whole F.out.1 3
  have lR : w.heap.size < V.heap.size := by omega
  clear hsz
  have HR0 := Lib.hid (And.intro r0 (And.intro r1 (And.intro r2 r3)))
  refine (VA.out _).mono ?_
  rintro e w' ⟨rfl, rfl⟩
  rw [HK.out] at c14
  have G := Lib.hid (out4 F.out.2.1 rfl F.out.1 (.string ⟨#[]⟩) (.string ⟨#[]⟩) (.string ⟨#[]⟩) (.string ⟨#[]⟩))
  go_wp2
  generalize (((V.setCell ⟨w.heap.size, 0, none⟩ (.string ⟨#[]⟩)).setCell ⟨w.heap.size, 1, none⟩ (.string ⟨#[]⟩)).setCell ⟨w.heap.size, 2, none⟩ (.string ⟨#[]⟩)).setCell ⟨w.heap.size, 3, none⟩ (.string ⟨#[]⟩) = Z at *
  have q0 : Z.cell? ⟨w.heap.size, 0, none⟩ = some (.string ⟨#[]⟩) := at_whole G.out.1 0 rfl
  have q1 : Z.cell? ⟨w.heap.size, 1, none⟩ = some (.string ⟨#[]⟩) := at_whole G.out.1 1 rfl
  have q2 : Z.cell? ⟨w.heap.size, 2, none⟩ = some (.string ⟨#[]⟩) := at_whole G.out.1 2 rfl
  have q3 : Z.cell? ⟨w.heap.size, 3, none⟩ = some (.string ⟨#[]⟩) := at_whole G.out.1 3 rfl
  refine bodyPost_ret (v := .tuple #[.agg #[.string ⟨#[]⟩, .string ⟨#[]⟩, .string ⟨#[]⟩, .string ⟨#[]⟩], .int .i64 0, .int .i64 250]) (by simp [results, Try.results15, go_sem, q0, q1, q2, q3]) rfl ⟨rfl, G.out.2⟩

set_option maxRecDepth 100000 in
set_option maxHeartbeats 4000000 in
theorem rcv_next (b : Nat) (X : Ph) (ph pn : Int) (w : World) (hp0 : 0 ≤ ph) (hp1 : ph ≤ 1) (hn0 : 0 ≤ pn) (hn1 : pn ≤ 281474976710655) (hg0 : 0 ≤ X.rg) (hg1 : X.rg ≤ 1000000) (hs : X.rs.size = 16) (hc : ¬ ph = X.rg % 2) (hl : X.lg < pn) (hb : w.heap[b]? = some (.cells X.cells 66 (0, 0))) :
    Calls Try.prog 15 #[.pointer (some ⟨b, 0, none⟩), .int .i64 ph, .int .i64 pn] w fun e w' => e = .returned (.tuple #[(kyF X.rh (nx X.rs)).val, .int .i64 (X.rg + 1), .int .i64 0]) ∧ Below w.heap.size w w' := by
  have EX := Lib.hid (fun w => exp_any (nx X.rs) X.rh (nx X.rs) (X.rg + 1) w (nx_size _))
  have hq : (ph == X.rg % 2) = false := by simpa using hc
  have hl2 : decide (X.lg < pn) = true := by simpa using hl
  have AD := Lib.hid (fun b o T cs w hb h0 h2 => adv_any b o X.rs X.rg T cs w hs hg0 hg1 hb h0 h2)
  unfold Ky.val Ky.cells at *
  generalize kyF X.rh (nx X.rs) = y at *
  obtain ⟨y0, y1, y2, y3⟩ := y
  simp only at *
  generalize nx X.rs = ns at *
  clear hs hc hl
  have hlb := heap_lt hb
  have F := Lib.hid (box1 w (.cells #[.string ⟨#[]⟩, .string ⟨#[]⟩, .string ⟨#[]⟩, .string ⟨#[]⟩] 42))
  have HB := Lib.hid hb
  have VA := Lib.hid (fun w => valid_any pn w hn0 hn1)
  clear hb
  go_enter Try.func15, Try.ntmps15
  go_wp2_with fail
  generalize w.alloc (.cells #[.string ⟨#[]⟩, .string ⟨#[]⟩, .string ⟨#[]⟩, .string ⟨#[]⟩] 42) = V at F ⊢
  have hV := heap_below F.out.2.1 HB.out
  have c5 : V.cell? ⟨b, 5, none⟩ = some (.string X.rs) := at_whole hV 5 rfl
  have c6 : V.cell? ⟨b, 6, none⟩ = some (.string X.rh) := at_whole hV 6 rfl
  have c7 : V.cell? ⟨b, 7, none⟩ = some (.int .i64 X.rg) := at_whole hV 7 rfl
  have c12 : V.cell? ⟨b, 12, none⟩ = some (.int .i64 X.lg) := at_whole hV 12 rfl
  have c13 : V.cell? ⟨b, 13, none⟩ = some (.string X.old) := at_whole hV 13 rfl
  have c14 : V.cell? ⟨b, 14, none⟩ = some (.bool X.kept) := at_whole hV 14 rfl
  clear hV
  have hsz := F.out.2.2
  have r0 : V.cell? ⟨w.heap.size, 0, none⟩ = some (.string ⟨#[]⟩) := at_whole F.out.1 0 rfl
  have r1 : V.cell? ⟨w.heap.size, 1, none⟩ = some (.string ⟨#[]⟩) := at_whole F.out.1 1 rfl
  have r2 : V.cell? ⟨w.heap.size, 2, none⟩ = some (.string ⟨#[]⟩) := at_whole F.out.1 2 rfl
  have r3 : V.cell? ⟨w.heap.size, 3, none⟩ = some (.string ⟨#[]⟩) := at_whole F.out.1 3 rfl
  have fr0 := frozen_whole F.out.1 0
  have fr1 := frozen_whole F.out.1 1
  have fr2 := frozen_whole F.out.1 2
  have fr3 := frozen_whole F.out.1 3
  have lR : w.heap.size < V.heap.size := by omega
  clear hsz
  have HR0 := Lib.hid (And.intro r0 (And.intro r1 (And.intro r2 r3)))
  refine (VA.out _).mono ?_
  rintro e w' ⟨rfl, rfl⟩
  go_wp2_with fail
  have HN := Lib.hid (heap_alloc_new V (.cells #[.string X.rs, .string X.rh, .int .i64 X.rg] 57))
  have BN := Lib.hid ((Below.refl V.heap.size V).alloc (Nat.le_refl _) (.cells #[.string X.rs, .string X.rh, .int .i64 X.rg] 57))
  refine (AD.out _ _ _ _ _ HN.out rfl rfl).mono ?_
  rintro e U ⟨⟨v, rfl⟩, hU⟩
  have d0 : U.cell? ⟨V.heap.size, 0, none⟩ = some (.string ns) := at_whole hU.1 0 rfl
  have d1 : U.cell? ⟨V.heap.size, 1, none⟩ = some (.string X.rh) := at_whole hU.1 1 rfl
  have d2 : U.cell? ⟨V.heap.size, 2, none⟩ = some (.int .i64 (X.rg + 1)) := at_whole hU.1 2 rfl
  have hRV := heap_grown hU.2 (heap_below BN.out F.out.1) (by omega)
  have s0 : U.cell? ⟨w.heap.size, 0, none⟩ = some (.string ⟨#[]⟩) := at_whole hRV 0 rfl
  have s1 : U.cell? ⟨w.heap.size, 1, none⟩ = some (.string ⟨#[]⟩) := at_whole hRV 1 rfl
  have s2 : U.cell? ⟨w.heap.size, 2, none⟩ = some (.string ⟨#[]⟩) := at_whole hRV 2 rfl
  have s3 : U.cell? ⟨w.heap.size, 3, none⟩ = some (.string ⟨#[]⟩) := at_whole hRV 3 rfl
  have fs0 := frozen_whole hRV 0
  have fs1 := frozen_whole hRV 1
  have fs2 := frozen_whole hRV 2
  have fs3 := frozen_whole hRV 3
  have lU : w.heap.size < U.heap.size := heap_lt hRV
  have HU := Lib.hid (And.intro hRV (And.intro hU.1 (below_grown (btrans F.out.2.1 BN.out) hU.2 (show w.heap.size ≤ V.heap.size by omega))))
  clear hU hRV c5 c6 c7 c12 c13 c14 r0 r1 r2 r3 fr0 fr1 fr2 fr3
  go_wp2_with fail
  have HS := Lib.hid (show ∀ w', Held U (w.heap.size) w' → (w'.cell? ⟨V.heap.size, 0, none⟩ = some (.string ns) ∧ w'.cell? ⟨V.heap.size, 1, none⟩ = some (.string X.rh) ∧ w'.cell? ⟨V.heap.size, 2, none⟩ = some (.int .i64 (X.rg + 1)) ∧ w'.frozen? ⟨w.heap.size, 0, none⟩ = false ∧ w'.frozen? ⟨w.heap.size, 1, none⟩ = false ∧ w'.frozen? ⟨w.heap.size, 2, none⟩ = false ∧ w'.frozen? ⟨w.heap.size, 3, none⟩ = false ∧ w'.cell? ⟨w.heap.size, 0, none⟩ = some (cur w' ⟨w.heap.size, 0, none⟩) ∧ w'.cell? ⟨w.heap.size, 1, none⟩ = some (cur w' ⟨w.heap.size, 1, none⟩) ∧ w'.cell? ⟨w.heap.size, 2, none⟩ = some (cur w' ⟨w.heap.size, 2, none⟩) ∧ w'.cell? ⟨w.heap.size, 3, none⟩ = some (cur w' ⟨w.heap.size, 3, none⟩)) from fun w' h => ⟨h.cell d0 (by omega), h.cell d1 (by omega), h.cell d2 (by omega), h.froz fs0 lU, h.froz fs1 lU, h.froz fs2 lU, h.froz fs3 lU, h.cur s0, h.cur s1, h.cur s2, h.cur s3⟩)
  go_region_held3 (fun w' => w'.cell? ⟨V.heap.size, 0, none⟩ = some (.string ns) ∧ w'.cell? ⟨V.heap.size, 1, none⟩ = some (.string X.rh) ∧ w'.cell? ⟨V.heap.size, 2, none⟩ = some (.int .i64 (X.rg + 1)) ∧ w'.frozen? ⟨w.heap.size, 0, none⟩ = false ∧ w'.frozen? ⟨w.heap.size, 1, none⟩ = false ∧ w'.frozen? ⟨w.heap.size, 2, none⟩ = false ∧ w'.frozen? ⟨w.heap.size, 3, none⟩ = false ∧ w'.cell? ⟨w.heap.size, 0, none⟩ = some (cur w' ⟨w.heap.size, 0, none⟩) ∧ w'.cell? ⟨w.heap.size, 1, none⟩ = some (cur w' ⟨w.heap.size, 1, none⟩) ∧ w'.cell? ⟨w.heap.size, 2, none⟩ = some (cur w' ⟨w.heap.size, 2, none⟩) ∧ w'.cell? ⟨w.heap.size, 3, none⟩ = some (cur w' ⟨w.heap.size, 3, none⟩)) (first | exact HS.out _ (Held.start _ _) | exact HS.out _ ((Held.start _ _).below hb2) | exact HS.out _ ((((((Held.start _ _).below hb2).set _ _).set _ _).set _ _).set _ _)) (first | (go_at_call 28; refine (EX.out _).mono ?_; rintro e w2 ⟨rfl, hb2⟩))
  have HBV : Hid (Below w.heap.size w w2) := Lib.hid ((HU.out.2.2.drew).trans (hb2.mono (show w.heap.size ≤ U.heap.size by omega)))
  have hR := heap_below hb2 (show U.drew.heap[w.heap.size]? = some (.cells #[.string ⟨#[]⟩, .string ⟨#[]⟩, .string ⟨#[]⟩, .string ⟨#[]⟩] 42) from HU.out.1)
  have G := Lib.hid (out4 HBV.out rfl hR (.string y0) (.string y1) (.string y2) (.string y3))
  clear hb2 hR HS
  generalize (((w2.setCell ⟨w.heap.size, 0, none⟩ (.string y0)).setCell ⟨w.heap.size, 1, none⟩ (.string y1)).setCell ⟨w.heap.size, 2, none⟩ (.string y2)).setCell ⟨w.heap.size, 3, none⟩ (.string y3) = Z at *
  have q0 : Z.cell? ⟨w.heap.size, 0, none⟩ = some (.string y0) := at_whole G.out.1 0 rfl
  have q1 : Z.cell? ⟨w.heap.size, 1, none⟩ = some (.string y1) := at_whole G.out.1 1 rfl
  have q2 : Z.cell? ⟨w.heap.size, 2, none⟩ = some (.string y2) := at_whole G.out.1 2 rfl
  have q3 : Z.cell? ⟨w.heap.size, 3, none⟩ = some (.string y3) := at_whole G.out.1 3 rfl
  go_wp2
  refine bodyPost_ret (v := .tuple #[.agg #[.string y0, .string y1, .string y2, .string y3], .int .i64 (X.rg + 1), .int .i64 0]) (by simp [results, Try.results15, go_sem, q0, q1, q2, q3]) rfl ⟨?_, G.out.2⟩
  rfl

def rcvV (X : Ph) (ph pn : Int) : Value :=
  if ph = X.rg % 2 then .tuple #[(kyF X.rh X.rs).val, .int .i64 X.rg, .int .i64 0]
  else if X.lg < pn then .tuple #[(kyF X.rh (nx X.rs)).val, .int .i64 (X.rg + 1), .int .i64 0]
  else if X.kept = true then .tuple #[(kyF X.rh X.old).val, .int .i64 (X.rg - 1), .int .i64 0]
  else .tuple #[.agg #[.string ⟨#[]⟩, .string ⟨#[]⟩, .string ⟨#[]⟩, .string ⟨#[]⟩], .int .i64 0, .int .i64 250]
theorem rcv_any (b : Nat) (X : Ph) (ph pn : Int) (w : World) (hp0 : 0 ≤ ph) (hp1 : ph ≤ 1) (hn0 : 0 ≤ pn) (hn1 : pn ≤ 281474976710655) (hg0 : 0 ≤ X.rg) (hg1 : X.rg ≤ 1000000)
    (hs : X.rs.size = 16) (ho : X.kept = true → X.old.size = 16) (hb : w.heap[b]? = some (.cells X.cells 66 (0, 0))) :
    Calls Try.prog 15 #[.pointer (some ⟨b, 0, none⟩), .int .i64 ph, .int .i64 pn] w fun e w' => e = .returned (rcvV X ph pn) ∧ Below w.heap.size w w' := by
  unfold rcvV
  by_cases h1 : ph = X.rg % 2
  · rw [if_pos h1]; exact rcv_cur b X ph pn w hp0 hp1 hn0 hn1 hg0 hg1 hs h1 hb
  · rw [if_neg h1]
    by_cases h2 : X.lg < pn
    · rw [if_pos h2]; exact rcv_next b X ph pn w hp0 hp1 hn0 hn1 hg0 hg1 hs h1 h2 hb
    · rw [if_neg h2]
      by_cases h3 : X.kept = true
      · rw [if_pos h3]; exact rcv_old b X ph pn w hp0 hp1 hn0 hn1 hg0 hg1 (ho h3) h1 h2 h3 hb
      · rw [if_neg h3]; exact rcv_no b X ph pn w hp0 hp1 hn0 hn1 hg0 hg1 h1 h2 (by simpa using h3) hb
end Go.Proofs.Ytieiplalnekmkaa
