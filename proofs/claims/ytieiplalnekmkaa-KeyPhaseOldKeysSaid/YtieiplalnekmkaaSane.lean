/- Law 25: sane returns true. -/
import Derived.Test.YtieiplalnekmkaaSn
namespace Go.Proofs.Ytieiplalnekmkaa
open Go.RowKit
theorem Ky.len16 (hp s : ByteArray) : (kyF hp s).k.size = 16 := dr_size _ _
theorem two_new {w w1 w2 : World} {s r : ByteArray} {b c : Nat} (h1 : w.heap.size ≤ b ∧ w1.heap[b]? = some (.cells (nwP s r).cells 66 (0, 0)) ∧ Below w.heap.size w w1) (h2 : w1.heap.size ≤ c ∧ w2.heap[c]? = some (.cells (nwP r s).cells 66 (0, 0)) ∧ Below w1.heap.size w1 w2) : Tw w b c (nwP s r) (nwP r s) [] w2 := by
  have := heap_lt h1.2.1
  have := h1.2.2.size
  exact ⟨heap_below h2.2.2 h1.2.1, h2.2.1, by omega, h1.1, by omega, btrans h1.2.2 h2.2.2, fun x hx => by cases hx⟩
set_option maxRecDepth 100000 in
set_option maxHeartbeats 8000000 in
theorem sane_any (w : World) : Calls Try.prog 7 #[] w fun e w' => e = .returned (.bool true) ∧ Below w.heap.size w w' := by
  obtain ⟨A, hA⟩ : ∃ A : ByteArray, A = ⟨#[48, 49, 50, 51, 52, 53, 54, 55, 56, 57, 97, 98, 99, 100, 101, 102]⟩ := ⟨_, rfl⟩
  obtain ⟨B, hB⟩ : ∃ B : ByteArray, B = ⟨#[102, 101, 100, 99, 98, 97, 57, 56, 55, 54, 53, 52, 51, 50, 49, 48]⟩ := ⟨_, rfl⟩
  have NA : Hid (∀ w, Calls Try.prog 21 #[.string ⟨#[48, 49, 50, 51, 52, 53, 54, 55, 56, 57, 97, 98, 99, 100, 101, 102]⟩, .string ⟨#[102, 101, 100, 99, 98, 97, 57, 56, 55, 54, 53, 52, 51, 50, 49, 48]⟩] w (NewOk A B w)) := Lib.hid (by subst hA hB; exact fun w => new_any _ _ w rfl rfl)
  have NB : Hid (∀ w, Calls Try.prog 21 #[.string ⟨#[102, 101, 100, 99, 98, 97, 57, 56, 55, 54, 53, 52, 51, 50, 49, 48]⟩, .string ⟨#[48, 49, 50, 51, 52, 53, 54, 55, 56, 57, 97, 98, 99, 100, 101, 102]⟩] w (NewOk B A w)) := Lib.hid (by subst hA hB; exact fun w => new_any _ _ w rfl rfl)
  have NS : Hid (∀ w, Calls Try.prog 21 #[.string ⟨#[115, 104, 111, 114, 116]⟩, .string ⟨#[48, 49, 50, 51, 52, 53, 54, 55, 56, 57, 97, 98, 99, 100, 101, 102]⟩] w fun e w' => e = .returned (.tuple #[.pointer none, .int .i64 2]) ∧ Below w.heap.size w w') := Lib.hid (fun w => new_bad _ _ w (by decide) rfl)
  have SA : A.size = 16 := by rw [hA]; rfl
  have SB : B.size = 16 := by rw [hB]; rfl
  have HSA := Lib.hid (And.intro SA SB)
  clear hA hB SA SB
  go_enter Try.func7, Try.ntmps7
  go_wp2_with fail
  refine (NA.out _).mono ?_
  rintro e w1 ⟨bp, rfl, h1⟩
  have H1 := Lib.hid h1
  clear h1
  go_wp2_with fail
  refine (NB.out _).mono ?_
  rintro e w2 ⟨bq, rfl, h2⟩
  have H := Lib.hid (two_new H1.out h2)
  clear h2 H1 NA NB
  have K16 := Ky.len16 (exF A).h (nx A)
  have X0 := Lib.hid (fun (w0 w : World) os bp bq (h : Tw w0 bp bq (pa3 A B) (nwP B A) os w) => h.send (show (nx A).size = 16 from nx_size A) (by first | exact (show (0 : Int) ≤ 0 by decide) | exact (show (0 : Int) ≤ 1 by decide) | exact (show (0 : Int) ≤ 1000000 by decide) | exact (show (1 : Int) ≤ 1000000 by decide) | decide))
  have X1 := Lib.hid (x_r0 (A := A) (B := B))
  obtain ⟨K, hK⟩ : ∃ K, kyF (exF A).h (nx A) = K := ⟨_, rfl⟩
  have X2 := Lib.hid (x_r1 (A := A) (B := B))
  obtain ⟨L, hL⟩ : ∃ L, kyF (exF A).h A = L := ⟨_, rfl⟩
  change Hid (∀ (w0 w : World) os bp bq (h : Tw w0 bp bq (pa3 A B) (nwP B A) os w), Calls Try.prog 19 #[.pointer (some ⟨bp, 0, none⟩)] w fun e w' => e = .returned (.tuple #[(kyF (exF A).h (nx A)).val, .int .i64 1]) ∧ Tw w0 bp bq (pa3 A B) (nwP B A) os w') at X0
  rw [hK] at K16 X0 X1
  rw [hL] at X2
  obtain ⟨K0, K1, K2, K3⟩ := K
  obtain ⟨L0, L1, L2, L3⟩ := L
  simp only at K16
  have K16' := Lib.hid K16
  unfold Ky.val Ky.cells at X0 X1 X2
  simp only at X0 X1 X2
  clear hK hL K16
  have C := H.out.upd HSA.out.1 (by first | exact (show (0 : Int) ≤ 0 by decide) | exact (show (0 : Int) ≤ 1 by decide) | exact (show (0 : Int) ≤ 1000000 by decide) | exact (show (1 : Int) ≤ 1000000 by decide) | decide) (by first | exact (show (0 : Int) ≤ 0 by decide) | exact (show (0 : Int) ≤ 1 by decide) | exact (show (0 : Int) ≤ 1000000 by decide) | exact (show (1 : Int) ≤ 1000000 by decide) | decide)
  rw [x_u0.1, x_u0.2] at C
  have CC := Lib.hid C
  clear C
  go_wp2_with fail
  refine CC.out.mono ?_
  rintro e w3 ⟨rfl, h⟩
  have H2 := Lib.hid h
  clear h H CC
  have H := Lib.hid H2.out
  clear H2
  have C := H.out.sent 0
  rw [x_s0] at C
  have CC := Lib.hid C
  clear C
  go_wp2_with fail
  refine CC.out.mono ?_
  rintro e w4 ⟨⟨v, rfl⟩, h⟩
  have H2 := Lib.hid h
  clear h H CC
  have H := Lib.hid H2.out
  clear H2
  have C := H.out.acked 0
  rw [x_a0] at C
  have CC := Lib.hid C
  clear C
  go_wp2_with fail
  refine CC.out.mono ?_
  rintro e w5 ⟨⟨v, rfl⟩, h⟩
  have H2 := Lib.hid h
  clear h H CC
  have H := Lib.hid H2.out
  clear H2
  have C := H.out.upd HSA.out.1 (by first | exact (show (0 : Int) ≤ 0 by decide) | exact (show (0 : Int) ≤ 1 by decide) | exact (show (0 : Int) ≤ 1000000 by decide) | exact (show (1 : Int) ≤ 1000000 by decide) | decide) (by first | exact (show (0 : Int) ≤ 0 by decide) | exact (show (0 : Int) ≤ 1 by decide) | exact (show (0 : Int) ≤ 1000000 by decide) | exact (show (1 : Int) ≤ 1000000 by decide) | decide)
  rw [x_u1.1, x_u1.2] at C
  have CC := Lib.hid C
  clear C
  go_wp2_with fail
  refine CC.out.mono ?_
  rintro e w6 ⟨rfl, h⟩
  have H2 := Lib.hid h
  clear h H CC
  have H := Lib.hid H2.out
  clear H2
  have C := H.out.upd (nx_size A) (by first | exact (show (0 : Int) ≤ 0 by decide) | exact (show (0 : Int) ≤ 1 by decide) | exact (show (0 : Int) ≤ 1000000 by decide) | exact (show (1 : Int) ≤ 1000000 by decide) | decide) (by first | exact (show (0 : Int) ≤ 0 by decide) | exact (show (0 : Int) ≤ 1 by decide) | exact (show (0 : Int) ≤ 1000000 by decide) | exact (show (1 : Int) ≤ 1000000 by decide) | decide)
  rw [x_u2.1, x_u2.2] at C
  have CC := Lib.hid C
  clear C
  go_wp2_with fail
  refine CC.out.mono ?_
  rintro e w7 ⟨rfl, h⟩
  have H2 := Lib.hid h
  clear h H CC
  have H := Lib.hid H2.out
  clear H2
  have C := X0.out _ _ _ _ _ H.out
  have CC := Lib.hid C
  clear C
  go_wp2_with fail
  refine CC.out.mono ?_
  rintro e w8 ⟨rfl, h⟩
  have H2 := Lib.hid h
  clear h H CC
  have H := Lib.hid H2.out
  clear H2
  have H2 := Lib.hid (H.out.alloc (.cells #[.string K0, .string K1, .string K2, .string K3] 42))
  clear H
  have H := Lib.hid H2.out
  clear H2
  have C := H.out.swap.rcv 1 1 (by first | exact (show (0 : Int) ≤ 0 by decide) | exact (show (0 : Int) ≤ 1 by decide) | exact (show (0 : Int) ≤ 1000000 by decide) | exact (show (1 : Int) ≤ 1000000 by decide) | decide) (by first | exact (show (0 : Int) ≤ 0 by decide) | exact (show (0 : Int) ≤ 1 by decide) | exact (show (0 : Int) ≤ 1000000 by decide) | exact (show (1 : Int) ≤ 1000000 by decide) | decide) (by first | exact (show (0 : Int) ≤ 0 by decide) | exact (show (0 : Int) ≤ 1 by decide) | exact (show (0 : Int) ≤ 1000000 by decide) | exact (show (1 : Int) ≤ 1000000 by decide) | decide) (by first | exact (show (0 : Int) ≤ 0 by decide) | exact (show (0 : Int) ≤ 1 by decide) | exact (show (0 : Int) ≤ 1000000 by decide) | exact (show (1 : Int) ≤ 1000000 by decide) | decide) (by first | exact (show (0 : Int) ≤ 0 by decide) | exact (show (0 : Int) ≤ 1 by decide) | exact (show (0 : Int) ≤ 1000000 by decide) | exact (show (1 : Int) ≤ 1000000 by decide) | decide) (by first | exact (show (0 : Int) ≤ 0 by decide) | exact (show (0 : Int) ≤ 1 by decide) | exact (show (0 : Int) ≤ 1000000 by decide) | exact (show (1 : Int) ≤ 1000000 by decide) | decide) HSA.out.1 (fun h => by cases h)
  rw [X1.out] at C
  have CC := Lib.hid C
  clear C
  go_wp2_with fail
  refine CC.out.mono ?_
  rintro e w9 ⟨rfl, h⟩
  have H2 := Lib.hid h
  clear h H CC
  have H := Lib.hid H2.out
  clear H2
  have H2 := Lib.hid (H.out.alloc (.cells #[.string K0, .string K1, .string K2, .string K3] 42))
  clear H
  have H := Lib.hid H2.out
  clear H2
  have C := H.out.opn 50 1 1 (by first | exact (show (0 : Int) ≤ 0 by decide) | exact (show (0 : Int) ≤ 1 by decide) | exact (show (0 : Int) ≤ 1000000 by decide) | exact (show (1 : Int) ≤ 1000000 by decide) | decide) (by first | exact (show (0 : Int) ≤ 0 by decide) | exact (show (0 : Int) ≤ 1 by decide) | exact (show (0 : Int) ≤ 1000000 by decide) | exact (show (1 : Int) ≤ 1000000 by decide) | decide) (by first | exact (show (0 : Int) ≤ 0 by decide) | exact (show (0 : Int) ≤ 1 by decide) | exact (show (0 : Int) ≤ 1000000 by decide) | exact (show (1 : Int) ≤ 1000000 by decide) | decide) (by first | exact (show (0 : Int) ≤ 0 by decide) | exact (show (0 : Int) ≤ 1 by decide) | exact (show (0 : Int) ≤ 1000000 by decide) | exact (show (1 : Int) ≤ 1000000 by decide) | decide) (by first | exact (show (0 : Int) ≤ 0 by decide) | exact (show (0 : Int) ≤ 1 by decide) | exact (show (0 : Int) ≤ 1000000 by decide) | exact (show (1 : Int) ≤ 1000000 by decide) | decide) (by first | exact (show (0 : Int) ≤ 0 by decide) | exact (show (0 : Int) ≤ 1 by decide) | exact (show (0 : Int) ≤ 1000000 by decide) | exact (show (1 : Int) ≤ 1000000 by decide) | decide) (by first | exact (show (0 : Int) ≤ 0 by decide) | exact (show (0 : Int) ≤ 1 by decide) | exact (show (0 : Int) ≤ 1000000 by decide) | exact (show (1 : Int) ≤ 1000000 by decide) | decide) (by first | exact (show (0 : Int) ≤ 0 by decide) | exact (show (0 : Int) ≤ 1 by decide) | exact (show (0 : Int) ≤ 1000000 by decide) | exact (show (1 : Int) ≤ 1000000 by decide) | decide) (.inr (.inr rfl)) HSA.out.1 HSA.out.2 (.inl ⟨rfl, rfl⟩) (.inl ⟨rfl, rfl⟩)
  rw [x_o0.1, x_o0.2] at C
  have CC := Lib.hid C
  clear C
  go_wp2_with fail
  refine CC.out.mono ?_
  rintro e w10 ⟨rfl, h⟩
  have H2 := Lib.hid h
  clear h H CC
  have H := Lib.hid H2.out
  clear H2
  have C := H.out.gen
  have CC := Lib.hid C
  clear C
  go_wp2_with fail
  refine CC.out.mono ?_
  rintro e w11 ⟨rfl, h⟩
  have H2 := Lib.hid h
  clear h H CC
  have H := Lib.hid H2.out
  clear H2
  have C := H.out.rcv 0 0 (by first | exact (show (0 : Int) ≤ 0 by decide) | exact (show (0 : Int) ≤ 1 by decide) | exact (show (0 : Int) ≤ 1000000 by decide) | exact (show (1 : Int) ≤ 1000000 by decide) | decide) (by first | exact (show (0 : Int) ≤ 0 by decide) | exact (show (0 : Int) ≤ 1 by decide) | exact (show (0 : Int) ≤ 1000000 by decide) | exact (show (1 : Int) ≤ 1000000 by decide) | decide) (by first | exact (show (0 : Int) ≤ 0 by decide) | exact (show (0 : Int) ≤ 1 by decide) | exact (show (0 : Int) ≤ 1000000 by decide) | exact (show (1 : Int) ≤ 1000000 by decide) | decide) (by first | exact (show (0 : Int) ≤ 0 by decide) | exact (show (0 : Int) ≤ 1 by decide) | exact (show (0 : Int) ≤ 1000000 by decide) | exact (show (1 : Int) ≤ 1000000 by decide) | decide) (by first | exact (show (0 : Int) ≤ 0 by decide) | exact (show (0 : Int) ≤ 1 by decide) | exact (show (0 : Int) ≤ 1000000 by decide) | exact (show (1 : Int) ≤ 1000000 by decide) | decide) (by first | exact (show (0 : Int) ≤ 0 by decide) | exact (show (0 : Int) ≤ 1 by decide) | exact (show (0 : Int) ≤ 1000000 by decide) | exact (show (1 : Int) ≤ 1000000 by decide) | decide) (nx_size A) (fun _ => HSA.out.1)
  rw [X2.out] at C
  have CC := Lib.hid C
  clear C
  go_wp2_with fail
  refine CC.out.mono ?_
  rintro e w12 ⟨rfl, h⟩
  have H2 := Lib.hid h
  clear h H CC
  have H := Lib.hid H2.out
  clear H2
  have H2 := Lib.hid (H.out.alloc (.cells #[.string L0, .string L1, .string L2, .string L3] 42))
  clear H
  have H := Lib.hid H2.out
  clear H2
  have C := H.out.tick 149
  rw [x_t0] at C
  have CC := Lib.hid C
  clear C
  go_wp2_with fail
  refine CC.out.mono ?_
  rintro e w13 ⟨⟨v, rfl⟩, h⟩
  have H2 := Lib.hid h
  clear h H CC
  have H := Lib.hid H2.out
  clear H2
  have C := H.out.rcv 0 0 (by first | exact (show (0 : Int) ≤ 0 by decide) | exact (show (0 : Int) ≤ 1 by decide) | exact (show (0 : Int) ≤ 1000000 by decide) | exact (show (1 : Int) ≤ 1000000 by decide) | decide) (by first | exact (show (0 : Int) ≤ 0 by decide) | exact (show (0 : Int) ≤ 1 by decide) | exact (show (0 : Int) ≤ 1000000 by decide) | exact (show (1 : Int) ≤ 1000000 by decide) | decide) (by first | exact (show (0 : Int) ≤ 0 by decide) | exact (show (0 : Int) ≤ 1 by decide) | exact (show (0 : Int) ≤ 1000000 by decide) | exact (show (1 : Int) ≤ 1000000 by decide) | decide) (by first | exact (show (0 : Int) ≤ 0 by decide) | exact (show (0 : Int) ≤ 1 by decide) | exact (show (0 : Int) ≤ 1000000 by decide) | exact (show (1 : Int) ≤ 1000000 by decide) | decide) (by first | exact (show (0 : Int) ≤ 0 by decide) | exact (show (0 : Int) ≤ 1 by decide) | exact (show (0 : Int) ≤ 1000000 by decide) | exact (show (1 : Int) ≤ 1000000 by decide) | decide) (by first | exact (show (0 : Int) ≤ 0 by decide) | exact (show (0 : Int) ≤ 1 by decide) | exact (show (0 : Int) ≤ 1000000 by decide) | exact (show (1 : Int) ≤ 1000000 by decide) | decide) (nx_size A) (fun _ => HSA.out.1)
  rw [X2.out] at C
  have CC := Lib.hid C
  clear C
  go_wp2_with fail
  refine CC.out.mono ?_
  rintro e w14 ⟨rfl, h⟩
  have H2 := Lib.hid h
  clear h H CC
  have H := Lib.hid H2.out
  clear H2
  have H2 := Lib.hid (H.out.alloc (.cells #[.string L0, .string L1, .string L2, .string L3] 42))
  clear H
  have H := Lib.hid H2.out
  clear H2
  have C := H.out.tick 150
  rw [x_t1] at C
  have CC := Lib.hid C
  clear C
  go_wp2_with fail
  refine CC.out.mono ?_
  rintro e w15 ⟨⟨v, rfl⟩, h⟩
  have H2 := Lib.hid h
  clear h H CC
  have H := Lib.hid H2.out
  clear H2
  have C := H.out.rcv 0 0 (by first | exact (show (0 : Int) ≤ 0 by decide) | exact (show (0 : Int) ≤ 1 by decide) | exact (show (0 : Int) ≤ 1000000 by decide) | exact (show (1 : Int) ≤ 1000000 by decide) | decide) (by first | exact (show (0 : Int) ≤ 0 by decide) | exact (show (0 : Int) ≤ 1 by decide) | exact (show (0 : Int) ≤ 1000000 by decide) | exact (show (1 : Int) ≤ 1000000 by decide) | decide) (by first | exact (show (0 : Int) ≤ 0 by decide) | exact (show (0 : Int) ≤ 1 by decide) | exact (show (0 : Int) ≤ 1000000 by decide) | exact (show (1 : Int) ≤ 1000000 by decide) | decide) (by first | exact (show (0 : Int) ≤ 0 by decide) | exact (show (0 : Int) ≤ 1 by decide) | exact (show (0 : Int) ≤ 1000000 by decide) | exact (show (1 : Int) ≤ 1000000 by decide) | decide) (by first | exact (show (0 : Int) ≤ 0 by decide) | exact (show (0 : Int) ≤ 1 by decide) | exact (show (0 : Int) ≤ 1000000 by decide) | exact (show (1 : Int) ≤ 1000000 by decide) | decide) (by first | exact (show (0 : Int) ≤ 0 by decide) | exact (show (0 : Int) ≤ 1 by decide) | exact (show (0 : Int) ≤ 1000000 by decide) | exact (show (1 : Int) ≤ 1000000 by decide) | decide) (nx_size A) (fun h => by cases h)
  rw [x_r2] at C
  have CC := Lib.hid C
  clear C
  go_wp2_with fail
  refine CC.out.mono ?_
  rintro e w16 ⟨rfl, h⟩
  have H2 := Lib.hid h
  clear h H CC
  have H := Lib.hid H2.out
  clear H2
  have H2 := Lib.hid (H.out.alloc (.cells #[.string ⟨#[]⟩, .string ⟨#[]⟩, .string ⟨#[]⟩, .string ⟨#[]⟩] 42))
  clear H
  have H := Lib.hid H2.out
  clear H2
  go_wp2_with fail
  refine (NS.out _).mono ?_
  rintro e w17 ⟨rfl, h⟩
  have H2 := Lib.hid (H.out.below h)
  clear h H
  have g0 := H2.out.at (k := w8.heap.size) (o := .cells #[.string K0, .string K1, .string K2, .string K3] 42) (by simp)
  have g1 := H2.out.at (k := w9.heap.size) (o := .cells #[.string K0, .string K1, .string K2, .string K3] 42) (by simp)
  have k0 : w17.cell? ⟨w8.heap.size, 0, none⟩ = some (.string K0) := at_whole g0 0 rfl
  have k1 : w17.cell? ⟨w8.heap.size, 1, none⟩ = some (.string K1) := at_whole g0 1 rfl
  have k2 : w17.cell? ⟨w8.heap.size, 2, none⟩ = some (.string K2) := at_whole g0 2 rfl
  have k3 : w17.cell? ⟨w8.heap.size, 3, none⟩ = some (.string K3) := at_whole g0 3 rfl
  have m0 : w17.cell? ⟨w9.heap.size, 0, none⟩ = some (.string K0) := at_whole g1 0 rfl
  have m1 : w17.cell? ⟨w9.heap.size, 1, none⟩ = some (.string K1) := at_whole g1 1 rfl
  have m2 : w17.cell? ⟨w9.heap.size, 2, none⟩ = some (.string K2) := at_whole g1 2 rfl
  have m3 : w17.cell? ⟨w9.heap.size, 3, none⟩ = some (.string K3) := at_whole g1 3 rfl
  have K16 := K16'.out
  clear g0 g1 X0 X1 X2
  go_wp2_with (go_at_call 10; refine (up_nil _).mono ?_; rintro e w18 ⟨rfl, rfl⟩)
  go_ret
  exact ⟨rfl, H2.out.bel⟩
end Go.Proofs.Ytieiplalnekmkaa
