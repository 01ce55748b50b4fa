/- Law 25: KeyPhaseKeys' walk. -/
import Derived.Test.YtieiplalnekmkaaKa
namespace Go.Proofs.Ytieiplalnekmkaa.keyPhaseKeys
open Go.RowKit
theorem sub {w0 w : World} {bp bq : Nat} {X Y : Ph} {os os' : List (Nat × Obj)} (h : Tw w0 bp bq X Y os w) (hs : ∀ x ∈ os', x ∈ os) : Tw w0 bp bq X Y os' w := ⟨h.hp, h.hq, h.ne, h.lp, h.lq, h.bel, fun x hx => h.ho x (hs x hx)⟩
set_option maxRecDepth 100000 in
set_option maxHeartbeats 16000000 in
theorem walk (s t : ByteArray) (mi : Int) (w : World) (hs : s.size ≤ maxLen) (ht : t.size ≤ maxLen) (hm : -9223372036854775808 ≤ mi ∧ mi ≤ 9223372036854775807) :
    Calls Try.prog 6 #[.string s, .string t, .int .i64 mi] w fun e w' => e = .returned (.bool true) ∧ Below w.heap.size w w' := by
  have PA := Lib.hid (fun w => pair_any s t w hs ht)
  have P1 := Lib.hid (fun w => pick_any mi 6 w hm.1 hm.2 (by decide) (by decide))
  have r1 := pickF_range mi 6 (by decide)
  have sz := Lib.hid (And.intro (sec_size s) (sec_size t))
  have SF := Lib.hid (fun w => sf_any (cutF s) w (cutF_size s))
  have EX := Lib.hid (fun i w => ex_any (sN (sec s) i) w (sN_size _ (sec_size s) i))
  have NX := Lib.hid (fun i w => next_any (sN (sec s) i) w (sN_size _ (sec_size s) i))
  have a1 : (if (20 : Int) < (s.size : Int) then 20 else (s.size : Int)) = ((min s.size 20 : Nat) : Int) := by omega
  have l1 : min s.size 20 ≤ s.size := Nat.min_le_left _ _
  change Hid (∀ w, Calls Try.prog 17 #[.string (s.extract 0 (min s.size 20))] w fun e w' => e = .returned (.string (sec s)) ∧ Below w.heap.size w w') at SF
  generalize sec s = a at *
  generalize sec t = b at *
  generalize pickF mi 6 = q at *
  unfold maxLen at hs ht
  generalize min s.size 20 = m at *
  have m0 : (0 : Int) ≤ (m : Int) := by omega
  have m1 : (m : Int) ≤ (s.size : Int) := by omega
  obtain ⟨q0, q1⟩ := r1
  clear hm
  go_enter Try.func6, Try.ntmps6
  go_wp2_with fail
  refine (sane_any _).mono ?_
  rintro e w1 ⟨rfl, h1⟩
  have H1 := Lib.hid h1
  clear h1
  go_wp2_with fail
  refine (PA.out _).mono ?_
  rintro e w2 ⟨W, bp, bq, rfl, h2⟩
  have H := Lib.hid h2
  have c0 : w2.cell? ⟨W, 0, none⟩ = some (.pointer (some ⟨bp, 0, none⟩)) := at_whole (h2.at (k := W) (List.mem_cons.2 (.inl rfl))) 0 rfl
  clear h2
  clear c0
  go_wp2_with fail
  refine (SF.out _).mono ?_
  rintro e w3 ⟨rfl, h3⟩
  have H2 := Lib.hid (H.out.below h3)
  clear h3 H
  go_wp2_with fail
  refine (EX.out 0 _).mono ?_
  rintro e w4 ⟨rfl, h4⟩
  have H3 := Lib.hid (H2.out.below h4)
  have HE : Hid (exF (sN a 0) = exF a) := Lib.hid rfl
  clear h4 H2
  obtain ⟨F, hF⟩ : ∃ F, exF (sN a 0) = F := ⟨_, rfl⟩
  have HFa := Lib.hid (hF.symm.trans HE.out)
  rw [hF]
  clear hF HE
  obtain ⟨F0, F1, F2, hp⟩ := F
  have Hhp : Hid ((exF a).h = hp) := Lib.hid (by rw [← HFa.out])
  unfold Ky.val Ky.cells
  simp only
  go_wp2
  have H4 := Lib.hid (H3.out.alloc (.cells #[.string F0, .string F1, .string F2, .string hp] 42))
  clear H3
  obtain ⟨fb, hfb⟩ : ∃ fb, w4.heap.size = fb := ⟨_, rfl⟩
  rw [hfb] at H4 ⊢
  clear hfb
  generalize w4.alloc (.cells #[.string F0, .string F1, .string F2, .string hp] 42) = V at H4 ⊢
  go_loopw [13, 10] (fun i sv wr => ∃ (j : Nat) (X Y : Ph), (j : Int) ≤ 1 + q ∧ i = .int .i64 j ∧ sv = .string (sN a j) ∧ IX a j X ∧ IY a j Y ∧ Tw w1 bp bq X Y [(fb, .cells #[.string F0, .string F1, .string F2, .string hp] 42), (W, .cells #[.pointer (some ⟨bp, 0, none⟩), .pointer (some ⟨bq, 0, none⟩), .slice none 0 0, .slice none 0 0, .int .i64 0] 31)] wr) (fun i _ _ => (1 + q - intOf i).toNat)
  case atStart => exact ⟨0, nwP a b, nwP b a, by omega, rfl, rfl, IX.start a b sz.out.2, IY.start a b sz.out.2, H4.out⟩
  case round =>
    obtain ⟨j, X, Y, hj, rfl, rfl, hX, hY, hT⟩ := hrel
    have HX := Lib.hid hX
    have HY := Lib.hid hY
    have H := Lib.hid hT
    clear hX hY hT H4
    by_cases hlt : (j : Int) < 1 + q
    · have cf : wr.cell? ⟨fb, 3, none⟩ = some (.string hp) := at_whole (H.out.at (List.mem_cons.2 (.inl rfl))) 3 rfl
      go_wp2_with fail
      refine (P1.out _).mono ?_
      rintro e wn ⟨rfl, rfl⟩
      clear cf
      go_wp2_with fail
      refine (EX.out j _).mono ?_
      rintro e w5 ⟨rfl, h5⟩
      have H5 := Lib.hid (H.out.below h5)
      clear h5 H
      obtain ⟨K, hK⟩ : ∃ K, exF (sN a j) = K := ⟨_, rfl⟩
      have HKK : Hid (kyF (exF a).h (sN a j) = ⟨K.k, K.i, K.m, hp⟩) := Lib.hid (by unfold kyF; rw [hK, Hhp.out])
      rw [hK]
      clear hK
      obtain ⟨K0, K1, K2, K3⟩ := K
      unfold Ky.val Ky.cells
      simp only
      have cf : w5.cell? ⟨fb, 3, none⟩ = some (.string hp) := at_whole (H5.out.at (List.mem_cons.2 (.inl rfl))) 3 rfl
      have lf : fb < w5.heap.size := heap_lt (H5.out.at (List.mem_cons.2 (.inl rfl)))
      have cw : w5.cell? ⟨W, 0, none⟩ = some (.pointer (some ⟨bp, 0, none⟩)) := at_whole (H5.out.at (List.mem_cons.2 (.inr (List.mem_cons.2 (.inl rfl))))) 0 rfl
      have lw : W < w5.heap.size := heap_lt (H5.out.at (List.mem_cons.2 (.inr (List.mem_cons.2 (.inl rfl)))))
      go_wp2_with fail
      have H6 := Lib.hid (H5.out.alloc (.cells #[.string K0, .string K1, .string K2, .string hp] 42))
      have C := H6.out.send (by rw [HX.out.ss]; exact sN_size a sz.out.1 j) (by rw [HX.out.sg]; omega)
      rw [HX.out.sh, HX.out.ss, HX.out.sg, HKK.out] at C
      unfold Ky.val Ky.cells at C
      simp only at C
      have CC := Lib.hid C
      clear C H5 cf lf cw lw
      refine CC.out.mono ?_
      rintro e w6 ⟨rfl, h6⟩
      have H7 := Lib.hid h6
      clear h6 H6 CC
      have cw : w6.cell? ⟨W, 1, none⟩ = some (.pointer (some ⟨bq, 0, none⟩)) := at_whole (H7.out.at (k := W) (List.mem_cons.2 (.inr (List.mem_cons.2 (.inr (List.mem_cons.2 (.inl rfl))))))) 1 rfl
      have lw : W < w6.heap.size := heap_lt (H7.out.at (k := W) (List.mem_cons.2 (.inr (List.mem_cons.2 (.inr (List.mem_cons.2 (.inl rfl)))))))
      go_wp2_with fail
      have H8 := Lib.hid (H7.out.alloc (.cells #[.string K0, .string K1, .string K2, .string hp] 42))
      have C := H8.out.swap.rcv ((j : Int) % 2) (2 * (j : Int) + 1) (by omega) (by omega) (by omega) (by omega) (by rw [HY.out.rg]; omega) (by rw [HY.out.rg]; omega) (by rw [HY.out.rs]; exact sN_size a sz.out.1 _) HY.out.ok
      rw [HY.out.rcv, HKK.out] at C
      unfold Ky.val Ky.cells at C
      simp only at C
      have CC := Lib.hid C
      clear C H7 cw lw
      refine CC.out.mono ?_
      rintro e w7 ⟨rfl, h7⟩
      have H9 := Lib.hid h7.swap
      clear h7 H8 CC
      have g14 := H9.out.at (k := w5.heap.size) (o := .cells #[.string K0, .string K1, .string K2, .string hp] 42) (List.mem_cons.2 (.inr (List.mem_cons.2 (.inl rfl))))
      have g16 := H9.out.at (k := w6.heap.size) (o := .cells #[.string K0, .string K1, .string K2, .string hp] 42) (List.mem_cons.2 (.inl rfl))
      have gW := H9.out.at (k := W) (List.mem_cons.2 (.inr (List.mem_cons.2 (.inr (List.mem_cons.2 (.inr (List.mem_cons.2 (.inl rfl))))))))
      have x0 : w7.cell? ⟨w5.heap.size, 0, none⟩ = some (.string K0) := at_whole g14 0 rfl
      have x1 : w7.cell? ⟨w5.heap.size, 1, none⟩ = some (.string K1) := at_whole g14 1 rfl
      have x2 : w7.cell? ⟨w5.heap.size, 2, none⟩ = some (.string K2) := at_whole g14 2 rfl
      have x3 : w7.cell? ⟨w5.heap.size, 3, none⟩ = some (.string hp) := at_whole g14 3 rfl
      have y0 : w7.cell? ⟨w6.heap.size, 0, none⟩ = some (.string K0) := at_whole g16 0 rfl
      have y1 : w7.cell? ⟨w6.heap.size, 1, none⟩ = some (.string K1) := at_whole g16 1 rfl
      have y2 : w7.cell? ⟨w6.heap.size, 2, none⟩ = some (.string K2) := at_whole g16 2 rfl
      have y3 : w7.cell? ⟨w6.heap.size, 3, none⟩ = some (.string hp) := at_whole g16 3 rfl
      have cw : w7.cell? ⟨W, 0, none⟩ = some (.pointer (some ⟨bp, 0, none⟩)) := at_whole gW 0 rfl
      have lx : w5.heap.size < w7.heap.size := heap_lt g14
      have ly : w6.heap.size < w7.heap.size := heap_lt g16
      have lw : W < w7.heap.size := heap_lt gW
      clear g14 g16 gW
      go_wp2_with fail
      have H10 := Lib.hid (sub (H9.out.alloc (.cells #[.string K0, .string K1, .string K2, .string hp] 42)) (os' := [(fb, .cells #[.string F0, .string F1, .string F2, .string hp] 42), (W, .cells #[.pointer (some ⟨bp, 0, none⟩), .pointer (some ⟨bq, 0, none⟩), .slice none 0 0, .slice none 0 0, .int .i64 0] 31)]) (fun x hx => List.mem_cons.2 (.inr (List.mem_cons.2 (.inr (List.mem_cons.2 (.inr hx)))))))
      clear H9 x0 x1 x2 x3 y0 y1 y2 y3 cw lx ly lw
      refine (H10.out.sent (2 * (j : Int))).mono ?_
      rintro e w8 ⟨⟨v8, rfl⟩, h8⟩
      have H11 := Lib.hid h8
      clear h8 H10
      have cw : w8.cell? ⟨W, 0, none⟩ = some (.pointer (some ⟨bp, 0, none⟩)) := at_whole (H11.out.at (k := W) (List.mem_cons.2 (.inr (List.mem_cons.2 (.inl rfl))))) 0 rfl
      go_wp2_with fail
      clear cw
      have C := H11.out.acked (2 * (j : Int))
      rw [HX.out.conf] at C
      have CC := Lib.hid C
      clear C
      refine CC.out.mono ?_
      rintro e w9 ⟨⟨v9, rfl⟩, h9⟩
      have H12 := Lib.hid h9
      clear h9 H11 CC
      have cw : w9.cell? ⟨W, 1, none⟩ = some (.pointer (some ⟨bq, 0, none⟩)) := at_whole (H12.out.at (k := W) (List.mem_cons.2 (.inr (List.mem_cons.2 (.inl rfl))))) 1 rfl
      go_wp2_with fail
      clear cw
      have C := H12.out.swap.opn j j (2 * (j : Int) + 1) (by omega) (by omega) (by omega) (by omega) (by rw [HY.out.rg]; omega) (by rw [HY.out.rg]; omega) (by rw [HY.out.sg]; omega) (by rw [HY.out.sg]; omega) (by rw [HY.out.rg]; omega) (by rw [HY.out.rs]; exact sN_size a sz.out.1 _) HY.out.ss HY.out.ca HY.out.cb
      rw [(HY.out.opn sz.out.1).1] at C
      have CC := Lib.hid C
      clear C
      refine CC.out.mono ?_
      rintro e w10 ⟨rfl, h10⟩
      have H13 := Lib.hid h10.swap
      have HY2 := Lib.hid (HY.out.opn sz.out.1).2
      clear h10 H12 CC HY
      have cw : w10.cell? ⟨W, 0, none⟩ = some (.pointer (some ⟨bp, 0, none⟩)) := at_whole (H13.out.at (k := W) (List.mem_cons.2 (.inr (List.mem_cons.2 (.inl rfl))))) 0 rfl
      by_cases hj0 : 0 < j
      · have hj1 : (0 : Int) < (j : Int) := by omega
        go_wp2_with fail
        clear cw
        have hsg := HX.out.sg
        have hrg := HX.out.rg
        have C := H13.out.opn j j (2 * (j : Int) + 1) (by omega) (by omega) (by omega) (by omega) (show 0 ≤ X.rg by omega) (show X.rg ≤ 1000000 by omega) (show 0 ≤ X.sg by omega) (show X.sg ≤ 1000000 by omega) (.inr (.inr (show (j : Int) = X.rg + 1 by omega))) (show X.rs.size = 16 from HX.out.rs) (show X.ss.size = 16 by rw [HX.out.ss]; exact sN_size a sz.out.1 _) HX.out.ca HX.out.cb
        rw [(HX.out.opn hj0).1, (HX.out.opn hj0).2] at C
        have CC := Lib.hid C
        clear C
        refine CC.out.mono ?_
        rintro e w11 ⟨rfl, h11⟩
        have H14 := Lib.hid h11
        clear h11 H13 CC
        have cw : w11.cell? ⟨W, 0, none⟩ = some (.pointer (some ⟨bp, 0, none⟩)) := at_whole (H14.out.at (k := W) (List.mem_cons.2 (.inr (List.mem_cons.2 (.inl rfl))))) 0 rfl
        have C := H14.out.upd (show X.ss.size = 16 by rw [HX.out.ss]; exact sN_size a sz.out.1 _) (show 0 ≤ X.sg by omega) (show X.sg ≤ 1000000 by omega)
        rw [(HX.out.upd1 hj0).1] at C
        have CC := Lib.hid C
        have HX2 := Lib.hid (HX.out.upd1 hj0).2
        clear C hsg hrg
        go_wp2_with fail
        refine CC.out.mono ?_
        rintro e w12 ⟨rfl, h12⟩
        have H15 := Lib.hid h12
        clear h12 H14 CC cw
        go_wp2_with fail
        refine (NX.out j _).mono ?_
        rintro e w13 ⟨rfl, h13⟩
        have H16 := Lib.hid (H15.out.below h13)
        clear h13 H15
        go_wp2
        go_roundw
        case rel => exact ⟨j + 1, _, _, by omega, by go_num, rfl, HX2.out, HY2.out, H16.out⟩
        case measure => simp [intOf]; omega
      · obtain rfl : j = 0 := by omega
        have C := H13.out.upd (show X.ss.size = 16 by rw [HX.out.ss]; exact sN_size a sz.out.1 _) (show 0 ≤ X.sg by rw [HX.out.sg]; omega) (show X.sg ≤ 1000000 by rw [HX.out.sg]; omega)
        rw [HX.out.upd0.1] at C
        have CC := Lib.hid C
        have HX2 := Lib.hid HX.out.upd0.2
        clear C
        go_wp2_with fail
        refine CC.out.mono ?_
        rintro e w12 ⟨rfl, h12⟩
        have H15 := Lib.hid h12
        clear h12 CC cw H13
        go_wp2_with fail
        refine (NX.out 0 _).mono ?_
        rintro e w13 ⟨rfl, h13⟩
        have H16 := Lib.hid (H15.out.below h13)
        clear h13 H15
        go_wp2
        go_roundw
        case rel => exact ⟨0 + 1, _, _, by omega, by go_num, rfl, HX2.out, HY2.out, H16.out⟩
        case measure => simp [intOf]; omega
    · go_wp2_with fail
      refine (P1.out _).mono ?_
      rintro e wn ⟨rfl, rfl⟩
      go_wp2
      go_ret
      exact ⟨rfl, btrans H1.out H.out.bel⟩
open Go.ChangeShapes Go.WideShapes in
set_option maxRecDepth 100000 in
theorem main {H : Type} {enc : TypeId × Value → H} (W : World) (base0 : Nat) (v0 : Value) (d0 : DataW H) (p0 : List MemPlace) (hv0 : Value.okWide Try.prog W .any base0 9 v0) (h0 : DataW.Trod enc Try.prog W 0 (fun _ => true) true 9 v0 d0 p0)
    (base1 : Nat) (v1 : Value) (d1 : DataW H) (p1 : List MemPlace) (hv1 : Value.okWide Try.prog W .any base1 9 v1) (h1 : DataW.Trod enc Try.prog W 0 (fun _ => true) true 9 v1 d1 p1)
    (base2 : Nat) (v2 : Value) (d2 : DataW H) (p2 : List MemPlace) (hv2 : Value.okWide Try.prog W .any base2 3 v2) (h2 : DataW.Trod enc Try.prog W 0 (fun _ => true) true 3 v2 d2 p2) :
    Calls Try.prog 6 #[v0, v1, v2] W fun e w' => e = .returned (.bool true) ∧ Below W.heap.size W w' := by
  obtain ⟨s, rfl, _, _, hs⟩ := Go.ChangeMaps.open_string Try.underlying9 hv0 h0
  obtain ⟨t, rfl, _, _, ht⟩ := Go.ChangeMaps.open_string Try.underlying9 hv1 h1
  obtain ⟨a, rfl, _, _, w2⟩ := open_int Try.underlying3 hv2 h2
  exact walk s t a W hs ht (wf_bounds w2)
end Go.Proofs.Ytieiplalnekmkaa.keyPhaseKeys
