/- Law 13: LossAckAgain's walk. -/
import Derived.Test.YtafkndhnbnpahaaGreatZl
import Derived.Test.YtafkndhnbnpahaaGreatAi
namespace Go.Proofs.YtafkndhnbnpahaaGreat.lossAckAgain
open Go.RowKit Go.WideShapes Go.ChangeShapes
def pk (i : Nat) : Pk := ⟨i, i, 0, false, .slice none 0 0⟩
/-- what of a CallParams ackFrom reads -/
structure CpOk (w : World) (c : Cp) : Prop where
  sp : ∃ n F T, SpArg w c.sv n F T ∧ n ≤ 9223372036854775807
  last : I64 c.last
  fs : ∃ a n k, c.fsv = .slice a n k
  fv : ∃ a n k, c.p.fv = .slice a n k
theorem CpOk.below {w w' : World} {c : Cp} (h : CpOk w c) (hb : Below w.heap.size w w') : CpOk w' c := by
  obtain ⟨⟨n, F, T, h1, h2⟩, h3, h4, h5⟩ := h
  exact ⟨⟨n, F, T, h1.below hb, h2⟩, h3, h4, h5⟩
set_option maxRecDepth 100000 in
set_option maxHeartbeats 2000000 in
theorem acked_cell (b : Nat) (lg : Int) (w : World) (c : w.cell? ⟨b, 2, none⟩ = some (.int .i64 lg)) : Calls Tryz.prog 19 #[.pointer (some ⟨b, 0, none⟩)] w fun e w' => e = .returned (.int .i64 lg) ∧ w' = w := by
  go_enter Tryz.func19, Tryz.ntmps19
  go_wp2
  go_ret
  exact ⟨rfl, rfl⟩
theorem row_some {B : Nat} {w : World} {v : Value} {l : List Pk} (h : PkRow B w v l) (hne : l ≠ []) : ∃ a m c, v = .slice a m c ∧ 0 < m := by
  rcases h.form with ⟨_, h0⟩ | ⟨g, cap, cur, rfl, hpos, _⟩
  · exact absurd h0 hne
  · exact ⟨_, _, _, rfl, hpos⟩
set_option maxRecDepth 100000 in
set_option maxHeartbeats 20000000 in
theorem walk (many : Int) (c d : Cp) (w : World) (hm : I64 many) (hc : CpOk w c) (hd : CpOk w d) :
    Calls Tryz.prog 5 #[.int .i64 many, .agg c.cells, .agg d.cells] w fun e w' => e = .returned (.bool true) ∧ Below w.heap.size w w' := by
  have P1 := Lib.hid (fun w => pick_any many 30 w hm.1 hm.2 (by decide) (by decide))
  have r1 := pickF_range many 30 (by decide)
  have HC := Lib.hid (And.intro hc hd)
  obtain ⟨n, hn⟩ : ∃ n : Nat, 1 + pickF many 30 = n := ⟨(1 + pickF many 30).toNat, by omega⟩
  obtain ⟨q, hq⟩ : ∃ q, pickF many 30 = q := ⟨_, rfl⟩
  rw [hq] at P1 r1 hn
  obtain ⟨r11, r12⟩ := r1
  have hn1 : 1 ≤ n := by omega
  have hn2 : n ≤ 30 := by omega
  have hsc : c.cells.size = 17 := rfl
  have hsd : d.cells.size = 17 := rfl
  have X := Lib.hid (box2 w (.cells c.cells 34) (.cells d.cells 34))
  clear hm hc hd hq
  go_enter Tryz.func5, Tryz.ntmps5
  go_wp2_with fail
  generalize (w.alloc _).alloc _ = V at X ⊢
  refine (sane_any _).mono ?_
  rintro e w1 ⟨rfl, hb1⟩
  have B1 := Lib.hid (X.out.2.2.1.trans (hb1.mono X.out.2.2.1.size))
  have K1 := Lib.hid (And.intro (heap_below hb1 X.out.1) (heap_below hb1 X.out.2.1))
  have S1 := hb1.size
  have S2 := X.out.2.2.2
  clear hb1 X hsc hsd
  go_wp2_with fail
  refine (lw_new2 (w0 := w) B1.out [(w.heap.size, .cells c.cells 34), (w.heap.size + 1, .cells d.cells 34)] (fun x hx => by
    rcases List.mem_cons.1 hx with rfl | hx
    · exact ⟨K1.out.1, rfl⟩
    · rw [List.mem_singleton.1 hx]; exact ⟨K1.out.2, rfl⟩)).mono ?_
  rintro e w2 ⟨b, M, rfl, h, _⟩
  have H := Lib.hid h
  clear h B1 K1
  go_wp2_with fail
  refine (P1.out _).mono ?_
  rintro e w' ⟨rfl, rfl⟩
  go_wp2_with fail
  go_loopw [10] (fun i wr => ∃ k : Nat, k ≤ n ∧ i = .int .i64 k ∧ Lw w wr b M (sends pk k) [] [(w.heap.size, .cells c.cells 34), (w.heap.size + 1, .cells d.cells 34)]) (fun i _ => n - (intOf i).toNat)
  case atStart => exact ⟨0, by omega, rfl, H.out⟩
  case round =>
    obtain ⟨k, hk, rfl, h⟩ := hrel
    have HK := Lib.hid h
    clear h
    by_cases hlt : k < n
    · go_wp2_with fail
      refine (lw_sent HK.out (pk k) rfl rfl (by show (k : Int) < 10000; omega) ⟨by show (0 : Int) ≤ k; omega, by show (k : Int) ≤ _; omega⟩ (Int.le_refl 0)).mono ?_
      rintro e w3 ⟨rfl, h⟩
      rw [sends_succ] at h
      have H3 := Lib.hid h
      clear h
      go_wp2
      go_roundw
      case rel => exact ⟨k + 1, by omega, by go_num, H3.out⟩
      case measure => simp [intOf]; omega
    · obtain rfl : k = n := by omega
      clear hlt hk
      have hx1 := Lib.hid (HK.out.at (k := w.heap.size) (o := .cells c.cells 34) (by simp))
      obtain ⟨n1, F1, T1, hA1, hN1⟩ := HC.out.1.sp
      obtain ⟨n2, F2, T2, hA2, hN2⟩ := HC.out.2.sp
      have HA := Lib.hid (And.intro hA1 hA2)
      clear hA1 hA2
      go_wp2_with (refine wpList_load_row rfl 34 _ rfl w.heap.size rfl 34 _ (0, 0) _ hx1.out Tryz.underlying34 rfl info34 ?_)
      refine (lw_ackfrom HK.out c (HA.out.1.below HK.out.bel) HC.out.1.last hN1 k false (by omega) (by omega) HC.out.1.fs HC.out.1.fv).mono ?_
      rintro e w4 ⟨a1, c1, l1, rfl, hok1, htop1, h4, _⟩
      have H4 := Lib.hid (And.intro (h4.alloc (.cells (ackE 0 (.slice a1 l1.length c1)) 41) rfl) (And.intro hok1 htop1))
      clear h4 hok1 htop1 hx1
      simp only [ackE] at H4 ⊢
      have hx2 := Lib.hid (H4.out.1.at (k := w.heap.size + 1) (o := .cells d.cells 34) (by simp))
      go_wp2_with (refine wpList_load_row rfl 34 _ rfl (w.heap.size + 1) rfl 34 _ (0, 0) _ hx2.out Tryz.underlying34 rfl info34 ?_)
      generalize hV : w4.alloc _ = V5 at H4 hx2 ⊢
      clear hV
      generalize w4.heap.size = fb at H4 ⊢
      refine (lw_ackfrom H4.out.1 d (HA.out.2.below H4.out.1.bel) HC.out.2.last hN2 k false (by omega) (by omega) HC.out.2.fs HC.out.2.fv).mono ?_
      rintro e w6 ⟨a2, c2, l2, rfl, hok2, htop2, h6, _⟩
      have H6 := Lib.hid (And.intro (h6.alloc (.cells (ackE 0 (.slice a2 l2.length c2)) 41) rfl) (And.intro hok2 htop2))
      clear h6 hok2 htop2 hx2
      simp only [ackE] at H6 ⊢
      have hx3 := Lib.hid (H6.out.1.at (k := fb) (o := .cells (ackE 0 (.slice a1 l1.length c1)) 41) (by simp [ackE]))
      simp only [ackE] at hx3
      go_wp2_with (refine wpList_load_row rfl 41 _ rfl fb rfl 41 _ (0, 0) _ hx3.out Tryz.underlying41 rfl size41 ?_)
      generalize hV : w6.alloc _ = V7 at H6 hx3 ⊢
      clear hV
      generalize w6.heap.size = gb at H6 ⊢
      have t1 := topF_range k c.last false (by omega)
      have t2 := topF_range k d.last false (by omega)
      simp only [Bool.false_eq_true, if_false] at t1 t2
      have e1 : fT l1 0 = topF k c.last false := H4.out.2.2
      have e2 : fT l2 0 = topF k d.last false := H6.out.2.2
      have OK1 := Lib.hid H4.out.2.1
      have OK2 := Lib.hid H6.out.2.1
      have b1 : 1 ≤ fT l1 0 ∧ fT l1 0 ≤ k := by omega
      have b2 : 1 ≤ fT l2 0 ∧ fT l2 0 ≤ k := by omega
      have LH1 := OK1.out.hi
      have LH2 := OK2.out.hi
      have LO1 := OK1.out.lo
      have LO2 := OK2.out.lo
      clear t1 t2 e1 e2
      have hs1 := Lib.hid (H6.out.1.spans (v := .slice a1 l1.length c1) (l := l1) (by simp [spR]) OK1.out.lo)
      refine (lw_ack H6.out.1 0 _ l1.length (fF l1) (fT l1) k 1000 (by decide) (by decide) OK1.out hs1.out.1 (by omega) (by decide) (by omega) (by decide) b1.2 (fun g o c e => hs1.out.2.1 g o c e)).mono ?_
      rintro e w8 ⟨va, vl, rfl, na, nl, h⟩
      obtain ⟨aa, am, ac, rfl, hap⟩ := row_some (h.row (v := va) (l := (sends pk k).l.filter (akF l1.length (fF l1) (fT l1))) (by simp) na)
        (sends_has pk k _ (fT l1 0 - 1).toNat (by omega) (by
          have := inF_zero OK1.out
          have e : ((fT l1 0 - 1).toNat : Int) = fT l1 0 - 1 := by omega
          show inF _ _ _ ((fT l1 0 - 1).toNat : Int) = true
          rw [e]; exact this))
      have AG := Lib.hid (acked_again (sends pk k) l1.length (fF l1) (fT l1) k 1000)
      have LG := Lib.hid (show ((sends pk k).acked l1.length (fF l1) (fT l1) k 1000).lg = fT l1 0 - 1 from by show max (-1) (fT l1 0 - 1) = _; omega)
      have NX := Lib.hid (show ((sends pk k).acked l1.length (fF l1) (fT l1) k 1000).nx = k from rfl)
      have H8 := Lib.hid (h.sub (rows' := [spR (.slice a2 l2.length c2) l2, spR (.slice a1 l1.length c1) l1]) (os' := [(gb, .cells (ackE 0 (.slice a2 l2.length c2)) 41), (fb, .cells (ackE 0 (.slice a1 l1.length c1)) 41)]) (by intro x hx; simp only [List.mem_cons, List.not_mem_nil, or_false] at hx ⊢; rcases hx with rfl | rfl <;> simp) (by intro x hx; simp only [ackE, List.mem_cons, List.not_mem_nil, or_false] at hx ⊢; rcases hx with rfl | rfl <;> simp))
      clear h na nl hx3
      generalize (sends pk k).acked l1.length (fF l1) (fT l1) k 1000 = R1 at *
      have hx4 := Lib.hid (H8.out.at (k := fb) (o := .cells (ackE 0 (.slice a1 l1.length c1)) 41) (by simp))
      simp only [ackE] at hx4
      go_wp2_with (refine wpList_load_row rfl 41 _ rfl fb rfl 41 _ (0, 0) _ hx4.out Tryz.underlying41 rfl size41 ?_)
      have hs2 := Lib.hid (H8.out.spans (v := .slice a1 l1.length c1) (l := l1) (by simp) OK1.out.lo)
      refine (lw_ack H8.out 0 _ l1.length (fF l1) (fT l1) k 1000 (by decide) (by decide) OK1.out hs2.out.1 (by omega) (by decide) (by omega) (by decide) (by rw [NX.out]; exact b1.2) (fun g o c e => hs2.out.2.1 g o c e)).mono ?_
      rintro e w9 ⟨vb, vx, rfl, nb, nx, h⟩
      rw [AG.out.1] at nb
      rw [AG.out.2.1] at nx
      rw [AG.out.2.2] at h
      obtain rfl : vb = .slice none 0 0 := nb.2 rfl
      obtain rfl : vx = .slice none 0 0 := nx.2 rfl
      have H9 := Lib.hid (h.sub (rows' := [spR (.slice a2 l2.length c2) l2, spR (.slice a1 l1.length c1) l1]) (os' := [(gb, .cells (ackE 0 (.slice a2 l2.length c2)) 41), (fb, .cells (ackE 0 (.slice a1 l1.length c1)) 41)]) (by simp) (by simp))
      clear h nb nx hx4 H8
      go_wp2_with fail
      refine (lw_acked H9.out).mono ?_
      rintro e w' ⟨rfl, rfl⟩
      rw [LG.out]
      have hx5 := Lib.hid (H9.out.at (k := gb) (o := .cells (ackE 0 (.slice a2 l2.length c2)) 41) (by simp))
      simp only [ackE] at hx5
      go_wp2_with (refine wpList_load_row rfl 41 _ rfl gb rfl 41 _ (0, 0) _ hx5.out Tryz.underlying41 rfl size41 ?_)
      have hs3 := Lib.hid (H9.out.spans (v := .slice a2 l2.length c2) (l := l2) (by simp) OK2.out.lo)
      refine (lw_ack H9.out 0 _ l2.length (fF l2) (fT l2) k 1000 (by decide) (by decide) OK2.out hs3.out.1 (by omega) (by decide) (by omega) (by decide) (by rw [NX.out]; exact b2.2) (fun g o c e => hs3.out.2.1 g o c e)).mono ?_
      rintro e w10 ⟨vd, ve, rfl, _, _, h⟩
      have LG2 := Lib.hid (show (R1.acked l2.length (fF l2) (fT l2) k 1000).lg = max (fT l1 0 - 1) (fT l2 0 - 1) from by show max R1.lg _ = _; rw [LG.out])
      have HB := Lib.hid h.bel
      have zb := at_whole h.at_.1 2 rfl
      simp only [List.getElem_toArray, List.getElem_cons_zero, List.getElem_cons_succ, LG2.out] at zb
      have z1 := at_whole (h.at (k := fb) (o := .cells (ackE 0 (.slice a1 l1.length c1)) 41) (by simp)) 9 rfl
      have z2 := at_whole (h.at (k := gb) (o := .cells (ackE 0 (.slice a2 l2.length c2)) 41) (by simp)) 9 rfl
      obtain ⟨y1, _, g1, k1, f1⟩ := h.spans (v := .slice a1 l1.length c1) (l := l1) (by simp) OK1.out.lo
      obtain ⟨y2, _, g2, k2, f2⟩ := h.spans (v := .slice a2 l2.length c2) (l := l2) (by simp) OK2.out.lo
      obtain ⟨g1', o1, cp1, ea1, hc1, hm1, hsp1⟩ := y1
      obtain ⟨g2', o2, cp2, ea2, hc2, hm2, hsp2⟩ := y2
      cases f1
      cases f2
      cases ea1
      cases ea2
      have s1 := (hsp1 0 OK1.out.lo).2
      have s2 := (hsp2 0 OK2.out.lo).2
      rw [Nat.zero_mul, Nat.zero_add] at s1 s2
      simp only [ackE, List.getElem_toArray, List.getElem_cons_zero, List.getElem_cons_succ] at z1 z2
      unfold maxLen at hm1 hm2
      have i1 : (0 : Int) < (l1.length : Int) := by omega
      have i2 : (0 : Int) < (l2.length : Int) := by omega
      have j1 : (0 < l1.length) = True := eq_true (by omega)
      have j2 : (0 < l2.length) = True := eq_true (by omega)
      have u1 : IntKind.i64.wrap (fT l1 0 - 1) = fT l1 0 - 1 := IntWalk.i64_in _ (by omega)
      have u2 : IntKind.i64.wrap (fT l2 0 - 1) = fT l2 0 - 1 := IntWalk.i64_in _ (by omega)
      have hap' : ((0 : Int) < (am : Int)) = True := eq_true (by omega)
      have ZB := Lib.hid zb
      generalize fT l1 0 = t1 at *
      generalize fT l2 0 = t2 at *
      clear h hsp1 hsp2 hn
      go_wp2
      go_quiet ((go_at_call 19; exact Calls.quiet_of_same (acked_cell b (max (t1 - 1) (t2 - 1)) _ ZB.out)))
      go_wp2
      go_ret
      exact ⟨rfl, belowN HB.out _⟩
theorem CpOk.of {w : World} {c : Cp} (h : CpArg w c) : CpOk w c := by
  obtain ⟨n, F, T, ⟨a, cap, e, _⟩, _⟩ := h.fsp
  exact ⟨h.sp, h.last, ⟨_, _, _, e⟩, h.fv⟩
set_option maxRecDepth 100000 in
theorem main {H : Type} {enc : TypeId × Value → H} (W : World) (base0 : Nat) (v0 : Value) (d0 : DataW H) (p0 : List MemPlace) (hv0 : Value.okWide Tryz.prog W .any base0 3 v0) (h0 : DataW.Trod enc Tryz.prog W 0 (fun _ => true) true 3 v0 d0 p0)
    (base1 : Nat) (v1 : Value) (d1 : DataW H) (p1 : List MemPlace) (hv1 : Value.okWide Tryz.prog W .any base1 34 v1) (h1 : DataW.Trod enc Tryz.prog W 0 (fun _ => true) true 34 v1 d1 p1)
    (base2 : Nat) (v2 : Value) (d2 : DataW H) (p2 : List MemPlace) (hv2 : Value.okWide Tryz.prog W .any base2 34 v2) (h2 : DataW.Trod enc Tryz.prog W 0 (fun _ => true) true 34 v2 d2 p2) :
    Calls Tryz.prog 5 #[v0, v1, v2] W fun e w' => e = .returned (.bool true) ∧ Below W.heap.size W w' := by
  obtain ⟨a0, rfl, _, _, w0⟩ := open_int Tryz.underlying3 hv0 h0
  obtain ⟨c, rfl, hc⟩ := cp_arg hv1 h1
  obtain ⟨d, rfl, hd⟩ := cp_arg hv2 h2
  exact walk a0 c d W (bounds_i64 w0) (CpOk.of hc) (CpOk.of hd)
end Go.Proofs.YtafkndhnbnpahaaGreat.lossAckAgain
