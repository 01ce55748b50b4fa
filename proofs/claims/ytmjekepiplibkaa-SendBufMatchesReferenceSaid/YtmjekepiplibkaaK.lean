import Derived.Test.YtmjekepiplibkaaJ
namespace Go.Proofs.Ytmjekepiplibkaa
open Go.RowKit
set_option maxHeartbeats 8000000 in
theorem fits_head (b : Nat) (F : Nat → Prop) (B : Bf) (f : Fr) (w : World) (h : Inv w b F B) (hg : Good B) (hh : headF B f = true) :
    Calls Try.prog 42 #[.pointer (some ⟨b, 0, none⟩), f.val] w fun e w' => e = .returned (.bool ((List.range f.s.size).all (okAt B f) && tailF B f)) ∧ Below w.heap.size w w' := by
  have hg0 := hg
  have H0 : Below w.heap.size w (w.alloc (.cells f.cells 35)) := (Below.refl _ w).alloc (Nat.le_refl _) _
  obtain ⟨vd, vs, h⟩ := h
  have HB : Hid (Below w.heap.size w (w.alloc (.cells f.cells 35))) := Lib.hid H0
  obtain ⟨c0, c1, c2, c3, c4, c5, c6, fr⟩ := (h.below H0).facts
  obtain ⟨d0, d2, d3, d4⟩ := Boxed.of (heap_alloc_new w (.cells f.cells 35))
  obtain ⟨l1, l2, b0, b1, len, cp, s0, s1⟩ := hg
  have HG := Lib.hid hg0
  have HR0 := Lib.hid (h.below H0)
  have HQ0 := Lib.hid (heap_alloc_new w (.cells f.cells 35))
  clear c0 c1 c2 c3 c5 c6 fr d4
  unfold headF at hh
  simp only [Bool.and_eq_true, decide_eq_true_eq] at hh
  obtain ⟨⟨⟨h1, h2⟩, h3⟩, h4⟩ := hh
  obtain ⟨n, hn⟩ : ∃ n, f.s.size = n := ⟨_, rfl⟩
  rw [hn] at h4
  rw [hn]
  have HN := Lib.hid hn
  have hn2 : (f.s.size : Int) = n := by rw [hn]
  obtain ⟨RES, hres⟩ : ∃ R, ((List.range n).all (okAt B f) && tailF B f) = R := ⟨_, rfl⟩
  rw [hres]
  have HRES := Lib.hid hres
  clear hres hn
  have h1b : (f.ty != 8) = false := by simp [h1]
  have h2n : ¬ f.off < 0 := by omega
  have h3n : ¬ B.sent < f.off := by omega
  have h4n : ¬ B.sent - f.off < (n : Int) := by omega
  have hw : IntKind.i64.wrap (B.sent - f.off) = B.sent - f.off := IntWalk.i64_in _ (by omega)
  clear h H0
  change Calls Try.prog 42 #[.pointer (some ⟨b, 0, none⟩), .agg f.cells] w _
  go_enter Try.func42, Try.ntmps42
  go_wp2
  change Code.wp _ _ _ _ (w.alloc (.cells f.cells 35))
  generalize w.alloc (.cells f.cells 35) = W1 at *
  refine wp_region_still_lit (by kernel_rfl) (by kernel_rfl) ?_
  repeat ((with_reducible refine wpStill_step (fun K hK => ?_)); go_simp; (with_reducible refine hK _ ?_); clear hK K)
  with_reducible refine wpStill_nil ?_
  go_wp2
  have HRS : Hid (∀ k, k < n → okAt B f k = false → RES = false) := Lib.hid (fun k hk ho => by
    rw [← HRES.out]
    have : (List.range n).all (okAt B f) = false := by
      rw [List.all_eq_false]
      exact ⟨k, List.mem_range.2 hk, by rw [ho]; decide⟩
    rw [this]; rfl)
  have HRT : Hid ((∀ j, j < n → okAt B f j = true) → RES = tailF B f) := Lib.hid (fun ho => by
    rw [← HRES.out]
    have : (List.range n).all (okAt B f) = true := by
      rw [List.all_eq_true]
      exact fun k hk => ho k (List.mem_range.1 hk)
    rw [this]; rfl)
  clear h1b h2n h3n h4n hw c4 d0 d2 d3
  go_loopw [40] (fun i wr => ∃ (k : Nat), k ≤ n ∧ i = .int .i64 k ∧ (∀ j, j < k → okAt B f j = true) ∧ Rep wr b F B vd vs ∧ wr.heap[w.heap.size]? = some (.cells f.cells 35 (0, 0)) ∧ Below w.heap.size w wr) (fun i _ => n - (intOf i).toNat)
  case atStart => exact ⟨0, by omega, rfl, fun j hj => absurd hj (Nat.not_lt_zero _), HR0.out.drew, HQ0.out, HB.out.drew⟩
  case round =>
    obtain ⟨k, hk, rfl, hok, R, Q, hB⟩ := hrel
    clear HR0 HQ0 HB
    have HK := Lib.hid hok
    have HR := Lib.hid R
    have HQ := Lib.hid Q
    have HB := Lib.hid hB
    obtain ⟨c0, c1, c2, c3, c4, c5, c6, fr⟩ := R.facts
    obtain ⟨d0, d2, d3, d4⟩ := Boxed.of Q
    clear c0 c3 d0 hok Q hB fr
    by_cases hlt : k < n
    · obtain ⟨q, hq⟩ : ∃ q, f.off + (k : Int) - B.base = q := ⟨_, rfl⟩
      have hw1 : IntKind.i64.wrap (f.off + (k : Int)) = f.off + (k : Int) := IntWalk.i64_in _ (by omega)
      have hw2 : IntKind.i64.wrap (f.off + (k : Int) - B.base) = q := by rw [hq]; exact IntWalk.i64_in _ (by omega)
      clear c4 c5 c6 d4
      by_cases hq0 : q < 0
      · have HO : Hid (okAt B f k = true) := Lib.hid (by unfold okAt; rw [hq]; simp [hq0])
        clear hq R
        go_wp2
        refine wp_region_still_lit (by kernel_rfl) (by kernel_rfl) ?_
        repeat ((with_reducible refine wpStill_step (fun K hK => ?_)); go_simp; (with_reducible refine hK _ ?_); clear hK K)
        with_reducible refine wpStill_nil ?_
        go_wp2
        change Code.wp _ _ _ _ wr.drew
        have HR2 := Lib.hid HR.out.drew
        have HB2 := Lib.hid HB.out.drew
        have HQ2 : Hid (wr.drew.heap[w.heap.size]? = some (.cells f.cells 35 (0, 0))) := Lib.hid HQ.out
        clear HR HQ HB c1 c2 d2 d3
        generalize wr.drew = w2 at *
        have hq1 : (0 ≤ q) = False := eq_false (by omega)
        refine wp_region_still_lit (by kernel_rfl) (by kernel_rfl) ?_
        repeat ((with_reducible refine wpStill_step (fun K hK => ?_)); go_simp; (with_reducible refine hK _ ?_); clear hK K)
        with_reducible refine wpStill_nil ?_
        go_wp2
        go_roundw
        case rel => exact ⟨k + 1, by omega, by simp, fun j hj => (Nat.lt_succ_iff_lt_or_eq.1 hj).elim (HK.out j) (fun e => e ▸ HO.out), HR2.out.drew, HQ2.out, HB2.out.drew⟩
        case measure => simp [intOf]; omega
      · obtain ⟨p, rfl⟩ : ∃ p : Nat, q = p := ⟨q.toNat, by omega⟩
        obtain ⟨g, cpp, rfl, hc1, hc2, hcell, hfr⟩ := own_cells R.rd (by omega)
        have e1 := hcell p (by omega)
        unfold maxLen at hc2
        obtain ⟨x, hx⟩ : ∃ x, B.data[p]?.getD 0 = x := ⟨_, rfl⟩
        rw [hx] at e1
        have hpd : p < B.data.length := by omega
        have hq1 : (0 : Int) ≤ (p : Int) := by omega
        have hkn : k < f.s.size := by omega
        obtain ⟨y, hy⟩ : ∃ y, (bytesOf f.s)[k]?.getD 0 = y := ⟨_, rfl⟩
        have hy2 : ((f.s[k]'hkn).toNat : Int) = y := by rw [← bytesOf_get]; exact hy
        have HO : Hid (okAt B f k = decide (x = y)) := Lib.hid (by unfold okAt; rw [hq, Int.toNat_natCast, hx, hy, show decide ((p : Int) < 0) = false from by simp]; rfl)
        clear hcell hfr R hq hx hq0
        have CL : Hid (∀ j, wr.cell? ⟨g, j, none⟩ = wr.drew.cell? ⟨g, j, none⟩) := Lib.hid (fun _ => rfl)
        go_wp2
        refine wp_region_still_lit (by kernel_rfl) (by kernel_rfl) ?_
        repeat ((with_reducible refine wpStill_step (fun K hK => ?_)); go_simp; (with_reducible refine hK _ ?_); clear hK K)
        with_reducible refine wpStill_nil ?_
        go_wp2
        change Code.wp _ _ _ _ wr.drew
        have HR2 := Lib.hid HR.out.drew
        have HB2 := Lib.hid HB.out.drew
        have HQ2 : Hid (wr.drew.heap[w.heap.size]? = some (.cells f.cells 35 (0, 0))) := Lib.hid HQ.out
        have e2 := (CL.out p).symm.trans e1
        clear HR HQ HB c1 c2 d2 d3 e1 CL
        generalize wr.drew = w2 at *
        obtain ⟨c0, c1, c2, c3, c4, c5, c6, fr⟩ := HR2.out.facts
        obtain ⟨d0, d2, d3, d4⟩ := Boxed.of HQ2.out
        clear c0 c1 c3 c4 c5 c6 fr d0 d2 d4
        refine wp_region_still_lit (by kernel_rfl) (by kernel_rfl) ?_
        repeat ((with_reducible refine wpStill_step (fun K hK => ?_)); go_simp; (with_reducible refine hK _ ?_); clear hK K)
        with_reducible refine wpStill_nil ?_
        have HX : Hid (x = y ∨ x ≠ y) := Lib.hid (by omega)
        rcases HX.out with hx2 | hx2
        · have HO2 : Hid (okAt B f k = true) := Lib.hid (by rw [HO.out]; simp [hx2])
          have hxb : (x != y) = false := by simp [hx2]
          clear hx2
          go_wp2
          go_roundw
          case rel => exact ⟨k + 1, by omega, by simp, fun j hj => (Nat.lt_succ_iff_lt_or_eq.1 hj).elim (HK.out j) (fun e => e ▸ HO2.out), HR2.out.drew, HQ2.out, HB2.out.drew⟩
          case measure => simp [intOf]; omega
        · have HO2 : Hid (okAt B f k = false) := Lib.hid (by rw [HO.out]; simp [hx2])
          have hxb : (x != y) = true := by simp [hx2]
          clear hx2
          go_wp2
          go_ret
          exact ⟨by rw [HRS.out k hlt HO2.out]; try rfl, HB2.out.drew⟩
    · obtain rfl : k = n := by omega
      have HT := Lib.hid (HRT.out HK.out)
      clear hk hlt c2 d3 R
      have hw5 : IntKind.i64.wrap (f.off + (k : Int)) = f.off + (k : Int) := IntWalk.i64_in _ (by omega)
      have WR := Lib.hid (fun j => written_any b F B (wr.drewN j) ⟨_, _, HR.out.drewN j⟩ HG.out)
      go_wp2
      cases hfin : f.fin
      · have HZ : Hid (RES = true) := Lib.hid (by rw [HT.out]; unfold tailF; rw [hfin]; rfl)
        rw [hfin] at d4
        clear hfin
        refine wp_region_still_lit (by kernel_rfl) (by kernel_rfl) ?_
        repeat ((with_reducible refine wpStill_step (fun K hK => ?_)); go_simp; (first | (with_reducible refine hK _ ?_) | (refine if_no ?hno ?_; (case hno => nofun); (with_reducible refine hK _ ?_))); clear hK K)
        with_reducible refine wpStill_nil ?_
        go_wp2
        go_ret
        exact ⟨by rw [HZ.out]; try rfl, HB.out.drew⟩
      · rw [hfin] at d4
        cases hbf : B.fin
        · have HZ : Hid (RES = false) := Lib.hid (by rw [HT.out]; unfold tailF; rw [hfin, hbf]; rfl)
          rw [hbf] at c5
          clear hfin hbf
          refine wp_region_still_lit (by kernel_rfl) (by kernel_rfl) ?_
          repeat ((with_reducible refine wpStill_step (fun K hK => ?_)); go_simp; (with_reducible refine hK _ ?_); clear hK K)
          with_reducible refine wpStill_nil ?_
          go_wp2
          go_ret
          exact ⟨by rw [HZ.out]; try rfl, HB.out.drew⟩
        · rw [hbf] at c5
          by_cases hed : B.ed = 0
          · have HZ : Hid (RES = false) := Lib.hid (by rw [HT.out]; unfold tailF; rw [hfin, hbf, hed]; simp)
            rw [hed] at c6
            clear hfin hbf hed
            refine wp_region_still_lit (by kernel_rfl) (by kernel_rfl) ?_
            repeat ((with_reducible refine wpStill_step (fun K hK => ?_)); go_simp; (with_reducible refine hK _ ?_); clear hK K)
            with_reducible refine wpStill_nil ?_
            go_wp2
            go_ret
            exact ⟨by rw [HZ.out]; try rfl, HB.out.drew⟩
          · have HZ : Hid (RES = decide (f.off + (k : Int) = writtenF B)) := Lib.hid (by rw [HT.out]; unfold tailF; rw [hfin, hbf, hn2]; simp [hed])
            have hedb : (B.ed != 0) = true := by simp [hed]
            have d3 := (Boxed.of HQ.out).d3
            clear hfin hbf hed
            refine wp_region_quiet_lit (by kernel_rfl) (by kernel_rfl) ?_
            repeat ((with_reducible refine wpQuiet_step (fun K hK => ?_)); go_simp; first | ((with_reducible refine hK _ ?_); clear hK K) | (apply Exists.intro; (with_reducible refine ⟨fun _ => ?_, hK _ ?_⟩); (go_at_call 20; exact Calls.quiet_of (WR.out _)); clear hK K))
            with_reducible refine wpQuiet_nil ?_
            intro _ hw'
            obtain ⟨nq, hw2'⟩ := hw'
            subst hw2'
            go_wp2
            go_ret
            exact ⟨by rw [HZ.out]; try rfl, belowN HB.out _⟩
theorem fits_any (b : Nat) (F : Nat → Prop) (B : Bf) (f : Fr) (w : World) (h : Inv w b F B) (hg : Good B) :
    Calls Try.prog 42 #[.pointer (some ⟨b, 0, none⟩), f.val] w fun e w' => e = .returned (.bool (fitsF B f)) ∧ Below w.heap.size w w' := by
  unfold fitsF
  cases hh : headF B f
  · exact (fits_no b F B f w h hg hh).mono fun _ _ h => ⟨by rw [h.1]; rfl, h.2⟩
  · exact (fits_head b F B f w h hg hh).mono fun _ _ h => ⟨by rw [h.1, Bool.true_and], h.2⟩
end Go.Proofs.Ytmjekepiplibkaa
