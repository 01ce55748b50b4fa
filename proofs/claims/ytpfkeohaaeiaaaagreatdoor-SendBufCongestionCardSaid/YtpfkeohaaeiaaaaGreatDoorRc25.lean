/- Texts M N O P Q W of this claim, one behind the other. -/
import Derived.Test.YtpfkeohaaeiaaaaGreatDoorRc24
namespace Go.Proofs.YtpfkeohaaeiaaaaGreatDoor
open Go.RowKit
set_option maxRecDepth 100000
theorem mark_nil (f : Fr) (v : Value) (w : World) :
    Calls Tryz.prog 51 #[.pointer none, f.val, v] w fun e w' => e = .returned (.int .i64 1) ∧ Below w.heap.size w w' := by
  have H0 : Below w.heap.size w (w.alloc (.cells f.cells 56)) := (Below.refl _ w).alloc (Nat.le_refl _) _
  change Calls Tryz.prog 51 #[.pointer none, .agg f.cells, v] w _
  go_enter Tryz.func51, Tryz.ntmps51
  go_wp2
  go_ret
  exact ⟨rfl, H0⟩
def markLo (B : Bf) (f : Fr) : Nat := (f.off - B.base).toNat
def markHi (B : Bf) (f : Fr) : Nat := (f.off + f.s.size - B.base).toNat
def markB (A : Bool) (B : Bf) (f : Fr) : Bf := { B with st := turnTo A B.st (markLo B f) (markHi B f - markLo B f), ed := if f.fin then turn A B.ed else B.ed }
theorem mark_bad (b : Nat) (F : Nat → Prop) (B : Bf) (f : Fr) (v : Value) (w : World) (h : Inv w b F B) (hg : Good B) (hf : fitsF B f = false) :
    Calls Tryz.prog 51 #[.pointer (some ⟨b, 0, none⟩), f.val, v] w fun e w' => e = .returned (.int .i64 170) ∧ Below w.heap.size w w' := by
  have H0 : Below w.heap.size w (w.alloc (.cells f.cells 56)) := (Below.refl _ w).alloc (Nat.le_refl _) _
  have HH := Lib.hid H0
  have HQ := Lib.hid (heap_alloc_new w (.cells f.cells 56))
  have FT := Lib.hid (fits_any b F B f _ (h.below H0) hg)
  rw [hf] at FT
  clear H0
  change Calls Tryz.prog 51 #[.pointer (some ⟨b, 0, none⟩), .agg f.cells, v] w _
  go_enter Tryz.func51, Tryz.ntmps51
  go_wp2_with (first | (go_at_call 70; refine FT.out.mono ?_; rintro e w2 ⟨rfl, hB⟩) | (refine wpList_load_row rfl 56 _ rfl w.heap.size rfl 56 f.cells (0, 0) _ HQ.out Tryz.underlying56 rfl (size56 f) ?_))
  go_ret
  exact ⟨rfl, HH.out.trans (hB.mono (by simp))⟩
set_option maxHeartbeats 8000000 in
theorem mark_ok34 (b : Nat) (F : Nat → Prop) (B : Bf) (f : Fr) (w : World) (h : Inv w b F B) (hg : Good B) (hf : fitsF B f = true) :
    Calls Tryz.prog 51 #[.pointer (some ⟨b, 0, none⟩), f.val, .func (.func 52) #[] #[]] w fun e w' => e = .returned (.int .i64 0) ∧ Chg F w w' ∧ Inv w' b F (markB false B f) := by
  have H0 : Below w.heap.size w (w.alloc (.cells f.cells 56)) := (Below.refl _ w).alloc (Nat.le_refl _) _
  have HQ := Lib.hid (heap_alloc_new w (.cells f.cells 56))
  have HZ : Hid ((w.alloc (.cells f.cells 56)).heap.size = w.heap.size + 1) := Lib.hid (by simp)
  have FT := Lib.hid (fits_any b F B f _ (h.below H0) hg)
  rw [hf] at FT
  obtain ⟨vd, vs, h⟩ := h.own
  have R0 := Lib.hid (h.below H0)
  have HH := Lib.hid H0
  have hh : headF B f = true := by unfold fitsF at hf; simp only [Bool.and_eq_true] at hf; exact hf.1.1
  unfold headF at hh
  simp only [Bool.and_eq_true, decide_eq_true_eq] at hh
  obtain ⟨⟨⟨h1, h2⟩, h3⟩, h4⟩ := hh
  obtain ⟨l1, l2, b0, b1, len, cp, s0, s1⟩ := hg
  obtain ⟨n, hn⟩ : ∃ n, f.s.size = n := ⟨_, rfl⟩
  have HN := Lib.hid hn
  rw [hn] at h4
  have hn2 : (f.s.size : Int) = n := by rw [hn]
  obtain ⟨lo, hlo⟩ : ∃ lo, markLo B f = lo := ⟨_, rfl⟩
  obtain ⟨hi, hhi⟩ : ∃ hi, markHi B f = hi := ⟨_, rfl⟩
  have HM : Hid (markB false B f = { B with st := turnTo false B.st lo (hi - lo), ed := if f.fin then turn false B.ed else B.ed }) := Lib.hid (by unfold markB; rw [hlo, hhi])
  unfold markLo at hlo
  unfold markHi at hhi
  rw [hn] at hhi
  have hmx : (if f.off - B.base < 0 then (0 : Int) else f.off - B.base) = (lo : Int) := by split <;> omega
  have hw1 : IntKind.i64.wrap (f.off - B.base) = f.off - B.base := IntWalk.i64_in _ (by omega)
  have hw2 : IntKind.i64.wrap (f.off + (n : Int)) = f.off + (n : Int) := IntWalk.i64_in _ (by omega)
  obtain ⟨H, hH⟩ : ∃ H, f.off + (n : Int) - B.base = H := ⟨_, rfl⟩
  have hw3 : IntKind.i64.wrap (f.off + (n : Int) - B.base) = H := by rw [hH]; exact IntWalk.i64_in _ (by omega)
  have hHl : H ≤ B.data.length := by omega
  have hHh : hi = H.toNat := by omega
  clear hf H0 h hn hH
  change Calls Tryz.prog 51 #[.pointer (some ⟨b, 0, none⟩), .agg f.cells, _] w _
  go_enter Tryz.func51, Tryz.ntmps51
  go_wp2_with (first | (go_at_call 70; refine FT.out.mono ?_; rintro e w2 ⟨rfl, hB⟩) | (refine wpList_load_row rfl 56 _ rfl w.heap.size rfl 56 f.cells (0, 0) _ HQ.out Tryz.underlying56 rfl (size56 f) ?_))
  have R2 := Lib.hid (R0.out.below hB)
  have Q2 := Lib.hid (heap_below hB HQ.out)
  have C2 : Hid (Chg (Own w F) w w2) := Lib.hid (Chg.below (HH.out.trans (hB.mono (by simp))))
  have Z2 : Hid (w.heap.size + 1 ≤ w2.heap.size) := Lib.hid (by have := hB.size; rw [HZ.out] at this; exact this)
  clear R0 HQ HZ HH FT hB
  obtain ⟨c0, c1, c2, c3, c4, c5, c6, fr⟩ := R2.out.facts
  obtain ⟨d0, d2, d3, d4⟩ := Boxed.of Q2.out
  clear c0 c2 c3 c4 c5 c6 fr d0 d3 d4
  refine wp_region_still_lit (by kernel_rfl) (by kernel_rfl) ?_
  repeat ((with_reducible refine wpStill_step (fun K hK => ?_)); go_simp; (with_reducible refine hK _ ?_); clear hK K)
  with_reducible refine wpStill_nil ?_
  go_wp2
  have R3 := Lib.hid R2.out.drew
  have C3 := Lib.hid C2.out.drew
  have Q3 : Hid (w2.drew.heap[w.heap.size]? = some (.cells f.cells 56 (0, 0))) := Lib.hid Q2.out
  have Z3 : Hid (w.heap.size + 1 ≤ w2.drew.heap.size) := Lib.hid Z2.out
  clear R2 C2 Q2 Z2 c1 d2
  change Code.wp _ _ _ _ w2.drew
  generalize w2.drew = w3 at *
  go_loopw [7] (fun i wr => ∃ (k : Nat), lo ≤ k ∧ (k ≤ lo ∨ k ≤ hi) ∧ i = .int .i64 k ∧ Rep wr b (Own w F) { B with st := turnTo false B.st lo (k - lo) } vd vs ∧ Chg (Own w F) w wr ∧ wr.heap[w.heap.size]? = some (.cells f.cells 56 (0, 0)) ∧ w.heap.size + 1 ≤ wr.heap.size) (fun i _ => hi - (intOf i).toNat)
  case atStart => exact ⟨lo, by omega, by omega, rfl, by rw [Nat.sub_self]; exact R3.out, C3.out, Q3.out, Z3.out⟩
  case round =>
    obtain ⟨k, hk1, hk2, rfl, R, hC, hQ, hZ⟩ := hrel
    clear R3 C3 Q3 Z3 w3
    have HR := Lib.hid R
    have HC := Lib.hid hC
    have HQ := Lib.hid hQ
    have HZ := Lib.hid hZ
    obtain ⟨c0, c1, c2, c3, c4, c5, c6, fr⟩ := R.facts
    obtain ⟨d0, d2, d3, d4⟩ := Boxed.of hQ
    clear c0 c2 c3 c4 c5 c6 fr d0 d4 R hC hQ hZ
    go_wp2
    refine wp_region_still_lit (by kernel_rfl) (by kernel_rfl) ?_
    repeat ((with_reducible refine wpStill_step (fun K hK => ?_)); go_simp; (with_reducible refine hK _ ?_); clear hK K)
    with_reducible refine wpStill_nil ?_
    have HR2 := Lib.hid HR.out.drew
    have HC2 := Lib.hid HC.out.drew
    have HQ2 : Hid (wr.drew.heap[w.heap.size]? = some (.cells f.cells 56 (0, 0))) := Lib.hid HQ.out
    have HZ2 : Hid (w.heap.size + 1 ≤ wr.drew.heap.size) := Lib.hid HZ.out
    clear HR HC HQ HZ c1 d2 d3
    change Exit.then _ _ _ _ wr.drew
    generalize wr.drew = w4 at *
    by_cases hlt : (k : Int) < H
    · have hkl : k < (turnTo false B.st lo (k - lo)).length := by rw [turnTo_length]; omega
      obtain ⟨g, cpp, rfl, hc1, hc2, hcell, hfr⟩ := own_cells HR2.out.rs (Nat.lt_of_le_of_lt (Nat.zero_le _) hkl)
      have TS : Hid (Calls Tryz.prog 52 _ _ _) := Lib.hid (turn_state false b _ _ _ g _ _ k w4 HR2.out hkl)
      obtain ⟨c0, c1, c2, c3, c4, c5, c6, fr⟩ := HR2.out.facts
      unfold maxLen at hc2
      have hkl2 : k < B.st.length := by rw [turnTo_length] at hkl; exact hkl
      have hln := turnTo_length false B.st lo (k - lo)
      simp only [hln] at c3 hc1 TS
      have hst : (turnTo false B.st lo (k - lo)).set k (turn false ((turnTo false B.st lo (k - lo))[k]?.getD 0)) = turnTo false B.st lo (k + 1 - lo) := by
        rw [show k + 1 - lo = (k - lo) + 1 from by omega, turnTo, show lo + (k - lo) = k from by omega]
      have HST := Lib.hid hst
      have HKI : Hid (k < hi) := Lib.hid (by omega)
      clear c0 c1 c2 c4 c5 c6 fr hcell hfr hst hln hkl
      go_wp2_with (refine TS.out.mono ?_; rintro e w5 ⟨rfl, hR5, hC5, hS5⟩)
      go_roundw
      case rel => exact ⟨k + 1, by omega, .inr HKI.out, by simp, by rw [← HST.out]; simpa only [turnTo_length] using hR5, HC2.out.trans1 hC5, (hC5.block _ (by have := HZ2.out; omega) (fun e => Nat.lt_irrefl _ e.2)).trans HQ2.out, by have := HZ2.out; omega⟩
      case measure => have := HKI.out; simp [intOf]; omega
    · have hkk : k - lo = hi - lo := by omega
      have HR3 := Lib.hid HR2.out
      rw [hkk] at HR3
      clear HR2 hk1 hk2
      have TE : Hid (Calls Tryz.prog 52 _ _ _) := Lib.hid (turn_end false b _ _ _ _ w4 HR3.out)
      obtain ⟨d0, d2, d3, d4⟩ := Boxed.of HQ2.out
      clear d0 d2 d3
      cases hfin : f.fin
      · rw [hfin] at d4
        rw [hfin] at HM
        clear hfin
        go_wp2
        go_ret
        exact ⟨rfl, HC2.out.mono (fun k hk => hk.1), _, _, by rw [HM.out]; exact HR3.out.ext (fun k hk => hk.1)⟩
      · rw [hfin] at d4
        rw [hfin] at HM
        clear hfin
        go_wp2_with (refine TE.out.mono ?_; rintro e w5 ⟨rfl, hR5, hC5, hS5⟩)
        go_ret
        exact ⟨rfl, (HC2.out.trans1 hC5).mono (fun k hk => hk.1), _, _, by rw [HM.out]; exact hR5.ext (fun k hk => hk.1)⟩
set_option maxHeartbeats 8000000 in
theorem mark_ok35 (b : Nat) (F : Nat → Prop) (B : Bf) (f : Fr) (w : World) (h : Inv w b F B) (hg : Good B) (hf : fitsF B f = true) :
    Calls Tryz.prog 51 #[.pointer (some ⟨b, 0, none⟩), f.val, .func (.func 53) #[] #[]] w fun e w' => e = .returned (.int .i64 0) ∧ Chg F w w' ∧ Inv w' b F (markB true B f) := by
  have H0 : Below w.heap.size w (w.alloc (.cells f.cells 56)) := (Below.refl _ w).alloc (Nat.le_refl _) _
  have HQ := Lib.hid (heap_alloc_new w (.cells f.cells 56))
  have HZ : Hid ((w.alloc (.cells f.cells 56)).heap.size = w.heap.size + 1) := Lib.hid (by simp)
  have FT := Lib.hid (fits_any b F B f _ (h.below H0) hg)
  rw [hf] at FT
  obtain ⟨vd, vs, h⟩ := h.own
  have R0 := Lib.hid (h.below H0)
  have HH := Lib.hid H0
  have hh : headF B f = true := by unfold fitsF at hf; simp only [Bool.and_eq_true] at hf; exact hf.1.1
  unfold headF at hh
  simp only [Bool.and_eq_true, decide_eq_true_eq] at hh
  obtain ⟨⟨⟨h1, h2⟩, h3⟩, h4⟩ := hh
  obtain ⟨l1, l2, b0, b1, len, cp, s0, s1⟩ := hg
  obtain ⟨n, hn⟩ : ∃ n, f.s.size = n := ⟨_, rfl⟩
  have HN := Lib.hid hn
  rw [hn] at h4
  have hn2 : (f.s.size : Int) = n := by rw [hn]
  obtain ⟨lo, hlo⟩ : ∃ lo, markLo B f = lo := ⟨_, rfl⟩
  obtain ⟨hi, hhi⟩ : ∃ hi, markHi B f = hi := ⟨_, rfl⟩
  have HM : Hid (markB true B f = { B with st := turnTo true B.st lo (hi - lo), ed := if f.fin then turn true B.ed else B.ed }) := Lib.hid (by unfold markB; rw [hlo, hhi])
  unfold markLo at hlo
  unfold markHi at hhi
  rw [hn] at hhi
  have hmx : (if f.off - B.base < 0 then (0 : Int) else f.off - B.base) = (lo : Int) := by split <;> omega
  have hw1 : IntKind.i64.wrap (f.off - B.base) = f.off - B.base := IntWalk.i64_in _ (by omega)
  have hw2 : IntKind.i64.wrap (f.off + (n : Int)) = f.off + (n : Int) := IntWalk.i64_in _ (by omega)
  obtain ⟨H, hH⟩ : ∃ H, f.off + (n : Int) - B.base = H := ⟨_, rfl⟩
  have hw3 : IntKind.i64.wrap (f.off + (n : Int) - B.base) = H := by rw [hH]; exact IntWalk.i64_in _ (by omega)
  have hHl : H ≤ B.data.length := by omega
  have hHh : hi = H.toNat := by omega
  clear hf H0 h hn hH
  change Calls Tryz.prog 51 #[.pointer (some ⟨b, 0, none⟩), .agg f.cells, _] w _
  go_enter Tryz.func51, Tryz.ntmps51
  go_wp2_with (first | (go_at_call 70; refine FT.out.mono ?_; rintro e w2 ⟨rfl, hB⟩) | (refine wpList_load_row rfl 56 _ rfl w.heap.size rfl 56 f.cells (0, 0) _ HQ.out Tryz.underlying56 rfl (size56 f) ?_))
  have R2 := Lib.hid (R0.out.below hB)
  have Q2 := Lib.hid (heap_below hB HQ.out)
  have C2 : Hid (Chg (Own w F) w w2) := Lib.hid (Chg.below (HH.out.trans (hB.mono (by simp))))
  have Z2 : Hid (w.heap.size + 1 ≤ w2.heap.size) := Lib.hid (by have := hB.size; rw [HZ.out] at this; exact this)
  clear R0 HQ HZ HH FT hB
  obtain ⟨c0, c1, c2, c3, c4, c5, c6, fr⟩ := R2.out.facts
  obtain ⟨d0, d2, d3, d4⟩ := Boxed.of Q2.out
  clear c0 c2 c3 c4 c5 c6 fr d0 d3 d4
  refine wp_region_still_lit (by kernel_rfl) (by kernel_rfl) ?_
  repeat ((with_reducible refine wpStill_step (fun K hK => ?_)); go_simp; (with_reducible refine hK _ ?_); clear hK K)
  with_reducible refine wpStill_nil ?_
  go_wp2
  have R3 := Lib.hid R2.out.drew
  have C3 := Lib.hid C2.out.drew
  have Q3 : Hid (w2.drew.heap[w.heap.size]? = some (.cells f.cells 56 (0, 0))) := Lib.hid Q2.out
  have Z3 : Hid (w.heap.size + 1 ≤ w2.drew.heap.size) := Lib.hid Z2.out
  clear R2 C2 Q2 Z2 c1 d2
  change Code.wp _ _ _ _ w2.drew
  generalize w2.drew = w3 at *
  go_loopw [7] (fun i wr => ∃ (k : Nat), lo ≤ k ∧ (k ≤ lo ∨ k ≤ hi) ∧ i = .int .i64 k ∧ Rep wr b (Own w F) { B with st := turnTo true B.st lo (k - lo) } vd vs ∧ Chg (Own w F) w wr ∧ wr.heap[w.heap.size]? = some (.cells f.cells 56 (0, 0)) ∧ w.heap.size + 1 ≤ wr.heap.size) (fun i _ => hi - (intOf i).toNat)
  case atStart => exact ⟨lo, by omega, by omega, rfl, by rw [Nat.sub_self]; exact R3.out, C3.out, Q3.out, Z3.out⟩
  case round =>
    obtain ⟨k, hk1, hk2, rfl, R, hC, hQ, hZ⟩ := hrel
    clear R3 C3 Q3 Z3 w3
    have HR := Lib.hid R
    have HC := Lib.hid hC
    have HQ := Lib.hid hQ
    have HZ := Lib.hid hZ
    obtain ⟨c0, c1, c2, c3, c4, c5, c6, fr⟩ := R.facts
    obtain ⟨d0, d2, d3, d4⟩ := Boxed.of hQ
    clear c0 c2 c3 c4 c5 c6 fr d0 d4 R hC hQ hZ
    go_wp2
    refine wp_region_still_lit (by kernel_rfl) (by kernel_rfl) ?_
    repeat ((with_reducible refine wpStill_step (fun K hK => ?_)); go_simp; (with_reducible refine hK _ ?_); clear hK K)
    with_reducible refine wpStill_nil ?_
    have HR2 := Lib.hid HR.out.drew
    have HC2 := Lib.hid HC.out.drew
    have HQ2 : Hid (wr.drew.heap[w.heap.size]? = some (.cells f.cells 56 (0, 0))) := Lib.hid HQ.out
    have HZ2 : Hid (w.heap.size + 1 ≤ wr.drew.heap.size) := Lib.hid HZ.out
    clear HR HC HQ HZ c1 d2 d3
    change Exit.then _ _ _ _ wr.drew
    generalize wr.drew = w4 at *
    by_cases hlt : (k : Int) < H
    · have hkl : k < (turnTo true B.st lo (k - lo)).length := by rw [turnTo_length]; omega
      obtain ⟨g, cpp, rfl, hc1, hc2, hcell, hfr⟩ := own_cells HR2.out.rs (Nat.lt_of_le_of_lt (Nat.zero_le _) hkl)
      have TS : Hid (Calls Tryz.prog 53 _ _ _) := Lib.hid (turn_state true b _ _ _ g _ _ k w4 HR2.out hkl)
      obtain ⟨c0, c1, c2, c3, c4, c5, c6, fr⟩ := HR2.out.facts
      unfold maxLen at hc2
      have hkl2 : k < B.st.length := by rw [turnTo_length] at hkl; exact hkl
      have hln := turnTo_length true B.st lo (k - lo)
      simp only [hln] at c3 hc1 TS
      have hst : (turnTo true B.st lo (k - lo)).set k (turn true ((turnTo true B.st lo (k - lo))[k]?.getD 0)) = turnTo true B.st lo (k + 1 - lo) := by
        rw [show k + 1 - lo = (k - lo) + 1 from by omega, turnTo, show lo + (k - lo) = k from by omega]
      have HST := Lib.hid hst
      have HKI : Hid (k < hi) := Lib.hid (by omega)
      clear c0 c1 c2 c4 c5 c6 fr hcell hfr hst hln hkl
      go_wp2_with (refine TS.out.mono ?_; rintro e w5 ⟨rfl, hR5, hC5, hS5⟩)
      go_roundw
      case rel => exact ⟨k + 1, by omega, .inr HKI.out, by simp, by rw [← HST.out]; simpa only [turnTo_length] using hR5, HC2.out.trans1 hC5, (hC5.block _ (by have := HZ2.out; omega) (fun e => Nat.lt_irrefl _ e.2)).trans HQ2.out, by have := HZ2.out; omega⟩
      case measure => have := HKI.out; simp [intOf]; omega
    · have hkk : k - lo = hi - lo := by omega
      have HR3 := Lib.hid HR2.out
      rw [hkk] at HR3
      clear HR2 hk1 hk2
      have TE : Hid (Calls Tryz.prog 53 _ _ _) := Lib.hid (turn_end true b _ _ _ _ w4 HR3.out)
      obtain ⟨d0, d2, d3, d4⟩ := Boxed.of HQ2.out
      clear d0 d2 d3
      cases hfin : f.fin
      · rw [hfin] at d4
        rw [hfin] at HM
        clear hfin
        go_wp2
        go_ret
        exact ⟨rfl, HC2.out.mono (fun k hk => hk.1), _, _, by rw [HM.out]; exact HR3.out.ext (fun k hk => hk.1)⟩
      · rw [hfin] at d4
        rw [hfin] at HM
        clear hfin
        go_wp2_with (refine TE.out.mono ?_; rintro e w5 ⟨rfl, hR5, hC5, hS5⟩)
        go_ret
        exact ⟨rfl, (HC2.out.trans1 hC5).mono (fun k hk => hk.1), _, _, by rw [HM.out]; exact hR5.ext (fun k hk => hk.1)⟩
end Go.Proofs.YtpfkeohaaeiaaaaGreatDoor
namespace Go.Proofs.YtpfkeohaaeiaaaaGreatDoor
open Go.RowKit
set_option maxRecDepth 100000
/-- the row's end is copied to its head -/
theorem step_copy_down {P : Program} {ops : Array Oper} {o : Oper} {a : Act} {w : World} {K : Act → World → Prop} {Q : Exit → Act → World → Prop} {E : Prop} (hgd : o.guard = none) (d s : Operand) (dT sT : TypeId)
    (ho : o.op = .call { callee := .builtin .copy, args := #[d, s], argTypes := #[dT, sT] }) (elem : TypeId) (hu : P.underlying dT = some (.slice elem)) (hsz : (P.info? elem).map (·.size) = some 1)
    (g n cap p m : Nat) (xs : List Value) (hown : w.ownsRow 0 elem 1 (.slice (some ⟨g, 0, none⟩) n cap) n xs) (hpm : p + m = n) (h1 : ∀ v ∈ xs, v.oneCell' = true)
    (hd : a.eval d = .slice (some ⟨g, 0, none⟩) n cap) (sp : Option Addr) (sCap : Nat) (hs : a.eval s = .slice sp m sCap) (hsp : 0 < m → sp = some ⟨g, p, none⟩)
    (h : ∀ w', w'.ownsRow 0 elem 1 (.slice (some ⟨g, 0, none⟩) m cap) m (xs.drop p) → w.grownBy w' (some g) → K (a.put o.dst (goInt m)) w') :
    if Region.wanted o (yielded ops a.tmps) = true then Oper.wp P o a w K Q else E := by
  have hw : Region.wanted o (yielded ops a.tmps) = true := by simp [Region.wanted, hgd]
  rw [if_pos hw]
  obtain ⟨hl, hr⟩ := hown
  rcases hr with ⟨e, _⟩ | ⟨g', cap', cur, e, hb, hg, hn, hc, hcs, htk⟩
  · cases e
  simp only [Value.slice.injEq, Option.some.injEq, Addr.mk.injEq] at e
  obtain ⟨⟨rfl, _, _⟩, _, rfl⟩ := e
  simp only [Nat.mul_one] at *
  have hdl : (xs.drop p).length = m := by rw [List.length_drop]; omega
  by_cases h0 : m = 0
  · subst h0
    have hrun := run_copy_none (P := P) w dT sT o.type elem (some ⟨g, 0, none⟩) sp n cap 0 sCap hu hsz (by simp)
    unfold Oper.wp
    simp [execOp, ho, resolve, invoke, builtin, hd, hs, hrun, Result.andThen]
    exact h w ⟨by simpa using hdl, .inr ⟨g, cap, cur, rfl, hb, hg, Nat.zero_le _, hc, by simpa using hcs, by simpa using (List.eq_nil_of_length_eq_zero hdl).symm⟩⟩ ⟨rfl, rfl, rfl, Nat.le_refl _, fun _ _ _ => rfl⟩
  · obtain rfl := hsp (by omega)
    have hx : ∀ j v, (xs.drop p)[j]? = some v → w.cell? ((⟨g, p, none⟩ : Addr).add j) = some v := by
      intro j v hj
      rw [List.getElem?_drop, ← htk] at hj
      have hlt : p + j < n := by
        rcases Nat.lt_or_ge (p + j) n with h | h
        · exact h
        · rw [List.getElem?_eq_none (by simp; omega)] at hj; cases hj
      rw [List.getElem?_take_of_lt hlt] at hj
      rw [add_plain]
      simp only [World.cell?, hg]
      simpa using hj
    have hrun := run_copy_row (P := P) w dT sT o.type elem g 0 n cap ⟨g, p, none⟩ m sCap cur elem (xs.drop p) hu hsz hg (by rw [hdl]; exact (Nat.min_eq_left (by omega)).symm) hx (by rw [hdl]; omega) (fun v hv => h1 v (List.mem_of_mem_drop hv))
    unfold Oper.wp
    simp [execOp, ho, resolve, invoke, builtin, hd, hs, hrun, Result.andThen]
    rw [show xs.length - p = m from by omega]
    refine h _ ⟨by simpa using hdl, .inr ⟨g, cap, _, rfl, hb, setRow_heap w g cur _ elem _ hg, by omega, hc, ?_, ?_⟩⟩ ⟨rfl, rfl, rfl, by simp, fun k _ hk => setRow_other w g k _ (fun e => hk (by rw [e]))⟩
    · simp; omega
    · simp only [Nat.mul_one]; rw [← hdl]; simp
end Go.Proofs.YtpfkeohaaeiaaaaGreatDoor
namespace Go.Proofs.YtpfkeohaaeiaaaaGreatDoor
open Go.RowKit
set_option maxRecDepth 100000
theorem wp_join {P : Program} {c : Code} {Q : Exit → Act → World → Prop} {a : Act} {w : World} (R : World → Prop) (h : ∃ A : Act, c.wp P (Exit.then (fun a9 w9 => a9 = A ∧ R w9) (fun _ _ _ => False)) a w ∧ ∀ w9, R w9 → Q .normal A w9) : c.wp P Q a w := by
  obtain ⟨A, h1, h2⟩ := h
  refine Code.wp_mono (fun e a9 w9 hh => ?_) h1
  cases e <;> first | exact hh.elim | (obtain ⟨ha, hr⟩ := hh; subst ha; exact h2 w9 hr)
theorem step_copy_none {P : Program} {ops : Array Oper} {o : Oper} {a : Act} {w : World} {K : Act → World → Prop} {Q : Exit → Act → World → Prop} {E : Prop} (hgd : o.guard = none) (d s : Operand) (dT sT : TypeId)
    (ho : o.op = .call { callee := .builtin .copy, args := #[d, s], argTypes := #[dT, sT] }) (elem : TypeId) (hu : P.underlying dT = some (.slice elem)) (hsz : (P.info? elem).map (·.size) = some 1)
    (hd : a.eval d = .slice none 0 0) (hs : a.eval s = .slice none 0 0) (h : K (a.put o.dst (goInt 0)) w) :
    if Region.wanted o (yielded ops a.tmps) = true then Oper.wp P o a w K Q else E := by
  have hw : Region.wanted o (yielded ops a.tmps) = true := by simp [Region.wanted, hgd]
  rw [if_pos hw]
  have hrun := run_copy_none (P := P) w dT sT o.type elem none none 0 0 0 0 hu hsz (by simp)
  unfold Oper.wp
  simp [execOp, ho, resolve, invoke, builtin, hd, hs, hrun, Result.andThen]
  exact h
theorem info5 : (Tryz.prog.info? 5).map (·.size) = some 1 := by kernel_rfl
theorem info67 : (Tryz.prog.info? 67).map (·.size) = some 1 := by kernel_rfl
theorem one_map (k : IntKind) (l : List Int) : ∀ v ∈ l.map (Value.int k), v.oneCell' = true := by
  intro v hv
  obtain ⟨x, _, rfl⟩ := List.mem_map.1 hv
  rfl
/-- behind the first copy -/
theorem Rep.cutData {w w3 : World} {b : Nat} {F : Nat → Prop} {B : Bf} {vs : Value} {a : Option Addr} {n m cap : Nat} (R : Rep w b F B (.slice a n cap) vs) (k : Nat) (hm : m = (B.data.drop k).length) (hg : w.grownBy w3 (Value.ownBlock (.slice a n cap))) (ho : w3.ownsRow 0 5 1 (.slice a m cap) m ((B.data.map (.int .u8)).drop k)) :
    Chg F w (w3.setCell ⟨b, 2, none⟩ (.slice a m cap)) ∧ Rep (w3.setCell ⟨b, 2, none⟩ (.slice a m cap)) b (Ext F w (w3.setCell ⟨b, 2, none⟩ (.slice a m cap))) { B with data := B.data.drop k } (.slice a m cap) vs := by
  refine Rep.newData R hg (fun j hj => .inl ?_) ?_ rfl rfl
  · cases a with
    | none => simp [Value.ownBlock] at hj
    | some a => simpa [Value.ownBlock] using hj
  · rw [← List.map_drop] at ho
    rw [hm] at ho ⊢
    exact ho
theorem Rep.cutStates {w w3 : World} {b : Nat} {F : Nat → Prop} {B : Bf} {vd : Value} {a : Option Addr} {n m cap : Nat} (R : Rep w b F B vd (.slice a n cap)) (k : Nat) (hm : m = (B.st.drop k).length) (hg : w.grownBy w3 (Value.ownBlock (.slice a n cap))) (ho : w3.ownsRow 0 67 1 (.slice a m cap) m ((B.st.map (.int .u8)).drop k)) :
    Chg F w (w3.setCell ⟨b, 3, none⟩ (.slice a m cap)) ∧ Rep (w3.setCell ⟨b, 3, none⟩ (.slice a m cap)) b (Ext F w (w3.setCell ⟨b, 3, none⟩ (.slice a m cap))) { B with st := B.st.drop k } vd (.slice a m cap) := by
  refine Rep.newStates R hg (fun j hj => .inl ?_) ?_ rfl rfl
  · cases a with
    | none => simp [Value.ownBlock] at hj
    | some a => simpa [Value.ownBlock] using hj
  · rw [← List.map_drop] at ho
    rw [hm] at ho ⊢
    exact ho
theorem lost_any (b : Nat) (F : Nat → Prop) (B : Bf) (f : Fr) (w : World) (h : Inv w b F B) (hg : Good B) :
    Calls Tryz.prog 25 #[.pointer (some ⟨b, 0, none⟩), f.val] w fun e w' => e = .returned (.int .i64 (if fitsF B f then 0 else 170)) ∧ Chg F w w' ∧ Inv w' b (Ext F w w') (if fitsF B f then markB false B f else B) := by
  have H0 : Below w.heap.size w (w.alloc (.cells f.cells 56)) := (Below.refl _ w).alloc (Nat.le_refl _) _
  have HQ := Lib.hid (heap_alloc_new w (.cells f.cells 56))
  have HC : Hid (Chg F w (w.alloc (.cells f.cells 56))) := Lib.hid (Chg.below H0)
  have HZ : Hid (w.heap.size ≤ (w.alloc (.cells f.cells 56)).heap.size) := Lib.hid (by simp)
  have HI := Lib.hid (h.below H0)
  cases hf : fitsF B f
  · have MB := Lib.hid (mark_bad b F B f (.func (.func 52) #[] #[]) _ (h.below H0) hg hf)
    clear H0 hf
    change Calls Tryz.prog 25 #[.pointer (some ⟨b, 0, none⟩), .agg f.cells] w _
    go_enter Tryz.func25, Tryz.ntmps25
    go_wp2_with (first | (go_at_call 51; refine MB.out.mono ?_; rintro e w2 ⟨rfl, hB⟩) | (refine wpList_load_row rfl 56 _ rfl w.heap.size rfl 56 f.cells (0, 0) _ HQ.out Tryz.underlying56 rfl (size56 f) ?_))
    go_ret
    exact ⟨rfl, HC.out.trans1 (Chg.below hB), (HI.out.below hB).ext (fun k hk => .inl hk)⟩
  · have MB := Lib.hid (mark_ok34 b F B f _ (h.below H0) hg hf)
    clear H0 hf
    change Calls Tryz.prog 25 #[.pointer (some ⟨b, 0, none⟩), .agg f.cells] w _
    go_enter Tryz.func25, Tryz.ntmps25
    go_wp2_with (first | (go_at_call 51; refine MB.out.mono ?_; rintro e w2 ⟨rfl, hC, hI⟩) | (refine wpList_load_row rfl 56 _ rfl w.heap.size rfl 56 f.cells (0, 0) _ HQ.out Tryz.underlying56 rfl (size56 f) ?_))
    go_ret
    exact ⟨rfl, HC.out.trans1 hC, hI.ext (fun k hk => .inl hk)⟩
theorem acked_nil (f : Fr) (w : World) :
    Calls Tryz.prog 26 #[.pointer none, f.val] w fun e w' => e = .returned (.int .i64 1) ∧ Below w.heap.size w w' := by
  have H0 : Below w.heap.size w (w.alloc (.cells f.cells 56)) := (Below.refl _ w).alloc (Nat.le_refl _) _
  have HQ := Lib.hid (heap_alloc_new w (.cells f.cells 56))
  have HH := Lib.hid H0
  have MB := Lib.hid (mark_nil f (.func (.func 53) #[] #[]) (w.alloc (.cells f.cells 56)))
  clear H0
  change Calls Tryz.prog 26 #[.pointer none, .agg f.cells] w _
  go_enter Tryz.func26, Tryz.ntmps26
  go_wp2_with (first | (go_at_call 51; refine MB.out.mono ?_; rintro e w2 ⟨rfl, hB⟩) | (refine wpList_load_row rfl 56 _ rfl w.heap.size rfl 56 f.cells (0, 0) _ HQ.out Tryz.underlying56 rfl (size56 f) ?_))
  go_ret
  exact ⟨rfl, HH.out.trans (hB.mono (by simp))⟩
theorem acked_bad (b : Nat) (F : Nat → Prop) (B : Bf) (f : Fr) (w : World) (h : Inv w b F B) (hg : Good B) (hf : fitsF B f = false) :
    Calls Tryz.prog 26 #[.pointer (some ⟨b, 0, none⟩), f.val] w fun e w' => e = .returned (.int .i64 170) ∧ Below w.heap.size w w' := by
  have H0 : Below w.heap.size w (w.alloc (.cells f.cells 56)) := (Below.refl _ w).alloc (Nat.le_refl _) _
  have HQ := Lib.hid (heap_alloc_new w (.cells f.cells 56))
  have HH := Lib.hid H0
  have MB := Lib.hid (mark_bad b F B f (.func (.func 53) #[] #[]) _ (h.below H0) hg hf)
  clear H0 hf
  change Calls Tryz.prog 26 #[.pointer (some ⟨b, 0, none⟩), .agg f.cells] w _
  go_enter Tryz.func26, Tryz.ntmps26
  go_wp2_with (first | (go_at_call 51; refine MB.out.mono ?_; rintro e w2 ⟨rfl, hB⟩) | (refine wpList_load_row rfl 56 _ rfl w.heap.size rfl 56 f.cells (0, 0) _ HQ.out Tryz.underlying56 rfl (size56 f) ?_))
  go_ret
  exact ⟨rfl, HH.out.trans (hB.mono (by simp))⟩
/-- how many of the first states are 'acknowledged' -/
def lead : List Int → Nat
  | [] => 0
  | x :: l => if x = 3 then lead l + 1 else 0
theorem lead_le (l : List Int) : lead l ≤ l.length := by
  induction l with
  | nil => exact Nat.le_refl _
  | cons x l ih => simp only [lead]; split <;> simp <;> omega
theorem lead_lt : ∀ (l : List Int) (k : Nat), k < lead l → l[k]?.getD 0 = 3 := by
  intro l
  induction l with
  | nil => intro k h; simp [lead] at h
  | cons x l ih =>
    intro k h
    simp only [lead] at h
    split at h
    · cases k with
      | zero => simpa using ‹x = 3›
      | succ k => simpa using ih k (by omega)
    · omega
theorem lead_at : ∀ (l : List Int), lead l < l.length → l[lead l]?.getD 0 ≠ 3 := by
  intro l
  induction l with
  | nil => intro h; simp [lead] at h
  | cons x l ih =>
    intro h
    simp only [lead] at h ⊢
    split
    · rename_i hx
      rw [if_pos hx] at h
      simpa using ih (by simpa using h)
    · simpa using ‹¬ x = 3›
def dropB (B : Bf) : Bf := { B with base := B.base + lead B.st, data := B.data.drop (lead B.st), st := B.st.drop (lead B.st) }
def ackedB (B : Bf) (f : Fr) : Bf := dropB (markB true B f)
theorem Good.mark {B : Bf} (hg : Good B) (A : Bool) (f : Fr) : Good (markB A B f) :=
  ⟨hg.l1, hg.l2, hg.b0, hg.b1, by simp only [markB, turnTo_length]; exact hg.len, hg.cap, hg.s0, hg.s1⟩
set_option maxHeartbeats 8000000 in
theorem acked_lt (b : Nat) (F : Nat → Prop) (B0 : Bf) (f : Fr) (w : World) (h : Inv w b F B0) (hg0 : Good B0) (hf : fitsF B0 f = true) (hq : lead (markB true B0 f).st < (markB true B0 f).st.length) :
    Calls Tryz.prog 26 #[.pointer (some ⟨b, 0, none⟩), f.val] w fun e w' => e = .returned (.int .i64 0) ∧ Chg F w w' ∧ Inv w' b (Ext F w w') (ackedB B0 f) := by
  have H0 : Below w.heap.size w (w.alloc (.cells f.cells 56)) := (Below.refl _ w).alloc (Nat.le_refl _) _
  have HQ := Lib.hid (heap_alloc_new w (.cells f.cells 56))
  have HC : Hid (Chg F w (w.alloc (.cells f.cells 56))) := Lib.hid (Chg.below H0)
  have MB := Lib.hid (mark_ok35 b F B0 f _ (h.below H0) hg0 hf)
  unfold ackedB
  have hg := hg0.mark true f
  generalize markB true B0 f = B at *
  obtain ⟨p, hp⟩ : ∃ p, lead B.st = p := ⟨_, rfl⟩
  have HD : Hid (dropB B = { B with base := B.base + p, data := B.data.drop p, st := B.st.drop p }) := Lib.hid (by unfold dropB; rw [hp])
  have hple := lead_le B.st
  have hplt := Lib.hid (lead_lt B.st)
  have hpat := Lib.hid (lead_at B.st)
  rw [hp] at hple hplt hpat hq
  obtain ⟨l1, l2, b0, b1, len, cp, s0, s1⟩ := hg
  obtain ⟨sl, hsl⟩ : ∃ n, B.st.length = n := ⟨_, rfl⟩
  rw [hsl] at hple hpat len hq
  have hs9 : sl ≤ 8192 := by omega
  have hw1 : IntKind.i64.wrap (B.base + (p : Int)) = B.base + (p : Int) := IntWalk.i64_in _ (by omega)
  have HL := Lib.hid len
  clear H0 hf h hp hg0 len
  change Calls Tryz.prog 26 #[.pointer (some ⟨b, 0, none⟩), .agg f.cells] w _
  go_enter Tryz.func26, Tryz.ntmps26
  go_wp2_with (first | (go_at_call 51; refine MB.out.mono ?_; rintro e w2 ⟨rfl, hC, hI⟩) | (refine wpList_load_row rfl 56 _ rfl w.heap.size rfl 56 f.cells (0, 0) _ HQ.out Tryz.underlying56 rfl (size56 f) ?_))
  have C2 := Lib.hid (HC.out.trans1 hC)
  obtain ⟨vd, vs, R⟩ := hI
  clear HC MB HQ hC
  have HR := Lib.hid R
  obtain ⟨a2, caps, rfl, hcaps⟩ := own_form R.rs
  obtain ⟨c0, c1, c2, c3, c4, c5, c6, fr⟩ := R.facts
  rw [hsl] at c3
  clear c0 c2 c4 c5 c6
  go_loopw [6] (fun i wr => ∃ (k : Nat), k ≤ p ∧ i = .int .i64 k ∧ wr = w2) (fun i _ => p - (intOf i).toNat)
  case atStart => exact ⟨0, by omega, rfl, rfl⟩
  case round =>
    obtain ⟨k, hk, rfl, rfl⟩ := hrel
    by_cases hlt : k < p
    · obtain ⟨g, cpp, e, hc1, hc2, hcell, hfr⟩ := own_cells R.rs (by omega)
      simp only [Value.slice.injEq] at e
      obtain ⟨rfl, _, rfl⟩ := e
      have e1 := hcell k (by omega)
      rw [hplt.out k hlt] at e1
      unfold maxLen at hc2
      have hks : k < sl := by omega
      clear hcell hfr R
      go_wp2
      go_roundw
      case rel => exact ⟨k + 1, by omega, by simp, trivial⟩
      case measure => simp [intOf]; omega
    · have hkp : k = p := by omega
      subst hkp
      have R7 := Lib.hid (HR.out.set 1 (.int .i64 (B.base + (k : Int))) (B' := { B with base := B.base + k }) rfl rfl rfl)
      have C7 := Lib.hid (C2.out.set b 1 (.int .i64 (B.base + (k : Int))) HR.out.fb)
      obtain ⟨g, x, rfl, e1, e2⟩ : ∃ g x, a2 = some ⟨g, 0, none⟩ ∧ wr.cell? ⟨g, k, none⟩ = some (.int .u8 x) ∧ (x == 3) = false := by
        obtain ⟨g, cpp, e, hc1, hc2, hcell, hfr⟩ := own_cells R.rs (by omega)
        simp only [Value.slice.injEq] at e
        obtain ⟨rfl, _, rfl⟩ := e
        exact ⟨g, _, rfl, hcell k (by omega), by simpa using hpat.out hq⟩
      have h1 : k < sl := hq
      have HDP : Hid (0 < B.data.length) := Lib.hid (by rw [← HL.out]; omega)
      have HSP : Hid (0 < B.st.length) := Lib.hid (by rw [hsl]; omega)
      clear hq
      have hcm := R.rs.2
      clear R hk hlt
      have hc2 : caps ≤ 9223372036854775807 := by
        rcases hcm with ⟨e, _⟩ | ⟨g, cap, cur, e, _, _, _, hc, _⟩
        · cases e
        · simp only [Value.slice.injEq] at e; obtain ⟨_, _, rfl⟩ := e; exact hc
      clear hcm
      go_wp2
      have HKL : Hid (k ≤ B.data.length) := Lib.hid (by rw [← HL.out]; exact hple)
      have HSL : Hid (k ≤ B.st.length) := Lib.hid (by rw [hsl]; exact hple)
      clear c1 c3 fr
      change Code.wp _ _ _ _ (wr.setCell ⟨b, 1, none⟩ (.int .i64 (B.base + (k : Int))))
      generalize wr.setCell ⟨b, 1, none⟩ (.int .i64 (B.base + (k : Int))) = w8 at *
      clear HR C2 hsl hpat hplt hcaps h1 hs9
      try clear e1 e2
      obtain ⟨c0, c1, c2, c3, c4, c5, c6, fr⟩ := R7.out.facts
      clear c0 c1 c3 c4 c5 c6
      rcases R7.out.rd.2 with ⟨e, e0⟩ | ⟨gd, capd, cur, e, _, _, hnd, hcd, _⟩
      · exact absurd HDP.out (by rw [show B.data.length = 0 from e0]; decide)
      · simp only [] at e
        subst e
        unfold maxLen at hcd
        have hkl := HKL.out
        have hnd2 : B.data.length ≤ capd := hnd
        have hmc : B.data.length - k ≤ capd := by omega
        have HPM : Hid (k + (B.data.length - k) = B.data.length) := Lib.hid (by omega)
        have HML : Hid (B.data.length - k = (B.data.drop k).length) := Lib.hid (by rw [List.length_drop])
        obtain ⟨Z, hZ⟩ : ∃ Z : Option Addr, (if capd = k then some (⟨gd, 0, none⟩ : Addr) else some ⟨gd, k, none⟩) = Z := ⟨_, rfl⟩
        have HNE : Hid (0 < B.data.length - k → Z = some ⟨gd, k, none⟩) := Lib.hid (fun h => by rw [← hZ]; exact if_neg (by omega))
        clear hnd
        refine wp_join (fun w10 => Chg F w8.drew w10 ∧ ∃ vd1 vs1, Rep w10 b (Ext F w8.drew w10) { B with base := B.base + k, data := B.data.drop k } vd1 vs1) ?_
        apply Exists.intro
        refine ⟨?_, ?_⟩
        · go_region_law ((refine step_copy_down rfl (.tmp 48) (.tmp 54) 60 60 rfl 5 Tryz.underlying60 info5 gd B.data.length capd k (B.data.length - k) _ R7.out.drew.rd HPM.out (one_map _ _) rfl _ _ rfl HNE.out ?_; intro w9 ho hg; have c2' := (cell_whole (R7.out.drew.heapb (.inl rfl) hg) 2).trans (rfl : _ = some (Value.slice (some ⟨gd, 0, none⟩) B.data.length capd)); have fr' := frozen_whole (R7.out.drew.heapb (.inl rfl) hg)))
          all_goals
            have N1 := Rep.cutData R7.out.drew k HML.out hg ho
            exact ⟨rfl, N1.1, _, _, N1.2⟩
        · rintro w10 ⟨hC1, vd1, vs1, hR1⟩
          have C8 := Lib.hid (C7.out.trans1 ((Chg.refl F w8).drew.trans1 hC1))
          have Z8 : Hid (w.heap.size ≤ w8.drew.heap.size) := Lib.hid C7.out.size
          have ZZ := Lib.hid hC1.size
          have R8 := Lib.hid hR1
          clear c2 fr hC1 hR1 R7
          clear hmc hkl hnd2
          go_wp2
          obtain ⟨c0, c1, c2, c3, c4, c5, c6, fr⟩ := R8.out.facts
          clear c0 c1 c2 c4 c5 c6
          have FIN : Hid (∀ w12, Chg (Ext F w8.drew w10) w10.drew w12 → (∃ vd2 vs2, Rep w12 b (Ext (Ext F w8.drew w10) w10.drew w12) { B with base := B.base + k, data := B.data.drop k, st := B.st.drop k } vd2 vs2) → Chg F w w12 ∧ Inv w12 b (Ext F w w12) (dropB B)) := Lib.hid (fun w12 hC2 ⟨vd2, vs2, hR2⟩ => ⟨C8.out.drew.trans (hC2.mono (ext_left Z8.out)), vd2, vs2, by rw [HD.out]; exact hR2.ext (ext_ext (w1 := w8.drew) Z8.out ZZ.out hC2.size)⟩)
          clear C8 ZZ Z8
          rcases R8.out.rs.2 with ⟨e, e0⟩ | ⟨gs, caps2, cur, e, _, _, hnd, hcd, _⟩
          · exact absurd HSP.out (by rw [show B.st.length = 0 from e0]; decide)
          · subst e
            unfold maxLen at hcd
            have hkl := HSL.out
            have hnd2 : B.st.length ≤ caps2 := hnd
            have hmc : B.st.length - k ≤ caps2 := by omega
            have HPM2 : Hid (k + (B.st.length - k) = B.st.length) := Lib.hid (by omega)
            have HML2 : Hid (B.st.length - k = (B.st.drop k).length) := Lib.hid (by rw [List.length_drop])
            obtain ⟨Z2, hZ2⟩ : ∃ Z : Option Addr, (if caps2 = k then some (⟨gs, 0, none⟩ : Addr) else some ⟨gs, k, none⟩) = Z := ⟨_, rfl⟩
            have HNE2 : Hid (0 < B.st.length - k → Z2 = some ⟨gs, k, none⟩) := Lib.hid (fun h => by rw [← hZ2]; exact if_neg (by omega))
            clear hnd
            refine wp_join (fun w12 => Chg (Ext F w8.drew w10) w10.drew w12 ∧ ∃ vd1 vs1, Rep w12 b (Ext (Ext F w8.drew w10) w10.drew w12) { B with base := B.base + k, data := B.data.drop k, st := B.st.drop k } vd1 vs1) ?_
            apply Exists.intro
            refine ⟨?_, ?_⟩
            · go_region_law ((refine step_copy_down rfl (.tmp 67) (.tmp 73) 66 66 rfl 67 Tryz.underlying66 info67 gs B.st.length caps2 k (B.st.length - k) _ R8.out.drew.rs HPM2.out (one_map _ _) rfl _ _ rfl HNE2.out ?_; intro w11 ho hg; have c3' := (cell_whole (R8.out.drew.heapb (.inr rfl) hg) 3).trans (rfl : _ = some (Value.slice (some ⟨gs, 0, none⟩) B.st.length caps2)); have fr' := frozen_whole (R8.out.drew.heapb (.inr rfl) hg)))
              all_goals
                have N2 := Rep.cutStates R8.out.drew k HML2.out hg ho
                exact ⟨rfl, N2.1, _, _, N2.2⟩
            · rintro w12 ⟨hC2, hR2⟩
              have FI := Lib.hid (FIN.out _ hC2 hR2)
              clear c3 fr R8 hC2 hR2
              go_wp2
              go_ret
              exact ⟨rfl, FI.out⟩
end Go.Proofs.YtpfkeohaaeiaaaaGreatDoor
namespace Go.Proofs.YtpfkeohaaeiaaaaGreatDoor
open Go.RowKit
set_option maxRecDepth 100000
set_option maxHeartbeats 8000000 in
theorem acked_eq (b : Nat) (F : Nat → Prop) (B0 : Bf) (f : Fr) (w : World) (h : Inv w b F B0) (hg0 : Good B0) (hf : fitsF B0 f = true) (hq : ¬ lead (markB true B0 f).st < (markB true B0 f).st.length) :
    Calls Tryz.prog 26 #[.pointer (some ⟨b, 0, none⟩), f.val] w fun e w' => e = .returned (.int .i64 0) ∧ Chg F w w' ∧ Inv w' b (Ext F w w') (ackedB B0 f) := by
  have H0 : Below w.heap.size w (w.alloc (.cells f.cells 56)) := (Below.refl _ w).alloc (Nat.le_refl _) _
  have HQ := Lib.hid (heap_alloc_new w (.cells f.cells 56))
  have HC : Hid (Chg F w (w.alloc (.cells f.cells 56))) := Lib.hid (Chg.below H0)
  have MB := Lib.hid (mark_ok35 b F B0 f _ (h.below H0) hg0 hf)
  unfold ackedB
  have hg := hg0.mark true f
  generalize markB true B0 f = B at *
  obtain ⟨p, hp⟩ : ∃ p, lead B.st = p := ⟨_, rfl⟩
  have HD : Hid (dropB B = { B with base := B.base + p, data := B.data.drop p, st := B.st.drop p }) := Lib.hid (by unfold dropB; rw [hp])
  have hple := lead_le B.st
  have hplt := Lib.hid (lead_lt B.st)
  have hpat := Lib.hid (lead_at B.st)
  rw [hp] at hple hplt hpat hq
  obtain ⟨l1, l2, b0, b1, len, cp, s0, s1⟩ := hg
  obtain ⟨sl, hsl⟩ : ∃ n, B.st.length = n := ⟨_, rfl⟩
  rw [hsl] at hple hpat len hq
  have hs9 : sl ≤ 8192 := by omega
  have hw1 : IntKind.i64.wrap (B.base + (p : Int)) = B.base + (p : Int) := IntWalk.i64_in _ (by omega)
  have HL := Lib.hid len
  clear H0 hf h hp hg0 len
  change Calls Tryz.prog 26 #[.pointer (some ⟨b, 0, none⟩), .agg f.cells] w _
  go_enter Tryz.func26, Tryz.ntmps26
  go_wp2_with (first | (go_at_call 51; refine MB.out.mono ?_; rintro e w2 ⟨rfl, hC, hI⟩) | (refine wpList_load_row rfl 56 _ rfl w.heap.size rfl 56 f.cells (0, 0) _ HQ.out Tryz.underlying56 rfl (size56 f) ?_))
  have C2 := Lib.hid (HC.out.trans1 hC)
  obtain ⟨vd, vs, R⟩ := hI
  clear HC MB HQ hC
  have HR := Lib.hid R
  obtain ⟨a2, caps, rfl, hcaps⟩ := own_form R.rs
  obtain ⟨c0, c1, c2, c3, c4, c5, c6, fr⟩ := R.facts
  rw [hsl] at c3
  clear c0 c2 c4 c5 c6
  go_loopw [6] (fun i wr => ∃ (k : Nat), k ≤ p ∧ i = .int .i64 k ∧ wr = w2) (fun i _ => p - (intOf i).toNat)
  case atStart => exact ⟨0, by omega, rfl, rfl⟩
  case round =>
    obtain ⟨k, hk, rfl, rfl⟩ := hrel
    by_cases hlt : k < p
    · obtain ⟨g, cpp, e, hc1, hc2, hcell, hfr⟩ := own_cells R.rs (by omega)
      simp only [Value.slice.injEq] at e
      obtain ⟨rfl, _, rfl⟩ := e
      have e1 := hcell k (by omega)
      rw [hplt.out k hlt] at e1
      unfold maxLen at hc2
      have hks : k < sl := by omega
      clear hcell hfr R
      go_wp2
      go_roundw
      case rel => exact ⟨k + 1, by omega, by simp, trivial⟩
      case measure => simp [intOf]; omega
    · have hkp : k = p := by omega
      subst hkp
      have R7 := Lib.hid (HR.out.set 1 (.int .i64 (B.base + (k : Int))) (B' := { B with base := B.base + k }) rfl rfl rfl)
      have C7 := Lib.hid (C2.out.set b 1 (.int .i64 (B.base + (k : Int))) HR.out.fb)
      have hcm := R.rs.2
      clear R hk hlt
      have h1 : ¬ k < sl := hq
      clear hq
      clear hcm
      go_wp2
      have HKL : Hid (k ≤ B.data.length) := Lib.hid (by rw [← HL.out]; exact hple)
      have HSL : Hid (k ≤ B.st.length) := Lib.hid (by rw [hsl]; exact hple)
      clear c1 c3 fr
      change Code.wp _ _ _ _ (wr.setCell ⟨b, 1, none⟩ (.int .i64 (B.base + (k : Int))))
      generalize wr.setCell ⟨b, 1, none⟩ (.int .i64 (B.base + (k : Int))) = w8 at *
      clear HR C2 hsl hpat hplt hcaps h1 hs9
      try clear e1 e2
      obtain ⟨c0, c1, c2, c3, c4, c5, c6, fr⟩ := R7.out.facts
      clear c0 c1 c3 c4 c5 c6
      rcases R7.out.rd.2 with ⟨e, e0⟩ | ⟨gd, capd, cur, e, _, _, hnd, hcd, _⟩
      · subst e
        have hnl : B.data = [] := List.eq_nil_of_length_eq_zero e0
        have HK0 : Hid (k = 0) := Lib.hid (by have := HKL.out; rw [hnl] at this; simpa using this)
        have hk00 := HK0.out
        subst hk00
        clear HK0
        have N1 := Lib.hid (Rep.cutData R7.out.drew 0 (w3 := w8.drew) (by show 0 = (B.data.drop 0).length; rw [hnl]; simp) ⟨rfl, rfl, rfl, Nat.le_refl _, fun _ _ _ => rfl⟩ (by show World.ownsRow _ _ _ _ _ _ ((B.data.map (.int .u8)).drop 0); rw [hnl]; simpa using World.ownsRow_nil _ _ _ _))
        clear e0
        refine wp_join (fun w10 => w10 = w8.drew.setCell ⟨b, 2, none⟩ (.slice none 0 0)) ?_
        apply Exists.intro
        refine ⟨?_, ?_⟩
        · go_region_law ((refine step_copy_none rfl (.tmp 48) (.tmp 54) 60 60 rfl 5 Tryz.underlying60 info5 rfl rfl ?_))
          all_goals exact ⟨rfl, rfl⟩
        · rintro w10 rfl
          have hN : Chg F w8.drew (w8.drew.setCell ⟨b, 2, none⟩ (.slice none 0 0)) ∧ ∃ vd1 vs1, Rep (w8.drew.setCell ⟨b, 2, none⟩ (.slice none 0 0)) b (Ext F w8.drew (w8.drew.setCell ⟨b, 2, none⟩ (.slice none 0 0))) { B with base := B.base + 0, data := B.data.drop 0 } vd1 vs1 := ⟨N1.out.1, _, _, N1.out.2⟩
          clear N1
          generalize w8.drew.setCell ⟨b, 2, none⟩ (.slice none 0 0) = w10 at *
          revert hN
          revert w10
          rintro w10 ⟨hC1, vd1, vs1, hR1⟩
          have C8 := Lib.hid (C7.out.trans1 ((Chg.refl F w8).drew.trans1 hC1))
          have Z8 : Hid (w.heap.size ≤ w8.drew.heap.size) := Lib.hid C7.out.size
          have ZZ := Lib.hid hC1.size
          have R8 := Lib.hid hR1
          clear c2 fr hC1 hR1 R7
          go_wp2
          obtain ⟨c0, c1, c2, c3, c4, c5, c6, fr⟩ := R8.out.facts
          clear c0 c1 c2 c4 c5 c6
          have FIN : Hid (∀ w12, Chg (Ext F w8.drew w10) w10.drew w12 → (∃ vd2 vs2, Rep w12 b (Ext (Ext F w8.drew w10) w10.drew w12) { B with base := B.base + 0, data := B.data.drop 0, st := B.st.drop 0 } vd2 vs2) → Chg F w w12 ∧ Inv w12 b (Ext F w w12) (dropB B)) := Lib.hid (fun w12 hC2 ⟨vd2, vs2, hR2⟩ => ⟨C8.out.drew.trans (hC2.mono (ext_left Z8.out)), vd2, vs2, by rw [HD.out]; exact hR2.ext (ext_ext (w1 := w8.drew) Z8.out ZZ.out hC2.size)⟩)
          clear C8 ZZ Z8
          rcases R8.out.rs.2 with ⟨e, e0⟩ | ⟨gs, caps2, cur, e, _, _, hnd, hcd, _⟩
          · subst e
            have hnl : B.st = [] := List.eq_nil_of_length_eq_zero e0
            have N2 := Lib.hid (Rep.cutStates R8.out.drew 0 (w3 := w10.drew) (by show 0 = (B.st.drop 0).length; rw [hnl]; simp) ⟨rfl, rfl, rfl, Nat.le_refl _, fun _ _ _ => rfl⟩ (by show World.ownsRow _ _ _ _ _ _ ((B.st.map (.int .u8)).drop 0); rw [hnl]; simpa using World.ownsRow_nil _ _ _ _))
            clear e0
            refine wp_join (fun w12 => w12 = w10.drew.setCell ⟨b, 3, none⟩ (.slice none 0 0)) ?_
            apply Exists.intro
            refine ⟨?_, ?_⟩
            · go_region_law ((refine step_copy_none rfl (.tmp 67) (.tmp 73) 66 66 rfl 67 Tryz.underlying66 info67 rfl rfl ?_))
              all_goals exact ⟨rfl, rfl⟩
            · rintro w12 rfl
              have FI := Lib.hid (FIN.out _ N2.out.1 ⟨_, _, N2.out.2⟩)
              clear c3 fr R8 N2
              go_wp2
              go_ret
              exact ⟨rfl, FI.out⟩
          · subst e
            unfold maxLen at hcd
            have hkl := HSL.out
            have hnd2 : B.st.length ≤ caps2 := hnd
            have hmc : B.st.length ≤ caps2 := by omega
            have HPM2 : Hid (0 + B.st.length = B.st.length) := Lib.hid (by omega)
            have HML2 : Hid (B.st.length = (B.st.drop 0).length) := Lib.hid (by simp)
            obtain ⟨Z2, hZ2⟩ : ∃ Z : Option Addr, (if caps2 = 0 then some (⟨gs, 0, none⟩ : Addr) else some ⟨gs, 0, none⟩) = Z := ⟨_, rfl⟩
            have HNE2 : Hid (0 < B.st.length → Z2 = some ⟨gs, 0, none⟩) := Lib.hid (fun h => by rw [← hZ2]; exact if_neg (by omega))
            clear hnd
            refine wp_join (fun w12 => Chg (Ext F w8.drew w10) w10.drew w12 ∧ ∃ vd1 vs1, Rep w12 b (Ext (Ext F w8.drew w10) w10.drew w12) { B with base := B.base + 0, data := B.data.drop 0, st := B.st.drop 0 } vd1 vs1) ?_
            apply Exists.intro
            refine ⟨?_, ?_⟩
            · go_region_law ((refine step_copy_down rfl (.tmp 67) (.tmp 73) 66 66 rfl 67 Tryz.underlying66 info67 gs B.st.length caps2 0 (B.st.length) _ R8.out.drew.rs HPM2.out (one_map _ _) rfl _ _ rfl (fun _ => rfl) ?_; intro w11 ho hg; have c3' := (cell_whole (R8.out.drew.heapb (.inr rfl) hg) 3).trans (rfl : _ = some (Value.slice (some ⟨gs, 0, none⟩) B.st.length caps2)); have fr' := frozen_whole (R8.out.drew.heapb (.inr rfl) hg)))
              all_goals
                have N2 := Rep.cutStates R8.out.drew 0 HML2.out hg ho
                exact ⟨rfl, N2.1, _, _, N2.2⟩
            · rintro w12 ⟨hC2, hR2⟩
              have FI := Lib.hid (FIN.out _ hC2 hR2)
              clear c3 fr R8 hC2 hR2
              go_wp2
              go_ret
              exact ⟨rfl, FI.out⟩
      · simp only [] at e
        subst e
        unfold maxLen at hcd
        have hkl := HKL.out
        have hnd2 : B.data.length ≤ capd := hnd
        have hmc : B.data.length - k ≤ capd := by omega
        have HPM : Hid (k + (B.data.length - k) = B.data.length) := Lib.hid (by omega)
        have HML : Hid (B.data.length - k = (B.data.drop k).length) := Lib.hid (by rw [List.length_drop])
        obtain ⟨Z, hZ⟩ : ∃ Z : Option Addr, (if capd = k then some (⟨gd, 0, none⟩ : Addr) else some ⟨gd, k, none⟩) = Z := ⟨_, rfl⟩
        have HNE : Hid (0 < B.data.length - k → Z = some ⟨gd, k, none⟩) := Lib.hid (fun h => by rw [← hZ]; exact if_neg (by omega))
        clear hnd
        refine wp_join (fun w10 => Chg F w8.drew w10 ∧ ∃ vd1 vs1, Rep w10 b (Ext F w8.drew w10) { B with base := B.base + k, data := B.data.drop k } vd1 vs1) ?_
        apply Exists.intro
        refine ⟨?_, ?_⟩
        · go_region_law ((refine step_copy_down rfl (.tmp 48) (.tmp 54) 60 60 rfl 5 Tryz.underlying60 info5 gd B.data.length capd k (B.data.length - k) _ R7.out.drew.rd HPM.out (one_map _ _) rfl _ _ rfl HNE.out ?_; intro w9 ho hg; have c2' := (cell_whole (R7.out.drew.heapb (.inl rfl) hg) 2).trans (rfl : _ = some (Value.slice (some ⟨gd, 0, none⟩) B.data.length capd)); have fr' := frozen_whole (R7.out.drew.heapb (.inl rfl) hg)))
          all_goals
            have N1 := Rep.cutData R7.out.drew k HML.out hg ho
            exact ⟨rfl, N1.1, _, _, N1.2⟩
        · rintro w10 ⟨hC1, vd1, vs1, hR1⟩
          have C8 := Lib.hid (C7.out.trans1 ((Chg.refl F w8).drew.trans1 hC1))
          have Z8 : Hid (w.heap.size ≤ w8.drew.heap.size) := Lib.hid C7.out.size
          have ZZ := Lib.hid hC1.size
          have R8 := Lib.hid hR1
          clear c2 fr hC1 hR1 R7
          clear hmc hkl hnd2
          go_wp2
          obtain ⟨c0, c1, c2, c3, c4, c5, c6, fr⟩ := R8.out.facts
          clear c0 c1 c2 c4 c5 c6
          have FIN : Hid (∀ w12, Chg (Ext F w8.drew w10) w10.drew w12 → (∃ vd2 vs2, Rep w12 b (Ext (Ext F w8.drew w10) w10.drew w12) { B with base := B.base + k, data := B.data.drop k, st := B.st.drop k } vd2 vs2) → Chg F w w12 ∧ Inv w12 b (Ext F w w12) (dropB B)) := Lib.hid (fun w12 hC2 ⟨vd2, vs2, hR2⟩ => ⟨C8.out.drew.trans (hC2.mono (ext_left Z8.out)), vd2, vs2, by rw [HD.out]; exact hR2.ext (ext_ext (w1 := w8.drew) Z8.out ZZ.out hC2.size)⟩)
          clear C8 ZZ Z8
          rcases R8.out.rs.2 with ⟨e, e0⟩ | ⟨gs, caps2, cur, e, _, _, hnd, hcd, _⟩
          · subst e
            have hnl : B.st = [] := List.eq_nil_of_length_eq_zero e0
            have HK0 : Hid (k = 0) := Lib.hid (by have := HSL.out; rw [hnl] at this; simpa using this)
            have N2 := Lib.hid (Rep.cutStates R8.out.drew k (w3 := w10.drew) (by show 0 = (B.st.drop k).length; rw [hnl]; simp) ⟨rfl, rfl, rfl, Nat.le_refl _, fun _ _ _ => rfl⟩ (by show World.ownsRow _ _ _ _ _ _ ((B.st.map (.int .u8)).drop k); rw [hnl]; simpa using World.ownsRow_nil _ _ _ _))
            have hk0 := HK0.out
            clear e0
            refine wp_join (fun w12 => w12 = w10.drew.setCell ⟨b, 3, none⟩ (.slice none 0 0)) ?_
            apply Exists.intro
            refine ⟨?_, ?_⟩
            · go_region_law ((refine step_copy_none rfl (.tmp 67) (.tmp 73) 66 66 rfl 67 Tryz.underlying66 info67 rfl rfl ?_))
              all_goals exact ⟨rfl, rfl⟩
            · rintro w12 rfl
              clear hk0
              have FI := Lib.hid (FIN.out _ N2.out.1 ⟨_, _, N2.out.2⟩)
              clear c3 fr R8 N2
              go_wp2
              go_ret
              exact ⟨rfl, FI.out⟩
          · subst e
            unfold maxLen at hcd
            have hkl := HSL.out
            have hnd2 : B.st.length ≤ caps2 := hnd
            have hmc : B.st.length - k ≤ caps2 := by omega
            have HPM2 : Hid (k + (B.st.length - k) = B.st.length) := Lib.hid (by omega)
            have HML2 : Hid (B.st.length - k = (B.st.drop k).length) := Lib.hid (by rw [List.length_drop])
            obtain ⟨Z2, hZ2⟩ : ∃ Z : Option Addr, (if caps2 = k then some (⟨gs, 0, none⟩ : Addr) else some ⟨gs, k, none⟩) = Z := ⟨_, rfl⟩
            have HNE2 : Hid (0 < B.st.length - k → Z2 = some ⟨gs, k, none⟩) := Lib.hid (fun h => by rw [← hZ2]; exact if_neg (by omega))
            clear hnd
            refine wp_join (fun w12 => Chg (Ext F w8.drew w10) w10.drew w12 ∧ ∃ vd1 vs1, Rep w12 b (Ext (Ext F w8.drew w10) w10.drew w12) { B with base := B.base + k, data := B.data.drop k, st := B.st.drop k } vd1 vs1) ?_
            apply Exists.intro
            refine ⟨?_, ?_⟩
            · go_region_law ((refine step_copy_down rfl (.tmp 67) (.tmp 73) 66 66 rfl 67 Tryz.underlying66 info67 gs B.st.length caps2 k (B.st.length - k) _ R8.out.drew.rs HPM2.out (one_map _ _) rfl _ _ rfl HNE2.out ?_; intro w11 ho hg; have c3' := (cell_whole (R8.out.drew.heapb (.inr rfl) hg) 3).trans (rfl : _ = some (Value.slice (some ⟨gs, 0, none⟩) B.st.length caps2)); have fr' := frozen_whole (R8.out.drew.heapb (.inr rfl) hg)))
              all_goals
                have N2 := Rep.cutStates R8.out.drew k HML2.out hg ho
                exact ⟨rfl, N2.1, _, _, N2.2⟩
            · rintro w12 ⟨hC2, hR2⟩
              have FI := Lib.hid (FIN.out _ hC2 hR2)
              clear c3 fr R8 hC2 hR2
              go_wp2
              go_ret
              exact ⟨rfl, FI.out⟩
theorem acked_any (b : Nat) (F : Nat → Prop) (B : Bf) (f : Fr) (w : World) (h : Inv w b F B) (hg : Good B) :
    Calls Tryz.prog 26 #[.pointer (some ⟨b, 0, none⟩), f.val] w fun e w' => e = .returned (.int .i64 (if fitsF B f then 0 else 170)) ∧ Chg F w w' ∧ Inv w' b (Ext F w w') (if fitsF B f then ackedB B f else B) := by
  cases hf : fitsF B f
  · exact (acked_bad b F B f w h hg hf).mono fun _ _ hh => ⟨hh.1, Chg.below hh.2, (h.below hh.2).ext (fun k hk => .inl hk)⟩
  · by_cases hq : lead (markB true B f).st < (markB true B f).st.length
    · exact acked_lt b F B f w h hg hf hq
    · exact acked_eq b F B f w h hg hf hq
end Go.Proofs.YtpfkeohaaeiaaaaGreatDoor
namespace Go.Proofs.YtpfkeohaaeiaaaaGreatDoor
open Go.RowKit
set_option maxRecDepth 100000
theorem write_nil (s : ByteArray) (w : World) (hs : 0 < s.size) :
    Calls Tryz.prog 10 #[.pointer none, .string s] w fun e w' => e = .returned (.int .i64 0) ∧ Below w.heap.size w w' := by
  have SP := Lib.hid (space_nil w)
  go_enter Tryz.func10, Tryz.ntmps10
  go_wp2_with (go_at_call 27; refine SP.out.mono ?_; rintro e w' ⟨rfl, m, rfl⟩)
  all_goals go_ret
  exact ⟨rfl, belowN (Below.refl _ w) m⟩
/-- a buffer of the call's own, and frames that lie beside it -/
structure St (W w : World) (b : Nat) (F : Nat → Prop) (B : Bf) (fs : List (Nat × Fr)) : Prop where
  inv : Inv w b F B
  own : ∀ k, F k → W.heap.size ≤ k ∧ k < w.heap.size
  below : Below W.heap.size W w
  far : ∀ p ∈ fs, w.heap[p.1]? = some (.cells p.2.cells 56 (0, 0)) ∧ ¬ F p.1
theorem St.step {W w w' : World} {b : Nat} {F : Nat → Prop} {B B' : Bf} {fs : List (Nat × Fr)} (h : St W w b F B fs) (hc : Chg F w w') (hi : Inv w' b (Ext F w w') B') : St W w' b (Ext F w w') B' fs := by
  have hs := hc.size
  have hbs := h.below.size
  refine ⟨hi, fun k hk => ?_, hc.toBelow h.below (fun k hk => (h.own k hk).1), fun p hp => ⟨hc.heap (h.far p hp).1 (h.far p hp).2, fun hk => ?_⟩⟩
  · rcases hk with hk | hk
    · have := h.own k hk; exact ⟨this.1, by omega⟩
    · exact ⟨by omega, hk.2⟩
  · rcases hk with hk | hk
    · exact (h.far p hp).2 hk
    · exact Nat.not_le.2 (heap_lt (h.far p hp).1) hk.1
/-- whatever only adds blocks -/
theorem St.same {W w w' : World} {b : Nat} {F : Nat → Prop} {B : Bf} {fs : List (Nat × Fr)} (h : St W w b F B fs) (hb : Below w.heap.size w w') : St W w' b F B fs :=
  ⟨h.inv.below hb, fun k hk => ⟨(h.own k hk).1, Nat.lt_of_lt_of_le (h.own k hk).2 hb.size⟩, h.below.trans (hb.mono h.below.size), fun p hp => ⟨heap_below hb (h.far p hp).1, (h.far p hp).2⟩⟩
theorem St.drewN {W w : World} {b : Nat} {F : Nat → Prop} {B : Bf} {fs : List (Nat × Fr)} (h : St W w b F B fs) (n : Nat) : St W (w.drewN n) b F B fs := h.same (belowN (Below.refl _ w) n)
theorem St.frame {W w : World} {b : Nat} {F : Nat → Prop} {B : Bf} {fs : List (Nat × Fr)} (h : St W w b F B fs) (f : Fr) : St W (w.alloc (.cells f.cells 56)) b F B ((w.heap.size, f) :: fs) := by
  have h1 := h.same (show Below w.heap.size w (w.alloc (.cells f.cells 56)) from (Below.refl _ w).alloc (Nat.le_refl _) _)
  refine ⟨h1.inv, h1.own, h1.below, fun p hp => ?_⟩
  rcases List.mem_cons.1 hp with rfl | hp
  · exact ⟨heap_alloc_new w _, fun hk => Nat.lt_irrefl _ (h.own _ hk).2⟩
  · exact h1.far p hp
def ackB (B : Bf) (f : Fr) : Bf := if fitsF B f then ackedB B f else B
def lostB (B : Bf) (f : Fr) : Bf := if fitsF B f then markB false B f else B
def ackE (B : Bf) (f : Fr) : Int := if fitsF B f then 0 else 170
theorem st_new (n : Int) (W w : World) (hb : Below W.heap.size W w) : St W (w.alloc (.cells ((newB n).cells (.slice none 0 0) (.slice none 0 0)) 69)) w.heap.size (fun k => k = w.heap.size) (newB n) [] :=
  ⟨⟨_, _, new_rep n w⟩, fun k hk => by subst hk; exact ⟨hb.size, by simp⟩, hb.trans (((Below.refl _ w).alloc (Nat.le_refl _) _).mono hb.size), fun p hp => by cases hp⟩
theorem st_write {W w : World} {b : Nat} {F : Nat → Prop} {B : Bf} {fs : List (Nat × Fr)} (h : St W w b F B fs) (hg : Good B) (s : ByteArray) (hs : s.size ≤ maxLen) :
    Calls Tryz.prog 10 #[.pointer (some ⟨b, 0, none⟩), .string s] w fun e w' => e = .returned (.int .i64 (writeN B s : Int)) ∧ ∃ F', St W w' b F' (writeF B s) fs :=
  (write_any b F B s w h.inv hg hs).mono fun _ _ hh => ⟨hh.1, _, h.step hh.2.1 hh.2.2⟩
theorem st_next {W w : World} {b : Nat} {F : Nat → Prop} {B : Bf} {fs : List (Nat × Fr)} (h : St W w b F B fs) (hg : Good B) (most credit : Int) :
    Calls Tryz.prog 24 #[.pointer (some ⟨b, 0, none⟩), .int .i64 most, .int .i64 credit] w fun e w' => e = .returned (.tuple #[(nextR B (nextP B most credit)).val, .bool (nextP B most credit).isSome]) ∧ ∃ F', St W w' b F' (nextB B (nextP B most credit)) fs :=
  (next_any b F B most credit w h.inv hg).mono fun _ _ hh => ⟨hh.1, _, h.step hh.2.1 hh.2.2⟩
theorem st_lost {W w : World} {b : Nat} {F : Nat → Prop} {B : Bf} {fs : List (Nat × Fr)} (h : St W w b F B fs) (hg : Good B) (f : Fr) :
    Calls Tryz.prog 25 #[.pointer (some ⟨b, 0, none⟩), f.val] w fun e w' => e = .returned (.int .i64 (ackE B f)) ∧ ∃ F', St W w' b F' (lostB B f) fs :=
  (lost_any b F B f w h.inv hg).mono fun _ _ hh => ⟨hh.1, _, h.step hh.2.1 hh.2.2⟩
theorem st_acked {W w : World} {b : Nat} {F : Nat → Prop} {B : Bf} {fs : List (Nat × Fr)} (h : St W w b F B fs) (hg : Good B) (f : Fr) :
    Calls Tryz.prog 26 #[.pointer (some ⟨b, 0, none⟩), f.val] w fun e w' => e = .returned (.int .i64 (ackE B f)) ∧ ∃ F', St W w' b F' (ackB B f) fs :=
  (acked_any b F B f w h.inv hg).mono fun _ _ hh => ⟨hh.1, _, h.step hh.2.1 hh.2.2⟩
theorem st_space {W w : World} {b : Nat} {F : Nat → Prop} {B : Bf} {fs : List (Nat × Fr)} (h : St W w b F B fs) (hg : Good B) :
    Calls Tryz.prog 27 #[.pointer (some ⟨b, 0, none⟩)] w fun e w' => e = .returned (.int .i64 (spaceF B)) ∧ ∃ F', St W w' b F' B fs :=
  (space_any b F B w h.inv hg).mono fun _ _ hh => ⟨hh.1, _, by obtain ⟨m, rfl⟩ := hh.2; exact h.drewN m⟩
theorem st_finish {W w : World} {b : Nat} {F : Nat → Prop} {B : Bf} {fs : List (Nat × Fr)} (h : St W w b F B fs) :
    Calls Tryz.prog 11 #[.pointer (some ⟨b, 0, none⟩)] w fun e w' => e = .returned (.tuple #[]) ∧ ∃ F', St W w' b F' { B with fin := true } fs :=
  (finish_any b F B w h.inv).mono fun _ _ hh => ⟨hh.1, _, h.step hh.2.1 (hh.2.2.1.ext (fun _k hk => .inl hk))⟩
end Go.Proofs.YtpfkeohaaeiaaaaGreatDoor
namespace Go.Proofs.YtpfkeohaaeiaaaaGreatDoor
open Go.RowKit
set_option maxRecDepth 100000
/-! plain laws on lists of states -/
abbrev gd (l : List Int) (j : Nat) : Int := l[j]?.getD 0
theorem ext_gd {l m : List Int} (hl : l.length = m.length) (h : ∀ j, j < l.length → gd l j = gd m j) : l = m := by
  apply List.ext_getElem hl
  intro j h1 h2
  have := h j h1
  simpa [gd, h1, h2] using this
theorem gd_lt {l : List Int} {j : Nat} (h : j < l.length) : gd l j = l[j] := by simp [gd, h]
theorem gd_ge {l : List Int} {j : Nat} (h : l.length ≤ j) : gd l j = 0 := by simp [gd, h]
theorem gd_drop (l : List Int) (k j : Nat) : gd (l.drop k) j = gd l (k + j) := by simp [gd, List.getElem?_drop]
theorem gd_take (l : List Int) (k j : Nat) (h : j < k) : gd (l.take k) j = gd l j := by simp [gd, h]
theorem gd_set (l : List Int) (k j : Nat) (v : Int) (h : k < l.length) : gd (l.set k v) j = if j = k then v else gd l j := by
  unfold gd
  rw [List.getElem?_set]
  by_cases e : k = j
  · subst e; simp [h]
  · rw [if_neg e, if_neg (fun h => e h.symm)]
theorem gd_append (l m : List Int) (j : Nat) : gd (l ++ m) j = if j < l.length then gd l j else gd m (j - l.length) := by
  unfold gd
  by_cases h : j < l.length
  · rw [if_pos h, List.getElem?_append_left h]
  · rw [if_neg h, List.getElem?_append_right (by omega)]
theorem gd_replicate (n j : Nat) (v : Int) (h : j < n) : gd (List.replicate n v) j = v := by simp [gd, h]
theorem gd_setTo (st : List Int) (v : Int) (i n j : Nat) (h : i + n ≤ st.length) : gd (setTo st v i n) j = if i ≤ j ∧ j < i + n then v else gd st j := by
  induction n with
  | zero => rw [setTo, if_neg (by omega)]
  | succ n ih =>
    rw [setTo, gd_set _ _ _ _ (by rw [setTo_length]; omega), ih (by omega)]
    by_cases e : j = i + n
    · subst e; rw [if_pos rfl, if_pos (by omega)]
    · rw [if_neg e]
      by_cases e2 : i ≤ j ∧ j < i + n
      · rw [if_pos e2, if_pos (by omega)]
      · rw [if_neg e2, if_neg (by omega)]
theorem gd_turnTo (A : Bool) (st : List Int) (i n j : Nat) (h : i + n ≤ st.length) : gd (turnTo A st i n) j = if i ≤ j ∧ j < i + n then turn A (gd st j) else gd st j := by
  induction n with
  | zero => rw [turnTo, if_neg (by omega)]
  | succ n ih =>
    rw [turnTo, gd_set _ _ _ _ (by rw [turnTo_length]; omega)]
    have e0 : (turnTo A st i n)[i + n]?.getD 0 = gd st (i + n) := by
      have := ih (by omega)
      have h1 : gd (turnTo A st i n) (i + n) = gd st (i + n) := by
        clear this
        have : ∀ m, m ≤ n → gd (turnTo A st i m) (i + n) = gd st (i + n) := by
          intro m
          induction m with
          | zero => intro _; rfl
          | succ m ih2 =>
            intro hm
            rw [turnTo, gd_set _ _ _ _ (by rw [turnTo_length]; omega), if_neg (by omega)]
            exact ih2 (by omega)
        exact this n (Nat.le_refl _)
      exact h1
    rw [e0, ih (by omega)]
    by_cases e : j = i + n
    · subst e; rw [if_pos rfl, if_pos (by omega)]
    · rw [if_neg e]
      by_cases e2 : i ≤ j ∧ j < i + n
      · rw [if_pos e2, if_pos (by omega)]
      · rw [if_neg e2, if_neg (by omega)]
theorem lead_is {l : List Int} {m : Nat} (hm : m ≤ l.length) (h1 : ∀ k, k < m → gd l k = 3) (h2 : m < l.length → gd l m ≠ 3) : lead l = m := by
  rcases Nat.lt_trichotomy (lead l) m with h | h | h
  · exact absurd (h1 _ h) (lead_at l (by omega))
  · exact h
  · have := lead_lt l m h
    have hl := lead_le l
    exact absurd this (h2 (by omega))
/-- the first state that is x, or the length -/
def first (x : Int) : List Int → Nat
  | [] => 0
  | y :: l => if y = x then 0 else first x l + 1
theorem first_le (x : Int) (l : List Int) : first x l ≤ l.length := by
  induction l with
  | nil => exact Nat.le_refl _
  | cons y l ih => simp only [first]; split <;> simp <;> omega
theorem first_lt (x : Int) : ∀ (l : List Int) (k : Nat), k < first x l → gd l k ≠ x := by
  intro l
  induction l with
  | nil => intro k h; simp [first] at h
  | cons y l ih =>
    intro k h
    simp only [first] at h
    split at h
    · omega
    · cases k with
      | zero => simpa [gd] using ‹¬ y = x›
      | succ k => simpa [gd] using ih k (by omega)
theorem first_at (x : Int) : ∀ (l : List Int), first x l < l.length → gd l (first x l) = x := by
  intro l
  induction l with
  | nil => intro h; simp [first] at h
  | cons y l ih =>
    intro h
    simp only [first] at h ⊢
    split
    · simpa [gd] using ‹y = x›
    · rename_i hx
      rw [if_neg hx] at h
      simpa [gd] using ih (by simpa using h)
theorem first_is {x : Int} {l : List Int} {m : Nat} (hm : m ≤ l.length) (h1 : ∀ k, k < m → gd l k ≠ x) (h2 : m < l.length → gd l m = x) : first x l = m := by
  rcases Nat.lt_trichotomy (first x l) m with h | h | h
  · exact absurd (first_at x l (by omega)) (h1 _ h)
  · exact h
  · have := first_lt x l m h
    have hl := first_le x l
    exact absurd (h2 (by omega)) this
theorem first_drop (x : Int) (l : List Int) (k : Nat) (hk : k ≤ l.length) (h : ∀ j, j < k → gd l j ≠ x) : first x l = k + first x (l.drop k) := by
  refine first_is ?_ (fun j hj => ?_) (fun hj => ?_)
  · have := first_le x (l.drop k); simp at this; omega
  · by_cases e : j < k
    · exact h j e
    · have := first_lt x (l.drop k) (j - k) (by omega)
      rw [gd_drop, show k + (j - k) = j by omega] at this
      exact this
  · have := first_at x (l.drop k) (by simp; omega)
    rw [gd_drop] at this
    exact this
/-- how many of the first states are x, at most m -/
def runLen (x : Int) : List Int → Nat → Nat
  | [], _ => 0
  | _ :: _, 0 => 0
  | y :: l, m + 1 => if y = x then runLen x l m + 1 else 0
theorem runLen_le (x : Int) : ∀ (l : List Int) (m : Nat), runLen x l m ≤ m ∧ runLen x l m ≤ l.length := by
  intro l
  induction l with
  | nil => intro m; simp [runLen]
  | cons y l ih =>
    intro m
    cases m with
    | zero => simp [runLen]
    | succ m => have := ih m; simp only [runLen]; split <;> simp <;> omega
theorem runLen_lt (x : Int) : ∀ (l : List Int) (m k : Nat), k < runLen x l m → gd l k = x := by
  intro l
  induction l with
  | nil => intro m k h; simp [runLen] at h
  | cons y l ih =>
    intro m k h
    cases m with
    | zero => simp [runLen] at h
    | succ m =>
      simp only [runLen] at h
      split at h
      · cases k with
        | zero => simpa [gd] using ‹y = x›
        | succ k => simpa [gd] using ih m k (by omega)
      · omega
theorem runLen_stop (x : Int) : ∀ (l : List Int) (m : Nat), runLen x l m < m → runLen x l m < l.length → gd l (runLen x l m) ≠ x := by
  intro l
  induction l with
  | nil => intro m h h2; simp [runLen] at h2
  | cons y l ih =>
    intro m h h2
    cases m with
    | zero => omega
    | succ m =>
      simp only [runLen] at h h2 ⊢
      split
      · rename_i e
        rw [if_pos e] at h h2
        simpa [gd] using ih m (by omega) (by simpa using h2)
      · simpa [gd] using ‹¬ y = x›
theorem runLen_is {x : Int} {l : List Int} {m n : Nat} (hm : n ≤ m) (hl : n ≤ l.length) (h1 : ∀ k, k < n → gd l k = x) (h2 : n < m → n < l.length → gd l n ≠ x) : runLen x l m = n := by
  have hb := runLen_le x l m
  rcases Nat.lt_trichotomy (runLen x l m) n with h | h | h
  · exact absurd (h1 _ h) (runLen_stop x l m (by omega) (by omega))
  · exact h
  · exact absurd (runLen_lt x l m n h) (h2 (by omega) (by omega))
theorem runGo_cont (most : Int) : ∀ (l : List Int) (i f t : Int) (n : Nat), f < t → t = i → t - f + n = most → runGo most l i f t = (f, t + runLen 2 l n) := by
  intro l
  induction l with
  | nil => intro i f t n h1 h2 h3; simp [runGo, runLen]
  | cons s l ih =>
    intro i f t n h1 h2 h3
    rw [runGo]
    by_cases hs : s = 2
    · subst hs
      cases n with
      | zero => rw [if_pos ⟨h1, .inr (by simpa using h3)⟩]; simp [runLen]
      | succ n =>
        rw [if_neg (by omega), if_neg (by omega), if_pos rfl, ih (i + 1) f (t + 1) n (by omega) (by omega) (by omega)]
        simp [runLen]; omega
    · rw [if_pos ⟨h1, .inl hs⟩]
      cases n <;> simp [runLen, hs]
theorem runGo_start (most : Int) (m : Nat) (hm : most = m) (h1 : 1 ≤ m) : ∀ (l : List Int) (i f : Int), runGo most l i f f = if first 2 l < l.length then (i + first 2 l, i + first 2 l + runLen 2 (l.drop (first 2 l)) m) else (f, f) := by
  intro l
  induction l with
  | nil => intro i f; simp [runGo]
  | cons s l ih =>
    intro i f
    rw [runGo, if_neg (by omega)]
    by_cases hs : s = 2
    · subst hs
      obtain ⟨n, rfl⟩ : ∃ n, m = n + 1 := ⟨m - 1, by omega⟩
      rw [if_pos ⟨rfl, rfl⟩, runGo_cont most l (i + 1) i (i + 1) n (by omega) rfl (by omega)]
      simp [first, runLen]; omega
    · rw [if_neg (by simp [hs]), if_neg hs, ih (i + 1) f]
      simp only [first, if_neg hs, List.length_cons, Nat.add_lt_add_iff_right, List.drop_succ_cons]
      split
      · simp only [Prod.mk.injEq]; omega
      · rfl
theorem runF_eq (B : Bf) (most : Int) (hm : 1 ≤ most) : runF B most = if first 2 B.st < B.st.length then ((first 2 B.st : Int), (first 2 B.st : Int) + runLen 2 (B.st.drop (first 2 B.st)) most.toNat) else (0, 0) := by
  unfold runF
  rw [runGo_start most most.toNat (by omega) (by omega)]
  simp only [Int.zero_add]
end Go.Proofs.YtpfkeohaaeiaaaaGreatDoor
