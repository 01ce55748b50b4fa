import Derived.Test.YtmjekepiplibkaaK
import Derived.Test.YtmjekepiplibkaaL
namespace Go.Proofs.Ytmjekepiplibkaa
open Go.RowKit
theorem mark_nil (f : Fr) (v : Value) (w : World) :
    Calls Try.prog 33 #[.pointer none, f.val, v] w fun e w' => e = .returned (.int .i64 1) ∧ Below w.heap.size w w' := by
  have H0 : Below w.heap.size w (w.alloc (.cells f.cells 35)) := (Below.refl _ w).alloc (Nat.le_refl _) _
  change Calls Try.prog 33 #[.pointer none, .agg f.cells, v] w _
  go_enter Try.func33, Try.ntmps33
  go_wp2
  go_ret
  exact ⟨rfl, H0⟩
def markLo (B : Bf) (f : Fr) : Nat := (f.off - B.base).toNat
def markHi (B : Bf) (f : Fr) : Nat := (f.off + f.s.size - B.base).toNat
def markB (A : Bool) (B : Bf) (f : Fr) : Bf := { B with st := turnTo A B.st (markLo B f) (markHi B f - markLo B f), ed := if f.fin then turn A B.ed else B.ed }
theorem mark_bad (b : Nat) (F : Nat → Prop) (B : Bf) (f : Fr) (v : Value) (w : World) (h : Inv w b F B) (hg : Good B) (hf : fitsF B f = false) :
    Calls Try.prog 33 #[.pointer (some ⟨b, 0, none⟩), f.val, v] w fun e w' => e = .returned (.int .i64 170) ∧ Below w.heap.size w w' := by
  have H0 : Below w.heap.size w (w.alloc (.cells f.cells 35)) := (Below.refl _ w).alloc (Nat.le_refl _) _
  have HH := Lib.hid H0
  have HQ := Lib.hid (heap_alloc_new w (.cells f.cells 35))
  have FT := Lib.hid (fits_any b F B f _ (h.below H0) hg)
  rw [hf] at FT
  clear H0
  change Calls Try.prog 33 #[.pointer (some ⟨b, 0, none⟩), .agg f.cells, v] w _
  go_enter Try.func33, Try.ntmps33
  go_wp2_with (first | (go_at_call 42; refine FT.out.mono ?_; rintro e w2 ⟨rfl, hB⟩) | (refine wpList_load_row rfl 35 _ rfl w.heap.size rfl 35 f.cells (0, 0) _ HQ.out Try.underlying35 rfl (size35 f) ?_))
  go_ret
  exact ⟨rfl, HH.out.trans (hB.mono (by simp))⟩
set_option maxHeartbeats 8000000 in
theorem mark_ok34 (b : Nat) (F : Nat → Prop) (B : Bf) (f : Fr) (w : World) (h : Inv w b F B) (hg : Good B) (hf : fitsF B f = true) :
    Calls Try.prog 33 #[.pointer (some ⟨b, 0, none⟩), f.val, .func (.func 34) #[] #[]] w fun e w' => e = .returned (.int .i64 0) ∧ Chg F w w' ∧ Inv w' b F (markB false B f) := by
  have H0 : Below w.heap.size w (w.alloc (.cells f.cells 35)) := (Below.refl _ w).alloc (Nat.le_refl _) _
  have HQ := Lib.hid (heap_alloc_new w (.cells f.cells 35))
  have HZ : Hid ((w.alloc (.cells f.cells 35)).heap.size = w.heap.size + 1) := Lib.hid (by simp)
  have FT := Lib.hid (fits_any b F B f _ (h.below H0) hg)
  rw [hf] at FT
  obtain ⟨vd, vs, h⟩ := h.own
  have R0 := Lib.hid (h.below H0)
  have HH := Lib.hid H0
  have hh : headF B f = true := by unfold fitsF at hf; simp only [Bool.and_eq_true] at hf; exact hf.1.1
  unfold headF at hh
  simp only [Bool.and_eq_true, decide_eq_true_eq] at hh
  obtain ⟨⟨⟨h1, h2⟩, h3⟩, h4⟩ := hh
  obtain ⟨l1, l2, b0, b1, len, cp, s0, s1⟩ := hg
  obtain ⟨n, hn⟩ : ∃ n, f.s.size = n := ⟨_, rfl⟩
  have HN := Lib.hid hn
  rw [hn] at h4
  have hn2 : (f.s.size : Int) = n := by rw [hn]
  obtain ⟨lo, hlo⟩ : ∃ lo, markLo B f = lo := ⟨_, rfl⟩
  obtain ⟨hi, hhi⟩ : ∃ hi, markHi B f = hi := ⟨_, rfl⟩
  have HM : Hid (markB false B f = { B with st := turnTo false B.st lo (hi - lo), ed := if f.fin then turn false B.ed else B.ed }) := Lib.hid (by unfold markB; rw [hlo, hhi])
  unfold markLo at hlo
  unfold markHi at hhi
  rw [hn] at hhi
  have hmx : (if f.off - B.base < 0 then (0 : Int) else f.off - B.base) = (lo : Int) := by split <;> omega
  have hw1 : IntKind.i64.wrap (f.off - B.base) = f.off - B.base := IntWalk.i64_in _ (by omega)
  have hw2 : IntKind.i64.wrap (f.off + (n : Int)) = f.off + (n : Int) := IntWalk.i64_in _ (by omega)
  obtain ⟨H, hH⟩ : ∃ H, f.off + (n : Int) - B.base = H := ⟨_, rfl⟩
  have hw3 : IntKind.i64.wrap (f.off + (n : Int) - B.base) = H := by rw [hH]; exact IntWalk.i64_in _ (by omega)
  have hHl : H ≤ B.data.length := by omega
  have hHh : hi = H.toNat := by omega
  clear hf H0 h hn hH
  change Calls Try.prog 33 #[.pointer (some ⟨b, 0, none⟩), .agg f.cells, _] w _
  go_enter Try.func33, Try.ntmps33
  go_wp2_with (first | (go_at_call 42; refine FT.out.mono ?_; rintro e w2 ⟨rfl, hB⟩) | (refine wpList_load_row rfl 35 _ rfl w.heap.size rfl 35 f.cells (0, 0) _ HQ.out Try.underlying35 rfl (size35 f) ?_))
  have R2 := Lib.hid (R0.out.below hB)
  have Q2 := Lib.hid (heap_below hB HQ.out)
  have C2 : Hid (Chg (Own w F) w w2) := Lib.hid (Chg.below (HH.out.trans (hB.mono (by simp))))
  have Z2 : Hid (w.heap.size + 1 ≤ w2.heap.size) := Lib.hid (by have := hB.size; rw [HZ.out] at this; exact this)
  clear R0 HQ HZ HH FT hB
  obtain ⟨c0, c1, c2, c3, c4, c5, c6, fr⟩ := R2.out.facts
  obtain ⟨d0, d2, d3, d4⟩ := Boxed.of Q2.out
  clear c0 c2 c3 c4 c5 c6 fr d0 d3 d4
  refine wp_region_still_lit (by kernel_rfl) (by kernel_rfl) ?_
  repeat ((with_reducible refine wpStill_step (fun K hK => ?_)); go_simp; (with_reducible refine hK _ ?_); clear hK K)
  with_reducible refine wpStill_nil ?_
  go_wp2
  have R3 := Lib.hid R2.out.drew
  have C3 := Lib.hid C2.out.drew
  have Q3 : Hid (w2.drew.heap[w.heap.size]? = some (.cells f.cells 35 (0, 0))) := Lib.hid Q2.out
  have Z3 : Hid (w.heap.size + 1 ≤ w2.drew.heap.size) := Lib.hid Z2.out
  clear R2 C2 Q2 Z2 c1 d2
  change Code.wp _ _ _ _ w2.drew
  generalize w2.drew = w3 at *
  go_loopw [7] (fun i wr => ∃ (k : Nat), lo ≤ k ∧ (k ≤ lo ∨ k ≤ hi) ∧ i = .int .i64 k ∧ Rep wr b (Own w F) { B with st := turnTo false B.st lo (k - lo) } vd vs ∧ Chg (Own w F) w wr ∧ wr.heap[w.heap.size]? = some (.cells f.cells 35 (0, 0)) ∧ w.heap.size + 1 ≤ wr.heap.size) (fun i _ => hi - (intOf i).toNat)
  case atStart => exact ⟨lo, by omega, by omega, rfl, by rw [Nat.sub_self]; exact R3.out, C3.out, Q3.out, Z3.out⟩
  case round =>
    obtain ⟨k, hk1, hk2, rfl, R, hC, hQ, hZ⟩ := hrel
    clear R3 C3 Q3 Z3 w3
    have HR := Lib.hid R
    have HC := Lib.hid hC
    have HQ := Lib.hid hQ
    have HZ := Lib.hid hZ
    obtain ⟨c0, c1, c2, c3, c4, c5, c6, fr⟩ := R.facts
    obtain ⟨d0, d2, d3, d4⟩ := Boxed.of hQ
    clear c0 c2 c3 c4 c5 c6 fr d0 d4 R hC hQ hZ
    go_wp2
    refine wp_region_still_lit (by kernel_rfl) (by kernel_rfl) ?_
    repeat ((with_reducible refine wpStill_step (fun K hK => ?_)); go_simp; (with_reducible refine hK _ ?_); clear hK K)
    with_reducible refine wpStill_nil ?_
    have HR2 := Lib.hid HR.out.drew
    have HC2 := Lib.hid HC.out.drew
    have HQ2 : Hid (wr.drew.heap[w.heap.size]? = some (.cells f.cells 35 (0, 0))) := Lib.hid HQ.out
    have HZ2 : Hid (w.heap.size + 1 ≤ wr.drew.heap.size) := Lib.hid HZ.out
    clear HR HC HQ HZ c1 d2 d3
    change Exit.then _ _ _ _ wr.drew
    generalize wr.drew = w4 at *
    by_cases hlt : (k : Int) < H
    · have hkl : k < (turnTo false B.st lo (k - lo)).length := by rw [turnTo_length]; omega
      obtain ⟨g, cpp, rfl, hc1, hc2, hcell, hfr⟩ := own_cells HR2.out.rs (Nat.lt_of_le_of_lt (Nat.zero_le _) hkl)
      have TS : Hid (Calls Try.prog 34 _ _ _) := Lib.hid (turn_state false b _ _ _ g _ _ k w4 HR2.out hkl)
      obtain ⟨c0, c1, c2, c3, c4, c5, c6, fr⟩ := HR2.out.facts
      unfold maxLen at hc2
      have hkl2 : k < B.st.length := by rw [turnTo_length] at hkl; exact hkl
      have hln := turnTo_length false B.st lo (k - lo)
      simp only [hln] at c3 hc1 TS
      have hst : (turnTo false B.st lo (k - lo)).set k (turn false ((turnTo false B.st lo (k - lo))[k]?.getD 0)) = turnTo false B.st lo (k + 1 - lo) := by
        rw [show k + 1 - lo = (k - lo) + 1 from by omega, turnTo, show lo + (k - lo) = k from by omega]
      have HST := Lib.hid hst
      have HKI : Hid (k < hi) := Lib.hid (by omega)
      clear c0 c1 c2 c4 c5 c6 fr hcell hfr hst hln hkl
      go_wp2_with (refine TS.out.mono ?_; rintro e w5 ⟨rfl, hR5, hC5, hS5⟩)
      go_roundw
      case rel => exact ⟨k + 1, by omega, .inr HKI.out, by simp, by rw [← HST.out]; simpa only [turnTo_length] using hR5, HC2.out.trans1 hC5, (hC5.block _ (by have := HZ2.out; omega) (fun e => Nat.lt_irrefl _ e.2)).trans HQ2.out, by have := HZ2.out; omega⟩
      case measure => have := HKI.out; simp [intOf]; omega
    · have hkk : k - lo = hi - lo := by omega
      have HR3 := Lib.hid HR2.out
      rw [hkk] at HR3
      clear HR2 hk1 hk2
      have TE : Hid (Calls Try.prog 34 _ _ _) := Lib.hid (turn_end false b _ _ _ _ w4 HR3.out)
      obtain ⟨d0, d2, d3, d4⟩ := Boxed.of HQ2.out
      clear d0 d2 d3
      cases hfin : f.fin
      · rw [hfin] at d4
        rw [hfin] at HM
        clear hfin
        go_wp2
        go_ret
        exact ⟨rfl, HC2.out.mono (fun k hk => hk.1), _, _, by rw [HM.out]; exact HR3.out.ext (fun k hk => hk.1)⟩
      · rw [hfin] at d4
        rw [hfin] at HM
        clear hfin
        go_wp2_with (refine TE.out.mono ?_; rintro e w5 ⟨rfl, hR5, hC5, hS5⟩)
        go_ret
        exact ⟨rfl, (HC2.out.trans1 hC5).mono (fun k hk => hk.1), _, _, by rw [HM.out]; exact hR5.ext (fun k hk => hk.1)⟩
set_option maxHeartbeats 8000000 in
theorem mark_ok35 (b : Nat) (F : Nat → Prop) (B : Bf) (f : Fr) (w : World) (h : Inv w b F B) (hg : Good B) (hf : fitsF B f = true) :
    Calls Try.prog 33 #[.pointer (some ⟨b, 0, none⟩), f.val, .func (.func 35) #[] #[]] w fun e w' => e = .returned (.int .i64 0) ∧ Chg F w w' ∧ Inv w' b F (markB true B f) := by
  have H0 : Below w.heap.size w (w.alloc (.cells f.cells 35)) := (Below.refl _ w).alloc (Nat.le_refl _) _
  have HQ := Lib.hid (heap_alloc_new w (.cells f.cells 35))
  have HZ : Hid ((w.alloc (.cells f.cells 35)).heap.size = w.heap.size + 1) := Lib.hid (by simp)
  have FT := Lib.hid (fits_any b F B f _ (h.below H0) hg)
  rw [hf] at FT
  obtain ⟨vd, vs, h⟩ := h.own
  have R0 := Lib.hid (h.below H0)
  have HH := Lib.hid H0
  have hh : headF B f = true := by unfold fitsF at hf; simp only [Bool.and_eq_true] at hf; exact hf.1.1
  unfold headF at hh
  simp only [Bool.and_eq_true, decide_eq_true_eq] at hh
  obtain ⟨⟨⟨h1, h2⟩, h3⟩, h4⟩ := hh
  obtain ⟨l1, l2, b0, b1, len, cp, s0, s1⟩ := hg
  obtain ⟨n, hn⟩ : ∃ n, f.s.size = n := ⟨_, rfl⟩
  have HN := Lib.hid hn
  rw [hn] at h4
  have hn2 : (f.s.size : Int) = n := by rw [hn]
  obtain ⟨lo, hlo⟩ : ∃ lo, markLo B f = lo := ⟨_, rfl⟩
  obtain ⟨hi, hhi⟩ : ∃ hi, markHi B f = hi := ⟨_, rfl⟩
  have HM : Hid (markB true B f = { B with st := turnTo true B.st lo (hi - lo), ed := if f.fin then turn true B.ed else B.ed }) := Lib.hid (by unfold markB; rw [hlo, hhi])
  unfold markLo at hlo
  unfold markHi at hhi
  rw [hn] at hhi
  have hmx : (if f.off - B.base < 0 then (0 : Int) else f.off - B.base) = (lo : Int) := by split <;> omega
  have hw1 : IntKind.i64.wrap (f.off - B.base) = f.off - B.base := IntWalk.i64_in _ (by omega)
  have hw2 : IntKind.i64.wrap (f.off + (n : Int)) = f.off + (n : Int) := IntWalk.i64_in _ (by omega)
  obtain ⟨H, hH⟩ : ∃ H, f.off + (n : Int) - B.base = H := ⟨_, rfl⟩
  have hw3 : IntKind.i64.wrap (f.off + (n : Int) - B.base) = H := by rw [hH]; exact IntWalk.i64_in _ (by omega)
  have hHl : H ≤ B.data.length := by omega
  have hHh : hi = H.toNat := by omega
  clear hf H0 h hn hH
  change Calls Try.prog 33 #[.pointer (some ⟨b, 0, none⟩), .agg f.cells, _] w _
  go_enter Try.func33, Try.ntmps33
  go_wp2_with (first | (go_at_call 42; refine FT.out.mono ?_; rintro e w2 ⟨rfl, hB⟩) | (refine wpList_load_row rfl 35 _ rfl w.heap.size rfl 35 f.cells (0, 0) _ HQ.out Try.underlying35 rfl (size35 f) ?_))
  have R2 := Lib.hid (R0.out.below hB)
  have Q2 := Lib.hid (heap_below hB HQ.out)
  have C2 : Hid (Chg (Own w F) w w2) := Lib.hid (Chg.below (HH.out.trans (hB.mono (by simp))))
  have Z2 : Hid (w.heap.size + 1 ≤ w2.heap.size) := Lib.hid (by have := hB.size; rw [HZ.out] at this; exact this)
  clear R0 HQ HZ HH FT hB
  obtain ⟨c0, c1, c2, c3, c4, c5, c6, fr⟩ := R2.out.facts
  obtain ⟨d0, d2, d3, d4⟩ := Boxed.of Q2.out
  clear c0 c2 c3 c4 c5 c6 fr d0 d3 d4
  refine wp_region_still_lit (by kernel_rfl) (by kernel_rfl) ?_
  repeat ((with_reducible refine wpStill_step (fun K hK => ?_)); go_simp; (with_reducible refine hK _ ?_); clear hK K)
  with_reducible refine wpStill_nil ?_
  go_wp2
  have R3 := Lib.hid R2.out.drew
  have C3 := Lib.hid C2.out.drew
  have Q3 : Hid (w2.drew.heap[w.heap.size]? = some (.cells f.cells 35 (0, 0))) := Lib.hid Q2.out
  have Z3 : Hid (w.heap.size + 1 ≤ w2.drew.heap.size) := Lib.hid Z2.out
  clear R2 C2 Q2 Z2 c1 d2
  change Code.wp _ _ _ _ w2.drew
  generalize w2.drew = w3 at *
  go_loopw [7] (fun i wr => ∃ (k : Nat), lo ≤ k ∧ (k ≤ lo ∨ k ≤ hi) ∧ i = .int .i64 k ∧ Rep wr b (Own w F) { B with st := turnTo true B.st lo (k - lo) } vd vs ∧ Chg (Own w F) w wr ∧ wr.heap[w.heap.size]? = some (.cells f.cells 35 (0, 0)) ∧ w.heap.size + 1 ≤ wr.heap.size) (fun i _ => hi - (intOf i).toNat)
  case atStart => exact ⟨lo, by omega, by omega, rfl, by rw [Nat.sub_self]; exact R3.out, C3.out, Q3.out, Z3.out⟩
  case round =>
    obtain ⟨k, hk1, hk2, rfl, R, hC, hQ, hZ⟩ := hrel
    clear R3 C3 Q3 Z3 w3
    have HR := Lib.hid R
    have HC := Lib.hid hC
    have HQ := Lib.hid hQ
    have HZ := Lib.hid hZ
    obtain ⟨c0, c1, c2, c3, c4, c5, c6, fr⟩ := R.facts
    obtain ⟨d0, d2, d3, d4⟩ := Boxed.of hQ
    clear c0 c2 c3 c4 c5 c6 fr d0 d4 R hC hQ hZ
    go_wp2
    refine wp_region_still_lit (by kernel_rfl) (by kernel_rfl) ?_
    repeat ((with_reducible refine wpStill_step (fun K hK => ?_)); go_simp; (with_reducible refine hK _ ?_); clear hK K)
    with_reducible refine wpStill_nil ?_
    have HR2 := Lib.hid HR.out.drew
    have HC2 := Lib.hid HC.out.drew
    have HQ2 : Hid (wr.drew.heap[w.heap.size]? = some (.cells f.cells 35 (0, 0))) := Lib.hid HQ.out
    have HZ2 : Hid (w.heap.size + 1 ≤ wr.drew.heap.size) := Lib.hid HZ.out
    clear HR HC HQ HZ c1 d2 d3
    change Exit.then _ _ _ _ wr.drew
    generalize wr.drew = w4 at *
    by_cases hlt : (k : Int) < H
    · have hkl : k < (turnTo true B.st lo (k - lo)).length := by rw [turnTo_length]; omega
      obtain ⟨g, cpp, rfl, hc1, hc2, hcell, hfr⟩ := own_cells HR2.out.rs (Nat.lt_of_le_of_lt (Nat.zero_le _) hkl)
      have TS : Hid (Calls Try.prog 35 _ _ _) := Lib.hid (turn_state true b _ _ _ g _ _ k w4 HR2.out hkl)
      obtain ⟨c0, c1, c2, c3, c4, c5, c6, fr⟩ := HR2.out.facts
      unfold maxLen at hc2
      have hkl2 : k < B.st.length := by rw [turnTo_length] at hkl; exact hkl
      have hln := turnTo_length true B.st lo (k - lo)
      simp only [hln] at c3 hc1 TS
      have hst : (turnTo true B.st lo (k - lo)).set k (turn true ((turnTo true B.st lo (k - lo))[k]?.getD 0)) = turnTo true B.st lo (k + 1 - lo) := by
        rw [show k + 1 - lo = (k - lo) + 1 from by omega, turnTo, show lo + (k - lo) = k from by omega]
      have HST := Lib.hid hst
      have HKI : Hid (k < hi) := Lib.hid (by omega)
      clear c0 c1 c2 c4 c5 c6 fr hcell hfr hst hln hkl
      go_wp2_with (refine TS.out.mono ?_; rintro e w5 ⟨rfl, hR5, hC5, hS5⟩)
      go_roundw
      case rel => exact ⟨k + 1, by omega, .inr HKI.out, by simp, by rw [← HST.out]; simpa only [turnTo_length] using hR5, HC2.out.trans1 hC5, (hC5.block _ (by have := HZ2.out; omega) (fun e => Nat.lt_irrefl _ e.2)).trans HQ2.out, by have := HZ2.out; omega⟩
      case measure => have := HKI.out; simp [intOf]; omega
    · have hkk : k - lo = hi - lo := by omega
      have HR3 := Lib.hid HR2.out
      rw [hkk] at HR3
      clear HR2 hk1 hk2
      have TE : Hid (Calls Try.prog 35 _ _ _) := Lib.hid (turn_end true b _ _ _ _ w4 HR3.out)
      obtain ⟨d0, d2, d3, d4⟩ := Boxed.of HQ2.out
      clear d0 d2 d3
      cases hfin : f.fin
      · rw [hfin] at d4
        rw [hfin] at HM
        clear hfin
        go_wp2
        go_ret
        exact ⟨rfl, HC2.out.mono (fun k hk => hk.1), _, _, by rw [HM.out]; exact HR3.out.ext (fun k hk => hk.1)⟩
      · rw [hfin] at d4
        rw [hfin] at HM
        clear hfin
        go_wp2_with (refine TE.out.mono ?_; rintro e w5 ⟨rfl, hR5, hC5, hS5⟩)
        go_ret
        exact ⟨rfl, (HC2.out.trans1 hC5).mono (fun k hk => hk.1), _, _, by rw [HM.out]; exact hR5.ext (fun k hk => hk.1)⟩
end Go.Proofs.Ytmjekepiplibkaa
