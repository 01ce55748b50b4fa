/- The reference's fits. -/
import Derived.Test.YtmjekepiplibkaaRc
import Derived.Test.YtmjekepiplibkaaJ
namespace Go.Proofs.Ytmjekepiplibkaa
open Go.RowKit
set_option maxHeartbeats 4000000 in
theorem rfits_no (r : Nat) (G : Nat → Prop) (X : Wh) (f : Fr) (w : World) (h : RInv w r G X) (hx : X.Ok) (hh : X.head f = false) :
    Calls Try.prog 44 #[.pointer (some ⟨r, 0, none⟩), f.val] w fun e w' => e = .returned (.bool false) ∧ Below w.heap.size w w' := by
  have HB : Hid (Below w.heap.size w (w.alloc (.cells f.cells 35))) := Lib.hid ((Below.refl _ w).alloc (Nat.le_refl _) _)
  have HI := Lib.hid (h.below HB.out)
  have HQ0 := Lib.hid (heap_alloc_new w (.cells f.cells 35))
  obtain ⟨A, vs, h⟩ := h
  have hz := h.size
  have hsz := h.sz
  have hsl := X.sent_le
  have hul := X.u_sent
  have hlen := hx.len
  have hfew := hx.few
  have HX := Lib.hid hx
  have HR0 := Lib.hid (h.below HB.out)
  obtain ⟨d0, d2, d3, d4⟩ := Boxed.of HQ0.out
  clear d4 h hx
  have SE := Lib.hid (fun n => (rsent_any r G X ((w.alloc (.cells f.cells 35)).drewN n) (HI.out.drewN n) HX.out).mono (fun e w' h => (⟨h.1, h.2.symm⟩ : e = _ ∧ w' = _)))
  clear HR0 HI HX hsz HQ0
  have hcase : f.ty ≠ 8 ∨ f.ty = 8 ∧ f.off < 0 ∨ (f.ty = 8 ∧ 0 ≤ f.off ∧ (X.sent : Int) < f.off) ∨ (f.ty = 8 ∧ 0 ≤ f.off ∧ f.off ≤ X.sent ∧ X.sent - f.off < (f.s.size : Int)) := by
    unfold Wh.head at hh
    simp only [Bool.and_eq_false_iff, decide_eq_false_iff_not] at hh
    omega
  have hsn9 : X.sent ≤ 1125899906842624 := by omega
  clear hh hul hz hlen
  generalize X.sent = sn at *
  rcases hcase with h1 | ⟨h1, h2⟩ | ⟨h1, h2, h3⟩ | ⟨h1, h2, h3, h4⟩
  · have h1b : (f.ty != 8) = true := by simp [h1]
    clear h1
    change Calls Try.prog 44 #[.pointer (some ⟨r, 0, none⟩), .agg f.cells] w _
    go_enter Try.func44, Try.ntmps44
    go_wp2
    change Code.wp _ _ _ _ (w.alloc (.cells f.cells 35))
    generalize w.alloc (.cells f.cells 35) = W1 at *
    refine wp_region_quiet_lit (by kernel_rfl) (by kernel_rfl) ?_
    repeat ((with_reducible refine wpQuiet_step (fun K hK => ?_)); go_simp; first | ((with_reducible refine hK _ ?_); clear hK K) | ((refine if_no ?hno ?_); (case hno => nofun); (with_reducible refine hK _ ?_); clear hK K) | (apply Exists.intro; (with_reducible refine ⟨fun _ => ?_, hK _ ?_⟩); (first | (go_at_call 39; exact Calls.quiet_of_same (SE.out _)) | (go_at_call 43; exact Calls.quiet_of_same (PF.out _))); clear hK K))
    with_reducible refine wpQuiet_nil ?_
    intro _ hw'
    obtain ⟨nq, hw2'⟩ := hw'
    subst hw2'
    go_wp2
    go_ret
    exact ⟨rfl, belowN HB.out _⟩
  · have h1b : (f.ty != 8) = false := by simp [h1]
    clear h1
    change Calls Try.prog 44 #[.pointer (some ⟨r, 0, none⟩), .agg f.cells] w _
    go_enter Try.func44, Try.ntmps44
    go_wp2
    change Code.wp _ _ _ _ (w.alloc (.cells f.cells 35))
    generalize w.alloc (.cells f.cells 35) = W1 at *
    refine wp_region_quiet_lit (by kernel_rfl) (by kernel_rfl) ?_
    repeat ((with_reducible refine wpQuiet_step (fun K hK => ?_)); go_simp; first | ((with_reducible refine hK _ ?_); clear hK K) | ((refine if_no ?hno ?_); (case hno => nofun); (with_reducible refine hK _ ?_); clear hK K) | (apply Exists.intro; (with_reducible refine ⟨fun _ => ?_, hK _ ?_⟩); (first | (go_at_call 39; exact Calls.quiet_of_same (SE.out _)) | (go_at_call 43; exact Calls.quiet_of_same (PF.out _))); clear hK K))
    with_reducible refine wpQuiet_nil ?_
    intro _ hw'
    obtain ⟨nq, hw2'⟩ := hw'
    subst hw2'
    go_wp2
    go_ret
    exact ⟨rfl, belowN HB.out _⟩
  · have h1b : (f.ty != 8) = false := by simp [h1]
    have h2n : ¬ f.off < 0 := by omega
    clear h1 h2
    change Calls Try.prog 44 #[.pointer (some ⟨r, 0, none⟩), .agg f.cells] w _
    go_enter Try.func44, Try.ntmps44
    go_wp2
    change Code.wp _ _ _ _ (w.alloc (.cells f.cells 35))
    generalize w.alloc (.cells f.cells 35) = W1 at *
    refine wp_region_quiet_lit (by kernel_rfl) (by kernel_rfl) ?_
    repeat ((with_reducible refine wpQuiet_step (fun K hK => ?_)); go_simp; first | ((with_reducible refine hK _ ?_); clear hK K) | ((refine if_no ?hno ?_); (case hno => nofun); (with_reducible refine hK _ ?_); clear hK K) | (apply Exists.intro; (with_reducible refine ⟨fun _ => ?_, hK _ ?_⟩); (first | (go_at_call 39; exact Calls.quiet_of_same (SE.out _)) | (go_at_call 43; exact Calls.quiet_of_same (PF.out _))); clear hK K))
    with_reducible refine wpQuiet_nil ?_
    intro _ hw'
    obtain ⟨nq, hw2'⟩ := hw'
    subst hw2'
    go_wp2
    go_ret
    exact ⟨rfl, belowN HB.out _⟩
  · have h1b : (f.ty != 8) = false := by simp [h1]
    have h2n : ¬ f.off < 0 := by omega
    have h3n : ¬ (sn : Int) < f.off := by omega
    have hw : IntKind.i64.wrap ((sn : Int) - f.off) = (sn : Int) - f.off := IntWalk.i64_in _ (by omega)
    clear h1 h2 h3
    change Calls Try.prog 44 #[.pointer (some ⟨r, 0, none⟩), .agg f.cells] w _
    go_enter Try.func44, Try.ntmps44
    go_wp2
    change Code.wp _ _ _ _ (w.alloc (.cells f.cells 35))
    generalize w.alloc (.cells f.cells 35) = W1 at *
    refine wp_region_quiet_lit (by kernel_rfl) (by kernel_rfl) ?_
    repeat ((with_reducible refine wpQuiet_step (fun K hK => ?_)); go_simp; first | ((with_reducible refine hK _ ?_); clear hK K) | ((refine if_no ?hno ?_); (case hno => nofun); (with_reducible refine hK _ ?_); clear hK K) | (apply Exists.intro; (with_reducible refine ⟨fun _ => ?_, hK _ ?_⟩); (first | (go_at_call 39; exact Calls.quiet_of_same (SE.out _)) | (go_at_call 43; exact Calls.quiet_of_same (PF.out _))); clear hK K))
    with_reducible refine wpQuiet_nil ?_
    intro _ hw'
    obtain ⟨nq, hw2'⟩ := hw'
    subst hw2'
    go_wp2
    go_ret
    exact ⟨rfl, belowN HB.out _⟩
theorem rfits_ats {X : Wh} {f : Fr} {n : Nat} (_hn : f.s.size = n) {RES : Bool} (hres : ((List.range n).all (X.okAt f) && X.tail f) = RES) :
    (∀ k, k < n → X.okAt f k = false → RES = false) ∧ ((∀ j, j < n → X.okAt f j = true) → RES = X.tail f) := by
  subst hres
  refine ⟨fun k hk ho => ?_, fun ho => ?_⟩
  · have : (List.range n).all (X.okAt f) = false := by
      rw [List.all_eq_false]
      exact ⟨k, List.mem_range.2 hk, by rw [ho]; decide⟩
    rw [this]; rfl
  · have : (List.range n).all (X.okAt f) = true := by
      rw [List.all_eq_true]
      exact fun k hk => ho k (List.mem_range.1 hk)
    rw [this]; rfl
set_option maxHeartbeats 8000000 in
theorem rfits_head (r : Nat) (G : Nat → Prop) (X : Wh) (f : Fr) (w : World) (h : RInv w r G X) (hx : X.Ok) (hh : X.head f = true) :
    Calls Try.prog 44 #[.pointer (some ⟨r, 0, none⟩), f.val] w fun e w' => e = .returned (.bool ((List.range f.s.size).all (X.okAt f) && X.tail f)) ∧ Below w.heap.size w w' := by
  have HB : Hid (Below w.heap.size w (w.alloc (.cells f.cells 35))) := Lib.hid ((Below.refl _ w).alloc (Nat.le_refl _) _)
  have HI := Lib.hid (h.below HB.out)
  have HQ0 := Lib.hid (heap_alloc_new w (.cells f.cells 35))
  obtain ⟨A, vs, h⟩ := h
  have hz := h.size
  have hsz := h.sz
  have hsl := X.sent_le
  have hul := X.u_sent
  have hlen := hx.len
  have hfew := hx.few
  have HX := Lib.hid hx
  have HR0 := Lib.hid (h.below HB.out)
  obtain ⟨d0, d2, d3, d4⟩ := Boxed.of HQ0.out
  clear d4 h hx
  unfold Wh.head at hh
  simp only [Bool.and_eq_true, decide_eq_true_eq] at hh
  obtain ⟨⟨⟨h1, h2⟩, h3⟩, h4⟩ := hh
  have SE := Lib.hid (fun n => (rsent_any r G X ((w.alloc (.cells f.cells 35)).drewN n) (HI.out.drewN n) HX.out).mono (fun e w' h => (⟨h.1, h.2.symm⟩ : e = _ ∧ w' = _)))
  have PF := Lib.hid (fun m n => (rprefix_any r G X (((w.alloc (.cells f.cells 35)).drewN m).drewN n) ((HI.out.drewN m).drewN n) HX.out).mono (fun e w' h => (⟨h.1, h.2.symm⟩ : e = _ ∧ w' = _)))
  obtain ⟨n, hn⟩ : ∃ n, f.s.size = n := ⟨_, rfl⟩
  obtain ⟨RES, hres⟩ : ∃ R, ((List.range n).all (X.okAt f) && X.tail f) = R := ⟨_, rfl⟩
  have HRS := Lib.hid (rfits_ats hn hres)
  rw [hn] at h4
  rw [hn, hres]
  have HN := Lib.hid hn
  have hn2 : (f.s.size : Int) = n := by rw [hn]
  have hkk := HN.out
  have HU : Hid (∀ j, j < n → f.off + (j : Int) < X.u → X.okAt f j = true) := Lib.hid (fun j _ hj => by unfold Wh.okAt; rw [decide_eq_true hj]; rfl)
  have HO : Hid (∀ (j p : Nat) (hp : p < A.size) (hj : j < f.s.size), f.off + (j : Int) = p → (X.u : Int) ≤ p → X.okAt f j = decide (((A[p]'hp).toNat : Int) = ((f.s[j]'hj).toNat : Int))) := Lib.hid (fun j p hp hj e1 e2 => by
    unfold Wh.okAt
    rw [show decide (f.off + (j : Int) < X.u) = false from decide_eq_false (by omega), Bool.false_or, show (f.off + (j : Int)).toNat = p by omega, ← hsz]
    have g1 : gd (bytesOf A) p = ((A[p]'hp).toNat : Int) := bytesOf_get A p hp
    have g2 : gd (bytesOf f.s) j = ((f.s[j]'hj).toNat : Int) := bytesOf_get f.s j hj
    rw [g1, g2])
  have HT : Hid (X.tail f = (!f.fin || (X.fin && decide (X.ed ≠ 0) && decide (f.off + n = A.size)))) := Lib.hid (by unfold Wh.tail; rw [hn, hz])
  have hA9 : A.size ≤ 1125899906842624 := by omega
  have hsA : X.sent ≤ A.size := by omega
  obtain ⟨off, hoff⟩ : ∃ off : Nat, f.off = off := ⟨f.off.toNat, by omega⟩
  have h1b : (f.ty != 8) = false := by simp [h1]
  clear hres hn hsz hlen hsl hfew hz h1 hkk
  generalize X.sent = sn at *
  have HUQ : Hid (∃ uu, X.u = uu) := Lib.hid ⟨_, rfl⟩
  generalize X.u = uu at *
  clear HUQ
  obtain ⟨M, hM⟩ : ∃ M : Nat, (if (off : Int) < (uu : Int) then (uu : Int) else (off : Int)) = (M : Int) ∧ off ≤ M ∧ uu ≤ M ∧ (∀ p, p < M → p < off ∨ p < uu) := by
    by_cases e : (off : Int) < (uu : Int)
    · exact ⟨uu, by rw [if_pos e], by omega, by omega, by omega⟩
    · exact ⟨off, by rw [if_neg e], by omega, by omega, by omega⟩
  obtain ⟨hM1, hM2, hM3, hM4⟩ := hM
  have hM1n : (if off < uu then (uu : Int) else (off : Int)) = (M : Int) := by rw [← hM1]; split <;> split <;> omega
  have HM4 := Lib.hid hM4
  have hw : IntKind.i64.wrap ((sn : Int) - f.off) = (sn : Int) - f.off := IntWalk.i64_in _ (by omega)
  have HOFF := Lib.hid hoff
  clear hM4 hoff
  change Calls Try.prog 44 #[.pointer (some ⟨r, 0, none⟩), .agg f.cells] w _
  go_enter Try.func44, Try.ntmps44
  go_wp2
  change Code.wp _ _ _ _ (w.alloc (.cells f.cells 35))
  generalize w.alloc (.cells f.cells 35) = W1 at *
  have k2 : (f.off < 0) = False := eq_false (by omega)
  have k3 : ((sn : Int) < f.off) = False := eq_false (by omega)
  have k4 : ((sn : Int) - f.off < (n : Int)) = False := eq_false (by omega)
  refine wp_region_quiet_lit (by kernel_rfl) (by kernel_rfl) ?_
  repeat ((with_reducible refine wpQuiet_step (fun K hK => ?_)); go_simp; first | ((with_reducible refine hK _ ?_); clear hK K) | ((refine if_no ?hno ?_); (case hno => nofun); (with_reducible refine hK _ ?_); clear hK K) | (apply Exists.intro; (with_reducible refine ⟨fun _ => ?_, hK _ ?_⟩); (first | (go_at_call 39; exact Calls.quiet_of_same (SE.out _)) | (go_at_call 43; exact Calls.quiet_of_same (PF.out _))); clear hK K))
  with_reducible refine wpQuiet_nil ?_
  intro _ hw'
  obtain ⟨nq, hw2'⟩ := hw'
  subst hw2'
  go_wp2
  have HB2 := Lib.hid (belowN HB.out nq)
  have HR2 := Lib.hid (HR0.out.drewN nq)
  have HQ2 : Hid ((W1.drewN nq).heap[w.heap.size]? = some (.cells f.cells 35 (0, 0))) := Lib.hid HQ0.out
  have PF2 := Lib.hid (PF.out nq)
  rw [HOFF.out] at d2 h3 h4
  have e2 : (W1.drewN nq).cell? ⟨w.heap.size, 2, none⟩ = some (.int .i64 off) := d2
  change Code.wp _ _ _ _ (W1.drewN nq)
  clear HB HR0 HQ0 HI PF SE d0 d2 d3 k2 k3 k4 hw h1b h2
  generalize W1.drewN nq = W2 at *
  go_quiet ((go_at_call 43; exact Calls.quiet_of_same (PF2.out _)))
  go_wp2
  have HB3 := Lib.hid (belowN HB2.out nq)
  have HR3 := Lib.hid (HR2.out.drewN nq)
  have HQ3 : Hid ((W2.drewN nq).heap[w.heap.size]? = some (.cells f.cells 35 (0, 0))) := Lib.hid HQ2.out
  clear HB2 HR2 HQ2 PF2 e2
  go_loopw [5] (fun i wr => ∃ p : Nat, M ≤ p ∧ (p ≤ off + n ∨ p = M) ∧ i = .int .i64 p ∧ Hid (∀ j, j < n → off + j < p → X.okAt f j = true) ∧ Hid (Rr wr r G A X vs) ∧ Hid (wr.heap[w.heap.size]? = some (.cells f.cells 35 (0, 0))) ∧ Hid (Below w.heap.size w wr)) (fun i _ => off + n - (intOf i).toNat)
  case atStart => exact ⟨M, Nat.le_refl _, .inr rfl, rfl, Lib.hid (fun j hj hp => HU.out j hj (by rw [HOFF.out]; have := HM4.out (off + j) hp; omega)), HR3, HQ3, HB3⟩
  case round =>
    obtain ⟨p, hp1, hp2, rfl, HK, R, Q, HB⟩ := hrel
    clear HR3 HQ3 HB3
    obtain ⟨c0, c1, c2, c3, c4, fr⟩ := R.out.facts
    obtain ⟨d0, d2, d3, d4⟩ := Boxed.of Q.out
    rw [HOFF.out] at d2
    have hw5 : IntKind.i64.wrap ((off : Int) + (n : Int)) = (off : Int) + (n : Int) := IntWalk.i64_in _ (by omega)
    clear c0 c2 fr d0
    by_cases hlt : p < off + n
    · have hpA : p < A.size := by omega
      obtain ⟨q, hq⟩ : ∃ q : Nat, p = off + q := ⟨p - off, by omega⟩
      have hqs : q < f.s.size := by omega
      have hqn : q < n := by omega
      have hw6 : IntKind.i64.wrap ((p : Int) - (off : Int)) = (q : Int) := by rw [show (p : Int) - (off : Int) = (q : Int) by omega]; exact IntWalk.i64_in _ (by omega)
      obtain ⟨x, hx2⟩ : ∃ x : Int, ((A[p]'hpA).toNat : Int) = x := ⟨_, rfl⟩
      obtain ⟨y, hy2⟩ : ∃ y : Int, ((f.s[q]'hqs).toNat : Int) = y := ⟨_, rfl⟩
      have HO2 : Hid (X.okAt f q = decide (x = y)) := Lib.hid (by rw [HO.out q p hpA hqs (by rw [HOFF.out]; omega) (by omega), hx2, hy2])
      have HQQ := Lib.hid hq
      have hp0 : (0 : Int) ≤ (p : Int) := by omega
      have hq0 : (0 : Int) ≤ (q : Int) := by omega
      clear hq c3 c4 d4
      go_wp2
      refine wp_region_still_lit (by kernel_rfl) (by kernel_rfl) ?_
      repeat ((with_reducible refine wpStill_step (fun K hK => ?_)); go_simp; first | ((with_reducible refine hK _ ?_); clear hK K) | ((refine if_no ?hno ?_); (case hno => nofun); (with_reducible refine hK _ ?_); clear hK K))
      with_reducible refine wpStill_nil ?_
      have HX2 : Hid (x = y ∨ x ≠ y) := Lib.hid (by omega)
      rcases HX2.out with hxy | hxy
      · have HO3 : Hid (X.okAt f q = true) := Lib.hid (by rw [HO2.out]; simp [hxy])
        have hxb : (x != y) = false := by simp [hxy]
        clear hxy
        go_wp2
        go_roundw
        case rel => exact ⟨p + 1, by omega, by omega, by simp, Lib.hid (fun j hj hjp => by
          by_cases e : off + j < p
          · exact HK.out j hj e
          · have : j = q := by have := HQQ.out; omega
            subst this; exact HO3.out), Lib.hid R.out.drew, Lib.hid Q.out, Lib.hid HB.out.drew⟩
        case measure => simp [intOf]; omega
      · have HO3 : Hid (X.okAt f q = false) := Lib.hid (by rw [HO2.out]; simp [hxy])
        have hxb : (x != y) = true := by simp [hxy]
        clear hxy
        go_wp2
        go_ret
        exact ⟨by rw [HRS.out.1 q hqn HO3.out]; try rfl, HB.out.drew⟩
    · have HTT : Hid (RES = X.tail f) := Lib.hid (HRS.out.2 (fun j hj => HK.out j hj (by omega)))
      have HT2 := Lib.hid (HTT.out.trans HT.out)
      clear HO HU HK HRS HM4
      go_wp2
      obtain ⟨fx, hfx⟩ : ∃ b, f.fin = b := ⟨_, rfl⟩
      obtain ⟨bx, hbx⟩ : ∃ b, X.fin = b := ⟨_, rfl⟩
      obtain ⟨ed, hed⟩ : ∃ b, X.ed = b := ⟨_, rfl⟩
      have HT3 := HT2.out
      rw [hfx, hbx, hed, HOFF.out] at HT3
      rw [hfx] at d4
      rw [hbx] at c3
      rw [hed] at c4
      clear hfx hbx hed HT HTT HT2 HX
      have hcase : (fx = false ∧ RES = true) ∨ (fx = true ∧ bx = false ∧ RES = false) ∨ (fx = true ∧ bx = true ∧ ed = 0 ∧ RES = false) ∨ (fx = true ∧ bx = true ∧ ed ≠ 0 ∧ RES = decide ((off : Int) + (n : Int) = A.size)) := by
        rw [HT3]
        cases fx <;> cases bx <;> by_cases e : ed = 0 <;> simp [e]
      clear HT3
      rcases hcase with ⟨rfl, hr⟩ | ⟨rfl, rfl, hr⟩ | ⟨rfl, rfl, rfl, hr⟩ | ⟨rfl, rfl, he, hr⟩
      · have HZ := Lib.hid hr
        clear hr
        refine wp_region_still_lit (by kernel_rfl) (by kernel_rfl) ?_
        repeat ((with_reducible refine wpStill_step (fun K hK => ?_)); go_simp; first | ((with_reducible refine hK _ ?_); clear hK K) | ((refine if_no ?hno ?_); (case hno => nofun); (with_reducible refine hK _ ?_); clear hK K))
        with_reducible refine wpStill_nil ?_
        go_wp2
        go_ret
        exact ⟨by rw [HZ.out]; try rfl, HB.out.drew⟩
      · have HZ := Lib.hid hr
        clear hr
        refine wp_region_still_lit (by kernel_rfl) (by kernel_rfl) ?_
        repeat ((with_reducible refine wpStill_step (fun K hK => ?_)); go_simp; first | ((with_reducible refine hK _ ?_); clear hK K) | ((refine if_no ?hno ?_); (case hno => nofun); (with_reducible refine hK _ ?_); clear hK K))
        with_reducible refine wpStill_nil ?_
        go_wp2
        go_ret
        exact ⟨by rw [HZ.out]; try rfl, HB.out.drew⟩
      · have HZ := Lib.hid hr
        clear hr
        refine wp_region_still_lit (by kernel_rfl) (by kernel_rfl) ?_
        repeat ((with_reducible refine wpStill_step (fun K hK => ?_)); go_simp; first | ((with_reducible refine hK _ ?_); clear hK K) | ((refine if_no ?hno ?_); (case hno => nofun); (with_reducible refine hK _ ?_); clear hK K))
        with_reducible refine wpStill_nil ?_
        go_wp2
        go_ret
        exact ⟨by rw [HZ.out]; try rfl, HB.out.drew⟩
      · have HZ := Lib.hid hr
        clear hr
        have hedb : (ed != 0) = true := by simp [he]
        clear he
        refine wp_region_still_lit (by kernel_rfl) (by kernel_rfl) ?_
        repeat ((with_reducible refine wpStill_step (fun K hK => ?_)); go_simp; first | ((with_reducible refine hK _ ?_); clear hK K) | ((refine if_no ?hno ?_); (case hno => nofun); (with_reducible refine hK _ ?_); clear hK K))
        with_reducible refine wpStill_nil ?_
        go_wp2
        go_ret
        exact ⟨by rw [HZ.out]; try rfl, HB.out.drew⟩
theorem rfits_any (r : Nat) (G : Nat → Prop) (X : Wh) (f : Fr) (w : World) (h : RInv w r G X) (hx : X.Ok) :
    Calls Try.prog 44 #[.pointer (some ⟨r, 0, none⟩), f.val] w fun e w' => e = .returned (.bool (X.fits f)) ∧ Below w.heap.size w w' := by
  unfold Wh.fits
  cases hh : X.head f
  · exact (rfits_no r G X f w h hx hh).mono fun _ _ h => ⟨by rw [h.1]; rfl, h.2⟩
  · exact (rfits_head r G X f w h hx hh).mono fun _ _ h => ⟨by rw [h.1, Bool.true_and], h.2⟩
end Go.Proofs.Ytmjekepiplibkaa
