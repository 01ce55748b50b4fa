/- The reference's mark, Acked and Lost. -/
import Derived.Test.YtmjekepiplibkaaRd
namespace Go.Proofs.Ytmjekepiplibkaa
open Go.RowKit
def numOf (A : Bool) : Int := if A then 3 else 2
theorem turnTo_succ (A : Bool) (st : List Int) (i n : Nat) (h : i + n < st.length) : turnTo A st i (n + 1) = (turnTo A st i n).set (i + n) (turn A (gd st (i + n))) := by
  rw [turnTo]
  have : gd (turnTo A st i n) (i + n) = gd st (i + n) := by rw [gd_turnTo _ _ _ _ _ (by omega), if_neg (by omega)]
  show (turnTo A st i n).set (i + n) (turn A (gd (turnTo A st i n) (i + n))) = _
  rw [this]
theorem set_self (l : List Int) (k : Nat) : l.set k (gd l k) = l := set_same l k
def rmarkX (A : Bool) (X : Wh) (f : Fr) : Wh := if X.fits f then Wh.mark A X f else X
set_option maxHeartbeats 4000000 in
theorem rmark_bad (A : Bool) (r : Nat) (G : Nat → Prop) (X : Wh) (f : Fr) (w : World) (h : RInv w r G X) (hx : X.Ok) (hh : X.fits f = false) :
    Calls Try.prog 40 #[.pointer (some ⟨r, 0, none⟩), f.val, .int .i64 (numOf A)] w fun e w' => e = .returned (.int .i64 170) ∧ Below w.heap.size w w' := by
  have HB : Hid (Below w.heap.size w (w.alloc (.cells f.cells 35))) := Lib.hid ((Below.refl _ w).alloc (Nat.le_refl _) _)
  have HQ0 := Lib.hid (heap_alloc_new w (.cells f.cells 35))
  have FT := Lib.hid (rfits_any r G X f (w.alloc (.cells f.cells 35)) (h.below HB.out) hx)
  rw [hh] at FT
  clear hh hx h
  change Calls Try.prog 40 #[.pointer (some ⟨r, 0, none⟩), .agg f.cells, .int .i64 (numOf A)] w _
  go_enter Try.func40, Try.ntmps40
  go_wp2_with (first
    | (refine wpList_load_own rfl _ rfl f w.heap.size rfl HQ0.out ?_)
    | (go_at_call 44; refine FT.out.mono ?_; rintro e w1 ⟨rfl, hb1⟩))
  go_ret
  exact ⟨rfl, btrans HB.out hb1⟩
set_option maxHeartbeats 8000000 in
theorem rmark_ok (A : Bool) (r : Nat) (G : Nat → Prop) (X : Wh) (f : Fr) (w : World) (h : RInv w r G X) (hx : X.Ok) (hh : X.fits f = true) (hG : ∀ k, G k → k < w.heap.size) :
    Calls Try.prog 40 #[.pointer (some ⟨r, 0, none⟩), f.val, .int .i64 (numOf A)] w fun e w' => e = .returned (.int .i64 0) ∧ Chg G w w' ∧ RInv w' r G (Wh.mark A X f) := by
  have HB : Hid (Below w.heap.size w (w.alloc (.cells f.cells 35))) := Lib.hid ((Below.refl _ w).alloc (Nat.le_refl _) _)
  have HQ0 := Lib.hid (heap_alloc_new w (.cells f.cells 35))
  have FT := Lib.hid (rfits_any r G X f (w.alloc (.cells f.cells 35)) (h.below HB.out) hx)
  rw [hh] at FT
  obtain ⟨ho, hl⟩ := Wh.fits_fit hh
  have h2 := X.sent_le
  have hlen := hx.len
  have hfew := hx.few
  obtain ⟨B, vs, h⟩ := h
  obtain ⟨a2, caps, rfl, hcaps⟩ := own_form h.rs
  have HR0 := Lib.hid (h.below HB.out)
  obtain ⟨o, hoff⟩ : ∃ o : Nat, f.off = o := ⟨f.off.toNat, by omega⟩
  have hoN : f.off.toNat = o := by omega
  rw [hoN] at hl
  obtain ⟨n, hn⟩ : ∃ n, f.s.size = n := ⟨_, rfl⟩
  rw [hn] at hl
  have HM : Hid (Wh.mark A X f = { X with T := turnTo A X.T o n, ed := if f.fin then turn A X.ed else X.ed }) := Lib.hid (by unfold Wh.mark; rw [hoN, hn])
  obtain ⟨z, hz⟩ : ∃ z, numOf A = z := ⟨_, rfl⟩
  have HTN : Hid (∀ x, turn A x = if z = 3 ∨ x = 1 then z else x) := Lib.hid (fun x => by subst hz; cases A <;> simp [turn, numOf])
  have hz23 : z = 3 ∨ z = 2 := by subst hz; cases A <;> simp [numOf]
  have HZ := Lib.hid hz23
  have HGw := Lib.hid hG
  have hon : o + n ≤ X.T.length := by omega
  have hT9 : X.T.length ≤ 1125899906842624 := by omega
  obtain ⟨d0, d2, d3, d4⟩ := Boxed.of HQ0.out
  have HOFF := Lib.hid hoff
  have HN := Lib.hid hn
  rw [hz]
  clear hh hx h hz hoN hl h2 ho hoff hn hG hz23 hfew hlen d0 d2 d3 d4
  change Calls Try.prog 40 #[.pointer (some ⟨r, 0, none⟩), .agg f.cells, .int .i64 z] w _
  go_enter Try.func40, Try.ntmps40
  go_wp2_with (first
    | (refine wpList_load_own rfl _ rfl f w.heap.size rfl HQ0.out ?_)
    | (go_at_call 44; refine FT.out.mono ?_; rintro e w1 ⟨rfl, hb1⟩; have HC1 : Hid (Chg G w w1) := Lib.hid (Chg.below (btrans HB.out hb1)); have HR1 := Lib.hid (HR0.out.below hb1); have HQ1 := Lib.hid (heap_below hb1 HQ0.out); have hsz1 : w.heap.size < w1.heap.size := heap_lt HQ1.out; obtain ⟨d0, d2, d3, d4⟩ := Boxed.of HQ1.out; clear hb1 HR0 HQ0 HB FT d0 d3 d4; rw [HOFF.out] at d2))
  go_loopw [8] (fun i wr => ∃ k : Nat, k ≤ n ∧ i = .int .i64 ((o : Int) + (k : Int)) ∧ Hid (Rr wr r G B { X with T := turnTo A X.T o k } (.slice a2 X.T.length caps)) ∧ Hid (wr.heap[w.heap.size]? = some (.cells f.cells 35 (0, 0))) ∧ Hid (Chg G w wr)) (fun i _ => o + n - (intOf i).toNat)
  case atStart => exact ⟨0, Nat.zero_le _, by simp, HR1, HQ1, HC1⟩
  case round =>
    obtain ⟨k, hk, rfl, R, Q, C⟩ := hrel
    clear HR1 HQ1 HC1 d2
    obtain ⟨c0, c1, c2, c3, c4, fr⟩ := R.out.facts
    obtain ⟨d0, d2, d3, d4⟩ := Boxed.of Q.out
    rw [HOFF.out] at d2
    have hn2 : (f.s.size : Int) = n := by rw [HN.out]
    have hw5 : IntKind.i64.wrap ((o : Int) + (n : Int)) = (o : Int) + (n : Int) := IntWalk.i64_in _ (by omega)
    clear c0 c1 c3 d0
    by_cases hlt : k < n
    · obtain ⟨g, cpp, e, hc1, hc2, hcell, hfr⟩ := own_cells R.out.rs (by show 0 < (turnTo A X.T o k).length; rw [turnTo_length]; omega)
      simp only [Value.slice.injEq] at e
      obtain ⟨rfl, _, rfl⟩ := e
      have hkl : o + k < (turnTo A X.T o k).length := by rw [turnTo_length]; omega
      have e1 := hcell (o + k) hkl
      unfold maxLen at hc2
      obtain ⟨x, hx⟩ : ∃ x, gd (turnTo A X.T o k) (o + k) = x := ⟨_, rfl⟩
      have hx0 : gd X.T (o + k) = x := by rw [← hx, gd_turnTo _ _ _ _ _ (by omega), if_neg (by omega)]
      have e2 : wr.cell? ⟨g, o + k, none⟩ = some (.int .i64 x) := by rw [e1]; exact congrArg (fun y => some (Value.int .i64 y)) hx
      have N := Lib.hid (R.out.setState (o + k) hkl z)
      have HY : Hid ((z = 3 ∨ x = 1) → turnTo A X.T o (k + 1) = (turnTo A X.T o k).set (o + k) z) := Lib.hid (fun hz => by rw [turnTo_succ _ _ _ _ (by omega), hx0, HTN.out, if_pos hz])
      have HNO : Hid (¬ (z = 3 ∨ x = 1) → turnTo A X.T o (k + 1) = turnTo A X.T o k) := Lib.hid (fun hz => by rw [turnTo_succ _ _ _ _ (by omega), hx0, HTN.out, if_neg hz, ← hx]; exact set_self _ _)
      have hgw : g < w.heap.size := HGw.out g (R.out.gs g rfl).1
      have HS : Hid ((wr.setCell ⟨g, o + k, none⟩ (.int .i64 z)).heap[w.heap.size]? = some (.cells f.cells 35 (0, 0))) := Lib.hid ((heap_setCell_other wr _ _ _ (by show w.heap.size ≠ g; omega)).trans Q.out)
      have g1 : (o : Int) + (k : Int) < (o : Int) + (n : Int) := by omega
      have g3 : ((o : Int) + (k : Int)).toNat = o + k := by omega
      have g4 : 0 ≤ (o : Int) + (k : Int) := by omega
      have g5 : (o : Int) + (k : Int) < (X.T.length : Int) := by omega
      have hw6 : IntKind.i64.wrap ((o : Int) + (k : Int) + 1) = (o : Int) + (k : Int) + 1 := IntWalk.i64_in _ (by omega)
      clear e1 hcell hx hx0 hkl c4 d4
      rcases HZ.out with hz3 | hz2
      · have HY2 := Lib.hid (HY.out (.inl hz3))
        subst hz3
        go_wp2
        go_roundw
        case rel => exact ⟨k + 1, by omega, by simp; omega, Lib.hid (by rw [HY2.out]; exact N.out.1), HS, Lib.hid (C.out.trans1 N.out.2)⟩
        case measure => simp [intOf]; omega
      · by_cases hx1 : x = 1
        · have HY2 := Lib.hid (HY.out (.inr hx1))
          subst hz2
          subst hx1
          go_wp2
          go_roundw
          case rel => exact ⟨k + 1, by omega, by simp; omega, Lib.hid (by rw [HY2.out]; exact N.out.1), HS, Lib.hid (C.out.trans1 N.out.2)⟩
          case measure => simp [intOf]; omega
        · have HY2 := Lib.hid (HNO.out (by omega))
          have hb : (x == 1) = false := by simp [hx1]
          subst hz2
          clear hx1
          go_wp2
          go_roundw
          case rel => exact ⟨k + 1, by omega, by simp; omega, Lib.hid (by rw [HY2.out]; exact R.out), Q, C⟩
          case measure => simp [intOf]; omega
    · obtain rfl : k = n := by omega
      obtain ⟨fx, hfx⟩ : ∃ b, f.fin = b := ⟨_, rfl⟩
      obtain ⟨ed, hed⟩ : ∃ b, X.ed = b := ⟨_, rfl⟩
      have HM2 := HM.out
      rw [hfx, hed, HTN.out] at HM2
      rw [hfx] at d4
      replace c4 : wr.cell? ⟨r, 4, none⟩ = some (.int .i64 ed) := by rw [← hed]; exact c4
      have HED := Lib.hid hed
      have N := Lib.hid (And.intro (R.out.set (X' := { X with T := turnTo A X.T o k, ed := z }) (A' := B) 4 (.int .i64 z) rfl rfl R.out.sz) (C.out.set r 4 (.int .i64 z) R.out.gr))
      clear hfx hed HM c2
      cases fx
      · have HM3 : Hid (Wh.mark A X f = { X with T := turnTo A X.T o k }) := Lib.hid (by rw [HM2, ← HED.out]; rfl)
        clear HM2
        go_wp2
        go_ret
        exact ⟨rfl, C.out, _, _, by rw [HM3.out]; exact R.out⟩
      · by_cases hzz : z = 3 ∨ ed = 1
        · have HM3 : Hid (Wh.mark A X f = { X with T := turnTo A X.T o k, ed := z }) := Lib.hid (by rw [HM2, if_pos rfl, if_pos hzz])
          clear HM2
          rcases HZ.out with hz3 | hz2
          · subst hz3
            clear hzz
            go_wp2
            go_ret
            exact ⟨rfl, N.out.2, _, _, by rw [HM3.out]; exact N.out.1⟩
          · subst hz2
            obtain rfl : ed = 1 := by omega
            clear hzz
            go_wp2
            go_ret
            exact ⟨rfl, N.out.2, _, _, by rw [HM3.out]; exact N.out.1⟩
        · have HM3 : Hid (Wh.mark A X f = { X with T := turnTo A X.T o k }) := Lib.hid (by rw [HM2, if_pos rfl, if_neg hzz, ← HED.out])
          clear HM2
          rcases HZ.out with hz3 | hz2
          · omega
          · subst hz2
            have hb : (ed == 1) = false := by rw [beq_eq_false_iff_ne]; omega
            clear hzz
            go_wp2
            go_ret
            exact ⟨rfl, C.out, _, _, by rw [HM3.out]; exact R.out⟩
theorem rmark_any (A : Bool) (r : Nat) (G : Nat → Prop) (X : Wh) (f : Fr) (w : World) (h : RInv w r G X) (hx : X.Ok) (hG : ∀ k, G k → k < w.heap.size) :
    Calls Try.prog 40 #[.pointer (some ⟨r, 0, none⟩), f.val, .int .i64 (numOf A)] w fun e w' => e = .returned (.int .i64 (X.err f)) ∧ Chg G w w' ∧ RInv w' r G (rmarkX A X f) := by
  unfold Wh.err rmarkX
  cases hh : X.fits f
  · exact (rmark_bad A r G X f w h hx hh).mono fun _ _ hp => ⟨hp.1, Chg.below hp.2, h.below hp.2⟩
  · exact (rmark_ok A r G X f w h hx hh hG).mono fun _ _ hp => ⟨hp.1, hp.2⟩
theorem Chg.new {G : Nat → Prop} {w w1 w2 : World} (hb : Below w.heap.size w w1) (h : Chg G w1 w2) : Chg G w w2 := (Chg.below hb).trans1 h
theorem racked_any (r : Nat) (G : Nat → Prop) (X : Wh) (f : Fr) (w : World) (h : RInv w r G X) (hx : X.Ok) (hG : ∀ k, G k → k < w.heap.size) :
    Calls Try.prog 27 #[.pointer (some ⟨r, 0, none⟩), f.val] w fun e w' => e = .returned (.int .i64 (X.err f)) ∧ Chg G w w' ∧ RInv w' r G (X.acked f) := by
  have HB : Hid (Below w.heap.size w (w.alloc (.cells f.cells 35))) := Lib.hid ((Below.refl _ w).alloc (Nat.le_refl _) _)
  have HQ0 := Lib.hid (heap_alloc_new w (.cells f.cells 35))
  have MK := Lib.hid (rmark_any true r G X f (w.alloc (.cells f.cells 35)) (h.below HB.out) hx (fun k hk => Nat.lt_of_lt_of_le (hG k hk) HB.out.size))
  clear h hx hG
  change Calls Try.prog 27 #[.pointer (some ⟨r, 0, none⟩), .agg f.cells] w _
  go_enter Try.func27, Try.ntmps27
  go_wp2_with (first
    | (refine wpList_load_own rfl _ rfl f w.heap.size rfl HQ0.out ?_)
    | (go_at_call 40; refine MK.out.mono ?_; rintro e w1 ⟨rfl, hc, hr⟩))
  go_ret
  exact ⟨rfl, hc.new HB.out, hr⟩
theorem rlost_any (r : Nat) (G : Nat → Prop) (X : Wh) (f : Fr) (w : World) (h : RInv w r G X) (hx : X.Ok) (hG : ∀ k, G k → k < w.heap.size) :
    Calls Try.prog 28 #[.pointer (some ⟨r, 0, none⟩), f.val] w fun e w' => e = .returned (.int .i64 (X.err f)) ∧ Chg G w w' ∧ RInv w' r G (X.lost f) := by
  have HB : Hid (Below w.heap.size w (w.alloc (.cells f.cells 35))) := Lib.hid ((Below.refl _ w).alloc (Nat.le_refl _) _)
  have HQ0 := Lib.hid (heap_alloc_new w (.cells f.cells 35))
  have MK := Lib.hid (rmark_any false r G X f (w.alloc (.cells f.cells 35)) (h.below HB.out) hx (fun k hk => Nat.lt_of_lt_of_le (hG k hk) HB.out.size))
  clear h hx hG
  change Calls Try.prog 28 #[.pointer (some ⟨r, 0, none⟩), .agg f.cells] w _
  go_enter Try.func28, Try.ntmps28
  go_wp2_with (first
    | (refine wpList_load_own rfl _ rfl f w.heap.size rfl HQ0.out ?_)
    | (go_at_call 40; refine MK.out.mono ?_; rintro e w1 ⟨rfl, hc, hr⟩))
  go_ret
  exact ⟨rfl, hc.new HB.out, hr⟩
end Go.Proofs.Ytmjekepiplibkaa
