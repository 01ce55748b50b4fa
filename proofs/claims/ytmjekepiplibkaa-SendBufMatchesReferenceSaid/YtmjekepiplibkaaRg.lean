/- The reference's Next: nothing is lost. -/
import Derived.Test.YtmjekepiplibkaaRf
namespace Go.Proofs.Ytmjekepiplibkaa
open Go.RowKit
set_option maxRecDepth 100000 in
set_option maxHeartbeats 8000000 in
theorem rnext_rest (r : Nat) (G : Nat → Prop) (X : Wh) (most credit : Int) (w : World) (h : RInv w r G X) (hx : X.Ok) (hG : ∀ k, G k → k < w.heap.size) (hm : 0 ≤ most) (hlo : ¬ (0 < most ∧ first 2 X.T < X.T.length)) :
    Calls Try.prog 25 #[.pointer (some ⟨r, 0, none⟩), .int .i64 most, .int .i64 credit] w (RNextPost r G X (X.nextP most credit) w) := by
  have H0 : Below w.heap.size w (w.alloc (.cells fr0.cells 35)) := (Below.refl _ w).alloc (Nat.le_refl _) _
  have HQ := Lib.hid (heap_alloc_new w (.cells fr0.cells 35))
  have HZ : Hid ((w.alloc (.cells fr0.cells 35)).heap.size = w.heap.size + 1) := Lib.hid (by simp)
  have SE := Lib.hid (rsent_any r G X (w.alloc (.cells fr0.cells 35)) (h.below H0) hx)
  have TKA := Lib.hid (fun n (hP : X.nextP most credit = some (X.sent, X.sent + n)) => rtake_any r G X X.sent (X.sent + n) (w.alloc (.cells fr0.cells 35)) (h.below H0) hx (Wh.nextP_piece hx hP) hx.few)
  have GLU := Lib.hid (fun X' w2 => @rnext_glue w _ w2 r G X' _ H0 HZ.out HQ.out hG)
  have GL0 := Lib.hid (rnext_glue H0 HZ.out HQ.out hG (Chg.refl G _) ((h.below H0).ext (fun k hk => .inl hk)))
  have HN0 : Hid (0 < most → ∀ k, k < X.T.length → gd X.T k ≠ 2) := Lib.hid (fun h0 k hk => first_lt 2 X.T k (by have := first_le 2 X.T; omega))
  obtain ⟨Pp, hP⟩ : ∃ P, X.nextP most credit = P := ⟨_, rfl⟩
  obtain ⟨sn, hsn⟩ : ∃ s, X.sent = s := ⟨_, rfl⟩
  have hsl := X.sent_le
  obtain ⟨A, vs, h⟩ := h
  have hz := h.size
  have hlen := hx.len
  have hfew := hx.few
  have hcase : (∃ n : Nat, sn < A.size ∧ 0 < most ∧ 0 < credit ∧ (n : Int) = min ((A.size : Int) - sn) (min most credit) ∧ Pp = some (sn, sn + n)) ∨
      (sn = A.size ∧ (X.fin = true ∧ (X.ed = 0 ∨ X.ed = 2)) ∧ Pp = some (sn, sn + 0)) ∨
      (Pp = none ∧ ((sn < A.size ∧ most = 0 ∨ sn < A.size ∧ 0 < most ∧ credit ≤ 0) ∨ (sn = A.size ∧ (X.fin = false ∨ (X.fin = true ∧ X.ed ≠ 0 ∧ X.ed ≠ 2))))) := by
    unfold Wh.nextP at hP
    rw [if_neg (by omega), if_neg hlo, hsn, ← hz] at hP
    by_cases e1 : sn < A.size ∧ 0 < most ∧ 0 < credit
    · rw [if_pos e1] at hP
      refine .inl ⟨(min ((A.size : Int) - sn) (min most credit)).toNat, e1.1, e1.2.1, e1.2.2, by omega, hP.symm⟩
    · rw [if_neg e1] at hP
      by_cases e2 : sn = A.size
      · have e3 : X.opn = true ∨ X.opn = false := by cases X.opn <;> simp
        rcases e3 with e3 | e3
        · rw [if_pos ⟨e2, e3⟩] at hP
          refine .inr (.inl ⟨e2, ?_, hP.symm⟩)
          simp only [Wh.opn, Bool.and_eq_true, Bool.or_eq_true, decide_eq_true_eq] at e3
          exact e3
        · rw [if_neg (by rw [e3]; simp)] at hP
          refine .inr (.inr ⟨hP.symm, .inr ⟨e2, ?_⟩⟩)
          simp only [Wh.opn, Bool.and_eq_false_iff, Bool.or_eq_false_iff, decide_eq_false_iff_not] at e3
          rcases e3 with e3 | e3
          · exact .inl e3
          · cases hfx : X.fin
            · exact .inl rfl
            · exact .inr ⟨rfl, e3⟩
      · rw [if_neg (fun h => e2 h.1)] at hP
        exact .inr (.inr ⟨hP.symm, .inl (by omega)⟩)
  have HCASE := Lib.hid hcase
  rw [hP] at TKA
  rw [hP]
  rw [hsn] at TKA SE hsl
  have HF := Lib.hid (own_cells (h.below H0).rs)
  obtain ⟨a, cap, rfl, hcap⟩ := own_form h.rs
  obtain ⟨c0, c1, c2, c3, c4, fr⟩ := (h.below H0).facts
  have hA : A.size ≤ 1125899906842624 := by omega
  have hTA : X.T.length ≤ A.size := by omega
  have hAT : A.size ≤ X.T.length := by omega
  have hsA : sn ≤ A.size := by omega
  have HLO : Hid (0 < most → first 2 X.T = X.T.length) := Lib.hid (fun h0 => by have := first_le 2 X.T; omega)
  clear hcase h hG hz hlen hP hsn hlo c0 hx hsl hfew
  go_enter Try.func25, Try.ntmps25
  go_wp2
  change Code.wp _ _ _ _ (w.alloc (.cells fr0.cells 35))
  generalize w.alloc (.cells fr0.cells 35) = W1 at *
  go_loop [8] (fun i => ∃ k : Nat, k ≤ A.size ∧ i = .int .i64 k) (fun i => A.size - (intOf i).toNat)
  case atStart => exact ⟨0, Nat.zero_le _, rfl⟩
  case round =>
    obtain ⟨k, hk, rfl⟩ := hrel
    by_cases hgo : k < A.size ∧ 0 < most
    · obtain ⟨hkA, hm0⟩ := hgo
      obtain ⟨g, cp, e, hc1, hc2, hcell, hfr⟩ := HF.out (by omega)
      simp only [Value.slice.injEq] at e
      obtain ⟨rfl, _, rfl⟩ := e
      have e1 := hcell k (by omega)
      unfold maxLen at hc2
      clear hcell hfr
      obtain ⟨s, hs⟩ : ∃ s, X.T[k]?.getD 0 = s := ⟨_, rfl⟩
      rw [hs] at e1
      have hb : (s == 2) = false := by rw [beq_eq_false_iff_ne]; exact fun e => HN0.out hm0 k (by omega) (hs.trans e)
      clear hs
      go_wp2
      go_round
      case rel => exact ⟨k + 1, by omega, by go_num⟩
      case measure => simp [intOf]; omega
    · have hgo2 : (k < A.size ∧ most ≤ 0) ∨ A.size ≤ k := by omega
      clear hgo c2 HF HN0
      obtain ⟨bf, hbf⟩ : ∃ bf, X.fin = bf := ⟨_, rfl⟩
      obtain ⟨ed, hed⟩ : ∃ ed, X.ed = ed := ⟨_, rfl⟩
      have HC2 := HCASE.out
      clear HCASE
      rw [hbf, hed] at HC2
      rw [hbf] at c3
      rw [hed] at c4
      clear hbf hed
      rcases HC2 with ⟨n, a1, a2, a3, a4, rfl⟩ | ⟨a1, ⟨rfl, a2⟩, rfl⟩ | ⟨rfl, ho⟩
      · have TK := Lib.hid (TKA.out n rfl)
        rw [show (((sn + n : Nat) : Int)) = (sn : Int) + (n : Int) from by omega] at TK
        obtain ⟨m1, hm1⟩ : ∃ m1, (if most < (A.size : Int) - (sn : Int) then most else (A.size : Int) - (sn : Int)) = m1 := ⟨_, rfl⟩
        have hm2 : (if credit < m1 then credit else m1) = (n : Int) := by split at hm1 <;> split <;> omega
        have hm0 : ¬ most ≤ 0 := by omega
        have hnn : (n : Int) ≤ (A.size : Int) := by omega
        clear a4
        rcases hgo2 with ⟨_, hgo2⟩ | hgo2
        · omega
        · go_wp2_with (first | (go_at_call 39; refine SE.out.mono ?_; rintro e w1 ⟨rfl, rfl⟩) | (go_at_call 38; refine TK.out.mono ?_; rintro e w2 ⟨rfl, hC, hI⟩; have GL := Lib.hid (GLU.out _ w2 hC hI)) | (refine wpList_store_row rfl 35 _ _ rfl w.heap.size _ rfl rfl 35 _ GL.out.1 (size35 _) rfl (one35 _ _ _ _) ?_))
          exact bodyPost_ret (results_cell_tmp rfl _ _ w.heap.size 35 (X.frameR sn (sn + n)).cells (0, 0) _ rfl (setRow_heap _ _ _ _ 35 _ GL.out.1) Try.underlying35 rfl (size35 _)) rfl ⟨rfl, GL.out.2 _⟩
      · have TK := Lib.hid (TKA.out 0 rfl)
        rw [Nat.add_zero] at TK
        subst a1
        rcases hgo2 with ⟨hgo1, hgo2⟩ | hgo2
        all_goals
          rcases a2 with rfl | rfl
          all_goals
            go_wp2_with (first | (go_at_call 39; refine SE.out.mono ?_; rintro e w1 ⟨rfl, rfl⟩) | (go_at_call 38; refine TK.out.mono ?_; rintro e w2 ⟨rfl, hC, hI⟩; have GL := Lib.hid (GLU.out _ w2 hC hI)) | (refine wpList_store_row rfl 35 _ _ rfl w.heap.size _ rfl rfl 35 _ GL.out.1 (size35 _) rfl (one35 _ _ _ _) ?_))
            exact bodyPost_ret (results_cell_tmp rfl _ _ w.heap.size 35 (X.frameR A.size A.size).cells (0, 0) _ rfl (setRow_heap _ _ _ _ 35 _ GL.out.1) Try.underlying35 rfl (size35 _)) rfl ⟨rfl, GL.out.2 _⟩
      · rcases ho with (⟨a1, a2⟩ | ⟨a1, a2, a3⟩) | ⟨a1, ho⟩
        · have hsb : ((sn : Int) == (A.size : Int)) = false := by rw [beq_eq_false_iff_ne]; omega
          have hsbn : (sn == A.size) = false := by rw [beq_eq_false_iff_ne]; omega
          have hne : ¬ sn = A.size := by omega
          subst a2
          rcases hgo2 with ⟨hgo1, hgo2⟩ | hgo2
          all_goals
            cases bf
            all_goals
              go_wp2_with (first | (go_at_call 39; refine SE.out.mono ?_; rintro e w1 ⟨rfl, rfl⟩) | (refine wpList_store_row rfl 35 _ _ rfl w.heap.size fr0.cells rfl (by rfl) 35 _ HQ.out (size35 _) rfl one_fr0 ?_))
              all_goals (first | exact bodyPost_ret (results_cell_tmp rfl _ _ w.heap.size 35 fr0.cells (0, 0) _ rfl (setRow_heap _ _ _ _ 35 _ HQ.out) Try.underlying35 rfl (size35 _)) rfl ⟨rfl, GL0.out.2 _⟩ | (exfalso; omega))
        · have hsb : ((sn : Int) == (A.size : Int)) = false := by rw [beq_eq_false_iff_ne]; omega
          have hsbn : (sn == A.size) = false := by rw [beq_eq_false_iff_ne]; omega
          have hne : ¬ sn = A.size := by omega
          rcases hgo2 with ⟨hgo1, hgo2⟩ | hgo2
          · omega
          · cases bf
            all_goals
              go_wp2_with (first | (go_at_call 39; refine SE.out.mono ?_; rintro e w1 ⟨rfl, rfl⟩) | (refine wpList_store_row rfl 35 _ _ rfl w.heap.size fr0.cells rfl (by rfl) 35 _ HQ.out (size35 _) rfl one_fr0 ?_))
              all_goals (first | exact bodyPost_ret (results_cell_tmp rfl _ _ w.heap.size 35 fr0.cells (0, 0) _ rfl (setRow_heap _ _ _ _ 35 _ HQ.out) Try.underlying35 rfl (size35 _)) rfl ⟨rfl, GL0.out.2 _⟩ | (exfalso; omega))
        · subst a1
          rcases ho with rfl | ⟨rfl, e1, e2⟩
          · rcases hgo2 with ⟨hgo1, hgo2⟩ | hgo2
            all_goals
              go_wp2_with (first | (go_at_call 39; refine SE.out.mono ?_; rintro e w1 ⟨rfl, rfl⟩) | (refine wpList_store_row rfl 35 _ _ rfl w.heap.size fr0.cells rfl (by rfl) 35 _ HQ.out (size35 _) rfl one_fr0 ?_))
              all_goals (first | exact bodyPost_ret (results_cell_tmp rfl _ _ w.heap.size 35 fr0.cells (0, 0) _ rfl (setRow_heap _ _ _ _ 35 _ HQ.out) Try.underlying35 rfl (size35 _)) rfl ⟨rfl, GL0.out.2 _⟩ | (exfalso; omega))
          · have b1 : (ed == 0) = false := by simp [e1]
            have b2 : (ed == 2) = false := by simp [e2]
            clear e1 e2
            rcases hgo2 with ⟨hgo1, hgo2⟩ | hgo2
            all_goals
              go_wp2_with (first | (go_at_call 39; refine SE.out.mono ?_; rintro e w1 ⟨rfl, rfl⟩) | (refine wpList_store_row rfl 35 _ _ rfl w.heap.size fr0.cells rfl (by rfl) 35 _ HQ.out (size35 _) rfl one_fr0 ?_))
              all_goals (first | exact bodyPost_ret (results_cell_tmp rfl _ _ w.heap.size 35 fr0.cells (0, 0) _ rfl (setRow_heap _ _ _ _ 35 _ HQ.out) Try.underlying35 rfl (size35 _)) rfl ⟨rfl, GL0.out.2 _⟩ | (exfalso; omega))
theorem rnext_any (r : Nat) (G : Nat → Prop) (X : Wh) (most credit : Int) (w : World) (h : RInv w r G X) (hx : X.Ok) (hG : ∀ k, G k → k < w.heap.size) :
    Calls Try.prog 25 #[.pointer (some ⟨r, 0, none⟩), .int .i64 most, .int .i64 credit] w (RNextPost r G X (X.nextP most credit) w) := by
  by_cases hm : most < 0
  · have : X.nextP most credit = none := by unfold Wh.nextP; rw [if_pos hm]
    rw [this]
    exact rnext_neg r G X most credit w h hG hm
  · by_cases h2 : 0 < most ∧ first 2 X.T < X.T.length
    · have : X.nextP most credit = some (first 2 X.T, first 2 X.T + runLen 2 (X.T.drop (first 2 X.T)) most.toNat) := by unfold Wh.nextP; rw [if_neg hm, if_pos h2]
      rw [this]
      exact rnext_lost r G X most credit w h hx hG h2.1 _ _ rfl h2.2 rfl this
    · exact rnext_rest r G X most credit w h hx hG (by omega) h2
end Go.Proofs.Ytmjekepiplibkaa
