/- The reference's Next. -/
import Derived.Test.YtmjekepiplibkaaRe
import Derived.Test.YtmjekepiplibkaaH
import Derived.Laws.Cover1
namespace Go.Proofs.Ytmjekepiplibkaa
open Go.RowKit
theorem RInv.setRow {w w1 w2 : World} {r : Nat} {G : Nat → Prop} {X : Wh} (h0 : Below w.heap.size w w1) (hz : w1.heap.size = w.heap.size + 1) (hG : ∀ k, G k → k < w.heap.size) (hC : Chg G w1 w2) (hI : RInv w2 r (Ext G w1 w2) X) (cs : Array Value) :
    Chg G w (w2.setRow w.heap.size cs) ∧ RInv (w2.setRow w.heap.size cs) r (Ext G w (w2.setRow w.heap.size cs)) X := by
  have hs := hC.size
  refine ⟨?_, ?_⟩
  · refine Chg.setRow ⟨hC.os.trans h0.os, hC.tape.trans h0.tape, hC.output.trans h0.output, by omega, fun k hk hf => ?_⟩ _ _ (Nat.le_refl _)
    exact (hC.block k (by omega) (fun e => hf e)).trans (h0.block k hk)
  · obtain ⟨A, vs, hI⟩ := hI
    have hne : ∀ k, Ext G w1 w2 k → k ≠ w.heap.size := fun k hk e => by rcases hk with hk | hk; exact Nat.lt_irrefl _ (e ▸ hG k hk); omega
    refine ⟨A, vs, (hI.far (fun k hk => setRow_other _ _ k _ (hne k ?_))).ext (fun k hk => ?_)⟩
    · rcases hk with rfl | hk
      · exact hI.gr
      · exact (hI.gs k hk).1
    · rcases hk with hk | hk
      · exact .inl hk
      · exact .inr ⟨by omega, by simpa using hk.2⟩
theorem rnext_glue {w w1 w2 : World} {r : Nat} {G : Nat → Prop} {X : Wh} {o : Obj} (h0 : Below w.heap.size w w1) (hz : w1.heap.size = w.heap.size + 1) (hq : w1.heap[w.heap.size]? = some o) (hG : ∀ k, G k → k < w.heap.size) (hC : Chg G w1 w2) (hI : RInv w2 r (Ext G w1 w2) X) :
    w2.heap[w.heap.size]? = some o ∧ ∀ cs : Array Value, Chg G w (w2.setRow w.heap.size cs) ∧ RInv (w2.setRow w.heap.size cs) r (Ext G w (w2.setRow w.heap.size cs)) X :=
  ⟨(hC.block w.heap.size (by omega) (fun e => Nat.lt_irrefl _ (hG _ e))).trans hq, RInv.setRow h0 hz hG hC hI⟩
def rnextE (X : Wh) (P : Option (Nat × Nat)) : Ending := .returned (.tuple #[(X.nextR P).val, .bool P.isSome])
def RNextPost (r : Nat) (G : Nat → Prop) (X : Wh) (P : Option (Nat × Nat)) (w : World) (e : Ending) (w' : World) : Prop := e = rnextE X P ∧ Chg G w w' ∧ RInv w' r (Ext G w w') (X.nextX P)
theorem RInv.ext {w : World} {r : Nat} {G H : Nat → Prop} {X : Wh} (h : RInv w r G X) (hs : ∀ k, G k → H k) : RInv w r H X := by obtain ⟨A, vs, h⟩ := h; exact ⟨A, vs, h.ext hs⟩
theorem one_fr0 : fr0.cells.all (·.oneCell') = true := one35 _ _ _ _
set_option maxRecDepth 100000 in
set_option maxHeartbeats 4000000 in
theorem rnext_neg (r : Nat) (G : Nat → Prop) (X : Wh) (most credit : Int) (w : World) (h : RInv w r G X) (_hG : ∀ k, G k → k < w.heap.size) (hm : most < 0) :
    Calls Try.prog 25 #[.pointer (some ⟨r, 0, none⟩), .int .i64 most, .int .i64 credit] w (RNextPost r G X none w) := by
  have H0 : Below w.heap.size w (w.alloc (.cells fr0.cells 35)) := (Below.refl _ w).alloc (Nat.le_refl _) _
  have HQ := Lib.hid (heap_alloc_new w (.cells fr0.cells 35))
  have HI : Hid (Chg G w (w.alloc (.cells fr0.cells 35)) ∧ RInv (w.alloc (.cells fr0.cells 35)) r (Ext G w (w.alloc (.cells fr0.cells 35))) X) := Lib.hid ⟨Chg.below H0, (h.below H0).ext (fun k hk => .inl hk)⟩
  clear h
  go_enter Try.func25, Try.ntmps25
  go_wp2
  exact bodyPost_ret (results_cell_tmp rfl _ _ w.heap.size 35 fr0.cells (0, 0) _ rfl HQ.out Try.underlying35 rfl (size35 _)) rfl ⟨rfl, HI.out⟩
set_option maxRecDepth 100000 in
set_option maxHeartbeats 8000000 in
theorem rnext_lost (r : Nat) (G : Nat → Prop) (X : Wh) (most credit : Int) (w : World) (h : RInv w r G X) (hx : X.Ok) (hG : ∀ k, G k → k < w.heap.size) (hm : 0 < most) (f n : Nat) (hf : first 2 X.T = f) (hfl : f < X.T.length) (hn : runLen 2 (X.T.drop f) most.toNat = n) (hP : X.nextP most credit = some (f, f + n)) :
    Calls Try.prog 25 #[.pointer (some ⟨r, 0, none⟩), .int .i64 most, .int .i64 credit] w (RNextPost r G X (some (f, f + n)) w) := by
  have H0 : Below w.heap.size w (w.alloc (.cells fr0.cells 35)) := (Below.refl _ w).alloc (Nat.le_refl _) _
  have HQ := Lib.hid (heap_alloc_new w (.cells fr0.cells 35))
  have HZ : Hid ((w.alloc (.cells fr0.cells 35)).heap.size = w.heap.size + 1) := Lib.hid (by simp)
  have TK := Lib.hid (rtake_any r G X f (f + n) (w.alloc (.cells fr0.cells 35)) (h.below H0) hx (Wh.nextP_piece hx hP) hx.few)
  rw [show (((f + n : Nat) : Int)) = (f : Int) + (n : Int) from by omega] at TK
  have GLU := Lib.hid (fun w2 => @rnext_glue w _ w2 r G (X.frame f (f + n)) _ H0 HZ.out HQ.out hG)
  have HN0 := Lib.hid (fun k hk => first_lt 2 X.T k (hf ▸ hk))
  have HN1 : Hid (gd X.T f = 2) := Lib.hid (by have := first_at 2 X.T (by omega); rw [hf] at this; exact this)
  have hnb := runLen_le 2 (X.T.drop f) most.toNat
  rw [hn, List.length_drop] at hnb
  have HN2 : Hid (∀ m, m < n → gd X.T (f + m) = 2) := Lib.hid (fun m hm2 => by have := runLen_lt 2 (X.T.drop f) most.toNat m (by omega); rw [gd_drop] at this; exact this)
  have HN3 : Hid (f + n = X.T.length ∨ (n : Int) = most ∨ ((n : Int) < most ∧ f + n < X.T.length ∧ gd X.T (f + n) ≠ 2)) := Lib.hid (by
    by_cases e1 : f + n = X.T.length
    · exact .inl e1
    · by_cases e2 : (n : Int) = most
      · exact .inr (.inl e2)
      · refine .inr (.inr ⟨by omega, by omega, ?_⟩)
        have := runLen_stop 2 (X.T.drop f) most.toNat (by omega) (by rw [List.length_drop]; omega)
        rw [gd_drop, hn] at this; exact this)
  obtain ⟨A, vs, h⟩ := h
  have hz := h.size
  have hlen := hx.len
  have hfew := hx.few
  have HF := Lib.hid (own_cells (h.below H0).rs)
  obtain ⟨a, cap, rfl, hcap⟩ := own_form h.rs
  obtain ⟨c0, c1, c2, c3, c4, fr⟩ := (h.below H0).facts
  have hA : A.size ≤ 1125899906842624 := by omega
  have hTA : X.T.length ≤ A.size := by omega
  have hAT : A.size ≤ X.T.length := by omega
  clear h hG hf hn hz hlen hP c0 c3 c4
  obtain ⟨hnb1, hnb2⟩ := hnb
  go_enter Try.func25, Try.ntmps25
  go_wp2
  change Code.wp _ _ _ _ (w.alloc (.cells fr0.cells 35))
  generalize w.alloc (.cells fr0.cells 35) = W1 at *
  go_loop [8] (fun i => ∃ k : Nat, k ≤ f ∧ i = .int .i64 k) (fun i => A.size - (intOf i).toNat)
  case atStart => exact ⟨0, Nat.zero_le _, rfl⟩
  case round =>
    obtain ⟨k, hk, rfl⟩ := hrel
    have hkA : k < A.size := by omega
    obtain ⟨g, cp, e, hc1, hc2, hcell, hfr⟩ := HF.out (by omega)
    simp only [Value.slice.injEq] at e
    obtain ⟨rfl, _, rfl⟩ := e
    have e1 := hcell k (by omega)
    unfold maxLen at hc2
    have HCE := Lib.hid hcell
    clear hcell hfr
    by_cases hkf : k < f
    · obtain ⟨s, hs⟩ : ∃ s, X.T[k]?.getD 0 = s := ⟨_, rfl⟩
      rw [hs] at e1
      have hb : (s == 2) = false := by rw [beq_eq_false_iff_ne]; exact fun e => HN0.out k hkf (hs.trans e)
      clear hs
      go_wp2
      go_round
      case rel => exact ⟨k + 1, by omega, by go_num⟩
      case measure => simp [intOf]; omega
    · obtain rfl : k = f := by omega
      rw [show X.T[k]?.getD 0 = 2 from HN1.out] at e1
      go_wp2
      go_loop [9] (fun t => ∃ m : Nat, m ≤ n ∧ t = .int .i64 ((k : Int) + (m : Int))) (fun t => A.size - (intOf t).toNat)
      case atStart => exact ⟨0, Nat.zero_le _, by simp⟩
      case round =>
        obtain ⟨m, hm2, rfl⟩ := hrel
        have hw1 : IntKind.i64.wrap ((k : Int) + (m : Int) - (k : Int)) = (m : Int) := by rw [show (k : Int) + (m : Int) - (k : Int) = m by omega]; exact IntWalk.i64_in _ (by omega)
        by_cases hmn : m < n
        · have e2 := HCE.out (k + m) (by omega)
          rw [show X.T[k + m]?.getD 0 = 2 from HN2.out m hmn] at e2
          have g1 : (k : Int) + (m : Int) < (A.size : Int) := by omega
          have g2 : (m : Int) < most := by omega
          have g3 : ((k : Int) + (m : Int)).toNat = k + m := by omega
          have g4 : 0 ≤ (k : Int) + (m : Int) := by omega
          go_wp2
          go_round
          case rel => exact ⟨m + 1, by omega, by simp; omega⟩
          case measure => simp [intOf]; omega
        · obtain rfl : m = n := by omega
          have g4 : 0 ≤ (k : Int) + (m : Int) := by omega
          have g3 : ((k : Int) + (m : Int)).toNat = k + m := by omega
          rcases HN3.out with h1 | h1 | ⟨h1, h2, h3⟩
          · have g1 : ¬ (k : Int) + (m : Int) < (A.size : Int) := by omega
            clear h1
            go_wp2_with (first | (go_at_call 38; refine TK.out.mono ?_; rintro e w2 ⟨rfl, hC, hI⟩; have GL := Lib.hid (GLU.out w2 hC hI)) | (refine wpList_store_row rfl 35 _ _ rfl w.heap.size _ rfl rfl 35 _ GL.out.1 (size35 _) rfl (one35 _ _ _ _) ?_))
            exact bodyPost_ret (results_cell_tmp rfl _ _ w.heap.size 35 (X.frameR k (k + m)).cells (0, 0) _ rfl (setRow_heap _ _ _ _ 35 _ GL.out.1) Try.underlying35 rfl (size35 _)) rfl ⟨rfl, GL.out.2 _⟩
          · have g1 : (k : Int) + (m : Int) < (A.size : Int) ∨ ¬ (k : Int) + (m : Int) < (A.size : Int) := by omega
            have g2 : ¬ (m : Int) < most := by omega
            clear h1
            rcases g1 with g1 | g1
            all_goals
              go_wp2_with (first | (go_at_call 38; refine TK.out.mono ?_; rintro e w2 ⟨rfl, hC, hI⟩; have GL := Lib.hid (GLU.out w2 hC hI)) | (refine wpList_store_row rfl 35 _ _ rfl w.heap.size _ rfl rfl 35 _ GL.out.1 (size35 _) rfl (one35 _ _ _ _) ?_))
              exact bodyPost_ret (results_cell_tmp rfl _ _ w.heap.size 35 (X.frameR k (k + m)).cells (0, 0) _ rfl (setRow_heap _ _ _ _ 35 _ GL.out.1) Try.underlying35 rfl (size35 _)) rfl ⟨rfl, GL.out.2 _⟩
          · have g1 : (k : Int) + (m : Int) < (A.size : Int) := by omega
            have e2 := HCE.out (k + m) (by omega)
            obtain ⟨s, hs⟩ : ∃ s, X.T[k + m]?.getD 0 = s := ⟨_, rfl⟩
            rw [hs] at e2
            have hb : (s == 2) = false := by rw [beq_eq_false_iff_ne]; exact fun e => h3 (hs.trans e)
            clear hs h3
            go_wp2_with (first | (go_at_call 38; refine TK.out.mono ?_; rintro e w2 ⟨rfl, hC, hI⟩; have GL := Lib.hid (GLU.out w2 hC hI)) | (refine wpList_store_row rfl 35 _ _ rfl w.heap.size _ rfl rfl 35 _ GL.out.1 (size35 _) rfl (one35 _ _ _ _) ?_))
            exact bodyPost_ret (results_cell_tmp rfl _ _ w.heap.size 35 (X.frameR k (k + m)).cells (0, 0) _ rfl (setRow_heap _ _ _ _ 35 _ GL.out.1) Try.underlying35 rfl (size35 _)) rfl ⟨rfl, GL.out.2 _⟩
end Go.Proofs.Ytmjekepiplibkaa
