/- The reference's take. -/
import Derived.Test.YtmjekepiplibkaaRb
import Derived.Test.YtmjekepiplibkaaE
namespace Go.Proofs.Ytmjekepiplibkaa
open Go.RowKit
theorem Rr.setState {w : World} {r : Nat} {G : Nat → Prop} {A : ByteArray} {X : Wh} {g cap n : Nat} (R : Rr w r G A X (.slice (some ⟨g, 0, none⟩) n cap)) (k : Nat) (_hk : k < X.T.length) (v : Int) :
    Rr (w.setCell ⟨g, k, none⟩ (.int .i64 v)) r G A { X with T := X.T.set k v } (.slice (some ⟨g, 0, none⟩) n cap) ∧ Chg G w (w.setCell ⟨g, k, none⟩ (.int .i64 v)) := by
  have hgb := R.gs g rfl
  refine ⟨⟨(heap_setCell_other w _ r _ (fun e => hgb.2 e.symm)).trans R.obj, ?_, R.gr, R.gs, R.sz⟩, (Chg.refl G w).set g k _ hgb.1⟩
  obtain ⟨hl, h⟩ := R.rs
  rcases h with ⟨e, _⟩ | ⟨g', cap', cur, e, h2, h3, h4, h5, h6, h7⟩
  · cases e
  · simp only [Value.slice.injEq, Option.some.injEq, Addr.mk.injEq] at e
    obtain ⟨⟨rfl, _, _⟩, rfl, rfl⟩ := e
    refine ⟨by simp, .inr ⟨g, cap, cur.setIfInBounds k (.int .i64 v), by simp, h2, heap_set _ h3, by simpa using h4, h5, by simpa using h6, ?_⟩⟩
    simp only [List.length_set, Nat.mul_one] at *
    rw [Array.toList_setIfInBounds, List.take_set, h7, List.map_set]
theorem str_of_bytes (A : ByteArray) : strOfNums (bytesOf A) = A := bytesOf_inj (bytes_str _ (bytesOf_range A))
theorem str_extract {A : ByteArray} {S : List Int} (h : bytesOf A = S) (f t : Nat) : strOfNums ((S.drop f).take (t - f)) = A.extract f t := by
  rw [← h, ← bytesOf_extract, str_of_bytes]
theorem Rr.far {w w' : World} {r : Nat} {G : Nat → Prop} {A : ByteArray} {X : Wh} {vs : Value} (h : Rr w r G A X vs) (hs : ∀ k, (k = r ∨ vs.ownBlock = some k) → w'.heap[k]? = w.heap[k]?) : Rr w' r G A X vs :=
  ⟨(hs r (.inl rfl)).trans h.obj, own_same h.rs (fun k hk => hs k (.inr hk)), h.gr, h.gs, h.sz⟩
theorem rtake_fin {w W3 : World} {r f : Nat} {G : Nat → Prop} {A S : ByteArray} {X : Wh} {vs : Value} (hr : r < w.heap.size) (hz : ∀ k, vs.ownBlock = some k → k < w.heap.size) (R : Rr W3 r G A X vs) (C : Chg G w W3)
    (t9 : W3.heap[w.heap.size + 1]? = some (.cells (mkFr 8 (f : Int) S false).cells 35 (0, 0))) (t6 : W3.heap[w.heap.size]? = some (.cells (mkFr 0 0 ⟨#[]⟩ false).cells 35 (0, 0))) :
    ((W3.setCell ⟨r, 4, none⟩ (.int .i64 1)).setCell ⟨w.heap.size + 1, 4, none⟩ (.bool true)).heap[w.heap.size + 1]? = some (.cells (mkFr 8 (f : Int) S true).cells 35 (0, 0)) ∧
    ((W3.setCell ⟨r, 4, none⟩ (.int .i64 1)).setCell ⟨w.heap.size + 1, 4, none⟩ (.bool true)).heap[w.heap.size]? = some (.cells (mkFr 0 0 ⟨#[]⟩ false).cells 35 (0, 0)) ∧
    Chg G w ((W3.setCell ⟨r, 4, none⟩ (.int .i64 1)).setCell ⟨w.heap.size + 1, 4, none⟩ (.bool true)) ∧
    Rr ((W3.setCell ⟨r, 4, none⟩ (.int .i64 1)).setCell ⟨w.heap.size + 1, 4, none⟩ (.bool true)) r G A { X with ed := 1 } vs :=
  ⟨heap_set (.bool true) ((heap_setCell_other _ _ _ _ (by show w.heap.size + 1 ≠ r; omega)).trans t9), (heap_setCell_other _ _ _ _ (by show w.heap.size ≠ w.heap.size + 1; omega)).trans ((heap_setCell_other _ _ _ _ (by show w.heap.size ≠ r; omega)).trans t6), (C.set r 4 _ R.gr).setFar (w.heap.size + 1) 4 _ (by omega),
    (R.set (X' := { X with ed := 1 }) (A' := A) 4 (.int .i64 1) rfl rfl R.sz).far (fun j hj => heap_setCell_other _ _ _ _ (by
      have : j < w.heap.size := by rcases hj with rfl | hj; exact hr; exact hz j hj
      show j ≠ w.heap.size + 1; omega))⟩
set_option maxHeartbeats 8000000 in
theorem rtake_any (r : Nat) (G : Nat → Prop) (X : Wh) (f t : Nat) (w : World) (h : RInv w r G X) (hx : X.Ok) (hp : X.Piece f t) (hf : X.S.length ≤ 1125899906842624) :
    Calls Try.prog 38 #[.pointer (some ⟨r, 0, none⟩), .int .i64 f, .int .i64 t] w fun e w' => e = .returned (X.frameR f t).val ∧ Chg G w w' ∧ RInv w' r (Ext G w w') (X.frame f t) := by
  obtain ⟨A, vs, h⟩ := h
  obtain ⟨hp1, hp2, hp3, hp4⟩ := hp
  have hz := h.size
  have hlen := hx.len
  have ht2 : t ≤ X.T.length := by omega
  have htA : t ≤ A.size := by omega
  have hA9 : A.size ≤ 1125899906842624 := by omega
  obtain ⟨a2, caps, rfl, hcaps⟩ := own_form h.rs
  have HR0 := Lib.hid (h.below (show Below w.heap.size w (w.alloc (.cells (mkFr 0 0 ⟨#[]⟩ false).cells 35)) from (Below.refl _ w).alloc (Nat.le_refl _) _))
  obtain ⟨S, hS⟩ : ∃ S, A.extract f t = S := ⟨_, rfl⟩
  have HRES : Hid (X.frameR f t = mkFr 8 f S (X.finT t)) := Lib.hid (by unfold Wh.frameR; rw [str_extract h.sz, hS])
  have hAX : X.S.length = A.size := hz.symm
  have hFT : X.finT t = (decide (t = A.size) && (X.fin && (decide (X.ed = 0) || decide (X.ed = 2)))) := by unfold Wh.finT Wh.opn; rw [hAX]
  have HFR : Hid (X.frame f t = { X with T := setTo X.T 1 f (t - f), ed := if X.finT t then 1 else X.ed }) := Lib.hid rfl
  have hcase : (X.finT t = true ∧ (X.fin = true ∧ t = A.size ∧ (X.ed = 0 ∨ X.ed = 2))) ∨ (X.finT t = false ∧ (X.fin = false ∨ (X.fin = true ∧ t ≠ A.size) ∨ (X.fin = true ∧ t = A.size ∧ (X.ed ≠ 0 ∧ X.ed ≠ 2)))) := by
    rw [hFT]
    cases X.fin
    · simp
    · by_cases e1 : t = A.size
      · by_cases e2 : X.ed = 0
        · simp [e1, e2]
        · by_cases e3 : X.ed = 2
          · simp [e1, e3]
          · simp [e1, e2, e3]
      · simp [e1]
  have HCASE := Lib.hid hcase
  clear hcase hFT hAX hz hlen
  go_enter Try.func38, Try.ntmps38
  go_wp2
  have HQ0 : Hid ((w.alloc (.cells (mkFr 0 0 ⟨#[]⟩ false).cells 35)).heap[w.heap.size]? = some (.cells (mkFr 0 0 ⟨#[]⟩ false).cells 35 (0, 0))) := Lib.hid (heap_alloc_new w _)
  have HC0 : Hid (Chg G w (w.alloc (.cells (mkFr 0 0 ⟨#[]⟩ false).cells 35))) := Lib.hid (Chg.below ((Below.refl _ w).alloc (Nat.le_refl _) _))
  have HZ0 : Hid ((w.alloc (.cells (mkFr 0 0 ⟨#[]⟩ false).cells 35)).heap.size = w.heap.size + 1) := Lib.hid (by simp)
  have HLT := Lib.hid (own_lt h.rs)
  have hbl0 : r < w.heap.size := heap_lt h.obj
  change Code.wp _ _ _ _ (w.alloc (.cells (mkFr 0 0 ⟨#[]⟩ false).cells 35))
  generalize w.alloc (.cells (mkFr 0 0 ⟨#[]⟩ false).cells 35) = W0 at *
  have HFAR : Hid (∀ k, (k = r ∨ (Value.slice a2 X.T.length caps).ownBlock = some k) → k < w.heap.size) := Lib.hid (fun k hk => by rcases hk with rfl | hk; exact hbl0; exact HLT.out k hk)
  clear h
  go_loopw [7] (fun i wr => ∃ (k : Nat), f ≤ k ∧ k ≤ t ∧ i = .int .i64 k ∧ Rr wr r G A { X with T := setTo X.T 1 f (k - f) } (.slice a2 X.T.length caps) ∧ Chg G w wr ∧ wr.heap[w.heap.size]? = some (.cells (mkFr 0 0 ⟨#[]⟩ false).cells 35 (0, 0)) ∧ wr.heap.size = w.heap.size + 1) (fun i _ => t - (intOf i).toNat)
  case atStart => exact ⟨f, by omega, hp2, rfl, by rw [Nat.sub_self]; exact HR0.out, HC0.out, HQ0.out, HZ0.out⟩
  case round =>
    obtain ⟨k, hk1, hk2, rfl, R, hC, hQ, hZ⟩ := hrel
    by_cases hlt : k < t
    · obtain ⟨g, cpp, e, hc1, hc2, hcell, hfr⟩ := own_cells R.rs (by show 0 < (setTo X.T 1 f (k - f)).length; rw [setTo_length]; omega)
      simp only [Value.slice.injEq] at e
      obtain ⟨rfl, _, rfl⟩ := e
      have hkl : k < (setTo X.T 1 f (k - f)).length := by rw [setTo_length]; omega
      have e1 := hcell k hkl
      unfold maxLen at hc2
      have N := Lib.hid (R.setState k hkl 1)
      obtain ⟨c0, c1, c2, c3, c4, fr⟩ := R.facts
      have hgl := HLT.out g rfl
      have HS : Hid ((wr.setCell ⟨g, k, none⟩ (.int .i64 1)).heap[w.heap.size]? = some (.cells (mkFr 0 0 ⟨#[]⟩ false).cells 35 (0, 0))) := Lib.hid ((heap_setCell_other wr _ _ _ (by show w.heap.size ≠ g; omega)).trans hQ)
      have hst : (setTo X.T 1 f (k - f)).set k 1 = setTo X.T 1 f (k + 1 - f) := by
        rw [show k + 1 - f = (k - f) + 1 from by omega, setTo, show f + (k - f) = k from by omega]
      rw [hst] at N
      clear hst c0 c1 c3 c4 hcell
      go_wp2
      go_roundw
      case rel => exact ⟨k + 1, by omega, by omega, by simp, N.out.1, hC.trans1 N.out.2, HS.out, by simpa using hZ⟩
      case measure => simp [intOf]; omega
    · obtain rfl : k = t := by omega
      obtain ⟨c0, c1, c2, c3, c4, fr⟩ := R.facts
      have ON : Hid ((mkFr 8 (f : Int) S false).cells.all (·.oneCell') = true) := Lib.hid (one35 _ _ _ _)
      have HR := Lib.hid R
      have HQ := Lib.hid hQ
      have HCw := Lib.hid hC
      have HB2 : Hid (Below wr.heap.size wr (wr.alloc (.cells (mkFr 8 (f : Int) S false).cells 35))) := Lib.hid ((Below.refl _ wr).alloc (Nat.le_refl _) _)
      have R2 := Lib.hid (HR.out.below HB2.out)
      have Q2 : Hid ((wr.alloc (.cells (mkFr 8 (f : Int) S false).cells 35)).heap[w.heap.size + 1]? = some (.cells (mkFr 8 (f : Int) S false).cells 35 (0, 0))) := Lib.hid (by rw [← hZ]; exact heap_alloc_new wr _)
      have Q1 : Hid ((wr.alloc (.cells (mkFr 8 (f : Int) S false).cells 35)).heap[w.heap.size]? = some (.cells (mkFr 0 0 ⟨#[]⟩ false).cells 35 (0, 0))) := Lib.hid (heap_below HB2.out HQ.out)
      have C2 := Lib.hid (HCw.out.trans1 (Chg.below HB2.out))
      have HZ1 := Lib.hid hZ
      have HXT : Hid (X.finT k = true → X.frame f k = { X with T := setTo X.T 1 f (k - f), ed := 1 }) := Lib.hid (fun e => by unfold Wh.frame; rw [e]; rfl)
      have HXF : Hid (X.finT k = false → X.frame f k = { X with T := setTo X.T 1 f (k - f) }) := Lib.hid (fun e => by unfold Wh.frame; rw [e]; rfl)
      obtain ⟨bf, hbf⟩ : ∃ bf, X.fin = bf := ⟨_, rfl⟩
      obtain ⟨ed, hed⟩ : ∃ ed, X.ed = ed := ⟨_, rfl⟩
      have HC3 := HCASE.out
      rw [hbf, hed] at HC3
      obtain ⟨e0, e1, e2, e3, e4, efr⟩ := R2.out.facts
      have d3 := e3.trans (congrArg (fun x => some (Value.bool x)) hbf)
      have d4 := e4.trans (congrArg (fun x => some (Value.int .i64 x)) hed)
      have f9 := frozen_whole Q2.out
      have f4 := (cell_whole Q2.out 4).trans (rfl : _ = some (Value.bool false))
      clear e0 e2 e3 e4 c3 c4
      have HED := Lib.hid hed
      have T1 : Hid (1 = 1) := Lib.hid rfl
      clear R hQ hC HQ0 HC0 HR0 c0 c2 HCASE hbf hed hZ HB2 HQ HCw HZ0 HFR hf hcaps
      rcases HC3 with ⟨hft, rfl, rfl, he⟩ | ⟨hft, ho⟩
      · have HFT := Lib.hid hft
        clear hft
        have FI := Lib.hid (rtake_fin hbl0 (fun k hk => HLT.out k hk) R2.out C2.out Q2.out Q1.out)
        have hne1 : ¬ (w.heap.size + 1 = r) := by omega
        rcases he with rfl | rfl
        all_goals
          go_wp2_with (first
            | (have T0 := T1.out; clear T0 T1; refine wpList_store_new rfl _ _ rfl (mkFr 8 (f : Int) S false) ON.out _ (by rfl) (by rfl) (by rfl) ?_; rw [HZ1.out]; generalize wr.alloc (.cells (mkFr 8 (f : Int) S false).cells 35) = W2 at *)
            | (refine wpList_load_row rfl 35 _ rfl (w.heap.size + 1) rfl 35 _ (0, 0) _ FI.out.1 Try.underlying35 rfl (size35 _) ?_) | (refine wpList_store_row rfl 35 _ _ rfl w.heap.size _ rfl rfl 35 _ FI.out.2.1 (size35 _) rfl (one35 _ _ _ _) ?_))
          refine bodyPost_ret (v := (mkFr 8 (f : Int) S true).val) (results_cell_row rfl _ _ w.heap.size 35 _ (0, 0) _ rfl (setRow_heap _ _ _ _ 35 _ FI.out.2.1) Try.underlying35 rfl (size35 _)) rfl ⟨by rw [HRES.out, HFT.out], FI.out.2.2.1.setRow _ _ (Nat.le_refl _), ?_⟩
          rw [HXT.out HFT.out]
          exact ⟨_, _, (FI.out.2.2.2.far (fun j hj => setRow_other _ _ j _ (by have := HFAR.out j hj; omega))).ext (fun j hj => .inl hj)⟩
      · have HFT := Lib.hid hft
        clear hft
        have hne1 : ¬ (w.heap.size + 1 = r) := by omega
        have FI := Lib.hid (And.intro Q2.out (And.intro Q1.out (And.intro C2.out R2.out)))
        rcases ho with rfl | ⟨rfl, ho⟩ | ⟨rfl, rfl, ho1, ho2⟩
        · go_wp2_with (first
            | (have T0 := T1.out; clear T0 T1; refine wpList_store_new rfl _ _ rfl (mkFr 8 (f : Int) S false) ON.out _ (by rfl) (by rfl) (by rfl) ?_; rw [HZ1.out]; generalize wr.alloc (.cells (mkFr 8 (f : Int) S false).cells 35) = W2 at *)
            | (refine wpList_load_row rfl 35 _ rfl (w.heap.size + 1) rfl 35 _ (0, 0) _ FI.out.1 Try.underlying35 rfl (size35 _) ?_) | (refine wpList_store_row rfl 35 _ _ rfl w.heap.size _ rfl rfl 35 _ FI.out.2.1 (size35 _) rfl (one35 _ _ _ _) ?_))
          refine bodyPost_ret (v := (mkFr 8 (f : Int) S false).val) (results_cell_row rfl _ _ w.heap.size 35 _ (0, 0) _ rfl (setRow_heap _ _ _ _ 35 _ FI.out.2.1) Try.underlying35 rfl (size35 _)) rfl ⟨by rw [HRES.out, HFT.out], FI.out.2.2.1.setRow _ _ (Nat.le_refl _), ?_⟩
          rw [HXF.out HFT.out]
          exact ⟨_, _, (FI.out.2.2.2.far (fun j hj => setRow_other _ _ j _ (by have := HFAR.out j hj; omega))).ext (fun j hj => .inl hj)⟩
        · have hb : ((k : Int) == (A.size : Int)) = false := by rw [beq_eq_false_iff_ne]; omega
          have hb2 : ¬ (k : Int) = (A.size : Int) := by omega
          clear ho
          go_wp2_with (first
            | (have T0 := T1.out; clear T0 T1; refine wpList_store_new rfl _ _ rfl (mkFr 8 (f : Int) S false) ON.out _ (by rfl) (by rfl) (by rfl) ?_; rw [HZ1.out]; generalize wr.alloc (.cells (mkFr 8 (f : Int) S false).cells 35) = W2 at *)
            | (refine wpList_load_row rfl 35 _ rfl (w.heap.size + 1) rfl 35 _ (0, 0) _ FI.out.1 Try.underlying35 rfl (size35 _) ?_) | (refine wpList_store_row rfl 35 _ _ rfl w.heap.size _ rfl rfl 35 _ FI.out.2.1 (size35 _) rfl (one35 _ _ _ _) ?_))
          refine bodyPost_ret (v := (mkFr 8 (f : Int) S false).val) (results_cell_row rfl _ _ w.heap.size 35 _ (0, 0) _ rfl (setRow_heap _ _ _ _ 35 _ FI.out.2.1) Try.underlying35 rfl (size35 _)) rfl ⟨by rw [HRES.out, HFT.out], FI.out.2.2.1.setRow _ _ (Nat.le_refl _), ?_⟩
          rw [HXF.out HFT.out]
          exact ⟨_, _, (FI.out.2.2.2.far (fun j hj => setRow_other _ _ j _ (by have := HFAR.out j hj; omega))).ext (fun j hj => .inl hj)⟩
        · have hb1 : (ed == 0) = false := by simp [ho1]
          have hb2 : (ed == 2) = false := by simp [ho2]
          clear ho1 ho2
          go_wp2_with (first
            | (have T0 := T1.out; clear T0 T1; refine wpList_store_new rfl _ _ rfl (mkFr 8 (f : Int) S false) ON.out _ (by rfl) (by rfl) (by rfl) ?_; rw [HZ1.out]; generalize wr.alloc (.cells (mkFr 8 (f : Int) S false).cells 35) = W2 at *)
            | (refine wpList_load_row rfl 35 _ rfl (w.heap.size + 1) rfl 35 _ (0, 0) _ FI.out.1 Try.underlying35 rfl (size35 _) ?_) | (refine wpList_store_row rfl 35 _ _ rfl w.heap.size _ rfl rfl 35 _ FI.out.2.1 (size35 _) rfl (one35 _ _ _ _) ?_))
          refine bodyPost_ret (v := (mkFr 8 (f : Int) S false).val) (results_cell_row rfl _ _ w.heap.size 35 _ (0, 0) _ rfl (setRow_heap _ _ _ _ 35 _ FI.out.2.1) Try.underlying35 rfl (size35 _)) rfl ⟨by rw [HRES.out, HFT.out], FI.out.2.2.1.setRow _ _ (Nat.le_refl _), ?_⟩
          rw [HXF.out HFT.out]
          exact ⟨_, _, (FI.out.2.2.2.far (fun j hj => setRow_other _ _ j _ (by have := HFAR.out j hj; omega))).ext (fun j hj => .inl hj)⟩
end Go.Proofs.Ytmjekepiplibkaa
