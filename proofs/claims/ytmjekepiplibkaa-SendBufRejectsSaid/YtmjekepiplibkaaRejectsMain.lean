import Derived.Test.YtmjekepiplibkaaRej
import Derived.Test.YtmjekepiplibkaaS
import Derived.Deep.DeepCutAuto
import Derived.Deep.CutBlock
namespace Go.Proofs.Ytmjekepiplibkaa.sendBufRejects
open Go.RowKit Go.WideShapes Go.ChangeShapes
theorem stream80 (w : World) : Calls Try.prog 10 #[.int .i64 80] w fun e w' => e = .returned (.string (strOfNums (streamRow 80 80))) ∧ Below w.heap.size w w' := stream_any 80 w (by decide)
set_option maxRecDepth 100000 in
set_option maxHeartbeats 8000000 in
theorem walk (many which n : Int) (w : World) (hm : -9223372036854775808 ≤ many ∧ many ≤ 9223372036854775807) (hw : -9223372036854775808 ≤ which ∧ which ≤ 9223372036854775807) (hn : -9223372036854775808 ≤ n ∧ n ≤ 9223372036854775807) :
    Calls Try.prog 7 #[.int .i64 many, .int .i64 which, .int .i64 n] w fun e w' => e = .returned (.bool true) ∧ Below w.heap.size w w' := by
  have PM := Lib.hid (fun (wx : World) => pick_any many 50 wx hm.1 hm.2 (by decide) (by decide))
  have PW := Lib.hid (fun (wx : World) => pick_any which 5 wx hw.1 hw.2 (by decide) (by decide))
  have PN := Lib.hid (fun (wx : World) => pick_any n 1000 wx hn.1 hn.2 (by decide) (by decide))
  have r1 := pickF_range many 50 (by decide)
  have r2 := pickF_range which 5 (by decide)
  have r3 := pickF_range n 1000 (by decide)
  generalize pickF many 50 = p at *
  generalize pickF which 5 = q at *
  generalize pickF n 1000 = r at *
  clear hm hw hn
  obtain ⟨k, rfl⟩ : ∃ k : Nat, p = k := ⟨p.toNat, by omega⟩
  have hk : k < 50 := by omega
  have hk2 : k + 1 ≤ 50 := by omega
  have S80 := Lib.hid (fun (wx : World) => stream80 wx)
  have NW := Lib.hid (fun (wx : World) (hB : Below w.heap.size w wx) => (new_ok 100 wx (by decide) (by decide)).mono (R' := fun e w' => e = .returned (.tuple #[.pointer (some ⟨wx.heap.size, 0, none⟩), .int .i64 0]) ∧ St w w' wx.heap.size (fun k => k = wx.heap.size) (newX 100).buf []) (fun e w' hh => ⟨hh.1, by rw [hh.2]; exact st_new 100 w wx hB⟩))
  have WR := Lib.hid (fun (wx : World) (b : Nat) (F : Nat → Prop) (fs : List (Nat × Fr)) (h : St w wx b F (newX 100).buf fs) => (wh_write h (newX_ok 100 (by decide) (by decide)) (strOfNums (streamRow 80 80)) (by rw [strOfNums_size, streamRow_length]; decide)).mono (R' := fun e w' => e = .returned (.int .i64 80) ∧ ∃ F', St w w' b F' (flX 100 80 0).buf fs) (fun e w' hh => by rw [show ((100 : Int)) = ((100 : Nat) : Int) from rfl, start_eq, start_writeN] at hh; exact hh))
  have o0 : (flX 100 80 0).Ok := fl_ok (by decide) (by decide) (by decide)
  have o2 : (flX 100 80 (k + 1)).Ok := fl_ok (by omega) (by decide) (by decide)
  have NX := Lib.hid (fun (wx : World) (b : Nat) (F : Nat → Prop) (fs : List (Nat × Fr)) (h : St w wx b F (flX 100 80 0).buf fs) => (wh_next h o0 (1 + (k : Int)) (1 + (k : Int))).mono (R' := fun e w' => ∃ V, Hid (V = .agg (rejF (k + 1)).cells) ∧ e = .returned (.tuple #[V, .bool true]) ∧ ∃ F', St w w' b F' (flX 100 80 (k + 1)).buf fs) (fun e w' hh => by
    rw [show (1 + (k : Int)) = ((k + 1 : Nat) : Int) by omega, rej_next (by omega) hk2, rej_X hk2, rej_R] at hh; exact ⟨_, Lib.hid rfl, hh⟩))
  have BA := Lib.hid (fun (wx : World) (b : Nat) (F : Nat → Prop) (fs : List (Nat × Fr)) (f : Fr) (hf : (flX 100 80 (k + 1)).fits f = false) (h : St w wx b F (flX 100 80 (k + 1)).buf fs) => (wh_acked h o2 f).mono (R' := fun e w' => e = .returned (.int .i64 170) ∧ ∃ F', St w w' b F' (flX 100 80 (k + 1)).buf fs) (fun e w' hh => by
    unfold Wh.err Wh.acked at hh; rw [hf] at hh; exact hh))
  have BL := Lib.hid (fun (wx : World) (b : Nat) (F : Nat → Prop) (fs : List (Nat × Fr)) (f : Fr) (hf : (flX 100 80 (k + 1)).fits f = false) (h : St w wx b F (flX 100 80 (k + 1)).buf fs) => (wh_lost h o2 f).mono (R' := fun e w' => e = .returned (.int .i64 170) ∧ ∃ F', St w w' b F' (flX 100 80 (k + 1)).buf fs) (fun e w' hh => by
    unfold Wh.err Wh.lost at hh; rw [hf] at hh; exact hh))
  have NO := Lib.hid (fun (wx : World) (b : Nat) (F : Nat → Prop) (fs : List (Nat × Fr)) (h : St w wx b F (flX 100 80 (k + 1)).buf fs) => (wh_next h o2 10 0).mono (R' := fun e w' => ∃ V, Hid (V = .agg fr0.cells) ∧ e = .returned (.tuple #[V, .bool false]) ∧ ∃ F', St w w' b F' (flX 100 80 (k + 1)).buf fs) (fun e w' hh => by
    rw [rej_again hk2] at hh; exact ⟨_, Lib.hid rfl, hh⟩))
  have SP := Lib.hid (fun (wx : World) (b : Nat) (F : Nat → Prop) (fs : List (Nat × Fr)) (h : St w wx b F (flX 100 80 (k + 1)).buf fs) => (wh_space h o2).mono (R' := fun e w' => e = .returned (.int .i64 20) ∧ ∃ F', St w w' b F' (flX 100 80 (k + 1)).buf fs) (fun e w' hh => by
    rw [fl_space] at hh; exact hh))
  have SE := Lib.hid (fun (wx : World) (b : Nat) (F : Nat → Prop) (fs : List (Nat × Fr)) (h : St w wx b F (flX 100 80 (k + 1)).buf fs) => (wh_sent h).mono (R' := fun e w' => e = .returned (.int .i64 (1 + (k : Int))) ∧ wx = w') (fun e w' hh => by
    rw [fl_sent (by omega)] at hh; exact ⟨by rw [hh.1]; congr 2; omega, hh.2⟩))
  have AO := Lib.hid (fun (wx : World) (b : Nat) (F : Nat → Prop) (fs : List (Nat × Fr)) (h : St w wx b F (flX 100 80 (k + 1)).buf fs) => (wh_acked h o2 (rejF (k + 1))).mono (R' := fun e w' => e = .returned (.int .i64 0) ∧ ∃ F', St w w' b F' ((flX 100 80 (k + 1)).acked (rejF (k + 1))).buf fs) (fun e w' hh => by
    rw [show (flX 100 80 (k + 1)).err (rejF (k + 1)) = 0 from by unfold Wh.err; rw [rej_ok hk2]; rfl] at hh; exact hh))
  have SQ := Lib.hid (fun (wx : World) (b : Nat) (F : Nat → Prop) (fs : List (Nat × Fr)) (h : St w wx b F ((flX 100 80 (k + 1)).acked (rejF (k + 1))).buf fs) => (wh_space h (o2.acked _)).mono (R' := fun e w' => e = .returned (.int .i64 (20 + (1 + (k : Int)))) ∧ ∃ F', St w w' b F' ((flX 100 80 (k + 1)).acked (rejF (k + 1))).buf fs) (fun e w' hh => by
    rw [rej_space (by omega) hk2] at hh; exact ⟨by rw [hh.1]; congr 2; omega, hh.2⟩))
  have BAD := Lib.hid (fun (f : Fr) (h : f.ty ≠ 8 ∨ f.off < 0 ∨ ((k + 1 : Nat) : Int) - f.off < f.s.size ∨ f.fin = true) => rej_bad hk2 h)
  have ZE := rej_size hk2
  have OZ : Hid (fr0.cells.all (·.oneCell') = true) := Lib.hid (one35 _ _ _ _)
  have OF : Hid ((rejF (k + 1)).cells.all (·.oneCell') = true) := Lib.hid (one35 _ _ _ _)
  have EO : Hid ((rejF (k + 1)).off = 0) := Lib.hid rfl
  generalize rejF (k + 1) = f at *
  generalize (newX 100).buf = B0 at *
  generalize (flX 100 80 0).buf = B1 at *
  generalize ((flX 100 80 (k + 1)).acked f).buf = B3 at *
  generalize (flX 100 80 (k + 1)).buf = B2 at *
  clear o0 o2
  have ZH := Lib.hid ZE
  clear ZE
  have T1 : Hid (1 = 1) := Lib.hid rfl
  have T2 : Hid (1 = 1) := Lib.hid rfl
  have T3 : Hid (1 = 1) := Lib.hid rfl
  have T4 : Hid (1 = 1) := Lib.hid rfl
  have T5 : Hid (1 = 1) := Lib.hid rfl
  have T6 : Hid (1 = 1) := Lib.hid rfl
  have T7 : Hid (1 = 1) := Lib.hid rfl
  have T8 : Hid (1 = 1) := Lib.hid rfl
  go_enter Try.func7, Try.ntmps7
  go_upto_block 0 with (first
    | (go_at_call 9; refine (sane_any _).mono ?_; rintro e w1 ⟨rfl, HB2⟩; have HB := Lib.hid HB2; clear HB2)
    | (go_at_call 12; refine (NW.out _ HB.out).mono ?_; rintro e wn ⟨rfl, H2⟩; have H := Lib.hid H2; clear H2)
    | (go_at_call 11; have T0 := T1.out; clear T0 T1; refine (PM.out _).mono ?_; rintro e wm ⟨rfl, rfl⟩)
    | (go_at_call 10; refine (S80.out _).mono ?_; rintro e wk ⟨rfl, HK⟩; have H2 := H.out.same HK; clear H HK; have H := Lib.hid H2; clear H2)
    | (go_at_call 14; refine (WR.out _ _ _ _ H.out).mono ?_; rintro e wk ⟨rfl, F2, H2⟩; clear H; have H := Lib.hid H2; clear H2)
    | (go_at_call 16; refine (NX.out _ _ _ _ H.out).mono ?_; rintro e wk ⟨V, HV, rfl, F2, H2⟩; clear H; have H := Lib.hid H2; clear H2)
    | (have T0 := T2.out; clear T0 T2; refine wpList_store_row rfl 35 _ _ rfl _ f.cells rfl HV.out 35 _ (heap_alloc_new _ _) (size35 _) rfl OF.out ?_; rw [World.setRow_alloc_new]; have H2 := H.out.frame f; clear H HV; have H := Lib.hid H2; clear H2; have hz1 : Hid (wk.heap.size < (wk.alloc (.cells f.cells 35)).heap.size) := Lib.hid (by simp); generalize wk.alloc (.cells f.cells 35) = wq at H hz1 ⊢)
    | (refine wpList_load_row rfl 35 _ rfl wk.heap.size rfl 35 f.cells (0, 0) _ (H.out.far (wk.heap.size, f) (by simp)).1 Try.underlying35 rfl (size35 f) ?_)
    | (have T0 := T3.out; clear T0 T3; refine wpList_store_row rfl 35 _ _ rfl _ f.cells rfl rfl 35 _ (heap_alloc_new _ _) (size35 _) rfl OF.out ?_; rw [World.setRow_alloc_new]; have hWq := Lib.hid H.out.below.size; have H2 := H.out.frame f; clear H; have H := Lib.hid H2; clear H2; generalize wq.alloc (.cells f.cells 35) = wr at H ⊢)
    | (go_at_call 11; have T0 := T4.out; clear T0 T4; refine (PW.out _).mono ?_; rintro e wm ⟨rfl, rfl⟩))
  have D := Boxed.of (H.out.far (wq.heap.size, f) (by simp)).1
  have hfz : ∀ j, wr.frozen? ⟨wq.heap.size, j, none⟩ = false := frozen_whole (H.out.far (wq.heap.size, f) (by simp)).1
  go_cut [10] from 39 to 63 (fun s wx => s = .int .i64 (1 + (k : Int)) ∧ ∃ bad : Fr, (flX 100 80 (k + 1)).fits bad = false ∧ Hid (St w wx w1.heap.size F2 B2 [(wq.heap.size, bad), (wk.heap.size, f)]))
  case first =>
    obtain ⟨e0, e2, e3, e4⟩ := D
    have HN : ∀ p ∈ [(wk.heap.size, f)], p.1 ≠ wq.heap.size := fun p hp => by have := hz1.out; simp only [List.mem_singleton] at hp; subst hp; show wk.heap.size ≠ _; omega
    have HN := Lib.hid HN
    have hzb : f.s.size ≤ 50 := by have := ZH.out; omega
    have hcs : q = 0 ∨ q = 1 ∨ q = 2 ∨ q = 3 ∨ q = 4 := by omega
    rcases hcs with rfl | rfl | rfl | rfl | rfl
    all_goals
      go_wp2_with (go_at_call 11; refine (PN.out _).mono ?_; rintro e wm ⟨rfl, rfl⟩)
    · go_meet
      exact ⟨rfl, { f with s := f.s ++ ⟨#[120]⟩ }, BAD.out _ (.inr (.inr (.inl (by
        show ((k + 1 : Nat) : Int) - f.off < ((f.s ++ ⟨#[120]⟩ : ByteArray).size : Int)
        rw [ByteArray.size_append, EO.out, ZH.out]; show _ < ((k + 1 + 1 : Nat) : Int); omega)))), Lib.hid (H.out.setFr (f' := { f with s := f.s ++ ⟨#[120]⟩ }) 3 (.string (f.s ++ ⟨#[120]⟩)) rfl hWq.out HN.out)⟩
    · go_meet
      exact ⟨rfl, { f with fin := true }, BAD.out _ (.inr (.inr (.inr rfl))), Lib.hid (H.out.setFr (f' := { f with fin := true }) 4 (.bool true) rfl hWq.out HN.out)⟩
    · go_meet
      exact ⟨rfl, { f with ty := 6 }, BAD.out _ (.inl (show (6 : Int) ≠ 8 by decide)), Lib.hid (H.out.setFr (f' := { f with ty := 6 }) 0 (.int .i64 6) rfl hWq.out HN.out)⟩
    · go_meet
      exact ⟨rfl, { f with off := -1 - r }, BAD.out _ (.inr (.inl (show -1 - r < 0 by omega))), Lib.hid (H.out.setFr (f' := { f with off := -1 - r }) 2 (.int .i64 (-1 - r)) rfl hWq.out HN.out)⟩
    · go_meet
      exact ⟨rfl, { f with off := 1 + (k : Int) + 1 + r, s := ⟨#[]⟩ }, BAD.out _ (.inr (.inr (.inl (show ((k + 1 : Nat) : Int) - (1 + (k : Int) + 1 + r) < ((0 : Nat) : Int) by omega)))), Lib.hid ((H.out.setFr (f' := { f with off := 1 + (k : Int) + 1 + r }) 2 (.int .i64 (1 + (k : Int) + 1 + r)) rfl hWq.out HN.out).setFr (f' := { f with off := 1 + (k : Int) + 1 + r, s := ⟨#[]⟩ }) 3 (.string ⟨#[]⟩) rfl hWq.out HN.out)⟩
  case rest =>
    obtain ⟨rfl, bad, hb, H⟩ := hcut
    clear D hfz
    have Hb := Lib.hid hb
    clear hb
    have hZ : (f.s.size : Int) = 1 + k := by have := ZH.out; omega
    go_wp2_with (first
      | (go_at_call 18; have T0 := T5.out; clear T0 T5; refine (BA.out _ _ _ _ _ Hb.out H.out).mono ?_; rintro e wa ⟨rfl, F3, H2⟩; clear H; have H := Lib.hid H2; clear H2)
      | (refine wpList_load_row rfl 35 _ rfl wq.heap.size rfl 35 bad.cells (0, 0) _ (H.out.far (wq.heap.size, bad) (by simp)).1 Try.underlying35 rfl (size35 bad) ?_)
      | (go_at_call 17; refine (BL.out _ _ _ _ _ Hb.out H.out).mono ?_; rintro e wl ⟨rfl, F3, H2⟩; clear H; have H := Lib.hid H2; clear H2)
      | (go_at_call 16; refine (NO.out _ _ _ _ H.out).mono ?_; rintro e wn ⟨V, HV, rfl, F2, H2⟩; clear H; have H := Lib.hid H2; clear H2)
      | (have T0 := T6.out; clear T0 T6; refine wpList_store_row rfl 35 _ _ rfl _ fr0.cells rfl HV.out 35 _ (heap_alloc_new _ _) (size35 _) rfl OZ.out ?_; rw [World.setRow_alloc_new]; have H2 := H.out.frame fr0; clear H HV; have H := Lib.hid H2; clear H2; generalize wn.alloc (.cells fr0.cells 35) = wo at H ⊢; have D3 := (Boxed.of (H.out.far (wk.heap.size, f) (by simp)).1).d3)
      | (go_at_call 19; have T0 := T7.out; clear T0 T7; refine (SP.out _ _ _ _ H.out).mono ?_; rintro e ws ⟨rfl, F3, H2⟩; clear H; have H := Lib.hid H2; clear H2)
      | (go_at_call 21; refine (SE.out _ _ _ _ H.out).mono ?_; rintro e wt ⟨rfl, rfl⟩)
      | (refine wpList_load_row_g rfl 35 _ rfl wk.heap.size rfl 35 f.cells (0, 0) _ (H.out.far (wk.heap.size, f) (by simp)).1 Try.underlying35 rfl (size35 f) ?_)
      | (go_at_call 18; refine (AO.out _ _ _ _ H.out).mono ?_; rintro e wa ⟨rfl, F3, H2⟩; clear H; have H := Lib.hid H2; clear H2)
      | (go_at_call 19; refine (SQ.out _ _ _ _ H.out).mono ?_; rintro e ws ⟨rfl, F3, H2⟩; clear H; have H := Lib.hid H2; clear H2))
    go_ret
    exact ⟨rfl, H.out.below⟩
theorem main {H : Type} {enc : TypeId × Value → H} (W : World) (base0 : Nat) (v0 : Value) (d0 : DataW H) (p0 : List MemPlace) (hv0 : Value.okWide Try.prog W .any base0 3 v0) (h0 : DataW.Trod enc Try.prog W 0 (fun _ => true) true 3 v0 d0 p0)
    (base1 : Nat) (v1 : Value) (d1 : DataW H) (p1 : List MemPlace) (hv1 : Value.okWide Try.prog W .any base1 3 v1) (h1 : DataW.Trod enc Try.prog W 0 (fun _ => true) true 3 v1 d1 p1)
    (base2 : Nat) (v2 : Value) (d2 : DataW H) (p2 : List MemPlace) (hv2 : Value.okWide Try.prog W .any base2 3 v2) (h2 : DataW.Trod enc Try.prog W 0 (fun _ => true) true 3 v2 d2 p2) :
    Calls Try.prog 7 #[v0, v1, v2] W fun e w' => e = .returned (.bool true) ∧ Below W.heap.size W w' := by
  obtain ⟨a0, rfl, _, _, w0⟩ := open_int Try.underlying3 hv0 h0
  obtain ⟨a1, rfl, _, _, w1⟩ := open_int Try.underlying3 hv1 h1
  obtain ⟨a2, rfl, _, _, w2⟩ := open_int Try.underlying3 hv2 h2
  exact walk a0 a1 a2 W (bounds_i64 w0) (bounds_i64 w1) (bounds_i64 w2)
end Go.Proofs.Ytmjekepiplibkaa.sendBufRejects
