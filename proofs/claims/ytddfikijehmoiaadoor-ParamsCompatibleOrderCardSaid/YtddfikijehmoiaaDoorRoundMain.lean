/- Law 20: ParamsRoundTrip's walk. -/
import Derived.Test.YtddfikijehmoiaaDoorQ
namespace Go.Proofs.YtddfikijehmoiaaDoor
open Go.RowKit
theorem kenc (p : Pm) (hv : vldP p = true) (ad : Addr) (w : World) (h : Laid ad w) : Calls Tryd.prog 10 #[.agg p.cells] w (LB (.tuple #[.string (encS p), .int .i64 0]) ad w) := by
  have := encode_any p ad w h
  rw [if_pos hv] at this
  exact this.mono fun e w' ⟨a, b⟩ => ⟨a, b, h.below b⟩
theorem kdec (s : ByteArray) (hs : s.size ≤ maxLen) (r : Value) (hr : decE s = r) (ad : Addr) (w : World) (h : Laid ad w) : Calls Tryd.prog 11 #[.string s] w (LB r ad w) :=
  (decode_par s ad w hs h).mono fun e w' ⟨a, b⟩ => ⟨a.trans (by rw [hr]), b, h.below b⟩
theorem kfrom (p : Pm) (hp : p.ok) (ad : Addr) (w : World) (h : Laid ad w) : Calls Tryd.prog 9 #[.agg p.cells] w (LB (.agg (fromP p).cells) ad w) :=
  (from_any p w hp).mono fun _e _w' ⟨a, b⟩ => ⟨a, b, h.below b⟩
theorem empty_iff (s : ByteArray) (h : 0 < s.size) : s.toList.isEmpty = false := by
  rw [Go.ByteArray.toList_eq]
  cases hd : s.data.toList with
  | nil =>
    have h1 : s.data.toList.length = s.size := by simp
    rw [hd] at h1
    simp at h1
    omega
  | cons a l => rfl
namespace paramsRoundTrip
set_option maxRecDepth 100000 in
set_option maxHeartbeats 4000000 in
theorem walk (p : Pm) (hp : p.ok) (n : Int) (hn1 : -9223372036854775808 ≤ n) (hn2 : n ≤ 9223372036854775807) (more : ByteArray) (hm : more.size ≤ 140737488351232) (ad : Addr) (w : World) (h : Laid ad w) :
    Calls Tryd.prog 3 #[.agg p.cells, .int .i64 n, .string more] w (LB (.bool true) ad w) := by
  have P0 := Lib.hid (heap_alloc_new w (.cells p.cells 23))
  have L0 := Lib.hid (h.alloc (.cells p.cells 23))
  have B0 := Lib.hid ((Below.refl _ w).alloc (Nat.le_refl _) (.cells p.cells 23))
  have HF := Lib.hid (fun w h => kfrom p hp ad w h)
  have hv := fromP_valid p
  generalize fromP p = X at *
  have HE := Lib.hid (fun w h => kenc X hv ad w h)
  have hSp := encS_pos X hv
  have hSl := encS_le X
  have HD1 := Lib.hid (fun w h => kdec (encS X) (by unfold maxLen; omega) _ (decE_some (dec_whole X hv)) ad w h)
  have hpk := pickF_range n (encS X).size (by omega)
  have HPK := Lib.hid (fun w => pick_any n (encS X).size w hn1 hn2 (by omega) (by omega))
  have HD2 := Lib.hid (fun k (hk : k < (encS X).size) w h => kdec ((encS X).extract 0 k) (by rw [ByteArray.size_extract]; unfold maxLen; omega) _ (decE_none (dec_prefix X hv k hk)) ad w h)
  have HD3 := Lib.hid (fun (t : ByteArray) (ht : 0 < t.size) (ht2 : t.size ≤ 100) w h => kdec (encS X ++ t) (by rw [ByteArray.size_append]; unfold maxLen; omega) _ (decE_none (dec_ext X hv t ht)) ad w h)
  have HS := Lib.hid (empty_iff (encS X) hSp)
  generalize encS X = S at *
  generalize pickF n S.size = k at *
  obtain ⟨j, rfl⟩ := Int.eq_ofNat_of_zero_le hpk.1
  clear h hv hp
  unfold Pm.cells at *
  go_enter Tryd.func3, Tryd.ntmps3
  go_wp2_with fail
  refine (sane_any ad _ L0.out).mono ?_
  rintro e w1 ⟨rfl, hb, hl⟩
  obtain ⟨a0, a1, a2, a3, a4, a5⟩ := box6 (p := p) (heap_below hb P0.out)
  have B1 := Lib.hid (btrans B0.out hb)
  have L1 := Lib.hid hl
  clear hb hl B0 P0 L0
  go_wp2_with fail
  refine (HF.out _ L1.out).mono ?_
  rintro e w2 ⟨rfl, hb, hl⟩
  have B2 := Lib.hid (btrans B1.out hb)
  have L2 := Lib.hid hl
  clear a0 a1 a2 a3 a4 a5 hb hl
  go_wp2_with fail
  have L3 := Lib.hid (L2.out.alloc (.cells X.cells 23))
  have P3 := Lib.hid (heap_alloc_new w2 (.cells X.cells 23))
  have B3 := Lib.hid (B2.out.alloc B2.out.size (.cells X.cells 23))
  refine (HE.out _ L3.out).mono ?_
  rintro e w3 ⟨rfl, hb, hl⟩
  have hz2 := heap_lt (heap_below hb P3.out)
  have P4 := Lib.hid (heap_below hb P3.out)
  have B4 := Lib.hid (btrans B3.out hb)
  have L4 := Lib.hid hl
  have hS1 := HS.out
  clear hb hl B1 B2 B3 L1 L2 L3 P3
  go_wp2_with fail
  refine (HD1.out _ L4.out).mono ?_
  rintro e w4 ⟨rfl, hb, hl⟩
  have P5 := Lib.hid ((Below.heap_alloc w4 (.cells X.cells 23) _ (heap_lt (heap_below hb P4.out))).trans (heap_below hb P4.out))
  have Q5 := Lib.hid (heap_alloc_new w4 (.cells X.cells 23))
  have B5 := Lib.hid ((btrans B4.out hb).alloc (btrans B4.out hb).size (.cells X.cells 23))
  have L5 := Lib.hid (hl.alloc (.cells X.cells 23))
  clear hb hl B4 L4 P4
  go_wp2_with fail
  refine (HPK.out _).mono ?_
  rintro e w' ⟨rfl, rfl⟩
  have hj : j < S.size := by omega
  go_wp2_with fail
  refine (HD2.out j hj _ L5.out).mono ?_
  rintro e w5 ⟨rfl, hb, hl⟩
  have P6 := Lib.hid ((Below.heap_alloc w5 (.cells (pmOf []).cells 23) _ (heap_lt (heap_below hb P5.out))).trans (heap_below hb P5.out))
  have Q6 := Lib.hid ((Below.heap_alloc w5 (.cells (pmOf []).cells 23) _ (heap_lt (heap_below hb Q5.out))).trans (heap_below hb Q5.out))
  have B6 := Lib.hid ((btrans B5.out hb).alloc (btrans B5.out hb).size (.cells (pmOf []).cells 23))
  have L6 := Lib.hid (hl.alloc (.cells (pmOf []).cells 23))
  clear hb hl B5 L5 P5 Q5
  by_cases hmm : more.size ≤ 20
  · have hmi : ((more.size : Int)) ≤ 20 := by omega
    have hk := HD3.out ((more ++ { data := #[0] }).extract 0 (1 + (more.size : Int)).toNat) (by rw [ByteArray.size_extract, ByteArray.size_append, show (ByteArray.size { data := #[0] }) = 1 from rfl]; omega) (by rw [ByteArray.size_extract, ByteArray.size_append, show (ByteArray.size { data := #[0] }) = 1 from rfl]; omega) _ L6.out
    go_wp2_with fail
    refine hk.mono ?_
    rintro e w6 ⟨rfl, hb, hl⟩
    obtain ⟨a0, a1, a2, a3, a4, a5⟩ := box6 (p := X) (heap_below hb P6.out)
    obtain ⟨b0, b1, b2, b3, b4, b5⟩ := box6 (p := X) (heap_below hb Q6.out)
    have hq1 : w2.heap.size < w6.heap.size := heap_lt (heap_below hb P6.out)
    have hq2 : w4.heap.size < w6.heap.size := heap_lt (heap_below hb Q6.out)
    have hq3 : ¬ w2.heap.size = w6.heap.size := Nat.ne_of_lt hq1
    have hq4 : ¬ w4.heap.size = w6.heap.size := Nat.ne_of_lt hq2
    have B7 := Lib.hid ((btrans B6.out hb).alloc (btrans B6.out hb).size (.cells (pmOf []).cells 23))
    have L7 := Lib.hid (hl.alloc (.cells (pmOf []).cells 23))
    clear hb hl
    go_wp2_with fail
    go_ret
    exact ⟨rfl, B7.out, L7.out⟩
  · have hmi : ¬ ((more.size : Int)) ≤ 20 := by omega
    have hk := HD3.out ((more ++ { data := #[0] }).extract 0 21) (by rw [ByteArray.size_extract, ByteArray.size_append, show (ByteArray.size { data := #[0] }) = 1 from rfl]; omega) (by rw [ByteArray.size_extract, ByteArray.size_append, show (ByteArray.size { data := #[0] }) = 1 from rfl]; omega) _ L6.out
    go_wp2_with fail
    refine hk.mono ?_
    rintro e w6 ⟨rfl, hb, hl⟩
    obtain ⟨a0, a1, a2, a3, a4, a5⟩ := box6 (p := X) (heap_below hb P6.out)
    obtain ⟨b0, b1, b2, b3, b4, b5⟩ := box6 (p := X) (heap_below hb Q6.out)
    have hq1 : w2.heap.size < w6.heap.size := heap_lt (heap_below hb P6.out)
    have hq2 : w4.heap.size < w6.heap.size := heap_lt (heap_below hb Q6.out)
    have hq3 : ¬ w2.heap.size = w6.heap.size := Nat.ne_of_lt hq1
    have hq4 : ¬ w4.heap.size = w6.heap.size := Nat.ne_of_lt hq2
    have B7 := Lib.hid ((btrans B6.out hb).alloc (btrans B6.out hb).size (.cells (pmOf []).cells 23))
    have L7 := Lib.hid (hl.alloc (.cells (pmOf []).cells 23))
    clear hb hl
    go_wp2_with fail
    go_ret
    exact ⟨rfl, B7.out, L7.out⟩
end paramsRoundTrip
end Go.Proofs.YtddfikijehmoiaaDoor
