/- Law 13: varint's bigEndian, collect and Encode. -/
import Derived.RangeFuncBox
import Derived.Maps.AppendAt
import Derived.Laws.BytesArg
import Derived.Test.YtafkndhnbnpahaaGreatF
import Derived.Test.YtafkndhnbnpahaaGreatA
import Derived.Test.YtafkndhnbnpahaaGreatB
namespace Go.Proofs.YtafkndhnbnpahaaGreat
open Go.RowKit Go.Shelf
attribute [local go_sem] Oper.semAt_some
theorem cell_alloc_l {W : World} {a : Addr} {v : Value} (o : Obj) (h : W.cell? a = some v) : (W.alloc o).cell? a = some v := cell_kept h (World.grownBy_alloc W o none) (fun r e => by cases e)
theorem be_any (N : Int) (k : Nat) (w : World) : Calls Tryz.prog 147 #[.int .u64 N, .int .i64 k] w fun e w' =>
    e = .returned (.func (.func 151) #[] #[.pointer (some ⟨w.heap.size + 1, 0, none⟩), .pointer (some ⟨w.heap.size, 0, none⟩)]) ∧ w' = (w.alloc (.cells #[.int .u64 N] 163)).alloc (.cells #[.int .i64 k] 3) := by
  go_enter Tryz.func147, Tryz.ntmps147
  go_wp2
  go_ret
  exact ⟨rfl, rfl⟩
theorem info5 : (Tryz.prog.info? 5).map (fun i => (i.zero, i.size, i.bytes)) = some (some (.int .u8 0), 1, 1) := by kernel_rfl
set_option maxRecDepth 100000 in
set_option maxHeartbeats 2000000 in
theorem collect_any (N : Int) (k : Nat) (w : World) (hk : k ≤ 8) (hN0 : 0 ≤ N) (hN1 : N < 18446744073709551616) (B1 B2 : Nat) (hp1 : B1 < w.heap.size) (hp2 : B2 < w.heap.size)
    (hB1 : w.cell? ⟨B1, 0, none⟩ = some (.int .i64 k)) (hB2 : w.cell? ⟨B2, 0, none⟩ = some (.int .u64 N)) :
    Calls Tryz.prog 146 #[.func (.func 151) #[] #[.pointer (some ⟨B1, 0, none⟩), .pointer (some ⟨B2, 0, none⟩)]] w fun e w' =>
      e = .returned (.string (strOfNums (beB k N))) ∧ Below w.heap.size w w' := by
  obtain ⟨i0, hi, hz0, hz1, hz2⟩ := info_parts info5
  refine (callsIn_wide (n := 4)).1 ?_
  refine callsIn_of_wp_marks Tryz.func146 rfl trivial ?_ rfl
  simp only [Tryz.ntmps146, List.size_toArray, List.length_cons, List.length_nil, Nat.reduceAdd, Nat.reduceSub, Array.replicate_succ, Array.replicate_zero, List.push_toArray, List.append_toArray, List.nil_append, List.cons_append]
  gi_wp2
  have bO := Boxed.new w 119 (.slice none 0 0)
  have hB0 : Below w.heap.size w (w.alloc (.cells #[.slice none 0 0] 119)) := (Below.refl _ w).alloc (Nat.le_refl _) _
  have hS := be_stops (4 - 1) (by decide) B1 B2 w.heap.size N k hk hN0 hN1 (w.alloc (.cells #[.slice none 0 0] 119)) (by simp) hp1 hp2 (cell_alloc_l _ hB1) (cell_alloc_l _ hB2)
  refine wpIn_rangeFunc_ownG rfl (by decide) (gf := 151) (lb := #[.pointer (some ⟨B1, 0, none⟩), .pointer (some ⟨B2, 0, none⟩)]) rfl trivial (enters_of Tryz.func151 (by kernel_rfl) rfl)
    hS belowK_t (belowK_b (by simp)) (Below.refl _ _) (fun _ => rfl)
    (fun (pre : List Int) W => (∃ v, Boxed W w.heap.size 119 v ∧ W.ownsRow w.heap.size 5 1 v pre.length (pre.map (Value.int .u8)) ∧ True) ∧ Below w.heap.size w W)
    (fun _ _ _ => False)
    (OwnFrom.and (Own.from (holdsRow_own w.heap.size w.heap.size 119 5 1 (fun (pre : List Int) => pre.length) (fun (pre : List Int) => pre.map (Value.int .u8)) (fun _ _ => True)) _) (ownFrom_below (Nat.le_refl _) (by simp)))
    (fun _ _ _ _ _ hs _ _ => hs)
    ⟨⟨_, bO, World.ownsRow_nil _ _ _ _, trivial⟩, hB0⟩
    (fun x => { tmps := #[Value.func (Fn.func 151) #[] #[Value.pointer (some { block := B1, off := 0 }), Value.pointer (some { block := B2, off := 0 })], undef, Value.string { data := #[] }, Value.pointer (some { block := w.heap.size, off := 0 }), .int .u8 x, Value.func (Fn.func 151) #[] #[Value.pointer (some { block := B1, off := 0 }), Value.pointer (some { block := B2, off := 0 })], .int .u8 x, undef, undef, undef, undef, undef, undef], defers := [] }) ?assign ?body ?done ?stop
  case assign =>
    intro l x W K hK
    simp only [encB]
    gi_wp2
    exact hK
  case body =>
    rintro l pre x W ⟨⟨v, hv, hrow, _⟩, hB⟩ hlt
    have hc := hv.cell
    gi_wp2_with (gi_at_builtin; refine wpListIn_append_own _ rfl _ _ 119 rfl w.heap.size 5 i0 (.int .u8 0) 1 1 Tryz.underlying119 hi hz0 hz1 hz2 rfl (by decide) _ _ _ rfl (hrow.alloc _) ⟨W.heap.size, 0, none⟩ 1 1 [.int .u8 x] rfl rfl (cell_one_new _ _ _) (by simp [Value.oneCell']) (by unfold maxLen; omega) (by omega) (by have := hB.size; simp; omega) ?_; intro v' w1 hown' hgrow _; obtain ⟨g', cap', rfl⟩ := ownsRow_succ hown'; obtain ⟨hv1, hv2, hr2, hk2, hb2⟩ := hv.appended (by decide) hrow hB.size (Nat.le_refl _) hown' hgrow; have hc1 := hv1.cell; have hf1 := hv1.frozen)
    exact ⟨hk2.from _, hb2, ⟨_, hv2, by simpa using hr2, trivial⟩, hB.trans hb2⟩
  case done =>
    rintro D ys W hD rfl ⟨⟨v, hv, hrow, _⟩, hB⟩ hK
    have hc := hv.cell
    have hsz := hB.size
    rw [beB_len] at hrow
    rcases hrow.2 with ⟨rfl, h0⟩ | ⟨g, cap, cur, rfl, hb, hg, hn, hm, hcs, htake⟩
    · subst h0
      have hcv := fun (w : World) => run_convert_bytes_nil (P := Tryz.prog) w 119 5 Tryz.underlying119 Tryz.underlying5 0 0 9 Tryz.underlying9
      gi_wp2
      refine ⟨by simp, .inl ⟨_, _, rfl, run_takeDeferred hK, ?_⟩⟩
      exact ⟨_, results_tmp rfl _ _ _, rfl, hB.trans (belowK_b (w := w) (Nat.le_refl _) W D _ _ (by simp at hD; omega) hK rfl rfl)⟩
    · have hcv := run_convert_bytes_arg (P := Tryz.prog) W 119 5 Tryz.underlying119 Tryz.underlying5 g 0 k cap (beB k N) (beB_len k N) (fun i hi => by
        have := hrow.cells (g := g) rfl i (.int .u8 ((beB k N).getD i 0)) (by rw [List.getElem?_map, List.getElem?_eq_getElem (by rw [beB_len]; exact hi)]; simp [List.getD, List.getElem?_eq_getElem (show i < (beB k N).length by rw [beB_len]; exact hi)])
        rw [add_plain] at this
        exact this) 9 Tryz.underlying9
      gi_wp2
      refine ⟨by simp, .inl ⟨_, _, rfl, run_takeDeferred hK, ?_⟩⟩
      exact ⟨_, results_tmp rfl _ _ _, rfl, hB.trans (belowK_b (w := w) (Nat.le_refl _) W D _ _ (by simp at hD; omega) hK rfl rfl)⟩
  case stop =>
    rintro D c pre W _ _ h _
    exact h.elim
theorem be_then (N : Int) (k : Nat) (w1 : World) (hk : k ≤ 8) (hN0 : 0 ≤ N) (hN1 : N < 18446744073709551616) :
    Calls Tryz.prog 146 #[.func (.func 151) #[] #[.pointer (some ⟨w1.heap.size + 1, 0, none⟩), .pointer (some ⟨w1.heap.size, 0, none⟩)]] ((w1.alloc (.cells #[.int .u64 N] 163)).alloc (.cells #[.int .i64 k] 3)) fun e w' =>
      e = .returned (.string (strOfNums (beB k N))) ∧ Below w1.heap.size w1 w' := by
  have c1 : ((w1.alloc (.cells #[.int .u64 N] 163)).alloc (.cells #[.int .i64 k] 3)).cell? ⟨w1.heap.size + 1, 0, none⟩ = some (.int .i64 k) := by
    have := (Boxed.new (w1.alloc (.cells #[.int .u64 N] 163)) 3 (.int .i64 k)).cell
    rwa [World.size_alloc] at this
  refine (collect_any N k _ hk hN0 hN1 (w1.heap.size + 1) w1.heap.size (by simp) (by simp; omega) c1 (cell_alloc_l _ (Boxed.new w1 163 _).cell)).mono ?_
  rintro e w' ⟨he, hb⟩
  exact ⟨he, (((Below.refl _ w1).alloc (Nat.le_refl _) _).alloc (by simp) _).trans (hb.mono (by simp; omega))⟩
theorem or_top (n C : Nat) (c i : Nat) (hC : C = c <<< i) (h : n < 2 ^ i) : n ||| C = n + C := by
  subst hC
  have := Nat.shiftLeft_add_eq_or_of_lt h c
  rw [Nat.or_comm, ← this, Nat.add_comm]
/-- varint's encoding -/
def encV (n : Int) : List Int := if cls n < 0 then [] else beB (2 ^ (cls n).toNat) (n + cls n * 2 ^ (8 * 2 ^ (cls n).toNat - 2))
theorem enc_no (n : Int) (w : World) (h : cls n < 0) : Calls Tryz.prog 136 #[.int .i64 n] w fun e w' => e = .returned (.tuple #[.string ⟨#[]⟩, .int .i64 10]) ∧ Below w.heap.size w w' := by
  have CL := Lib.hid (class_any n w)
  go_enter Tryz.func136, Tryz.ntmps136
  go_wp2_with (go_at_call 145; refine CL.out.mono ?_; rintro e w' ⟨rfl, hb⟩)
  go_ret2
  exact ⟨rfl, hb⟩
set_option maxRecDepth 100000 in
set_option maxHeartbeats 2000000 in
theorem enc_0 (n : Int) (w : World) (h : cls n = 0) (h0 : 0 ≤ n) (h1 : n ≤ 63) : Calls Tryz.prog 136 #[.int .i64 n] w fun e w' => e = .returned (.tuple #[.string (strOfNums (encV n)), .int .i64 0]) ∧ Below w.heap.size w w' := by
  have E : Hid (encV n = beB 1 (n + 0)) := Lib.hid (by unfold encV; rw [h]; rfl)
  have CL := Lib.hid (class_any n w)
  rw [h] at CL
  clear h
  have HO : bits .or .u64 n 0 = n + 0 := by
    obtain ⟨m, rfl⟩ := Int.eq_ofNat_of_zero_le h0
    have e := or_top m 0 0 6 (by decide) (by omega)
    rw [show ((0 : Int)) = ((0 : Nat) : Int) from rfl, u64_or_nat _ _ (by omega) (by omega), e]
    simp
  have BE := Lib.hid (be_any (bits .or .u64 n 0) 1)
  have CO := Lib.hid (fun w => be_then (bits .or .u64 n 0) 1 w (by decide) (by omega) (by omega))
  have HH := Lib.hid HO
  clear HO
  go_enter Tryz.func136, Tryz.ntmps136
  go_wp2_with (first | (go_at_call 145; refine CL.out.mono ?_; rintro e w1 ⟨rfl, hb⟩) | (go_at_call 147; refine (BE.out _).mono ?_; rintro e w2 ⟨rfl, rfl⟩) | (go_at_call 146; refine (CO.out _).mono ?_; rintro e w3 ⟨rfl, hb3⟩))
  go_ret2
  exact ⟨by rw [E.out, HH.out]; rfl, btrans hb hb3⟩
set_option maxRecDepth 100000 in
set_option maxHeartbeats 2000000 in
theorem enc_1 (n : Int) (w : World) (h : cls n = 1) (h0 : 0 ≤ n) (h1 : n ≤ 16383) : Calls Tryz.prog 136 #[.int .i64 n] w fun e w' => e = .returned (.tuple #[.string (strOfNums (encV n)), .int .i64 0]) ∧ Below w.heap.size w w' := by
  have E : Hid (encV n = beB 2 (n + 16384)) := Lib.hid (by unfold encV; rw [h]; rfl)
  have CL := Lib.hid (class_any n w)
  rw [h] at CL
  clear h
  have HO : bits .or .u64 n 16384 = n + 16384 := by
    obtain ⟨m, rfl⟩ := Int.eq_ofNat_of_zero_le h0
    have e := or_top m 16384 1 14 (by decide) (by omega)
    rw [show ((16384 : Int)) = ((16384 : Nat) : Int) from rfl, u64_or_nat _ _ (by omega) (by omega), e]
    simp
  have BE := Lib.hid (be_any (bits .or .u64 n 16384) 2)
  have CO := Lib.hid (fun w => be_then (bits .or .u64 n 16384) 2 w (by decide) (by omega) (by omega))
  have HH := Lib.hid HO
  clear HO
  go_enter Tryz.func136, Tryz.ntmps136
  go_wp2_with (first | (go_at_call 145; refine CL.out.mono ?_; rintro e w1 ⟨rfl, hb⟩) | (go_at_call 147; refine (BE.out _).mono ?_; rintro e w2 ⟨rfl, rfl⟩) | (go_at_call 146; refine (CO.out _).mono ?_; rintro e w3 ⟨rfl, hb3⟩))
  go_ret2
  exact ⟨by rw [E.out, HH.out]; rfl, btrans hb hb3⟩
set_option maxRecDepth 100000 in
set_option maxHeartbeats 2000000 in
theorem enc_2 (n : Int) (w : World) (h : cls n = 2) (h0 : 0 ≤ n) (h1 : n ≤ 1073741823) : Calls Tryz.prog 136 #[.int .i64 n] w fun e w' => e = .returned (.tuple #[.string (strOfNums (encV n)), .int .i64 0]) ∧ Below w.heap.size w w' := by
  have E : Hid (encV n = beB 4 (n + 2147483648)) := Lib.hid (by unfold encV; rw [h]; rfl)
  have CL := Lib.hid (class_any n w)
  rw [h] at CL
  clear h
  have HO : bits .or .u64 n 2147483648 = n + 2147483648 := by
    obtain ⟨m, rfl⟩ := Int.eq_ofNat_of_zero_le h0
    have e := or_top m 2147483648 2 30 (by decide) (by omega)
    rw [show ((2147483648 : Int)) = ((2147483648 : Nat) : Int) from rfl, u64_or_nat _ _ (by omega) (by omega), e]
    simp
  have BE := Lib.hid (be_any (bits .or .u64 n 2147483648) 4)
  have CO := Lib.hid (fun w => be_then (bits .or .u64 n 2147483648) 4 w (by decide) (by omega) (by omega))
  have HH := Lib.hid HO
  clear HO
  go_enter Tryz.func136, Tryz.ntmps136
  go_wp2_with (first | (go_at_call 145; refine CL.out.mono ?_; rintro e w1 ⟨rfl, hb⟩) | (go_at_call 147; refine (BE.out _).mono ?_; rintro e w2 ⟨rfl, rfl⟩) | (go_at_call 146; refine (CO.out _).mono ?_; rintro e w3 ⟨rfl, hb3⟩))
  go_ret2
  exact ⟨by rw [E.out, HH.out]; rfl, btrans hb hb3⟩
set_option maxRecDepth 100000 in
set_option maxHeartbeats 2000000 in
theorem enc_3 (n : Int) (w : World) (h : cls n = 3) (h0 : 0 ≤ n) (h1 : n ≤ 4611686018427387903) : Calls Tryz.prog 136 #[.int .i64 n] w fun e w' => e = .returned (.tuple #[.string (strOfNums (encV n)), .int .i64 0]) ∧ Below w.heap.size w w' := by
  have E : Hid (encV n = beB 8 (n + 13835058055282163712)) := Lib.hid (by unfold encV; rw [h]; rfl)
  have CL := Lib.hid (class_any n w)
  rw [h] at CL
  clear h
  have HO : bits .or .u64 n 13835058055282163712 = n + 13835058055282163712 := by
    obtain ⟨m, rfl⟩ := Int.eq_ofNat_of_zero_le h0
    have e := or_top m 13835058055282163712 3 62 (by decide) (by omega)
    rw [show ((13835058055282163712 : Int)) = ((13835058055282163712 : Nat) : Int) from rfl, u64_or_nat _ _ (by omega) (by omega), e]
    simp
  have BE := Lib.hid (be_any (bits .or .u64 n 13835058055282163712) 8)
  have CO := Lib.hid (fun w => be_then (bits .or .u64 n 13835058055282163712) 8 w (by decide) (by omega) (by omega))
  have HH := Lib.hid HO
  clear HO
  go_enter Tryz.func136, Tryz.ntmps136
  go_wp2_with (first | (go_at_call 145; refine CL.out.mono ?_; rintro e w1 ⟨rfl, hb⟩) | (go_at_call 147; refine (BE.out _).mono ?_; rintro e w2 ⟨rfl, rfl⟩) | (go_at_call 146; refine (CO.out _).mono ?_; rintro e w3 ⟨rfl, hb3⟩))
  go_ret2
  exact ⟨by rw [E.out, HH.out]; rfl, btrans hb hb3⟩
theorem enc_any (n : Int) (w : World) (h : 0 ≤ cls n) : Calls Tryz.prog 136 #[.int .i64 n] w fun e w' => e = .returned (.tuple #[.string (strOfNums (encV n)), .int .i64 0]) ∧ Below w.heap.size w w' := by
  by_cases h0 : n < 0
  · unfold cls at h; rw [if_pos h0] at h; omega
  by_cases h1 : n ≤ 63
  · exact enc_0 n w (by unfold cls; rw [if_neg h0, if_pos h1]) (by omega) h1
  by_cases h2 : n ≤ 16383
  · exact enc_1 n w (by unfold cls; rw [if_neg h0, if_neg h1, if_pos h2]) (by omega) h2
  by_cases h3 : n ≤ 1073741823
  · exact enc_2 n w (by unfold cls; rw [if_neg h0, if_neg h1, if_neg h2, if_pos h3]) (by omega) h3
  by_cases h4 : n ≤ 4611686018427387903
  · exact enc_3 n w (by unfold cls; rw [if_neg h0, if_neg h1, if_neg h2, if_neg h3, if_pos h4]) (by omega) h4
  · unfold cls at h; rw [if_neg h0, if_neg h1, if_neg h2, if_neg h3, if_neg h4] at h; omega
end Go.Proofs.YtafkndhnbnpahaaGreat
