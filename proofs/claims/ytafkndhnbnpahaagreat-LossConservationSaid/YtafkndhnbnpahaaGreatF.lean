/- Law 13: varint's bigEndian: its iterator's contract. -/
import Derived.RangeFuncNested
import Derived.RangeFuncBound
import Derived.RangeFuncCalls
import Derived.RangeFuncLeaves
import Derived.Shelf.Abstract
import Derived.Shelf.RegionOpen
import Derived.WalkKit
import Derived.OwnWalkIn
import Derived.TacticsInMore
import Derived.LoopNIn
import Derived.LoopIn
import Derived.Laws.EntriesVeiled
import Derived.Stop.RegionWithIn
import Derived.Test.YtafkndhnbnpahaaGreatObj
import Derived.Test.YtafkndhnbnpahaaGreatB
namespace Go.Proofs.YtafkndhnbnpahaaGreat
open Go.RowKit Go.Shelf
attribute [local go_sem] Oper.semAt_some
/-- the low w bytes of N, most significant first -/
def beB (w : Nat) (N : Int) : List Int := (List.range w).map fun j => N / 2 ^ (8 * (w - 1 - j)) % 256
theorem beB_len (w : Nat) (N : Int) : (beB w N).length = w := by simp [beB]
def encB (x : Int) : Array Value := #[.int .u8 x]
theorem beB_succ (w : Nat) (N : Int) (k : Nat) (h : k < w) : (beB w N).take (k + 1) = (beB w N).take k ++ [N / 2 ^ (8 * (w - 1 - k)) % 256] := by
  rw [List.take_succ_eq_append_getElem (by rw [beB_len]; exact h)]
  simp [beB]
set_option maxRecDepth 100000 in
set_option maxHeartbeats 2000000 in
theorem be_in (n : Nat) (hn : 1 ≤ n) (l B1 B2 n₀ : Nat) (N : Int) (w : Nat) (hw : w ≤ 8) (_hN0 : 0 ≤ N) (_hN1 : N < 18446744073709551616) (_hp1 : B1 < n₀) (hp2 : B2 < n₀) (J Jx : List Int → World → Prop) {m : Nat} (_hJA : AbidesFrom m J)
    (hY : ∀ pre x W, J pre W → pre.length < w → YieldAt Fence.wide (n - 1) Tryz.prog l (encB x) W fun e W' =>
      (e = .returned (.bool true) ∧ J (pre ++ [x]) W' ∧ Below n₀ W W') ∨ (e = .returned (.bool false) ∧ Jx (pre ++ [x]) W'))
    (W : World) (_hWn : n₀ ≤ W.heap.size) (hB1 : W.cell? ⟨B1, 0, none⟩ = some (.int .i64 w)) (hB2 : W.cell? ⟨B2, 0, none⟩ = some (.int .u64 N)) (h0 : J [] W) :
    CallsIn Fence.wide n Tryz.prog 151 #[.func (.yield l) #[] #[], .pointer (some ⟨B1, 0, none⟩), .pointer (some ⟨B2, 0, none⟩)] W fun e W' => (∃ v, e = .returned v) ∧
      ((∃ ys, ys = beB w N ∧ J ys W') ∨ (∃ pre, pre <+: beB w N ∧ Jx pre W')) := by
  refine callsIn_of_wp Tryz.func151 rfl trivial ?_ rfl
  simp only [Tryz.ntmps151, List.size_toArray, List.length_cons, List.length_nil, Nat.reduceAdd, Nat.reduceSub, Array.replicate_succ, Array.replicate_zero, List.push_toArray, List.append_toArray, List.nil_append, List.cons_append]
  gi_wp2
  gi_loopw [4] (fun i wr => ∃ k : Nat, k ≤ w ∧ i = .int .i64 ((w : Int) - 1 - (k : Int)) ∧ J ((beB w N).take k) wr ∧ Below n₀ W wr)
    (fun i _ => (intOf i + 1).toNat)
  case atStart => exact ⟨0, Nat.zero_le _, by simp, h0, Below.refl _ _⟩
  case round =>
    obtain ⟨k, hk, rfl, hJs, hnx⟩ := hrel
    by_cases hlt : k < w
    · have hlen : ((beB w N).take k).length < w := by rw [List.length_take, beB_len]; omega
      have hIS := Lib.hid (beB_succ w N k hlt)
      have hc2 : wr.cell? ⟨B2, 0, none⟩ = some (.int .u64 N) := by rw [hnx.cell (p := ⟨B2, 0, none⟩) hp2]; exact hB2
      have HNX := Lib.hid hnx
      have g1 : 0 ≤ (w : Int) - 1 - (k : Int) := by omega
      have g2 : (w : Int) - 1 - (k : Int) ≤ 7 := by omega
      obtain ⟨fn, tmps, assign, body, hy, hR⟩ := hY _ (N / 2 ^ (8 * (w - 1 - k)) % 256) wr hJs hlen
      simp only [encB] at hy
      clear hnx
      gi_wp2
      refine hR.mono ?_
      rintro e W3 (⟨rfl, hJ3, hk3⟩ | ⟨rfl, hJx3⟩)
      · gi_wp2
        go_roundw
        case rel => exact ⟨k + 1, by omega, by congr 1; omega, by rw [hIS.out]; exact hJ3, HNX.out.trans hk3⟩
        case measure => simp [intOf]; omega
      · gi_wp2
        refine bodyPost_ret (results_none rfl _ _ _) rfl ?_
        exact ⟨⟨_, rfl⟩, .inr ⟨_, by rw [← hIS.out]; exact List.take_prefix _ _, hJx3⟩⟩
    · obtain rfl : k = w := by omega
      clear hlt
      gi_wp2
      go_end0
      exact ⟨⟨_, rfl⟩, .inl ⟨_, by rw [List.take_of_length_le (by rw [beB_len]; exact Nat.le_refl _)], hJs⟩⟩
theorem be_stops (n : Nat) (hn : 1 ≤ n) (B1 B2 n₀ : Nat) (N : Int) (w : Nat) (hw : w ≤ 8) (hN0 : 0 ≤ N) (hN1 : N < 18446744073709551616) (W : World) (hn0 : n₀ ≤ W.heap.size) (hp1 : B1 < n₀) (hp2 : B2 < n₀)
    (hB1 : W.cell? ⟨B1, 0, none⟩ = some (.int .i64 w)) (hB2 : W.cell? ⟨B2, 0, none⟩ = some (.int .u64 N)) :
    SeqStopsK Fence.wide n Tryz.prog 151 #[.pointer (some ⟨B1, 0, none⟩), .pointer (some ⟨B2, 0, none⟩)] encB (Below n₀) (fun ys => ys = beB w N) (fun pre => pre <+: beB w N) w W := fun l J Jx W2 hW hA _ hY h0 =>
  be_in n hn l B1 B2 n₀ N w hw hN0 hN1 hp1 hp2 J Jx hA hY W2 (Nat.le_trans hn0 hW.size) ((hW.cell (p := ⟨B1, 0, none⟩) (Nat.lt_of_lt_of_le hp1 hn0)).trans hB1) ((hW.cell (p := ⟨B2, 0, none⟩) (Nat.lt_of_lt_of_le hp2 hn0)).trans hB2) h0
end Go.Proofs.YtafkndhnbnpahaaGreat
