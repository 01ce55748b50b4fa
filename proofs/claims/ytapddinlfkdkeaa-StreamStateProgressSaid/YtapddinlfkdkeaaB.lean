import Derived.RangeFuncNested
import Derived.RangeFuncBound
import Derived.RangeFuncCalls
import Derived.RangeFuncLeaves
import Derived.Shelf.Abstract
import Derived.Shelf.RegionOpen
import Derived.WalkKit
import Derived.OwnWalkIn
import Derived.TacticsInMore
import Derived.LoopNIn
import Derived.LoopIn
import Derived.Lib.Hide
import Derived.Laws.Rows
import Derived.Test.YtapddinlfkdkeaaProg
namespace Go.Proofs
open Go.RowKit Go.Shelf
attribute [local go_sem] Oper.semAt_some

theorem cell_new_l (W : World) (v : Value) (t : TypeId) : (W.alloc (.cells #[v] t)).cell? ⟨W.heap.size, 0, none⟩ = some v ∧ (W.alloc (.cells #[v] t)).frozen? ⟨W.heap.size, 0, none⟩ = false := by
  constructor <;> simp
theorem cell_alloc_l {W : World} {a : Addr} {v : Value} (o : Obj) (h : W.cell? a = some v) : (W.alloc o).cell? a = some v := cell_kept h (World.grownBy_alloc W o none) (fun r e => by cases e)
theorem frozen_alloc_l {W : World} {a : Addr} {v : Value} (o : Obj) (h : W.cell? a = some v) (hf : W.frozen? a = false) : (W.alloc o).frozen? a = false := (frozen_kept h (World.grownBy_alloc W o none) (fun r e => by cases e)).trans hf

def tabCells (tab : List (Int × Int × Int)) : Array Value := (tab.flatMap fun e => [.int .i64 e.1, .int .i64 e.2.1, .int .i64 e.2.2]).toArray
def rowAt (tab : List (Int × Int × Int)) (k : Nat) : Int × Int × Int := tab.getD k (0, 0, 0)
def hits (tab : List (Int × Int × Int)) (s v : Int) : List Int := (tab.filter fun e => e.1 == s && e.2.1 == v).map (·.2.2)
def hitsTo (tab : List (Int × Int × Int)) (s v : Int) (k : Nat) : List Int := hits (tab.take k) s v
theorem hitsTo_succ (tab : List (Int × Int × Int)) (s v : Int) (k : Nat) (h : k < tab.length) :
    hitsTo tab s v (k + 1) = hitsTo tab s v k ++ (if (rowAt tab k).1 = s ∧ (rowAt tab k).2.1 = v then [(rowAt tab k).2.2] else []) := by
  unfold hitsTo hits rowAt
  rw [List.take_succ_eq_append_getElem h]
  simp only [List.filter_append, List.map_append, List.getD_eq_getElem?_getD, List.getElem?_eq_getElem h, Option.getD_some]
  congr 1
  by_cases hm : tab[k].1 = s ∧ tab[k].2.1 = v
  · simp [hm.1, hm.2]
  · simp only [hm, if_false]
    simp only [List.filter_cons, List.filter_nil]
    have : (tab[k].1 == s && tab[k].2.1 == v) = false := by
      rw [Bool.and_eq_false_iff]; simp only [beq_eq_false_iff_ne]
      by_cases h1 : tab[k].1 = s
      · right; intro h2; exact hm ⟨h1, h2⟩
      · left; exact h1
    simp [this]
theorem hitsTo_len (tab : List (Int × Int × Int)) (s v : Int) (k : Nat) : (hitsTo tab s v k).length ≤ k := by
  unfold hitsTo hits; simp only [List.length_map]
  exact Nat.le_trans (List.length_filter_le _ _) (List.length_take_le _ _)
theorem hitsTo_pre (tab : List (Int × Int × Int)) (s v : Int) (k : Nat) : hitsTo tab s v k <+: hits tab s v := by
  unfold hitsTo hits
  exact (List.IsPrefix.filter _ (List.take_prefix _ _)).map _
theorem tabCells_size (tab : List (Int × Int × Int)) : (tabCells tab).size = 3 * tab.length := by
  unfold tabCells; induction tab with
  | nil => rfl
  | cons a t ih => simp at ih ⊢; omega
theorem tabCells_extract (tab : List (Int × Int × Int)) (k : Nat) (h : k < tab.length) :
    (tabCells tab).extract (k * 3) (k * 3 + 3) = #[.int .i64 (rowAt tab k).1, .int .i64 (rowAt tab k).2.1, .int .i64 (rowAt tab k).2.2] := by
  unfold tabCells rowAt
  apply Array.toList_inj.1
  simp only [Array.toList_extract, List.extract_eq_take_drop, Nat.add_sub_cancel_left]
  induction tab generalizing k with
  | nil => simp at h
  | cons a t ih =>
    cases k with
    | zero => simp
    | succ k =>
      have := ih k (by simpa using h)
      simp only [List.flatMap_cons, List.cons_append, List.nil_append]
      rw [show (k + 1) * 3 = k * 3 + 1 + 1 + 1 by omega]
      simpa using this
theorem run_idx (tab : List (Int × Int × Int)) (h : tab.length = 13) (k : Nat) (hk : k < 13) (w : World) :
    (Instr.index 40 (.agg (tabCells tab)) (.int .i64 k)).run Try.prog w = .ok (.agg #[.int .i64 (rowAt tab k).1, .int .i64 (rowAt tab k).2.1, .int .i64 (rowAt tab k).2.2]) w := by
  have hs : (sizeOf 38).run Try.prog w = .ok 3 w := by kernel_rfl
  have ha : (isAgg 38).run Try.prog w = .ok true w := by kernel_rfl
  have e : ((k : Int) < 13) := by omega
  simp [Instr.index, asIntOf, run_underlying Try.underlying40, e, part, hs, ha]
  rw [if_pos hk, tabCells_extract tab k (by omega)]

theorem wpListIn_load_row' {F : Fence} {n : Nat} {P : Program} {ops : Array Oper} {rest : List Oper} {o : Oper} {a : Act} {w : World} {Q : Exit → Act → World → Prop} (hgd : o.guard = none) (ty : TypeId) (x : Operand) (ho : o.op = .load ty x)
    (g : Nat) (hx : a.eval x = .pointer (some ⟨g, 0, none⟩)) (t : TypeId) (cs : Array Value) (fr : Nat × Nat) (d : TypeDesc) (hg : w.heap[g]? = some (.cells cs t fr))
    (hu : P.underlying ty = some d) (hd : (match d with | .struct _ | .array _ _ => true | _ => false) = true) (hi : (P.info? ty).map (·.size) = some cs.size)
    (h : wpListIn F n P ops Q rest (a.put o.dst (.agg cs)) w) : wpListIn F n P ops Q (o :: rest) a w := by
  refine wpListIn_plain hgd fun K hK' => ?_
  unfold Oper.wpIn
  refine ⟨?_, ?_⟩
  · simp [Oper.about, ho]
  · rw [Oper.semAt_plain F _ _ (by rw [ho]; intro c hc'; cases hc')]
    simp only [execOp, ho, hx, Instr.loadAt, Instr.sureAddr, Sem.run_bind, Sem.run_pure, Result.andThen_ok, run_loadVar_row w g t ty cs fr d hg hu hd hi]
    exact hK' _ _ h

set_option maxRecDepth 100000 in
set_option maxHeartbeats 2000000 in
/-- 'steps.of's closure. -/
theorem of1_in (F : Fence) (n : Nat) (h22 : F.fn 22) (hro : F.round = none) (hn : 1 ≤ n) (l Bt Bs Bv n₀ : Nat) (tab : List (Int × Int × Int)) (ht : tab.length = 13) (s v : Int)
    (ht0 : Bt < n₀) (hs0 : Bs < n₀) (hv0 : Bv < n₀) (J Jx : List Int → World → Prop) {m : Nat} (hJA : AbidesFrom m J)
    (hY : ∀ pre x W, J pre W → pre.length < 13 → YieldAt F (n - 1) Try.prog l #[.int .i64 x] W fun e W' =>
      (e = .returned (.bool true) ∧ J (pre ++ [x]) W' ∧ Below n₀ W W') ∨ (e = .returned (.bool false) ∧ Jx (pre ++ [x]) W'))
    (W : World) (hWn : n₀ ≤ W.heap.size) (hBt : W.heap[Bt]? = some (.cells (tabCells tab) 40 (0, 0))) (hBs : W.cell? ⟨Bs, 0, none⟩ = some (.int .i64 s)) (hBv : W.cell? ⟨Bv, 0, none⟩ = some (.int .i64 v)) (h0 : J [] W) :
    CallsIn F n Try.prog 22 #[.func (.yield l) #[] #[], .pointer (some ⟨Bt, 0, none⟩), .pointer (some ⟨Bs, 0, none⟩), .pointer (some ⟨Bv, 0, none⟩)] W fun e W' => (∃ v, e = .returned v) ∧
      ((∃ ys, ys = hits tab s v ∧ J ys W') ∨ (∃ pre, (pre <+: hits tab s v ∧ pre ≠ []) ∧ Jx pre W')) := by
  refine callsIn_of_wp Try.func22 rfl h22 ?_ hro
  simp only [Try.ntmps22, List.size_toArray, List.length_cons, List.length_nil, Nat.reduceAdd, Nat.reduceSub, Array.replicate_succ, Array.replicate_zero, List.push_toArray, List.append_toArray, List.nil_append, List.cons_append]
  have hsz : (Try.prog.info? 40).map (·.size) = some (tabCells tab).size := by rw [tabCells_size, ht]; kernel_rfl
  gi_wp2_with (refine wpListIn_load_row' rfl 40 _ rfl Bt rfl 40 (tabCells tab) (0, 0) _ hBt Try.underlying40 rfl hsz ?_)
  clear hsz
  gi_loopw [8] (fun i wr => ∃ k : Nat, k ≤ 13 ∧ i = .int .i64 k ∧ J (hitsTo tab s v k) wr ∧ Below n₀ W wr)
    (fun i _ => 13 - (intOf i).toNat)
  case atStart => exact ⟨0, Nat.zero_le _, rfl, h0, Below.refl _ _⟩
  case round =>
    obtain ⟨k, hk, rfl, hJs, hnx⟩ := hrel
    have hcs := (hnx.cell (p := ⟨Bs, 0, none⟩) hs0).trans hBs
    have hcv := (hnx.cell (p := ⟨Bv, 0, none⟩) hv0).trans hBv
    have hcs' := fun o => cell_alloc_l (W := wr) o hcs
    have hcv' := fun o => cell_alloc_l (W := wr) o hcv
    have hsz : n₀ ≤ wr.heap.size := Nat.le_trans hWn hnx.size
    by_cases hlt : k < 13
    · have hidx := run_idx tab ht k hlt
      have hsucc := Lib.hid (hitsTo_succ tab s v k (by omega))
      by_cases hm : (rowAt tab k).1 = s ∧ (rowAt tab k).2.1 = v
      · have hms : ((rowAt tab k).1 == s) = true := by simp [hm.1]
        have hmv : ((rowAt tab k).2.1 == v) = true := by simp [hm.2]
        have hm' := Lib.hid hm
        clear hm
        obtain ⟨fn, tmps, assign, body, hy, hR⟩ := hY _ (rowAt tab k).2.2 (wr.alloc (.cells #[.int .i64 (rowAt tab k).1, .int .i64 (rowAt tab k).2.1, .int .i64 (rowAt tab k).2.2] 38)) (hJA _ _ _ none hJs (World.grownBy_alloc wr _ none) (fun r e => by cases e)) (by have := hitsTo_len tab s v k; omega)
        gi_wp2
        refine hR.mono ?_
        rintro e W3 (⟨rfl, hJ3, hk3⟩ | ⟨rfl, hJx3⟩)
        · gi_wp2
          go_roundw
          case rel => exact ⟨k + 1, by omega, by simp, by rw [hsucc.out, if_pos hm'.out]; exact hJ3, (hnx.trans (by exact (Below.refl _ _).alloc hsz _)).trans hk3⟩
          case measure => simp [intOf]; omega
        · gi_wp2
          refine bodyPost_ret (results_none rfl _ _ _) rfl ?_
          exact ⟨⟨_, rfl⟩, .inr ⟨_, ⟨by have := hitsTo_pre tab s v (k+1); rw [hsucc.out, if_pos hm'.out] at this; exact this, by simp⟩, hJx3⟩⟩
      · have hm' := Lib.hid hm
        have hJ4 := (hJA _ _ _ none hJs (World.grownBy_alloc wr (.cells #[.int .i64 (rowAt tab k).1, .int .i64 (rowAt tab k).2.1, .int .i64 (rowAt tab k).2.2] 38) none) (fun r e => by cases e))
        by_cases hms0 : (rowAt tab k).1 = s
        · have hmv0 : ¬ (rowAt tab k).2.1 = v := fun h => hm ⟨hms0, h⟩
          have hms : ((rowAt tab k).1 == s) = true := by simp [hms0]
          have hmv : ((rowAt tab k).2.1 == v) = false := by simp [hmv0]
          clear hm hms0 hmv0
          gi_wp2
          refine ⟨fun _ h => (by cases h), ?_⟩
          gi_wp2
          go_roundw
          case rel => exact ⟨k + 1, by omega, by simp, by rw [hsucc.out, if_neg hm'.out, List.append_nil]; exact hJ4, hnx.trans (by exact (Below.refl _ _).alloc hsz _)⟩
          case measure => simp [intOf]; omega
        · have hms : ((rowAt tab k).1 == s) = false := by simp [hms0]
          clear hm hms0
          gi_wp2
          refine ⟨fun _ h => (by cases h), ?_⟩
          gi_wp2
          go_roundw
          case rel => exact ⟨k + 1, by omega, by simp, by rw [hsucc.out, if_neg hm'.out, List.append_nil]; exact hJ4, hnx.trans (by exact (Below.refl _ _).alloc hsz _)⟩
          case measure => simp [intOf]; omega
    · obtain rfl : k = 13 := by omega
      gi_wp2
      go_end0
      exact ⟨⟨_, rfl⟩, .inl ⟨_, by unfold hitsTo; rw [← ht, List.take_length], hJs⟩⟩
end Go.Proofs
