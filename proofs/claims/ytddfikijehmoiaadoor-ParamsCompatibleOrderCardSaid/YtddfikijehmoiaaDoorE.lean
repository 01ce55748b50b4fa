/- Law 20: the iterator values: its contract. -/
import Derived.RangeFuncNested
import Derived.RangeFuncBound
import Derived.RangeFuncCalls
import Derived.RangeFuncLeaves
import Derived.Shelf.Abstract
import Derived.Shelf.RegionOpen
import Derived.WalkKit
import Derived.OwnWalkIn
import Derived.TacticsInMore
import Derived.LoopNIn
import Derived.LoopIn
import Derived.Laws.EntriesVeiled
import Derived.Stop.RegionWithIn
import Derived.Test.YtddfikijehmoiaaDoorD
import Derived.Test.YtddfikijehmoiaaDoorScope
namespace Go.Proofs.YtddfikijehmoiaaDoor
open Go.RowKit Go.Shelf
attribute [local go_sem] Oper.semAt_some
/-- the parameters -/
structure Pm where
  a : Int
  b : Int
  c : Int
  d : Int
  e : Int
  f : Int
def Pm.cells (p : Pm) : Array Value := #[.int .i64 p.a, .int .i64 p.b, .int .i64 p.c, .int .i64 p.d, .int .i64 p.e, .int .i64 p.f]
def Pm.vals (p : Pm) : List Int := [p.a, p.b, p.c, p.d, p.e, p.f]
abbrev Fd := Nat × Int × Int × Bool
def items (p : Pm) : List (Fd × Int) := fTab.zip p.vals
def encI (x : Fd × Int) : Array Value := #[.agg (fd x.1), .int .i64 x.2]
theorem cell_alloc_l {W : World} {a : Addr} {v : Value} (o : Obj) (h : W.cell? a = some v) : (W.alloc o).cell? a = some v := cell_kept h (World.grownBy_alloc W o none) (fun r e => by cases e)
theorem get_at (k b : Nat) (hk : k < 6) (w : World) : Calls Tryd.prog (32 + k) #[.pointer (some ⟨b, 0, none⟩)] w fun e w' => e = .returned (.pointer (some ⟨b, k, none⟩)) ∧ w' = w := by
  have : k = 0 ∨ k = 1 ∨ k = 2 ∨ k = 3 ∨ k = 4 ∨ k = 5 := by omega
  rcases this with rfl | rfl | rfl | rfl | rfl | rfl
  · exact get0 b w
  · exact get1 b w
  · exact get2 b w
  · exact get3 b w
  · exact get4 b w
  · exact get5 b w
theorem fTab_get (k : Nat) (x : Fd) (h : fTab[k]? = some x) : x.1 = 32 + k := by
  have hk : k = 0 ∨ k = 1 ∨ k = 2 ∨ k = 3 ∨ k = 4 ∨ k = 5 := by
    have := (List.getElem?_eq_some_iff.1 h).1
    simp [fTab] at this; omega
  rcases hk with rfl | rfl | rfl | rfl | rfl | rfl <;> (cases h; rfl)
theorem vals_at (p : Pm) (k : Nat) (h : k < 6) : ∃ v, p.vals[k]? = some v ∧ p.cells[k]? = some (.int .i64 v) := by
  have hk : k = 0 ∨ k = 1 ∨ k = 2 ∨ k = 3 ∨ k = 4 ∨ k = 5 := by omega
  rcases hk with rfl | rfl | rfl | rfl | rfl | rfl <;> exact ⟨_, rfl, rfl⟩
theorem items_succ (p : Pm) (k : Nat) (x : Fd) (v : Int) (hx : fTab[k]? = some x) (hv : p.vals[k]? = some v) : (items p).take (k + 1) = (items p).take k ++ [(x, v)] := by
  have hl : k < (items p).length := by
    have := (List.getElem?_eq_some_iff.1 hx).1
    simp [items, fTab, Pm.vals] at this ⊢; omega
  rw [List.take_succ_eq_append_getElem hl]
  congr 2
  have : (items p)[k]? = some (x, v) := by unfold items; rw [List.getElem?_zip_eq_some]; exact ⟨hx, hv⟩
  rw [List.getElem?_eq_getElem hl] at this
  exact Option.some.inj this
theorem items_len (p : Pm) : (items p).length = 6 := rfl
theorem idx0 (w : World) : (Instr.index 71 (.agg fCells) (.int .i64 ((0 : Nat) : Int))).run Tryd.prog w = .ok (.agg (fd (32, 0, 1073741824, true))) w := by kernel_rfl
theorem idx1 (w : World) : (Instr.index 71 (.agg fCells) (.int .i64 ((1 : Nat) : Int))).run Tryd.prog w = .ok (.agg (fd (33, 0, 1073741824, true))) w := by kernel_rfl
theorem idx2 (w : World) : (Instr.index 71 (.agg fCells) (.int .i64 ((2 : Nat) : Int))).run Tryd.prog w = .ok (.agg (fd (34, 0, 64, true))) w := by kernel_rfl
theorem idx3 (w : World) : (Instr.index 71 (.agg fCells) (.int .i64 ((3 : Nat) : Int))).run Tryd.prog w = .ok (.agg (fd (35, 0, 64, true))) w := by kernel_rfl
theorem idx4 (w : World) : (Instr.index 71 (.agg fCells) (.int .i64 ((4 : Nat) : Int))).run Tryd.prog w = .ok (.agg (fd (36, 0, 20, false))) w := by kernel_rfl
theorem idx5 (w : World) : (Instr.index 71 (.agg fCells) (.int .i64 ((5 : Nat) : Int))).run Tryd.prog w = .ok (.agg (fd (37, 50, 100000, false))) w := by kernel_rfl
theorem idxL0 (w : World) : (Instr.index 71 (.agg fCells) (.int .i64 0)).run Tryd.prog w = .ok (.agg #[.func (.func 32) #[] #[], .int .i64 0, .int .i64 1073741824, .bool true]) w := by kernel_rfl
theorem idxL1 (w : World) : (Instr.index 71 (.agg fCells) (.int .i64 1)).run Tryd.prog w = .ok (.agg #[.func (.func 33) #[] #[], .int .i64 0, .int .i64 1073741824, .bool true]) w := by kernel_rfl
theorem idxL2 (w : World) : (Instr.index 71 (.agg fCells) (.int .i64 2)).run Tryd.prog w = .ok (.agg #[.func (.func 34) #[] #[], .int .i64 0, .int .i64 64, .bool true]) w := by kernel_rfl
theorem idxL3 (w : World) : (Instr.index 71 (.agg fCells) (.int .i64 3)).run Tryd.prog w = .ok (.agg #[.func (.func 35) #[] #[], .int .i64 0, .int .i64 64, .bool true]) w := by kernel_rfl
theorem idxL4 (w : World) : (Instr.index 71 (.agg fCells) (.int .i64 4)).run Tryd.prog w = .ok (.agg #[.func (.func 36) #[] #[], .int .i64 0, .int .i64 20, .bool false]) w := by kernel_rfl
theorem idxL5 (w : World) : (Instr.index 71 (.agg fCells) (.int .i64 5)).run Tryd.prog w = .ok (.agg #[.func (.func 37) #[] #[], .int .i64 50, .int .i64 100000, .bool false]) w := by kernel_rfl
theorem run_idx (k : Nat) (x : Fd) (h : fTab[k]? = some x) (w : World) : (Instr.index 71 (.agg fCells) (.int .i64 k)).run Tryd.prog w = .ok (.agg #[.func (.func x.1) #[] #[], .int .i64 x.2.1, .int .i64 x.2.2.1, .bool x.2.2.2]) w := by
  have hk : k = 0 ∨ k = 1 ∨ k = 2 ∨ k = 3 ∨ k = 4 ∨ k = 5 := by
    have := (List.getElem?_eq_some_iff.1 h).1
    simp [fTab] at this; omega
  rcases hk with rfl | rfl | rfl | rfl | rfl | rfl
  · cases h; exact idx0 w
  · cases h; exact idx1 w
  · cases h; exact idx2 w
  · cases h; exact idx3 w
  · cases h; exact idx4 w
  · cases h; exact idx5 w
/-- what the iterator asks of a round: its own box is kept -/
def KeepB (B : Nat) (W W' : World) : Prop := W.heap.size ≤ W'.heap.size ∧ W'.heap[B]? = W.heap[B]?
theorem KeepB.refl (B : Nat) (W : World) : KeepB B W W := ⟨Nat.le_refl _, rfl⟩
theorem KeepB.trans {B : Nat} {X Y Z : World} (h : KeepB B X Y) (k : KeepB B Y Z) : KeepB B X Z := ⟨Nat.le_trans h.1 k.1, k.2.trans h.2⟩
theorem KeepB.of_grown {B : Nat} {X Y : World} {r : Option Nat} (h : X.grownBy Y r) (hB : B < X.heap.size) (hr : some B ≠ r) : KeepB B X Y := ⟨h.size, h.block B hB hr⟩
theorem KeepB.of_below {B n : Nat} {X Y : World} (h : Below n X Y) (hB : B < n) : KeepB B X Y := ⟨h.size, h.block B hB⟩
theorem KeepB.tr {B : Nat} {X Y Z : World} : KeepB B X Y → KeepB B Y Z → KeepB B X Z := KeepB.trans
theorem KeepB.put {B : Nat} {w : World} (hB : B < w.heap.size) (W : World) (l : Nat) (o o' : Obj) (hl : w.heap.size ≤ l) (_ : W.heap[l]? = some o) (_ : o.isCells = false) (_ : o.isWalk = false) : KeepB B W (W.putObj l o') :=
  ⟨(grownBy_putObj' W l o').size, World.putObj_heap_other (by omega)⟩
theorem bool_of {e : Ending} {A B : Prop} (h : (e = .returned (.bool true) ∧ A) ∨ (e = .returned (.bool false) ∧ B)) : ∃ bb, e = .returned (.bool bb) ∧ Hid ((bb = true ∧ A) ∨ (bb = false ∧ B)) := by
  rcases h with ⟨h1, h2⟩ | ⟨h1, h2⟩
  · exact ⟨true, h1, Lib.hid (.inl ⟨rfl, h2⟩)⟩
  · exact ⟨false, h1, Lib.hid (.inr ⟨rfl, h2⟩)⟩
set_option maxRecDepth 100000 in
set_option maxHeartbeats 2000000 in
theorem vals_in (n : Nat) (hn : 1 ≤ n) (l Bp : Nat) (p : Pm) (J Jx : List (Fd × Int) → World → Prop) {m : Nat} (hJA : AbidesFrom m J)
    (hY : ∀ pre x W, J pre W → pre.length < 6 → x ∈ items p → YieldAt Fence.wide (n - 1) Tryd.prog l (encI x) W fun e W' =>
      (e = .returned (.bool true) ∧ J (pre ++ [x]) W' ∧ KeepB Bp W W') ∨ (e = .returned (.bool false) ∧ Jx (pre ++ [x]) W'))
    (W : World) (hWn : Bp < W.heap.size) (hBp : W.heap[Bp]? = some (.cells p.cells 23 (0, 0))) (h0 : J [] W) :
    CallsIn Fence.wide n Tryd.prog 25 #[.func (.yield l) #[] #[], .pointer (some ⟨Bp, 0, none⟩)] W fun e W' => (∃ v, e = .returned v) ∧
      ((∃ ys, ys = items p ∧ J ys W') ∨ (∃ pre, (pre <+: items p ∧ pre ≠ []) ∧ Jx pre W')) := by
  refine callsIn_of_wp Tryd.func25 rfl trivial ?_ rfl
  simp only [Tryd.ntmps25, List.size_toArray, List.length_cons, List.length_nil, Nat.reduceAdd, Nat.reduceSub, Array.replicate_succ, Array.replicate_zero, List.push_toArray, List.append_toArray, List.nil_append, List.cons_append]
  gi_wp2
  refine wpIn_scope_straight ?_
  refine wpIn_seq (wpIn_label ?_)
  rw [show ∀ (K : Act → World → Prop) Q a w, Exit.then K Q .normal a w = K a w from fun _ _ _ _ => rfl]
  gi_wp2_with (first | (refine ⟨trivial, ?_⟩; gi_at_call 26; refine (callsIn_wide.2 (fields_any _)).mono ?_; rintro e w' ⟨rfl, rfl⟩))
  gi_loopw [6] (fun i wr => ∃ k : Nat, k ≤ 6 ∧ i = .int .i64 k ∧ J ((items p).take k) wr ∧ KeepB Bp W wr)
    (fun i _ => 6 - (intOf i).toNat)
  case atStart => exact ⟨0, Nat.zero_le _, rfl, hJA _ _ _ none h0 (World.grownBy_alloc W _ none) (fun r e => by cases e), KeepB.of_grown (World.grownBy_alloc W _ none) hWn (by simp)⟩
  case round =>
    obtain ⟨k, hk, rfl, hJs, hnx⟩ := hrel
    have hsz : Bp < wr.heap.size := Nat.lt_of_lt_of_le hWn hnx.1
    by_cases hlt : k < 6
    · have hbl : wr.heap.size ≠ Bp := by omega
      have hlen : ((items p).take k).length < 6 := by rw [List.length_take, items_len]; omega
      have hk6 : k = 0 ∨ k = 1 ∨ k = 2 ∨ k = 3 ∨ k = 4 ∨ k = 5 := by omega
      rcases hk6 with rfl | rfl | rfl | rfl | rfl | rfl
      · as_aux_lemma =>
          have hidx := idxL0
          have hIS := Lib.hid (items_succ p 0 (32, 0, 1073741824, true) p.a rfl rfl)
          have hcell : wr.cell? ⟨Bp, 0, none⟩ = some (.int .i64 p.a) := by
            rw [cell_whole (hnx.2.trans hBp)]; rfl
          have hcell' := fun o => cell_alloc_l (W := wr) o hcell
          obtain ⟨fn, tmps, assign, body, hy, hR⟩ := hY _ ((32, 0, 1073741824, true), p.a) ((wr.alloc (.cells #[.func (.func 32) #[] #[], .int .i64 0, .int .i64 1073741824, .bool true] 57)).drew) (hJA _ _ _ none hJs (grown_drew (World.grownBy_alloc wr _ none)) (fun r e => by cases e)) hlen (by simp [items, fTab, Pm.vals])
          simp only [encI, fd] at hy
          have HNX := Lib.hid hnx
          clear hnx
          gi_wp2
          gi_region_with (first
            | (refine ⟨trivial, ?_⟩; gi_at_call 32; refine (callsIn_wide.2 (get0 Bp _)).mono ?_; rintro e w' ⟨rfl, rfl⟩)
            | (refine hR.mono ?_; rintro e W3 hh; obtain ⟨bb, rfl, HH⟩ := bool_of hh))
          all_goals
            rcases HH.out with ⟨rfl, hJ3, hk3⟩ | ⟨rfl, hJx3⟩
            · gi_wp2
              go_roundw
              case rel => exact ⟨0 + 1, by omega, by simp, by rw [hIS.out]; exact hJ3, (HNX.out.trans (KeepB.of_grown (grown_drew (World.grownBy_alloc wr _ none)) hsz (by simp))).trans hk3⟩
              case measure => simp [intOf]
            · gi_wp2
              go_end0
              exact ⟨⟨_, rfl⟩, .inr ⟨_, ⟨by rw [← hIS.out]; exact List.take_prefix _ _, by simp⟩, hJx3⟩⟩
      · as_aux_lemma =>
          have hidx := idxL1
          have hIS := Lib.hid (items_succ p 1 (33, 0, 1073741824, true) p.b rfl rfl)
          have hcell : wr.cell? ⟨Bp, 1, none⟩ = some (.int .i64 p.b) := by
            rw [cell_whole (hnx.2.trans hBp)]; rfl
          have hcell' := fun o => cell_alloc_l (W := wr) o hcell
          obtain ⟨fn, tmps, assign, body, hy, hR⟩ := hY _ ((33, 0, 1073741824, true), p.b) ((wr.alloc (.cells #[.func (.func 33) #[] #[], .int .i64 0, .int .i64 1073741824, .bool true] 57)).drew) (hJA _ _ _ none hJs (grown_drew (World.grownBy_alloc wr _ none)) (fun r e => by cases e)) hlen (by simp [items, fTab, Pm.vals])
          simp only [encI, fd] at hy
          have HNX := Lib.hid hnx
          clear hnx
          gi_wp2
          gi_region_with (first
            | (refine ⟨trivial, ?_⟩; gi_at_call 33; refine (callsIn_wide.2 (get1 Bp _)).mono ?_; rintro e w' ⟨rfl, rfl⟩)
            | (refine hR.mono ?_; rintro e W3 hh; obtain ⟨bb, rfl, HH⟩ := bool_of hh))
          all_goals
            rcases HH.out with ⟨rfl, hJ3, hk3⟩ | ⟨rfl, hJx3⟩
            · gi_wp2
              go_roundw
              case rel => exact ⟨1 + 1, by omega, by simp, by rw [hIS.out]; exact hJ3, (HNX.out.trans (KeepB.of_grown (grown_drew (World.grownBy_alloc wr _ none)) hsz (by simp))).trans hk3⟩
              case measure => simp [intOf]
            · gi_wp2
              go_end0
              exact ⟨⟨_, rfl⟩, .inr ⟨_, ⟨by rw [← hIS.out]; exact List.take_prefix _ _, by simp⟩, hJx3⟩⟩
      · as_aux_lemma =>
          have hidx := idxL2
          have hIS := Lib.hid (items_succ p 2 (34, 0, 64, true) p.c rfl rfl)
          have hcell : wr.cell? ⟨Bp, 2, none⟩ = some (.int .i64 p.c) := by
            rw [cell_whole (hnx.2.trans hBp)]; rfl
          have hcell' := fun o => cell_alloc_l (W := wr) o hcell
          obtain ⟨fn, tmps, assign, body, hy, hR⟩ := hY _ ((34, 0, 64, true), p.c) ((wr.alloc (.cells #[.func (.func 34) #[] #[], .int .i64 0, .int .i64 64, .bool true] 57)).drew) (hJA _ _ _ none hJs (grown_drew (World.grownBy_alloc wr _ none)) (fun r e => by cases e)) hlen (by simp [items, fTab, Pm.vals])
          simp only [encI, fd] at hy
          have HNX := Lib.hid hnx
          clear hnx
          gi_wp2
          gi_region_with (first
            | (refine ⟨trivial, ?_⟩; gi_at_call 34; refine (callsIn_wide.2 (get2 Bp _)).mono ?_; rintro e w' ⟨rfl, rfl⟩)
            | (refine hR.mono ?_; rintro e W3 hh; obtain ⟨bb, rfl, HH⟩ := bool_of hh))
          all_goals
            rcases HH.out with ⟨rfl, hJ3, hk3⟩ | ⟨rfl, hJx3⟩
            · gi_wp2
              go_roundw
              case rel => exact ⟨2 + 1, by omega, by simp, by rw [hIS.out]; exact hJ3, (HNX.out.trans (KeepB.of_grown (grown_drew (World.grownBy_alloc wr _ none)) hsz (by simp))).trans hk3⟩
              case measure => simp [intOf]
            · gi_wp2
              go_end0
              exact ⟨⟨_, rfl⟩, .inr ⟨_, ⟨by rw [← hIS.out]; exact List.take_prefix _ _, by simp⟩, hJx3⟩⟩
      · as_aux_lemma =>
          have hidx := idxL3
          have hIS := Lib.hid (items_succ p 3 (35, 0, 64, true) p.d rfl rfl)
          have hcell : wr.cell? ⟨Bp, 3, none⟩ = some (.int .i64 p.d) := by
            rw [cell_whole (hnx.2.trans hBp)]; rfl
          have hcell' := fun o => cell_alloc_l (W := wr) o hcell
          obtain ⟨fn, tmps, assign, body, hy, hR⟩ := hY _ ((35, 0, 64, true), p.d) ((wr.alloc (.cells #[.func (.func 35) #[] #[], .int .i64 0, .int .i64 64, .bool true] 57)).drew) (hJA _ _ _ none hJs (grown_drew (World.grownBy_alloc wr _ none)) (fun r e => by cases e)) hlen (by simp [items, fTab, Pm.vals])
          simp only [encI, fd] at hy
          have HNX := Lib.hid hnx
          clear hnx
          gi_wp2
          gi_region_with (first
            | (refine ⟨trivial, ?_⟩; gi_at_call 35; refine (callsIn_wide.2 (get3 Bp _)).mono ?_; rintro e w' ⟨rfl, rfl⟩)
            | (refine hR.mono ?_; rintro e W3 hh; obtain ⟨bb, rfl, HH⟩ := bool_of hh))
          all_goals
            rcases HH.out with ⟨rfl, hJ3, hk3⟩ | ⟨rfl, hJx3⟩
            · gi_wp2
              go_roundw
              case rel => exact ⟨3 + 1, by omega, by simp, by rw [hIS.out]; exact hJ3, (HNX.out.trans (KeepB.of_grown (grown_drew (World.grownBy_alloc wr _ none)) hsz (by simp))).trans hk3⟩
              case measure => simp [intOf]
            · gi_wp2
              go_end0
              exact ⟨⟨_, rfl⟩, .inr ⟨_, ⟨by rw [← hIS.out]; exact List.take_prefix _ _, by simp⟩, hJx3⟩⟩
      · as_aux_lemma =>
          have hidx := idxL4
          have hIS := Lib.hid (items_succ p 4 (36, 0, 20, false) p.e rfl rfl)
          have hcell : wr.cell? ⟨Bp, 4, none⟩ = some (.int .i64 p.e) := by
            rw [cell_whole (hnx.2.trans hBp)]; rfl
          have hcell' := fun o => cell_alloc_l (W := wr) o hcell
          obtain ⟨fn, tmps, assign, body, hy, hR⟩ := hY _ ((36, 0, 20, false), p.e) ((wr.alloc (.cells #[.func (.func 36) #[] #[], .int .i64 0, .int .i64 20, .bool false] 57)).drew) (hJA _ _ _ none hJs (grown_drew (World.grownBy_alloc wr _ none)) (fun r e => by cases e)) hlen (by simp [items, fTab, Pm.vals])
          simp only [encI, fd] at hy
          have HNX := Lib.hid hnx
          clear hnx
          gi_wp2
          gi_region_with (first
            | (refine ⟨trivial, ?_⟩; gi_at_call 36; refine (callsIn_wide.2 (get4 Bp _)).mono ?_; rintro e w' ⟨rfl, rfl⟩)
            | (refine hR.mono ?_; rintro e W3 hh; obtain ⟨bb, rfl, HH⟩ := bool_of hh))
          all_goals
            rcases HH.out with ⟨rfl, hJ3, hk3⟩ | ⟨rfl, hJx3⟩
            · gi_wp2
              go_roundw
              case rel => exact ⟨4 + 1, by omega, by simp, by rw [hIS.out]; exact hJ3, (HNX.out.trans (KeepB.of_grown (grown_drew (World.grownBy_alloc wr _ none)) hsz (by simp))).trans hk3⟩
              case measure => simp [intOf]
            · gi_wp2
              go_end0
              exact ⟨⟨_, rfl⟩, .inr ⟨_, ⟨by rw [← hIS.out]; exact List.take_prefix _ _, by simp⟩, hJx3⟩⟩
      · as_aux_lemma =>
          have hidx := idxL5
          have hIS := Lib.hid (items_succ p 5 (37, 50, 100000, false) p.f rfl rfl)
          have hcell : wr.cell? ⟨Bp, 5, none⟩ = some (.int .i64 p.f) := by
            rw [cell_whole (hnx.2.trans hBp)]; rfl
          have hcell' := fun o => cell_alloc_l (W := wr) o hcell
          obtain ⟨fn, tmps, assign, body, hy, hR⟩ := hY _ ((37, 50, 100000, false), p.f) ((wr.alloc (.cells #[.func (.func 37) #[] #[], .int .i64 50, .int .i64 100000, .bool false] 57)).drew) (hJA _ _ _ none hJs (grown_drew (World.grownBy_alloc wr _ none)) (fun r e => by cases e)) hlen (by simp [items, fTab, Pm.vals])
          simp only [encI, fd] at hy
          have HNX := Lib.hid hnx
          clear hnx
          gi_wp2
          gi_region_with (first
            | (refine ⟨trivial, ?_⟩; gi_at_call 37; refine (callsIn_wide.2 (get5 Bp _)).mono ?_; rintro e w' ⟨rfl, rfl⟩)
            | (refine hR.mono ?_; rintro e W3 hh; obtain ⟨bb, rfl, HH⟩ := bool_of hh))
          all_goals
            rcases HH.out with ⟨rfl, hJ3, hk3⟩ | ⟨rfl, hJx3⟩
            · gi_wp2
              go_roundw
              case rel => exact ⟨5 + 1, by omega, by simp, by rw [hIS.out]; exact hJ3, (HNX.out.trans (KeepB.of_grown (grown_drew (World.grownBy_alloc wr _ none)) hsz (by simp))).trans hk3⟩
              case measure => simp [intOf]
            · gi_wp2
              go_end0
              exact ⟨⟨_, rfl⟩, .inr ⟨_, ⟨by rw [← hIS.out]; exact List.take_prefix _ _, by simp⟩, hJx3⟩⟩
    · obtain rfl : k = 6 := by omega
      clear hlt
      gi_wp2
      rw [Exit.noGoto_normal]
      go_end0
      exact ⟨⟨_, rfl⟩, .inl ⟨_, by rw [← items_len p, List.take_length], hJs⟩⟩
theorem vals_stops (n : Nat) (hn : 1 ≤ n) (Bp : Nat) (p : Pm) (w : World) (hBp : w.heap[Bp]? = some (.cells p.cells 23 (0, 0))) :
    SeqStopsK Fence.wide n Tryd.prog 25 #[.pointer (some ⟨Bp, 0, none⟩)] (fun x : {x : Fd × Int // x ∈ items p} => encI x.1) (KeepB Bp) (fun ys => ys.map (·.1) = items p) (fun pre => pre.map (·.1) <+: items p ∧ pre ≠ []) 6 w := fun l J Jx W hW hA _ hY h0 => by
  refine (vals_in n hn l Bp p (fun pre W => ∃ q : List {x : Fd × Int // x ∈ items p}, q.map (·.1) = pre ∧ J q W) (fun pre W => ∃ q : List {x : Fd × Int // x ∈ items p}, q.map (·.1) = pre ∧ Jx q W)
    (fun s A B row hs hg hr => by obtain ⟨q, e, hq⟩ := hs; exact ⟨q, e, hA q A B row hq hg hr⟩)
    (fun pre x W hJ hlen hx => ?_) W (Nat.lt_of_lt_of_le (heap_lt hBp) hW.size) ((hW.block Bp (heap_lt hBp)).trans hBp) ⟨[], rfl, h0⟩).mono ?_
  · obtain ⟨q, rfl, hq⟩ := hJ
    rw [List.length_map] at hlen
    refine (hY q ⟨x, hx⟩ W hq hlen).mono fun e W' h => ?_
    rcases h with ⟨h1, h2, h3⟩ | ⟨h1, h2⟩
    · exact .inl ⟨h1, ⟨q ++ [⟨x, hx⟩], by simp, h2⟩, h3⟩
    · exact .inr ⟨h1, ⟨q ++ [⟨x, hx⟩], by simp, h2⟩⟩
  · rintro e W' ⟨hv, h | h⟩
    · obtain ⟨ys, rfl, q, e2, hq⟩ := h
      exact ⟨hv, .inl ⟨q, e2, hq⟩⟩
    · obtain ⟨pre, ⟨h1, h2⟩, q, rfl, hq⟩ := h
      exact ⟨hv, .inr ⟨q, ⟨h1, by intro e; subst e; exact h2 rfl⟩, hq⟩⟩
end Go.Proofs.YtddfikijehmoiaaDoor
