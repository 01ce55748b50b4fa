/- Texts Held of this claim, one behind the other. -/
import Derived.Test.YtpfkeohaaeiaaaaGreatDoorRc1
import Derived.Deep.RegionHeld3
import Derived.Deep.RegionWith
import Derived.Deep.QuietTactic
/- For a region that draws its order, loads cells, calls what only makes memory, and stores into a block R of the call's own: what holds in every order (for go_region_held3). -/
namespace Go.Proofs.YtpfkeohaaeiaaaaGreatDoor
open Go.RowKit
/-- what a cell holds: a name for it, so that a fact on it stands before and behind a store -/
def cur (w : World) (p : Addr) : Value := (w.cell? p).getD undef
theorem cur_of {w : World} {p : Addr} {v : Value} (h : w.cell? p = some v) : w.cell? p = some (cur w p) := by unfold cur; rw [h]; rfl
theorem cur_set {w : World} {a p : Addr} {u v : Value} (h : w.cell? p = some u) : (w.setCell a v).cell? p = some (cur (w.setCell a v) p) := by
  by_cases e : a = p
  · subst e; exact cur_of (World.cell?_setCell_same _ _ _ h)
  · exact cur_of ((World.cell?_setCell_other _ _ _ _ e).trans h)
/-- w' is W, but for block R and what is new -/
structure Held (W : World) (R : Nat) (w' : World) : Prop where
  size : W.heap.size ≤ w'.heap.size
  cellH : ∀ p : Addr, p.block < W.heap.size → p.block ≠ R → w'.cell? p = W.cell? p
  frozH : ∀ p : Addr, p.block < W.heap.size → w'.frozen? p = W.frozen? p
  curH : ∀ p : Addr, p.block < W.heap.size → (∃ v, W.cell? p = some v) → ∃ v, w'.cell? p = some v
theorem Held.refl (W : World) (R : Nat) : Held W R W := ⟨Nat.le_refl _, fun _ _ _ => rfl, fun _ _ => rfl, fun _ _ h => h⟩
theorem Held.drew {W w : World} {R : Nat} (h : Held W R w) : Held W R w.drew := ⟨h.size, h.cellH, h.frozH, h.curH⟩
theorem Held.drewN {W w : World} {R : Nat} (h : Held W R w) (n : Nat) : Held W R (w.drewN n) := ⟨h.size, h.cellH, h.frozH, h.curH⟩
theorem Held.start (W : World) (R : Nat) : Held W R W.drew := (Held.refl W R).drew
theorem Held.below {W w w1 : World} {R : Nat} (h : Held W R w) (hb : Below w.heap.size w w1) : Held W R w1 :=
  ⟨Nat.le_trans h.size hb.size, fun p hp hn => (hb.cell (p := p) (Nat.lt_of_lt_of_le hp h.size)).trans (h.cellH p hp hn), fun p hp => (hb.frozen (p := p) (Nat.lt_of_lt_of_le hp h.size)).trans (h.frozH p hp),
   fun p hp hv => by rw [hb.cell (p := p) (Nat.lt_of_lt_of_le hp h.size)]; exact h.curH p hp hv⟩
theorem Held.alloc {W w : World} {R : Nat} (h : Held W R w) (o : Obj) : Held W R (w.alloc o) := h.below ((Below.refl _ _).alloc (Nat.le_refl _) _)
theorem Held.set {W w : World} {R : Nat} (h : Held W R w) (i : Nat) (v : Value) : Held W R (w.setCell ⟨R, i, none⟩ v) :=
  ⟨by simpa using h.size, fun p hp hn => (World.cell?_setCell_far _ _ _ _ (Ne.symm hn)).trans (h.cellH p hp hn), fun p hp => (World.frozen?_setCell ..).trans (h.frozH p hp),
   fun p hp hv => by obtain ⟨u, hu⟩ := h.curH p hp hv; exact ⟨_, cur_set hu⟩⟩
theorem Held.cell {W w' : World} {R : Nat} (h : Held W R w') {b o : Nat} {v : Value} (hc : W.cell? ⟨b, o, none⟩ = some v) (hR : b ≠ R) : w'.cell? ⟨b, o, none⟩ = some v :=
  (h.cellH ⟨b, o, none⟩ (World.block_lt_of_cell? _ _ hc) hR).trans hc
theorem Held.cur {W w' : World} {R : Nat} (h : Held W R w') {b o : Nat} {v : Value} (hc : W.cell? ⟨b, o, none⟩ = some v) : w'.cell? ⟨b, o, none⟩ = some (cur w' ⟨b, o, none⟩) := by
  obtain ⟨u, hu⟩ := h.curH ⟨b, o, none⟩ (World.block_lt_of_cell? _ _ hc) ⟨v, hc⟩
  exact cur_of hu
theorem box1 (w : World) (o0 : Obj) : (w.alloc o0).heap[w.heap.size]? = some o0 ∧ Below w.heap.size w (w.alloc o0) ∧ (w.alloc o0).heap.size = w.heap.size + 1 :=
  ⟨heap_alloc_new w o0, (Below.refl _ w).alloc (Nat.le_refl _) _, World.size_alloc _ _⟩
theorem box2 (w : World) (o0 o1 : Obj) : ((w.alloc o0).alloc o1).heap[w.heap.size]? = some o0 ∧ ((w.alloc o0).alloc o1).heap[w.heap.size + 1]? = some o1 ∧
    Below w.heap.size w ((w.alloc o0).alloc o1) ∧ ((w.alloc o0).alloc o1).heap.size = w.heap.size + 1 + 1 := by
  obtain ⟨a, b, c⟩ := box1 w o0
  obtain ⟨d, e, f⟩ := box1 (w.alloc o0) o1
  rw [c] at d f
  exact ⟨(e.block _ (by omega)).trans a, d, b.trans (e.mono (by omega)), f⟩
theorem box3 (w : World) (o0 o1 o2 : Obj) : (((w.alloc o0).alloc o1).alloc o2).heap[w.heap.size]? = some o0 ∧ (((w.alloc o0).alloc o1).alloc o2).heap[w.heap.size + 1]? = some o1 ∧ (((w.alloc o0).alloc o1).alloc o2).heap[w.heap.size + 1 + 1]? = some o2 ∧
    Below w.heap.size w (((w.alloc o0).alloc o1).alloc o2) ∧ (((w.alloc o0).alloc o1).alloc o2).heap.size = w.heap.size + 1 + 1 + 1 := by
  obtain ⟨a, a', b, c⟩ := box2 w o0 o1
  obtain ⟨d, e, f⟩ := box1 ((w.alloc o0).alloc o1) o2
  rw [c] at d f
  exact ⟨(e.block _ (by omega)).trans a, (e.block _ (by omega)).trans a', d, b.trans (e.mono (by omega)), f⟩
/-- the cells of a block that is known whole -/
theorem at_whole {w : World} {b : Nat} {cs : Array Value} {T : TypeId} (h : w.heap[b]? = some (.cells cs T (0, 0))) (j : Nat) {v : Value} (hv : cs[j]? = some v) : w.cell? ⟨b, j, none⟩ = some v := (cell_whole h j).trans hv
theorem belowN {n : Nat} {w w1 : World} (h : Below n w w1) (k : Nat) : Below n w (w1.drewN k) := ⟨h.os, h.tape, h.output, h.size, h.block⟩
end Go.Proofs.YtpfkeohaaeiaaaaGreatDoor
