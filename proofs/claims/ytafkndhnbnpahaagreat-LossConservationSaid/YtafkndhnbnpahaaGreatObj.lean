/- Blocks known whole: what a store, a new block and a callee leave of them. -/
import Derived.Test.YtafkndhnbnpahaaGreatBase
import Derived.Laws.Rows
import Derived.Laws.AppendOwn
import Derived.Deep.Quiet
namespace Go.Proofs.YtafkndhnbnpahaaGreat
open Go.RowKit
theorem grown_refl (w : World) (r : Option Nat) : w.grownBy w r := ⟨rfl, rfl, rfl, Nat.le_refl _, fun _ _ _ => rfl⟩
theorem grown_trans {a b c : World} {r : Option Nat} (h : a.grownBy b r) (k : b.grownBy c r) : a.grownBy c r :=
  ⟨k.os.trans h.os, k.tape.trans h.tape, k.output.trans h.output, Nat.le_trans h.size k.size, fun i hi hr => (k.block i (Nat.lt_of_lt_of_le hi h.size) hr).trans (h.block i hi hr)⟩
theorem grown_set {a w : World} {b i : Nat} (h : a.grownBy w (some b)) (v : Value) : a.grownBy (w.setCell ⟨b, i, none⟩ v) (some b) :=
  ⟨h.os, h.tape, h.output, by simpa using h.size, fun k hk hr => (heap_setCell_other w _ k v (fun e => hr (by rw [e]))).trans (h.block k hk hr)⟩
theorem grown_drew {a w : World} {r : Option Nat} (h : a.grownBy w r) : a.grownBy w.drew r := ⟨h.os, h.tape, h.output, h.size, h.block⟩
theorem grown_alloc {a w : World} {r : Option Nat} (h : a.grownBy w r) (o : Obj) : a.grownBy (w.alloc o) r :=
  ⟨h.os, h.tape, h.output, by simp; exact Nat.le_succ_of_le h.size, fun k hk hr => (Below.heap_alloc w o k (Nat.lt_of_lt_of_le hk h.size)).trans (h.block k hk hr)⟩
theorem grown_below {w w' : World} {r : Option Nat} (h : Below w.heap.size w w') : w.grownBy w' r := ⟨h.os, h.tape, h.output, h.size, fun k hk _ => h.block k hk⟩
/-- a block of its own: what was below stays -/
theorem below_grown {a w w' : World} {b : Nat} (hB : Below a.heap.size a w) (h : w.grownBy w' (some b)) (hb : a.heap.size ≤ b) : Below a.heap.size a w' :=
  hB.grown h hB.size (fun k e => by cases e; exact hb)
theorem heap_grown {w w' : World} {b k : Nat} {o : Obj} (h : w.grownBy w' (some b)) (hk : w.heap[k]? = some o) (hne : k ≠ b) : w'.heap[k]? = some o :=
  (h.block k (Array.getElem?_eq_some_iff.1 hk).1 (fun e => hne (by cases e; rfl))).trans hk
theorem heap_below {w w' : World} {k : Nat} {o : Obj} (h : Below w.heap.size w w') (hk : w.heap[k]? = some o) : w'.heap[k]? = some o :=
  (h.block k (Array.getElem?_eq_some_iff.1 hk).1).trans hk
theorem cell_whole {w : World} {b : Nat} {cs : Array Value} {T : TypeId} (h : w.heap[b]? = some (.cells cs T (0, 0))) (j : Nat) : w.cell? ⟨b, j, none⟩ = cs[j]? := cell_of_row w b j cs T (0, 0) h
theorem frozen_whole {w : World} {b : Nat} {cs : Array Value} {T : TypeId} (h : w.heap[b]? = some (.cells cs T (0, 0))) (j : Nat) : w.frozen? ⟨b, j, none⟩ = false := by
  simp [World.frozen?, h]
theorem heap_lt {w : World} {b : Nat} {o : Obj} (h : w.heap[b]? = some o) : b < w.heap.size := (Array.getElem?_eq_some_iff.1 h).1
theorem heap_set {w : World} {b i : Nat} {cs : Array Value} {T : TypeId} (v : Value) (h : w.heap[b]? = some (.cells cs T (0, 0))) : (w.setCell ⟨b, i, none⟩ v).heap[b]? = some (.cells (cs.setIfInBounds i v) T (0, 0)) :=
  heap_setCell_same w b i cs T v h
/-- block b has come to hold cs; nothing else that lay in w has turned -/
def Blk (b : Nat) (cs : Array Value) (T : TypeId) (w w' : World) : Prop := w'.heap[b]? = some (.cells cs T (0, 0)) ∧ w.grownBy w' (some b)
theorem Blk.start {b : Nat} {cs : Array Value} {T : TypeId} {w : World} (h : w.heap[b]? = some (.cells cs T (0, 0))) : Blk b cs T w w := ⟨h, grown_refl _ _⟩
theorem Blk.set {b : Nat} {cs : Array Value} {T : TypeId} {w w' : World} (h : Blk b cs T w w') (i : Nat) (v : Value) : Blk b (cs.setIfInBounds i v) T w (w'.setCell ⟨b, i, none⟩ v) := ⟨heap_set v h.1, grown_set h.2 v⟩
theorem Blk.drew {b : Nat} {cs : Array Value} {T : TypeId} {w w' : World} (h : Blk b cs T w w') : Blk b cs T w w'.drew := ⟨h.1, grown_drew h.2⟩
theorem Blk.alloc {b : Nat} {cs : Array Value} {T : TypeId} {w w' : World} (h : Blk b cs T w w') (o : Obj) : Blk b cs T w (w'.alloc o) := ⟨(Below.heap_alloc w' o b (heap_lt h.1)).trans h.1, grown_alloc h.2 o⟩
theorem Blk.trans {b : Nat} {cs cs' : Array Value} {T : TypeId} {w w' w'' : World} (h : Blk b cs T w w') (k : Blk b cs' T w' w'') : Blk b cs' T w w'' := ⟨k.1, grown_trans h.2 k.2⟩
theorem Blk.below {b : Nat} {cs : Array Value} {T : TypeId} {w w' w'' : World} (h : Blk b cs T w w') (k : Below w'.heap.size w' w'') : Blk b cs T w w'' := ⟨heap_below k h.1, grown_trans h.2 (grown_below k)⟩
theorem Blk.cast {b : Nat} {cs cs' : Array Value} {T : TypeId} {w w' : World} (h : Blk b cs T w w') (e : cs = cs') : Blk b cs' T w w' := e ▸ h
theorem Blk.drewN {b : Nat} {cs : Array Value} {T : TypeId} {w w' : World} (h : Blk b cs T w w') (n : Nat) : Blk b cs T w (w'.drewN n) := ⟨h.1, ⟨h.2.os, h.2.tape, h.2.output, h.2.size, h.2.block⟩⟩
end Go.Proofs.YtafkndhnbnpahaaGreat
