/- A call's own new blocks, listed: what they hold, whatever is made or written elsewhere; a map of the call's own beside them. -/
import Derived.Test.YtafkndhnbnpahaaGreatMap
import Derived.Test.YtafkndhnbnpahaaGreatHeld
import Derived.Laws.Rows
namespace Go.Proofs.YtafkndhnbnpahaaGreat
open Go.RowKit
def isC : Obj → Bool
  | .cells _ _ _ => true
  | _ => false
/-- the blocks of the list hold what the list says; nothing that lay in w0 has turned -/
structure Os (w0 : World) (os : List (Nat × Obj)) (w : World) : Prop where
  bel : Below w0.heap.size w0 w
  ho : ∀ x ∈ os, w.heap[x.1]? = some x.2 ∧ isC x.2 = true
theorem Os.start (w0 : World) : Os w0 [] w0 := ⟨Below.refl _ _, fun x hx => by cases hx⟩
variable {w0 w w' : World} {os : List (Nat × Obj)}
theorem Os.below (h : Os w0 os w) (hb : Below w.heap.size w w') : Os w0 os w' := ⟨btrans h.bel hb, fun x hx => ⟨heap_below hb (h.ho x hx).1, (h.ho x hx).2⟩⟩
theorem Os.drewN (h : Os w0 os w) (n : Nat) : Os w0 os (w.drewN n) := ⟨belowN h.bel n, h.ho⟩
theorem Os.drew (h : Os w0 os w) : Os w0 os w.drew := ⟨h.bel.drew, h.ho⟩
theorem Os.add (h : Os w0 os w) {k : Nat} {o : Obj} (hk : w.heap[k]? = some o) (hc : isC o = true) : Os w0 ((k, o) :: os) w :=
  by
  refine ⟨h.bel, fun x hx => ?_⟩
  rcases List.mem_cons.1 hx with rfl | hx
  · exact ⟨hk, hc⟩
  · exact h.ho x hx
theorem Os.alloc (h : Os w0 os w) (o : Obj) (hc : isC o = true) : Os w0 ((w.heap.size, o) :: os) (w.alloc o) :=
  (h.below ((Below.refl _ w).alloc (Nat.le_refl _) o)).add (heap_alloc_new w o) hc
theorem Os.at (h : Os w0 os w) {k : Nat} {o : Obj} (hx : (k, o) ∈ os) : w.heap[k]? = some o := (h.ho _ hx).1
theorem Os.sub {os' : List (Nat × Obj)} (h : Os w0 os w) (hs : ∀ x ∈ os', x ∈ os) : Os w0 os' w := ⟨h.bel, fun x hx => h.ho x (hs x hx)⟩
theorem MapAt.no_cells {k : TypeId} {b n : Nat} {D : DataW Value} (h : MapAt w k b n D) {o : Obj} (ho : w.heap[b]? = some o) : isC o = false := by
  obtain ⟨es, clock, hb, _⟩ := h
  rw [hb] at ho
  cases ho
  rfl
theorem Os.insert (h : Os w0 os w) {k : TypeId} {b n : Nat} {D : DataW Value} (hm : MapAt w k b n D) (hb : w0.heap.size ≤ b) (hg : w.grownBy w' (some b)) : Os w0 os w' :=
  ⟨below_grown h.bel hg hb, fun x hx => ⟨heap_grown hg (h.ho x hx).1 (fun e => by have := hm.no_cells (e ▸ (h.ho x hx).1); rw [(h.ho x hx).2] at this; cases this), (h.ho x hx).2⟩⟩
end Go.Proofs.YtafkndhnbnpahaaGreat
