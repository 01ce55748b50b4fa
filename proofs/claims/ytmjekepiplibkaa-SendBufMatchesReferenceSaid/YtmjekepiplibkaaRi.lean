/- The law's samePiece, of one frame with itself. -/
import Derived.Test.YtmjekepiplibkaaRh
import Derived.Deep.DeepCutAuto
import Derived.Deep.CutBlock
namespace Go.Proofs.Ytmjekepiplibkaa
open Go.RowKit
structure Box9 (w : World) (g : Nat) (ty off : Int) (s : ByteArray) (fin : Bool) : Prop where
  d0 : w.cell? ⟨g, 0, none⟩ = some (.int .i64 ty)
  d1 : w.cell? ⟨g, 1, none⟩ = some (.int .i64 0)
  d2 : w.cell? ⟨g, 2, none⟩ = some (.int .i64 off)
  d3 : w.cell? ⟨g, 3, none⟩ = some (.string s)
  d4 : w.cell? ⟨g, 4, none⟩ = some (.bool fin)
  d5 : w.cell? ⟨g, 5, none⟩ = some (.int .i64 0)
  d6 : w.cell? ⟨g, 6, none⟩ = some (.int .i64 0)
  d9 : w.cell? ⟨g, 9, none⟩ = some (.slice none 0 0)
  d12 : w.cell? ⟨g, 12, none⟩ = some (.string ⟨#[]⟩)
theorem Box9.of {w : World} {g : Nat} {ty off : Int} {s : ByteArray} {fin : Bool} (h : w.heap[g]? = some (.cells (mkFr ty off s fin).cells 35 (0, 0))) : Box9 w g ty off s fin :=
  ⟨cell_whole h 0, cell_whole h 1, cell_whole h 2, cell_whole h 3, cell_whole h 4, cell_whole h 5, cell_whole h 6, cell_whole h 9, cell_whole h 12⟩
set_option maxRecDepth 100000 in
set_option maxHeartbeats 4000000 in
theorem samePiece_any (ty off : Int) (s : ByteArray) (fin : Bool) (w : World) :
    Calls Try.prog 26 #[(mkFr ty off s fin).val, (mkFr ty off s fin).val] w fun e w' => e = .returned (.bool true) ∧ Below w.heap.size w w' := by
  have HB : Hid (Below w.heap.size w ((w.alloc (.cells (mkFr ty off s fin).cells 35)).alloc (.cells (mkFr ty off s fin).cells 35))) := Lib.hid (((Below.refl _ w).alloc (Nat.le_refl _) _).alloc (by simp) _)
  have HQ0 : Hid (((w.alloc (.cells (mkFr ty off s fin).cells 35)).alloc (.cells (mkFr ty off s fin).cells 35)).heap[w.heap.size]? = some (.cells (mkFr ty off s fin).cells 35 (0, 0))) := Lib.hid ((Below.heap_alloc _ _ _ (by simp)).trans (heap_alloc_new w _))
  have HQ1 : Hid (((w.alloc (.cells (mkFr ty off s fin).cells 35)).alloc (.cells (mkFr ty off s fin).cells 35)).heap[w.heap.size + 1]? = some (.cells (mkFr ty off s fin).cells 35 (0, 0))) := Lib.hid (by have := heap_alloc_new (w.alloc (.cells (mkFr ty off s fin).cells 35)) (.cells (mkFr ty off s fin).cells 35); simpa using this)
  cases fin
  all_goals
    change Calls Try.prog 26 #[.agg (mkFr ty off s _).cells, .agg (mkFr ty off s _).cells] w _
    go_enter Try.func26, Try.ntmps26
    go_upto_region 1 with (fail)
    change Code.wp _ _ _ _ ((w.alloc (.cells (mkFr ty off s _).cells 35)).alloc (.cells (mkFr ty off s _).cells 35))
    generalize (w.alloc (.cells (mkFr ty off s _).cells 35)).alloc (.cells (mkFr ty off s _).cells 35) = W1 at *
    obtain ⟨a0, a1, a2, a3, a4, a5, a6, a9, a12⟩ := Box9.of HQ0.out
    obtain ⟨b0, b1, b2, b3, b4, b5, b6, b9, b12⟩ := Box9.of HQ1.out
    go_wp2
    go_ret
    exact ⟨rfl, HB.out⟩
end Go.Proofs.Ytmjekepiplibkaa
