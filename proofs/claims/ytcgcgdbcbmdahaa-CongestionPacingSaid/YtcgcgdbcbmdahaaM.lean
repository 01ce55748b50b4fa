import Derived.Test.YtcgcgdbcbmdahaaA
import Derived.Maps.Own
import Derived.MapKept
namespace Go.Proofs.Ytcgcgdbcbmdahaa
open Go.RowKit
theorem set_last (W : World) (o o' : Obj) : { (W.alloc o).drew with heap := (W.alloc o).drew.heap.setIfInBounds W.heap.size o' } = (W.alloc o').drew := by
  have : (W.alloc o).heap.setIfInBounds W.heap.size o' = (W.alloc o').heap := by
    show (W.heap.push o).setIfInBounds W.heap.size o' = W.heap.push o'
    apply Array.ext_getElem?
    intro i
    by_cases h : W.heap.size = i
    · subst h; simp
    · have h' : ¬ i = W.heap.size := fun e => h e.symm
      simp [Array.getElem?_setIfInBounds_ne h, Array.getElem?_push, h']
  show World.mk _ _ _ _ _ = World.mk _ _ _ _ _
  congr 1
theorem last_drew (W : World) (o : Obj) : (W.alloc o).drew.heap[W.heap.size]? = some o := heap_alloc_new W o
theorem check_bool (x e : Bool) (w : World) : (Instr.checkKey e 10000 4 (.bool x)).run Try.prog w = .ok () w := by kernel_rfl
theorem run_insert_bool (W : World) (es : Array MapEntry) (clock : Nat) (x : Bool) (v : Value) (hn : Instr.findNow .bool (.bool x) es.toList 0 = some none) :
    (Instr.mapUpdate 53 (.map (some W.heap.size)) (.bool x) v).run Try.prog ((W.alloc (.map es clock)).drew) = .ok () ((W.alloc (.map (es.push ⟨.bool x, v, clock⟩) (clock + 1))).drew) := by
  have hr := last_drew W (.map es clock)
  have e2 : ∀ w, (Instr.findKey 4 (.bool x) es.toList).run Try.prog w = .ok none w := by
    intro w
    simp only [Instr.findKey, Sem.run_bind, run_underlying Try.underlying4, Result.andThen_ok, hn]; rfl
  simp only [Instr.mapUpdate, Sem.run_bind, run_underlying Try.underlying53, Result.andThen_ok, MapKept.run_getObj_map hr, check_bool, e2, MapKept.run_setObj_map _ hr, set_last]
theorem run_look_bool (W : World) (es : Array MapEntry) (clock : Nat) (x : Bool) (i : Nat) (v : Value) (r : Nat) (hr : W.heap[r]? = some (.map es clock)) (hn : Instr.findNow .bool (.bool x) es.toList 0 = some (some (i, v))) :
    (Instr.lookup 53 (.map (some r)) (.bool x) false).run Try.prog W = .ok v W := by
  have e2 : ∀ w, (Instr.findKey 4 (.bool x) es.toList).run Try.prog w = .ok (some (i, v)) w := by
    intro w
    simp only [Instr.findKey, Sem.run_bind, run_underlying Try.underlying4, Result.andThen_ok, hn]; rfl
  simp [Instr.lookup, Sem.run_bind, run_underlying Try.underlying53, MapKept.run_getObj_map hr, check_bool, e2]
end Go.Proofs.Ytcgcgdbcbmdahaa
