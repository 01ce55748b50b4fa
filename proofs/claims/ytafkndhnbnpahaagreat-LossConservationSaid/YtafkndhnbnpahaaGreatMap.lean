/- Maps of the call's own whose elements may be of any type: the elements are carried as they are (a reading that hands on the value itself). -/
import Derived.Test.YtafkndhnbnpahaaGreatObj
import Derived.Maps.OwnOps
import Derived.Maps.OwnSet
import Derived.Maps.Views
namespace Go.Proofs.YtafkndhnbnpahaaGreat
open Go.RowKit Go.Maps
/-- an element reads as itself -/
def self (v : Value) : Option (DataW Value × List MemPlace) := some (.held v, [])
/-- block b is a map of at most n entries that holds D; the keys are of type k -/
def MapAt (w : World) (k : TypeId) (b n : Nat) (D : DataW Value) : Prop := w.ownsMap Tryz.prog k self b n D
theorem MapAt.made (w : World) (k : TypeId) : MapAt (w.alloc (.map #[] 0)) k w.heap.size 0 (.map []) := World.ownsMap_made _ _ _ _
theorem MapAt.lt {w : World} {k : TypeId} {b n : Nat} {D : DataW Value} (h : MapAt w k b n D) : b < w.heap.size := World.ownsMap.lt h
theorem MapAt.grown {w w' : World} {k : TypeId} {b n : Nat} {D : DataW Value} {r : Option Nat} (h : MapAt w k b n D) (hg : w.grownBy w' r) (hne : some b ≠ r) : MapAt w' k b n D := World.ownsMap.kept h hg hne
theorem MapAt.below {w w' : World} {k : TypeId} {b n : Nat} {D : DataW Value} (h : MapAt w k b n D) (hb : Below w.heap.size w w') : MapAt w' k b n D := h.grown (grown_below (r := none) hb) (by simp)
theorem MapAt.alloc {w : World} {k : TypeId} {b n : Nat} {D : DataW Value} (h : MapAt w k b n D) (o : Obj) : MapAt (w.alloc o) k b n D := World.ownsMap.alloc h o
theorem MapAt.look {w : World} {k : TypeId} {b n : Nat} {D : DataW Value} (h : MapAt w k b n D) {t e : TypeId} (K : Keyed Tryz.prog k) (ht : Tryz.prog.underlying t = some (.map k e)) {z : Value} (hz : (zeroValue e).run Tryz.prog w = .ok z w)
    {key : Value} {kl : Lit} (hkey : keyOf Tryz.prog k key = some kl) {v : Value} (hv : D.atKey kl (.held z) = .held v) :
    (Instr.lookup t (.map (some b)) key false).run Tryz.prog w = .ok v w := by
  obtain ⟨v', ps, hrun, hR⟩ := World.ownsMap.lookup h K ht hz (zd := .held z) (zp := []) rfl hkey
  rw [hv] at hR
  simp only [self, Option.some.injEq, Prod.mk.injEq, DataW.held.injEq] at hR
  rw [← hR.1]
  exact hrun
theorem MapAt.look_ok {w : World} {k : TypeId} {b n : Nat} {D : DataW Value} (h : MapAt w k b n D) {t e : TypeId} (K : Keyed Tryz.prog k) (ht : Tryz.prog.underlying t = some (.map k e)) {z : Value} (hz : (zeroValue e).run Tryz.prog w = .ok z w)
    {key : Value} {kl : Lit} (hkey : keyOf Tryz.prog k key = some kl) {v : Value} (hv : D.atKey kl (.held z) = .held v) :
    (Instr.lookup t (.map (some b)) key true).run Tryz.prog w = .ok (.tuple #[v, .bool (Maps.has D kl)]) w := by
  obtain ⟨v', ps, hrun, hR⟩ := World.ownsMap.look_ok h K ht hz (zd := .held z) (zp := []) rfl hkey
  rw [hv] at hR
  simp only [self, Option.some.injEq, Prod.mk.injEq, DataW.held.injEq] at hR
  rw [← hR.1]
  exact hrun
theorem MapAt.put {w : World} {k : TypeId} {b n : Nat} {D : DataW Value} (h : MapAt w k b n D) {t e : TypeId} (K : Keyed Tryz.prog k) (ht : Tryz.prog.underlying t = some (.map k e)) (hn : n < maxLen) {key : Value} (val : Value) {kl : Lit}
    (hkey : keyOf Tryz.prog k key = some kl) : ∃ w', (Instr.mapUpdate t (.map (some b)) key val).run Tryz.prog w = .ok () w' ∧ MapAt w' k b (n + 1) (D.put kl (.held val)) ∧ w.grownBy w' (some b) :=
  World.ownsMap.update h K ht hn hkey rfl
/-- 'm[k] = v' in a literal of a map -/
theorem wpList_insert_own (w : World) {ops : Array Oper} {rest : List Oper} {o : Oper} {a : Act} {Q : Exit → Act → World → Prop}
    (hg : o.guard = none) (m x v : Operand) (t : TypeId) (hop : o.op = Op.insert t m x v)
    (k e : TypeId) (K : Keyed Tryz.prog k) (ht : Tryz.prog.underlying t = some (.map k e)) (b n : Nat) (D : DataW Value)
    (hm : a.eval m = .map (some b)) (hown : MapAt w k b n D) (hn : n < maxLen) (key val : Value) (kl : Lit) (hx : a.eval x = key) (hv : a.eval v = val) (hkey : keyOf Tryz.prog k key = some kl)
    (hK : ∀ w', MapAt w' k b (n + 1) (D.put kl (.held val)) → w.grownBy w' (some b) → wpList Tryz.prog ops Q rest (a.put o.dst undef) w') :
    wpList Tryz.prog ops Q (o :: rest) a w := by
  refine wpList_plain hg fun K' hK' => ?_
  obtain ⟨w', hrun, r1, r2⟩ := hown.put K ht hn val hkey
  unfold Oper.wp
  simp [execOp, hop, hm, hx, hv, hrun, Result.andThen]
  exact hK' _ _ (hK w' r1 r2)
end Go.Proofs.YtafkndhnbnpahaaGreat
