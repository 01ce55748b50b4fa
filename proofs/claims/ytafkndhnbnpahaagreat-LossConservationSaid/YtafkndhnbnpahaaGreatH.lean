/- Law 13: the makers of a frame's parts. -/
import Derived.Test.YtafkndhnbnpahaaGreatHeld
import Derived.Test.YtafkndhnbnpahaaGreatMap
import Derived.Test.YtafkndhnbnpahaaGreatG
namespace Go.Proofs.YtafkndhnbnpahaaGreat
open Go.RowKit
def fnv (k : Nat) : Value := .func (.func k) #[] #[]
/-- what integer(m, field k) hands back, its boxes at n and n + 1 -/
def intP (n : Nat) : Array Value := #[.func (.func 106) #[] #[.pointer (some ⟨n + 1, 0, none⟩), .pointer (some ⟨n, 0, none⟩)], .func (.func 108) #[] #[.pointer (some ⟨n + 1, 0, none⟩)], .func (.func 110) #[] #[.pointer (some ⟨n + 1, 0, none⟩)]]
def txtP (n : Nat) : Array Value := #[.func (.func 111) #[] #[.pointer (some ⟨n, 0, none⟩), .pointer (some ⟨n + 1, 0, none⟩)], fnv 112, fnv 114]
def fixP (n : Nat) : Array Value := #[.func (.func 115) #[] #[.pointer (some ⟨n + 1, 0, none⟩), .pointer (some ⟨n, 0, none⟩)], .func (.func 116) #[] #[.pointer (some ⟨n, 0, none⟩), .pointer (some ⟨n + 1, 0, none⟩)], .func (.func 117) #[] #[.pointer (some ⟨n + 1, 0, none⟩)]]
def uniP : Array Value := #[fnv 120, fnv 121, fnv 122]
def retP (n : Nat) : Array Value := #[fnv 124, .func (.func 108) #[] #[.pointer (some ⟨n + 1, 0, none⟩)], .func (.func 110) #[] #[.pointer (some ⟨n + 1, 0, none⟩)]]
set_option maxRecDepth 100000 in
set_option maxHeartbeats 2000000 in
theorem integer_any (m : Int) (k : Nat) (w : World) : Calls Tryz.prog 85 #[.int .i64 m, fnv k] w fun e w' =>
    e = .returned (.agg (intP w.heap.size)) ∧ w'.heap[w.heap.size]? = some (.cells #[.int .i64 m] 3 (0, 0)) ∧ w'.heap[w.heap.size + 1]? = some (.cells #[fnv k] 131 (0, 0)) ∧ Below w.heap.size w w' := by
  have F := Lib.hid (fun o => box3 w (.cells #[.int .i64 m] 3) (.cells #[fnv k] 131) o)
  unfold fnv intP at *
  go_enter Tryz.func85, Tryz.ntmps85
  go_wp2
  refine bodyPost_ret (v := .agg (intP w.heap.size)) (by simp [results, Tryz.results85, go_sem, intP]) rfl ⟨rfl, (F.out _).1, (F.out _).2.1, (F.out _).2.2.2.1⟩
set_option maxRecDepth 100000 in
set_option maxHeartbeats 2000000 in
theorem text_any (l m : Int) (w : World) : Calls Tryz.prog 93 #[.int .i64 l, .int .i64 m] w fun e w' =>
    e = .returned (.agg (txtP w.heap.size)) ∧ w'.heap[w.heap.size]? = some (.cells #[.int .i64 l] 3 (0, 0)) ∧ w'.heap[w.heap.size + 1]? = some (.cells #[.int .i64 m] 3 (0, 0)) ∧ Below w.heap.size w w' := by
  have F := Lib.hid (fun o => box3 w (.cells #[.int .i64 l] 3) (.cells #[.int .i64 m] 3) o)
  unfold txtP fnv at *
  go_enter Tryz.func93, Tryz.ntmps93
  go_wp2
  refine bodyPost_ret (v := .agg (txtP w.heap.size)) (by simp [results, Tryz.results93, go_sem, txtP, fnv]) rfl ⟨rfl, (F.out _).1, (F.out _).2.1, (F.out _).2.2.2.1⟩
set_option maxRecDepth 100000 in
set_option maxHeartbeats 2000000 in
theorem fixed_any (m : Int) (k : Nat) (w : World) : Calls Tryz.prog 94 #[.int .i64 m, fnv k] w fun e w' =>
    e = .returned (.agg (fixP w.heap.size)) ∧ w'.heap[w.heap.size]? = some (.cells #[.int .i64 m] 3 (0, 0)) ∧ w'.heap[w.heap.size + 1]? = some (.cells #[fnv k] 135 (0, 0)) ∧ Below w.heap.size w w' := by
  have F := Lib.hid (fun o => box3 w (.cells #[.int .i64 m] 3) (.cells #[fnv k] 135) o)
  unfold fnv fixP at *
  go_enter Tryz.func94, Tryz.ntmps94
  go_wp2
  refine bodyPost_ret (v := .agg (fixP w.heap.size)) (by simp [results, Tryz.results94, go_sem, fixP]) rfl ⟨rfl, (F.out _).1, (F.out _).2.1, (F.out _).2.2.2.1⟩
set_option maxRecDepth 100000 in
set_option maxHeartbeats 2000000 in
theorem uni_any (w : World) : Calls Tryz.prog 100 #[] w fun e w' => e = .returned (.agg uniP) ∧ Below w.heap.size w w' := by
  unfold uniP fnv
  go_enter Tryz.func100, Tryz.ntmps100
  go_wp2
  refine bodyPost_ret (v := .agg uniP) (by simp [results, Tryz.results100, go_sem, uniP, fnv]) rfl ⟨rfl, (Below.refl _ _).alloc (Nat.le_refl _) _⟩
end Go.Proofs.YtafkndhnbnpahaaGreat
