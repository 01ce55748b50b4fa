/- Law 13: the conditions on packets. -/
import Derived.Test.YtafkndhnbnpahaaGreatV
import Derived.Test.YtafkndhnbnpahaaGreatS
import Derived.BigQuiet
namespace Go.Proofs.YtafkndhnbnpahaaGreat
open Go.RowKit
set_option maxRecDepth 100000 in
set_option maxHeartbeats 2000000 in
theorem want46 (p : Pk) (w : World) : Calls Tryz.prog 46 #[p.val] w fun e w' => e = .returned (.bool true) ∧ Below w.heap.size w w' := by
  simp only [Pk.val]
  go_enter Tryz.func46, Tryz.ntmps46
  go_wp2
  go_ret
  exact ⟨rfl, (Below.refl _ _).alloc (Nat.le_refl _) _⟩
set_option maxRecDepth 100000 in
set_option maxHeartbeats 2000000 in
theorem want52 (p : Pk) (w : World) : Calls Tryz.prog 52 #[p.val] w fun e w' => e = .returned (.bool true) ∧ Below w.heap.size w w' := by
  simp only [Pk.val]
  go_enter Tryz.func52, Tryz.ntmps52
  go_wp2
  go_ret
  exact ⟨rfl, (Below.refl _ _).alloc (Nat.le_refl _) _⟩
set_option maxRecDepth 100000 in
set_option maxHeartbeats 2000000 in
theorem want57 (p : Pk) (w : World) : Calls Tryz.prog 57 #[p.val] w fun e w' => e = .returned (.bool p.el) ∧ Below w.heap.size w w' := by
  simp only [Pk.val, Pk.cells]
  go_enter Tryz.func57, Tryz.ntmps57
  go_wp2
  go_ret
  exact ⟨rfl, (Below.refl _ _).alloc (Nat.le_refl _) _⟩
def dlF (lg : Int) (p : Pk) : Bool := decide (p.pn < lg)
set_option maxRecDepth 100000 in
set_option maxHeartbeats 2000000 in
theorem want50 (p : Pk) (B b : Nat) (lg : Int) (w : World) (hB : w.cell? ⟨B, 0, none⟩ = some (.pointer (some ⟨b, 0, none⟩))) (hb : w.cell? ⟨b, 2, none⟩ = some (.int .i64 lg)) :
    Calls Tryz.prog 50 #[p.val, .pointer (some ⟨B, 0, none⟩)] w fun e w' => e = .returned (.bool (dlF lg p)) ∧ Below w.heap.size w w' := by
  simp only [Pk.val, Pk.cells]
  have hBl := World.block_lt_of_cell? _ _ hB
  have hbl := World.block_lt_of_cell? _ _ hb
  have H := Lib.hid (box1 w (.cells #[.int .i64 p.pn, .int .i64 p.time, .int .i64 p.size, .bool p.el, p.fv] 32))
  have E := Lib.hid (show dlF lg p = decide (p.pn < lg) from rfl)
  go_enter Tryz.func50, Tryz.ntmps50
  go_wp2
  have c1 := at_whole H.out.1 0 rfl
  have c2 : (w.alloc (.cells #[.int .i64 p.pn, .int .i64 p.time, .int .i64 p.size, .bool p.el, p.fv] 32)).cell? ⟨B, 0, none⟩ = some (.pointer (some ⟨b, 0, none⟩)) := (H.out.2.1.cell (p := ⟨B, 0, none⟩) hBl).trans hB
  have c3 : (w.alloc (.cells #[.int .i64 p.pn, .int .i64 p.time, .int .i64 p.size, .bool p.el, p.fv] 32)).cell? ⟨b, 2, none⟩ = some (.int .i64 lg) := (H.out.2.1.cell (p := ⟨b, 2, none⟩) hbl).trans hb
  simp only [List.getElem_toArray, List.getElem_cons_zero] at c1
  generalize w.alloc _ = W at c1 c2 c3 H ⊢
  go_quiet (fail)
  go_wp2
  go_ret
  exact ⟨by rw [E.out]; rfl, belowN H.out.2.1 _⟩
def exF (lg now d : Int) (p : Pk) : Bool := decide (p.pn < lg) && (decide (p.pn + 3 ≤ lg) || decide (p.time ≤ now - d))
set_option maxRecDepth 100000 in
set_option maxHeartbeats 4000000 in
theorem want39 (p : Pk) (B3 B4 B5 b : Nat) (lg now d : Int) (w : World) (h3 : w.cell? ⟨B3, 0, none⟩ = some (.pointer (some ⟨b, 0, none⟩))) (h4 : w.cell? ⟨B4, 0, none⟩ = some (.int .i64 now)) (h5 : w.cell? ⟨B5, 0, none⟩ = some (.int .i64 d))
    (hb : w.cell? ⟨b, 2, none⟩ = some (.int .i64 lg)) (hp : 0 ≤ p.pn ∧ p.pn ≤ 281474976710656) (hn : 0 ≤ now) (hn' : now ≤ 9223372036854775807) (hd : 0 ≤ d) (hd' : d ≤ 9223372036854775807) :
    Calls Tryz.prog 39 #[p.val, .pointer (some ⟨B3, 0, none⟩), .pointer (some ⟨B4, 0, none⟩), .pointer (some ⟨B5, 0, none⟩)] w fun e w' => e = .returned (.bool (exF lg now d p)) ∧ Below w.heap.size w w' := by
  simp only [Pk.val, Pk.cells]
  have l3 := World.block_lt_of_cell? _ _ h3
  have l4 := World.block_lt_of_cell? _ _ h4
  have l5 := World.block_lt_of_cell? _ _ h5
  have lb := World.block_lt_of_cell? _ _ hb
  obtain ⟨hp0, hp1⟩ := hp
  have H := Lib.hid (box1 w (.cells #[.int .i64 p.pn, .int .i64 p.time, .int .i64 p.size, .bool p.el, p.fv] 32))
  have E := Lib.hid (show exF lg now d p = (decide (p.pn < lg) && (decide (p.pn + 3 ≤ lg) || decide (p.time ≤ now - d))) from rfl)
  have c1 := at_whole H.out.1 0 rfl
  have c1' := at_whole H.out.1 1 rfl
  have c3 : (w.alloc (.cells #[.int .i64 p.pn, .int .i64 p.time, .int .i64 p.size, .bool p.el, p.fv] 32)).cell? ⟨B3, 0, none⟩ = some (.pointer (some ⟨b, 0, none⟩)) := (H.out.2.1.cell (p := ⟨B3, 0, none⟩) l3).trans h3
  have c4 : (w.alloc (.cells #[.int .i64 p.pn, .int .i64 p.time, .int .i64 p.size, .bool p.el, p.fv] 32)).cell? ⟨B4, 0, none⟩ = some (.int .i64 now) := (H.out.2.1.cell (p := ⟨B4, 0, none⟩) l4).trans h4
  have c5 : (w.alloc (.cells #[.int .i64 p.pn, .int .i64 p.time, .int .i64 p.size, .bool p.el, p.fv] 32)).cell? ⟨B5, 0, none⟩ = some (.int .i64 d) := (H.out.2.1.cell (p := ⟨B5, 0, none⟩) l5).trans h5
  have cb : (w.alloc (.cells #[.int .i64 p.pn, .int .i64 p.time, .int .i64 p.size, .bool p.el, p.fv] 32)).cell? ⟨b, 2, none⟩ = some (.int .i64 lg) := (H.out.2.1.cell (p := ⟨b, 2, none⟩) lb).trans hb
  simp only [List.getElem_toArray, List.getElem_cons_zero, List.getElem_cons_succ] at c1 c1'
  have w1 : IntKind.i64.wrap (p.pn + 3) = p.pn + 3 := IntWalk.i64_in _ (by omega)
  have w2 : IntKind.i64.wrap (now - d) = now - d := IntWalk.i64_in _ (by omega)
  clear h3 h4 h5 hb l3 l4 l5 lb
  cases a1 : decide (p.pn < lg) with
  | false =>
    rw [a1] at E
    go_enter Tryz.func39, Tryz.ntmps39
    go_wp2
    generalize w.alloc _ = W at c1 c1' c3 c4 c5 cb H ⊢
    go_quiet (fail)
    go_wp2
    go_ret
    exact ⟨by rw [E.out]; rfl, belowN H.out.2.1 _⟩
  | true =>
    rw [a1] at E
    cases a2 : decide (p.pn + 3 ≤ lg) with
    | true =>
      rw [a2] at E
      go_enter Tryz.func39, Tryz.ntmps39
      go_wp2
      generalize w.alloc _ = W at c1 c1' c3 c4 c5 cb H ⊢
      go_quiet (fail)
      go_wp2
      go_ret
      exact ⟨by rw [E.out]; rfl, belowN H.out.2.1 _⟩
    | false =>
      rw [a2] at E
      go_enter Tryz.func39, Tryz.ntmps39
      go_wp2
      generalize w.alloc _ = W at c1 c1' c3 c4 c5 cb H ⊢
      go_quiet (fail)
      go_wp2
      go_ret
      exact ⟨by rw [E.out]; rfl, belowN H.out.2.1 _⟩
end Go.Proofs.YtafkndhnbnpahaaGreat
