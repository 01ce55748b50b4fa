/- Law 13: numbers of packets sent; frames of the call's own. -/
import Derived.Test.YtafkndhnbnpahaaGreatZi
namespace Go.Proofs.YtafkndhnbnpahaaGreat
open Go.RowKit
/-- n packets f 0, f 1 .. sent -/
def sends (f : Nat → Pk) (n : Nat) : Rc := ⟨(List.range n).map f, n, -1⟩
theorem sends_zero (f : Nat → Pk) : sends f 0 = ⟨[], 0, -1⟩ := rfl
theorem sends_succ (f : Nat → Pk) (n : Nat) : (sends f n).add (f n) = sends f (n + 1) := by
  unfold sends Rc.add
  simp [List.range_succ]
theorem pick_small (x m : Int) (h0 : 0 ≤ x) (h1 : x < m) : pickF x m = x := by
  unfold pickF
  rw [if_neg (by omega)]
  exact Int.emod_eq_of_lt h0 h1
def spR (v : Value) (l : List (Int × Int)) : Rw := ⟨51, 2, v, l.length, scs l⟩
variable {w0 w : World} {b M : Nat} {R : Rc} {rows : List Rw} {os : List (Nat × Obj)}
/-- the spans of a frame of the call's own, for Ack -/
theorem Lw.spans (h : Lw w0 w b M R rows os) {v : Value} {l : List (Int × Int)} (hx : spR v l ∈ rows) (h0 : 0 < l.length) :
    SpansAt w v l.length (fF l) (fT l) ∧ (∀ g o c, v = .slice (some ⟨g, o, none⟩) l.length c → g ≠ b) ∧ ∃ g c, v = .slice (some ⟨g, 0, none⟩) l.length c := by
  obtain ⟨g, cap, cur, rfl, _, q2, q3⟩ := spans_of_row (h.rows _ hx).1 h0
  refine ⟨q2, fun g' o c e => ?_, _, _, rfl⟩
  cases e
  intro e
  subst e
  have := h.at_.1
  rw [q3] at this
  cases this
theorem Lw.alloc (h : Lw w0 w b M R rows os) (o : Obj) (hc : isC o = true) : Lw w0 (w.alloc o) b M R rows ((w.heap.size, o) :: os) :=
  (h.below ((Below.refl _ w).alloc (Nat.le_refl _) o)).addOb (heap_alloc_new w o) hc (fun e => by have := heap_lt h.at_.1; omega)
/-- RangesFrom beside a Recovery -/
theorem lw_ranges (h : Lw w0 w b M R rows os) {v : Value} {n0 : Nat} {F0 T0 : Nat → Int} (lg : Int) (hA : SpArg w v n0 F0 T0) (hl : -9223372036854775808 ≤ lg) (hl' : lg ≤ 9223372036854775807) (hn0 : n0 ≤ 9223372036854775807) :
    Calls Tryz.prog 21 #[v, .int .i64 lg] w fun e w' => ∃ r l, e = .returned r ∧ RgOk (List.length l) (fF l) (fT l) ∧ fT l 0 = 1 + pickF lg 1073741824 ∧ (∃ a c, r = .slice a l.length c) ∧ Lw w0 w' b M R (spR r l :: rows) os ∧ Below w.heap.size w w' := by
  refine (ranges_any v n0 F0 T0 lg w hA hl hl' hn0).mono ?_
  rintro e w' ⟨r, l, rfl, h1, h2, h3, h4⟩
  have hf : ∃ a c, r = .slice a l.length c := by
    obtain ⟨g, cap, cur, rfl, _⟩ := spans_of_row h2 h1.lo
    exact ⟨_, _, rfl⟩
  exact ⟨r, l, rfl, h1, h3, hf, (h.below h4).addRow (spR r l) (ownsRow_base_a h2 h.bel.size) (show (51 : Nat) ≠ 75 by decide), h4⟩
end Go.Proofs.YtafkndhnbnpahaaGreat
