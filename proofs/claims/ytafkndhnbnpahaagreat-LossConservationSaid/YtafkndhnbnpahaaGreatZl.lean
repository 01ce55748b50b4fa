/- Law 13: plain laws on what is left behind ACK frames. -/
import Derived.Test.YtafkndhnbnpahaaGreatZk
namespace Go.Proofs.YtafkndhnbnpahaaGreat
theorem acked_sub (R : Rc) (n : Nat) (F T : Nat → Int) (now d : Int) : ∀ p ∈ (R.acked n F T now d).l, p ∈ R.l ∧ akF n F T p = false ∧ exF (max R.lg (T 0 - 1)) now d p = false := by
  intro p hp
  obtain ⟨h1, h2⟩ := List.mem_filter.1 hp
  obtain ⟨h3, h4⟩ := List.mem_filter.1 h1
  exact ⟨h3, by simpa using h4, by simpa [Rc.ack] using h2⟩
/-- the same frame again: nothing is acknowledged, nothing lost -/
theorem acked_again (R : Rc) (n : Nat) (F T : Nat → Int) (now d : Int) :
    (R.acked n F T now d).l.filter (akF n F T) = [] ∧ (R.acked n F T now d).lostA n F T now d = [] ∧ (R.acked n F T now d).acked n F T now d = R.acked n F T now d := by
  have h := acked_sub R n F T now d
  have hlg : (R.acked n F T now d).lg = max R.lg (T 0 - 1) := rfl
  have e : max (max R.lg (T 0 - 1)) (T 0 - 1) = max R.lg (T 0 - 1) := by omega
  generalize R.acked n F T now d = Q at *
  have ha : Q.l.filter (akF n F T) = [] := List.filter_eq_nil_iff.2 (fun p hp => by simp [(h p hp).2.1])
  have hk : Q.l.filter (fun p => !akF n F T p) = Q.l := List.filter_eq_self.2 (fun p hp => by simp [(h p hp).2.1])
  have hack : Q.ack n F T = Q := by
    unfold Rc.ack Rc.cut
    rw [hk, hlg, e, ← hlg]
  refine ⟨ha, ?_, ?_⟩
  · unfold Rc.lostA
    rw [hack]
    exact List.filter_eq_nil_iff.2 (fun p hp => by rw [hlg]; simp [(h p hp).2.2])
  · unfold Rc.acked
    rw [hack]
    unfold Rc.cut
    rw [List.filter_eq_self.2 (fun p hp => by rw [hlg]; simp [(h p hp).2.2])]
theorem inF_zero {n : Nat} {F T : Nat → Int} (h : RgOk n F T) : inF n F T (T 0 - 1) = true := by
  have := (h.at_ 0 h.lo).2.1
  exact List.any_eq_true.2 ⟨0, List.mem_range.2 h.lo, by simp only [spF, Bool.and_eq_true, decide_eq_true_eq]; omega⟩
theorem sends_has (f : Nat → Pk) (n : Nat) (g : Pk → Bool) (i : Nat) (hi : i < n) (hg : g (f i) = true) : (sends f n).l.filter g ≠ [] := by
  intro h
  have := List.filter_eq_nil_iff.1 h (f i) (List.mem_map.2 ⟨i, List.mem_range.2 hi, rfl⟩)
  exact this hg
open Go.RowKit
/-- New beside blocks of the call's own -/
theorem lw_new2 {w0 w : World} (hb : Below w0.heap.size w0 w) (os : List (Nat × Obj)) (ho : ∀ x ∈ os, w.heap[x.1]? = some x.2 ∧ isC x.2 = true) : Calls Tryz.prog 12 #[] w fun e w' => ∃ b M, e = .returned (.pointer (some ⟨b, 0, none⟩)) ∧ Lw w0 w' b M ⟨[], 0, -1⟩ [] os ∧ Below w.heap.size w w' := by
  refine (new_any w).mono ?_
  rintro e w' ⟨b, M, rfl, h1, h2, h3, h4⟩
  exact ⟨b, M, rfl, ⟨hb.trans (h4.mono hb.size), h3, ⟨⟨by simp, by simp, by simp⟩, by decide, by decide, by decide, by decide, by decide, by simp⟩, by simp, Nat.le_trans hb.size h1, Nat.le_trans hb.size h2, by simp,
    fun x hx => ⟨heap_below h4 (ho x hx).1, (ho x hx).2, by have := heap_lt (ho x hx).1; omega⟩⟩, h4⟩
end Go.Proofs.YtafkndhnbnpahaaGreat
