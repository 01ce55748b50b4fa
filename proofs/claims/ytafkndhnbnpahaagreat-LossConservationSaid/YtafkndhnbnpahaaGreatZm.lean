/- Law 13: plain laws for LossDeadline. -/
import Derived.Test.YtafkndhnbnpahaaGreatZl
namespace Go.Proofs.YtafkndhnbnpahaaGreat
open Go.RowKit
theorem mnT_le (h : Int) (l : List Pk) : mnT h l ≤ h ∧ ∀ p ∈ l, mnT h l ≤ p.time := by
  induction l generalizing h with
  | nil => exact ⟨Int.le_refl _, by simp⟩
  | cons p l ih =>
    have := ih (min h p.time)
    show mnT (min h p.time) l ≤ h ∧ ∀ q ∈ p :: l, mnT (min h p.time) l ≤ q.time
    refine ⟨by omega, fun q hq => ?_⟩
    rcases List.mem_cons.1 hq with rfl | hq
    · omega
    · exact this.2 q hq
theorem mnT_has (h : Int) (l : List Pk) : mnT h l = h ∨ ∃ p ∈ l, mnT h l = p.time := by
  induction l generalizing h with
  | nil => exact .inl rfl
  | cons p l ih =>
    have e : mnT h (p :: l) = mnT (min h p.time) l := rfl
    rcases ih (min h p.time) with h1 | ⟨q, hq, h1⟩
    · rw [e, h1]
      rcases Int.le_total h p.time with h2 | h2
      · left; omega
      · right; exact ⟨p, by simp, by omega⟩
    · right; rw [e]; exact ⟨q, by simp [hq], h1⟩
/-- the deadline is the least time and the delay -/
theorem dead_is {l : List Pk} (d : Int) (hne : l ≠ []) : ∃ m, deadT l d = m + d ∧ (∀ p ∈ l, m ≤ p.time) ∧ ∃ p ∈ l, p.time = m := by
  cases l with
  | nil => exact absurd rfl hne
  | cons p t =>
    refine ⟨mnT p.time (p :: t), rfl, (mnT_le p.time (p :: t)).2, ?_⟩
    rcases mnT_has p.time (p :: t) with h | ⟨q, hq, h⟩
    · exact ⟨p, by simp, h.symm⟩
    · exact ⟨q, hq, h.symm⟩
/-- when nothing is left that is lost by its number: what the deadline says -/
theorem dead_law {R : Rc} (now d : Int) (hex : ∀ p ∈ R.l, exF R.lg now d p = false) (hne : R.l.filter (dlF R.lg) ≠ []) (hd : 200 ≤ d) (htm : ∀ p ∈ R.l, 0 ≤ p.time ∧ p.time ≤ 1000000) (hd2 : d ≤ 1000000) :
    ∃ t, deadT (R.l.filter (dlF R.lg)) d = t ∧ d ≤ t ∧ t ≤ 2000000 ∧ R.l.filter (exF R.lg (t - 1) d) = [] ∧ R.cut (exF R.lg (t - 1) d) = R ∧ R.l.filter (exF R.lg t d) ≠ [] ∧ ∀ p ∈ R.l.filter (exF R.lg t d), p.time + d ≤ t ∧ p.pn < R.lg := by
  obtain ⟨m, h1, h2, p0, hp0, hp1⟩ := dead_is d hne
  obtain ⟨hm1, hm2⟩ := List.mem_filter.1 hp0
  have hlow : ∀ p ∈ R.l, p.pn < R.lg → ¬ (p.pn + 3 ≤ R.lg) := fun p hp h hc => by
    have := hex p hp
    simp [exF, h, hc] at this
  have hb0 := htm p0 hm1
  have hz : ∀ p ∈ R.l, exF R.lg (m + d - 1) d p = false := fun p hp => by
    by_cases hl : p.pn < R.lg
    · have h3 := hlow p hp hl
      have h4 := h2 p (List.mem_filter.2 ⟨hp, by simpa [dlF] using hl⟩)
      have h5 : ¬ (p.time ≤ m + d - 1 - d) := by omega
      simp [exF, hl, h3, h5]
    · simp [exF, hl]
  refine ⟨m + d, h1, by omega, by omega, List.filter_eq_nil_iff.2 (fun p hp => by simp [hz p hp]), ?_, ?_, ?_⟩
  · unfold Rc.cut
    rw [List.filter_eq_self.2 (fun p hp => by simp [hz p hp])]
  · intro h
    have := List.filter_eq_nil_iff.1 h p0 hm1
    have hl : p0.pn < R.lg := by simpa [dlF] using hm2
    exact this (by simp only [exF, Bool.and_eq_true, decide_eq_true_eq, Bool.or_eq_true]; omega)
  · intro p hp
    obtain ⟨h3, h4⟩ := List.mem_filter.1 hp
    simp only [exF, Bool.and_eq_true, decide_eq_true_eq, Bool.or_eq_true] at h4
    have := hlow p h3 h4.1
    omega
/-- the time at which packet k - 1 is sent -/
def cumT (z : Nat → Int) : Nat → Int
  | 0 => 0
  | k + 1 => cumT z k + pickF (z k) 9
theorem cumT_bnd (z : Nat → Int) (k : Nat) : 0 ≤ cumT z k ∧ cumT z k ≤ 9 * k := by
  induction k with
  | zero => exact ⟨Int.le_refl _, by simp [cumT]⟩
  | succ k ih =>
    have := pickF_range (z k) 9 (by decide)
    simp only [cumT]
    omega
end Go.Proofs.YtafkndhnbnpahaaGreat
