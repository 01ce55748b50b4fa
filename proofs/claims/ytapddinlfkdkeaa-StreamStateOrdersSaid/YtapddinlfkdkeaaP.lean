/- The plain law of the two machines: what stays, and where each state leads. -/
import Derived.Test.YtapddinlfkdkeaaH
namespace Go.Proofs.Ytapddinlfkdkeaa
open Go.Proofs
theorem ev_range (x : Int) : 1 ≤ ev x ∧ ev x ≤ 10 := by unfold ev; have := pickF_range x 10 (by omega); omega
theorem sF_unfold (s v : Int) : sF s v = if s = 0 ∧ v = 1 then (1, 0) else if s = 0 ∧ v = 2 then (2, 0) else if s = 0 ∧ v = 4 then (3, 0) else if s = 1 ∧ v = 1 then (1, 0) else if s = 1 ∧ v = 2 then (2, 0) else if s = 1 ∧ v = 4 then (3, 0) else if s = 2 ∧ v = 3 then (4, 0) else if s = 2 ∧ v = 4 then (3, 0) else if s = 3 ∧ v = 5 then (5, 0) else if s = 3 ∧ v = 3 then (3, 0) else if s = 4 ∧ v = 4 then (4, 0) else if s = 5 ∧ v = 4 then (5, 0) else if s = 5 ∧ v = 4 then (5, 0) else (0, 180) := by
  simp only [sF, sendTab, bh_cons, bh_nil]
/-- a state stays or goes up to one of these -/
def okS (s t : Int) : Prop := 0 ≤ t ∧ t ≤ 5 ∧ (s = 4 → t = 4) ∧ (s = 5 → t = 5) ∧ (s = 3 → t = 3 ∨ t = 5)
def okR (s t : Int) : Prop := 0 ≤ t ∧ t ≤ 5 ∧ (s = 4 → t = 4) ∧ (s = 5 → t = 5) ∧ (s = 3 → t = 3 ∨ t = 5) ∧ (s = 2 → t = 2 ∨ t = 4)
theorem stepS_ok (s x : Int) (h : 0 ≤ s ∧ s ≤ 5) : okS s (stepS s x) := by
  have : s = 0 ∨ s = 1 ∨ s = 2 ∨ s = 3 ∨ s = 4 ∨ s = 5 := by omega
  unfold stepS okS
  rw [sF_unfold]
  rcases this with rfl | rfl | rfl | rfl | rfl | rfl <;> simp <;> (repeat' split) <;> simp_all
theorem stepR_ok (s x : Int) (h : 0 ≤ s ∧ s ≤ 5) : okR s (stepR s x) := by
  have : s = 0 ∨ s = 1 ∨ s = 2 ∨ s = 3 ∨ s = 4 ∨ s = 5 := by omega
  unfold stepR okR
  rw [rF_eq]; unfold rQ
  rcases this with rfl | rfl | rfl | rfl | rfl | rfl <;> simp <;> (repeat' split) <;> simp_all
theorem foldS_ok (l : List Int) : ∀ s, 0 ≤ s ∧ s ≤ 5 → okS s (l.foldl stepS s) := by
  induction l with
  | nil => intro s h; unfold okS; simp; omega
  | cons x l ih =>
    intro s h
    have h1 := stepS_ok s x h
    have h2 := ih (stepS s x) ⟨h1.1, h1.2.1⟩
    unfold okS at *
    simp only [List.foldl_cons]
    generalize stepS s x = t at *
    generalize List.foldl stepS t l = u at *
    omega
theorem foldR_ok (l : List Int) : ∀ s, 0 ≤ s ∧ s ≤ 5 → okR s (l.foldl stepR s) := by
  induction l with
  | nil => intro s h; unfold okR; simp; omega
  | cons x l ih =>
    intro s h
    have h1 := stepR_ok s x h
    have h2 := ih (stepR s x) ⟨h1.1, h1.2.1⟩
    unfold okR at *
    simp only [List.foldl_cons]
    generalize stepR s x = t at *
    generalize List.foldl stepR t l = u at *
    omega
theorem walkS_ok (zs : List Int) : 0 ≤ walkS zs ∧ walkS zs ≤ 5 := by have := foldS_ok (zs.take 50) 0 (by omega); exact ⟨this.1, this.2.1⟩
theorem walkR_ok (zs : List Int) : 0 ≤ walkR zs ∧ walkR zs ≤ 5 := by have := foldR_ok (zs.take 50) 0 (by omega); exact ⟨this.1, this.2.1⟩
theorem walkS_app (xs ys : List Int) (h : (xs ++ ys).length ≤ 50) : okS (walkS xs) (walkS (xs ++ ys)) := by
  unfold walkS
  rw [List.take_of_length_le h, List.take_of_length_le (by simp at h; omega), List.foldl_append]
  have := foldS_ok xs 0 (by omega)
  exact foldS_ok ys _ ⟨this.1, this.2.1⟩
theorem walkR_app (xs ys : List Int) (h : (xs ++ ys).length ≤ 50) : okR (walkR xs) (walkR (xs ++ ys)) := by
  unfold walkR
  rw [List.take_of_length_le h, List.take_of_length_le (by simp at h; omega), List.foldl_append]
  have := foldR_ok xs 0 (by omega)
  exact foldR_ok ys _ ⟨this.1, this.2.1⟩
end Go.Proofs.Ytapddinlfkdkeaa
