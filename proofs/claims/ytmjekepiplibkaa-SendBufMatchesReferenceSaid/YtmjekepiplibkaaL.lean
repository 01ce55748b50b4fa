import Derived.Test.YtmjekepiplibkaaJ
namespace Go.Proofs.Ytmjekepiplibkaa
open Go.RowKit
theorem change_lost (g k : Nat) (w : World) (x : Int) (h : w.cell? ⟨g, k, none⟩ = some (.int .u8 x)) (hf : w.frozen? ⟨g, k, none⟩ = false) :
    Calls Try.prog 34 #[.pointer (some ⟨g, k, none⟩)] w fun e w' => e = .returned (.tuple #[]) ∧ w' = if x = 1 then w.setCell ⟨g, k, none⟩ (.int .u8 2) else w := by
  by_cases hx : x = 1
  · subst hx
    rw [if_pos rfl]
    go_enter Try.func34, Try.ntmps34
    go_wp2
    go_returns
    exact ⟨rfl, rfl⟩
  · rw [if_neg hx]
    have hb : (x == 1) = false := by simp [hx]
    clear hx
    go_enter Try.func34, Try.ntmps34
    go_wp2
    go_returns
    exact ⟨rfl, rfl⟩
theorem change_acked (g k : Nat) (w : World) (x : Int) (h : w.cell? ⟨g, k, none⟩ = some (.int .u8 x)) (hf : w.frozen? ⟨g, k, none⟩ = false) :
    Calls Try.prog 35 #[.pointer (some ⟨g, k, none⟩)] w fun e w' => e = .returned (.tuple #[]) ∧ w' = w.setCell ⟨g, k, none⟩ (.int .u8 3) := by
  go_enter Try.func35, Try.ntmps35
  go_wp2
  go_returns
  exact ⟨rfl, rfl⟩
/-- what a change makes of a state: true: acknowledged, false: lost -/
def turn (A : Bool) (x : Int) : Int := if A then 3 else if x = 1 then 2 else x
def turnTo (A : Bool) (st : List Int) (i : Nat) : Nat → List Int
  | 0 => st
  | n + 1 => (turnTo A st i n).set (i + n) (turn A ((turnTo A st i n)[i + n]?.getD 0))
theorem turnTo_length (A : Bool) (st : List Int) (i n : Nat) : (turnTo A st i n).length = st.length := by
  induction n with
  | zero => rfl
  | succ n ih => simp [turnTo, ih]
theorem set_same (l : List Int) (k : Nat) : l.set k (l[k]?.getD 0) = l := by
  apply List.ext_getElem?
  intro j
  rw [List.getElem?_set]
  split
  · rename_i h
    subst h
    split
    · rename_i h2; simp [h2]
    · rename_i h2; rw [List.getElem?_eq_none (by omega)]
  · rfl
def turnFn (A : Bool) : Nat := if A then 35 else 34
theorem turn_state (A : Bool) (b : Nat) (F : Nat → Prop) (B : Bf) (vd : Value) (g n cap k : Nat) (w : World) (R : Rep w b F B vd (.slice (some ⟨g, 0, none⟩) n cap)) (hk : k < B.st.length) :
    Calls Try.prog (turnFn A) #[.pointer (some ⟨g, k, none⟩)] w fun e w' => e = .returned (.tuple #[]) ∧ Rep w' b F { B with st := B.st.set k (turn A (B.st[k]?.getD 0)) } vd (.slice (some ⟨g, 0, none⟩) n cap) ∧ Chg F w w' ∧ w'.heap.size = w.heap.size := by
  obtain ⟨g2, cp, e, hc1, hc2, hcell, hfr⟩ := own_cells R.rs (by omega)
  simp only [Value.slice.injEq, Option.some.injEq, Addr.mk.injEq] at e
  obtain ⟨⟨rfl, _, _⟩, rfl, rfl⟩ := e
  have N := fun v => R.setState k hk v
  cases A
  · refine (change_lost g k w _ (hcell k hk) (hfr k)).mono ?_
    rintro e w' ⟨rfl, rfl⟩
    by_cases h1 : B.st[k]?.getD 0 = 1
    · rw [if_pos h1, show turn false (B.st[k]?.getD 0) = 2 from by simp [turn, h1]]
      exact ⟨rfl, (N 2).1, (N 2).2, by simp⟩
    · rw [if_neg h1, show turn false (B.st[k]?.getD 0) = B.st[k]?.getD 0 from by simp [turn, h1], set_same]
      exact ⟨rfl, R, Chg.refl F w, rfl⟩
  · refine (change_acked g k w _ (hcell k hk) (hfr k)).mono ?_
    rintro e w' ⟨rfl, rfl⟩
    exact ⟨rfl, (N 3).1, (N 3).2, by simp⟩
theorem turn_end (A : Bool) (b : Nat) (F : Nat → Prop) (B : Bf) (vd vs : Value) (w : World) (R : Rep w b F B vd vs) :
    Calls Try.prog (turnFn A) #[.pointer (some ⟨b, 6, none⟩)] w fun e w' => e = .returned (.tuple #[]) ∧ Rep w' b F { B with ed := turn A B.ed } vd vs ∧ Chg F w w' ∧ w'.heap.size = w.heap.size := by
  have N := fun v : Int => R.set 6 (.int .u8 v) (B' := { B with ed := v }) rfl rfl rfl
  have C := fun v : Int => (Chg.refl F w).set b 6 (.int .u8 v) R.fb
  cases A
  · refine (change_lost b 6 w _ R.facts.c6 (R.facts.fr 6)).mono ?_
    rintro e w' ⟨rfl, rfl⟩
    by_cases h1 : B.ed = 1
    · rw [if_pos h1, show turn false B.ed = 2 from by simp [turn, h1]]
      exact ⟨rfl, N 2, C 2, by simp⟩
    · rw [if_neg h1, show turn false B.ed = B.ed from by simp [turn, h1]]
      exact ⟨rfl, R, Chg.refl F w, rfl⟩
  · refine (change_acked b 6 w _ R.facts.c6 (R.facts.fr 6)).mono ?_
    rintro e w' ⟨rfl, rfl⟩
    exact ⟨rfl, N 3, C 3, by simp⟩
end Go.Proofs.Ytmjekepiplibkaa
