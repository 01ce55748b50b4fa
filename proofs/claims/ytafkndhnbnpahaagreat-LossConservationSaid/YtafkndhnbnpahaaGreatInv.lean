/- A region that draws its order, by an invariant: it holds at the start and behind whatever operation may come up; then it holds behind the whole, in every order. -/
import Derived.Test.YtafkndhnbnpahaaGreatBase
import Derived.Orders
namespace Go.Proofs.YtafkndhnbnpahaaGreat
open Go.RowKit
/-- every operation waits only for elder ones -/
def upward (ops : Array Oper) : Bool := (List.range ops.size).all fun i => ((ops[i]?).map (·.after.all fun e => decide (e.on < i))).getD true
section
variable {P : Program} {ops : Array Oper} {Q : Exit → Act → World → Prop}
theorem getD_is {l : Array Bool} {i : Nat} (h : i < l.size) : l.getD i true = l.getD i false := by simp [Array.getD, h]
theorem mem_ready {l : Array Bool} {i : Nat} : i ∈ Region.ready .any ops l ↔ ∃ o, ops[i]? = some o ∧ l.getD i true = false ∧ ∀ e ∈ o.after, Region.binds .any e = true → l.getD e.on false = true := by
  unfold Region.ready
  rw [List.mem_filter, List.mem_range]
  constructor
  · rintro ⟨hi, h⟩
    rw [Array.getElem?_eq_getElem hi] at h ⊢
    simp only [Bool.and_eq_true, Option.map_some, Option.getD_some, Array.all_eq_true_iff_forall_mem, Bool.or_eq_true, Bool.not_eq_true'] at h
    exact ⟨_, rfl, h.1, fun e he hb => (h.2 e he).resolve_left (by simp [hb])⟩
  · rintro ⟨o, ho, h1, h2⟩
    refine ⟨(Array.getElem?_eq_some_iff.1 ho).1, ?_⟩
    rw [ho]
    simp only [Bool.and_eq_true, Option.map_some, Option.getD_some, Array.all_eq_true_iff_forall_mem, Bool.or_eq_true, Bool.not_eq_true']
    exact ⟨h1, fun e he => by
      cases hb : Region.binds .any e with
      | false => exact .inl rfl
      | true => exact .inr (h2 e he hb)⟩
theorem all_listed {l : Array Bool} (hz : l.size = ops.size) (hu : upward ops = true) (hr : Region.ready .any ops l = []) : ∀ i, i < ops.size → l.getD i false = true := by
  intro i
  induction i using Nat.strongRecOn with
  | ind i ih =>
    intro hi
    cases hl : l.getD i false with
    | true => rfl
    | false =>
      have ho : ops[i]? = some ops[i] := Array.getElem?_eq_getElem hi
      have hup : ∀ e ∈ ops[i].after, e.on < i := by
        have := List.all_eq_true.1 hu i (List.mem_range.2 hi)
        rw [ho] at this
        simp only [Option.map_some, Option.getD_some, Array.all_eq_true_iff_forall_mem, decide_eq_true_eq] at this
        exact this
      have : i ∈ Region.ready .any ops l := mem_ready.2 ⟨_, ho, by rw [getD_is (by omega)]; exact hl, fun e he _ => ih _ (hup e he) (Nat.lt_trans (hup e he) hi)⟩
      rw [hr] at this
      cases this
def left (n : Nat) (l : Array Bool) : Nat := (List.range n).countP fun j => !l.getD j true
theorem countP_lt {p q : Nat → Bool} {i : Nat} : ∀ {l : List Nat}, i ∈ l → (∀ j, q j = true → p j = true) → p i = true → q i = false → l.countP q < l.countP p
  | [], h, _, _, _ => by cases h
  | x :: l, h, hpq, hp, hq => by
    have hle : l.countP q ≤ l.countP p := List.countP_mono_left (fun j _ => hpq j)
    rcases List.mem_cons.1 h with rfl | h
    · rw [List.countP_cons_of_neg (by simp [hq]), List.countP_cons_of_pos hp]; omega
    · have := countP_lt h hpq hp hq
      rw [List.countP_cons, List.countP_cons]
      have : (if q x = true then 1 else 0) ≤ (if p x = true then 1 else 0) := by
        by_cases hx : q x = true
        · simp [hx, hpq x hx]
        · simp [hx]
      omega
theorem left_set {n i : Nat} {l : Array Bool} (hi : i < n) (hz : l.size = n) (hl : l.getD i true = false) : left n (l.setIfInBounds i true) < left n l := by
  unfold left
  refine countP_lt (i := i) (List.mem_range.2 hi) (fun j hj => ?_) (by simp [hl]) (by simp [Array.getD, hz, hi])
  by_cases e : j = i
  · subst e; simp [hl]
  · by_cases hj2 : j < l.size
    · simpa [Array.getD, hj2, Array.getElem_setIfInBounds, Ne.symm e] using hj
    · simp [Array.getD, hj2] at hj
theorem wpAny_inv (I : (Nat → Bool) → Act → World → Prop) (hu : upward ops = true)
    (hs : ∀ (L : Nat → Bool) a w i o, ops[i]? = some o → L i = false → (∀ e ∈ o.after, Region.binds .any e = true → L e.on = true) → I L a w → wpOp P ops Q i (I (fun j => j == i || L j)) a w)
    (he : ∀ L a w, (∀ i, i < ops.size → L i = true) → I L a w → Q .normal a w) :
    ∀ (fuel : Nat) (l : Array Bool) a w, l.size = ops.size → left ops.size l ≤ fuel → I (fun j => l.getD j false) a w → wpAny P .any ops Q fuel l a w := by
  intro fuel
  induction fuel with
  | zero =>
    intro l a w hz hf hI
    have hr : Region.ready .any ops l = [] := by
      rw [List.eq_nil_iff_forall_not_mem]
      intro i hi
      obtain ⟨o, ho, h1, _⟩ := mem_ready.1 hi
      have := left_set (Array.getElem?_eq_some_iff.1 ho).1 hz h1
      omega
    exact ⟨hr, he _ a w (all_listed hz hu hr) hI⟩
  | succ fuel ih =>
    intro l a w hz hf hI
    refine ⟨fun hr => he _ a w (all_listed hz hu hr) hI, fun i hi => ?_⟩
    obtain ⟨o, ho, h1, h2⟩ := mem_ready.1 hi
    have hlt := (Array.getElem?_eq_some_iff.1 ho).1
    have hL : l.getD i false = false := by rw [← getD_is (by omega)]; exact h1
    have hd := left_set hlt hz h1
    refine wpOp_mono (fun a' w' hI' => ih _ a' w' (by simpa using hz) (by omega) ?_) (hs _ a w i o ho hL h2 hI)
    have e : (fun j => (l.setIfInBounds i true).getD j false) = fun j => j == i || l.getD j false := by
      funext j
      by_cases e : j = i
      · subst e; simp [Array.getD, hz, hlt]
      · by_cases hj : j < l.size
        · simp [Array.getD, hj, Array.getElem_setIfInBounds, Ne.symm e, e]
        · simp [Array.getD, hj, e]
    rw [e]
    exact hI'
/-- **the law** -/
theorem wp_region_inv {id : Nat} {a : Act} {w : World} (hm : P.follows .mixedOrders = true) (hu : upward ops = true) (I : (Nat → Bool) → Act → World → Prop) (h0 : I (fun _ => false) a w.drew)
    (hs : ∀ (L : Nat → Bool) a w i o, ops[i]? = some o → L i = false → (∀ e ∈ o.after, Region.binds .any e = true → L e.on = true) → I L a w → wpOp P ops Q i (I (fun j => j == i || L j)) a w)
    (he : ∀ L a w, (∀ i, i < ops.size → L i = true) → I L a w → Q .normal a w) : (Code.region id ops true).wp P Q a w := by
  refine wp_region_any hm (wpAny_inv I hu hs he _ _ _ _ (by simp) ?_ ?_)
  · refine Nat.le_trans List.countP_le_length (by simp)
  · have e : (fun j => (Array.replicate ops.size false).getD j false) = fun _ => false := by
      funext j
      by_cases hj : j < ops.size <;> simp [Array.getD, hj]
    rw [e]
    exact h0
end
end Go.Proofs.YtafkndhnbnpahaaGreat
