/- Texts Inv InvIn of this claim, one behind the other. -/
import Derived.Test.YtpfkeohaaeiaaaaGreatDoorRc1
import Derived.Orders
import Derived.OrdersIn
/- A region that draws its order, by an invariant: it holds at the start and behind whatever operation may come up; then it holds behind the whole, in every order. -/
namespace Go.Proofs.YtpfkeohaaeiaaaaGreatDoor
open Go.RowKit
/-- every operation waits only for elder ones (an edge that does not bind in every order is no waiting) -/
def upward (ops : Array Oper) : Bool := (List.range ops.size).all fun i => ((ops[i]?).map (·.after.all fun e => !Region.binds .any e || decide (e.on < i))).getD true
section
variable {P : Program} {ops : Array Oper} {Q : Exit → Act → World → Prop}
theorem getD_is {l : Array Bool} {i : Nat} (h : i < l.size) : l.getD i true = l.getD i false := by simp [Array.getD, h]
theorem mem_ready {l : Array Bool} {i : Nat} : i ∈ Region.ready .any ops l ↔ ∃ o, ops[i]? = some o ∧ l.getD i true = false ∧ ∀ e ∈ o.after, Region.binds .any e = true → l.getD e.on false = true := by
  unfold Region.ready
  rw [List.mem_filter, List.mem_range]
  constructor
  · rintro ⟨hi, h⟩
    rw [Array.getElem?_eq_getElem hi] at h ⊢
    simp only [Bool.and_eq_true, Option.map_some, Option.getD_some, Array.all_eq_true_iff_forall_mem, Bool.or_eq_true, Bool.not_eq_true'] at h
    exact ⟨_, rfl, h.1, fun e he hb => (h.2 e he).resolve_left (by simp [hb])⟩
  · rintro ⟨o, ho, h1, h2⟩
    refine ⟨(Array.getElem?_eq_some_iff.1 ho).1, ?_⟩
    rw [ho]
    simp only [Bool.and_eq_true, Option.map_some, Option.getD_some, Array.all_eq_true_iff_forall_mem, Bool.or_eq_true, Bool.not_eq_true']
    exact ⟨h1, fun e he => by
      cases hb : Region.binds .any e with
      | false => exact .inl rfl
      | true => exact .inr (h2 e he hb)⟩
theorem all_listed {l : Array Bool} (hz : l.size = ops.size) (hu : upward ops = true) (hr : Region.ready .any ops l = []) : ∀ i, i < ops.size → l.getD i false = true := by
  intro i
  induction i using Nat.strongRecOn with
  | ind i ih =>
    intro hi
    cases hl : l.getD i false with
    | true => rfl
    | false =>
      have ho : ops[i]? = some ops[i] := Array.getElem?_eq_getElem hi
      have hup : ∀ e ∈ ops[i].after, Region.binds .any e = true → e.on < i := by
        have := List.all_eq_true.1 hu i (List.mem_range.2 hi)
        rw [ho] at this
        simp only [Option.map_some, Option.getD_some, Array.all_eq_true_iff_forall_mem, Bool.or_eq_true, Bool.not_eq_true', decide_eq_true_eq] at this
        exact fun e he hb => (this e he).resolve_left (by simp [hb])
      have : i ∈ Region.ready .any ops l := mem_ready.2 ⟨_, ho, by rw [getD_is (by omega)]; exact hl, fun e he hb => ih _ (hup e he hb) (Nat.lt_trans (hup e he hb) hi)⟩
      rw [hr] at this
      cases this
def left (n : Nat) (l : Array Bool) : Nat := (List.range n).countP fun j => !l.getD j true
theorem countP_lt {p q : Nat → Bool} {i : Nat} : ∀ {l : List Nat}, i ∈ l → (∀ j, q j = true → p j = true) → p i = true → q i = false → l.countP q < l.countP p
  | [], h, _, _, _ => by cases h
  | x :: l, h, hpq, hp, hq => by
    have hle : l.countP q ≤ l.countP p := List.countP_mono_left (fun j _ => hpq j)
    rcases List.mem_cons.1 h with rfl | h
    · rw [List.countP_cons_of_neg (by simp [hq]), List.countP_cons_of_pos hp]; omega
    · have := countP_lt h hpq hp hq
      rw [List.countP_cons, List.countP_cons]
      have : (if q x = true then 1 else 0) ≤ (if p x = true then 1 else 0) := by
        by_cases hx : q x = true
        · simp [hx, hpq x hx]
        · simp [hx]
      omega
theorem left_set {n i : Nat} {l : Array Bool} (hi : i < n) (hz : l.size = n) (hl : l.getD i true = false) : left n (l.setIfInBounds i true) < left n l := by
  unfold left
  refine countP_lt (i := i) (List.mem_range.2 hi) (fun j hj => ?_) (by simp [hl]) (by simp [Array.getD, hz, hi])
  by_cases e : j = i
  · subst e; simp [hl]
  · by_cases hj2 : j < l.size
    · simpa [Array.getD, hj2, Array.getElem_setIfInBounds, Ne.symm e] using hj
    · simp [Array.getD, hj2] at hj
theorem wpAny_inv (I : (Nat → Bool) → Act → World → Prop) (hu : upward ops = true)
    (hs : ∀ (L : Nat → Bool) a w i o, ops[i]? = some o → L i = false → (∀ e ∈ o.after, Region.binds .any e = true → L e.on = true) → I L a w → wpOp P ops Q i (I (fun j => j == i || L j)) a w)
    (he : ∀ L a w, (∀ i, i < ops.size → L i = true) → I L a w → Q .normal a w) :
    ∀ (fuel : Nat) (l : Array Bool) a w, l.size = ops.size → left ops.size l ≤ fuel → I (fun j => l.getD j false) a w → wpAny P .any ops Q fuel l a w := by
  intro fuel
  induction fuel with
  | zero =>
    intro l a w hz hf hI
    have hr : Region.ready .any ops l = [] := by
      rw [List.eq_nil_iff_forall_not_mem]
      intro i hi
      obtain ⟨o, ho, h1, _⟩ := mem_ready.1 hi
      have := left_set (Array.getElem?_eq_some_iff.1 ho).1 hz h1
      omega
    exact ⟨hr, he _ a w (all_listed hz hu hr) hI⟩
  | succ fuel ih =>
    intro l a w hz hf hI
    refine ⟨fun hr => he _ a w (all_listed hz hu hr) hI, fun i hi => ?_⟩
    obtain ⟨o, ho, h1, h2⟩ := mem_ready.1 hi
    have hlt := (Array.getElem?_eq_some_iff.1 ho).1
    have hL : l.getD i false = false := by rw [← getD_is (by omega)]; exact h1
    have hd := left_set hlt hz h1
    refine wpOp_mono (fun a' w' hI' => ih _ a' w' (by simpa using hz) (by omega) ?_) (hs _ a w i o ho hL h2 hI)
    have e : (fun j => (l.setIfInBounds i true).getD j false) = fun j => j == i || l.getD j false := by
      funext j
      by_cases e : j = i
      · subst e; simp [Array.getD, hz, hlt]
      · by_cases hj : j < l.size
        · simp [Array.getD, hj, Ne.symm e, e]
        · simp [Array.getD, hj, e]
    rw [e]
    exact hI'
/-- **the law** -/
theorem wp_region_inv {id : Nat} {a : Act} {w : World} (hm : P.follows .mixedOrders = true) (hu : upward ops = true) (I : (Nat → Bool) → Act → World → Prop) (h0 : I (fun _ => false) a w.drew)
    (hs : ∀ (L : Nat → Bool) a w i o, ops[i]? = some o → L i = false → (∀ e ∈ o.after, Region.binds .any e = true → L e.on = true) → I L a w → wpOp P ops Q i (I (fun j => j == i || L j)) a w)
    (he : ∀ L a w, (∀ i, i < ops.size → L i = true) → I L a w → Q .normal a w) : (Code.region id ops true).wp P Q a w := by
  refine wp_region_any hm (wpAny_inv I hu hs he _ _ _ _ (by simp) ?_ ?_)
  · refine Nat.le_trans List.countP_le_length (by simp)
  · have e : (fun j => (Array.replicate ops.size false).getD j false) = fun _ => false := by
      funext j
      by_cases hj : j < ops.size <;> simp [Array.getD, hj]
    rw [e]
    exact h0
end
end Go.Proofs.YtpfkeohaaeiaaaaGreatDoor
/- A region that draws its order inside a fence (and inside a round): every operation but the last yields a value that is known ahead and leaves the world alone; the last one (a store) comes behind all of them. -/
namespace Go.Proofs.YtpfkeohaaeiaaaaGreatDoor
open Go.RowKit
section
variable {F : Fence} {n : Nat} {P : Program} {ops : Array Oper} {Q : Exit → Act → World → Prop}
theorem wpAnyIn_inv (I : (Nat → Bool) → Act → World → Prop) (hu : upward ops = true)
    (hs : ∀ (L : Nat → Bool) a w i o, ops[i]? = some o → L i = false → (∀ e ∈ o.after, Region.binds .any e = true → L e.on = true) → I L a w → wpOpIn F n P ops Q i (I (fun j => j == i || L j)) a w)
    (he : ∀ L a w, (∀ i, i < ops.size → L i = true) → I L a w → Q .normal a w) :
    ∀ (fuel : Nat) (l : Array Bool) a w, l.size = ops.size → left ops.size l ≤ fuel → I (fun j => l.getD j false) a w → wpAnyIn F n P .any ops Q fuel l a w := by
  intro fuel
  induction fuel with
  | zero =>
    intro l a w hz hf hI
    have hr : Region.ready .any ops l = [] := by
      rw [List.eq_nil_iff_forall_not_mem]
      intro i hi
      obtain ⟨o, ho, h1, _⟩ := mem_ready.1 hi
      have := left_set (Array.getElem?_eq_some_iff.1 ho).1 hz h1
      omega
    exact ⟨hr, he _ a w (all_listed hz hu hr) hI⟩
  | succ fuel ih =>
    intro l a w hz hf hI
    refine ⟨fun hr => he _ a w (all_listed hz hu hr) hI, fun i hi => ?_⟩
    obtain ⟨o, ho, h1, h2⟩ := mem_ready.1 hi
    have hlt := (Array.getElem?_eq_some_iff.1 ho).1
    have hL : l.getD i false = false := by rw [← getD_is (by omega)]; exact h1
    have hd := left_set hlt hz h1
    refine wpOpIn_mono (fun a' w' hI' => ih _ a' w' (by simpa using hz) (by omega) ?_) (hs _ a w i o ho hL h2 hI)
    have e : (fun j => (l.setIfInBounds i true).getD j false) = fun j => j == i || l.getD j false := by
      funext j
      by_cases e : j = i
      · subst e; simp [Array.getD, hz, hlt]
      · by_cases hj : j < l.size
        · simp [Array.getD, hj, Ne.symm e, e]
        · simp [Array.getD, hj, e]
    rw [e]
    exact hI'
theorem wpIn_region_inv {id : Nat} {a : Act} {w : World} (hm : P.follows .mixedOrders = true) (hu : upward ops = true) (I : (Nat → Bool) → Act → World → Prop) (h0 : I (fun _ => false) a w.drew)
    (hs : ∀ (L : Nat → Bool) a w i o, ops[i]? = some o → L i = false → (∀ e ∈ o.after, Region.binds .any e = true → L e.on = true) → I L a w → wpOpIn F n P ops Q i (I (fun j => j == i || L j)) a w)
    (he : ∀ L a w, (∀ i, i < ops.size → L i = true) → I L a w → Q .normal a w) : (Code.region id ops true).wpIn F n P Q a w := by
  refine wpIn_region_any hm (wpAnyIn_inv I hu hs he _ _ _ _ (by simp) ?_ ?_)
  · refine Nat.le_trans List.countP_le_length (by simp)
  · have e : (fun j => (Array.replicate ops.size false).getD j false) = fun _ => false := by
      funext j
      by_cases hj : j < ops.size <;> simp [Array.getD, hj]
    rw [e]
    exact h0
/-- the slots that are set hold their values; the others are as they were -/
structure PInv (s m : Nat) (val : Nat → Value) (A0 : Act) (W0 W1 : World) (L : Nat → Bool) (a : Act) (w : World) : Prop where
  nod : a.defers = A0.defers
  size : a.tmps.size = A0.tmps.size
  old : ∀ p, p < s ∨ s + m ≤ p → a.tmps[p]? = A0.tmps[p]?
  new : ∀ j, j < m → a.tmps[s + j]? = if L j then some (val j) else A0.tmps[s + j]?
  w : w = if L m then W1 else W0
/-- what an operation may lean on -/
structure PHas (s m : Nat) (val : Nat → Value) (A0 : Act) (o : Oper) (a : Act) : Prop where
  old : ∀ p, p < s ∨ s + m ≤ p → a.tmps[p]? = A0.tmps[p]?
  dep : ∀ e ∈ o.after, Region.binds .any e = true → e.on < m → a.tmps[s + e.on]? = some (val e.on)
/-- each operation ahead of the last is waited for by one behind it -/
def covers (ops : Array Oper) (m : Nat) : Bool := (List.range m).all fun j => (List.range (m + 1)).any fun k => decide (j < k) && ((ops[k]?).map (·.after.any fun e => Region.binds .any e && e.on == j)).getD false
theorem all_of_last {m : Nat} {L : Nat → Bool} (hc : covers ops m = true) (hcl : ∀ j o e, (L j = true ∨ j = m) → ops[j]? = some o → e ∈ o.after → Region.binds .any e = true → L e.on = true) : ∀ d j, m = j + d → 0 < d → L j = true := by
  intro d
  induction d using Nat.strongRecOn with
  | ind d ih =>
    intro j hj hd
    have h1 := List.all_eq_true.1 hc j (List.mem_range.2 (by omega))
    obtain ⟨k, hk, h2⟩ := List.any_eq_true.1 h1
    rw [Bool.and_eq_true, decide_eq_true_eq] at h2
    have hk2 := List.mem_range.1 hk
    cases ho : ops[k]? with
    | none => rw [ho] at h2; simp at h2
    | some o =>
      rw [ho] at h2
      obtain ⟨hjk, h3⟩ := h2
      have h3 : (o.after.any fun e => Region.binds .any e && e.on == j) = true := h3
      rw [Array.any_eq_true'] at h3
      simp only [Bool.and_eq_true, beq_iff_eq] at h3
      obtain ⟨e, he, hb, rfl⟩ := h3
      refine hcl k o e ?_ ho he hb
      by_cases hkm : k = m
      · exact .inr hkm
      · exact .inl (ih (m - k) (by omega) k (by omega) (by omega))
theorem foldl_set (s m : Nat) (val : Nat → Value) (t : Array Value) (hsz : s + m ≤ t.size) : ∀ p, ((List.range m).foldl (fun t j => t.setIfInBounds (s + j) (val j)) t)[p]? = if s ≤ p ∧ p < s + m then some (val (p - s)) else t[p]? := by
  induction m with
  | zero => intro p; rw [if_neg (by omega)]; rfl
  | succ m ih =>
    intro p
    have hz : ∀ (l : List Nat) (u : Array Value), (l.foldl (fun t j => t.setIfInBounds (s + j) (val j)) u).size = u.size := by
      intro l
      induction l with
      | nil => intro u; rfl
      | cons x l ih2 => intro u; rw [List.foldl_cons, ih2]; simp
    rw [List.range_succ, List.foldl_append]
    show (Array.setIfInBounds _ _ _)[p]? = _
    rw [Array.getElem?_setIfInBounds, ih (by omega) p, hz]
    by_cases h1 : s + m = p
    · subst h1
      rw [if_pos rfl, if_pos (by omega), if_pos (by omega)]
      simp
    · rw [if_neg h1]
      by_cases h2 : s ≤ p ∧ p < s + m
      · rw [if_pos h2, if_pos (by omega)]
      · rw [if_neg h2, if_neg (by omega)]
theorem pure_region {id : Nat} (s m : Nat) (val : Nat → Value) {A0 : Act} {W0 W1 : World} {tm : Array Value} (hm : P.follows .mixedOrders = true) (hu : upward ops = true) (hc : covers ops m = true) (hz : ops.size = m + 1) (hsz : s + m ≤ A0.tmps.size)
    (hop : ∀ i o, i < m → ops[i]? = some o → ∀ a, PHas s m val A0 o a → o.dst = some (s + i) ∧ o.guard = none ∧ (∀ f, o.about P W0.drew a.eval = some f → F.fn f) ∧ (o.semAt F.round a.eval).run P W0.drew = .ok (.value (val i)) W0.drew)
    (hst : ∀ o, ops[m]? = some o → ∀ a, PHas s m val A0 o a → o.dst = none ∧ o.guard = none ∧ (∀ f, o.about P W0.drew a.eval = some f → F.fn f) ∧ (o.semAt F.round a.eval).run P W0.drew = .ok .skip W1)
    (htm : (List.range m).foldl (fun t j => t.setIfInBounds (s + j) (val j)) A0.tmps = tm) (h : Q .normal { tmps := tm, defers := A0.defers } W1) : (Code.region id ops true).wpIn F n P Q A0 W0 := by
  refine wpIn_region_inv hm hu (fun L a w => PInv s m val A0 W0.drew W1 L a w ∧ ∀ j o e, L j = true → ops[j]? = some o → e ∈ o.after → Region.binds .any e = true → L e.on = true) ⟨⟨rfl, rfl, fun _ _ => rfl, fun _ _ => rfl, rfl⟩, fun _ _ _ h => by cases h⟩ ?_ ?_
  · rintro L a w i o ho hL hdep ⟨hI, hcl⟩
    have hi : i < m + 1 := by have := (Array.getElem?_eq_some_iff.1 ho).1; omega
    have hcl' : ∀ j o' e, (j == i || L j) = true → ops[j]? = some o' → e ∈ o'.after → Region.binds .any e = true → (e.on == i || L e.on) = true := by
      intro j o' e hj ho' he hb
      rw [Bool.or_eq_true] at hj ⊢
      rcases hj with hj | hj
      · rw [beq_iff_eq] at hj
        subst hj
        rw [ho] at ho'
        cases ho'
        exact .inr (hdep e he hb)
      · exact .inr (hcl j o' e hj ho' he hb)
    have hdep' : ∀ e ∈ o.after, Region.binds .any e = true → e.on < m → a.tmps[s + e.on]? = some (val e.on) := fun e he hb hlt => by rw [hI.new _ hlt, hdep e he hb]; rfl
    by_cases him : i = m
    · subst him
      have hall : ∀ j, j < i → L j = true := fun j hj => all_of_last hc (fun k o' e hk ho' he hb => by
        rcases hk with hk | rfl
        · exact hcl k o' e hk ho' he hb
        · rw [ho] at ho'; cases ho'; exact hdep e he hb) (i - j) j (by omega) (by omega)
      have hw : w = W0.drew := by rw [hI.w, hL]; rfl
      subst hw
      obtain ⟨h1, h2, h3, h4⟩ := hst o ho a ⟨hI.old, hdep'⟩
      refine wpOpIn_step ho fun K' hK => ?_
      rw [if_pos (by simp [Region.wanted, h2])]
      unfold Oper.wpIn
      refine ⟨h3, ?_⟩
      rw [h4]
      refine hK _ _ ⟨⟨?_, ?_, ?_, ?_, ?_⟩, hcl'⟩
      · rw [h1]; exact hI.nod
      · rw [h1]; exact hI.size
      · rw [h1]; exact hI.old
      · rw [h1]
        intro j hj
        show a.tmps[s + j]? = _
        rw [hI.new j hj, hall j hj]
        simp
      · simp
    · have hlt : i < m := by omega
      have hLm : L m = false := by
        cases e : L m with
        | false => rfl
        | true =>
          have := all_of_last (L := L) hc (fun k o' e' hk ho' he hb => by
            rcases hk with hk | rfl
            · exact hcl k o' e' hk ho' he hb
            · exact hcl k o' e' e ho' he hb) (m - i) i (by omega) (by omega)
          rw [this] at hL
          cases hL
      have hw : w = W0.drew := by rw [hI.w, hLm]; rfl
      subst hw
      obtain ⟨h1, h2, h3, h4⟩ := hop i o hlt ho a ⟨hI.old, hdep'⟩
      refine wpOpIn_step ho fun K' hK => ?_
      rw [if_pos (by simp [Region.wanted, h2])]
      unfold Oper.wpIn
      refine ⟨h3, ?_⟩
      rw [h4]
      have hsi : s + i < a.tmps.size := by rw [hI.size]; omega
      refine hK _ _ ⟨⟨?_, ?_, ?_, ?_, ?_⟩, hcl'⟩
      · rw [h1]; exact hI.nod
      · rw [h1]; show (a.tmps.setIfInBounds _ _).size = _; simpa using hI.size
      · rw [h1]
        intro p hp
        show (a.tmps.setIfInBounds _ _)[p]? = _
        rw [Array.getElem?_setIfInBounds_ne (by omega)]
        exact hI.old p hp
      · rw [h1]
        intro j hj
        show (a.tmps.setIfInBounds _ _)[s + j]? = _
        by_cases hji : j = i
        · subst hji
          rw [Array.getElem?_setIfInBounds_self_of_lt hsi]
          simp
        · rw [Array.getElem?_setIfInBounds_ne (by omega), hI.new j hj]
          simp [hji]
      · rw [show ((m == i) || L m) = false from by rw [hLm, Bool.or_false]; exact beq_eq_false_iff_ne.2 (fun e => him e.symm)]
        rfl
  · rintro L a w hall ⟨hI, _⟩
    have hw : w = W1 := by rw [hI.w, hall m (by omega)]; rfl
    have ha : a = { tmps := tm, defers := A0.defers } := by
      obtain ⟨at_, ad⟩ := a
      have h1 : ad = A0.defers := hI.nod
      have h2 : at_ = tm := by
        rw [← htm]
        apply Array.ext_getElem?
        intro p
        rw [foldl_set s m val A0.tmps hsz p]
        by_cases hp : s ≤ p ∧ p < s + m
        · rw [if_pos hp]
          have := hI.new (p - s) (by omega)
          rw [hall _ (by omega), if_pos rfl, show s + (p - s) = p by omega] at this
          exact this
        · rw [if_neg hp]
          exact hI.old p (by omega)
      rw [h1, h2]
    rw [hw, ha]
    exact h
end
end Go.Proofs.YtpfkeohaaeiaaaaGreatDoor
