/- Texts FInvIn FTkh FTkj of this claim, one behind the other. -/
import Derived.Test.YtpfkeohaaeiaaaaGreatDoorRc3
import Derived.OrdersIn
import Derived.Test.YtpfkeohaaeiaaaaGreatDoorRc9
import Derived.Test.YtpfkeohaaeiaaaaGreatDoorRc8
import Derived.Laws.MakeOwn
/- A region that draws its order inside a fence (and inside a round): every operation but the last yields a value that is known ahead and leaves the world alone; the last one (a store) comes behind all of them. -/
namespace Go.Proofs.YtpfkeohaaeiaaaaGreatDoor.frm
open Go.RowKit
set_option maxRecDepth 100000
section
variable {F : Fence} {n : Nat} {P : Program} {ops : Array Oper} {Q : Exit → Act → World → Prop}
theorem wpAnyIn_inv (I : (Nat → Bool) → Act → World → Prop) (hu : upward ops = true)
    (hs : ∀ (L : Nat → Bool) a w i o, ops[i]? = some o → L i = false → (∀ e ∈ o.after, Region.binds .any e = true → L e.on = true) → I L a w → wpOpIn F n P ops Q i (I (fun j => j == i || L j)) a w)
    (he : ∀ L a w, (∀ i, i < ops.size → L i = true) → I L a w → Q .normal a w) :
    ∀ (fuel : Nat) (l : Array Bool) a w, l.size = ops.size → left ops.size l ≤ fuel → I (fun j => l.getD j false) a w → wpAnyIn F n P .any ops Q fuel l a w := by
  intro fuel
  induction fuel with
  | zero =>
    intro l a w hz hf hI
    have hr : Region.ready .any ops l = [] := by
      rw [List.eq_nil_iff_forall_not_mem]
      intro i hi
      obtain ⟨o, ho, h1, _⟩ := mem_ready.1 hi
      have := left_set (Array.getElem?_eq_some_iff.1 ho).1 hz h1
      omega
    exact ⟨hr, he _ a w (all_listed hz hu hr) hI⟩
  | succ fuel ih =>
    intro l a w hz hf hI
    refine ⟨fun hr => he _ a w (all_listed hz hu hr) hI, fun i hi => ?_⟩
    obtain ⟨o, ho, h1, h2⟩ := mem_ready.1 hi
    have hlt := (Array.getElem?_eq_some_iff.1 ho).1
    have hL : l.getD i false = false := by rw [← getD_is (by omega)]; exact h1
    have hd := left_set hlt hz h1
    refine wpOpIn_mono (fun a' w' hI' => ih _ a' w' (by simpa using hz) (by omega) ?_) (hs _ a w i o ho hL h2 hI)
    have e : (fun j => (l.setIfInBounds i true).getD j false) = fun j => j == i || l.getD j false := by
      funext j
      by_cases e : j = i
      · subst e; simp [Array.getD, hz, hlt]
      · by_cases hj : j < l.size
        · simp [Array.getD, hj, Ne.symm e, e]
        · simp [Array.getD, hj, e]
    rw [e]
    exact hI'
theorem wpIn_region_inv {id : Nat} {a : Act} {w : World} (hm : P.follows .mixedOrders = true) (hu : upward ops = true) (I : (Nat → Bool) → Act → World → Prop) (h0 : I (fun _ => false) a w.drew)
    (hs : ∀ (L : Nat → Bool) a w i o, ops[i]? = some o → L i = false → (∀ e ∈ o.after, Region.binds .any e = true → L e.on = true) → I L a w → wpOpIn F n P ops Q i (I (fun j => j == i || L j)) a w)
    (he : ∀ L a w, (∀ i, i < ops.size → L i = true) → I L a w → Q .normal a w) : (Code.region id ops true).wpIn F n P Q a w := by
  refine wpIn_region_any hm (wpAnyIn_inv I hu hs he _ _ _ _ (by simp) ?_ ?_)
  · refine Nat.le_trans List.countP_le_length (by simp)
  · have e : (fun j => (Array.replicate ops.size false).getD j false) = fun _ => false := by
      funext j
      by_cases hj : j < ops.size <;> simp [Array.getD, hj]
    rw [e]
    exact h0
/-- the slots that are set hold their values; the others are as they were -/
structure PInv (s m : Nat) (val : Nat → Value) (A0 : Act) (W0 W1 : World) (L : Nat → Bool) (a : Act) (w : World) : Prop where
  nod : a.defers = A0.defers
  size : a.tmps.size = A0.tmps.size
  old : ∀ p, p < s ∨ s + m ≤ p → a.tmps[p]? = A0.tmps[p]?
  new : ∀ j, j < m → a.tmps[s + j]? = if L j then some (val j) else A0.tmps[s + j]?
  w : w = if L m then W1 else W0
/-- what an operation may lean on -/
structure PHas (s m : Nat) (val : Nat → Value) (A0 : Act) (o : Oper) (a : Act) : Prop where
  old : ∀ p, p < s ∨ s + m ≤ p → a.tmps[p]? = A0.tmps[p]?
  dep : ∀ e ∈ o.after, Region.binds .any e = true → e.on < m → a.tmps[s + e.on]? = some (val e.on)
/-- each operation ahead of the last is waited for by one behind it -/
def covers (ops : Array Oper) (m : Nat) : Bool := (List.range m).all fun j => (List.range (m + 1)).any fun k => decide (j < k) && ((ops[k]?).map (·.after.any fun e => Region.binds .any e && e.on == j)).getD false
theorem all_of_last {m : Nat} {L : Nat → Bool} (hc : covers ops m = true) (hcl : ∀ j o e, (L j = true ∨ j = m) → ops[j]? = some o → e ∈ o.after → Region.binds .any e = true → L e.on = true) : ∀ d j, m = j + d → 0 < d → L j = true := by
  intro d
  induction d using Nat.strongRecOn with
  | ind d ih =>
    intro j hj hd
    have h1 := List.all_eq_true.1 hc j (List.mem_range.2 (by omega))
    obtain ⟨k, hk, h2⟩ := List.any_eq_true.1 h1
    rw [Bool.and_eq_true, decide_eq_true_eq] at h2
    have hk2 := List.mem_range.1 hk
    cases ho : ops[k]? with
    | none => rw [ho] at h2; simp at h2
    | some o =>
      rw [ho] at h2
      obtain ⟨hjk, h3⟩ := h2
      have h3 : (o.after.any fun e => Region.binds .any e && e.on == j) = true := h3
      rw [Array.any_eq_true'] at h3
      simp only [Bool.and_eq_true, beq_iff_eq] at h3
      obtain ⟨e, he, hb, rfl⟩ := h3
      refine hcl k o e ?_ ho he hb
      by_cases hkm : k = m
      · exact .inr hkm
      · exact .inl (ih (m - k) (by omega) k (by omega) (by omega))
theorem foldl_set (s m : Nat) (val : Nat → Value) (t : Array Value) (hsz : s + m ≤ t.size) : ∀ p, ((List.range m).foldl (fun t j => t.setIfInBounds (s + j) (val j)) t)[p]? = if s ≤ p ∧ p < s + m then some (val (p - s)) else t[p]? := by
  induction m with
  | zero => intro p; rw [if_neg (by omega)]; rfl
  | succ m ih =>
    intro p
    have hz : ∀ (l : List Nat) (u : Array Value), (l.foldl (fun t j => t.setIfInBounds (s + j) (val j)) u).size = u.size := by
      intro l
      induction l with
      | nil => intro u; rfl
      | cons x l ih2 => intro u; rw [List.foldl_cons, ih2]; simp
    rw [List.range_succ, List.foldl_append]
    show (Array.setIfInBounds _ _ _)[p]? = _
    rw [Array.getElem?_setIfInBounds, ih (by omega) p, hz]
    by_cases h1 : s + m = p
    · subst h1
      rw [if_pos rfl, if_pos (by omega), if_pos (by omega)]
      simp
    · rw [if_neg h1]
      by_cases h2 : s ≤ p ∧ p < s + m
      · rw [if_pos h2, if_pos (by omega)]
      · rw [if_neg h2, if_neg (by omega)]
theorem pure_region {id : Nat} (s m : Nat) (val : Nat → Value) {A0 : Act} {W0 W1 : World} {tm : Array Value} (hm : P.follows .mixedOrders = true) (hu : upward ops = true) (hc : covers ops m = true) (hz : ops.size = m + 1) (hsz : s + m ≤ A0.tmps.size)
    (hop : ∀ i o, i < m → ops[i]? = some o → ∀ a, PHas s m val A0 o a → o.dst = some (s + i) ∧ o.guard = none ∧ (∀ f, o.about P W0.drew a.eval = some f → F.fn f) ∧ (o.semAt F.round a.eval).run P W0.drew = .ok (.value (val i)) W0.drew)
    (hst : ∀ o, ops[m]? = some o → ∀ a, PHas s m val A0 o a → o.dst = none ∧ o.guard = none ∧ (∀ f, o.about P W0.drew a.eval = some f → F.fn f) ∧ (o.semAt F.round a.eval).run P W0.drew = .ok .skip W1)
    (htm : (List.range m).foldl (fun t j => t.setIfInBounds (s + j) (val j)) A0.tmps = tm) (h : Q .normal { tmps := tm, defers := A0.defers } W1) : (Code.region id ops true).wpIn F n P Q A0 W0 := by
  refine wpIn_region_inv hm hu (fun L a w => PInv s m val A0 W0.drew W1 L a w ∧ ∀ j o e, L j = true → ops[j]? = some o → e ∈ o.after → Region.binds .any e = true → L e.on = true) ⟨⟨rfl, rfl, fun _ _ => rfl, fun _ _ => rfl, rfl⟩, fun _ _ _ h => by cases h⟩ ?_ ?_
  · rintro L a w i o ho hL hdep ⟨hI, hcl⟩
    have hi : i < m + 1 := by have := (Array.getElem?_eq_some_iff.1 ho).1; omega
    have hcl' : ∀ j o' e, (j == i || L j) = true → ops[j]? = some o' → e ∈ o'.after → Region.binds .any e = true → (e.on == i || L e.on) = true := by
      intro j o' e hj ho' he hb
      rw [Bool.or_eq_true] at hj ⊢
      rcases hj with hj | hj
      · rw [beq_iff_eq] at hj
        subst hj
        rw [ho] at ho'
        cases ho'
        exact .inr (hdep e he hb)
      · exact .inr (hcl j o' e hj ho' he hb)
    have hdep' : ∀ e ∈ o.after, Region.binds .any e = true → e.on < m → a.tmps[s + e.on]? = some (val e.on) := fun e he hb hlt => by rw [hI.new _ hlt, hdep e he hb]; rfl
    by_cases him : i = m
    · subst him
      have hall : ∀ j, j < i → L j = true := fun j hj => all_of_last hc (fun k o' e hk ho' he hb => by
        rcases hk with hk | rfl
        · exact hcl k o' e hk ho' he hb
        · rw [ho] at ho'; cases ho'; exact hdep e he hb) (i - j) j (by omega) (by omega)
      have hw : w = W0.drew := by rw [hI.w, hL]; rfl
      subst hw
      obtain ⟨h1, h2, h3, h4⟩ := hst o ho a ⟨hI.old, hdep'⟩
      refine wpOpIn_step ho fun K' hK => ?_
      rw [if_pos (by simp [Region.wanted, h2])]
      unfold Oper.wpIn
      refine ⟨h3, ?_⟩
      rw [h4]
      refine hK _ _ ⟨⟨?_, ?_, ?_, ?_, ?_⟩, hcl'⟩
      · rw [h1]; exact hI.nod
      · rw [h1]; exact hI.size
      · rw [h1]; exact hI.old
      · rw [h1]
        intro j hj
        show a.tmps[s + j]? = _
        rw [hI.new j hj, hall j hj]
        simp
      · simp
    · have hlt : i < m := by omega
      have hLm : L m = false := by
        cases e : L m with
        | false => rfl
        | true =>
          have := all_of_last (L := L) hc (fun k o' e' hk ho' he hb => by
            rcases hk with hk | rfl
            · exact hcl k o' e' hk ho' he hb
            · exact hcl k o' e' e ho' he hb) (m - i) i (by omega) (by omega)
          rw [this] at hL
          cases hL
      have hw : w = W0.drew := by rw [hI.w, hLm]; rfl
      subst hw
      obtain ⟨h1, h2, h3, h4⟩ := hop i o hlt ho a ⟨hI.old, hdep'⟩
      refine wpOpIn_step ho fun K' hK => ?_
      rw [if_pos (by simp [Region.wanted, h2])]
      unfold Oper.wpIn
      refine ⟨h3, ?_⟩
      rw [h4]
      have hsi : s + i < a.tmps.size := by rw [hI.size]; omega
      refine hK _ _ ⟨⟨?_, ?_, ?_, ?_, ?_⟩, hcl'⟩
      · rw [h1]; exact hI.nod
      · rw [h1]; show (a.tmps.setIfInBounds _ _).size = _; simpa using hI.size
      · rw [h1]
        intro p hp
        show (a.tmps.setIfInBounds _ _)[p]? = _
        rw [Array.getElem?_setIfInBounds_ne (by omega)]
        exact hI.old p hp
      · rw [h1]
        intro j hj
        show (a.tmps.setIfInBounds _ _)[s + j]? = _
        by_cases hji : j = i
        · subst hji
          rw [Array.getElem?_setIfInBounds_self_of_lt hsi]
          simp
        · rw [Array.getElem?_setIfInBounds_ne (by omega), hI.new j hj]
          simp [hji]
      · rw [show ((m == i) || L m) = false from by rw [hLm, Bool.or_false]; exact beq_eq_false_iff_ne.2 (fun e => him e.symm)]
        rfl
  · rintro L a w hall ⟨hI, _⟩
    have hw : w = W1 := by rw [hI.w, hall m (by omega)]; rfl
    have ha : a = { tmps := tm, defers := A0.defers } := by
      obtain ⟨at_, ad⟩ := a
      have h1 : ad = A0.defers := hI.nod
      have h2 : at_ = tm := by
        rw [← htm]
        apply Array.ext_getElem?
        intro p
        rw [foldl_set s m val A0.tmps hsz p]
        by_cases hp : s ≤ p ∧ p < s + m
        · rw [if_pos hp]
          have := hI.new (p - s) (by omega)
          rw [hall _ (by omega), if_pos rfl, show s + (p - s) = p by omega] at this
          exact this
        · rw [if_neg hp]
          exact hI.old p (by omega)
      rw [h1, h2]
    rw [hw, ha]
    exact h
end
end Go.Proofs.YtpfkeohaaeiaaaaGreatDoor.frm
/- Law 13: Frame of a Tracker: the ACK frame. -/
namespace Go.Proofs.YtpfkeohaaeiaaaaGreatDoor.frm
open Go.RowKit Go.Sort Go.Shelf
set_option maxRecDepth 100000
attribute [local go_sem] Oper.semAt_some
variable {zs : List Int} {n : Nat} {top lg wh few : Int}
/-- the ranges when k intervals are laid: the last places are filled -/
def rowK (zs : List Int) (n k : Nat) : List (Int × Int) := (List.range n).map (fun j => if n - k ≤ j then (zg zs ((n - 1 - j) * 2), zg zs ((n - 1 - j) * 2 + 1)) else (0, 0))
theorem rowK_len (zs : List Int) (n k : Nat) : (rowK zs n k).length = n := by simp [rowK]
theorem rowK_zero (zs : List Int) (n : Nat) : rowK zs n 0 = List.replicate n (0, 0) := by
  apply List.ext_getElem (by simp [rowK])
  intro j h1 h2
  simp [rowK] at h1 ⊢
  omega
theorem rowK_succ (zs : List Int) (n k : Nat) (hk : k < n) : rowK zs n (k + 1) = (rowK zs n k).set (n - 1 - k) (zg zs (k * 2), zg zs (k * 2 + 1)) := by
  apply List.ext_getElem (by simp [rowK])
  intro j h1 h2
  simp only [rowK, List.length_map, List.length_range] at h1
  rw [List.getElem_set]
  simp only [rowK, List.getElem_map, List.getElem_range]
  by_cases hj : n - 1 - k = j
  · rw [if_pos hj, if_pos (by omega)]
    rw [show n - 1 - j = k by omega]
  · rw [if_neg hj]
    by_cases h3 : n - k ≤ j
    · rw [if_pos h3, if_pos (by omega)]
    · rw [if_neg h3, if_neg (by omega)]
theorem scs_set (l : List (Int × Int)) (j : Nat) (x y : Int) (hj : j < l.length) : scs (l.set j (x, y)) = ((scs l).set (j * 2) (.int .i64 x)).set (j * 2 + 1) (.int .i64 y) := by
  induction l generalizing j with
  | nil => simp at hj
  | cons p l ih =>
    cases j with
    | zero => rfl
    | succ j =>
      have e1 : (j + 1) * 2 = j * 2 + 2 := by omega
      rw [e1]
      show [_, _] ++ scs (l.set j (x, y)) = _
      rw [ih j (by simpa using hj)]
      rfl
theorem scs_rep (n : Nat) : scs (List.replicate n (0, 0)) = List.replicate (n * 2) (.int .i64 0) := by
  induction n with
  | zero => rfl
  | succ n ih =>
    rw [List.replicate_succ, show (n + 1) * 2 = n * 2 + 2 by omega]
    show [_, _] ++ scs (List.replicate n (0, 0)) = _
    rw [ih]; rfl
theorem results_cell_tmpS {P : Program} {fn : Func} {p q : Tmp} {ty : TypeId} (h : fn.results = #[.cell p ty, .tmp q]) (tmps : Array Value) (w : World) (g : Nat) (t : TypeId) (cs : Array Value) (fr : Nat × Nat) (d : TypeDesc)
    (hp : tmps.getD p undef = .pointer (some ⟨g, 0, none⟩)) (hg : w.heap[g]? = some (.cells cs t fr))
    (hu : P.underlying ty = some d) (hd : (match d with | .struct _ | .array _ _ => true | _ => false) = true) (hi : (P.info? ty).map (·.size) = some cs.size) :
    (results fn tmps).run P w = .ok (.tuple #[.agg cs, tmps.getD q undef]) w := by
  have hp' : tmps[p]?.getD undef = .pointer (some ⟨g, 0, none⟩) := by simpa using hp
  simp [results, h, hp', asAddr, run_loadVar_row w g t ty cs fr d hg hu hd hi]
theorem boxes4 (w : World) (o1 o2 o3 o4 : Obj) : ((((w.alloc o1).alloc o2).alloc o3).alloc o4).heap[w.heap.size]? = some o1 ∧ ((((w.alloc o1).alloc o2).alloc o3).alloc o4).heap[w.heap.size + 1]? = some o2 ∧ ((((w.alloc o1).alloc o2).alloc o3).alloc o4).heap[w.heap.size + 2]? = some o3 ∧
    ((((w.alloc o1).alloc o2).alloc o3).alloc o4).heap[w.heap.size + 3]? = some o4 ∧ Below w.heap.size w ((((w.alloc o1).alloc o2).alloc o3).alloc o4) ∧ ((((w.alloc o1).alloc o2).alloc o3).alloc o4).heap.size = w.heap.size + 4 := by
  obtain ⟨_, h1, h2, h3, h4, h5⟩ := boxes3 w o1 o2 o3
  refine ⟨?_, ?_, ?_, ?_, h4.alloc h4.size _, by simp⟩
  · exact (Below.heap_alloc _ _ _ (heap_lt h1)).trans h1
  · exact (Below.heap_alloc _ _ _ (heap_lt h2)).trans h2
  · exact (Below.heap_alloc _ _ _ (heap_lt h3)).trans h3
  · have := heap_alloc_new (((w.alloc o1).alloc o2).alloc o3) o4
    rwa [h5] at this
theorem boxes5 (w : World) (o1 o2 o3 o4 o5 : Obj) : (((((w.alloc o1).alloc o2).alloc o3).alloc o4).alloc o5).heap[w.heap.size]? = some o1 ∧ (((((w.alloc o1).alloc o2).alloc o3).alloc o4).alloc o5).heap[w.heap.size + 1]? = some o2 ∧ (((((w.alloc o1).alloc o2).alloc o3).alloc o4).alloc o5).heap[w.heap.size + 1 + 1]? = some o3 ∧
    (((((w.alloc o1).alloc o2).alloc o3).alloc o4).alloc o5).heap[w.heap.size + 1 + 1 + 1]? = some o4 ∧ (((((w.alloc o1).alloc o2).alloc o3).alloc o4).alloc o5).heap[w.heap.size + 1 + 1 + 1 + 1]? = some o5 ∧ Below w.heap.size w (((((w.alloc o1).alloc o2).alloc o3).alloc o4).alloc o5) ∧ (((((w.alloc o1).alloc o2).alloc o3).alloc o4).alloc o5).heap.size = w.heap.size + 5 := by
  obtain ⟨h1, h2, h3, h4, h5, h6⟩ := boxes4 w o1 o2 o3 o4
  refine ⟨(Below.heap_alloc _ _ _ (heap_lt h1)).trans h1, (Below.heap_alloc _ _ _ (heap_lt h2)).trans h2, (Below.heap_alloc _ _ _ (heap_lt h3)).trans h3, (Below.heap_alloc _ _ _ (heap_lt h4)).trans h4, ?_, h5.alloc h5.size _, by simp⟩
  have := heap_alloc_new ((((w.alloc o1).alloc o2).alloc o3).alloc o4) o5
  rwa [h6] at this
theorem scs_length (l : List (Int × Int)) : (scs l).length = l.length * 2 := by
  induction l with
  | nil => rfl
  | cons p l ih => show ([_, _] ++ scs l).length = _; simp [ih]; omega
/-- the ranges when the intervals of pre are laid -/
def rowP (zs : List Int) (n : Nat) (pre : List (Nat × Int × Int)) : List (Int × Int) := pre.foldl (fun r x => r.set (n - 1 - x.1) x.2) (rowK zs n 0)
theorem rowP_snoc (zs : List Int) (n : Nat) (pre : List (Nat × Int × Int)) (x : Nat × Int × Int) : rowP zs n (pre ++ [x]) = (rowP zs n pre).set (n - 1 - x.1) x.2 := by simp [rowP]
theorem rowP_len (zs : List Int) (n : Nat) (pre : List (Nat × Int × Int)) : (rowP zs n pre).length = n := by
  unfold rowP
  generalize hr : rowK zs n 0 = r
  have h : r.length = n := by rw [← hr]; exact rowK_len _ _ _
  clear hr
  induction pre generalizing r with
  | nil => exact h
  | cons x l ih => exact ih _ (by rw [List.length_set]; exact h)
theorem rowP_ivs (zs : List Int) (n k : Nat) (hk : k ≤ n) : rowP zs n (ivs zs k) = rowK zs n k := by
  induction k with
  | zero => rfl
  | succ k ih =>
    rw [ivs_succ, rowP_snoc, ih (by omega), rowK_succ _ _ _ (by omega)]
    rfl
theorem mem_ivs {zs : List Int} {n : Nat} {x : Nat × Int × Int} (h : x ∈ ivs zs n) : x.1 < n := by
  obtain ⟨k, hk, rfl⟩ := List.mem_map.1 h
  exact List.mem_range.1 hk
/-- the frame that is returned -/
def FrPost (zs : List Int) (n : Nat) (dl : Int) (w : World) (e : Ending) (w' : World) : Prop :=
  ∃ g, e = .returned (.tuple #[.agg (ackE dl (.slice (some ⟨g, 0, none⟩) n n)), .bool true]) ∧ w'.ownsRow w.heap.size 103 2 (.slice (some ⟨g, 0, none⟩) n n) n (scs (rowK zs n n)) ∧ Below w.heap.size w w'
set_option maxRecDepth 100000 in
set_option maxHeartbeats 4000000 in
/-- nothing has come: no frame -/
theorem frame_none (t : Nat) (now : Int) (w : World) (hT : TkAt w t zs) (hm : zg zs 34 = 0) :
    Calls Tryz.prog 59 #[.pointer (some ⟨t, 0, none⟩), .int .i64 now] w fun e w' => (∃ v, e = .returned (.tuple #[.agg v, .bool false]) ∧ v = #[.int .i64 0, .int .i64 0, .int .i64 0, .string ⟨#[]⟩, .bool false, .int .i64 0, .int .i64 0, .bool false, .int .i64 0, .slice none 0 0, .int .i64 0, .int .i64 0, .string ⟨#[]⟩]) ∧ Below w.heap.size w w' := by
  have y34 := cell_alloc_l (.cells #[.int .i64 0, .int .i64 0, .int .i64 0, .string ⟨#[]⟩, .bool false, .int .i64 0, .int .i64 0, .bool false, .int .i64 0, .slice none 0 0, .int .i64 0, .int .i64 0, .string ⟨#[]⟩] 56) (cell_alloc_l (.cells #[.pointer (some ⟨t, 0, none⟩)] 32) (hT.zg 34 (by decide) hm))
  clear hT hm
  have BB : Hid (Below w.heap.size w ((w.alloc (.cells #[.pointer (some ⟨t, 0, none⟩)] 32)).alloc (.cells #[.int .i64 0, .int .i64 0, .int .i64 0, .string ⟨#[]⟩, .bool false, .int .i64 0, .int .i64 0, .bool false, .int .i64 0, .slice none 0 0, .int .i64 0, .int .i64 0, .string ⟨#[]⟩] 56))) := Lib.hid (((Below.refl _ w).alloc (Nat.le_refl _) _).alloc (by simp) _)
  go_enter Tryz.func59, Tryz.ntmps59
  go_wp2
  refine bodyPost_ret (results_cell_tmpS rfl _ _ (w.heap.size + 1) 56 _ (0, 0) _ rfl (by have := heap_alloc_new (w.alloc (.cells #[.pointer (some ⟨t, 0, none⟩)] 32)) (.cells #[.int .i64 0, .int .i64 0, .int .i64 0, .string ⟨#[]⟩, .bool false, .int .i64 0, .int .i64 0, .bool false, .int .i64 0, .slice none 0 0, .int .i64 0, .int .i64 0, .string ⟨#[]⟩] 56); rw [World.size_alloc] at this; exact this) Tryz.underlying56 rfl (by kernel_rfl)) rfl ?_
  exact ⟨⟨_, rfl, rfl⟩, BB.out⟩
theorem mk_row (zs : List Int) (n : Nat) (h1 : 1 ≤ n) (hn : n ≤ 16) : ∀ w : World, (Instr.makeSlice 54 (.int .i64 n) (.int .i64 n)).run Tryz.prog w = .ok (.slice (some ⟨w.heap.size, 0, none⟩) n n) (w.alloc (.cells (scs (rowK zs n 0)).toArray 103)) := by
  rw [rowK_zero, scs_rep]
  have : n = 1 ∨ n = 2 ∨ n = 3 ∨ n = 4 ∨ n = 5 ∨ n = 6 ∨ n = 7 ∨ n = 8 ∨ n = 9 ∨ n = 10 ∨ n = 11 ∨ n = 12 ∨ n = 13 ∨ n = 14 ∨ n = 15 ∨ n = 16 := by omega
  rcases this with rfl | rfl | rfl | rfl | rfl | rfl | rfl | rfl | rfl | rfl | rfl | rfl | rfl | rfl | rfl | rfl <;> (intro w; kernel_rfl)
set_option maxRecDepth 100000 in
set_option maxHeartbeats 4000000 in
theorem frame_any (t : Nat) (now : Int) (w : World) (hT : TkAt w t zs) (ok : TkOk zs n top lg wh few) (hn : 1 ≤ n) (hn1 : 0 ≤ now) (hn2 : now ≤ 1099511627776) (hwh : 0 ≤ wh) (hwh2 : wh ≤ 1099511627776) :
    Calls Tryz.prog 59 #[.pointer (some ⟨t, 0, none⟩), .int .i64 now] w (FrPost zs n (if wh < now then now - wh else 0) w) := by
  have hn16 := ok.le
  have MK := mk_row zs n hn hn16
  have c34 := hT.zg 34 (by decide) ok.many
  have c38 := hT.zg 38 (by decide) ok.wh
  obtain ⟨row, hrow⟩ : ∃ row, row = (scs (rowK zs n 0)).toArray := ⟨_, rfl⟩
  rw [← hrow] at MK
  have HR := Lib.hid hrow
  clear hrow
  have X := Lib.hid (boxes4 w (.cells #[.pointer (some ⟨t, 0, none⟩)] 32) (.cells #[.int .i64 0, .int .i64 0, .int .i64 0, .string ⟨#[]⟩, .bool false, .int .i64 0, .int .i64 0, .bool false, .int .i64 0, .slice none 0 0, .int .i64 0, .int .i64 0, .string ⟨#[]⟩] 56) (.cells row 103) (.cells (ackE 0 (.slice (some ⟨w.heap.size + 2, 0, none⟩) n n)) 56))
  have hlt := hT.lt
  have fn : ∀ o : Obj, Hid (∀ i v, w.cell? ⟨t, i, none⟩ = some v → (w.alloc o).cell? ⟨t, i, none⟩ = some v) := fun o => Lib.hid (fun i v h => cell_alloc_l o h)
  have y34 := cell_alloc_l (.cells #[.int .i64 0, .int .i64 0, .int .i64 0, .string ⟨#[]⟩, .bool false, .int .i64 0, .int .i64 0, .bool false, .int .i64 0, .slice none 0 0, .int .i64 0, .int .i64 0, .string ⟨#[]⟩] 56) (cell_alloc_l (.cells #[.pointer (some ⟨t, 0, none⟩)] 32) c34)
  have y38 := cell_alloc_l (.cells (ackE 0 (.slice (some ⟨w.heap.size + 2, 0, none⟩) n n)) 56) (cell_alloc_l (.cells row 103) (cell_alloc_l (.cells #[.int .i64 0, .int .i64 0, .int .i64 0, .string ⟨#[]⟩, .bool false, .int .i64 0, .int .i64 0, .bool false, .int .i64 0, .slice none 0 0, .int .i64 0, .int .i64 0, .string ⟨#[]⟩] 56) (cell_alloc_l (.cells #[.pointer (some ⟨t, 0, none⟩)] 32) c38)))
  simp only [ackE] at y38
  have HT := Lib.hid (And.intro hT ok)
  have n0 : ((n : Int) == 0) = false := beq_eq_false_iff_ne.2 (by omega)
  clear hT ok c34 c38 fn
  refine (callsIn_wide (n := 8)).1 ?_
  refine callsIn_of_wp_marks Tryz.func59 rfl trivial ?_ rfl
  simp only [Tryz.ntmps59, List.size_toArray, List.length_cons, List.length_nil, Nat.reduceAdd, Nat.reduceSub, Array.replicate_succ, Array.replicate_zero, List.push_toArray, List.append_toArray, List.nil_append, List.cons_append]
  by_cases hd : wh < now
  · rw [if_pos hd]
    gi_wp2_with (refine ⟨trivial, (callsIn_wide.2 (all62 _ _)).mono ?_⟩; rintro e w' ⟨rfl, rfl⟩)
    generalize hW0 : ((((w.alloc _).alloc _).alloc _).alloc _).alloc _ = W0
    have X := Lib.hid (hW0 ▸ boxes5 w _ _ _ _ _)
    clear hW0
    obtain ⟨X0, X1, X2, X3, X4, X5, X6⟩ := X.out
    have HB := Lib.hid (And.intro X5 X6)
    clear X y34 y38
    refine wpIn_rangeFunc_ownH rfl (by decide) (gf := 116) (lb := #[.pointer (some ⟨w.heap.size + 1 + 1 + 1 + 1, 0, none⟩)]) rfl trivial (enters_of Tryz.func116 (by kernel_rfl) rfl)
      (iv_stopsS 7 (by decide) (w.heap.size + 1 + 1 + 1 + 1) t n zs (by omega) W0 (by have := HB.out.2; omega) (at_whole X4 0 rfl) (HT.out.1.block (HB.out.1.block t HT.out.1.lt)) HT.out.2.many)
      (fun h k => h.trans k) (kpT_b (by have := HB.out.2; omega) (by have := HB.out.2; omega)) (Below.refl _ _) (fun _ => rfl)
      (fun (pre : List (InIv zs n)) W => (W.heap[w.heap.size]? = some (.cells #[.pointer (some ⟨t, 0, none⟩)] 32 (0, 0)) ∧ (W.heap[w.heap.size + 1]? = some (.cells #[.int .i64 0, .int .i64 0, .int .i64 0, .string ⟨#[]⟩, .bool false, .int .i64 0, .int .i64 0, .bool false, .int .i64 0, .slice none 0 0, .int .i64 0, .int .i64 0, .string ⟨#[]⟩] 56 (0, 0)) ∧ (W.heap[w.heap.size + 1 + 1 + 1]? = some (.cells #[.int .i64 2, .int .i64 0, .int .i64 0, .string ⟨#[]⟩, .bool false, .int .i64 0, .int .i64 0, .bool false, .int .i64 (now - wh), .slice (some ⟨w.heap.size + 1 + 1, 0, none⟩) n n, .int .i64 0, .int .i64 0, .string ⟨#[]⟩] 56 (0, 0)) ∧ (W.heap[w.heap.size + 1 + 1 + 1 + 1]? = some (.cells #[.pointer (some ⟨t, 0, none⟩)] 176 (0, 0)) ∧ W.heap[w.heap.size + 1 + 1]? = some (.cells (scs (rowP zs n (pre.map (·.1)))).toArray 103 (0, 0)))))) ∧ Below w.heap.size w W)
      (fun _ _ _ => False)
      (OwnFrom.and (OwnFrom.and (heap_own _ _ _ _) (OwnFrom.and (heap_own _ _ _ _) (OwnFrom.and (heap_own _ _ _ _) (OwnFrom.and (heap_own _ _ _ _) (fun s A C row hs hg hr => heap_own _ _ _ _ () A C row hs hg hr))))) (ownFrom_below (Nat.le_refl _) (by have := HB.out.2; omega)))
      (fun _ _ _ _ _ hs _ _ => hs)
      ⟨⟨X0, X1, X3, X4, HR.out ▸ X2⟩, HB.out.1⟩
      (fun x a' W => ∃ Bx, W0.heap.size ≤ Bx ∧ W.heap[Bx]? = some (.cells #[.int .i64 x.1.2.1, .int .i64 x.1.2.2] 103 (0, 0)) ∧ a' = { tmps := #[Value.pointer (some ⟨t, 0, none⟩), .int .i64 now, .pointer (some ⟨w.heap.size, 0, none⟩), undef, .pointer (some ⟨w.heap.size + 1, 0, none⟩), .bool false, .pointer (some ⟨w.heap.size + 1 + 1 + 1, 0, none⟩), .int .i64 x.1.1, .pointer (some ⟨Bx, 0, none⟩), Value.pointer (some ⟨t, 0, none⟩), .bool false, .bool false, Value.pointer (some ⟨t, 0, none⟩), Value.pointer (some ⟨t, 0, none⟩), Value.pointer (some ⟨t, 0, none⟩), .pointer (some ⟨t, 34, none⟩), .int .i64 n, .bool false, .bool false, undef, Value.pointer (some ⟨t, 0, none⟩), Value.pointer (some ⟨t, 0, none⟩), Value.pointer (some ⟨t, 0, none⟩), .pointer (some ⟨t, 34, none⟩), .int .i64 n, .slice (some ⟨w.heap.size + 1 + 1, 0, none⟩) n n, .agg #[.int .i64 2, .int .i64 0, .int .i64 0, .string ⟨#[]⟩, .bool false, .int .i64 0, .int .i64 0, .bool false, .int .i64 0, .slice (some ⟨w.heap.size + 1 + 1, 0, none⟩) n n, .int .i64 0, .int .i64 0, .string ⟨#[]⟩], .int .i64 now, Value.pointer (some ⟨t, 0, none⟩), Value.pointer (some ⟨t, 0, none⟩), .pointer (some ⟨t, 38, none⟩), .int .i64 wh, .bool true, .int .i64 now, Value.pointer (some ⟨t, 0, none⟩), Value.pointer (some ⟨t, 0, none⟩), .pointer (some ⟨t, 38, none⟩), .int .i64 wh, .int .i64 (now - wh), .pointer (some ⟨w.heap.size + 1 + 1 + 1, 8, none⟩), Value.pointer (some ⟨t, 0, none⟩), Value.pointer (some ⟨t, 0, none⟩), Value.pointer (some ⟨t, 0, none⟩), .func (.func 116) #[] #[.pointer (some ⟨w.heap.size + 1 + 1 + 1 + 1, 0, none⟩)], .int .i64 x.1.1, .agg #[.int .i64 x.1.2.1, .int .i64 x.1.2.2], undef, undef, undef, undef, undef, undef, undef, undef, undef, undef, undef, undef, undef], defers := [] })
      (fun x a' s A C row hs hg hr => by
        obtain ⟨Bx, h1, h2, h3⟩ := hs
        exact ⟨Bx, h1, heap_own _ _ _ _ () A C row h2 hg hr, h3⟩)
      ?assign ?body ?done ?stop
    case assign =>
      rintro ly pre ⟨⟨k, f, tt⟩, hx⟩ W K hi hK
      simp only [encIv] at hK ⊢
      have H1 := Lib.hid (And.intro hi hK)
      clear hi hK
      gi_wp2
      obtain ⟨⟨q0, q1, q2, q3, q4⟩, q5⟩ := H1.out.1
      have hs := heap_lt q3
      have ht := HT.out.1.lt
      have hz := HB.out.2
      refine H1.out.2 _ _ ((KeepsOthers.alloc _ _).from _) (KpT.below ((Below.refl _ W).alloc (Nat.le_refl _) _) (by omega) (by omega)) ?_ ⟨W.heap.size, by omega, heap_alloc_new W _, rfl⟩
      exact ⟨⟨(Below.heap_alloc W _ _ (heap_lt q0)).trans q0, (Below.heap_alloc W _ _ (heap_lt q1)).trans q1, (Below.heap_alloc W _ _ (heap_lt q2)).trans q2, (Below.heap_alloc W _ _ (heap_lt q3)).trans q3, (Below.heap_alloc W _ _ (heap_lt q4)).trans q4⟩, q5.trans ((Below.refl _ W).alloc q5.size _)⟩
    case body =>
      rintro ly pre ⟨⟨k, f, tt⟩, hx⟩ a' W hl ⟨r, hr⟩ ⟨⟨q0, q1, q2, q3, q4⟩, q5⟩ ⟨Bx, hBx, hbx, rfl⟩ hlen
      simp only at hbx ⊢
      have hkn : k < n := mem_ivs hx
      have l0 := at_whole hbx 0 rfl
      have l1 := at_whole hbx 1 rfl
      have c0 := at_whole q0 0 rfl
      have c9 := at_whole q2 9 rfl
      simp only [List.getElem_toArray, List.getElem_cons_zero, List.getElem_cons_succ] at l0 l1 c0 c9
      have RL := rowP_len zs n (pre.map (·.1))
      have SL : (scs (rowP zs n (pre.map (·.1)))).length = n * 2 := by rw [scs_length, RL]
      have T1 := HT.out.1.block (q5.block t HT.out.1.lt)
      have y34 := T1.zg 34 (by decide) HT.out.2.many
      obtain ⟨j, hj⟩ : ∃ j, j = n - 1 - k := ⟨_, rfl⟩
      have d0 : ∃ v, W.cell? ⟨w.heap.size + 1 + 1, j * 2, none⟩ = some v := ⟨_, at_whole q4 (j * 2) (by rw [List.getElem?_toArray, List.getElem?_eq_getElem (by omega)])⟩
      have d1 : ∃ v, W.cell? ⟨w.heap.size + 1 + 1, j * 2 + 1, none⟩ = some v := ⟨_, at_whole q4 (j * 2 + 1) (by rw [List.getElem?_toArray, List.getElem?_eq_getElem (by omega)])⟩
      obtain ⟨v0, d0⟩ := d0
      obtain ⟨v1, d1⟩ := d1
      have z0 := frozen_of_row W (w.heap.size + 1 + 1) (j * 2) _ 103 q4
      have z1 := frozen_of_row W (w.heap.size + 1 + 1) (j * 2 + 1) _ 103 q4
      have AS := Lib.hid (show rowP zs n ((pre ++ [(⟨(k, f, tt), hx⟩ : InIv zs n)]).map (·.1)) = (rowP zs n (pre.map (·.1))).set j (f, tt) by rw [List.map_append, hj]; exact rowP_snoc zs n (pre.map (·.1)) (k, f, tt))
      have e1 : IntKind.i64.wrap ((n : Int) - 1) = (n : Int) - 1 := IntWalk.i64_in _ (by omega)
      have e2 : IntKind.i64.wrap ((n : Int) - 1 - (k : Int)) = (j : Int) := by rw [IntWalk.i64_in _ (by omega)]; omega
      have e3 : (0 : Int) ≤ (j : Int) := by omega
      have e4 : (j : Int) < (n : Int) := by omega
      have G := Lib.hid (And.intro (And.intro q0 (And.intro q1 (And.intro q2 (And.intro q3 q4)))) (And.intro q5 (And.intro RL (And.intro SL hj))))
      clear q0 q1 q2 q3 q4 q5 hbx T1 RL SL hj
      gi_wp2
      refine pure_region 46 12 (fun i => (#[.pointer (some ⟨w.heap.size + 1 + 1 + 1, 9, none⟩), .slice (some ⟨w.heap.size + 1 + 1, 0, none⟩) n n, .pointer (some ⟨t, 0, none⟩), .pointer (some ⟨t, 0, none⟩), .pointer (some ⟨t, 0, none⟩), .pointer (some ⟨t, 34, none⟩), .int .i64 n, .int .i64 ((n : Int) - 1), .int .i64 k, .int .i64 j, .agg #[.int .i64 f, .int .i64 tt], .pointer (some ⟨w.heap.size + 1 + 1, j * 2, none⟩)] : Array Value)[i]?.getD undef) (W1 := (W.drew.setCell ⟨w.heap.size + 1 + 1, j * 2, none⟩ (.int .i64 f)).setCell ⟨w.heap.size + 1 + 1, j * 2 + 1, none⟩ (.int .i64 tt)) rfl (by kernel_rfl) (by kernel_rfl) rfl (by simp) ?_ ?_ rfl ?_
      · rintro i o hi ho a ⟨hold, hdep⟩
        have o2 := hold 2 (by decide)
        have o6 := hold 6 (by decide)
        have o7 := hold 7 (by decide)
        have o8 := hold 8 (by decide)
        simp at o2 o6 o7 o8
        have hi12 : i = 0 ∨ i = 1 ∨ i = 2 ∨ i = 3 ∨ i = 4 ∨ i = 5 ∨ i = 6 ∨ i = 7 ∨ i = 8 ∨ i = 9 ∨ i = 10 ∨ i = 11 := by omega
        rcases hi12 with rfl | rfl | rfl | rfl | rfl | rfl | rfl | rfl | rfl | rfl | rfl | rfl
        all_goals (cases ho; simp [Region.binds] at hdep; refine ⟨rfl, rfl, fun _ hf => ?_, ?_⟩)
        all_goals first | (exact absurd hf (by simp [Oper.about])) | skip
        · simp [go_sem, Act.eval, o6]
        all_goals clear G AS HR X X0 X1 X2 X3 X4 X5 X6 MK hold
        all_goals (simp [go_sem, Act.eval, hdep, o2, o7, o8, c0, c9, y34, l0, l1, e1, e2, e3, e4]; done)
      · rintro o ho a ⟨hold, hdep⟩
        cases ho
        simp [Region.binds] at hdep
        clear G AS HR X X0 X1 X2 X3 X4 X5 X6 MK hold
        refine ⟨rfl, rfl, fun _ hf => absurd hf (by simp [Oper.about]), ?_⟩
        simp [go_sem, Act.eval, hdep, d0, d1, z0, z1]
      · obtain ⟨⟨q0, q1, q2, q3, q4⟩, q5, hRL, hSL, hj⟩ := G.out
        have hbz := heap_lt q4
        have hlt2 := HT.out.1.lt
        refine ⟨(((KeepsOthers.drew W).trans (KeepsOthers.setCell _ _ _)).trans (KeepsOthers.setCell _ _ _)).from _, ?_, ?_⟩
        all_goals have e0 : ∀ i, i ≠ w.heap.size + 1 + 1 → ((W.drew.setCell ⟨w.heap.size + 1 + 1, j * 2, none⟩ (.int .i64 f)).setCell ⟨w.heap.size + 1 + 1, j * 2 + 1, none⟩ (.int .i64 tt)).heap[i]? = W.heap[i]? := fun i hi => (heap_setCell_other _ ⟨w.heap.size + 1 + 1, j * 2 + 1, none⟩ i _ hi).trans (heap_setCell_other _ ⟨w.heap.size + 1 + 1, j * 2, none⟩ i _ hi)
        · exact ⟨e0 _ (by omega), e0 _ (by omega)⟩
        · refine ⟨⟨(e0 _ (by omega)).trans q0, (e0 _ (by omega)).trans q1, (e0 _ (by omega)).trans q2, (e0 _ (by omega)).trans q3, ?_⟩, (q5.drew.setCell (p := ⟨w.heap.size + 1 + 1, j * 2, none⟩) (by simp; omega) _).setCell (p := ⟨w.heap.size + 1 + 1, j * 2 + 1, none⟩) (by simp; omega) _⟩
          rw [AS.out, scs_set _ _ _ _ (by rw [hRL]; omega)]
          rw [heap_setCell_same _ _ _ _ 103 _ (heap_setCell_same W.drew _ _ _ 103 _ q4)]
          simp
    case done =>
      rename_i K0 hK0
      rintro D ys W hD hys ⟨⟨q0, q1, q2, q3, q4⟩, q5⟩ hK
      rw [hys, rowP_ivs zs n n (Nat.le_refl _)] at q4
      have H := Lib.hid (And.intro (And.intro q1 (And.intro q2 q4)) (And.intro q5 hK))
      clear q0 q1 q2 q3 q4 q5 hK hys
      refine hK0 _ _ (wpIn_wide.2 ?_)
      clear hK0
      have Hq := H.out.1.2.1
      have Hq1 := H.out.1.1
      go_wp2_with (first | (refine wpList_load_row rfl 56 _ rfl (w.heap.size + 1 + 1 + 1) rfl 56 _ (0, 0) _ Hq Tryz.underlying56 rfl size56 ?_) | (refine wpList_store_row rfl 56 _ _ rfl (w.heap.size + 1) _ rfl rfl 56 _ Hq1 size56 rfl (by simp [Value.oneCell']) ?_))
      have hz := HB.out.2
      have hD1 : D ≠ w.heap.size + 1 := by omega
      have hD2 : w.heap.size + 1 ≠ D := by omega
      have hD3 : w.heap.size + 1 + 1 ≠ D := by omega
      have hDK : (W.setRow (w.heap.size + 1) (ackE (now - wh) (.slice (some ⟨w.heap.size + 1 + 1, 0, none⟩) n n))).heap[D]? = some (.deferred (some [])) := (setRow_other _ _ _ _ hD1).trans H.out.2.2
      refine ⟨by simp, .inl ⟨_, _, rfl, run_takeDeferred hDK, ?_⟩⟩
      refine ⟨_, results_cell_tmpS rfl _ _ (w.heap.size + 1) 56 _ (0, 0) _ rfl ((World.putObj_heap_other hD2).trans (setRow_heap _ _ _ _ _ _ Hq1)) Tryz.underlying56 rfl size56, w.heap.size + 1 + 1, rfl, ⟨by rw [scs_length, rowK_len], .inr ⟨_, n, _, rfl, by omega, (World.putObj_heap_other hD3).trans ((setRow_other _ _ _ _ (by omega)).trans H.out.1.2.2), Nat.le_refl _, by unfold maxLen; omega, by simp [scs_length, rowK_len], by rw [List.take_of_length_le (by simp [scs_length, rowK_len])]⟩⟩, ?_⟩
      exact (H.out.2.1.grown (grown_setRow W _ _) H.out.2.1.size (fun k e => by cases e; omega)).trans (belowK_b (w := w) (Nat.le_refl _) _ D _ _ (by omega) hDK rfl rfl)
    case stop =>
      rintro D c pre W _ _ h _
      exact h.elim
  · rw [if_neg hd]
    gi_wp2_with (refine ⟨trivial, (callsIn_wide.2 (all62 _ _)).mono ?_⟩; rintro e w' ⟨rfl, rfl⟩)
    generalize hW0 : ((((w.alloc _).alloc _).alloc _).alloc _).alloc _ = W0
    have X := Lib.hid (hW0 ▸ boxes5 w _ _ _ _ _)
    clear hW0
    obtain ⟨X0, X1, X2, X3, X4, X5, X6⟩ := X.out
    have HB := Lib.hid (And.intro X5 X6)
    clear X y34 y38
    refine wpIn_rangeFunc_ownH rfl (by decide) (gf := 116) (lb := #[.pointer (some ⟨w.heap.size + 1 + 1 + 1 + 1, 0, none⟩)]) rfl trivial (enters_of Tryz.func116 (by kernel_rfl) rfl)
      (iv_stopsS 7 (by decide) (w.heap.size + 1 + 1 + 1 + 1) t n zs (by omega) W0 (by have := HB.out.2; omega) (at_whole X4 0 rfl) (HT.out.1.block (HB.out.1.block t HT.out.1.lt)) HT.out.2.many)
      (fun h k => h.trans k) (kpT_b (by have := HB.out.2; omega) (by have := HB.out.2; omega)) (Below.refl _ _) (fun _ => rfl)
      (fun (pre : List (InIv zs n)) W => (W.heap[w.heap.size]? = some (.cells #[.pointer (some ⟨t, 0, none⟩)] 32 (0, 0)) ∧ (W.heap[w.heap.size + 1]? = some (.cells #[.int .i64 0, .int .i64 0, .int .i64 0, .string ⟨#[]⟩, .bool false, .int .i64 0, .int .i64 0, .bool false, .int .i64 0, .slice none 0 0, .int .i64 0, .int .i64 0, .string ⟨#[]⟩] 56 (0, 0)) ∧ (W.heap[w.heap.size + 1 + 1 + 1]? = some (.cells #[.int .i64 2, .int .i64 0, .int .i64 0, .string ⟨#[]⟩, .bool false, .int .i64 0, .int .i64 0, .bool false, .int .i64 0, .slice (some ⟨w.heap.size + 1 + 1, 0, none⟩) n n, .int .i64 0, .int .i64 0, .string ⟨#[]⟩] 56 (0, 0)) ∧ (W.heap[w.heap.size + 1 + 1 + 1 + 1]? = some (.cells #[.pointer (some ⟨t, 0, none⟩)] 176 (0, 0)) ∧ W.heap[w.heap.size + 1 + 1]? = some (.cells (scs (rowP zs n (pre.map (·.1)))).toArray 103 (0, 0)))))) ∧ Below w.heap.size w W)
      (fun _ _ _ => False)
      (OwnFrom.and (OwnFrom.and (heap_own _ _ _ _) (OwnFrom.and (heap_own _ _ _ _) (OwnFrom.and (heap_own _ _ _ _) (OwnFrom.and (heap_own _ _ _ _) (fun s A C row hs hg hr => heap_own _ _ _ _ () A C row hs hg hr))))) (ownFrom_below (Nat.le_refl _) (by have := HB.out.2; omega)))
      (fun _ _ _ _ _ hs _ _ => hs)
      ⟨⟨X0, X1, X3, X4, HR.out ▸ X2⟩, HB.out.1⟩
      (fun x a' W => ∃ Bx, W0.heap.size ≤ Bx ∧ W.heap[Bx]? = some (.cells #[.int .i64 x.1.2.1, .int .i64 x.1.2.2] 103 (0, 0)) ∧ a' = { tmps := #[Value.pointer (some ⟨t, 0, none⟩), .int .i64 now, .pointer (some ⟨w.heap.size, 0, none⟩), undef, .pointer (some ⟨w.heap.size + 1, 0, none⟩), .bool false, .pointer (some ⟨w.heap.size + 1 + 1 + 1, 0, none⟩), .int .i64 x.1.1, .pointer (some ⟨Bx, 0, none⟩), Value.pointer (some ⟨t, 0, none⟩), .bool false, .bool false, Value.pointer (some ⟨t, 0, none⟩), Value.pointer (some ⟨t, 0, none⟩), Value.pointer (some ⟨t, 0, none⟩), .pointer (some ⟨t, 34, none⟩), .int .i64 n, .bool false, .bool false, undef, Value.pointer (some ⟨t, 0, none⟩), Value.pointer (some ⟨t, 0, none⟩), Value.pointer (some ⟨t, 0, none⟩), .pointer (some ⟨t, 34, none⟩), .int .i64 n, .slice (some ⟨w.heap.size + 1 + 1, 0, none⟩) n n, .agg #[.int .i64 2, .int .i64 0, .int .i64 0, .string ⟨#[]⟩, .bool false, .int .i64 0, .int .i64 0, .bool false, .int .i64 0, .slice (some ⟨w.heap.size + 1 + 1, 0, none⟩) n n, .int .i64 0, .int .i64 0, .string ⟨#[]⟩], .int .i64 now, Value.pointer (some ⟨t, 0, none⟩), Value.pointer (some ⟨t, 0, none⟩), .pointer (some ⟨t, 38, none⟩), .int .i64 wh, .bool false, undef, undef, undef, undef, undef, undef, undef, Value.pointer (some ⟨t, 0, none⟩), Value.pointer (some ⟨t, 0, none⟩), Value.pointer (some ⟨t, 0, none⟩), .func (.func 116) #[] #[.pointer (some ⟨w.heap.size + 1 + 1 + 1 + 1, 0, none⟩)], .int .i64 x.1.1, .agg #[.int .i64 x.1.2.1, .int .i64 x.1.2.2], undef, undef, undef, undef, undef, undef, undef, undef, undef, undef, undef, undef, undef], defers := [] })
      (fun x a' s A C row hs hg hr => by
        obtain ⟨Bx, h1, h2, h3⟩ := hs
        exact ⟨Bx, h1, heap_own _ _ _ _ () A C row h2 hg hr, h3⟩)
      ?assign ?body ?done ?stop
    case assign =>
      rintro ly pre ⟨⟨k, f, tt⟩, hx⟩ W K hi hK
      simp only [encIv] at hK ⊢
      have H1 := Lib.hid (And.intro hi hK)
      clear hi hK
      gi_wp2
      obtain ⟨⟨q0, q1, q2, q3, q4⟩, q5⟩ := H1.out.1
      have hs := heap_lt q3
      have ht := HT.out.1.lt
      have hz := HB.out.2
      refine H1.out.2 _ _ ((KeepsOthers.alloc _ _).from _) (KpT.below ((Below.refl _ W).alloc (Nat.le_refl _) _) (by omega) (by omega)) ?_ ⟨W.heap.size, by omega, heap_alloc_new W _, rfl⟩
      exact ⟨⟨(Below.heap_alloc W _ _ (heap_lt q0)).trans q0, (Below.heap_alloc W _ _ (heap_lt q1)).trans q1, (Below.heap_alloc W _ _ (heap_lt q2)).trans q2, (Below.heap_alloc W _ _ (heap_lt q3)).trans q3, (Below.heap_alloc W _ _ (heap_lt q4)).trans q4⟩, q5.trans ((Below.refl _ W).alloc q5.size _)⟩
    case body =>
      rintro ly pre ⟨⟨k, f, tt⟩, hx⟩ a' W hl ⟨r, hr⟩ ⟨⟨q0, q1, q2, q3, q4⟩, q5⟩ ⟨Bx, hBx, hbx, rfl⟩ hlen
      simp only at hbx ⊢
      have hkn : k < n := mem_ivs hx
      have l0 := at_whole hbx 0 rfl
      have l1 := at_whole hbx 1 rfl
      have c0 := at_whole q0 0 rfl
      have c9 := at_whole q2 9 rfl
      simp only [List.getElem_toArray, List.getElem_cons_zero, List.getElem_cons_succ] at l0 l1 c0 c9
      have RL := rowP_len zs n (pre.map (·.1))
      have SL : (scs (rowP zs n (pre.map (·.1)))).length = n * 2 := by rw [scs_length, RL]
      have T1 := HT.out.1.block (q5.block t HT.out.1.lt)
      have y34 := T1.zg 34 (by decide) HT.out.2.many
      obtain ⟨j, hj⟩ : ∃ j, j = n - 1 - k := ⟨_, rfl⟩
      have d0 : ∃ v, W.cell? ⟨w.heap.size + 1 + 1, j * 2, none⟩ = some v := ⟨_, at_whole q4 (j * 2) (by rw [List.getElem?_toArray, List.getElem?_eq_getElem (by omega)])⟩
      have d1 : ∃ v, W.cell? ⟨w.heap.size + 1 + 1, j * 2 + 1, none⟩ = some v := ⟨_, at_whole q4 (j * 2 + 1) (by rw [List.getElem?_toArray, List.getElem?_eq_getElem (by omega)])⟩
      obtain ⟨v0, d0⟩ := d0
      obtain ⟨v1, d1⟩ := d1
      have z0 := frozen_of_row W (w.heap.size + 1 + 1) (j * 2) _ 103 q4
      have z1 := frozen_of_row W (w.heap.size + 1 + 1) (j * 2 + 1) _ 103 q4
      have AS := Lib.hid (show rowP zs n ((pre ++ [(⟨(k, f, tt), hx⟩ : InIv zs n)]).map (·.1)) = (rowP zs n (pre.map (·.1))).set j (f, tt) by rw [List.map_append, hj]; exact rowP_snoc zs n (pre.map (·.1)) (k, f, tt))
      have e1 : IntKind.i64.wrap ((n : Int) - 1) = (n : Int) - 1 := IntWalk.i64_in _ (by omega)
      have e2 : IntKind.i64.wrap ((n : Int) - 1 - (k : Int)) = (j : Int) := by rw [IntWalk.i64_in _ (by omega)]; omega
      have e3 : (0 : Int) ≤ (j : Int) := by omega
      have e4 : (j : Int) < (n : Int) := by omega
      have G := Lib.hid (And.intro (And.intro q0 (And.intro q1 (And.intro q2 (And.intro q3 q4)))) (And.intro q5 (And.intro RL (And.intro SL hj))))
      clear q0 q1 q2 q3 q4 q5 hbx T1 RL SL hj
      gi_wp2
      refine pure_region 46 12 (fun i => (#[.pointer (some ⟨w.heap.size + 1 + 1 + 1, 9, none⟩), .slice (some ⟨w.heap.size + 1 + 1, 0, none⟩) n n, .pointer (some ⟨t, 0, none⟩), .pointer (some ⟨t, 0, none⟩), .pointer (some ⟨t, 0, none⟩), .pointer (some ⟨t, 34, none⟩), .int .i64 n, .int .i64 ((n : Int) - 1), .int .i64 k, .int .i64 j, .agg #[.int .i64 f, .int .i64 tt], .pointer (some ⟨w.heap.size + 1 + 1, j * 2, none⟩)] : Array Value)[i]?.getD undef) (W1 := (W.drew.setCell ⟨w.heap.size + 1 + 1, j * 2, none⟩ (.int .i64 f)).setCell ⟨w.heap.size + 1 + 1, j * 2 + 1, none⟩ (.int .i64 tt)) rfl (by kernel_rfl) (by kernel_rfl) rfl (by simp) ?_ ?_ rfl ?_
      · rintro i o hi ho a ⟨hold, hdep⟩
        have o2 := hold 2 (by decide)
        have o6 := hold 6 (by decide)
        have o7 := hold 7 (by decide)
        have o8 := hold 8 (by decide)
        simp at o2 o6 o7 o8
        have hi12 : i = 0 ∨ i = 1 ∨ i = 2 ∨ i = 3 ∨ i = 4 ∨ i = 5 ∨ i = 6 ∨ i = 7 ∨ i = 8 ∨ i = 9 ∨ i = 10 ∨ i = 11 := by omega
        rcases hi12 with rfl | rfl | rfl | rfl | rfl | rfl | rfl | rfl | rfl | rfl | rfl | rfl
        all_goals (cases ho; simp [Region.binds] at hdep; refine ⟨rfl, rfl, fun _ hf => ?_, ?_⟩)
        all_goals first | (exact absurd hf (by simp [Oper.about])) | skip
        · simp [go_sem, Act.eval, o6]
        all_goals clear G AS HR X X0 X1 X2 X3 X4 X5 X6 MK hold
        all_goals (simp [go_sem, Act.eval, hdep, o2, o7, o8, c0, c9, y34, l0, l1, e1, e2, e3, e4]; done)
      · rintro o ho a ⟨hold, hdep⟩
        cases ho
        simp [Region.binds] at hdep
        clear G AS HR X X0 X1 X2 X3 X4 X5 X6 MK hold
        refine ⟨rfl, rfl, fun _ hf => absurd hf (by simp [Oper.about]), ?_⟩
        simp [go_sem, Act.eval, hdep, d0, d1, z0, z1]
      · obtain ⟨⟨q0, q1, q2, q3, q4⟩, q5, hRL, hSL, hj⟩ := G.out
        have hbz := heap_lt q4
        have hlt2 := HT.out.1.lt
        refine ⟨(((KeepsOthers.drew W).trans (KeepsOthers.setCell _ _ _)).trans (KeepsOthers.setCell _ _ _)).from _, ?_, ?_⟩
        all_goals have e0 : ∀ i, i ≠ w.heap.size + 1 + 1 → ((W.drew.setCell ⟨w.heap.size + 1 + 1, j * 2, none⟩ (.int .i64 f)).setCell ⟨w.heap.size + 1 + 1, j * 2 + 1, none⟩ (.int .i64 tt)).heap[i]? = W.heap[i]? := fun i hi => (heap_setCell_other _ ⟨w.heap.size + 1 + 1, j * 2 + 1, none⟩ i _ hi).trans (heap_setCell_other _ ⟨w.heap.size + 1 + 1, j * 2, none⟩ i _ hi)
        · exact ⟨e0 _ (by omega), e0 _ (by omega)⟩
        · refine ⟨⟨(e0 _ (by omega)).trans q0, (e0 _ (by omega)).trans q1, (e0 _ (by omega)).trans q2, (e0 _ (by omega)).trans q3, ?_⟩, (q5.drew.setCell (p := ⟨w.heap.size + 1 + 1, j * 2, none⟩) (by simp; omega) _).setCell (p := ⟨w.heap.size + 1 + 1, j * 2 + 1, none⟩) (by simp; omega) _⟩
          rw [AS.out, scs_set _ _ _ _ (by rw [hRL]; omega)]
          rw [heap_setCell_same _ _ _ _ 103 _ (heap_setCell_same W.drew _ _ _ 103 _ q4)]
          simp
    case done =>
      rename_i K0 hK0
      rintro D ys W hD hys ⟨⟨q0, q1, q2, q3, q4⟩, q5⟩ hK
      rw [hys, rowP_ivs zs n n (Nat.le_refl _)] at q4
      have H := Lib.hid (And.intro (And.intro q1 (And.intro q2 q4)) (And.intro q5 hK))
      clear q0 q1 q2 q3 q4 q5 hK hys
      refine hK0 _ _ (wpIn_wide.2 ?_)
      clear hK0
      have Hq := H.out.1.2.1
      have Hq1 := H.out.1.1
      go_wp2_with (first | (refine wpList_load_row rfl 56 _ rfl (w.heap.size + 1 + 1 + 1) rfl 56 _ (0, 0) _ Hq Tryz.underlying56 rfl size56 ?_) | (refine wpList_store_row rfl 56 _ _ rfl (w.heap.size + 1) _ rfl rfl 56 _ Hq1 size56 rfl (by simp [Value.oneCell']) ?_))
      have hz := HB.out.2
      have hD1 : D ≠ w.heap.size + 1 := by omega
      have hD2 : w.heap.size + 1 ≠ D := by omega
      have hD3 : w.heap.size + 1 + 1 ≠ D := by omega
      have hDK : (W.setRow (w.heap.size + 1) (ackE 0 (.slice (some ⟨w.heap.size + 1 + 1, 0, none⟩) n n))).heap[D]? = some (.deferred (some [])) := (setRow_other _ _ _ _ hD1).trans H.out.2.2
      refine ⟨by simp, .inl ⟨_, _, rfl, run_takeDeferred hDK, ?_⟩⟩
      refine ⟨_, results_cell_tmpS rfl _ _ (w.heap.size + 1) 56 _ (0, 0) _ rfl ((World.putObj_heap_other hD2).trans (setRow_heap _ _ _ _ _ _ Hq1)) Tryz.underlying56 rfl size56, w.heap.size + 1 + 1, rfl, ⟨by rw [scs_length, rowK_len], .inr ⟨_, n, _, rfl, by omega, (World.putObj_heap_other hD3).trans ((setRow_other _ _ _ _ (by omega)).trans H.out.1.2.2), Nat.le_refl _, by unfold maxLen; omega, by simp [scs_length, rowK_len], by rw [List.take_of_length_le (by simp [scs_length, rowK_len])]⟩⟩, ?_⟩
      exact (H.out.2.1.grown (grown_setRow W _ _) H.out.2.1.size (fun k e => by cases e; omega)).trans (belowK_b (w := w) (Nat.le_refl _) _ D _ _ (by omega) hDK rfl rfl)
    case stop =>
      rintro D c pre W _ _ h _
      exact h.elim
end Go.Proofs.YtpfkeohaaeiaaaaGreatDoor.frm
/- Law 13: plain laws for LossTracker: what was received, what was acknowledged, what is left. -/
namespace Go.Proofs.YtpfkeohaaeiaaaaGreatDoor.frm
variable {zs zs' : List Int} {n n' k : Nat} {top lg wh few : Int}
theorem TkOk.up (h : TkOk zs n top lg wh few) {top' : Int} (ht : top ≤ top') : TkOk zs n top' lg wh few :=
  ⟨h.len, h.many, h.le, fun k hk => by have := h.rg k hk; omega, h.gap, h.size, by have := h.top0; omega, h.dl0, h.dl1, h.fl, h.lg, h.wh, h.c0, h.c1, h.d0, h.d1⟩
theorem rowK_at (zs : List Int) (n k : Nat) (hk : k < n) : fF (rowK zs n n) k = zg zs ((n - 1 - k) * 2) ∧ fT (rowK zs n n) k = zg zs ((n - 1 - k) * 2 + 1) := by
  have : (rowK zs n n).getD k (0, 0) = (zg zs ((n - 1 - k) * 2), zg zs ((n - 1 - k) * 2 + 1)) := by
    rw [List.getD_eq_getElem?_getD, List.getElem?_eq_getElem (by rw [rowK_len]; exact hk)]
    simp [rowK]
  unfold fF fT
  rw [this]
  exact ⟨rfl, rfl⟩
theorem row_rg (h : TkOk zs n top lg wh few) (hn : 1 ≤ n) (ht : top ≤ 1000) : RgOk n (fF (rowK zs n n)) (fT (rowK zs n n)) := by
  refine ⟨hn, h.le, fun k hk => ?_⟩
  obtain ⟨e1, e2⟩ := rowK_at zs n k hk
  have hr := h.rg (n - 1 - k) (by omega)
  rw [e1, e2]
  refine ⟨hr.1, hr.2.1, by omega, ?_⟩
  cases k with
  | zero => show _ < (281474976710658 : Int); omega
  | succ k =>
    show _ < fF (rowK zs n n) k
    rw [(rowK_at zs n k (by omega)).1]
    exact h.gap _ _ (by omega) (by omega)
theorem row_cov (zs : List Int) (n : Nat) (x : Int) : inF n (fF (rowK zs n n)) (fT (rowK zs n n)) x = covB zs n x := by
  rw [Bool.eq_iff_iff, covB_iff]
  unfold inF
  rw [List.any_eq_true]
  constructor
  · rintro ⟨k, hk, h⟩
    have hk := List.mem_range.1 hk
    obtain ⟨e1, e2⟩ := rowK_at zs n k hk
    rw [e1, e2] at h
    simp only [spF, Bool.and_eq_true, decide_eq_true_eq] at h
    exact ⟨n - 1 - k, by omega, h.1, h.2⟩
  · rintro ⟨k, hk, h1, h2⟩
    refine ⟨n - 1 - k, List.mem_range.2 (by omega), ?_⟩
    obtain ⟨e1, e2⟩ := rowK_at zs n (n - 1 - k) (by omega)
    rw [e1, e2, show n - 1 - (n - 1 - k) = k by omega]
    simp only [spF, Bool.and_eq_true, decide_eq_true_eq]
    exact ⟨h1, h2⟩
end Go.Proofs.YtpfkeohaaeiaaaaGreatDoor.frm
