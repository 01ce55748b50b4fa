import Derived.Test.YtmjekepiplibkaaQ
namespace Go.Proofs.Ytmjekepiplibkaa
open Go.RowKit
/-! plain laws on lists of states -/
abbrev gd (l : List Int) (j : Nat) : Int := l[j]?.getD 0
theorem ext_gd {l m : List Int} (hl : l.length = m.length) (h : ∀ j, j < l.length → gd l j = gd m j) : l = m := by
  apply List.ext_getElem hl
  intro j h1 h2
  have := h j h1
  simpa [gd, h1, h2] using this
theorem gd_lt {l : List Int} {j : Nat} (h : j < l.length) : gd l j = l[j] := by simp [gd, h]
theorem gd_ge {l : List Int} {j : Nat} (h : l.length ≤ j) : gd l j = 0 := by simp [gd, h]
theorem gd_drop (l : List Int) (k j : Nat) : gd (l.drop k) j = gd l (k + j) := by simp [gd, List.getElem?_drop]
theorem gd_take (l : List Int) (k j : Nat) (h : j < k) : gd (l.take k) j = gd l j := by simp [gd, h]
theorem gd_set (l : List Int) (k j : Nat) (v : Int) (h : k < l.length) : gd (l.set k v) j = if j = k then v else gd l j := by
  unfold gd
  rw [List.getElem?_set]
  by_cases e : k = j
  · subst e; simp [h]
  · rw [if_neg e, if_neg (fun h => e h.symm)]
theorem gd_append (l m : List Int) (j : Nat) : gd (l ++ m) j = if j < l.length then gd l j else gd m (j - l.length) := by
  unfold gd
  by_cases h : j < l.length
  · rw [if_pos h, List.getElem?_append_left h]
  · rw [if_neg h, List.getElem?_append_right (by omega)]
theorem gd_replicate (n j : Nat) (v : Int) (h : j < n) : gd (List.replicate n v) j = v := by simp [gd, h]
theorem gd_setTo (st : List Int) (v : Int) (i n j : Nat) (h : i + n ≤ st.length) : gd (setTo st v i n) j = if i ≤ j ∧ j < i + n then v else gd st j := by
  induction n with
  | zero => rw [setTo, if_neg (by omega)]
  | succ n ih =>
    rw [setTo, gd_set _ _ _ _ (by rw [setTo_length]; omega), ih (by omega)]
    by_cases e : j = i + n
    · subst e; rw [if_pos rfl, if_pos (by omega)]
    · rw [if_neg e]
      by_cases e2 : i ≤ j ∧ j < i + n
      · rw [if_pos e2, if_pos (by omega)]
      · rw [if_neg e2, if_neg (by omega)]
theorem gd_turnTo (A : Bool) (st : List Int) (i n j : Nat) (h : i + n ≤ st.length) : gd (turnTo A st i n) j = if i ≤ j ∧ j < i + n then turn A (gd st j) else gd st j := by
  induction n with
  | zero => rw [turnTo, if_neg (by omega)]
  | succ n ih =>
    rw [turnTo, gd_set _ _ _ _ (by rw [turnTo_length]; omega)]
    have e0 : (turnTo A st i n)[i + n]?.getD 0 = gd st (i + n) := by
      have := ih (by omega)
      have h1 : gd (turnTo A st i n) (i + n) = gd st (i + n) := by
        clear this
        have : ∀ m, m ≤ n → gd (turnTo A st i m) (i + n) = gd st (i + n) := by
          intro m
          induction m with
          | zero => intro _; rfl
          | succ m ih2 =>
            intro hm
            rw [turnTo, gd_set _ _ _ _ (by rw [turnTo_length]; omega), if_neg (by omega)]
            exact ih2 (by omega)
        exact this n (Nat.le_refl _)
      exact h1
    rw [e0, ih (by omega)]
    by_cases e : j = i + n
    · subst e; rw [if_pos rfl, if_pos (by omega)]
    · rw [if_neg e]
      by_cases e2 : i ≤ j ∧ j < i + n
      · rw [if_pos e2, if_pos (by omega)]
      · rw [if_neg e2, if_neg (by omega)]
theorem lead_is {l : List Int} {m : Nat} (hm : m ≤ l.length) (h1 : ∀ k, k < m → gd l k = 3) (h2 : m < l.length → gd l m ≠ 3) : lead l = m := by
  rcases Nat.lt_trichotomy (lead l) m with h | h | h
  · exact absurd (h1 _ h) (lead_at l (by omega))
  · exact h
  · have := lead_lt l m h
    have hl := lead_le l
    exact absurd this (h2 (by omega))
/-- the first state that is x, or the length -/
def first (x : Int) : List Int → Nat
  | [] => 0
  | y :: l => if y = x then 0 else first x l + 1
theorem first_le (x : Int) (l : List Int) : first x l ≤ l.length := by
  induction l with
  | nil => exact Nat.le_refl _
  | cons y l ih => simp only [first]; split <;> simp <;> omega
theorem first_lt (x : Int) : ∀ (l : List Int) (k : Nat), k < first x l → gd l k ≠ x := by
  intro l
  induction l with
  | nil => intro k h; simp [first] at h
  | cons y l ih =>
    intro k h
    simp only [first] at h
    split at h
    · omega
    · cases k with
      | zero => simpa [gd] using ‹¬ y = x›
      | succ k => simpa [gd] using ih k (by omega)
theorem first_at (x : Int) : ∀ (l : List Int), first x l < l.length → gd l (first x l) = x := by
  intro l
  induction l with
  | nil => intro h; simp [first] at h
  | cons y l ih =>
    intro h
    simp only [first] at h ⊢
    split
    · simpa [gd] using ‹y = x›
    · rename_i hx
      rw [if_neg hx] at h
      simpa [gd] using ih (by simpa using h)
theorem first_is {x : Int} {l : List Int} {m : Nat} (hm : m ≤ l.length) (h1 : ∀ k, k < m → gd l k ≠ x) (h2 : m < l.length → gd l m = x) : first x l = m := by
  rcases Nat.lt_trichotomy (first x l) m with h | h | h
  · exact absurd (first_at x l (by omega)) (h1 _ h)
  · exact h
  · have := first_lt x l m h
    have hl := first_le x l
    exact absurd (h2 (by omega)) this
theorem first_drop (x : Int) (l : List Int) (k : Nat) (hk : k ≤ l.length) (h : ∀ j, j < k → gd l j ≠ x) : first x l = k + first x (l.drop k) := by
  refine first_is ?_ (fun j hj => ?_) (fun hj => ?_)
  · have := first_le x (l.drop k); simp at this; omega
  · by_cases e : j < k
    · exact h j e
    · have := first_lt x (l.drop k) (j - k) (by omega)
      rw [gd_drop, show k + (j - k) = j by omega] at this
      exact this
  · have := first_at x (l.drop k) (by simp; omega)
    rw [gd_drop] at this
    exact this
/-- how many of the first states are x, at most m -/
def runLen (x : Int) : List Int → Nat → Nat
  | [], _ => 0
  | _ :: _, 0 => 0
  | y :: l, m + 1 => if y = x then runLen x l m + 1 else 0
theorem runLen_le (x : Int) : ∀ (l : List Int) (m : Nat), runLen x l m ≤ m ∧ runLen x l m ≤ l.length := by
  intro l
  induction l with
  | nil => intro m; simp [runLen]
  | cons y l ih =>
    intro m
    cases m with
    | zero => simp [runLen]
    | succ m => have := ih m; simp only [runLen]; split <;> simp <;> omega
theorem runLen_lt (x : Int) : ∀ (l : List Int) (m k : Nat), k < runLen x l m → gd l k = x := by
  intro l
  induction l with
  | nil => intro m k h; simp [runLen] at h
  | cons y l ih =>
    intro m k h
    cases m with
    | zero => simp [runLen] at h
    | succ m =>
      simp only [runLen] at h
      split at h
      · cases k with
        | zero => simpa [gd] using ‹y = x›
        | succ k => simpa [gd] using ih m k (by omega)
      · omega
theorem runLen_stop (x : Int) : ∀ (l : List Int) (m : Nat), runLen x l m < m → runLen x l m < l.length → gd l (runLen x l m) ≠ x := by
  intro l
  induction l with
  | nil => intro m h h2; simp [runLen] at h2
  | cons y l ih =>
    intro m h h2
    cases m with
    | zero => omega
    | succ m =>
      simp only [runLen] at h h2 ⊢
      split
      · rename_i e
        rw [if_pos e] at h h2
        simpa [gd] using ih m (by omega) (by simpa using h2)
      · simpa [gd] using ‹¬ y = x›
theorem runLen_is {x : Int} {l : List Int} {m n : Nat} (hm : n ≤ m) (hl : n ≤ l.length) (h1 : ∀ k, k < n → gd l k = x) (h2 : n < m → n < l.length → gd l n ≠ x) : runLen x l m = n := by
  have hb := runLen_le x l m
  rcases Nat.lt_trichotomy (runLen x l m) n with h | h | h
  · exact absurd (h1 _ h) (runLen_stop x l m (by omega) (by omega))
  · exact h
  · exact absurd (runLen_lt x l m n h) (h2 (by omega) (by omega))
theorem runGo_cont (most : Int) : ∀ (l : List Int) (i f t : Int) (n : Nat), f < t → t = i → t - f + n = most → runGo most l i f t = (f, t + runLen 2 l n) := by
  intro l
  induction l with
  | nil => intro i f t n h1 h2 h3; simp [runGo, runLen]
  | cons s l ih =>
    intro i f t n h1 h2 h3
    rw [runGo]
    by_cases hs : s = 2
    · subst hs
      cases n with
      | zero => rw [if_pos ⟨h1, .inr (by simpa using h3)⟩]; simp [runLen]
      | succ n =>
        rw [if_neg (by omega), if_neg (by omega), if_pos rfl, ih (i + 1) f (t + 1) n (by omega) (by omega) (by omega)]
        simp [runLen]; omega
    · rw [if_pos ⟨h1, .inl hs⟩]
      cases n <;> simp [runLen, hs]
theorem runGo_start (most : Int) (m : Nat) (hm : most = m) (h1 : 1 ≤ m) : ∀ (l : List Int) (i f : Int), runGo most l i f f = if first 2 l < l.length then (i + first 2 l, i + first 2 l + runLen 2 (l.drop (first 2 l)) m) else (f, f) := by
  intro l
  induction l with
  | nil => intro i f; simp [runGo]
  | cons s l ih =>
    intro i f
    rw [runGo, if_neg (by omega)]
    by_cases hs : s = 2
    · subst hs
      obtain ⟨n, rfl⟩ : ∃ n, m = n + 1 := ⟨m - 1, by omega⟩
      rw [if_pos ⟨rfl, rfl⟩, runGo_cont most l (i + 1) i (i + 1) n (by omega) rfl (by omega)]
      simp [first, runLen]; omega
    · rw [if_neg (by simp [hs]), if_neg hs, ih (i + 1) f]
      simp only [first, if_neg hs, List.length_cons, Nat.add_lt_add_iff_right, List.drop_succ_cons]
      split
      · simp only [Prod.mk.injEq]; omega
      · rfl
theorem runF_eq (B : Bf) (most : Int) (hm : 1 ≤ most) : runF B most = if first 2 B.st < B.st.length then ((first 2 B.st : Int), (first 2 B.st : Int) + runLen 2 (B.st.drop (first 2 B.st)) most.toNat) else (0, 0) := by
  unfold runF
  rw [runGo_start most most.toNat (by omega) (by omega)]
  simp only [Int.zero_add]
end Go.Proofs.Ytmjekepiplibkaa
