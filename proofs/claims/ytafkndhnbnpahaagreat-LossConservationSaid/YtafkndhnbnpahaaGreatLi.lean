/- Law 13: the literal of a map in frame.parts: the invariant that every operation keeps. -/
import Derived.Test.YtafkndhnbnpahaaGreatLit
namespace Go.Proofs.YtafkndhnbnpahaaGreat
open Go.RowKit Go.Maps
def i64B (m : Int) : Obj := .cells #[.int .i64 m] 3
def fnB (T k : Nat) : Obj := .cells #[fnv k] T
/-- blocks of cells stay as they are -/
def Keep (w w' : World) : Prop := ∀ (b : Nat) (cs : Array Value) (T : TypeId), w.heap[b]? = some (.cells cs T (0, 0)) → w'.heap[b]? = some (.cells cs T (0, 0))
theorem keep_refl (w : World) : Keep w w := fun _ _ _ h => h
theorem keep_below {w w' : World} (h : Below w.heap.size w w') : Keep w w' := fun _ _ _ hb => heap_below h hb
theorem keep_map {w w' : World} {M k n : Nat} {D : DataW Value} (hm : MapAt w k M n D) (h : w.grownBy w' (some M)) : Keep w w' := fun b cs T hb =>
  heap_grown h hb (fun e => by have := hm.no_cells (e ▸ hb); simp [isC] at this)
/-- the cells of a part that operation s makes -/
def Pt (bx : Nat → Array Value) (s : Sp) (cs : Array Value) (w : World) : Prop :=
  match s with
  | .ld p => cs = bx p
  | .cl f args => (f = 93 ∧ ∃ l m n, args = [l, m] ∧ cs = txtP n ∧ w.heap[n]? = some (i64B l) ∧ w.heap[n + 1]? = some (i64B m)) ∨ (f = 100 ∧ cs = uniP) ∨
      (f = 101 ∧ ∃ n, cs = retP n ∧ w.heap[n]? = some (i64B 4611686018427387903) ∧ w.heap[n + 1]? = some (fnB 131 123))
  | _ => False
/-- the cells of a slice of parts, made of the slots xs -/
def Pts (bx : Nat → Array Value) : List Nat → Array Value → World → Prop
  | [], cs, _ => cs = #[]
  | x :: xs, cs, w => ∃ c1 c2 s, cs = c1 ++ c2 ∧ c1.size = 3 ∧ rows[ix x]? = some (some x, s) ∧ Pt bx s c1 w ∧ Pts bx xs c2 w
/-- what an operation's value is -/
def Rs (bx : Nat → Array Value) (s : Sp) (v : Value) (w : World) : Prop :=
  match s with
  | .ld _ => ∃ cs, v = .agg cs ∧ cs.size = 3 ∧ Pt bx s cs w
  | .cl _ _ => ∃ cs, v = .agg cs ∧ cs.size = 3 ∧ Pt bx s cs w
  | .sl xs => ∃ b cs, v = .slice (some ⟨b, 0, none⟩) xs.length xs.length ∧ w.heap[b]? = some (.cells cs 124 (0, 0)) ∧ Pts bx xs cs w
  | _ => True
theorem Pt.keep {bx : Nat → Array Value} {s : Sp} {cs : Array Value} {w w' : World} (h : Pt bx s cs w) (k : Keep w w') : Pt bx s cs w' := by
  cases s <;> try exact h
  rcases h with ⟨e, l, m, n, h1, h2, h3, h4⟩ | h | ⟨e, n, h2, h3, h4⟩
  · exact .inl ⟨e, l, m, n, h1, h2, k _ _ _ h3, k _ _ _ h4⟩
  · exact .inr (.inl h)
  · exact .inr (.inr ⟨e, n, h2, k _ _ _ h3, k _ _ _ h4⟩)
theorem Pts.keep {bx : Nat → Array Value} {w w' : World} (k : Keep w w') : ∀ {xs : List Nat} {cs : Array Value}, Pts bx xs cs w → Pts bx xs cs w'
  | [], _, h => h
  | _ :: _, _, ⟨c1, c2, s, h1, h2, h3, h4, h5⟩ => ⟨c1, c2, s, h1, h2, h3, h4.keep k, Pts.keep k h5⟩
theorem Rs.keep {bx : Nat → Array Value} {s : Sp} {v : Value} {w w' : World} (h : Rs bx s v w) (k : Keep w w') : Rs bx s v w' := by
  cases s
  case ld p => obtain ⟨cs, h1, h2, h3⟩ := h; exact ⟨cs, h1, h2, h3.keep k⟩
  case cl f a => obtain ⟨cs, h1, h2, h3⟩ := h; exact ⟨cs, h1, h2, h3.keep k⟩
  case sl xs => obtain ⟨b, cs, h1, h2, h3⟩ := h; exact ⟨b, cs, h1, k _ _ _ h2, h3.keep k⟩
  all_goals exact h
def cnt (L : Nat → Bool) : Nat := (List.range 78).countP L
theorem cnt_add {L : Nat → Bool} {i : Nat} (hi : i < 78) (hL : L i = false) : cnt L + 1 ≤ cnt fun j => j == i || L j :=
  countP_lt (i := i) (List.mem_range.2 hi) (fun j hj => by simp [hj]) (by simp) hL
theorem cnt_le (L : Nat → Bool) : cnt L ≤ 78 := by
  refine Nat.le_trans List.countP_le_length ?_
  simp
/-- the map so far -/
def Mp (w0 : World) (bx : Nat → Array Value) (L : Nat → Bool) (v : Value) (w : World) : Prop :=
  ∃ M n D, v = .map (some M) ∧ MapAt w 3 M n D ∧ IsMap D ∧ n ≤ cnt L ∧ w0.heap.size ≤ M ∧
    ∀ i k t, rows[i]? = some (none, .ins k t) → L i = true → ∃ u s, D.atKey (.int .i64 k) (.held undef) = .held u ∧ rows[ix t]? = some (some t, s) ∧ Rs bx s u w
structure Inv (w0 : World) (os : List (Nat × Obj)) (ad : Nat → Nat) (bx : Nat → Array Value) (L : Nat → Bool) (a : Act) (w : World) : Prop where
  os : Os w0 os w
  size : a.tmps.size = 81
  nod : a.defers = []
  low : ∀ p, 1 ≤ p → p ≤ 12 → a.tmps.getD p undef = .pointer (some ⟨ad p, 0, none⟩)
  res : ∀ i d s, rows[i]? = some (some d, s) → L i = true → Rs bx s (a.tmps.getD d undef) w
  mp : L (ix 25) = true → Mp w0 bx L (a.tmps.getD 25 undef) w
  mv : L (ix 80) = true → a.tmps.getD 80 undef = a.tmps.getD 25 undef ∧ L (ix 25) = true
  dep : ∀ j k t, rows[j]? = some (none, .ins k t) → L j = true → L (ix 25) = true
  asg : L (ix 0) = true → a.tmps.getD 0 undef = a.tmps.getD 80 undef ∧ L (ix 80) = true
variable {w0 : World} {os : List (Nat × Obj)} {ad : Nat → Nat} {bx : Nat → Array Value} {L : Nat → Bool} {a : Act} {w w' : World}
theorem Mp.step {v : Value} {i : Nat} (h : Mp w0 bx L v w) (k : Keep w w') (hm : ∀ M n D, MapAt w 3 M n D → MapAt w' 3 M n D) (hi : i < 78) (hL : L i = false) (hn : ∀ k t, rows[i]? ≠ some (none, .ins k t)) :
    Mp w0 bx (fun j => j == i || L j) v w' := by
  obtain ⟨M, n, D, h1, h2, h3, h4, h5, h6⟩ := h
  refine ⟨M, n, D, h1, hm _ _ _ h2, h3, by have := cnt_add hi hL; omega, h5, fun j q t hr hj => ?_⟩
  rcases Bool.or_eq_true .. ▸ hj with e | hj
  · rw [beq_iff_eq] at e; subst e; exact absurd hr (hn _ _)
  · obtain ⟨u, s, e1, e2, e3⟩ := h6 j q t hr hj
    exact ⟨u, s, e1, e2, e3.keep k⟩
theorem getD_set {t : Array Value} {d e : Nat} {v : Value} (hd : d < t.size) : (t.setIfInBounds d v).getD e undef = if e = d then v else t.getD e undef := by
  by_cases h : e = d
  · subst h; simp [Array.getD, hd]
  · by_cases he : e < t.size
    · simp [Array.getD, he, Ne.symm h, h]
    · simp [Array.getD, he, h]
theorem slots_high : (rows.all fun r => match r.1 with | some d => decide (d < 81) && (decide (25 ≤ d) || d == 0) | none => true) = true := by decide +kernel
theorem ix_low : (ix 25 == 0 && ix 80 == 76 && ix 0 == 77) = true := by decide +kernel
/-- an operation that puts a value into its slot -/
theorem Inv.put (h : Inv w0 os ad bx L a w) {i d : Nat} {s : Sp} {v : Value} (hr : rows[i]? = some (some d, s)) (hL : L i = false) (k : Keep w w') (ho : Os w0 os w')
    (hm : ∀ M n D, MapAt w 3 M n D → MapAt w' 3 M n D) (hv : Rs bx s v w') (h25 : d = 25 → Mp w0 bx (fun j => j == i || L j) v w')
    (h80 : d = 80 → v = a.tmps.getD 25 undef ∧ L (ix 25) = true) (h0 : d = 0 → v = a.tmps.getD 80 undef ∧ L (ix 80) = true) :
    Inv w0 os ad bx (fun j => j == i || L j) (a.put (some d) v) w' := by
  have hi : i < 78 := rows_len ▸ (List.getElem?_eq_some_iff.1 hr).1
  have hh := List.all_eq_true.1 slots_high _ (List.mem_of_getElem? hr)
  simp only [Bool.and_eq_true, Bool.or_eq_true, decide_eq_true_eq, beq_iff_eq] at hh
  have hd : d < a.tmps.size := by rw [h.size]; exact hh.1
  have hx := ix_of hr
  have e : ∀ t, (a.put (some d) v).tmps.getD t undef = if t = d then v else a.tmps.getD t undef := fun t => getD_set hd
  have hne : ∀ t, L (ix t) = true → t ≠ d := fun t ht e => by rw [e, hx, hL] at ht; cases ht
  have hor : ∀ t, ((fun j => j == i || L j) (ix t)) = true → ix t = i ∨ L (ix t) = true := fun t ht => by
    rcases Bool.or_eq_true .. ▸ ht with e | e
    · exact .inl (by simpa using e)
    · exact .inr e
  have hx1 := ix_low
  simp only [Bool.and_eq_true, beq_iff_eq] at hx1
  have hrow : ∀ t, (t = 25 ∨ t = 80 ∨ t = 0) → ix t = i → t = d := fun t ht e => by
    rcases ht with rfl | rfl | rfl
    · have : rows[ix 25]? = some (some 25, .mk) := by rw [hx1.1.1]; rfl
      rw [e, hr] at this; cases this; rfl
    · have : rows[ix 80]? = some (some 80, .mv 25) := by rw [hx1.1.2]; rfl
      rw [e, hr] at this; cases this; rfl
    · have : rows[ix 0]? = some (some 0, .asg 80) := by rw [hx1.2]; rfl
      rw [e, hr] at this; cases this; rfl
  have hup : ∀ t, L (ix t) = true → ((fun j => j == i || L j) (ix t)) = true := fun t ht => by simp [ht]
  refine ⟨ho, by simpa [Act.put] using h.size, h.nod, fun p h1 h2 => ?_, fun j d' s' hj hl => ?_, fun hl => ?_, fun hl => ?_, fun j q t hj hl => ?_, fun hl => ?_⟩
  · rw [e, if_neg (by omega)]; exact h.low p h1 h2
  · rw [e]
    rcases Bool.or_eq_true .. ▸ hl with e1 | e1
    · rw [beq_iff_eq] at e1; subst e1; rw [hr] at hj; cases hj
      rw [if_pos rfl]; exact hv
    · rw [if_neg (fun e2 => by rw [← ix_of hj, e2, hx, hL] at e1; cases e1)]; exact (h.res j d' s' hj e1).keep k
  · rcases hor 25 hl with e1 | e1
    · have := hrow 25 (.inl rfl) e1
      rw [e, if_pos this]; exact h25 this.symm
    · rw [e, if_neg (hne 25 e1)]
      exact (h.mp e1).step k hm hi hL (fun q t hq => by rw [hr] at hq; cases hq)
  · rcases hor 80 hl with e1 | e1
    · have := hrow 80 (.inr (.inl rfl)) e1
      obtain ⟨e2, e3⟩ := h80 this.symm
      rw [e, if_pos this, e, if_neg (hne 25 e3)]; exact ⟨e2, hup _ e3⟩
    · obtain ⟨e2, e3⟩ := h.mv e1
      rw [e, if_neg (hne 80 e1), e, if_neg (hne 25 e3)]; exact ⟨e2, hup _ e3⟩
  · rcases Bool.or_eq_true .. ▸ hl with e1 | e1
    · rw [beq_iff_eq] at e1; subst e1; rw [hr] at hj; cases hj
    · exact hup _ (h.dep j q t hj e1)
  · rcases hor 0 hl with e1 | e1
    · have := hrow 0 (.inr (.inr rfl)) e1
      obtain ⟨e2, e3⟩ := h0 this.symm
      rw [e, if_pos this, e, if_neg (hne 80 e3)]; exact ⟨e2, hup _ e3⟩
    · obtain ⟨e2, e3⟩ := h.asg e1
      rw [e, if_neg (hne 0 e1), e, if_neg (hne 80 e3)]; exact ⟨e2, hup _ e3⟩
end Go.Proofs.YtafkndhnbnpahaaGreat
