/- Law 13: the literal of a map in frame.parts: each operation keeps the invariant. -/
import Derived.Test.YtafkndhnbnpahaaGreatLi
namespace Go.Proofs.YtafkndhnbnpahaaGreat
open Go.RowKit Go.Maps
def isPart (x : Nat) : Option (Option Nat × Sp) → Bool
  | some (some y, .ld _) => y == x
  | some (some y, .cl _ _) => y == x
  | _ => false
def isSl (x : Nat) : Option (Option Nat × Sp) → Bool
  | some (some y, .sl _) => y == x
  | _ => false
def midd (d : Nat) : Bool := decide (26 ≤ d) && decide (d < 80)
def rowOk : Option Nat × Sp → Bool
  | (some d, .mk) => d == 25
  | (some d, .ld p) => decide (1 ≤ p) && decide (p ≤ 12) && midd d
  | (some d, .sl xs) => decide (xs.length ≤ 3) && (xs.all fun x => isPart x rows[ix x]?) && midd d
  | (none, .ins k t) => decide (0 ≤ k) && decide (k < 100) && isSl t rows[ix t]?
  | (some d, .cl f args) => (f == 93 && args.length == 2 && (args.all fun n => decide (0 ≤ n) && decide (n < 2000)) || f == 100 && args.length == 0 || f == 101 && args.length == 0) && midd d
  | (some d, .mv t) => d == 80 && t == 25
  | (some d, .asg t) => d == 0 && t == 80
  | _ => false
theorem rows_ok : rows.all rowOk = true := by decide +kernel
theorem rows_keys : ((List.range 78).all fun i => match rows[i]? with
    | some (none, .ins k _) => rows.findIdx (fun r => match r.2 with | .ins q _ => q == k | _ => false) == i
    | _ => true) = true := by decide +kernel
theorem row_ok {i : Nat} {d : Option Nat} {s : Sp} (h : rows[i]? = some (d, s)) : rowOk (d, s) = true := List.all_eq_true.1 rows_ok _ (List.mem_of_getElem? h)
theorem key_one {i j : Nat} {k : Int} {t u : Nat} (h : rows[i]? = some (none, .ins k t)) (h' : rows[j]? = some (none, .ins k u)) : i = j := by
  have hi : i < 78 := rows_len ▸ (List.getElem?_eq_some_iff.1 h).1
  have hj : j < 78 := rows_len ▸ (List.getElem?_eq_some_iff.1 h').1
  have a := List.all_eq_true.1 rows_keys i (List.mem_range.2 hi)
  have b := List.all_eq_true.1 rows_keys j (List.mem_range.2 hj)
  rw [h] at a
  rw [h'] at b
  simp only [beq_iff_eq] at a b
  omega
variable {ops : Array Oper} {Q : Exit → Act → World → Prop} {w0 : World} {os : List (Nat × Obj)} {ad : Nat → Nat} {bx : Nat → Array Value} {L : Nat → Bool} {a : Act} {w w' : World}
theorem op_go {i : Nat} {o : Oper} {K : Act → World → Prop} (ho : ops[i]? = some o) (hg : o.guard = none) (h : ∀ K' : Act → World → Prop, (∀ a w, K a w → K' a w) → Oper.wp Tryz.prog o a w K' Q) : wpOp Tryz.prog ops Q i K a w :=
  wpOp_step ho fun K' hK => by rw [if_pos (by simp [Region.wanted, hg])]; exact h K' hK
theorem midd_ne {d : Nat} (h : midd d = true) : d ≠ 25 ∧ d ≠ 80 ∧ d ≠ 0 := by
  simp only [midd, Bool.and_eq_true, decide_eq_true_eq] at h
  omega
theorem step_ld {i d p : Nat} {o : Oper} (ho : ops[i]? = some o) (hop : o.op = .load 124 (.tmp p)) (hd : o.dst = some d) (hg : o.guard = none) (hr : rows[i]? = some (some d, .ld p)) (hL : L i = false)
    (hb : ∀ p, 1 ≤ p → p ≤ 12 → (ad p, Obj.cells (bx p) 124) ∈ os ∧ (bx p).size = 3) (h : Inv w0 os ad bx L a w) : wpOp Tryz.prog ops Q i (Inv w0 os ad bx (fun j => j == i || L j)) a w := by
  have hk := row_ok hr
  simp only [rowOk, Bool.and_eq_true, decide_eq_true_eq] at hk
  obtain ⟨⟨h1, h2⟩, h3⟩ := hk
  obtain ⟨n1, n2, n3⟩ := midd_ne h3
  obtain ⟨m1, m2⟩ := hb p h1 h2
  have := h.low p h1 h2
  refine op_go ho hg fun K' hK => ?_
  refine wp_load_row 124 (.tmp p) hop (ad p) (by simpa [Act.eval] using this) 124 (bx p) (0, 0) _ (h.os.at m1) Tryz.underlying124 rfl (by rw [m2]; exact size124) (hK _ _ ?_)
  rw [hd]
  exact h.put hr hL (keep_refl _) h.os (fun _ _ _ h => h) ⟨_, rfl, m2, rfl⟩ (fun e => absurd e n1) (fun e => absurd e n2) (fun e => absurd e n3)
theorem step_mk {i d : Nat} {o : Oper} (ho : ops[i]? = some o) (hop : o.op = .makeMap 117 none) (hd : o.dst = some d) (hg : o.guard = none) (hr : rows[i]? = some (some d, .mk)) (hL : L i = false)
    (h : Inv w0 os ad bx L a w) : wpOp Tryz.prog ops Q i (Inv w0 os ad bx (fun j => j == i || L j)) a w := by
  have hk := row_ok hr
  simp only [rowOk, beq_iff_eq] at hk
  subst hk
  refine op_go ho hg fun K' hK => ?_
  have hb : Below w.heap.size w (w.alloc (.map #[] 0)) := (Below.refl _ _).alloc (Nat.le_refl _) _
  have := hK _ _ (h.put (v := .map (some w.heap.size)) (w' := w.alloc (.map #[] 0)) hr hL (keep_below hb) (h.os.below hb) (fun _ _ _ h => h.alloc _) trivial
    (fun _ => ⟨_, _, _, rfl, MapAt.made _ _, isMap_empty, Nat.zero_le _, h.os.bel.size, fun j k t hj hl => by
      rcases Bool.or_eq_true .. ▸ hl with e | e
      · rw [beq_iff_eq] at e; subst e; rw [hr] at hj; cases hj
      · have e1 := h.dep j k t hj e
        rw [ix_of hr, hL] at e1; cases e1⟩) (fun e => by cases e) (fun e => by cases e))
  rw [← hd] at this
  unfold Oper.wp
  simp [execOp, hop, Result.andThen, Instr.makeMap, go_sem, Oper.upon]
  exact this
theorem step_mv {i d t : Nat} {o : Oper} (ho : ops[i]? = some o) (hop : o.op = .move (.tmp t)) (hd : o.dst = some d) (hg : o.guard = none) (hr : rows[i]? = some (some d, .mv t)) (hL : L i = false)
    (hn : L (ix t) = true) (h : Inv w0 os ad bx L a w) : wpOp Tryz.prog ops Q i (Inv w0 os ad bx (fun j => j == i || L j)) a w := by
  have hk := row_ok hr
  simp only [rowOk, Bool.and_eq_true, beq_iff_eq] at hk
  obtain ⟨rfl, rfl⟩ := hk
  refine op_go ho hg fun K' hK => ?_
  have := hK _ _ (h.put (v := a.tmps.getD 25 undef) (w' := w) hr hL (keep_refl _) h.os (fun _ _ _ h => h) trivial (fun e => by cases e) (fun _ => ⟨rfl, hn⟩) (fun e => by cases e))
  rw [← hd] at this
  unfold Oper.wp
  simp [execOp, hop, go_sem, Oper.upon, Act.eval] at this ⊢
  exact this
theorem step_asg {i d t : Nat} {o : Oper} (ho : ops[i]? = some o) (hop : o.op = .assign (.tmp t)) (hd : o.dst = some d) (hg : o.guard = none) (hr : rows[i]? = some (some d, .asg t)) (hL : L i = false)
    (hn : L (ix t) = true) (h : Inv w0 os ad bx L a w) : wpOp Tryz.prog ops Q i (Inv w0 os ad bx (fun j => j == i || L j)) a w := by
  have hk := row_ok hr
  simp only [rowOk, Bool.and_eq_true, beq_iff_eq] at hk
  obtain ⟨rfl, rfl⟩ := hk
  refine op_go ho hg fun K' hK => ?_
  have := hK _ _ (h.put (v := a.tmps.getD 80 undef) (w' := w) hr hL (keep_refl _) h.os (fun _ _ _ h => h) trivial (fun e => by cases e) (fun e => by cases e) (fun _ => ⟨rfl, hn⟩))
  rw [← hd] at this
  unfold Oper.wp
  simp [execOp, hop, go_sem, Oper.upon, Act.eval] at this ⊢
  exact this
theorem isSl_of {x : Nat} (h : isSl x rows[ix x]? = true) : ∃ xs, rows[ix x]? = some (some x, .sl xs) := by
  unfold isSl at h
  split at h
  · rename_i y xs e
    rw [beq_iff_eq] at h; subst h
    exact ⟨xs, e⟩
  · cases h
theorem isPart_of {x : Nat} (h : isPart x rows[ix x]? = true) : ∃ s, rows[ix x]? = some (some x, s) ∧ ((∃ p, s = .ld p) ∨ ∃ f l, s = .cl f l) := by
  unfold isPart at h
  split at h
  · rename_i y p e
    rw [beq_iff_eq] at h; subst h
    exact ⟨_, e, .inl ⟨p, rfl⟩⟩
  · rename_i y f l e
    rw [beq_iff_eq] at h; subst h
    exact ⟨_, e, .inr ⟨f, l, rfl⟩⟩
  · cases h
theorem step_ins {i t : Nat} {k : Int} {o : Oper} (ho : ops[i]? = some o) (hop : o.op = .insert 117 (.tmp 25) (.const (.int .i64 k)) (.tmp t)) (hd : o.dst = none) (hg : o.guard = none) (hr : rows[i]? = some (none, .ins k t)) (hL : L i = false)
    (hn : L (ix 25) = true) (ht : L (ix t) = true) (h : Inv w0 os ad bx L a w) : wpOp Tryz.prog ops Q i (Inv w0 os ad bx (fun j => j == i || L j)) a w := by
  have hk := row_ok hr
  simp only [rowOk, Bool.and_eq_true, decide_eq_true_eq] at hk
  obtain ⟨⟨k1, k2⟩, k3⟩ := hk
  obtain ⟨xs, hx⟩ := isSl_of k3
  have hi : i < 78 := rows_len ▸ (List.getElem?_eq_some_iff.1 hr).1
  obtain ⟨M, n, D, e1, hm, hD, hc, hM, hall⟩ := h.mp hn
  have hR := h.res _ _ _ hx ht
  have hl := cnt_le L
  have hkey : keyOf Tryz.prog 3 (.int .i64 k) = some (.int .i64 k) := Maps.keyOf_int_mk Tryz.underlying3 (by
    have u1 : IntKind.i64.min = -9223372036854775808 := rfl
    have u2 : IntKind.i64.max = 9223372036854775807 := rfl
    simp [Lit.wf]; omega)
  have hlt : n < maxLen := Nat.lt_of_le_of_lt (Nat.le_trans hc hl) (by decide)
  obtain ⟨w', hrun, r1, r2⟩ := hm.put (Maps.int_keyed Tryz.underlying3) Tryz.underlying117 hlt (a.tmps.getD t undef) hkey
  have hK' := keep_map hm r2
  refine op_go ho hg fun K' hK => ?_
  have hI : Inv w0 os ad bx (fun j => j == i || L j) a w' := by
    have hor : ∀ t d s, rows[ix t]? = some (some d, s) → ((fun j => j == i || L j) (ix t)) = true → L (ix t) = true := fun t d s hs hl => by
      rcases Bool.or_eq_true .. ▸ hl with e | e
      · rw [beq_iff_eq] at e; rw [e, hr] at hs; cases hs
      · exact e
    have hup : ∀ t, L (ix t) = true → ((fun j => j == i || L j) (ix t)) = true := fun t ht => by simp [ht]
    have hi1 := ix_low
    simp only [Bool.and_eq_true, beq_iff_eq] at hi1
    refine ⟨h.os.insert hm hM r2, h.size, h.nod, h.low, fun j d s hj hl => ?_, fun _ => ⟨M, n + 1, _, e1, r1, hD.put _ _, by have := cnt_add hi hL; omega, hM, fun j q u hj hl => ?_⟩, fun hl => ?_, fun j q u hj hl => hup _ hn, fun hl => ?_⟩
    · rcases Bool.or_eq_true .. ▸ hl with e | e
      · rw [beq_iff_eq] at e; subst e; rw [hr] at hj; cases hj
      · exact (h.res j d s hj e).keep hK'
    · by_cases hq : q = k
      · subst hq
        have hij := key_one hr hj
        subst hij
        rw [hr] at hj; cases hj
        exact ⟨_, _, atKey_put_same hD (k := .int .i64 q) (show WideAt.IsKeyLit (.int .i64 q) from trivial) _ _, hx, hR.keep hK'⟩
      · rcases Bool.or_eq_true .. ▸ hl with e | e
        · rw [beq_iff_eq] at e; subst e; rw [hr] at hj; cases hj; exact absurd rfl hq
        · obtain ⟨v, s, a1, a2, a3⟩ := hall j q u hj e
          exact ⟨v, s, by rw [atKey_put_other (by intro e; cases e; exact hq rfl)]; exact a1, a2, a3.keep hK'⟩
    · obtain ⟨a1, a2⟩ := h.mv (hor 80 80 (.mv 25) (by rw [hi1.1.2]; rfl) hl)
      exact ⟨a1, hup _ a2⟩
    · obtain ⟨a1, a2⟩ := h.asg (hor 0 0 (.asg 80) (by rw [hi1.2]; rfl) hl)
      exact ⟨a1, hup _ a2⟩
  rw [show a = a.put o.dst undef from by rw [hd]; rfl] at hI
  have := hK _ _ hI
  unfold Oper.wp
  have e2 : a.eval (.tmp 25) = .map (some M) := by simpa [Act.eval] using e1
  have e3 : a.eval (.tmp t) = a.tmps.getD t undef := by simp [Act.eval]
  have e4 : a.eval (.const (.int .i64 k)) = .int .i64 k := rfl
  generalize a.tmps.getD t undef = tv at *
  simp [execOp, hop, e2, e3, e4, hrun, Result.andThen, Oper.upon]
  exact this
end Go.Proofs.YtafkndhnbnpahaaGreat
