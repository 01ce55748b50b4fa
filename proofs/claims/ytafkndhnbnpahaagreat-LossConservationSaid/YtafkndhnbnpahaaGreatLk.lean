/- Law 13: the literal of a map in frame.parts: slices and calls keep the invariant; then the whole. -/
import Derived.Test.YtafkndhnbnpahaaGreatLj
namespace Go.Proofs.YtafkndhnbnpahaaGreat
open Go.RowKit Go.Maps
variable {ops : Array Oper} {Q : Exit → Act → World → Prop} {w0 : World} {os : List (Nat × Obj)} {ad : Nat → Nat} {bx : Nat → Array Value} {L : Nat → Bool} {a : Act} {w w' : World}
set_option maxRecDepth 100000 in
theorem bs0 (w : World) : (Instr.buildSlice 115 0 #[]).run Tryz.prog w = .ok (.slice (some ⟨w.heap.size, 0, none⟩) 0 0) (w.alloc (.cells #[] 124)) := by
  simp [Instr.buildSlice, go_sem]
set_option maxRecDepth 100000 in
theorem bs1 (w : World) (a b c : Value) : (Instr.buildSlice 115 1 #[(0, .agg #[a, b, c])]).run Tryz.prog w = .ok (.slice (some ⟨w.heap.size, 0, none⟩) 1 1) (w.alloc (.cells #[a, b, c] 124)) := by
  simp [Instr.buildSlice, go_sem]
set_option maxRecDepth 100000 in
theorem bs2 (w : World) (a b c d e f : Value) : (Instr.buildSlice 115 2 #[(0, .agg #[a, b, c]), (1, .agg #[d, e, f])]).run Tryz.prog w = .ok (.slice (some ⟨w.heap.size, 0, none⟩) 2 2) (w.alloc (.cells #[a, b, c, d, e, f] 124)) := by
  simp [Instr.buildSlice, go_sem]
set_option maxRecDepth 100000 in
theorem bs3 (w : World) (a b c d e f g h i : Value) : (Instr.buildSlice 115 3 #[(0, .agg #[a, b, c]), (1, .agg #[d, e, f]), (2, .agg #[g, h, i])]).run Tryz.prog w = .ok (.slice (some ⟨w.heap.size, 0, none⟩) 3 3) (w.alloc (.cells #[a, b, c, d, e, f, g, h, i] 124)) := by
  simp [Instr.buildSlice, go_sem]
theorem three {cs : Array Value} (h : cs.size = 3) : ∃ a b c, cs = #[a, b, c] := by
  obtain ⟨l⟩ := cs
  match l, h with
  | [a, b, c], _ => exact ⟨a, b, c, rfl⟩
theorem part_at {x : Nat} (h : Inv w0 os ad bx L a w) (hp : isPart x rows[ix x]? = true) (hl : L (ix x) = true) : ∃ p q r s, a.eval (.tmp x) = .agg #[p, q, r] ∧ rows[ix x]? = some (some x, s) ∧ Pt bx s #[p, q, r] w := by
  obtain ⟨s, hs, hk⟩ := isPart_of hp
  have hR := h.res _ _ _ hs hl
  have he : a.eval (.tmp x) = a.tmps.getD x undef := by simp [Act.eval]
  rcases hk with ⟨p, rfl⟩ | ⟨f, l, rfl⟩ <;>
  · obtain ⟨cs, h1, h2, h3⟩ := hR
    obtain ⟨p, q, r, rfl⟩ := three h2
    exact ⟨p, q, r, _, he.trans h1, hs, h3⟩
/-- the run of an operation that makes a slice: what is left -/
theorem step_sl {i d : Nat} {xs : List Nat} {o : Oper} (ho : ops[i]? = some o) (hop : o.op = (Sp.sl xs).op) (hd : o.dst = some d) (hg : o.guard = none) (hr : rows[i]? = some (some d, .sl xs)) (hL : L i = false)
    (hn : ∀ x ∈ xs, L (ix x) = true) (h : Inv w0 os ad bx L a w) : wpOp Tryz.prog ops Q i (Inv w0 os ad bx (fun j => j == i || L j)) a w := by
  have hk := row_ok hr
  simp only [rowOk, Bool.and_eq_true, decide_eq_true_eq, List.all_eq_true] at hk
  obtain ⟨⟨h1, h2⟩, h3⟩ := hk
  obtain ⟨n1, n2, n3⟩ := midd_ne h3
  have key : ∀ cs, Pts bx xs cs w → (∀ K' : Act → World → Prop, K' (a.put o.dst (.slice (some ⟨w.heap.size, 0, none⟩) xs.length xs.length)) (w.alloc (.cells cs 124)) → Oper.wp Tryz.prog o a w K' Q) →
      wpOp Tryz.prog ops Q i (Inv w0 os ad bx (fun j => j == i || L j)) a w := fun cs hc hrun => by
    refine op_go ho hg fun K' hK => hrun K' (hK _ _ ?_)
    rw [hd]
    have hb : Below w.heap.size w (w.alloc (.cells cs 124)) := (Below.refl _ _).alloc (Nat.le_refl _) _
    exact h.put hr hL (keep_below hb) (h.os.below hb) (fun _ _ _ h => h.alloc _) ⟨_, cs, rfl, heap_alloc_new w _, hc.keep (keep_below hb)⟩ (fun e => absurd e n1) (fun e => absurd e n2) (fun e => absurd e n3)
  have pt : ∀ x ∈ xs, _ := fun x hx => part_at h (h2 x hx) (hn x hx)
  match xs, h1 with
  | [], _ =>
    refine key #[] rfl fun K' hK' => ?_
    unfold Oper.wp
    simp [execOp, hop, Sp.op, bs0, Result.andThen, Oper.upon]
    exact hK'
  | [x], _ =>
    obtain ⟨a1, b1, c1, s1, e1, r1, p1⟩ := pt x (by simp)
    refine key #[a1, b1, c1] ⟨_, #[], s1, rfl, rfl, r1, p1, rfl⟩ fun K' hK' => ?_
    unfold Oper.wp
    simp [execOp, hop, Sp.op, e1, bs1, Result.andThen, Oper.upon]
    exact hK'
  | [x, y], _ =>
    obtain ⟨a1, b1, c1, s1, e1, r1, p1⟩ := pt x (by simp)
    obtain ⟨a2, b2, c2, s2, e2, r2, p2⟩ := pt y (by simp)
    refine key #[a1, b1, c1, a2, b2, c2] ⟨_, _, s1, rfl, rfl, r1, p1, _, #[], s2, rfl, rfl, r2, p2, rfl⟩ fun K' hK' => ?_
    unfold Oper.wp
    simp [execOp, hop, Sp.op, e1, e2, bs2, Result.andThen, Oper.upon]
    exact hK'
  | [x, y, z], _ =>
    obtain ⟨a1, b1, c1, s1, e1, r1, p1⟩ := pt x (by simp)
    obtain ⟨a2, b2, c2, s2, e2, r2, p2⟩ := pt y (by simp)
    obtain ⟨a3, b3, c3, s3, e3, r3, p3⟩ := pt z (by simp)
    refine key #[a1, b1, c1, a2, b2, c2, a3, b3, c3] ⟨_, _, s1, rfl, rfl, r1, p1, _, _, s2, rfl, rfl, r2, p2, _, #[], s3, rfl, rfl, r3, p3, rfl⟩ fun K' hK' => ?_
    unfold Oper.wp
    simp [execOp, hop, Sp.op, e1, e2, e3, bs3, Result.andThen, Oper.upon]
    exact hK'
theorem step_cl {i d f : Nat} {args : List Int} {o : Oper} (ho : ops[i]? = some o) (hop : o.op = (Sp.cl f args).op) (hd : o.dst = some d) (hg : o.guard = none) (hr : rows[i]? = some (some d, .cl f args)) (hL : L i = false)
    (h : Inv w0 os ad bx L a w) : wpOp Tryz.prog ops Q i (Inv w0 os ad bx (fun j => j == i || L j)) a w := by
  have hk := row_ok hr
  simp only [rowOk, Bool.and_eq_true, Bool.or_eq_true, decide_eq_true_eq, List.all_eq_true, beq_iff_eq] at hk
  obtain ⟨h1, h3⟩ := hk
  obtain ⟨n1, n2, n3⟩ := midd_ne h3
  have key : ∀ (K' : Act → World → Prop), (∀ a w, Inv w0 os ad bx (fun j => j == i || L j) a w → K' a w) → ∀ cs w', Below w.heap.size w w' → cs.size = 3 → Pt bx (.cl f args) cs w' → K' (a.put o.dst (.agg cs)) w' := fun K' hK cs w' hb hz hp => by
    rw [hd]
    exact hK _ _ (h.put hr hL (keep_below hb) (h.os.below hb) (fun _ _ _ h => h.below hb) ⟨cs, rfl, hz, hp⟩ (fun e => absurd e n1) (fun e => absurd e n2) (fun e => absurd e n3))
  refine op_go ho hg fun K' hK => ?_
  rcases h1 with (⟨⟨rfl, h2⟩, h4⟩ | ⟨rfl, h2⟩) | ⟨rfl, h2⟩
  · obtain ⟨l, m, rfl⟩ : ∃ l m, args = [l, m] := by
      match args, h2 with
      | [l, m], _ => exact ⟨l, m, rfl⟩
    unfold Oper.wp
    simp [execOp, hop, Sp.op, Oper.upon, resolve, invoke, go_sem]
    refine (txt_ex l m w).mono ?_
    rintro e w1 ⟨n, rfl, a0, a1, hb⟩
    exact key K' hK _ _ hb rfl (.inl ⟨rfl, l, m, n, rfl, rfl, a0, a1⟩)
  · obtain rfl := List.eq_nil_of_length_eq_zero h2
    unfold Oper.wp
    simp [execOp, hop, Sp.op, Oper.upon, resolve, invoke, go_sem]
    refine (uni_ex w).mono ?_
    rintro e w1 ⟨rfl, hb⟩
    exact key K' hK _ _ hb rfl (.inr (.inl ⟨rfl, rfl⟩))
  · obtain rfl := List.eq_nil_of_length_eq_zero h2
    unfold Oper.wp
    simp [execOp, hop, Sp.op, Oper.upon, resolve, invoke, go_sem]
    refine (ret_ex w).mono ?_
    rintro e w1 ⟨n, rfl, a0, a1, hb⟩
    exact key K' hK _ _ hb rfl (.inr (.inr ⟨rfl, n, rfl, a0, a1⟩))
theorem Tab.size (T : Tab ops) : ops.size = 78 := by
  have := congrArg List.length T.form
  simpa [rows_len] using this
theorem lit_step (T : Tab ops) (hb : ∀ p, 1 ≤ p → p ≤ 12 → (ad p, Obj.cells (bx p) 124) ∈ os ∧ (bx p).size = 3) {i : Nat} {o : Oper} (ho : ops[i]? = some o) (hL : L i = false)
    (hw : ∀ e ∈ o.after, Region.binds .any e = true → L e.on = true) (h : Inv w0 os ad bx L a w) : wpOp Tryz.prog ops Q i (Inv w0 os ad bx (fun j => j == i || L j)) a w := by
  obtain ⟨s, hr, hop, hg⟩ := T.row ho
  have hn : ∀ t ∈ s.needs, L (ix t) = true := fun t ht => T.needs ho hr ht hw
  have hk := row_ok hr
  cases hd : o.dst with
  | none =>
    rw [hd] at hr hk
    cases s <;> try cases hk
    exact step_ins ho hop hd hg hr hL (hn 25 (by simp [Sp.needs])) (hn _ (by simp [Sp.needs])) h
  | some d =>
    rw [hd] at hr hk
    cases s
    case mk => exact step_mk ho hop hd hg hr hL h
    case ld p => exact step_ld ho hop hd hg hr hL hb h
    case sl xs => exact step_sl ho hop hd hg hr hL hn h
    case ins k t => cases hk
    case cl f args => exact step_cl ho hop hd hg hr hL h
    case mv t => exact step_mv ho hop hd hg hr hL (hn _ (by simp [Sp.needs])) h
    case asg t => exact step_asg ho hop hd hg hr hL (hn _ (by simp [Sp.needs])) h
theorem inv_start (ho : Os w0 os w) (hz : a.tmps.size = 81) (hd : a.defers = []) (hl : ∀ p, 1 ≤ p → p ≤ 12 → a.tmps.getD p undef = .pointer (some ⟨ad p, 0, none⟩)) : Inv w0 os ad bx (fun _ => false) a w :=
  ⟨ho, hz, hd, hl, fun _ _ _ _ h => (by cases h), fun h => (by cases h), fun h => (by cases h), fun _ _ _ _ h => (by cases h), fun h => (by cases h)⟩
/-- **the literal's region, in whatever order** -/
theorem lit_region (T : Tab ops) (hb : ∀ p, 1 ≤ p → p ≤ 12 → (ad p, Obj.cells (bx p) 124) ∈ os ∧ (bx p).size = 3) {id : Nat} (h0 : Inv w0 os ad bx (fun _ => false) a w.drew)
    (he : ∀ L a w, (∀ i, i < 78 → L i = true) → Inv w0 os ad bx L a w → Q .normal a w) : (Code.region id ops true).wp Tryz.prog Q a w :=
  wp_region_inv (by kernel_rfl) T.up (Inv w0 os ad bx) h0 (fun _ _ _ _ _ ho hL hw h => lit_step T hb ho hL hw h) (fun L a w hall h => he L a w (fun i hi => hall i (by rw [T.size]; exact hi)) h)
end Go.Proofs.YtafkndhnbnpahaaGreat
