/- Texts Lj Lk K M N O P Q R S of this claim, one behind the other. -/
import Derived.Test.YtpfkeohaaeiaaaaGreatMs2
import Derived.Lib.Builder
import Derived.Lib.AppendStr
import Derived.Test.YtpfkeohaaeiaaaaGreatMs1
import Derived.StillTailTactics
import Derived.Deep.RegionHeld3
import Derived.Laws.Concat
import Derived.Deep.RegionWith
import Derived.Defers
import Derived.Recover
/- Law 13: the literal of a map in frame.parts: each operation keeps the invariant. -/
namespace Go.Proofs.YtpfkeohaaeiaaaaGreat
open Go.RowKit Go.Maps
def isPart (x : Nat) : Option (Option Nat × Sp) → Bool
  | some (some y, .ld _) => y == x
  | some (some y, .cl _ _) => y == x
  | _ => false
def isSl (x : Nat) : Option (Option Nat × Sp) → Bool
  | some (some y, .sl _) => y == x
  | _ => false
def midd (d : Nat) : Bool := decide (26 ≤ d) && decide (d < 80)
def rowOk : Option Nat × Sp → Bool
  | (some d, .mk) => d == 25
  | (some d, .ld p) => decide (1 ≤ p) && decide (p ≤ 12) && midd d
  | (some d, .sl xs) => decide (xs.length ≤ 3) && (xs.all fun x => isPart x rows[ix x]?) && midd d
  | (none, .ins k t) => decide (0 ≤ k) && decide (k < 100) && isSl t rows[ix t]?
  | (some d, .cl f args) => (f == 75 && args.length == 2 && (args.all fun n => decide (0 ≤ n) && decide (n < 2000)) || f == 82 && args.length == 0 || f == 83 && args.length == 0) && midd d
  | (some d, .mv t) => d == 80 && t == 25
  | (some d, .asg t) => d == 0 && t == 80
  | _ => false
theorem rows_ok : rows.all rowOk = true := by decide +kernel
theorem rows_keys : ((List.range 78).all fun i => match rows[i]? with
    | some (none, .ins k _) => rows.findIdx (fun r => match r.2 with | .ins q _ => q == k | _ => false) == i
    | _ => true) = true := by decide +kernel
theorem row_ok {i : Nat} {d : Option Nat} {s : Sp} (h : rows[i]? = some (d, s)) : rowOk (d, s) = true := List.all_eq_true.1 rows_ok _ (List.mem_of_getElem? h)
theorem key_one {i j : Nat} {k : Int} {t u : Nat} (h : rows[i]? = some (none, .ins k t)) (h' : rows[j]? = some (none, .ins k u)) : i = j := by
  have hi : i < 78 := rows_len ▸ (List.getElem?_eq_some_iff.1 h).1
  have hj : j < 78 := rows_len ▸ (List.getElem?_eq_some_iff.1 h').1
  have a := List.all_eq_true.1 rows_keys i (List.mem_range.2 hi)
  have b := List.all_eq_true.1 rows_keys j (List.mem_range.2 hj)
  rw [h] at a
  rw [h'] at b
  simp only [beq_iff_eq] at a b
  omega
variable {ops : Array Oper} {Q : Exit → Act → World → Prop} {w0 : World} {os : List (Nat × Obj)} {ad : Nat → Nat} {bx : Nat → Array Value} {L : Nat → Bool} {a : Act} {w w' : World}
theorem op_go {i : Nat} {o : Oper} {K : Act → World → Prop} (ho : ops[i]? = some o) (hg : o.guard = none) (h : ∀ K' : Act → World → Prop, (∀ a w, K a w → K' a w) → Oper.wp Tryz.prog o a w K' Q) : wpOp Tryz.prog ops Q i K a w :=
  wpOp_step ho fun K' hK => by rw [if_pos (by simp [Region.wanted, hg])]; exact h K' hK
theorem midd_ne {d : Nat} (h : midd d = true) : d ≠ 25 ∧ d ≠ 80 ∧ d ≠ 0 := by
  simp only [midd, Bool.and_eq_true, decide_eq_true_eq] at h
  omega
theorem step_ld {i d p : Nat} {o : Oper} (ho : ops[i]? = some o) (hop : o.op = .load 118 (.tmp p)) (hd : o.dst = some d) (hg : o.guard = none) (hr : rows[i]? = some (some d, .ld p)) (hL : L i = false)
    (hb : ∀ p, 1 ≤ p → p ≤ 12 → (ad p, Obj.cells (bx p) 118) ∈ os ∧ (bx p).size = 3) (h : Inv w0 os ad bx L a w) : wpOp Tryz.prog ops Q i (Inv w0 os ad bx (fun j => j == i || L j)) a w := by
  have hk := row_ok hr
  simp only [rowOk, Bool.and_eq_true, decide_eq_true_eq] at hk
  obtain ⟨⟨h1, h2⟩, h3⟩ := hk
  obtain ⟨n1, n2, n3⟩ := midd_ne h3
  obtain ⟨m1, m2⟩ := hb p h1 h2
  have := h.low p h1 h2
  refine op_go ho hg fun K' hK => ?_
  refine wp_load_row 118 (.tmp p) hop (ad p) (by simpa [Act.eval] using this) 118 (bx p) (0, 0) _ (h.os.at m1) Tryz.underlying118 rfl (by rw [m2]; exact size118) (hK _ _ ?_)
  rw [hd]
  exact h.put hr hL (keep_refl _) h.os (fun _ _ _ h => h) ⟨_, rfl, m2, rfl⟩ (fun e => absurd e n1) (fun e => absurd e n2) (fun e => absurd e n3)
theorem step_mk {i d : Nat} {o : Oper} (ho : ops[i]? = some o) (hop : o.op = .makeMap 111 none) (hd : o.dst = some d) (hg : o.guard = none) (hr : rows[i]? = some (some d, .mk)) (hL : L i = false)
    (h : Inv w0 os ad bx L a w) : wpOp Tryz.prog ops Q i (Inv w0 os ad bx (fun j => j == i || L j)) a w := by
  have hk := row_ok hr
  simp only [rowOk, beq_iff_eq] at hk
  subst hk
  refine op_go ho hg fun K' hK => ?_
  have hb : Below w.heap.size w (w.alloc (.map #[] 0)) := (Below.refl _ _).alloc (Nat.le_refl _) _
  have := hK _ _ (h.put (v := .map (some w.heap.size)) (w' := w.alloc (.map #[] 0)) hr hL (keep_below hb) (h.os.below hb) (fun _ _ _ h => h.alloc _) trivial
    (fun _ => ⟨_, _, _, rfl, MapAt.made _ _, isMap_empty, Nat.zero_le _, h.os.bel.size, fun j k t hj hl => by
      rcases Bool.or_eq_true .. ▸ hl with e | e
      · rw [beq_iff_eq] at e; subst e; rw [hr] at hj; cases hj
      · have e1 := h.dep j k t hj e
        rw [ix_of hr, hL] at e1; cases e1⟩) (fun e => by cases e) (fun e => by cases e))
  rw [← hd] at this
  unfold Oper.wp
  simp [execOp, hop, Result.andThen, Instr.makeMap, go_sem, Oper.upon]
  exact this
theorem step_mv {i d t : Nat} {o : Oper} (ho : ops[i]? = some o) (hop : o.op = .move (.tmp t)) (hd : o.dst = some d) (hg : o.guard = none) (hr : rows[i]? = some (some d, .mv t)) (hL : L i = false)
    (hn : L (ix t) = true) (h : Inv w0 os ad bx L a w) : wpOp Tryz.prog ops Q i (Inv w0 os ad bx (fun j => j == i || L j)) a w := by
  have hk := row_ok hr
  simp only [rowOk, Bool.and_eq_true, beq_iff_eq] at hk
  obtain ⟨rfl, rfl⟩ := hk
  refine op_go ho hg fun K' hK => ?_
  have := hK _ _ (h.put (v := a.tmps.getD 25 undef) (w' := w) hr hL (keep_refl _) h.os (fun _ _ _ h => h) trivial (fun e => by cases e) (fun _ => ⟨rfl, hn⟩) (fun e => by cases e))
  rw [← hd] at this
  unfold Oper.wp
  simp [execOp, hop, go_sem, Oper.upon, Act.eval] at this ⊢
  exact this
theorem step_asg {i d t : Nat} {o : Oper} (ho : ops[i]? = some o) (hop : o.op = .assign (.tmp t)) (hd : o.dst = some d) (hg : o.guard = none) (hr : rows[i]? = some (some d, .asg t)) (hL : L i = false)
    (hn : L (ix t) = true) (h : Inv w0 os ad bx L a w) : wpOp Tryz.prog ops Q i (Inv w0 os ad bx (fun j => j == i || L j)) a w := by
  have hk := row_ok hr
  simp only [rowOk, Bool.and_eq_true, beq_iff_eq] at hk
  obtain ⟨rfl, rfl⟩ := hk
  refine op_go ho hg fun K' hK => ?_
  have := hK _ _ (h.put (v := a.tmps.getD 80 undef) (w' := w) hr hL (keep_refl _) h.os (fun _ _ _ h => h) trivial (fun e => by cases e) (fun e => by cases e) (fun _ => ⟨rfl, hn⟩))
  rw [← hd] at this
  unfold Oper.wp
  simp [execOp, hop, go_sem, Oper.upon, Act.eval] at this ⊢
  exact this
theorem isSl_of {x : Nat} (h : isSl x rows[ix x]? = true) : ∃ xs, rows[ix x]? = some (some x, .sl xs) := by
  unfold isSl at h
  split at h
  · rename_i y xs e
    rw [beq_iff_eq] at h; subst h
    exact ⟨xs, e⟩
  · cases h
theorem isPart_of {x : Nat} (h : isPart x rows[ix x]? = true) : ∃ s, rows[ix x]? = some (some x, s) ∧ ((∃ p, s = .ld p) ∨ ∃ f l, s = .cl f l) := by
  unfold isPart at h
  split at h
  · rename_i y p e
    rw [beq_iff_eq] at h; subst h
    exact ⟨_, e, .inl ⟨p, rfl⟩⟩
  · rename_i y f l e
    rw [beq_iff_eq] at h; subst h
    exact ⟨_, e, .inr ⟨f, l, rfl⟩⟩
  · cases h
theorem step_ins {i t : Nat} {k : Int} {o : Oper} (ho : ops[i]? = some o) (hop : o.op = .insert 111 (.tmp 25) (.const (.int .i64 k)) (.tmp t)) (hd : o.dst = none) (hg : o.guard = none) (hr : rows[i]? = some (none, .ins k t)) (hL : L i = false)
    (hn : L (ix 25) = true) (ht : L (ix t) = true) (h : Inv w0 os ad bx L a w) : wpOp Tryz.prog ops Q i (Inv w0 os ad bx (fun j => j == i || L j)) a w := by
  have hk := row_ok hr
  simp only [rowOk, Bool.and_eq_true, decide_eq_true_eq] at hk
  obtain ⟨⟨k1, k2⟩, k3⟩ := hk
  obtain ⟨xs, hx⟩ := isSl_of k3
  have hi : i < 78 := rows_len ▸ (List.getElem?_eq_some_iff.1 hr).1
  obtain ⟨M, n, D, e1, hm, hD, hc, hM, hall⟩ := h.mp hn
  have hR := h.res _ _ _ hx ht
  have hl := cnt_le L
  have hkey : keyOf Tryz.prog 3 (.int .i64 k) = some (.int .i64 k) := Maps.keyOf_int_mk Tryz.underlying3 (by
    have u1 : IntKind.i64.min = -9223372036854775808 := rfl
    have u2 : IntKind.i64.max = 9223372036854775807 := rfl
    simp [Lit.wf]; omega)
  have hlt : n < maxLen := Nat.lt_of_le_of_lt (Nat.le_trans hc hl) (by decide)
  obtain ⟨w', hrun, r1, r2⟩ := hm.put (Maps.int_keyed Tryz.underlying3) Tryz.underlying111 hlt (a.tmps.getD t undef) hkey
  have hK' := keep_map hm r2
  refine op_go ho hg fun K' hK => ?_
  have hI : Inv w0 os ad bx (fun j => j == i || L j) a w' := by
    have hor : ∀ t d s, rows[ix t]? = some (some d, s) → ((fun j => j == i || L j) (ix t)) = true → L (ix t) = true := fun t d s hs hl => by
      rcases Bool.or_eq_true .. ▸ hl with e | e
      · rw [beq_iff_eq] at e; rw [e, hr] at hs; cases hs
      · exact e
    have hup : ∀ t, L (ix t) = true → ((fun j => j == i || L j) (ix t)) = true := fun t ht => by simp [ht]
    have hi1 := ix_low
    simp only [Bool.and_eq_true, beq_iff_eq] at hi1
    refine ⟨h.os.insert hm hM r2, h.size, h.nod, h.low, fun j d s hj hl => ?_, fun _ => ⟨M, n + 1, _, e1, r1, hD.put _ _, by have := cnt_add hi hL; omega, hM, fun j q u hj hl => ?_⟩, fun hl => ?_, fun j q u hj hl => hup _ hn, fun hl => ?_⟩
    · rcases Bool.or_eq_true .. ▸ hl with e | e
      · rw [beq_iff_eq] at e; subst e; rw [hr] at hj; cases hj
      · exact (h.res j d s hj e).keep hK'
    · by_cases hq : q = k
      · subst hq
        have hij := key_one hr hj
        subst hij
        rw [hr] at hj; cases hj
        exact ⟨_, _, atKey_put_same hD (k := .int .i64 q) (show WideAt.IsKeyLit (.int .i64 q) from trivial) _ _, hx, hR.keep hK'⟩
      · rcases Bool.or_eq_true .. ▸ hl with e | e
        · rw [beq_iff_eq] at e; subst e; rw [hr] at hj; cases hj; exact absurd rfl hq
        · obtain ⟨v, s, a1, a2, a3⟩ := hall j q u hj e
          exact ⟨v, s, by rw [atKey_put_other (by intro e; cases e; exact hq rfl)]; exact a1, a2, a3.keep hK'⟩
    · obtain ⟨a1, a2⟩ := h.mv (hor 80 80 (.mv 25) (by rw [hi1.1.2]; rfl) hl)
      exact ⟨a1, hup _ a2⟩
    · obtain ⟨a1, a2⟩ := h.asg (hor 0 0 (.asg 80) (by rw [hi1.2]; rfl) hl)
      exact ⟨a1, hup _ a2⟩
  rw [show a = a.put o.dst undef from by rw [hd]; rfl] at hI
  have := hK _ _ hI
  unfold Oper.wp
  have e2 : a.eval (.tmp 25) = .map (some M) := by simpa [Act.eval] using e1
  have e3 : a.eval (.tmp t) = a.tmps.getD t undef := by simp [Act.eval]
  have e4 : a.eval (.const (.int .i64 k)) = .int .i64 k := rfl
  generalize a.tmps.getD t undef = tv at *
  simp [execOp, hop, e2, e3, e4, hrun, Result.andThen, Oper.upon]
  exact this
end Go.Proofs.YtpfkeohaaeiaaaaGreat
/- Law 13: the literal of a map in frame.parts: slices and calls keep the invariant; then the whole. -/
namespace Go.Proofs.YtpfkeohaaeiaaaaGreat
open Go.RowKit Go.Maps
variable {ops : Array Oper} {Q : Exit → Act → World → Prop} {w0 : World} {os : List (Nat × Obj)} {ad : Nat → Nat} {bx : Nat → Array Value} {L : Nat → Bool} {a : Act} {w w' : World}
set_option maxRecDepth 100000 in
theorem bs0 (w : World) : (Instr.buildSlice 109 0 #[]).run Tryz.prog w = .ok (.slice (some ⟨w.heap.size, 0, none⟩) 0 0) (w.alloc (.cells #[] 118)) := by
  simp [Instr.buildSlice, go_sem]
set_option maxRecDepth 100000 in
theorem bs1 (w : World) (a b c : Value) : (Instr.buildSlice 109 1 #[(0, .agg #[a, b, c])]).run Tryz.prog w = .ok (.slice (some ⟨w.heap.size, 0, none⟩) 1 1) (w.alloc (.cells #[a, b, c] 118)) := by
  simp [Instr.buildSlice, go_sem]
set_option maxRecDepth 100000 in
theorem bs2 (w : World) (a b c d e f : Value) : (Instr.buildSlice 109 2 #[(0, .agg #[a, b, c]), (1, .agg #[d, e, f])]).run Tryz.prog w = .ok (.slice (some ⟨w.heap.size, 0, none⟩) 2 2) (w.alloc (.cells #[a, b, c, d, e, f] 118)) := by
  simp [Instr.buildSlice, go_sem]
set_option maxRecDepth 100000 in
theorem bs3 (w : World) (a b c d e f g h i : Value) : (Instr.buildSlice 109 3 #[(0, .agg #[a, b, c]), (1, .agg #[d, e, f]), (2, .agg #[g, h, i])]).run Tryz.prog w = .ok (.slice (some ⟨w.heap.size, 0, none⟩) 3 3) (w.alloc (.cells #[a, b, c, d, e, f, g, h, i] 118)) := by
  simp [Instr.buildSlice, go_sem]
theorem three {cs : Array Value} (h : cs.size = 3) : ∃ a b c, cs = #[a, b, c] := by
  obtain ⟨l⟩ := cs
  match l, h with
  | [a, b, c], _ => exact ⟨a, b, c, rfl⟩
theorem part_at {x : Nat} (h : Inv w0 os ad bx L a w) (hp : isPart x rows[ix x]? = true) (hl : L (ix x) = true) : ∃ p q r s, a.eval (.tmp x) = .agg #[p, q, r] ∧ rows[ix x]? = some (some x, s) ∧ Pt bx s #[p, q, r] w := by
  obtain ⟨s, hs, hk⟩ := isPart_of hp
  have hR := h.res _ _ _ hs hl
  have he : a.eval (.tmp x) = a.tmps.getD x undef := by simp [Act.eval]
  rcases hk with ⟨p, rfl⟩ | ⟨f, l, rfl⟩ <;>
  · obtain ⟨cs, h1, h2, h3⟩ := hR
    obtain ⟨p, q, r, rfl⟩ := three h2
    exact ⟨p, q, r, _, he.trans h1, hs, h3⟩
/-- the run of an operation that makes a slice: what is left -/
theorem step_sl {i d : Nat} {xs : List Nat} {o : Oper} (ho : ops[i]? = some o) (hop : o.op = (Sp.sl xs).op) (hd : o.dst = some d) (hg : o.guard = none) (hr : rows[i]? = some (some d, .sl xs)) (hL : L i = false)
    (hn : ∀ x ∈ xs, L (ix x) = true) (h : Inv w0 os ad bx L a w) : wpOp Tryz.prog ops Q i (Inv w0 os ad bx (fun j => j == i || L j)) a w := by
  have hk := row_ok hr
  simp only [rowOk, Bool.and_eq_true, decide_eq_true_eq, List.all_eq_true] at hk
  obtain ⟨⟨h1, h2⟩, h3⟩ := hk
  obtain ⟨n1, n2, n3⟩ := midd_ne h3
  have key : ∀ cs, Pts bx xs cs w → (∀ K' : Act → World → Prop, K' (a.put o.dst (.slice (some ⟨w.heap.size, 0, none⟩) xs.length xs.length)) (w.alloc (.cells cs 118)) → Oper.wp Tryz.prog o a w K' Q) →
      wpOp Tryz.prog ops Q i (Inv w0 os ad bx (fun j => j == i || L j)) a w := fun cs hc hrun => by
    refine op_go ho hg fun K' hK => hrun K' (hK _ _ ?_)
    rw [hd]
    have hb : Below w.heap.size w (w.alloc (.cells cs 118)) := (Below.refl _ _).alloc (Nat.le_refl _) _
    exact h.put hr hL (keep_below hb) (h.os.below hb) (fun _ _ _ h => h.alloc _) ⟨_, cs, rfl, heap_alloc_new w _, hc.keep (keep_below hb)⟩ (fun e => absurd e n1) (fun e => absurd e n2) (fun e => absurd e n3)
  have pt : ∀ x ∈ xs, _ := fun x hx => part_at h (h2 x hx) (hn x hx)
  match xs, h1 with
  | [], _ =>
    refine key #[] rfl fun K' hK' => ?_
    unfold Oper.wp
    simp [execOp, hop, Sp.op, bs0, Result.andThen, Oper.upon]
    exact hK'
  | [x], _ =>
    obtain ⟨a1, b1, c1, s1, e1, r1, p1⟩ := pt x (by simp)
    refine key #[a1, b1, c1] ⟨_, #[], s1, rfl, rfl, r1, p1, rfl⟩ fun K' hK' => ?_
    unfold Oper.wp
    simp [execOp, hop, Sp.op, e1, bs1, Result.andThen, Oper.upon]
    exact hK'
  | [x, y], _ =>
    obtain ⟨a1, b1, c1, s1, e1, r1, p1⟩ := pt x (by simp)
    obtain ⟨a2, b2, c2, s2, e2, r2, p2⟩ := pt y (by simp)
    refine key #[a1, b1, c1, a2, b2, c2] ⟨_, _, s1, rfl, rfl, r1, p1, _, #[], s2, rfl, rfl, r2, p2, rfl⟩ fun K' hK' => ?_
    unfold Oper.wp
    simp [execOp, hop, Sp.op, e1, e2, bs2, Result.andThen, Oper.upon]
    exact hK'
  | [x, y, z], _ =>
    obtain ⟨a1, b1, c1, s1, e1, r1, p1⟩ := pt x (by simp)
    obtain ⟨a2, b2, c2, s2, e2, r2, p2⟩ := pt y (by simp)
    obtain ⟨a3, b3, c3, s3, e3, r3, p3⟩ := pt z (by simp)
    refine key #[a1, b1, c1, a2, b2, c2, a3, b3, c3] ⟨_, _, s1, rfl, rfl, r1, p1, _, _, s2, rfl, rfl, r2, p2, _, #[], s3, rfl, rfl, r3, p3, rfl⟩ fun K' hK' => ?_
    unfold Oper.wp
    simp [execOp, hop, Sp.op, e1, e2, e3, bs3, Result.andThen, Oper.upon]
    exact hK'
theorem step_cl {i d f : Nat} {args : List Int} {o : Oper} (ho : ops[i]? = some o) (hop : o.op = (Sp.cl f args).op) (hd : o.dst = some d) (hg : o.guard = none) (hr : rows[i]? = some (some d, .cl f args)) (hL : L i = false)
    (h : Inv w0 os ad bx L a w) : wpOp Tryz.prog ops Q i (Inv w0 os ad bx (fun j => j == i || L j)) a w := by
  have hk := row_ok hr
  simp only [rowOk, Bool.and_eq_true, Bool.or_eq_true, decide_eq_true_eq, List.all_eq_true, beq_iff_eq] at hk
  obtain ⟨h1, h3⟩ := hk
  obtain ⟨n1, n2, n3⟩ := midd_ne h3
  have key : ∀ (K' : Act → World → Prop), (∀ a w, Inv w0 os ad bx (fun j => j == i || L j) a w → K' a w) → ∀ cs w', Below w.heap.size w w' → cs.size = 3 → Pt bx (.cl f args) cs w' → K' (a.put o.dst (.agg cs)) w' := fun K' hK cs w' hb hz hp => by
    rw [hd]
    exact hK _ _ (h.put hr hL (keep_below hb) (h.os.below hb) (fun _ _ _ h => h.below hb) ⟨cs, rfl, hz, hp⟩ (fun e => absurd e n1) (fun e => absurd e n2) (fun e => absurd e n3))
  refine op_go ho hg fun K' hK => ?_
  rcases h1 with (⟨⟨rfl, h2⟩, h4⟩ | ⟨rfl, h2⟩) | ⟨rfl, h2⟩
  · obtain ⟨l, m, rfl⟩ : ∃ l m, args = [l, m] := by
      match args, h2 with
      | [l, m], _ => exact ⟨l, m, rfl⟩
    unfold Oper.wp
    simp [execOp, hop, Sp.op, Oper.upon, resolve, invoke, go_sem]
    refine (txt_ex l m w).mono ?_
    rintro e w1 ⟨n, rfl, a0, a1, hb⟩
    exact key K' hK _ _ hb rfl (.inl ⟨rfl, l, m, n, rfl, rfl, a0, a1⟩)
  · obtain rfl := List.eq_nil_of_length_eq_zero h2
    unfold Oper.wp
    simp [execOp, hop, Sp.op, Oper.upon, resolve, invoke, go_sem]
    refine (uni_ex w).mono ?_
    rintro e w1 ⟨rfl, hb⟩
    exact key K' hK _ _ hb rfl (.inr (.inl ⟨rfl, rfl⟩))
  · obtain rfl := List.eq_nil_of_length_eq_zero h2
    unfold Oper.wp
    simp [execOp, hop, Sp.op, Oper.upon, resolve, invoke, go_sem]
    refine (ret_ex w).mono ?_
    rintro e w1 ⟨n, rfl, a0, a1, hb⟩
    exact key K' hK _ _ hb rfl (.inr (.inr ⟨rfl, n, rfl, a0, a1⟩))
theorem Tab.size (T : Tab ops) : ops.size = 78 := by
  have := congrArg List.length T.form
  simpa [rows_len] using this
theorem lit_step (T : Tab ops) (hb : ∀ p, 1 ≤ p → p ≤ 12 → (ad p, Obj.cells (bx p) 118) ∈ os ∧ (bx p).size = 3) {i : Nat} {o : Oper} (ho : ops[i]? = some o) (hL : L i = false)
    (hw : ∀ e ∈ o.after, Region.binds .any e = true → L e.on = true) (h : Inv w0 os ad bx L a w) : wpOp Tryz.prog ops Q i (Inv w0 os ad bx (fun j => j == i || L j)) a w := by
  obtain ⟨s, hr, hop, hg⟩ := T.row ho
  have hn : ∀ t ∈ s.needs, L (ix t) = true := fun t ht => T.needs ho hr ht hw
  have hk := row_ok hr
  cases hd : o.dst with
  | none =>
    rw [hd] at hr hk
    cases s <;> try cases hk
    exact step_ins ho hop hd hg hr hL (hn 25 (by simp [Sp.needs])) (hn _ (by simp [Sp.needs])) h
  | some d =>
    rw [hd] at hr hk
    cases s
    case mk => exact step_mk ho hop hd hg hr hL h
    case ld p => exact step_ld ho hop hd hg hr hL hb h
    case sl xs => exact step_sl ho hop hd hg hr hL hn h
    case ins k t => cases hk
    case cl f args => exact step_cl ho hop hd hg hr hL h
    case mv t => exact step_mv ho hop hd hg hr hL (hn _ (by simp [Sp.needs])) h
    case asg t => exact step_asg ho hop hd hg hr hL (hn _ (by simp [Sp.needs])) h
theorem inv_start (ho : Os w0 os w) (hz : a.tmps.size = 81) (hd : a.defers = []) (hl : ∀ p, 1 ≤ p → p ≤ 12 → a.tmps.getD p undef = .pointer (some ⟨ad p, 0, none⟩)) : Inv w0 os ad bx (fun _ => false) a w :=
  ⟨ho, hz, hd, hl, fun _ _ _ _ h => (by cases h), fun h => (by cases h), fun h => (by cases h), fun _ _ _ _ h => (by cases h), fun h => (by cases h)⟩
/-- **the literal's region, in whatever order** -/
theorem lit_region (T : Tab ops) (hb : ∀ p, 1 ≤ p → p ≤ 12 → (ad p, Obj.cells (bx p) 118) ∈ os ∧ (bx p).size = 3) {id : Nat} (h0 : Inv w0 os ad bx (fun _ => false) a w.drew)
    (he : ∀ L a w, (∀ i, i < 78 → L i = true) → Inv w0 os ad bx L a w → Q .normal a w) : (Code.region id ops true).wp Tryz.prog Q a w :=
  wp_region_inv (by kernel_rfl) T.up (Inv w0 os ad bx) h0 (fun _ _ _ _ _ ho hL hw h => lit_step T hb ho hL hw h) (fun L a w hall h => he L a w (fun i hi => hall i (by rw [T.size]; exact hi)) h)
end Go.Proofs.YtpfkeohaaeiaaaaGreat
/- Law 13: a frame's parts: the map of all of them. -/
namespace Go.Proofs.YtpfkeohaaeiaaaaGreat
open Go.RowKit Go.Maps
/-- the parts' own boxes -/
def intB (n : Nat) : Obj := .cells (intP n) 118
def txtB (n : Nat) : Obj := .cells (txtP n) 118
def fixB (n : Nat) : Obj := .cells (fixP n) 118
def rngP : Array Value := #[fnv 79, fnv 80, fnv 81]
section
variable {w0 v v1 : World} {os : List (Nat × Obj)}
theorem Os.two {n : Nat} {o1 o2 : Obj} (H : Os w0 os v) (hb : Below v.heap.size v v1) (h0 : v1.heap[n]? = some o1) (h1 : v1.heap[n + 1]? = some o2) (c1 : isC o1 = true) (c2 : isC o2 = true) : Os w0 ((n + 1, o2) :: (n, o1) :: os) v1 :=
  ((H.below hb).add h0 c1).add h1 c2
end
set_option maxRecDepth 100000 in
set_option maxHeartbeats 20000000 in
theorem parts_any (w : World) : Calls Tryz.prog 62 #[] w fun e w' => ∃ M bx L n, e = .returned (.map (some M)) ∧ Mp w bx L (.map (some M)) w' ∧ (∀ i, i < 78 → L i = true) ∧ Below w.heap.size w w' ∧ bx 7 = intP n ∧ bx 12 = rngP ∧ w'.heap[n]? = some (i64B 4611686018427387903) ∧ w'.heap[n + 1]? = some (fnB 124 74) := by
  have H0 := Lib.hid (Os.start w)
  go_enter Tryz.func62, Tryz.ntmps62
  go_wp2_with fail
  refine (int_ex _ _ _).mono ?_
  rintro e w1 ⟨n1, rfl, h0, h1, hb⟩
  have H1 := Lib.hid (Os.two H0.out hb h0 h1 rfl rfl)
  clear h0 h1 hb H0
  have G1 := Lib.hid (H1.out.alloc (intB n1) rfl)
  clear H1
  unfold intB intP at G1
  go_wp2_with fail
  generalize World.alloc w1 _ = v1 at G1 ⊢
  generalize w1.heap.size = a1 at G1 ⊢
  have H1 := G1; clear G1 w1
  refine (int_ex _ _ _).mono ?_
  rintro e w2 ⟨n2, rfl, h0, h1, hb⟩
  have H2 := Lib.hid (Os.two H1.out hb h0 h1 rfl rfl)
  clear h0 h1 hb H1
  have G2 := Lib.hid (H2.out.alloc (intB n2) rfl)
  clear H2
  unfold intB intP at G2
  go_wp2_with fail
  generalize World.alloc w2 _ = v2 at G2 ⊢
  generalize w2.heap.size = a2 at G2 ⊢
  have H2 := G2; clear G2 w2
  refine (int_ex _ _ _).mono ?_
  rintro e w3 ⟨n3, rfl, h0, h1, hb⟩
  have H3 := Lib.hid (Os.two H2.out hb h0 h1 rfl rfl)
  clear h0 h1 hb H2
  have G3 := Lib.hid (H3.out.alloc (intB n3) rfl)
  clear H3
  unfold intB intP at G3
  go_wp2_with fail
  generalize World.alloc w3 _ = v3 at G3 ⊢
  generalize w3.heap.size = a3 at G3 ⊢
  have H3 := G3; clear G3 w3
  refine (int_ex _ _ _).mono ?_
  rintro e w4 ⟨n4, rfl, h0, h1, hb⟩
  have H4 := Lib.hid (Os.two H3.out hb h0 h1 rfl rfl)
  clear h0 h1 hb H3
  have G4 := Lib.hid (H4.out.alloc (intB n4) rfl)
  clear H4
  unfold intB intP at G4
  go_wp2_with fail
  generalize World.alloc w4 _ = v4 at G4 ⊢
  generalize w4.heap.size = a4 at G4 ⊢
  have H4 := G4; clear G4 w4
  refine (int_ex _ _ _).mono ?_
  rintro e w5 ⟨n5, rfl, h0, h1, hb⟩
  have H5 := Lib.hid (Os.two H4.out hb h0 h1 rfl rfl)
  clear h0 h1 hb H4
  have G5 := Lib.hid (H5.out.alloc (intB n5) rfl)
  clear H5
  unfold intB intP at G5
  go_wp2_with fail
  generalize World.alloc w5 _ = v5 at G5 ⊢
  generalize w5.heap.size = a5 at G5 ⊢
  have H5 := G5; clear G5 w5
  refine (int_ex _ _ _).mono ?_
  rintro e w6 ⟨n6, rfl, h0, h1, hb⟩
  have H6 := Lib.hid (Os.two H5.out hb h0 h1 rfl rfl)
  clear h0 h1 hb H5
  have G6 := Lib.hid (H6.out.alloc (intB n6) rfl)
  clear H6
  unfold intB intP at G6
  go_wp2_with fail
  generalize World.alloc w6 _ = v6 at G6 ⊢
  generalize w6.heap.size = a6 at G6 ⊢
  have H6 := G6; clear G6 w6
  refine (int_ex _ _ _).mono ?_
  rintro e w7 ⟨n7, rfl, h0, h1, hb⟩
  have H7 := Lib.hid (Os.two H6.out hb h0 h1 rfl rfl)
  clear h0 h1 hb H6
  have G7 := Lib.hid (H7.out.alloc (intB n7) rfl)
  clear H7
  unfold intB intP at G7
  go_wp2_with fail
  generalize World.alloc w7 _ = v7 at G7 ⊢
  generalize w7.heap.size = a7 at G7 ⊢
  have H7 := G7; clear G7 w7
  refine (txt_ex _ _ _).mono ?_
  rintro e w8 ⟨n8, rfl, h0, h1, hb⟩
  have H8 := Lib.hid (Os.two H7.out hb h0 h1 rfl rfl)
  clear h0 h1 hb H7
  go_wp2_with fail
  refine (txt_ex _ _ _).mono ?_
  rintro e w9 ⟨n9, rfl, h0, h1, hb⟩
  have H9 := Lib.hid (Os.two H8.out hb h0 h1 rfl rfl)
  clear h0 h1 hb H8
  have G9 := Lib.hid ((H9.out.alloc (txtB n8) rfl).alloc (txtB n9) rfl)
  rw [World.size_alloc] at G9
  clear H9
  unfold txtB txtP fnv at G9
  go_wp2_with fail
  generalize World.alloc (World.alloc w9 _) _ = v9 at G9 ⊢
  generalize w9.heap.size = a9 at G9 ⊢
  have H9 := G9; clear G9 w9
  refine (fix_ex _ _ _).mono ?_
  rintro e w10 ⟨n10, rfl, h0, h1, hb⟩
  have H10 := Lib.hid (Os.two H9.out hb h0 h1 rfl rfl)
  clear h0 h1 hb H9
  have G10 := Lib.hid (H10.out.alloc (fixB n10) rfl)
  clear H10
  unfold fixB fixP at G10
  go_wp2_with fail
  generalize World.alloc w10 _ = v10 at G10 ⊢
  generalize w10.heap.size = a10 at G10 ⊢
  have H10 := G10; clear G10 w10
  refine (fix_ex _ _ _).mono ?_
  rintro e w11 ⟨n11, rfl, h0, h1, hb⟩
  have H11 := Lib.hid (Os.two H10.out hb h0 h1 rfl rfl)
  clear h0 h1 hb H10
  have G11 := Lib.hid (H11.out.alloc (fixB n11) rfl)
  clear H11
  unfold fixB fixP at G11
  have J := Lib.hid ((G11.out.alloc (.cells #[.func (.func 79) #[] #[], .func (.func 80) #[] #[], .func (.func 81) #[] #[]] 118) rfl))
  rw [World.size_alloc] at J
  clear G11
  go_wp2_with fail
  generalize World.alloc (World.alloc w11 _) _ = v11 at J ⊢
  generalize w11.heap.size = a11 at J ⊢
  refine lit_region (w0 := w) (ad := fun p => match p with | 1 => a1 | 2 => a2 | 3 => a3 | 4 => a4 | 5 => a5 | 6 => a6 | 7 => a7 | 8 => a9 | 9 => (a9 + 1) | 10 => a10 | 11 => a11 | 12 => (a11 + 1) | _ => 0) (bx := fun p => match p with | 1 => intP n1 | 2 => intP n2 | 3 => intP n3 | 4 => intP n4 | 5 => intP n5 | 6 => intP n6 | 7 => intP n7 | 8 => txtP n8 | 9 => txtP n9 | 10 => fixP n10 | 11 => fixP n11 | 12 => rngP | _ => #[]) ⟨by kernel_rfl, by kernel_rfl, by kernel_rfl⟩ (fun p h1 h2 => ?_) (inv_start J.out.drew rfl rfl (fun p h1 h2 => ?_)) (fun L a v hL hI => ?_)
  · have hp : p = 1 ∨ p = 2 ∨ p = 3 ∨ p = 4 ∨ p = 5 ∨ p = 6 ∨ p = 7 ∨ p = 8 ∨ p = 9 ∨ p = 10 ∨ p = 11 ∨ p = 12 := by omega
    rcases hp with rfl | rfl | rfl | rfl | rfl | rfl | rfl | rfl | rfl | rfl | rfl | rfl <;> exact ⟨by repeat (first | exact List.mem_cons_self | apply List.mem_cons_of_mem), rfl⟩
  · have hp : p = 1 ∨ p = 2 ∨ p = 3 ∨ p = 4 ∨ p = 5 ∨ p = 6 ∨ p = 7 ∨ p = 8 ∨ p = 9 ∨ p = 10 ∨ p = 11 ∨ p = 12 := by omega
    rcases hp with rfl | rfl | rfl | rfl | rfl | rfl | rfl | rfl | rfl | rfl | rfl | rfl <;> rfl
  have g0 := hI.asg (hL _ (by decide +kernel))
  have g1 := hI.mv g0.2
  obtain ⟨M, n, D, e1, hm⟩ := hI.mp g1.2
  have e0 : a.tmps.getD 0 undef = .map (some M) := g0.1.trans (g1.1.trans e1)
  go_wp2
  refine bodyPost_ret (v := .map (some M)) (by simp [results, Tryz.results62, go_sem] at e0 ⊢; exact e0) hI.nod ⟨M, _, L, n7, rfl, ⟨M, n, D, rfl, hm⟩, hL, hI.os.bel, rfl, rfl, hI.os.at (by repeat (first | exact List.mem_cons_self | apply List.mem_cons_of_mem)), hI.os.at (by repeat (first | exact List.mem_cons_self | apply List.mem_cons_of_mem))⟩
end Go.Proofs.YtpfkeohaaeiaaaaGreat
/- Law 13: number: a value's bytes. -/
namespace Go.Proofs.YtpfkeohaaeiaaaaGreat
open Go.RowKit
set_option maxRecDepth 100000 in
set_option maxHeartbeats 2000000 in
theorem number_any (n lim : Int) (w : World) (h0 : 0 ≤ n) (hl : n ≤ lim) (hm : n ≤ 4611686018427387903) : Calls Tryz.prog 89 #[.int .i64 n, .int .i64 lim] w fun e w' => e = .returned (.string (strOfNums (encV n))) ∧ Below w.heap.size w w' := by
  have hg : decide (n > lim) = false := by simp; omega
  have hg' : (lim < n) = False := eq_false (by omega)
  have E := Lib.hid (enc_any n w (by unfold cls; split; omega; split; omega; split; omega; split; omega; omega))
  go_enter Tryz.func89, Tryz.ntmps89
  go_wp2_with (go_at_call 118; refine E.out.mono ?_; rintro e w1 ⟨rfl, hb⟩)
  all_goals (try (simp at hg; omega))
  go_ret
  exact ⟨rfl, hb⟩
end Go.Proofs.YtpfkeohaaeiaaaaGreat
/- Law 13: strings.Builder. -/
namespace Go.Proofs.YtpfkeohaaeiaaaaGreat
open Go.RowKit
theorem size140 : (Tryz.prog.info? 140).map (·.size) = some 2 := by kernel_rfl
set_option maxRecDepth 100000 in
set_option maxHeartbeats 2000000 in
theorem check_used (b : Nat) (w : World) (h0 : w.cell? ⟨b, 0, none⟩ = some (.pointer (some ⟨b, 0, none⟩))) : Calls Tryz.prog 120 #[.pointer (some ⟨b, 0, none⟩)] w fun e w' => e = .returned (.tuple #[]) ∧ w' = w := by
  obtain ⟨j, hj, hjs⟩ := Option.map_eq_some_iff.1 size140
  go_enter Tryz.func120, Tryz.ntmps120
  go_wp2
  rw [Lib.run_neq_ptr_same w _ Tryz.underlying138 hj]
  go_wp2
  go_end0
  exact ⟨rfl, rfl⟩
set_option maxRecDepth 100000 in
set_option maxHeartbeats 2000000 in
theorem check_new (b : Nat) (w : World) (h0 : w.cell? ⟨b, 0, none⟩ = some (.pointer none)) (hsh : w.shape? b = some (140, 2)) (hfz : w.frozen? ⟨b, 0, none⟩ = false) :
    Calls Tryz.prog 120 #[.pointer (some ⟨b, 0, none⟩)] w fun e w' => e = .returned (.tuple #[]) ∧ w' = w.setCell ⟨b, 0, none⟩ (.pointer (some ⟨b, 0, none⟩)) := by
  obtain ⟨j, hj, hjs⟩ := Option.map_eq_some_iff.1 size140
  go_enter Tryz.func120, Tryz.ntmps120
  go_wp2
  rw [Lib.run_to_unsafe w ⟨b, 0, none⟩ Tryz.underlying138 Tryz.underlying176 hj (by rw [hjs]; decide) hsh (Nat.zero_lt_succ 1)]
  simp only [Result.andThen]
  rw [Oper.upon_value]
  go_wp2
  rw [run_callFunc_extern Tryz.func131 (by kernel_rfl) (by kernel_rfl) (by kernel_rfl) (e := Extern.AbiNoEscape.same) (by kernel_rfl)]
  rw [Lib.run_noEscape]
  simp only [Result.andThen]
  rw [Oper.upon_value]
  go_wp2
  rw [Lib.run_from_unsafe w ⟨b, 0, none⟩ Tryz.underlying176 Tryz.underlying138 hj hsh (by kernel_rfl)]
  simp only [Result.andThen]
  rw [Oper.upon_value]
  go_wp2
  go_end0
  exact ⟨rfl, rfl⟩
/-- blocks of cells of another type than a byte's stay, but for block b -/
def Apart (b : Nat) (w w' : World) : Prop := ∀ (k : Nat) (cs : Array Value) (T : TypeId) (fz : Nat × Nat), w.heap[k]? = some (.cells cs T fz) → k ≠ b → T ≠ 5 → w'.heap[k]? = some (.cells cs T fz)
theorem Apart.refl (b : Nat) (w : World) : Apart b w w := fun _ _ _ _ h _ _ => h
theorem Apart.trans {b : Nat} {w w' w'' : World} (h : Apart b w w') (k : Apart b w' w'') : Apart b w w'' := fun _ _ _ _ h1 h2 h3 => k _ _ _ _ (h _ _ _ _ h1 h2 h3) h2 h3
theorem Apart.set (b i : Nat) (w : World) (v : Value) : Apart b w (w.setCell ⟨b, i, none⟩ v) := fun k _ _ _ h1 h2 _ => (heap_setCell_other w _ k v (fun e => h2 e)).trans h1
theorem Apart.below {b : Nat} {w w' : World} (h : Below w.heap.size w w') : Apart b w w' := fun _ _ _ _ h1 _ _ => heap_below h h1
theorem Apart.row {b B n : Nat} {w w' : World} {v : Value} {xs : List Value} (hown : w.ownsRow B 5 1 v n xs) (hg : w.grownBy w' v.ownBlock) : Apart b w w' := by
  intro k cs T fz h1 _ h3
  rw [hg.block k (heap_lt h1) ?_]
  · exact h1
  · intro e
    rcases hown.2 with ⟨rfl, _⟩ | ⟨g, cap, cur, rfl, hb, hgg, _⟩
    · simp [Value.ownBlock] at e
    · simp [Value.ownBlock] at e
      subst e
      rw [hgg] at h1
      cases h1
      exact h3 rfl
theorem check_any (B b : Nat) (bs : List Value) (w : World) (h : Lib.IsBuilder 140 5 B b bs w) :
    Calls Tryz.prog 120 #[.pointer (some ⟨b, 0, none⟩)] w fun e w' => e = .returned (.tuple #[]) ∧ Lib.BuilderAt 140 5 B b (.pointer (some ⟨b, 0, none⟩)) bs w' ∧ Below B w w' ∧ Apart b w w' := by
  rcases h with h | h
  · refine (check_new b w h.cell0 h.shape h.frozen0).mono ?_
    rintro e w' ⟨rfl, rfl⟩
    exact ⟨rfl, h.used _, (Below.refl B w).setCell (p := ⟨b, 0, none⟩) h.1 _, Apart.set _ _ _ _⟩
  · refine (check_used b w h.cell0).mono ?_
    rintro e w' ⟨rfl, rfl⟩
    exact ⟨rfl, h, Below.refl B _, Apart.refl _ _⟩
set_option maxRecDepth 100000 in
set_option maxHeartbeats 2000000 in
theorem write_any (B b : Nat) (bs : List Value) (s : ByteArray) (w : World) (h : Lib.IsBuilder 140 5 B b bs w) (hlen : bs.length + s.size ≤ 140737488355328) (hBw : B ≤ w.heap.size) :
    Calls Tryz.prog 100 #[.pointer (some ⟨b, 0, none⟩), .string s] w fun e w' => e = .returned (.tuple #[.int .i64 s.size, .nilIface]) ∧ Lib.BuilderAt 140 5 B b (.pointer (some ⟨b, 0, none⟩)) (bs ++ Lib.strCells s) w' ∧ Below B w w' ∧ Apart b w w' := by
  obtain ⟨i0, hi, hz0, hz1, hz2⟩ := info_parts (show (Tryz.prog.info? 5).map (fun i => (i.zero, i.size, i.bytes)) = some (some (.int .u8 0), 1, 1) by kernel_rfl)
  go_enter Tryz.func100, Tryz.ntmps100
  go_wp2_with (go_at_call 120; refine (check_any B b bs _ h).mono ?_)
  rintro e w1 ⟨rfl, h1, hb1, ha1⟩
  have HA1 := Lib.hid ha1
  clear ha1
  obtain ⟨hB, v, hbk, hown, hne⟩ := h1
  have c0 : w1.cell? ⟨b, 0, none⟩ = some (.pointer (some ⟨b, 0, none⟩)) := at_whole hbk 0 rfl
  have c1 : w1.cell? ⟨b, 1, none⟩ = some v := at_whole hbk 1 rfl
  go_wp2_with (at_builtin; refine Lib.wpList_append_own_string _ rfl _ _ 113 9 rfl B 5 i0 Tryz.underlying113 Tryz.underlying9 hi hz0 hz1 hz2 _ _ _ rfl hown s rfl ?c3 ?c4 ?c5 ?_)
  case c3 => unfold maxLen; omega
  case c4 => omega
  case c5 => have := hb1.size; omega
  intro v' w2 hown' hgrow _
  have hb2 : w2.heap[b]? = some (.cells #[.pointer (some ⟨b, 0, none⟩), v] 140 (0, 0)) := by
    rw [hgrow.block b (heap_lt hbk) (fun e => hne e.symm)]
    exact hbk
  have d0 : w2.cell? ⟨b, 0, none⟩ = some (.pointer (some ⟨b, 0, none⟩)) := at_whole hb2 0 rfl
  have d1 : w2.cell? ⟨b, 1, none⟩ = some v := at_whole hb2 1 rfl
  have f1 : w2.frozen? ⟨b, 1, none⟩ = false := frozen_whole hb2 1
  obtain ⟨ao, n', cap, rfl⟩ : ∃ ao n' cap, v' = .slice ao n' cap := by
    rcases hown'.2 with ⟨hv, _⟩ | ⟨g, cap, cur, hv, _⟩
    · exact ⟨_, _, _, hv⟩
    · exact ⟨_, _, _, hv⟩
  go_wp2
  go_ret2
  refine ⟨rfl, ?_, ?_, (HA1.out.trans (Apart.row hown hgrow)).trans (Apart.set _ _ _ _)⟩
  · exact Lib.BuilderAt.put (T := 140) (e := 5) hB hb2 (bs' := bs ++ Lib.strCells s) (by simpa [Lib.strCells_length] using hown') (by decide)
  · exact (hb1.grown hgrow (by have := hb1.size; omega) (fun k hk => (hown.lt k hk).1)).setCell (p := ⟨b, 1, none⟩) hB _
end Go.Proofs.YtpfkeohaaeiaaaaGreat
/- Law 13: delay's part of an ACK frame, and what strings the parts give: short ones. -/
namespace Go.Proofs.YtpfkeohaaeiaaaaGreat
open Go.RowKit
theorem encV_len (n : Int) : (encV n).length ≤ 8 := by
  unfold encV
  split
  · simp
  · rw [beB_len]
    have : (cls n).toNat ≤ 3 := by unfold cls; split <;> (try split) <;> (try split) <;> (try split) <;> (try split) <;> decide
    exact Nat.pow_le_pow_right (by decide) this
theorem strOf_size (l : List Int) : (strOfNums l).size = l.length := by simp [strOfNums, ByteArray.size]
theorem number_ex (n lim : Int) (w : World) (h0 : 0 ≤ n) (hl : n ≤ lim) (hm : n ≤ 4611686018427387903) : Calls Tryz.prog 89 #[.int .i64 n, .int .i64 lim] w fun e w' => ∃ s : ByteArray, s.size ≤ 8 ∧ e = .returned (.string s) ∧ Below w.heap.size w w' :=
  (number_any n lim w h0 hl hm).mono fun _ _ h => ⟨_, by rw [strOf_size]; exact encV_len n, h.1, h.2⟩
theorem fdelay_any (b : Nat) (w : World) : Calls Tryz.prog 74 #[.pointer (some ⟨b, 0, none⟩)] w fun e w' => e = .returned (.pointer (some ⟨b, 8, none⟩)) ∧ w = w' := by
  go_enter Tryz.func74, Tryz.ntmps74
  go_wp2
  go_ret
  exact ⟨rfl, rfl⟩
theorem fdelay_q (b : Nat) (w : World) : Calls Tryz.prog 74 #[.pointer (some ⟨b, 0, none⟩)] w fun e w' => e = .returned (.pointer (some ⟨b, 8, none⟩)) ∧ w' = w := (fdelay_any b w).mono fun _ _ h => ⟨h.1, h.2.symm⟩
theorem below_drew {w w' : World} (h : Below w.drew.heap.size w.drew w') : Below w.heap.size w w' := ((Below.refl w.heap.size w).drew).trans h
/-- a short string comes back; nothing that lay has turned -/
def Short (w : World) (e : Ending) (w' : World) : Prop := ∃ s : ByteArray, s.size ≤ 280 ∧ e = .returned (.string s) ∧ Below w.heap.size w w'
set_option maxRecDepth 100000 in
set_option maxHeartbeats 2000000 in
theorem putDelay_any (b n : Nat) (d lim : Int) (w : World) (h0 : 0 ≤ d) (hl : d ≤ lim) (hm : d ≤ 4611686018427387903) (hc : w.cell? ⟨b, 8, none⟩ = some (.int .i64 d)) (c1 : w.cell? ⟨n + 1, 0, none⟩ = some (fnv 74)) (c0 : w.cell? ⟨n, 0, none⟩ = some (.int .i64 lim)) :
    Calls Tryz.prog 88 #[.pointer (some ⟨b, 0, none⟩), .pointer (some ⟨n + 1, 0, none⟩), .pointer (some ⟨n, 0, none⟩)] w (Short w) := by
  unfold fnv at c1
  go_enter Tryz.func88, Tryz.ntmps88
  go_wp2
  go_still_tail 6, (by kernel_rfl)
  repeat (first | still_step | still_call (fdelay_q _ _))
  refine wpStill_nil ?_
  go_wp2_with (go_at_call 89; refine (number_ex d lim _ h0 hl hm).mono ?_; rintro e w' ⟨s, hs, rfl, hb⟩)
  go_ret
  exact ⟨s, by omega, rfl, below_drew hb⟩
set_option maxRecDepth 100000 in
set_option maxHeartbeats 2000000 in
theorem clearDelay_any (b n : Nat) (cs : Array Value) (w : World) (hb : w.heap[b]? = some (.cells cs 43 (0, 0))) (hz : cs.size = 13) (c1 : w.cell? ⟨n + 1, 0, none⟩ = some (fnv 74)) :
    Calls Tryz.prog 92 #[.pointer (some ⟨b, 0, none⟩), .pointer (some ⟨n + 1, 0, none⟩)] w fun e w' => e = .returned (.tuple #[]) ∧ w' = w.setCell ⟨b, 8, none⟩ (.int .i64 0) := by
  unfold fnv at c1
  have c8 : w.cell? ⟨b, 8, none⟩ = some cs[8] := (cell_whole hb 8).trans (by simp [hz])
  have f8 := frozen_whole hb 8
  have HB := Lib.hid hb
  clear hb
  go_enter Tryz.func92, Tryz.ntmps92
  go_wp2_with (go_at_call 74; refine (fdelay_any b _).mono ?_; rintro e w' ⟨rfl, rfl⟩)
  go_end0
  exact ⟨rfl, rfl⟩
set_option maxRecDepth 100000 in
set_option maxHeartbeats 2000000 in
theorem clearRanges_any (b : Nat) (cs : Array Value) (w : World) (hb : w.heap[b]? = some (.cells cs 43 (0, 0))) (hz : cs.size = 13) :
    Calls Tryz.prog 81 #[.pointer (some ⟨b, 0, none⟩)] w fun e w' => e = .returned (.tuple #[]) ∧ w' = w.setCell ⟨b, 9, none⟩ (.slice none 0 0) := by
  have c8 : w.cell? ⟨b, 9, none⟩ = some cs[9] := (cell_whole hb 9).trans (by simp [hz])
  have f8 := frozen_whole hb 9
  have HB := Lib.hid hb
  clear hb
  go_enter Tryz.func81, Tryz.ntmps81
  go_wp2
  go_end0
  exact ⟨rfl, rfl⟩
end Go.Proofs.YtpfkeohaaeiaaaaGreat
/- Law 13: putRanges: the ranges of an ACK frame. -/
namespace Go.Proofs.YtpfkeohaaeiaaaaGreat
open Go.RowKit
/-- a builder of the call's own holds at most m bytes -/
def Bd (B b m : Nat) (w : World) : Prop := ∃ l : List UInt8, Lib.IsBuilder 140 5 B b (Lib.byteCells l) w ∧ l.length ≤ m
theorem BAt.below {B b : Nat} {p : Value} {bs : List Value} {w w' : World} (h : Lib.BuilderAt 140 5 B b p bs w) (hb : Below w.heap.size w w') : Lib.BuilderAt 140 5 B b p bs w' := by
  obtain ⟨h1, v, h2, h3, h4⟩ := h
  refine ⟨h1, v, heap_below hb h2, h3.kept (grown_below (r := none) hb) ?_, h4⟩
  cases hv : v.ownBlock <;> simp
theorem Bd.below {B b m : Nat} {w w' : World} (h : Bd B b m w) (hb : Below w.heap.size w w') : Bd B b m w' := by
  obtain ⟨l, h | h, hl⟩ := h
  · exact ⟨l, .inl (BAt.below h hb), hl⟩
  · exact ⟨l, .inr (BAt.below h hb), hl⟩
theorem Bd.drew {B b m : Nat} {w : World} (h : Bd B b m w) : Bd B b m w.drew := by
  obtain ⟨l, h | h, hl⟩ := h
  · exact ⟨l, .inl h.drew, hl⟩
  · exact ⟨l, .inr h.drew, hl⟩
theorem Bd.new (w : World) : Bd w.heap.size w.heap.size 0 (w.alloc (.cells #[.pointer none, .slice none 0 0] 140)) :=
  ⟨[], .inl ⟨Nat.le_refl _, _, heap_alloc_new w _, World.ownsRow_nil _ _ _ _, by simp [Value.ownBlock]⟩, Nat.le_refl _⟩
theorem Bd.lt {B b m : Nat} {w : World} (h : Bd B b m w) : b < w.heap.size := by
  obtain ⟨l, h | h, _⟩ := h <;> exact h.lt
theorem write_bd (B b m q : Nat) (s : ByteArray) (w : World) (h : Bd B b m w) (hs : s.size ≤ q) (hm : m + q ≤ 100000) (hBw : B ≤ w.heap.size) :
    Calls Tryz.prog 100 #[.pointer (some ⟨b, 0, none⟩), .string s] w fun e w' => e = .returned (.tuple #[.int .i64 s.size, .nilIface]) ∧ Bd B b (m + q) w' ∧ Below B w w' ∧ Apart b w w' := by
  obtain ⟨l, h, hl⟩ := h
  refine (write_any B b _ s w h (by rw [Lib.byteCells_length]; omega) hBw).mono ?_
  rintro e w' ⟨rfl, h1, h2, h3⟩
  refine ⟨rfl, ⟨l ++ s.data.toList, .inr ?_, ?_⟩, h2, h3⟩
  · rw [Lib.byteCells_append]; exact h1
  · have : s.data.toList.length = s.size := by rw [Array.length_toList]; rfl
    rw [List.length_append]; omega
theorem string_bd (B b m : Nat) (w : World) (h : Bd B b m w) (hBw : B ≤ w.heap.size) : Calls Tryz.prog 101 #[.pointer (some ⟨b, 0, none⟩)] w fun e w' => ∃ s : ByteArray, s.size ≤ m ∧ e = .returned (.string s) ∧ Below B w w' := by
  obtain ⟨l, h, hl⟩ := h
  refine (Tryz.Builder_String_any B b l w h hBw).mono ?_
  rintro e w' ⟨rfl, h2⟩
  exact ⟨_, by simpa [ByteArray.size] using hl, rfl, h2⟩
def prv (F : Nat → Int) : Nat → Int
  | 0 => 281474976710658
  | k + 1 => F k
theorem cat_run (a b : ByteArray) (W : World) (ha : a.size ≤ 8) (hb : b.size ≤ 8) : (binOp .add 9 (.string a) (.string b)).run Tryz.prog W = .ok (.string (a ++ b)) W := by
  have ha' : (a.size : Int) ≤ 8388608 := by omega
  have hb' : (b.size : Int) ≤ 8388608 := by omega
  have h9 := Tryz.underlying9
  simp [binOp, run_string_add, *]
/-- n ranges, descending -/
structure RgOk (n : Nat) (F T : Nat → Int) : Prop where
  lo : 1 ≤ n
  hi : n ≤ 16
  at_ : ∀ k, k < n → 0 ≤ F k ∧ F k < T k ∧ T k ≤ 281474976710656 ∧ T k < prv F k
/-- the slice v holds the n spans -/
def SpansAt (w : World) (v : Value) (n : Nat) (F T : Nat → Int) : Prop := ∃ g o cap, v = .slice (some ⟨g, o, none⟩) n cap ∧ n ≤ cap ∧ cap ≤ maxLen ∧
  ∀ k, k < n → w.cell? ⟨g, o + k * 2, none⟩ = some (.int .i64 (F k)) ∧ w.cell? ⟨g, o + k * 2 + 1, none⟩ = some (.int .i64 (T k))
theorem SpansAt.below {w w' : World} {v : Value} {n : Nat} {F T : Nat → Int} (h : SpansAt w v n F T) (hb : Below w.heap.size w w') : SpansAt w' v n F T := by
  obtain ⟨g, o, cap, h1, h2, h3, h4⟩ := h
  exact ⟨g, o, cap, h1, h2, h3, fun k hk => ⟨(hb.cell (World.block_lt_of_cell? _ _ (h4 k hk).1)).trans (h4 k hk).1, (hb.cell (World.block_lt_of_cell? _ _ (h4 k hk).2)).trans (h4 k hk).2⟩⟩
set_option maxRecDepth 100000 in
set_option maxHeartbeats 4000000 in
theorem putRanges_any (b n : Nat) (F T : Nat → Int) (cs : Array Value) (v : Value) (w : World) (hR : RgOk n F T) (hS : SpansAt w v n F T) (hb : w.heap[b]? = some (.cells cs 43 (0, 0))) (hc : cs[9]? = some v) :
    Calls Tryz.prog 79 #[.pointer (some ⟨b, 0, none⟩)] w (Short w) := by
  obtain ⟨g, o, cap, rfl, hcap, hm, hsp⟩ := hS
  obtain ⟨hn1, hn2, hok⟩ := hR
  have c9 : w.cell? ⟨b, 9, none⟩ = some (.slice (some ⟨g, o, none⟩) n cap) := (cell_whole hb 9).trans hc
  have hbl := heap_lt hb
  have e0 : ((n : Int) = 0) = False := eq_false (by omega)
  have SP := Lib.hid hsp
  have OK := Lib.hid hok
  have HB := Lib.hid hb
  have HC := Lib.hid hc
  unfold maxLen at hm
  clear hsp hok hb hc
  have N0 := Lib.hid (Bd.new w)
  have c9' : (w.alloc (.cells #[.pointer none, .slice none 0 0] 140)).cell? ⟨b, 9, none⟩ = some (.slice (some ⟨g, o, none⟩) n cap) := by
    rw [Below.cell ((Below.refl w.heap.size w).alloc (Nat.le_refl _) _) (p := ⟨b, 9, none⟩) hbl]; exact c9
  have B0 := Lib.hid ((Below.refl w.heap.size w).alloc (Nat.le_refl _) (.cells #[.pointer none, .slice none 0 0] 140))
  go_enter Tryz.func79, Tryz.ntmps79
  go_wp2_with fail
  refine (number_ex _ _ _ (by omega) (by omega) (by omega)).mono ?_
  rintro e w1 ⟨s1, hs1, rfl, hb1⟩
  have N1 := Lib.hid (N0.out.below hb1)
  have B1 := Lib.hid (btrans B0.out hb1)
  have c91 : w1.cell? ⟨b, 9, none⟩ = some (.slice (some ⟨g, o, none⟩) n cap) := by rw [Below.cell B1.out (p := ⟨b, 9, none⟩) hbl]; exact c9
  clear hb1 N0 B0 c9'
  go_wp2_with fail
  refine (write_bd _ _ _ 8 s1 _ N1.out hs1 (by omega) B1.out.size).mono ?_
  rintro e w2 ⟨rfl, hN2, hb2, ha2⟩
  have N2 := Lib.hid hN2
  have B2 := Lib.hid (B1.out.trans hb2)
  have c92 : w2.cell? ⟨b, 9, none⟩ = some (.slice (some ⟨g, o, none⟩) n cap) := by rw [Below.cell B2.out (p := ⟨b, 9, none⟩) hbl]; exact c9
  clear hN2 hb2 ha2 N1 B1 c91 c9 w1
  go_wp2
  go_loopw [4, 28] (fun f i wr => ∃ k : Nat, k ≤ n ∧ i = .int .i64 k ∧ f = .int .i64 (prv F k) ∧ Bd w.heap.size w.heap.size (8 + 16 * k) wr ∧ Below w.heap.size w wr) (fun _ i _ => n - (intOf i).toNat)
  case atStart => exact ⟨0, by omega, rfl, rfl, N2.out, B2.out⟩
  case round =>
    obtain ⟨k, hk, rfl, rfl, hN, hB⟩ := hrel
    have N := Lib.hid hN
    have B := Lib.hid hB
    clear hN hB
    by_cases hlt : k < n
    · obtain ⟨q1, q2, q3, q4⟩ := OK.out k hlt
      have s0 : wr.cell? ⟨g, o + k * 2, none⟩ = some (.int .i64 (F k)) := (B.out.cell (World.block_lt_of_cell? _ _ (SP.out k hlt).1)).trans (SP.out k hlt).1
      have s1 : wr.cell? ⟨g, o + k * 2 + 1, none⟩ = some (.int .i64 (T k)) := (B.out.cell (World.block_lt_of_cell? _ _ (SP.out k hlt).2)).trans (SP.out k hlt).2
      have p0 : 0 < prv F k := by omega
      have g1 : ¬ (F k < 0) := by omega
      have g2 : ¬ (281474976710656 < T k) := by omega
      have g3 : ¬ (prv F k ≤ T k) := by omega
      have g4 : prv F k ≤ 281474976710658 := by
        cases k with
        | zero => exact Int.le_refl _
        | succ m => have := OK.out m (by omega); show F m ≤ _; omega
      have X := Lib.hid (box1 wr (.cells #[.int .i64 (F k), .int .i64 (T k)] 54))
      have NX := Lib.hid (N.out.below X.out.2.1)
      have BX := Lib.hid (btrans B.out X.out.2.1)
      have PS := Lib.hid (show prv F (k + 1) = F k from rfl)
      rcases Nat.eq_zero_or_pos k with hk0 | hk0
      · subst hk0
        rw [Nat.zero_mul, Nat.add_zero] at s0 s1
        have HS := Lib.hid (show ∀ w', Apart w.heap.size (wr.alloc (.cells #[.int .i64 (F 0), .int .i64 (T 0)] 54)) w' → (w'.cell? ⟨wr.heap.size, 0, none⟩ = some (.int .i64 (F 0)) ∧ w'.cell? ⟨wr.heap.size, 1, none⟩ = some (.int .i64 (T 0))) from
          fun w' h => ⟨at_whole (h _ _ _ _ X.out.1 (by have := B.out.size; have := N.out.lt; omega) (by decide)) 0 rfl, at_whole (h _ _ _ _ X.out.1 (by have := N.out.lt; omega) (by decide)) 1 rfl⟩)
        have W1 : IntKind.i64.wrap (T 0 - F 0) = T 0 - F 0 := IntWalk.i64_in _ (by omega)
        have W2 : IntKind.i64.wrap (T 0 - F 0 - 1) = T 0 - F 0 - 1 := IntWalk.i64_in _ (by omega)
        go_wp2
        generalize wr.alloc (.cells #[.int .i64 (F 0), .int .i64 (T 0)] 54) = V at X NX BX HS ⊢
        have t1 := Lib.hid True.intro
        go_region_held3 (fun w' => w'.cell? ⟨wr.heap.size, 0, none⟩ = some (.int .i64 (F 0)) ∧ w'.cell? ⟨wr.heap.size, 1, none⟩ = some (.int .i64 (T 0)))
          (first | exact HS.out _ (Apart.below (Below.refl V.heap.size V).drew) | exact HS.out _ (Apart.below (below_drew hb1)) | exact HS.out _ (Apart.below (btrans (below_drew hb1) hb2)) | exact HS.out _ ((Apart.below (btrans (below_drew hb1) hb2)).trans ha3))
          (first | (go_at_call 89; have t2 := t1.out; clear t1; refine (number_ex _ _ _ (by omega) (by omega) (by omega)).mono ?_; rintro e w1 ⟨s1, hs1, rfl, hb1⟩) | (go_at_call 89; refine (number_ex _ _ _ (by omega) (by omega) (by omega)).mono ?_; rintro e w2 ⟨s2, hs2, rfl, hb2⟩; have z2 : (9223372036854775807 < s1.size + s2.size) = False := eq_false (by omega)) | (go_at_call 100; refine (write_bd _ _ _ 16 _ _ ((NX.out.drew.below hb1).below hb2) (by rw [ByteArray.size_append]; omega) (by omega) (Nat.le_trans BX.out.size (btrans (below_drew hb1) hb2).size)).mono ?_; rintro e w3 ⟨rfl, hB3, hb3, ha3⟩))
        have y0 := (HS.out _ ((Apart.below (btrans (below_drew hb1) hb2)).trans ha3)).1
        have NN := Lib.hid hB3
        have BB := Lib.hid ((BX.out.trans ((btrans (below_drew hb1) hb2).mono BX.out.size)).trans hb3)
        clear hB3 hb3 ha3 hb1 hb2 z2
        go_wp2
        go_roundw
        case rel => exact ⟨0 + 1, by omega, by go_num, by rw [PS.out], by have := NN.out; rwa [show 8 + 16 * 0 + 16 = 8 + 16 * (0 + 1) by omega] at this, BB.out⟩
        case measure => simp [intOf]; omega
      · have hk1 : (0 : Int) < (k : Int) := by omega
        have g5 : IntKind.i64.wrap (prv F k - T k) = prv F k - T k := IntWalk.i64_in _ (by omega)
        have g6 : IntKind.i64.wrap (prv F k - T k - 1) = prv F k - T k - 1 := IntWalk.i64_in _ (by omega)
        have HS := Lib.hid (show ∀ w', Apart w.heap.size (wr.alloc (.cells #[.int .i64 (F k), .int .i64 (T k)] 54)) w' → (w'.cell? ⟨wr.heap.size, 0, none⟩ = some (.int .i64 (F k)) ∧ w'.cell? ⟨wr.heap.size, 1, none⟩ = some (.int .i64 (T k))) from
          fun w' h => ⟨at_whole (h _ _ _ _ X.out.1 (by have := B.out.size; have := N.out.lt; omega) (by decide)) 0 rfl, at_whole (h _ _ _ _ X.out.1 (by have := N.out.lt; omega) (by decide)) 1 rfl⟩)
        have W1 : IntKind.i64.wrap (T k - F k) = T k - F k := IntWalk.i64_in _ (by omega)
        have W2 : IntKind.i64.wrap (T k - F k - 1) = T k - F k - 1 := IntWalk.i64_in _ (by omega)
        go_wp2
        generalize wr.alloc (.cells #[.int .i64 (F k), .int .i64 (T k)] 54) = V at X NX BX HS ⊢
        have t1 := Lib.hid True.intro
        go_region_held3 (fun w' => w'.cell? ⟨wr.heap.size, 0, none⟩ = some (.int .i64 (F k)) ∧ w'.cell? ⟨wr.heap.size, 1, none⟩ = some (.int .i64 (T k)))
          (first | exact HS.out _ (Apart.below (Below.refl V.heap.size V).drew) | exact HS.out _ (Apart.below (below_drew hb1)) | exact HS.out _ (Apart.below (btrans (below_drew hb1) hb2)) | exact HS.out _ ((Apart.below (btrans (below_drew hb1) hb2)).trans ha3))
          (first | (go_at_call 89; have t2 := t1.out; clear t1; refine (number_ex _ _ _ (by omega) (by omega) (by omega)).mono ?_; rintro e w1 ⟨s1, hs1, rfl, hb1⟩) | (go_at_call 89; refine (number_ex _ _ _ (by omega) (by omega) (by omega)).mono ?_; rintro e w2 ⟨s2, hs2, rfl, hb2⟩; have z2 : (9223372036854775807 < s1.size + s2.size) = False := eq_false (by omega)) | (go_at_call 100; refine (write_bd _ _ _ 16 _ _ ((NX.out.drew.below hb1).below hb2) (by rw [ByteArray.size_append]; omega) (by omega) (Nat.le_trans BX.out.size (btrans (below_drew hb1) hb2).size)).mono ?_; rintro e w3 ⟨rfl, hB3, hb3, ha3⟩))
        have y0 := (HS.out _ ((Apart.below (btrans (below_drew hb1) hb2)).trans ha3)).1
        have NN := Lib.hid hB3
        have BB := Lib.hid ((BX.out.trans ((btrans (below_drew hb1) hb2).mono BX.out.size)).trans hb3)
        clear hB3 hb3 ha3 hb1 hb2 z2
        go_wp2
        go_roundw
        case rel => exact ⟨k + 1, by omega, by go_num, by rw [PS.out], by have := NN.out; rwa [show 8 + 16 * k + 16 = 8 + 16 * (k + 1) by omega] at this, BB.out⟩
        case measure => simp [intOf]; omega
    · obtain rfl : k = n := by omega
      clear hlt
      go_wp2_with (go_at_call 101; refine (string_bd _ _ _ _ N.out B.out.size).mono ?_; rintro e w' ⟨s, hs, rfl, hb⟩)
      go_ret
      exact ⟨s, by omega, rfl, B.out.trans hb⟩
end Go.Proofs.YtpfkeohaaeiaaaaGreat
/- Law 13: a frame's parts looked up; Same at two bare ACK frames. -/
namespace Go.Proofs.YtpfkeohaaeiaaaaGreat
open Go.RowKit Go.Maps
theorem has_of_atKey {D : DataW Value} {k : Lit} {z u : Value} (h : D.atKey k (.held z) = .held u) (hu : u ≠ z) : Maps.has D k = true ∧ ∀ z', D.atKey k (.held z') = .held u := by
  unfold DataW.atKey at h ⊢
  unfold Maps.has
  cases D <;> simp only [DataW.held.injEq] at h <;> try exact absurd h.symm hu
  rename_i es
  cases hf : es.find? (fun p => p.1.sameKey k) with
  | none => rw [hf] at h; simp only [DataW.held.injEq] at h; exact absurd h.symm hu
  | some p =>
    rw [hf] at h
    refine ⟨?_, fun z' => by simp only [hf]; exact h⟩
    simp only
    exact List.any_eq_true.2 ⟨p, List.mem_of_find?_eq_some hf, by simpa using List.find?_some hf⟩
theorem row10 : rows[10]? = some (none, .ins 2 31) := by kernel_rfl
theorem row9 : rows[ix 31]? = some (some 31, .sl [29, 30]) := by kernel_rfl
theorem row29 : rows[ix 29]? = some (some 29, .ld 7) := by kernel_rfl
theorem row30 : rows[ix 30]? = some (some 30, .ld 12) := by kernel_rfl
theorem key2 : keyOf Tryz.prog 3 (.int .i64 2) = some (.int .i64 2) := Maps.keyOf_int_mk Tryz.underlying3 (by decide)
/-- the parts of an ACK frame -/
theorem ack_row {w0 w : World} {bx : Nat → Array Value} {L : Nat → Bool} {M : Nat} (h : Mp w0 bx L (.map (some M)) w) (hL : ∀ i, i < 78 → L i = true) :
    ∃ g cs, w.heap[g]? = some (.cells cs 118 (0, 0)) ∧ cs = bx 7 ++ bx 12 ∧ (bx 7).size = 3 ∧ (bx 12).size = 3 ∧ (Instr.lookup 111 (.map (some M)) (.int .i64 2) true).run Tryz.prog w = .ok (.tuple #[.slice (some ⟨g, 0, none⟩) 2 2, .bool true]) w := by
  obtain ⟨M', n, D, h1, h2, h3, h4, h5, h6⟩ := h
  cases h1
  obtain ⟨u, s, e1, e2, e3⟩ := h6 10 2 31 row10 (hL 10 (by decide))
  rw [row9] at e2
  cases e2
  obtain ⟨g, cs, rfl, hg, hp⟩ := e3
  obtain ⟨c1, c2, s1, rfl, z1, r1, p1, hp⟩ := hp
  rw [row29] at r1; cases r1
  obtain ⟨c3, c4, s2, rfl, z2, r2, p2, hp⟩ := hp
  rw [row30] at r2; cases r2
  cases hp
  cases p1; cases p2
  obtain ⟨hh, hz⟩ := has_of_atKey e1 (by simp [undef])
  have := h2.look_ok (t := 111) (e := 109) (K := Maps.int_keyed Tryz.underlying3) Tryz.underlying111 (Tryz.zeroValue109 w) key2 (hz _)
  rw [hh] at this
  exact ⟨g, _, hg, by simp, z1, z2, this⟩
def ackE (d : Int) (rv : Value) : Array Value := #[.int .i64 2, .int .i64 0, .int .i64 0, .string ⟨#[]⟩, .bool false, .int .i64 0, .int .i64 0, .bool false, .int .i64 d, rv, .int .i64 0, .int .i64 0, .string ⟨#[]⟩]
set_option maxRecDepth 100000 in
set_option maxHeartbeats 2000000 in
theorem equal_nil (w : World) : Calls Tryz.prog 84 #[.slice none 0 0, .slice none 0 0] w fun e w' => e = .returned (.bool true) ∧ w = w' := by
  go_enter Tryz.func84, Tryz.ntmps84
  go_wp2
  refine wp_loop_rounds 1 ?_
  rw [rounds_succ]
  go_wp2
  go_ret
  exact ⟨rfl, rfl⟩
set_option maxRecDepth 100000 in
set_option maxHeartbeats 4000000 in
theorem same_ack (w : World) : Calls Tryz.prog 63 #[.agg (ackE 0 (.slice none 0 0)), .agg (ackE 0 (.slice none 0 0))] w fun e w' => e = .returned (.bool true) ∧ Below w.heap.size w w' := by
  unfold ackE
  have c := box2 w (.cells #[.int .i64 2, .int .i64 0, .int .i64 0, .string ⟨#[]⟩, .bool false, .int .i64 0, .int .i64 0, .bool false, .int .i64 0, .slice none 0 0, .int .i64 0, .int .i64 0, .string ⟨#[]⟩] 43) (.cells #[.int .i64 2, .int .i64 0, .int .i64 0, .string ⟨#[]⟩, .bool false, .int .i64 0, .int .i64 0, .bool false, .int .i64 0, .slice none 0 0, .int .i64 0, .int .i64 0, .string ⟨#[]⟩] 43)
  have C := Lib.hid c
  clear c
  go_enter Tryz.func63, Tryz.ntmps63
  go_wp2_with (go_at_call 84; refine (equal_nil _).mono ?_; rintro e w' ⟨rfl, rfl⟩)
  go_ret
  exact ⟨rfl, C.out.2.2.1⟩
end Go.Proofs.YtpfkeohaaeiaaaaGreat
/- Law 13: encode at an ACK frame. -/
namespace Go.Proofs.YtpfkeohaaeiaaaaGreat
open Go.RowKit Go.Maps
/-- string([]byte{2}) -/
theorem conv1 (b : Nat) (w : World) (h : w.heap[b]? = some (.cells #[.int .u8 2] 5 (0, 0))) : (convert 113 9 (.slice (some ⟨b, 0, none⟩) 1 1)).run Tryz.prog w = .ok (.string (strOfNums [2])) w :=
  run_convert_bytes_arg (P := Tryz.prog) w 113 5 Tryz.underlying113 Tryz.underlying5 b 0 1 1 [2] (by decide) (fun i hi => by
    have e : i = 0 := by omega
    subst e
    exact at_whole h 0 rfl) 9 Tryz.underlying9
/-- behind w1: a block of a frame's own, made first; nothing that lay in w1 has turned -/
structure Eb (w1 : World) (cs : Array Value) (W : World) : Prop where
  new : W.heap[w1.heap.size]? = some (.cells cs 43 (0, 0))
  bel : Below w1.heap.size w1 W
theorem Eb.below {w1 W W' : World} {cs : Array Value} (h : Eb w1 cs W) (hb : Below W.heap.size W W') : Eb w1 cs W' := ⟨heap_below hb h.new, h.bel.trans (hb.mono h.bel.size)⟩
theorem Eb.alloc {w1 W : World} {cs : Array Value} (h : Eb w1 cs W) (o : Obj) : Eb w1 cs (W.alloc o) := h.below ((Below.refl _ _).alloc (Nat.le_refl _) _)
theorem Eb.set {w1 W : World} {cs : Array Value} (h : Eb w1 cs W) (i : Nat) (v : Value) : Eb w1 (cs.setIfInBounds i v) (W.setCell ⟨w1.heap.size, i, none⟩ v) := ⟨heap_set v h.new, h.bel.setCell (p := ⟨w1.heap.size, i, none⟩) (Nat.le_refl _) _⟩
theorem Eb.old {w1 W : World} {cs : Array Value} (h : Eb w1 cs W) {k : Nat} {o : Obj} (hk : w1.heap[k]? = some o) : W.heap[k]? = some o := heap_below h.bel hk
theorem size43 : (Tryz.prog.info? 43).map (·.size) = some 13 := by kernel_rfl
set_option maxRecDepth 100000 in
set_option maxHeartbeats 8000000 in
theorem encode_ack (d : Int) (rv : Value) (n : Nat) (F T : Nat → Int) (w : World) (h0 : 0 ≤ d) (h1 : d ≤ 4611686018427387903) (hR : RgOk n F T) (hS : SpansAt w rv n F T) :
    Calls Tryz.prog 54 #[.agg (ackE d rv)] w fun e w' => ∃ s, e = .returned (.string s) ∧ Below w.heap.size w w' := by
  have HR := Lib.hid hR
  obtain ⟨g0, o0, c0, hrv, q1, q2, q3⟩ := hS
  subst hrv
  have HS := Lib.hid (show SpansAt w (.slice (some ⟨g0, o0, none⟩) n c0) n F T from ⟨g0, o0, c0, rfl, q1, q2, q3⟩)
  clear q1 q2 q3
  clear hR
  have X := Lib.hid (box1 w (.cells (ackE d (.slice (some ⟨g0, o0, none⟩) n c0)) 43))
  have XC := Lib.hid (fun (W : World) (h : W.heap[w.heap.size]? = some (.cells (ackE d (.slice (some ⟨g0, o0, none⟩) n c0)) 43 (0, 0))) => (show W.cell? ⟨w.heap.size, 0, none⟩ = some (.int .i64 2) ∧ W.cell? ⟨w.heap.size, 4, none⟩ = some (.bool false) from ⟨at_whole h 0 rfl, at_whole h 4 rfl⟩))
  have x0 := XC.out _ X.out.1
  obtain ⟨x0, x4⟩ := x0
  unfold ackE at *
  go_enter Tryz.func54, Tryz.ntmps54
  go_wp2
  generalize hV : w.alloc _ = V at X x0 x4 ⊢
  clear hV
  go_region_with ((go_at_call 62; refine (parts_any _).mono ?_; rintro e w1 ⟨M, bx, L, m, rfl, hM, hL, hb, h7, h12, n0, n1⟩; obtain ⟨g, cs, hg, hcs, z7, z12, hlook⟩ := ack_row hM hL; have hx := Lib.hid (heap_below (below_drew hb) X.out.1); have y0 := (XC.out _ hx.out).1; have y4 := (XC.out _ hx.out).2; have HG := Lib.hid (And.intro hg (And.intro hcs (And.intro h7 (And.intro h12 (And.intro n0 n1))))); have HB := Lib.hid (btrans X.out.2.1 (below_drew hb)); clear hM hL hb h7 h12 n0 n1 hg hcs z7 z12))
  all_goals
    go_wp2_with (first | (refine wpList_load_row rfl 43 _ rfl w.heap.size rfl 43 _ (0, 0) _ hx.out Tryz.underlying43 rfl size43 ?_) | (refine wpList_store_row rfl 43 _ _ rfl w1.heap.size _ rfl rfl 43 _ (heap_alloc_new _ _) size43 rfl rfl ?_; rw [World.setRow_alloc_new]))
    have F2 := Lib.hid (box2 w1 (.cells #[.int .i64 2, .int .i64 0, .int .i64 0, .string ⟨#[]⟩, .bool false, .int .i64 0, .int .i64 0, .bool false, .int .i64 d, .slice (some ⟨g0, o0, none⟩) n c0, .int .i64 0, .int .i64 0, .string ⟨#[]⟩] 43) (.cells #[.int .u8 2] 5))
    generalize (w1.alloc _).alloc _ = W2 at F2 ⊢
    rw [conv1 _ _ F2.out.2.1]
    simp only [Result.andThen]
    rw [Oper.upon_value]
    have E2 := Lib.hid (Eb.mk F2.out.1 F2.out.2.2.1)
    have G1 := Lib.hid (show w1.heap[g]? = some (.cells (intP m ++ rngP) 118 (0, 0)) from by
      obtain ⟨q1, q2, q3, q4, _, _⟩ := HG.out
      rw [q2, q3, q4] at q1
      exact q1)
    have hz : (strOfNums [2]).size = 1 := by decide
    generalize strOfNums [2] = s0 at *
    clear F2 x0 x4 y0 y4 hlook XC
    go_wp2
    refine wp_loop_rounds 3 ?_
    rw [rounds_succ]
    have p0 := at_whole (E2.out.old G1.out) 0 rfl
    have p1 := at_whole (E2.out.old G1.out) 1 rfl
    have p2 := at_whole (E2.out.old G1.out) 2 rfl
    simp only [intP, rngP, fnv] at p0 p1 p2
    go_wp2_with fail
    have E3 := Lib.hid (E2.out.alloc (.cells (intP m) 118))
    have P3 := Lib.hid (heap_alloc_new W2 (.cells (intP m) 118))
    simp only [intP] at E3 P3
    generalize W2.alloc _ = W3 at E3 P3 ⊢
    refine (putDelay_any w.heap.size m d 4611686018427387903 _ h0 h1 h1 (at_whole (E3.out.old hx.out) 8 rfl) (at_whole (E3.out.old HG.out.2.2.2.2.2) 0 rfl) (at_whole (E3.out.old HG.out.2.2.2.2.1) 0 rfl)).mono ?_
    rintro e W4 ⟨s1, hs1, rfl, hb4⟩
    have E4 := Lib.hid (E3.out.below hb4)
    have r2 := at_whole (heap_below hb4 P3.out) 2 rfl
    have z1 : (9223372036854775807 < s0.size + s1.size) = False := eq_false (by omega)
    simp only [List.getElem_toArray, List.getElem_cons_zero, List.getElem_cons_succ] at r2
    clear E2 E3 hb4 p0 p1 p2 P3
    go_wp2_with fail
    refine (clearDelay_any w1.heap.size m _ _ E4.out.new rfl (at_whole (E4.out.old HG.out.2.2.2.2.2) 0 rfl)).mono ?_
    rintro e W5 ⟨rfl, rfl⟩
    have E5 := Lib.hid (E4.out.set 8 (.int .i64 0))
    simp only [List.setIfInBounds_toArray, List.set_cons_zero, List.set_cons_succ] at E5
    generalize W4.setCell _ _ = W5 at E5 ⊢
    have hz1 : (s0 ++ s1).size ≤ 281 := by rw [ByteArray.size_append]; omega
    generalize s0 ++ s1 = s2 at hz1 ⊢
    clear E4 r2 z1 hz hs1
    go_wp2
    rw [rounds_succ]
    have p3 := at_whole (E5.out.old G1.out) 3 rfl
    have p4 := at_whole (E5.out.old G1.out) 4 rfl
    have p5 := at_whole (E5.out.old G1.out) 5 rfl
    simp only [intP, rngP, fnv] at p3 p4 p5
    go_wp2_with fail
    have E6 := Lib.hid (E5.out.alloc (.cells rngP 118))
    have P6 := Lib.hid (heap_alloc_new W5 (.cells rngP 118))
    simp only [rngP, fnv] at E6 P6
    generalize W5.alloc _ = W6 at E6 P6 ⊢
    refine (putRanges_any w.heap.size n F T _ _ _ HR.out (HS.out.below (btrans HB.out E6.out.bel)) (E6.out.old hx.out) rfl).mono ?_
    rintro e W7 ⟨s3, hs3, rfl, hb7⟩
    have E7 := Lib.hid (E6.out.below hb7)
    have r8 := at_whole (heap_below hb7 P6.out) 2 rfl
    have z2 : (9223372036854775807 < s2.size + s3.size) = False := eq_false (by omega)
    simp only [List.getElem_toArray, List.getElem_cons_zero, List.getElem_cons_succ] at r8
    clear E5 E6 hb7 p3 p4 p5 P6
    go_wp2_with fail
    refine (clearRanges_any w1.heap.size _ _ E7.out.new rfl).mono ?_
    rintro e W8 ⟨rfl, rfl⟩
    have E8 := Lib.hid (E7.out.set 9 (.slice none 0 0))
    simp only [List.setIfInBounds_toArray, List.set_cons_zero, List.set_cons_succ] at E8
    generalize W7.setCell _ _ = W8 at E8 ⊢
    clear E7 r8 z2
    go_wp2
    rw [rounds_succ]
    have x0 := at_whole (E8.out.old hx.out) 0 rfl
    simp only [List.getElem_toArray, List.getElem_cons_zero] at x0
    go_wp2_with (first | (refine wpList_load_row rfl 43 _ rfl w1.heap.size rfl 43 _ (0, 0) _ E8.out.new Tryz.underlying43 rfl size43 ?_) | (go_at_call 63; refine (same_ack _).mono ?_; rintro e W9 ⟨rfl, hb9⟩))
    go_ret
    exact ⟨_, rfl, HB.out.trans ((E8.out.below hb9).bel.mono HB.out.size)⟩
end Go.Proofs.YtpfkeohaaeiaaaaGreat
/- Law 13: Valid at an ACK frame. -/
namespace Go.Proofs.YtpfkeohaaeiaaaaGreat
open Go.RowKit
theorem catch_idle (w : World) :
    CallsD Tryz.prog 61 #[] .returning w fun e u' w' => e = .returned (.tuple #[]) ∧ u' = .returning ∧ w' = w := by
  refine callsD_of_wpS Tryz.func61 rfl fun c₀ cs hu => ?_
  apply wpS_seq
  apply wpS_region
  simp [wpOpsS, go_sem, recoverD, hu, Tryz.ntmps61, Exit.thenS]
  apply wpS_seq
  apply wpS_region
  simp [wpOpsS, go_sem, Exit.thenS]
  refine wpS_cond (t := false) (by simp [Act.eval, Array.replicate]) ?_
  simp only [Bool.false_eq_true, if_false]
  refine wpS_of_wp (wp_skip ?_)
  cases c₀
  simp_all [bodyPostS, results, Tryz.results61]
set_option maxRecDepth 100000 in
set_option maxHeartbeats 2000000 in
theorem vclos_any (b : Nat) (d : Int) (rv : Value) (n : Nat) (F T : Nat → Int) (w : World) (h0 : 0 ≤ d) (h1 : d ≤ 4611686018427387903) (hR : RgOk n F T) (hS : SpansAt w rv n F T) (hb : w.heap[b]? = some (.cells (ackE d rv) 43 (0, 0))) :
    Calls Tryz.prog 53 #[.pointer (some ⟨b, 0, none⟩)] w fun e w' => e = .returned (.tuple #[]) ∧ Below w.heap.size w w' := by
  have E := Lib.hid (encode_ack d rv n F T w h0 h1 hR hS)
  have HB := Lib.hid hb
  clear hR hS hb
  unfold ackE at *
  go_enter Tryz.func53, Tryz.ntmps53
  go_wp2_with (first | (refine wpList_load_row rfl 43 _ rfl b rfl 43 _ (0, 0) _ HB.out Tryz.underlying43 rfl size43 ?_) | (go_at_call 54; refine E.out.mono ?_; rintro e w' ⟨s, rfl, hb⟩))
  go_end0
  exact ⟨rfl, hb⟩
set_option maxRecDepth 100000 in
set_option maxHeartbeats 2000000 in
theorem guard_any (b : Nat) (w : World) (hc : Calls Tryz.prog 53 #[.pointer (some ⟨b, 0, none⟩)] w fun e w' => e = .returned (.tuple #[]) ∧ Below w.heap.size w w') :
    Calls Tryz.prog 52 #[.func (.func 53) #[] #[.pointer (some ⟨b, 0, none⟩)]] w fun e w' => e = .returned (.bool true) ∧ Below w.heap.size w w' := by
  have E := Lib.hid hc
  clear hc
  go_enter_defers Tryz.func52, Tryz.ntmps52
  go_wp2_with (go_at_call 53; refine E.out.mono ?_; rintro e w' ⟨rfl, hb⟩)
  refine leaves_cons (f := 61) (args := #[]) (by simp) (by simp [go_sem]) ?_
  refine (catch_idle _).mono ?_
  rintro e u' w'' ⟨rfl, rfl, rfl⟩
  exact ⟨_, results_tmp rfl _ _ _, rfl, hb⟩
set_option maxRecDepth 100000 in
set_option maxHeartbeats 2000000 in
theorem valid_ack (d : Int) (rv : Value) (n : Nat) (F T : Nat → Int) (w : World) (h0 : 0 ≤ d) (h1 : d ≤ 4611686018427387903) (hR : RgOk n F T) (hS : SpansAt w rv n F T) :
    Calls Tryz.prog 34 #[.agg (ackE d rv)] w fun e w' => e = .returned (.bool true) ∧ Below w.heap.size w w' := by
  have X := Lib.hid (box1 w (.cells (ackE d rv) 43))
  have E := Lib.hid (guard_any w.heap.size _ (vclos_any w.heap.size d rv n F T _ h0 h1 hR (hS.below X.out.2.1) X.out.1))
  have hmf : ∀ (fn : Fn) (first cap : Array Value) (w : World), (Instr.makeFunc fn first cap).run Tryz.prog w = .ok (.func fn first cap) w := fun _ _ _ _ => rfl
  clear hR hS
  unfold ackE at *
  go_enter Tryz.func34, Tryz.ntmps34
  go_wp2_with (go_at_call 52; refine E.out.mono ?_; rintro e w' ⟨rfl, hb⟩)
  go_ret
  exact ⟨rfl, btrans X.out.2.1 hb⟩
end Go.Proofs.YtpfkeohaaeiaaaaGreat
