/- Law 13: count beside a Recovery of the call's own; the counters and the packets left. -/
import Derived.Test.YtafkndhnbnpahaaGreatCn
namespace Go.Proofs.YtafkndhnbnpahaaGreat
open Go.RowKit Go.WideShapes Go.ChangeShapes
variable {w0 w w' : World} {b M : Nat} {R : Rc} {rows rows' : List Rw} {os : List (Nat × Obj)}
def No3 (os : List (Nat × Obj)) : Prop := ∀ x ∈ os, ∃ cs T, x.2 = .cells cs T (0, 0) ∧ T ≠ 3
/-- only the row of counters has turned -/
theorem Lw.other (h : Lw w0 w b M R rows os) {g : Nat} {cur : Array Value} (hg : w.heap[g]? = some (.cells cur 3 (0, 0))) (hgb : w0.heap.size ≤ g) (ht : Tu g g w w') (hs : ∀ x ∈ rows', x ∈ rows ∧ x.e ≠ 3) (ho : No3 os) :
    Lw w0 w' b M R rows' os := by
  have hbg : b ≠ g := fun e => by subst e; have := h.at_.1; rw [hg] at this; cases this
  have hMg : M ≠ g := fun e => by subst e; have := h.at_.noC hg; cases this
  refine ⟨Tu.to_below h.bel ht hgb hgb h.bel.size, ⟨(ht.block b (heap_lt h.at_.1) hbg hbg).trans h.at_.1, h.at_.2.of_block (ht.block M h.at_.2.lt hMg hMg)⟩, h.ok, h.nil, h.ownb, h.ownM, fun x hx => ?_, fun x hx => ?_⟩
  · obtain ⟨h1, h2⟩ := hs x hx
    obtain ⟨hr, h3⟩ := h.rows x h1
    refine ⟨⟨hr.1, ?_⟩, h3⟩
    rcases hr.2 with h4 | ⟨g1, cap, cur1, e1, hb, hgg, rest⟩
    · exact .inl h4
    · have hne : g1 ≠ g := fun e => by
        subst e
        rw [hgg] at hg
        simp only [Option.some.injEq, Obj.cells.injEq] at hg
        exact h2 hg.2.1
      exact .inr ⟨g1, cap, cur1, e1, hb, (ht.block g1 (heap_lt hgg) hne hne).trans hgg, rest⟩
  · obtain ⟨h1, h2, h3⟩ := h.os x hx
    obtain ⟨cs, T, h4, h5⟩ := ho x hx
    have hne : x.1 ≠ g := fun e => by
      rw [h4, e, hg] at h1
      cases h1
      exact h5 rfl
    exact ⟨(ht.block x.1 (heap_lt h1) hne hne).trans h1, h2, h3⟩
set_option maxRecDepth 100000 in
theorem count_nil (w : World) : Calls Tryz.prog 32 #[.slice none 0 0, .slice none 0 0] w fun e w' => e = .returned (.bool true) ∧ w = w' := by
  go_enter Tryz.func32, Tryz.ntmps32
  go_wp2
  refine wp_loop_rounds 1 ?_
  rw [rounds_succ]
  go_wp2
  go_ret
  exact ⟨rfl, rfl⟩
theorem lw_count {tv v : Value} {T : List Int} {l : List Pk} (h : Lw w0 w b M R rows os) (ht : inR tv T ∈ rows) (hv : pkR v l ∈ rows) (hn : Isnil v l) (hin : InT T l) (hf : Few T) (hl : l.length ≤ 10000)
    (hs : ∀ x ∈ rows', x ∈ rows ∧ x.e ≠ 3) (ho : No3 os) :
    Calls Tryz.prog 32 #[tv, v] w fun e w' => e = .returned (.bool true) ∧ Lw w0 w' b M R (inR tv (bump T l) :: rows') os := by
  have hr : w.ownsRow w0.heap.size 3 1 tv T.length (ints T) := (h.rows _ ht).1
  rcases hr.2 with ⟨rfl, h0⟩ | ⟨g, cap, cur, rfl, hb, hgg, _⟩
  · have hl0 : l = [] := by
      cases l with
      | nil => rfl
      | cons p l => have := hin p (by simp); omega
    subst hl0
    obtain rfl := hn.2 rfl
    refine (count_nil w).mono ?_
    rintro e w' ⟨rfl, rfl⟩
    have e1 : bump T [] = T := rfl
    rw [e1]
    exact ⟨rfl, (h.sub (fun x hx => (hs x hx).1) (fun x hx => hx)).addRow (inR _ T) hr (show (3 : Nat) ≠ 75 by decide)⟩
  · refine (count_any g cap w0.heap.size w0.heap.size T v l w hr (h.row hv hn) hin hf hl).mono ?_
    rintro e w' ⟨rfl, h1, h2⟩
    exact ⟨rfl, (h.other hgg hb h2 hs ho).addRow (inR _ _) h1 (show (3 : Nat) ≠ 75 by decide)⟩
theorem info3 : (Tryz.prog.info? 3).map (fun i => (i.zero, i.size, i.bytes)) = some (some (.int .i64 0), 1, 8) := by kernel_rfl
/-- one number put behind the counters -/
theorem wpList_append_in {ops : Array Oper} {rest : List Oper} {o : Oper} {a : Act} {Q : Exit → Act → World → Prop} (hgd : o.guard = none) (s x : Operand) (hop : o.op = .call { callee := .builtin .append, args := #[s, x], argTypes := #[53, 53] })
    {tv : Value} {T : List Int} (z : Int) (h : Lw w0 w b M R rows os) (ht : inR tv T ∈ rows) (hs : a.eval s = tv) (g0 : Nat) (hx : a.eval x = .slice (some ⟨g0, 0, none⟩) 1 1) (hg0 : w.heap[g0]? = some (.cells #[.int .i64 z] 3 (0, 0)))
    (hT : T.length ≤ 10000) (hr : ∀ x ∈ rows', x ∈ rows ∧ x.e ≠ 3) (ho : No3 os)
    (hk : ∀ a' cap w', Lw w0 w' b M R (inR (.slice a' (T.length + 1) cap) (T ++ [z]) :: rows') os → wpList Tryz.prog ops Q rest (a.put o.dst (.slice a' (T.length + 1) cap)) w') : wpList Tryz.prog ops Q (o :: rest) a w := by
  obtain ⟨i0, hi, hz0, hz1, hz2⟩ := info_parts info3
  have hown : w.ownsRow w0.heap.size 3 1 tv T.length (ints T) := (h.rows _ ht).1
  refine wpList_append_own w hgd s x 53 hop w0.heap.size 3 i0 (.int .i64 0) 1 8 Tryz.underlying53 hi hz0 hz1 hz2 rfl (by decide) tv T.length (ints T) hs hown ⟨g0, 0, none⟩ 1 1 [.int .i64 z] hx rfl (World.news_of_block hg0) (by simp [Value.oneCell']) (by unfold maxLen; omega) (by omega) h.bel.size ?_
  intro v' w' hown' hgrow _
  obtain ⟨g', cap', rfl⟩ := ownsRow_succ hown'
  have e1 : ints T ++ [Value.int .i64 z] = ints (T ++ [z]) := by simp [ints]
  rw [e1] at hown'
  have hnew : w'.ownsRow w0.heap.size 3 1 (.slice (some ⟨g', 0, none⟩) (T.length + 1) cap') (T ++ [z]).length (ints (T ++ [z])) := by rw [List.length_append]; exact hown'
  refine hk _ _ _ ?_
  rcases hown.2 with ⟨rfl, _⟩ | ⟨g, cap, cur, rfl, hb, hgg, _⟩
  · have hb : Below w.heap.size w w' := (Below.refl _ w).grown hgrow (Nat.le_refl _) (fun k e => by simp [Value.ownBlock] at e)
    exact ((h.below hb).sub (fun x hx => (hr x hx).1) (fun x hx => hx)).addRow (inR _ _) hnew (show (3 : Nat) ≠ 75 by decide)
  · exact (h.other hgg hb (Tu.map hgrow) hr ho).addRow (inR _ _) hnew (show (3 : Nat) ≠ 75 by decide)
/-- each packet that was sent is counted once, or is left -/
structure TimesOk (l : List Pk) (nx : Int) (T : List Int) : Prop where
  len : (T.length : Int) = nx
  ge : ∀ i : Nat, 0 ≤ T[i]?.getD 0
  one : ∀ i : Nat, i < T.length → T[i]?.getD 0 + cntP l i = 1
theorem TimesOk.nil : TimesOk [] 0 [] := ⟨rfl, by simp, by simp⟩
theorem TimesOk.few {l : List Pk} {nx : Int} {T : List Int} (h : TimesOk l nx T) (hn : nx ≤ 10000) : Few T := by
  refine ⟨by have := h.len; omega, fun i => ⟨h.ge i, ?_⟩⟩
  by_cases hi : i < T.length
  · have := h.one i hi
    have := cntP_nonneg l i
    omega
  · rw [List.getElem?_eq_none (by omega)]; simp
theorem TimesOk.filter {l : List Pk} {nx : Int} {T : List Int} (h : TimesOk l nx T) (f : Pk → Bool) (h0 : ∀ p ∈ l, 0 ≤ p.pn) : TimesOk (l.filter fun p => !f p) nx (bump T (l.filter f)) := by
  have hp : ∀ p ∈ l.filter f, 0 ≤ p.pn := fun p hp => h0 p (List.mem_filter.1 hp).1
  refine ⟨by rw [bump_len]; exact h.len, fun i => ?_, fun i hi => ?_⟩
  · by_cases hi : i < T.length
    · rw [bump_get _ _ _ hi hp]
      have := h.ge i
      have := cntP_nonneg (l.filter f) i
      omega
    · rw [List.getElem?_eq_none (by rw [bump_len]; omega)]; simp
  · rw [bump_len] at hi
    rw [bump_get _ _ _ hi hp]
    have := h.one i hi
    have := cntP_split f l i
    omega
theorem TimesOk.all {l : List Pk} {nx : Int} {T : List Int} (h : TimesOk l nx T) (h0 : ∀ p ∈ l, 0 ≤ p.pn) : TimesOk [] nx (bump T l) := by
  have := h.filter (fun _ => true) h0
  have e1 : l.filter (fun _ => true) = l := List.filter_eq_self.2 (fun _ _ => rfl)
  have e2 : l.filter (fun _ => !true) = [] := List.filter_eq_nil_iff.2 (fun _ _ => by simp)
  rw [e1, e2] at this
  exact this
theorem TimesOk.add {l : List Pk} {nx : Int} {T : List Int} (h : TimesOk l nx T) (p : Pk) (hp : p.pn = nx) (hb : ∀ q ∈ l, q.pn < nx) : TimesOk (l ++ [p]) (nx + 1) (T ++ [0]) := by
  have hl := h.len
  refine ⟨by simp; omega, fun i => ?_, fun i hi => ?_⟩
  · by_cases hi : i < T.length
    · rw [List.getElem?_append_left hi]; exact h.ge i
    · rw [List.getElem?_append_right (by omega)]
      by_cases h2 : i - T.length = 0
      · rw [h2]; simp
      · rw [List.getElem?_eq_none (by simp; omega)]; simp
  · rw [cntP_snoc]
    by_cases hi2 : i < T.length
    · rw [List.getElem?_append_left hi2, if_neg (by omega)]
      have := h.one i hi2
      omega
    · have hi3 : i = T.length := by simp at hi; omega
      subst hi3
      rw [List.getElem?_append_right (by omega), if_pos (by omega)]
      have : cntP l T.length = 0 := by
        unfold cntP
        rw [List.filter_eq_nil_iff.2 (fun q hq => by have := hb q hq; simp; omega)]
        rfl
      simp [this]
theorem TimesOk.inT {l k : List Pk} {nx : Int} {T : List Int} (h : TimesOk l nx T) (hb : ∀ q ∈ l, 0 ≤ q.pn ∧ q.pn < nx) (hk : ∀ q ∈ k, q ∈ l) : InT T k := fun q hq => by
  have := hb q (hk q hq)
  have := h.len
  omega
theorem TimesOk.done {nx : Int} {T : List Int} (h : TimesOk [] nx T) (i : Nat) (hi : i < T.length) : T[i]?.getD 0 = 1 := by
  have := h.one i hi
  rw [cntP_nil] at this
  omega
end Go.Proofs.YtafkndhnbnpahaaGreat
