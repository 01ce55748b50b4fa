import Derived.Test.YtmjekepiplibkaaRej
import Derived.Deep.MidRow
import Derived.Great.BuildSlice
import Derived.Deep.WholeRow
namespace Go.Proofs.Ytmjekepiplibkaa
open Go.RowKit
/-! frames in a row of the call's own -/
def frO (f : Fr) : Obj := .cells f.cells 35 (0, 0)
def fsCells : List Fr → List Value
  | [] => []
  | f :: l => f.cells.toList ++ fsCells l
theorem cells13 (f : Fr) : f.cells.toList.length = 13 := rfl
theorem fsCells_length (l : List Fr) : (fsCells l).length = l.length * 13 := by
  induction l with
  | nil => rfl
  | cons f l ih => simp only [fsCells, List.length_append, cells13, ih, List.length_cons]; omega
theorem fsCells_snoc (l : List Fr) (f : Fr) : fsCells (l ++ [f]) = fsCells l ++ f.cells.toList := by
  induction l with
  | nil => simp [fsCells]
  | cons g l ih => simp only [List.cons_append, fsCells, ih, List.append_assoc]
theorem fsCells_get : ∀ (l : List Fr) (k : Nat) (f : Fr), l[k]? = some f → ∀ j v, f.cells.toList[j]? = some v → (fsCells l)[k * 13 + j]? = some v := by
  intro l
  induction l with
  | nil => intro k f h; simp at h
  | cons g l ih =>
    intro k f h j v hv
    cases k with
    | zero =>
      simp at h; subst h
      simp only [fsCells, Nat.zero_mul, Nat.zero_add]
      rw [List.getElem?_append_left ((List.getElem?_eq_some_iff.1 hv).1)]
      exact hv
    | succ k =>
      simp at h
      simp only [fsCells]
      rw [List.getElem?_append_right (by rw [cells13]; omega), cells13, show (k + 1) * 13 + j - 13 = k * 13 + j by omega]
      exact ih k f h j v hv
/-- a buffer of the call's own, blocks beside it, and a row of frames beside them -/
structure Sf (W w : World) (b : Nat) (F : Nat → Prop) (X : Wh) (os : List (Nat × Obj)) (v : Value) (l : List Fr) : Prop where
  inv : Inv w b F X.buf
  ok : X.Ok
  own : ∀ k, F k → W.heap.size ≤ k ∧ k < w.heap.size
  below : Below W.heap.size W w
  far : ∀ p ∈ os, w.heap[p.1]? = some p.2 ∧ ¬ F p.1 ∧ W.heap.size ≤ p.1
  row : w.ownsRow W.heap.size 35 13 v l.length (fsCells l)
  apart : ∀ k, v.ownBlock = some k → ¬ F k ∧ ∀ p ∈ os, p.1 ≠ k
theorem own_base' {w : World} {base : Nat} {e : TypeId} {size : Nat} {v : Value} {n : Nat} {xs : List Value} (h : w.ownsRow base e size v n xs) : ∀ k, v.ownBlock = some k → base ≤ k ∧ k < w.heap.size := by
  intro k hk
  refine ⟨?_, own_lt' h k hk⟩
  rcases h.2 with ⟨rfl, _⟩ | ⟨g, cap, cur, rfl, hb, hg, _⟩
  · cases hk
  · have : g = k := by simpa [Value.ownBlock] using hk
    subst this; exact hb
where
  own_lt' {w : World} {base : Nat} {e : TypeId} {size : Nat} {v : Value} {n : Nat} {xs : List Value} (h : w.ownsRow base e size v n xs) : ∀ k, v.ownBlock = some k → k < w.heap.size := by
    intro k hk
    rcases h.2 with ⟨rfl, _⟩ | ⟨g, cap, cur, rfl, hb, hg, _⟩
    · cases hk
    · have : g = k := by simpa [Value.ownBlock] using hk
      subst this; exact heap_lt hg
theorem own_same' {w w' : World} {base : Nat} {e : TypeId} {size : Nat} {v : Value} {n : Nat} {xs : List Value} (h : w.ownsRow base e size v n xs) (hs : ∀ k, v.ownBlock = some k → w'.heap[k]? = w.heap[k]?) : w'.ownsRow base e size v n xs := own_same h hs
section
variable {W w w' : World} {b : Nat} {F : Nat → Prop} {X X' : Wh} {os : List (Nat × Obj)} {v : Value} {l : List Fr}
theorem Sf.step (h : Sf W w b F X os v l) (hc : Chg F w w') (hi : Inv w' b (Ext F w w') X'.buf) (ho : X'.Ok) : Sf W w' b (Ext F w w') X' os v l := by
  have hs := hc.size
  have hbs := h.below.size
  refine ⟨hi, ho, fun k hk => ?_, hc.toBelow h.below (fun k hk => (h.own k hk).1), fun p hp => ⟨hc.heap (h.far p hp).1 (h.far p hp).2.1, fun hk => ?_, (h.far p hp).2.2⟩, own_same' h.row (fun k hk => hc.block k (own_base' h.row k hk).2 (h.apart k hk).1), fun k hk => ⟨fun e => ?_, (h.apart k hk).2⟩⟩
  · rcases hk with hk | hk
    · have := h.own k hk; exact ⟨this.1, by omega⟩
    · exact ⟨by omega, hk.2⟩
  · rcases hk with hk | hk
    · exact (h.far p hp).2.1 hk
    · exact Nat.not_le.2 (heap_lt (h.far p hp).1) hk.1
  · rcases e with e | e
    · exact (h.apart k hk).1 e
    · exact Nat.not_le.2 (own_base' h.row k hk).2 e.1
theorem Sf.same (h : Sf W w b F X os v l) (hb : Below w.heap.size w w') : Sf W w' b F X os v l :=
  ⟨h.inv.below hb, h.ok, fun k hk => ⟨(h.own k hk).1, Nat.lt_of_lt_of_le (h.own k hk).2 hb.size⟩, h.below.trans (hb.mono h.below.size), fun p hp => ⟨heap_below hb (h.far p hp).1, (h.far p hp).2⟩, own_same' h.row (fun k hk => hb.block k (own_base' h.row k hk).2), h.apart⟩
theorem Sf.drewN (h : Sf W w b F X os v l) (n : Nat) : Sf W (w.drewN n) b F X os v l := h.same (belowN (Below.refl _ w) n)
theorem Sf.alloc (h : Sf W w b F X os v l) (o : Obj) : Sf W (w.alloc o) b F X ((w.heap.size, o) :: os) v l := by
  have h1 := h.same (show Below w.heap.size w (w.alloc o) from (Below.refl _ w).alloc (Nat.le_refl _) _)
  refine ⟨h1.inv, h1.ok, h1.own, h1.below, fun p hp => ?_, h1.row, fun k hk => ⟨(h.apart k hk).1, fun p hp => ?_⟩⟩
  · rcases List.mem_cons.1 hp with rfl | hp
    · exact ⟨heap_alloc_new w _, fun hk => Nat.lt_irrefl _ (h.own _ hk).2, h.below.size⟩
    · exact h1.far p hp
  · rcases List.mem_cons.1 hp with rfl | hp
    · exact fun e => Nat.lt_irrefl _ (e ▸ (own_base' h.row k hk).2)
    · exact (h.apart k hk).2 p hp
theorem Sf.frame (h : Sf W w b F X os v l) (f : Fr) : Sf W (w.alloc (.cells f.cells 35)) b F X ((w.heap.size, frO f) :: os) v l := h.alloc _
theorem Sf.sub (h : Sf W w b F X os v l) {os' : List (Nat × Obj)} (hs : ∀ p ∈ os', p ∈ os) : Sf W w b F X os' v l :=
  ⟨h.inv, h.ok, h.own, h.below, fun p hp => h.far p (hs p hp), h.row, fun k hk => ⟨(h.apart k hk).1, fun p hp => (h.apart k hk).2 p (hs p hp)⟩⟩
/-- a block beside the buffer turns -/
theorem Sf.turn {g : Nat} {o o' : Obj} (h : Sf W w b F X ((g, o) :: os) v l) (hg : w.grownBy w' (some g)) (ho : w'.heap[g]? = some o') (hne : ∀ p ∈ os, p.1 ≠ g) : Sf W w' b F X ((g, o') :: os) v l := by
  have hq := h.far (g, o) (List.mem_cons_self ..)
  have hc : Chg (fun k => k = g) w w' := Chg.grown hg rfl
  refine ⟨h.inv.chg hc (fun k hk e => hq.2.1 (e ▸ hk)), h.ok, fun k hk => ⟨(h.own k hk).1, Nat.lt_of_lt_of_le (h.own k hk).2 hg.size⟩, hc.toBelow h.below (fun k e => e ▸ hq.2.2), fun p hp => ?_, own_same' h.row (fun k hk => hc.block k (own_base' h.row k hk).2 (fun e => (h.apart k hk).2 _ (List.mem_cons_self ..) e.symm)), fun k hk => ⟨(h.apart k hk).1, fun p hp => ?_⟩⟩
  · rcases List.mem_cons.1 hp with rfl | hp
    · exact ⟨ho, hq.2⟩
    · exact ⟨hc.heap (h.far p (List.mem_cons_of_mem _ hp)).1 (hne p hp), (h.far p (List.mem_cons_of_mem _ hp)).2⟩
  · rcases List.mem_cons.1 hp with rfl | hp
    · exact (h.apart k hk).2 (g, o) (List.mem_cons_self ..)
    · exact (h.apart k hk).2 p (List.mem_cons_of_mem _ hp)
/-- a frame is appended to the row -/
theorem Sf.append {v' : Value} (h : Sf W w b F X os v l) (f : Fr) (ho : w'.ownsRow W.heap.size 35 13 v' (l.length + 1) (fsCells l ++ f.cells.toList)) (hg : w.grownBy w' v.ownBlock) (hk : ∀ k, v'.ownBlock = some k → v.ownBlock = some k ∨ w.heap.size ≤ k) : Sf W w' b F X os v' (l ++ [f]) := by
  have hc : Chg (fun k => v.ownBlock = some k) w w' := Chg.grownO hg (fun k e => e)
  refine ⟨h.inv.chg hc (fun k hk e => (h.apart k e).1 hk), h.ok, fun k hk => ⟨(h.own k hk).1, Nat.lt_of_lt_of_le (h.own k hk).2 hg.size⟩, hc.toBelow h.below (fun k e => (own_base' h.row k e).1), fun p hp => ⟨hc.heap (h.far p hp).1 (fun e => (h.apart _ e).2 p hp rfl), (h.far p hp).2⟩, ?_, fun k e => ?_⟩
  · rw [fsCells_snoc, List.length_append]; exact ho
  · rcases hk k e with e2 | e2
    · exact h.apart k e2
    · exact ⟨fun hf => Nat.not_le.2 (h.own k hf).2 e2, fun p hp e3 => Nat.not_le.2 (heap_lt (h.far p hp).1) (e3 ▸ e2)⟩
theorem Sf.elem (h : Sf W w b F X os v l) {k : Nat} {f : Fr} (hk : l[k]? = some f) : ∃ g cap, v = .slice (some ⟨g, 0, none⟩) l.length cap ∧ l.length ≤ cap ∧ w.rangeAt g (k * 13) f.cells.toList := by
  have hkl : k < l.length := (List.getElem?_eq_some_iff.1 hk).1
  rcases h.row.2 with ⟨rfl, e⟩ | ⟨g, cap, cur, rfl, hb, hg, hn, hc, hs, ht⟩
  · omega
  · refine ⟨g, cap, rfl, hn, fun j u hu => ?_⟩
    have := h.row.cells (g := g) rfl (k * 13 + j) u (fsCells_get l k f hk j u hu)
    rw [add_plain, Nat.zero_add] at this
    exact this
theorem Sf.form (h : Sf W w b F X os v l) : ∃ a cap, v = .slice a l.length cap ∧ l.length ≤ cap := own_form h.row
theorem Sf.fr {g : Nat} {f : Fr} (h : Sf W w b F X os v l) (hm : (g, frO f) ∈ os) : w.heap[g]? = some (.cells f.cells 35 (0, 0)) := (h.far _ hm).1
/-! the contracts -/
theorem sf_new (n : Int) (h1 : 1 ≤ n) (h2 : n ≤ 8192) (hb : Below W.heap.size W w) : Calls Try.prog 12 #[.int .i64 n] w fun e w' => e = .returned (.tuple #[.pointer (some ⟨w.heap.size, 0, none⟩), .int .i64 0]) ∧ Sf W w' w.heap.size (fun k => k = w.heap.size) (newX n) [] (.slice none 0 0) [] :=
  (new_ok n w h1 h2).mono (fun e w' hh => ⟨hh.1, by
    rw [hh.2]
    have := st_new n W w hb
    exact ⟨this.inv, newX_ok n h1 h2, this.own, this.below, (fun p hp => by cases hp), World.ownsRow_nil _ _ _ _, (fun k hk => by cases hk)⟩⟩)
theorem sf_write (h : Sf W w b F X os v l) (s : ByteArray) (hs : s.size ≤ maxLen) (hf : X.S.length + X.writeN s ≤ 1125899906842624) :
    Calls Try.prog 14 #[.pointer (some ⟨b, 0, none⟩), .string s] w fun e w' => e = .returned (.int .i64 (X.writeN s : Int)) ∧ ∃ F', Sf W w' b F' (X.write s) os v l := by
  have := write_any b F X.buf s w h.inv h.ok.good hs
  refine this.mono fun _ _ hh => ?_
  rw [Wh.writeN_buf h.ok, Wh.write_buf h.ok] at hh
  exact ⟨hh.1, _, h.step hh.2.1 hh.2.2 (h.ok.write s hf)⟩
theorem sf_next (h : Sf W w b F X os v l) (most credit : Int) :
    Calls Try.prog 16 #[.pointer (some ⟨b, 0, none⟩), .int .i64 most, .int .i64 credit] w fun e w' => e = .returned (.tuple #[(X.nextR (X.nextP most credit)).val, .bool (X.nextP most credit).isSome]) ∧ ∃ F', Sf W w' b F' (X.nextX (X.nextP most credit)) os v l := by
  have := next_any b F X.buf most credit w h.inv h.ok.good
  refine this.mono fun _ _ hh => ?_
  unfold NextPost nextE at hh
  rw [Wh.nextR_buf h.ok, Wh.nextX_buf h.ok, Wh.isSome_buf h.ok] at hh
  exact ⟨hh.1, _, h.step hh.2.1 hh.2.2 (h.ok.next most credit)⟩
theorem sf_lost (h : Sf W w b F X os v l) (f : Fr) :
    Calls Try.prog 17 #[.pointer (some ⟨b, 0, none⟩), f.val] w fun e w' => e = .returned (.int .i64 (X.err f)) ∧ ∃ F', Sf W w' b F' (X.lost f) os v l := by
  have := lost_any b F X.buf f w h.inv h.ok.good
  refine this.mono fun _ _ hh => ?_
  have h2 := hh.2.2
  have e3 := Wh.err_buf h.ok f
  have e4 := Wh.lost_buf h.ok f
  exact ⟨by rw [← e3]; exact hh.1, _, h.step hh.2.1 (by rw [← e4]; exact h2) (h.ok.lost f)⟩
theorem sf_acked (h : Sf W w b F X os v l) (f : Fr) :
    Calls Try.prog 18 #[.pointer (some ⟨b, 0, none⟩), f.val] w fun e w' => e = .returned (.int .i64 (X.err f)) ∧ ∃ F', Sf W w' b F' (X.acked f) os v l := by
  have := acked_any b F X.buf f w h.inv h.ok.good
  refine this.mono fun _ _ hh => ?_
  have e3 := Wh.err_buf h.ok f
  have e4 := Wh.acked_buf h.ok f
  exact ⟨by rw [← e3]; exact hh.1, _, h.step hh.2.1 (by rw [← e4]; exact hh.2.2) (h.ok.acked f)⟩
theorem sf_space (h : Sf W w b F X os v l) :
    Calls Try.prog 19 #[.pointer (some ⟨b, 0, none⟩)] w fun e w' => e = .returned (.int .i64 X.space) ∧ ∃ n, w' = w.drewN n := by
  have := space_any b F X.buf w h.inv h.ok.good
  rw [Wh.space_buf h.ok] at this; exact this
theorem sf_sent (h : Sf W w b F X os v l) :
    Calls Try.prog 21 #[.pointer (some ⟨b, 0, none⟩)] w fun e w' => e = .returned (.int .i64 X.sent) ∧ w = w' :=
  (sent_any b F X.buf w h.inv).mono fun _ _ hh => ⟨hh.1, hh.2.symm⟩
theorem sf_written (h : Sf W w b F X os v l) :
    Calls Try.prog 20 #[.pointer (some ⟨b, 0, none⟩)] w fun e w' => e = .returned (.int .i64 X.S.length) ∧ ∃ n, w' = w.drewN n := by
  have := written_any b F X.buf w h.inv h.ok.good
  have hw : writtenF X.buf = X.S.length := by have := X.u_le; have := h.ok.len; simp [writtenF, Wh.buf]; omega
  rw [hw] at this; exact this
theorem sf_done (h : Sf W w b F X os v l) :
    Calls Try.prog 13 #[.pointer (some ⟨b, 0, none⟩)] w fun e w' => e = .returned (.bool X.done) ∧ w = w' :=
  (done_any b F X.buf w h.inv).mono fun _ _ hh => ⟨by
    rw [hh.1]; have h1 := X.u_le; have h4 := h.ok.len
    have : doneF X.buf = X.done := by
      unfold doneF Wh.done
      simp only [Wh.buf, List.length_drop]
      congr 2
      apply decide_eq_decide.2; omega
    rw [this], hh.2.symm⟩
theorem sf_finish (h : Sf W w b F X os v l) :
    Calls Try.prog 15 #[.pointer (some ⟨b, 0, none⟩)] w fun e w' => e = .returned (.tuple #[]) ∧ ∃ F', Sf W w' b F' ({ X with fin := true } : Wh) os v l :=
  (finish_any b F X.buf w h.inv).mono fun _ _ hh => ⟨hh.1, _, h.step hh.2.1 (hh.2.2.1.ext (fun _k hk => .inl hk)) h.ok.finish⟩
end
theorem facts35 : ∃ i, Try.prog.info? 35 = some i ∧ i.zero = some fr0.val ∧ i.size = 13 ∧ i.bytes ≤ 1000 := ⟨_, rfl, rfl, rfl, by decide⟩
theorem size35l (f : Fr) : (Try.prog.info? 35).map (·.size) = some f.cells.toList.length := size35 f
theorem fill1 (f : Fr) : Instr.fill (fun i => some (i * 13, 13)) ((Array.range (1 * 13)).map (fr0.val.cells[· % fr0.val.cells.size]!)) [(0, Value.agg f.cells)] = some f.cells := by kernel_rfl
/-- '[]Frame{f}', as append makes it -/
theorem wpList_build_fr {ops : Array Oper} {rest : List Oper} {o : Oper} {a : Act} {w : World} {Q : Exit → Act → World → Prop} (hg : o.guard = none) (x : Operand) (ho : o.op = .buildSlice 42 1 #[(0, x)]) (f : Fr) (hx : a.eval x = .agg f.cells)
    (h : wpList Try.prog ops Q rest (a.put o.dst (.slice (some ⟨w.heap.size, 0, none⟩) 1 1)) (w.alloc (.cells f.cells 35))) : wpList Try.prog ops Q (o :: rest) a w := by
  obtain ⟨i, h1, h2, h3, h4⟩ := facts35
  refine wpList_buildSlice hg 42 35 1 _ ho f.cells i _ Try.underlying42 h1 h2 (by rw [h3]; decide) (by rw [h3]; decide) ?_ h
  rw [h3]
  simp only [List.map_toArray, List.map_cons, List.map_nil, hx]
  exact fill1 f
theorem wpList_append_fr {ops : Array Oper} {rest : List Oper} {o : Oper} {a : Act} {w : World} {Q : Exit → Act → World → Prop} (hgd : o.guard = none) (s x : Operand)
    (ho : o.op = .call { callee := .builtin .append, args := #[s, x], argTypes := #[42, 42] }) {W : World} {b : Nat} {F : Nat → Prop} {X : Wh} {os : List (Nat × Obj)} {v : Value} {l : List Fr} (h : Sf W w b F X os v l) (hs : a.eval s = v)
    (f : Fr) (h1 : f.cells.all (·.oneCell') = true) (g : Nat) (hx : a.eval x = .slice (some ⟨g, 0, none⟩) 1 1) (hg : w.heap[g]? = some (.cells f.cells 35 (0, 0))) (hl : l.length ≤ 2000)
    (hK : ∀ v' w', Sf W w' b F X os v' (l ++ [f]) → wpList Try.prog ops Q rest (a.put o.dst v') w') : wpList Try.prog ops Q (o :: rest) a w := by
  obtain ⟨i, e1, e2, e3, e4⟩ := facts35
  have hsrc : Src Try.prog 13 42 (.slice (some ⟨g, 0, none⟩) 1 1) 1 f.cells.toList w := Src.ofSlice w Try.underlying42 _ 1 1 _ rfl (fun j u hu => by rw [add_plain, Nat.zero_add, cell_whole hg]; simpa using hu) (fun u hu => (Array.all_eq_true_iff_forall_mem.1 h1) u (by simpa using hu))
  refine wpList_plain hgd fun _ hKK => ?_
  obtain ⟨v', w', hr, h2, h3, h4⟩ := run_append_src (P := Try.prog) w W.heap.size 42 42 o.type 35 i fr0.val 13 i.bytes Try.underlying42 e1 e2 e3 rfl rfl (by decide) v l.length (fsCells l) h.row _ 1 f.cells.toList hsrc (by unfold maxLen; omega) (by have := Nat.mul_le_mul (show l.length + 1 ≤ 2001 by omega) e4; omega) h.below.size
  unfold Oper.wp execOp
  simp only [ho, resolve, invoke, builtin, Sem.run_bind, Sem.run_pure, Result.andThen_ok, List.map_toArray, List.map_cons, List.map_nil, hs, hx, hr]
  exact hKK _ _ (hK v' w' (h.append f h2 h3 h4))
/-- a frame out of the row -/
theorem wpList_load_fr {ops : Array Oper} {rest : List Oper} {o : Oper} {a : Act} {w : World} {Q : Exit → Act → World → Prop} (hgd : o.guard = none) (x : Operand) (ho : o.op = .load 35 x) (f : Fr)
    (g k : Nat) (hx : a.eval x = .pointer (some ⟨g, k, none⟩)) (hc : w.rangeAt g k f.cells.toList)
    (h : wpList Try.prog ops Q rest (a.put o.dst (.agg f.cells)) w) : wpList Try.prog ops Q (o :: rest) a w :=
  wpList_load_mid hgd 35 x ho g k hx f.cells.toList _ hc Try.underlying35 rfl (size35l f) (by rw [Array.toArray_toList]; exact h)
/-- the same of a frame variable of the call's own -/
theorem wpList_load_own {ops : Array Oper} {rest : List Oper} {o : Oper} {a : Act} {w : World} {Q : Exit → Act → World → Prop} (hgd : o.guard = none) (x : Operand) (ho : o.op = .load 35 x) (f : Fr)
    (g : Nat) (hx : a.eval x = .pointer (some ⟨g, 0, none⟩)) (hg : w.heap[g]? = some (.cells f.cells 35 (0, 0)))
    (h : wpList Try.prog ops Q rest (a.put o.dst (.agg f.cells)) w) : wpList Try.prog ops Q (o :: rest) a w :=
  wpList_load_row hgd 35 x ho g hx 35 f.cells (0, 0) _ hg Try.underlying35 rfl (size35 f) h
/-- 'f, _ := ..' of the call's own: the variable made and set -/
theorem wpList_store_new {ops : Array Oper} {rest : List Oper} {o : Oper} {a : Act} {w : World} {Q : Exit → Act → World → Prop} (hgd : o.guard = none) (x y : Operand) (ho : o.op = .store 35 x y) (f : Fr) (h1 : f.cells.all (·.oneCell') = true)
    (cs : Array Value) (hcs : cs.size = 13) (hx : a.eval x = .pointer (some ⟨w.heap.size, 0, none⟩)) (hy : a.eval y = .agg f.cells)
    (h : wpList Try.prog ops Q rest (a.put o.dst undef) (w.alloc (.cells f.cells 35))) : wpList Try.prog ops Q (o :: rest) a (w.alloc (.cells cs 35)) :=
  wpList_store_row hgd 35 x y ho w.heap.size f.cells hx hy 35 cs (heap_alloc_new _ _) (size35 f) hcs h1 (by rw [World.setRow_alloc_new]; exact h)
end Go.Proofs.Ytmjekepiplibkaa
