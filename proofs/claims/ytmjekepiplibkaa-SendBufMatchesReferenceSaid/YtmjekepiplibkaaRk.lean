/- The law's choose. -/
import Derived.Test.YtmjekepiplibkaaRj
namespace Go.Proofs.Ytmjekepiplibkaa
open Go.RowKit
def cpO' (c : Cp) : Obj := .cells c.cells.toArray 44 (0, 0)
/-- the call's box, the result's cell, and the frame that is chosen -/
structure Cq (w W : World) (g : Nat) (c : Cp) (f : Fr) : Prop where
  q0 : W.heap[w.heap.size]? = some (cpO' c)
  q1 : W.heap[w.heap.size + 1]? = some (.cells fr0.cells 35 (0, 0))
  q2 : W.heap[g]? = some (.cells f.cells 35 (0, 0))
  far : w.heap.size + 1 < g
  below : Below w.heap.size w W
section
variable {w W W' : World} {g : Nat} {c : Cp} {f f' : Fr}
theorem Cq.same (h : Cq w W g c f) (hb : Below W.heap.size W W') : Cq w W' g c f :=
  ⟨heap_below hb h.q0, heap_below hb h.q1, heap_below hb h.q2, h.far, h.below.trans (hb.mono h.below.size)⟩
theorem Cq.set (h : Cq w W g c f) (i : Nat) (v : Value) (e : f.cells.setIfInBounds i v = f'.cells) : Cq w (W.setCell ⟨g, i, none⟩ v) g c f' :=
  ⟨(heap_setCell_other _ _ _ _ (by show w.heap.size ≠ g; have := h.far; omega)).trans h.q0, (heap_setCell_other _ _ _ _ (by show w.heap.size + 1 ≠ g; have := h.far; omega)).trans h.q1, by rw [heap_set v h.q2, e], h.far, h.below.setCell (by have := h.far; show _ ≤ g; omega) _⟩
theorem Cq.row (h : Cq w W g c f) (f' : Fr) : Cq w (W.setRow g f'.cells) g c f' :=
  ⟨(setRow_other _ _ _ _ (by have := h.far; omega)).trans h.q0, (setRow_other _ _ _ _ (by have := h.far; omega)).trans h.q1, setRow_heap _ _ _ _ 35 _ h.q2, h.far, below_setRow h.below _ _ (by have := h.far; omega)⟩
end
structure CqBox (w : World) (g : Nat) (c : Cp) : Prop where
  d0 : w.cell? ⟨g, 0, none⟩ = some (.int .i64 c.kind)
  d1 : w.cell? ⟨g, 1, none⟩ = some (.int .i64 c.n)
  d2 : w.cell? ⟨g, 2, none⟩ = some (.int .i64 c.credit)
  d4 : w.cell? ⟨g, 4, none⟩ = some (.int .i64 c.which)
theorem CqBox.of {w : World} {g : Nat} {c : Cp} (h : w.heap[g]? = some (cpO' c)) : CqBox w g c := ⟨cell_whole h 0, cell_whole h 1, cell_whole h 2, cell_whole h 4⟩
/-- the frames sent so far, as a row -/
def Row13 (w : World) (v : Value) (l : List Fr) : Prop := ∃ a cap, v = .slice a l.length cap ∧ l.length ≤ cap ∧ cap ≤ 9223372036854775807 ∧ ∀ k f, l[k]? = some f → ∃ g, a = some ⟨g, 0, none⟩ ∧ w.rangeAt g (k * 13) f.cells.toList
theorem Row13.below {w W : World} {v : Value} {l : List Fr} (h : Row13 w v l) (hb : Below w.heap.size w W) : Row13 W v l := by
  obtain ⟨a, cap, e, h1, h2, h3⟩ := h
  refine ⟨a, cap, e, h1, h2, fun k f hk => ?_⟩
  obtain ⟨g, hg, hr⟩ := h3 k f hk
  exact ⟨g, hg, fun j u hu => (hb.cell (p := ⟨g, k * 13 + j, none⟩) (World.block_lt_of_cell? _ _ (hr j u hu))).trans (hr j u hu)⟩
theorem cp_range {w : World} {g : Nat} {c : Cp} (h : w.heap[g]? = some (cpO' c)) : w.rangeAt g 5 c.f.cells.toList := by
  intro j u hu
  rw [cell_whole h]
  have : c.cells.toArray[5 + j]? = c.f.cells.toList[j]? := by
    simp only [Cp.cells, List.getElem?_toArray]
    rw [List.getElem?_append_right (by simp)]
    congr 1
    simp
  rw [this]; exact hu
theorem FrIn.cut {f : Fr} (h : FrWf f) (one : f.cells.all (·.oneCell') = true) (m : Nat) (hm : m ≤ 60) : FrIn { f with s := f.s.extract 0 m } :=
  ⟨h.off, by show (f.s.extract 0 m).size ≤ 2000; rw [ByteArray.size_extract]; omega, one_of one rfl⟩
theorem one_wf {f : Fr} (h : FrWf f) : f.cells.all (·.oneCell') = true := by
  have := h.ranges
  simp [Fr.cells, Value.oneCell']
  exact this
set_option maxRecDepth 100000 in
set_option maxHeartbeats 16000000 in
theorem choose_any (c : Cp) (l : List Fr) (v : Value) (w : World) (hc : CpWf c) (hrow : Row13 w v l) (hl : ∀ f ∈ l, FrIn f) (hl9 : l.length ≤ 2000) :
    Calls Try.prog 23 #[.agg c.cells.toArray, v] w (ChgPost w) := by
  have HB : Below w.heap.size w ((w.alloc (.cells c.cells.toArray 44)).alloc (.cells fr0.cells 35)) := ((Below.refl _ w).alloc (Nat.le_refl _) _).alloc (by simp) _
  have HQ0 : Hid (((w.alloc (.cells c.cells.toArray 44)).alloc (.cells fr0.cells 35)).heap[w.heap.size]? = some (cpO' c)) := Lib.hid ((Below.heap_alloc _ _ _ (by simp)).trans (heap_alloc_new w _))
  have HQ1 : Hid (((w.alloc (.cells c.cells.toArray 44)).alloc (.cells fr0.cells 35)).heap[w.heap.size + 1]? = some (.cells fr0.cells 35 (0, 0))) := Lib.hid (by have := heap_alloc_new (w.alloc (.cells c.cells.toArray 44)) (.cells fr0.cells 35); simpa using this)
  have HZ : Hid (((w.alloc (.cells c.cells.toArray 44)).alloc (.cells fr0.cells 35)).heap.size = w.heap.size + 2) := Lib.hid (by simp)
  have HROW := Lib.hid hrow
  have HBL := Lib.hid HB
  obtain ⟨k1, k2, k3, k4, k5, k6⟩ := hc
  have PK := Lib.hid (fun (wx : World) => pick_any c.kind 10 wx k1.lo k1.hi (by decide) (by decide))
  have rk := pickF_range c.kind 10 (by decide)
  have W6 := Lib.hid k6
  have hfs := k6.s
  unfold maxLen at hfs
  obtain ⟨mn, hmn, hmn1, hmn2⟩ : ∃ mn : Nat, (if (60 : Int) < (c.f.s.size : Int) then (60 : Int) else (c.f.s.size : Int)) = (mn : Int) ∧ mn ≤ 60 ∧ mn ≤ c.f.s.size := by
    by_cases e : (60 : Int) < (c.f.s.size : Int)
    · exact ⟨60, by rw [if_pos e]; rfl, by omega, by omega⟩
    · exact ⟨c.f.s.size, by rw [if_neg e], by omega, by omega⟩
  obtain ⟨fc, hfc⟩ : ∃ fc : Fr, fc = { c.f with s := c.f.s.extract 0 mn } := ⟨_, rfl⟩
  have HFC := Lib.hid hfc
  have INC : Hid (FrIn fc) := Lib.hid (by rw [hfc]; exact FrIn.cut k6 (one_wf k6) mn hmn1)
  have ONC := Lib.hid (one_wf k6)
  have CH := Lib.hid (fun (f : Fr) (wx : World) (h : FrIn f) => changed_any f c.n c.credit wx h k2 k3)
  have K5 := Lib.hid k5
  generalize pickF c.kind 10 = q at *
  obtain ⟨q1, q2⟩ := rk
  have HL := Lib.hid hl
  obtain ⟨a0, cap0, rfl, hcap0, hcap9, _⟩ := hrow
  clear HB hfc k1 k2 k3 k4 k5 k6 hl
  go_enter Try.func23, Try.ntmps23
  go_upto_region 1 with (fail)
  change Code.wp _ _ _ _ ((w.alloc (.cells c.cells.toArray 44)).alloc (.cells fr0.cells 35))
  generalize (w.alloc (.cells c.cells.toArray 44)).alloc (.cells fr0.cells 35) = W1 at *
  have T1 : Hid (1 = 1) := Lib.hid rfl
  have HB1 := Lib.hid ((Below.refl _ W1).alloc (Nat.le_refl _) (.cells c.f.cells 35))
  have CQ0 : Hid (Cq w (W1.alloc (.cells c.f.cells 35)) W1.heap.size c c.f) := Lib.hid ⟨heap_below HB1.out HQ0.out, heap_below HB1.out HQ1.out, heap_alloc_new W1 _, by rw [HZ.out]; omega, HBL.out.trans (HB1.out.mono HBL.out.size)⟩
  have CR : Hid (w.heap.size < W1.heap.size ∧ w.heap.size + 1 < W1.heap.size) := Lib.hid (by rw [HZ.out]; omega)
  clear HQ1 HBL HB1
  go_upto_region 3 with (first
    | (refine wpList_load_fr rfl _ rfl c.f w.heap.size 5 (by rfl) (cp_range HQ0.out) ?_)
    | (have T0 := T1.out; clear T0 T1; refine wpList_store_new rfl _ _ rfl c.f ONC.out _ (by rfl) (by rfl) (by rfl) ?_; have d3 := (Boxed.of CQ0.out.q2).d3; have fr := frozen_whole CQ0.out.q2; generalize W1.heap.size = g at *; generalize W1.alloc (.cells c.f.cells 35) = W2 at *))
  have CQ1 : Hid (Cq w (W2.setCell ⟨g, 3, none⟩ (.string (c.f.s.extract 0 mn))) g c fc) := Lib.hid (by rw [HFC.out]; exact CQ0.out.set 3 _ rfl)
  change Code.wp _ _ _ _ (W2.setCell ⟨g, 3, none⟩ (.string (c.f.s.extract 0 mn)))
  clear CQ0 d3 fr HFC hmn hmn1 hmn2 hfs
  generalize W2.setCell ⟨g, 3, none⟩ (.string (c.f.s.extract 0 mn)) = W3 at *
  obtain ⟨d0, d1, d2, d4⟩ := CqBox.of CQ1.out.q0
  have INS : Hid (fc.s.size ≤ 2000) := Lib.hid INC.out.s
  have ONF := Lib.hid INC.out.one
  have hgf := CR.out
  obtain ⟨hgf1, hgf2⟩ := hgf
  have T2 : Hid (1 = 1) := Lib.hid rfl
  have hcase : q = 9 ∨ (q < 8 ∧ l = []) ∨ (q = 8 ∧ l = []) ∨ (q < 8 ∧ 0 < l.length) ∨ (q = 8 ∧ 0 < l.length) := by
    have h0 : l = [] ∨ 0 < l.length := by cases l <;> simp
    rcases h0 with h0 | h0
    · have : q = 9 ∨ q < 8 ∨ q = 8 := by omega
      rcases this with h | h | h
      · exact .inl h
      · exact .inr (.inl ⟨h, h0⟩)
      · exact .inr (.inr (.inl ⟨h, h0⟩))
    · have : q = 9 ∨ q < 8 ∨ q = 8 := by omega
      rcases this with h | h | h
      · exact .inl h
      · exact .inr (.inr (.inr (.inl ⟨h, h0⟩)))
      · exact .inr (.inr (.inr (.inr ⟨h, h0⟩)))
  have hpart : (q = 9 ∨ (q < 8 ∧ l = [])) ∨ (q = 8 ∧ l = []) ∨ (q < 8 ∧ 0 < l.length) ∨ (q = 8 ∧ 0 < l.length) := by
    rcases hcase with h | h | h | h | h
    · exact .inl (.inl h)
    · exact .inl (.inr h)
    · exact .inr (.inl h)
    · exact .inr (.inr (.inl h))
    · exact .inr (.inr (.inr h))
  clear hcase
  rcases hpart with h | h | ⟨h, h0⟩ | ⟨h, h0⟩
  · rcases h with rfl | ⟨h, rfl⟩
    · go_wp2_with (first | (go_at_call 11; refine (PK.out _).mono ?_; rintro e wm ⟨rfl, rfl⟩) | (refine wpList_load_own rfl _ rfl fc g rfl CQ1.out.q2 ?_) | (refine wpList_store_row rfl 35 _ _ rfl (w.heap.size + 1) _ rfl rfl 35 _ CQ1.out.q1 (size35 _) rfl ONF.out ?_))
      exact bodyPost_ret (v := (fc).val) (results_cell_row rfl _ _ (w.heap.size + 1) 35 _ (0, 0) _ rfl (setRow_heap _ _ _ _ 35 _ CQ1.out.q1) Try.underlying35 rfl (size35 _)) rfl ⟨⟨fc, rfl, by have := INS.out; omega, ONF.out⟩, below_setRow CQ1.out.below _ _ (by omega)⟩
    · have hb : (q == 8) = false := by rw [beq_eq_false_iff_ne]; omega
      have h9 : q < 9 := by omega
      go_wp2_with (first | (go_at_call 11; refine (PK.out _).mono ?_; rintro e wm ⟨rfl, rfl⟩) | (refine wpList_load_own rfl _ rfl fc g rfl CQ1.out.q2 ?_) | (refine wpList_store_row rfl 35 _ _ rfl (w.heap.size + 1) _ rfl rfl 35 _ CQ1.out.q1 (size35 _) rfl ONF.out ?_))
      exact bodyPost_ret (v := (fc).val) (results_cell_row rfl _ _ (w.heap.size + 1) 35 _ (0, 0) _ rfl (setRow_heap _ _ _ _ 35 _ CQ1.out.q1) Try.underlying35 rfl (size35 _)) rfl ⟨⟨fc, rfl, by have := INS.out; omega, ONF.out⟩, below_setRow CQ1.out.below _ _ (by omega)⟩
  · obtain ⟨rfl, rfl⟩ := h
    go_wp2_with (first
      | (go_at_call 11; refine (PK.out _).mono ?_; rintro e wm ⟨rfl, rfl⟩)
      | (refine wpList_load_own rfl _ rfl fc g rfl CQ1.out.q2 ?_)
      | (go_at_call 36; refine (CH.out fc _ INC.out).mono ?_; rintro e wc ⟨⟨f', rfl, hs', ho'⟩, hb'⟩; have CQ2 := Lib.hid ((CQ1.out.same hb').row f'); have CQ2b := Lib.hid (CQ1.out.same hb'); have INS2 := Lib.hid hs'; have ONF2 := Lib.hid ho'; clear CQ1 d0 d1 d2 d4 hs' ho' hb')
      | (refine wpList_store_row rfl 35 _ _ rfl g _ rfl rfl 35 _ CQ2b.out.q2 (size35 _) rfl ONF2.out ?_; clear CQ2b; generalize wc.setRow g f'.cells = W4 at *)
      | (refine wpList_load_own rfl _ rfl f' g rfl CQ2.out.q2 ?_) | (refine wpList_store_row rfl 35 _ _ rfl (w.heap.size + 1) _ rfl rfl 35 _ CQ2.out.q1 (size35 _) rfl ONF2.out ?_))
    exact bodyPost_ret (v := (f').val) (results_cell_row rfl _ _ (w.heap.size + 1) 35 _ (0, 0) _ rfl (setRow_heap _ _ _ _ 35 _ CQ2.out.q1) Try.underlying35 rfl (size35 _)) rfl ⟨⟨f', rfl, by have := INS2.out; omega, ONF2.out⟩, below_setRow CQ2.out.below _ _ (by omega)⟩
  · have hb : (q == 8) = false := by rw [beq_eq_false_iff_ne]; omega
    have h9 : q < 9 := by omega
    have PW := Lib.hid (fun (wx : World) => pick_any c.which l.length wx K5.out.lo K5.out.hi (by omega) (by omega))
    have rw_ := pickF_range c.which l.length (by omega)
    generalize pickF c.which (l.length : Int) = pw at *
    obtain ⟨m, rfl⟩ : ∃ m : Nat, pw = m := ⟨pw.toNat, by omega⟩
    have hm : m < l.length := by omega
    obtain ⟨f, hf⟩ : ∃ f, l[m]? = some f := ⟨_, List.getElem?_eq_getElem hm⟩
    have INF := Lib.hid (HL.out f (List.mem_of_getElem? hf))
    obtain ⟨a9, cap9, e9, _, _, hx9⟩ := HROW.out.below CQ1.out.below
    obtain ⟨g9, hg9, hr9⟩ := hx9 m f hf
    simp only [Value.slice.injEq] at e9
    rw [← e9.1] at hg9
    have HR9 := Lib.hid hr9
    have CQ3 := Lib.hid (CQ1.out.row f)
    have INSF : Hid (f.s.size ≤ 2000) := Lib.hid INF.out.s
    have ONFF := Lib.hid INF.out.one
    clear hf e9 hx9 hr9 rw_ HROW
    subst hg9
    go_wp2_with (first
      | (go_at_call 11; have T0 := T2.out; clear T0; refine (PK.out _).mono ?_; rintro e wm ⟨rfl, rfl⟩; clear T2)
      | (go_at_call 11; refine (PW.out _).mono ?_; rintro e wm ⟨rfl, rfl⟩; clear PW; have T2 : Hid (1 = 1) := Lib.hid rfl)
      | (refine wpList_load_fr rfl _ rfl f g9 (m * 13) (by rfl) HR9.out ?_)
      | (refine wpList_store_row rfl 35 _ _ rfl g _ rfl rfl 35 _ CQ1.out.q2 (size35 _) rfl ONFF.out ?_; have e0 := (CqBox.of CQ3.out.q0).d0; clear CQ1 d0 d1 d2 d4; generalize W3.setRow g f.cells = W4 at *)
      | (refine wpList_load_own rfl _ rfl f g rfl CQ3.out.q2 ?_) | (refine wpList_store_row rfl 35 _ _ rfl (w.heap.size + 1) _ rfl rfl 35 _ CQ3.out.q1 (size35 _) rfl ONFF.out ?_))
    exact bodyPost_ret (v := (f).val) (results_cell_row rfl _ _ (w.heap.size + 1) 35 _ (0, 0) _ rfl (setRow_heap _ _ _ _ 35 _ CQ3.out.q1) Try.underlying35 rfl (size35 _)) rfl ⟨⟨f, rfl, by have := INSF.out; omega, ONFF.out⟩, below_setRow CQ3.out.below _ _ (by omega)⟩
  · subst h
    have PW := Lib.hid (fun (wx : World) => pick_any c.which l.length wx K5.out.lo K5.out.hi (by omega) (by omega))
    have rw_ := pickF_range c.which l.length (by omega)
    generalize pickF c.which (l.length : Int) = pw at *
    obtain ⟨m, rfl⟩ : ∃ m : Nat, pw = m := ⟨pw.toNat, by omega⟩
    have hm : m < l.length := by omega
    obtain ⟨f, hf⟩ : ∃ f, l[m]? = some f := ⟨_, List.getElem?_eq_getElem hm⟩
    have INF := Lib.hid (HL.out f (List.mem_of_getElem? hf))
    obtain ⟨a9, cap9, e9, _, _, hx9⟩ := HROW.out.below CQ1.out.below
    obtain ⟨g9, hg9, hr9⟩ := hx9 m f hf
    simp only [Value.slice.injEq] at e9
    rw [← e9.1] at hg9
    have HR9 := Lib.hid hr9
    have CQ3 := Lib.hid (CQ1.out.row f)
    have INSF : Hid (f.s.size ≤ 2000) := Lib.hid INF.out.s
    have ONFF := Lib.hid INF.out.one
    clear hf e9 hx9 hr9 rw_ HROW
    subst hg9
    go_wp2_with (first
      | (go_at_call 11; have T0 := T2.out; clear T0; refine (PK.out _).mono ?_; rintro e wm ⟨rfl, rfl⟩; clear T2)
      | (go_at_call 11; refine (PW.out _).mono ?_; rintro e wm ⟨rfl, rfl⟩; clear PW; have T2 : Hid (1 = 1) := Lib.hid rfl)
      | (refine wpList_load_fr rfl _ rfl f g9 (m * 13) (by rfl) HR9.out ?_)
      | (refine wpList_store_row rfl 35 _ _ rfl g _ rfl rfl 35 _ CQ1.out.q2 (size35 _) rfl ONFF.out ?_; obtain ⟨e0, e1, e2, e4⟩ := CqBox.of CQ3.out.q0; clear CQ1 d0 d1 d2 d4; generalize W3.setRow g f.cells = W4 at *)
      | (refine wpList_load_own rfl _ rfl f g rfl CQ3.out.q2 ?_)
      | (go_at_call 36; refine (CH.out f _ INF.out).mono ?_; rintro e wc ⟨⟨f', rfl, hs', ho'⟩, hb'⟩; have CQ2 := Lib.hid ((CQ3.out.same hb').row f'); have CQ2b := Lib.hid (CQ3.out.same hb'); have INS2 := Lib.hid hs'; have ONF2 := Lib.hid ho'; clear CQ3 e0 e1 e2 e4 hs' ho' hb')
      | (refine wpList_store_row rfl 35 _ _ rfl g _ rfl rfl 35 _ CQ2b.out.q2 (size35 _) rfl ONF2.out ?_; clear CQ2b; generalize wc.setRow g f'.cells = W5 at *)
      | (refine wpList_load_own rfl _ rfl f' g rfl CQ2.out.q2 ?_) | (refine wpList_store_row rfl 35 _ _ rfl (w.heap.size + 1) _ rfl rfl 35 _ CQ2.out.q1 (size35 _) rfl ONF2.out ?_))
    exact bodyPost_ret (v := (f').val) (results_cell_row rfl _ _ (w.heap.size + 1) 35 _ (0, 0) _ rfl (setRow_heap _ _ _ _ 35 _ CQ2.out.q1) Try.underlying35 rfl (size35 _)) rfl ⟨⟨f', rfl, by have := INS2.out; omega, ONF2.out⟩, below_setRow CQ2.out.below _ _ (by omega)⟩
end Go.Proofs.Ytmjekepiplibkaa
