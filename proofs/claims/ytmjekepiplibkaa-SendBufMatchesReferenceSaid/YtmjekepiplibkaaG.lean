import Derived.Test.YtmjekepiplibkaaE3
namespace Go.Proofs.Ytmjekepiplibkaa
open Go.RowKit
theorem runGo_bound (most : Int) : ∀ (l : List Int) (i f t : Int), 0 ≤ f → f ≤ t → t ≤ i → 0 ≤ (runGo most l i f t).1 ∧ (runGo most l i f t).1 ≤ (runGo most l i f t).2 ∧ (runGo most l i f t).2 ≤ i + l.length := by
  intro l
  induction l with
  | nil => intro i f t h1 h2 h3; simp only [runGo]; exact ⟨h1, h2, by simp; omega⟩
  | cons s l ih =>
    intro i f t h1 h2 h3
    rw [runGo]
    simp only [List.length_cons, Int.natCast_add, Int.cast_ofNat_Int]
    split
    · exact ⟨h1, h2, by simp only []; omega⟩
    · split
      · have := ih (i + 1) i (i + 1) (by omega) (by omega) (by omega)
        exact ⟨this.1, this.2.1, by have := this.2.2; omega⟩
      · split
        · have := ih (i + 1) f (t + 1) (by omega) (by omega) (by omega)
          exact ⟨this.1, this.2.1, by have := this.2.2; omega⟩
        · have := ih (i + 1) f t (by omega) (by omega) (by omega)
          exact ⟨this.1, this.2.1, by have := this.2.2; omega⟩
theorem runF_bound (B : Bf) (most : Int) : 0 ≤ (runF B most).1 ∧ (runF B most).1 ≤ (runF B most).2 ∧ (runF B most).2 ≤ B.st.length := by
  have := runGo_bound most B.st 0 0 0 (by omega) (by omega) (by omega)
  unfold runF
  exact ⟨this.1, this.2.1, by have := this.2.2; omega⟩
/-- the frame that Next takes, as indexes -/
def nextP (B : Bf) (most credit : Int) : Option (Nat × Nat) :=
  if most < 0 then none
  else if 0 < most ∧ (runF B most).1 < (runF B most).2 then some ((runF B most).1.toNat, (runF B most).2.toNat)
  else if 0 < writtenF B - B.sent ∧ 0 < most ∧ 0 < credit then some ((B.sent - B.base).toNat, (B.sent - B.base + min (writtenF B - B.sent) (min most credit)).toNat)
  else if writtenF B - B.sent = 0 ∧ openF B = true then some ((B.sent - B.base).toNat, (B.sent - B.base).toNat)
  else none
def nextB (B : Bf) : Option (Nat × Nat) → Bf
  | none => B
  | some p => frameB B p.1 p.2
def fr0 : Fr := mkFr 0 0 ⟨#[]⟩ false
def nextR (B : Bf) : Option (Nat × Nat) → Fr
  | none => fr0
  | some p => frameR B p.1 p.2
theorem Good.frame {B : Bf} (h : Good B) {f t : Nat} (ht : t ≤ B.data.length) : Good (frameB B f t) := by
  obtain ⟨l1, l2, b0, b1, len, cp, s0, s1⟩ := h
  refine ⟨l1, l2, b0, b1, ?_, cp, ?_, ?_⟩
  · simp only [frameB, setTo_length]; exact len
  · simp only [frameB, sentUp]; split <;> omega
  · simp only [frameB, sentUp]; split <;> omega
theorem nextP_bound {B : Bf} (hg : Good B) {most credit : Int} {p : Nat × Nat} (h : nextP B most credit = some p) : p.1 ≤ p.2 ∧ p.2 ≤ B.data.length := by
  obtain ⟨l1, l2, b0, b1, len, cp, s0, s1⟩ := hg
  have hr := runF_bound B most
  unfold nextP writtenF at h
  split at h
  · cases h
  · split at h
    · cases h; simp only []; omega
    · split at h
      · cases h; simp only []; omega
      · split at h
        · cases h; simp only []; omega
        · cases h
theorem Good.next {B : Bf} (hg : Good B) (most credit : Int) : Good (nextB B (nextP B most credit)) := by
  cases h : nextP B most credit with
  | none => exact hg
  | some p => exact hg.frame (nextP_bound hg h).2
def Own (w : World) (F : Nat → Prop) (k : Nat) : Prop := F k ∧ k < w.heap.size
theorem Inv.own {w : World} {b : Nat} {F : Nat → Prop} {B : Bf} (h : Inv w b F B) : Inv w b (Own w F) B := by
  obtain ⟨vd, vs, h⟩ := h
  exact ⟨vd, vs, h.obj, h.rd, h.rs, ⟨h.fb, heap_lt h.obj⟩, fun k hk => ⟨⟨(h.fd k hk).1, own_lt h.rd k hk⟩, (h.fd k hk).2⟩, fun k hk => ⟨⟨(h.fs k hk).1, own_lt h.rs k hk⟩, (h.fs k hk).2⟩⟩
/-- the result's own cell: made first, set last -/
theorem next_glue {w w1 w2 : World} {b : Nat} {F : Nat → Prop} {B : Bf} (h0 : Below w.heap.size w w1) (hz : w1.heap.size = w.heap.size + 1) (hC : Chg (Own w F) w1 w2) (hI : Inv w2 b (Ext (Own w F) w1 w2) B) (cs : Array Value) :
    Chg F w (w2.setRow w.heap.size cs) ∧ Inv (w2.setRow w.heap.size cs) b (Ext F w (w2.setRow w.heap.size cs)) B := by
  have hs := hC.size
  refine ⟨?_, ?_⟩
  · refine Chg.setRow ⟨hC.os.trans h0.os, hC.tape.trans h0.tape, hC.output.trans h0.output, by omega, fun k hk hf => ?_⟩ _ _ (Nat.le_refl _)
    exact (hC.block k (by omega) (fun e => hf e.1)).trans (h0.block k hk)
  · obtain ⟨vd, vs, hI⟩ := hI
    have hne : ∀ k, Ext (Own w F) w1 w2 k → k ≠ w.heap.size := fun k hk e => by rcases hk with hk | hk; exact Nat.lt_irrefl _ (e ▸ hk.2); omega
    refine ⟨vd, vs, (hI.far (fun k hk => setRow_other _ _ k _ (hne k ?_))).ext (fun k hk => ?_)⟩
    · rcases hk with rfl | hk | hk
      · exact hI.fb
      · exact (hI.fd k hk).1
      · exact (hI.fs k hk).1
    · rcases hk with hk | hk
      · exact .inl hk.1
      · exact .inr ⟨by omega, by simpa using hk.2⟩
theorem results_cell_tmp {P : Program} {fn : Func} {p q : Tmp} {ty : TypeId} (h : fn.results = #[.cell p ty, .tmp q]) (tmps : Array Value) (w : World) (g : Nat) (t : TypeId) (cs : Array Value) (fr : Nat × Nat) (d : TypeDesc)
    (hp : tmps.getD p undef = .pointer (some ⟨g, 0, none⟩)) (hg : w.heap[g]? = some (.cells cs t fr))
    (hu : P.underlying ty = some d) (hd : (match d with | .struct _ | .array _ _ => true | _ => false) = true) (hi : (P.info? ty).map (·.size) = some cs.size) :
    (results fn tmps).run P w = .ok (.tuple #[.agg cs, tmps.getD q undef]) w := by
  have hp' : tmps[p]?.getD undef = .pointer (some ⟨g, 0, none⟩) := by simpa using hp
  simp [results, h, hp', asAddr, run_loadVar_row w g t ty cs fr d hg hu hd hi]
theorem Inv.ext {w : World} {b : Nat} {F G : Nat → Prop} {B : Bf} (h : Inv w b F B) (hs : ∀ k, F k → G k) : Inv w b G B := by obtain ⟨vd, vs, h⟩ := h; exact ⟨vd, vs, h.ext hs⟩
end Go.Proofs.Ytmjekepiplibkaa
