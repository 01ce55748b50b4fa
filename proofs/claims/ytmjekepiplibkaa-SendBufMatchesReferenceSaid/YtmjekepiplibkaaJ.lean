import Derived.Test.YtmjekepiplibkaaI
namespace Go.Proofs.Ytmjekepiplibkaa
open Go.RowKit
theorem if_no {c : Prop} [Decidable c] {A B : Prop} (hc : ¬ c) (h : B) : if c then A else B := by rw [if_neg hc]; exact h
def headF (B : Bf) (f : Fr) : Bool := decide (f.ty = 8) && decide (0 ≤ f.off) && decide (f.off ≤ B.sent) && decide ((f.s.size : Int) ≤ B.sent - f.off)
def okAt (B : Bf) (f : Fr) (i : Nat) : Bool := decide (f.off + i - B.base < 0) || decide (B.data[(f.off + i - B.base).toNat]?.getD 0 = (bytesOf f.s)[i]?.getD 0)
theorem bytesOf_get (s : ByteArray) (k : Nat) (h : k < s.size) : (bytesOf s)[k]?.getD 0 = ((s[k]'h).toNat : Int) := by
  have h2 : k < s.data.toList.length := by simpa using h
  unfold bytesOf
  rw [List.getElem?_map, List.getElem?_eq_getElem h2]
  rfl
def tailF (B : Bf) (f : Fr) : Bool := !f.fin || (B.fin && decide (B.ed ≠ 0) && decide (f.off + f.s.size = writtenF B))
def fitsF (B : Bf) (f : Fr) : Bool := headF B f && (List.range f.s.size).all (okAt B f) && tailF B f
structure Boxed (w : World) (g : Nat) (f : Fr) : Prop where
  d0 : w.cell? ⟨g, 0, none⟩ = some (.int .i64 f.ty)
  d2 : w.cell? ⟨g, 2, none⟩ = some (.int .i64 f.off)
  d3 : w.cell? ⟨g, 3, none⟩ = some (.string f.s)
  d4 : w.cell? ⟨g, 4, none⟩ = some (.bool f.fin)
theorem Boxed.of {w : World} {g : Nat} {f : Fr} (h : w.heap[g]? = some (.cells f.cells 35 (0, 0))) : Boxed w g f :=
  ⟨cell_whole h 0, cell_whole h 2, cell_whole h 3, cell_whole h 4⟩
set_option maxHeartbeats 4000000 in
theorem fits_no (b : Nat) (F : Nat → Prop) (B : Bf) (f : Fr) (w : World) (h : Inv w b F B) (hg : Good B) (hh : headF B f = false) :
    Calls Try.prog 42 #[.pointer (some ⟨b, 0, none⟩), f.val] w fun e w' => e = .returned (.bool false) ∧ Below w.heap.size w w' := by
  have H0 : Below w.heap.size w (w.alloc (.cells f.cells 35)) := (Below.refl _ w).alloc (Nat.le_refl _) _
  obtain ⟨vd, vs, h⟩ := h
  have HB : Hid (Below w.heap.size w (w.alloc (.cells f.cells 35))) := Lib.hid H0
  obtain ⟨c0, c1, c2, c3, c4, c5, c6, fr⟩ := (h.below H0).facts
  obtain ⟨d0, d2, d3, d4⟩ := Boxed.of (heap_alloc_new w (.cells f.cells 35))
  obtain ⟨l1, l2, b0, b1, len, cp, s0, s1⟩ := hg
  clear c0 c1 c2 c3 c5 c6 fr d4
  have hcase : f.ty ≠ 8 ∨ f.ty = 8 ∧ f.off < 0 ∨ (f.ty = 8 ∧ 0 ≤ f.off ∧ B.sent < f.off) ∨ (f.ty = 8 ∧ 0 ≤ f.off ∧ f.off ≤ B.sent ∧ B.sent - f.off < (f.s.size : Int)) := by
    unfold headF at hh
    simp only [Bool.and_eq_false_iff, decide_eq_false_iff_not] at hh
    omega
  clear hh
  rcases hcase with h1 | ⟨h1, h2⟩ | ⟨h1, h2, h3⟩ | ⟨h1, h2, h3, h4⟩
  · have h1b : (f.ty != 8) = true := by simp [h1]
    clear h1 h s0 s1 l1 l2 b0 b1 len cp H0
    change Calls Try.prog 42 #[.pointer (some ⟨b, 0, none⟩), .agg f.cells] w _
    go_enter Try.func42, Try.ntmps42
    go_wp2
    change Code.wp _ _ _ _ (w.alloc (.cells f.cells 35))
    generalize w.alloc (.cells f.cells 35) = W1 at *
    refine wp_region_still_lit (by kernel_rfl) (by kernel_rfl) ?_
    repeat (with_reducible refine wpStill_step (fun K hK => ?_); go_simp; with_reducible refine hK _ ?_; clear hK K)
    with_reducible refine wpStill_nil ?_
    go_wp2
    go_ret
    exact ⟨rfl, HB.out.drew⟩
  · have h1b : (f.ty != 8) = false := by simp [h1]
    clear h1 h s0 s1 l1 l2 b0 b1 len cp H0
    change Calls Try.prog 42 #[.pointer (some ⟨b, 0, none⟩), .agg f.cells] w _
    go_enter Try.func42, Try.ntmps42
    go_wp2
    change Code.wp _ _ _ _ (w.alloc (.cells f.cells 35))
    generalize w.alloc (.cells f.cells 35) = W1 at *
    refine wp_region_still_lit (by kernel_rfl) (by kernel_rfl) ?_
    repeat (with_reducible refine wpStill_step (fun K hK => ?_); go_simp; with_reducible refine hK _ ?_; clear hK K)
    with_reducible refine wpStill_nil ?_
    go_wp2
    go_ret
    exact ⟨rfl, HB.out.drew⟩
  · have h1b : (f.ty != 8) = false := by simp [h1]
    have h2n : ¬ f.off < 0 := by omega
    clear h1 h2 h s0 s1 l1 l2 b0 b1 len cp H0
    change Calls Try.prog 42 #[.pointer (some ⟨b, 0, none⟩), .agg f.cells] w _
    go_enter Try.func42, Try.ntmps42
    go_wp2
    change Code.wp _ _ _ _ (w.alloc (.cells f.cells 35))
    generalize w.alloc (.cells f.cells 35) = W1 at *
    refine wp_region_still_lit (by kernel_rfl) (by kernel_rfl) ?_
    repeat (with_reducible refine wpStill_step (fun K hK => ?_); go_simp; with_reducible refine hK _ ?_; clear hK K)
    with_reducible refine wpStill_nil ?_
    go_wp2
    go_ret
    exact ⟨rfl, HB.out.drew⟩
  · have h1b : (f.ty != 8) = false := by simp [h1]
    have h2n : ¬ f.off < 0 := by omega
    have h3n : ¬ B.sent < f.off := by omega
    have hw : IntKind.i64.wrap (B.sent - f.off) = B.sent - f.off := IntWalk.i64_in _ (by omega)
    clear h1 h2 h3 h s0 s1 l1 l2 b0 b1 len cp H0
    change Calls Try.prog 42 #[.pointer (some ⟨b, 0, none⟩), .agg f.cells] w _
    go_enter Try.func42, Try.ntmps42
    go_wp2
    change Code.wp _ _ _ _ (w.alloc (.cells f.cells 35))
    generalize w.alloc (.cells f.cells 35) = W1 at *
    refine wp_region_still_lit (by kernel_rfl) (by kernel_rfl) ?_
    repeat (with_reducible refine wpStill_step (fun K hK => ?_); go_simp; with_reducible refine hK _ ?_; clear hK K)
    with_reducible refine wpStill_nil ?_
    go_wp2
    go_ret
    exact ⟨rfl, HB.out.drew⟩
end Go.Proofs.Ytmjekepiplibkaa
