import Derived.Test.YtmjekepiplibkaaY
namespace Go.Proofs.Ytmjekepiplibkaa
open Go.RowKit
theorem St.other {W w w' : World} {b g : Nat} {F : Nat → Prop} {B : Bf} {fs : List (Nat × Fr)} (h : St W w b F B fs) (hg : w.grownBy w' (some g)) (hn : ¬ F g) (hW : W.heap.size ≤ g) (hf : ∀ p ∈ fs, p.1 ≠ g) : St W w' b F B fs := by
  have hc : Chg (fun k => k = g) w w' := Chg.grown hg rfl
  exact ⟨h.inv.chg hc (fun k hk e => hn (e ▸ hk)), fun k hk => ⟨(h.own k hk).1, Nat.lt_of_lt_of_le (h.own k hk).2 hg.size⟩, hc.toBelow h.below (fun k e => e ▸ hW), fun p hp => ⟨hc.heap (h.far p hp).1 (hf p hp), (h.far p hp).2⟩⟩
theorem St.add {W w : World} {b g : Nat} {F : Nat → Prop} {B : Bf} {fs : List (Nat × Fr)} (h : St W w b F B fs) (f : Fr) (hg : w.heap[g]? = some (.cells f.cells 35 (0, 0))) (hn : ¬ F g) : St W w b F B ((g, f) :: fs) :=
  ⟨h.inv, h.own, h.below, fun p hp => by rcases List.mem_cons.1 hp with rfl | hp; exact ⟨hg, hn⟩; exact h.far p hp⟩
/-- a frame variable of the call's own is changed in one cell -/
theorem St.setFr {W w : World} {b g : Nat} {F : Nat → Prop} {B : Bf} {fs : List (Nat × Fr)} {f f' : Fr} (h : St W w b F B ((g, f) :: fs)) (i : Nat) (v : Value) (e : f.cells.setIfInBounds i v = f'.cells) (hW : W.heap.size ≤ g) (hf : ∀ p ∈ fs, p.1 ≠ g) : St W (w.setCell ⟨g, i, none⟩ v) b F B ((g, f') :: fs) := by
  have h0 : St W w b F B fs := ⟨h.inv, h.own, h.below, fun p hp => h.far p (List.mem_cons_of_mem _ hp)⟩
  have hq := h.far (g, f) (List.mem_cons_self ..)
  exact (h0.other (grown_set (grown_refl _ _) v) hq.2 hW hf).add f' (by rw [heap_set v hq.1, e]) hq.2
def rejF (m : Nat) : Fr := mkFr 8 0 (strOfNums ((streamRow 80 80).take m)) false
section
variable {m : Nat}
theorem rej_next (h1 : 1 ≤ m) (h2 : m ≤ 50) : (flX 100 80 0).nextP m m = some (0, m) := by
  rw [fl_next (by omega) _ _ (by omega), if_pos ⟨by omega, by omega⟩]
  congr 2; omega
theorem rej_X (h2 : m ≤ 50) : (flX 100 80 0).nextX (some (0, m)) = flX 100 80 m := fl_frame (by omega) (by omega)
theorem rej_R : (flX 100 80 0).nextR (some (0, m)) = rejF m := by
  show (flX 100 80 0).frameR 0 m = _
  rw [fl_frameR, rejF]
  rw [List.drop_zero, List.take_of_length_le (l := streamRow 80 80) (by rw [streamRow_length]; decide)]
  rfl
theorem rej_size (h2 : m ≤ 50) : (rejF m).s.size = m := by simp [rejF, mkFr, strOfNums_size, streamRow_length]; omega
theorem rej_again (h2 : m ≤ 50) : (flX 100 80 m).nextP 10 0 = none := by rw [fl_next (by omega) _ _ (by omega), if_neg (by omega)]
theorem fits_head0 {X : Wh} {f : Fr} (h : X.head f = false) : X.fits f = false := by unfold Wh.fits; rw [h]; rfl
theorem rej_bad {f : Fr} (h2 : m ≤ 50) (h : f.ty ≠ 8 ∨ f.off < 0 ∨ (m : Int) - f.off < f.s.size ∨ f.fin = true) : (flX 100 80 m).fits f = false := by
  have hs : (flX 100 80 m).sent = m := fl_sent (by omega)
  by_cases h9 : f.fin = true
  · unfold Wh.fits Wh.tail
    rw [h9]; simp [flX]
  · apply fits_head0
    unfold Wh.head
    rw [hs]
    rcases h with h | h | h | h
    · simp [h]
    · have : ¬ (0 ≤ f.off) := by omega
      simp [this]
    · have : ¬ ((f.s.size : Int) ≤ m - f.off) := by omega
      simp [this]
    · exact absurd h h9
theorem rej_ok (h2 : m ≤ 50) : (flX 100 80 m).fits (rejF m) = true := by
  have hs : (flX 100 80 m).sent = m := fl_sent (by omega)
  have hz := rej_size h2
  unfold Wh.fits Wh.head Wh.tail
  rw [hs, hz]
  have hb : bytesOf (rejF m).s = (streamRow 80 80).take m := bytes_str _ (fun x hx => streamRow_byte 80 80 x (List.mem_of_mem_take hx))
  have ho : (rejF m).off = 0 := rfl
  have hf : (rejF m).fin = false := rfl
  have ht : (rejF m).ty = 8 := rfl
  rw [ho, hf, ht]
  simp only [decide_true, Bool.true_and, Int.le_refl, Bool.not_false, Bool.true_or, Bool.and_true, Bool.and_eq_true, decide_eq_true_eq, List.all_eq_true, List.mem_range]
  refine ⟨by omega, fun i hi => ?_⟩
  unfold Wh.okAt
  rw [hb, ho, gd_take _ _ _ hi]
  have : (0 + (i : Int)).toNat = i := by omega
  rw [this]
  have : gd (flX 100 80 m).S i = gd (streamRow 80 80) i := by simp only [flX]; exact gd_take _ _ _ (by omega)
  rw [this]; simp
theorem rej_space (h1 : 1 ≤ m) (h2 : m ≤ 50) : ((flX 100 80 m).acked (rejF m)).space = 20 + m := by
  have hs := fl_sent (lim := 100) (N := 80) (s := m) (by omega)
  unfold Wh.acked
  rw [rej_ok h2]
  simp only [if_true]
  have hT : (Wh.mark true (flX 100 80 m) (rejF m)).T.length = 80 := by simp only [Wh.mark, turnTo_length, flX]; rw [stT_length (by omega)]; rfl
  have hu : (Wh.mark true (flX 100 80 m) (rejF m)).u = m := by
    have hg : ∀ k, gd (Wh.mark true (flX 100 80 m) (rejF m)).T k = if k < m then 3 else 0 := fun k => by
      simp only [Wh.mark]
      rw [rej_size h2]
      rw [gd_turnTo _ _ _ _ _ (by simp only [flX]; rw [stT_length (by omega)]; show 0 + m ≤ _; omega)]
      simp only [flX, gd_stT]
      show (if 0 ≤ k ∧ k < 0 + m then _ else _) = _
      by_cases e : k < m
      · rw [if_pos e, if_pos (show 0 ≤ k ∧ k < 0 + m by omega), if_pos e]; rfl
      · rw [if_neg (show ¬ (0 ≤ k ∧ k < 0 + m) by omega), if_neg e, if_neg e]
    refine lead_is (by omega) (fun k hk => by rw [hg, if_pos hk]) (fun _ => by rw [hg, if_neg (Nat.lt_irrefl _)]; decide)
  unfold Wh.space
  rw [hu]
  have hS : (Wh.mark true (flX 100 80 m) (rejF m)).S.length = 80 := fl_S 100 80 m
  rw [hS]
  show (if false = true then (0 : Int) else (100 : Nat) - _) = _
  rw [if_neg (by decide)]; omega
end
end Go.Proofs.Ytmjekepiplibkaa
