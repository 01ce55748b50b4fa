import Derived.Test.YtmjekepiplibkaaSf
namespace Go.Proofs.Ytmjekepiplibkaa
open Go.RowKit
/-! plain laws for SendBufSpace -/
/-- n bytes of the stream, all sent, those in D acknowledged -/
structure SpX (n : Nat) (D : Nat → Bool) (X : Wh) : Prop where
  lim : X.lim = n
  S : X.S = (streamRow 100 100).take n
  fin : X.fin = false
  len : X.T.length = n
  st : ∀ j, j < n → gd X.T j = if D j then 3 else 1
def spO (n step i : Nat) : Nat := min (i * step) n
def spF (n step i : Nat) : Fr := mkFr 8 (spO n step i) (strOfNums ((((streamRow 100 100).take n).drop (spO n step i)).take (spO n step (i + 1) - spO n step i))) false
def spD (n step i j : Nat) : Bool := decide (spO n step i ≤ j) && decide (j < spO n step (i + 1))
section
variable {n step i : Nat}
theorem spO_le : spO n step i ≤ n := Nat.min_le_right _ _
theorem spO_mono : spO n step i ≤ spO n step (i + 1) := by unfold spO; rw [Nat.succ_mul]; omega
theorem spO_zero : spO n step 0 = 0 := by simp [spO]
theorem spF_size (hn : n ≤ 100) : (spF n step i).s.size = spO n step (i + 1) - spO n step i := by
  have := @spO_le n step (i + 1)
  simp [spF, mkFr, strOfNums_size, streamRow_length]; omega
theorem sp_S (hn : n ≤ 100) : ((streamRow 100 100).take n).length = n := by simp [streamRow_length]; omega
theorem spX_sent {D : Nat → Bool} {X : Wh} (h : SpX n D X) : X.sent = n := by
  have : first 0 X.T = X.T.length := first_none (fun k hk => by rw [h.st k (by rw [← h.len]; exact hk)]; split <;> decide)
  show first 0 X.T = n
  rw [this, h.len]
theorem spX_fits {D : Nat → Bool} {X : Wh} (h : SpX n D X) (hn : n ≤ 100) : X.fits (spF n step i) = true := by
  have hS := spX_sent h
  have hz := @spF_size n step i hn
  have o1 := @spO_le n step i; have o2 := @spO_le n step (i + 1); have o3 := @spO_mono n step i
  unfold Wh.fits Wh.head Wh.tail
  rw [hS, hz]
  have hb : bytesOf (spF n step i).s = (((streamRow 100 100).take n).drop (spO n step i)).take (spO n step (i + 1) - spO n step i) := bytes_str _ (fun x hx => streamRow_byte 100 100 x (List.mem_of_mem_take (List.mem_of_mem_drop (List.mem_of_mem_take hx))))
  have ho : (spF n step i).off = spO n step i := rfl
  have hf : (spF n step i).fin = false := rfl
  have ht : (spF n step i).ty = 8 := rfl
  rw [ho, hf, ht]
  simp only [decide_true, Bool.true_and, Bool.not_false, Bool.true_or, Bool.and_true, Bool.and_eq_true, decide_eq_true_eq, List.all_eq_true, List.mem_range]
  refine ⟨⟨⟨by omega, by omega⟩, by omega⟩, fun j hj => ?_⟩
  unfold Wh.okAt
  rw [hb, ho, gd_take _ _ _ hj, gd_drop, h.S]
  rw [show ((spO n step i : Int) + (j : Int)).toNat = spO n step i + j by omega]
  simp
theorem spX_acked {D : Nat → Bool} {X : Wh} (h : SpX n D X) (hn : n ≤ 100) : SpX n (fun j => D j || spD n step i j) (X.acked (spF n step i)) := by
  have hz := @spF_size n step i hn
  have o1 := @spO_le n step i; have o2 := @spO_le n step (i + 1); have o3 := @spO_mono n step i
  unfold Wh.acked
  rw [spX_fits h hn]
  simp only [if_true]
  refine ⟨h.lim, h.S, h.fin, by simp only [Wh.mark, turnTo_length]; exact h.len, fun j hj => ?_⟩
  simp only [Wh.mark]
  have ho : (spF n step i).off.toNat = spO n step i := by show (spO n step i : Int).toNat = _; omega
  rw [hz, ho, gd_turnTo _ _ _ _ _ (by rw [h.len]; omega), h.st j hj]
  unfold spD
  by_cases e : spO n step i ≤ j ∧ j < spO n step (i + 1)
  · rw [if_pos (show spO n step i ≤ j ∧ j < spO n step i + (spO n step (i + 1) - spO n step i) by omega)]
    rw [decide_eq_true e.1, decide_eq_true e.2]; simp [turn]
  · rw [if_neg (show ¬ (spO n step i ≤ j ∧ j < spO n step i + (spO n step (i + 1) - spO n step i)) by omega)]
    have : (decide (spO n step i ≤ j) && decide (j < spO n step (i + 1))) = false := by
      rw [Bool.eq_false_iff]; simpa using e
    rw [this, Bool.or_false]
theorem spX_err {D : Nat → Bool} {X : Wh} (h : SpX n D X) (hn : n ≤ 100) : X.err (spF n step i) = 0 := by unfold Wh.err; rw [spX_fits h hn]; rfl
theorem spX_u {D : Nat → Bool} {X : Wh} (h : SpX n D X) {m : Nat} (hm : m ≤ n) (h1 : ∀ j, j < m → D j = true) (h2 : m < n → D m = false) : X.u = m := by
  refine lead_is (by rw [h.len]; exact hm) (fun k hk => by rw [h.st k (by omega), h1 k hk]; rfl) (fun hk => ?_)
  rw [h.len] at hk
  rw [h.st m hk, h2 hk]; decide
theorem spX_space {D : Nat → Bool} {X : Wh} (h : SpX n D X) (hn : n ≤ 100) : X.space = X.u := by
  unfold Wh.space
  rw [h.fin, h.lim, h.S, sp_S hn]
  simp; omega
theorem spX_start (hn : n ≤ 100) : SpX n (fun _ => false) (flX n 100 n) := by
  have e : min 100 n = n := by omega
  refine ⟨rfl, by simp only [flX]; rw [e], rfl, by simp only [flX]; rw [e, stT_length (Nat.le_refl _)], fun j hj => ?_⟩
  simp only [flX]
  rw [e, gd_stT, if_pos hj]; rfl
end
section
variable {W w : World} {b : Nat} {F : Nat → Prop} {os : List (Nat × Obj)} {v : Value} {l : List Fr} {n step i : Nat}
theorem sp_next_eq (hn : n ≤ 100) (hi : spO n step i < n) (h1 : 1 ≤ step) (h2 : step ≤ 10) : (flX n 100 (spO n step i)).nextP step 100 = some (spO n step i, spO n step (i + 1)) := by
  have e : min 100 n = n := by omega
  rw [fl_next (by rw [e]; exact spO_le) _ _ (by omega), e, if_pos ⟨hi, by decide⟩]
  congr 2
  unfold spO at *
  rw [Nat.succ_mul]
  omega
theorem sp_nextY (h : Sf W w b F (flX n 100 (spO n step i)) os v l) (hn : n ≤ 100) (hi : spO n step i < n) (h1 : 1 ≤ step) (h2 : step ≤ 10) :
    Calls Try.prog 16 #[.pointer (some ⟨b, 0, none⟩), .int .i64 step, .int .i64 100] w fun e w' => ∃ V, Hid (V = .agg (spF n step i).cells) ∧ e = .returned (.tuple #[V, .bool true]) ∧ ∃ F', Sf W w' b F' (flX n 100 (spO n step (i + 1))) os v l :=
  (sf_next h step 100).mono (fun e w' hh => by
    have em : min 100 n = n := by omega
    rw [sp_next_eq hn hi h1 h2] at hh
    obtain ⟨he, F', hS⟩ := hh
    have e2 : (flX n 100 (spO n step i)).nextX (some (spO n step i, spO n step (i + 1))) = flX n 100 (spO n step (i + 1)) := fl_frame spO_mono (by rw [em]; exact spO_le)
    rw [e2] at hS
    refine ⟨_, Lib.hid ?_, he, F', hS⟩
    show Fr.val ((flX n 100 (spO n step i)).frameR (spO n step i) (spO n step (i + 1))) = _
    rw [fl_frameR, em]; rfl)
theorem sp_nextN (h : Sf W w b F (flX n 100 (spO n step i)) os v l) (hn : n ≤ 100) (hi : spO n step i = n) (h1 : 1 ≤ step) :
    Calls Try.prog 16 #[.pointer (some ⟨b, 0, none⟩), .int .i64 step, .int .i64 100] w fun e w' => ∃ V, Hid (V = .agg fr0.cells) ∧ e = .returned (.tuple #[V, .bool false]) ∧ ∃ F', Sf W w' b F' (flX n 100 n) os v l :=
  (sf_next h step 100).mono (fun e w' hh => by
    have em : min 100 n = n := by omega
    rw [hi, fl_next (by omega) _ _ (by omega), em, if_neg (by omega)] at hh
    obtain ⟨he, F', hS⟩ := hh
    exact ⟨_, Lib.hid rfl, he, F', hS⟩)
end
end Go.Proofs.Ytmjekepiplibkaa
