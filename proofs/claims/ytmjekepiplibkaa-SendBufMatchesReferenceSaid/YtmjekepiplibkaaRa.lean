/- The reference's buffer: what lies in memory, and the contracts of Prefix, Sent, Space, Done. -/
import Derived.Test.YtmjekepiplibkaaSf
namespace Go.Proofs.Ytmjekepiplibkaa
open Go.RowKit
def rcells (X : Wh) (A : ByteArray) (vs : Value) : Array Value := #[.int .i64 X.lim, .string A, vs, .bool X.fin, .int .i64 X.ed]
structure Rr (w : World) (r : Nat) (G : Nat → Prop) (A : ByteArray) (X : Wh) (vs : Value) : Prop where
  obj : w.heap[r]? = some (.cells (rcells X A vs) 54 (0, 0))
  rs : w.ownsRow 0 3 1 vs X.T.length (X.T.map (.int .i64))
  gr : G r
  gs : ∀ k, vs.ownBlock = some k → G k ∧ k ≠ r
  sz : bytesOf A = X.S
structure RFacts (w : World) (r : Nat) (A : ByteArray) (X : Wh) (vs : Value) : Prop where
  c0 : w.cell? ⟨r, 0, none⟩ = some (.int .i64 X.lim)
  c1 : w.cell? ⟨r, 1, none⟩ = some (.string A)
  c2 : w.cell? ⟨r, 2, none⟩ = some vs
  c3 : w.cell? ⟨r, 3, none⟩ = some (.bool X.fin)
  c4 : w.cell? ⟨r, 4, none⟩ = some (.int .i64 X.ed)
  fr : ∀ j, w.frozen? ⟨r, j, none⟩ = false
section
variable {w w' : World} {r : Nat} {G H : Nat → Prop} {A : ByteArray} {X : Wh} {vs : Value}
theorem Rr.facts (h : Rr w r G A X vs) : RFacts w r A X vs :=
  ⟨cell_whole h.obj 0, cell_whole h.obj 1, cell_whole h.obj 2, cell_whole h.obj 3, cell_whole h.obj 4, frozen_whole h.obj⟩
theorem Rr.stay (h : Rr w r G A X vs) (hs : ∀ k, G k → k < w.heap.size → w'.heap[k]? = w.heap[k]?) : Rr w' r G A X vs :=
  ⟨(hs r h.gr (heap_lt h.obj)).trans h.obj, own_same h.rs (fun k hk => hs k (h.gs k hk).1 (own_lt h.rs k hk)), h.gr, h.gs, h.sz⟩
theorem Rr.below (h : Rr w r G A X vs) (hb : Below w.heap.size w w') : Rr w' r G A X vs := h.stay (fun k _ hk => hb.block k hk)
theorem Rr.chg (h : Rr w r G A X vs) (hc : Chg H w w') (hd : ∀ k, G k → ¬ H k) : Rr w' r G A X vs := h.stay (fun k hf hk => hc.block k hk (hd k hf))
theorem Rr.drewN (h : Rr w r G A X vs) (n : Nat) : Rr (w.drewN n) r G A X vs := h.stay (fun _ _ _ => rfl)
theorem Rr.drew (h : Rr w r G A X vs) : Rr w.drew r G A X vs := h.stay (fun _ _ _ => rfl)
theorem Rr.ext (h : Rr w r G A X vs) (hs : ∀ k, G k → H k) : Rr w r H A X vs := ⟨h.obj, h.rs, hs _ h.gr, fun k hk => ⟨hs _ (h.gs k hk).1, (h.gs k hk).2⟩, h.sz⟩
theorem Rr.size (h : Rr w r G A X vs) : A.size = X.S.length := by rw [← h.sz, bytesOf_length]
/-- a field of the block itself is set -/
theorem Rr.set {X' : Wh} {A' : ByteArray} (h : Rr w r G A X vs) (i : Nat) (v : Value) (e : (rcells X A vs).setIfInBounds i v = rcells X' A' vs) (ht : X'.T = X.T) (hs : bytesOf A' = X'.S) : Rr (w.setCell ⟨r, i, none⟩ v) r G A' X' vs :=
  ⟨by rw [heap_set v h.obj, e], by rw [ht]; exact own_same h.rs (fun k hk => heap_setCell_other w _ k v (h.gs k hk).2), h.gr, h.gs, hs⟩
end
/-- a reading contract's world -/
def RInv (w : World) (r : Nat) (G : Nat → Prop) (X : Wh) : Prop := ∃ A vs, Rr w r G A X vs
theorem RInv.below {w w' : World} {r : Nat} {G : Nat → Prop} {X : Wh} (h : RInv w r G X) (hb : Below w.heap.size w w') : RInv w' r G X := by obtain ⟨A, vs, h⟩ := h; exact ⟨A, vs, h.below hb⟩
theorem RInv.drewN {w : World} {r : Nat} {G : Nat → Prop} {X : Wh} (h : RInv w r G X) (n : Nat) : RInv (w.drewN n) r G X := by obtain ⟨A, vs, h⟩ := h; exact ⟨A, vs, h.drewN n⟩
set_option maxHeartbeats 1000000 in
theorem rprefix_any (r : Nat) (G : Nat → Prop) (X : Wh) (w : World) (h : RInv w r G X) (hx : X.Ok) :
    Calls Try.prog 43 #[.pointer (some ⟨r, 0, none⟩)] w fun e w' => e = .returned (.int .i64 X.u) ∧ w = w' := by
  obtain ⟨A, vs, h⟩ := h
  have hz := h.size
  have hlen := hx.len
  have hfew := hx.few
  have hul := X.u_le
  have HU := Lib.hid (fun (k : Nat) (hk : k < X.T.length) (h1 : k ≤ X.u) (h2 : gd X.T k ≠ 3) => (show X.u = k by
    rcases Nat.lt_or_ge k X.u with h3 | h3
    · exact absurd (X.below_u h3) h2
    · omega))
  have HV := Lib.hid (fun (k : Nat) (hk : k < X.T.length) (h1 : k ≤ X.u) (h2 : gd X.T k = 3) => (show k + 1 ≤ X.u by
    rcases Nat.lt_or_ge k X.u with h3 | h3
    · exact h3
    · have : k = X.u := by omega
      subst this
      exact absurd h2 (X.at_u hk)))
  have HF := Lib.hid (own_cells h.rs)
  obtain ⟨a, cap, rfl, hcap⟩ := own_form h.rs
  obtain ⟨c0, c1, c2, c3, c4, fr⟩ := h.facts
  clear c0 c3 c4 h hx
  have hA : A.size ≤ 1125899906842624 := by omega
  have hTA : X.T.length ≤ A.size := by omega
  have hAT : A.size ≤ X.T.length := by omega
  have HZ := Lib.hid hz
  clear hz hlen
  go_enter Try.func43, Try.ntmps43
  go_wp2
  go_loop [3] (fun i => ∃ k : Nat, k ≤ X.u ∧ i = .int .i64 k) (fun i => A.size - (intOf i).toNat)
  case atStart => exact ⟨0, Nat.zero_le _, rfl⟩
  case round =>
    obtain ⟨k, hk, rfl⟩ := hrel
    by_cases hlt : k < A.size
    · obtain ⟨g, cp, e, hc1, hc2, hcell, hfr⟩ := HF.out (by omega)
      simp only [Value.slice.injEq] at e
      obtain ⟨rfl, _, rfl⟩ := e
      have e1 := hcell k (by omega)
      unfold maxLen at hc2
      clear hcell hfr
      obtain ⟨s, hs⟩ : ∃ s, X.T[k]?.getD 0 = s := ⟨_, rfl⟩
      have HX := Lib.hid hs
      rw [hs] at e1
      clear hs
      have hkT : k < X.T.length := by omega
      by_cases h3 : s = 3
      · have hb : (s != 3) = false := by simp [h3]
        have H1 := HV.out k hkT hk (HX.out.trans h3)
        clear h3
        go_wp2
        go_round
        case rel => exact ⟨k + 1, H1, by go_num⟩
        case measure => simp [intOf]; omega
      · have hb : (s != 3) = true := by simp [h3]
        have H1 := Lib.hid (HU.out k hkT hk (fun e => h3 (HX.out.symm.trans e)))
        clear h3
        go_wp2
        go_ret
        exact ⟨by rw [H1.out]; try rfl, rfl⟩
    · have H1 : Hid (X.u = A.size) := Lib.hid (by omega)
      go_wp2
      go_ret
      exact ⟨by rw [H1.out]; try rfl, rfl⟩
set_option maxHeartbeats 1000000 in
theorem rsent_any (r : Nat) (G : Nat → Prop) (X : Wh) (w : World) (h : RInv w r G X) (hx : X.Ok) :
    Calls Try.prog 39 #[.pointer (some ⟨r, 0, none⟩)] w fun e w' => e = .returned (.int .i64 X.sent) ∧ w = w' := by
  obtain ⟨A, vs, h⟩ := h
  have hz := h.size
  have hlen := hx.len
  have hfew := hx.few
  have hul := X.sent_le
  have HU := Lib.hid (fun (k : Nat) (hk : k < X.T.length) (h1 : k ≤ X.sent) (h2 : gd X.T k = 0) => (show X.sent = k by
    rcases Nat.lt_or_ge k X.sent with h3 | h3
    · exact absurd h2 (X.below_sent h3)
    · omega))
  have HV := Lib.hid (fun (k : Nat) (hk : k < X.T.length) (h1 : k ≤ X.sent) (h2 : gd X.T k ≠ 0) => (show k + 1 ≤ X.sent by
    rcases Nat.lt_or_ge k X.sent with h3 | h3
    · exact h3
    · exact absurd (hx.mono k h3) h2))
  have HF := Lib.hid (own_cells h.rs)
  obtain ⟨a, cap, rfl, hcap⟩ := own_form h.rs
  obtain ⟨c0, c1, c2, c3, c4, fr⟩ := h.facts
  clear c0 c3 c4 h hx
  have hA : A.size ≤ 1125899906842624 := by omega
  have hTA : X.T.length ≤ A.size := by omega
  have hAT : A.size ≤ X.T.length := by omega
  have HZ := Lib.hid hz
  clear hz hlen
  go_enter Try.func39, Try.ntmps39
  go_wp2
  go_loop [3] (fun i => ∃ k : Nat, k ≤ X.sent ∧ i = .int .i64 k) (fun i => A.size - (intOf i).toNat)
  case atStart => exact ⟨0, Nat.zero_le _, rfl⟩
  case round =>
    obtain ⟨k, hk, rfl⟩ := hrel
    by_cases hlt : k < A.size
    · obtain ⟨g, cp, e, hc1, hc2, hcell, hfr⟩ := HF.out (by omega)
      simp only [Value.slice.injEq] at e
      obtain ⟨rfl, _, rfl⟩ := e
      have e1 := hcell k (by omega)
      unfold maxLen at hc2
      clear hcell hfr
      obtain ⟨s, hs⟩ : ∃ s, X.T[k]?.getD 0 = s := ⟨_, rfl⟩
      have HX := Lib.hid hs
      rw [hs] at e1
      clear hs
      have hkT : k < X.T.length := by omega
      by_cases h3 : s = 0
      · have hb : (s == 0) = true := by simp [h3]
        have H1 := Lib.hid (HU.out k hkT hk (HX.out.trans h3))
        clear h3
        go_wp2
        go_ret
        exact ⟨by rw [H1.out]; try rfl, rfl⟩
      · have hb : (s == 0) = false := by simp [h3]
        have H1 := HV.out k hkT hk (fun e => h3 (HX.out.symm.trans e))
        clear h3
        go_wp2
        go_round
        case rel => exact ⟨k + 1, H1, by go_num⟩
        case measure => simp [intOf]; omega
    · have H1 : Hid (X.sent = A.size) := Lib.hid (by omega)
      go_wp2
      go_ret
      exact ⟨by rw [H1.out]; try rfl, rfl⟩
theorem rspace_any (r : Nat) (G : Nat → Prop) (X : Wh) (w : World) (h : RInv w r G X) (hx : X.Ok) :
    Calls Try.prog 37 #[.pointer (some ⟨r, 0, none⟩)] w fun e w' => e = .returned (.int .i64 X.space) ∧ ∃ m, w' = w.drewN m := by
  have HI := Lib.hid h
  have HO := Lib.hid hx
  obtain ⟨A, vs, h⟩ := h
  have hz := h.size
  obtain ⟨c0, c1, c2, c3, c4, fr⟩ := h.facts
  have hul := X.u_le
  have hlen := hx.len
  have hfew := hx.few
  have hl1 := hx.l1
  have hl2 := hx.l2
  have hw1 : IntKind.i64.wrap ((A.size : Int) - (X.u : Int)) = (A.size : Int) - (X.u : Int) := IntWalk.i64_in _ (by omega)
  have hw2 : IntKind.i64.wrap (X.lim - ((A.size : Int) - (X.u : Int))) = X.lim - ((A.size : Int) - (X.u : Int)) := IntWalk.i64_in _ (by omega)
  have PF := Lib.hid (fun n => (rprefix_any r G X (w.drewN n) (HI.out.drewN n) HO.out).mono (fun e w' h => (⟨h.1, h.2.symm⟩ : e = _ ∧ w' = _)))
  cases hf : X.fin
  · have E := Lib.hid (show X.space = X.lim - ((A.size : Int) - X.u) from by unfold Wh.space; rw [hf, hz]; rfl)
    rw [hf] at c3
    clear hf hz hlen
    go_enter Try.func37, Try.ntmps37
    go_wp2
    go_quiet ((go_at_call 43; exact Calls.quiet_of_same (PF.out _)))
    go_wp2
    go_ret
    exact ⟨by rw [E.out]; try rfl, _, rfl⟩
  · have E := Lib.hid (show X.space = 0 from by unfold Wh.space; rw [hf]; rfl)
    rw [hf] at c3
    clear hf hz hlen
    go_enter Try.func37, Try.ntmps37
    go_wp2
    go_ret
    exact ⟨by rw [E.out]; try rfl, 0, rfl⟩
theorem rdone_any (r : Nat) (G : Nat → Prop) (X : Wh) (w : World) (h : RInv w r G X) (hx : X.Ok) :
    Calls Try.prog 41 #[.pointer (some ⟨r, 0, none⟩)] w fun e w' => e = .returned (.bool X.done) ∧ ∃ m, w' = w.drewN m := by
  have HI := Lib.hid h
  have HO := Lib.hid hx
  obtain ⟨A, vs, h⟩ := h
  have hz := h.size
  obtain ⟨c0, c1, c2, c3, c4, fr⟩ := h.facts
  have hul := X.u_le
  have hlen := hx.len
  have hfew := hx.few
  have PF := Lib.hid (fun n => (rprefix_any r G X (w.drewN n) (HI.out.drewN n) HO.out).mono (fun e w' h => (⟨h.1, h.2.symm⟩ : e = _ ∧ w' = _)))
  cases hf : X.fin
  · have E := Lib.hid (show X.done = false from by unfold Wh.done; rw [hf]; rfl)
    rw [hf] at c3
    clear hf hz hlen
    go_enter Try.func41, Try.ntmps41
    go_wp2
    go_quiet (fail)
    go_wp2
    go_ret
    exact ⟨by rw [E.out]; try rfl, _, rfl⟩
  · rw [hf] at c3
    by_cases he : X.ed = 3
    · have E := Lib.hid (show X.done = decide ((X.u : Int) = A.size) from by unfold Wh.done; rw [hf, he, hz]; simp; omega)
      rw [he] at c4
      clear hf hz hlen he
      go_enter Try.func41, Try.ntmps41
      go_wp2
      go_quiet ((go_at_call 43; exact Calls.quiet_of_same (PF.out _)))
      go_wp2
      go_ret
      exact ⟨by rw [E.out]; try rfl, _, rfl⟩
    · have E := Lib.hid (show X.done = false from by unfold Wh.done; rw [hf]; simp [he])
      have hb : (X.ed == 3) = false := by simp [he]
      clear hf hz hlen he
      go_enter Try.func41, Try.ntmps41
      go_wp2
      go_quiet (fail)
      go_wp2
      go_ret
      exact ⟨by rw [E.out]; try rfl, _, rfl⟩
end Go.Proofs.Ytmjekepiplibkaa
