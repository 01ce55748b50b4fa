/- Law 13: a Recovery as plain data; all, filter and remove. -/
import Derived.Test.YtafkndhnbnpahaaGreatX
import Derived.StillTailTactics
namespace Go.Proofs.YtafkndhnbnpahaaGreat
open Go.RowKit Go.Maps
/-- a Recovery: the outstanding packets, the next number, the largest acknowledged one -/
structure Rc where
  l : List Pk
  nx : Int
  lg : Int
structure Rc.Ok (R : Rc) : Prop where
  up : Up R.nx R.l
  n0 : 0 ≤ R.nx
  n1 : R.nx ≤ 10000
  g0 : -1 ≤ R.lg
  g1 : R.lg < R.nx
  len : (R.l.length : Int) ≤ R.nx
  tm : ∀ p ∈ R.l, 0 ≤ p.time ∧ p.time ≤ 1125899906842624
def RecAt (w : World) (b M : Nat) (R : Rc) : Prop := w.heap[b]? = some (.cells #[.map (some M), .int .i64 R.nx, .int .i64 R.lg] 75 (0, 0)) ∧ MapPk w M R.nx.toNat R.l
/-- only blocks b and M have turned -/
structure Tu (b M : Nat) (w w' : World) : Prop where
  os : w'.os = w.os
  tape : w'.tape = w.tape
  output : w'.output = w.output
  size : w.heap.size ≤ w'.heap.size
  block : ∀ k, k < w.heap.size → k ≠ b → k ≠ M → w'.heap[k]? = w.heap[k]?
theorem Tu.refl (b M : Nat) (w : World) : Tu b M w w := ⟨rfl, rfl, rfl, Nat.le_refl _, fun _ _ _ _ => rfl⟩
theorem Tu.trans {b M : Nat} {u v w : World} (h : Tu b M u v) (k : Tu b M v w) : Tu b M u w :=
  ⟨k.os.trans h.os, k.tape.trans h.tape, k.output.trans h.output, Nat.le_trans h.size k.size, fun i hi h1 h2 => (k.block i (Nat.lt_of_lt_of_le hi h.size) h1 h2).trans (h.block i hi h1 h2)⟩
theorem Tu.below {b M : Nat} {u v : World} (h : Below u.heap.size u v) : Tu b M u v := ⟨h.os, h.tape, h.output, h.size, fun i hi _ _ => h.block i hi⟩
theorem Tu.drewN {b M : Nat} {u v : World} (h : Tu b M u v) (n : Nat) : Tu b M u (v.drewN n) := ⟨h.os, h.tape, h.output, h.size, h.block⟩
theorem Tu.drew {b M : Nat} {u v : World} (h : Tu b M u v) : Tu b M u v.drew := ⟨h.os, h.tape, h.output, h.size, h.block⟩
theorem Tu.map {b M : Nat} {u v : World} (h : u.grownBy v (some M)) : Tu b M u v := ⟨h.os, h.tape, h.output, h.size, fun i hi _ h2 => h.block i hi (fun e => h2 (by cases e; rfl))⟩
theorem Tu.set {b M : Nat} (u : World) (i : Nat) (x : Value) : Tu b M u (u.setCell ⟨b, i, none⟩ x) := ⟨rfl, rfl, rfl, by simp, fun k _ h1 _ => heap_setCell_other u _ k x (fun e => h1 e)⟩
theorem Tu.to_below {b M B : Nat} {u v w : World} (h : Below B u v) (k : Tu b M v w) (hb : B ≤ b) (hM : B ≤ M) (hB : B ≤ v.heap.size) : Below B u w :=
  ⟨k.os.trans h.os, k.tape.trans h.tape, k.output.trans h.output, Nat.le_trans h.size k.size, fun i hi => (k.block i (by omega) (by omega) (by omega)).trans (h.block i hi)⟩
/-- v is a slice of the call's own that holds the packets -/
def PkRow (B : Nat) (w : World) (v : Value) (l : List Pk) : Prop := w.ownsRow B 32 5 v l.length (pcs l) ∧ (v = .slice none 0 0 ↔ l = [])
theorem PkRow.form {B : Nat} {w : World} {v : Value} {l : List Pk} (h : PkRow B w v l) : (v = .slice none 0 0 ∧ l = []) ∨ ∃ g cap cur, v = .slice (some ⟨g, 0, none⟩) l.length cap ∧ 0 < l.length ∧ l.length ≤ cap ∧ cap ≤ maxLen ∧ B ≤ g ∧ w.heap[g]? = some (.cells cur 32 (0, 0)) ∧
    ∀ k (hk : k < l.length), w.cell? ⟨g, k * 5, none⟩ = some (.int .i64 (l[k]'hk).pn) ∧ w.cell? ⟨g, k * 5 + 1, none⟩ = some (.int .i64 (l[k]'hk).time) ∧ w.cell? ⟨g, k * 5 + 2, none⟩ = some (.int .i64 (l[k]'hk).size) ∧ w.cell? ⟨g, k * 5 + 3, none⟩ = some (.bool (l[k]'hk).el) ∧ w.cell? ⟨g, k * 5 + 4, none⟩ = some (l[k]'hk).fv := by
  obtain ⟨h1, h2⟩ := h
  rcases h1.2 with ⟨rfl, hz⟩ | ⟨g, cap, cur, e, hbase, hg, r1, r2, r3, r4⟩
  · exact .inl ⟨rfl, h2.1 rfl⟩
  · subst e
    refine .inr ⟨g, cap, cur, rfl, ?_, r1, r2, hbase, hg, fun k hk => ?_⟩
    · rcases Nat.eq_zero_or_pos l.length with h0 | h0
      · have := h2.2 (List.eq_nil_of_length_eq_zero h0)
        cases this
      · exact h0
    · have hc : ∀ j u, j < 5 → (l[k]'hk).cells.toList[j]? = some u → w.cell? ⟨g, k * 5 + j, none⟩ = some u := fun j u hj hu => by
        have := h1.cells (g := g) rfl (k * 5 + j) u (by rw [pcs_at l k j hk hj]; exact hu)
        rwa [add_plain, Nat.zero_add] at this
      exact ⟨hc 0 _ (by decide) rfl, hc 1 _ (by decide) rfl, hc 2 _ (by decide) rfl, hc 3 _ (by decide) rfl, hc 4 _ (by decide) rfl⟩
theorem RecAt.not_row {w : World} {b M : Nat} {R : Rc} (h : RecAt w b M R) {g : Nat} {cur : Array Value} (hg : w.heap[g]? = some (.cells cur 32 (0, 0))) : g ≠ b ∧ g ≠ M := by
  refine ⟨fun e => ?_, fun e => ?_⟩
  · subst e; rw [h.1] at hg; cases hg
  · subst e
    obtain ⟨D, h1, _⟩ := h.2
    have := h1.no_cells hg
    cases this
theorem PkRow.turn {B b M : Nat} {w w' : World} {v : Value} {l : List Pk} {R : Rc} (h : PkRow B w v l) (hR : RecAt w b M R) (ht : Tu b M w w') : PkRow B w' v l := by
  refine ⟨⟨h.1.1, ?_⟩, h.2⟩
  rcases h.1.2 with h1 | ⟨g, cap, cur, rfl, hb, hgg, rest⟩
  · exact .inl h1
  · obtain ⟨n1, n2⟩ := hR.not_row hgg
    exact .inr ⟨g, cap, cur, rfl, hb, (ht.block g (heap_lt hgg) n1 n2).trans hgg, rest⟩
theorem PkRow.below {B : Nat} {w w' : World} {v : Value} {l : List Pk} (h : PkRow B w v l) (hb : Below w.heap.size w w') : PkRow B w' v l :=
  ⟨h.1.kept (grown_below (r := none) hb) (by cases hv : v.ownBlock <;> simp), h.2⟩
theorem PkRow.base {B B' : Nat} {w : World} {v : Value} {l : List Pk} (h : PkRow B w v l) (hb : B' ≤ B) : PkRow B' w v l := ⟨ownsRow_base_a h.1 hb, h.2⟩
theorem RecAt.ne {w : World} {b M : Nat} {R : Rc} (h : RecAt w b M R) : b ≠ M := fun e => by
  obtain ⟨D, h1, _⟩ := h.2
  subst e
  have := h1.no_cells h.1
  cases this
theorem RecAt.below {w w' : World} {b M : Nat} {R : Rc} (h : RecAt w b M R) (hb : Below w.heap.size w w') : RecAt w' b M R := ⟨heap_below hb h.1, h.2.of_block (hb.block M h.2.lt)⟩
theorem RecAt.grown {w w' : World} {b M : Nat} {R : Rc} {r : Option Nat} (h : RecAt w b M R) (hg : w.grownBy w' r) (h1 : some b ≠ r) (h2 : some M ≠ r) : RecAt w' b M R :=
  ⟨(hg.block b (heap_lt h.1) h1).trans h.1, h.2.of_block (hg.block M h.2.lt h2)⟩
set_option maxRecDepth 100000 in
set_option maxHeartbeats 2000000 in
theorem all_any (p : Option Addr) (w : World) : Calls Tryz.prog 45 #[.pointer p] w fun e w' => e = .returned (.func (.func 67) #[] #[.pointer (some ⟨w.heap.size, 0, none⟩)]) ∧ w' = w.alloc (.cells #[.pointer p] 24) := by
  have hmf : ∀ (fn : Fn) (first cap : Array Value) (w : World), (Instr.makeFunc fn first cap).run Tryz.prog w = .ok (.func fn first cap) w := fun _ _ _ _ => rfl
  go_enter Tryz.func45, Tryz.ntmps45
  go_wp2
  go_ret
  exact ⟨rfl, rfl⟩
/-- the condition f, as the closure k over lb, wherever nothing that lay in w has turned -/
def Wants (w : World) (k : Nat) (lb : Array Value) (f : Pk → Bool) (l : List Pk) : Prop :=
  ∀ p ∈ l, ∀ W, Below w.heap.size w W → Calls Tryz.prog k (#[p.val] ++ lb) W fun e W' => e = .returned (.bool (f p)) ∧ Below W.heap.size W W'
theorem Wants.below {w w' : World} {k : Nat} {lb : Array Value} {f : Pk → Bool} {l : List Pk} (h : Wants w k lb f l) (hb : Below w.heap.size w w') : Wants w' k lb f l := fun p hp W hW => h p hp W (btrans hb hW)
def SelPost (w : World) (l : List Pk) (e : Ending) (w' : World) : Prop := ∃ v, e = .returned v ∧ PkRow w.heap.size w' v l ∧ Below w.heap.size w w'
theorem sel_any {w : World} {b M : Nat} {R : Rc} (hR : RecAt w b M R) (ok : R.Ok) {k : Nat} {lb : Array Value} {f : Pk → Bool} (hw : Wants w k lb f R.l) (ek : ∀ args w, (callFunc k args).run Tryz.prog w = .ok (.enter k args) w) :
    Calls Tryz.prog 44 #[.func (.func 67) #[] #[.pointer (some ⟨w.heap.size, 0, none⟩)], .func (.func k) #[] lb] (w.alloc (.cells #[.pointer (some ⟨b, 0, none⟩)] 24)) (SelPost w (R.l.filter f)) := by
  obtain ⟨x1, x2, x3⟩ := box1 w (.cells #[.pointer (some ⟨b, 0, none⟩)] 24)
  have hR1 := hR.below x2
  have hl : R.l.length ≤ 1000000 := by have := ok.len; have := ok.n1; omega
  refine (filter_any R.l R.nx ok.up hl w.heap.size k lb f (w.alloc (.cells #[.pointer (some ⟨b, 0, none⟩)] 24))
    (all_stops 7 (by decide) w.heap.size b M R.nx.toNat _ R.l R.nx ok.up (by have := ok.n1; omega) hl _ (Nat.le_refl _) (by omega) (heap_lt hR1.1) hR1.2.lt (at_whole x1 0 rfl) (at_whole hR1.1 0 rfl) hR1.2)
    ek (hw.below x2)).mono ?_
  rintro e w' ⟨v, rfl, h1, h2, h3⟩
  exact ⟨v, rfl, PkRow.base ⟨h1, h2⟩ (by omega), btrans x2 h3⟩
theorem sel_nil {w : World} {k : Nat} {lb : Array Value} (f : Pk → Bool) (ek : ∀ args w, (callFunc k args).run Tryz.prog w = .ok (.enter k args) w) :
    Calls Tryz.prog 44 #[.func (.func 67) #[] #[.pointer (some ⟨w.heap.size, 0, none⟩)], .func (.func k) #[] lb] (w.alloc (.cells #[.pointer none] 24)) (SelPost w []) := by
  obtain ⟨x1, x2, x3⟩ := box1 w (.cells #[.pointer none] 24)
  refine (filter_any [] 0 ⟨by simp, by simp, by simp⟩ (by decide) w.heap.size k lb f (w.alloc (.cells #[.pointer none] 24))
    (all_nil_stops 7 (by decide) w.heap.size _ _ (by omega) (Nat.le_refl _) (at_whole x1 0 rfl))
    ek (fun p hp => by cases hp)).mono ?_
  rintro e w' ⟨v, rfl, h1, h2, h3⟩
  exact ⟨v, rfl, PkRow.base ⟨h1, h2⟩ (by omega), btrans x2 h3⟩
end Go.Proofs.YtafkndhnbnpahaaGreat
