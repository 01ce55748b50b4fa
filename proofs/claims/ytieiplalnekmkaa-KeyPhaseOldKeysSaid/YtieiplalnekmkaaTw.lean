/- Law 25: two Phases beside each other, and boxes of the call's own. -/
import Derived.Test.YtieiplalnekmkaaSf
namespace Go.Proofs.Ytieiplalnekmkaa
open Go.RowKit
structure Tw (w0 : World) (bp bq : Nat) (X Y : Ph) (os : List (Nat × Obj)) (w : World) : Prop where
  hp : w.heap[bp]? = some (.cells X.cells 66 (0, 0))
  hq : w.heap[bq]? = some (.cells Y.cells 66 (0, 0))
  ne : bp ≠ bq
  lp : w0.heap.size ≤ bp
  lq : w0.heap.size ≤ bq
  bel : Below w0.heap.size w0 w
  ho : ∀ x ∈ os, w.heap[x.1]? = some x.2 ∧ x.1 ≠ bp ∧ x.1 ≠ bq
variable {w0 w w' : World} {bp bq : Nat} {X Y X' : Ph} {os : List (Nat × Obj)}
theorem Tw.p (h : Tw w0 bp bq X Y os w) (hb : Blk bp X'.cells 66 w w') : Tw w0 bp bq X' Y os w' :=
  ⟨hb.1, heap_grown hb.2 h.hq (Ne.symm h.ne), h.ne, h.lp, h.lq, below_grown h.bel hb.2 h.lp, fun x hx => ⟨heap_grown hb.2 (h.ho x hx).1 (h.ho x hx).2.1, (h.ho x hx).2⟩⟩
theorem Tw.q (h : Tw w0 bp bq X Y os w) (hb : Blk bq X'.cells 66 w w') : Tw w0 bp bq X X' os w' :=
  ⟨heap_grown hb.2 h.hp h.ne, hb.1, h.ne, h.lp, h.lq, below_grown h.bel hb.2 h.lq, fun x hx => ⟨heap_grown hb.2 (h.ho x hx).1 (h.ho x hx).2.2, (h.ho x hx).2⟩⟩
theorem Tw.below (h : Tw w0 bp bq X Y os w) (hb : Below w.heap.size w w') : Tw w0 bp bq X Y os w' :=
  ⟨heap_below hb h.hp, heap_below hb h.hq, h.ne, h.lp, h.lq, btrans h.bel hb, fun x hx => ⟨heap_below hb (h.ho x hx).1, (h.ho x hx).2⟩⟩
theorem Tw.alloc (h : Tw w0 bp bq X Y os w) (o : Obj) : Tw w0 bp bq X Y ((w.heap.size, o) :: os) (w.alloc o) := by
  have hb := (Below.refl w.heap.size w).alloc (Nat.le_refl _) o
  have h2 := h.below hb
  refine ⟨h2.hp, h2.hq, h2.ne, h2.lp, h2.lq, h2.bel, fun x hx => ?_⟩
  rcases List.mem_cons.1 hx with rfl | hx
  · have := heap_lt h.hp
    have := heap_lt h.hq
    exact ⟨heap_alloc_new w o, by simp; omega, by simp; omega⟩
  · exact h2.ho x hx
theorem Tw.drewN (h : Tw w0 bp bq X Y os w) (n : Nat) : Tw w0 bp bq X Y os (w.drewN n) := ⟨h.hp, h.hq, h.ne, h.lp, h.lq, belowN h.bel n, h.ho⟩
theorem Tw.drew (h : Tw w0 bp bq X Y os w) : Tw w0 bp bq X Y os w.drew := ⟨h.hp, h.hq, h.ne, h.lp, h.lq, h.bel.drew, h.ho⟩
theorem Tw.swap (h : Tw w0 bp bq X Y os w) : Tw w0 bq bp Y X os w := ⟨h.hq, h.hp, Ne.symm h.ne, h.lq, h.lp, h.bel, fun x hx => ⟨(h.ho x hx).1, (h.ho x hx).2.2, (h.ho x hx).2.1⟩⟩
theorem Tw.at (h : Tw w0 bp bq X Y os w) {k : Nat} {o : Obj} (hx : (k, o) ∈ os) : w.heap[k]? = some o := (h.ho _ hx).1
/-- contracts on the first -/
theorem Tw.upd (h : Tw w0 bp bq X Y os w) (hs : X.ss.size = 16) (hg0 : 0 ≤ X.sg) (hg1 : X.sg ≤ 1000000) :
    Calls Try.prog 10 #[.pointer (some ⟨bp, 0, none⟩)] w fun e w' => e = .returned (.int .i64 (updR X)) ∧ Tw w0 bp bq (updP X) Y os w' :=
  (up_any bp X w hs hg0 hg1 h.hp).mono fun _ _ hh => ⟨hh.1, h.p hh.2⟩
theorem Tw.sent (h : Tw w0 bp bq X Y os w) (p : Int) :
    Calls Try.prog 12 #[.pointer (some ⟨bp, 0, none⟩), .int .i64 p] w fun e w' => (∃ v, e = .returned v) ∧ Tw w0 bp bq (sentP X p) Y os w' :=
  (sent_any bp X p w h.hp).mono fun _ _ hh => ⟨hh.1, h.p hh.2⟩
theorem Tw.acked (h : Tw w0 bp bq X Y os w) (p : Int) :
    Calls Try.prog 11 #[.pointer (some ⟨bp, 0, none⟩), .int .i64 p] w fun e w' => (∃ v, e = .returned v) ∧ Tw w0 bp bq (ackedP X p) Y os w' :=
  (acked_any bp X p w h.hp).mono fun _ _ hh => ⟨hh.1, h.p hh.2⟩
theorem Tw.tick (h : Tw w0 bp bq X Y os w) (t : Int) :
    Calls Try.prog 16 #[.pointer (some ⟨bp, 0, none⟩), .int .i64 t] w fun e w' => (∃ v, e = .returned v) ∧ Tw w0 bp bq (tickP X t) Y os w' :=
  (tick_any bp X t w h.hp).mono fun _ _ hh => ⟨hh.1, h.p hh.2⟩
theorem Tw.gen (h : Tw w0 bp bq X Y os w) :
    Calls Try.prog 13 #[.pointer (some ⟨bp, 0, none⟩)] w fun e w' => e = .returned (.tuple #[.int .i64 X.sg, .int .i64 X.rg]) ∧ Tw w0 bp bq X Y os w' :=
  (gen_any bp X w h.hp).mono fun _ _ hh => ⟨hh.1, h.p hh.2⟩
theorem Tw.send (h : Tw w0 bp bq X Y os w) (hs : X.ss.size = 16) (hg0 : 0 ≤ X.sg) :
    Calls Try.prog 19 #[.pointer (some ⟨bp, 0, none⟩)] w fun e w' => e = .returned (.tuple #[(kyF X.sh X.ss).val, .int .i64 (X.sg % 2)]) ∧ Tw w0 bp bq X Y os w' :=
  (send_any bp X w hs hg0 h.hp).mono fun _ _ hh => ⟨hh.1, h.below hh.2⟩
theorem Tw.rcv (h : Tw w0 bp bq X Y os w) (ph pn : Int) (hp0 : 0 ≤ ph) (hp1 : ph ≤ 1) (hn0 : 0 ≤ pn) (hn1 : pn ≤ 281474976710655) (hg0 : 0 ≤ X.rg) (hg1 : X.rg ≤ 1000000) (hs : X.rs.size = 16) (ho : X.kept = true → X.old.size = 16) :
    Calls Try.prog 15 #[.pointer (some ⟨bp, 0, none⟩), .int .i64 ph, .int .i64 pn] w fun e w' => e = .returned (rcvV X ph pn) ∧ Tw w0 bp bq X Y os w' :=
  (rcv_any bp X ph pn w hp0 hp1 hn0 hn1 hg0 hg1 hs ho h.hp).mono fun _ _ hh => ⟨hh.1, h.below hh.2⟩
/-- Opened as a function -/
def opnR (X : Ph) (g pn : Int) : Int := if g - X.rg = -1 ∧ X.kept = false then 2 else if cfB X (g - X.rg) pn = true then 251 else 0
def opnP (X : Ph) (t g pn : Int) : Ph :=
  if g - X.rg = -1 ∧ X.kept = false then X else if cfB X (g - X.rg) pn = true then X
  else if g - X.rg = -1 then { X with lg := max X.lg pn, a0 := (withF X.a0 X.a1 pn).1, a1 := (withF X.a0 X.a1 pn).2 }
  else if g - X.rg = 0 then { X with lg := max X.lg pn, b0 := (withF X.b0 X.b1 pn).1, b1 := (withF X.b0 X.b1 pn).2 }
  else if X.sg < X.rg + 1 then rnP (opX X t pn) else opX X t pn
theorem Tw.opn (h : Tw w0 bp bq X Y os w) (t g pn : Int) (ht0 : 0 ≤ t) (ht1 : t ≤ 1000000000) (hn0 : 0 ≤ pn) (hn1 : pn ≤ 281474976710655) (hg0 : 0 ≤ X.rg) (hg1 : X.rg ≤ 1000000) (hs0 : 0 ≤ X.sg) (hs1 : X.sg ≤ 1000000)
    (hg : g = X.rg - 1 ∨ g = X.rg ∨ g = X.rg + 1) (hs : X.rs.size = 16) (hss : X.ss.size = 16) (ha : (X.a0 = -1 ∧ X.a1 = -1) ∨ 0 ≤ X.a0) (hb : (X.b0 = -1 ∧ X.b1 = -1) ∨ 0 ≤ X.b0) :
    Calls Try.prog 14 #[.pointer (some ⟨bp, 0, none⟩), .int .i64 t, .int .i64 g, .int .i64 pn] w fun e w' => e = .returned (.int .i64 (opnR X g pn)) ∧ Tw w0 bp bq (opnP X t g pn) Y os w' := by
  unfold opnR opnP
  by_cases h1 : g - X.rg = -1 ∧ X.kept = false
  · rw [if_pos h1, if_pos h1]
    exact (op_arg bp X t g pn w ht0 ht1 hn0 hn1 hg0 hg1 (by omega) h1.2 h.hp).mono fun _ _ hh => ⟨hh.1, h.p hh.2⟩
  · rw [if_neg h1, if_neg h1]
    have hk : g - X.rg = -1 → X.kept = true := fun e => by
      cases hx : X.kept with
      | true => rfl
      | false => exact absurd ⟨e, hx⟩ h1
    by_cases h2 : cfB X (g - X.rg) pn = true
    · rw [if_pos h2, if_pos h2]
      exact (op_cf bp X t g pn (g - X.rg) w ht0 ht1 hn0 hn1 hg0 hg1 (by omega) (by omega) hk h2 h.hp).mono fun _ _ hh => ⟨hh.1, h.p hh.2⟩
    · rw [if_neg h2, if_neg h2]
      have h2' : cfB X (g - X.rg) pn = false := by simpa using h2
      by_cases h3 : g - X.rg = -1
      · rw [if_pos h3]
        exact (op_low bp X t g pn w ht0 ht1 hn0 hn1 hg0 hg1 (by omega) (hk h3) (by rw [← h3]; exact h2') ha h.hp).mono fun _ _ hh => ⟨hh.1, h.p hh.2⟩
      · rw [if_neg h3]
        by_cases h4 : g - X.rg = 0
        · rw [if_pos h4]
          exact (op_cur bp X t g pn w ht0 ht1 hn0 hn1 hg0 hg1 (by omega) (by rw [← h4]; exact h2') hb h.hp).mono fun _ _ hh => ⟨hh.1, h.p hh.2⟩
        · rw [if_neg h4]
          have h5 : g - X.rg = 1 := by omega
          rw [h5] at h2'
          by_cases h6 : X.sg < X.rg + 1
          · rw [if_pos h6]
            exact (op_next2 bp X t g pn w ht0 ht1 hn0 hn1 hg0 hg1 (by omega) h2' hs hss hs0 hs1 h6 h.hp).mono fun _ _ hh => ⟨hh.1, h.p hh.2⟩
          · rw [if_neg h6]
            exact (op_next1 bp X t g pn w ht0 ht1 hn0 hn1 hg0 hg1 (by omega) h2' hs (by simpa using h6) h.hp).mono fun _ _ hh => ⟨hh.1, h.p hh.2⟩
end Go.Proofs.Ytieiplalnekmkaa
