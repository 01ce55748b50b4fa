/- Law 13: a Recovery of the call's own, rows and blocks of the call's own beside it: the contracts for the laws. -/
import Derived.Test.YtafkndhnbnpahaaGreatZe
namespace Go.Proofs.YtafkndhnbnpahaaGreat
open Go.RowKit Go.Maps
structure Rw where
  e : TypeId
  z : Nat
  v : Value
  n : Nat
  xs : List Value
def pkR (v : Value) (l : List Pk) : Rw := ⟨32, 5, v, l.length, pcs l⟩
structure Lw (w0 w : World) (b M : Nat) (R : Rc) (rows : List Rw) (os : List (Nat × Obj)) : Prop where
  bel : Below w0.heap.size w0 w
  at_ : RecAt w b M R
  ok : R.Ok
  nil : ∀ p ∈ R.l, p.fv = .slice none 0 0
  ownb : w0.heap.size ≤ b
  ownM : w0.heap.size ≤ M
  rows : ∀ x ∈ rows, w.ownsRow w0.heap.size x.e x.z x.v x.n x.xs ∧ x.e ≠ 75
  os : ∀ x ∈ os, w.heap[x.1]? = some x.2 ∧ isC x.2 = true ∧ x.1 ≠ b
variable {w0 w w' : World} {b M : Nat} {R R' : Rc} {rows : List Rw} {os : List (Nat × Obj)}
theorem RecAt.noC (h : RecAt w b M R) {o : Obj} (ho : w.heap[M]? = some o) : isC o = false := by
  obtain ⟨D, h1, _⟩ := h.2
  exact h1.no_cells ho
theorem row_turn {B n z : Nat} {e : TypeId} {v : Value} {xs : List Value} (h : w.ownsRow B e z v n xs) (he : e ≠ 75) (hR : RecAt w b M R) (ht : Tu b M w w') : w'.ownsRow B e z v n xs := by
  refine ⟨h.1, ?_⟩
  rcases h.2 with h1 | ⟨g, cap, cur, rfl, hb, hgg, rest⟩
  · exact .inl h1
  · refine .inr ⟨g, cap, cur, rfl, hb, (ht.block g (heap_lt hgg) (fun e2 => ?_) (fun e2 => ?_)).trans hgg, rest⟩
    · subst e2; rw [hR.1] at hgg; cases hgg; exact he rfl
    · subst e2; have := hR.noC hgg; cases this
theorem Lw.turn (h : Lw w0 w b M R rows os) (hR : RecAt w' b M R') (ok : R'.Ok) (nil : ∀ p ∈ R'.l, p.fv = .slice none 0 0) (hT : Tu b M w w') : Lw w0 w' b M R' rows os :=
  ⟨Tu.to_below h.bel hT h.ownb h.ownM h.bel.size, hR, ok, nil, h.ownb, h.ownM, fun x hx => ⟨row_turn (h.rows x hx).1 (h.rows x hx).2 h.at_ hT, (h.rows x hx).2⟩,
   fun x hx => ⟨(hT.block x.1 (heap_lt (h.os x hx).1) (h.os x hx).2.2 (fun e => by have := h.at_.noC (e ▸ (h.os x hx).1); rw [(h.os x hx).2.1] at this; cases this)).trans (h.os x hx).1, (h.os x hx).2⟩⟩
theorem Lw.below (h : Lw w0 w b M R rows os) (hb : Below w.heap.size w w') : Lw w0 w' b M R rows os := h.turn (h.at_.below hb) h.ok h.nil (Tu.below hb)
theorem Lw.addRow (h : Lw w0 w b M R rows os) (r : Rw) (hr : w.ownsRow w0.heap.size r.e r.z r.v r.n r.xs) (he : r.e ≠ 75) : Lw w0 w b M R (r :: rows) os :=
  ⟨h.bel, h.at_, h.ok, h.nil, h.ownb, h.ownM, fun x hx => (List.mem_cons.1 hx).elim (fun e => e ▸ ⟨hr, he⟩) (h.rows x), h.os⟩
theorem Lw.addOb (h : Lw w0 w b M R rows os) {k : Nat} {o : Obj} (hk : w.heap[k]? = some o) (hc : isC o = true) (hb : k ≠ b) : Lw w0 w b M R rows ((k, o) :: os) :=
  ⟨h.bel, h.at_, h.ok, h.nil, h.ownb, h.ownM, h.rows, fun x hx => (List.mem_cons.1 hx).elim (fun e => e ▸ ⟨hk, hc, hb⟩) (h.os x)⟩
theorem Lw.sub {rows' : List Rw} {os' : List (Nat × Obj)} (h : Lw w0 w b M R rows os) (hr : ∀ x ∈ rows', x ∈ rows) (ho : ∀ x ∈ os', x ∈ os) : Lw w0 w b M R rows' os' :=
  ⟨h.bel, h.at_, h.ok, h.nil, h.ownb, h.ownM, fun x hx => h.rows x (hr x hx), fun x hx => h.os x (ho x hx)⟩
theorem Lw.row (h : Lw w0 w b M R rows os) {v : Value} {l : List Pk} (hx : pkR v l ∈ rows) (hn : v = .slice none 0 0 ↔ l = []) : PkRow w0.heap.size w v l := ⟨(h.rows _ hx).1, hn⟩
theorem Lw.at (h : Lw w0 w b M R rows os) {k : Nat} {o : Obj} (hx : (k, o) ∈ os) : w.heap[k]? = some o := (h.os _ hx).1
theorem nil_filter {l : List Pk} (h : ∀ p ∈ l, p.fv = .slice none 0 0) (f : Pk → Bool) : ∀ p ∈ l.filter f, p.fv = .slice none 0 0 := fun p hp => h p (List.mem_filter.1 hp).1
theorem lw_new (hb : Below w0.heap.size w0 w) : Calls Tryz.prog 12 #[] w fun e w' => ∃ b M, e = .returned (.pointer (some ⟨b, 0, none⟩)) ∧ w.heap.size ≤ b ∧ Lw w0 w' b M ⟨[], 0, -1⟩ [] [] := by
  refine (new_any w).mono ?_
  rintro e w' ⟨b, M, rfl, h1, h2, h3, h4⟩
  exact ⟨b, M, rfl, h1, hb.trans (h4.mono hb.size), h3, ⟨⟨by simp, by simp, by simp⟩, by decide, by decide, by decide, by decide, by decide, by simp⟩, by simp, Nat.le_trans hb.size h1, Nat.le_trans hb.size h2, by simp, by simp⟩
theorem lw_sent (h : Lw w0 w b M R rows os) (p : Pk) (hf : p.fv = .slice none 0 0) (hp : p.pn = R.nx) (hn : R.nx < 10000) (ht : 0 ≤ p.time ∧ p.time ≤ 1125899906842624) (hs : 0 ≤ p.size) :
    Calls Tryz.prog 20 #[.pointer (some ⟨b, 0, none⟩), p.val] w fun e w' => e = .returned (.int .i64 0) ∧ Lw w0 w' b M (R.add p) rows os := by
  refine (sent_nil h.at_ h.ok p hf hp ht.1 hs).mono ?_
  rintro e w' ⟨rfl, h1, h2⟩
  refine ⟨rfl, h.turn h1 (h.ok.add p hp hn ht ⟨_, _, _, hf⟩) (fun q hq => ?_) h2⟩
  rcases List.mem_append.1 hq with hq | hq
  · exact h.nil q hq
  · rw [List.mem_singleton.1 hq]; exact hf
/-- the packets left, and those lost, behind an ACK frame -/
def Rc.acked (R : Rc) (n : Nat) (F T : Nat → Int) (now d : Int) : Rc := (R.ack n F T).cut (exF (R.ack n F T).lg now d)
def Rc.lostA (R : Rc) (n : Nat) (F T : Nat → Int) (now d : Int) : List Pk := (R.ack n F T).l.filter (exF (R.ack n F T).lg now d)
def Isnil (v : Value) (l : List Pk) : Prop := v = .slice none 0 0 ↔ l = []
theorem lw_ack (h : Lw w0 w b M R rows os) (dl : Int) (rv : Value) (n : Nat) (F T : Nat → Int) (now d : Int) (h0 : 0 ≤ dl) (h1 : dl ≤ 4611686018427387903) (hG : RgOk n F T) (hS : SpansAt w rv n F T) (hn : 0 ≤ now) (hd : 0 ≤ d)
    (hn' : now ≤ 9223372036854775807) (hd' : d ≤ 9223372036854775807) (hT : T 0 ≤ R.nx) (hgb : ∀ g o c, rv = .slice (some ⟨g, o, none⟩) n c → g ≠ b) :
    Calls Tryz.prog 15 #[.pointer (some ⟨b, 0, none⟩), .int .i64 now, .agg (ackE dl rv), .int .i64 d] w fun e w' => ∃ va vl, e = .returned (.tuple #[va, vl, .int .i64 0]) ∧
      Isnil va (R.l.filter (akF n F T)) ∧ Isnil vl (R.lostA n F T now d) ∧ Lw w0 w' b M (R.acked n F T now d) (pkR vl (R.lostA n F T now d) :: pkR va (R.l.filter (akF n F T)) :: rows) os := by
  refine (ack_any h.at_ h.ok dl rv n F T now d h0 h1 hG hS hn hd hn' hd' hT hgb).mono ?_
  rintro e w' ⟨va, vl, rfl, h1, h2, h3, h4⟩
  refine ⟨va, vl, rfl, h1.2, h2.2, ?_⟩
  have hw := h.turn h3 ((h.ok.ack n F T hT).cut _) (nil_filter (nil_filter h.nil _) _) h4
  exact (hw.addRow (pkR va _) (h1.base h.bel.size).1 (show (32 : Nat) ≠ 75 by decide)).addRow (pkR vl _) (h2.base h.bel.size).1 (show (32 : Nat) ≠ 75 by decide)
theorem lw_unsent (h : Lw w0 w b M R rows os) (dl : Int) (rv : Value) (n : Nat) (F T : Nat → Int) (now d : Int) (h0 : 0 ≤ dl) (h1 : dl ≤ 4611686018427387903) (hG : RgOk n F T) (hS : SpansAt w rv n F T) (hn : 0 ≤ now) (hd : 0 ≤ d)
    (hT : R.nx < T 0) :
    Calls Tryz.prog 15 #[.pointer (some ⟨b, 0, none⟩), .int .i64 now, .agg (ackE dl rv), .int .i64 d] w fun e w' => e = .returned (.tuple #[.slice none 0 0, .slice none 0 0, .int .i64 130]) ∧ Lw w0 w' b M R rows os :=
  (ack_unsent h.at_ h.ok dl rv n F T now d h0 h1 hG hS hn hd hT).mono fun _ _ hh => ⟨hh.1, h.below hh.2⟩
theorem lw_exp (h : Lw w0 w b M R rows os) (now d : Int) (hn : 0 ≤ now) (hn' : now ≤ 9223372036854775807) (hd : 0 ≤ d) (hd' : d ≤ 9223372036854775807) :
    Calls Tryz.prog 14 #[.pointer (some ⟨b, 0, none⟩), .int .i64 now, .int .i64 d] w fun e w' => ∃ v, e = .returned v ∧ Isnil v (R.l.filter (exF R.lg now d)) ∧ Lw w0 w' b M (R.cut (exF R.lg now d)) (pkR v (R.l.filter (exF R.lg now d)) :: rows) os := by
  refine (expire_any h.at_ h.ok now d hn hn' hd hd').mono ?_
  rintro e w' ⟨v, rfl, h1, h2, h3⟩
  exact ⟨v, rfl, h1.2, (h.turn h2 (h.ok.cut _) (nil_filter h.nil _) h3).addRow (pkR v _) (h1.base h.bel.size).1 (show (32 : Nat) ≠ 75 by decide)⟩
theorem lw_disc (h : Lw w0 w b M R rows os) :
    Calls Tryz.prog 27 #[.pointer (some ⟨b, 0, none⟩)] w fun e w' => ∃ v, e = .returned v ∧ Isnil v R.l ∧ Lw w0 w' b M { R with l := [] } (pkR v R.l :: rows) os := by
  refine (discard_any h.at_ h.ok).mono ?_
  rintro e w' ⟨v, rfl, h1, h2, h3⟩
  rw [filter_true] at h1
  have ec : R.cut (fun _ => true) = { R with l := [] } := by unfold Rc.cut; simp
  have ok := h.ok.cut (fun _ => true)
  rw [ec] at h2 ok
  exact ⟨v, rfl, h1.2, (h.turn h2 ok (by simp) h3).addRow (pkR v _) (h1.base h.bel.size).1 (show (32 : Nat) ≠ 75 by decide)⟩
theorem lw_out (h : Lw w0 w b M R rows os) :
    Calls Tryz.prog 18 #[.pointer (some ⟨b, 0, none⟩)] w fun e w' => ∃ v, e = .returned v ∧ Isnil v R.l ∧ Lw w0 w' b M R (pkR v R.l :: rows) os := by
  refine (out_nil h.at_ h.ok h.nil).mono ?_
  rintro e w' ⟨v, rfl, h1, h2⟩
  exact ⟨v, rfl, h1.2, (h.below h2).addRow (pkR v _) (h1.base h.bel.size).1 (show (32 : Nat) ≠ 75 by decide)⟩
theorem lw_dead (h : Lw w0 w b M R rows os) (d : Int) (hd : 0 ≤ d) (hd' : d ≤ 1125899906842624) :
    Calls Tryz.prog 23 #[.pointer (some ⟨b, 0, none⟩), .int .i64 d] w fun e w' => e = .returned (.int .i64 (deadT (R.l.filter (dlF R.lg)) d)) ∧ Lw w0 w' b M R rows os :=
  (deadline_any h.at_ h.ok d hd hd').mono fun _ _ hh => ⟨hh.1, h.below hh.2⟩
theorem lw_last (h : Lw w0 w b M R rows os) :
    Calls Tryz.prog 33 #[.pointer (some ⟨b, 0, none⟩)] w fun e w' => e = .returned (.int .i64 (lastT R.l)) ∧ Lw w0 w' b M R rows os :=
  (last_any h.at_ h.ok).mono fun _ _ hh => ⟨hh.1, h.below hh.2⟩
theorem lw_next (h : Lw w0 w b M R rows os) : Calls Tryz.prog 17 #[.pointer (some ⟨b, 0, none⟩)] w fun e w' => e = .returned (.int .i64 R.nx) ∧ w = w' := next_any h.at_
theorem lw_acked (h : Lw w0 w b M R rows os) : Calls Tryz.prog 19 #[.pointer (some ⟨b, 0, none⟩)] w fun e w' => e = .returned (.int .i64 R.lg) ∧ w = w' := acked_any h.at_
end Go.Proofs.YtafkndhnbnpahaaGreat
