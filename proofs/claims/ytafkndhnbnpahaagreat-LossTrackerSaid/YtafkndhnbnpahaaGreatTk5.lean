/- Texts Ze Zf Zg Zh Zi Zj Zk Zl Zm of this claim, one behind the other. -/
import Derived.Test.YtafkndhnbnpahaaGreatTk4
import Derived.Deep.QuietTactic
/- Law 13: a nil Recovery; numbers. -/
namespace Go.Proofs.YtafkndhnbnpahaaGreat
open Go.RowKit Go.Maps
set_option maxRecDepth 100000 in
set_option maxHeartbeats 2000000 in
theorem sent_none (p : Pk) (w : World) : Calls Tryz.prog 20 #[.pointer none, p.val] w fun e w' => e = .returned (.int .i64 1) ∧ Below w.heap.size w w' := by
  simp only [Pk.val, Pk.cells]
  go_enter Tryz.func20, Tryz.ntmps20
  go_wp2
  go_ret
  exact ⟨rfl, (Below.refl _ _).alloc (Nat.le_refl _) _⟩
set_option maxRecDepth 100000 in
set_option maxHeartbeats 2000000 in
theorem acked_none (w : World) : Calls Tryz.prog 19 #[.pointer none] w fun e w' => e = .returned (.int .i64 (-1)) ∧ w = w' := by
  go_enter Tryz.func19, Tryz.ntmps19
  go_wp2
  go_ret
  exact ⟨rfl, rfl⟩
set_option maxRecDepth 100000 in
set_option maxHeartbeats 2000000 in
theorem next_none (w : World) : Calls Tryz.prog 17 #[.pointer none] w fun e w' => e = .returned (.int .i64 0) ∧ w = w' := by
  go_enter Tryz.func17, Tryz.ntmps17
  go_wp2
  go_ret
  exact ⟨rfl, rfl⟩
theorem sel_none {w : World} {k : Nat} {lb : Array Value} (ek : ∀ args w, (callFunc k args).run Tryz.prog w = .ok (.enter k args) w) :
    Calls Tryz.prog 44 #[.func (.func 67) #[] #[.pointer (some ⟨w.heap.size, 0, none⟩)], .func (.func k) #[] lb] (w.alloc (.cells #[.pointer none] 24)) fun e w' => e = .returned (.slice none 0 0) ∧ Below w.heap.size w w' :=
  (sel_nil (fun _ => true) ek).mono fun e w' h => by
    obtain ⟨v, rfl, h1, h2⟩ := h
    exact ⟨by rw [h1.2.2 rfl], h2⟩
set_option maxRecDepth 100000 in
set_option maxHeartbeats 2000000 in
theorem dead_none (d : Int) (w : World) : Calls Tryz.prog 23 #[.pointer none, .int .i64 d] w fun e w' => e = .returned (.int .i64 (-1)) ∧ Below w.heap.size w w' := by
  have X := Lib.hid (box1 w (.cells #[.pointer none] 24))
  have SEL := Lib.hid (sel_none (w := w.alloc (.cells #[.pointer none] 24)) (k := 50) (lb := #[.pointer (some ⟨w.heap.size, 0, none⟩)]) ek50)
  rw [World.size_alloc] at SEL
  have hmf := mkf
  have x0 := at_whole X.out.1 0 rfl
  simp only [List.getElem_toArray, List.getElem_cons_zero] at x0
  go_enter Tryz.func23, Tryz.ntmps23
  go_wp2_with (first | (go_at_call 45; refine (all_any _ _).mono ?_; rintro e w' ⟨rfl, rfl⟩) | (go_at_call 44; refine SEL.out.mono ?_; rintro e w1 ⟨rfl, hb1⟩))
  go_ret
  exact ⟨rfl, X.out.2.1.trans (hb1.mono (by omega))⟩
set_option maxRecDepth 100000 in
set_option maxHeartbeats 2000000 in
theorem last_none (w : World) : Calls Tryz.prog 33 #[.pointer none] w fun e w' => e = .returned (.int .i64 (-1)) ∧ Below w.heap.size w w' := by
  have SEL := Lib.hid (sel_none (w := w) (k := 57) (lb := #[]) ek57)
  go_enter Tryz.func33, Tryz.ntmps33
  go_wp2_with (first | (go_at_call 45; refine (all_any _ _).mono ?_; rintro e w' ⟨rfl, rfl⟩) | (go_at_call 44; refine SEL.out.mono ?_; rintro e w1 ⟨rfl, hb1⟩))
  go_ret
  exact ⟨rfl, hb1⟩
set_option maxRecDepth 100000 in
set_option maxHeartbeats 2000000 in
theorem out_none (w : World) : Calls Tryz.prog 18 #[.pointer none] w fun e w' => e = .returned (.slice none 0 0) ∧ Below w.heap.size w w' := by
  have SEL := Lib.hid (sel_none (w := w) (k := 46) (lb := #[]) ek46)
  go_enter Tryz.func18, Tryz.ntmps18
  go_wp2_with (first | (go_at_call 45; refine (all_any _ _).mono ?_; rintro e w' ⟨rfl, rfl⟩) | (go_at_call 44; refine SEL.out.mono ?_; rintro e w1 ⟨rfl, hb1⟩))
  refine wp_loop_rounds 1 ?_
  rw [rounds_succ]
  go_wp2
  go_ret
  exact ⟨rfl, hb1⟩
set_option maxRecDepth 100000 in
set_option maxHeartbeats 2000000 in
theorem rem_none (k : Nat) (lb : Array Value) (ek : ∀ args w, (callFunc k args).run Tryz.prog w = .ok (.enter k args) w) (w : World) : Calls Tryz.prog 38 #[.pointer none, .func (.func k) #[] lb] w fun e w' => e = .returned (.slice none 0 0) ∧ Below w.heap.size w w' := by
  have SEL := Lib.hid (sel_none (w := w) (k := k) (lb := lb) ek)
  go_enter Tryz.func38, Tryz.ntmps38
  go_wp2_with (first | (go_at_call 45; refine (all_any _ _).mono ?_; rintro e w' ⟨rfl, rfl⟩) | (go_at_call 44; refine SEL.out.mono ?_; rintro e w1 ⟨rfl, hb1⟩))
  refine wp_loop_rounds 1 ?_
  rw [rounds_succ]
  go_wp2
  go_ret
  exact ⟨rfl, hb1⟩
set_option maxRecDepth 100000 in
set_option maxHeartbeats 2000000 in
theorem discard_none (w : World) : Calls Tryz.prog 27 #[.pointer none] w fun e w' => e = .returned (.slice none 0 0) ∧ Below w.heap.size w w' := by
  have REM := Lib.hid (rem_none 52 #[] ek52)
  go_enter Tryz.func27, Tryz.ntmps27
  go_wp2_with (go_at_call 38; refine (REM.out _).mono ?_; rintro e w1 ⟨rfl, h1⟩)
  go_ret
  exact ⟨rfl, h1⟩
set_option maxRecDepth 100000 in
set_option maxHeartbeats 2000000 in
theorem expire_none (now d : Int) (w : World) : Calls Tryz.prog 14 #[.pointer none, .int .i64 now, .int .i64 d] w fun e w' => e = .returned (.slice none 0 0) ∧ Below w.heap.size w w' := by
  have X := Lib.hid (box3 w (.cells #[.pointer none] 24) (.cells #[.int .i64 now] 3) (.cells #[.int .i64 d] 3))
  have REM := Lib.hid (rem_none 39 #[.pointer (some ⟨w.heap.size, 0, none⟩), .pointer (some ⟨w.heap.size + 1, 0, none⟩), .pointer (some ⟨w.heap.size + 1 + 1, 0, none⟩)] ek39)
  have hmf := mkf
  cases a1 : decide (now < 0) with
  | true =>
    go_enter Tryz.func14, Tryz.ntmps14
    go_wp2
    go_ret
    exact ⟨rfl, X.out.2.2.2.1⟩
  | false =>
    cases a2 : decide (d < 0) with
    | true =>
      go_enter Tryz.func14, Tryz.ntmps14
      go_wp2
      go_ret
      exact ⟨rfl, X.out.2.2.2.1⟩
    | false =>
      go_enter Tryz.func14, Tryz.ntmps14
      go_wp2_with (go_at_call 38; refine (REM.out _).mono ?_; rintro e w1 ⟨rfl, h1⟩)
      go_ret
      exact ⟨rfl, btrans X.out.2.2.2.1 h1⟩
set_option maxRecDepth 100000 in
set_option maxHeartbeats 2000000 in
theorem ack_none (now d dl : Int) (a : Option Addr) (n c : Nat) (w : World) : Calls Tryz.prog 15 #[.pointer none, .int .i64 now, .agg (ackE dl (.slice a n c)), .int .i64 d] w fun e w' => e = .returned (.tuple #[.slice none 0 0, .slice none 0 0, .int .i64 1]) ∧ Below w.heap.size w w' := by
  unfold ackE
  go_enter Tryz.func15, Tryz.ntmps15
  go_wp2
  go_ret3
  exact ⟨rfl, (Below.refl _ _).alloc (Nat.le_refl _) _⟩
set_option maxRecDepth 100000 in
set_option maxHeartbeats 2000000 in
theorem num_one {B : Nat} {v : Value} {p : Pk} {w : World} (h : PkRow B w v [p]) (hp : p.pn = 4) : Calls Tryz.prog 37 #[v] w fun e w' => e = .returned (.int .i64 16) ∧ Below w.heap.size w w' := by
  rcases h.form with ⟨_, h0⟩ | ⟨g, cap, cur, rfl, hpos, hcap, hm, hg, hgg, hcell⟩
  · cases h0
  · have c0 := (hcell 0 (by simp)).1
    simp only [List.getElem_cons_zero, hp, Nat.zero_mul] at c0
    have P : Hid (∀ w, Calls Tryz.prog 13 #[.int .i64 4, .int .i64 61] w fun e w' => e = .returned (.int .i64 4) ∧ w = w') := Lib.hid (fun w => pick_any 4 61 w (by decide) (by decide) (by decide) (by decide))
    unfold maxLen at hm
    simp only [List.length_cons, List.length_nil, Nat.zero_add] at hcap ⊢
    clear h hcell hgg
    go_enter Tryz.func37, Tryz.ntmps37
    go_wp2
    refine wp_loop_rounds 2 ?_
    rw [rounds_succ]
    go_wp2_with (go_at_call 13; refine (P.out _).mono ?_; rintro e w' ⟨rfl, rfl⟩)
    rw [rounds_succ]
    go_wp2
    go_ret
    exact ⟨rfl, Below.refl _ _⟩
set_option maxRecDepth 100000 in
set_option maxHeartbeats 2000000 in
theorem num_two {B : Nat} {v : Value} {p q : Pk} {w : World} (h : PkRow B w v [p, q]) (x y r : Int) (hp : p.pn = x) (hq : q.pn = y) (hx : (x = 0 ∧ y = 1 ∧ r = 3) ∨ (x = 2 ∧ y = 3 ∧ r = 12)) : Calls Tryz.prog 37 #[v] w fun e w' => e = .returned (.int .i64 r) ∧ Below w.heap.size w w' := by
  rcases h.form with ⟨_, h0⟩ | ⟨g, cap, cur, rfl, hpos, hcap, hm, hg, hgg, hcell⟩
  · cases h0
  · have c0 := (hcell 0 (by simp)).1
    have c1 := (hcell 1 (by simp)).1
    simp only [List.getElem_cons_zero, List.getElem_cons_succ, hp, hq, Nat.zero_mul, Nat.one_mul] at c0 c1
    unfold maxLen at hm
    simp only [List.length_cons, List.length_nil, Nat.zero_add, Nat.reduceAdd] at hcap ⊢
    clear h hcell hgg hp hq
    rcases hx with ⟨rfl, rfl, rfl⟩ | ⟨rfl, rfl, rfl⟩
    · have P : Hid (∀ w, Calls Tryz.prog 13 #[.int .i64 0, .int .i64 61] w fun e w' => e = .returned (.int .i64 0) ∧ w = w') := Lib.hid (fun w => pick_any 0 61 w (by decide) (by decide) (by decide) (by decide))
      have Q : Hid (∀ w, Calls Tryz.prog 13 #[.int .i64 1, .int .i64 61] w fun e w' => e = .returned (.int .i64 1) ∧ w = w') := Lib.hid (fun w => pick_any 1 61 w (by decide) (by decide) (by decide) (by decide))
      go_enter Tryz.func37, Tryz.ntmps37
      go_wp2
      refine wp_loop_rounds 3 ?_
      rw [rounds_succ]
      go_wp2_with (go_at_call 13; refine (P.out _).mono ?_; rintro e w' ⟨rfl, rfl⟩)
      rw [rounds_succ]
      go_wp2_with (go_at_call 13; refine (Q.out _).mono ?_; rintro e w' ⟨rfl, rfl⟩)
      rw [rounds_succ]
      go_wp2
      go_ret
      exact ⟨rfl, Below.refl _ _⟩
    · have P : Hid (∀ w, Calls Tryz.prog 13 #[.int .i64 2, .int .i64 61] w fun e w' => e = .returned (.int .i64 2) ∧ w = w') := Lib.hid (fun w => pick_any 2 61 w (by decide) (by decide) (by decide) (by decide))
      have Q : Hid (∀ w, Calls Tryz.prog 13 #[.int .i64 3, .int .i64 61] w fun e w' => e = .returned (.int .i64 3) ∧ w = w') := Lib.hid (fun w => pick_any 3 61 w (by decide) (by decide) (by decide) (by decide))
      go_enter Tryz.func37, Tryz.ntmps37
      go_wp2
      refine wp_loop_rounds 3 ?_
      rw [rounds_succ]
      go_wp2_with (go_at_call 13; refine (P.out _).mono ?_; rintro e w' ⟨rfl, rfl⟩)
      rw [rounds_succ]
      go_wp2_with (go_at_call 13; refine (Q.out _).mono ?_; rintro e w' ⟨rfl, rfl⟩)
      rw [rounds_succ]
      go_wp2
      go_ret
      exact ⟨rfl, Below.refl _ _⟩
end Go.Proofs.YtafkndhnbnpahaaGreat
/- Law 13: a Recovery of the call's own, rows and blocks of the call's own beside it: the contracts for the laws. -/
namespace Go.Proofs.YtafkndhnbnpahaaGreat
open Go.RowKit Go.Maps
structure Rw where
  e : TypeId
  z : Nat
  v : Value
  n : Nat
  xs : List Value
def pkR (v : Value) (l : List Pk) : Rw := ⟨32, 5, v, l.length, pcs l⟩
structure Lw (w0 w : World) (b M : Nat) (R : Rc) (rows : List Rw) (os : List (Nat × Obj)) : Prop where
  bel : Below w0.heap.size w0 w
  at_ : RecAt w b M R
  ok : R.Ok
  nil : ∀ p ∈ R.l, p.fv = .slice none 0 0
  ownb : w0.heap.size ≤ b
  ownM : w0.heap.size ≤ M
  rows : ∀ x ∈ rows, w.ownsRow w0.heap.size x.e x.z x.v x.n x.xs ∧ x.e ≠ 75
  os : ∀ x ∈ os, w.heap[x.1]? = some x.2 ∧ isC x.2 = true ∧ x.1 ≠ b
variable {w0 w w' : World} {b M : Nat} {R R' : Rc} {rows : List Rw} {os : List (Nat × Obj)}
theorem RecAt.noC (h : RecAt w b M R) {o : Obj} (ho : w.heap[M]? = some o) : isC o = false := by
  obtain ⟨D, h1, _⟩ := h.2
  exact h1.no_cells ho
theorem row_turn {B n z : Nat} {e : TypeId} {v : Value} {xs : List Value} (h : w.ownsRow B e z v n xs) (he : e ≠ 75) (hR : RecAt w b M R) (ht : Tu b M w w') : w'.ownsRow B e z v n xs := by
  refine ⟨h.1, ?_⟩
  rcases h.2 with h1 | ⟨g, cap, cur, rfl, hb, hgg, rest⟩
  · exact .inl h1
  · refine .inr ⟨g, cap, cur, rfl, hb, (ht.block g (heap_lt hgg) (fun e2 => ?_) (fun e2 => ?_)).trans hgg, rest⟩
    · subst e2; rw [hR.1] at hgg; cases hgg; exact he rfl
    · subst e2; have := hR.noC hgg; cases this
theorem Lw.turn (h : Lw w0 w b M R rows os) (hR : RecAt w' b M R') (ok : R'.Ok) (nil : ∀ p ∈ R'.l, p.fv = .slice none 0 0) (hT : Tu b M w w') : Lw w0 w' b M R' rows os :=
  ⟨Tu.to_below h.bel hT h.ownb h.ownM h.bel.size, hR, ok, nil, h.ownb, h.ownM, fun x hx => ⟨row_turn (h.rows x hx).1 (h.rows x hx).2 h.at_ hT, (h.rows x hx).2⟩,
   fun x hx => ⟨(hT.block x.1 (heap_lt (h.os x hx).1) (h.os x hx).2.2 (fun e => by have := h.at_.noC (e ▸ (h.os x hx).1); rw [(h.os x hx).2.1] at this; cases this)).trans (h.os x hx).1, (h.os x hx).2⟩⟩
theorem Lw.below (h : Lw w0 w b M R rows os) (hb : Below w.heap.size w w') : Lw w0 w' b M R rows os := h.turn (h.at_.below hb) h.ok h.nil (Tu.below hb)
theorem Lw.addRow (h : Lw w0 w b M R rows os) (r : Rw) (hr : w.ownsRow w0.heap.size r.e r.z r.v r.n r.xs) (he : r.e ≠ 75) : Lw w0 w b M R (r :: rows) os :=
  ⟨h.bel, h.at_, h.ok, h.nil, h.ownb, h.ownM, fun x hx => (List.mem_cons.1 hx).elim (fun e => e ▸ ⟨hr, he⟩) (h.rows x), h.os⟩
theorem Lw.addOb (h : Lw w0 w b M R rows os) {k : Nat} {o : Obj} (hk : w.heap[k]? = some o) (hc : isC o = true) (hb : k ≠ b) : Lw w0 w b M R rows ((k, o) :: os) :=
  ⟨h.bel, h.at_, h.ok, h.nil, h.ownb, h.ownM, h.rows, fun x hx => (List.mem_cons.1 hx).elim (fun e => e ▸ ⟨hk, hc, hb⟩) (h.os x)⟩
theorem Lw.sub {rows' : List Rw} {os' : List (Nat × Obj)} (h : Lw w0 w b M R rows os) (hr : ∀ x ∈ rows', x ∈ rows) (ho : ∀ x ∈ os', x ∈ os) : Lw w0 w b M R rows' os' :=
  ⟨h.bel, h.at_, h.ok, h.nil, h.ownb, h.ownM, fun x hx => h.rows x (hr x hx), fun x hx => h.os x (ho x hx)⟩
theorem Lw.row (h : Lw w0 w b M R rows os) {v : Value} {l : List Pk} (hx : pkR v l ∈ rows) (hn : v = .slice none 0 0 ↔ l = []) : PkRow w0.heap.size w v l := ⟨(h.rows _ hx).1, hn⟩
theorem Lw.at (h : Lw w0 w b M R rows os) {k : Nat} {o : Obj} (hx : (k, o) ∈ os) : w.heap[k]? = some o := (h.os _ hx).1
theorem nil_filter {l : List Pk} (h : ∀ p ∈ l, p.fv = .slice none 0 0) (f : Pk → Bool) : ∀ p ∈ l.filter f, p.fv = .slice none 0 0 := fun p hp => h p (List.mem_filter.1 hp).1
theorem lw_new (hb : Below w0.heap.size w0 w) : Calls Tryz.prog 12 #[] w fun e w' => ∃ b M, e = .returned (.pointer (some ⟨b, 0, none⟩)) ∧ w.heap.size ≤ b ∧ Lw w0 w' b M ⟨[], 0, -1⟩ [] [] := by
  refine (new_any w).mono ?_
  rintro e w' ⟨b, M, rfl, h1, h2, h3, h4⟩
  exact ⟨b, M, rfl, h1, hb.trans (h4.mono hb.size), h3, ⟨⟨by simp, by simp, by simp⟩, by decide, by decide, by decide, by decide, by decide, by simp⟩, by simp, Nat.le_trans hb.size h1, Nat.le_trans hb.size h2, by simp, by simp⟩
theorem lw_sent (h : Lw w0 w b M R rows os) (p : Pk) (hf : p.fv = .slice none 0 0) (hp : p.pn = R.nx) (hn : R.nx < 10000) (ht : 0 ≤ p.time ∧ p.time ≤ 1125899906842624) (hs : 0 ≤ p.size) :
    Calls Tryz.prog 20 #[.pointer (some ⟨b, 0, none⟩), p.val] w fun e w' => e = .returned (.int .i64 0) ∧ Lw w0 w' b M (R.add p) rows os := by
  refine (sent_nil h.at_ h.ok p hf hp ht.1 hs).mono ?_
  rintro e w' ⟨rfl, h1, h2⟩
  refine ⟨rfl, h.turn h1 (h.ok.add p hp hn ht ⟨_, _, _, hf⟩) (fun q hq => ?_) h2⟩
  rcases List.mem_append.1 hq with hq | hq
  · exact h.nil q hq
  · rw [List.mem_singleton.1 hq]; exact hf
/-- the packets left, and those lost, behind an ACK frame -/
def Rc.acked (R : Rc) (n : Nat) (F T : Nat → Int) (now d : Int) : Rc := (R.ack n F T).cut (exF (R.ack n F T).lg now d)
def Rc.lostA (R : Rc) (n : Nat) (F T : Nat → Int) (now d : Int) : List Pk := (R.ack n F T).l.filter (exF (R.ack n F T).lg now d)
def Isnil (v : Value) (l : List Pk) : Prop := v = .slice none 0 0 ↔ l = []
theorem lw_ack (h : Lw w0 w b M R rows os) (dl : Int) (rv : Value) (n : Nat) (F T : Nat → Int) (now d : Int) (h0 : 0 ≤ dl) (h1 : dl ≤ 4611686018427387903) (hG : RgOk n F T) (hS : SpansAt w rv n F T) (hn : 0 ≤ now) (hd : 0 ≤ d)
    (hn' : now ≤ 9223372036854775807) (hd' : d ≤ 9223372036854775807) (hT : T 0 ≤ R.nx) (hgb : ∀ g o c, rv = .slice (some ⟨g, o, none⟩) n c → g ≠ b) :
    Calls Tryz.prog 15 #[.pointer (some ⟨b, 0, none⟩), .int .i64 now, .agg (ackE dl rv), .int .i64 d] w fun e w' => ∃ va vl, e = .returned (.tuple #[va, vl, .int .i64 0]) ∧
      Isnil va (R.l.filter (akF n F T)) ∧ Isnil vl (R.lostA n F T now d) ∧ Lw w0 w' b M (R.acked n F T now d) (pkR vl (R.lostA n F T now d) :: pkR va (R.l.filter (akF n F T)) :: rows) os := by
  refine (ack_any h.at_ h.ok dl rv n F T now d h0 h1 hG hS hn hd hn' hd' hT hgb).mono ?_
  rintro e w' ⟨va, vl, rfl, h1, h2, h3, h4⟩
  refine ⟨va, vl, rfl, h1.2, h2.2, ?_⟩
  have hw := h.turn h3 ((h.ok.ack n F T hT).cut _) (nil_filter (nil_filter h.nil _) _) h4
  exact (hw.addRow (pkR va _) (h1.base h.bel.size).1 (show (32 : Nat) ≠ 75 by decide)).addRow (pkR vl _) (h2.base h.bel.size).1 (show (32 : Nat) ≠ 75 by decide)
theorem lw_unsent (h : Lw w0 w b M R rows os) (dl : Int) (rv : Value) (n : Nat) (F T : Nat → Int) (now d : Int) (h0 : 0 ≤ dl) (h1 : dl ≤ 4611686018427387903) (hG : RgOk n F T) (hS : SpansAt w rv n F T) (hn : 0 ≤ now) (hd : 0 ≤ d)
    (hT : R.nx < T 0) :
    Calls Tryz.prog 15 #[.pointer (some ⟨b, 0, none⟩), .int .i64 now, .agg (ackE dl rv), .int .i64 d] w fun e w' => e = .returned (.tuple #[.slice none 0 0, .slice none 0 0, .int .i64 130]) ∧ Lw w0 w' b M R rows os :=
  (ack_unsent h.at_ h.ok dl rv n F T now d h0 h1 hG hS hn hd hT).mono fun _ _ hh => ⟨hh.1, h.below hh.2⟩
theorem lw_exp (h : Lw w0 w b M R rows os) (now d : Int) (hn : 0 ≤ now) (hn' : now ≤ 9223372036854775807) (hd : 0 ≤ d) (hd' : d ≤ 9223372036854775807) :
    Calls Tryz.prog 14 #[.pointer (some ⟨b, 0, none⟩), .int .i64 now, .int .i64 d] w fun e w' => ∃ v, e = .returned v ∧ Isnil v (R.l.filter (exF R.lg now d)) ∧ Lw w0 w' b M (R.cut (exF R.lg now d)) (pkR v (R.l.filter (exF R.lg now d)) :: rows) os := by
  refine (expire_any h.at_ h.ok now d hn hn' hd hd').mono ?_
  rintro e w' ⟨v, rfl, h1, h2, h3⟩
  exact ⟨v, rfl, h1.2, (h.turn h2 (h.ok.cut _) (nil_filter h.nil _) h3).addRow (pkR v _) (h1.base h.bel.size).1 (show (32 : Nat) ≠ 75 by decide)⟩
theorem lw_disc (h : Lw w0 w b M R rows os) :
    Calls Tryz.prog 27 #[.pointer (some ⟨b, 0, none⟩)] w fun e w' => ∃ v, e = .returned v ∧ Isnil v R.l ∧ Lw w0 w' b M { R with l := [] } (pkR v R.l :: rows) os := by
  refine (discard_any h.at_ h.ok).mono ?_
  rintro e w' ⟨v, rfl, h1, h2, h3⟩
  rw [filter_true] at h1
  have ec : R.cut (fun _ => true) = { R with l := [] } := by unfold Rc.cut; simp
  have ok := h.ok.cut (fun _ => true)
  rw [ec] at h2 ok
  exact ⟨v, rfl, h1.2, (h.turn h2 ok (by simp) h3).addRow (pkR v _) (h1.base h.bel.size).1 (show (32 : Nat) ≠ 75 by decide)⟩
theorem lw_out (h : Lw w0 w b M R rows os) :
    Calls Tryz.prog 18 #[.pointer (some ⟨b, 0, none⟩)] w fun e w' => ∃ v, e = .returned v ∧ Isnil v R.l ∧ Lw w0 w' b M R (pkR v R.l :: rows) os := by
  refine (out_nil h.at_ h.ok h.nil).mono ?_
  rintro e w' ⟨v, rfl, h1, h2⟩
  exact ⟨v, rfl, h1.2, (h.below h2).addRow (pkR v _) (h1.base h.bel.size).1 (show (32 : Nat) ≠ 75 by decide)⟩
theorem lw_dead (h : Lw w0 w b M R rows os) (d : Int) (hd : 0 ≤ d) (hd' : d ≤ 1125899906842624) :
    Calls Tryz.prog 23 #[.pointer (some ⟨b, 0, none⟩), .int .i64 d] w fun e w' => e = .returned (.int .i64 (deadT (R.l.filter (dlF R.lg)) d)) ∧ Lw w0 w' b M R rows os :=
  (deadline_any h.at_ h.ok d hd hd').mono fun _ _ hh => ⟨hh.1, h.below hh.2⟩
theorem lw_last (h : Lw w0 w b M R rows os) :
    Calls Tryz.prog 33 #[.pointer (some ⟨b, 0, none⟩)] w fun e w' => e = .returned (.int .i64 (lastT R.l)) ∧ Lw w0 w' b M R rows os :=
  (last_any h.at_ h.ok).mono fun _ _ hh => ⟨hh.1, h.below hh.2⟩
theorem lw_next (h : Lw w0 w b M R rows os) : Calls Tryz.prog 17 #[.pointer (some ⟨b, 0, none⟩)] w fun e w' => e = .returned (.int .i64 R.nx) ∧ w = w' := next_any h.at_
theorem lw_acked (h : Lw w0 w b M R rows os) : Calls Tryz.prog 19 #[.pointer (some ⟨b, 0, none⟩)] w fun e w' => e = .returned (.int .i64 R.lg) ∧ w = w' := acked_any h.at_
end Go.Proofs.YtafkndhnbnpahaaGreat
/- Law 13: sane. -/
namespace Go.Proofs.YtafkndhnbnpahaaGreat
open Go.RowKit Go.Maps
def sp (i : Int) (e : Bool) : Pk := ⟨i, 0, 10, e, .slice none 0 0⟩
def s5 : Rc := ⟨[sp 0 true, sp 1 true, sp 2 true, sp 3 true, sp 4 false], 5, -1⟩
def s6 : Rc := ⟨[sp 2 true, sp 3 true], 5, 4⟩
def s7 : Rc := ⟨[], 5, 4⟩
theorem e5 : (((((Rc.mk [] 0 (-1)).add (sp 0 true)).add (sp 1 true)).add (sp 2 true)).add (sp 3 true)).add (sp 4 false) = s5 := by kernel_rfl
theorem e6 : s5.acked 1 (fun _ => 4) (fun _ => 5) 5 10 = s6 := by kernel_rfl
theorem e6a : s5.l.filter (akF 1 (fun _ => 4) (fun _ => 5)) = [sp 4 false] := by kernel_rfl
theorem e6b : s5.lostA 1 (fun _ => 4) (fun _ => 5) 5 10 = [sp 0 true, sp 1 true] := by kernel_rfl
theorem e6c : deadT (s6.l.filter (dlF s6.lg)) 10 = 10 := by kernel_rfl
theorem e6d : s6.l.filter (exF s6.lg 9 10) = [] := by kernel_rfl
theorem e6e : s6.cut (exF s6.lg 9 10) = s6 := by kernel_rfl
theorem e6f : s6.l.filter (exF s6.lg 10 10) = [sp 2 true, sp 3 true] := by kernel_rfl
theorem e6g : s6.cut (exF s6.lg 10 10) = s7 := by kernel_rfl
theorem rgOne (f t : Int) (h0 : 0 ≤ f) (h1 : f < t) (h2 : t ≤ 281474976710656) : RgOk 1 (fun _ => f) (fun _ => t) := ⟨by decide, by decide, fun k hk => by
  obtain rfl : k = 0 := by omega
  exact ⟨h0, h1, h2, by show t < 281474976710658; omega⟩⟩
theorem spOne {w : World} {g : Nat} (f t : Int) (h : w.heap[g]? = some (.cells #[.int .i64 f, .int .i64 t] 51 (0, 0))) : SpansAt w (.slice (some ⟨g, 0, none⟩) 1 1) 1 (fun _ => f) (fun _ => t) :=
  ⟨g, 0, 1, rfl, by decide, by decide, fun k hk => by
    obtain rfl : k = 0 := by omega
    exact ⟨at_whole h 0 rfl, at_whole h 1 rfl⟩⟩
set_option maxRecDepth 100000 in
set_option maxHeartbeats 20000000 in
theorem sane_any (w : World) : Calls Tryz.prog 11 #[] w fun e w' => e = .returned (.bool true) ∧ Below w.heap.size w w' := by
  have N0 := Lib.hid (lw_new (w0 := w) (Below.refl w.heap.size w))
  go_enter Tryz.func11, Tryz.ntmps11
  go_wp2_with fail
  refine N0.out.mono ?_
  rintro e w1 ⟨b, M, rfl, _, h⟩
  have H := Lib.hid h
  clear h N0
  go_wp2_with fail
  refine wp_loop_rounds 6 ?_
  rw [rounds_succ]
  go_wp2_with fail
  refine (lw_sent H.out (sp 0 true) rfl rfl (by decide) (by decide) (by decide)).mono ?_
  rintro e v0 ⟨rfl, h⟩
  have H0 := Lib.hid h
  clear h H
  have H := H0
  clear H0
  go_wp2_with fail
  rw [rounds_succ]
  go_wp2_with fail
  refine (lw_sent H.out (sp 1 true) rfl rfl (by decide) (by decide) (by decide)).mono ?_
  rintro e v1 ⟨rfl, h⟩
  have H1 := Lib.hid h
  clear h H
  have H := H1
  clear H1
  go_wp2_with fail
  rw [rounds_succ]
  go_wp2_with fail
  refine (lw_sent H.out (sp 2 true) rfl rfl (by decide) (by decide) (by decide)).mono ?_
  rintro e v2 ⟨rfl, h⟩
  have H2 := Lib.hid h
  clear h H
  have H := H2
  clear H2
  go_wp2_with fail
  rw [rounds_succ]
  go_wp2_with fail
  refine (lw_sent H.out (sp 3 true) rfl rfl (by decide) (by decide) (by decide)).mono ?_
  rintro e v3 ⟨rfl, h⟩
  have H3 := Lib.hid h
  clear h H
  have H := H3
  clear H3
  go_wp2_with fail
  rw [rounds_succ]
  go_wp2_with fail
  refine (lw_sent H.out (sp 4 false) rfl rfl (by decide) (by decide) (by decide)).mono ?_
  rintro e v4 ⟨rfl, h⟩
  have H4 := Lib.hid h
  clear h H
  have H := H4
  clear H4
  go_wp2_with fail
  rw [rounds_succ]
  rw [e5] at H
  go_wp2_with fail
  have X := Lib.hid (heap_alloc_new v4 (.cells #[.int .i64 4, .int .i64 5] 51))
  have HX := Lib.hid (H.out.below ((Below.refl _ v4).alloc (Nat.le_refl _) (.cells #[.int .i64 4, .int .i64 5] 51)))
  have hgb := Lib.hid (show v4.heap.size ≠ b from fun e => by have := heap_lt H.out.at_.1; omega)
  clear H
  refine (lw_ack HX.out 0 _ 1 _ _ 5 10 (by decide) (by decide) (rgOne 4 5 (by decide) (by decide) (by decide)) (spOne 4 5 X.out) (by decide) (by decide) (by decide) (by decide) (by decide) (fun g o c e => by cases e; exact hgb.out)).mono ?_
  rintro e w6 ⟨va, vl, rfl, na, nl, h⟩
  rw [e6a] at na h
  rw [e6b] at nl h
  rw [e6] at h
  have H := Lib.hid (And.intro h (And.intro na nl))
  clear h na nl HX X
  go_wp2_with fail
  refine (lw_dead H.out.1 10 (by decide) (by decide)).mono ?_
  rintro e w7 ⟨rfl, h⟩
  rw [e6c]
  have H7 := Lib.hid h
  clear h
  go_wp2_with fail
  refine (lw_exp H7.out 9 10 (by decide) (by decide) (by decide) (by decide)).mono ?_
  rintro e w8 ⟨vc, rfl, nc, h⟩
  rw [e6d] at nc h
  rw [e6e] at h
  obtain rfl : vc = .slice none 0 0 := nc.2 rfl
  have H8 := Lib.hid h
  clear h nc H7
  go_wp2_with fail
  refine (lw_exp H8.out 10 10 (by decide) (by decide) (by decide) (by decide)).mono ?_
  rintro e w9 ⟨vd, rfl, nd, h⟩
  rw [e6f] at nd h
  rw [e6g] at h
  have H9 := Lib.hid (And.intro h nd)
  clear h nd H8
  go_wp2_with fail
  have X := Lib.hid (heap_alloc_new w9 (.cells #[.int .i64 0, .int .i64 6] 51))
  have HX := Lib.hid (H9.out.1.below ((Below.refl _ w9).alloc (Nat.le_refl _) (.cells #[.int .i64 0, .int .i64 6] 51)))
  refine (lw_unsent HX.out 0 _ 1 _ _ 11 10 (by decide) (by decide) (rgOne 0 6 (by decide) (by decide) (by decide)) (spOne 0 6 X.out) (by decide) (by decide) (by decide)).mono ?_
  rintro e w10 ⟨rfl, h⟩
  have HA := Lib.hid h
  clear h HX X
  go_wp2_with fail
  refine (sent_none ⟨0, 0, 0, false, .slice none 0 0⟩ w10).mono ?_
  rintro e w11 ⟨rfl, hb⟩
  have HB := Lib.hid (HA.out.below hb)
  clear hb HA
  go_wp2_with fail
  refine (num_one (HB.out.row (v := va) (l := [sp 4 false]) (by simp) H.out.2.1) rfl).mono ?_
  rintro e w12 ⟨rfl, hb⟩
  have HC := Lib.hid (HB.out.below hb)
  clear hb HB
  go_wp2_with fail
  refine (num_two (HC.out.row (v := vl) (l := [sp 0 true, sp 1 true]) (by simp) H.out.2.2) 0 1 3 rfl rfl (.inl ⟨rfl, rfl, rfl⟩)).mono ?_
  rintro e w13 ⟨rfl, hb⟩
  have HD := Lib.hid (HC.out.below hb)
  clear hb HC
  go_wp2_with fail
  refine (num_two (HD.out.row (v := vd) (l := [sp 2 true, sp 3 true]) (by simp) H9.out.2) 2 3 12 rfl rfl (.inr ⟨rfl, rfl, rfl⟩)).mono ?_
  rintro e w14 ⟨rfl, hb⟩
  have HE := Lib.hid (HD.out.below hb)
  clear hb HD
  go_wp2_with fail
  refine (lw_next HE.out).mono ?_
  rintro e w15 ⟨rfl, rfl⟩
  go_wp2_with fail
  refine (lw_acked HE.out).mono ?_
  rintro e w15 ⟨rfl, rfl⟩
  go_wp2_with fail
  refine (lw_last HE.out).mono ?_
  rintro e w15 ⟨rfl, h⟩
  have HF := Lib.hid h
  clear h HE
  go_wp2_with fail
  refine (lw_out HF.out).mono ?_
  rintro e w16 ⟨vo, rfl, no, h⟩
  obtain rfl : vo = .slice none 0 0 := no.2 rfl
  have HG := Lib.hid h
  clear h no HF
  go_wp2_with fail
  refine (acked_none w16).mono ?_
  rintro e w17 ⟨rfl, rfl⟩
  go_wp2_with fail
  refine (dead_none 1 w16).mono ?_
  rintro e w17 ⟨rfl, hb⟩
  have HI := Lib.hid (HG.out.bel.trans (hb.mono HG.out.bel.size))
  clear hb HG
  go_wp2
  go_ret
  exact ⟨rfl, HI.out⟩
end Go.Proofs.YtafkndhnbnpahaaGreat
/- Law 13: RangesFrom. -/
namespace Go.Proofs.YtafkndhnbnpahaaGreat
open Go.RowKit
def fF (l : List (Int × Int)) (j : Nat) : Int := (l.getD j (0, 0)).1
def fT (l : List (Int × Int)) (j : Nat) : Int := (l.getD j (0, 0)).2
theorem fF_old (l : List (Int × Int)) (x : Int × Int) (j : Nat) (h : j < l.length) : fF (l ++ [x]) j = fF l j := by unfold fF; simp [List.getD, List.getElem?_append_left h]
theorem fT_old (l : List (Int × Int)) (x : Int × Int) (j : Nat) (h : j < l.length) : fT (l ++ [x]) j = fT l j := by unfold fT; simp [List.getD, List.getElem?_append_left h]
theorem fF_new (l : List (Int × Int)) (x : Int × Int) : fF (l ++ [x]) l.length = x.1 := by unfold fF; simp [List.getD]
theorem fT_new (l : List (Int × Int)) (x : Int × Int) : fT (l ++ [x]) l.length = x.2 := by unfold fT; simp [List.getD]
def RgIn (l : List (Int × Int)) : Prop := ∀ k, k < l.length → 0 ≤ fF l k ∧ fF l k < fT l k ∧ fT l k ≤ 281474976710656 ∧ fT l k < prv (fF l) k
theorem RgIn.app {l : List (Int × Int)} (h : RgIn l) (x y : Int) (h0 : 0 ≤ x) (h1 : x < y) (h2 : y ≤ 281474976710656) (h3 : y < prv (fF l) l.length) : RgIn (l ++ [(x, y)]) := by
  intro k hk
  rw [List.length_append, List.length_singleton] at hk
  have hp : ∀ k, k ≤ l.length → prv (fF (l ++ [(x, y)])) k = prv (fF l) k := fun k hk => by
    cases k with
    | zero => rfl
    | succ m => exact fF_old _ _ _ (by omega)
  rcases Nat.lt_or_ge k l.length with hlt | hge
  · rw [fF_old _ _ _ hlt, fT_old _ _ _ hlt, hp _ (by omega)]
    exact h k hlt
  · obtain rfl : k = l.length := by omega
    rw [fF_new, fT_new, hp _ (Nat.le_refl _)]
    exact ⟨h0, h1, h2, h3⟩
/-- the cells of a row of spans -/
def scs (l : List (Int × Int)) : List Value := l.flatMap fun p => [.int .i64 p.1, .int .i64 p.2]
theorem scs_snoc (l : List (Int × Int)) (x y : Int) : scs (l ++ [(x, y)]) = scs l ++ [.int .i64 x, .int .i64 y] := by simp [scs]
theorem scs_at (l : List (Int × Int)) (k : Nat) (hk : k < l.length) : (scs l)[k * 2]? = some (.int .i64 (fF l k)) ∧ (scs l)[k * 2 + 1]? = some (.int .i64 (fT l k)) := by
  induction l generalizing k with
  | nil => simp at hk
  | cons p l ih =>
    cases k with
    | zero => simp [scs, fF, fT]
    | succ k =>
      have := ih k (by simpa using hk)
      have e : (k + 1) * 2 = k * 2 + 1 + 1 := by omega
      simp only [scs, List.flatMap_cons, e, List.cons_append, List.nil_append, List.getElem?_cons_succ, fF, fT, List.getD_cons_succ] at this ⊢
      exact this
theorem info51 : (Tryz.prog.info? 51).map (fun i => (i.zero, i.size, i.bytes)) = some (some (.agg #[.int .i64 0, .int .i64 0]), 2, 16) := by kernel_rfl
/-- the slice v holds n spans of whatever ints -/
def SpArg (w : World) (v : Value) (n : Nat) (F T : Nat → Int) : Prop := ∃ a cap, v = .slice a n cap ∧ n ≤ cap ∧ (n = 0 ∨ ∃ g o, a = some ⟨g, o, none⟩ ∧ cap ≤ maxLen ∧
  ∀ k, k < n → w.cell? ⟨g, o + k * 2, none⟩ = some (.int .i64 (F k)) ∧ w.cell? ⟨g, o + k * 2 + 1, none⟩ = some (.int .i64 (T k)) ∧ (Lit.int .i64 (F k)).wf = true ∧ (Lit.int .i64 (T k)).wf = true)
theorem SpArg.below {w w' : World} {v : Value} {n : Nat} {F T : Nat → Int} (h : SpArg w v n F T) (hb : Below w.heap.size w w') : SpArg w' v n F T := by
  obtain ⟨a, cap, h1, h2, h3⟩ := h
  refine ⟨a, cap, h1, h2, h3.imp id ?_⟩
  rintro ⟨g, o, h4, h5, h6⟩
  exact ⟨g, o, h4, h5, fun k hk => ⟨(hb.cell (World.block_lt_of_cell? _ _ (h6 k hk).1)).trans (h6 k hk).1, (hb.cell (World.block_lt_of_cell? _ _ (h6 k hk).2.1)).trans (h6 k hk).2.1, (h6 k hk).2.2⟩⟩
/-- what RangesFrom hands back -/
def RgPost (top : Int) (w : World) (e : Ending) (w' : World) : Prop := ∃ v l, e = .returned v ∧ RgOk (List.length l) (fF l) (fT l) ∧ w'.ownsRow w.heap.size 51 2 v l.length (scs l) ∧ fT l 0 = top ∧ Below w.heap.size w w'
theorem spans_of_row {B : Nat} {w : World} {v : Value} {l : List (Int × Int)} (h : w.ownsRow B 51 2 v l.length (scs l)) (h0 : 0 < l.length) : ∃ g cap cur, v = .slice (some ⟨g, 0, none⟩) l.length cap ∧ B ≤ g ∧ SpansAt w v l.length (fF l) (fT l) ∧ w.heap[g]? = some (.cells cur 51 (0, 0)) := by
  rcases h.2 with ⟨_, hz⟩ | ⟨g, cap, cur, rfl, hbase, hg, r1, r2, r3, r4⟩
  · omega
  · refine ⟨g, cap, cur, rfl, hbase, ⟨g, 0, cap, rfl, r1, r2, fun k hk => ?_⟩, hg⟩
    have h1 := h.cells (g := g) rfl (k * 2) _ (scs_at l k hk).1
    have h2 := h.cells (g := g) rfl (k * 2 + 1) _ (scs_at l k hk).2
    rw [add_plain] at h1 h2
    exact ⟨h1, by rw [show 0 + k * 2 + 1 = 0 + (k * 2 + 1) by omega]; exact h2⟩
theorem rwrap (x : Int) (h0 : -9223372036854775808 ≤ x) (h1 : x ≤ 9223372036854775807) : IntKind.i64.wrap x = x := IntWalk.i64_in _ ⟨h0, h1⟩
set_option maxRecDepth 100000 in
set_option maxHeartbeats 8000000 in
theorem ranges_any (v : Value) (n0 : Nat) (F0 T0 : Nat → Int) (lg : Int) (w : World) (hA : SpArg w v n0 F0 T0) (hl : -9223372036854775808 ≤ lg) (hl' : lg ≤ 9223372036854775807) (_hn0 : n0 ≤ 9223372036854775807) :
    Calls Tryz.prog 21 #[v, .int .i64 lg] w (RgPost (1 + pickF lg 1073741824) w) := by
  obtain ⟨i0, hi, hz0, hz1, hz2⟩ := info_parts info51
  have P := Lib.hid (pick9_any lg 1073741824 w hl hl' (by decide) (by decide))
  have hp := pickF_range lg 1073741824 (by decide)
  have HA := Lib.hid hA
  obtain ⟨a, cap, rfl, hcap, _⟩ := hA
  generalize pickF lg 1073741824 = top at *
  obtain ⟨hp0, hp1⟩ := hp
  go_enter Tryz.func21, Tryz.ntmps21
  go_wp2_with (go_at_call 48; refine P.out.mono ?_; rintro e w' ⟨rfl, rfl⟩)
  go_loopw [5, 6, 7] (fun t o i wr => ∃ (l : List (Int × Int)) (to : Int), i = .int .i64 l.length ∧ t = .int .i64 to ∧ l.length ≤ n0 ∧ l.length ≤ 16 ∧ Hid (RgIn l) ∧ Hid (wr.ownsRow w.heap.size 51 2 o l.length (scs l) ∧ Below w.heap.size w wr) ∧ to ≤ 1073741824 ∧ -1000 ≤ to ∧ to < prv (fF l) l.length ∧ Hid ((l.length = 0 → to = 1 + top) ∧ (0 < l.length → fT l 0 = 1 + top)))
    (fun _ _ i _ => 16 - (intOf i).toNat)
  case atStart => exact ⟨[], 1 + top, rfl, rfl, Nat.zero_le _, Nat.zero_le _, Lib.hid (fun k hk => by simp at hk), Lib.hid ⟨World.ownsRow_nil _ _ _ _, Below.refl _ _⟩, by omega, by omega, by show 1 + top < 281474976710658; omega, Lib.hid ⟨fun _ => rfl, fun h => by simp at h⟩⟩
  case round =>
    obtain ⟨l, to, rfl, rfl, hl0, hl1, hIn, hRow, ht1, ht2, hprv, hTop⟩ := hrel
    have hob : ∃ oa oc, u6 = .slice oa l.length oc := by
      rcases hRow.out.1.2 with ⟨rfl, hz⟩ | ⟨g, cap', cur, rfl, _⟩
      · exact ⟨_, _, by rw [hz]⟩
      · exact ⟨_, _, rfl⟩
    obtain ⟨oa, oc, rfl⟩ := hob
    have hend : ∀ (wr : World) (x : Value), wr.ownsRow w.heap.size 51 2 x l.length (scs l) ∧ Below w.heap.size w wr → RgIn l → 0 < l.length → l.length ≤ 16 → fT l 0 = 1 + top → RgPost (1 + top) w (.returned x) wr := by
      rintro wr x ⟨h1, h2⟩ h3 h4 h5 h6
      exact ⟨x, l, rfl, ⟨h4, h5, h3⟩, h1, h6, h2⟩
    have HEND := Lib.hid hend
    clear hend
    by_cases hc : l.length < n0 ∧ l.length < 16 ∧ 0 < to
    · obtain ⟨c1, c2, c3⟩ := hc
      obtain ⟨a2, cap2, ea, hcp2, h3⟩ := HA.out
      cases ea
      rcases h3 with h3 | ⟨g, o, ea, hm, hcc⟩
      · omega
      · subst ea
        obtain ⟨hown, hbel⟩ := hRow.out
        have d0 := (hbel.cell (World.block_lt_of_cell? _ _ (hcc l.length c1).1)).trans (hcc l.length c1).1
        have P0 := Lib.hid (fun w => pick9_any (F0 l.length) 20 w (bounds_i64 (hcc l.length c1).2.2.1).1 (bounds_i64 (hcc l.length c1).2.2.1).2 (by decide) (by decide))
        have P1 := Lib.hid (fun w => pick9_any (T0 l.length) 20 w (bounds_i64 (hcc l.length c1).2.2.2).1 (bounds_i64 (hcc l.length c1).2.2.2).2 (by decide) (by decide))
        have p0 := pickF_range (F0 l.length) 20 (by decide)
        have p1 := pickF_range (T0 l.length) 20 (by decide)
        obtain ⟨x, hx⟩ : ∃ x, x = max (to - 1 - pickF (F0 l.length) 20) 0 := ⟨_, rfl⟩
        have hx0 : 0 ≤ x := by omega
        have hx1 : x < to := by omega
        have HX := Lib.hid hx
        have hx' := hx.symm
        have k0 : (0 : Int) ≤ (l.length : Int) := by omega
        have k1 : (l.length : Int) < (n0 : Int) := by omega
        have k2 : (l.length : Int) < 16 := by omega
        unfold maxLen at hm
        clear hx
        go_wp2_with fail
        refine (P0.out _).mono ?_
        rintro e w' ⟨rfl, rfl⟩
        go_wp2_with (at_builtin; refine wpList_append_own _ rfl _ _ 27 rfl w.heap.size 51 i0 (.agg #[.int .i64 0, .int .i64 0]) 2 16 Tryz.underlying27 hi hz0 hz1 hz2 rfl (by decide) _ _ _ rfl (hown.alloc _) ⟨wr.heap.size, 0, none⟩ 1 1 [.int .i64 x, .int .i64 to] rfl rfl (World.news_of_block (heap_alloc_new _ _)) (by intro u hu; simp at hu; rcases hu with rfl | rfl <;> rfl) (by unfold maxLen; omega) (by omega) (by have := hbel.size; simp; omega) ?_; intro v' w2 hown' hgrow _; have hb2 : Below w.heap.size w w2 := (hbel.trans (((Below.refl _ wr).alloc (Nat.le_refl _) _).mono hbel.size)).grown hgrow (by have := hbel.size; simp; omega) (fun k hk => (hown.lt k hk).1); have d1' := (hb2.cell (World.block_lt_of_cell? _ _ (hcc l.length c1).2.1)).trans (hcc l.length c1).2.1; have H2 := Lib.hid (And.intro hown' hb2); clear hown' hgrow hb2 hown hbel)
        refine (P1.out _).mono ?_
        rintro e w' ⟨rfl, rfl⟩
        have hin2 := Lib.hid (hIn.out.app x to hx0 hx1 (by omega) hprv)
        have ht0 := Lib.hid (show fT (l ++ [(x, to)]) 0 = 1 + top from by
          rcases Nat.eq_zero_or_pos l.length with h | h
          · have := hTop.out.1 h
            have e2 := fT_new l (x, to)
            rw [h] at e2
            rw [e2]; exact this
          · rw [fT_old _ _ _ h]; exact hTop.out.2 h)
        have hpr := Lib.hid (show prv (fF (l ++ [(x, to)])) (l.length + 1) = x from fF_new l (x, to))
        clear d0 d1' hcc
        go_wp2
        go_roundw
        case rel => exact ⟨l ++ [(x, to)], x - 1 - pickF (T0 l.length) 20, by rw [List.length_append, List.length_singleton]; go_num, rfl, by rw [List.length_append, List.length_singleton]; omega, by rw [List.length_append, List.length_singleton]; omega, hin2,
          Lib.hid ⟨by rw [List.length_append, List.length_singleton, scs_snoc]; exact H2.out.1, H2.out.2⟩, by omega, by omega, by rw [List.length_append, List.length_singleton, hpr.out]; omega, Lib.hid ⟨fun h => by rw [List.length_append, List.length_singleton] at h; omega, fun _ => ht0.out⟩⟩
        case measure => simp [intOf]; omega
    · have hout : decide (l.length < n0 ∧ l.length < 16 ∧ 0 < to) = false := by simpa using hc
      rcases Nat.eq_zero_or_pos l.length with hz | hz
      · have hl0' : l = [] := List.eq_nil_of_length_eq_zero hz
        subst hl0'
        have hto := hTop.out.1 rfl
        subst hto
        obtain ⟨hown, hbel⟩ := hRow.out
        have c3 : (0 : Int) < 1 + top := by omega
        simp only [List.length_nil] at hc hown
        have hn0 : ¬ (0 < n0) := fun h => hc ⟨h, by omega, c3⟩
        clear hc hout hIn hprv hTop hRow
        simp only [List.length_nil]
        go_wp2_with (at_builtin; refine wpList_append_own _ rfl _ _ 27 rfl w.heap.size 51 i0 (.agg #[.int .i64 0, .int .i64 0]) 2 16 Tryz.underlying27 hi hz0 hz1 hz2 rfl (by decide) _ _ _ rfl (hown.alloc _) ⟨wr.heap.size, 0, none⟩ 1 1 [.int .i64 (1 + top - 1), .int .i64 (1 + top)] rfl rfl (World.news_of_block (heap_alloc_new _ _)) (by intro u hu; simp at hu; rcases hu with rfl | rfl <;> rfl) (by unfold maxLen; omega) (by omega) (by have := hbel.size; simp; omega) ?_; intro v' w2 hown' hgrow _; skip)
        have e2 : (1 + top - 1 : Int) = top := by omega
        have hrow2 : w2.ownsRow w.heap.size 51 2 v' ([(1 + top - 1, 1 + top)] : List (Int × Int)).length (scs [(1 + top - 1, 1 + top)]) := by simpa [scs] using hown'
        have hb2 : Below w.heap.size w w2 := (hbel.trans (((Below.refl _ wr).alloc (Nat.le_refl _) _).mono hbel.size)).grown hgrow (by have := hbel.size; simp; omega) (fun k hk => (hown.lt k hk).1)
        have hin2 : RgIn [(1 + top - 1, 1 + top)] := fun k hk => by
          obtain rfl : k = 0 := by simp at hk; omega
          show 0 ≤ 1 + top - 1 ∧ 1 + top - 1 < 1 + top ∧ 1 + top ≤ 281474976710656 ∧ 1 + top < 281474976710658
          omega
        obtain ⟨g, cp, cur, rfl, q1, q2, q3⟩ := spans_of_row hrow2 (by simp)
        clear hown' hgrow hown hbel
        go_wp2
        go_ret
        exact ⟨_, _, rfl, ⟨by simp, by simp, hin2⟩, hrow2, rfl, hb2⟩
      · have hne : ((l.length : Int) = 0) = False := eq_false (by omega)
        by_cases c1 : l.length < n0
        · by_cases c2 : l.length < 16
          · have c3 : ¬ 0 < to := fun h => hc ⟨c1, c2, h⟩
            clear hc hout
            go_wp2
            go_ret
            exact HEND.out _ _ hRow.out hIn.out hz hl1 (hTop.out.2 hz)
          · clear hc hout
            go_wp2
            go_ret
            exact HEND.out _ _ hRow.out hIn.out hz hl1 (hTop.out.2 hz)
        · clear hc hout
          go_wp2
          go_ret
          exact HEND.out _ _ hRow.out hIn.out hz hl1 (hTop.out.2 hz)
end Go.Proofs.YtafkndhnbnpahaaGreat
/- Law 13: the reference's Same at packets without frames. -/
namespace Go.Proofs.YtafkndhnbnpahaaGreat
open Go.RowKit
set_option maxRecDepth 100000 in
set_option maxHeartbeats 2000000 in
theorem sameall_nil (w : World) : Calls Tryz.prog 49 #[.slice none 0 0, .slice none 0 0] w fun e w' => e = .returned (.bool true) ∧ w' = w := by
  go_enter Tryz.func49, Tryz.ntmps49
  go_wp2
  refine wp_loop_rounds 1 ?_
  rw [rounds_succ]
  go_wp2
  go_ret
  exact ⟨rfl, rfl⟩
set_option maxRecDepth 100000 in
set_option maxHeartbeats 8000000 in
theorem same_nil (B : Nat) (l : List Pk) (v1 v2 : Value) (w : World) (hf : ∀ p ∈ l, p.fv = .slice none 0 0) (h1 : PkRow B w v1 l) (h2 : PkRow B w v2 l) :
    Calls Tryz.prog 22 #[v1, v2] w fun e w' => e = .returned (.bool true) ∧ Below w.heap.size w w' := by
  rcases h1.form with ⟨rfl, hl0⟩ | ⟨g, cap, cur, rfl, hpos, hcap, hm, hg, hgg, hcell⟩
  · subst hl0
    obtain rfl := h2.2.2 rfl
    clear h1 h2
    go_enter Tryz.func22, Tryz.ntmps22
    go_wp2
    refine wp_loop_rounds 1 ?_
    rw [rounds_succ]
    go_wp2
    go_ret
    exact ⟨rfl, Below.refl _ _⟩
  · rcases h2.form with ⟨_, h0⟩ | ⟨g2, cap2, cur2, rfl, _, hcap2, hm2, _, hgg2, hcell2⟩
    · subst h0; simp at hpos
    · have C1 := Lib.hid hcell
      have C2 := Lib.hid hcell2
      have HF := Lib.hid hf
      unfold maxLen at hm hm2
      clear hf h1 h2 hcell hcell2 hgg hgg2 hg
      go_enter Tryz.func22, Tryz.ntmps22
      go_wp2
      go_loopw [5] (fun i wr => ∃ k : Nat, k ≤ l.length ∧ i = .int .i64 k ∧ Below w.heap.size w wr) (fun i _ => l.length - (intOf i).toNat)
      case atStart => exact ⟨0, by omega, rfl, Below.refl _ _⟩
      case round =>
        obtain ⟨k, hk, rfl, hB⟩ := hrel
        have B := Lib.hid hB
        clear hB
        by_cases hlt : k < l.length
        · have D1 := C1.out k hlt
          have D2 := C2.out k hlt
          have q := fun (a : Nat) (o : Nat) (x : Value) (h : w.cell? ⟨a, o, none⟩ = some x) => (B.out.cell (p := ⟨a, o, none⟩) (World.block_lt_of_cell? _ _ h)).trans h
          have a0 := q _ _ _ D1.1
          have a1 := q _ _ _ D1.2.1
          have a2 := q _ _ _ D1.2.2.1
          have a3 := q _ _ _ D1.2.2.2.1
          have a4 := q _ _ _ D1.2.2.2.2
          have b0 := q _ _ _ D2.1
          have b1 := q _ _ _ D2.2.1
          have b2 := q _ _ _ D2.2.2.1
          have b3 := q _ _ _ D2.2.2.2.1
          have b4 := q _ _ _ D2.2.2.2.2
          have hfv := HF.out (l[k]'hlt) (List.getElem_mem hlt)
          rw [hfv] at a4 b4
          have i0 : (0 : Int) ≤ (k : Int) := by omega
          have i1 : (k : Int) < (l.length : Int) := by omega
          clear q D1 D2 hfv
          generalize l[k]'hlt = p at *
          go_wp2
          go_quiet ((go_at_call 49; exact Calls.quiet_of_same (sameall_nil _)))
          go_wp2
          go_roundw
          case rel => exact ⟨k + 1, by omega, by go_num, belowN B.out _⟩
          case measure => simp [intOf]; omega
        · obtain rfl : k = l.length := by omega
          clear hlt
          go_wp2
          go_ret
          exact ⟨rfl, B.out⟩
end Go.Proofs.YtafkndhnbnpahaaGreat
/- Law 13: numbers of packets sent; frames of the call's own. -/
namespace Go.Proofs.YtafkndhnbnpahaaGreat
open Go.RowKit
/-- n packets f 0, f 1 .. sent -/
def sends (f : Nat → Pk) (n : Nat) : Rc := ⟨(List.range n).map f, n, -1⟩
theorem sends_zero (f : Nat → Pk) : sends f 0 = ⟨[], 0, -1⟩ := rfl
theorem sends_succ (f : Nat → Pk) (n : Nat) : (sends f n).add (f n) = sends f (n + 1) := by
  unfold sends Rc.add
  simp [List.range_succ]
theorem pick_small (x m : Int) (h0 : 0 ≤ x) (h1 : x < m) : pickF x m = x := by
  unfold pickF
  rw [if_neg (by omega)]
  exact Int.emod_eq_of_lt h0 h1
def spR (v : Value) (l : List (Int × Int)) : Rw := ⟨51, 2, v, l.length, scs l⟩
variable {w0 w : World} {b M : Nat} {R : Rc} {rows : List Rw} {os : List (Nat × Obj)}
/-- the spans of a frame of the call's own, for Ack -/
theorem Lw.spans (h : Lw w0 w b M R rows os) {v : Value} {l : List (Int × Int)} (hx : spR v l ∈ rows) (h0 : 0 < l.length) :
    SpansAt w v l.length (fF l) (fT l) ∧ (∀ g o c, v = .slice (some ⟨g, o, none⟩) l.length c → g ≠ b) ∧ ∃ g c, v = .slice (some ⟨g, 0, none⟩) l.length c := by
  obtain ⟨g, cap, cur, rfl, _, q2, q3⟩ := spans_of_row (h.rows _ hx).1 h0
  refine ⟨q2, fun g' o c e => ?_, _, _, rfl⟩
  cases e
  intro e
  subst e
  have := h.at_.1
  rw [q3] at this
  cases this
theorem Lw.alloc (h : Lw w0 w b M R rows os) (o : Obj) (hc : isC o = true) : Lw w0 (w.alloc o) b M R rows ((w.heap.size, o) :: os) :=
  (h.below ((Below.refl _ w).alloc (Nat.le_refl _) o)).addOb (heap_alloc_new w o) hc (fun e => by have := heap_lt h.at_.1; omega)
/-- RangesFrom beside a Recovery -/
theorem lw_ranges (h : Lw w0 w b M R rows os) {v : Value} {n0 : Nat} {F0 T0 : Nat → Int} (lg : Int) (hA : SpArg w v n0 F0 T0) (hl : -9223372036854775808 ≤ lg) (hl' : lg ≤ 9223372036854775807) (hn0 : n0 ≤ 9223372036854775807) :
    Calls Tryz.prog 21 #[v, .int .i64 lg] w fun e w' => ∃ r l, e = .returned r ∧ RgOk (List.length l) (fF l) (fT l) ∧ fT l 0 = 1 + pickF lg 1073741824 ∧ (∃ a c, r = .slice a l.length c) ∧ Lw w0 w' b M R (spR r l :: rows) os ∧ Below w.heap.size w w' := by
  refine (ranges_any v n0 F0 T0 lg w hA hl hl' hn0).mono ?_
  rintro e w' ⟨r, l, rfl, h1, h2, h3, h4⟩
  have hf : ∃ a c, r = .slice a l.length c := by
    obtain ⟨g, cap, cur, rfl, _⟩ := spans_of_row h2 h1.lo
    exact ⟨_, _, rfl⟩
  exact ⟨r, l, rfl, h1, h3, hf, (h.below h4).addRow (spR r l) (ownsRow_base_a h2 h.bel.size) (show (51 : Nat) ≠ 75 by decide), h4⟩
end Go.Proofs.YtafkndhnbnpahaaGreat
/- Law 13: CallParams as plain data; ackFrom. -/
namespace Go.Proofs.YtafkndhnbnpahaaGreat
open Go.RowKit
/-- a CallParams: sv, fsv: what its slices of spans hold -/
structure Cp where
  kind : Int
  ticks : Int
  size : Int
  sv : Value
  last : Int
  ft : Int
  fa : Int
  fb : Int
  fc : Int
  fs : ByteArray
  fin : Bool
  fsv : Value
  p : Pk
def Cp.cells (c : Cp) : Array Value := #[.int .i64 c.kind, .int .i64 c.ticks, .int .i64 c.size, c.sv, .int .i64 c.last, .int .i64 c.ft, .int .i64 c.fa, .int .i64 c.fb, .int .i64 c.fc, .string c.fs, .bool c.fin, c.fsv,
  .int .i64 c.p.pn, .int .i64 c.p.time, .int .i64 c.p.size, .bool c.p.el, c.p.fv]
def I64 (x : Int) : Prop := -9223372036854775808 ≤ x ∧ x ≤ 9223372036854775807
theorem info34 : (Tryz.prog.info? 34).map (·.size) = some 17 := by kernel_rfl
/-- how large the largest number may be: 1 and more -/
def topF (next last : Int) (late : Bool) : Int := (if late then next + 3 else max next 1) - pickF last (min (if late then next + 3 else max next 1) 12)
theorem topF_range (next last : Int) (late : Bool) (h : 0 ≤ next) : 1 ≤ topF next last late ∧ topF next last late ≤ (if late then next + 3 else max next 1) := by
  unfold topF
  cases late <;> simp only [if_true, Bool.false_eq_true, if_false]
  · have := pickF_range last (min (max next 1) 12) (by omega)
    omega
  · have := pickF_range last (min (next + 3) 12) (by omega)
    omega
variable {w0 w : World} {b M : Nat} {R : Rc} {rows : List Rw} {os : List (Nat × Obj)}
def AfPost (w0 w : World) (b M : Nat) (R : Rc) (rows : List Rw) (os : List (Nat × Obj)) (top : Int) (e : Ending) (w' : World) : Prop :=
  ∃ a c l, e = .returned (.agg (ackE 0 (.slice a (List.length l) c))) ∧ RgOk l.length (fF l) (fT l) ∧ fT l 0 = top ∧ Lw w0 w' b M R (spR (.slice a l.length c) l :: rows) os ∧ Below w.heap.size w w'
theorem grown_setRow (w : World) (k : Nat) (cs : Array Value) : w.grownBy (w.setRow k cs) (some k) :=
  ⟨rfl, rfl, rfl, by simp, fun j _ hr => setRow_other w k j cs (fun e => hr (by rw [e]))⟩
theorem row_apart {W : World} {B n z k : Nat} {e T : TypeId} {v : Value} {xs : List Value} {cs : Array Value} {fz : Nat × Nat} (h : W.ownsRow B e z v n xs) (hk : W.heap[k]? = some (.cells cs T fz)) (hT : T ≠ e) : v.ownBlock ≠ some k := by
  intro e1
  rcases h.2 with ⟨rfl, _⟩ | ⟨g, cap, cur, rfl, hbase, hgg, _⟩
  · simp [Value.ownBlock] at e1
  · simp [Value.ownBlock] at e1
    subst e1
    rw [hgg] at hk
    cases hk
    exact hT rfl
/-- the last step of ackFrom: the frame is stored into the result's own block -/
theorem af_end {w4 : World} {k c : Nat} {a : Option Addr} {l : List (Int × Int)} {cs : Array Value} (H : Lw w0 w b M R rows os) (H4 : Lw w0 w4 b M R (spR (.slice a l.length c) l :: rows) os) (hk : w4.heap[k]? = some (.cells cs 41 (0, 0))) (hw : w.heap.size ≤ k) (hb4 : Below w.heap.size w w4) :
    Lw w0 (w4.setRow k (ackE 0 (.slice a l.length c))) b M R (spR (.slice a l.length c) l :: rows) os ∧ Below w.heap.size w (w4.setRow k (ackE 0 (.slice a l.length c))) := by
  have hg := grown_setRow w4 k (ackE 0 (.slice a l.length c))
  have hb : Below w.heap.size w (w4.setRow k (ackE 0 (.slice a l.length c))) := hb4.grown hg hb4.size (fun j e => by cases e; exact hw)
  have hr : spR (.slice a l.length c) l ∈ spR (.slice a l.length c) l :: rows := by simp
  have hrow : (w4.setRow k (ackE 0 (.slice a l.length c))).ownsRow w0.heap.size 51 2 (.slice a l.length c) l.length (scs l) := by
    have h1 : w4.ownsRow w0.heap.size 51 2 (.slice a l.length c) l.length (scs l) := (H4.rows _ hr).1
    exact h1.kept hg (.inr (row_apart h1 hk (by decide)))
  exact ⟨(H.below hb).addRow (spR _ l) hrow (show (51 : Nat) ≠ 75 by decide), hb⟩
theorem hold_store {P : Program} {ops : Array Oper} {rest : List Oper} {o : Oper} {a : Act} {w : World} {Q : Exit → Act → World → Prop} (ty : TypeId) (x y : Operand) (_ho : o.op = .store ty x y) (h : Hid (wpList P ops Q (o :: rest) a w)) : wpList P ops Q (o :: rest) a w := h.out
set_option maxRecDepth 100000 in
set_option maxHeartbeats 8000000 in
theorem lw_ackfrom (h : Lw w0 w b M R rows os) (c : Cp) {n0 : Nat} {F0 T0 : Nat → Int} (hA : SpArg w c.sv n0 F0 T0) (hl : I64 c.last) (hn0 : n0 ≤ 9223372036854775807) (next : Int) (late : Bool) (h0 : 0 ≤ next) (h1 : next ≤ 100000) (hfs : ∃ a n k, c.fsv = .slice a n k) (hfv : ∃ a n k, c.p.fv = .slice a n k) :
    Calls Tryz.prog 16 #[.agg c.cells, .int .i64 next, .bool late] w (AfPost w0 w b M R rows os (topF next c.last late)) := by
  have tr := topF_range next c.last late h0
  have TP := Lib.hid (show topF next c.last late = (if late then next + 3 else max next 1) - pickF c.last (min (if late then next + 3 else max next 1) 12) from rfl)
  obtain ⟨a0, cap0, hsv, _⟩ := id hA
  obtain ⟨x1, x2, x3, hfs⟩ := hfs
  obtain ⟨y1, y2, y3, hfv⟩ := hfv
  have HA := Lib.hid hA
  obtain ⟨kind, ticks, size, sv, last, ft, fa, fb, fc, fs, fin, fsv, ⟨pn, time, psize, el, fv⟩⟩ := c
  simp only at hsv hfs hfv TP tr hl
  subst hsv hfs hfv
  simp only [Cp.cells]
  have H := Lib.hid h
  have X := Lib.hid ((h.alloc (.cells #[.int .i64 kind, .int .i64 ticks, .int .i64 size, .slice a0 n0 cap0, .int .i64 last, .int .i64 ft, .int .i64 fa, .int .i64 fb, .int .i64 fc, .string fs, .bool fin, .slice x1 x2 x3, .int .i64 pn, .int .i64 time, .int .i64 psize, .bool el, .slice y1 y2 y3] 34) rfl).alloc
    (.cells #[.int .i64 0, .int .i64 0, .int .i64 0, .string ⟨#[]⟩, .bool false, .int .i64 0, .int .i64 0, .bool false, .int .i64 0, .slice none 0 0, .int .i64 0, .int .i64 0, .string ⟨#[]⟩] 41) rfl)
  rw [World.size_alloc] at X
  have BX := Lib.hid (show Below w.heap.size w ((w.alloc (.cells #[.int .i64 kind, .int .i64 ticks, .int .i64 size, .slice a0 n0 cap0, .int .i64 last, .int .i64 ft, .int .i64 fa, .int .i64 fb, .int .i64 fc, .string fs, .bool fin, .slice x1 x2 x3, .int .i64 pn, .int .i64 time, .int .i64 psize, .bool el, .slice y1 y2 y3] 34)).alloc (.cells #[.int .i64 0, .int .i64 0, .int .i64 0, .string ⟨#[]⟩, .bool false, .int .i64 0, .int .i64 0, .bool false, .int .i64 0, .slice none 0 0, .int .i64 0, .int .i64 0, .string ⟨#[]⟩] 41)) from ((Below.refl _ w).alloc (Nat.le_refl _) _).alloc (by simp) _)
  clear h hA
  cases late with
  | false =>
    simp only [Bool.false_eq_true, if_false] at TP tr
    obtain ⟨n, hn⟩ : ∃ n, n = max next 1 := ⟨_, rfl⟩
    have hn1 : 1 ≤ n := by omega
    have hn2 : n ≤ 100010 := by omega
    obtain ⟨m, hm⟩ : ∃ m, m = min n 12 := ⟨_, rfl⟩
    have hm1 : 1 ≤ m := by omega
    have hm2 : m ≤ 12 := by omega
    rw [← hn, ← hm] at TP
    rw [← hn] at tr
    have P := Lib.hid (fun w => pick_any last m w hl.1 hl.2 (by omega) (by omega))
    have pr := pickF_range last m (by omega)
    generalize pickF last m = back at *
    have hn' := hn.symm
    have hm' := hm.symm
    have ht := Lib.hid (show 1 + pickF (n - 1 - back) 1073741824 = topF next last false from by rw [pick_small _ _ (by omega) (by omega), TP.out]; omega)
    clear hn hm tr
    go_enter Tryz.func16, Tryz.ntmps16
    go_wp2_with (go_at_call 13; refine (P.out _).mono ?_; rintro e w' ⟨rfl, rfl⟩)
    refine (lw_ranges X.out (n - 1 - back) (HA.out.below BX.out) (by omega) (by omega) hn0).mono ?_
    rintro e w4 ⟨r, l, rfl, hok, htop, ⟨ra, rc, hrf⟩, h4, hb4⟩
    subst hrf
    have HQ := Lib.hid (h4.at List.mem_cons_self)
    have H4 := Lib.hid (And.intro (h4.sub (rows' := spR (.slice ra l.length rc) l :: rows) (os' := os) (by simp) (by intro x hx; simp [hx])) (And.intro hok (And.intro htop (BX.out.trans (hb4.mono BX.out.size)))))
    clear h4 hok htop hb4
    go_wp2_with ((with_reducible refine hold_store 41 _ _ rfl ?_))
    refine Lib.hid ?_
    refine wpList_store_row rfl 41 _ _ rfl (w.heap.size + 1) _ rfl rfl 41 _ HQ.out size41 rfl (by simp [Value.oneCell']) ?_
    go_wp2
    have EN := af_end H.out H4.out.1 HQ.out (by omega) H4.out.2.2.2
    refine bodyPost_ret (v := .agg (ackE 0 (.slice ra l.length rc))) (results_cell_row rfl _ _ (w.heap.size + 1) 41 _ (0, 0) _ rfl (setRow_heap _ _ _ _ _ _ HQ.out) Tryz.underlying41 rfl size41) rfl ?_
    exact ⟨ra, rc, l, rfl, H4.out.2.1, by rw [H4.out.2.2.1]; exact ht.out, EN.1, EN.2⟩
  | true =>
    simp only [if_true] at TP tr
    obtain ⟨n, hn⟩ : ∃ n, n = next + 3 := ⟨_, rfl⟩
    have hn1 : 1 ≤ n := by omega
    have hn2 : n ≤ 100010 := by omega
    obtain ⟨m, hm⟩ : ∃ m, m = min n 12 := ⟨_, rfl⟩
    have hm1 : 1 ≤ m := by omega
    have hm2 : m ≤ 12 := by omega
    rw [← hn, ← hm] at TP
    rw [← hn] at tr
    have P := Lib.hid (fun w => pick_any last m w hl.1 hl.2 (by omega) (by omega))
    have pr := pickF_range last m (by omega)
    generalize pickF last m = back at *
    have hn' := hn.symm
    have hm' := hm.symm
    have ht := Lib.hid (show 1 + pickF (n - 1 - back) 1073741824 = topF next last true from by rw [pick_small _ _ (by omega) (by omega), TP.out]; omega)
    clear hn hm tr
    go_enter Tryz.func16, Tryz.ntmps16
    go_wp2_with (go_at_call 13; refine (P.out _).mono ?_; rintro e w' ⟨rfl, rfl⟩)
    refine (lw_ranges X.out (n - 1 - back) (HA.out.below BX.out) (by omega) (by omega) hn0).mono ?_
    rintro e w4 ⟨r, l, rfl, hok, htop, ⟨ra, rc, hrf⟩, h4, hb4⟩
    subst hrf
    have HQ := Lib.hid (h4.at List.mem_cons_self)
    have H4 := Lib.hid (And.intro (h4.sub (rows' := spR (.slice ra l.length rc) l :: rows) (os' := os) (by simp) (by intro x hx; simp [hx])) (And.intro hok (And.intro htop (BX.out.trans (hb4.mono BX.out.size)))))
    clear h4 hok htop hb4
    go_wp2_with ((with_reducible refine hold_store 41 _ _ rfl ?_))
    refine Lib.hid ?_
    refine wpList_store_row rfl 41 _ _ rfl (w.heap.size + 1) _ rfl rfl 41 _ HQ.out size41 rfl (by simp [Value.oneCell']) ?_
    go_wp2
    have EN := af_end H.out H4.out.1 HQ.out (by omega) H4.out.2.2.2
    refine bodyPost_ret (v := .agg (ackE 0 (.slice ra l.length rc))) (results_cell_row rfl _ _ (w.heap.size + 1) 41 _ (0, 0) _ rfl (setRow_heap _ _ _ _ _ _ HQ.out) Tryz.underlying41 rfl size41) rfl ?_
    exact ⟨ra, rc, l, rfl, H4.out.2.1, by rw [H4.out.2.2.1]; exact ht.out, EN.1, EN.2⟩
end Go.Proofs.YtafkndhnbnpahaaGreat
/- Law 13: plain laws on what is left behind ACK frames. -/
namespace Go.Proofs.YtafkndhnbnpahaaGreat
theorem acked_sub (R : Rc) (n : Nat) (F T : Nat → Int) (now d : Int) : ∀ p ∈ (R.acked n F T now d).l, p ∈ R.l ∧ akF n F T p = false ∧ exF (max R.lg (T 0 - 1)) now d p = false := by
  intro p hp
  obtain ⟨h1, h2⟩ := List.mem_filter.1 hp
  obtain ⟨h3, h4⟩ := List.mem_filter.1 h1
  exact ⟨h3, by simpa using h4, by simpa [Rc.ack] using h2⟩
/-- the same frame again: nothing is acknowledged, nothing lost -/
theorem acked_again (R : Rc) (n : Nat) (F T : Nat → Int) (now d : Int) :
    (R.acked n F T now d).l.filter (akF n F T) = [] ∧ (R.acked n F T now d).lostA n F T now d = [] ∧ (R.acked n F T now d).acked n F T now d = R.acked n F T now d := by
  have h := acked_sub R n F T now d
  have hlg : (R.acked n F T now d).lg = max R.lg (T 0 - 1) := rfl
  have e : max (max R.lg (T 0 - 1)) (T 0 - 1) = max R.lg (T 0 - 1) := by omega
  generalize R.acked n F T now d = Q at *
  have ha : Q.l.filter (akF n F T) = [] := List.filter_eq_nil_iff.2 (fun p hp => by simp [(h p hp).2.1])
  have hk : Q.l.filter (fun p => !akF n F T p) = Q.l := List.filter_eq_self.2 (fun p hp => by simp [(h p hp).2.1])
  have hack : Q.ack n F T = Q := by
    unfold Rc.ack Rc.cut
    rw [hk, hlg, e, ← hlg]
  refine ⟨ha, ?_, ?_⟩
  · unfold Rc.lostA
    rw [hack]
    exact List.filter_eq_nil_iff.2 (fun p hp => by rw [hlg]; simp [(h p hp).2.2])
  · unfold Rc.acked
    rw [hack]
    unfold Rc.cut
    rw [List.filter_eq_self.2 (fun p hp => by rw [hlg]; simp [(h p hp).2.2])]
theorem inF_zero {n : Nat} {F T : Nat → Int} (h : RgOk n F T) : inF n F T (T 0 - 1) = true := by
  have := (h.at_ 0 h.lo).2.1
  exact List.any_eq_true.2 ⟨0, List.mem_range.2 h.lo, by simp only [spF, Bool.and_eq_true, decide_eq_true_eq]; omega⟩
theorem sends_has (f : Nat → Pk) (n : Nat) (g : Pk → Bool) (i : Nat) (hi : i < n) (hg : g (f i) = true) : (sends f n).l.filter g ≠ [] := by
  intro h
  have := List.filter_eq_nil_iff.1 h (f i) (List.mem_map.2 ⟨i, List.mem_range.2 hi, rfl⟩)
  exact this hg
open Go.RowKit
/-- New beside blocks of the call's own -/
theorem lw_new2 {w0 w : World} (hb : Below w0.heap.size w0 w) (os : List (Nat × Obj)) (ho : ∀ x ∈ os, w.heap[x.1]? = some x.2 ∧ isC x.2 = true) : Calls Tryz.prog 12 #[] w fun e w' => ∃ b M, e = .returned (.pointer (some ⟨b, 0, none⟩)) ∧ Lw w0 w' b M ⟨[], 0, -1⟩ [] os ∧ Below w.heap.size w w' := by
  refine (new_any w).mono ?_
  rintro e w' ⟨b, M, rfl, h1, h2, h3, h4⟩
  exact ⟨b, M, rfl, ⟨hb.trans (h4.mono hb.size), h3, ⟨⟨by simp, by simp, by simp⟩, by decide, by decide, by decide, by decide, by decide, by simp⟩, by simp, Nat.le_trans hb.size h1, Nat.le_trans hb.size h2, by simp,
    fun x hx => ⟨heap_below h4 (ho x hx).1, (ho x hx).2, by have := heap_lt (ho x hx).1; omega⟩⟩, h4⟩
end Go.Proofs.YtafkndhnbnpahaaGreat
/- Law 13: plain laws for LossDeadline. -/
namespace Go.Proofs.YtafkndhnbnpahaaGreat
open Go.RowKit
theorem mnT_le (h : Int) (l : List Pk) : mnT h l ≤ h ∧ ∀ p ∈ l, mnT h l ≤ p.time := by
  induction l generalizing h with
  | nil => exact ⟨Int.le_refl _, by simp⟩
  | cons p l ih =>
    have := ih (min h p.time)
    show mnT (min h p.time) l ≤ h ∧ ∀ q ∈ p :: l, mnT (min h p.time) l ≤ q.time
    refine ⟨by omega, fun q hq => ?_⟩
    rcases List.mem_cons.1 hq with rfl | hq
    · omega
    · exact this.2 q hq
theorem mnT_has (h : Int) (l : List Pk) : mnT h l = h ∨ ∃ p ∈ l, mnT h l = p.time := by
  induction l generalizing h with
  | nil => exact .inl rfl
  | cons p l ih =>
    have e : mnT h (p :: l) = mnT (min h p.time) l := rfl
    rcases ih (min h p.time) with h1 | ⟨q, hq, h1⟩
    · rw [e, h1]
      rcases Int.le_total h p.time with h2 | h2
      · left; omega
      · right; exact ⟨p, by simp, by omega⟩
    · right; rw [e]; exact ⟨q, by simp [hq], h1⟩
/-- the deadline is the least time and the delay -/
theorem dead_is {l : List Pk} (d : Int) (hne : l ≠ []) : ∃ m, deadT l d = m + d ∧ (∀ p ∈ l, m ≤ p.time) ∧ ∃ p ∈ l, p.time = m := by
  cases l with
  | nil => exact absurd rfl hne
  | cons p t =>
    refine ⟨mnT p.time (p :: t), rfl, (mnT_le p.time (p :: t)).2, ?_⟩
    rcases mnT_has p.time (p :: t) with h | ⟨q, hq, h⟩
    · exact ⟨p, by simp, h.symm⟩
    · exact ⟨q, hq, h.symm⟩
/-- when nothing is left that is lost by its number: what the deadline says -/
theorem dead_law {R : Rc} (now d : Int) (hex : ∀ p ∈ R.l, exF R.lg now d p = false) (hne : R.l.filter (dlF R.lg) ≠ []) (hd : 200 ≤ d) (htm : ∀ p ∈ R.l, 0 ≤ p.time ∧ p.time ≤ 1000000) (hd2 : d ≤ 1000000) :
    ∃ t, deadT (R.l.filter (dlF R.lg)) d = t ∧ d ≤ t ∧ t ≤ 2000000 ∧ R.l.filter (exF R.lg (t - 1) d) = [] ∧ R.cut (exF R.lg (t - 1) d) = R ∧ R.l.filter (exF R.lg t d) ≠ [] ∧ ∀ p ∈ R.l.filter (exF R.lg t d), p.time + d ≤ t ∧ p.pn < R.lg := by
  obtain ⟨m, h1, h2, p0, hp0, hp1⟩ := dead_is d hne
  obtain ⟨hm1, hm2⟩ := List.mem_filter.1 hp0
  have hlow : ∀ p ∈ R.l, p.pn < R.lg → ¬ (p.pn + 3 ≤ R.lg) := fun p hp h hc => by
    have := hex p hp
    simp [exF, h, hc] at this
  have hb0 := htm p0 hm1
  have hz : ∀ p ∈ R.l, exF R.lg (m + d - 1) d p = false := fun p hp => by
    by_cases hl : p.pn < R.lg
    · have h3 := hlow p hp hl
      have h4 := h2 p (List.mem_filter.2 ⟨hp, by simpa [dlF] using hl⟩)
      have h5 : ¬ (p.time ≤ m + d - 1 - d) := by omega
      simp [exF, hl, h3, h5]
    · simp [exF, hl]
  refine ⟨m + d, h1, by omega, by omega, List.filter_eq_nil_iff.2 (fun p hp => by simp [hz p hp]), ?_, ?_, ?_⟩
  · unfold Rc.cut
    rw [List.filter_eq_self.2 (fun p hp => by simp [hz p hp])]
  · intro h
    have := List.filter_eq_nil_iff.1 h p0 hm1
    have hl : p0.pn < R.lg := by simpa [dlF] using hm2
    exact this (by simp only [exF, Bool.and_eq_true, decide_eq_true_eq, Bool.or_eq_true]; omega)
  · intro p hp
    obtain ⟨h3, h4⟩ := List.mem_filter.1 hp
    simp only [exF, Bool.and_eq_true, decide_eq_true_eq, Bool.or_eq_true] at h4
    have := hlow p h3 h4.1
    omega
/-- the time at which packet k - 1 is sent -/
def cumT (z : Nat → Int) : Nat → Int
  | 0 => 0
  | k + 1 => cumT z k + pickF (z k) 9
theorem cumT_bnd (z : Nat → Int) (k : Nat) : 0 ≤ cumT z k ∧ cumT z k ≤ 9 * k := by
  induction k with
  | zero => exact ⟨Int.le_refl _, by simp [cumT]⟩
  | succ k ih =>
    have := pickF_range (z k) 9 (by decide)
    simp only [cumT]
    omega
end Go.Proofs.YtafkndhnbnpahaaGreat
