/- Law 13: a nil Recovery; numbers. -/
import Derived.Test.YtafkndhnbnpahaaGreatZd
namespace Go.Proofs.YtafkndhnbnpahaaGreat
open Go.RowKit Go.Maps
set_option maxRecDepth 100000 in
set_option maxHeartbeats 2000000 in
theorem sent_none (p : Pk) (w : World) : Calls Tryz.prog 20 #[.pointer none, p.val] w fun e w' => e = .returned (.int .i64 1) ∧ Below w.heap.size w w' := by
  simp only [Pk.val, Pk.cells]
  go_enter Tryz.func20, Tryz.ntmps20
  go_wp2
  go_ret
  exact ⟨rfl, (Below.refl _ _).alloc (Nat.le_refl _) _⟩
set_option maxRecDepth 100000 in
set_option maxHeartbeats 2000000 in
theorem acked_none (w : World) : Calls Tryz.prog 19 #[.pointer none] w fun e w' => e = .returned (.int .i64 (-1)) ∧ w = w' := by
  go_enter Tryz.func19, Tryz.ntmps19
  go_wp2
  go_ret
  exact ⟨rfl, rfl⟩
set_option maxRecDepth 100000 in
set_option maxHeartbeats 2000000 in
theorem next_none (w : World) : Calls Tryz.prog 17 #[.pointer none] w fun e w' => e = .returned (.int .i64 0) ∧ w = w' := by
  go_enter Tryz.func17, Tryz.ntmps17
  go_wp2
  go_ret
  exact ⟨rfl, rfl⟩
theorem sel_none {w : World} {k : Nat} {lb : Array Value} (ek : ∀ args w, (callFunc k args).run Tryz.prog w = .ok (.enter k args) w) :
    Calls Tryz.prog 44 #[.func (.func 67) #[] #[.pointer (some ⟨w.heap.size, 0, none⟩)], .func (.func k) #[] lb] (w.alloc (.cells #[.pointer none] 24)) fun e w' => e = .returned (.slice none 0 0) ∧ Below w.heap.size w w' :=
  (sel_nil (fun _ => true) ek).mono fun e w' h => by
    obtain ⟨v, rfl, h1, h2⟩ := h
    exact ⟨by rw [h1.2.2 rfl], h2⟩
set_option maxRecDepth 100000 in
set_option maxHeartbeats 2000000 in
theorem dead_none (d : Int) (w : World) : Calls Tryz.prog 23 #[.pointer none, .int .i64 d] w fun e w' => e = .returned (.int .i64 (-1)) ∧ Below w.heap.size w w' := by
  have X := Lib.hid (box1 w (.cells #[.pointer none] 24))
  have SEL := Lib.hid (sel_none (w := w.alloc (.cells #[.pointer none] 24)) (k := 50) (lb := #[.pointer (some ⟨w.heap.size, 0, none⟩)]) ek50)
  rw [World.size_alloc] at SEL
  have hmf := mkf
  have x0 := at_whole X.out.1 0 rfl
  simp only [List.getElem_toArray, List.getElem_cons_zero] at x0
  go_enter Tryz.func23, Tryz.ntmps23
  go_wp2_with (first | (go_at_call 45; refine (all_any _ _).mono ?_; rintro e w' ⟨rfl, rfl⟩) | (go_at_call 44; refine SEL.out.mono ?_; rintro e w1 ⟨rfl, hb1⟩))
  go_ret
  exact ⟨rfl, X.out.2.1.trans (hb1.mono (by omega))⟩
set_option maxRecDepth 100000 in
set_option maxHeartbeats 2000000 in
theorem last_none (w : World) : Calls Tryz.prog 33 #[.pointer none] w fun e w' => e = .returned (.int .i64 (-1)) ∧ Below w.heap.size w w' := by
  have SEL := Lib.hid (sel_none (w := w) (k := 57) (lb := #[]) ek57)
  go_enter Tryz.func33, Tryz.ntmps33
  go_wp2_with (first | (go_at_call 45; refine (all_any _ _).mono ?_; rintro e w' ⟨rfl, rfl⟩) | (go_at_call 44; refine SEL.out.mono ?_; rintro e w1 ⟨rfl, hb1⟩))
  go_ret
  exact ⟨rfl, hb1⟩
set_option maxRecDepth 100000 in
set_option maxHeartbeats 2000000 in
theorem out_none (w : World) : Calls Tryz.prog 18 #[.pointer none] w fun e w' => e = .returned (.slice none 0 0) ∧ Below w.heap.size w w' := by
  have SEL := Lib.hid (sel_none (w := w) (k := 46) (lb := #[]) ek46)
  go_enter Tryz.func18, Tryz.ntmps18
  go_wp2_with (first | (go_at_call 45; refine (all_any _ _).mono ?_; rintro e w' ⟨rfl, rfl⟩) | (go_at_call 44; refine SEL.out.mono ?_; rintro e w1 ⟨rfl, hb1⟩))
  refine wp_loop_rounds 1 ?_
  rw [rounds_succ]
  go_wp2
  go_ret
  exact ⟨rfl, hb1⟩
set_option maxRecDepth 100000 in
set_option maxHeartbeats 2000000 in
theorem rem_none (k : Nat) (lb : Array Value) (ek : ∀ args w, (callFunc k args).run Tryz.prog w = .ok (.enter k args) w) (w : World) : Calls Tryz.prog 38 #[.pointer none, .func (.func k) #[] lb] w fun e w' => e = .returned (.slice none 0 0) ∧ Below w.heap.size w w' := by
  have SEL := Lib.hid (sel_none (w := w) (k := k) (lb := lb) ek)
  go_enter Tryz.func38, Tryz.ntmps38
  go_wp2_with (first | (go_at_call 45; refine (all_any _ _).mono ?_; rintro e w' ⟨rfl, rfl⟩) | (go_at_call 44; refine SEL.out.mono ?_; rintro e w1 ⟨rfl, hb1⟩))
  refine wp_loop_rounds 1 ?_
  rw [rounds_succ]
  go_wp2
  go_ret
  exact ⟨rfl, hb1⟩
set_option maxRecDepth 100000 in
set_option maxHeartbeats 2000000 in
theorem discard_none (w : World) : Calls Tryz.prog 27 #[.pointer none] w fun e w' => e = .returned (.slice none 0 0) ∧ Below w.heap.size w w' := by
  have REM := Lib.hid (rem_none 52 #[] ek52)
  go_enter Tryz.func27, Tryz.ntmps27
  go_wp2_with (go_at_call 38; refine (REM.out _).mono ?_; rintro e w1 ⟨rfl, h1⟩)
  go_ret
  exact ⟨rfl, h1⟩
set_option maxRecDepth 100000 in
set_option maxHeartbeats 2000000 in
theorem expire_none (now d : Int) (w : World) : Calls Tryz.prog 14 #[.pointer none, .int .i64 now, .int .i64 d] w fun e w' => e = .returned (.slice none 0 0) ∧ Below w.heap.size w w' := by
  have X := Lib.hid (box3 w (.cells #[.pointer none] 24) (.cells #[.int .i64 now] 3) (.cells #[.int .i64 d] 3))
  have REM := Lib.hid (rem_none 39 #[.pointer (some ⟨w.heap.size, 0, none⟩), .pointer (some ⟨w.heap.size + 1, 0, none⟩), .pointer (some ⟨w.heap.size + 1 + 1, 0, none⟩)] ek39)
  have hmf := mkf
  cases a1 : decide (now < 0) with
  | true =>
    go_enter Tryz.func14, Tryz.ntmps14
    go_wp2
    go_ret
    exact ⟨rfl, X.out.2.2.2.1⟩
  | false =>
    cases a2 : decide (d < 0) with
    | true =>
      go_enter Tryz.func14, Tryz.ntmps14
      go_wp2
      go_ret
      exact ⟨rfl, X.out.2.2.2.1⟩
    | false =>
      go_enter Tryz.func14, Tryz.ntmps14
      go_wp2_with (go_at_call 38; refine (REM.out _).mono ?_; rintro e w1 ⟨rfl, h1⟩)
      go_ret
      exact ⟨rfl, btrans X.out.2.2.2.1 h1⟩
set_option maxRecDepth 100000 in
set_option maxHeartbeats 2000000 in
theorem ack_none (now d dl : Int) (a : Option Addr) (n c : Nat) (w : World) : Calls Tryz.prog 15 #[.pointer none, .int .i64 now, .agg (ackE dl (.slice a n c)), .int .i64 d] w fun e w' => e = .returned (.tuple #[.slice none 0 0, .slice none 0 0, .int .i64 1]) ∧ Below w.heap.size w w' := by
  unfold ackE
  go_enter Tryz.func15, Tryz.ntmps15
  go_wp2
  go_ret3
  exact ⟨rfl, (Below.refl _ _).alloc (Nat.le_refl _) _⟩
set_option maxRecDepth 100000 in
set_option maxHeartbeats 2000000 in
theorem num_one {B : Nat} {v : Value} {p : Pk} {w : World} (h : PkRow B w v [p]) (hp : p.pn = 4) : Calls Tryz.prog 37 #[v] w fun e w' => e = .returned (.int .i64 16) ∧ Below w.heap.size w w' := by
  rcases h.form with ⟨_, h0⟩ | ⟨g, cap, cur, rfl, hpos, hcap, hm, hg, hgg, hcell⟩
  · cases h0
  · have c0 := (hcell 0 (by simp)).1
    simp only [List.getElem_cons_zero, hp, Nat.zero_mul] at c0
    have P : Hid (∀ w, Calls Tryz.prog 13 #[.int .i64 4, .int .i64 61] w fun e w' => e = .returned (.int .i64 4) ∧ w = w') := Lib.hid (fun w => pick_any 4 61 w (by decide) (by decide) (by decide) (by decide))
    unfold maxLen at hm
    simp only [List.length_cons, List.length_nil, Nat.zero_add] at hcap ⊢
    clear h hcell hgg
    go_enter Tryz.func37, Tryz.ntmps37
    go_wp2
    refine wp_loop_rounds 2 ?_
    rw [rounds_succ]
    go_wp2_with (go_at_call 13; refine (P.out _).mono ?_; rintro e w' ⟨rfl, rfl⟩)
    rw [rounds_succ]
    go_wp2
    go_ret
    exact ⟨rfl, Below.refl _ _⟩
set_option maxRecDepth 100000 in
set_option maxHeartbeats 2000000 in
theorem num_two {B : Nat} {v : Value} {p q : Pk} {w : World} (h : PkRow B w v [p, q]) (x y r : Int) (hp : p.pn = x) (hq : q.pn = y) (hx : (x = 0 ∧ y = 1 ∧ r = 3) ∨ (x = 2 ∧ y = 3 ∧ r = 12)) : Calls Tryz.prog 37 #[v] w fun e w' => e = .returned (.int .i64 r) ∧ Below w.heap.size w w' := by
  rcases h.form with ⟨_, h0⟩ | ⟨g, cap, cur, rfl, hpos, hcap, hm, hg, hgg, hcell⟩
  · cases h0
  · have c0 := (hcell 0 (by simp)).1
    have c1 := (hcell 1 (by simp)).1
    simp only [List.getElem_cons_zero, List.getElem_cons_succ, hp, hq, Nat.zero_mul, Nat.one_mul] at c0 c1
    unfold maxLen at hm
    simp only [List.length_cons, List.length_nil, Nat.zero_add, Nat.reduceAdd] at hcap ⊢
    clear h hcell hgg hp hq
    rcases hx with ⟨rfl, rfl, rfl⟩ | ⟨rfl, rfl, rfl⟩
    · have P : Hid (∀ w, Calls Tryz.prog 13 #[.int .i64 0, .int .i64 61] w fun e w' => e = .returned (.int .i64 0) ∧ w = w') := Lib.hid (fun w => pick_any 0 61 w (by decide) (by decide) (by decide) (by decide))
      have Q : Hid (∀ w, Calls Tryz.prog 13 #[.int .i64 1, .int .i64 61] w fun e w' => e = .returned (.int .i64 1) ∧ w = w') := Lib.hid (fun w => pick_any 1 61 w (by decide) (by decide) (by decide) (by decide))
      go_enter Tryz.func37, Tryz.ntmps37
      go_wp2
      refine wp_loop_rounds 3 ?_
      rw [rounds_succ]
      go_wp2_with (go_at_call 13; refine (P.out _).mono ?_; rintro e w' ⟨rfl, rfl⟩)
      rw [rounds_succ]
      go_wp2_with (go_at_call 13; refine (Q.out _).mono ?_; rintro e w' ⟨rfl, rfl⟩)
      rw [rounds_succ]
      go_wp2
      go_ret
      exact ⟨rfl, Below.refl _ _⟩
    · have P : Hid (∀ w, Calls Tryz.prog 13 #[.int .i64 2, .int .i64 61] w fun e w' => e = .returned (.int .i64 2) ∧ w = w') := Lib.hid (fun w => pick_any 2 61 w (by decide) (by decide) (by decide) (by decide))
      have Q : Hid (∀ w, Calls Tryz.prog 13 #[.int .i64 3, .int .i64 61] w fun e w' => e = .returned (.int .i64 3) ∧ w = w') := Lib.hid (fun w => pick_any 3 61 w (by decide) (by decide) (by decide) (by decide))
      go_enter Tryz.func37, Tryz.ntmps37
      go_wp2
      refine wp_loop_rounds 3 ?_
      rw [rounds_succ]
      go_wp2_with (go_at_call 13; refine (P.out _).mono ?_; rintro e w' ⟨rfl, rfl⟩)
      rw [rounds_succ]
      go_wp2_with (go_at_call 13; refine (Q.out _).mono ?_; rintro e w' ⟨rfl, rfl⟩)
      rw [rounds_succ]
      go_wp2
      go_ret
      exact ⟨rfl, Below.refl _ _⟩
end Go.Proofs.YtafkndhnbnpahaaGreat
