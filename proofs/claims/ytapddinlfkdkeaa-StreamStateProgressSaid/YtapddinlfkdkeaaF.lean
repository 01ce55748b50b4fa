import Derived.Test.YtapddinlfkdkeaaE
import Derived.Outline
import Derived.BigQuiet
import Derived.Deep.QuietTactic
namespace Go.Proofs
open Go.RowKit Go.Shelf
def rQ (s v : Int) : Int × Int := if s < 0 ∨ 5 < s then (0,180) else if (s ≠ 0 ∧ v = 6) ∨ (2 ≤ s ∧ v = 9) then (s, 0) else if s = 0 ∧ v = 6 then (1,0) else if s ≤ 1 ∧ v = 9 then (3,0) else if s = 1 ∧ v = 7 then (2,0) else if s = 2 ∧ v = 8 then (4,0) else if s = 3 ∧ v = 10 then (5,0) else (0,180)
theorem rF_eq (s v : Int) : rF s v = rQ s v := by
  simp only [rF, recvTab, bh_cons, bh_nil, rQ]
  by_cases h : s < 0 ∨ 5 < s
  · rw [if_pos h, if_neg (by omega), if_neg (by omega), if_neg (by omega), if_neg (by omega), if_neg (by omega), if_neg (by omega), if_neg (by omega), if_neg (by omega), if_neg (by omega), if_neg (by omega), if_neg (by omega), if_neg (by omega), if_neg (by omega), if_neg (by omega)]
  · rw [if_neg h]
    have : s = 0 ∨ s = 1 ∨ s = 2 ∨ s = 3 ∨ s = 4 ∨ s = 5 := by omega
    clear h
    rcases this with rfl | rfl | rfl | rfl | rfl | rfl
    all_goals
      by_cases a : v = 6
      · subst a; rfl
      by_cases b : v = 7
      · subst b; rfl
      by_cases c : v = 8
      · subst c; rfl
      by_cases d : v = 9
      · subst d; rfl
      by_cases e : v = 10
      · subst e; rfl
      simp [a, b, c, d, e]
set_option maxHeartbeats 2000000 in
theorem refRecv_any (s v : Int) (w : World) : Calls Try.prog 12 #[.int .i64 s, .int .i64 v] w fun e w' => e = .returned (.tuple #[.int .i64 (rF s v).1, .int .i64 (rF s v).2]) ∧ w = w' := by
  rw [rF_eq]
  go_enter Try.func12, Try.ntmps12
  go_wp2
  all_goals (go_ret2; refine RES2 ?_ rfl)
  all_goals simp only [rQ, beq_iff_eq, beq_eq_false_iff_ne, bne_iff_ne, bne_eq_false_iff_eq, ne_eq] at *
  all_goals (repeat' split)
  all_goals first | (exfalso; omega) | rfl | (exfalso; simp_all; done) | (exfalso; simp_all; omega)
theorem btrans {a b c : World} (h : Below a.heap.size a b) (k : Below b.heap.size b c) : Below a.heap.size a c := h.trans (k.mono h.size)
theorem bcell {W w1 : World} (hb : Below W.heap.size W w1) : (∀ b o, b < W.heap.size → w1.cell? ⟨b, o, none⟩ = W.cell? ⟨b, o, none⟩) ∧ (∀ b o, b < W.heap.size → w1.frozen? ⟨b, o, none⟩ = W.frozen? ⟨b, o, none⟩) :=
  ⟨fun b o h => hb.cell (p := ⟨b, o, none⟩) h, fun b o h => hb.frozen (p := ⟨b, o, none⟩) h⟩
theorem send_c (s v a b : Int) (h : sF s v = (a, b)) (w : World) : Calls Try.prog 9 #[.int .i64 s, .int .i64 v] w fun e w' => e = .returned (.tuple #[.int .i64 a, .int .i64 b]) ∧ Below w.heap.size w w' := by
  have := send_any s v w; rw [h] at this; exact this
theorem recv_c (s v a b : Int) (h : rF s v = (a, b)) (w : World) : Calls Try.prog 11 #[.int .i64 s, .int .i64 v] w fun e w' => e = .returned (.tuple #[.int .i64 a, .int .i64 b]) ∧ Below w.heap.size w w' := by
  have := recv_any s v w; rw [h] at this; exact this
theorem sdone_c (s : Int) (b : Bool) (h : sdF s = b) (w : World) : Calls Try.prog 13 #[.int .i64 s] w fun e w' => e = .returned (.bool b) ∧ w = w' := by
  have := sendDone_any s w; rw [h] at this; exact this
theorem rdone_c (s : Int) (b : Bool) (h : sdF s = b) (w : World) : Calls Try.prog 15 #[.int .i64 s] w fun e w' => e = .returned (.bool b) ∧ w = w' := by
  have := recvDone_any s w; rw [h] at this; exact this
set_option maxHeartbeats 1000000 in
theorem sane_any (w : World) : Calls Try.prog 7 #[] w fun e w' => e = .returned (.bool true) ∧ Below w.heap.size w w' := by
  go_enter Try.func7, Try.ntmps7
  go_wp2_with (first | (go_at_call 9; (first | (with_reducible refine (send_c 0 2 2 0 rfl _).mono ?_) | (with_reducible refine (send_c 2 3 4 0 rfl _).mono ?_) | (with_reducible refine (send_c 9 1 0 180 rfl _).mono ?_)); rintro e w' ⟨rfl, hb⟩) | (go_at_call 11; (first | (with_reducible refine (recv_c 0 8 0 180 rfl _).mono ?_) | (with_reducible refine (recv_c 0 9 3 0 rfl _).mono ?_) | (with_reducible refine (recv_c 3 10 5 0 rfl _).mono ?_)); rintro e w' ⟨rfl, hb⟩) | (go_at_call 13; (first | (with_reducible refine (sdone_c 4 true rfl _).mono ?_) | (with_reducible refine (sdone_c 2 false rfl _).mono ?_)); rintro e w' ⟨rfl, rfl⟩) | (go_at_call 15; (first | (with_reducible refine (rdone_c 5 true rfl _).mono ?_) | (with_reducible refine (rdone_c 3 false rfl _).mono ?_)); rintro e w' ⟨rfl, rfl⟩))
  go_ret
  exact ⟨rfl, by repeat (first | exact Below.refl _ _ | assumption | refine btrans ?_ (by assumption))⟩
end Go.Proofs
