import Derived.Test.YtapddinlfkdkeaaP
import Derived.BigGuardPart
import Derived.Test.YtapddinlfkdkeaaAppend
import Derived.Deep.RegionHeld3
import Derived.Deep.AppendLies
namespace Go.Proofs.Ytapddinlfkdkeaa
open Go.RowKit Go.Shelf Go.Proofs
theorem info3 : (Try.prog.info? 3).map (fun i => (i.zero, i.size, i.bytes)) = some (some (.int .i64 0), 1, 8) := by kernel_rfl
set_option maxRecDepth 100000 in
set_option maxHeartbeats 2000000 in
theorem term_walk (zs ys : List Int) (a a2 : Option Addr) (cap cap2 : Nat) (w : World) (hz : IntsAt .i64 w (.slice a zs.length cap) zs) (hm : zs.length ≤ maxLen) (hr : ∀ n ∈ zs, (Lit.int .i64 n).wf = true)
   (hy : IntsAt .i64 w (.slice a2 ys.length cap2) ys) (hmy : ys.length ≤ maxLen) (hry : ∀ n ∈ ys, (Lit.int .i64 n).wf = true) (m1 m2 : Nat) (e1 : (if (25:Int) < ↑zs.length then (25:Int) else ↑zs.length) = (m1 : Int)) (e2 : (if (25:Int) < ↑ys.length then (25:Int) else ↑ys.length) = (m2 : Int)) (hm1 : m1 ≤ zs.length) (hm2 : m2 ≤ ys.length) (hd1 : m1 ≤ cap) (hd2 : m2 ≤ cap2) (hm3 : m1 ≤ 25) (hm4 : m2 ≤ 25) :
    Calls Try.prog 4 #[.slice a zs.length cap, .slice a2 ys.length cap2] w fun e w' => e = .returned (.bool true) ∧ Below w.heap.size w w' := by
  unfold maxLen at hm hmy
  have HZ := Lib.hid hz
  have HR := Lib.hid hr
  have HY := Lib.hid hy
  have HRY := Lib.hid hry
  clear hz hr hy hry
  obtain ⟨i0, hi0, hz0, hz1, hz2⟩ := info_parts info3
  have H1 := Lib.hid hi0
  have H2 := Lib.hid hz0
  have H3 := Lib.hid hz1
  have H4 := Lib.hid hz2
  clear hi0 hz0 hz1 hz2
  go_enter Try.func4, Try.ntmps4
  go_wp2_with (first | (go_at_call 7; refine (sane_any _).mono ?_; rintro e w' ⟨rfl, hb⟩) | (go_at_call 17; refine (walk_any zs _ _ (HZ.out.below hb) (by unfold maxLen; omega) HR.out).mono ?_; rintro e w2 ⟨rfl, hb2⟩))
  have hb12 := Lib.hid (btrans hb hb2)
  have lz : (zs.take m1).length = m1 := by rw [List.length_take]; omega
  have ly : (ys.take m2).length = m2 := by rw [List.length_take]; omega
  have LZ := Lib.hid lz
  have LY := Lib.hid ly
  clear lz ly
  go_region_held3 (fun _ => True) (exact trivial) ((first | (refine step_append_row (by rfl) _ _ _ (by rfl) w2.heap.size 3 i0 _ 1 8 Try.underlying24 H1.out H2.out H3.out H4.out rfl (by omega) (.slice none 0 0) 0 [] (by rfl) (World.ownsRow_nil _ _ _ _) (.slice a m1 cap) (zs.take m1).length ((zs.take m1).map (.int .i64)) (by rfl) (RowAt.of_ints ((HZ.out.take m1 hm1).below hb12.out.drew)) (ints_oneCell _ _) (by rw [LZ.out]; unfold maxLen; omega) (by rw [LZ.out]; omega) (by simp) ?_; intro v1 w3 ho1 hg1) | (refine step_append_row (by rfl) _ _ _ (by rfl) w2.heap.size 3 i0 _ 1 8 Try.underlying24 H1.out H2.out H3.out H4.out rfl (by omega) v1 _ _ (by rfl) ho1 (.slice a2 m2 cap2) (ys.take m2).length ((ys.take m2).map (.int .i64)) (by rfl) (RowAt.of_ints ((HY.out.take m2 hm2).below (hb12.out.drew.grown hg1 (by have := hb12.out.size; simpa using this) (fun k e => by cases e)))) (ints_oneCell _ _) (by rw [LZ.out, LY.out]; unfold maxLen; omega) (by rw [LZ.out, LY.out]; omega) (by have := hg1.size; simpa using this) ?_; intro v2 w4 ho2 hg2)))
  all_goals
    have hbA : Below w.heap.size w w4 := (hb12.out.drew.grown hg1 (by have := hb12.out.size; simpa using this) (fun k e => by cases e)).grown hg2 (by have := hg1.size; have := hb12.out.size; simp at *; omega) (fun k e => Nat.le_trans hb12.out.size (own_base ho1 k e))
    have hsrc := RowAt.of_own ho2
    have hall : IntsAt .i64 w4 v2 (zs.take m1 ++ ys.take m2) := RowAt.to_ints (n := 0 + (zs.take m1).length + (ys.take m2).length) (by rw [List.map_append]; exact hsrc)
    have hlen : (zs.take m1 ++ ys.take m2).length ≤ 50 := by rw [List.length_append, LZ.out, LY.out]; omega
    have hwf : ∀ n ∈ (zs.take m1 ++ ys.take m2), (Lit.int .i64 n).wf = true := fun n hn => (List.mem_append.1 hn).elim (fun h => HR.out n (List.mem_of_mem_take h)) (fun h => HRY.out n (List.mem_of_mem_take h))
    have HA := Lib.hid hall
    have HL := Lib.hid hlen
    have HW := Lib.hid hwf
    have HB := Lib.hid hbA
    clear hall hlen hwf hbA hsrc ho1 ho2 hg1 hg2 hb hb2 hb12
    have q1 := walkS_ok zs
    have q2 := walkR_ok zs
    have q3 := Lib.hid (walkS_app (zs.take m1) (ys.take m2) HL.out)
    have q4 := Lib.hid (walkR_app (zs.take m1) (ys.take m2) HL.out)
    have q5 := walkS_ok (zs.take m1)
    have q6 := walkR_ok (zs.take m1)
    obtain ⟨q11, q12⟩ := q1
    obtain ⟨q21, q22⟩ := q2
    obtain ⟨fS, aS, fR, aR, hfS, haS, hfR, haR⟩ : ∃ fS aS fR aR, walkS (zs.take m1) = fS ∧ walkS (zs.take m1 ++ ys.take m2) = aS ∧ walkR (zs.take m1) = fR ∧ walkR (zs.take m1 ++ ys.take m2) = aR := ⟨_, _, _, _, rfl, rfl, rfl, rfl⟩
    have C1 := Lib.hid (walk_any (zs.take m1 ++ ys.take m2) v2 w4 HA.out (by have := HL.out; unfold maxLen; omega) HW.out)
    have C2 : Hid (∀ w5, Below w.heap.size w w5 → _) := Lib.hid (fun w5 (h : Below w.heap.size w w5) => walk_any (zs.take m1) (.slice a m1 cap) w5 ((HZ.out.take m1 hm1).below h) (by have := LZ.out; unfold maxLen; omega) (fun n hn => HR.out n (List.mem_of_mem_take hn)))
    rw [hfS, hfR] at C2
    rw [haS, haR] at C1
    rw [hfS, haS] at q3
    rw [hfR, haR] at q4
    rw [hfS] at q5
    rw [hfR] at q6
    clear hfS haS hfR haR
    obtain ⟨b1, hb1⟩ : ∃ b, sdF fS = b := ⟨_, rfl⟩
    obtain ⟨b2, hb2⟩ : ∃ b, sdF fR = b := ⟨_, rfl⟩
    have B1 := Lib.hid hb1
    have B2 := Lib.hid hb2
    have T1 : b1 = true → (aS != fS) = false := by
      intro h; subst h
      have h4 : fS = 4 ∨ fS = 5 := by simpa [sdF] using hb1
      have := q3.out; unfold okS at this; simp; omega
    have T2 : b2 = true → (aR != fR) = false := by
      intro h; subst h
      have h4 : fR = 4 ∨ fR = 5 := by simpa [sdF] using hb2
      have := q4.out; unfold okR at this; simp; omega
    clear hb1 hb2
    obtain ⟨q51, q52⟩ := q5
    obtain ⟨q61, q62⟩ := q6
    cases b1
    all_goals cases b2
    all_goals
      first | (have t1 := T1 rfl) | skip
      first | (have t2 := T2 rfl) | skip
      clear T1 T2
      go_wp2_with (first | (go_at_call 17; (first | (with_reducible refine C1.out.mono ?_; rintro e w5 ⟨rfl, hb5⟩; have HB5 := Lib.hid (btrans HB.out hb5)) | (refine (C2.out _ HB5.out).mono ?_; rintro e w6 ⟨rfl, hb6⟩; have HB6 := Lib.hid (btrans HB5.out hb6)))) | (go_at_call 13; refine (sdone_c _ _ B1.out _).mono ?_; rintro e w7 ⟨rfl, rfl⟩) | (go_at_call 15; refine (rdone_c _ _ B2.out _).mono ?_; rintro e w7 ⟨rfl, rfl⟩))
    all_goals go_ret
    all_goals first | exact ⟨rfl, HB6.out⟩ | (exfalso; have g3 := q3.out; have g4 := q4.out; have g5 := B1.out; have g6 := B2.out; clear HB6 HB5 HB C1 C2 HA HL HW LZ LY H1 H2 H3 H4 HZ HR HY HRY; unfold okS at g3; unfold okR at g4; simp only [sdF, bne_iff_ne, bne_eq_false_iff_eq, ne_eq, Bool.or_eq_true, Bool.or_eq_false_iff, beq_iff_eq, beq_eq_false_iff_ne] at *; omega) | (have h4 : aR = 4 := (by have g4 := q4.out; unfold okR at g4; omega); subst h4; exact ⟨rfl, HB6.out⟩)
end Go.Proofs.Ytapddinlfkdkeaa
