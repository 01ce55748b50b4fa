/- Law 13: sane. -/
import Derived.Test.YtafkndhnbnpahaaGreatZf
namespace Go.Proofs.YtafkndhnbnpahaaGreat
open Go.RowKit Go.Maps
def sp (i : Int) (e : Bool) : Pk := ⟨i, 0, 10, e, .slice none 0 0⟩
def s5 : Rc := ⟨[sp 0 true, sp 1 true, sp 2 true, sp 3 true, sp 4 false], 5, -1⟩
def s6 : Rc := ⟨[sp 2 true, sp 3 true], 5, 4⟩
def s7 : Rc := ⟨[], 5, 4⟩
theorem e5 : (((((Rc.mk [] 0 (-1)).add (sp 0 true)).add (sp 1 true)).add (sp 2 true)).add (sp 3 true)).add (sp 4 false) = s5 := by kernel_rfl
theorem e6 : s5.acked 1 (fun _ => 4) (fun _ => 5) 5 10 = s6 := by kernel_rfl
theorem e6a : s5.l.filter (akF 1 (fun _ => 4) (fun _ => 5)) = [sp 4 false] := by kernel_rfl
theorem e6b : s5.lostA 1 (fun _ => 4) (fun _ => 5) 5 10 = [sp 0 true, sp 1 true] := by kernel_rfl
theorem e6c : deadT (s6.l.filter (dlF s6.lg)) 10 = 10 := by kernel_rfl
theorem e6d : s6.l.filter (exF s6.lg 9 10) = [] := by kernel_rfl
theorem e6e : s6.cut (exF s6.lg 9 10) = s6 := by kernel_rfl
theorem e6f : s6.l.filter (exF s6.lg 10 10) = [sp 2 true, sp 3 true] := by kernel_rfl
theorem e6g : s6.cut (exF s6.lg 10 10) = s7 := by kernel_rfl
theorem rgOne (f t : Int) (h0 : 0 ≤ f) (h1 : f < t) (h2 : t ≤ 281474976710656) : RgOk 1 (fun _ => f) (fun _ => t) := ⟨by decide, by decide, fun k hk => by
  obtain rfl : k = 0 := by omega
  exact ⟨h0, h1, h2, by show t < 281474976710658; omega⟩⟩
theorem spOne {w : World} {g : Nat} (f t : Int) (h : w.heap[g]? = some (.cells #[.int .i64 f, .int .i64 t] 51 (0, 0))) : SpansAt w (.slice (some ⟨g, 0, none⟩) 1 1) 1 (fun _ => f) (fun _ => t) :=
  ⟨g, 0, 1, rfl, by decide, by decide, fun k hk => by
    obtain rfl : k = 0 := by omega
    exact ⟨at_whole h 0 rfl, at_whole h 1 rfl⟩⟩
set_option maxRecDepth 100000 in
set_option maxHeartbeats 20000000 in
theorem sane_any (w : World) : Calls Tryz.prog 11 #[] w fun e w' => e = .returned (.bool true) ∧ Below w.heap.size w w' := by
  have N0 := Lib.hid (lw_new (w0 := w) (Below.refl w.heap.size w))
  go_enter Tryz.func11, Tryz.ntmps11
  go_wp2_with fail
  refine N0.out.mono ?_
  rintro e w1 ⟨b, M, rfl, _, h⟩
  have H := Lib.hid h
  clear h N0
  go_wp2_with fail
  refine wp_loop_rounds 6 ?_
  rw [rounds_succ]
  go_wp2_with fail
  refine (lw_sent H.out (sp 0 true) rfl rfl (by decide) (by decide) (by decide)).mono ?_
  rintro e v0 ⟨rfl, h⟩
  have H0 := Lib.hid h
  clear h H
  have H := H0
  clear H0
  go_wp2_with fail
  rw [rounds_succ]
  go_wp2_with fail
  refine (lw_sent H.out (sp 1 true) rfl rfl (by decide) (by decide) (by decide)).mono ?_
  rintro e v1 ⟨rfl, h⟩
  have H1 := Lib.hid h
  clear h H
  have H := H1
  clear H1
  go_wp2_with fail
  rw [rounds_succ]
  go_wp2_with fail
  refine (lw_sent H.out (sp 2 true) rfl rfl (by decide) (by decide) (by decide)).mono ?_
  rintro e v2 ⟨rfl, h⟩
  have H2 := Lib.hid h
  clear h H
  have H := H2
  clear H2
  go_wp2_with fail
  rw [rounds_succ]
  go_wp2_with fail
  refine (lw_sent H.out (sp 3 true) rfl rfl (by decide) (by decide) (by decide)).mono ?_
  rintro e v3 ⟨rfl, h⟩
  have H3 := Lib.hid h
  clear h H
  have H := H3
  clear H3
  go_wp2_with fail
  rw [rounds_succ]
  go_wp2_with fail
  refine (lw_sent H.out (sp 4 false) rfl rfl (by decide) (by decide) (by decide)).mono ?_
  rintro e v4 ⟨rfl, h⟩
  have H4 := Lib.hid h
  clear h H
  have H := H4
  clear H4
  go_wp2_with fail
  rw [rounds_succ]
  rw [e5] at H
  go_wp2_with fail
  have X := Lib.hid (heap_alloc_new v4 (.cells #[.int .i64 4, .int .i64 5] 51))
  have HX := Lib.hid (H.out.below ((Below.refl _ v4).alloc (Nat.le_refl _) (.cells #[.int .i64 4, .int .i64 5] 51)))
  have hgb := Lib.hid (show v4.heap.size ≠ b from fun e => by have := heap_lt H.out.at_.1; omega)
  clear H
  refine (lw_ack HX.out 0 _ 1 _ _ 5 10 (by decide) (by decide) (rgOne 4 5 (by decide) (by decide) (by decide)) (spOne 4 5 X.out) (by decide) (by decide) (by decide) (by decide) (by decide) (fun g o c e => by cases e; exact hgb.out)).mono ?_
  rintro e w6 ⟨va, vl, rfl, na, nl, h⟩
  rw [e6a] at na h
  rw [e6b] at nl h
  rw [e6] at h
  have H := Lib.hid (And.intro h (And.intro na nl))
  clear h na nl HX X
  go_wp2_with fail
  refine (lw_dead H.out.1 10 (by decide) (by decide)).mono ?_
  rintro e w7 ⟨rfl, h⟩
  rw [e6c]
  have H7 := Lib.hid h
  clear h
  go_wp2_with fail
  refine (lw_exp H7.out 9 10 (by decide) (by decide) (by decide) (by decide)).mono ?_
  rintro e w8 ⟨vc, rfl, nc, h⟩
  rw [e6d] at nc h
  rw [e6e] at h
  obtain rfl : vc = .slice none 0 0 := nc.2 rfl
  have H8 := Lib.hid h
  clear h nc H7
  go_wp2_with fail
  refine (lw_exp H8.out 10 10 (by decide) (by decide) (by decide) (by decide)).mono ?_
  rintro e w9 ⟨vd, rfl, nd, h⟩
  rw [e6f] at nd h
  rw [e6g] at h
  have H9 := Lib.hid (And.intro h nd)
  clear h nd H8
  go_wp2_with fail
  have X := Lib.hid (heap_alloc_new w9 (.cells #[.int .i64 0, .int .i64 6] 51))
  have HX := Lib.hid (H9.out.1.below ((Below.refl _ w9).alloc (Nat.le_refl _) (.cells #[.int .i64 0, .int .i64 6] 51)))
  refine (lw_unsent HX.out 0 _ 1 _ _ 11 10 (by decide) (by decide) (rgOne 0 6 (by decide) (by decide) (by decide)) (spOne 0 6 X.out) (by decide) (by decide) (by decide)).mono ?_
  rintro e w10 ⟨rfl, h⟩
  have HA := Lib.hid h
  clear h HX X
  go_wp2_with fail
  refine (sent_none ⟨0, 0, 0, false, .slice none 0 0⟩ w10).mono ?_
  rintro e w11 ⟨rfl, hb⟩
  have HB := Lib.hid (HA.out.below hb)
  clear hb HA
  go_wp2_with fail
  refine (num_one (HB.out.row (v := va) (l := [sp 4 false]) (by simp) H.out.2.1) rfl).mono ?_
  rintro e w12 ⟨rfl, hb⟩
  have HC := Lib.hid (HB.out.below hb)
  clear hb HB
  go_wp2_with fail
  refine (num_two (HC.out.row (v := vl) (l := [sp 0 true, sp 1 true]) (by simp) H.out.2.2) 0 1 3 rfl rfl (.inl ⟨rfl, rfl, rfl⟩)).mono ?_
  rintro e w13 ⟨rfl, hb⟩
  have HD := Lib.hid (HC.out.below hb)
  clear hb HC
  go_wp2_with fail
  refine (num_two (HD.out.row (v := vd) (l := [sp 2 true, sp 3 true]) (by simp) H9.out.2) 2 3 12 rfl rfl (.inr ⟨rfl, rfl, rfl⟩)).mono ?_
  rintro e w14 ⟨rfl, hb⟩
  have HE := Lib.hid (HD.out.below hb)
  clear hb HD
  go_wp2_with fail
  refine (lw_next HE.out).mono ?_
  rintro e w15 ⟨rfl, rfl⟩
  go_wp2_with fail
  refine (lw_acked HE.out).mono ?_
  rintro e w15 ⟨rfl, rfl⟩
  go_wp2_with fail
  refine (lw_last HE.out).mono ?_
  rintro e w15 ⟨rfl, h⟩
  have HF := Lib.hid h
  clear h HE
  go_wp2_with fail
  refine (lw_out HF.out).mono ?_
  rintro e w16 ⟨vo, rfl, no, h⟩
  obtain rfl : vo = .slice none 0 0 := no.2 rfl
  have HG := Lib.hid h
  clear h no HF
  go_wp2_with fail
  refine (acked_none w16).mono ?_
  rintro e w17 ⟨rfl, rfl⟩
  go_wp2_with fail
  refine (dead_none 1 w16).mono ?_
  rintro e w17 ⟨rfl, hb⟩
  have HI := Lib.hid (HG.out.bel.trans (hb.mono HG.out.bel.size))
  clear hb HG
  go_wp2
  go_ret
  exact ⟨rfl, HI.out⟩
end Go.Proofs.YtafkndhnbnpahaaGreat
