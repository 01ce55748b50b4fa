/- Law 13: LossRejectsUnsent's walk. -/
import Derived.Test.YtafkndhnbnpahaaGreatZj
import Derived.Test.YtafkndhnbnpahaaGreatAh
namespace Go.Proofs.YtafkndhnbnpahaaGreat.lossRejectsUnsent
open Go.RowKit Go.WideShapes Go.ChangeShapes
def pk (i : Nat) : Pk := ⟨i, i, 0, true, .slice none 0 0⟩
theorem nothing (n : Nat) : (sends pk n).l.filter (exF (sends pk n).lg 1000 0) = [] := by
  rw [List.filter_eq_nil_iff]
  intro p hp
  obtain ⟨i, _, rfl⟩ := List.mem_map.1 hp
  have : ¬ ((i : Int) < -1) := by omega
  simp [exF, pk, sends, this]
set_option maxRecDepth 100000 in
set_option maxHeartbeats 20000000 in
theorem walk (many beyond : Int) (v : Value) (n0 : Nat) (F0 T0 : Nat → Int) (w : World) (hm : -9223372036854775808 ≤ many ∧ many ≤ 9223372036854775807) (hb : -9223372036854775808 ≤ beyond ∧ beyond ≤ 9223372036854775807) (hA : SpArg w v n0 F0 T0) (hn0 : n0 ≤ 9223372036854775807) :
    Calls Tryz.prog 4 #[.int .i64 many, v, .int .i64 beyond] w fun e w' => e = .returned (.bool true) ∧ Below w.heap.size w w' := by
  have P1 := Lib.hid (fun w => pick_any many 20 w hm.1 hm.2 (by decide) (by decide))
  have P2 := Lib.hid (fun w => pick_any beyond 50 w hb.1 hb.2 (by decide) (by decide))
  have r1 := pickF_range many 20 (by decide)
  have r2 := pickF_range beyond 50 (by decide)
  have HA := Lib.hid hA
  generalize pickF beyond 50 = q at *
  obtain ⟨n, hn⟩ : ∃ n : Nat, pickF many 20 = n := ⟨(pickF many 20).toNat, by omega⟩
  rw [hn] at P1 r1
  obtain ⟨r11, r12⟩ := r1
  obtain ⟨r21, r22⟩ := r2
  clear hm hb hA hn
  go_enter Tryz.func4, Tryz.ntmps4
  go_wp2_with fail
  refine (sane_any _).mono ?_
  rintro e w1 ⟨rfl, hb1⟩
  have B1 := Lib.hid hb1
  clear hb1
  go_wp2_with fail
  refine (lw_new (w0 := w) B1.out).mono ?_
  rintro e w2 ⟨b, M, rfl, _, h⟩
  have H := Lib.hid h
  clear h B1
  go_wp2_with fail
  refine (P1.out _).mono ?_
  rintro e w' ⟨rfl, rfl⟩
  go_wp2_with fail
  go_loopw [10] (fun i wr => ∃ k : Nat, k ≤ n ∧ i = .int .i64 k ∧ Lw w wr b M (sends pk k) [] []) (fun i _ => n - (intOf i).toNat)
  case atStart => exact ⟨0, by omega, rfl, H.out⟩
  case round =>
    obtain ⟨k, hk, rfl, h⟩ := hrel
    have HK := Lib.hid h
    clear h
    by_cases hlt : k < n
    · go_wp2_with fail
      refine (lw_sent HK.out (pk k) rfl rfl (by show (k : Int) < 10000; omega) ⟨by show (0 : Int) ≤ k; omega, by show (k : Int) ≤ _; omega⟩ (Int.le_refl 0)).mono ?_
      rintro e w3 ⟨rfl, h⟩
      rw [sends_succ] at h
      have H3 := Lib.hid h
      clear h
      go_wp2
      go_roundw
      case rel => exact ⟨k + 1, by omega, by go_num, H3.out⟩
      case measure => simp [intOf]; omega
    · obtain rfl : k = n := by omega
      clear hlt
      have NT := Lib.hid (nothing k)
      go_wp2_with fail
      refine (P2.out _).mono ?_
      rintro e w' ⟨rfl, rfl⟩
      go_wp2_with fail
      refine (lw_ranges HK.out ((k : Int) + q) (HA.out.below HK.out.bel) (by omega) (by omega) hn0).mono ?_
      rintro e w4 ⟨rv, l, rfl, hok, htop, ⟨ra, rc, hrf⟩, h, _⟩
      have ht : fT l 0 = 1 + ((k : Int) + q) := by rw [htop, pick_small _ _ (by omega) (by omega)]
      subst hrf
      have H4 := Lib.hid h
      have OK := Lib.hid hok
      have HT := Lib.hid ht
      clear h hok htop ht HK
      have lh := OK.out.hi
      go_wp2_with fail
      have H5 := Lib.hid (H4.out.alloc (.cells (ackE 0 (.slice ra l.length rc)) 41) rfl)
      simp only [ackE] at H5
      clear H4
      generalize hV : w4.alloc _ = V5 at H5 ⊢
      clear hV
      generalize w4.heap.size = fb at H5 ⊢
      refine (lw_out H5.out).mono ?_
      rintro e w6 ⟨vo, rfl, no, h⟩
      have H6 := Lib.hid (And.intro h no)
      clear h no H5
      have hso := H6.out.1.row (v := vo) (l := (sends pk k).l) (by simp) H6.out.2
      obtain ⟨oa, oc, rfl⟩ : ∃ oa oc, vo = .slice oa k oc := by
        have hl : (sends pk k).l.length = k := by simp [sends]
        rcases hso.form with ⟨rfl, h0⟩ | ⟨g, cap, cur, rfl, _⟩
        · rw [h0] at hl; simp at hl; subst hl; exact ⟨_, _, rfl⟩
        · rw [hl]; exact ⟨_, _, rfl⟩
      have hfb := H6.out.1.at (k := fb) (o := .cells (ackE 0 (.slice ra l.length rc)) 41) (by simp [ackE])
      have HFB := Lib.hid hfb
      simp only [ackE] at HFB
      clear hso hfb
      go_wp2_with (refine wpList_load_row rfl 41 _ rfl fb rfl 41 _ (0, 0) _ HFB.out Tryz.underlying41 rfl size41 ?_)
      have hsp := Lib.hid (H6.out.1.spans (v := .slice ra l.length rc) (l := l) (by simp [spR]) OK.out.lo)
      refine (lw_unsent H6.out.1 0 _ l.length (fF l) (fT l) 100 1 (by decide) (by decide) OK.out hsp.out.1 (by decide) (by decide) (by rw [HT.out]; show (k : Int) < _; omega)).mono ?_
      rintro e w7 ⟨rfl, h⟩
      have H7 := Lib.hid h
      clear h
      go_wp2_with fail
      refine (lw_out H7.out).mono ?_
      rintro e w8 ⟨vp, rfl, np, h⟩
      have H8 := Lib.hid (And.intro h np)
      clear h np
      go_wp2_with fail
      refine (same_nil w.heap.size (sends pk k).l (.slice oa k oc) vp w8 H8.out.1.nil (H8.out.1.row (by simp) H6.out.2) (H8.out.1.row (by simp) H8.out.2)).mono ?_
      rintro e w9 ⟨rfl, hb⟩
      have H9 := Lib.hid (H8.out.1.below hb)
      clear hb
      go_wp2_with fail
      refine (lw_acked H9.out).mono ?_
      rintro e w' ⟨rfl, rfl⟩
      go_wp2_with fail
      refine (lw_next H9.out).mono ?_
      rintro e w' ⟨rfl, rfl⟩
      go_wp2_with fail
      refine (lw_exp H9.out 1000 0 (by decide) (by decide) (by decide) (by decide)).mono ?_
      rintro e w10 ⟨vx, rfl, nx, h⟩
      rw [NT.out] at nx h
      obtain rfl : vx = .slice none 0 0 := nx.2 rfl
      have HZ := Lib.hid h.bel
      clear h nx
      go_wp2
      go_ret
      exact ⟨rfl, HZ.out⟩
set_option maxRecDepth 100000 in
theorem main {H : Type} {enc : TypeId × Value → H} (W : World) (base0 : Nat) (v0 : Value) (d0 : DataW H) (p0 : List MemPlace) (hv0 : Value.okWide Tryz.prog W .any base0 3 v0) (h0 : DataW.Trod enc Tryz.prog W 0 (fun _ => true) true 3 v0 d0 p0)
    (base1 : Nat) (v1 : Value) (d1 : DataW H) (p1 : List MemPlace) (hv1 : Value.okWide Tryz.prog W .any base1 27 v1) (h1 : DataW.Trod enc Tryz.prog W 0 (fun _ => true) true 27 v1 d1 p1)
    (base2 : Nat) (v2 : Value) (d2 : DataW H) (p2 : List MemPlace) (hv2 : Value.okWide Tryz.prog W .any base2 3 v2) (h2 : DataW.Trod enc Tryz.prog W 0 (fun _ => true) true 3 v2 d2 p2) :
    Calls Tryz.prog 4 #[v0, v1, v2] W fun e w' => e = .returned (.bool true) ∧ Below W.heap.size W w' := by
  obtain ⟨a0, rfl, _, _, w0⟩ := open_int Tryz.underlying3 hv0 h0
  obtain ⟨n, F, T, hA, hn⟩ := sp_arg hv1 h1
  obtain ⟨a2, rfl, _, _, w2⟩ := open_int Tryz.underlying3 hv2 h2
  exact walk a0 a2 v1 n F T W (bounds_i64 w0) (bounds_i64 w2) hA hn
end Go.Proofs.YtafkndhnbnpahaaGreat.lossRejectsUnsent
