/- CongestionHalvesOnce: within a recovery period the window stays; the first loss of a later packet halves it again. -/
import Derived.Test.YtcgcgdbcbmdahaaL
namespace Go.Proofs.Ytcgcgdbcbmdahaa.congestionHalvesOnce
open Go.RowKit Go.WideShapes Go.ChangeShapes Go.Proofs.Ytcgcgdbcbmdahaa
theorem lost_old {c : Ctl} {now s n : Int} (h : oldF c s = true) : lostF c now s n = discF c n := by
  unfold lostF; rw [if_pos (show oldF (discF c n) s = true from h)]
theorem acked_old {c : Ctl} {s n : Int} (h : oldF c s = true) : ackedF c s n = discF c n := by
  unfold ackedF; rw [if_pos (show oldF (discF c n) s = true from h)]
theorem lost_new {c : Ctl} {now s n : Int} (h : oldF c s = false) : lostF c now s n = halveF { discF c n with recov := true, since := now } := by
  unfold lostF; rw [if_neg]; intro h'; rw [show oldF (discF c n) s = oldF c s from rfl, h] at h'; cases h'
/-- what lies behind the collapse, the acknowledgment and the loss -/
theorem start_ok {F : Int} {c : Ctl} (h : Ok F c) (now : Int) : ∃ c1, lostF (ackedF (collF c) now 65536) now now 0 = c1 ∧ Ok F c1 ∧ 1024 < c1.size ∧ c1.recov = true ∧ c1.since = now := by
  refine ⟨_, rfl, lostF_ok (ackedF_ok (collF_ok h) _ _) _ _ _, ?_⟩
  have ho : oldF (ackedF (collF c) now 65536) now = false := by
    unfold ackedF
    split
    · rename_i h'; have : oldF (discF (collF c) 65536) now = false := rfl
      rw [this] at h'; cases h'
    · split <;> rfl
  rw [lost_new ho]
  have hs : 33792 ≤ (ackedF (collF c) now 65536).size := by
    unfold ackedF
    rw [if_neg (by intro h'; have : oldF (discF (collF c) 65536) now = false := rfl; rw [this] at h'; cases h')]
    split
    · unfold growF; dsimp only
      have : (discF (collF c) 65536).size = 1024 := rfl
      have hb : bytesF 65536 = 65536 := by decide
      rw [this, hb]; decide
    · unfold growF; dsimp only
      have h1 : (discF (collF c) 65536).size = 1024 := rfl
      have hb : bytesF 65536 = 65536 := by decide
      have hv : avoidBy (discF (collF c) 65536) (bytesF 65536) = 32768 := by unfold avoidBy; rw [h1, hb]; decide
      rw [h1, hv]; decide
  refine ⟨?_, rfl, rfl⟩
  unfold halveF discF
  dsimp only
  split <;> omega
set_option maxRecDepth 100000 in
set_option maxHeartbeats 8000000 in
theorem walk (ps : List Prm) (v : Value) (n : Int) (zs : List Int) (a2 : Option Addr) (cap2 : Nat) (a3 : Option Addr) (len3 cap3 : Nat) (w : World) (hP : PAt w v ps) (hm : ps.length ≤ maxLen) (hw : ∀ q ∈ ps, q.wf) (n1 : -9223372036854775808 ≤ n) (n2 : n ≤ 9223372036854775807)
    (hz : IntsAt .i64 w (.slice a2 zs.length cap2) zs) (hmz : zs.length ≤ maxLen) (hrz : ∀ n ∈ zs, (Lit.int .i64 n).wf = true)
    (hl : len3 = 0 ∨ ∃ b off, a3 = some ⟨b, off, none⟩ ∧ cap3 ≤ maxLen ∧ b < w.heap.size ∧ ∀ i, i < len3 → w.cell? ⟨b, off + i, none⟩ = some (.bool (boolAt w b (off + i)))) (hlc : len3 ≤ cap3) :
    Calls Try.prog 5 #[v, .int .i64 n, .slice a2 zs.length cap2, .slice a3 len3 cap3] w fun e w' => e = .returned (.bool true) ∧ Below w.heap.size w w' := by
  obtain ⟨a, cap, rfl, hx⟩ := hP.form
  clear hP
  unfold maxLen at hm hmz
  have CK := Lib.hid (fun w => pick_any n 1099511627776 w n1 n2 (by omega) (by omega))
  have hk := pickF_range n 1099511627776 (by omega)
  generalize pickF n 1099511627776 = now at *
  obtain ⟨hk1, hk2⟩ := hk
  have HX := Lib.hid hx
  have HW := Lib.hid hw
  have HZ := Lib.hid hz
  have HRZ := Lib.hid hrz
  have HL := Lib.hid hl
  clear hx hw hz hrz hl
  go_enter Try.func5, Try.ntmps5
  go_wp2_with (first | (go_at_call 8; refine (sane_any _).mono ?_; rintro e w1 ⟨rfl, hb⟩) | (go_at_call 9; refine (new_any _).mono ?_; rintro e w2 ⟨rfl, rfl⟩))
  have hB0 : Below w.heap.size w (w1.alloc (.cells newC.enc 50)) := hb.alloc hb.size _
  have hA0 := at_of_new w1
  have hbb := hb.size
  generalize w1.alloc (.cells newC.enc 50) = W0 at *
  generalize w1.heap.size = b at *
  clear hb
  go_loopw [11] (fun i wr => ∃ (k : Nat) (c : Ctl), k ≤ ps.length ∧ k ≤ 20 ∧ i = .int .i64 k ∧ At wr b c ∧ Ok ((k : Int) * 65536) c ∧ Below w.heap.size w wr) (fun i _ => 20 - (intOf i).toNat)
  case atStart => exact ⟨0, newC, by omega, by omega, rfl, hA0, newC_ok, hB0⟩
  case round =>
    obtain ⟨k, c, hk3, hk4, rfl, hA, hO, hB⟩ := hrel
    by_cases hlt : k < ps.length ∧ k < 20
    · obtain ⟨hlt1, hlt2⟩ := hlt
      obtain ⟨p, hp⟩ : ∃ p, ps[k]? = some p := ⟨ps[k], by simp [hlt1]⟩
      have hwf := HW.out p (List.mem_of_getElem? hp)
      rcases HX.out with hnil | ⟨b2, off, rfl, hb2, hl2, hc2, hcell⟩
      · rw [hnil] at hlt1; simp at hlt1
      unfold maxLen at hc2
      obtain ⟨d0, d1, d2, d3⟩ := hcell k p hp
      clear hcell hp
      have e0 := (hB.cell (p := ⟨b2, off + k * 4, none⟩) hb2).trans d0
      have e1 := (hB.cell (p := ⟨b2, off + k * 4 + 1, none⟩) hb2).trans d1
      have e2 := (hB.cell (p := ⟨b2, off + k * 4 + 2, none⟩) hb2).trans d2
      have e3 := (hB.cell (p := ⟨b2, off + k * 4 + 3, none⟩) hb2).trans d3
      have D := Lib.hid (do_any b c p hwf wr hA _ (by omega) hO)
      have HO1 := Lib.hid (doF_ok hO (by omega) p)
      generalize doF c p = c1 at *
      have HB := Lib.hid hB
      clear hB hO
      go_wp2_with (go_at_call 11; refine D.out.mono ?_; rintro e w3 ⟨rfl, ht⟩)
      go_roundw
      case rel => exact ⟨k + 1, c1, by omega, by omega, by simp, ht.1, HO1.out.up (by omega), below_grown HB.out ht.2 hbb⟩
      case measure => simp [intOf]; omega
    · have hcase : (k < ps.length ∧ 20 ≤ k) ∨ ps.length ≤ k := by omega
      clear hlt
      have HO := Lib.hid (show Ok 1310720 c from hO.up (by omega))
      obtain ⟨o1, o2, o3, o4, o5, o6, o7⟩ := HO.out
      have HO2 := Lib.hid (collF_ok HO.out)
      have HO3 := Lib.hid (ackedF_ok HO2.out now 65536)
      have ST := Lib.hid (start_ok HO.out now)
      have HB := Lib.hid hB
      have C1 := Lib.hid (coll_any b c wr hA)
      have C2 := Lib.hid (fun w' (h : At w' b (collF c)) => acked_any b (collF c) now now 65536 w' h HO2.out.f1 (by have := HO2.out.f2; omega) HO2.out.s1 HO2.out.s2)
      have C3 := Lib.hid (fun w' (h : At w' b (ackedF (collF c) now 65536)) => lost_any b (ackedF (collF c) now 65536) now now 0 w' h HO3.out.f1 (by have := HO3.out.f2; omega) HO3.out.s1 HO3.out.s2)
      obtain ⟨c1, hc1, hO1, hs1, hr1, hn1⟩ := ST.out
      rw [hc1] at C3
      clear hc1 hO o1 o2 o3 o4 o5 o6 o7
      have W1 := Lib.hid (fun w' (h : At w' b c1) => window_any b c1 w' h)
      obtain ⟨s0, hs0⟩ : ∃ s0, c1.size = s0 := ⟨_, rfl⟩
      rw [hs0] at W1 hs1
      have S2 : s0 ≤ 65536 := by rw [← hs0]; exact hO1.s2
      have INV : Hid (Ok 1310720 c1 ∧ c1.size = s0 ∧ c1.recov = true ∧ c1.since = now) := Lib.hid ⟨hO1, hs0, hr1, hn1⟩
      clear hs0 hr1 hn1 hO1
      rcases hcase with ⟨hc1, hc2⟩ | hc1
      all_goals
        go_wp2_with (first | (go_at_call 15; refine (CK.out _).mono ?_; rintro e w3 ⟨rfl, rfl⟩) | (go_at_call 18; refine C1.out.mono ?_; rintro e w4 ⟨rfl, ht1⟩) | (go_at_call 19; refine (C2.out _ ht1.1).mono ?_; rintro e w5 ⟨rfl, ht2⟩) | (go_at_call 20; refine (C3.out _ ht2.1).mono ?_; rintro e w6 ⟨rfl, ht3⟩) | (go_at_call 13; refine (W1.out _ ht3.1).mono ?_; rintro e w7 ⟨rfl, rfl⟩))
        have hB6 := below_grown (below_grown (below_grown HB.out ht1.2 hbb) ht2.2 hbb) ht3.2 hbb
        have hA6 := ht3.1
        clear ht1 ht2 ht3 C1 C2 C3 W1 ST HO2 HO3 HO hB hA
        go_loopw [14] (fun i wr => ∃ (j : Nat) (c : Ctl), j ≤ zs.length ∧ j ≤ 20 ∧ i = .int .i64 j ∧ At wr b c ∧ (Ok 1310720 c ∧ c.size = s0 ∧ c.recov = true ∧ c.since = now) ∧ Below w.heap.size w wr) (fun i _ => 20 - (intOf i).toNat)
        case atStart => exact ⟨0, c1, by omega, by omega, rfl, hA6, INV.out, hB6⟩
        case round =>
          obtain ⟨j, c, hj1, hj2, rfl, hA, ⟨hO, hs, hr, hn⟩, hB⟩ := hrel
          have LO := Lib.hid (fun (s m now' : Int) (hs' : s ≤ now) => lost_old (c := c) (now := now') (s := s) (n := m) (by unfold oldF; rw [hr, hn]; simpa using hs'))
          have AO := Lib.hid (fun (s m : Int) (hs' : s ≤ now) => acked_old (c := c) (s := s) (n := m) (by unfold oldF; rw [hr, hn]; simpa using hs'))
          have LC := Lib.hid (fun (now' s m : Int) => lost_any b c now' s m wr hA hO.f1 (by have := hO.f2; omega) hO.s1 hO.s2)
          have AC := Lib.hid (fun (now' s m : Int) => acked_any b c now' s m wr hA hO.f1 (by have := hO.f2; omega) hO.s1 hO.s2)
          have DK : Hid (∀ m, Ok 1310720 (discF c m) ∧ (discF c m).size = s0 ∧ (discF c m).recov = true ∧ (discF c m).since = now) := Lib.hid (fun m => ⟨discF_ok hO m, hs, hr, hn⟩)
          have HB2 := Lib.hid hB
          by_cases hlt : j < zs.length ∧ j < 20
          · obtain ⟨hlt1, hlt2⟩ := hlt
            have hxw := bounds_i64 (HRZ.out (zs[j]?.getD 0) (by simp [hlt1]))
            obtain ⟨b4, off4, hz4, hx4⟩ : ∃ b4 off4, a2 = some ⟨b4, off4, none⟩ ∧ wr.cell? ⟨b4, off4 + j, none⟩ = some (.int .i64 (zs[j]?.getD 0)) ∧ zs.length ≤ cap2 ∧ cap2 ≤ maxLen := by
              rcases HZ.out with ⟨_, _, e, _, h0⟩ | ⟨b4, off4, c4, e, h0, hl4, hc4, hx4⟩
              · rw [h0] at hlt1; simp at hlt1
              · simp only [Value.slice.injEq] at e
                obtain ⟨e1, _, rfl⟩ := e
                exact ⟨b4, off4, e1, (hB.cell (p := ⟨b4, off4 + j, none⟩) (World.block_lt_of_cell? _ _ (hx4 j hlt1))).trans (hx4 j hlt1), hl4, hc4⟩
            obtain ⟨hx4, hl4, hc4⟩ := hx4
            unfold maxLen at hc4
            subst hz4
            generalize zs[j]?.getD 0 = x at *
            obtain ⟨x1, x2⟩ := hxw
            have P1 := Lib.hid (fun w => pick_any x 1000 w x1 x2 (by omega) (by omega))
            have P2 := Lib.hid (fun w => pick_any x 512 w x1 x2 (by omega) (by omega))
            have hp1 := pickF_range x 1000 (by omega)
            have hp2 := pickF_range x 512 (by omega)
            generalize pickF x 1000 = p1 at *
            generalize pickF x 512 = p2 at *
            obtain ⟨hp11, hp12⟩ := hp1
            obtain ⟨hp21, hp22⟩ := hp2
            have hss : now - p1 ≤ now := by omega
            have L1 := Lib.hid (LC.out (now + j) (now - p1) p2)
            have A1 := Lib.hid (AC.out (now + j) (now - p1) p2)
            rw [LO.out (now - p1) p2 (now + j) hss] at L1
            rw [AO.out (now - p1) p2 hss] at A1
            have DK1 := Lib.hid (DK.out p2)
            generalize discF c p2 = c2 at *
            have W2 := Lib.hid (fun w' (h : At w' b c2) => window_any b c2 w' h)
            rw [DK1.out.2.1] at W2
            clear hO hs hr hn hB LO AO LC AC DK hss hA
            have hss2 : (s0 != s0) = false := by simp
            rcases HL.out with hl0 | ⟨b5, off5, rfl, hc5, hb5, hx5⟩
            · have hl00 : decide ((0 : Int) < (len3 : Int)) = false := by simp; omega
              have hl01 : decide (0 < len3) = false := by simp; omega
              have HL0 := Lib.hid hl0
              clear hl0
              go_wp2_with (first | (go_at_call 15; (first | (with_reducible refine (P1.out _).mono ?_; rintro e w3 ⟨rfl, rfl⟩) | (with_reducible refine (P2.out _).mono ?_; rintro e w3 ⟨rfl, rfl⟩))) | (go_at_call 19; refine A1.out.mono ?_; rintro e w5 ⟨rfl, ht⟩) | (go_at_call 13; refine (W2.out _ ht.1).mono ?_; rintro e w7 ⟨rfl, rfl⟩))
              go_roundw
              case rel => exact ⟨j + 1, c2, by omega, by omega, by simp, ht.1, DK1.out, below_grown HB2.out ht.2 hbb⟩
              case measure => simp [intOf]; omega
            · by_cases hl0 : len3 = 0
              · have hl00 : decide ((0 : Int) < (len3 : Int)) = false := by simp; omega
                have hl01 : decide (0 < len3) = false := by simp; omega
                have HL0 := Lib.hid hl0
                clear hl0
                go_wp2_with (first | (go_at_call 15; (first | (with_reducible refine (P1.out _).mono ?_; rintro e w3 ⟨rfl, rfl⟩) | (with_reducible refine (P2.out _).mono ?_; rintro e w3 ⟨rfl, rfl⟩))) | (go_at_call 19; refine A1.out.mono ?_; rintro e w5 ⟨rfl, ht⟩) | (go_at_call 13; refine (W2.out _ ht.1).mono ?_; rintro e w7 ⟨rfl, rfl⟩))
                go_roundw
                case rel => exact ⟨j + 1, c2, by omega, by omega, by simp, ht.1, DK1.out, below_grown HB2.out ht.2 hbb⟩
                case measure => simp [intOf]; omega
              · have hl00 : decide ((0 : Int) < (len3 : Int)) = true := by simp; omega
                have hl01 : decide (0 < len3) = true := by simp; omega
                have hlp : 0 < len3 := by omega
                have hq1 : j % len3 < len3 := Nat.mod_lt _ hlp
                have hx6 := (HB2.out.cell (p := ⟨b5, off5 + j % len3, none⟩) hb5).trans (hx5 (j % len3) hq1)
                unfold maxLen at hc5
                have hq2 : (0 : Int) ≤ (j : Int) % (len3 : Int) := by omega
                have hq3 : (j : Int) % (len3 : Int) < (len3 : Int) := by omega
                clear hx5 hl0
                generalize boolAt w b5 (off5 + j % len3) = y at *
                cases y
                all_goals
                  go_wp2_with (first | (go_at_call 15; (first | (with_reducible refine (P1.out _).mono ?_; rintro e w3 ⟨rfl, rfl⟩) | (with_reducible refine (P2.out _).mono ?_; rintro e w3 ⟨rfl, rfl⟩))) | (go_at_call 19; refine A1.out.mono ?_; rintro e w5 ⟨rfl, ht⟩) | (go_at_call 20; refine L1.out.mono ?_; rintro e w5 ⟨rfl, ht⟩) | (go_at_call 13; refine (W2.out _ ht.1).mono ?_; rintro e w7 ⟨rfl, rfl⟩))
                  go_roundw
                  case rel => exact ⟨j + 1, c2, by omega, by omega, by simp, ht.1, DK1.out, below_grown HB2.out ht.2 hbb⟩
                  case measure => simp [intOf]; omega
          · have hcase2 : (j < zs.length ∧ 20 ≤ j) ∨ zs.length ≤ j := by omega
            clear hlt
            have hlast : c.size = s0 := hs
            have LN : lostF c (now + 50) (now + 1) 0 = halveF { discF c 0 with recov := true, since := now + 50 } := lost_new (by unfold oldF; rw [hr, hn]; simp; omega)
            have L2 := Lib.hid (lost_any b c (now + 50) (now + 1) 0 wr hA hO.f1 (by have := hO.f2; omega) hO.s1 hO.s2)
            rw [LN] at L2
            have hsz : (halveF { discF c 0 with recov := true, since := now + 50 }).size = if s0 / 2 < 1024 then 1024 else s0 / 2 := by rw [← hs]; rfl
            generalize halveF { discF c 0 with recov := true, since := now + 50 } = c9 at *
            have W3 := Lib.hid (fun w' (h : At w' b c9) => window_any b c9 w' h)
            rw [hsz] at W3
            clear LN hsz hlast hO hs hr hn LO AO LC AC DK hA hB
            obtain ⟨t, ht0⟩ : ∃ t, (if s0 / 2 < 1024 then 1024 else s0 / 2) = t := ⟨_, rfl⟩
            rw [ht0] at W3
            have htt : (t == t) = true := by simp
            have hg0 : decide (1024 < s0) = true := by simpa using hs1
            have hq0 : IntKind.i64.wrap (s0.tdiv 2) = s0 / 2 := IntWalk.i64_quo _ _ ⟨by omega, by omega, by omega⟩
            rcases hcase2 with ⟨hd1, hd2⟩ | hd1
            all_goals
              go_wp2_with (first | (go_at_call 20; refine L2.out.mono ?_; rintro e w5 ⟨rfl, ht⟩) | (go_at_call 13; refine (W3.out _ ht.1).mono ?_; rintro e w7 ⟨rfl, rfl⟩))
              go_ret
              exact ⟨rfl, below_grown HB2.out ht.2 hbb⟩
theorem cells3 : Try.prog.cellsOf 3 = 1 := by kernel_rfl
theorem cells4 : Try.prog.cellsOf 4 = 1 := by kernel_rfl
theorem main {H : Type} {enc : TypeId × Value → H} (W : World) (base0 : Nat) (v0 : Value) (d0 : DataW H) (p0 : List MemPlace) (hv0 : Value.okWide Try.prog W .any base0 22 v0) (h0 : DataW.Trod enc Try.prog W 0 (fun _ => true) true 22 v0 d0 p0)
    (base1 : Nat) (v1 : Value) (d1 : DataW H) (p1 : List MemPlace) (hv1 : Value.okWide Try.prog W .any base1 3 v1) (h1 : DataW.Trod enc Try.prog W 0 (fun _ => true) true 3 v1 d1 p1)
    (base2 : Nat) (v2 : Value) (d2 : DataW H) (p2 : List MemPlace) (hv2 : Value.okWide Try.prog W .any base2 39 v2) (h2 : DataW.Trod enc Try.prog W 0 (fun _ => true) true 39 v2 d2 p2)
    (base3 : Nat) (v3 : Value) (d3 : DataW H) (p3 : List MemPlace) (hv3 : Value.okWide Try.prog W .any base3 40 v3) (h3 : DataW.Trod enc Try.prog W 0 (fun _ => true) true 40 v3 d3 p3) :
    Calls Try.prog 5 #[v0, v1, v2, v3] W fun e w' => e = .returned (.bool true) ∧ Below W.heap.size W w' := by
  obtain ⟨ps, hP, hm, hw⟩ := prms_at hv0 h0
  obtain ⟨n, rfl, _, _, w1⟩ := open_int Try.underlying3 hv1 h1
  obtain ⟨zs, hz, hmz, hrz⟩ := ints_at Try.underlying39 Try.underlying3 cells3 hv2 h2
  obtain ⟨a2, cap2, rfl, _⟩ := hz.form
  obtain ⟨a3, len3, cap3, rfl, hlc, hl⟩ := bools_at Try.underlying40 Try.underlying4 cells4 hv3 h3
  exact walk ps v0 n zs a2 cap2 a3 len3 cap3 W hP hm hw (bounds_i64 w1).1 (bounds_i64 w1).2 hz hmz hrz hl hlc
end Go.Proofs.Ytcgcgdbcbmdahaa.congestionHalvesOnce
