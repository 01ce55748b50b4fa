/- Law 13: LossConservation's walk. -/
import Derived.Test.YtafkndhnbnpahaaGreatCo
import Derived.Deep.CutBlock
namespace Go.Proofs.YtafkndhnbnpahaaGreat.lossConservation
open Go.RowKit Go.WideShapes Go.ChangeShapes
variable {w0 w : World} {b M : Nat} {R : Rc} {rows : List Rw} {os : List (Nat × Obj)}
theorem c17 {k : Nat} {c : Cp} (h : Lw w0 w b M R rows os) (hx : (k, Obj.cells c.cells 34) ∈ os) : w.cell? ⟨k, 0, none⟩ = some (.int .i64 c.kind) ∧ w.cell? ⟨k, 1, none⟩ = some (.int .i64 c.ticks) ∧ w.cell? ⟨k, 2, none⟩ = some (.int .i64 c.size) ∧ w.cell? ⟨k, 3, none⟩ = some c.sv ∧ w.cell? ⟨k, 4, none⟩ = some (.int .i64 c.last) ∧ w.cell? ⟨k, 5, none⟩ = some (.int .i64 c.ft) ∧
    w.cell? ⟨k, 6, none⟩ = some (.int .i64 c.fa) ∧ w.cell? ⟨k, 7, none⟩ = some (.int .i64 c.fb) ∧ w.cell? ⟨k, 8, none⟩ = some (.int .i64 c.fc) ∧ w.cell? ⟨k, 9, none⟩ = some (.string c.fs) ∧ w.cell? ⟨k, 10, none⟩ = some (.bool c.fin) ∧ w.cell? ⟨k, 11, none⟩ = some c.fsv ∧
    w.cell? ⟨k, 12, none⟩ = some (.int .i64 c.p.pn) ∧ w.cell? ⟨k, 13, none⟩ = some (.int .i64 c.p.time) ∧ w.cell? ⟨k, 14, none⟩ = some (.int .i64 c.p.size) ∧ w.cell? ⟨k, 15, none⟩ = some (.bool c.p.el) ∧ w.cell? ⟨k, 16, none⟩ = some c.p.fv := by
  have hy := h.at hx
  exact ⟨at_whole hy 0 rfl, at_whole hy 1 rfl, at_whole hy 2 rfl, at_whole hy 3 rfl, at_whole hy 4 rfl, at_whole hy 5 rfl, at_whole hy 6 rfl, at_whole hy 7 rfl, at_whole hy 8 rfl, at_whole hy 9 rfl, at_whole hy 10 rfl, at_whole hy 11 rfl, at_whole hy 12 rfl, at_whole hy 13 rfl, at_whole hy 14 rfl, at_whole hy 15 rfl, at_whole hy 16 rfl⟩
theorem lwDrewN (h : Lw w0 w b M R rows os) (n : Nat) : Lw w0 (w.drewN n) b M R rows os := h.below (belowN (Below.refl _ w) n)
theorem lwDrew (h : Lw w0 w b M R rows os) : Lw w0 w.drew b M R rows os := h.below (Below.refl _ w).drew
/-- what holds behind the switch -/
def Aft (w w' : World) (b M : Nat) (k : Nat) (cb : Nat) (c : Cp) (tv : Value) : Prop :=
  ∃ R T a cap, tv = .slice a (List.length T) cap ∧ R.nx ≤ ((k + 1 : Nat) : Int) ∧ TimesOk R.l R.nx T ∧ Lw w w' b M R [inR tv T] [(cb, .cells c.cells 34)]
set_option maxRecDepth 100000 in
set_option maxHeartbeats 40000000 in
theorem walk (v : Value) (l : List Cp) (delay : Int) (w : World) (hl : CpsAt w v l) (hc : ∀ c ∈ l, CpArg w c) (hd : I64 delay) (hlm : l.length ≤ maxLen) :
    Calls Tryz.prog 8 #[v, .int .i64 delay] w fun e w' => e = .returned (.bool true) ∧ Below w.heap.size w w' := by
  have PD := Lib.hid (fun w => pick_any delay 30 w hd.1 hd.2 (by decide) (by decide))
  have rd := pickF_range delay 30 (by decide)
  have HL := Lib.hid (And.intro hl hc)
  obtain ⟨a, cap, hv⟩ := hl.form
  subst hv
  generalize pickF delay 30 = d at *
  obtain ⟨rd1, rd2⟩ := rd
  unfold maxLen at hlm
  clear hl hc hd
  go_enter Tryz.func8, Tryz.ntmps8
  go_wp2_with fail
  refine (sane_any _).mono ?_
  rintro e w1 ⟨rfl, hb1⟩
  have B1 := Lib.hid hb1
  clear hb1
  go_wp2_with fail
  refine (lw_new2 (w0 := w) B1.out [] (by simp)).mono ?_
  rintro e w2 ⟨b, M, rfl, h, _⟩
  have H := Lib.hid h
  clear h B1
  go_wp2_with fail
  go_loopw [7, 8, 9] (fun tv t i wr => ∃ (k : Nat) (now : Int) (R : Rc) (T : List Int) (a : Option Addr) (cap : Nat), k ≤ l.length ∧ k ≤ 60 ∧ i = .int .i64 k ∧ t = .int .i64 now ∧ tv = .slice a T.length cap ∧ 0 ≤ now ∧ now ≤ 12 * k ∧ R.nx ≤ k ∧ TimesOk R.l R.nx T ∧ Lw w wr b M R [inR tv T] []) (fun _ _ i _ => 60 - (intOf i).toNat)
  case atStart => exact ⟨0, 0, ⟨[], 0, -1⟩, [], none, 0, by omega, by omega, rfl, rfl, rfl, by omega, by omega, by decide, TimesOk.nil, H.out.addRow (inR _ []) (World.ownsRow_nil _ _ 3 1) (show (3 : Nat) ≠ 75 by decide)⟩
  case round =>
    obtain ⟨k, now, R, T, ta, tc, hk, hk6, rfl, rfl, rfl, hn0, hn1, hnx, ht, h⟩ := hrel
    have HK := Lib.hid (And.intro ht h)
    clear h ht
    by_cases hlt : k < l.length
    · by_cases hlt5 : k < 60
      · rcases HL.out.1.below HK.out.2.bel with ⟨h0, _⟩ | ⟨g, off, cap', e, _, hcap, hcm, hrg⟩
        · rw [h0] at hlt; simp at hlt
        · cases e
          have RG := Lib.hid (hrg k (l[k]'hlt) (List.getElem?_eq_getElem hlt))
          have CA := Lib.hid ((HL.out.2 (l[k]'hlt) (List.getElem_mem hlt)))
          generalize l[k]'hlt = c at RG CA
          have HV := Lib.hid (HK.out.2.alloc (.cells c.cells 34) rfl)
          have HT := Lib.hid HK.out.1
          have y0 := at_whole (HV.out.at List.mem_cons_self) 0 (show c.cells[0]? = some (.int .i64 c.kind) from rfl)
          have y1 := at_whole (HV.out.at List.mem_cons_self) 1 (show c.cells[1]? = some (.int .i64 c.ticks) from rfl)
          have PT := Lib.hid (fun w => pick_any c.ticks 12 w CA.out.ticks.1 CA.out.ticks.2 (by decide) (by decide))
          have PK := Lib.hid (fun w => pick_any c.kind 11 w CA.out.kind.1 CA.out.kind.2 (by decide) (by decide))
          have pt := pickF_range c.ticks 12 (by decide)
          have pk := pickF_range c.kind 11 (by decide)
          generalize pickF c.ticks 12 = dt at *
          generalize pickF c.kind 11 = kd at *
          have i0 : (0 : Int) ≤ (k : Int) := by omega
          have i1 : (k : Int) < (l.length : Int) := by omega
          have i2 : (k : Int) < 60 := by omega
          unfold maxLen at hcm
          clear hrg
          go_wp2_with ((with_reducible refine hold_load 34 _ rfl ?_))
          refine Lib.hid ?_
          refine wpList_load_cp rfl _ rfl c g (off + k * 17) rfl RG.out ?_
          go_wp2_with ((with_reducible refine hold_store 34 _ _ rfl ?_))
          refine Lib.hid ?_
          refine wpList_store_cp rfl _ _ rfl c CA.out.one _ rfl rfl rfl ?_
          go_wp2_with fail
          have CB := Lib.hid HV.out
          refine (PT.out _).mono ?_
          rintro e w' ⟨rfl, rfl⟩
          have T0 := PK.out
          go_upto_block 2 with (refine (T0 _).mono ?_; rintro e w' ⟨rfl, rfl⟩)
          clear T0 HV HK y0 y1 PT PK RG HL
          generalize hV : wr.alloc _ = V at CB ⊢
          clear hV
          generalize wr.heap.size = cb at CB ⊢
          obtain ⟨nw, hnw⟩ : ∃ x, now + dt = x := ⟨_, rfl⟩
          have hnw0 : 0 ≤ nw := by omega
          have hnw1 : nw ≤ 12 * ((k + 1 : Nat) : Int) := by push_cast; omega
          rw [hnw]
          go_cut [7, 11, 12, 13, 14] from 18 to 99 (fun s7 s11 s12 s13 s14 w' => s11 = .bool true ∧ Hid (Aft w w' b M k cb c s7))
          case first =>
            have HO := Lib.hid CB.out.ok
            have BN := Lib.hid (fun (p : Pk) (hp : p ∈ R.l) => HO.out.up.bnd p hp)
            have N10 := HO.out.n1
            have TL := Lib.hid HT.out.len
            have FW := Lib.hid (HT.out.few N10)
            have LL := Lib.hid (show R.l.length ≤ 10000 from by have := HO.out.len; omega)
            by_cases k7 : kd = 7
            · subst k7
              go_wp2_with fail
              refine (PD.out _).mono ?_
              rintro e w' ⟨rfl, rfl⟩
              go_wp2_with fail
              refine (lw_exp CB.out nw d hnw0 (by omega) rd1 (by omega)).mono ?_
              rintro e w3 ⟨v, rfl, nv, h⟩
              have H := Lib.hid h
              have NV := Lib.hid nv
              clear h nv
              go_wp2_with fail
              refine (lw_count (rows' := []) H.out (T := T) (l := R.l.filter (exF R.lg nw d)) (by simp) (by simp) NV.out (HT.out.inT (k := R.l.filter _) BN.out (fun q hq => (List.mem_filter.1 hq).1)) FW.out (Nat.le_trans (List.length_filter_le _ _) LL.out) (by simp) (by intro x hx; simp at hx; subst hx; exact ⟨_, 34, rfl, by decide⟩)).mono ?_
              rintro e w4 ⟨rfl, h⟩
              have H4 := Lib.hid (show Aft w w4 b M k cb c (.slice ta T.length tc) from ⟨_, bump T (R.l.filter (exF R.lg nw d)), ta, tc, by rw [bump_len], by show R.nx ≤ _; push_cast; omega, HT.out.filter (exF R.lg nw d) (fun p hp => (BN.out p hp).1), h⟩)
              clear h CB H
              go_wp2_with fail
              go_meet
              exact ⟨rfl, H4⟩
            · by_cases k456 : kd = 4 ∨ kd = 5 ∨ kd = 6
              · skip
                have k46 : kd = 4 ∨ kd = 5 ∨ kd = 6 := k456
                clear k456
                have e7 : (kd == 7) = false := beq_eq_false_iff_ne.2 k7
                obtain ⟨n0, F0, T0, hA, hN⟩ := CA.out.sp
                have HA := Lib.hid hA
                have HN := Lib.hid hN
                have FS := Lib.hid (show ∃ a n k, c.fsv = .slice a n k by obtain ⟨n, F, T, ⟨a, cap, e, _⟩, _⟩ := CA.out.fsp; exact ⟨_, _, _, e⟩)
                have FV := Lib.hid CA.out.fv
                have N0 := Lib.hid (show (0 : Int) ≤ (T.length : Int) by omega)
                have N1 := Lib.hid (show (T.length : Int) ≤ 100000 by have := TL.out; omega)
                have HX := Lib.hid (show nw ≤ 9223372036854775807 ∧ d ≤ 9223372036854775807 by omega)
                clear hA hN
                go_upto_if 59 with fail
                go_cut [59] from 60 to 62 (fun s w' => s = .bool true ∧ w' = V)
                case first =>
                  clear CB HO HA HN FS FV N0 N1 HX CA BN TL FW LL
                  rcases k46 with rfl | rfl | rfl
                  · go_wp2
                    go_meet
                    exact ⟨rfl, rfl⟩
                  · go_wp2
                    go_meet
                    exact ⟨rfl, rfl⟩
                  · go_wp2
                    go_meet
                    exact ⟨rfl, rfl⟩
                case rest =>
                obtain ⟨rfl, rfl⟩ := hcut
                go_upto_region 20 with fail
                clear e7 k46 k7
                obtain ⟨lt, hlt'⟩ : ∃ lt, (c.kind.tmod 11 == 6) = lt := ⟨_, rfl⟩
                have y0 := (c17 CB.out List.mem_cons_self).1
                go_wp2_with ((with_reducible refine hold_load 34 _ rfl ?_))
                refine Lib.hid ?_
                refine wpList_load_cp rfl _ rfl c cb 0 rfl (fun j u hu => by rw [Nat.zero_add]; exact at_whole (CB.out.at List.mem_cons_self) j (by simpa using hu)) ?_
                go_wp2_with fail
                refine (lw_ackfrom CB.out c (HA.out.below CB.out.bel) CA.out.last HN.out T.length lt N0.out N1.out FS.out FV.out).mono ?_
                rintro e w5 ⟨a1, c1, l1, rfl, hok, htop1, h, _⟩
                have OK := Lib.hid (And.intro hok htop1)
                have H5 := Lib.hid h
                clear hok htop1 h CB y0
                go_wp2_with fail
                refine (PD.out _).mono ?_
                rintro e w' ⟨rfl, rfl⟩
                go_wp2_with fail
                have hs := Lib.hid (H5.out.spans (v := .slice a1 l1.length c1) (l := l1) (by simp) OK.out.1.lo)
                clear hlt'
                by_cases htop : topF T.length c.last lt ≤ R.nx
                · skip
                  have TP := Lib.hid htop
                  clear htop
                  refine (lw_ack H5.out 0 _ l1.length (fF l1) (fT l1) nw d (by decide) (by decide) OK.out.1 hs.out.1 hnw0 rd1 HX.out.1 HX.out.2 (by rw [OK.out.2]; exact TP.out) (fun g o c e => hs.out.2.1 g o c e)).mono ?_
                  rintro e w6 ⟨va, vl, rfl, na, nl, h⟩
                  have H6 := Lib.hid h
                  have NA := Lib.hid na
                  have NL := Lib.hid nl
                  have AC := Lib.hid (show R.acked l1.length (fF l1) (fT l1) nw d = (R.ack l1.length (fF l1) (fT l1)).cut (exF (R.ack l1.length (fF l1) (fT l1)).lg nw d) from rfl)
                  have LA := Lib.hid (show R.lostA l1.length (fF l1) (fT l1) nw d = (R.ack l1.length (fF l1) (fT l1)).l.filter (exF (R.ack l1.length (fF l1) (fT l1)).lg nw d) from rfl)
                  have AL := Lib.hid (show (R.ack l1.length (fF l1) (fT l1)).l = R.l.filter (fun p => !akF l1.length (fF l1) (fT l1) p) from rfl)
                  have T1 := Lib.hid (HT.out.filter (akF l1.length (fF l1) (fT l1)) (fun p hp => (BN.out p hp).1))
                  have BA := Lib.hid (fun (p : Pk) (hp : p ∈ (R.ack l1.length (fF l1) (fT l1)).l) => BN.out p (List.mem_filter.1 hp).1)
                  clear h na nl H5 hs OK TP
                  go_wp2_with fail
                  refine (lw_count (rows' := [pkR vl (R.lostA l1.length (fF l1) (fT l1) nw d)]) H6.out (T := T) (l := R.l.filter (akF l1.length (fF l1) (fT l1))) (by simp) (by simp) NA.out (HT.out.inT (k := R.l.filter _) BN.out (fun q hq => (List.mem_filter.1 hq).1)) FW.out (Nat.le_trans (List.length_filter_le _ _) LL.out) (by intro x hx; simp at hx; subst hx; exact ⟨by simp, show (32 : Nat) ≠ 3 by decide⟩) (by intro x hx; simp at hx; subst hx; exact ⟨_, 34, rfl, by decide⟩)).mono ?_
                  rintro e w7 ⟨rfl, h⟩
                  have H7 := Lib.hid h
                  have F7 := Lib.hid (T1.out.few N10)
                  clear h H6
                  go_wp2_with fail
                  have LB : (R.lostA l1.length (fF l1) (fT l1) nw d).length ≤ 10000 := by rw [LA.out, AL.out]; exact Nat.le_trans (List.length_filter_le _ _) (Nat.le_trans (List.length_filter_le _ _) LL.out)
                  refine (lw_count (rows' := []) H7.out (tv := .slice ta T.length tc) (T := bump T (R.l.filter (akF l1.length (fF l1) (fT l1)))) (l := R.lostA l1.length (fF l1) (fT l1) nw d) (by simp) (by simp) NL.out (T1.out.inT (k := R.lostA l1.length (fF l1) (fT l1) nw d) (fun q hq => BN.out q (List.mem_filter.1 hq).1) (fun q hq => (List.mem_filter.1 hq).1)) F7.out LB (by simp) (by intro x hx; simp at hx; subst hx; exact ⟨_, 34, rfl, by decide⟩)).mono ?_
                  rintro e w8 ⟨rfl, h⟩
                  have H8 := Lib.hid (show Aft w w8 b M k cb c (.slice ta T.length tc) from ⟨_, _, ta, tc, by rw [bump_len, bump_len], by show R.nx ≤ _; push_cast; omega, T1.out.filter (exF (R.ack l1.length (fF l1) (fT l1)).lg nw d) (fun p hp => (BA.out p hp).1), h⟩)
                  clear h H7
                  go_wp2_with fail
                  go_meet
                  exact ⟨rfl, H8⟩
                · skip
                  have TP := Lib.hid (Int.not_le.1 htop)
                  clear htop
                  refine (lw_unsent H5.out 0 _ l1.length (fF l1) (fT l1) nw d (by decide) (by decide) OK.out.1 hs.out.1 hnw0 rd1 (by rw [OK.out.2]; exact TP.out)).mono ?_
                  rintro e w6 ⟨rfl, h⟩
                  have H6 := Lib.hid (h.addRow (pkR (.slice none 0 0) []) (World.ownsRow_nil _ _ 32 5) (show (32 : Nat) ≠ 75 by decide))
                  clear h H5 hs OK TP
                  go_wp2_with fail
                  refine (lw_count (rows' := [pkR (.slice none 0 0) []]) H6.out (T := T) (l := []) (by simp) (by simp) ⟨fun _ => rfl, fun _ => rfl⟩ (fun q hq => by cases hq) FW.out (by simp) (by intro x hx; simp at hx; subst hx; exact ⟨by simp, show (32 : Nat) ≠ 3 by decide⟩) (by intro x hx; simp at hx; subst hx; exact ⟨_, 34, rfl, by decide⟩)).mono ?_
                  rintro e w7 ⟨rfl, h⟩
                  have H7 := Lib.hid h
                  clear h H6
                  go_wp2_with fail
                  refine (lw_count (rows' := []) H7.out (tv := .slice ta T.length tc) (T := T) (l := []) (by simp [bump]) (by simp) ⟨fun _ => rfl, fun _ => rfl⟩ (fun q hq => by cases hq) FW.out (by simp) (by simp) (by intro x hx; simp at hx; subst hx; exact ⟨_, 34, rfl, by decide⟩)).mono ?_
                  rintro e w8 ⟨rfl, h⟩
                  have H8 := Lib.hid (show Aft w w8 b M k cb c (.slice ta T.length tc) from ⟨R, T, ta, tc, rfl, by push_cast; omega, HT.out, h⟩)
                  clear h H7
                  go_wp2_with fail
                  go_meet
                  exact ⟨rfl, H8⟩
              · have e7 : (kd == 7) = false := beq_eq_false_iff_ne.2 k7
                have e4 : (kd == 4) = false := beq_eq_false_iff_ne.2 (by omega)
                have e5 : (kd == 5) = false := beq_eq_false_iff_ne.2 (by omega)
                have e6 : (kd == 6) = false := beq_eq_false_iff_ne.2 (by omega)
                clear k7 k456
                by_cases k10 : kd = 10
                · subst k10
                  have y2 := (c17 CB.out List.mem_cons_self).2.2.1
                  by_cases h4 : c.size.tmod 4 = 0
                  · have e8 : (c.size.tmod 4 == 0) = true := by rw [h4]; rfl
                    clear h4
                    go_wp2_with fail
                    refine (lw_disc CB.out).mono ?_
                    rintro e w3 ⟨v, rfl, nv, h⟩
                    have H := Lib.hid h
                    have NV := Lib.hid nv
                    clear h nv
                    go_wp2_with fail
                    refine (lw_count (rows' := []) H.out (T := T) (l := R.l) (by simp) (by simp) NV.out (HT.out.inT (k := R.l) BN.out (fun q hq => hq)) FW.out LL.out (by simp) (by intro x hx; simp at hx; subst hx; exact ⟨_, 34, rfl, by decide⟩)).mono ?_
                    rintro e w4 ⟨rfl, h⟩
                    have H4 := Lib.hid (show Aft w w4 b M k cb c (.slice ta T.length tc) from ⟨_, bump T R.l, ta, tc, by rw [bump_len], by show R.nx ≤ _; push_cast; omega, HT.out.all (fun p hp => (BN.out p hp).1), h⟩)
                    clear h CB H
                    go_wp2_with fail
                    go_meet
                    exact ⟨rfl, H4⟩
                  · have e8 : (c.size.tmod 4 == 0) = false := beq_eq_false_iff_ne.2 h4
                    clear h4
                    have H4 := Lib.hid (show Aft w V b M k cb c (.slice ta T.length tc) from ⟨R, T, ta, tc, rfl, by push_cast; omega, HT.out, CB.out.sub (by simp) (by simp)⟩)
                    clear CB
                    go_wp2_with fail
                    go_meet
                    exact ⟨rfl, H4⟩
                · have e10 : (kd == 10) = false := beq_eq_false_iff_ne.2 k10
                  clear k10
                  go_wp2_with fail
                  refine (lw_sent CB.out ⟨T.length, nw, 0, false, .slice none 0 0⟩ rfl TL.out (by omega) ⟨hnw0, by show nw ≤ _; omega⟩ (Int.le_refl 0)).mono ?_
                  rintro e w3 ⟨rfl, h⟩
                  have H := Lib.hid h
                  have T10 : T.length ≤ 10000 := FW.out.1
                  clear h CB
                  go_wp2_with (at_builtin; refine wpList_append_in (rows' := []) rfl _ _ rfl (tv := .slice ta T.length tc) (T := T) 0 (H.out.below ((Below.refl _ w3).alloc (Nat.le_refl _) _)) (by simp) rfl w3.heap.size rfl (heap_alloc_new _ _) T10 (by simp) (by intro x hx; simp at hx; subst hx; exact ⟨_, 34, rfl, by decide⟩) ?_; intro a5 c5 w5 h5; have H5 := Lib.hid (show Aft w w5 b M k cb c (.slice a5 (T.length + 1) c5) from ⟨_, T ++ [0], a5, c5, by simp, by show R.nx + 1 ≤ _; push_cast; omega, HT.out.add ⟨T.length, nw, 0, false, .slice none 0 0⟩ TL.out (fun q hq => (BN.out q hq).2), h5⟩); clear h5)
                  go_meet
                  exact ⟨rfl, H5⟩
          case rest =>
            obtain ⟨rfl, hc⟩ := hcut
            obtain ⟨R2, T2, a2, c2, rfl, hn2, ht2, h⟩ := hc.out
            have H := Lib.hid (h.sub (rows' := [inR (.slice a2 T2.length c2) T2]) (os' := []) (by simp) (by simp))
            have HT2 := Lib.hid ht2
            clear h hc CB HT hnx ht2
            go_wp2
            go_roundw
            case rel => exact ⟨k + 1, nw, R2, T2, a2, c2, by omega, by omega, by go_num, rfl, rfl, hnw0, hnw1, hn2, HT2.out, H.out⟩
            case measure => simp [intOf]; omega
      · have i1 : (k : Int) < (l.length : Int) := by omega
        have i2 : ((k : Int) < 60) = False := eq_false (by omega)
        have HO := Lib.hid HK.out.2.ok
        have BN := Lib.hid (fun (p : Pk) (hp : p ∈ R.l) => HO.out.up.bnd p hp)
        have N10 := HO.out.n1
        have FW := Lib.hid (HK.out.1.few N10)
        have LL := Lib.hid (show R.l.length ≤ 10000 from by have := HO.out.len; omega)
        have DN := Lib.hid (fun i hi => (HK.out.1.all (fun p hp => (BN.out p hp).1)).done i hi)
        have IN := Lib.hid (HK.out.1.inT (k := R.l) BN.out (fun q hq => hq))
        have H0 := Lib.hid HK.out.2
        clear HK
        go_wp2_with fail
        refine (lw_out H0.out).mono ?_
        rintro e w5 ⟨vo, rfl, no, h⟩
        have H5 := Lib.hid h
        have NO := Lib.hid no
        clear h no H0
        go_wp2_with fail
        refine (lw_count (rows' := []) H5.out (tv := .slice ta T.length tc) (T := T) (l := R.l) (by simp) (by simp) NO.out IN.out FW.out LL.out (by simp) (by intro x hx; simp at hx)).mono ?_
        rintro e w6 ⟨rfl, h⟩
        have H6 := Lib.hid h
        obtain ⟨m, hm⟩ : ∃ m, (bump T R.l).length = m := ⟨_, rfl⟩
        have HM := Lib.hid hm
        have hm2 : T.length = m := by rw [← hm, bump_len]
        have hm3 : m ≤ 10000 := by have := FW.out.1; omega
        clear h H5 hm
        rw [hm2] at H6 ⊢
        clear hm2
        go_wp2_with fail
        go_loopw [15] (fun i wr => ∃ j : Nat, j ≤ m ∧ i = .int .i64 j ∧ Lw w wr b M R [inR (.slice ta m tc) (bump T R.l)] []) (fun i _ => m - (intOf i).toNat)
        case atStart => exact ⟨0, by omega, rfl, H6.out⟩
        case round =>
          obtain ⟨j, hj, rfl, h⟩ := hrel
          have HJ := Lib.hid h
          have hr : wr.ownsRow w.heap.size 3 1 (.slice ta m tc) (bump T R.l).length (ints (bump T R.l)) := (h.rows _ List.mem_cons_self).1
          rw [HM.out] at hr
          clear h H6
          by_cases hjl : j < m
          · obtain ⟨g2, e2⟩ : ∃ g2, ta = some ⟨g2, 0, none⟩ := by
              rcases hr.2 with ⟨_, h0⟩ | ⟨g2, _, _, e2, _⟩
              · omega
              · simp only [Value.slice.injEq] at e2; exact ⟨g2, e2.1⟩
            subst e2
            have c0 := hr.cellAt j (by omega)
            rw [ints_get _ _ (by rw [HM.out]; exact hjl), DN.out j (by rw [HM.out]; exact hjl)] at c0
            have i5 : (0 : Int) ≤ (j : Int) := by omega
            have i6 : (j : Int) < (m : Int) := by omega
            have hcm2 : tc ≤ maxLen := by
              rcases hr.2 with ⟨h0, _⟩ | ⟨g3, c3, _, e3, _, _, _, h3, _⟩
              · simp at h0
              · simp only [Value.slice.injEq] at e3; rw [e3.2.2]; exact h3
            unfold maxLen at hcm2
            clear hr
            go_wp2
            go_roundw
            case rel => exact ⟨j + 1, by omega, by go_num, HJ.out⟩
            case measure => simp [intOf]; omega
          · obtain rfl : j = m := by omega
            have HB := Lib.hid HJ.out.bel
            clear hr hjl hj HJ
            go_wp2
            go_ret
            exact ⟨rfl, HB.out⟩
    · have i1 : ((k : Int) < (l.length : Int)) = False := eq_false (by omega)
      have HO := Lib.hid HK.out.2.ok
      have BN := Lib.hid (fun (p : Pk) (hp : p ∈ R.l) => HO.out.up.bnd p hp)
      have N10 := HO.out.n1
      have FW := Lib.hid (HK.out.1.few N10)
      have LL := Lib.hid (show R.l.length ≤ 10000 from by have := HO.out.len; omega)
      have DN := Lib.hid (fun i hi => (HK.out.1.all (fun p hp => (BN.out p hp).1)).done i hi)
      have IN := Lib.hid (HK.out.1.inT (k := R.l) BN.out (fun q hq => hq))
      have H0 := Lib.hid HK.out.2
      clear HK
      go_wp2_with fail
      refine (lw_out H0.out).mono ?_
      rintro e w5 ⟨vo, rfl, no, h⟩
      have H5 := Lib.hid h
      have NO := Lib.hid no
      clear h no H0
      go_wp2_with fail
      refine (lw_count (rows' := []) H5.out (tv := .slice ta T.length tc) (T := T) (l := R.l) (by simp) (by simp) NO.out IN.out FW.out LL.out (by simp) (by intro x hx; simp at hx)).mono ?_
      rintro e w6 ⟨rfl, h⟩
      have H6 := Lib.hid h
      obtain ⟨m, hm⟩ : ∃ m, (bump T R.l).length = m := ⟨_, rfl⟩
      have HM := Lib.hid hm
      have hm2 : T.length = m := by rw [← hm, bump_len]
      have hm3 : m ≤ 10000 := by have := FW.out.1; omega
      clear h H5 hm
      rw [hm2] at H6 ⊢
      clear hm2
      go_wp2_with fail
      go_loopw [15] (fun i wr => ∃ j : Nat, j ≤ m ∧ i = .int .i64 j ∧ Lw w wr b M R [inR (.slice ta m tc) (bump T R.l)] []) (fun i _ => m - (intOf i).toNat)
      case atStart => exact ⟨0, by omega, rfl, H6.out⟩
      case round =>
        obtain ⟨j, hj, rfl, h⟩ := hrel
        have HJ := Lib.hid h
        have hr : wr.ownsRow w.heap.size 3 1 (.slice ta m tc) (bump T R.l).length (ints (bump T R.l)) := (h.rows _ List.mem_cons_self).1
        rw [HM.out] at hr
        clear h H6
        by_cases hjl : j < m
        · obtain ⟨g2, e2⟩ : ∃ g2, ta = some ⟨g2, 0, none⟩ := by
            rcases hr.2 with ⟨_, h0⟩ | ⟨g2, _, _, e2, _⟩
            · omega
            · simp only [Value.slice.injEq] at e2; exact ⟨g2, e2.1⟩
          subst e2
          have c0 := hr.cellAt j (by omega)
          rw [ints_get _ _ (by rw [HM.out]; exact hjl), DN.out j (by rw [HM.out]; exact hjl)] at c0
          have i5 : (0 : Int) ≤ (j : Int) := by omega
          have i6 : (j : Int) < (m : Int) := by omega
          have hcm2 : tc ≤ maxLen := by
            rcases hr.2 with ⟨h0, _⟩ | ⟨g3, c3, _, e3, _, _, _, h3, _⟩
            · simp at h0
            · simp only [Value.slice.injEq] at e3; rw [e3.2.2]; exact h3
          unfold maxLen at hcm2
          clear hr
          go_wp2
          go_roundw
          case rel => exact ⟨j + 1, by omega, by go_num, HJ.out⟩
          case measure => simp [intOf]; omega
        · obtain rfl : j = m := by omega
          have HB := Lib.hid HJ.out.bel
          clear hr hjl hj HJ
          go_wp2
          go_ret
          exact ⟨rfl, HB.out⟩
set_option maxRecDepth 100000 in
theorem main {H : Type} {enc : TypeId × Value → H} (W : World) (base0 : Nat) (v0 : Value) (d0 : DataW H) (p0 : List MemPlace) (hv0 : Value.okWide Tryz.prog W .any base0 22 v0) (h0 : DataW.Trod enc Tryz.prog W 0 (fun _ => true) true 22 v0 d0 p0)
    (base1 : Nat) (v1 : Value) (d1 : DataW H) (p1 : List MemPlace) (hv1 : Value.okWide Tryz.prog W .any base1 3 v1) (h1 : DataW.Trod enc Tryz.prog W 0 (fun _ => true) true 3 v1 d1 p1) :
    Calls Tryz.prog 8 #[v0, v1] W fun e w' => e = .returned (.bool true) ∧ Below W.heap.size W w' := by
  obtain ⟨l, hl, hm, hc⟩ := cps_at hv0 h0
  obtain ⟨a1, rfl, _, _, w1⟩ := open_int Tryz.underlying3 hv1 h1
  exact walk v0 l a1 W hl hc (bounds_i64 w1) hm
end Go.Proofs.YtafkndhnbnpahaaGreat.lossConservation

