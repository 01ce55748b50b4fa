/- Law 13: LossOnlyWithCause's walk. -/
import Derived.Test.YtafkndhnbnpahaaGreatZm
import Derived.Test.YtafkndhnbnpahaaGreatAj
import Derived.Deep.CutBlock
namespace Go.Proofs.YtafkndhnbnpahaaGreat.lossOnlyWithCause
open Go.RowKit Go.WideShapes Go.ChangeShapes
variable {w0 w : World} {b M : Nat} {R : Rc} {rows : List Rw} {os : List (Nat × Obj)}
theorem c17 {k : Nat} {c : Cp} (h : Lw w0 w b M R rows os) (hx : (k, Obj.cells c.cells 34) ∈ os) : w.cell? ⟨k, 0, none⟩ = some (.int .i64 c.kind) ∧ w.cell? ⟨k, 1, none⟩ = some (.int .i64 c.ticks) ∧ w.cell? ⟨k, 2, none⟩ = some (.int .i64 c.size) ∧ w.cell? ⟨k, 3, none⟩ = some c.sv ∧ w.cell? ⟨k, 4, none⟩ = some (.int .i64 c.last) ∧ w.cell? ⟨k, 5, none⟩ = some (.int .i64 c.ft) ∧
    w.cell? ⟨k, 6, none⟩ = some (.int .i64 c.fa) ∧ w.cell? ⟨k, 7, none⟩ = some (.int .i64 c.fb) ∧ w.cell? ⟨k, 8, none⟩ = some (.int .i64 c.fc) ∧ w.cell? ⟨k, 9, none⟩ = some (.string c.fs) ∧ w.cell? ⟨k, 10, none⟩ = some (.bool c.fin) ∧ w.cell? ⟨k, 11, none⟩ = some c.fsv ∧
    w.cell? ⟨k, 12, none⟩ = some (.int .i64 c.p.pn) ∧ w.cell? ⟨k, 13, none⟩ = some (.int .i64 c.p.time) ∧ w.cell? ⟨k, 14, none⟩ = some (.int .i64 c.p.size) ∧ w.cell? ⟨k, 15, none⟩ = some (.bool c.p.el) ∧ w.cell? ⟨k, 16, none⟩ = some c.p.fv := by
  have hy := h.at hx
  exact ⟨at_whole hy 0 rfl, at_whole hy 1 rfl, at_whole hy 2 rfl, at_whole hy 3 rfl, at_whole hy 4 rfl, at_whole hy 5 rfl, at_whole hy 6 rfl, at_whole hy 7 rfl, at_whole hy 8 rfl, at_whole hy 9 rfl, at_whole hy 10 rfl, at_whole hy 11 rfl, at_whole hy 12 rfl, at_whole hy 13 rfl, at_whole hy 14 rfl, at_whole hy 15 rfl, at_whole hy 16 rfl⟩
theorem top_gt {x : Int} (last : Int) (h : x = 0) : x < topF x last false := by
  have := (topF_range x last false (by omega)).1
  omega
theorem top_le {x : Int} (last : Int) (h : ¬ x = 0) (h0 : 0 ≤ x) : topF x last false ≤ x := by
  have := (topF_range x last false h0).2
  simp only [Bool.false_eq_true, if_false] at this
  omega
theorem lwDrewN (h : Lw w0 w b M R rows os) (n : Nat) : Lw w0 (w.drewN n) b M R rows os := h.below (belowN (Below.refl _ w) n)
theorem lwDrew (h : Lw w0 w b M R rows os) : Lw w0 w.drew b M R rows os := h.below (Below.refl _ w).drew
set_option maxRecDepth 100000 in
set_option maxHeartbeats 2000000 in
theorem acked_cell (b : Nat) (lg : Int) (w : World) (c : w.cell? ⟨b, 2, none⟩ = some (.int .i64 lg)) : Calls Tryz.prog 19 #[.pointer (some ⟨b, 0, none⟩)] w fun e w' => e = .returned (.int .i64 lg) ∧ w' = w := by
  go_enter Tryz.func19, Tryz.ntmps19
  go_wp2
  go_ret
  exact ⟨rfl, rfl⟩
/-- the packets of a list that is declared lost -/
def LostOk (R : Rc) (now d : Int) (l : List Pk) : Prop := ∀ p ∈ l, exF R.lg now d p = true ∧ 0 ≤ p.pn ∧ p.pn < 10000 ∧ 0 ≤ p.time ∧ p.time ≤ 1125899906842624
def LeftOk (R : Rc) (now d : Int) : Prop := ∀ p ∈ R.l, exF R.lg now d p = false ∧ 0 ≤ p.pn ∧ p.pn < 10000 ∧ 0 ≤ p.time ∧ p.time ≤ 1125899906842624
theorem LostOk.exp {R : Rc} (h : R.Ok) (now d : Int) : LostOk (R.cut (exF R.lg now d)) now d (R.l.filter (exF R.lg now d)) := by
  intro p hp
  obtain ⟨h1, h2⟩ := List.mem_filter.1 hp
  have h3 := h.up.bnd p h1
  have h4 := h.tm p h1
  have h5 := h.n1
  exact ⟨h2, h3.1, by omega, h4.1, h4.2⟩
theorem LostOk.ack {R : Rc} (h : R.Ok) (n : Nat) (F T : Nat → Int) (now d : Int) (hT : T 0 ≤ R.nx) : LostOk (R.acked n F T now d) now d (R.lostA n F T now d) := LostOk.exp (h.ack n F T hT) now d
theorem LeftOk.ack {R : Rc} (h : R.Ok) (n : Nat) (F T : Nat → Int) (now d : Int) : LeftOk (R.acked n F T now d) now d := by
  intro p hp
  obtain ⟨h1, _, h2⟩ := acked_sub R n F T now d p hp
  have h3 := h.up.bnd p h1
  have h4 := h.tm p h1
  have h5 := h.n1
  exact ⟨h2, h3.1, by omega, h4.1, h4.2⟩
theorem lost_nil (R : Rc) (now d : Int) : LostOk R now d [] := fun _ h => by cases h
theorem nilRow (h : Lw w0 w b M R rows os) : Lw w0 w b M R (pkR (.slice none 0 0) [] :: rows) os := h.addRow (pkR (.slice none 0 0) []) (World.ownsRow_nil w _ 32 5) (show (32 : Nat) ≠ 75 by decide)
/-- what holds behind the switch -/
def Aft (w w' : World) (b M : Nat) (k : Nat) (now d : Int) (cb : Nat) (c : Cp) (v : Value) : Prop :=
  ∃ R l, R.nx ≤ ((k + 1 : Nat) : Int) ∧ Isnil v l ∧ LostOk R now d l ∧ Lw w w' b M R [pkR v l] [(cb, .cells c.cells 34)]
set_option maxRecDepth 100000 in
set_option maxHeartbeats 40000000 in
theorem walk (v : Value) (l : List Cp) (delay : Int) (w : World) (hl : CpsAt w v l) (hc : ∀ c ∈ l, CpArg w c) (hd : I64 delay) (hlm : l.length ≤ maxLen) :
    Calls Tryz.prog 3 #[v, .int .i64 delay] w fun e w' => e = .returned (.bool true) ∧ Below w.heap.size w w' := by
  have PD := Lib.hid (fun w => pick_any delay 30 w hd.1 hd.2 (by decide) (by decide))
  have rd := pickF_range delay 30 (by decide)
  have HL := Lib.hid (And.intro hl hc)
  obtain ⟨a, cap, hv⟩ := hl.form
  subst hv
  generalize pickF delay 30 = d at *
  obtain ⟨rd1, rd2⟩ := rd
  unfold maxLen at hlm
  clear hl hc hd
  go_enter Tryz.func3, Tryz.ntmps3
  go_wp2_with fail
  refine (sane_any _).mono ?_
  rintro e w1 ⟨rfl, hb1⟩
  have B1 := Lib.hid hb1
  clear hb1
  go_wp2_with fail
  refine (lw_new2 (w0 := w) B1.out [] (by simp)).mono ?_
  rintro e w2 ⟨b, M, rfl, h, _⟩
  have H := Lib.hid h
  clear h B1
  go_wp2_with fail
  refine (PD.out _).mono ?_
  rintro e w' ⟨rfl, rfl⟩
  go_wp2_with fail
  go_loopw [8, 9] (fun t i wr => ∃ (k : Nat) (now : Int) (R : Rc), k ≤ l.length ∧ k ≤ 50 ∧ i = .int .i64 k ∧ t = .int .i64 now ∧ 0 ≤ now ∧ now ≤ 12 * k ∧ R.nx ≤ k ∧ Lw w wr b M R [] []) (fun _ i _ => 50 - (intOf i).toNat)
  case atStart => exact ⟨0, 0, ⟨[], 0, -1⟩, by omega, by omega, rfl, rfl, by omega, by omega, by decide, H.out⟩
  case round =>
    obtain ⟨k, now, R, hk, hk5, rfl, rfl, hn0, hn1, hnx, h⟩ := hrel
    have HK := Lib.hid h
    clear h
    by_cases hlt : k < l.length
    · by_cases hlt5 : k < 50
      · rcases HL.out.1.below HK.out.bel with ⟨h0, _⟩ | ⟨g, off, cap', e, _, hcap, hcm, hrg⟩
        · rw [h0] at hlt; simp at hlt
        · cases e
          have RG := Lib.hid (hrg k (l[k]'hlt) (List.getElem?_eq_getElem hlt))
          have CA := Lib.hid ((HL.out.2 (l[k]'hlt) (List.getElem_mem hlt)))
          generalize l[k]'hlt = c at RG CA
          have HV := Lib.hid (HK.out.alloc (.cells c.cells 34) rfl)
          have y0 := at_whole (HV.out.at List.mem_cons_self) 0 (show c.cells[0]? = some (.int .i64 c.kind) from rfl)
          have y1 := at_whole (HV.out.at List.mem_cons_self) 1 (show c.cells[1]? = some (.int .i64 c.ticks) from rfl)
          have PT := Lib.hid (fun w => pick_any c.ticks 12 w CA.out.ticks.1 CA.out.ticks.2 (by decide) (by decide))
          have PK := Lib.hid (fun w => pick_any c.kind 11 w CA.out.kind.1 CA.out.kind.2 (by decide) (by decide))
          have pt := pickF_range c.ticks 12 (by decide)
          have pk := pickF_range c.kind 11 (by decide)
          generalize pickF c.ticks 12 = dt at *
          generalize pickF c.kind 11 = kd at *
          have i0 : (0 : Int) ≤ (k : Int) := by omega
          have i1 : (k : Int) < (l.length : Int) := by omega
          have i2 : (k : Int) < 50 := by omega
          unfold maxLen at hcm
          clear hrg
          go_wp2_with ((with_reducible refine hold_load 34 _ rfl ?_))
          refine Lib.hid ?_
          refine wpList_load_cp rfl _ rfl c g (off + k * 17) rfl RG.out ?_
          go_wp2_with ((with_reducible refine hold_store 34 _ _ rfl ?_))
          refine Lib.hid ?_
          refine wpList_store_cp rfl _ _ rfl c CA.out.one _ rfl rfl rfl ?_
          go_wp2_with fail
          have CB := Lib.hid HV.out
          refine (PT.out _).mono ?_
          rintro e w' ⟨rfl, rfl⟩
          have T0 := PK.out
          go_upto_block 2 with (refine (T0 _).mono ?_; rintro e w' ⟨rfl, rfl⟩)
          clear T0 HV HK y0 y1 PT PK RG HL
          generalize hV : wr.alloc _ = V at CB ⊢
          clear hV
          generalize wr.heap.size = cb at CB ⊢
          obtain ⟨nw, hnw⟩ : ∃ x, now + dt = x := ⟨_, rfl⟩
          have hnw0 : 0 ≤ nw := by omega
          have hnw1 : nw ≤ 12 * ((k + 1 : Nat) : Int) := by push_cast; omega
          rw [hnw]
          go_cut [11, 12, 13, 14, 15, 16] from 22 to 153 (fun s11 s12 s13 s14 s15 s16 w' => Hid (Aft w w' b M k nw d cb c s11))
          case first =>
            have HO := Lib.hid CB.out.ok
            by_cases k7 : kd = 7
            · subst k7
              go_wp2_with fail
              refine (lw_exp CB.out nw d hnw0 (by omega) rd1 (by omega)).mono ?_
              rintro e w3 ⟨v, rfl, nv, h⟩
              have H := Lib.hid (show Aft w w3 b M k nw d cb c v from ⟨_, _, by show R.nx ≤ _; push_cast; omega, nv, LostOk.exp HO.out nw d, h⟩)
              clear h nv CB
              go_wp2_with fail
              go_meet
              exact H
            · by_cases k456 : kd = 4 ∨ kd = 5 ∨ kd = 6
              · obtain ⟨n0, F0, T0, hA, hN⟩ := CA.out.sp
                have HA := Lib.hid hA
                have HN := Lib.hid hN
                have FS := Lib.hid (show ∃ a n k, c.fsv = .slice a n k by obtain ⟨n, F, T, ⟨a, cap, e, _⟩, _⟩ := CA.out.fsp; exact ⟨_, _, _, e⟩)
                have FV := Lib.hid CA.out.fv
                have N0 := Lib.hid HO.out.n0
                have N1 := Lib.hid (show R.nx ≤ 100000 by omega)
                have HX := Lib.hid (show nw ≤ 9223372036854775807 ∧ d ≤ 9223372036854775807 by omega)
                clear hA hN
                have k46 : kd = 4 ∨ kd = 5 ∨ kd = 6 := k456
                clear k456
                have e7 : (kd == 7) = false := beq_eq_false_iff_ne.2 k7
                go_upto_if 57 with fail
                go_cut [57] from 58 to 60 (fun s w' => s = .bool true ∧ w' = V)
                case first =>
                  clear CB HO HA HN FS FV N0 N1 HX CA
                  rcases k46 with rfl | rfl | rfl
                  · go_wp2
                    go_meet
                    exact ⟨rfl, rfl⟩
                  · go_wp2
                    go_meet
                    exact ⟨rfl, rfl⟩
                  · go_wp2
                    go_meet
                    exact ⟨rfl, rfl⟩
                case rest =>
                obtain ⟨rfl, rfl⟩ := hcut
                · go_upto_region 19 with fail
                  clear e7 k46 k7
                  have H := Lib.hid (lwDrew CB.out)
                  clear CB
                  by_cases hz : R.nx = 0
                  · skip
                    have TP := Lib.hid (top_gt c.last hz)
                    have HZ := Lib.hid hz
                    clear hz
                    go_region_held3 (fun w' => w'.cell? ⟨cb, 0, none⟩ = some (.int .i64 c.kind) ∧ w'.cell? ⟨cb, 1, none⟩ = some (.int .i64 c.ticks) ∧ w'.cell? ⟨cb, 2, none⟩ = some (.int .i64 c.size) ∧ w'.cell? ⟨cb, 3, none⟩ = some c.sv ∧ w'.cell? ⟨cb, 4, none⟩ = some (.int .i64 c.last) ∧ w'.cell? ⟨cb, 5, none⟩ = some (.int .i64 c.ft) ∧ w'.cell? ⟨cb, 6, none⟩ = some (.int .i64 c.fa) ∧ w'.cell? ⟨cb, 7, none⟩ = some (.int .i64 c.fb) ∧ w'.cell? ⟨cb, 8, none⟩ = some (.int .i64 c.fc) ∧ w'.cell? ⟨cb, 9, none⟩ = some (.string c.fs) ∧ w'.cell? ⟨cb, 10, none⟩ = some (.bool c.fin) ∧ w'.cell? ⟨cb, 11, none⟩ = some c.fsv ∧ w'.cell? ⟨cb, 12, none⟩ = some (.int .i64 c.p.pn) ∧ w'.cell? ⟨cb, 13, none⟩ = some (.int .i64 c.p.time) ∧ w'.cell? ⟨cb, 14, none⟩ = some (.int .i64 c.p.size) ∧ w'.cell? ⟨cb, 15, none⟩ = some (.bool c.p.el) ∧ w'.cell? ⟨cb, 16, none⟩ = some c.p.fv) (exact c17 H.out (by simp)) ((first
                      | (go_at_call 17; refine (lw_next H.out).mono ?_; rintro e w' ⟨rfl, rfl⟩)
                      | (go_at_call 16; refine (lw_ackfrom H.out c (HA.out.below H.out.bel) CA.out.last HN.out R.nx false N0.out N1.out FS.out FV.out).mono ?_; rintro e wa ⟨a1, c1, l1, rfl, hok, htop, H2, _⟩; have OK := Lib.hid (And.intro hok htop); clear hok htop H; have H := Lib.hid H2; clear H2)
                      | (go_at_call 15; have hs := Lib.hid (H.out.spans (v := .slice a1 l1.length c1) (l := l1) (by simp) OK.out.1.lo); refine (lw_unsent H.out 0 _ l1.length (fF l1) (fT l1) nw d (by decide) (by decide) OK.out.1 hs.out.1 hnw0 rd1 (by rw [OK.out.2]; exact TP.out)).mono ?_; rintro e wb ⟨rfl, H2⟩; clear hs H; have H := Lib.hid H2; clear H2)))
                    have H5 := Lib.hid (H.out.sub (rows' := []) (os' := [(cb, .cells c.cells 34)]) (by simp) (by simp))
                    clear H OK TP
                    go_wp2_with fail
                    refine (lw_out H5.out).mono ?_
                    rintro e w5 ⟨vo, rfl, no, h⟩
                    have h0 : R.l = [] := List.eq_nil_of_length_eq_zero (by have := HO.out.len; have := HZ.out; omega)
                    obtain rfl := no.2 h0
                    have HE := Lib.hid (show Lw w w5 b M R [] [(cb, .cells c.cells 34)] from h.sub (by simp) (by simp))
                    clear no h H5 h0
                    go_wp2_with fail
                    go_loopw [16] (fun i wr => i = .int .i64 0 ∧ Lw w wr b M R [] [(cb, .cells c.cells 34)]) (fun i _ => 0)
                    case atStart => exact ⟨rfl, HE.out⟩
                    case round =>
                      obtain ⟨rfl, h⟩ := hrel
                      have HF := Lib.hid (show Aft w wr b M k nw d cb c (.slice none 0 0) from ⟨R, [], by push_cast; omega, ⟨fun _ => rfl, fun _ => rfl⟩, lost_nil _ nw d, nilRow h⟩)
                      clear h HE
                      go_wp2
                      go_meet
                      exact HF
                  · skip
                    have TP := Lib.hid (top_le c.last hz N0.out)
                    clear hz
                    go_region_held3 (fun w' => w'.cell? ⟨cb, 0, none⟩ = some (.int .i64 c.kind) ∧ w'.cell? ⟨cb, 1, none⟩ = some (.int .i64 c.ticks) ∧ w'.cell? ⟨cb, 2, none⟩ = some (.int .i64 c.size) ∧ w'.cell? ⟨cb, 3, none⟩ = some c.sv ∧ w'.cell? ⟨cb, 4, none⟩ = some (.int .i64 c.last) ∧ w'.cell? ⟨cb, 5, none⟩ = some (.int .i64 c.ft) ∧ w'.cell? ⟨cb, 6, none⟩ = some (.int .i64 c.fa) ∧ w'.cell? ⟨cb, 7, none⟩ = some (.int .i64 c.fb) ∧ w'.cell? ⟨cb, 8, none⟩ = some (.int .i64 c.fc) ∧ w'.cell? ⟨cb, 9, none⟩ = some (.string c.fs) ∧ w'.cell? ⟨cb, 10, none⟩ = some (.bool c.fin) ∧ w'.cell? ⟨cb, 11, none⟩ = some c.fsv ∧ w'.cell? ⟨cb, 12, none⟩ = some (.int .i64 c.p.pn) ∧ w'.cell? ⟨cb, 13, none⟩ = some (.int .i64 c.p.time) ∧ w'.cell? ⟨cb, 14, none⟩ = some (.int .i64 c.p.size) ∧ w'.cell? ⟨cb, 15, none⟩ = some (.bool c.p.el) ∧ w'.cell? ⟨cb, 16, none⟩ = some c.p.fv) (exact c17 H.out (by simp)) ((first
                      | (go_at_call 17; refine (lw_next H.out).mono ?_; rintro e w' ⟨rfl, rfl⟩)
                      | (go_at_call 16; refine (lw_ackfrom H.out c (HA.out.below H.out.bel) CA.out.last HN.out R.nx false N0.out N1.out FS.out FV.out).mono ?_; rintro e wa ⟨a1, c1, l1, rfl, hok, htop, H2, _⟩; have OK := Lib.hid (And.intro hok htop); clear hok htop H; have H := Lib.hid H2; clear H2)
                      | (go_at_call 15; have hs := Lib.hid (H.out.spans (v := .slice a1 l1.length c1) (l := l1) (by simp) OK.out.1.lo); refine (lw_ack H.out 0 _ l1.length (fF l1) (fT l1) nw d (by decide) (by decide) OK.out.1 hs.out.1 hnw0 rd1 HX.out.1 HX.out.2 (by rw [OK.out.2]; exact TP.out) (fun g o c e => hs.out.2.1 g o c e)).mono ?_; rintro e wb ⟨va, vl, rfl, na, nl, H2⟩; have NL := Lib.hid nl; clear nl na hs H; have H := Lib.hid H2; clear H2)))
                    have LO := Lib.hid (LostOk.ack HO.out l1.length (fF l1) (fT l1) nw d (by rw [OK.out.2]; exact TP.out))
                    have LE := Lib.hid (LeftOk.ack HO.out l1.length (fF l1) (fT l1) nw d)
                    have NX : (R.acked l1.length (fF l1) (fT l1) nw d).nx ≤ ((k + 1 : Nat) : Int) := by show R.nx ≤ _; push_cast; omega
                    generalize R.acked l1.length (fF l1) (fT l1) nw d = R5 at *
                    generalize R.lostA l1.length (fF l1) (fT l1) nw d = L5 at *
                    have H5 := Lib.hid (H.out.sub (rows' := [pkR vl L5]) (os' := [(cb, .cells c.cells 34)]) (by simp) (by simp))
                    clear H OK TP
                    go_wp2_with fail
                    refine (lw_out H5.out).mono ?_
                    rintro e w5 ⟨vo, rfl, no, h⟩
                    have hf : ∃ a3 cap3, vo = .slice a3 R5.l.length cap3 := by
                      rcases (h.row (v := vo) (l := R5.l) (by simp) no).form with ⟨rfl, h0⟩ | ⟨g, cap, cur, rfl, _⟩
                      · rw [h0]; exact ⟨_, _, rfl⟩
                      · exact ⟨_, _, rfl⟩
                    obtain ⟨a3, cap3, rfl⟩ := hf
                    have NO := Lib.hid no
                    have H := Lib.hid h
                    clear no h H5
                    go_wp2_with fail
                    go_loopw [16] (fun i wr => ∃ j : Nat, j ≤ R5.l.length ∧ i = .int .i64 j ∧ Lw w wr b M R5 [pkR (.slice a3 R5.l.length cap3) R5.l, pkR vl L5] [(cb, .cells c.cells 34)]) (fun i _ => R5.l.length - (intOf i).toNat)
                    case atStart => exact ⟨0, by omega, rfl, H.out⟩
                    case round =>
                      obtain ⟨j, hj, rfl, h⟩ := hrel
                      have HJ := Lib.hid h
                      by_cases hjl : j < R5.l.length
                      · have hr := (h.row (v := .slice a3 R5.l.length cap3) (l := R5.l) (by simp) NO.out).form
                        clear h H
                        rcases hr with ⟨_, h0⟩ | ⟨g3, cap4, cur, e, hpos, hcap3, hm3, _, _, hcell⟩
                        · rw [h0] at hjl; cases hjl
                        · cases e
                          have q0 := (hcell j hjl).1
                          have q1 := (hcell j hjl).2.1
                          obtain ⟨p1, p2, p3, p4, p5⟩ := LE.out (R5.l[j]'hjl) (List.getElem_mem hjl)
                          clear hcell
                          have ZB := Lib.hid (at_whole HJ.out.at_.1 2 rfl)
                          simp only [List.getElem_toArray, List.getElem_cons_zero, List.getElem_cons_succ] at ZB
                          have bo := HJ.out.ok
                          have lb0 := bo.g0
                          have lb1 := bo.g1
                          have lb2 := bo.n1
                          have hd5 : d < 30 := rd2
                          have i0' : (0 : Int) ≤ (j : Int) := by omega
                          have i1' : (j : Int) < (R5.l.length : Int) := by omega
                          generalize R5.l[j]'hjl = p at *
                          have v1 : IntKind.i64.wrap (p.pn + 3) = p.pn + 3 := IntWalk.i64_in _ (by omega)
                          have v2 : IntKind.i64.wrap (p.time + d) = p.time + d := IntWalk.i64_in _ (by omega)
                          unfold maxLen at hm3
                          simp only [exF, Bool.and_eq_false_iff, Bool.or_eq_false_iff, decide_eq_false_iff_not] at p1
                          clear bo
                          generalize hLn : R5.l.length = ln at *
                          generalize hLg : R5.lg = lg at *
                          have f1 : (p.pn + 3 ≤ lg) = False := eq_false (by omega)
                          by_cases h3 : p.pn < lg
                          · have f2 : (p.time + d ≤ nw) = False := eq_false (by omega)
                            clear p1
                            go_wp2
                            go_quiet ((go_at_call 19; exact Calls.quiet_of_same (acked_cell b lg _ ZB.out)))
                            go_wp2
                            go_roundw
                            case rel => exact ⟨j + 1, by omega, by go_num, lwDrewN HJ.out _⟩
                            case measure => simp [intOf]; omega
                          · have f2 : (p.pn < lg) = False := eq_false h3
                            clear p1 h3
                            go_wp2
                            go_quiet ((go_at_call 19; exact Calls.quiet_of_same (acked_cell b lg _ ZB.out)))
                            go_wp2
                            go_roundw
                            case rel => exact ⟨j + 1, by omega, by go_num, lwDrewN HJ.out _⟩
                            case measure => simp [intOf]; omega
                      · obtain rfl : j = R5.l.length := by omega
                        have HE := Lib.hid (show Aft w wr b M k nw d cb c vl from ⟨R5, L5, NX, NL.out, LO.out, HJ.out.sub (by simp) (by simp)⟩)
                        clear h H HJ LO LE hjl hj
                        go_wp2
                        go_meet
                        exact HE

              · have e7 : (kd == 7) = false := beq_eq_false_iff_ne.2 k7
                have e4 : (kd == 4) = false := beq_eq_false_iff_ne.2 (by omega)
                have e5 : (kd == 5) = false := beq_eq_false_iff_ne.2 (by omega)
                have e6 : (kd == 6) = false := beq_eq_false_iff_ne.2 (by omega)
                clear k7 k456
                go_wp2_with fail
                refine (lw_next CB.out).mono ?_
                rintro e w' ⟨rfl, rfl⟩
                go_wp2_with fail
                refine (lw_sent CB.out ⟨R.nx, nw, 0, false, .slice none 0 0⟩ rfl rfl (by omega) ⟨hnw0, by show nw ≤ _; omega⟩ (Int.le_refl 0)).mono ?_
                rintro e w3 ⟨rfl, h⟩
                have H := Lib.hid (show Aft w w3 b M k nw d cb c (.slice none 0 0) from ⟨_, _, by show R.nx + 1 ≤ _; push_cast; omega, ⟨fun _ => rfl, fun _ => rfl⟩, lost_nil _ nw d, nilRow h⟩)
                clear h CB
                go_wp2_with fail
                go_meet
                exact H
          case rest =>
            obtain ⟨R2, L, hn2, nv, lo, h⟩ := hcut.out
            have hf : ∃ a3 cap3, u11 = .slice a3 L.length cap3 := by
              rcases (h.row (v := u11) (l := L) (by simp) nv).form with ⟨rfl, rfl⟩ | ⟨g, cap, cur, rfl, _⟩
              · exact ⟨_, _, rfl⟩
              · exact ⟨_, _, rfl⟩
            obtain ⟨a3, cap3, rfl⟩ := hf
            have H := Lib.hid (And.intro nv (h.sub (rows' := [pkR (.slice a3 L.length cap3) L]) (os' := []) (by simp) (by simp)))
            have LO := Lib.hid lo
            clear lo h hcut CB hnx nv
            go_wp2_with fail
            go_loopw [17] (fun i wr => ∃ j : Nat, j ≤ L.length ∧ i = .int .i64 j ∧ Lw w wr b M R2 [pkR (.slice a3 L.length cap3) L] []) (fun i _ => L.length - (intOf i).toNat)
            case atStart => exact ⟨0, by omega, rfl, H.out.2⟩
            case round =>
              obtain ⟨j, hj, rfl, h⟩ := hrel
              have HJ := Lib.hid h
              by_cases hjl : j < L.length
              · have hr := (h.row (v := .slice a3 L.length cap3) (l := L) (by simp) H.out.1).form
                clear h H
                rcases hr with ⟨_, h0⟩ | ⟨g3, cap4, cur, e, hpos, hcap3, hm3, _, _, hcell⟩
                · rw [h0] at hjl; cases hjl
                · cases e
                  have q0 := (hcell j hjl).1
                  have q1 := (hcell j hjl).2.1
                  obtain ⟨p1, p2, p3, p4, p5⟩ := LO.out (L[j]'hjl) (List.getElem_mem hjl)
                  clear hcell
                  generalize L[j]'hjl = p at *
                  simp only [exF, Bool.and_eq_true, Bool.or_eq_true, decide_eq_true_eq] at p1
                  obtain ⟨p1, p6⟩ := p1
                  have HB := Lib.hid HJ.out.bel
                  have ZB := Lib.hid (at_whole HJ.out.at_.1 2 rfl)
                  simp only [List.getElem_toArray, List.getElem_cons_zero, List.getElem_cons_succ] at ZB
                  have bo := HJ.out.ok
                  have lb0 := bo.g0
                  have lb1 := bo.g1
                  have lb2 := bo.n1
                  have hd5 : d < 30 := rd2
                  have i0' : (0 : Int) ≤ (j : Int) := by omega
                  have i1' : (j : Int) < (L.length : Int) := by omega
                  have v1 : IntKind.i64.wrap (p.pn + 3) = p.pn + 3 := IntWalk.i64_in _ (by omega)
                  have v2 : IntKind.i64.wrap (p.time + d) = p.time + d := IntWalk.i64_in _ (by omega)
                  unfold maxLen at hm3
                  generalize R2.lg = lg at *
                  have f1 : (lg ≤ p.pn) = False := eq_false (by omega)
                  clear bo
                  by_cases h3 : p.pn + 3 ≤ lg
                  · have f2 : (lg < p.pn + 3) = False := eq_false (by omega)
                    clear h3 p6
                    go_wp2
                    go_quiet ((go_at_call 19; exact Calls.quiet_of_same (acked_cell b lg _ ZB.out)))
                    go_wp2
                    go_roundw
                    case rel => exact ⟨j + 1, by omega, by go_num, lwDrewN HJ.out _⟩
                    case measure => simp [intOf]; omega
                  · have f2 : (lg < p.pn + 3) = True := eq_true (by omega)
                    have f3 : (nw < p.time + d) = False := eq_false (by omega)
                    clear h3 p6
                    go_wp2
                    go_quiet ((go_at_call 19; exact Calls.quiet_of_same (acked_cell b lg _ ZB.out)))
                    go_wp2
                    go_roundw
                    case rel => exact ⟨j + 1, by omega, by go_num, lwDrewN HJ.out _⟩
                    case measure => simp [intOf]; omega
              · obtain rfl : j = L.length := by omega
                have HE := Lib.hid (HJ.out.sub (rows' := []) (os' := []) (by simp) (by simp))
                clear h H HJ LO hjl hj
                go_wp2
                go_roundw
                case rel => exact ⟨k + 1, nw, R2, by omega, by omega, by go_num, rfl, hnw0, hnw1, hn2, HE.out⟩
                case measure => simp [intOf]; omega
      · have i1 : (k : Int) < (l.length : Int) := by omega
        have i2 : ((k : Int) < 50) = False := eq_false (by omega)
        have HB := Lib.hid HK.out.bel
        go_wp2
        go_ret
        exact ⟨rfl, HB.out⟩
    · have i1 : ((k : Int) < (l.length : Int)) = False := eq_false (by omega)
      have HB := Lib.hid HK.out.bel
      go_wp2
      go_ret
      exact ⟨rfl, HB.out⟩
set_option maxRecDepth 100000 in
theorem main {H : Type} {enc : TypeId × Value → H} (W : World) (base0 : Nat) (v0 : Value) (d0 : DataW H) (p0 : List MemPlace) (hv0 : Value.okWide Tryz.prog W .any base0 22 v0) (h0 : DataW.Trod enc Tryz.prog W 0 (fun _ => true) true 22 v0 d0 p0)
    (base1 : Nat) (v1 : Value) (d1 : DataW H) (p1 : List MemPlace) (hv1 : Value.okWide Tryz.prog W .any base1 3 v1) (h1 : DataW.Trod enc Tryz.prog W 0 (fun _ => true) true 3 v1 d1 p1) :
    Calls Tryz.prog 3 #[v0, v1] W fun e w' => e = .returned (.bool true) ∧ Below W.heap.size W w' := by
  obtain ⟨l, hl, hm, hc⟩ := cps_at hv0 h0
  obtain ⟨a1, rfl, _, _, w1⟩ := open_int Tryz.underlying3 hv1 h1
  exact walk v0 l a1 W hl hc (bounds_i64 w1) hm
end Go.Proofs.YtafkndhnbnpahaaGreat.lossOnlyWithCause
