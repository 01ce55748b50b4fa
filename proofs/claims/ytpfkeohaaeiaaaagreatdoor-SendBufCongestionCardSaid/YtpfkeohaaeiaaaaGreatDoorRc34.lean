/- Texts ConMain LaidAt ConEnd of this claim, one behind the other. -/
import Derived.Test.YtpfkeohaaeiaaaaGreatDoorRc32
import Derived.Test.YtpfkeohaaeiaaaaGreatDoorRc26
import Derived.Test.YtpfkeohaaeiaaaaGreatDoorRc33
import Derived.Test.YtpfkeohaaeiaaaaGreatDoorRows
import Derived.Test.YtpfkeohaaeiaaaaGreatDoorRc18
import Derived.ProofKit
import Derived.LaidMore
import Derived.OpenShut
import Derived.Stop.Joined
import Derived.Stop.LaidErr
/- SendBufCongestion: the walk. -/
namespace Go.Proofs.YtpfkeohaaeiaaaaGreatDoor.sendBufCongestion
open Go.RowKit
set_option maxRecDepth 100000
/-- the state at the head of a round -/
structure Rst (W wr : World) (N lim k a : Nat) (A : Lad) (F : Nat → Prop) (X : Wh) (K : frm.Rc) (hs : List Fr) (R : rea.Rb) (zs : List Int) (n top idle : Nat) (L : Lnk) (AV LV : List frm.Pk) (H : Nat → Option Obj) : Prop where
  ls : Ls W wr A F X K hs R zs L AV LV H
  inv : LInv N lim X K hs R zs n top k
  got : GotOk N R L.got L.en
  now : L.now = (k : Int)
  idl : L.idle = (idle : Int)
  prg : Prg N X K k idle
  len : X.S.length = a
  hk : hs.length ≤ k
/-- the controller at the head of a round -/
def CtK (c : cgn.Ctl) (K : frm.Rc) (k : Nat) : Prop := ∃ b r, CB c (tot K.l) b r ∧ b ≤ 20000 ∧ (1 ≤ k ∧ r = (k : Int) - 1 ∧ 900 ≤ b ∨ k = 0 ∧ r = 0 ∧ 930 ≤ b)
theorem btr2 {a b c : World} (h : Below a.heap.size a b) (k : Below b.heap.size b c) : Below a.heap.size a c := h.trans (k.mono h.size)
set_option maxHeartbeats 16000000 in
theorem walk (many : Int) (fl : List Int) (a1 : Option Addr) (cap1 : Nat) (w : World) (hm : -9223372036854775808 ≤ many ∧ many ≤ 9223372036854775807)
    (hy : IntsAt .i64 w (.slice a1 fl.length cap1) fl) (_hmy : fl.length ≤ maxLen) (hry : ∀ n ∈ fl, (Lit.int .i64 n).wf = true)
    (y0 y1 y2 y3 : Addr) (hE : rea.Errs w y0 y1 y2 y3) :
    Calls Tryz.prog 4 #[.int .i64 many, .slice a1 fl.length cap1] w fun e w' => e = .returned (.bool true) ∧ Below w.heap.size w w' := by
  have PM := Lib.hid (fun (wx : World) => pick_any many 600 wx hm.1 hm.2 (by decide) (by decide))
  have r1 := pickF_range many 600 (by decide)
  have hp99 : (1 : Int) + pickF 99 100 = ((100 : Nat) : Int) := by decide
  have NL := Lib.hid (fun (wx : World) (hB : Below w.heap.size w wx) => newLink_any (W := w) 99 hB (by decide) (by decide))
  rw [hp99] at NL
  generalize pickF many 600 = p at *
  obtain ⟨N, rfl⟩ : ∃ N : Nat, p = N := ⟨p.toNat, by omega⟩
  have hN : N < 600 := by omega
  have EE := Lib.hid hE
  have HY := Lib.hid hy
  have HRY := Lib.hid hry
  clear hry hy hm r1 hE hp99
  have ST := Lib.hid (fun (wx : World) => stream_any N wx (by omega))
  have hAs := strOfNums_size (streamRow N N)
  rw [streamRow_length] at hAs
  have HAB := Lib.hid (stream_bytes N)
  obtain ⟨Al, hAl⟩ : ∃ Al, strOfNums (streamRow N N) = Al := ⟨_, rfl⟩
  have HAL := Lib.hid hAl
  rw [hAl] at ST hAs HAB
  clear hAl
  go_enter Tryz.func4, Tryz.ntmps4
  go_wp2_with (first
    | (go_at_call 5; refine (sane_any _).mono ?_; rintro e w1 ⟨rfl, HB2⟩; have HB := Lib.hid HB2; clear HB2)
    | (go_at_call 7; refine (PM.out _).mono ?_; rintro e wm ⟨rfl, rfl⟩)
    | (go_at_call 6; refine (ST.out _).mono ?_; rintro e wk ⟨rfl, HK⟩; have HB2 := btr2 HB.out HK; clear HB HK; have HB := Lib.hid HB2; clear HB2)
    | (go_at_call 8; refine (NL.out _ HB.out).mono ?_; rintro e wn ⟨A, F0, H0, rfl, _, h0⟩; have S0 := Lib.hid h0; clear h0)
    | (go_at_call 13; refine (cgn.new_any _).mono ?_; rintro e wq ⟨rfl, rfl⟩; obtain ⟨H1, h1⟩ := S0.out.addC cgn.newC; have S1 := Lib.hid h1; clear h1))
  clear NL PM ST HB
  generalize wn.heap.size = cb at S1 ⊢
  have R0 : Hid (∃ c, Rst w (wn.alloc (.cells cgn.newC.enc 77)) N 100 0 0 (A.wc cb c) F0 (newX ((100 : Nat) : Int)) ⟨[], 0, -1⟩ [] (rea.newRb 600) (frm.zs0 0) 0 0 0 lnk0 [] [] H1 ∧ CtK c ⟨[], 0, -1⟩ 0) := Lib.hid ⟨_, ⟨S1.out, LInv.start N 100 (by omega) (by omega) (by omega) frm_zs0, GotOk.start N _ _ _ _, rfl, rfl, Prg.start _ _ _, rfl, Nat.le_refl _⟩, 1024, 0, ⟨rfl, by decide, by decide, rfl, rfl⟩, by decide, .inr ⟨rfl, rfl, by decide⟩⟩
  clear S0 S1
  generalize wn.alloc _ = wst at R0 ⊢
  go_loopw [10, 11, 12, 13, 14, 15, 16, 17, 18, 19, 20] (fun at_ i _ _ _ _ _ _ _ _ _ wr => ∃ (k a : Nat), i = .int .i64 k ∧ at_ = .int .i64 a ∧ k ≤ 800 ∧ a ≤ N ∧ Hid (∃ c F X K hs R zs n top idle L AV LV H, Rst w wr N 100 k a (A.wc cb c) F X K hs R zs n top idle L AV LV H ∧ CtK c K k)) (fun _ i _ _ _ _ _ _ _ _ _ _ => 2500 - (intOf i).toNat)
  case atStart => exact ⟨0, 0, rfl, rfl, by decide, Nat.zero_le _, Lib.hid ⟨_, _, _, _, _, _, _, _, _, _, _, _, _, _, R0.out.choose_spec⟩⟩
  case round =>
    obtain ⟨k, a, rfl, rfl, hk6, haN, HD⟩ := hrel
    clear R0
    obtain ⟨c, F, X, K, hs, R, zs, n, top, idle, L, AV, LV, H, hr, hct⟩ := HD.out
    clear HD
    have CT := Lib.hid hct
    clear hct
    have hk5 : k ≤ 731 := by have := hr.prg.bound; omega
    have RS := Lib.hid hr
    have c0 : wr.cell? ⟨A.lb, 0, none⟩ = some (.pointer (some ⟨A.b, 0, none⟩)) := at_whole hr.ls.lk 0 rfl
    have hk15 : decide ((k : Int) < 2500) = true := decide_eq_true (by omega)
    clear hr
    cases hd : X.done with
    | true =>
      have DN : Hid (Calls Tryz.prog 9 #[.pointer (some ⟨A.b, 0, none⟩)] wr fun e w' => e = .returned (.bool true) ∧ wr = w') := Lib.hid (by have := wn_done RS.out.ls.wn; rw [hd] at this; exact this)
      obtain ⟨g1, g2⟩ := RS.out.inv.whole hd RS.out.got
      rw [HAL.out] at g1
      have c4 : wr.cell? ⟨A.lb, 4, none⟩ = some (.string Al) := by rw [← g1]; exact at_whole RS.out.ls.lk 4 rfl
      have c5 : wr.cell? ⟨A.lb, 5, none⟩ = some (.bool true) := by rw [← g2]; exact at_whole RS.out.ls.lk 5 rfl
      have BL := Lib.hid RS.out.ls.wn.below
      clear hd g1 g2 RS
      go_wp2_with (go_at_call 9; refine DN.out.mono ?_; rintro e ws ⟨rfl, rfl⟩)
      go_ret
      exact ⟨rfl, BL.out⟩
    | false =>
      have DN : Hid (Calls Tryz.prog 9 #[.pointer (some ⟨A.b, 0, none⟩)] wr fun e w' => e = .returned (.bool false) ∧ wr = w') := Lib.hid (by have := wn_done RS.out.ls.wn; rw [hd] at this; exact this)
      obtain ⟨rest, hE⟩ : ∃ r, Al.extract a N = r := ⟨_, rfl⟩
      have hre : bytesOf rest = (streamRow N N).drop X.S.length := by rw [RS.out.len, ← hE, bytesOf_extract, HAB.out, List.take_of_length_le (by simp [streamRow_length])]
      have hmin : (if (N : Int) < (a : Int) then (N : Int) else (a : Int)) = (a : Int) := if_neg (by omega)
      have hmin2 : (if N < a then (N : Int) else (a : Int)) = (a : Int) := if_neg (by omega)
      go_upto_region 11 with (go_at_call 9; refine DN.out.mono ?_; rintro e ws ⟨rfl, rfl⟩)
      obtain ⟨v1, v2, v3⟩ := RS.out.inv.write hre
      have VW := Lib.hid (RS.out.inv.written hd hre)
      have IW := Lib.hid v1
      have hlen := RS.out.len
      rw [hlen] at v2 v3
      obtain ⟨m, hm⟩ : ∃ m, X.writeN rest = m := ⟨_, rfl⟩
      have hrs : rest.size ≤ 600 := by rw [← bytesOf_length, hre]; simp [streamRow_length]; omega
      have WRT : Hid (∀ wx, Ls w wx (A.wc cb c) F X K hs R zs L AV LV H → Calls Tryz.prog 10 #[.pointer (some ⟨A.b, 0, none⟩), .string rest] wx fun e w' => e = .returned (.int .i64 m) ∧ ∃ F', Ls w w' (A.wc cb c) F' (X.write rest) K hs R zs L AV LV H) := Lib.hid (fun wx hx => by
        have := wn_write hx.wn rest (by unfold maxLen; omega) (by rw [hlen]; omega)
        rw [hm] at this
        exact this.mono fun e w' hh => ⟨hh.1, hh.2.choose, hx.buf hh.2.choose_spec⟩)
      rw [hm] at v2 v3
      have V2 := Lib.hid v2
      clear v1 v2 hre hrs hlen
      have L0 : Hid (∀ (wx : World) (Fx : Nat → Prop) (Xx : Wh), Ls w wx (A.wc cb c) Fx Xx K hs R zs L AV LV H → wx.cell? ⟨A.lb, 0, none⟩ = some (.pointer (some ⟨A.b, 0, none⟩))) := Lib.hid (fun wx Fx Xx hx => at_whole hx.lk 0 rfl)
      have hw3 : IntKind.i64.wrap ((a : Int) + (m : Int)) = (a : Int) + (m : Int) := IntWalk.i64_in _ (by omega)
      have hmin3 : min (a : Int) (N : Int) = (a : Int) := by omega
      clear c0
      go_region_held3 (fun w' => w'.cell? ⟨A.lb, 0, none⟩ = some (.pointer (some ⟨A.b, 0, none⟩)))
        (first | exact L0.out _ _ _ G1.out | exact L0.out _ _ _ (RS.out.ls.same (Below.refl _ wr).drew))
        (first | (go_at_call 10; refine (WRT.out _ (by exact RS.out.ls.same (Below.refl _ wr).drew)).mono ?_; rintro e wv ⟨rfl, F1, g1⟩; have G1 := Lib.hid g1; clear g1))
      clear WRT hmin hmin2
      have c0 := L0.out _ _ _ G1.out
      clear L0
      go_upto_if 60 with (fail)
      go_cut [10] from 32 to 238 (fun s13 w' => s13 = .int .i64 ((a + m : Nat) : Int) ∧ ∃ F2 X2, Hid (Ls w w' (A.wc cb c) F2 X2 K hs R zs L AV LV H ∧ LInv N 100 X2 K hs R zs n top k ∧ mu N X ≤ mu N X2 ∧ X2.done = false ∧ Wrt N 100 X2 ∧ X2.S.length = a + m))
      case first =>
        as_aux_lemma =>
        by_cases hN2 : a + m = N
        · have hb : (((a : Int) + (m : Int)) == (N : Int)) = true := by rw [beq_iff_eq]; omega
          have HN2 := Lib.hid hN2
          clear hN2
          go_wp2_with (go_at_call 11; refine (wn_finish G1.out.wn).mono ?_; rintro e wf ⟨rfl, F3, h3⟩; have G3 := Lib.hid (G1.out.buf h3); clear h3)
          go_meet
          refine ⟨by simp, F3, _, Lib.hid ⟨G3.out, IW.out.finish (by rw [V2.out, HN2.out]), VW.out.1, VW.out.2.2.1, .inl rfl, V2.out⟩⟩
        · have hb : (((a : Int) + (m : Int)) == (N : Int)) = false := by rw [beq_eq_false_iff_ne]; omega
          go_wp2
          go_meet
          refine ⟨by simp, F1, _, Lib.hid ⟨G1.out, IW.out, VW.out.1, VW.out.2.1, ?_, V2.out⟩⟩
          cases hf : X.fin with
          | true => exact .inl (VW.out.2.2.2.2.trans hf)
          | false =>
            rcases VW.out.2.2.2.1 hf with h | h
            · exact absurd (V2.out.symm.trans h) hN2
            · exact h
      case rest =>
      obtain ⟨rfl, F2, X2, HC⟩ := hcut
      clear G1 c0 VW IW V2
      obtain ⟨a2, ha2⟩ : ∃ a2, a + m = a2 := ⟨_, rfl⟩
      rw [ha2] at HC ⊢
      clear hw3 hmin3
      go_upto_region 15 with (fail)
      go_cut [73] from 32 to 238 (fun s81 w' => (∃ lb : Bool, s81 = .bool lb ∧ (lb = true → k < fl.length ∧ k < 100) ∧ (lb = false → True)) ∧ w' = wc)
      case first =>
        as_aux_lemma =>
        by_cases c1 : k < fl.length
        · have d1 : decide (k < fl.length) = true := decide_eq_true c1
          by_cases c2 : k < 100
          · have d2 : decide ((k : Int) < 100) = true := decide_eq_true (by omega)
            go_wp2
            go_meet
            exact ⟨⟨true, rfl, fun _ => ⟨c1, c2⟩, fun _ => trivial⟩, rfl⟩
          · have d2 : decide ((k : Int) < 100) = false := decide_eq_false (by omega)
            go_wp2
            go_meet
            exact ⟨⟨false, rfl, fun h => (by cases h), fun _ => trivial⟩, rfl⟩
        · have d1 : decide (k < fl.length) = false := decide_eq_false c1
          go_wp2
          go_meet
          exact ⟨⟨false, rfl, fun h => (by cases h), fun _ => trivial⟩, rfl⟩
      case rest =>
      obtain ⟨⟨lb, rfl, hlb, _⟩, rfl⟩ := hcut
      go_upto_if 73 with (fail)
      go_cut [12] from 32 to 238 (fun s16 w' => (∃ f : Int, s16 = .int .i64 f ∧ 0 ≤ f ∧ f ≤ 3 ∧ (100 ≤ k → f = 0)) ∧ w' = wc)
      case first =>
        as_aux_lemma =>
        cases lb
        · go_wp2
          go_meet
          exact ⟨⟨0, rfl, by decide, by decide, fun _ => rfl⟩, rfl⟩
        · obtain ⟨hjl, hk100⟩ := hlb rfl
          clear hlb
          have hxw := bounds_i64 (HRY.out (fl[k]?.getD 0) (by simp [hjl]))
          obtain ⟨b4, off4, hz4, hx4⟩ : ∃ b4 off4, a1 = some ⟨b4, off4, none⟩ ∧ wc.cell? ⟨b4, off4 + k, none⟩ = some (.int .i64 (fl[k]?.getD 0)) ∧ fl.length ≤ cap1 ∧ cap1 ≤ maxLen := by
            rcases HY.out with ⟨_, _, e, _, h0⟩ | ⟨b4, off4, c4, e, h0, hl4, hc4, hx4⟩
            · rw [h0] at hjl; simp at hjl
            · simp only [Value.slice.injEq] at e
              obtain ⟨e1, _, rfl⟩ := e
              exact ⟨b4, off4, e1, (HC.out.1.wn.below.cell (p := ⟨b4, off4 + k, none⟩) (World.block_lt_of_cell? _ _ (hx4 k hjl))).trans (hx4 k hjl), hl4, hc4⟩
          obtain ⟨hx4, hl4, hc4⟩ := hx4
          unfold maxLen at hc4
          subst hz4
          generalize fl[k]?.getD 0 = x at *
          have PX := Lib.hid (fun (wx : World) => pick_any x 4 wx hxw.1 hxw.2 (by decide) (by decide))
          have rx := pickF_range x 4 (by decide)
          generalize pickF x 4 = c at *
          clear hxw
          go_wp2_with (go_at_call 7; refine (PX.out _).mono ?_; rintro e wm ⟨rfl, rfl⟩)
          go_meet
          exact ⟨⟨c, rfl, by omega, by omega, fun h => by omega⟩, rfl⟩
      case rest =>
      obtain ⟨⟨f, rfl, hf0, hf1, hf2⟩, rfl⟩ := hcut
      clear hlb
      obtain ⟨b0, q0, hcb, hb20, hbr⟩ := CT.out
      obtain ⟨b1, hc2, hal, hb1, hb2⟩ := hcb.allow (tot_nonneg fun q hq => (linv_sizes RS.out.inv q hq).1) (linv_tot RS.out.inv) hb20 (hbr.imp (fun h => h.2) id)
      have At1 : cgn.At wc cb c := HC.out.1.ctl
      have RN : Hid (∀ (wx : World) (c9 : cgn.Ctl) H9, Ls w wx (A.wc cb c9) F2 X2 K hs R zs L AV LV H9 → Calls Tryz.prog 14 #[.pointer (some ⟨A.rb, 0, none⟩)] wx fun e w' => e = .returned (.int .i64 (hs.length : Int)) ∧ wx = w') := Lib.hid (fun wx c9 H9 hx => by
        have := frm.next_any hx.rcA
        rw [HC.out.2.1.nx] at this
        exact this)
      have ALW : Hid (Calls Tryz.prog 15 #[.pointer (some ⟨cb, 0, none⟩), .int .i64 k, .int .i64 30, .int .i64 5] wc fun e w' => e = .returned (.bool true) ∧ ∃ c2 H', CB c2 (tot K.l) b1 k ∧ Ls w w' (A.wc cb c2) F2 X2 K hs R zs L AV LV H') := Lib.hid (by
        have hfl := hcb.fl
        have hbu := hcb.bu
        have hrf := hcb.rf
        have h0 := tot_nonneg fun q hq => (linv_sizes RS.out.inv q hq).1
        have h1 := linv_tot RS.out.inv
        have hb9 : 900 ≤ b0 := by omega
        have hr0 : 0 ≤ q0 := by omega
        refine (cgn.allows_any cb c k 30 5 wc At1 (by omega) (by omega) hcb.s1 hcb.s2 (by omega) (by omega) (by omega) (by omega)).mono fun e w' hh => ?_
        rw [hal] at hh
        obtain ⟨H', h2, _⟩ := HC.out.1.turnC hh.2
        exact ⟨hh.1, _, H', hc2, h2⟩)
      have c1 : wc.cell? ⟨A.lb, 1, none⟩ = some (.pointer (some ⟨A.rb, 0, none⟩)) := at_whole HC.out.1.lk 1 rfl
      have c6 : wc.cell? ⟨A.lb, 6, none⟩ = some (.int .i64 (k : Int)) := by rw [← RS.out.now]; exact at_whole HC.out.1.lk 6 rfl
      have RN1 := Lib.hid (RN.out wc c _ HC.out.1)
      clear hcb hb20 hbr hc2 hal At1 CT
      go_upto_region 21 with (first | (go_at_call 14; refine RN1.out.mono ?_; rintro e wv ⟨rfl, rfl⟩) | (go_at_call 15; refine ALW.out.mono ?_; rintro e wa ⟨rfl, c2, H4, h4⟩; have S4 := Lib.hid h4; clear h4))
      have STP : Hid (Calls Tryz.prog 12 #[.pointer (some ⟨A.lb, 0, none⟩), .int .i64 30, .int .i64 f] wa fun e w' => e = .returned (.bool true) ∧ ∃ F' X' K' hs' R' zs' n' top' idle' L' AV' LV' H', StpPost w w' N 100 (A.wc cb c2) X2 K hs R (k + 1) idle (X2.nextP 30 1000) f F' X' K' hs' R' zs' n' top' idle' L' AV' LV' H') := Lib.hid (by
        have hhk := RS.out.hk
        exact step_any S4.out.2 HC.out.2.1 RS.out.now RS.out.idl RS.out.prg.idl (by omega) (by omega) EE.out RS.out.got 30 f (by decide) (by decide) hf0 hf1)
      clear ALW RN1 c1 c6
      go_upto_region 23 with (go_at_call 12; refine STP.out.mono ?_; rintro e ws ⟨rfl, F', X', K', hs', R', zs', n', top', idle', L', AV', LV', H', sp⟩; have SP := Lib.hid sp; clear sp)
      clear STP
      obtain ⟨n1, hnn⟩ := SP.out.aft HC.out.2.1 rfl
      have AF := Lib.hid hnn
      clear hnn
      have OUT : Hid (Calls Tryz.prog 16 #[.pointer (some ⟨A.rb, 0, none⟩)] ws fun e w' => ∃ v, e = .returned v ∧ CR ws.heap.size w' v K'.l ∧ Below ws.heap.size ws w') := Lib.hid (out_one SP.out.ls.rcA SP.out.inv.ko (fun p hp => by
        obtain ⟨_, off, s, fin, e, _⟩ := SP.out.inv.frP hp
        refine ⟨frP hs' p, (SP.out.ls.fr p hp).cells SP.out.ls.wn, ?_, ?_⟩
        · rw [e]; simp [mkFr, Fr.cells, Value.oneCell']
        · rw [e]; rfl))
      have c1 : ws.cell? ⟨A.lb, 1, none⟩ = some (.pointer (some ⟨A.rb, 0, none⟩)) := at_whole SP.out.ls.lk 1 rfl
      go_upto_region 24 with (go_at_call 16; refine OUT.out.mono ?_; rintro e wo ⟨lv, rfl, hcr, hbl⟩; have S5 := Lib.hid (And.intro (SP.out.ls.same hbl) (And.intro hcr (SP.out.ls.wn.lt (SP.out.ls.cx _ rfl)))); clear hcr hbl)
      clear OUT c1
      have c1 : wo.cell? ⟨A.lb, 1, none⟩ = some (.pointer (some ⟨A.rb, 0, none⟩)) := at_whole S5.out.1.lk 1 rfl
      have RN2 : Hid (Calls Tryz.prog 14 #[.pointer (some ⟨A.rb, 0, none⟩)] wo fun e w' => e = .returned (.int .i64 K'.nx) ∧ wo = w') := Lib.hid (frm.next_any S5.out.1.rcA)
      have HCB : Hid (cb < ws.heap.size) := Lib.hid S5.out.2.2
      have hnn1 : n1 ≤ 30 := AF.out.n30
      have SM : Hid (tot AV' + tot LV' + tot K'.l = tot K.l + n1 ∧ 0 ≤ tot K.l ∧ tot K.l ≤ 100) := Lib.hid ⟨AF.out.sum, tot_nonneg fun q hq => (linv_sizes RS.out.inv q hq).1, linv_tot RS.out.inv⟩
      obtain ⟨nx2, hx2⟩ : ∃ nx2 : Nat, K'.nx = nx2 := ⟨K'.nx.toNat, by have := SP.out.inv.ko.n0; omega⟩
      rw [hx2] at RN2
      have hcase : Hid ((nx2 = hs.length ∧ n1 = 0) ∨ (nx2 = hs.length + 1 ∧ szOf (hs.length : Int) K'.l + szOf (hs.length : Int) AV' + szOf (hs.length : Int) LV' = n1)) := Lib.hid (by
        cases hpp : X2.nextP 30 1000 with
        | none => have := AF.out.none hpp; exact .inl ⟨by omega, this.2⟩
        | some pc => have := AF.out.some (by rw [hpp]; rfl); exact .inr ⟨by omega, this.2⟩)
      have hnxb : nx2 ≤ hs.length + 1 := by rcases hcase.out with h | h <;> omega
      have HX2 := Lib.hid hx2
      clear hx2
      obtain ⟨bb, hbb⟩ : ∃ bb, decide (hs.length < nx2) = bb := ⟨_, rfl⟩
      have HBB : Hid ((bb = false → nx2 = hs.length ∧ n1 = 0) ∧ (bb = true → nx2 = hs.length + 1 ∧ szOf (hs.length : Int) K'.l + szOf (hs.length : Int) AV' + szOf (hs.length : Int) LV' = n1)) := Lib.hid (by
        subst hbb
        refine ⟨fun h => ?_, fun h => ?_⟩
        · have := of_decide_eq_false h; rcases hcase.out with h | h; exact h; omega
        · have := of_decide_eq_true h; rcases hcase.out with h | h; omega; exact h)
      go_upto_if 106 with (go_at_call 14; refine RN2.out.mono ?_; rintro e wv ⟨rfl, rfl⟩)
      go_cut [16] from 32 to 238 (fun s16 w' => ∃ b3, Hid (Ctr w w' A cb F' X' K' hs' R' zs' L' AV' LV' (tot AV' + tot LV' + tot K'.l) b3 k ws.heap.size lv ∧ 900 ≤ b3 ∧ b3 ≤ 20000))
      case first =>
        as_aux_lemma =>
        cases bb
        · have q2 := (HBB.out.1 rfl).2
          have R1 : Hid (Ctr w wo A cb F' X' K' hs' R' zs' L' AV' LV' (tot AV' + tot LV' + tot K'.l) b1 k ws.heap.size lv) := Lib.hid ⟨⟨c2, H', S5.out.1, by rw [AF.out.sum, q2]; simpa using S4.out.1⟩, S5.out.2.1⟩
          clear q2 hnxb hbb
          go_wp2
          go_meet
          exact ⟨b1, Lib.hid ⟨R1.out, by omega, hb2⟩⟩
        · have q2 := (HBB.out.2 rfl).2
          have W1 := S5.out.1.wn
          have RA := Lib.hid (S5.out.1.ra.cr W1)
          have RL := Lib.hid (S5.out.1.rl.cr W1)
          have c6 : wo.cell? ⟨A.lb, 6, none⟩ = some (.int .i64 L'.now) := at_whole S5.out.1.lk 6 rfl
          have c8 : wo.cell? ⟨A.lb, 8, none⟩ = some L'.av := at_whole S5.out.1.lk 8 rfl
          have c9 : wo.cell? ⟨A.lb, 9, none⟩ = some L'.lv := at_whole S5.out.1.lk 9 rfl
          have z0 : 0 ≤ szOf (hs.length : Int) K'.l := szOf_nonneg fun q hq => (linv_sizes SP.out.inv q hq).1
          have z1 : 0 ≤ szOf (hs.length : Int) AV' := szOf_nonneg fun q hq => (AF.out.sa q hq).1
          have z2 : 0 ≤ szOf (hs.length : Int) LV' := szOf_nonneg fun q hq => (AF.out.sl q hq).1
          obtain ⟨fz, z3, z4, z5, hz⟩ := sz_all S5.out.2.1 RA.out RL.out (hs.length : Int)
          rw [← z3] at z0
          rw [← z4] at z1
          rw [← z5] at z2
          rw [← z3, ← z4, ← z5] at q2
          have SZ := Lib.hid hz
          clear hz
          have SEN : Hid (∀ wx, Below wo.heap.size wo wx → Calls Tryz.prog 18 #[.pointer (some ⟨cb, 0, none⟩), .int .i64 L'.now, .int .i64 (n1 : Int)] wx fun e w' => e = .returned (.tuple #[]) ∧ Ctr w w' A cb F' X' K' hs' R' zs' L' AV' LV' (tot AV' + tot LV' + tot K'.l) (b1 - n1) k ws.heap.size lv) := Lib.hid (fun wx hbx => by
            have hs4 := S4.out.1
            have hsm := SM.out
            have hfl := hs4.fl
            have hbu := hs4.bu
            have hL := S5.out.1.same hbx
            refine (cgn.sent_any cb c2 L'.now n1 wx hL.ctl (by omega) (by omega) (by omega) (by omega)).mono fun e w' hh => ?_
            obtain ⟨H3, h3, _⟩ := hL.turnC hh.2
            refine ⟨hh.1, ⟨_, H3, h3, ?_⟩, (S5.out.2.1.below hbx).grown hh.2.2 S5.out.2.2⟩
            rw [hsm.1]
            exact hs4.sent (by omega) (by omega))
          have hm9 : tot AV' + tot LV' + tot K'.l ≤ 130 := by have := SM.out; omega
          generalize hM : tot AV' + tot LV' + tot K'.l = M at *
          have g1 : IntKind.i64.wrap (fz lv + fz L'.av) = fz lv + fz L'.av := IntWalk.i64_in _ (by omega)
          have g2 : IntKind.i64.wrap (fz lv + fz L'.av + fz L'.lv) = (n1 : Int) := by rw [q2]; exact IntWalk.i64_in _ (by omega)
          have g3 : decide ((30 : Int) < (n1 : Int)) = false := decide_eq_false (by omega)
          have g4 : decide (30 < n1) = false := decide_eq_false (by omega)
          have RES : Hid (∀ wx, Ctr w wx A cb F' X' K' hs' R' zs' L' AV' LV' M (b1 - n1) k ws.heap.size lv → ∃ b3, Hid (Ctr w wx A cb F' X' K' hs' R' zs' L' AV' LV' M b3 k ws.heap.size lv ∧ 900 ≤ b3 ∧ b3 ≤ 20000)) := Lib.hid (fun wx hx => ⟨_, Lib.hid ⟨hx, by omega, by omega⟩⟩)
          clear z0 z1 z2 z3 z4 z5 RA RL q2 W1 hM hbb hnxb
          go_upto_region 25 with (fail)
          go_quiet ((go_at_call 17; exact Calls.quiet_of_same (SZ.out _ _ (by simp))))
          clear SZ c8 c9 g1 g2 g3
          have HB := Lib.hid (show Below wo.heap.size wo (wo.drewN nq) from belowN (Below.refl _ _) nq)
          have c6 : (wo.drewN nq).cell? ⟨A.lb, 6, none⟩ = some (.int .i64 L'.now) := c6
          generalize wo.drewN nq = wd at HB c6 ⊢
          go_upto_region 27 with (go_at_call 18; refine (SEN.out _ HB.out).mono ?_; rintro e wf ⟨rfl, hf⟩; have G9 := Lib.hid hf; clear hf)
          obtain ⟨n1c, ⟨zw, hzw, n2c⟩, n3c⟩ := G9.out.now
          have N1 := Lib.hid n1c
          have N2 := Lib.hid n2c
          have RES2 := RES.out _ G9.out
          clear n1c n2c n3c RES SEN G9 c6
          have g3 : decide ((30 : Int) < (n1 : Int)) = false := decide_eq_false (by omega)
          have d1 : decide (zw < M) = false := decide_eq_false (by omega)
          by_cases hn0 : n1 = 0
          · subst hn0
            go_wp2
            go_meet
            exact RES2
          · have hn1 : decide (0 < n1) = true := decide_eq_true (by omega)
            clear hn0
            go_wp2_with (first | (go_at_call 19; refine N1.out.mono ?_; rintro e w5 ⟨rfl, rfl⟩) | (go_at_call 20; refine N2.out.mono ?_; rintro e w5 ⟨rfl, rfl⟩))
            go_meet
            exact RES2
      case rest =>
      obtain ⟨b3, HS3⟩ := hcut
      have C3 := Lib.hid HS3.out.1
      have B3 := Lib.hid HS3.out.2
      have HZA : Hid (∀ q ∈ AV', 0 ≤ q.size ∧ q.size ≤ 100) := Lib.hid AF.out.sa
      have HZL : Hid (∀ q ∈ LV', 0 ≤ q.size ∧ q.size ≤ 100) := Lib.hid AF.out.sl
      have HZK : Hid (∀ q ∈ K'.l, 0 ≤ q.size ∧ q.size ≤ 100) := Lib.hid (linv_sizes SP.out.inv)
      have CtR : Hid (∀ (wx : World) (l : List frm.Pk), l = AV' ∨ l = LV' ∨ l = K'.l → ∀ j (hj : j < l.length), 0 ≤ tot (l.drop (j + 1)) ∧ tot (l.drop j) = (l[j]'hj).size + tot (l.drop (j + 1)) ∧ 0 ≤ (l[j]'hj).size ∧ (l[j]'hj).size ≤ 100) := Lib.hid (fun wx l hl j hj => by
        have hz : ∀ q ∈ l, 0 ≤ q.size ∧ q.size ≤ 100 := by rcases hl with rfl | rfl | rfl; exact HZA.out; exact HZL.out; exact HZK.out
        exact ⟨tot_nonneg fun q hq => (hz q (List.mem_of_mem_drop hq)).1, tot_drop hj, hz _ (List.getElem_mem hj)⟩)
      have TN : Hid (0 ≤ tot AV' ∧ 0 ≤ tot LV' ∧ 0 ≤ tot K'.l) := Lib.hid ⟨tot_nonneg fun q hq => (HZA.out q hq).1, tot_nonneg fun q hq => (HZL.out q hq).1, tot_nonneg fun q hq => (HZK.out q hq).1⟩
      clear S5 RN2 c1 HS3 hcase hbb HBB
      go_wp2
      go_loopw [17] (fun i wr => ∃ j : Nat, j ≤ AV'.length ∧ i = .int .i64 j ∧ Hid (Ctr w wr A cb F' X' K' hs' R' zs' L' AV' LV' (tot (AV'.drop j) + tot LV' + tot K'.l) b3 k ws.heap.size lv)) (fun i _ => AV'.length - (intOf i).toNat)
      case atStart => exact ⟨0, by omega, rfl, Lib.hid (by simpa using C3.out)⟩
      case round =>
        clear C3
        obtain ⟨j, hj, rfl, D⟩ := hrel
        obtain ⟨c1, c6, c8, c9⟩ := D.out.cells
        clear c1 c9
        by_cases hlt : j < AV'.length
        · as_aux_lemma =>
          obtain ⟨g, cap, e8, g1, g2, q1, q2⟩ := D.out.ra.at hlt
          rw [e8] at c8
          obtain ⟨t1, t2, t3, t4⟩ := CtR.out wr AV' (by simp) j hlt
          have CL : Hid (∀ wx, Below wr.heap.size wr wx → Calls Tryz.prog 21 #[.pointer (some ⟨cb, 0, none⟩), .int .i64 L'.now, .int .i64 (AV'[j]'hlt).time, .int .i64 (AV'[j]'hlt).size] wx fun e w' => e = .returned (.tuple #[]) ∧ Hid (Ctr w w' A cb F' X' K' hs' R' zs' L' AV' LV' (tot (AV'.drop (j + 1)) + tot LV' + tot K'.l) b3 k ws.heap.size lv)) := Lib.hid (fun wx hbx => by
            have hsm := SM.out
            have htn := TN.out
            have hle : tot (AV'.drop j) + tot LV' + tot K'.l ≤ 1000 := by
              have h1 := tot_le (l := AV') (fun p hp => (HZA.out p hp).1) j
              have h2 := tot_append (AV'.take j) (AV'.drop j)
              rw [List.take_append_drop] at h2
              omega
            have := (D.out.same hbx).acked HCB.out L'.now (AV'[j]'hlt).time t3 (by omega) (by omega) hle
            refine this.mono fun e w' hh => ⟨hh.1, Lib.hid ?_⟩
            have h3 := hh.2
            rwa [show tot (AV'.drop j) + tot LV' + tot K'.l - (AV'[j]'hlt).size = tot (AV'.drop (j + 1)) + tot LV' + tot K'.l by omega] at h3)
          clear t1 t2 t3 t4 D e8
          generalize (AV'[j]'hlt).time = pt at *
          generalize (AV'[j]'hlt).size = ps at *
          go_wp2_with fail
          go_still_tail 21, (by kernel_rfl)
          repeat (first | still_step)
          change wpList _ _ _ _ _ wr.drew
          have HB := Lib.hid (show Below wr.heap.size wr wr.drew from (Below.refl _ wr).drew)
          generalize wr.drew = wd at HB ⊢
          go_wp2_with (go_at_call 21; refine (CL.out _ HB.out).mono ?_; rintro e w5 ⟨rfl, h5⟩)
          go_roundw
          case rel => exact ⟨j + 1, by omega, by go_num, h5⟩
          case measure => simp [intOf]; omega
        · obtain rfl : j = AV'.length := by omega
          obtain ⟨a8, p8, e8, l8⟩ := D.out.ra.form
          rw [e8] at c8
          have C4 : Hid (Ctr w wr A cb F' X' K' hs' R' zs' L' AV' LV' (tot LV' + tot K'.l) b3 k ws.heap.size lv) := Lib.hid (by have := D.out; rw [List.drop_length] at this; simpa [tot] using this)
          clear D c6 hj hlt e8
          go_wp2
          go_loopw [18] (fun i wr => ∃ j : Nat, j ≤ LV'.length ∧ i = .int .i64 j ∧ Hid (Ctr w wr A cb F' X' K' hs' R' zs' L' AV' LV' (tot (LV'.drop j) + tot K'.l) b3 k ws.heap.size lv)) (fun i _ => LV'.length - (intOf i).toNat)
          case atStart => exact ⟨0, by omega, rfl, Lib.hid (by simpa using C4.out)⟩
          case round =>
            clear C4
            obtain ⟨j, hj, rfl, D⟩ := hrel
            clear c8
            obtain ⟨c1, c6, c8, c9⟩ := D.out.cells
            clear c1 c8
            by_cases hlt : j < LV'.length
            · as_aux_lemma =>
              obtain ⟨g, cap, e8, g1, g2, q1, q2⟩ := D.out.rl.at hlt
              rw [e8] at c9
              obtain ⟨t1, t2, t3, t4⟩ := CtR.out wr LV' (by simp) j hlt
              have CL : Hid (∀ wx, Below wr.heap.size wr wx → Calls Tryz.prog 22 #[.pointer (some ⟨cb, 0, none⟩), .int .i64 L'.now, .int .i64 (LV'[j]'hlt).time, .int .i64 (LV'[j]'hlt).size] wx fun e w' => e = .returned (.tuple #[]) ∧ Hid (Ctr w w' A cb F' X' K' hs' R' zs' L' AV' LV' (tot (LV'.drop (j + 1)) + tot K'.l) b3 k ws.heap.size lv)) := Lib.hid (fun wx hbx => by
                have hsm := SM.out
                have htn := TN.out
                have hle : tot (LV'.drop j) + tot K'.l ≤ 1000 := by
                  have h1 := tot_le (l := LV') (fun p hp => (HZL.out p hp).1) j
                  have h2 := tot_append (LV'.take j) (LV'.drop j)
                  rw [List.take_append_drop] at h2
                  omega
                have := (D.out.same hbx).lost HCB.out L'.now (LV'[j]'hlt).time t3 (by omega) (by omega) hle
                refine this.mono fun e w' hh => ⟨hh.1, Lib.hid ?_⟩
                have h3 := hh.2
                rwa [show tot (LV'.drop j) + tot K'.l - (LV'[j]'hlt).size = tot (LV'.drop (j + 1)) + tot K'.l by omega] at h3)
              clear t1 t2 t3 t4 D e8
              generalize (LV'[j]'hlt).time = pt at *
              generalize (LV'[j]'hlt).size = ps at *
              go_wp2_with fail
              go_still_tail 21, (by kernel_rfl)
              repeat (first | still_step)
              change wpList _ _ _ _ _ wr.drew
              have HB := Lib.hid (show Below wr.heap.size wr wr.drew from (Below.refl _ wr).drew)
              generalize wr.drew = wd at HB ⊢
              go_wp2_with (go_at_call 22; refine (CL.out _ HB.out).mono ?_; rintro e w5 ⟨rfl, h5⟩)
              go_roundw
              case rel => exact ⟨j + 1, by omega, by go_num, h5⟩
              case measure => simp [intOf]; omega
            · obtain rfl : j = LV'.length := by omega
              obtain ⟨a9, p9, e9, l9⟩ := D.out.rl.form
              rw [e9] at c9
              have C4 : Hid (Ctr w wr A cb F' X' K' hs' R' zs' L' AV' LV' (tot K'.l) b3 k ws.heap.size lv) := Lib.hid (by have := D.out; rw [List.drop_length] at this; simpa [tot] using this)
              clear D c6 hj hlt e9
              obtain ⟨ak, pk, ek, lk⟩ := C4.out.cr.form
              subst ek
              go_wp2
              go_loopw [19, 20] (fun f i wx => ∃ j : Nat, j ≤ K'.l.length ∧ i = .int .i64 j ∧ f = .int .i64 (tot (K'.l.take j)) ∧ wx = wr) (fun _ i _ => K'.l.length - (intOf i).toNat)
              case atStart => exact ⟨0, by omega, rfl, rfl, rfl⟩
              case round =>
                obtain ⟨j, hj, rfl, rfl, rfl⟩ := hrel
                clear c9
                have tb : 0 ≤ tot (K'.l.take j) ∧ tot (K'.l.take j) ≤ tot K'.l := tot_le (fun p hp => (HZK.out p hp).1) j
                have tm : tot K'.l ≤ 130 := by have := SM.out; have := TN.out; omega
                by_cases hlt : j < K'.l.length
                · obtain ⟨g, cap, ev, g1, g2, q1, q2⟩ := C4.out.cr.at hlt
                  obtain ⟨t1, t2, t3, t4⟩ := CtR.out wr K'.l (by simp) j hlt
                  have t5 := tot_take hlt
                  have t6 : IntKind.i64.wrap (tot (K'.l.take j) + (K'.l[j]'hlt).size) = tot (K'.l.take (j + 1)) := by rw [t5]; exact IntWalk.i64_in _ (by omega)
                  cases ev
                  clear t1 t2 t3 t4 t5
                  generalize (K'.l[j]'hlt).time = pt at *
                  generalize (K'.l[j]'hlt).size = ps at *
                  go_wp2
                  go_roundw
                  case rel => exact ⟨j + 1, by omega, by go_num, by first | rfl | exact congrArg _ t6, trivial⟩
                  case measure => simp [intOf]; omega
                · as_aux_lemma =>
                  obtain rfl : j = K'.l.length := by omega
                  rw [List.take_length] at tb ⊢
                  obtain ⟨c1, c6, c8, c9⟩ := C4.out.cells
                  clear c6 c8 c9 hj hlt
                  obtain ⟨n1c, ⟨zw, hzw, n2c⟩, n3c⟩ := C4.out.now
                  rw [HX2.out] at n3c
                  have N1 := Lib.hid n1c
                  have N2 := Lib.hid n2c
                  have N3 := Lib.hid n3c
                  clear n1c n2c n3c
                  have d1 : decide (zw < 1024) = false := decide_eq_false (by omega)
                  have d2 : decide (hs.length + 1 < nx2) = false := decide_eq_false (by omega)
                  have d3 : decide (((hs.length : Int) + 1) < (nx2 : Int)) = false := decide_eq_false (by omega)
                  have d5 : IntKind.i64.wrap ((hs.length : Int) + 1) = (hs.length : Int) + 1 := IntWalk.i64_in _ (by have := RS.out.hk; omega)
                  have NX : Hid (∃ c F X K hs R zs n top idle L AV LV H, Rst w wr N 100 (k + 1) a2 (A.wc cb c) F X K hs R zs n top idle L AV LV H ∧ CtK c K (k + 1)) := Lib.hid (by
                    obtain ⟨⟨c9, H9, h9, hcb9⟩, _⟩ := C4.out
                    obtain ⟨q1, q2, q3, q4, q5, q6⟩ := HC.out
                    have sp := SP.out
                    have hsf := sp.sf (decide (f = 0)) (fun h => by rw [of_decide_eq_true h]; exact ⟨rfl, rfl⟩)
                    refine ⟨c9, F', X', K', hs', R', zs', n', top', idle', L', AV', LV', H9, ⟨h9, sp.inv, sp.got, sp.now, sp.idl, (RS.out.prg.mono q3).step q2 q4 q5 (by omega) (by omega) (fun h => decide_eq_true (hf2 (by omega))) hsf sp.inv.tm, by rw [hsf.S]; exact q6, ?_⟩, b3, k, hcb9, B3.out.2, .inl ⟨by omega, by omega, B3.out.1⟩⟩
                    obtain ⟨X1, K1, i1, a, e, e2, s, _, _⟩ := sp.pk
                    have := RS.out.hk
                    cases hp : X2.nextP 30 1000 with
                    | none => rw [(s.none hp).2.2.1]; omega
                    | some pc => rw [(s.some pc.1 pc.2 hp).2.2.1, List.length_append, List.length_singleton]; omega)
                  have AN : Hid (a2 ≤ N) := Lib.hid (by have := HC.out.2.2.2.2.2; have := HC.out.2.1.SN; omega)
                  clear C4 HC SP RS
                  go_wp2_with (first | (go_at_call 19; refine N1.out.mono ?_; rintro e w5 ⟨rfl, rfl⟩) | (go_at_call 20; refine N2.out.mono ?_; rintro e w5 ⟨rfl, rfl⟩) | (go_at_call 14; refine N3.out.mono ?_; rintro e w5 ⟨rfl, rfl⟩))
                  go_roundw
                  case rel => exact ⟨k + 1, a2, by go_num, rfl, by omega, AN.out, NX⟩
                  case measure => simp [intOf]; omega
end Go.Proofs.YtpfkeohaaeiaaaaGreatDoor.sendBufCongestion
/- SendBufWithinLimits: what the laid variables give the walk, and a heap that meets the condition. -/
namespace Go.Proofs.YtpfkeohaaeiaaaaGreatDoor
open Go.ChangeShapes Go.WideShapes Go.ChangeAt Go.RowKit Go.Stop
abbrev laidL : List (String × DataW Unit) := [("peregrine/reassembly.errArgument", Rows.laid_peregrine_reassembly_errArgument), ("peregrine/reassembly.errConflict", Rows.laid_peregrine_reassembly_errConflict), ("peregrine/reassembly.errFinalSize", Rows.laid_peregrine_reassembly_errFinalSize), ("peregrine/reassembly.errRoom", Rows.laid_peregrine_reassembly_errRoom)]
def Laid (ad : Addr × Addr × Addr × Addr) (W : World) : Prop := rea.Errs W ad.1 ad.2.1 ad.2.2.1 ad.2.2.2
theorem gl0 : Tryz.prog.globalNamed "peregrine/reassembly.errConflict" = some 0 := by kernel_rfl
theorem gl1 : Tryz.prog.globalNamed "peregrine/reassembly.errFinalSize" = some 1 := by kernel_rfl
theorem gl2 : Tryz.prog.globalNamed "peregrine/reassembly.errRoom" = some 2 := by kernel_rfl
theorem gl3 : Tryz.prog.globalNamed "peregrine/reassembly.errArgument" = some 3 := by kernel_rfl
theorem glt0 : (Tryz.prog.globals[0]?).map (·.type) = some 145 := by kernel_rfl
theorem glt1 : (Tryz.prog.globals[1]?).map (·.type) = some 145 := by kernel_rfl
theorem glt2 : (Tryz.prog.globals[2]?).map (·.type) = some 145 := by kernel_rfl
theorem glt3 : (Tryz.prog.globals[3]?).map (·.type) = some 145 := by kernel_rfl
theorem star : "*" ++ "errors.errorString" = "*errors.errorString" := by decide
theorem row116 (u : TypeId) (h : Tryz.prog.typeName? 3 u = some "*errors.errorString") : u = 242 :=
  typeName_ptr_named (nm := "errors.errorString") (by rw [star]; kernel_rfl) (by kernel_rfl) (by decide) u (by rw [star]; exact h)
theorem door_met (os : Os) (args : Array Value) : laidMetH Tryz.prog laidL ((World.doorLaid Tryz.prog 400 os).forCall (fun _ _ => 0) ⟨#[], args, []⟩).memory :=
  laidMetH_of_parts (laidMet_of_run' 8 (by kernel_rfl) (by kernel_rfl)) (by kernel_rfl)
theorem laid_cell {W : World} (h : laidMetH Tryz.prog laidL W) : ∃ ad, Laid ad W := by
  rw [MakeChecks.laidMetH_plain _ _ _ (by kernel_rfl)] at h
  have h1 := h.tail
  have h2 := h1.tail
  have h3 := h2.tail
  obtain ⟨a3, s3, v3, _⟩ := laid_sentinel (P := Tryz.prog) h gl3 glt3 Tryz.underlying145 row116 Tryz.underlying242 Tryz.underlying264 rfl rfl Tryz.underlying9 (by kernel_rfl) (by kernel_rfl)
  obtain ⟨a0, s0, v0, _⟩ := laid_sentinel (P := Tryz.prog) h1 gl0 glt0 Tryz.underlying145 row116 Tryz.underlying242 Tryz.underlying264 rfl rfl Tryz.underlying9 (by kernel_rfl) (by kernel_rfl)
  obtain ⟨a1, s1, v1, _⟩ := laid_sentinel (P := Tryz.prog) h2 gl1 glt1 Tryz.underlying145 row116 Tryz.underlying242 Tryz.underlying264 rfl rfl Tryz.underlying9 (by kernel_rfl) (by kernel_rfl)
  obtain ⟨a2, s2, v2, _⟩ := laid_sentinel (P := Tryz.prog) h3 gl2 glt2 Tryz.underlying145 row116 Tryz.underlying242 Tryz.underlying264 rfl rfl Tryz.underlying9 (by kernel_rfl) (by kernel_rfl)
  exact ⟨(a0, a1, a2, a3), ⟨by simpa using World.var?_cell gl0 v0 0, by simpa using World.var?_cell gl1 v1 0, by simpa using World.var?_cell gl2 v2 0, by simpa using World.var?_cell gl3 v3 0⟩⟩
end Go.Proofs.YtpfkeohaaeiaaaaGreatDoor
/- SendBufCongestion: the arguments opened. -/
namespace Go.Proofs.YtpfkeohaaeiaaaaGreatDoor.sendBufCongestion
open Go.RowKit Go.WideShapes Go.ChangeShapes
theorem cells3 : Tryz.prog.cellsOf 3 = 1 := by kernel_rfl
set_option maxRecDepth 100000 in
theorem main {H : Type} {enc : TypeId × Value → H} (W : World) (ad : Addr × Addr × Addr × Addr) (hl : Laid ad W) (d0 d1 : DataW H) (_hw : (DataW.weightsEach Tryz.prog [3, 22] [d0, d1]).all (· ≤ reachBytes) = true)
    (b0 : Nat) (v0 : Value) (p0 : List MemPlace) (k0 : Value.okWide Tryz.prog W .any b0 3 v0) (h0 : DataW.Trod enc Tryz.prog W 0 (fun _ => true) true 3 v0 d0 p0)
    (b1 : Nat) (v1 : Value) (p1 : List MemPlace) (k1 : Value.okWide Tryz.prog W .any b1 22 v1) (h1 : DataW.Trod enc Tryz.prog W 0 (fun _ => true) true 22 v1 d1 p1) :
    Calls Tryz.prog 4 #[v0, v1] W fun e w' => e = .returned (.bool true) ∧ Below W.heap.size W w' := by
  obtain ⟨a0, rfl, _, _, w0⟩ := open_int Tryz.underlying3 k0 h0
  obtain ⟨ys, hy, hmy, hry⟩ := ints_at Tryz.underlying22 Tryz.underlying3 cells3 k1 h1
  obtain ⟨a3, cap3, rfl, _⟩ := hy.form
  exact walk a0 ys a3 cap3 W (bounds_i64 w0) hy hmy hry _ _ _ _ hl
end Go.Proofs.YtpfkeohaaeiaaaaGreatDoor.sendBufCongestion
