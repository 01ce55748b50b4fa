/- Texts RelMain LaidAt RelEnd of this claim, one behind the other. -/
import Derived.Test.YtpfkeohaaeiaaaaGreatDoorRl31
import Derived.Test.YtpfkeohaaeiaaaaGreatDoorRl25
import Derived.Test.YtpfkeohaaeiaaaaGreatDoorRl32
import Derived.Test.YtpfkeohaaeiaaaaGreatDoorRows
import Derived.Test.YtpfkeohaaeiaaaaGreatDoorRl18
import Derived.ProofKit
import Derived.LaidMore
import Derived.OpenShut
import Derived.Stop.Joined
import Derived.Stop.LaidErr
/- SendBufReliable: the walk. -/
namespace Go.Proofs.YtpfkeohaaeiaaaaGreatDoor
open Go.RowKit
set_option maxRecDepth 100000
/-- the state at the head of a round -/
structure Rst (W wr : World) (N lim k a : Nat) (A : Lad) (F : Nat → Prop) (X : Wh) (K : frm.Rc) (hs : List Fr) (R : rea.Rb) (zs : List Int) (n top idle : Nat) (L : Lnk) (AV LV : List frm.Pk) (H : Nat → Option Obj) : Prop where
  ls : Ls W wr A F X K hs R zs L AV LV H
  inv : LInv N lim X K hs R zs n top k
  got : GotOk N R L.got L.en
  now : L.now = (k : Int)
  idl : L.idle = (idle : Int)
  prg : Prg N X K k idle
  len : X.S.length = a
  hk : hs.length ≤ k
end Go.Proofs.YtpfkeohaaeiaaaaGreatDoor
namespace Go.Proofs.YtpfkeohaaeiaaaaGreatDoor
/-- a region whose fourth operation turns the world -/
structure WRs (wc : World) (P : World → Prop) (L : Nat → Bool) (w' : World) : Prop where
  a : L 3 = true → P w'
  b : L 3 = false → w' = wc.drew
  c : ∀ j, 3 < j → L j = true → L 3 = true
theorem WRs.step {wc w' : World} {P : World → Prop} {L : Nat → Bool} (h : WRs wc P L w') {i : Nat} (hi : i ≠ 3) (h3 : 3 < i → L 3 = true) : WRs wc P (fun j => j == i || L j) w' := by
  have e : ((3 : Nat) == i || L 3) = L 3 := by simp [Ne.symm hi]
  refine ⟨fun hL => h.a (by rw [← e]; exact hL), fun hL => h.b (by rw [← e]; exact hL), fun j hj hL => ?_⟩
  show ((3 : Nat) == i || L 3) = true
  rw [e]
  rcases Bool.or_eq_true .. ▸ hL with e2 | e2
  · rw [beq_iff_eq] at e2; subst e2; exact h3 hj
  · exact h.c j hj e2
end Go.Proofs.YtpfkeohaaeiaaaaGreatDoor
namespace Go.Proofs.YtpfkeohaaeiaaaaGreatDoor.sendBufReliable
open Go.RowKit
set_option maxRecDepth 100000
theorem btr2 {a b c : World} (h : Below a.heap.size a b) (k : Below b.heap.size b c) : Below a.heap.size a c := h.trans (k.mono h.size)
set_option maxHeartbeats 16000000 in
theorem walk (many limit : Int) (sl fl : List Int) (a0 : Option Addr) (cap0 : Nat) (a1 : Option Addr) (cap1 : Nat) (w : World) (hm : -9223372036854775808 ≤ many ∧ many ≤ 9223372036854775807) (hl : -9223372036854775808 ≤ limit ∧ limit ≤ 9223372036854775807)
    (hz : IntsAt .i64 w (.slice a0 sl.length cap0) sl) (hmz : sl.length ≤ maxLen) (hrz : ∀ n ∈ sl, (Lit.int .i64 n).wf = true) (hy : IntsAt .i64 w (.slice a1 fl.length cap1) fl) (_hmy : fl.length ≤ maxLen) (hry : ∀ n ∈ fl, (Lit.int .i64 n).wf = true)
    (y0 y1 y2 y3 : Addr) (hE : rea.Errs w y0 y1 y2 y3) :
    Calls Tryz.prog 3 #[.int .i64 many, .int .i64 limit, .slice a0 sl.length cap0, .slice a1 fl.length cap1] w fun e w' => e = .returned (.bool true) ∧ Below w.heap.size w w' := by
  unfold maxLen at hmz
  have PM := Lib.hid (fun (wx : World) => pick_any many 400 wx hm.1 hm.2 (by decide) (by decide))
  have r1 := pickF_range many 400 (by decide)
  have NL := Lib.hid (fun (wx : World) (hB : Below w.heap.size w wx) => newLink_any (W := w) limit hB hl.1 hl.2)
  have r2 := pickF_range limit 100 (by decide)
  generalize pickF many 400 = p at *
  generalize pickF limit 100 = q at *
  obtain ⟨N, rfl⟩ : ∃ N : Nat, p = N := ⟨p.toNat, by omega⟩
  obtain ⟨z, rfl⟩ : ∃ z : Nat, q = z := ⟨q.toNat, by omega⟩
  have hN : N < 400 := by omega
  have hz100 : z < 100 := by omega
  have EE := Lib.hid hE
  have HZ := Lib.hid hz
  have HRZ := Lib.hid hrz
  have HY := Lib.hid hy
  have HRY := Lib.hid hry
  clear hz hrz hy hry hm hl r1 r2 hE
  have ST := Lib.hid (fun (wx : World) => stream_any N wx (by omega))
  have hAs := strOfNums_size (streamRow N N)
  rw [streamRow_length] at hAs
  have HAB := Lib.hid (stream_bytes N)
  obtain ⟨Al, hAl⟩ : ∃ Al, strOfNums (streamRow N N) = Al := ⟨_, rfl⟩
  have HAL := Lib.hid hAl
  rw [hAl] at ST hAs HAB
  clear hAl
  go_enter Tryz.func3, Tryz.ntmps3
  go_wp2_with (first
    | (go_at_call 5; refine (sane_any _).mono ?_; rintro e w1 ⟨rfl, HB2⟩; have HB := Lib.hid HB2; clear HB2)
    | (go_at_call 7; refine (PM.out _).mono ?_; rintro e wm ⟨rfl, rfl⟩)
    | (go_at_call 6; refine (ST.out _).mono ?_; rintro e wk ⟨rfl, HK⟩; have HB2 := btr2 HB.out HK; clear HB HK; have HB := Lib.hid HB2; clear HB2)
    | (go_at_call 8; refine (NL.out _ HB.out).mono ?_; rintro e wn ⟨A, F0, H0, rfl, h0⟩; have S0 := Lib.hid h0; clear h0))
  clear NL PM ST HB
  have hlim : (1 : Int) + (z : Int) = ((z + 1 : Nat) : Int) := by omega
  rw [hlim] at S0
  clear hlim
  have R0 : Hid (Rst w wn N (z + 1) 0 0 A F0 (newX ((z + 1 : Nat) : Int)) ⟨[], 0, -1⟩ [] (rea.newRb 600) (frm.zs0 0) 0 0 0 lnk0 [] [] H0) := Lib.hid ⟨S0.out, LInv.start N (z + 1) (by omega) (by omega) (by omega) frm_zs0, GotOk.start N _ _ _ _, rfl, rfl, Prg.start _ _ _, rfl, Nat.le_refl _⟩
  clear S0
  go_loopw [13, 14, 15, 16] (fun at_ i s f wr => ∃ (k a : Nat), i = .int .i64 k ∧ at_ = .int .i64 a ∧ k ≤ 600 ∧ a ≤ N ∧ Hid (∃ F X K hs R zs n top idle L AV LV H, Rst w wr N (z + 1) k a A F X K hs R zs n top idle L AV LV H)) (fun _ i _ _ _ => 2500 - (intOf i).toNat)
  case atStart => exact ⟨0, 0, rfl, rfl, by decide, Nat.zero_le _, Lib.hid ⟨_, _, _, _, _, _, _, _, _, _, _, _, _, R0.out⟩⟩
  case round =>
    obtain ⟨k, a, rfl, rfl, hk6, haN, HD⟩ := hrel
    clear R0
    obtain ⟨F, X, K, hs, R, zs, n, top, idle, L, AV, LV, H, hr⟩ := HD.out
    clear HD
    have hk5 : k ≤ 531 := by have := hr.prg.bound; omega
    have RS := Lib.hid hr
    have c0 : wr.cell? ⟨A.lb, 0, none⟩ = some (.pointer (some ⟨A.b, 0, none⟩)) := at_whole hr.ls.lk 0 rfl
    have hk15 : decide ((k : Int) < 2500) = true := decide_eq_true (by omega)
    clear hr
    cases hd : X.done with
    | true =>
      have DN : Hid (Calls Tryz.prog 9 #[.pointer (some ⟨A.b, 0, none⟩)] wr fun e w' => e = .returned (.bool true) ∧ wr = w') := Lib.hid (by have := wn_done RS.out.ls.wn; rw [hd] at this; exact this)
      obtain ⟨g1, g2⟩ := RS.out.inv.whole hd RS.out.got
      rw [HAL.out] at g1
      have c4 : wr.cell? ⟨A.lb, 4, none⟩ = some (.string Al) := by rw [← g1]; exact at_whole RS.out.ls.lk 4 rfl
      have c5 : wr.cell? ⟨A.lb, 5, none⟩ = some (.bool true) := by rw [← g2]; exact at_whole RS.out.ls.lk 5 rfl
      have BL := Lib.hid RS.out.ls.wn.below
      clear hd g1 g2 RS
      go_wp2_with (go_at_call 9; refine DN.out.mono ?_; rintro e ws ⟨rfl, rfl⟩)
      go_ret
      exact ⟨rfl, BL.out⟩
    | false =>
      have DN : Hid (Calls Tryz.prog 9 #[.pointer (some ⟨A.b, 0, none⟩)] wr fun e w' => e = .returned (.bool false) ∧ wr = w') := Lib.hid (by have := wn_done RS.out.ls.wn; rw [hd] at this; exact this)
      obtain ⟨rest, hE⟩ : ∃ r, Al.extract a N = r := ⟨_, rfl⟩
      have hre : bytesOf rest = (streamRow N N).drop X.S.length := by rw [RS.out.len, ← hE, bytesOf_extract, HAB.out, List.take_of_length_le (by simp [streamRow_length])]
      have hmin : (if (N : Int) < (a : Int) then (N : Int) else (a : Int)) = (a : Int) := if_neg (by omega)
      have hmin2 : (if N < a then (N : Int) else (a : Int)) = (a : Int) := if_neg (by omega)
      go_upto_region 10 with (go_at_call 9; refine DN.out.mono ?_; rintro e ws ⟨rfl, rfl⟩)
      obtain ⟨v1, v2, v3⟩ := RS.out.inv.write hre
      have VW := Lib.hid (RS.out.inv.written hd hre)
      have IW := Lib.hid v1
      have hlen := RS.out.len
      rw [hlen] at v2 v3
      obtain ⟨m, hm⟩ : ∃ m, X.writeN rest = m := ⟨_, rfl⟩
      have hrs : rest.size ≤ 400 := by rw [← bytesOf_length, hre]; simp [streamRow_length]; omega
      have WRT : Hid (∀ wx, Ls w wx A F X K hs R zs L AV LV H → Calls Tryz.prog 10 #[.pointer (some ⟨A.b, 0, none⟩), .string rest] wx fun e w' => e = .returned (.int .i64 m) ∧ ∃ F', Ls w w' A F' (X.write rest) K hs R zs L AV LV H) := Lib.hid (fun wx hx => by
        have := wn_write hx.wn rest (by unfold maxLen; omega) (by rw [hlen]; omega)
        rw [hm] at this
        exact this.mono fun e w' hh => ⟨hh.1, hh.2.choose, hx.buf hh.2.choose_spec⟩)
      rw [hm] at v2 v3
      have V2 := Lib.hid v2
      clear v1 v2 hre hrs hlen
      have L0 : Hid (∀ (wx : World) (Fx : Nat → Prop) (Xx : Wh), Ls w wx A Fx Xx K hs R zs L AV LV H → wx.cell? ⟨A.lb, 0, none⟩ = some (.pointer (some ⟨A.b, 0, none⟩))) := Lib.hid (fun wx Fx Xx hx => at_whole hx.lk 0 rfl)
      have hw3 : IntKind.i64.wrap ((a : Int) + (m : Int)) = (a : Int) + (m : Int) := IntWalk.i64_in _ (by omega)
      have hmin3 : min (a : Int) (N : Int) = (a : Int) := by omega
      clear c0
      go_region_held3 (fun w' => w'.cell? ⟨A.lb, 0, none⟩ = some (.pointer (some ⟨A.b, 0, none⟩)))
        (first | exact L0.out _ _ _ G1.out | exact L0.out _ _ _ (RS.out.ls.same (Below.refl _ wr).drew))
        (first | (go_at_call 10; refine (WRT.out _ (by exact RS.out.ls.same (Below.refl _ wr).drew)).mono ?_; rintro e wv ⟨rfl, F1, g1⟩; have G1 := Lib.hid g1; clear g1))
      clear WRT hmin hmin2
      have c0 := L0.out _ _ _ G1.out
      clear L0
      go_upto_if 56 with (fail)
      go_cut [13] from 28 to 129 (fun s13 w' => s13 = .int .i64 ((a + m : Nat) : Int) ∧ ∃ F2 X2, Hid (Ls w w' A F2 X2 K hs R zs L AV LV H ∧ LInv N (z + 1) X2 K hs R zs n top k ∧ mu N X ≤ mu N X2 ∧ X2.done = false ∧ Wrt N (z + 1) X2 ∧ X2.S.length = a + m))
      case first =>
        by_cases hN2 : a + m = N
        · have hb : (((a : Int) + (m : Int)) == (N : Int)) = true := by rw [beq_iff_eq]; omega
          have HN2 := Lib.hid hN2
          clear hN2
          go_wp2_with (go_at_call 11; refine (wn_finish G1.out.wn).mono ?_; rintro e wf ⟨rfl, F3, h3⟩; have G3 := Lib.hid (G1.out.buf h3); clear h3)
          go_meet
          refine ⟨by simp, F3, _, Lib.hid ⟨G3.out, IW.out.finish (by rw [V2.out, HN2.out]), VW.out.1, VW.out.2.2.1, .inl rfl, V2.out⟩⟩
        · have hb : (((a : Int) + (m : Int)) == (N : Int)) = false := by rw [beq_eq_false_iff_ne]; omega
          go_wp2
          go_meet
          refine ⟨by simp, F1, _, Lib.hid ⟨G1.out, IW.out, VW.out.1, VW.out.2.1, ?_, V2.out⟩⟩
          cases hf : X.fin with
          | true => exact .inl (VW.out.2.2.2.2.trans hf)
          | false =>
            rcases VW.out.2.2.2.1 hf with h | h
            · exact absurd (V2.out.symm.trans h) hN2
            · exact h
      case rest =>
      obtain ⟨rfl, F2, X2, HC⟩ := hcut
      clear G1 c0 VW IW V2
      obtain ⟨a2, ha2⟩ : ∃ a2, a + m = a2 := ⟨_, rfl⟩
      rw [ha2] at HC ⊢
      clear hw3 hmin3
      go_upto_if 64 with (fail)
      go_cut [15] from 28 to 129 (fun s15 w' => (∃ sz : Nat, s15 = .int .i64 sz ∧ 1 ≤ sz ∧ sz ≤ 40) ∧ w' = wc)
      case first =>
        by_cases h0 : sl.length = 0
        · have hb : decide (0 < sl.length) = false := decide_eq_false (by omega)
          go_wp2
          go_meet
          exact ⟨⟨9, rfl, by decide, by decide⟩, rfl⟩
        · have hb : decide (0 < sl.length) = true := decide_eq_true (by omega)
          obtain ⟨j, hj⟩ : ∃ j, k % sl.length = j := ⟨_, rfl⟩
          have hjl : j < sl.length := by rw [← hj]; exact Nat.mod_lt _ (by omega)
          have hm1 : (k : Int) % (sl.length : Int) = (j : Int) := by rw [← hj]; rfl
          have hm2 : (k : Int).tmod (sl.length : Int) = (j : Int) := by rw [Int.tmod_eq_emod_of_nonneg (by omega)]; exact hm1
          have hm3 : IntKind.i64.wrap (j : Int) = (j : Int) := IntWalk.i64_in _ (by omega)
          have hxw := bounds_i64 (HRZ.out (sl[j]?.getD 0) (by simp [hjl]))
          obtain ⟨b4, off4, hz4, hx4⟩ : ∃ b4 off4, a0 = some ⟨b4, off4, none⟩ ∧ wc.cell? ⟨b4, off4 + j, none⟩ = some (.int .i64 (sl[j]?.getD 0)) ∧ sl.length ≤ cap0 ∧ cap0 ≤ maxLen := by
            rcases HZ.out with ⟨_, _, e, _, h0⟩ | ⟨b4, off4, c4, e, h0, hl4, hc4, hx4⟩
            · rw [h0] at hjl; simp at hjl
            · simp only [Value.slice.injEq] at e
              obtain ⟨e1, _, rfl⟩ := e
              exact ⟨b4, off4, e1, (HC.out.1.wn.below.cell (p := ⟨b4, off4 + j, none⟩) (World.block_lt_of_cell? _ _ (hx4 j hjl))).trans (hx4 j hjl), hl4, hc4⟩
          obtain ⟨hx4, hl4, hc4⟩ := hx4
          unfold maxLen at hc4
          subst hz4
          generalize sl[j]?.getD 0 = x at *
          have PX := Lib.hid (fun (wx : World) => pick_any x 40 wx hxw.1 hxw.2 (by decide) (by decide))
          have rx := pickF_range x 40 (by decide)
          generalize pickF x 40 = c at *
          obtain ⟨c, rfl⟩ : ∃ c' : Nat, c = c' := ⟨c.toNat, by omega⟩
          clear hxw hj
          go_wp2_with (go_at_call 7; refine (PX.out _).mono ?_; rintro e wm ⟨rfl, rfl⟩)
          go_meet
          exact ⟨⟨c + 1, by simp; omega, by omega, by omega⟩, rfl⟩
      case rest =>
      obtain ⟨⟨sz, rfl, hz1, hz2⟩, rfl⟩ := hcut
      go_upto_region 17 with (fail)
      go_cut [81] from 28 to 129 (fun s81 w' => (∃ lb : Bool, s81 = .bool lb ∧ (lb = true → k < fl.length ∧ k < 120) ∧ (lb = false → True)) ∧ w' = wc)
      case first =>
        by_cases c1 : k < fl.length
        · have d1 : decide (k < fl.length) = true := decide_eq_true c1
          by_cases c2 : k < 120
          · have d2 : decide ((k : Int) < 120) = true := decide_eq_true (by omega)
            go_wp2
            go_meet
            exact ⟨⟨true, rfl, fun _ => ⟨c1, c2⟩, fun _ => trivial⟩, rfl⟩
          · have d2 : decide ((k : Int) < 120) = false := decide_eq_false (by omega)
            go_wp2
            go_meet
            exact ⟨⟨false, rfl, fun h => (by cases h), fun _ => trivial⟩, rfl⟩
        · have d1 : decide (k < fl.length) = false := decide_eq_false c1
          go_wp2
          go_meet
          exact ⟨⟨false, rfl, fun h => (by cases h), fun _ => trivial⟩, rfl⟩
      case rest =>
      obtain ⟨⟨lb, rfl, hlb, _⟩, rfl⟩ := hcut
      go_upto_if 81 with (fail)
      go_cut [16] from 28 to 129 (fun s16 w' => (∃ f : Int, s16 = .int .i64 f ∧ 0 ≤ f ∧ f ≤ 3 ∧ (120 ≤ k → f = 0)) ∧ w' = wc)
      case first =>
        cases lb
        · go_wp2
          go_meet
          exact ⟨⟨0, rfl, by decide, by decide, fun _ => rfl⟩, rfl⟩
        · obtain ⟨hjl, hk120⟩ := hlb rfl
          clear hlb
          have hxw := bounds_i64 (HRY.out (fl[k]?.getD 0) (by simp [hjl]))
          obtain ⟨b4, off4, hz4, hx4⟩ : ∃ b4 off4, a1 = some ⟨b4, off4, none⟩ ∧ wc.cell? ⟨b4, off4 + k, none⟩ = some (.int .i64 (fl[k]?.getD 0)) ∧ fl.length ≤ cap1 ∧ cap1 ≤ maxLen := by
            rcases HY.out with ⟨_, _, e, _, h0⟩ | ⟨b4, off4, c4, e, h0, hl4, hc4, hx4⟩
            · rw [h0] at hjl; simp at hjl
            · simp only [Value.slice.injEq] at e
              obtain ⟨e1, _, rfl⟩ := e
              exact ⟨b4, off4, e1, (HC.out.1.wn.below.cell (p := ⟨b4, off4 + k, none⟩) (World.block_lt_of_cell? _ _ (hx4 k hjl))).trans (hx4 k hjl), hl4, hc4⟩
          obtain ⟨hx4, hl4, hc4⟩ := hx4
          unfold maxLen at hc4
          subst hz4
          generalize fl[k]?.getD 0 = x at *
          have PX := Lib.hid (fun (wx : World) => pick_any x 4 wx hxw.1 hxw.2 (by decide) (by decide))
          have rx := pickF_range x 4 (by decide)
          generalize pickF x 4 = c at *
          clear hxw
          go_wp2_with (go_at_call 7; refine (PX.out _).mono ?_; rintro e wm ⟨rfl, rfl⟩)
          go_meet
          exact ⟨⟨c, rfl, by omega, by omega, fun h => by omega⟩, rfl⟩
      case rest =>
      obtain ⟨⟨f, rfl, hf0, hf1, hf2⟩, rfl⟩ := hcut
      clear hlb
      have NEXT : Hid (∀ (w' : World) (F' : Nat → Prop) (X' : Wh) (K' : frm.Rc) (hs' : List Fr) (R' : rea.Rb) (zs' : List Int) (n' top' idle' : Nat) (L' : Lnk) (AV' LV' : List frm.Pk) (H' : Nat → Option Obj), StpPost w w' N (z + 1) A X2 K hs R (k + 1) idle (X2.nextP sz 1000) f F' X' K' hs' R' zs' n' top' idle' L' AV' LV' H' → Rst w w' N (z + 1) (k + 1) a2 A F' X' K' hs' R' zs' n' top' idle' L' AV' LV' H') := Lib.hid (fun w' F' X' K' hs' R' zs' n' top' idle' L' AV' LV' H' sp => by
        obtain ⟨q1, q2, q3, q4, q5, q6⟩ := HC.out
        have hsf := sp.sf (decide (f = 0)) (fun h => by rw [of_decide_eq_true h]; exact ⟨rfl, rfl⟩)
        refine ⟨sp.ls, sp.inv, sp.got, sp.now, sp.idl, (RS.out.prg.mono q3).step q2 q4 q5 (by omega) (by omega) (fun h => decide_eq_true (hf2 h)) hsf sp.inv.tm, by rw [hsf.S]; exact q6, ?_⟩
        obtain ⟨X1, K1, i1, a, e, e2, s, _, _⟩ := sp.pk
        have := RS.out.hk
        cases hp : X2.nextP sz 1000 with
        | none => rw [(s.none hp).2.2.1]; omega
        | some pc => rw [(s.some pc.1 pc.2 hp).2.2.1, List.length_append, List.length_singleton]; omega)
      obtain ⟨en0, hen0⟩ : ∃ en0, ((nextRb X2 R (X2.nextP sz 1000) f).kn && decide ((nextRb X2 R (X2.nextP sz 1000) f).at_ = N)) = en0 := ⟨_, rfl⟩
      obtain ⟨u, hu⟩ : ∃ u, (nextRb X2 R (X2.nextP sz 1000) f).at_ = u := ⟨_, rfl⟩
      obtain ⟨G, hGe⟩ : ∃ G, Al.extract 0 u = G := ⟨_, rfl⟩
      obtain ⟨PP, hPP⟩ : ∃ PP : World → Prop, PP = fun w' => u ≤ N ∧ G.size = u ∧ (en0 = true → G = Al) ∧ a2 ≤ N ∧ w'.cell? ⟨A.lb, 4, none⟩ = some (.string G) ∧ w'.cell? ⟨A.lb, 5, none⟩ = some (.bool en0) ∧ Hid (∃ F X K hs R zs n top idle L AV LV H, Rst w w' N (z + 1) (k + 1) a2 A F X K hs R zs n top idle L AV LV H) := ⟨_, rfl⟩
      have STP : Hid (∀ wx, Ls w wx A F2 X2 K hs R zs L AV LV H → Calls Tryz.prog 12 #[.pointer (some ⟨A.lb, 0, none⟩), .int .i64 sz, .int .i64 f] wx fun e w' => e = .returned (.bool true) ∧ PP w') := Lib.hid (fun wx hx => by
        have hhk := RS.out.hk
        refine (step_any hx HC.out.2.1 RS.out.now RS.out.idl RS.out.prg.idl (by omega) (by omega) EE.out RS.out.got sz f (by omega) (by omega) hf0 hf1).mono fun e w' hh => ?_
        obtain ⟨he, F', X', K', hs', R', zs', n', top', idle', L', AV', LV', H', sp⟩ := hh
        have hr := NEXT.out _ _ _ _ _ _ _ _ _ _ _ _ _ _ sp
        have hle : R'.at_ ≤ N := by have := sp.inv.rc.ats; have := sp.inv.rc.sN; omega
        obtain ⟨g1, g2, g3⟩ := sp.got.pre hle
        rw [HAL.out] at g2 g3
        have hee : L'.en = en0 := by rw [sp.got.e, sp.rb]; exact hen0
        have hau : R'.at_ = u := by rw [sp.rb]; exact hu
        rw [hau, hGe] at g2
        rw [hau] at hle g1
        subst hPP
        refine ⟨he, hle, by rw [g2]; exact g1, fun h => g2.trans (g3 (hee.trans h)), ?_, by rw [g2]; exact at_whole sp.ls.lk 4 rfl, by rw [← hee]; exact at_whole sp.ls.lk 5 rfl, Lib.hid ⟨_, _, _, _, _, _, _, _, _, _, _, _, _, hr⟩⟩
        have := hr.len; have := sp.inv.SN; omega)
      have HC1 := Lib.hid HC.out.1
      have PD : Hid (∀ w', PP w' → u ≤ N ∧ G.size = u ∧ (en0 = true → G = Al) ∧ a2 ≤ N ∧ w'.cell? ⟨A.lb, 4, none⟩ = some (.string G) ∧ w'.cell? ⟨A.lb, 5, none⟩ = some (.bool en0) ∧ Hid (∃ F X K hs R zs n top idle L AV LV H, Rst w w' N (z + 1) (k + 1) a2 A F X K hs R zs n top idle L AV LV H)) := Lib.hid (by subst hPP; exact fun _ h => h)
      clear NEXT hen0 HC RS hu hPP
      cases en0 with
      | false =>
        go_wp2
        refine rea.any_region 43 (rea.slotN 87 43) (fun jj => (#[.pointer (some ⟨A.lb, 0, none⟩), .int .i64 sz, .int .i64 f, .bool true, .bool false, .bool false, .pointer (some ⟨A.lb, 0, none⟩), .pointer (some ⟨A.lb, 0, none⟩), .pointer (some ⟨A.lb, 4, none⟩), .string G, .int .i64 u, .string Al, .int .i64 N, .bool false, .bool false, .bool false, .pointer (some ⟨A.lb, 0, none⟩), .pointer (some ⟨A.lb, 0, none⟩), .pointer (some ⟨A.lb, 4, none⟩), .string G, .string Al, .pointer (some ⟨A.lb, 0, none⟩), .pointer (some ⟨A.lb, 0, none⟩), .pointer (some ⟨A.lb, 4, none⟩), .string G, .int .i64 u, .string G, .bool false, .bool false, .bool false, .pointer (some ⟨A.lb, 0, none⟩), .pointer (some ⟨A.lb, 0, none⟩), .pointer (some ⟨A.lb, 5, none⟩), .bool false, .bool false, undef, undef, undef, undef, undef, undef, .bool false, .bool false] : Array Value)[jj]?.getD undef) (fun L2 w' => WRs wc PP L2 w') (tm := #[.int .i64 many, .int .i64 limit, .slice a0 sl.length cap0, .slice a1 fl.length cap1, undef, undef, undef, undef, u8, .bool true, .string Al, .pointer (some ⟨A.lb, 0, none⟩), .bool true, .int .i64 a2, .int .i64 k, .int .i64 sz, .int .i64 f, .bool true, .int .i64 many, .int .i64 N, .string Al, .tuple #[.pointer (some ⟨A.lb, 0, none⟩), .bool true], .int .i64 limit, .tuple #[.pointer (some ⟨A.lb, 0, none⟩), .bool true], .pointer (some ⟨A.lb, 0, none⟩), .bool true, .bool true, .bool false, u28, u29, u30, u31, u32, u33, u34, u35, u36, u37, u38, u39, u40, u41, u42, u43, u44, u45, u46, u47, u48, u49, u50, u51, u52, u53, u54, u55, u56, u57, u58, u59, u60, u61, u62, u63, u64, u65, u66, u67, u68, u69, u70, u71, u72, u73, u74, u75, u76, u77, u78, u79, u80, u81, u82, u83, u84, u85, u86, .pointer (some ⟨A.lb, 0, none⟩), .int .i64 sz, .int .i64 f, .bool true, .bool false, .bool false, .pointer (some ⟨A.lb, 0, none⟩), .pointer (some ⟨A.lb, 0, none⟩), .pointer (some ⟨A.lb, 4, none⟩), .string G, .int .i64 u, .string Al, .int .i64 N, .bool false, .bool false, .bool false, .pointer (some ⟨A.lb, 0, none⟩), .pointer (some ⟨A.lb, 0, none⟩), .pointer (some ⟨A.lb, 4, none⟩), .string G, .string Al, .pointer (some ⟨A.lb, 0, none⟩), .pointer (some ⟨A.lb, 0, none⟩), .pointer (some ⟨A.lb, 4, none⟩), .string G, .int .i64 u, .string G, .bool false, .bool false, .bool false, .pointer (some ⟨A.lb, 0, none⟩), .pointer (some ⟨A.lb, 0, none⟩), .pointer (some ⟨A.lb, 5, none⟩), .bool false, .bool false, undef, undef, undef, undef, undef, undef, .bool false, .bool false, undef, undef, undef, undef, undef, undef, undef, undef, undef, undef, undef, undef, undef, undef, undef, undef, undef, undef, undef, undef, undef, undef]) rfl (by kernel_rfl) rfl (fun i d _ h => by have := rea.slotN_is h; simp; omega) (fun i j d _ _ h1 h2 => by have := rea.slotN_is h1; have := rea.slotN_is h2; omega) ⟨(fun h => nomatch h), fun _ => rfl, (fun _ _ h => nomatch h)⟩ ?_ (by kernel_rfl) ?_
        · rintro j o hj ho L2 ax w1 hLj hdl hW ⟨hold, hdep⟩
          have o10 := hold 10 (fun i hi h => by have := rea.slotN_is h; omega)
          have o11 := hold 11 (fun i hi h => by have := rea.slotN_is h; omega)
          have o15 := hold 15 (fun i hi h => by have := rea.slotN_is h; omega)
          have o16 := hold 16 (fun i hi h => by have := rea.slotN_is h; omega)
          simp at o10 o11 o15 o16
          have hjj : j = 3 ∨ j = 0 ∨ j = 1 ∨ j = 2 ∨ j = 4 ∨ j = 5 ∨ j = 6 ∨ j = 7 ∨ j = 8 ∨ j = 9 ∨ j = 10 ∨ j = 11 ∨ j = 12 ∨ j = 13 ∨ j = 14 ∨ j = 15 ∨ j = 16 ∨ j = 17 ∨ j = 18 ∨ j = 19 ∨ j = 20 ∨ j = 21 ∨ j = 22 ∨ j = 23 ∨ j = 24 ∨ j = 25 ∨ j = 26 ∨ j = 27 ∨ j = 28 ∨ j = 29 ∨ j = 30 ∨ j = 31 ∨ j = 32 ∨ j = 33 ∨ j = 34 ∨ j = 35 ∨ j = 36 ∨ j = 37 ∨ j = 38 ∨ j = 39 ∨ j = 40 ∨ j = 41 ∨ j = 42 := by omega
          rcases hjj with rfl | rfl | rfl | rfl | rfl | rfl | rfl | rfl | rfl | rfl | rfl | rfl | rfl | rfl | rfl | rfl | rfl | rfl | rfl | rfl | rfl | rfl | rfl | rfl | rfl | rfl | rfl | rfl | rfl | rfl | rfl | rfl | rfl | rfl | rfl | rfl | rfl | rfl | rfl | rfl | rfl | rfl | rfl
          · cases ho
            simp [Region.binds, rea.slotN] at hdep
            refine ⟨rfl, .inl ⟨rfl, fun K hK => ?_⟩⟩
            unfold Oper.wp
            simp [execOp, Oper.upon, resolve, invoke, go_sem, Act.eval, hdep]
            have hww := hW.b hLj
            subst hww
            refine (STP.out _ (by exact HC1.out.same (Below.refl _ wc).drew)).mono ?_
            rintro e w5 ⟨rfl, hP⟩
            refine hK _ ⟨fun _ => hP, fun h => ?_, fun _ _ _ => by simp⟩
            simp at h
          iterate 3 (cases ho; refine ⟨rfl, .inl ⟨rfl, fun K hK => ?_⟩⟩; unfold Oper.wp; simp [execOp, Oper.upon, go_sem, Act.eval, o11, o15, o16]; exact hK _ (hW.step (by decide) (fun h => absurd h (by decide))))
          all_goals (cases ho; simp [Region.binds, rea.slotN] at hdep hdl; have l3 : L2 3 = true := (by first | exact hdl | exact hdl.1 | exact hW.c _ (by decide) hdl | exact hW.c _ (by decide) hdl.1))
          all_goals (obtain ⟨p1, p2, p3, p4, c4, c5, _⟩ := PD.out _ (hW.a l3); have hN' : ¬ (N < u) := (by omega); have hNi : ¬ ((N : Int) < (u : Int)) := (by omega); refine ⟨rfl, ?_⟩)
          all_goals first | exact .inr ⟨(by simp [Region.wanted, yielded, hdep]; done), rfl, hW.step (by decide) (fun _ => l3)⟩ | (refine .inl ⟨(by first | rfl | (simp [Region.wanted, yielded, hdep]; done)), fun K hK => ?_⟩; unfold Oper.wp; simp [execOp, Oper.upon, go_sem, Act.eval, hdep, p2, p1, hAs, hGe, c4, c5, o10, o11, hNi]; exact hK _ (hW.step (by decide) (fun _ => l3))) | (refine .inl ⟨(by first | rfl | (simp [Region.wanted, yielded, hdep]; done)), fun K hK => ?_⟩; unfold Oper.wp; simp [execOp, Oper.upon, go_sem, Act.eval, p2, p1, hAs, hGe, c4, c5, o10, o11, hN', hNi]; exact hK _ (hW.step (by decide) (fun _ => l3)))
        · rintro L2 w5 hall hW
          obtain ⟨p1, p2, p3, p4, c4, c5, RR⟩ := PD.out _ (hW.a (hall 3 (by decide)))
          clear hW hall STP HC1 PD
          dsimp only
          go_wp2
          go_roundw
          case rel => exact ⟨k + 1, a2, by go_num, rfl, by omega, p4, RR⟩
          case measure => simp [intOf]; omega
      | true =>
        go_wp2
        refine rea.any_region 43 (rea.slotN 87 43) (fun jj => (#[.pointer (some ⟨A.lb, 0, none⟩), .int .i64 sz, .int .i64 f, .bool true, .bool false, .bool false, .pointer (some ⟨A.lb, 0, none⟩), .pointer (some ⟨A.lb, 0, none⟩), .pointer (some ⟨A.lb, 4, none⟩), .string G, .int .i64 u, .string Al, .int .i64 N, .bool false, .bool false, .bool false, .pointer (some ⟨A.lb, 0, none⟩), .pointer (some ⟨A.lb, 0, none⟩), .pointer (some ⟨A.lb, 4, none⟩), .string G, .string Al, .pointer (some ⟨A.lb, 0, none⟩), .pointer (some ⟨A.lb, 0, none⟩), .pointer (some ⟨A.lb, 4, none⟩), .string G, .int .i64 u, .string G, .bool false, .bool false, .bool false, .pointer (some ⟨A.lb, 0, none⟩), .pointer (some ⟨A.lb, 0, none⟩), .pointer (some ⟨A.lb, 5, none⟩), .bool true, .bool true, .pointer (some ⟨A.lb, 0, none⟩), .pointer (some ⟨A.lb, 0, none⟩), .pointer (some ⟨A.lb, 4, none⟩), .string G, .string Al, .bool false, .bool false, .bool false] : Array Value)[jj]?.getD undef) (fun L2 w' => WRs wc PP L2 w') (tm := #[.int .i64 many, .int .i64 limit, .slice a0 sl.length cap0, .slice a1 fl.length cap1, undef, undef, undef, undef, u8, .bool true, .string Al, .pointer (some ⟨A.lb, 0, none⟩), .bool true, .int .i64 a2, .int .i64 k, .int .i64 sz, .int .i64 f, .bool true, .int .i64 many, .int .i64 N, .string Al, .tuple #[.pointer (some ⟨A.lb, 0, none⟩), .bool true], .int .i64 limit, .tuple #[.pointer (some ⟨A.lb, 0, none⟩), .bool true], .pointer (some ⟨A.lb, 0, none⟩), .bool true, .bool true, .bool false, u28, u29, u30, u31, u32, u33, u34, u35, u36, u37, u38, u39, u40, u41, u42, u43, u44, u45, u46, u47, u48, u49, u50, u51, u52, u53, u54, u55, u56, u57, u58, u59, u60, u61, u62, u63, u64, u65, u66, u67, u68, u69, u70, u71, u72, u73, u74, u75, u76, u77, u78, u79, u80, u81, u82, u83, u84, u85, u86, .pointer (some ⟨A.lb, 0, none⟩), .int .i64 sz, .int .i64 f, .bool true, .bool false, .bool false, .pointer (some ⟨A.lb, 0, none⟩), .pointer (some ⟨A.lb, 0, none⟩), .pointer (some ⟨A.lb, 4, none⟩), .string G, .int .i64 u, .string Al, .int .i64 N, .bool false, .bool false, .bool false, .pointer (some ⟨A.lb, 0, none⟩), .pointer (some ⟨A.lb, 0, none⟩), .pointer (some ⟨A.lb, 4, none⟩), .string G, .string Al, .pointer (some ⟨A.lb, 0, none⟩), .pointer (some ⟨A.lb, 0, none⟩), .pointer (some ⟨A.lb, 4, none⟩), .string G, .int .i64 u, .string G, .bool false, .bool false, .bool false, .pointer (some ⟨A.lb, 0, none⟩), .pointer (some ⟨A.lb, 0, none⟩), .pointer (some ⟨A.lb, 5, none⟩), .bool true, .bool true, .pointer (some ⟨A.lb, 0, none⟩), .pointer (some ⟨A.lb, 0, none⟩), .pointer (some ⟨A.lb, 4, none⟩), .string G, .string Al, .bool false, .bool false, .bool false, undef, undef, undef, undef, undef, undef, undef, undef, undef, undef, undef, undef, undef, undef, undef, undef, undef, undef, undef, undef, undef, undef]) rfl (by kernel_rfl) rfl (fun i d _ h => by have := rea.slotN_is h; simp; omega) (fun i j d _ _ h1 h2 => by have := rea.slotN_is h1; have := rea.slotN_is h2; omega) ⟨(fun h => nomatch h), fun _ => rfl, (fun _ _ h => nomatch h)⟩ ?_ (by kernel_rfl) ?_
        · rintro j o hj ho L2 ax w1 hLj hdl hW ⟨hold, hdep⟩
          have o10 := hold 10 (fun i hi h => by have := rea.slotN_is h; omega)
          have o11 := hold 11 (fun i hi h => by have := rea.slotN_is h; omega)
          have o15 := hold 15 (fun i hi h => by have := rea.slotN_is h; omega)
          have o16 := hold 16 (fun i hi h => by have := rea.slotN_is h; omega)
          simp at o10 o11 o15 o16
          have hjj : j = 3 ∨ j = 0 ∨ j = 1 ∨ j = 2 ∨ j = 4 ∨ j = 5 ∨ j = 6 ∨ j = 7 ∨ j = 8 ∨ j = 9 ∨ j = 10 ∨ j = 11 ∨ j = 12 ∨ j = 13 ∨ j = 14 ∨ j = 15 ∨ j = 16 ∨ j = 17 ∨ j = 18 ∨ j = 19 ∨ j = 20 ∨ j = 21 ∨ j = 22 ∨ j = 23 ∨ j = 24 ∨ j = 25 ∨ j = 26 ∨ j = 27 ∨ j = 28 ∨ j = 29 ∨ j = 30 ∨ j = 31 ∨ j = 32 ∨ j = 33 ∨ j = 34 ∨ j = 35 ∨ j = 36 ∨ j = 37 ∨ j = 38 ∨ j = 39 ∨ j = 40 ∨ j = 41 ∨ j = 42 := by omega
          rcases hjj with rfl | rfl | rfl | rfl | rfl | rfl | rfl | rfl | rfl | rfl | rfl | rfl | rfl | rfl | rfl | rfl | rfl | rfl | rfl | rfl | rfl | rfl | rfl | rfl | rfl | rfl | rfl | rfl | rfl | rfl | rfl | rfl | rfl | rfl | rfl | rfl | rfl | rfl | rfl | rfl | rfl | rfl | rfl
          · cases ho
            simp [Region.binds, rea.slotN] at hdep
            refine ⟨rfl, .inl ⟨rfl, fun K hK => ?_⟩⟩
            unfold Oper.wp
            simp [execOp, Oper.upon, resolve, invoke, go_sem, Act.eval, hdep]
            have hww := hW.b hLj
            subst hww
            refine (STP.out _ (by exact HC1.out.same (Below.refl _ wc).drew)).mono ?_
            rintro e w5 ⟨rfl, hP⟩
            refine hK _ ⟨fun _ => hP, fun h => ?_, fun _ _ _ => by simp⟩
            simp at h
          iterate 3 (cases ho; refine ⟨rfl, .inl ⟨rfl, fun K hK => ?_⟩⟩; unfold Oper.wp; simp [execOp, Oper.upon, go_sem, Act.eval, o11, o15, o16]; exact hK _ (hW.step (by decide) (fun h => absurd h (by decide))))
          all_goals (cases ho; simp [Region.binds, rea.slotN] at hdep hdl; have l3 : L2 3 = true := (by first | exact hdl | exact hdl.1 | exact hW.c _ (by decide) hdl | exact hW.c _ (by decide) hdl.1))
          all_goals (obtain ⟨p1, p2, p3, p4, c4, c5, _⟩ := PD.out _ (hW.a l3); have hN' : ¬ (N < u) := (by omega); have hNi : ¬ ((N : Int) < (u : Int)) := (by omega); refine ⟨rfl, ?_⟩)
          all_goals (have hGB : (G.toList == Al.toList) = true := (by rw [p3 (by trivial)]; exact beq_self_eq_true _))
          all_goals first | exact .inr ⟨(by simp [Region.wanted, yielded, hdep]; done), rfl, hW.step (by decide) (fun _ => l3)⟩ | (refine .inl ⟨(by first | rfl | (simp [Region.wanted, yielded, hdep]; done)), fun K hK => ?_⟩; unfold Oper.wp; simp [execOp, Oper.upon, go_sem, Act.eval, hdep, p2, p1, hAs, hGe, c4, c5, o10, o11, hGB, hNi]; exact hK _ (hW.step (by decide) (fun _ => l3))) | (refine .inl ⟨(by first | rfl | (simp [Region.wanted, yielded, hdep]; done)), fun K hK => ?_⟩; unfold Oper.wp; simp [execOp, Oper.upon, go_sem, Act.eval, p2, p1, hAs, hGe, c4, c5, o10, o11, hGB, hN', hNi]; exact hK _ (hW.step (by decide) (fun _ => l3)))
        · rintro L2 w5 hall hW
          obtain ⟨p1, p2, p3, p4, c4, c5, RR⟩ := PD.out _ (hW.a (hall 3 (by decide)))
          clear hW hall STP HC1 PD
          dsimp only
          go_wp2
          go_roundw
          case rel => exact ⟨k + 1, a2, by go_num, rfl, by omega, p4, RR⟩
          case measure => simp [intOf]; omega
end Go.Proofs.YtpfkeohaaeiaaaaGreatDoor.sendBufReliable

/- SendBufWithinLimits: what the laid variables give the walk, and a heap that meets the condition. -/
namespace Go.Proofs.YtpfkeohaaeiaaaaGreatDoor
open Go.ChangeShapes Go.WideShapes Go.ChangeAt Go.RowKit Go.Stop
abbrev laidL : List (String × DataW Unit) := [("peregrine/reassembly.errArgument", Rows.laid_peregrine_reassembly_errArgument), ("peregrine/reassembly.errConflict", Rows.laid_peregrine_reassembly_errConflict), ("peregrine/reassembly.errFinalSize", Rows.laid_peregrine_reassembly_errFinalSize), ("peregrine/reassembly.errRoom", Rows.laid_peregrine_reassembly_errRoom)]
def Laid (ad : Addr × Addr × Addr × Addr) (W : World) : Prop := rea.Errs W ad.1 ad.2.1 ad.2.2.1 ad.2.2.2
theorem gl0 : Tryz.prog.globalNamed "peregrine/reassembly.errConflict" = some 0 := by kernel_rfl
theorem gl1 : Tryz.prog.globalNamed "peregrine/reassembly.errFinalSize" = some 1 := by kernel_rfl
theorem gl2 : Tryz.prog.globalNamed "peregrine/reassembly.errRoom" = some 2 := by kernel_rfl
theorem gl3 : Tryz.prog.globalNamed "peregrine/reassembly.errArgument" = some 3 := by kernel_rfl
theorem glt0 : (Tryz.prog.globals[0]?).map (·.type) = some 145 := by kernel_rfl
theorem glt1 : (Tryz.prog.globals[1]?).map (·.type) = some 145 := by kernel_rfl
theorem glt2 : (Tryz.prog.globals[2]?).map (·.type) = some 145 := by kernel_rfl
theorem glt3 : (Tryz.prog.globals[3]?).map (·.type) = some 145 := by kernel_rfl
theorem star : "*" ++ "errors.errorString" = "*errors.errorString" := by decide
theorem row116 (u : TypeId) (h : Tryz.prog.typeName? 3 u = some "*errors.errorString") : u = 242 :=
  typeName_ptr_named (nm := "errors.errorString") (by rw [star]; kernel_rfl) (by kernel_rfl) (by decide) u (by rw [star]; exact h)
theorem door_met (os : Os) (args : Array Value) : laidMetH Tryz.prog laidL ((World.doorLaid Tryz.prog 400 os).forCall (fun _ _ => 0) ⟨#[], args, []⟩).memory :=
  laidMetH_of_parts (laidMet_of_run' 8 (by kernel_rfl) (by kernel_rfl)) (by kernel_rfl)
theorem laid_cell {W : World} (h : laidMetH Tryz.prog laidL W) : ∃ ad, Laid ad W := by
  rw [MakeChecks.laidMetH_plain _ _ _ (by kernel_rfl)] at h
  have h1 := h.tail
  have h2 := h1.tail
  have h3 := h2.tail
  obtain ⟨a3, s3, v3, _⟩ := laid_sentinel (P := Tryz.prog) h gl3 glt3 Tryz.underlying145 row116 Tryz.underlying242 Tryz.underlying264 rfl rfl Tryz.underlying9 (by kernel_rfl) (by kernel_rfl)
  obtain ⟨a0, s0, v0, _⟩ := laid_sentinel (P := Tryz.prog) h1 gl0 glt0 Tryz.underlying145 row116 Tryz.underlying242 Tryz.underlying264 rfl rfl Tryz.underlying9 (by kernel_rfl) (by kernel_rfl)
  obtain ⟨a1, s1, v1, _⟩ := laid_sentinel (P := Tryz.prog) h2 gl1 glt1 Tryz.underlying145 row116 Tryz.underlying242 Tryz.underlying264 rfl rfl Tryz.underlying9 (by kernel_rfl) (by kernel_rfl)
  obtain ⟨a2, s2, v2, _⟩ := laid_sentinel (P := Tryz.prog) h3 gl2 glt2 Tryz.underlying145 row116 Tryz.underlying242 Tryz.underlying264 rfl rfl Tryz.underlying9 (by kernel_rfl) (by kernel_rfl)
  exact ⟨(a0, a1, a2, a3), ⟨by simpa using World.var?_cell gl0 v0 0, by simpa using World.var?_cell gl1 v1 0, by simpa using World.var?_cell gl2 v2 0, by simpa using World.var?_cell gl3 v3 0⟩⟩
end Go.Proofs.YtpfkeohaaeiaaaaGreatDoor
/- SendBufReliable: the arguments opened. -/
namespace Go.Proofs.YtpfkeohaaeiaaaaGreatDoor.sendBufReliable
open Go.RowKit Go.WideShapes Go.ChangeShapes
theorem cells3 : Tryz.prog.cellsOf 3 = 1 := by kernel_rfl
set_option maxRecDepth 100000 in
theorem main {H : Type} {enc : TypeId × Value → H} (W : World) (ad : Addr × Addr × Addr × Addr) (hl : Laid ad W) (d0 d1 d2 d3 : DataW H) (_hw : (DataW.weightsEach Tryz.prog [3, 3, 22, 22] [d0, d1, d2, d3]).all (· ≤ reachBytes) = true)
    (b0 : Nat) (v0 : Value) (p0 : List MemPlace) (k0 : Value.okWide Tryz.prog W .any b0 3 v0) (h0 : DataW.Trod enc Tryz.prog W 0 (fun _ => true) true 3 v0 d0 p0)
    (b1 : Nat) (v1 : Value) (p1 : List MemPlace) (k1 : Value.okWide Tryz.prog W .any b1 3 v1) (h1 : DataW.Trod enc Tryz.prog W 0 (fun _ => true) true 3 v1 d1 p1)
    (b2 : Nat) (v2 : Value) (p2 : List MemPlace) (k2 : Value.okWide Tryz.prog W .any b2 22 v2) (h2 : DataW.Trod enc Tryz.prog W 0 (fun _ => true) true 22 v2 d2 p2)
    (b3 : Nat) (v3 : Value) (p3 : List MemPlace) (k3 : Value.okWide Tryz.prog W .any b3 22 v3) (h3 : DataW.Trod enc Tryz.prog W 0 (fun _ => true) true 22 v3 d3 p3) :
    Calls Tryz.prog 3 #[v0, v1, v2, v3] W fun e w' => e = .returned (.bool true) ∧ Below W.heap.size W w' := by
  obtain ⟨a0, rfl, _, _, w0⟩ := open_int Tryz.underlying3 k0 h0
  obtain ⟨a1, rfl, _, _, w1⟩ := open_int Tryz.underlying3 k1 h1
  obtain ⟨zs, hz, hmz, hrz⟩ := ints_at Tryz.underlying22 Tryz.underlying3 cells3 k2 h2
  obtain ⟨a2, cap2, rfl, _⟩ := hz.form
  obtain ⟨ys, hy, hmy, hry⟩ := ints_at Tryz.underlying22 Tryz.underlying3 cells3 k3 h3
  obtain ⟨a3, cap3, rfl, _⟩ := hy.form
  exact walk a0 a1 zs ys a2 cap2 a3 cap3 W (bounds_i64 w0) (bounds_i64 w1) hz hmz hrz hy hmy hry _ _ _ _ hl
end Go.Proofs.YtpfkeohaaeiaaaaGreatDoor.sendBufReliable
