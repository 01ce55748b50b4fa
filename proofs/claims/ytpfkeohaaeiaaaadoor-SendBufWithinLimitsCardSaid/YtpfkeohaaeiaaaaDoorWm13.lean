/- Texts WlMain WlEnd of this claim, one behind the other. -/
import Derived.Test.YtpfkeohaaeiaaaaDoorWm12
import Derived.Deep.DeepCutAuto
import Derived.Deep.CutBlock
import Derived.Test.YtpfkeohaaeiaaaaDoorWm2
/- SendBufWithinLimits: the walk. -/
namespace Go.Proofs.YtpfkeohaaeiaaaaDoor.sendBufWithinLimits
open Go.RowKit
theorem put_none (a : Act) (v : Value) : a.put none v = a := rfl
set_option maxRecDepth 100000 in
set_option maxHeartbeats 16000000 in
theorem walk (window many : Int) (cl : List Cp) (a0 : Option Addr) (cap0 : Nat) (w : World) (hl : -9223372036854775808 ≤ window ∧ window ≤ 9223372036854775807) (hm : -9223372036854775808 ≤ many ∧ many ≤ 9223372036854775807)
    (hz : CpsAt w (.slice a0 cl.length cap0) cl) (_hmz : cl.length ≤ maxLen) (hrz : ∀ c ∈ cl, CpWf c) (x0 x1 x2 x3 : Addr) (hE : rea.Errs w x0 x1 x2 x3) :
    Calls Tryd.prog 3 #[.int .i64 window, .int .i64 many, .slice a0 cl.length cap0] w fun e w' => e = .returned (.bool true) ∧ Below w.heap.size w w' := by
  unfold maxLen at _hmz
  have PW := Lib.hid (fun (wx : World) => pick_any window 60 wx hl.1 hl.2 (by decide) (by decide))
  have PM := Lib.hid (fun (wx : World) => pick_any many 300 wx hm.1 hm.2 (by decide) (by decide))
  have r1 := pickF_range window 60 (by decide)
  have r2 := pickF_range many 300 (by decide)
  generalize pickF window 60 = p at *
  generalize pickF many 300 = q at *
  obtain ⟨z, rfl⟩ : ∃ z : Nat, p = z := ⟨p.toNat, by omega⟩
  obtain ⟨N, rfl⟩ : ∃ N : Nat, q = N := ⟨q.toNat, by omega⟩
  have hN : N < 300 := by omega
  have hz60 : z < 60 := by omega
  have EE := Lib.hid hE
  have HZ := Lib.hid hz
  have HRZ := Lib.hid hrz
  clear hz hrz hm hl r1 r2 hE
  have hw0 : (1 + (z : Int)) = ((z + 1 : Nat) : Int) := by omega
  have hw1 : ((z : Int) + 1) = ((z + 1 : Nat) : Int) := by omega
  have C7 := Lib.hid (fun (wx : World) (hB : Below w.heap.size w wx) => (show Calls Tryd.prog 7 #[.int .i64 400] wx fun e w' => e = .returned (.tuple #[.pointer (some ⟨wx.heap.size, 0, none⟩), .int .i64 0]) ∧ Sf w w' wx.heap.size (fun k => k = wx.heap.size) (newX ((400 : Nat) : Int)) [] (.slice none 0 0) [] from sf_new _ (by decide) (by decide) hB))
  have C8 := Lib.hid (fun (wx : World) => (show Calls Tryd.prog 8 #[.int .i64 ((z : Int) + 1)] wx fun e w' => ∃ b g1 g2, e = .returned (.tuple #[.pointer (some ⟨b, 0, none⟩), .int .i64 0]) ∧ rea.RbAt w' b g1 g2 (rea.newRb (z + 1)) ∧ Below wx.heap.size wx w' ∧ wx.heap.size ≤ b ∧ wx.heap.size ≤ g1 ∧ wx.heap.size ≤ g2 from by rw [hw1]; exact rea.new_any _ (by omega) (by omega) wx))
  have C9 := Lib.hid (fun (wx : World) => (show Calls Tryd.prog 9 #[.int .i64 ((z : Int) + 1)] wx fun e w' => e = .returned (.tuple #[.pointer (some ⟨wx.heap.size, 0, none⟩), .int .i64 0]) ∧ Hid (w' = wx.alloc (.cells (flo.rcC ((z + 1 : Nat) : Int) ((z + 1 : Nat) : Int) ((0 : Nat) : Int) ((0 : Nat) : Int)) 72)) from by rw [hw1]; exact (flo.newR_any _ (by omega) wx).mono fun e w' h => ⟨h.1, Lib.hid h.2⟩))
  have C10 := Lib.hid (fun (wx : World) => (show Calls Tryd.prog 10 #[.int .i64 ((z : Int) + 1)] wx fun e w' => e = .returned (.tuple #[.pointer (some ⟨wx.heap.size, 0, none⟩), .int .i64 0]) ∧ Hid (w' = wx.alloc (.cells (flo.snC ((z + 1 : Nat) : Int) ((0 : Nat) : Int) 0) 74)) from by rw [hw1]; exact (flo.newS_any _ (by omega) wx).mono fun e w' h => ⟨h.1, Lib.hid h.2⟩))
  have ST := Lib.hid (fun (wx : World) => stream_any N wx (by omega))
  have hAs := strOfNums_size (streamRow N N)
  rw [streamRow_length] at hAs
  have HAB := Lib.hid (stream_bytes N)
  have hWN := start_writeN 400 N
  have hWE := start_eq 400 N
  obtain ⟨Al, hAl⟩ : ∃ Al, strOfNums (streamRow N N) = Al := ⟨_, rfl⟩
  rw [hAl] at ST hAs HAB hWN hWE
  clear hAl
  have WR : Hid (∀ (wx : World) (b bi g1 g2 br bs : Nat) (F : Nat → Prop) (R : rea.Rb) (rm wi hi rd sm us : Int), Wd w wx b bi g1 g2 br bs F (newX ((400 : Nat) : Int)) R rm wi hi rd sm us [] (.slice none 0 0) [] →
      Calls Tryd.prog 11 #[.pointer (some ⟨b, 0, none⟩), .string Al] wx fun e w' => e = .returned (.int .i64 N) ∧ ∃ F', Wd w w' b bi g1 g2 br bs F' (flX 400 N 0) R rm wi hi rd sm us [] (.slice none 0 0) []) := Lib.hid (fun wx b bi g1 g2 br bs F R rm wi hi rd sm us h => by
    have := sf_write h.sf Al (by unfold maxLen; omega) (by rw [hWN]; simp [newX]; omega)
    rw [hWN, hWE, show min N 400 = N by omega] at this
    exact this.mono fun e w' hh => ⟨hh.1, hh.2.choose, h.step hh.2.choose_spec⟩)
  have FN : Hid (∀ (wx : World) (b bi g1 g2 br bs : Nat) (F : Nat → Prop) (R : rea.Rb) (rm wi hi rd sm us : Int), Wd w wx b bi g1 g2 br bs F (flX 400 N 0) R rm wi hi rd sm us [] (.slice none 0 0) [] →
      Calls Tryd.prog 12 #[.pointer (some ⟨b, 0, none⟩)] wx fun e w' => e = .returned (.tuple #[]) ∧ ∃ F', Wd w w' b bi g1 g2 br bs F' (wlX N 0) R rm wi hi rd sm us [] (.slice none 0 0) []) := Lib.hid (fun wx b bi g1 g2 br bs F R rm wi hi rd sm us h => by
    have := sf_finish h.sf
    rw [wl_start (N := N) (by omega)] at this
    exact this.mono fun e w' hh => ⟨hh.1, hh.2.choose, h.step hh.2.choose_spec⟩)
  clear hWN hWE hw1
  have T1 : Hid (1 = 1) := Lib.hid rfl
  go_enter Tryd.func3, Tryd.ntmps3
  go_upto_region 8 with (first
    | (go_at_call 4; refine (sane_any _).mono ?_; rintro e w1 ⟨rfl, HB2⟩; have HB := Lib.hid HB2; clear HB2)
    | (go_at_call 5; have T0 := T1.out; clear T0 T1; refine (PW.out _).mono ?_; rintro e wm ⟨rfl, rfl⟩)
    | (go_at_call 5; refine (PM.out _).mono ?_; rintro e wm ⟨rfl, rfl⟩)
    | (go_at_call 6; refine (ST.out _).mono ?_; rintro e wk ⟨rfl, HK⟩; have HB2 := btrans2 HB.out HK; clear HB HK; have HB := Lib.hid HB2; clear HB2)
    | (go_at_call 7; refine (C7.out _ HB.out).mono ?_; rintro e wb ⟨rfl, H2⟩; have H := Lib.hid H2; clear H2)
    | (go_at_call 8; refine (C8.out _).mono ?_; rintro e wi ⟨bi, g1, g2, rfl, I1, I2, I3, I4, I5⟩; have H2 := H.out.same I2; have N1 := H.out.own _ rfl; have WM := Lib.hid (Wd.make wb.heap.size H2 (fun k hk => by have := H.out.own k hk; exact this.2) H.out.below.size I3 I4 I5 I1); clear H H2 I1 I2 I3 I4 I5 N1)
    | (go_at_call 9; refine (C9.out _).mono ?_; rintro e wr0 ⟨rfl, hr0⟩)
    | (go_at_call 10; refine (C10.out _).mono ?_; rintro e ws0 ⟨rfl, hs0⟩; have H2 := WM.out ((z + 1 : Nat) : Int) ((z + 1 : Nat) : Int) ((0 : Nat) : Int) ((0 : Nat) : Int) ((z + 1 : Nat) : Int) ((0 : Nat) : Int); rw [← hr0.out] at H2; rw [← hs0.out] at H2; clear WM hs0 hr0; have H := Lib.hid H2; clear H2))
  clear C7 C8 C9 C10 ST PW PM HB hw0
  obtain ⟨F0, H2⟩ : ∃ F, Hid (Wd w ws0 wk.heap.size bi g1 g2 wi.heap.size wr0.heap.size F (newX ((400 : Nat) : Int)) (rea.newRb (z + 1)) ((z + 1 : Nat) : Int) ((z + 1 : Nat) : Int) ((0 : Nat) : Int) ((0 : Nat) : Int) ((z + 1 : Nat) : Int) ((0 : Nat) : Int) [] (.slice none 0 0) []) := ⟨_, H⟩
  clear H
  have H := H2
  clear H2
  generalize wk.heap.size = b at H ⊢
  generalize wi.heap.size = br at H ⊢
  generalize wr0.heap.size = bs at H ⊢

  have hne : ((N : Int) != (Al.size : Int)) = false := by simp [hAs]
  go_wp2_with (first
    | (go_at_call 11; refine (WR.out _ _ _ _ _ _ _ _ _ _ _ _ _ _ _ H.out).mono ?_; rintro e wx ⟨rfl, F1, H2⟩; clear H; have H := Lib.hid H2; clear H2)
    | (go_at_call 12; refine (FN.out _ _ _ _ _ _ _ _ _ _ _ _ _ _ _ H.out).mono ?_; rintro e wy ⟨rfl, F2, H2⟩; clear H; have H := Lib.hid H2; clear H2))
  clear WR FN
  have HG0 : Hid (Al.extract 0 0 = ⟨#[]⟩) := Lib.hid (by apply bytesOf_inj; rw [bytesOf_extract]; rfl)
  obtain ⟨w0, hw0⟩ : ∃ w0, z + 1 = w0 := ⟨_, rfl⟩
  have hw1 : 1 ≤ w0 ∧ w0 ≤ 60 := by omega
  rw [hw0] at H
  have H0 := H
  clear H hne hw0
  go_loopw [18, 19, 20, 21] (fun v got en i wr => ∃ (k : Nat) (a : Nat), i = .int .i64 k ∧ k ≤ 400 ∧ a ≤ N ∧ got = .string (Al.extract 0 a) ∧ Hid ((en = .bool false ∧ ∃ (F : Nat → Prop) (s sm rm hi : Nat) (R : rea.Rb) (l : List Fr), Wq N w0 k s a sm rm R hi l ∧ Wd w wr b bi g1 g2 br bs F (wlX N s) R rm w0 hi a sm s [] v l) ∨ (en = .bool true ∧ a = N ∧ Below w.heap.size w wr))) (fun _ _ _ i _ => 1500 - (intOf i).toNat)
  case atStart => exact ⟨0, 0, rfl, by omega, by omega, by rw [HG0.out], Lib.hid (.inl ⟨rfl, F2, 0, w0, w0, 0, _, [], Wq.start N w0 hw1.1, H0.out⟩)⟩
  case round =>
    obtain ⟨k, a, rfl, hk4, haN, rfl, HD⟩ := hrel
    clear H0 HG0
    have hk15 : decide ((k : Int) < 1500) = true := decide_eq_true (by omega)
    rcases HD.out with ⟨rfl, F, s, sm, rm, hi, R, l, hq, hW⟩ | ⟨rfl, rfl, hB⟩
    · clear HD
      have Q := Lib.hid hq
      have H := Lib.hid hW
      obtain ⟨va, vcap, rfl, hvcap⟩ := hW.sf.form
      have hlk : l.length ≤ 400 := by have := hq.few; omega
      obtain ⟨G, hG⟩ : ∃ G, Al.extract 0 a = G := ⟨_, rfl⟩
      have HG := Lib.hid hG
      have hGs : G.size = a := by rw [← hG, ByteArray.size_extract]; omega
      rw [hG]
      clear hG hq hW
      have K1 := Lib.hid (one_cpK k)
      have HR := H
      go_upto_region 18 with (refine wpList_store_cp rfl _ _ rfl (cpK k) K1.out _ (by rfl) (by rfl) (by rfl) ?_; have H2 := H.out.alloc (.cells (cpK k).cells.toArray 45); clear H; have H := Lib.hid H2; clear H2)
      rw [put_none]
      go_cut [99] from 81 to 220 (fun s w' => (∃ d : Bool, s = .bool d ∧ (d = true → k < cl.length ∧ k < 60)) ∧ w' = wr.alloc (.cells (cpK k).cells.toArray 45))
      case first =>
        as_aux_lemma =>
          by_cases h1 : k < cl.length
          · have d1 : decide (k < cl.length) = true := decide_eq_true h1
            by_cases h2 : k < 60
            · have d2 : decide ((k : Int) < 60) = true := decide_eq_true (by omega)
              go_wp2
              go_meet
              exact ⟨⟨true, rfl, fun _ => ⟨h1, h2⟩⟩, rfl⟩
            · have d2 : decide ((k : Int) < 60) = false := decide_eq_false (by omega)
              go_wp2
              go_meet
              exact ⟨⟨false, rfl, fun h => by cases h⟩, rfl⟩
          · have d1 : decide (k < cl.length) = false := decide_eq_false h1
            go_wp2
            go_meet
            exact ⟨⟨false, rfl, fun h => by cases h⟩, rfl⟩
      case rest =>
      obtain ⟨⟨d, rfl, hd⟩, rfl⟩ := hcut
      go_upto_if 99 with (fail)
      go_cut [22] from 81 to 220 (fun x w' => x = .pointer (some ⟨wr.heap.size, 0, none⟩) ∧ ∃ c, Hid (CpI c ∧ Wd w w' b bi g1 g2 br bs F (wlX N s) R rm w0 hi a sm s [(wr.heap.size, cpO c)] (.slice va l.length vcap) l))
      case first =>
        as_aux_lemma =>
          cases d
          · clear hd
            go_wp2
            go_meet
            exact ⟨rfl, cpK k, Lib.hid ⟨cpK_i (by omega), H.out⟩⟩
          · obtain ⟨hlt1, hlt2⟩ := hd rfl
            clear hd H
            obtain ⟨c, hc⟩ : ∃ c, cl[k]? = some c := ⟨_, List.getElem?_eq_getElem hlt1⟩
            have hwf := HRZ.out c (List.mem_of_getElem? hc)
            obtain ⟨b4, off4, hz4, hx4⟩ : ∃ b4 off4, a0 = some ⟨b4, off4, none⟩ ∧ (wr.alloc (.cells (cpK k).cells.toArray 45)).rangeAt b4 (off4 + k * 18) c.cells ∧ cl.length ≤ cap0 ∧ cap0 ≤ maxLen := by
              rcases HZ.out with ⟨h0, _⟩ | ⟨b4, off4, c4, e, h0, hl4, hc4, hx4⟩
              · rw [h0] at hlt1; simp at hlt1
              · simp only [Value.slice.injEq] at e
                obtain ⟨e1, _, rfl⟩ := e
                exact ⟨b4, off4, e1, (fun j u hu => (((HR.out.alloc (.cells (cpK k).cells.toArray 45)).sf.below).cell (p := ⟨b4, off4 + k * 18 + j, none⟩) (World.block_lt_of_cell? _ _ (hx4 k c hc j u hu))).trans (hx4 k c hc j u hu)), hl4, hc4⟩
            obtain ⟨hx4, hl4, hc4⟩ := hx4
            unfold maxLen at hc4
            subst hz4
            have HX4 := Lib.hid hx4
            have ONE := Lib.hid (one_cp hwf)
            have WF := Lib.hid hwf
            clear hx4 hc hwf
            go_wp2_with (first
              | (refine wpList_load_cp rfl _ rfl c b4 (off4 + k * 18) (by rfl) (by exact HX4.out) ?_)
              | (refine wpList_store_cp rfl _ _ rfl c ONE.out _ (by rfl) (by rfl) (by rfl) ?_))
            go_meet
            exact ⟨rfl, c, Lib.hid ⟨WF.out.i, HR.out.alloc (cpO c)⟩⟩
      case rest =>
      obtain ⟨rfl, c, HC⟩ := hcut
      have CI := Lib.hid HC.out.1
      have H2 := HC.out.2
      clear H HC HR K1 hd
      have H := Lib.hid H2
      clear H2
      generalize wr.heap.size = cb at H ⊢
      obtain ⟨d0, d1, d2, d4⟩ := CpBox.of (H.out.mem (p := (cb, cpO c)) (by simp))
      have PN := Lib.hid (fun (wx : World) => pick_any c.n 20 wx CI.out.n.lo CI.out.n.hi (by decide) (by decide))
      have rn := pickF_range c.n 20 (by decide)
      generalize pickF c.n 20 = pn0 at *
      obtain ⟨pn, rfl⟩ : ∃ pn : Nat, pn0 = pn := ⟨pn0.toNat, by omega⟩
      obtain ⟨c0, hc0⟩ : ∃ c0, s + c0 = sm := ⟨sm - s, by have := Q.out.s1; omega⟩
      have hs1 := Q.out.s1
      have hs2 := Q.out.s2
      have hs3 := Q.out.s3
      have NX := Lib.hid (fun (wx : World) (h : Wd w wx b bi g1 g2 br bs F (wlX N s) R rm w0 hi a sm s [(cb, cpO c)] (.slice va l.length vcap) l) => wd_next Q.out h (pn := pn) hc0)
      have SN := Lib.hid (wl_sent (N := N) (s := s) Q.out.sw.sN)
      have TT : Hid (1 = 1) := Lib.hid rfl
      clear d0 d2 d4
      go_upto_if 124 with (first
        | (go_at_call 13; have T0 := TT.out; clear T0 TT; refine (wd_sent H.out SN.out).mono ?_; rintro e ws1 ⟨rfl, rfl⟩)
        | (go_at_call 5; refine (PN.out _).mono ?_; rintro e wm ⟨rfl, rfl⟩)
        | (go_at_call 15; refine (wd_avail H.out hs1 (by omega) hc0).mono ?_; rintro e wv ⟨rfl, H2⟩; clear H d1; have H := Lib.hid H2; clear H2)
        | (go_at_call 14; refine (NX.out _ H.out).mono ?_; rintro e wn ⟨f, is, t, V, rfl, HV, HN, F2, X2, HX2, H2⟩; clear H; have H := Lib.hid H2; clear H2; obtain ⟨n, hn⟩ : ∃ n, s + n = t := ⟨t - s, by have := HN.out.lo; omega⟩; have htm : t ≤ sm := HN.out.le; have e1 : IntKind.i64.wrap ((t : Int) - (s : Int)) = (n : Int) := by rw [IntWalk.i64_in _ (by omega)]; omega)
        | (refine wpList_store_new rfl _ _ rfl f HV.out.2 _ (by rfl) (by rfl) (by exact HV.out.1) ?_; have H2 := H.out.alloc (.cells f.cells 43); clear H; have H := Lib.hid H2; clear H2; have ON := Lib.hid HV.out.2; clear HV; generalize wn.alloc (.cells f.cells 43) = wq at H ⊢)
        | (go_at_call 13; refine (wd_sent H.out HX2.out.1).mono ?_; rintro e ws2 ⟨rfl, rfl⟩)
        | (go_at_call 16; refine (wd_use H.out hs1 (by omega) hn htm).mono ?_; rintro e wu ⟨rfl, H2⟩; clear H; have H := Lib.hid H2; clear H2))
      have HL := Lib.hid (show l.length ≤ 2000 by omega)
      go_cut [18] from 81 to 220 (fun x w' => ∃ v2, x = v2 ∧ Hid (Wd w w' b bi g1 g2 br bs F2 X2 R rm w0 hi a sm t [(cb, cpO c)] v2 (if is = true then l ++ [f] else l)))
      case first =>
        as_aux_lemma =>
          cases is
          · go_wp2
            go_meet
            exact ⟨_, rfl, Lib.hid H.out.tail⟩
          · go_wp2_with (first
              | (refine wpList_load_own rfl _ rfl f wn.heap.size rfl (H.out.mem (p := (wn.heap.size, frO f)) (List.mem_cons_self ..)) ?_)
              | (refine wpList_build_fr rfl _ rfl f rfl ?_; have H2 := H.out.alloc (.cells f.cells 43); clear H; have H := Lib.hid H2; clear H2; have HG2 := Lib.hid (heap_alloc_new wu (.cells f.cells 43)); generalize wu.alloc (.cells f.cells 43) = wb at H HG2 ⊢)
              | (refine wpList_append_fr rfl _ _ rfl H.out.sf rfl f ON.out wu.heap.size rfl HG2.out HL.out ?_; intro v2 w2 H2; have H3 := Lib.hid (H.out.step H2); clear H H2; have H := H3; clear H3))
            go_meet
            exact ⟨_, rfl, Lib.hid H.out.tail.tail⟩
      case rest =>
      obtain ⟨v2, rfl, H2⟩ := hcut
      clear H
      have H := H2
      clear H2 HL ON
      obtain ⟨l2, hl2⟩ : ∃ l2, (if is = true then l ++ [f] else l) = l2 := ⟨_, rfl⟩
      rw [hl2] at H
      have SW := Lib.hid (show rea.Sw N t l2 from by have := HN.out.sw; rw [hl2] at this; exact this)
      have hl2k : l2.length ≤ k + 1 := by have := Q.out.few; rw [← hl2]; cases is <;> simp <;> omega
      have HZ0 := Lib.hid (show l2.length = 0 → N ≠ 0 from fun e h0 => by have := HN.out.z h0; subst this; rw [← hl2] at e; simp at e)
      have HTS := Lib.hid HN.out.lo
      have HTG := Lib.hid HN.out.go
      have htN := HN.out.tN
      have HX := Lib.hid HX2.out.2
      clear hl2 HN HX2 e1 PN NX SN
      obtain ⟨a2, cap2, rfl, hcap2⟩ := H.out.sf.form
      go_upto_region 26 with (fail)
      go_cut [131] from 81 to 220 (fun x w' => x = .bool (decide (0 < l2.length)) ∧ w' = wc)
      case first =>
        go_wp2
        go_meet
        exact ⟨rfl, rfl⟩
      case rest =>
      obtain ⟨rfl, rfl⟩ := hcut
      go_upto_if 131 with (fail)
      go_cut [26] from 81 to 220 (fun x w' => ∃ (R2 : rea.Rb) (hi2 : Nat), Hid (Wd w w' b bi g1 g2 br bs F2 X2 R2 rm w0 hi2 a sm t [(cb, cpO c)] (.slice a2 l2.length cap2) l2) ∧ Hid (Pu N w0 t a k hi2 R2))
      case first =>
        rcases Nat.eq_zero_or_pos l2.length with h0 | h0
        · have d0 : decide (0 < l2.length) = false := decide_eq_false (by omega)
          go_wp2
          go_meet
          exact ⟨R, hi, H, Lib.hid (Pu.none Q.out HTS.out SW.out h0 (HZ0.out h0))⟩
        · have d0 : decide (0 < l2.length) = true := decide_eq_true h0
          obtain ⟨g, cap, hgc, hcap3, hcap4⟩ := H.out.sf.rowf h0
          simp only [Value.slice.injEq] at hgc
          obtain ⟨rfl, _, rfl⟩ := hgc
          obtain ⟨_, _, _, d4⟩ := CpBox.of (H.out.mem (p := (cb, cpO c)) (by simp))
          have PC := Lib.hid (fun (wx : World) => pick_any c.which l2.length wx CI.out.which.lo CI.out.which.hi (by omega) (by omega))
          have rq := pickF_range c.which l2.length (by omega)
          generalize pickF c.which l2.length = q0 at *
          obtain ⟨qq, rfl⟩ : ∃ qq : Nat, q0 = qq := ⟨q0.toNat, by omega⟩
          have hql : qq < l2.length := by omega
          obtain ⟨y0, hy0⟩ : ∃ y0, l2[qq]? = some y0 := ⟨_, List.getElem?_eq_getElem hql⟩
          have hym := List.mem_of_getElem? hy0
          have ONE0 := Lib.hid (Sw_one SW.out hym)
          have RA := Lib.hid (H.out.sf.at hy0)
          have HYM := Lib.hid hym
          have q1 : (0 : Int) ≤ (qq : Int) := by omega
          have q2 : (qq : Int) < (l2.length : Int) := by omega
          have PUT := Lib.hid (fun (y : Fr) (hy : y ∈ l2) (hwant : 60 ≤ k → wantB y a = true ∨ ∀ f' ∈ l2, wantB f' a = false) => Pu.put Q.out hw1.1 (by omega) HTS.out htm SW.out hy hwant)
          have RV := Lib.hid (fun (wx : World) (u : Nat) (str : ByteArray) (os : List (Nat × Obj)) (hle : u + str.size ≤ t) (h : Wd w wx b bi g1 g2 br bs F2 X2 R rm w0 hi a sm t os (.slice (some ⟨g, 0, none⟩) l2.length cap2) l2) => (show Calls Tryd.prog 18 #[.pointer (some ⟨br, 0, none⟩), .int .i64 ((u : Int) + (str.size : Int))] wx fun e w' => e = .returned (.int .i64 0) ∧ Wd w w' b bi g1 g2 br bs F2 X2 R rm w0 ((max hi (u + str.size) : Nat) : Int) a sm t os (.slice (some ⟨g, 0, none⟩) l2.length cap2) l2 from by
            rw [← Int.natCast_add]
            exact wd_recv h (by omega) rfl))
          clear hym hy0 rq
          by_cases hk6 : 60 ≤ k
          · as_aux_lemma =>
              have d5 : decide ((60 : Int) ≤ (k : Int)) = true := decide_eq_true (by omega)
              have WT := Lib.hid (fun (wx : World) (os : List (Nat × Obj)) (h : Wd w wx b bi g1 g2 br bs F2 X2 R rm w0 hi a sm t os (.slice (some ⟨g, 0, none⟩) l2.length cap2) l2) => wanted_any l2 g cap2 a wx (fun j f hf => h.sf.at hf) h0 (by omega) hcap3 hcap4 (fun f hf => Sw_bd SW.out (by omega) hf) (fun f hf => Sw_one SW.out hf))
              have T5 : Hid (1 = 1) := Lib.hid rfl
              go_wp2_with (first
                | (go_at_call 5; refine (PC.out _).mono ?_; rintro e wm ⟨rfl, rfl⟩)
                | (refine wpList_load_fr rfl _ rfl y0 g (qq * 13) (by rfl) (by exact RA.out) ?_)
                | (have T0 := T5.out; clear T0 T5; refine wpList_store_new rfl _ _ rfl y0 ONE0.out _ (by rfl) (by rfl) (by rfl) ?_; have H2 := H.out.alloc (.cells y0.cells 43); clear H RA; have H := Lib.hid H2; clear H2; generalize wc.alloc (.cells y0.cells 43) = wz at H ⊢; generalize wc.heap.size = yb at H ⊢)
                | (go_at_call 17; refine (WT.out _ _ H.out).mono ?_; rintro e wt ⟨⟨f', hf', rfl, hwt⟩, hb⟩; have H2 := H.out.same hb; clear H; have H := Lib.hid H2; clear H2 hb; obtain ⟨u, str, fin, hyy, h1, h2, h3⟩ := PUT.out f' hf' (fun _ => hwt); have ONE1 := Lib.hid (Sw_one SW.out hf'); subst hyy; have POK := Lib.hid h2; have PU := Lib.hid h3; have hle := Lib.hid h1; have e2 : IntKind.i64.wrap ((u : Int) + (str.size : Int)) = (u : Int) + (str.size : Int) := IntWalk.i64_in _ (by omega); clear h2 h3 hwt hf' PUT)
                | (refine wpList_store_row rfl 43 (.tmp 26) (.tmp 145) rfl yb (mkFr 8 u str fin).cells rfl rfl 43 y0.cells (by exact H.out.mem (p := (yb, frO y0)) (List.mem_cons_self ..)) (size43 _) rfl (by exact ONE1.out) ?_; have H2 := Wd.over (y := y0) (y' := mkFr 8 u str fin) H.out; clear H; have H := Lib.hid H2; clear H2; generalize wt.setRow yb (mkFr 8 (u : Int) str fin).cells = wz2 at H ⊢; obtain ⟨f2, f3, f4⟩ := frbox (H.out.mem (p := (yb, frO (mkFr 8 u str fin))) (List.mem_cons_self ..)))
                | (go_at_call 18; refine (RV.out _ u str _ hle.out H.out).mono ?_; rintro e wv ⟨rfl, H2⟩; clear H f2 f3 f4; have H := Lib.hid H2; clear H2; obtain ⟨f2, f3, f4⟩ := frbox (H.out.mem (p := (yb, frO (mkFr 8 u str fin))) (List.mem_cons_self ..)))
                | (go_at_call 19; refine (wd_put H.out EE.out POK.out).mono ?_; rintro e wp ⟨rfl, H2⟩; clear H f2 f3 f4; have H := Lib.hid H2; clear H2))
              go_meet
              exact ⟨_, _, Lib.hid H.out.tail, PU⟩
          · as_aux_lemma =>
              have d5 : decide ((60 : Int) ≤ (k : Int)) = false := decide_eq_false (by omega)
              obtain ⟨u, str, fin, hyy, h1, h2, h3⟩ := PUT.out y0 HYM.out (fun h => absurd h hk6)
              subst hyy
              have POK := Lib.hid h2
              have PU := Lib.hid h3
              have hle := Lib.hid h1
              have e2 : IntKind.i64.wrap ((u : Int) + (str.size : Int)) = (u : Int) + (str.size : Int) := IntWalk.i64_in _ (by omega)
              clear h2 h3 PUT
              go_wp2_with (first
                | (go_at_call 5; refine (PC.out _).mono ?_; rintro e wm ⟨rfl, rfl⟩)
                | (refine wpList_load_fr rfl _ rfl (mkFr 8 u str fin) g (qq * 13) (by rfl) (by exact RA.out) ?_)
                | (refine wpList_store_new rfl _ _ rfl (mkFr 8 u str fin) ONE0.out _ (by rfl) (by rfl) (by rfl) ?_; have H2 := H.out.alloc (.cells (mkFr 8 u str fin).cells 43); clear H RA; have H := Lib.hid H2; clear H2; generalize wc.alloc (.cells (mkFr 8 (u : Int) str fin).cells 43) = wz at H ⊢; generalize wc.heap.size = yb at H ⊢; obtain ⟨f2, f3, f4⟩ := frbox (H.out.mem (p := (yb, frO (mkFr 8 u str fin))) (List.mem_cons_self ..)))
                | (go_at_call 18; refine (RV.out _ u str _ hle.out H.out).mono ?_; rintro e wv ⟨rfl, H2⟩; clear H f2 f3 f4; have H := Lib.hid H2; clear H2; obtain ⟨f2, f3, f4⟩ := frbox (H.out.mem (p := (yb, frO (mkFr 8 u str fin))) (List.mem_cons_self ..)))
                | (go_at_call 19; refine (wd_put H.out EE.out POK.out).mono ?_; rintro e wp ⟨rfl, H2⟩; clear H f2 f3 f4; have H := Lib.hid H2; clear H2))
              go_meet
              exact ⟨_, _, Lib.hid H.out.tail, PU⟩
      case rest =>
      obtain ⟨R2, hi2, H2, PU⟩ := hcut
      clear H
      have H := H2
      clear H2
      obtain ⟨_, _, d2, _⟩ := CpBox.of (H.out.mem (p := (cb, cpO c)) (by simp))
      have PC := Lib.hid (fun (wx : World) => pick_any c.credit 30 wx CI.out.credit.lo CI.out.credit.hi (by decide) (by decide))
      have rp := pickF_range c.credit 30 (by decide)
      generalize pickF c.credit 30 = q0 at *
      obtain ⟨pc, rfl⟩ : ∃ pc : Nat, q0 = pc := ⟨q0.toNat, by omega⟩
      obtain ⟨m, hm⟩ : ∃ m, m = min (pc + 1) (rea.readyF R2.hs) := ⟨_, rfl⟩
      have HM := Lib.hid hm
      have hah : R2.at_ = a := PU.out.at_
      have RD := Lib.hid (fun (wx : World) (h : Wd w wx b bi g1 g2 br bs F2 X2 R2 rm w0 hi2 a sm t [(cb, cpO c)] (.slice a2 l2.length cap2) l2) => (show Calls Tryd.prog 20 #[.pointer (some ⟨bi, 0, none⟩), .int .i64 (1 + (pc : Int))] wx fun e w' => e = .returned (.tuple #[.string (strOfNums (R2.bs.take m)), .bool (R2.kn && decide (((R2.at_ + m : Nat) : Int) = R2.fin))]) ∧ Wd w w' b bi g1 g2 br bs F2 X2 { R2 with at_ := R2.at_ + m, bs := rea.takeB m R2.bs, hs := rea.takeH m R2.hs } rm w0 hi2 a sm t [(cb, cpO c)] (.slice a2 l2.length cap2) l2 from by
        rw [show (1 + (pc : Int)) = ((pc + 1 : Nat) : Int) by omega]
        exact wd_read h (by omega) (by omega) hm))
      obtain ⟨hT, hr, hle, hen1, hen2⟩ := wq_read HAB.out PU.out.rcv PU.out.finR PU.out.at_ htN (show m ≤ _ by omega) PU.out.zk
      have hi2t := PU.out.rcv.his
      obtain ⟨T, hTT⟩ : ∃ T, strOfNums (R2.bs.take m) = T := ⟨_, rfl⟩
      obtain ⟨en2, hen⟩ : ∃ en2, (R2.kn && decide (((R2.at_ + m : Nat) : Int) = R2.fin)) = en2 := ⟨_, rfl⟩
      rw [hTT, hen] at RD
      rw [hTT] at hT
      rw [hen] at hen1 hen2
      obtain ⟨a3, ha3⟩ : ∃ a3, a + m = a3 := ⟨_, rfl⟩
      rw [ha3] at hT hr hle hen1 hen2
      obtain ⟨G2, hG2⟩ : ∃ G2, Al.extract 0 a3 = G2 := ⟨_, rfl⟩
      have hcat : G ++ T = G2 := by rw [← HG.out, hT, ← ha3, extract_append, ha3, hG2]
      have hTs : T.size = m := by rw [hT, ByteArray.size_extract]; omega
      have hG2s : G2.size = a3 := by rw [← hG2, ByteArray.size_extract]; omega
      have HG2 := Lib.hid hG2
      have HR := Lib.hid hr
      have HEN1 := Lib.hid hen1
      have HEN2 := Lib.hid hen2
      obtain ⟨R3, hR3⟩ : ∃ R3, R3 = ({ R2 with at_ := R2.at_ + m, bs := rea.takeB m R2.bs, hs := rea.takeH m R2.hs } : rea.Rb) := ⟨_, rfl⟩
      have HR3 := Lib.hid hR3
      rw [← hR3] at RD
      have hrdrm : a3 ≤ rm := by omega
      clear hT hr hen1 hen2 hen hTT hm hR3 hah hG2
      go_upto_region 37 with (first
        | (go_at_call 5; refine (PC.out _).mono ?_; rintro e wm ⟨rfl, rfl⟩)
        | (go_at_call 20; refine (RD.out _ H.out).mono ?_; rintro e wd ⟨rfl, H2⟩; clear H d2; have H := Lib.hid H2; clear H2)
        | (go_at_call 21; refine (wd_readR H.out (by omega) (by omega) (n := m) ha3 hle).mono ?_; rintro e we ⟨rfl, H2⟩; clear H; have H := Lib.hid H2; clear H2)
        | (go_at_call 22; refine (wd_upd H.out hrdrm (by omega) (by omega)).mono ?_; rintro e wf ⟨⟨x, up, rfl, hup⟩, H2⟩; clear H; have H := Lib.hid H2; clear H2; have HUP := Lib.hid hup; clear hup))
      obtain ⟨d0, _, _, _⟩ := CpBox.of (H.out.mem (p := (cb, cpO c)) (by simp))
      have hw01 := hw1.1
      have HU := Lib.hid (upd_facts (rm := rm) (wi := w0) (rd := a3) (a := a) (by omega) hs3 hrdrm hw01)
      have HPR := Lib.hid Q.out.pr
      have hG2 := HG2.out
      have REL : Hid (∀ (w' : World) (sm3 : Nat), (60 ≤ k → sm3 = updN rm w0 a3) → sm ≤ sm3 → sm3 ≤ updN rm w0 a3 → Wd w w' b bi g1 g2 br bs F2 X2 R3 (updN rm w0 a3) w0 hi2 a3 sm3 t [(cb, cpO c)] (.slice a2 l2.length cap2) l2 →
          Hid ((Value.bool en2 = .bool false ∧ ∃ (F : Nat → Prop) (s sm rm hi : Nat) (R : rea.Rb) (l : List Fr), Wq N w0 (k + 1) s a3 sm rm R hi l ∧ Wd w w' b bi g1 g2 br bs F (wlX N s) R rm w0 hi a3 sm s [] (.slice a2 l2.length cap2) l) ∨ (Value.bool en2 = .bool true ∧ a3 = N ∧ Below w.heap.size w w'))) := Lib.hid (fun w' sm3 h60 h1 h2 hw => by
        cases en2
        · have hlt := HEN2.out rfl
          have hX := HX.out (by omega)
          rw [hX] at hw
          have hwq := Q.out.next hw01 HTG.out HTS.out htm SW.out hl2k PU.out HM.out (by rw [ha3]; exact hlt) (by rw [ha3]; exact HR.out) h1 (by rw [ha3]; exact h2) (by rw [ha3]; exact h60)
          rw [ha3, ← HR3.out] at hwq
          exact Lib.hid (.inl ⟨rfl, F2, t, sm3, _, hi2, R3, l2, hwq, hw.sub⟩)
        · exact Lib.hid (.inr ⟨rfl, HEN1.out rfl, hw.sf.below⟩))
      clear HG2 HR HEN1 HEN2 HR3 HM PU HTG HTS HX HZ0 SW PC RD HG hcat hTs
      obtain ⟨kd, hkd⟩ : ∃ kd, c.kind.tmod 3 = kd := ⟨_, rfl⟩
      have hkb : -3 < kd ∧ kd < 3 := by
        rw [← hkd]
        rcases Int.le_total 0 c.kind with e | e
        · rw [Int.tmod_eq_emod_of_nonneg e]; omega
        · rw [show c.kind = -(-c.kind) by omega, Int.neg_tmod, Int.tmod_eq_emod_of_nonneg (by omega)]; omega
      have e3 : IntKind.i64.wrap kd = kd := IntWalk.i64_in _ (by omega)
      obtain ⟨u1, u2, u3⟩ := HU.out
      generalize updN rm w0 a3 = rm2 at *
      go_cut [198] from 81 to 220 (fun y w' => (∃ zb : Bool, y = .bool zb ∧ (zb = true → up = true)) ∧ w' = wf)
      case first =>
        as_aux_lemma =>
          cases up
          · go_wp2
            go_meet
            exact ⟨⟨false, rfl, fun h => by cases h⟩, rfl⟩
          · by_cases h3 : 0 < kd
            · have d6 : decide (0 < kd) = true := decide_eq_true h3
              go_wp2
              go_meet
              exact ⟨⟨true, rfl, fun _ => by simp⟩, rfl⟩
            · have d6 : decide (0 < kd) = false := decide_eq_false h3
              by_cases h6 : 60 ≤ k
              · have d7 : decide ((60 : Int) ≤ (k : Int)) = true := decide_eq_true (by omega)
                go_wp2
                go_meet
                exact ⟨⟨true, rfl, fun _ => by simp⟩, rfl⟩
              · have d7 : decide ((60 : Int) ≤ (k : Int)) = false := decide_eq_false (by omega)
                go_wp2
                go_meet
                exact ⟨⟨false, rfl, fun h => by cases h⟩, rfl⟩
      case rest =>
      obtain ⟨⟨zb, rfl, hzb⟩, rfl⟩ := hcut
      clear d0 e3 hkd
      go_upto_if 198 with (fail)
      go_cut [198] from 81 to 220 (fun y w' => y = .bool zb ∧ ∃ sm2 : Nat, Hid (sm ≤ sm2 ∧ sm2 ≤ rm2) ∧ Hid (Wd w w' b bi g1 g2 br bs F2 X2 R3 rm2 w0 hi2 a3 sm2 t [(cb, cpO c)] (.slice a2 l2.length cap2) l2))
      case first =>
        as_aux_lemma =>
          cases zb
          · go_wp2
            go_meet
            exact ⟨rfl, sm, Lib.hid ⟨Nat.le_refl _, by omega⟩, H⟩
          · obtain rfl := hzb rfl
            clear hzb
            obtain rfl := HUP.out rfl
            go_wp2_with (go_at_call 23; refine (wd_raise H.out (n := rm2) (by omega) rfl).mono ?_; rintro e wg ⟨rfl, H2⟩; clear H; have H := Lib.hid H2; clear H2)
            go_meet
            exact ⟨rfl, _, Lib.hid ⟨by omega, by omega⟩, H⟩
      case rest =>
      obtain ⟨rfl, sm2, HS2, H2⟩ := hcut
      clear H
      have H := H2
      clear H2 hzb HUP
      have hss := HS2.out
      have v1 : decide (N < a3) = false := decide_eq_false (by omega)
      have v2 : decide ((N : Int) < (a3 : Int)) = false := decide_eq_false (by omega)
      have v3 : (a3 : Int) ≤ (N : Int) := by omega
      have v4 : a3 ≤ N := by omega
      have hpr := HPR.out
      by_cases h6 : 60 ≤ k
      · as_aux_lemma =>
          have d7 : decide ((60 : Int) ≤ (k : Int)) = true := decide_eq_true (by omega)
          go_wp2_with (first
            | (go_at_call 24; refine (wd_limit H.out).mono ?_; rintro e wl ⟨rfl, rfl⟩)
            | (go_at_call 23; refine (wd_raise H.out (n := rm2) (t := rm2) (by omega) (by omega)).mono ?_; rintro e wg ⟨rfl, H2⟩; clear H; have H := Lib.hid H2; clear H2))
          go_roundw
          case rel => exact ⟨k + 1, a3, by simp, by omega, by omega, by rw [hG2], REL.out _ rm2 (fun _ => rfl) (by omega) (by omega) H.out⟩
          case measure => simp [intOf]; omega
      · as_aux_lemma =>
          have d7 : decide ((60 : Int) ≤ (k : Int)) = false := decide_eq_false (by omega)
          go_wp2
          go_roundw
          case rel => exact ⟨k + 1, a3, by simp, by omega, by omega, by rw [hG2], REL.out _ sm2 (fun h => absurd h h6) hss.1 hss.2 H.out⟩
          case measure => simp [intOf]; omega
    · as_aux_lemma =>
        have hAll : Al.extract 0 a = Al := by
          apply bytesOf_inj
          rw [bytesOf_extract, List.drop_zero, List.take_of_length_le (by rw [bytesOf_length]; omega)]
        rw [hAll]
        clear HD
        go_wp2
        go_ret
        exact ⟨rfl, hB⟩
end Go.Proofs.YtpfkeohaaeiaaaaDoor.sendBufWithinLimits
/- SendBufWithinLimits: the arguments opened. -/
namespace Go.Proofs.YtpfkeohaaeiaaaaDoor.sendBufWithinLimits
open Go.RowKit Go.WideShapes Go.ChangeShapes
set_option maxRecDepth 100000 in
theorem main {H : Type} {enc : TypeId × Value → H} (W : World) (ad : Addr × Addr × Addr × Addr) (hl : Laid ad W) (d0 d1 d2 : DataW H) (_hw : (DataW.weightsEach Tryd.prog [3, 3, 22] [d0, d1, d2]).all (· ≤ reachBytes) = true)
    (b0 : Nat) (v0 : Value) (p0 : List MemPlace) (k0 : Value.okWide Tryd.prog W .any b0 3 v0) (h0 : DataW.Trod enc Tryd.prog W 0 (fun _ => true) true 3 v0 d0 p0)
    (b1 : Nat) (v1 : Value) (p1 : List MemPlace) (k1 : Value.okWide Tryd.prog W .any b1 3 v1) (h1 : DataW.Trod enc Tryd.prog W 0 (fun _ => true) true 3 v1 d1 p1)
    (b2 : Nat) (v2 : Value) (p2 : List MemPlace) (k2 : Value.okWide Tryd.prog W .any b2 22 v2) (h2 : DataW.Trod enc Tryd.prog W 0 (fun _ => true) true 22 v2 d2 p2) :
    Calls Tryd.prog 3 #[v0, v1, v2] W fun e w' => e = .returned (.bool true) ∧ Below W.heap.size W w' := by
  obtain ⟨a0, rfl, _, _, w0⟩ := open_int Tryd.underlying3 k0 h0
  obtain ⟨a1, rfl, _, _, w1⟩ := open_int Tryd.underlying3 k1 h1
  obtain ⟨cl, hz, hmz, hrz⟩ := cps_at k2 h2
  obtain ⟨a, cap, rfl⟩ := hz.form
  exact walk a0 a1 cl a cap W (bounds_i64 w0) (bounds_i64 w1) hz hmz hrz _ _ _ _ hl
end Go.Proofs.YtpfkeohaaeiaaaaDoor.sendBufWithinLimits
