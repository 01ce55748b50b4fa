/- Law 13: LossDeadline's walk. -/
import Derived.Test.YtafkndhnbnpahaaGreatZm
namespace Go.Proofs.YtafkndhnbnpahaaGreat.lossDeadline
open Go.RowKit Go.WideShapes Go.ChangeShapes
def pk (z : Nat → Int) (i : Nat) : Pk := ⟨i, cumT z (i + 1), 0, false, .slice none 0 0⟩
/-- what the law's ACK leaves -/
def ak (z : Nat → Int) (n k : Nat) (d : Int) : Rc := (sends (pk z) n).acked 1 (fun _ => (k : Int)) (fun _ => (k : Int) + 1) (cumT z n) d
theorem ak_lg (z : Nat → Int) (n k : Nat) (d : Int) : (ak z n k d).lg = k := by
  show max (-1 : Int) ((k : Int) + 1 - 1) = k
  omega
theorem ak_ex (z : Nat → Int) (n k : Nat) (d : Int) : ∀ p ∈ (ak z n k d).l, exF (ak z n k d).lg (cumT z n) d p = false := fun p hp => by
  have := (acked_sub _ _ _ _ _ _ p hp).2.2
  exact this
theorem ak_tm (z : Nat → Int) (n k : Nat) (d : Int) (hn : n ≤ 10) : ∀ p ∈ (ak z n k d).l, 0 ≤ p.time ∧ p.time ≤ 1000000 := fun p hp => by
  have := (acked_sub _ _ _ _ _ _ p hp).1
  obtain ⟨i, hi, rfl⟩ := List.mem_map.1 this
  have := cumT_bnd z (i + 1)
  have := List.mem_range.1 hi
  show 0 ≤ cumT z (i + 1) ∧ cumT z (i + 1) ≤ 1000000
  omega
theorem ak_ne (z : Nat → Int) (n k : Nat) (d : Int) (hk : 0 < k) (hkn : k < n) (hd : 200 ≤ d) (hn : n ≤ 10) : (ak z n k d).l.filter (dlF (ak z n k d).lg) ≠ [] := by
  rw [ak_lg]
  intro h
  have hm : pk z (k - 1) ∈ (ak z n k d).l := by
    refine List.mem_filter.2 ⟨List.mem_filter.2 ⟨List.mem_map.2 ⟨k - 1, List.mem_range.2 (by omega), rfl⟩, ?_⟩, ?_⟩
    · have : ¬ ((k : Int) ≤ ((k - 1 : Nat) : Int)) := by omega
      simp [akF, inF, spF, pk, this]
    · have e : ((sends (pk z) n).ack 1 (fun _ => (k : Int)) (fun _ => (k : Int) + 1)).lg = k := by
        show max (-1 : Int) ((k : Int) + 1 - 1) = k
        omega
      rw [e]
      have h1 : ¬ (((k - 1 : Nat) : Int) + 3 ≤ k) := by omega
      have b1 := cumT_bnd z (k - 1 + 1)
      have b2 := cumT_bnd z n
      have h2 : ¬ (cumT z (k - 1 + 1) ≤ cumT z n - d) := by omega
      simp [exF, pk, h1, h2]
  have := List.filter_eq_nil_iff.1 h _ hm
  have h1 : ((k - 1 : Nat) : Int) < k := by omega
  exact this (by simp [dlF, pk, h1])
theorem none_left (z : Nat → Int) (n : Nat) (d : Int) : (ak z n 0 d).l.filter (dlF (ak z n 0 d).lg) = [] := by
  rw [ak_lg]
  refine List.filter_eq_nil_iff.2 (fun p hp => ?_)
  obtain ⟨i, hi, rfl⟩ := List.mem_map.1 (acked_sub _ _ _ _ _ _ p hp).1
  have : ¬ ((i : Int) < 0) := by omega
  simp [dlF, pk, this]
set_option maxRecDepth 100000 in
set_option maxHeartbeats 20000000 in
theorem walk (v : Value) (zs : List Int) (last delay : Int) (w : World) (hz : IntsAt .i64 w v zs) (hw : ∀ x ∈ zs, (Lit.int .i64 x).wf = true) (hl : I64 last) (hd : I64 delay) (hzl : zs.length ≤ maxLen) :
    Calls Tryz.prog 6 #[v, .int .i64 last, .int .i64 delay] w fun e w' => e = .returned (.bool true) ∧ Below w.heap.size w w' := by
  have PL := Lib.hid (fun w => pick_any last 3 w hl.1 hl.2 (by decide) (by decide))
  have PD := Lib.hid (fun w => pick_any delay 50 w hd.1 hd.2 (by decide) (by decide))
  have rl := pickF_range last 3 (by decide)
  have rd := pickF_range delay 50 (by decide)
  have HZ := Lib.hid (And.intro hz hw)
  obtain ⟨a, cap, hv, hcap⟩ := hz.form
  subst hv
  generalize pickF last 3 = x at *
  generalize pickF delay 50 = y at *
  obtain ⟨n, hn⟩ : ∃ n : Nat, n = min zs.length 10 := ⟨_, rfl⟩
  have hn10 : n ≤ 10 := by omega
  have hnz : n ≤ zs.length := by omega
  have hmin : min (zs.length : Int) 10 = n := by omega
  obtain ⟨rl1, rl2⟩ := rl
  obtain ⟨rd1, rd2⟩ := rd
  unfold maxLen at hzl
  obtain ⟨z, hzz⟩ : ∃ z : Nat → Int, z = fun j => zs[j]?.getD 0 := ⟨_, rfl⟩
  have ZZ := Lib.hid (fun k => congrFun hzz k)
  clear hz hw hl hd hzz
  have HN := Lib.hid hn
  clear hn
  go_enter Tryz.func6, Tryz.ntmps6
  go_wp2_with fail
  refine (sane_any _).mono ?_
  rintro e w1 ⟨rfl, hb1⟩
  have B1 := Lib.hid hb1
  clear hb1
  go_wp2_with fail
  refine (lw_new2 (w0 := w) B1.out [] (by simp)).mono ?_
  rintro e w2 ⟨b, M, rfl, h, _⟩
  have H := Lib.hid h
  clear h B1
  go_wp2_with fail
  go_loopw [10, 11] (fun t i wr => ∃ k : Nat, k ≤ n ∧ i = .int .i64 k ∧ t = .int .i64 (cumT z k) ∧ Lw w wr b M (sends (pk z) k) [] []) (fun _ i _ => n - (intOf i).toNat)
  case atStart => exact ⟨0, by omega, rfl, rfl, H.out⟩
  case round =>
    obtain ⟨k, hk, rfl, rfl, h⟩ := hrel
    have HK := Lib.hid h
    clear h
    have cb := cumT_bnd z k
    have cb2 := cumT_bnd z (k + 1)
    obtain ⟨cb1, cb1'⟩ := cb
    obtain ⟨cb3, cb3'⟩ := cb2
    by_cases hlt : k < n
    · have hkz : k < zs.length := by omega
      have hx := HZ.out.2 (zs[k]?.getD 0) (by rw [List.getElem?_eq_getElem hkz]; exact List.getElem_mem hkz)
      rcases HZ.out.1.below HK.out.bel with ⟨a', cap', e, _, h0⟩ | ⟨g, off, cap', e, _, _, _, hc⟩
      · rw [h0] at hkz; simp at hkz
      · cases e
        have ck := hc k hkz
        have P := Lib.hid (fun w => pick_any (zs[k]?.getD 0) 9 w (bounds_i64 hx).1 (bounds_i64 hx).2 (by decide) (by decide))
        have pr := pickF_range (zs[k]?.getD 0) 9 (by decide)
        have CS := Lib.hid (show cumT z k + pickF (zs[k]?.getD 0) 9 = cumT z (k + 1) from by rw [← ZZ.out k]; rfl)
        generalize zs[k]?.getD 0 = X at ck P pr CS
        have i0 : (0 : Int) ≤ (k : Int) := by omega
        have i1 : (k : Int) < (zs.length : Int) := by omega
        have i2 : (k : Int) < (n : Int) := by omega
        clear hc hx
        go_wp2_with fail
        refine (P.out _).mono ?_
        rintro e w' ⟨rfl, rfl⟩
        go_wp2_with fail
        rw [CS.out]
        refine (lw_sent HK.out (pk z k) rfl rfl (by show (k : Int) < 10000; omega) ⟨cb3, by show cumT z (k + 1) ≤ _; omega⟩ (Int.le_refl 0)).mono ?_
        rintro e w3 ⟨rfl, h⟩
        rw [sends_succ] at h
        have H3 := Lib.hid h
        clear h ck CS pr
        go_wp2
        go_roundw
        case rel => exact ⟨k + 1, by omega, by go_num, rfl, H3.out⟩
        case measure => simp [intOf]; omega
    · obtain rfl : k = n := by omega
      clear hlt hk cb3 cb3'
      rcases Nat.eq_zero_or_pos k with hk0 | hk0
      · have e0 : ((k : Int) = 0) = True := eq_true (by omega)
        go_wp2_with fail
        refine (lw_dead HK.out 5 (by decide) (by decide)).mono ?_
        rintro e w3 ⟨rfl, h⟩
        subst hk0
        have HB := Lib.hid h.bel
        clear h
        go_wp2
        go_ret
        exact ⟨rfl, HB.out⟩
      · have e0 : ((k : Int) = 0) = False := eq_false (by omega)
        obtain ⟨kk, hkk⟩ : ∃ kk : Nat, max ((k : Int) - 1 - x) 0 = kk := ⟨(max ((k : Int) - 1 - x) 0).toNat, by omega⟩
        have hkn : kk < k := by omega
        obtain ⟨d, hd⟩ : ∃ d, 200 + y = d := ⟨_, rfl⟩
        have hd1 : 200 ≤ d := by omega
        have hd2 : d ≤ 250 := by omega
        go_wp2_with fail
        refine (PD.out _).mono ?_
        rintro e w' ⟨rfl, rfl⟩
        go_wp2_with fail
        refine (PL.out _).mono ?_
        rintro e w' ⟨rfl, rfl⟩
        go_wp2_with fail
        have X := Lib.hid (heap_alloc_new wr (.cells #[.int .i64 kk, .int .i64 (kk + 1)] 51))
        have HX := Lib.hid (HK.out.below ((Below.refl _ wr).alloc (Nat.le_refl _) (.cells #[.int .i64 kk, .int .i64 (kk + 1)] 51)))
        have hgb := Lib.hid (show wr.heap.size ≠ b from fun e => by have := heap_lt HK.out.at_.1; omega)
        refine (lw_ack HX.out 0 _ 1 _ _ (cumT z k) d (by decide) (by decide) (rgOne kk (kk + 1) (by omega) (by omega) (by omega)) (spOne kk (kk + 1) X.out) cb1 (by omega) (by omega) (by omega) (by show (kk : Int) + 1 ≤ k; omega) (fun g o c e => by cases e; exact hgb.out)).mono ?_
        rintro e w6 ⟨va, vl, rfl, na, nl, h⟩
        have H6 := Lib.hid (show Lw w w6 b M (ak z k kk d) [] [] from h.sub (by simp) (by simp))
        clear h na nl HX X hgb
        go_wp2_with fail
        refine (lw_dead H6.out d (by omega) (by omega)).mono ?_
        rintro e w7 ⟨rfl, h⟩
        have H7 := Lib.hid h
        clear h
        rcases Nat.eq_zero_or_pos kk with hz0 | hz0
        · subst hz0
          rw [none_left]
          simp only [deadT]
          have HB := Lib.hid H7.out.bel
          go_wp2
          go_ret
          exact ⟨rfl, HB.out⟩
        · obtain ⟨t, ht, t1, t2, hE, hC, hL, hP⟩ := dead_law (R := ak z k kk d) (cumT z k) d (ak_ex z k kk d) (ak_ne z k kk d hz0 hkn hd1 hn10) hd1 (ak_tm z k kk d hn10) (by omega)
          rw [ht]
          have LG := Lib.hid (ak_lg z k kk d)
          have TM := Lib.hid (ak_tm z k kk d hn10)
          generalize ak z k kk d = R at *
          have hx1 : max (t - 1) 0 = t - 1 := by omega
          have hk1 : ((kk : Int) = 0) = False := eq_false (by omega)
          have HE := Lib.hid (And.intro hE (And.intro hC (And.intro hL hP)))
          clear ht hE hC hL hP
          go_wp2_with fail
          refine (lw_exp H7.out (t - 1) d (by omega) (by omega) (by omega) (by omega)).mono ?_
          rintro e w8 ⟨ve, rfl, ne, h⟩
          rw [HE.out.1] at ne h
          rw [HE.out.2.1] at h
          obtain rfl : ve = .slice none 0 0 := ne.2 rfl
          have H8 := Lib.hid h
          clear h ne
          go_wp2_with fail
          refine (lw_exp H8.out t d (by omega) (by omega) (by omega) (by omega)).mono ?_
          rintro e w9 ⟨vl2, rfl, nl2, h⟩
          have hrow := h.row (v := vl2) (l := R.l.filter (exF R.lg t d)) (by simp) nl2
          have HB := Lib.hid h.bel
          have HP := Lib.hid (fun p hp => And.intro (HE.out.2.2.2 p hp) (TM.out p (List.mem_filter.1 hp).1))
          have hne := HE.out.2.2.1
          generalize R.l.filter (exF R.lg t d) = L at *
          rcases hrow.form with ⟨_, h0⟩ | ⟨g, cap', cur, rfl, hpos, hcap', hm', _, _, hcell⟩
          · exact absurd h0 hne
          · have HC := Lib.hid hcell
            have hpos' : ((0 : Int) < (L.length : Int)) = True := eq_true (by omega)
            unfold maxLen at hm'
            clear h nl2 hrow hcell hne HE H8
            go_wp2
            go_loop [20] (fun i => ∃ j : Nat, j ≤ L.length ∧ i = .int .i64 j) (fun i => L.length - (intOf i).toNat)
            case atStart => exact ⟨0, by omega, rfl⟩
            case round =>
              obtain ⟨j, hj, rfl⟩ := hrel
              by_cases hlt : j < L.length
              · have q0 := (HC.out j hlt).1
                have q1 := (HC.out j hlt).2.1
                have hq := HP.out (L[j]'hlt) (List.getElem_mem hlt)
                generalize L[j]'hlt = p at *
                obtain ⟨⟨p1, p2⟩, p3, p4⟩ := hq
                have f1 : (t < p.time + d) = False := eq_false (by omega)
                have f2 : ((kk : Int) ≤ p.pn) = False := eq_false (by have := LG.out; omega)
                have i0 : (0 : Int) ≤ (j : Int) := by omega
                have i1 : (j : Int) < (L.length : Int) := by omega
                go_wp2
                go_round
                case rel => exact ⟨j + 1, by omega, by go_num⟩
                case measure => simp [intOf]; omega
              · obtain rfl : j = L.length := by omega
                have f3 : (d ≤ t) = True := eq_true t1
                clear hlt
                go_wp2
                go_ret
                exact ⟨rfl, HB.out⟩
set_option maxRecDepth 100000 in
theorem main {H : Type} {enc : TypeId × Value → H} (W : World) (base0 : Nat) (v0 : Value) (d0 : DataW H) (p0 : List MemPlace) (hv0 : Value.okWide Tryz.prog W .any base0 53 v0) (h0 : DataW.Trod enc Tryz.prog W 0 (fun _ => true) true 53 v0 d0 p0)
    (base1 : Nat) (v1 : Value) (d1 : DataW H) (p1 : List MemPlace) (hv1 : Value.okWide Tryz.prog W .any base1 3 v1) (h1 : DataW.Trod enc Tryz.prog W 0 (fun _ => true) true 3 v1 d1 p1)
    (base2 : Nat) (v2 : Value) (d2 : DataW H) (p2 : List MemPlace) (hv2 : Value.okWide Tryz.prog W .any base2 3 v2) (h2 : DataW.Trod enc Tryz.prog W 0 (fun _ => true) true 3 v2 d2 p2) :
    Calls Tryz.prog 6 #[v0, v1, v2] W fun e w' => e = .returned (.bool true) ∧ Below W.heap.size W w' := by
  obtain ⟨zs, hz, hm, hw⟩ := ints_at Tryz.underlying53 Tryz.underlying3 (by kernel_rfl) hv0 h0
  obtain ⟨a1, rfl, _, _, w1⟩ := open_int Tryz.underlying3 hv1 h1
  obtain ⟨a2, rfl, _, _, w2⟩ := open_int Tryz.underlying3 hv2 h2
  exact walk v0 zs a1 a2 W hz hw (bounds_i64 w1) (bounds_i64 w2) hm
end Go.Proofs.YtafkndhnbnpahaaGreat.lossDeadline
