/- Texts TraMain of this claim, one behind the other. -/
import Derived.Test.YtafkndhnbnpahaaGreatTk8
import Derived.Test.YtafkndhnbnpahaaGreatTk6
import Derived.Deep.CutBlock
/- Law 13: LossTracker's walk. -/
namespace Go.Proofs.YtafkndhnbnpahaaGreat.lossTracker
open Go.RowKit Go.WideShapes Go.ChangeShapes
variable {w0 w : World} {b M : Nat} {R : Rc} {rows : List Rw} {os : List (Nat × Obj)}
/-- a slice of bools as plain data -/
def BsAt (w : World) (v : Value) (l : List Bool) : Prop :=
  ∃ a cap, v = .slice a l.length cap ∧ l.length ≤ cap ∧ (l.length = 0 ∨ ∃ g off, a = some ⟨g, off, none⟩ ∧ cap ≤ maxLen ∧ g < w.heap.size ∧ ∀ i, i < l.length → w.cell? ⟨g, off + i, none⟩ = some (.bool (l[i]?.getD false)))
theorem BsAt.below {v : Value} {l : List Bool} {w' : World} (h : BsAt w v l) (hb : Below w.heap.size w w') : BsAt w' v l := by
  obtain ⟨a, cap, h1, h2, h3⟩ := h
  refine ⟨a, cap, h1, h2, h3.imp id ?_⟩
  rintro ⟨g, off, h4, h5, h6, h7⟩
  exact ⟨g, off, h4, h5, Nat.lt_of_lt_of_le h6 hb.size, fun i hi => (hb.cell (p := ⟨g, off + i, none⟩) h6).trans (h7 i hi)⟩
theorem fr_row {W : World} {B B' n : Nat} {v : Value} {zs : List Int} (h : W.ownsRow B' 51 2 v n (scs (rowK zs n n))) (hb : B ≤ B') : W.ownsRow B (spR v (rowK zs n n)).e (spR v (rowK zs n n)).z (spR v (rowK zs n n)).v (spR v (rowK zs n n)).n (spR v (rowK zs n n)).xs := by
  show W.ownsRow B 51 2 v (rowK zs n n).length (scs (rowK zs n n))
  rw [rowK_len]
  exact ownsRow_base_a h hb
theorem lw_pick {r1 r2 r3 r4 r5 : Rw} {o1 : Nat × Obj} (h : Lw w0 w b M R [r1, r2, r3, r4, r5] (o1 :: os)) : Lw w0 w b M R [r4, r5, r2] os :=
  h.sub (by intro x hx; simp only [List.mem_cons, List.not_mem_nil, or_false] at hx ⊢; rcases hx with rfl | rfl | rfl <;> simp) (fun x hx => List.mem_cons_of_mem _ hx)
theorem h5u {r : Rw} {tv uv : Value} {T U : List Int} (h : Lw w0 w b M R (r :: inR tv T :: inR uv U :: rows) os) : w.ownsRow w0.heap.size 3 1 uv U.length (ints U) :=
  (h.rows _ (List.mem_cons_of_mem _ (List.mem_cons_of_mem _ List.mem_cons_self))).1
theorem noP {v : Value} {l : List Pk} : NoR3 [pkR v l] := fun x hx => by
  rw [List.mem_singleton.1 hx]; show (32 : Nat) ≠ 3; decide
/-- behind the packet's arrival -/
def Mid (w w' : World) (b M t k : Nat) (tv uv : Value) (T : List Int) : Prop :=
  ∃ R U zs n, U.length = k + 1 ∧ Tq w w' b M R tv T uv U [] [(t, tkO zs)] ∧ TrOk R T U zs n (k + 1)
theorem no3 {t : Nat} {zs : List Int} : No3 [(t, tkO zs)] := fun x hx => by
  rw [List.mem_singleton.1 hx]; exact ⟨_, 92, rfl, by decide⟩
theorem noR : NoR3 [] := fun x hx => by cases hx
set_option maxRecDepth 100000 in
set_option maxHeartbeats 40000000 in
theorem walk (va vb : Value) (l l2 : List Bool) (w : World) (ha : BsAt w va l) (hb : BsAt w vb l2) (hm : l.length ≤ maxLen) (hm2 : l2.length ≤ maxLen) :
    Calls Tryz.prog 10 #[va, vb] w fun e w' => e = .returned (.bool true) ∧ Below w.heap.size w w' := by
  obtain ⟨a1, cap1, rfl, hle1, hf1⟩ := ha
  obtain ⟨a2, cap2, rfl, hle2, hf2⟩ := hb
  have HF1 := Lib.hid hf1
  have HF2 := Lib.hid hf2
  clear hf1 hf2
  unfold maxLen at hm hm2
  go_enter Tryz.func10, Tryz.ntmps10
  go_wp2_with fail
  refine (sane_any _).mono ?_
  rintro e w1 ⟨rfl, hb1⟩
  have B1 := Lib.hid hb1
  clear hb1
  go_wp2_with fail
  refine (lw_new2 (w0 := w) B1.out [] (by simp)).mono ?_
  rintro e w2 ⟨b, M, rfl, h, _⟩
  have H := Lib.hid h
  clear h B1
  go_wp2_with fail
  refine (new_tr 2 (by decide) (by decide) _).mono ?_
  rintro e w3 ⟨rfl, hw3⟩
  have H3 := Lib.hid (show Lw w w3 b M ⟨[], 0, -1⟩ [] [(w2.heap.size, tkO (zs0 2))] from hw3 ▸ H.out.alloc (tkO (zs0 2)) rfl)
  clear hw3
  have ht0 : w.heap.size ≤ w2.heap.size := H.out.bel.size
  clear H
  go_wp2_with fail
  generalize w2.heap.size = t at *
  go_loopw [9, 10, 11] (fun tv uv i wr => ∃ (k : Nat) (R : Rc) (T U zs : List Int) (n : Nat) (a : Option Addr) (c : Nat) (a' : Option Addr) (c' : Nat), k ≤ l.length ∧ k ≤ 30 ∧ i = .int .i64 k ∧ tv = .slice a T.length c ∧ uv = .slice a' U.length c' ∧
      TrOk R T U zs n k ∧ ((k < l.length ∧ k < 30) ∨ ∀ p ∈ R.l, covB zs n p.pn = false) ∧ Tq w wr b M R (.slice a T.length c) T (.slice a' U.length c') U [] [(t, tkO zs)]) (fun _ _ i _ => 30 - (intOf i).toNat)
  case atStart => exact ⟨0, ⟨[], 0, -1⟩, [], [], zs0 2, 0, none, 0, none, 0, by omega, by omega, rfl, rfl, rfl, TrOk.start, .inr (fun p hp => by cases hp), ⟨(H3.out.addRow (inR _ []) (World.ownsRow_nil _ _ 3 1) (show (3 : Nat) ≠ 75 by decide)).addRow (inR _ []) (World.ownsRow_nil _ _ 3 1) (show (3 : Nat) ≠ 75 by decide), fun g h => by simp [Value.ownBlock] at h⟩⟩
  case round =>
    obtain ⟨k, R, T, U, zs, n, ta, tc, ua, uc, hk, hk3, rfl, rfl, rfl, ht, hd, h⟩ := hrel
    have HK := Lib.hid h
    have HT := Lib.hid ht
    have HD := Lib.hid hd
    have TL := Lib.hid ht.tl
    have UL := Lib.hid ht.ul
    rw [ht.tl, ht.ul]
    have e1 : Tq w wr b M R (.slice ta k tc) T (.slice ua k uc) U [] [(t, tkO zs)] := by have := h; rw [ht.tl, ht.ul] at this; exact this
    have HK := Lib.hid e1
    clear h ht hd e1 H3
    by_cases hlt : k < l.length ∧ k < 30
    · obtain ⟨hlt, hlt3⟩ := hlt
      have i0 : (0 : Int) ≤ (k : Int) := by omega
      have i1 : (k : Int) < (l.length : Int) := by omega
      have i2 : (k : Int) < 30 := by omega
      have BN := Lib.hid (fun (p : Pk) (hp : p ∈ R.l) => HK.out.lw.ok.up.bnd p hp)
      go_wp2_with fail
      refine (lw_sent HK.out.lw ⟨k, k, 0, true, .slice none 0 0⟩ rfl HT.out.nx.symm (by rw [HT.out.nx]; omega) ⟨i0, by show (k : Int) ≤ _; omega⟩ (Int.le_refl 0)).mono ?_
      rintro e w4 ⟨rfl, h⟩
      have H4 := Lib.hid (HK.out.keep h)
      clear h HK
      rcases HF1.out with h0 | ⟨g1, o1, rfl, hc1, hg1, hcell1⟩
      · omega
      obtain ⟨al, hal⟩ : ∃ al, l[k]?.getD false = al := ⟨_, rfl⟩
      have HC1 := Lib.hid (show w.cell? ⟨g1, o1 + k, none⟩ = some (.bool al) from hal ▸ hcell1 k hlt)
      unfold maxLen at hc1
      clear hcell1 hal
      go_upto_if 53 with (at_builtin; first
        | (refine wpList_append_tq rfl _ _ rfl (tv := .slice ta k tc) (T := T) 0 (H4.out.below ((Below.refl _ w4).alloc (Nat.le_refl _) _)) rfl w4.heap.size rfl (heap_alloc_new _ _) k TL.out (by omega) noR no3 ?_; intro a5 c5 w5 h5; have H5 := Lib.hid h5; clear h5 H4)
        | (refine wpList_append_tq rfl _ _ rfl (tv := .slice ua k uc) (T := U) 0 (H5.out.swap.below ((Below.refl _ w5).alloc (Nat.le_refl _) _)) rfl w5.heap.size rfl (heap_alloc_new _ _) k UL.out (by omega) noR no3 ?_; intro a6 c6 w6 h6; have H6 := Lib.hid h6.swap; have Y := (H6.out.lw.bel.cell (p := ⟨g1, o1 + k, none⟩) hg1).trans HC1.out; clear h6 H5))
      go_cut [53] from 28 to 108 (fun s53 w' => Hid (Mid w w' b M t k (.slice a5 (k + 1) c5) (.slice a6 (k + 1) c6) (T ++ [0])))
      case first =>
        cases al with
        | true =>
          obtain ⟨g6, ea6⟩ : ∃ g6, a6 = some ⟨g6, 0, none⟩ := by
            rcases H6.out.u.2 with ⟨e, _⟩ | ⟨g, cap, cur, e, _⟩
            · simp at e
            · simp only [Value.slice.injEq] at e; exact ⟨g, e.1⟩
          subst ea6
          have hUl : (U ++ [0]).length = k + 1 := by simp [UL.out]
          have hu := H6.out.u
          rw [hUl] at hu
          have c0 := hu.cellAt k (by omega)
          rw [ints_get _ _ (by rw [hUl]; omega), get_snoc _ _ _ (by rw [UL.out]; omega), UL.out, if_pos rfl] at c0
          have z0 := hu.frozenAt k
          have hc6 : c6 ≤ maxLen := by
            rcases hu.2 with ⟨h0, _⟩ | ⟨g3, c3, _, e3, _, _, _, h3, _⟩
            · simp at h0
            · simp only [Value.slice.injEq] at e3; rw [e3.2.2]; exact h3
          unfold maxLen at hc6
          have H7 := Lib.hid ((H6.out.swap.setT (g := g6) (cap := c6) (by rw [hUl]) k 1 noR no3).swap)
          have i4 : (k : Int) < ((k + 1 : Nat) : Int) := by omega
          clear hu H6 hUl
          go_wp2_with fail
          obtain ⟨lg, wh, few, k1, k2, k3, k4, k5, k6⟩ := HT.out.tk
          refine (recv_any t k k _ (H7.out.lw.tk (by simp) k1.len) k1 (Int.le_refl _) (by omega) k2 k3 i0 (by omega) (by omega)).mono ?_
          rintro e w8 ⟨rfl, zs2, n2, T2, ok2, hcov, ht2⟩
          have H8 := Lib.hid (show Mid w w8 b M t k (.slice a5 (k + 1) c5) (.slice (some ⟨g6, 0, none⟩) (k + 1) c6) (T ++ [0]) from
            ⟨_, (U ++ [0]).set k 1, zs2, n2, by simp [UL.out], H7.out.keep (H7.out.lw.turnK T2 ht2 (by intro x hx; simp at hx; rcases hx with rfl | rfl <;> show (3 : Nat) ≠ 92 <;> decide) (by simp) ht0), HT.out.come (fun p hp => (BN.out p hp).2) ⟨k, k, 0, true, .slice none 0 0⟩ rfl ok2 k6 hcov⟩)
          clear k1 k2 k3 k4 k5 k6 T2 ok2 hcov ht2 H7
          go_wp2_with fail
          go_meet
          exact H8
        | false =>
          have H8 := Lib.hid (show Mid w w6 b M t k (.slice a5 (k + 1) c5) (.slice a6 (k + 1) c6) (T ++ [0]) from
            ⟨_, U ++ [0], zs, n, by simp [UL.out], H6.out, HT.out.lost (fun p hp => (BN.out p hp).2) ⟨k, k, 0, true, .slice none 0 0⟩ rfl⟩)
          clear H6
          go_wp2_with fail
          go_meet
          exact H8
      case rest =>
        obtain ⟨R2, U2, zs2, n2, hU2, hq, hok⟩ := hcut.out
        have HQ := Lib.hid hq
        have HO := Lib.hid hok
        have HU := Lib.hid hU2
        have HTl := Lib.hid (show (T ++ [(0 : Int)]).length = k + 1 from by rw [List.length_append, TL.out]; rfl)
        have HQ2 := Lib.hid (show Tq w wc b M R2 (.slice a5 (T ++ [(0 : Int)]).length c5) (T ++ [0]) (.slice a6 U2.length c6) U2 [] [(t, tkO zs2)] from by rw [HTl.out, hU2]; exact hq)
        clear hcut hq hok hU2 Y HT HD HC1 BN
        obtain ⟨rb, hrb⟩ : ∃ rb, l2[k]?.getD false = rb := ⟨_, rfl⟩
        have Y2 := Lib.hid (show k < l2.length → ∃ g2 o2, a2 = some ⟨g2, o2, none⟩ ∧ cap2 ≤ 9223372036854775807 ∧ wc.cell? ⟨g2, o2 + k, none⟩ = some (.bool rb) from fun h => by
          rcases HF2.out with h0 | ⟨g2, o2, e2, hc2, hg2, hcell2⟩
          · omega
          · exact ⟨g2, o2, e2, by unfold maxLen at hc2; exact hc2, by rw [← hrb]; exact (HQ.out.lw.bel.cell (p := ⟨g2, o2 + k, none⟩) hg2).trans (hcell2 k h)⟩)
        clear hrb HF2
        obtain ⟨cb, hcb⟩ : ∃ cb, cb = decide (((k : Int) + 1 < (l.length : Int) ∧ (k : Int) + 1 < 30) ∧ (l2.length ≤ k ∨ rb = false)) := ⟨_, rfl⟩
        have HCB := Lib.hid hcb
        clear hcb
        go_upto_region 19 with fail
        go_cut [84] from 28 to 108 (fun s84 w' => s84 = .bool cb ∧ w' = wc)
        case first =>
          by_cases c1 : (k : Int) + 1 < (l.length : Int)
          · by_cases c2 : (k : Int) + 1 < 30
            · by_cases c3 : k < l2.length
              · have c3' : decide (l2.length ≤ k) = false := decide_eq_false (by omega)
                obtain ⟨g2, o2, rfl, hc2, y2⟩ := Y2.out c3
                cases rb with
                | true =>
                  have E := Lib.hid (show cb = false from HCB.out.trans (decide_eq_false (by rintro ⟨_, h | h⟩; · omega
                                                                                             · cases h)))
                  go_wp2
                  go_meet
                  exact ⟨by rw [E.out], rfl⟩
                | false =>
                  have E := Lib.hid (show cb = true from HCB.out.trans (decide_eq_true ⟨⟨c1, c2⟩, .inr rfl⟩))
                  go_wp2
                  go_meet
                  exact ⟨by rw [E.out], rfl⟩
              · have E := Lib.hid (show cb = true from HCB.out.trans (decide_eq_true ⟨⟨c1, c2⟩, .inl (by omega)⟩))
                have c3' : (l2.length : Int) ≤ (k : Int) := by omega
                go_wp2
                go_meet
                exact ⟨by rw [E.out], rfl⟩
            · have E := Lib.hid (show cb = false from HCB.out.trans (decide_eq_false (by rintro ⟨⟨_, h⟩, _⟩; exact c2 h)))
              go_wp2
              go_meet
              exact ⟨by rw [E.out], rfl⟩
          · have E := Lib.hid (show cb = false from HCB.out.trans (decide_eq_false (by rintro ⟨⟨h, _⟩, _⟩; exact c1 h)))
            go_wp2
            go_meet
            exact ⟨by rw [E.out], rfl⟩
        case rest =>
          obtain ⟨rfl, rfl⟩ := hcut
          clear Y2
          cases cb with
          | true =>
            have hc := of_decide_eq_true HCB.out.symm
            have e1 := Lib.hid hc.1
            clear hc HCB
            go_wp2_with fail
            go_roundw
            case rel => exact ⟨k + 1, R2, T ++ [0], U2, zs2, n2, a5, c5, a6, c6, by omega, by omega, by go_num, by rw [HTl.out], by rw [HU.out], HO.out, .inl (by have := e1.out; omega), HQ2.out⟩
            case measure => simp [intOf]; omega
          | false =>
            clear HCB
            obtain ⟨lg, wh, few, k1, k2, k3, k4, k5, k6⟩ := HO.out.tk
            have ok := Lib.hid k1
            have hTk := Lib.hid (HQ.out.lw.tk (t := t) (zs := zs2) (by simp) k1.len)
            clear k1 k2 k3 k6
            by_cases hn : n2 = 0
            · subst hn
              go_wp2_with fail
              refine (frame_none t k _ hTk.out ok.out.many).mono ?_
              rintro e w9 ⟨⟨v9, rfl, rfl⟩, hb9⟩
              have H9 := Lib.hid (HQ2.out.below hb9)
              clear hb9
              go_wp2_with fail
              go_roundw
              case rel => exact ⟨k + 1, R2, T ++ [0], U2, zs2, 0, a5, c5, a6, c6, by omega, by omega, by go_num, by rw [HTl.out], by rw [HU.out], HO.out, .inr (fun p _ => rfl), H9.out.below ((Below.refl _ w9).alloc (Nat.le_refl _) _)⟩
              case measure => simp [intOf]; omega
            · obtain ⟨dl, hdl⟩ : ∃ dl, dl = (if wh < (k : Int) then (k : Int) - wh else 0) := ⟨_, rfl⟩
              have FA := Lib.hid (frame_any t k wc hTk.out ok.out (by omega) i0 (by omega) k4 (by omega))
              rw [← hdl] at FA
              have d1 : 0 ≤ dl ∧ dl ≤ 30 := by
                rw [hdl]; split <;> omega
              have RG := Lib.hid (row_rg ok.out (by omega) (by push_cast; omega))
              have RT := Lib.hid (row_top ok.out (by omega))
              have NX := Lib.hid HO.out.nx
              have BN := Lib.hid (fun (p : Pk) (hp : p ∈ R2.l) => HQ.out.lw.ok.up.bnd p hp)
              have AK := Lib.hid (HO.out.ack BN.out k 1000)
              have h16 := ok.out.le
              clear hdl hTk ok k4 k5
              go_wp2_with fail
              refine FA.out.mono ?_
              rintro e w9 ⟨g9, rfl, hrow, hb9⟩
              have hlen := rowK_len zs2 n2 n2
              have H9 := Lib.hid ((((HQ.out.below hb9).lw.addRow (spR (.slice (some ⟨g9, 0, none⟩) n2 n2) (rowK zs2 n2 n2)) (fr_row hrow HQ.out.lw.bel.size) (show (51 : Nat) ≠ 75 by decide))).alloc (.cells (ackE dl (.slice (some ⟨g9, 0, none⟩) n2 n2)) 41) rfl)
              have HL := Lib.hid hlen
              clear hb9 hrow hlen FA
              have QQ := Lib.hid (H9.out.at List.mem_cons_self)
              simp only [ackE] at H9 QQ ⊢
              go_wp2_with (refine wpList_load_row rfl 41 _ rfl w9.heap.size rfl 41 _ (0, 0) _ QQ.out Tryz.underlying41 rfl size41 ?_)
              have SP := Lib.hid (H9.out.spans (v := .slice (some ⟨g9, 0, none⟩) n2 n2) (l := rowK zs2 n2 n2) (by simp) (by rw [HL.out]; omega))
              rw [HL.out] at SP
              refine (lw_ack H9.out dl (.slice (some ⟨g9, 0, none⟩) n2 n2) n2 (fF (rowK zs2 n2 n2)) (fT (rowK zs2 n2 n2)) k 1000 d1.1 (by omega) RG.out SP.out.1 i0 (by decide) (by omega) (by decide) (by rw [NX.out]; exact RT.out) SP.out.2.1).mono ?_
              rintro e w10 ⟨va, vl, rfl, na, nl, h⟩
              have NA := Lib.hid na
              have HX := Lib.hid (HQ.out.keep (lw_pick h))
              obtain ⟨tk1, lf1⟩ := HO.out.ack BN.out k 1000
              have T1 := Lib.hid tk1
              have L1 := Lib.hid lf1
              have FW := Lib.hid (HO.out.fewT (by omega))
              have IN := Lib.hid (HO.out.inT (l := R2.l.filter (akF n2 (fF (rowK zs2 n2 n2)) (fT (rowK zs2 n2 n2)))) (fun q hq => BN.out q (List.mem_filter.1 hq).1))
              have LL := Lib.hid (show (R2.l.filter (akF n2 (fF (rowK zs2 n2 n2)) (fT (rowK zs2 n2 n2)))).length ≤ 10000 from Nat.le_trans (List.length_filter_le _ _) (by have := HQ.out.lw.ok.len; have := HQ.out.lw.ok.n1; omega))
              have TL2 := Lib.hid tk1.tl
              clear h na nl H9 QQ SP HQ HQ2 tk1 lf1 AK
              go_wp2_with fail
              refine (tq_count HX.out (v := va) List.mem_cons_self NA.out IN.out FW.out LL.out noP no3).mono ?_
              rintro e w11 ⟨rfl, h⟩
              have HY := Lib.hid (h.sub (rows' := []) (os' := [(t, tkO zs2)]) (by simp) (by simp))
              clear h HX
              go_wp2_with fail
              go_roundw
              case rel => exact ⟨k + 1, _, _, U2, zs2, n2, a5, c5, a6, c6, by omega, by omega, by go_num, by rw [TL2.out], by rw [HU.out], T1.out, .inr L1.out, by rw [TL2.out, HU.out]; exact HY.out⟩
              case measure => simp [intOf]; omega
    · have LF := Lib.hid (show ∀ p ∈ R.l, covB zs n p.pn = false from HD.out.resolve_left (fun h => hlt h))
      have i0 : (0 : Int) ≤ (k : Int) := by omega
      have CI : (k : Int) < (l.length : Int) ∧ ((k : Int) < 30) = False ∨ ((k : Int) < (l.length : Int)) = False := by
        by_cases h : k < l.length
        · exact .inl ⟨by omega, eq_false (by omega)⟩
        · exact .inr (eq_false (by omega))
      clear HD hlt HF1 HF2
      rcases CI with ⟨i1, i2⟩ | i1
      all_goals
        go_wp2_with fail
        go_loopw [17] (fun i wr => ∃ j : Nat, j ≤ k ∧ i = .int .i64 j ∧ Tq w wr b M R (.slice ta k tc) T (.slice ua k uc) U [] [(t, tkO zs)]) (fun i _ => k - (intOf i).toNat)
        case atStart => exact ⟨0, by omega, rfl, HK.out⟩
        case round =>
          obtain ⟨j, hj, rfl, h⟩ := hrel
          have HJ := Lib.hid h
          clear h HK
          by_cases hjl : j < k
          · have hrt := HJ.out.t
            have hru := HJ.out.u
            rw [TL.out] at hrt
            rw [UL.out] at hru
            obtain ⟨gt, rfl, htc⟩ : ∃ gt, ta = some ⟨gt, 0, none⟩ ∧ tc ≤ maxLen := by
              rcases hrt.2 with ⟨_, h0⟩ | ⟨g2, _, _, e2, _, _, _, h3, _⟩
              · omega
              · simp only [Value.slice.injEq] at e2; exact ⟨g2, e2.1, by rw [e2.2.2]; exact h3⟩
            obtain ⟨gu, rfl, huc⟩ : ∃ gu, ua = some ⟨gu, 0, none⟩ ∧ uc ≤ maxLen := by
              rcases hru.2 with ⟨_, h0⟩ | ⟨g2, _, _, e2, _, _, _, h3, _⟩
              · omega
              · simp only [Value.slice.injEq] at e2; exact ⟨g2, e2.1, by rw [e2.2.2]; exact h3⟩
            have c0 := hrt.cellAt j (by omega)
            have d0 := hru.cellAt j (by omega)
            rw [ints_get _ _ (by rw [TL.out]; exact hjl)] at c0
            rw [ints_get _ _ (by rw [UL.out]; exact hjl)] at d0
            have hxy := (HT.out.t j hjl).2.1
            unfold maxLen at htc huc
            have i5 : (0 : Int) ≤ (j : Int) := by omega
            have i6 : (j : Int) < (k : Int) := by omega
            generalize T[j]?.getD 0 = x at *
            generalize U[j]?.getD 0 = y at *
            have i7 : (y < x) = False := eq_false (by omega)
            clear hrt hru hxy
            go_wp2_with fail
            go_quiet (fail)
            go_wp2
            go_roundw
            case rel => exact ⟨j + 1, by omega, by go_num, HJ.out.below (belowN (Below.refl _ _) _)⟩
            case measure => simp [intOf]; omega
          · obtain rfl : j = k := by omega
            have BN := Lib.hid (fun (p : Pk) (hp : p ∈ R.l) => HJ.out.lw.ok.up.bnd p hp)
            clear hjl hj
            go_wp2_with fail
            refine (lw_out HJ.out.lw).mono ?_
            rintro e w5 ⟨vo, rfl, no, h⟩
            have hpk := Lib.hid (h.row List.mem_cons_self no)
            have H5 := Lib.hid h
            clear h no
            obtain ⟨m, hm⟩ : ∃ m, R.l.length = m := ⟨_, rfl⟩
            have HM := Lib.hid hm
            have hm4 : m ≤ 10000 := by have := HJ.out.lw.ok.len; have := HJ.out.lw.ok.n1; omega
            have hvo : ∃ a c, vo = .slice a m c := by
              rcases hpk.out.form with ⟨rfl, e⟩ | ⟨g1, c1, cur, rfl, _⟩
              · rw [e] at hm; exact ⟨_, _, by rw [← hm]; rfl⟩
              · exact ⟨_, _, by rw [hm]⟩
            obtain ⟨oa, oc, rfl⟩ := hvo
            clear hm
            go_wp2_with fail
            go_loop [19] (fun i => ∃ q : Nat, q ≤ m ∧ i = .int .i64 q) (fun i => m - (intOf i).toNat)
            case atStart => exact ⟨0, by omega, rfl⟩
            case round =>
              obtain ⟨q, hq, rfl⟩ := hrel
              by_cases hql : q < m
              · have hql2 : q < R.l.length := by rw [HM.out]; exact hql
                rcases hpk.out.form with ⟨_, e⟩ | ⟨g1, c1, cur, e, hpos, hcap, hcm, _, _, hcell⟩
                · rw [e] at hql2; cases hql2
                · simp only [Value.slice.injEq] at e
                  obtain ⟨rfl, -, rfl⟩ := e
                  have q0 := (hcell q hql2).1
                  have hpn := BN.out (R.l[q]'hql2) (List.getElem_mem hql2)
                  have hcov := LF.out (R.l[q]'hql2) (List.getElem_mem hql2)
                  have NX := HT.out.nx
                  clear hcell hpos hcap
                  generalize R.l[q]'hql2 = p at *
                  obtain ⟨x, hx⟩ : ∃ x : Nat, p.pn = x := ⟨p.pn.toNat, by omega⟩
                  rw [hx] at q0 hpn hcov
                  have hxk : x < j := by omega
                  have hru := (h5u H5.out)
                  rw [UL.out] at hru
                  obtain ⟨gu, rfl, huc⟩ : ∃ gu, ua = some ⟨gu, 0, none⟩ ∧ uc ≤ maxLen := by
                    rcases hru.2 with ⟨_, h0⟩ | ⟨g2, _, _, e2, _, _, _, h3, _⟩
                    · omega
                    · simp only [Value.slice.injEq] at e2; exact ⟨g2, e2.1, by rw [e2.2.2]; exact h3⟩
                  have d0 := hru.cellAt x (by omega)
                  rw [ints_get _ _ (by rw [UL.out]; exact hxk)] at d0
                  have hy : (U[x]?.getD 0 == (1 : Int)) = false := by
                    rw [beq_eq_false_iff_ne]
                    intro h1
                    rw [(HT.out.c x hxk).1 h1] at hcov
                    cases hcov
                  unfold maxLen at huc hcm
                  generalize U[x]?.getD 0 = y at *
                  have i5 : (0 : Int) ≤ (q : Int) := by omega
                  have i6 : (q : Int) < (m : Int) := by omega
                  have i7 : ((x : Int) < 0) = False := eq_false (by omega)
                  have i8 : decide (j ≤ x) = false := decide_eq_false (by omega)
                  have i9 : (x : Int) < (j : Int) := by omega
                  clear hru hx hpn hcov NX
                  go_wp2_with fail
                  go_round
                  case rel => exact ⟨q + 1, by omega, by go_num⟩
                  case measure => simp [intOf]; omega
              · obtain rfl : q = m := by omega
                have HB := Lib.hid H5.out.bel
                clear hql hq
                go_wp2
                go_ret
                exact ⟨rfl, HB.out⟩
set_option maxRecDepth 100000 in
theorem bs_arg {H : Type} {enc : TypeId × Value → H} {W : World} {base : Nat} {v : Value} {d : DataW H} {p : List MemPlace} (hv : Value.okWide Tryz.prog W .any base 64 v) (h : DataW.Trod enc Tryz.prog W 0 (fun _ => true) true 64 v d p) :
    ∃ l : List Bool, BsAt W v l ∧ l.length ≤ maxLen := by
  obtain ⟨a, len, cap, rfl, hle, hc⟩ := bools_at Tryz.underlying64 Tryz.underlying4 (by kernel_rfl) hv h
  rcases hc with rfl | ⟨b, off, rfl, hm, hb, hcell⟩
  · exact ⟨[], ⟨a, cap, rfl, hle, .inl rfl⟩, by simp⟩
  · refine ⟨(List.range len).map (fun i => boolAt W b (off + i)), ⟨_, cap, by simp, by simpa using hle, .inr ⟨b, off, rfl, hm, hb, fun i hi => ?_⟩⟩, by rw [List.length_map, List.length_range]; exact Nat.le_trans hle hm⟩
    have hi : i < len := by simpa using hi
    rw [hcell i hi]
    rw [List.getElem?_map, List.getElem?_range hi]; rfl
set_option maxRecDepth 100000 in
theorem main {H : Type} {enc : TypeId × Value → H} (W : World) (base0 : Nat) (v0 : Value) (d0 : DataW H) (p0 : List MemPlace) (hv0 : Value.okWide Tryz.prog W .any base0 64 v0) (h0 : DataW.Trod enc Tryz.prog W 0 (fun _ => true) true 64 v0 d0 p0)
    (base1 : Nat) (v1 : Value) (d1 : DataW H) (p1 : List MemPlace) (hv1 : Value.okWide Tryz.prog W .any base1 64 v1) (h1 : DataW.Trod enc Tryz.prog W 0 (fun _ => true) true 64 v1 d1 p1) :
    Calls Tryz.prog 10 #[v0, v1] W fun e w' => e = .returned (.bool true) ∧ Below W.heap.size W w' := by
  obtain ⟨l0, ha, hm0⟩ := bs_arg hv0 h0
  obtain ⟨l1, hb, hm1⟩ := bs_arg hv1 h1
  exact walk v0 v1 l0 l1 W ha hb hm0 hm1
end Go.Proofs.YtafkndhnbnpahaaGreat.lossTracker
