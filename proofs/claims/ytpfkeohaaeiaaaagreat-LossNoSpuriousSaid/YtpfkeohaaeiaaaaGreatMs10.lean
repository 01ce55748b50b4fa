/- Texts Ns of this claim, one behind the other. -/
import Derived.Test.YtpfkeohaaeiaaaaGreatMs9
import Derived.Deep.RegionWith
import Derived.Test.YtpfkeohaaeiaaaaGreatMs6
import Derived.Deep.CutBlock
/- Law 13b: LossNoSpurious's walk. -/
namespace Go.Proofs.YtpfkeohaaeiaaaaGreat.lossNoSpurious
open Go.RowKit Go.WideShapes Go.ChangeShapes
/-- the numbers of burst j: it starts at the number of all earlier packets -/
def BsOk (B : List (Value × List Int)) : Prop := ∀ j (hj : j < B.length), (∃ a c, (B[j]'hj).1 = .slice a (B[j]'hj).2.length c) ∧ (B[j]'hj).2.length ≤ 3 ∧ ∃ kk, (B[j]'hj).2 = (pat (B[j]'hj).2.length kk).map (fun x : Nat => (totB (B.take j) : Int) + (x : Int))
theorem BsOk.snoc {B : List (Value × List Int)} (h : BsOk B) {lv : Value} {l : List Int} (hf : ∃ a c, lv = .slice a l.length c) (hl : l.length ≤ 3) (kk : Nat) (he : l = (pat l.length kk).map (fun x : Nat => (totB B : Int) + (x : Int))) : BsOk (B ++ [(lv, l)]) := by
  intro j hj
  by_cases hj2 : j < B.length
  · have := h j hj2
    rw [List.getElem_append_left hj2]
    rw [List.take_append_of_le_length (by omega)]
    exact this
  · have : j = B.length := by simp at hj; omega
    subst this
    rw [List.getElem_append_right (Nat.le_refl _), List.take_left]
    simp only [Nat.sub_self, List.getElem_cons_zero]
    exact ⟨hf, hl, kk, he⟩
theorem BsOk.form {B : List (Value × List Int)} (h : BsOk B) : ∀ x ∈ B, (∃ a c, x.1 = .slice a x.2.length c) ∧ x.2.length ≤ 3 := fun x hx => by
  obtain ⟨j, hj, rfl⟩ := List.getElem_of_mem hx
  exact ⟨(h j hj).1, (h j hj).2.1⟩
theorem base_pat (m : Nat) (hm : m ≤ 3) (c : Int) : (List.range m).map (fun x : Nat => c + (x : Int)) = (pat m 0).map (fun x : Nat => c + (x : Int)) := by
  have : m = 0 ∨ m = 1 ∨ m = 2 ∨ m = 3 := by omega
  rcases this with rfl | rfl | rfl | rfl <;> rfl
theorem swap_pat (m k : Nat) (hm : m ≤ 3) (h2 : 2 ≤ m) (hk : k < m) (c : Int) : (((List.range m).map (fun x : Nat => c + (x : Int))).set 0 (c + (k : Int))).set k (c + ((0 : Nat) : Int)) = (pat m k).map (fun x : Nat => c + (x : Int)) := by
  have : m = 2 ∨ m = 3 := by omega
  rcases this with rfl | rfl
  · have : k = 0 ∨ k = 1 := by omega
    rcases this with rfl | rfl <;> rfl
  · have : k = 0 ∨ k = 1 ∨ k = 2 := by omega
    rcases this with rfl | rfl | rfl <;> rfl
def osT (t eb : Nat) (zs : List Int) (E : Obj) : List (Nat × Obj) := [(t, tkO zs), (eb, E)]
theorem noT3 {t eb : Nat} {zs : List Int} {sm va la mi : Int} : NoT 3 (osT t eb zs (esO sm va la mi)) := fun x hx => by
  simp only [osT, List.mem_cons, List.not_mem_nil, or_false] at hx
  rcases hx with rfl | rfl
  · exact ⟨_, 70, rfl, by decide⟩
  · exact ⟨_, 65, rfl, by decide⟩
theorem noT22 {t eb : Nat} {zs : List Int} {sm va la mi : Int} : NoT 22 (osT t eb zs (esO sm va la mi)) := fun x hx => by
  simp only [osT, List.mem_cons, List.not_mem_nil, or_false] at hx
  rcases hx with rfl | rfl
  · exact ⟨_, 70, rfl, by decide⟩
  · exact ⟨_, 65, rfl, by decide⟩
abbrev rwB (bv : Value) (B : List (Value × List Int)) : List Rw := bvR bv B :: B.map bR
theorem rwB_e {bv : Value} {B : List (Value × List Int)} (T : TypeId) (h1 : T ≠ 22) (h2 : T ≠ 3) : ∀ x ∈ rwB bv B, x.e ≠ T := fun x hx => by
  rcases List.mem_cons.1 hx with e | hx
  · subst e; exact fun e => h1 e.symm
  · obtain ⟨y, _, rfl⟩ := List.mem_map.1 hx
    exact fun e => h2 e.symm
theorem burst_cell {w0 w : World} {b M k u bc : Nat} {ba : Option Addr} {R : Rc} {B : List (Value × List Int)} {os : List (Nat × Obj)} (h : Lw w0 w b M R (rwB (.slice ba k bc) B) os) (hBl : B.length = k) (hu : u < k) :
    ∃ gb, ba = some ⟨gb, 0, none⟩ ∧ bc ≤ 9223372036854775807 ∧ w.cell? ⟨gb, u, none⟩ = some (B[u]'(by omega)).1 := by
  have hr : w.ownsRow w0.heap.size 22 1 (.slice ba k bc) B.length (B.map (·.1)) := (h.rows _ List.mem_cons_self).1
  rw [hBl] at hr
  obtain ⟨gb, rfl, hc⟩ : ∃ gt, ba = some ⟨gt, 0, none⟩ ∧ bc ≤ maxLen := by
    rcases hr.2 with ⟨_, h0⟩ | ⟨g2, _, _, e2, _, _, _, h3, _⟩
    · omega
    · simp only [Value.slice.injEq] at e2; exact ⟨g2, e2.1, by rw [e2.2.2]; exact h3⟩
  refine ⟨gb, rfl, by unfold maxLen at hc; exact hc, ?_⟩
  rw [hr.cellAt u (by omega), List.getElem?_map, List.getElem?_eq_getElem (by omega)]
  rfl
/-- the number at index q of burst j -/
theorem burst_at {w0 w : World} {b M j q aj : Nat} {la : Option Addr} {lc : Nat} {bv : Value} {R : Rc} {B : List (Value × List Int)} {os : List (Nat × Obj)} (h : Lw w0 w b M R (rwB bv B) os) (hj : j < B.length) (he : (B[j]'hj).1 = .slice la aj lc) (hl : (B[j]'hj).2.length = aj) (hq : q < aj) :
    ∃ gl, la = some ⟨gl, 0, none⟩ ∧ lc ≤ 9223372036854775807 ∧ w.cell? ⟨gl, q, none⟩ = some (.int .i64 ((B[j]'hj).2[q]?.getD 0)) := by
  have hr : w.ownsRow w0.heap.size 3 1 (B[j]'hj).1 (B[j]'hj).2.length (ints (B[j]'hj).2) := (h.rows (bR (B[j]'hj)) (List.mem_cons_of_mem _ (List.mem_map_of_mem (List.getElem_mem hj)))).1
  rw [he, hl] at hr
  obtain ⟨gb, rfl, hc⟩ : ∃ gt, la = some ⟨gt, 0, none⟩ ∧ lc ≤ maxLen := by
    rcases hr.2 with ⟨_, h0⟩ | ⟨g2, _, _, e2, _, _, _, h3, _⟩
    · omega
    · simp only [Value.slice.injEq] at e2; exact ⟨g2, e2.1, by rw [e2.2.2]; exact h3⟩
  refine ⟨gb, rfl, by unfold maxLen at hc; exact hc, ?_⟩
  rw [hr.cellAt q (by omega), ints_get _ _ (by omega)]
theorem pat_get {l : List Int} {m kk : Nat} {c : Int} (h : l = (pat m kk).map (fun x : Nat => c + (x : Int))) (hm : m ≤ 3) {q : Nat} (hq : q < m) : l[q]?.getD 0 = c + (((pat m kk)[q]?.getD 0 : Nat) : Int) := by
  subst h
  rw [List.getElem?_map, List.getElem?_eq_getElem (by rw [pat_len m kk hm]; exact hq)]
  rfl
/-- behind the sending of a tick's packets -/
def Sent1 (w w' : World) (b M t eb u : Nat) (bv : Value) (B : List (Value × List Int)) (zs : List Int) (n : Nat) (c : Int) (E : Obj) : Prop :=
  ∃ R, NsOk R zs n c [] (cB B (u + 1)) (tauB B) 0 ∧ Lw w w' b M R (rwB bv B) (osT t eb zs E)
/-- behind a tick's arrivals -/
def Rec1 (w w' : World) (b M t eb d u : Nat) (bv : Value) (B : List (Value × List Int)) : Prop :=
  ∃ R zs n E, NsOk R zs n (cB B (u + 1 - 2 * d)) [] (cB B (u + 1)) (tauB B) 0 ∧ EstOk E d (cB B (u + 1 - 2 * d)) ∧ Lw w w' b M R (rwB bv B) (osT t eb zs E)
/-- behind the making of one burst -/
def Mk (w w' : World) (b M t eb q : Nat) (bv : Value) (B : List (Value × List Int)) (lv : Value) : Prop :=
  ∃ l, List.length l = q ∧ (∃ kk, l = (pat q kk).map (fun x : Nat => (totB B : Int) + (x : Int))) ∧ Bq w w' b M ⟨[], 0, -1⟩ bv B lv l (osT t eb (zs0 0) (esO 80 20 0 0))
set_option maxRecDepth 100000 in
set_option maxHeartbeats 40000000 in
theorem walk (vm vo : Value) (ms os : List Int) (delay : Int) (w : World) (hm : IntsAt .i64 w vm ms) (ho : IntsAt .i64 w vo os) (hmw : ∀ x ∈ ms, I64 x) (how : ∀ x ∈ os, I64 x) (hd : I64 delay) (hml : ms.length ≤ maxLen) (_hol : os.length ≤ maxLen) :
    Calls Tryz.prog 3 #[.int .i64 delay, vm, vo] w fun e w' => e = .returned (.bool true) ∧ Below w.heap.size w w' := by
  have PD := Lib.hid (fun w => pick_any delay 20 w hd.1 hd.2 (by decide) (by decide))
  have rd := pickF_range delay 20 (by decide)
  have HM := Lib.hid (And.intro hm hmw)
  have HO := Lib.hid (And.intro ho how)
  obtain ⟨ma, mc, rfl, _⟩ := hm.form
  obtain ⟨oa, oc, rfl, _⟩ := ho.form
  unfold maxLen at hml
  generalize pickF delay 20 = d0 at *
  obtain ⟨rd1, rd2⟩ := rd
  obtain ⟨d, hdd⟩ : ∃ d : Nat, (d : Int) = 1 + d0 := ⟨(1 + d0).toNat, by omega⟩
  have hd1 : 1 ≤ d := by omega
  have hd2 : d ≤ 20 := by omega
  clear hd hm ho hmw how
  go_enter Tryz.func3, Tryz.ntmps3
  go_wp2_with fail
  refine (sane_any _).mono ?_
  rintro e w1 ⟨rfl, hb1⟩
  have B1 := Lib.hid hb1
  clear hb1
  go_wp2_with fail
  refine (PD.out _).mono ?_
  rintro e w1' ⟨rfl, rfl⟩
  have e1 : 1 + d0 = (d : Int) := hdd.symm
  clear hdd PD
  go_wp2_with fail
  clear e1 rd1 rd2
  refine (lw_new2 (w0 := w) B1.out [] (by simp)).mono ?_
  rintro e w2 ⟨b, M, rfl, h, _⟩
  have H := Lib.hid h
  clear h B1
  go_wp2_with fail
  refine (es_new _).mono ?_
  rintro e w3 ⟨rfl, hw3⟩
  have H3 := Lib.hid (show Lw w w3 b M ⟨[], 0, -1⟩ [] [(w2.heap.size, esO 80 20 0 0)] from hw3 ▸ H.out.alloc (esO 80 20 0 0) rfl)
  have hb0 : w.heap.size ≤ w2.heap.size := H.out.bel.size
  generalize w2.heap.size = eb at *
  clear H hw3
  go_wp2_with fail
  refine (new_tr 0 (by decide) (by decide) _).mono ?_
  rintro e w4 ⟨rfl, hw4⟩
  have H4 := Lib.hid (show Lw w w4 b M ⟨[], 0, -1⟩ [] (osT w3.heap.size eb (zs0 0) (esO 80 20 0 0)) from hw4 ▸ H3.out.alloc (tkO (zs0 0)) rfl)
  have ht0 : w.heap.size ≤ w3.heap.size := H3.out.bel.size
  have hte : w3.heap.size ≠ eb := fun e => by have := heap_lt (H3.out.at List.mem_cons_self); omega
  generalize w3.heap.size = t at *
  clear H3 hw4
  go_wp2_with fail
  go_loopw [13, 14] (fun bv i wr => ∃ (k : Nat) (B : List (Value × List Int)) (a : Option Addr) (c : Nat), k ≤ ms.length ∧ k ≤ 30 ∧ i = .int .i64 k ∧ bv = .slice a B.length c ∧ B.length = k ∧ BsOk B ∧ Bk w wr b M ⟨[], 0, -1⟩ (.slice a B.length c) B (osT t eb (zs0 0) (esO 80 20 0 0))) (fun _ i _ => 30 - (intOf i).toNat)
  case atStart => exact ⟨0, [], none, 0, by omega, by omega, rfl, rfl, rfl, fun j hj => by simp at hj, H4.out.addRow (bvR _ []) (World.ownsRow_nil _ _ 22 1) (show (22 : Nat) ≠ 59 by decide)⟩
  case round =>
    obtain ⟨k, B, ba, bc, hk, hk3, rfl, rfl, hBl, hBs, h⟩ := hrel
    have HB := Lib.hid h
    have HBs := Lib.hid hBs
    have HBl := Lib.hid hBl
    have hbk : Bk w wr b M ⟨[], 0, -1⟩ (.slice ba k bc) B (osT t eb (zs0 0) (esO 80 20 0 0)) := by have := h; rw [hBl] at this; exact this
    have HK := Lib.hid hbk
    rw [hBl]
    clear h hBs hBl hbk H4
    by_cases hlt : k < ms.length ∧ k < 30
    · obtain ⟨hlt, hlt3⟩ := hlt
      have i0 : (0 : Int) ≤ (k : Int) := by omega
      have i1 : (k : Int) < (ms.length : Int) := by omega
      have i2 : (k : Int) < 30 := by omega
      obtain ⟨x, hx⟩ : ∃ x, ms[k]?.getD 0 = x := ⟨_, rfl⟩
      have hxw := HM.out.2 (ms[k]'hlt) (List.getElem_mem hlt)
      rw [show ms[k]'hlt = x by rw [← hx, List.getElem?_eq_getElem hlt]; rfl] at hxw
      obtain ⟨gm, om, rfl, hmc, hcell⟩ : ∃ gm om, ma = some ⟨gm, om, none⟩ ∧ mc ≤ 9223372036854775807 ∧ w.cell? ⟨gm, om + k, none⟩ = some (.int .i64 x) := by
        rcases HM.out.1 with ⟨_, _, e, _, e2⟩ | ⟨g, off, cap, e, _, _, hc, hcl⟩
        · rw [e2] at hlt; simp at hlt
        · simp only [Value.slice.injEq] at e
          exact ⟨g, off, e.1, by rw [e.2.2]; exact hc, by rw [← hx]; exact hcl k hlt⟩
      have HC := Lib.hid hcell
      have PX := Lib.hid (fun w => pick_any x 4 w hxw.1 hxw.2 (by decide) (by decide))
      have rx := pickF_range x 4 (by decide)
      obtain ⟨m, hmm⟩ : ∃ m : Nat, pickF x 4 = m := ⟨(pickF x 4).toNat, by omega⟩
      rw [hmm] at PX rx
      have hm3 : m ≤ 3 := by omega
      have hgm := World.block_lt_of_cell? _ _ hcell
      clear hx hxw hcell hmm rx
      go_wp2_with fail
      have H0 := Lib.hid (show Bq w wr b M ⟨[], 0, -1⟩ (.slice ba k bc) B (.slice none 0 0) ((List.range 0).map (fun x : Nat => (totB B : Int) + (x : Int))) (osT t eb (zs0 0) (esO 80 20 0 0)) from HK.out.start)
      clear HK HB
      go_loopw [15, 16] (fun lv i wx => ∃ (q : Nat) (a : Option Addr) (c : Nat), q ≤ m ∧ i = .int .i64 q ∧ lv = .slice a q c ∧ Bq w wx b M ⟨[], 0, -1⟩ (.slice ba k bc) B (.slice a q c) ((List.range q).map (fun x : Nat => (totB B : Int) + (x : Int))) (osT t eb (zs0 0) (esO 80 20 0 0))) (fun _ i _ => m - (intOf i).toNat)
      case atStart => exact ⟨0, none, 0, by omega, rfl, rfl, H0.out⟩
      case round =>
        obtain ⟨q, la, lc, hq, rfl, rfl, h⟩ := hrel
        have HQ := Lib.hid h
        clear h H0
        have y := (HQ.out.lw.bel.cell (p := ⟨gm, om + k, none⟩) hgm).trans HC.out
        by_cases hqm : q < m
        · have htot : totB B ≤ 90 := by
            have h1 := totB_le B 3 (fun x hx => (HBs.out.form x hx).2)
            have h2 := HBl.out
            omega
          have FI := Lib.hid (first_any _ (.slice ba k bc) B w.heap.size HQ.out.bb (fun x hx => (HBs.out.form x hx).1) (fun x hx => (HBs.out.form x hx).2) (by rw [HBl.out]; omega))
          have i5 : (q : Int) < (m : Int) := by omega
          have i6 : (0 : Int) ≤ (q : Int) := by omega
          go_wp2_with fail
          refine (PX.out _).mono ?_
          rintro e w5 ⟨rfl, rfl⟩
          go_wp2_with fail
          refine FI.out.mono ?_
          rintro e w5 ⟨rfl, rfl⟩
          clear FI y
          have HL := Lib.hid (show ((List.range q).map (fun x : Nat => (totB B : Int) + (x : Int))).length = q from by simp)
          have HS := Lib.hid (show (List.range q).map (fun x : Nat => (totB B : Int) + (x : Int)) ++ [(q : Int) + (totB B : Int)] = (List.range (q + 1)).map (fun x : Nat => (totB B : Int) + (x : Int)) from by rw [List.range_succ, List.map_append, Int.add_comm]; rfl)
          go_wp2_with (at_builtin; refine wpList_append_bl rfl _ _ rfl ((q : Int) + (totB B : Int)) (HQ.out.below ((Below.refl _ _).alloc (Nat.le_refl _) _)) rfl wr.heap.size rfl (heap_alloc_new _ _) q HL.out (by omega) noT3 ?_; intro a5 c5 w6 h5; rw [HS.out] at h5; have H5 := Lib.hid h5; clear h5)
          go_roundw
          case rel => exact ⟨q + 1, a5, c5, by omega, by go_num, rfl, H5.out⟩
          case measure => simp [intOf]; omega
        · obtain rfl : q = m := by omega
          have i5 : ((q : Int) < (q : Int)) = False := eq_false (by omega)
          go_upto_region 17 with (go_at_call 5; refine (PX.out _).mono ?_; rintro e w5 ⟨rfl, rfl⟩)
          clear y PX i5
          obtain ⟨cb, hcb⟩ : ∃ cb, cb = decide ((1 : Int) < (q : Int) ∧ (k : Int) < (os.length : Int)) := ⟨_, rfl⟩
          have HCB := Lib.hid hcb
          clear hcb
          go_cut [75] from 40 to 98 (fun s75 w' => s75 = .bool cb ∧ w' = wr)
          case first =>
            by_cases c1 : (1 : Int) < (q : Int)
            · by_cases c2 : k < os.length
              · have E := Lib.hid (show cb = true from HCB.out.trans (decide_eq_true ⟨c1, by omega⟩))
                have c3 : decide (k < os.length) = true := decide_eq_true c2
                go_wp2
                go_meet
                exact ⟨by rw [E.out], rfl⟩
              · have E := Lib.hid (show cb = false from HCB.out.trans (decide_eq_false (by rintro ⟨_, h⟩; omega)))
                have c3 : decide (k < os.length) = false := decide_eq_false c2
                go_wp2
                go_meet
                exact ⟨by rw [E.out], rfl⟩
            · have E := Lib.hid (show cb = false from HCB.out.trans (decide_eq_false (by rintro ⟨h, _⟩; exact c1 h)))
              go_wp2
              go_meet
              exact ⟨by rw [E.out], rfl⟩
          case rest =>
            obtain ⟨rfl, rfl⟩ := hcut
            go_upto_if 75 with fail
            go_cut [17] from 40 to 98 (fun s17 w' => Hid (Mk w w' b M t eb q (.slice ba k bc) B (.slice la q lc)))
            case first =>
              cases cb with
              | false =>
                have E := Lib.hid (show Mk w wc b M t eb q (.slice ba k bc) B (.slice la q lc) from ⟨_, by simp, ⟨0, base_pat q hm3 _⟩, HQ.out⟩)
                clear HQ HCB
                go_wp2_with fail
                go_meet
                exact E
              | true =>
                have hc := of_decide_eq_true HCB.out.symm
                have hq1 : 2 ≤ q := by omega
                have hko : k < os.length := by omega
                clear hc HCB
                obtain ⟨x2, hx2⟩ : ∃ x, os[k]?.getD 0 = x := ⟨_, rfl⟩
                have hxw := HO.out.2 (os[k]'hko) (List.getElem_mem hko)
                rw [show os[k]'hko = x2 by rw [← hx2, List.getElem?_eq_getElem hko]; rfl] at hxw
                obtain ⟨go, oo, rfl, hoc, hcell⟩ : ∃ gm om, oa = some ⟨gm, om, none⟩ ∧ oc ≤ 9223372036854775807 ∧ w.cell? ⟨gm, om + k, none⟩ = some (.int .i64 x2) := by
                  rcases HO.out.1 with ⟨_, _, e, _, e2⟩ | ⟨g, off, cap, e, _, _, hc, hcl⟩
                  · rw [e2] at hko; simp at hko
                  · simp only [Value.slice.injEq] at e
                    exact ⟨g, off, e.1, by rw [e.2.2]; exact hc, by rw [← hx2]; exact hcl k hko⟩
                have y := (HQ.out.lw.bel.cell (p := ⟨go, oo + k, none⟩) (World.block_lt_of_cell? _ _ hcell)).trans hcell
                have P2 := Lib.hid (fun w => pick_any x2 q w hxw.1 hxw.2 (by omega) (by omega))
                have rx := pickF_range x2 q (by omega)
                obtain ⟨kk, hkk⟩ : ∃ m : Nat, pickF x2 q = m := ⟨(pickF x2 q).toNat, by omega⟩
                rw [hkk] at P2 rx
                have hkq : kk < q := by omega
                clear hx2 hxw hcell hkk rx
                have j1 : (k : Int) < (os.length : Int) := by omega
                go_wp2_with (go_at_call 5; refine (P2.out _).mono ?_; rintro e w5 ⟨rfl, rfl⟩)
                clear y P2 j1
                have HL := Lib.hid (show ((List.range q).map (fun x : Nat => (totB B : Int) + (x : Int))).length = q from by simp)
                have hr := HQ.out.bl
                rw [HL.out] at hr
                obtain ⟨gl, rfl, hlc⟩ : ∃ gt, la = some ⟨gt, 0, none⟩ ∧ lc ≤ maxLen := by
                  rcases hr.2 with ⟨_, h0⟩ | ⟨g2, _, _, e2, _, _, _, h3, _⟩
                  · omega
                  · simp only [Value.slice.injEq] at e2; exact ⟨g2, e2.1, by rw [e2.2.2]; exact h3⟩
                have c0 := hr.cellAt 0 (by omega)
                have ck := hr.cellAt kk (by omega)
                have gt : ∀ j, j < q → (ints ((List.range q).map (fun x : Nat => (totB B : Int) + (x : Int))))[j]? = some (.int .i64 ((totB B : Int) + (j : Int))) := fun j hj => by
                  rw [ints_get _ _ (by rw [HL.out]; exact hj), List.getElem?_map, List.getElem?_range hj]
                  rfl
                rw [gt 0 (by omega)] at c0
                rw [gt kk hkq] at ck
                have z0 := hr.frozenAt 0
                have zk := hr.frozenAt kk
                obtain ⟨v0, hv0⟩ : ∃ v, (totB B : Int) + ((0 : Nat) : Int) = v := ⟨_, rfl⟩
                obtain ⟨vk, hvk⟩ : ∃ v, (totB B : Int) + (kk : Int) = v := ⟨_, rfl⟩
                rw [hv0] at c0
                rw [hvk] at ck
                have E0 := Lib.hid ((HQ.out.set (g := gl) (cap := lc) (by rw [HL.out]) 0 vk noT3))
                have E1 := Lib.hid (show Mk w ((wc.setCell ⟨gl, 0, none⟩ (.int .i64 vk)).setCell ⟨gl, kk, none⟩ (.int .i64 v0)) b M t eb q (.slice ba k bc) B (.slice (some ⟨gl, 0, none⟩) q lc) from
                  ⟨_, by rw [List.length_set, List.length_set, HL.out], ⟨kk, by rw [← swap_pat q kk hm3 hq1 hkq, hv0, hvk]⟩, E0.out.set (g := gl) (cap := lc) (by rw [List.length_set, HL.out]) kk v0 noT3⟩)
                have j2 : (kk : Int) < (q : Int) := by omega
                have j3 : (0 : Int) ≤ (kk : Int) := by omega
                have j4 : (0 : Int) < (q : Int) := by omega
                unfold maxLen at hlc
                have hr2 := E0.out.bl
                rw [List.length_set, HL.out] at hr2
                have dk := hr2.cellAt kk (by omega)
                have zk2 := hr2.frozenAt kk
                rw [ints_get _ _ (by rw [List.length_set, HL.out]; exact hkq), List.getElem?_set] at dk
                have dk2 : (if 0 = kk then if 0 < ((List.range q).map (fun x : Nat => (totB B : Int) + (x : Int))).length then some vk else none else ((List.range q).map (fun x : Nat => (totB B : Int) + (x : Int)))[kk]?).getD 0 = vk := by
                  by_cases h : 0 = kk
                  · rw [if_pos h, if_pos (by rw [HL.out]; omega)]; rfl
                  · rw [if_neg h, List.getElem?_map, List.getElem?_range hkq]
                    exact hvk
                rw [dk2] at dk
                clear hr gt hv0 hvk HQ E0 hr2 dk2
                go_region
                have E2 := Lib.hid (show Mk w ((wc.setCell ⟨gl, 0, none⟩ (.int .i64 vk)).setCell ⟨gl, kk, none⟩ (.int .i64 v0)).drew b M t eb q (.slice ba k bc) B (.slice (some ⟨gl, 0, none⟩) q lc) from by
                  obtain ⟨l, h1, h2, h3⟩ := E1.out
                  exact ⟨l, h1, h2, h3.below (Below.refl _ _).drew⟩)
                clear E1 dk zk2 c0 ck z0 zk
                go_wp2_with fail
                go_meet
                exact E2
            case rest =>
              obtain ⟨l, hl1, hl2, hq3⟩ := hcut.out
              have HL1 := Lib.hid hl1
              have HL2 := Lib.hid hl2
              have HQ3 := Lib.hid hq3
              clear hcut hl1 hl2 hq3 HQ HCB
              have k10 : k ≤ 10000 := by omega
              go_wp2_with (at_builtin; refine wpList_append_bb rfl _ _ rfl (bv := .slice ba k bc) (lv := .slice la q lc) (HQ3.out.below ((Below.refl _ _).alloc (Nat.le_refl _) _)) rfl wc.heap.size rfl (heap_alloc_new _ _) rfl k HBl.out k10 noT22 ?_; intro a7 c7 w7 h7; have H7 := Lib.hid h7; clear h7)
              have HLn := Lib.hid (show (B ++ [(Value.slice la q lc, l)]).length = k + 1 from by rw [List.length_append, HBl.out]; rfl)
              have HBn := Lib.hid (show BsOk (B ++ [(Value.slice la q lc, l)]) from by
                obtain ⟨kk, e⟩ := HL2.out
                exact HBs.out.snoc ⟨la, lc, by rw [HL1.out]⟩ (by rw [HL1.out]; exact hm3) kk (by rw [HL1.out]; exact e))
              go_roundw
              case rel => exact ⟨k + 1, B ++ [(Value.slice la q lc, l)], a7, c7, by omega, by omega, by go_num, by rw [HLn.out], HLn.out, HBn.out, by rw [HLn.out]; exact H7.out⟩
              case measure => simp [intOf]; omega
    · have N0 := Lib.hid (show ∃ N : Nat, N = k ∧ N ≤ 30 from ⟨k, rfl, hk3⟩)
      have CI : (k : Int) < (ms.length : Int) ∧ ((k : Int) < 30) = False ∨ ((k : Int) < (ms.length : Int)) = False := by
        by_cases h : k < ms.length
        · exact .inl ⟨by omega, eq_false (by omega)⟩
        · exact .inr (eq_false (by omega))
      have FI := Lib.hid (first_any wr (.slice ba k bc) B w.heap.size (HK.out.rows _ List.mem_cons_self).1 (fun x hx => (HBs.out.form x hx).1) (fun x hx => (HBs.out.form x hx).2) (by rw [HBl.out]; exact hk3))
      have htot : totB B ≤ 90 := by
        have h1 := totB_le B 3 (fun x hx => (HBs.out.form x hx).2)
        have h2 := HBl.out
        omega
      clear hlt HM HO HB N0
      go_upto_region 10 with fail
      go_cut [47] from 40 to 98 (fun s47 w' => s47 = .bool false ∧ w' = wr)
      case first =>
        rcases CI with ⟨i1, i2⟩ | i1
        all_goals
          go_wp2
          go_meet
          exact ⟨rfl, rfl⟩
      case rest =>
        obtain ⟨rfl, rfl⟩ := hcut
        clear CI
        go_wp2_with fail
        refine FI.out.mono ?_
        rintro e w5 ⟨rfl, rfl⟩
        go_wp2_with fail
        go_loopw [19] (fun i wx => ∃ (u : Nat) (R : Rc) (zs : List Int) (n : Nat) (E : Obj), u ≤ k + 2 * d ∧ i = .int .i64 u ∧ NsOk R zs n (cB B (u - 2 * d)) [] (cB B u) (tauB B) 0 ∧ EstOk E d (cB B (u - 2 * d)) ∧ Lw w wx b M R (rwB (.slice ba k bc) B) (osT t eb zs E)) (fun i _ => k + 2 * d - (intOf i).toNat)
        case atStart => exact ⟨0, ⟨[], 0, -1⟩, zs0 0, 0, esO 80 20 0 0, by omega, rfl, by rw [Nat.zero_sub, cB_zero]; exact NsOk.start 0 (by decide) (by decide) _ _, .inl ⟨by rw [Nat.zero_sub, cB_zero]; decide, rfl⟩, HK.out⟩
        case round =>
          obtain ⟨u, R, zs, n, E, hu, rfl, hns, hest, h⟩ := hrel
          have HL := Lib.hid h
          have HN := Lib.hid hns
          have HE := Lib.hid hest
          clear h hns hest HK
          have i5 : (0 : Int) ≤ (u : Int) := by omega
          by_cases hlt : u < k + 2 * d
          · have i6 : (u : Int) < (k : Int) + 2 * (d : Int) := by omega
            go_upto_if 113 with fail
            go_cut [20] from 101 to 198 (fun s20 w' => Hid (Sent1 w w' b M t eb u (.slice ba k bc) B zs n (cB B (u - 2 * d)) E))
            case first =>
              have hce : cB B k = (totB B : Int) := cB_end B k (by rw [HBl.out]; exact Nat.le_refl _)
              have hcm1 := cB_mono B (show u - 2 * d ≤ u by omega)
              by_cases huk : u < k
              · have hj : u < B.length := by rw [HBl.out]; exact huk
                obtain ⟨⟨a5, c5, e5⟩, hm3, _⟩ := HBs.out u hj
                have hcs := cB_succ B u hj
                have hcm2 := cB_mono B (show u + 1 ≤ k by omega)
                have huk' : decide (u < k) = true := decide_eq_true huk
                have huk2 : (u : Int) < (k : Int) := by omega
                have HU : Hid (∀ (wx : World) (R' : Rc) (os' : List (Nat × Obj)), Lw w wx b M R' (rwB (.slice ba k bc) B) os' → ∃ gb, ba = some ⟨gb, 0, none⟩ ∧ bc ≤ 9223372036854775807 ∧ wx.cell? ⟨gb, u, none⟩ = some (.slice a5 (B[u]'hj).2.length c5)) := Lib.hid (fun wx R' os' hx => by
                  obtain ⟨gb, h1, h2, h3⟩ := burst_cell hx HBl.out huk
                  exact ⟨gb, h1, h2, h3.trans (congrArg some e5)⟩)
                have TA := Lib.hid (fun (q : Nat) (hq : q < (B[u]'hj).2.length) => tauB_at B u hj (cB B u + (q : Int)) (by omega) (by omega))
                clear e5
                rw [huk']
                have hlim : cB B u + ((B[u]'hj).2.length : Int) ≤ 90 := by omega
                generalize (B[u]'hj).2.length = m at *
                have HCS := Lib.hid hcs
                clear hcs
                go_wp2_with fail
                go_loopw [20] (fun i wx => ∃ (q : Nat) (R' : Rc), q ≤ m ∧ i = .int .i64 q ∧ NsOk R' zs n (cB B (u - 2 * d)) [] (cB B u + (q : Int)) (tauB B) 0 ∧ Lw w wx b M R' (rwB (.slice ba k bc) B) (osT t eb zs E)) (fun i _ => m - (intOf i).toNat)
                case atStart => exact ⟨0, R, by omega, rfl, by have := HN.out; simpa using this, HL.out⟩
                case round =>
                  obtain ⟨q, R', hq, rfl, hn', hl'⟩ := hrel
                  have HL' := Lib.hid hl'
                  have HN' := Lib.hid hn'
                  obtain ⟨gb, rfl, hbc, cc⟩ := HU.out _ _ _ hl'
                  clear hn' hl' HL HN
                  have j0 : (0 : Int) ≤ (q : Int) := by omega
                  by_cases hqm : q < m
                  · have j1 : (q : Int) < (m : Int) := by omega
                    have hnx := Lib.hid HN'.out.nx
                    have TT := Lib.hid (TA.out q hqm)
                    go_wp2_with fail
                    refine (lw_next HL'.out).mono ?_
                    rintro e w5 ⟨rfl, rfl⟩
                    go_wp2_with fail
                    refine (lw_sent HL'.out ⟨R'.nx, u, 0, true, .slice none 0 0⟩ rfl rfl (by rw [hnx.out]; omega) ⟨i5, by show (u : Int) ≤ _; omega⟩ (Int.le_refl 0)).mono ?_
                    rintro e w6 ⟨rfl, h⟩
                    have H6 := Lib.hid h
                    have N6 := Lib.hid (show NsOk (R'.add ⟨R'.nx, u, 0, true, .slice none 0 0⟩) zs n (cB B (u - 2 * d)) [] (cB B u + ((q + 1 : Nat) : Int)) (tauB B) 0 from by
                      have := HN'.out.send (by omega) (fun a ha => by cases ha) ⟨R'.nx, u, 0, true, .slice none 0 0⟩ hnx.out TT.out.symm
                      rw [Int.add_assoc] at this
                      exact this)
                    clear h HL' HN' cc
                    go_wp2_with fail
                    go_roundw
                    case rel => exact ⟨q + 1, _, by omega, by go_num, N6.out, H6.out⟩
                    case measure => simp [intOf]; omega
                  · obtain rfl : q = m := by omega
                    have j1 : ((q : Int) < (q : Int)) = False := eq_false (by omega)
                    have F := Lib.hid (show Sent1 w wr b M t eb u (.slice (some ⟨gb, 0, none⟩) k bc) B zs n (cB B (u - 2 * d)) E from ⟨R', by rw [HCS.out]; exact HN'.out, HL'.out⟩)
                    clear HL' HN'
                    go_wp2_with fail
                    go_meet
                    exact F
              · have huk' : decide (u < k) = false := decide_eq_false huk
                have huk2 : ((u : Int) < (k : Int)) = False := eq_false (by omega)
                have e1 : cB B (u + 1) = cB B u := by rw [cB_end B (u + 1) (by rw [HBl.out]; omega), cB_end B u (by rw [HBl.out]; omega)]
                have F := Lib.hid (show Sent1 w wr b M t eb u (.slice ba k bc) B zs n (cB B (u - 2 * d)) E from ⟨R, by rw [e1]; exact HN.out, HL.out⟩)
                clear e1 HL HN
                go_wp2_with fail
                go_meet
                exact F
            case rest =>
              obtain ⟨R2, hn2, hl2⟩ := hcut.out
              have HL2 := Lib.hid hl2
              have HN2 := Lib.hid hn2
              clear hcut hl2 hn2 HL HN
              go_upto_if 133 with fail
              go_cut [21, 22, 23, 24, 25, 26, 27] from 101 to 198 (fun s21 s22 s23 s24 s25 s26 s27 w' => Hid (Rec1 w w' b M t eb d u (.slice ba k bc) B))
              case first =>
                by_cases hjd : 2 * d ≤ u
                · obtain ⟨j, hj⟩ : ∃ j, u = j + 2 * d := ⟨u - 2 * d, by omega⟩
                  have hjk : j < k := by omega
                  have hjB : j < B.length := by rw [HBl.out]; exact hjk
                  have ej : u - 2 * d = j := by omega
                  have ej1 : u + 1 - 2 * d = j + 1 := by omega
                  have hjd' : decide (2 * (d : Int) ≤ (u : Int)) = true := decide_eq_true (by omega)
                  have hjd2 : (2 * (d : Int) ≤ (u : Int)) = True := eq_true (by omega)
                  have hjd3 : (u : Int) - 2 * (d : Int) = (j : Int) := by omega
                  have hjd4 : (j : Int) < (k : Int) := by omega
                  have hjd5 : (0 : Int) ≤ (j : Int) := by omega
                  have NJ := Lib.hid (show NsOk R2 zs n (cB B j) [] (cB B (u + 1)) (tauB B) ((u : Int) - (d : Int)) from by
                    have := HN2.out
                    rw [ej] at this
                    obtain ⟨top, wh, few, k1, k2, k3, k4, _⟩ := this.tk
                    exact ⟨⟨top, wh, few, k1, k2, k3, k4, .inl rfl⟩, this.cov, this.lgc, this.lgm, this.lg0, this.nx, this.l⟩)
                  have EJ := Lib.hid (show EstOk E d (cB B j) from by have := HE.out; rw [ej] at this; exact this)
                  have FIN := Lib.hid (fun (w' : World) (R' : Rc) (zs' : List Int) (n' : Nat) (E' : Obj) (h1 : NsOk R' zs' n' (cB B (j + 1)) [] (cB B (u + 1)) (tauB B) 0) (h2 : EstOk E' d (cB B (j + 1))) (h3 : Lw w w' b M R' (rwB (.slice ba k bc) B) (osT t eb zs' E')) => (show Rec1 w w' b M t eb d u (.slice ba k bc) B from ⟨R', zs', n', E', by rw [ej1]; exact h1, by rw [ej1]; exact h2, h3⟩))
                  obtain ⟨⟨a5, c5, e5⟩, hm3, kk, hpat⟩ := HBs.out j hjB
                  have hcs := cB_succ B j hjB
                  have hcm2 := cB_mono B (show j + 1 ≤ u + 1 by omega)
                  have hce := cB_mono B (show u + 1 ≤ u + 1 + k by omega)
                  rw [cB_end B (u + 1 + k) (by rw [HBl.out]; omega)] at hce
                  have hc0 := cB_nonneg B j
                  have TA := Lib.hid (fun (x : Int) (h1 : cB B j ≤ x) (h2 : x < cB B j + ((B[j]'hjB).2.length : Int)) => tauB_at B j hjB x h1 (by omega))
                  obtain ⟨gb, eba, hbc, cc⟩ := burst_cell HL2.out HBl.out hjk
                  rw [e5] at cc
                  have HAT := Lib.hid (fun (wx : World) (R' : Rc) (os' : List (Nat × Obj)) (rows' : List Rw) (q : Nat) (hx : Lw w wx b M R' (rwB (.slice ba k bc) B) os') (hq : q < (B[j]'hjB).2.length) => burst_at hx hjB e5 rfl hq)
                  have HPL := Lib.hid (fun (q : Nat) (hq : q < (B[j]'hjB).2.length) => (show (B[j]'hjB).2[q]?.getD 0 = cB B j + (((pat (B[j]'hjB).2.length kk)[q]?.getD 0 : Nat) : Int) from pat_get hpat hm3 hq))
                  subst eba
                  clear e5 hpat HN2 HE ej ej1 hj
                  generalize (B[j]'hjB).2.length = m at *
                  have hlim : cB B j + (m : Int) ≤ 90 := by omega
                  have HCS := Lib.hid hcs
                  clear hcs
                  try rw [hjd']
                  go_wp2_with fail
                  go_loopw [22] (fun i wx => ∃ (q : Nat) (R' : Rc) (zs' : List Int) (n' : Nat) (E' : Obj), q ≤ m ∧ i = .int .i64 q ∧ NsOk R' zs' n' (cB B j) ((pat m kk).take q) (cB B (u + 1)) (tauB B) ((u : Int) - (d : Int)) ∧ EstOk E' d (cB B j + (q : Int)) ∧ Lw w wx b M R' (rwB (.slice (some ⟨gb, 0, none⟩) k bc) B) (osT t eb zs' E')) (fun i _ => m - (intOf i).toNat)
                  case atStart => exact ⟨0, R2, zs, n, E, by omega, rfl, NJ.out, by have := EJ.out; simpa using this, HL2.out⟩
                  case round =>
                    obtain ⟨q, R', zs', n', E', hq, rfl, hn', he', hl'⟩ := hrel
                    have HL' := Lib.hid hl'
                    have HN' := Lib.hid hn'
                    have HE' := Lib.hid he'
                    clear hn' he' hl' HL2 cc
                    have j0 : (0 : Int) ≤ (q : Int) := by omega
                    by_cases hqm : q < m
                    · have j1 : (q : Int) < (m : Int) := by omega
                      have hpl := pat_len m kk hm3
                      have NX := Lib.hid (nxt_of (m := m) (k := kk) (i := q) (by rw [hpl]; exact hqm))
                      have TS := Lib.hid (show (pat m kk).take (q + 1) = (pat m kk).take q ++ [(pat m kk)[q]?.getD 0] from by rw [List.take_add_one, List.getElem?_eq_getElem (by rw [hpl]; exact hqm)]; rfl)
                      have MB := Lib.hid (fun (x : Nat) (hx : x ∈ (pat m kk).take (q + 1)) => (pat_mem m kk hm3 x).1 (List.mem_of_mem_take hx))
                      have TL := Lib.hid (show ((pat m kk).take q).length ≤ 3 from by rw [List.length_take, hpl]; omega)
                      obtain ⟨gl, e5, hc5, cl⟩ := HAT.out _ _ _ [] q HL'.out hqm
                      rw [HPL.out q hqm] at cl
                      rw [TS.out] at MB
                      generalize (pat m kk)[q]?.getD 0 = a at *
                      subst e5
                      have ha2 := NX.out.a2
                      obtain ⟨pn, hpn⟩ : ∃ pn, cB B j + (a : Int) = pn := ⟨_, rfl⟩
                      have RC := Lib.hid (lw_recv (rows := rwB (.slice (some ⟨gb, 0, none⟩) k bc) B) HL'.out HN'.out NX.out hc0 (by omega) (by omega) (by omega) TL.out (rwB_e 70 (by decide) (by decide)) (fun e => hte e.symm) ht0)
                      have HPN := Lib.hid hpn
                      rw [hpn] at RC cl
                      clear hpl hpn
                      go_wp2_with fail
                      refine RC.out.mono ?_
                      rintro e w5 ⟨rfl, zs2, n2, top2, few2, g1, g2, g3, g4⟩
                      have hn1 : 1 ≤ n2 := by
                        have : covB zs2 n2 pn = true := by rw [g3, ← HPN.out]; simp
                        obtain ⟨kq, hkq, _⟩ := covB_iff.1 this
                        omega
                      have FR := Lib.hid (lw_frame g1 (t := t) (zs := zs2) (by simp) g2 hn1 (by omega) (by omega))
                      have G2 := Lib.hid (And.intro g2 (And.intro g3 g4))
                      clear g1 g2 g3 g4 RC cl
                      go_wp2_with fail
                      refine FR.out.mono ?_
                      rintro e w6 ⟨g9, rfl, h⟩
                      have hel := heap_lt (h.at (List.mem_cons_of_mem _ List.mem_cons_self))
                      have H6 := Lib.hid (h.alloc (.cells (ackE 0 (.slice (some ⟨g9, 0, none⟩) n2 n2)) 43) rfl)
                      clear h FR
                      simp only [ackE]
                      go_wp2_with fail
                      have H7 := Lib.hid (H6.out.sub (rows' := spR (.slice (some ⟨g9, 0, none⟩) n2 n2) (rowK zs2 n2 n2) :: rwB (.slice (some ⟨gb, 0, none⟩) k bc) B) (os' := (t, tkO zs2) :: (eb, E') :: [(w6.heap.size, .cells (ackE 0 (.slice (some ⟨g9, 0, none⟩) n2 n2)) 43)]) (fun _ hx => hx) (by
                        intro x hx
                        simp only [List.mem_cons, List.not_mem_nil, or_false] at hx ⊢
                        rcases hx with rfl | rfl | rfl <;> simp))
                      have hfe : w6.heap.size ≠ eb := by
                        have hel : eb < w6.heap.size := hel
                        omega
                      refine (lw_sample H7.out HE'.out hd1 hd2 (by omega) (fun x hx => by
                        rcases List.mem_cons.1 hx with e | hx
                        · subst e; exact (by decide : (54 : Nat) ≠ 65)
                        · exact rwB_e 65 (by decide) (by decide) x hx) hte (by simpa using hfe) hb0 _ rfl).mono ?_
                      rintro e w8 ⟨rfl, E8, he8, h8⟩
                      have H8 := Lib.hid h8
                      have HE8 := Lib.hid he8
                      have hE8 : Hid (EstOk E8 d (cB B j + ((q + 1 : Nat) : Int))) := Lib.hid (by have := he8; rw [Int.add_assoc] at this; exact this)
                      generalize hfb : w6.heap.size = fb at *
                      clear h8 he8 H6 H7 hel hfe hfb
                      go_upto_region 40 with fail
                      go_cut [25, 26, 27] from 141 to 191 (fun s25 s26 s27 w' => s26 = .slice none 0 0 ∧ s27 = .int .i64 0 ∧ Hid (∃ R8, NsOk R8 zs2 n2 (cB B j) ((pat m kk).take (q + 1)) (cB B (u + 1)) (tauB B) ((u : Int) - (d : Int)) ∧ Lw w w' b M R8 (rwB (.slice (some ⟨gb, 0, none⟩) k bc) B) (osT t eb zs2 E8)))
                      case first =>
                        have DL := Lib.hid (lw_delay (H8.out.below (Below.refl _ w8).drew) HE8.out hd1 hd2)
                        have AK : Hid (∀ (dl : Int) (w9 : World), 0 ≤ dl → dl ≤ 1000 → (0 < cB B j + (q : Int) + 1 → 2 * (d : Int) < dl) → Below w8.heap.size w8.drew w9 →
                            Calls Tryz.prog 15 #[.pointer (some ⟨b, 0, none⟩), .int .i64 u, .agg #[.int .i64 2, .int .i64 0, .int .i64 0, .string ⟨#[]⟩, .bool false, .int .i64 0, .int .i64 0, .bool false, .int .i64 0, .slice (some ⟨g9, 0, none⟩) n2 n2, .int .i64 0, .int .i64 0, .string ⟨#[]⟩], .int .i64 dl] w9
                              fun e w' => ∃ va, e = .returned (.tuple #[va, .slice none 0 0, .int .i64 0]) ∧ ∃ R8, NsOk R8 zs2 n2 (cB B j) ((pat m kk).take (q + 1)) (cB B (u + 1)) (tauB B) ((u : Int) - (d : Int)) ∧ Lw w w' b M R8 (rwB (.slice (some ⟨gb, 0, none⟩) k bc) B) (osT t eb zs2 E8)) := Lib.hid (fun dl w9 d0 d1 d2 hb9 => by
                          have hcs := HCS.out
                          refine (lw_ackn (m := m) (j := (j : Int)) ((H8.out.below (Below.refl _ w8).drew).below hb9) List.mem_cons_self HN'.out hc0 G2.out.1 (fun x => by rw [G2.out.2.1, HPN.out]) G2.out.2.2 (by omega) (by omega) MB.out hm3 TA.out (by have := d2 (by omega); omega) (by omega) (by omega) i5 (by omega) d0 d1).mono ?_
                          rintro e w' ⟨va, rfl, R8, h1, h2⟩
                          refine ⟨va, rfl, R8, by rw [TS.out]; exact h1, h2.sub (fun x hx => List.mem_cons_of_mem _ hx) (fun x hx => ?_)⟩
                          simp only [osT, List.mem_cons, List.not_mem_nil, or_false] at hx ⊢
                          rcases hx with rfl | rfl <;> simp)
                        have hF := H8.out.at (k := fb) (o := .cells (ackE 0 (.slice (some ⟨g9, 0, none⟩) n2 n2)) 43) (by simp)
                        have hfl : fb < w8.drew.heap.size := heap_lt hF
                        have y0 := at_whole hF 0 rfl
                        have y1 := at_whole hF 1 rfl
                        have y2 := at_whole hF 2 rfl
                        have y3 := at_whole hF 3 rfl
                        have y4 := at_whole hF 4 rfl
                        have y5 := at_whole hF 5 rfl
                        have y6 := at_whole hF 6 rfl
                        have y7 := at_whole hF 7 rfl
                        have y8 := at_whole hF 8 rfl
                        have y9 := at_whole hF 9 rfl
                        have y10 := at_whole hF 10 rfl
                        have y11 := at_whole hF 11 rfl
                        have y12 := at_whole hF 12 rfl
                        simp only [ackE, List.getElem_toArray, List.getElem_cons_zero, List.getElem_cons_succ] at y0 y1 y2 y3 y4 y5 y6 y7 y8 y9 y10 y11 y12
                        clear hF H8 HL' HN' HE' HE8 G2 MB TL NX
                        go_region_with (first
                          | (go_at_call 16; refine (DL.out).mono ?_; rintro e w9 ⟨dl, rfl, dl0, dl1, dl2, hb9⟩; have hcc : ∀ o, w9.cell? ⟨fb, o, none⟩ = w8.cell? ⟨fb, o, none⟩ := fun o => hb9.cell (p := ⟨fb, o, none⟩) hfl; have HD := Lib.hid (And.intro dl0 (And.intro dl1 (And.intro dl2 hb9))); clear dl0 dl1 dl2 hb9)
                          | (go_at_call 15; refine (AK.out _ _ HD.out.1 HD.out.2.1 HD.out.2.2.1 HD.out.2.2.2).mono ?_; rintro e w10 ⟨va, rfl, hP⟩; have HP := Lib.hid hP; clear hP))
                        all_goals
                          clear hcc y0 y1 y2 y3 y4 y5 y6 y7 y8 y9 y10 y11 y12 AK DL HD HAT HPL FIN
                          simp only [Act.put, List.getElem_toArray, List.getElem_cons_succ, List.getElem_cons_zero, List.setIfInBounds_toArray, List.set_cons_succ, List.set_cons_zero]
                          rename_i Kx hKx
                          refine hKx _ _ ?_
                          go_meet
                          exact ⟨rfl, rfl, HP⟩
                      case rest =>
                        obtain ⟨rfl, rfl, hc⟩ := hcut
                        obtain ⟨R8, hn8, hl8⟩ := hc.out
                        have HN8 := Lib.hid hn8
                        have HL8 := Lib.hid hl8
                        clear hc hn8 hl8 H8 HL' HN' HE' HE8
                        go_wp2_with fail
                        go_roundw
                        case rel => exact ⟨q + 1, R8, zs2, n2, E8, by omega, by go_num, HN8.out, hE8.out, HL8.out⟩
                        case measure => simp [intOf]; omega
                    · obtain rfl : q = m := by omega
                      have j1 : ((q : Int) < (q : Int)) = False := eq_false (by omega)
                      have N5 := Lib.hid (show NsOk R' zs' n' (cB B (j + 1)) [] (cB B (u + 1)) (tauB B) 0 from by
                        have h1 := HN'.out
                        rw [List.take_of_length_le (by rw [pat_len q kk hm3]; exact Nat.le_refl _)] at h1
                        have h2 := h1.full hm3 hc0 0
                        rw [HCS.out]
                        exact h2)
                      have F := Lib.hid (FIN.out _ _ _ _ _ N5.out (by rw [HCS.out]; exact HE'.out) HL'.out)
                      clear HL' HN' HE' N5
                      go_wp2_with fail
                      go_meet
                      exact F
                · have hjd' : decide (2 * (d : Int) ≤ (u : Int)) = false := decide_eq_false (by omega)
                  have hjd2 : (2 * (d : Int) ≤ (u : Int)) = False := eq_false (by omega)
                  have F := Lib.hid (show Rec1 w wc b M t eb d u (.slice ba k bc) B from ⟨R2, zs, n, E, by
                    have := HN2.out
                    rw [show u - 2 * d = 0 by omega] at this
                    rw [show u + 1 - 2 * d = 0 by omega]
                    exact this, by
                    have := HE.out
                    rw [show u - 2 * d = 0 by omega] at this
                    rw [show u + 1 - 2 * d = 0 by omega]
                    exact this, HL2.out⟩)
                  clear HN2 HE HL2
                  go_wp2_with fail
                  go_meet
                  exact F
              case rest =>
                obtain ⟨R3, zs3, n3, E3, hn3, he3, hl3⟩ := hcut.out
                have HL3 := Lib.hid hl3
                have HN3 := Lib.hid hn3
                have HE3 := Lib.hid he3
                have BN := Lib.hid (fun (p : Pk) (hp : p ∈ R3.l) => HL3.out.ok.up.bnd p hp)
                clear hcut hl3 hn3 he3 HL2 HN2
                go_wp2_with fail
                refine (lw_delay HL3.out HE3.out hd1 hd2).mono ?_
                rintro e w8 ⟨dl, rfl, dl0, dl1, _, hb8⟩
                have H8 := Lib.hid (HL3.out.below hb8)
                clear hb8 HL3
                go_wp2_with fail
                refine (lw_exp H8.out u dl i5 (by omega) dl0 (by omega)).mono ?_
                rintro e w9 ⟨v, rfl, nv, h⟩
                have QT := HN3.out.quiet (fun p hp => (BN.out p hp).1) u dl
                rw [QT.1] at nv h
                rw [QT.2] at h
                obtain rfl := nv.2 rfl
                have H9 := Lib.hid (h.sub (rows' := rwB (.slice ba k bc) B) (fun x hx => List.mem_cons_of_mem _ hx) (fun _ hx => hx))
                clear h nv QT H8
                go_wp2_with fail
                go_roundw
                case rel => exact ⟨u + 1, R3, zs3, n3, E3, by omega, by go_num, HN3.out, HE3.out, H9.out⟩
                case measure => simp [intOf]; omega
          · have i6 : ((u : Int) < (k : Int) + 2 * (d : Int)) = False := eq_false (by omega)
            have ek : u - 2 * d = k := by omega
            have c1 := cB_end B k (by rw [HBl.out]; exact Nat.le_refl _)
            have c2 := cB_end B u (by rw [HBl.out]; omega)
            have hnn := HN.out
            rw [ek, c1, c2] at hnn
            have hee := HE.out
            rw [ek, c1] at hee
            have hl0 := hnn.done (fun p hp => HL.out.ok.up.bnd p hp) (Int.le_refl _)
            have hnx := Lib.hid hnn.nx
            have HL0 := Lib.hid hl0
            clear ek c1 c2 hnn hl0 HN HE
            rcases hee with ⟨z0, _⟩ | ⟨z0, v, hv0, hv1, rfl⟩
            · have tz : totB B = 0 := by omega
              have z1 : ((totB B : Int) == 0) = true := by rw [tz]; rfl
              have z2 : (totB B == 0) = true := by rw [tz]; rfl
              clear z0 tz
              go_wp2_with fail
              refine (lw_out HL.out).mono ?_
              rintro e w5 ⟨vo, rfl, no, h⟩
              rw [HL0.out] at no h
              obtain rfl := no.2 rfl
              have H5 := Lib.hid h
              clear h no HL
              go_wp2_with fail
              refine (lw_next H5.out).mono ?_
              rintro e w6 ⟨rfl, rfl⟩
              rw [hnx.out]
              have HB5 := Lib.hid H5.out.bel
              clear H5
              go_wp2_with fail
              go_ret
              exact ⟨rfl, HB5.out⟩
            · have z1 : ((totB B : Int) == 0) = false := beq_eq_false_iff_ne.2 (by omega)
              have z2 : (totB B == 0) = false := beq_eq_false_iff_ne.2 (by omega)
              clear z0
              go_wp2_with fail
              refine (lw_out HL.out).mono ?_
              rintro e w5 ⟨vo, rfl, no, h⟩
              rw [HL0.out] at no h
              obtain rfl := no.2 rfl
              have H5 := Lib.hid h
              clear h no HL
              go_wp2_with fail
              refine (lw_next H5.out).mono ?_
              rintro e w6 ⟨rfl, rfl⟩
              rw [hnx.out]
              have HB5 := Lib.hid H5.out.bel
              have HE5 := Lib.hid (H5.out.at (k := eb) (o := esO (8 * (2 * (d : Int))) v (2 * (d : Int)) (2 * (d : Int))) (by simp [osT]))
              have e8 := Lib.hid (show 8 * (2 * (d : Int)) / 8 = 2 * (d : Int) by omega)
              clear H5
              go_wp2_with fail
              refine (es_smoothed eb _ _ _ _ _ HE5.out (by omega) (by omega)).mono ?_
              rintro e w7 ⟨rfl, rfl⟩
              rw [e8.out]
              go_wp2_with fail
              refine (es_min eb _ _ _ _ _ HE5.out).mono ?_
              rintro e w7 ⟨rfl, rfl⟩
              go_wp2_with fail
              go_ret
              exact ⟨rfl, HB5.out⟩
set_option maxRecDepth 100000 in
theorem main {H : Type} {enc : TypeId × Value → H} (W : World) (base0 : Nat) (v0 : Value) (d0 : DataW H) (p0 : List MemPlace) (hv0 : Value.okWide Tryz.prog W .any base0 3 v0) (h0 : DataW.Trod enc Tryz.prog W 0 (fun _ => true) true 3 v0 d0 p0)
    (base1 : Nat) (v1 : Value) (d1 : DataW H) (p1 : List MemPlace) (hv1 : Value.okWide Tryz.prog W .any base1 22 v1) (h1 : DataW.Trod enc Tryz.prog W 0 (fun _ => true) true 22 v1 d1 p1)
    (base2 : Nat) (v2 : Value) (d2 : DataW H) (p2 : List MemPlace) (hv2 : Value.okWide Tryz.prog W .any base2 22 v2) (h2 : DataW.Trod enc Tryz.prog W 0 (fun _ => true) true 22 v2 d2 p2) :
    Calls Tryz.prog 3 #[v0, v1, v2] W fun e w' => e = .returned (.bool true) ∧ Below W.heap.size W w' := by
  obtain ⟨a0, rfl, _, _, w0⟩ := open_int Tryz.underlying3 hv0 h0
  obtain ⟨ms, hm, hml, hmw⟩ := ints_at Tryz.underlying22 Tryz.underlying3 (by kernel_rfl) hv1 h1
  obtain ⟨os, ho, hol, how⟩ := ints_at Tryz.underlying22 Tryz.underlying3 (by kernel_rfl) hv2 h2
  exact walk v1 v2 ms os a0 W hm ho (fun x hx => bounds_i64 (hmw x hx)) (fun x hx => bounds_i64 (how x hx)) (bounds_i64 w0) hml hol
end Go.Proofs.YtpfkeohaaeiaaaaGreat.lossNoSpurious
