/- Texts Loa Lob Lme Lmf Lmg Lmi Lrt of this claim, one behind the other. -/
import Derived.Test.YtpfkeohaaeiaaaaGreatDoorRc29
import Derived.Test.YtpfkeohaaeiaaaaGreatDoorRc21
import Derived.Test.YtpfkeohaaeiaaaaGreatDoorRc7
import Derived.StillTailTactics
import Derived.Deep.DeepCutAuto
import Derived.Deep.CutBlock
import Derived.Test.YtpfkeohaaeiaaaaGreatDoorRc8
import Derived.Test.YtpfkeohaaeiaaaaGreatDoorRc23
import Derived.Test.YtpfkeohaaeiaaaaGreatDoorRc18
/- SendBufCongestion: a row of packets, read for its numbers (CR); sizeOf; Outstanding at packets with a frame each. -/
namespace Go.Proofs.YtpfkeohaaeiaaaaGreatDoor
open Go.RowKit Go.Maps
set_option maxRecDepth 100000
/-- the packets' numbers in a block's cells; from packet j on its frames too -/
def CI (l : List frm.Pk) (j : Nat) (cur : Array Value) : Prop := ∀ k (hk : k < l.length), cur[k * 5]? = some (.int .i64 (l[k]'hk).pn) ∧ cur[k * 5 + 1]? = some (.int .i64 (l[k]'hk).time) ∧ cur[k * 5 + 2]? = some (.int .i64 (l[k]'hk).size) ∧ cur[k * 5 + 3]? = some (.bool (l[k]'hk).el) ∧ (j ≤ k → cur[k * 5 + 4]? = some (l[k]'hk).fv)
theorem CI.le {l : List frm.Pk} {j j' : Nat} {cur : Array Value} (h : CI l j cur) (hj : j ≤ j') : CI l j' cur := fun k hk => ⟨(h k hk).1, (h k hk).2.1, (h k hk).2.2.1, (h k hk).2.2.2.1, fun h1 => (h k hk).2.2.2.2 (by omega)⟩
theorem CI.set {l : List frm.Pk} {j : Nat} {cur : Array Value} (h : CI l j cur) (v : Value) : CI l (j + 1) (cur.setIfInBounds (j * 5 + 4) v) := fun k hk => by
  obtain ⟨h1, h2, h3, h4, h5⟩ := h k hk
  refine ⟨?_, ?_, ?_, ?_, fun hj => ?_⟩
  · rw [Array.getElem?_setIfInBounds_ne (by omega)]; exact h1
  · rw [Array.getElem?_setIfInBounds_ne (by omega)]; exact h2
  · rw [Array.getElem?_setIfInBounds_ne (by omega)]; exact h3
  · rw [Array.getElem?_setIfInBounds_ne (by omega)]; exact h4
  · rw [Array.getElem?_setIfInBounds_ne (by omega)]; exact h5 (by omega)
theorem CI.of {l : List frm.Pk} {cur : Array Value} (h : cur.toList.take (l.length * 5) = frm.pcs l) : CI l 0 cur := fun k hk => by
  have hc : ∀ j u, j < 5 → (l[k]'hk).cells.toList[j]? = some u → cur[k * 5 + j]? = some u := fun j u hj hu => by
    rw [← frm.pcs_at l k j hk hj, ← h, List.getElem?_take_of_lt (by omega)] at hu
    rw [← Array.getElem?_toList]; exact hu
  exact ⟨hc 0 _ (by decide) rfl, hc 1 _ (by decide) rfl, hc 2 _ (by decide) rfl, hc 3 _ (by decide) rfl, fun _ => hc 4 _ (by decide) rfl⟩
/-- v is a row that reads as the packets l, but perhaps for their frames -/
def CR (n : Nat) (w : World) (v : Value) (l : List frm.Pk) : Prop := (v = .slice none 0 0 ∧ l = []) ∨ ∃ (g cap : Nat) (cur : Array Value), v = .slice (some ⟨g, 0, none⟩) l.length cap ∧ l.length ≤ cap ∧ cap ≤ maxLen ∧ n ≤ g ∧ w.heap[g]? = some (.cells cur 49 (0, 0)) ∧ CI l l.length cur
theorem RowIn.cr {W w : World} {b : Nat} {F : Nat → Prop} {X : Wh} {H : Nat → Option Obj} {v : Value} {l : List frm.Pk} (h : RowIn H v l) (hw : Wn W w b F X H) : CR W.heap.size w v l := by
  rcases h with ⟨h1, h2⟩ | ⟨g, cap, cur, h1, h2, h3, h4, h5, h6⟩
  · exact .inl ⟨h1, h2⟩
  · exact .inr ⟨g, cap, cur, h1, h2, h3, (hw.far g _ h6).2.2, hw.at h6, (CI.of h5).le (Nat.zero_le _)⟩
/-- sizeOf's answer -/
def szOf (pn : Int) : List frm.Pk → Int
  | [] => 0
  | p :: l => if p.pn = pn then p.size else szOf pn l
theorem szOf_drop {pn : Int} {l : List frm.Pk} {j : Nat} (hj : j < l.length) : szOf pn (l.drop j) = if (l[j]'hj).pn = pn then (l[j]'hj).size else szOf pn (l.drop (j + 1)) := by
  rw [List.drop_eq_getElem_cons hj]; rfl
set_option maxHeartbeats 4000000 in
theorem sizeOf_any (n : Nat) (pn : Int) (l : List frm.Pk) (v : Value) (w : World) (h : CR n w v l) : Calls Tryz.prog 17 #[.int .i64 pn, v] w fun e w' => e = .returned (.int .i64 (szOf pn l)) ∧ w = w' := by
  rcases h with ⟨rfl, rfl⟩ | ⟨g, cap, cur, rfl, h1, h2, _, hg, hC⟩
  · go_enter Tryz.func17, Tryz.ntmps17
    go_wp2
    refine wp_loop_rounds 1 ?_
    rw [rounds_succ]
    go_wp2
    go_ret
    exact ⟨rfl, rfl⟩
  · have G := Lib.hid (And.intro hg hC)
    clear hg hC
    unfold maxLen at h2
    go_enter Tryz.func17, Tryz.ntmps17
    go_wp2
    go_loopw [5] (fun i wr => ∃ j : Nat, j ≤ l.length ∧ i = .int .i64 j ∧ szOf pn (l.drop j) = szOf pn l ∧ wr = w) (fun i _ => l.length - (intOf i).toNat)
    case atStart => exact ⟨0, by omega, rfl, rfl, rfl⟩
    case round =>
      obtain ⟨j, hj, rfl, hS, rfl⟩ := hrel
      have HS := Lib.hid hS
      clear hS
      by_cases hlt : j < l.length
      · obtain ⟨q1, q2, q3, q4, _⟩ := G.out.2 j hlt
        have c0 : wr.cell? ⟨g, j * 5, none⟩ = some (.int .i64 (l[j]'hlt).pn) := by obtain ⟨a, b⟩ := Array.getElem?_eq_some_iff.1 q1; rw [← b]; exact at_whole G.out.1 _ (by rw [Array.getElem?_eq_getElem a])
        have c2 : wr.cell? ⟨g, j * 5 + 2, none⟩ = some (.int .i64 (l[j]'hlt).size) := by obtain ⟨a, b⟩ := Array.getElem?_eq_some_iff.1 q3; rw [← b]; exact at_whole G.out.1 _ (by rw [Array.getElem?_eq_getElem a])
        have hS := HS.out
        rw [szOf_drop hlt] at hS
        have HS2 := Lib.hid hS
        clear hS HS q1 q2 q3 q4
        generalize l[j]'hlt = p at *
        by_cases hp : p.pn = pn
        · have hb : (p.pn == pn) = true := by rw [beq_iff_eq]; exact hp
          go_wp2
          go_ret
          have := HS2.out
          rw [if_pos hp] at this
          exact ⟨(by rw [← this]; rfl), rfl⟩
        · have hb : (p.pn == pn) = false := by rw [beq_eq_false_iff_ne]; exact hp
          go_wp2
          go_roundw
          case rel => exact ⟨j + 1, by omega, by go_num, (by have := HS2.out; rwa [if_neg hp] at this), trivial⟩
          case measure => simp [intOf]; omega
      · obtain rfl : j = l.length := by omega
        have hS := HS.out
        rw [List.drop_length] at hS
        have HS2 := Lib.hid hS
        clear hlt hS HS
        go_wp2
        go_ret
        exact ⟨by rw [← HS2.out]; rfl, rfl⟩
end Go.Proofs.YtpfkeohaaeiaaaaGreatDoor
/- SendBufCongestion: Outstanding at packets with a frame each. -/
namespace Go.Proofs.YtpfkeohaaeiaaaaGreatDoor
open Go.RowKit Go.Maps
set_option maxRecDepth 100000
set_option maxHeartbeats 4000000 in
theorem out_one {w : World} {b M : Nat} {R : frm.Rc} (hR : frm.RecAt w b M R) (ok : R.Ok) (hf : ∀ p ∈ R.l, ∃ f, FrAt w p.fv f ∧ f.cells.all (·.oneCell') = true ∧ f.ranges = .slice none 0 0) :
    Calls Tryz.prog 16 #[.pointer (some ⟨b, 0, none⟩)] w fun e w' => ∃ v, e = .returned v ∧ CR w.heap.size w' v R.l ∧ Below w.heap.size w w' := by
  have SEL := Lib.hid (frm.sel_any hR ok (k := 40) (lb := #[]) (f := fun _ => true) (fun p hp W hW => frm.want46 p W) frm.ek46)
  rw [frm.filter_true] at SEL
  have hlen : R.l.length ≤ 10000 := by have := ok.len; have := ok.n1; omega
  have CL : Hid (∀ p ∈ R.l, ∀ wx, Below w.heap.size w wx → (∃ a n c, p.fv = .slice a n c) ∧ Calls Tryz.prog 41 #[.agg (pkC p.pn p.time p.size p.el p.fv)] wx fun e w' => ∃ a n c, e = .returned (.agg (pkC p.pn p.time p.size p.el (.slice a n c))) ∧ Below wx.heap.size wx w') := Lib.hid (fun p hp wx hB => by
    obtain ⟨f, h1, h2, h3⟩ := hf p hp
    refine ⟨?_, (clone_one p.pn p.time p.size p.el p.fv f wx (h1.below hB) h2 h3).mono fun e w' ⟨v', q1, q2, _, q4⟩ => ?_⟩
    · obtain ⟨g, c, q, _⟩ := h1; exact ⟨_, _, _, q⟩
    · obtain ⟨g, c, rfl, _⟩ := q2; exact ⟨_, _, _, q1, q4⟩)
  clear hR ok hf
  generalize R.l = l at *
  go_enter Tryz.func16, Tryz.ntmps16
  go_wp2_with (go_at_call 39; refine (frm.all_any _ _).mono ?_; rintro e w' ⟨rfl, rfl⟩)
  refine SEL.out.mono ?_
  rintro e w1 ⟨v, rfl, hv, hb1⟩
  rcases hv.1.2 with ⟨rfl, hl0⟩ | ⟨g, cap, cur, rfl, hg, hgg, hcap, hm, hsz, htk⟩
  · have hz : l = [] := hv.2.1 rfl
    have H := Lib.hid hb1
    clear hv hb1
    go_wp2
    refine wp_loop_rounds 1 ?_
    rw [rounds_succ]
    go_wp2
    go_ret
    exact ⟨_, rfl, .inl ⟨rfl, hz⟩, H.out⟩
  · have H := Lib.hid (And.intro hb1 (And.intro hg (And.intro hgg (CI.of htk))))
    have hgn : w.heap.size ≤ g := hg
    clear hv hb1 hg hgg htk
    unfold maxLen at hm
    go_wp2
    go_loopw [11] (fun i wr => ∃ (j : Nat), j ≤ l.length ∧ i = .int .i64 j ∧ Hid (Below w.heap.size w wr ∧ ∃ cu : Array Value, wr.heap[g]? = some (.cells cu 49 (0, 0)) ∧ CI l j cu)) (fun i _ => l.length - (intOf i).toNat)
    case atStart => exact ⟨0, by omega, rfl, Lib.hid ⟨H.out.1, _, H.out.2.2.1, H.out.2.2.2⟩⟩
    case round =>
      obtain ⟨j, hj, rfl, hB⟩ := hrel
      by_cases hlt : j < l.length
      · obtain ⟨B, cu, G, C⟩ := hB.out
        clear hB
        have HB := Lib.hid (And.intro B (And.intro G C))
        have hz : ∀ i (u : Value), cu[i]? = some u → wr.cell? ⟨g, i, none⟩ = some u := fun i u hu => by obtain ⟨a, b⟩ := Array.getElem?_eq_some_iff.1 hu; rw [← b]; exact at_whole G _ (by rw [Array.getElem?_eq_getElem a])
        obtain ⟨q0, q1, q2, q3, q4⟩ := C j hlt
        have c0 := hz _ _ q0
        have c1 := hz _ _ q1
        have c2 := hz _ _ q2
        have c3 := hz _ _ q3
        have c4 := hz _ _ (q4 (Nat.le_refl _))
        have CC := Lib.hid (fun wx (hx : Below w.heap.size w wx) => CL.out (l[j]'hlt) (List.getElem_mem hlt) wx hx)
        obtain ⟨a0, n0, k0, hfv⟩ := (CC.out wr B).1
        clear B G C hz q0 q1 q2 q3 q4
        generalize l[j]'hlt = p at *
        obtain ⟨pn, time, size, el, fv⟩ := p
        obtain rfl : fv = .slice a0 n0 k0 := hfv
        simp only at c0 c1 c2 c3 c4 CC
        have X := Lib.hid (box1 wr (.cells (pkC pn time size el (.slice a0 n0 k0)) 49))
        unfold pkC at X CC
        go_wp2_with fail
        refine ((CC.out _ (by exact HB.out.1.trans (X.out.2.1.mono HB.out.1.size))).2).mono ?_
        rintro e w2 ⟨a9, n9, k9, rfl, hb2⟩
        have G2 := heap_below (X.out.2.1.trans (hb2.mono X.out.2.1.size)) HB.out.2.1
        have hk : ∀ k, w2.cell? ⟨g, k, none⟩ = wr.cell? ⟨g, k, none⟩ := fun k => World.cell?_of_block (a := ⟨g, k, none⟩) (G2.trans HB.out.2.1.symm)
        have s0 := frm.setCell_self ((hk _).trans c0)
        have s1 := frm.setCell_self ((hk _).trans c1)
        have s2 := frm.setCell_self ((hk _).trans c2)
        have s3 := frm.setCell_self ((hk _).trans c3)
        have e0 := (hk _).trans c0
        have e1 := (hk _).trans c1
        have e2 := (hk _).trans c2
        have e3 := (hk _).trans c3
        have e4 := (hk _).trans c4
        have fz : ∀ k, w2.frozen? ⟨g, k, none⟩ = false := fun k => frozen_whole G2 k
        have B2 := HB.out.1.trans ((X.out.2.1.trans (hb2.mono X.out.2.1.size)).mono HB.out.1.size)
        have NX : Hid (Below w.heap.size w (w2.setCell ⟨g, j * 5 + 4, none⟩ (.slice a9 n9 k9)) ∧ ∃ cu : Array Value, (w2.setCell ⟨g, j * 5 + 4, none⟩ (.slice a9 n9 k9)).heap[g]? = some (.cells cu 49 (0, 0)) ∧ CI l (j + 1) cu) := Lib.hid ⟨B2.setCell hgn _, _, heap_set _ G2, HB.out.2.2.set _⟩
        clear hk c0 c1 c2 c3 c4 hb2 G2 B2 hgn CC X
        go_wp2
        go_roundw
        case rel => exact ⟨j + 1, by omega, by go_num, NX⟩
        case measure => simp [intOf]; omega
      · obtain rfl : j = l.length := by omega
        clear hlt hgn
        go_wp2
        go_ret
        obtain ⟨B, cu, G, C⟩ := hB.out
        exact ⟨_, rfl, .inr ⟨g, cap, cu, rfl, hcap, hm, H.out.2.1, G, C⟩, B⟩
end Go.Proofs.YtpfkeohaaeiaaaaGreatDoor
/- SendBufReliable: a Link and all its parts, of the call's own; its laws. -/
namespace Go.Proofs.YtpfkeohaaeiaaaaGreatDoor
open Go.RowKit
set_option maxRecDepth 100000
def Lnk.cs (L : Lnk) (A : Lad) : Array Value := L.cells A.b A.rb A.bi A.tb
def recO (M : Nat) (K : frm.Rc) : Obj := .cells #[.map (some M), .int .i64 K.nx, .int .i64 K.lg] 80 (0, 0)
structure Ls (W w : World) (A : Lad) (F : Nat → Prop) (X : Wh) (K : frm.Rc) (hs : List Fr) (R : rea.Rb) (zs : List Int) (L : Lnk) (AV LV : List frm.Pk) (H : Nat → Option Obj) : Prop where
  wn : Wn W w A.b F X H
  hl : H A.lb = some (.cells (L.cs A) 35 (0, 0))
  hr : H A.rb = some (recO A.M K)
  hm : ∃ mo, H A.M = some mo ∧ frm.isC mo = false ∧ frm.MapPk w A.M K.nx.toNat K.l
  hb : H A.bi = some (.cells (R.cells A.g1 A.g2) 101 (0, 0))
  h1 : H A.g1 = some (rea.u8s R.bs)
  h2 : H A.g2 = some (rea.bls R.hs)
  ht : H A.tb = some (tkO zs)
  hlen : R.hs.length = R.bs.length
  sz : R.bs.length ≤ 8192
  zl : zs.length = 41
  fr : ∀ p ∈ K.l, FrIn H p.fv (frP hs p)
  ra : RowIn H L.av AV
  rl : RowIn H L.lv LV
  rd : ∀ k, L.av.ownBlock = some k → L.lv.ownBlock ≠ some k
  cx : ∀ c, A.cx = some c → H c.1 = some (.cells c.2 77 (0, 0))
theorem cells_ne {a b : Array Value} {T S : TypeId} {z y : Nat × Nat} (h : T ≠ S) : Obj.cells a T z ≠ Obj.cells b S y := fun e => h (by injection e)
theorem isC_ne {mo : Obj} (h : frm.isC mo = false) (cs : Array Value) (T : TypeId) (z : Nat × Nat) : mo ≠ .cells cs T z := fun e => by rw [e] at h; cases h
section
variable {W w w' : World} {A : Lad} {F F' : Nat → Prop} {X X' : Wh} {K K' : frm.Rc} {hs : List Fr} {R R' : rea.Rb} {zs zs' : List Int} {L L' : Lnk} {AV LV AV' LV' : List frm.Pk} {H H' : Nat → Option Obj}
theorem Ls.rcA (h : Ls W w A F X K hs R zs L AV LV H) : frm.RecAt w A.rb A.M K := by
  obtain ⟨mo, h1, h2, h3⟩ := h.hm
  exact ⟨h.wn.at h.hr, h3⟩
theorem Ls.rb (h : Ls W w A F X K hs R zs L AV LV H) : rea.RbAt w A.bi A.g1 A.g2 R := ⟨h.wn.at h.hb, h.wn.at h.h1, h.wn.at h.h2, h.hlen, h.sz⟩
theorem Ls.tk (h : Ls W w A F X K hs R zs L AV LV H) : frm.TkAt w A.tb zs := ⟨h.zl, h.wn.at h.ht⟩
theorem Ls.lk (h : Ls W w A F X K hs R zs L AV LV H) : w.heap[A.lb]? = some (.cells (L.cs A) 35 (0, 0)) := h.wn.at h.hl
theorem Ls.step (h : Ls W w A F X K hs R zs L AV LV H) (hw : Wn W w' A.b F' X' H) (hm : w'.heap[A.M]? = w.heap[A.M]?) : Ls W w' A F' X' K hs R zs L AV LV H := by
  obtain ⟨mo, m1, m2, m3⟩ := h.hm
  exact { h with wn := hw, hm := ⟨mo, m1, m2, m3.of_block hm⟩ }
/-- a call that turns only the send buffer -/
theorem Ls.buf (h : Ls W w A F X K hs R zs L AV LV H) (hw : Wn W w' A.b F' X' H) : Ls W w' A F' X' K hs R zs L AV LV H := by
  obtain ⟨mo, m1, m2, m3⟩ := h.hm
  exact h.step hw ((hw.at m1).trans (h.wn.at m1).symm)
theorem Ls.same (h : Ls W w A F X K hs R zs L AV LV H) (hb : Below w.heap.size w w') : Ls W w' A F X K hs R zs L AV LV H := h.buf (h.wn.same hb)
/-- no row of packets, no frame lies where one of the link's own blocks lies -/
theorem Ls.rowL (h : Ls W w A F X K hs R zs L AV LV H) {v : Value} {l : List frm.Pk} (hr : RowIn H v l) {k : Nat} {o : Obj} (hk : H k = some o) (ho : ∀ cur, o ≠ .cells cur 49 (0, 0)) : ∀ g, v.ownBlock = some g → g ≠ k := fun g hg e => by
  obtain ⟨cur, hc⟩ := hr.block h.wn hg
  rw [e, hk] at hc
  cases hc
  exact ho cur rfl
/-- a cell of the Link is set -/
theorem Ls.setL (h : Ls W w A F X K hs R zs L AV LV H) (i : Nat) (x : Value) (hc : (L.cs A).setIfInBounds i x = L'.cs A) (ha : RowIn H L'.av AV') (hl : RowIn H L'.lv LV') (hd : ∀ k, L'.av.ownBlock = some k → L'.lv.ownBlock ≠ some k) :
    Ls W (w.setCell ⟨A.lb, i, none⟩ x) A F X K hs R zs L' AV' LV' (upd H A.lb (.cells (L'.cs A) 35 (0, 0))) := by
  have hw := h.wn.set h.hl i x
  rw [hc] at hw
  obtain ⟨mo, m1, m2, m3⟩ := h.hm
  have mL : upd H A.lb (.cells (L'.cs A) 35 (0, 0)) A.M = some mo := upd_of m1 h.hl (isC_ne m2 _ _ _)
  refine ⟨hw, upd_same _ _ _, upd_of h.hr h.hl (cells_ne (by decide)), ⟨mo, mL, m2, m3.of_block ((hw.at mL).trans (h.wn.at m1).symm)⟩, upd_of h.hb h.hl (cells_ne (by decide)), upd_of h.h1 h.hl (cells_ne (by decide)), upd_of h.h2 h.hl (cells_ne (by decide)), upd_of h.ht h.hl (cells_ne (by decide)), h.hlen, h.sz, h.zl,
    fun p hp => (h.fr p hp).upd _ (fun cur e => by rw [h.hl] at e; exact cells_ne (by decide) (Option.some.inj e)), ha.upd _ (h.rowL ha h.hl (fun cur => cells_ne (by decide))), hl.upd _ (h.rowL hl h.hl (fun cur => cells_ne (by decide))), hd, fun c hc => upd_of (h.cx c hc) h.hl (cells_ne (by decide))⟩
/-- the Recovery has turned -/
theorem Ls.turnR (h : Ls W w A F X K hs R zs L AV LV H) (hR : frm.RecAt w' A.rb A.M K') (hT : frm.Tu A.rb A.M w w') (hin : ∀ p ∈ K'.l, p ∈ K.l) : ∃ H', Ls W w' A F X K' hs R zs L AV LV H' ∧ (∀ k o, H k = some o → k ≠ A.rb → k ≠ A.M → H' k = some o) ∧ (∀ k, H k = none → H' k = none) := by
  obtain ⟨mo, m1, m2, m3⟩ := h.hm
  obtain ⟨mo', n1, n2⟩ : ∃ mo', w'.heap[A.M]? = some mo' ∧ frm.isC mo' = false := by
    have hlt := hR.2.lt
    exact ⟨_, Array.getElem?_eq_getElem hlt, frm.RecAt.noC hR (Array.getElem?_eq_getElem hlt)⟩
  have hne : A.M ≠ A.rb := fun e => by rw [e, h.hr] at m1; cases m1; cases m2
  have e1 : ∀ k o, H k = some o → k ≠ A.rb → k ≠ A.M → upd (upd H A.rb (recO A.M K')) A.M mo' k = some o := fun k o hk n1 n2 => by rw [upd_other _ _ n2, upd_other _ _ n1]; exact hk
  have e2 : ∀ {k : Nat} {cs : Array Value} {T : TypeId}, H k = some (.cells cs T (0, 0)) → T ≠ 80 → upd (upd H A.rb (recO A.M K')) A.M mo' k = some (.cells cs T (0, 0)) := fun hk hT => e1 _ _ hk (fun e => by rw [e, h.hr] at hk; cases hk; exact hT rfl) (fun e => by rw [e, m1] at hk; cases hk; cases m2)
  have hw : Wn W w' A.b F X (upd (upd H A.rb (recO A.M K')) A.M mo') := h.wn.chg (P := fun k => k = A.rb ∨ k = A.M) ⟨hT.os, hT.tape, hT.output, hT.size, fun k hk hn => hT.block k hk (fun e => hn (.inl e)) (fun e => hn (.inr e))⟩
    (fun k hk => hk.elim (fun e => ⟨_, e ▸ h.hr⟩) (fun e => ⟨_, e ▸ m1⟩)) (fun k o hk => by
      by_cases c2 : k = A.M
      · rw [c2, upd_same] at hk; cases hk; rw [c2]; exact .inr ⟨n1, .inl ⟨_, m1⟩⟩
      · rw [upd_other _ _ c2] at hk
        by_cases c1 : k = A.rb
        · rw [c1, upd_same] at hk; cases hk; rw [c1]; exact .inr ⟨hR.1, .inl ⟨_, h.hr⟩⟩
        · rw [upd_other _ _ c1] at hk; exact .inl ⟨fun e => e.elim c1 c2, hk⟩)
  have row : ∀ {v : Value} {l : List frm.Pk}, RowIn H v l → RowIn (upd (upd H A.rb (recO A.M K')) A.M mo') v l := fun hr => by
    rcases hr with hr | ⟨g, cap, cur, r1, r2, r3, r4, r5, r6⟩
    · exact .inl hr
    · exact .inr ⟨g, cap, cur, r1, r2, r3, r4, r5, e2 r6 (by decide)⟩
  refine ⟨_, ⟨hw, e2 h.hl (by decide), ?_, ⟨mo', upd_same _ _ _, n2, hR.2⟩, e2 h.hb (by decide), e2 h.h1 (by decide), e2 h.h2 (by decide), e2 h.ht (by decide), h.hlen, h.sz, h.zl, fun p hp => ?_, row h.ra, row h.rl, h.rd, fun c hc => e2 (h.cx c hc) (by decide)⟩, e1, fun k hk => ?_⟩
  · rw [upd_other _ _ hne.symm, upd_same]
  · obtain ⟨g, c, cur, f1, f2, f3, f4⟩ := h.fr p (hin p hp)
    exact ⟨g, c, cur, f1, f2, e2 f3 (by decide), f4⟩
  · rw [upd_other _ _ (fun e => by rw [e, m1] at hk; cases hk), upd_other _ _ (fun e => by rw [e, h.hr] at hk; cases hk)]; exact hk
/-- a packet with one frame has joined -/
theorem Ls.sent (h : Ls W w A F X K hs R zs L AV LV H) (ok : K.Ok) (hnx : K.nx = (hs.length : Int)) {p : frm.Pk} (hp : p.pn = K.nx) (hR : frm.RecAt w' A.rb A.M (K.add p)) (hT : frm.Tu A.rb A.M w w') {f : Fr} {g c : Nat} {cur : Array Value} (hv : p.fv = .slice (some ⟨g, 0, none⟩) 1 c) (hc : 1 ≤ c) (hg : w.heap.size ≤ g) (ho : w'.heap[g]? = some (.cells cur 56 (0, 0))) (hf : ∀ (j : Nat) (u : Value), f.cells.toList[j]? = some u → cur[j]? = some u) :
    ∃ H', Ls W w' A F X (K.add p) (hs ++ [f]) R zs L AV LV H' ∧ (∀ k o, H k = some o → k ≠ A.rb → k ≠ A.M → H' k = some o) := by
  obtain ⟨mo, m1, m2, m3⟩ := h.hm
  obtain ⟨mo', n1, n2⟩ : ∃ mo', w'.heap[A.M]? = some mo' ∧ frm.isC mo' = false := by
    have hlt := hR.2.lt
    exact ⟨_, Array.getElem?_eq_getElem hlt, frm.RecAt.noC hR (Array.getElem?_eq_getElem hlt)⟩
  have hne : A.M ≠ A.rb := fun e => by rw [e, h.hr] at m1; cases m1; cases m2
  have gn := h.wn.fresh hg
  have e1 : ∀ k o, H k = some o → k ≠ A.rb → k ≠ A.M → upd (upd (upd H A.rb (recO A.M (K.add p))) A.M mo') g (.cells cur 56 (0, 0)) k = some o := fun k o hk n1 n2 => by
    rw [upd_other _ _ (fun e => by rw [e, gn] at hk; cases hk), upd_other _ _ n2, upd_other _ _ n1]; exact hk
  have e2 : ∀ {k : Nat} {cs : Array Value} {T : TypeId}, H k = some (.cells cs T (0, 0)) → T ≠ 80 → upd (upd (upd H A.rb (recO A.M (K.add p))) A.M mo') g (.cells cur 56 (0, 0)) k = some (.cells cs T (0, 0)) := fun hk hT => e1 _ _ hk (fun e => by rw [e, h.hr] at hk; cases hk; exact hT rfl) (fun e => by rw [e, m1] at hk; cases hk; cases m2)
  have hw : Wn W w' A.b F X (upd (upd (upd H A.rb (recO A.M (K.add p))) A.M mo') g (.cells cur 56 (0, 0))) := h.wn.chg (P := fun k => k = A.rb ∨ k = A.M) ⟨hT.os, hT.tape, hT.output, hT.size, fun k hk hn => hT.block k hk (fun e => hn (.inl e)) (fun e => hn (.inr e))⟩
    (fun k hk => hk.elim (fun e => ⟨_, e ▸ h.hr⟩) (fun e => ⟨_, e ▸ m1⟩)) (fun k o hk => by
      by_cases c0 : k = g
      · rw [c0, upd_same] at hk; cases hk; rw [c0]; exact .inr ⟨ho, .inr hg⟩
      · rw [upd_other _ _ c0] at hk
        by_cases c2 : k = A.M
        · rw [c2, upd_same] at hk; cases hk; rw [c2]; exact .inr ⟨n1, .inl ⟨_, m1⟩⟩
        · rw [upd_other _ _ c2] at hk
          by_cases c1 : k = A.rb
          · rw [c1, upd_same] at hk; cases hk; rw [c1]; exact .inr ⟨hR.1, .inl ⟨_, h.hr⟩⟩
          · rw [upd_other _ _ c1] at hk; exact .inl ⟨fun e => e.elim c1 c2, hk⟩)
  have row : ∀ {v : Value} {l : List frm.Pk}, RowIn H v l → RowIn (upd (upd (upd H A.rb (recO A.M (K.add p))) A.M mo') g (.cells cur 56 (0, 0))) v l := fun hr => by
    rcases hr with hr | ⟨g, cap, cur, r1, r2, r3, r4, r5, r6⟩
    · exact .inl hr
    · exact .inr ⟨g, cap, cur, r1, r2, r3, r4, r5, e2 r6 (by decide)⟩
  refine ⟨_, ⟨hw, e2 h.hl (by decide), ?_, ⟨mo', ?_, n2, hR.2⟩, e2 h.hb (by decide), e2 h.h1 (by decide), e2 h.h2 (by decide), e2 h.ht (by decide), h.hlen, h.sz, h.zl, fun q hq => ?_, row h.ra, row h.rl, h.rd, fun c hc => e2 (h.cx c hc) (by decide)⟩, e1⟩
  · rw [upd_other _ _ (fun e => by rw [← e, h.hr] at gn; cases gn), upd_other _ _ hne.symm, upd_same]
  · rw [upd_other _ _ (fun e => by rw [← e, m1] at gn; cases gn), upd_same]
  · rcases List.mem_append.1 hq with hq | hq
    · obtain ⟨g', c', cur', f1, f2, f3, f4⟩ := h.fr q hq
      have hlt : q.pn.toNat < hs.length := by have := ok.up.bnd q hq; omega
      exact ⟨g', c', cur', f1, f2, e2 f3 (by decide), by rw [frP_grow f hlt]; exact f4⟩
    · rw [List.mem_singleton.1 hq]
      exact ⟨g, c, cur, hv, hc, upd_same _ _ _, by rw [frP_last hs f (show p.pn.toNat = hs.length by omega)]; exact hf⟩
/-- the receive buffer has turned -/
theorem Ls.turnB (h : Ls W w A F X K hs R zs L AV LV H) (hT : rea.Tr A.bi A.g1 A.g2 w w') (hR : rea.RbAt w' A.bi A.g1 A.g2 R') : ∃ H', Ls W w' A F X K hs R' zs L AV LV H' := by
  obtain ⟨mo, m1, m2, m3⟩ := h.hm
  have n12 : A.g1 ≠ A.bi := fun e => by have := h.h1; rw [e, h.hb] at this; exact cells_ne (by decide) (Option.some.inj this)
  have n13 : A.g2 ≠ A.bi := fun e => by have := h.h2; rw [e, h.hb] at this; exact cells_ne (by decide) (Option.some.inj this)
  have n23 : A.g2 ≠ A.g1 := fun e => by have := h.h2; rw [e, h.h1] at this; exact cells_ne (by decide) (Option.some.inj this)
  have e1 : ∀ k o, H k = some o → k ≠ A.bi → k ≠ A.g1 → k ≠ A.g2 → upd (upd (upd H A.bi (.cells (R'.cells A.g1 A.g2) 101 (0, 0))) A.g1 (rea.u8s R'.bs)) A.g2 (rea.bls R'.hs) k = some o := fun k o hk a1 a2 a3 => by
    rw [upd_other _ _ a3, upd_other _ _ a2, upd_other _ _ a1]; exact hk
  have e2 : ∀ {k : Nat} {cs : Array Value} {T : TypeId}, H k = some (.cells cs T (0, 0)) → T ≠ 101 → T ≠ 12 → T ≠ 11 → True := fun _ _ _ _ => trivial
  have e3 : ∀ k o, H k = some o → (∀ cs, o ≠ .cells cs 101 (0, 0)) → o ≠ rea.u8s R.bs → o ≠ rea.bls R.hs → upd (upd (upd H A.bi (.cells (R'.cells A.g1 A.g2) 101 (0, 0))) A.g1 (rea.u8s R'.bs)) A.g2 (rea.bls R'.hs) k = some o := fun k o hk a1 a2 a3 =>
    e1 k o hk (fun e => by rw [e, h.hb] at hk; cases hk; exact a1 _ rfl) (fun e => by rw [e, h.h1] at hk; cases hk; exact a2 rfl) (fun e => by rw [e, h.h2] at hk; cases hk; exact a3 rfl)
  have hw : Wn W w' A.b F X (upd (upd (upd H A.bi (.cells (R'.cells A.g1 A.g2) 101 (0, 0))) A.g1 (rea.u8s R'.bs)) A.g2 (rea.bls R'.hs)) := h.wn.chg (P := fun k => k = A.bi ∨ k = A.g1 ∨ k = A.g2) ⟨hT.os, hT.tape, hT.output, hT.size, fun k hk hn => hT.block k hk (fun e => hn (.inl e)) (fun e => hn (.inr (.inl e))) (fun e => hn (.inr (.inr e)))⟩
    (fun k hk => by
      rcases hk with e | e | e
      · exact ⟨_, e ▸ h.hb⟩
      · exact ⟨_, e ▸ h.h1⟩
      · exact ⟨_, e ▸ h.h2⟩) (fun k o hk => by
      by_cases c0 : k = A.g2
      · rw [c0, upd_same] at hk; cases hk; rw [c0]; exact .inr ⟨hR.o2, .inl ⟨_, h.h2⟩⟩
      · rw [upd_other _ _ c0] at hk
        by_cases c2 : k = A.g1
        · rw [c2, upd_same] at hk; cases hk; rw [c2]; exact .inr ⟨hR.o1, .inl ⟨_, h.h1⟩⟩
        · rw [upd_other _ _ c2] at hk
          by_cases c1 : k = A.bi
          · rw [c1, upd_same] at hk; cases hk; rw [c1]; exact .inr ⟨hR.ob, .inl ⟨_, h.hb⟩⟩
          · rw [upd_other _ _ c1] at hk; exact .inl ⟨fun e => by rcases e with e | e | e; exact c1 e; exact c2 e; exact c0 e, hk⟩)
  have row : ∀ {v : Value} {l : List frm.Pk}, RowIn H v l → RowIn (upd (upd (upd H A.bi (.cells (R'.cells A.g1 A.g2) 101 (0, 0))) A.g1 (rea.u8s R'.bs)) A.g2 (rea.bls R'.hs)) v l := fun hr => by
    rcases hr with hr | ⟨g, cap, cur, r1, r2, r3, r4, r5, r6⟩
    · exact .inl hr
    · exact .inr ⟨g, cap, cur, r1, r2, r3, r4, r5, e3 _ _ r6 (fun cs => cells_ne (by decide)) (cells_ne (by decide)) (cells_ne (by decide))⟩
  have mL := e3 _ _ m1 (fun cs => isC_ne m2 _ _ _) (isC_ne m2 _ _ _) (isC_ne m2 _ _ _)
  refine ⟨_, hw, e3 _ _ h.hl (fun cs => cells_ne (by decide)) (cells_ne (by decide)) (cells_ne (by decide)), e3 _ _ h.hr (fun cs => cells_ne (by decide)) (cells_ne (by decide)) (cells_ne (by decide)), ⟨mo, mL, m2, m3.of_block ((hw.at mL).trans (h.wn.at m1).symm)⟩, ?_, ?_, upd_same _ _ _, e3 _ _ h.ht (fun cs => cells_ne (by decide)) (cells_ne (by decide)) (cells_ne (by decide)), hR.hl, hR.sm, h.zl, fun p hp => ?_, row h.ra, row h.rl, h.rd, fun c hc => e3 _ _ (h.cx c hc) (fun cs => cells_ne (by decide)) (cells_ne (by decide)) (cells_ne (by decide))⟩
  · rw [upd_other _ _ n13.symm, upd_other _ _ n12.symm, upd_same]
  · rw [upd_other _ _ n23.symm, upd_same]
  · obtain ⟨g, c, cur, f1, f2, f3, f4⟩ := h.fr p hp
    exact ⟨g, c, cur, f1, f2, e3 _ _ f3 (fun cs => cells_ne (by decide)) (cells_ne (by decide)) (cells_ne (by decide)), f4⟩
/-- the Tracker has turned -/
theorem Ls.turnT (h : Ls W w A F X K hs R zs L AV LV H) (hT : frm.Tu A.tb A.tb w w') (hR : frm.TkAt w' A.tb zs') : ∃ H', Ls W w' A F X K hs R zs' L AV LV H' := by
  obtain ⟨mo, m1, m2, m3⟩ := h.hm
  have hw : Wn W w' A.b F X (upd H A.tb (tkO zs')) := h.wn.turn h.ht ⟨hT.os, hT.tape, hT.output, hT.size, fun k hk hn => hT.block k hk (fun e => hn (by rw [e])) (fun e => hn (by rw [e]))⟩ hR.2
  have mL : upd H A.tb (tkO zs') A.M = some mo := upd_of m1 h.ht (isC_ne m2 _ _ _)
  exact ⟨_, hw, upd_of h.hl h.ht (cells_ne (by decide)), upd_of h.hr h.ht (cells_ne (by decide)), ⟨mo, mL, m2, m3.of_block ((hw.at mL).trans (h.wn.at m1).symm)⟩, upd_of h.hb h.ht (cells_ne (by decide)), upd_of h.h1 h.ht (cells_ne (by decide)), upd_of h.h2 h.ht (cells_ne (by decide)), upd_same _ _ _, h.hlen, h.sz, hR.1,
    fun p hp => (h.fr p hp).upd _ (fun cur e => by rw [h.ht] at e; exact cells_ne (by decide) (Option.some.inj e)), h.ra.upd _ (h.rowL h.ra h.ht (fun cur => cells_ne (by decide))), h.rl.upd _ (h.rowL h.rl h.ht (fun cur => cells_ne (by decide))), h.rd, fun c hc => upd_of (h.cx c hc) h.ht (cells_ne (by decide))⟩
/-- behind settle -/
theorem Ls.keeps (h : Ls W w A F X K hs R zs L AV LV H) (hw : Wn W w' A.b F' X' H') (hk : Keeps A.lb H H') (hl : H' A.lb = some (.cells (L'.cs A) 35 (0, 0))) (ha : RowIn H' L'.av AV') (hv : RowIn H' L'.lv LV') (hd : ∀ k, L'.av.ownBlock = some k → L'.lv.ownBlock ≠ some k) :
    Ls W w' A F' X' K hs R zs L' AV' LV' H' := by
  obtain ⟨mo, m1, m2, m3⟩ := h.hm
  have e : ∀ k o, H k = some o → (∀ cs T, o = .cells cs T (0, 0) → T ≠ 35 ∧ T ≠ 49) → H' k = some o := fun k o h1 h2 => hk k o h1 (fun e => by rw [e, h.hl] at h1; cases h1; exact (h2 _ _ rfl).1 rfl) (fun cur e => (h2 _ _ e).2 rfl)
  have mL := e _ _ m1 (fun cs T e => absurd e (isC_ne m2 _ _ _))
  refine ⟨hw, hl, e _ _ h.hr (fun cs T e => by cases e; exact ⟨by decide, by decide⟩), ⟨mo, mL, m2, m3.of_block ((hw.at mL).trans (h.wn.at m1).symm)⟩, e _ _ h.hb (fun cs T e => by cases e; exact ⟨by decide, by decide⟩), e _ _ h.h1 (fun cs T e => by cases e; exact ⟨by decide, by decide⟩), e _ _ h.h2 (fun cs T e => by cases e; exact ⟨by decide, by decide⟩), e _ _ h.ht (fun cs T e => by cases e; exact ⟨by decide, by decide⟩), h.hlen, h.sz, h.zl, fun p hp => (h.fr p hp).keeps hk (fun cur e => by rw [h.hl] at e; exact cells_ne (by decide) (Option.some.inj e)), ha, hv, hd, fun c hc => e _ _ (h.cx c hc) (fun cs T e => by cases e; exact ⟨by decide, by decide⟩)⟩
end
end Go.Proofs.YtpfkeohaaeiaaaaGreatDoor
/- SendBufReliable: settle: acknowledged and lost packets are reported to the send buffer. -/
namespace Go.Proofs.YtpfkeohaaeiaaaaGreatDoor
open Go.RowKit
set_option maxRecDepth 100000
theorem facts49 : ∃ i, Tryz.prog.info? 49 = some i ∧ i.zero = some (.agg #[.int .i64 0, .int .i64 0, .int .i64 0, .bool false, .slice none 0 0]) ∧ i.size = 5 ∧ i.bytes ≤ 1000 := ⟨_, rfl, rfl, rfl, by decide⟩
theorem pcs_append (l m : List frm.Pk) : frm.pcs (l ++ m) = frm.pcs l ++ frm.pcs m := by simp [frm.pcs]
theorem pcs_one {l : List frm.Pk} (h : ∀ p ∈ l, ∃ a n c, p.fv = .slice a n c) : ∀ u ∈ frm.pcs l, u.oneCell' = true := fun u hu => by
  unfold frm.pcs at hu
  obtain ⟨p, hp, hu2⟩ := List.mem_flatMap.1 hu
  exact p.one (h p hp) u hu2
theorem RowIn.form {H : Nat → Option Obj} {v : Value} {l : List frm.Pk} (h : RowIn H v l) : ∃ a c, v = .slice a l.length c ∧ l.length ≤ c := by
  rcases h with ⟨h1, h2⟩ | ⟨g, cap, cur, h1, h2, _⟩
  · subst h2; exact ⟨none, 0, h1, Nat.le_refl _⟩
  · exact ⟨_, cap, h1, h2⟩
section
variable {W w : World} {b : Nat} {F : Nat → Prop} {X : Wh} {H : Nat → Option Obj} {v vs : Value} {l ls : List frm.Pk}
theorem RowIn.src (h : RowIn H vs ls) (hw : Wn W w b F X H) (hf : ∀ p ∈ ls, ∃ a n c, p.fv = .slice a n c) : Src Tryz.prog 5 33 vs ls.length (frm.pcs ls) w := by
  rcases h with ⟨h1, h2⟩ | ⟨g, cap, cur, h1, h2, h3, h4, h5, h6⟩
  · subst h1; subst h2; exact Src.ofNil w Tryz.underlying33 0
  · subst h1
    refine Src.ofSlice w Tryz.underlying33 _ _ cap _ (frm.pcs_length _) (fun j u hu => ?_) (pcs_one hf)
    rw [add_plain, Nat.zero_add]
    have hg := hw.at h6
    simp only [World.cell?, hg]
    rw [← h5] at hu
    have hj : j < ls.length * 5 := by
      have := (List.getElem?_eq_some_iff.1 hu).1
      simp at this; omega
    rw [List.getElem?_take_of_lt hj] at hu
    simpa using hu
theorem wn_append {ops : Array Oper} {rest : List Oper} {o : Oper} {a : Act} {Q : Exit → Act → World → Prop} (hgd : o.guard = none) (s x : Operand)
    (ho : o.op = .call { callee := .builtin .append, args := #[s, x], argTypes := #[33, 33] }) (h : Wn W w b F X H) (hv : RowIn H v l) (hx : RowIn H vs ls) (hf : ∀ p ∈ ls, ∃ a n c, p.fv = .slice a n c) (hs : a.eval s = v) (hxe : a.eval x = vs) (hl : l.length + ls.length ≤ 20000)
    (hK : ∀ aa cap w' H', Wn W w' b F X H' → RowIn H' (.slice aa (l.length + ls.length) cap) (l ++ ls) → (∀ k o, H k = some o → v.ownBlock ≠ some k → H' k = some o) → (∀ k, (Value.slice aa (l.length + ls.length) cap).ownBlock = some k → v.ownBlock = some k ∨ H k = none) →
      wpList Tryz.prog ops Q rest (a.put o.dst (.slice aa (l.length + ls.length) cap)) w') : wpList Tryz.prog ops Q (o :: rest) a w := by
  obtain ⟨i, e1, e2, e3, e4⟩ := facts49
  refine wpList_plain hgd fun _ hKK => ?_
  obtain ⟨v', w', hr, h2, h3, h4⟩ := run_append_src (P := Tryz.prog) w W.heap.size 33 33 o.type 49 i _ 5 i.bytes Tryz.underlying33 e1 e2 e3 rfl rfl (by decide) v l.length (frm.pcs l) (hv.own h) vs ls.length (frm.pcs ls) (hx.src h hf) (by unfold maxLen; omega) (by have := Nat.mul_le_mul (show l.length + ls.length ≤ 20000 by omega) e4; omega) h.below.size
  unfold Oper.wp execOp
  simp only [ho, resolve, invoke, builtin, Sem.run_bind, Sem.run_pure, Result.andThen_ok, List.map_toArray, List.map_cons, List.map_nil, hs, hxe, hr]
  have hc : Chg (fun k => v.ownBlock = some k) w w' := Chg.grownO h3 (fun k e => e)
  have hP : ∀ k, v.ownBlock = some k → ∃ o, H k = some o := fun k hk => by
    obtain ⟨cur, hcur⟩ := hv.block h hk
    exact ⟨_, hcur⟩
  rcases h2.2 with ⟨rfl, hz⟩ | ⟨g, cap, cur, rfl, q1, q2, q3, q4, q5, q6⟩
  · have hll : l.length + ls.length = 0 := hz
    have hKc := hK none 0 w' (fun k => if v.ownBlock = some k then none else H k)
      (h.chg hc hP (fun k o hk => by
        by_cases e : v.ownBlock = some k
        · simp [e] at hk
        · rw [if_neg e] at hk; exact .inl ⟨e, hk⟩))
      (by rw [hll]; exact .inl ⟨rfl, by simp; exact ⟨List.eq_nil_of_length_eq_zero (by omega), List.eq_nil_of_length_eq_zero (by omega)⟩⟩) (fun k o hk hne => by rw [if_neg hne]; exact hk) (fun k hk => by cases hk)
    rw [hll] at hKc
    exact hKK _ _ hKc
  · have hg : v.ownBlock = some g ∨ w.heap.size ≤ g := h4 g rfl
    refine hKK _ _ (hK _ cap w' (fun k => if k = g then some (.cells cur 49 (0, 0)) else if v.ownBlock = some k then none else H k)
      (h.chg hc hP (fun k o hk => ?_)) (.inr ⟨g, cap, cur, by rw [List.length_append], by rw [List.length_append]; exact q3, q4, q5, by rw [List.length_append, pcs_append]; exact q6, if_pos rfl⟩) (fun k o hk hne => ?_) (fun k hk => ?_))
    · by_cases e : k = g
      · rw [if_pos e] at hk; cases hk
        subst e
        exact .inr ⟨q2, hg.imp (fun e => hP _ e) id⟩
      · rw [if_neg e] at hk
        by_cases e2 : v.ownBlock = some k
        · simp [e2] at hk
        · rw [if_neg e2] at hk; exact .inl ⟨e2, hk⟩
    · rw [if_neg, if_neg hne]
      · exact hk
      · rintro rfl
        rcases hg with e | e
        · exact hne e
        · have := h.lt hk; omega
    · have : g = k := by simpa [Value.ownBlock] using hk
      subst this
      exact hg.imp id (fun e => h.fresh e)
end
end Go.Proofs.YtpfkeohaaeiaaaaGreatDoor
/- SendBufReliable: settle. -/
namespace Go.Proofs.YtpfkeohaaeiaaaaGreatDoor
open Go.RowKit
set_option maxRecDepth 100000
theorem RowIn.mono {H H' : Nat → Option Obj} {v : Value} {l : List frm.Pk} (h : RowIn H v l) (hk : ∀ k o, v.ownBlock = some k → H k = some o → H' k = some o) : RowIn H' v l := by
  rcases h with h | ⟨g, cap, cur, h1, h2, h3, h4, h5, h6⟩
  · exact .inl h
  · exact .inr ⟨g, cap, cur, h1, h2, h3, h4, h5, hk g _ (by rw [h1]; rfl) h6⟩
/-- a packet of a row of the call's own -/
theorem RowIn.cell {W w : World} {b : Nat} {F : Nat → Prop} {X : Wh} {H : Nat → Option Obj} {a : Option Addr} {c n : Nat} {l : List frm.Pk} (h : RowIn H (.slice a n c) l) (hw : Wn W w b F X H) {i : Nat} (hi : i < l.length) :
    ∃ g, a = some ⟨g, 0, none⟩ ∧ w.cell? ⟨g, i * 5 + 4, none⟩ = some (l[i]'hi).fv ∧ w.cell? ⟨g, i * 5 + 1, none⟩ = some (.int .i64 (l[i]'hi).time) ∧ w.cell? ⟨g, i * 5 + 2, none⟩ = some (.int .i64 (l[i]'hi).size) ∧ w.cell? ⟨g, i * 5, none⟩ = some (.int .i64 (l[i]'hi).pn) := by
  rcases h with ⟨h1, h2⟩ | ⟨g, cap, cur, h1, h2, h3, h4, h5, h6⟩
  · subst h2; simp at hi
  · simp only [Value.slice.injEq] at h1
    obtain ⟨rfl, rfl, rfl⟩ := h1
    have hg := hw.at h6
    have hx : ∀ j u, j < 5 → (l[i]'hi).cells.toList[j]? = some u → w.cell? ⟨g, i * 5 + j, none⟩ = some u := fun j u hj hu => by
      have e := frm.pcs_at l i j hi hj
      rw [hu, ← h5, List.getElem?_take_of_lt (by omega)] at e
      simp only [World.cell?, hg]
      simpa using e
    exact ⟨g, rfl, hx 4 _ (by decide) rfl, hx 1 _ (by decide) rfl, hx 2 _ (by decide) rfl, hx 0 _ (by decide) rfl⟩
theorem FrIn.cells {W w : World} {b : Nat} {F : Nat → Prop} {X : Wh} {H : Nat → Option Obj} {v : Value} {f : Fr} (h : FrIn H v f) (hw : Wn W w b F X H) : ∃ g c, v = .slice (some ⟨g, 0, none⟩) 1 c ∧ 1 ≤ c ∧ ∀ j u, f.cells.toList[j]? = some u → w.cell? ⟨g, j, none⟩ = some u := by
  obtain ⟨g, c, cur, h1, h2, h3, h4⟩ := h
  have hg := hw.at h3
  refine ⟨g, c, h1, h2, fun j u hu => ?_⟩
  simp only [World.cell?, hg]
  simpa using h4 j u hu
def Lnk.rows (L : Lnk) (a l : Value) : Lnk := { L with av := a, lv := l }
structure StlPost (W w' : World) (A : Lad) (X : Wh) (hs : List Fr) (L : Lnk) (AV LV la ll : List frm.Pk) (H : Nat → Option Obj) (F' : Nat → Prop) (X' : Wh) (H' : Nat → Option Obj) (av lv : Value) : Prop where
  wn : Wn W w' A.b F' X' H'
  keep : Keeps A.lb H H'
  hl : H' A.lb = some (.cells ((L.rows av lv).cs A) 35 (0, 0))
  ra : RowIn H' av (AV ++ la)
  rl : RowIn H' lv (LV ++ ll)
  rd : ∀ k, av.ownBlock = some k → lv.ownBlock ≠ some k
  st : Stl hs X X' la ll
set_option maxHeartbeats 8000000 in
theorem settle_any {W w : World} {A : Lad} {F : Nat → Prop} {X : Wh} {H : Nat → Option Obj} {L : Lnk} {AV LV la ll : List frm.Pk} {va vl : Value} {hs : List Fr} (h : Wn W w A.b F X H) (hl : H A.lb = some (.cells (L.cs A) 35 (0, 0)))
    (ra : RowIn H L.av AV) (rl : RowIn H L.lv LV) (rd : ∀ k, L.av.ownBlock = some k → L.lv.ownBlock ≠ some k) (hva : RowIn H va la) (hvl : RowIn H vl ll)
    (d1 : ∀ k, va.ownBlock = some k → L.av.ownBlock ≠ some k ∧ L.lv.ownBlock ≠ some k) (d2 : ∀ k, vl.ownBlock = some k → L.av.ownBlock ≠ some k ∧ L.lv.ownBlock ≠ some k)
    (hf : ∀ p, p ∈ la ∨ p ∈ ll → FrIn H p.fv (frP hs p) ∧ FrOk X (frP hs p)) (n1 : AV.length + la.length ≤ 20000) (n2 : LV.length + ll.length ≤ 20000) :
    Calls Tryz.prog 34 #[.pointer (some ⟨A.lb, 0, none⟩), va, vl] w fun e w' => e = .returned (.bool true) ∧ ∃ F' X' H' av lv, StlPost W w' A X hs L AV LV la ll H F' X' H' av lv := by
  obtain ⟨aa, ca, ea, qa⟩ := ra.form
  obtain ⟨al, cl, el, ql⟩ := rl.form
  obtain ⟨xa, ya, rfl, qxa⟩ := hva.form
  obtain ⟨xl, yl, rfl, qxl⟩ := hvl.form
  have hla : la.length ≤ 20000 := by omega
  have hll : ll.length ≤ 20000 := by omega
  have fva : Hid (∀ p ∈ la, ∃ a n c, p.fv = .slice a n c) := Lib.hid (fun p hp => by obtain ⟨⟨g, c, cur, e, _⟩, _⟩ := hf p (.inl hp); exact ⟨_, _, _, e⟩)
  have fvl : Hid (∀ p ∈ ll, ∃ a n c, p.fv = .slice a n c) := Lib.hid (fun p hp => by obtain ⟨⟨g, c, cur, e, _⟩, _⟩ := hf p (.inr hp); exact ⟨_, _, _, e⟩)
  -- no row lies where the link lies
  have nl : ∀ {v : Value} {l : List frm.Pk}, RowIn H v l → v.ownBlock ≠ some A.lb := fun hr e => by
    obtain ⟨cur, hc⟩ := hr.block h e
    rw [hl] at hc; cases hc
  obtain ⟨got, en, now, idle, av, lv⟩ := L
  simp only at ea el ra rl rd d1 d2
  subst ea el
  have B : Hid (Wn W w A.b F X H ∧ H A.lb = some (.cells (Lnk.cs ⟨got, en, now, idle, .slice aa AV.length ca, .slice al LV.length cl⟩ A) 35 (0, 0)) ∧ RowIn H (.slice aa AV.length ca) AV ∧ RowIn H (.slice al LV.length cl) LV ∧ RowIn H (.slice xa la.length ya) la ∧ RowIn H (.slice xl ll.length yl) ll) := Lib.hid ⟨h, hl, ra, rl, hva, hvl⟩
  have D : Hid ((∀ k, (Value.slice aa AV.length ca).ownBlock = some k → (Value.slice al LV.length cl).ownBlock ≠ some k) ∧ (∀ k, (Value.slice xa la.length ya).ownBlock = some k → (Value.slice aa AV.length ca).ownBlock ≠ some k ∧ (Value.slice al LV.length cl).ownBlock ≠ some k) ∧ (∀ k, (Value.slice xl ll.length yl).ownBlock = some k → (Value.slice aa AV.length ca).ownBlock ≠ some k ∧ (Value.slice al LV.length cl).ownBlock ≠ some k)) := Lib.hid ⟨rd, d1, d2⟩
  have HF := Lib.hid hf
  have NLa := Lib.hid (nl ra)
  have NLl := Lib.hid (nl rl)
  have c8 : w.cell? ⟨A.lb, 8, none⟩ = some (.slice aa AV.length ca) := at_whole (h.at hl) 8 rfl
  clear h hl ra rl rd hva hvl d1 d2 hf nl
  go_enter Tryz.func34, Tryz.ntmps34
  go_upto_region 2 with (refine wn_append rfl (.tmp 15) (.tmp 16) rfl B.out.1 B.out.2.2.1 B.out.2.2.2.2.1 fva.out rfl rfl n1 ?_; intro a1 c1 w1 H1 g1 r1 k1 f1; have e1 := Lib.hid (k1 A.lb _ B.out.2.1 NLa.out); have t8 := at_whole (g1.at e1.out) 8 rfl; have z8 := frozen_whole (g1.at e1.out) 8; have G1 := Lib.hid (And.intro g1 (And.intro r1 (And.intro k1 f1))); clear g1 r1 k1 f1)
  -- what there is behind the first append
  have B2 : Hid (Wn W (w1.setCell ⟨A.lb, 8, none⟩ (.slice a1 (AV.length + la.length) c1)) A.b F X (upd H1 A.lb (.cells (Lnk.cs ⟨got, en, now, idle, .slice a1 (AV.length + la.length) c1, .slice al LV.length cl⟩ A) 35 (0, 0))) ∧ RowIn (upd H1 A.lb (.cells (Lnk.cs ⟨got, en, now, idle, .slice a1 (AV.length + la.length) c1, .slice al LV.length cl⟩ A) 35 (0, 0))) (.slice a1 (AV.length + la.length) c1) (AV ++ la) ∧ RowIn (upd H1 A.lb (.cells (Lnk.cs ⟨got, en, now, idle, .slice a1 (AV.length + la.length) c1, .slice al LV.length cl⟩ A) 35 (0, 0))) (.slice al LV.length cl) LV ∧
      RowIn (upd H1 A.lb (.cells (Lnk.cs ⟨got, en, now, idle, .slice a1 (AV.length + la.length) c1, .slice al LV.length cl⟩ A) 35 (0, 0))) (.slice xa la.length ya) la ∧ RowIn (upd H1 A.lb (.cells (Lnk.cs ⟨got, en, now, idle, .slice a1 (AV.length + la.length) c1, .slice al LV.length cl⟩ A) 35 (0, 0))) (.slice xl ll.length yl) ll ∧ Keeps A.lb H (upd H1 A.lb (.cells (Lnk.cs ⟨got, en, now, idle, .slice a1 (AV.length + la.length) c1, .slice al LV.length cl⟩ A) 35 (0, 0))) ∧
      (∀ k, (Value.slice al LV.length cl).ownBlock = some k → (Value.slice a1 (AV.length + la.length) c1).ownBlock ≠ some k) ∧ (∀ k, (Value.slice al LV.length cl).ownBlock = some k → (Value.slice xa la.length ya).ownBlock ≠ some k ∧ (Value.slice xl ll.length yl).ownBlock ≠ some k)) := Lib.hid (by
    obtain ⟨g1, r1, k1, f1⟩ := G1.out
    have nl1 : ∀ {v : Value} {l : List frm.Pk}, RowIn H1 v l → ∀ g, v.ownBlock = some g → g ≠ A.lb := fun hr g hg e => by
      obtain ⟨cur, hc⟩ := hr.block g1 hg
      rw [e, e1.out] at hc; exact cells_ne (by decide) (Option.some.inj hc)
    have rl1 : RowIn H1 (.slice al LV.length cl) LV := B.out.2.2.2.1.mono (fun k o hk ho => k1 k o ho (fun e => D.out.1 k e hk))
    have va1 : RowIn H1 (.slice xa la.length ya) la := B.out.2.2.2.2.1.mono (fun k o hk ho => k1 k o ho (D.out.2.1 k hk).1)
    have vl1 : RowIn H1 (.slice xl ll.length yl) ll := B.out.2.2.2.2.2.mono (fun k o hk ho => k1 k o ho (D.out.2.2 k hk).1)
    refine ⟨g1.set e1.out 8 _, r1.upd _ (nl1 r1), rl1.upd _ (nl1 rl1), va1.upd _ (nl1 va1), vl1.upd _ (nl1 vl1), fun k o hk hne ho => ?_, fun k hk hk2 => ?_, fun k hk => ⟨fun e => (D.out.2.1 k e).2 hk, fun e => (D.out.2.2 k e).2 hk⟩⟩
    · rw [upd_other _ _ hne]
      refine k1 k o hk (fun e => ?_)
      obtain ⟨cur, hc⟩ := B.out.2.2.1.block B.out.1 e
      rw [hk] at hc
      exact ho cur (Option.some.inj hc)
    · rcases f1 k hk2 with e | e
      · exact D.out.1 k e hk
      · obtain ⟨cur, hc⟩ := B.out.2.2.2.1.block B.out.1 hk
        rw [e] at hc; cases hc)
  have LB2 : Hid (upd H1 A.lb (.cells (Lnk.cs ⟨got, en, now, idle, .slice a1 (AV.length + la.length) c1, .slice al LV.length cl⟩ A) 35 (0, 0)) A.lb = some (.cells (Lnk.cs ⟨got, en, now, idle, .slice a1 (AV.length + la.length) c1, .slice al LV.length cl⟩ A) 35 (0, 0))) := Lib.hid (upd_same _ _ _)
  have HLB := Lib.hid B.out.2.1
  clear G1 e1 t8 z8 B D NLa NLl c8
  generalize upd H1 A.lb _ = H2 at B2 LB2 ⊢
  generalize World.setCell w1 _ _ = w2 at B2 ⊢
  have c9 : w2.cell? ⟨A.lb, 9, none⟩ = some (.slice al LV.length cl) := at_whole (B2.out.1.at LB2.out) 9 rfl
  have nl2 : Hid ((Value.slice al LV.length cl).ownBlock ≠ some A.lb) := Lib.hid (fun e => by
    obtain ⟨cur, hc⟩ := B2.out.2.2.1.block B2.out.1 e
    rw [LB2.out] at hc; exact cells_ne (by decide) (Option.some.inj hc))
  go_upto_region 3 with (refine wn_append rfl (.tmp 24) (.tmp 25) rfl B2.out.1 B2.out.2.2.1 B2.out.2.2.2.2.1 fvl.out rfl rfl n2 ?_; intro a2 c2 w3 H3 g3 r3 k3 f3; have e3 := Lib.hid (k3 A.lb _ LB2.out nl2.out); have t9 := at_whole (g3.at e3.out) 9 rfl; have z9 := frozen_whole (g3.at e3.out) 9; have G3 := Lib.hid (And.intro g3 (And.intro r3 (And.intro k3 f3))); clear g3 r3 k3 f3)
  have BW : Hid (Wn W (w3.setCell ⟨A.lb, 9, none⟩ (.slice a2 (LV.length + ll.length) c2)) A.b F X (upd H3 A.lb (.cells (Lnk.cs ⟨got, en, now, idle, .slice a1 (AV.length + la.length) c1, .slice a2 (LV.length + ll.length) c2⟩ A) 35 (0, 0))) ∧ RowIn (upd H3 A.lb (.cells (Lnk.cs ⟨got, en, now, idle, .slice a1 (AV.length + la.length) c1, .slice a2 (LV.length + ll.length) c2⟩ A) 35 (0, 0))) (.slice a1 (AV.length + la.length) c1) (AV ++ la) ∧ RowIn (upd H3 A.lb (.cells (Lnk.cs ⟨got, en, now, idle, .slice a1 (AV.length + la.length) c1, .slice a2 (LV.length + ll.length) c2⟩ A) 35 (0, 0))) (.slice a2 (LV.length + ll.length) c2) (LV ++ ll) ∧
      RowIn (upd H3 A.lb (.cells (Lnk.cs ⟨got, en, now, idle, .slice a1 (AV.length + la.length) c1, .slice a2 (LV.length + ll.length) c2⟩ A) 35 (0, 0))) (.slice xa la.length ya) la ∧ RowIn (upd H3 A.lb (.cells (Lnk.cs ⟨got, en, now, idle, .slice a1 (AV.length + la.length) c1, .slice a2 (LV.length + ll.length) c2⟩ A) 35 (0, 0))) (.slice xl ll.length yl) ll ∧ Keeps A.lb H (upd H3 A.lb (.cells (Lnk.cs ⟨got, en, now, idle, .slice a1 (AV.length + la.length) c1, .slice a2 (LV.length + ll.length) c2⟩ A) 35 (0, 0))) ∧
      (∀ k, (Value.slice a1 (AV.length + la.length) c1).ownBlock = some k → (Value.slice a2 (LV.length + ll.length) c2).ownBlock ≠ some k) ∧ upd H3 A.lb (.cells (Lnk.cs ⟨got, en, now, idle, .slice a1 (AV.length + la.length) c1, .slice a2 (LV.length + ll.length) c2⟩ A) 35 (0, 0)) A.lb = some (.cells (Lnk.cs ⟨got, en, now, idle, .slice a1 (AV.length + la.length) c1, .slice a2 (LV.length + ll.length) c2⟩ A) 35 (0, 0))) := Lib.hid (by
    obtain ⟨g3, r3, k3, f3⟩ := G3.out
    obtain ⟨b1, b2, b3, b4, b5, b6, b7, b8⟩ := B2.out
    have nl3 : ∀ {v : Value} {l : List frm.Pk}, RowIn H3 v l → ∀ g, v.ownBlock = some g → g ≠ A.lb := fun hr g hg e => by
      obtain ⟨cur, hc⟩ := hr.block g3 hg
      rw [e, e3.out] at hc; exact cells_ne (by decide) (Option.some.inj hc)
    have ra1 : RowIn H3 (.slice a1 (AV.length + la.length) c1) (AV ++ la) := b2.mono (fun k o hk ho => k3 k o ho (fun e => b7 k e hk))
    have va1 : RowIn H3 (.slice xa la.length ya) la := b4.mono (fun k o hk ho => k3 k o ho (fun e => (b8 k e).1 hk))
    have vl1 : RowIn H3 (.slice xl ll.length yl) ll := b5.mono (fun k o hk ho => k3 k o ho (fun e => (b8 k e).2 hk))
    refine ⟨g3.set e3.out 9 _, ra1.upd _ (nl3 ra1), r3.upd _ (nl3 r3), va1.upd _ (nl3 va1), vl1.upd _ (nl3 vl1), fun k o hk hne ho => ?_, fun k hk hk2 => ?_, upd_same _ _ _⟩
    · rw [upd_other _ _ hne]
      have h2 := b6 k o hk hne ho
      refine k3 k o h2 (fun e => ?_)
      obtain ⟨cur, hc⟩ := b3.block b1 e
      rw [h2] at hc
      exact ho cur (Option.some.inj hc)
    · rcases f3 k hk2 with e | e
      · exact b7 k e hk
      · obtain ⟨cur, hc⟩ := b2.block b1 hk
        rw [e] at hc; cases hc)
  clear G3 e3 t9 z9 B2 LB2 nl2 c9
  generalize upd H3 A.lb _ = H4 at BW ⊢
  generalize World.setCell w3 _ _ = w4 at BW ⊢
  have FI : Hid (∀ p, p ∈ la ∨ p ∈ ll → FrIn H4 p.fv (frP hs p) ∧ FrOk X (frP hs p)) := Lib.hid (fun p hp => ⟨(HF.out p hp).1.keeps BW.out.2.2.2.2.2.1 (fun cur e => by rw [HLB.out] at e; exact cells_ne (by decide) (Option.some.inj e)), (HF.out p hp).2⟩)
  clear HF HLB fva fvl
  go_wp2
  go_loopw [7, 8] (fun i k wr => ∃ n : Nat, i = .int .i64 n ∧ n ≤ la.length ∧ Hid (∃ F' X', Wn W wr A.b F' X' H4 ∧ Stl hs X X' (la.take n) [])) (fun i _ _ => la.length - (intOf i).toNat)
  case atStart => exact ⟨0, rfl, by omega, Lib.hid ⟨F, X, BW.out.1, Stl.start hs BW.out.1.ok⟩⟩
  case round =>
    obtain ⟨n, rfl, hn, HS⟩ := hrel
    obtain ⟨F5, X5, hw5, hs5⟩ := HS.out
    clear HS
    by_cases hlt : n < la.length
    · obtain ⟨g, hxa, q4, _⟩ := BW.out.2.2.2.1.cell hw5 hlt
      obtain ⟨hfi, hfo⟩ := FI.out (la[n]'hlt) (.inl (List.getElem_mem hlt))
      obtain ⟨gf, cf, hfv, hcf, hcells⟩ := hfi.cells hw5
      rw [hfv] at q4
      subst hxa
      have c0 : wr.cell? ⟨A.lb, 0, none⟩ = some (.pointer (some ⟨A.b, 0, none⟩)) := at_whole (hw5.at BW.out.2.2.2.2.2.2.2) 0 rfl
      have HX : Hid (Stl hs X (X5.acked (frP hs (la[n]'hlt))) (la.take (n + 1)) []) := Lib.hid (by
        have := hs5.ack (p := la[n]'hlt) hfo (fun e => (hfo.fin e).2.1)
        rw [List.take_succ_eq_append_getElem hlt]; exact this)
      have AC : Hid (∀ wx, Wn W wx A.b F5 X5 H4 → Calls Tryz.prog 26 #[.pointer (some ⟨A.b, 0, none⟩), (frP hs (la[n]'hlt)).val] wx fun e w' => e = .returned (.int .i64 0) ∧ ∃ F', Wn W w' A.b F' (X5.acked (frP hs (la[n]'hlt))) H4) := Lib.hid (fun wx hx => by
        have := wn_acked hx (frP hs (la[n]'hlt))
        rw [(hs5.fro _ hfo).err] at this; exact this)
      have HW := Lib.hid hw5
      have Q4 : Hid (∀ wx Fx Xx, Wn W wx A.b Fx Xx H4 → wx.cell? ⟨g, n * 5 + 4, none⟩ = some (.slice (some ⟨gf, 0, none⟩) 1 cf)) := Lib.hid (fun wx Fx Xx hx => by
        obtain ⟨g', hg', q4', _⟩ := BW.out.2.2.2.1.cell hx hlt
        cases hg'
        rw [hfv] at q4'; exact q4')
      clear hfi hfo hfv hs5 hw5
      generalize frP hs (la[n]'hlt) = f at *
      have x0 := hcells 0 _ rfl
      have x1 := hcells 1 _ rfl
      have x2 := hcells 2 _ rfl
      have x3 := hcells 3 _ rfl
      have x4 := hcells 4 _ rfl
      have x5 := hcells 5 _ rfl
      have x6 := hcells 6 _ rfl
      have x7 := hcells 7 _ rfl
      have x8 := hcells 8 _ rfl
      have x9 := hcells 9 _ rfl
      have x10 := hcells 10 _ rfl
      have x11 := hcells 11 _ rfl
      have x12 := hcells 12 _ rfl
      clear hcells
      go_wp2
      refine wp_loop_rounds 2 ?_
      rw [rounds_succ]
      go_wp2
      go_still_tail 12, (by kernel_rfl)
      go_wp2_with (go_at_call 26; refine (AC.out _ (by exact HW.out.drew)).mono ?_; rintro e w5 ⟨rfl, F6, hw6⟩; have HW6 := Lib.hid hw6; clear hw6)
      rw [rounds_succ]
      have q5 := Q4.out _ _ _ HW6.out
      clear c0 q4 x0 x1 x2 x3 x4 x5 x6 x7 x8 x9 x10 x11 x12
      go_wp2
      go_roundw
      case rel => exact ⟨n + 1, by go_num, by omega, Lib.hid ⟨F6, _, HW6.out, HX.out⟩⟩
      case measure => simp [intOf]; omega
    · obtain rfl : n = la.length := by omega
      rw [List.take_length] at hs5
      have HS := Lib.hid (And.intro hw5 hs5)
      clear hw5 hs5 hlt
      have HS0 := HS
      clear HS
      go_wp2
      go_loopw [9, 10] (fun i k wr => ∃ m : Nat, i = .int .i64 m ∧ m ≤ ll.length ∧ Hid (∃ F' X', Wn W wr A.b F' X' H4 ∧ Stl hs X X' la (ll.take m))) (fun i _ _ => ll.length - (intOf i).toNat)
      case atStart => exact ⟨0, rfl, by omega, Lib.hid ⟨F5, X5, HS0.out.1, HS0.out.2⟩⟩
      case round =>
        obtain ⟨m, rfl, hm, HS⟩ := hrel
        obtain ⟨F5, X5, hw5, hs5⟩ := HS.out
        clear HS
        by_cases hlt : m < ll.length
        · obtain ⟨g, hxa, q4, _⟩ := BW.out.2.2.2.2.1.cell hw5 hlt
          obtain ⟨hfi, hfo⟩ := FI.out (ll[m]'hlt) (.inr (List.getElem_mem hlt))
          obtain ⟨gf, cf, hfv, hcf, hcells⟩ := hfi.cells hw5
          rw [hfv] at q4
          subst hxa
          have c0 : wr.cell? ⟨A.lb, 0, none⟩ = some (.pointer (some ⟨A.b, 0, none⟩)) := at_whole (hw5.at BW.out.2.2.2.2.2.2.2) 0 rfl
          have HX : Hid (Stl hs X (X5.lost (frP hs (ll[m]'hlt))) la (ll.take (m + 1))) := Lib.hid (by
            have := hs5.lose (p := ll[m]'hlt) hfo
            rw [List.take_succ_eq_append_getElem hlt]; exact this)
          have AC : Hid (∀ wx, Wn W wx A.b F5 X5 H4 → Calls Tryz.prog 25 #[.pointer (some ⟨A.b, 0, none⟩), (frP hs (ll[m]'hlt)).val] wx fun e w' => e = .returned (.int .i64 0) ∧ ∃ F', Wn W w' A.b F' (X5.lost (frP hs (ll[m]'hlt))) H4) := Lib.hid (fun wx hx => by
            have := wn_lost hx (frP hs (ll[m]'hlt))
            rw [(hs5.fro _ hfo).err] at this; exact this)
          have HW := Lib.hid hw5
          have Q4 : Hid (∀ wx Fx Xx, Wn W wx A.b Fx Xx H4 → wx.cell? ⟨g, m * 5 + 4, none⟩ = some (.slice (some ⟨gf, 0, none⟩) 1 cf)) := Lib.hid (fun wx Fx Xx hx => by
            obtain ⟨g', hg', q4', _⟩ := BW.out.2.2.2.2.1.cell hx hlt
            cases hg'
            rw [hfv] at q4'; exact q4')
          clear hfi hfo hfv hs5 hw5
          generalize frP hs (ll[m]'hlt) = f at *
          have x0 := hcells 0 _ rfl
          have x1 := hcells 1 _ rfl
          have x2 := hcells 2 _ rfl
          have x3 := hcells 3 _ rfl
          have x4 := hcells 4 _ rfl
          have x5 := hcells 5 _ rfl
          have x6 := hcells 6 _ rfl
          have x7 := hcells 7 _ rfl
          have x8 := hcells 8 _ rfl
          have x9 := hcells 9 _ rfl
          have x10 := hcells 10 _ rfl
          have x11 := hcells 11 _ rfl
          have x12 := hcells 12 _ rfl
          clear hcells
          go_wp2
          refine wp_loop_rounds 2 ?_
          rw [rounds_succ]
          go_wp2
          go_still_tail 12, (by kernel_rfl)
          go_wp2_with (go_at_call 25; refine (AC.out _ (by exact HW.out.drew)).mono ?_; rintro e w5 ⟨rfl, F6, hw6⟩; have HW6 := Lib.hid hw6; clear hw6)
          rw [rounds_succ]
          have q5 := Q4.out _ _ _ HW6.out
          clear c0 q4 x0 x1 x2 x3 x4 x5 x6 x7 x8 x9 x10 x11 x12
          go_wp2
          go_roundw
          case rel => exact ⟨m + 1, by go_num, by omega, Lib.hid ⟨F6, _, HW6.out, HX.out⟩⟩
          case measure => simp [intOf]; omega
        · obtain rfl : m = ll.length := by omega
          rw [List.take_length] at hs5
          have HS := Lib.hid (And.intro hw5 hs5)
          clear hw5 hs5 hlt
          go_wp2
          go_ret
          exact ⟨rfl, _, _, _, _, _, HS.out.1, BW.out.2.2.2.2.2.1, BW.out.2.2.2.2.2.2.2, BW.out.2.1, BW.out.2.2.1, BW.out.2.2.2.2.2.2.1, HS.out.2⟩
end Go.Proofs.YtpfkeohaaeiaaaaGreatDoor
/- SendBufReliable: reply: the receiver's ACK frame reaches the sender. -/
namespace Go.Proofs.YtpfkeohaaeiaaaaGreatDoor
open Go.RowKit
set_option maxRecDepth 100000
theorem Up_inj {nx : Int} {l : List frm.Pk} (h : frm.Up nx l) {p q : frm.Pk} (hp : p ∈ l) (hq : q ∈ l) (e : p.pn = q.pn) : p = q := by
  obtain ⟨i, hi, rfl⟩ := List.getElem_of_mem hp
  obtain ⟨j, hj, rfl⟩ := List.getElem_of_mem hq
  have hw := List.pairwise_iff_getElem.1 h.inc
  rcases Nat.lt_trichotomy i j with c | c | c
  · have := hw i j hi hj c; omega
  · subst c; rfl
  · have := hw j i hj hi c; omega
/-- l in three parts: acknowledged, lost, left -/
structure Parts (l la ll l' : List frm.Pk) (a e : frm.Pk → Bool) : Prop where
  la : la = l.filter a
  ll : ll = (l.filter fun p => !a p).filter e
  le : l' = (l.filter fun p => !a p).filter fun p => !e p
section
variable {l la ll l' : List frm.Pk} {a e : frm.Pk → Bool} {nx : Int}
theorem Parts.cov (h : Parts l la ll l' a e) : ∀ p ∈ l, p ∈ la ∨ p ∈ ll ∨ p ∈ l' := fun p hp => by
  rw [h.la, h.ll, h.le]
  simp only [List.mem_filter]
  cases h1 : a p with
  | true => exact .inl ⟨hp, rfl⟩
  | false =>
    cases h2 : e p with
    | true => exact .inr (.inl ⟨⟨hp, rfl⟩, rfl⟩)
    | false => exact .inr (.inr ⟨⟨hp, rfl⟩, rfl⟩)
theorem Parts.sub (h : Parts l la ll l' a e) : (∀ p ∈ l', p ∈ l) ∧ ∀ p, p ∈ la ∨ p ∈ ll → p ∈ l := by
  rw [h.la, h.ll, h.le]
  simp only [List.mem_filter]
  exact ⟨fun p hp => hp.1.1, fun p hp => hp.elim (fun h => h.1) (fun h => h.1.1)⟩
theorem Parts.dj (h : Parts l la ll l' a e) (hu : frm.Up nx l) : ∀ p ∈ l', ∀ q, q ∈ la ∨ q ∈ ll → p.pn ≠ q.pn := fun p hp q hq hpq => by
  have e1 := Up_inj hu (h.sub.1 p hp) (h.sub.2 q hq) hpq
  subst e1
  rw [h.la, h.ll] at hq
  rw [h.le] at hp
  simp only [List.mem_filter, Bool.not_eq_true'] at hp hq
  rcases hq with hq | hq
  · rw [hq.2] at hp; cases hp.1.2
  · rw [hq.2] at hp; cases hp.2
end
theorem LInv.parts {N lim : Nat} {X X' : Wh} {K K' : frm.Rc} {hs : List Fr} {R : rea.Rb} {zs : List Int} {n top now : Nat} {la ll : List frm.Pk} {a e : frm.Pk → Bool} (h : LInv N lim X K hs R zs n top now) (hS : Stl hs X X' la ll) (hp : Parts K.l la ll K'.l a e) (hK : K'.Ok) (hnx : K'.nx = K.nx)
    (hgot : ∀ p ∈ la, frm.covB zs n p.pn = true) : LInv N lim X' K' hs R zs n top now :=
  h.settle hS hp.cov hK hnx hp.sub.1 (fun p hp2 => h.got (hp.sub.2 p (.inl hp2)) (hgot p hp2)) hp.sub.2 (hp.dj h.ko.up)
theorem Wn.add {W w : World} {b : Nat} {F : Nat → Prop} {X : Wh} {H : Nat → Option Obj} (h : Wn W w b F X H) {k : Nat} {o : Obj} (hk : w.heap[k]? = some o) (hn : ¬ F k) (hW : W.heap.size ≤ k) : Wn W w b F X (upd H k o) :=
  ⟨h.inv, h.ok, h.own, h.below, fun j o' hj => by
    by_cases e : j = k
    · subst e; rw [upd_same] at hj; cases hj; exact ⟨hk, hn, hW⟩
    · rw [upd_other _ _ e] at hj; exact h.far j o' hj⟩
/-- a row of the call's own joins -/
theorem Wn.rowAdd {W w : World} {b : Nat} {F : Nat → Prop} {X : Wh} {H : Nat → Option Obj} (h : Wn W w b F X H) {B : Nat} (hB : ∀ g, B ≤ g → ¬ F g ∧ W.heap.size ≤ g) {v : Value} {l : List frm.Pk} (hr : w.ownsRow B 49 5 v l.length (frm.pcs l)) (hn : v = .slice none 0 0 → l = []) :
    ∃ H', Wn W w b F X H' ∧ RowIn H' v l ∧ (∀ k o, H k = some o → H' k = some o) ∧ ∀ k, v.ownBlock = some k → B ≤ k := by
  rcases hr.2 with ⟨e, hz⟩ | ⟨g, cap, cur, rfl, h1, h2, h3, h4, h5, h6⟩
  · exact ⟨H, h, .inl ⟨e, hn e⟩, fun _ _ hk => hk, fun k hk => by rw [e] at hk; cases hk⟩
  · refine ⟨upd H g (.cells cur 49 (0, 0)), h.add h2 (hB g h1).1 (hB g h1).2, .inr ⟨g, cap, cur, rfl, h3, h4, h5, h6, upd_same _ _ _⟩, fun k o hk => ?_, fun k hk => ?_⟩
    · by_cases e : k = g
      · subst e
        have := h.at hk
        rw [h2] at this
        rw [upd_same]; exact this
      · rw [upd_other _ _ e]; exact hk
    · have : g = k := by simpa [Value.ownBlock] using hk
      subst this; exact h1
theorem RowIn.ext {H H' : Nat → Option Obj} {v : Value} {l : List frm.Pk} (h : RowIn H v l) (hx : ∀ k o, H k = some o → H' k = some o) : RowIn H' v l := h.mono (fun k o _ hk => hx k o hk)
theorem Ls.ext {W w : World} {A : Lad} {F : Nat → Prop} {X : Wh} {K : frm.Rc} {hs : List Fr} {R : rea.Rb} {zs : List Int} {L : Lnk} {AV LV : List frm.Pk} {H H' : Nat → Option Obj} (h : Ls W w A F X K hs R zs L AV LV H) (hw : Wn W w A.b F X H') (hx : ∀ k o, H k = some o → H' k = some o) : Ls W w A F X K hs R zs L AV LV H' := by
  obtain ⟨mo, m1, m2, m3⟩ := h.hm
  refine ⟨hw, hx _ _ h.hl, hx _ _ h.hr, ⟨mo, hx _ _ m1, m2, m3⟩, hx _ _ h.hb, hx _ _ h.h1, hx _ _ h.h2, hx _ _ h.ht, h.hlen, h.sz, h.zl, fun p hp => ?_, h.ra.ext hx, h.rl.ext hx, h.rd, fun c hc => hx _ _ (h.cx c hc)⟩
  obtain ⟨g, c, cur, f1, f2, f3, f4⟩ := h.fr p hp
  exact ⟨g, c, cur, f1, f2, hx _ _ f3, f4⟩
/-- what a report of acknowledged and lost packets leaves -/
structure RepF (hs : List Fr) (X X' : Wh) (K K' : frm.Rc) (la ll : List frm.Pk) (a e : frm.Pk → Bool) : Prop where
  st : Stl hs X X' la ll
  pt : Parts K.l la ll K'.l a e
  nx : K'.nx = K.nx
  lg : K.lg ≤ K'.lg
structure SetPost (W w' : World) (N lim : Nat) (A : Lad) (hs : List Fr) (R : rea.Rb) (zs : List Int) (n top now : Nat) (L : Lnk) (AV LV : List frm.Pk) (X : Wh) (K : frm.Rc) (F' : Nat → Prop) (X' : Wh) (K' : frm.Rc) (la ll : List frm.Pk) (a e : frm.Pk → Bool) (av lv : Value) (H' : Nat → Option Obj) : Prop where
  ls : Ls W w' A F' X' K' hs R zs (L.rows av lv) (AV ++ la) (LV ++ ll) H'
  inv : LInv N lim X' K' hs R zs n top now
  rep : RepF hs X X' K K' la ll a e
/-- settle behind a call of the Recovery that gave two rows -/
theorem settle_ls {W w w0 : World} {N lim : Nat} {A : Lad} {F : Nat → Prop} {X : Wh} {K K' : frm.Rc} {hs : List Fr} {R : rea.Rb} {zs : List Int} {n top now : Nat} {L : Lnk} {AV LV la ll : List frm.Pk} {H : Nat → Option Obj} {va vl : Value} {a e : frm.Pk → Bool}
    (h : Ls W w0 A F X K hs R zs L AV LV H) (hI : LInv N lim X K hs R zs n top now) (hR : frm.RecAt w A.rb A.M K') (hT : frm.Tu A.rb A.M w0 w) (hp : Parts K.l la ll K'.l a e) (hK : K'.Ok) (hnx : K'.nx = K.nx) (hlg : K.lg ≤ K'.lg) (hgot : ∀ p ∈ la, frm.covB zs n p.pn = true)
    (ra : w.ownsRow w0.heap.size 49 5 va la.length (frm.pcs la)) (na : va = .slice none 0 0 → la = []) (rl : w.ownsRow w0.heap.size 49 5 vl ll.length (frm.pcs ll)) (nl : vl = .slice none 0 0 → ll = []) (n1 : AV.length + la.length ≤ 20000) (n2 : LV.length + ll.length ≤ 20000) :
    Calls Tryz.prog 34 #[.pointer (some ⟨A.lb, 0, none⟩), va, vl] w fun ex w' => ex = .returned (.bool true) ∧ ∃ F' X' av lv H', SetPost W w' N lim A hs R zs n top now L AV LV X K F' X' K' la ll a e av lv H' := by
  obtain ⟨H1, h1, k1, k2⟩ := h.turnR hR hT hp.sub.1
  have hfr : ∀ p ∈ K.l, FrIn H1 p.fv (frP hs p) := fun p hpm => by
    obtain ⟨g, c, cur, f1, f2, f3, f4⟩ := h.fr p hpm
    obtain ⟨mo, m1, m2, _⟩ := h.hm
    exact ⟨g, c, cur, f1, f2, k1 _ _ f3 (fun e => by rw [e, h.hr] at f3; exact cells_ne (by decide) (Option.some.inj f3)) (fun e => by rw [e, m1] at f3; exact isC_ne m2 _ _ _ (Option.some.inj f3)), f4⟩
  have hB : ∀ g, w0.heap.size ≤ g → ¬ F g ∧ W.heap.size ≤ g := fun g hg => ⟨fun hf => by have := (h.wn.own g hf).2; omega, by have := h.wn.below.size; omega⟩
  obtain ⟨H2, w2, r2, x2, b2⟩ := h1.wn.rowAdd hB ra na
  obtain ⟨H3, w3, r3, x3, b3⟩ := w2.rowAdd hB rl nl
  have h3 := (h1.ext w2 x2).ext w3 x3
  have own : ∀ {v : Value} {l : List frm.Pk}, RowIn H v l → ∀ k, v.ownBlock = some k → k < w0.heap.size := fun hr k hk => by
    obtain ⟨cur, hc⟩ := hr.block h.wn hk
    exact h.wn.lt hc
  refine (settle_any (hs := hs) h3.wn h3.hl h3.ra h3.rl h3.rd (r2.ext x3) r3 (fun k hk => ⟨fun e => ?_, fun e => ?_⟩) (fun k hk => ⟨fun e => ?_, fun e => ?_⟩) (fun p hpm => ⟨?_, (hI.frP (hp.sub.2 p hpm)).1⟩) n1 n2).mono fun ex w' hh => ?_
  · have := own h.ra k e; have := b2 k hk; omega
  · have := own h.rl k e; have := b2 k hk; omega
  · have := own h.ra k e; have := b3 k hk; omega
  · have := own h.rl k e; have := b3 k hk; omega
  · obtain ⟨g, c, cur, f1, f2, f3, f4⟩ := hfr p (hp.sub.2 p hpm)
    exact ⟨g, c, cur, f1, f2, x3 _ _ (x2 _ _ f3), f4⟩
  · obtain ⟨he, F', X', H', av, lv, sp⟩ := hh
    exact ⟨he, F', X', av, lv, H', h3.keeps (L' := L.rows av lv) sp.wn sp.keep sp.hl sp.ra sp.rl sp.rd, hI.parts sp.st hp hK hnx hgot, sp.st, hp, hnx, hlg⟩
end Go.Proofs.YtpfkeohaaeiaaaaGreatDoor
/- A region that draws its order and makes memory: the general law, the values over a parameter that the operations choose as they run. -/
namespace Go.Proofs.YtpfkeohaaeiaaaaGreatDoor.rea
open Go.RowKit
set_option maxRecDepth 100000
section
variable {P : Program} {ops : Array Oper} {Q : Exit → Act → World → Prop}
structure TInv (m : Nat) (slot : Nat → Option Nat) (val : Nat → Value) (WR : (Nat → Bool) → World → Prop) (A0 : Act) (L : Nat → Bool) (a : Act) (w : World) : Prop where
  nod : a.defers = A0.defers
  size : a.tmps.size = A0.tmps.size
  old : ∀ p, (∀ i, i < m → slot i ≠ some p) → a.tmps[p]? = A0.tmps[p]?
  new : ∀ i d, i < m → slot i = some d → L i = true → a.tmps[d]? = some (val i)
  w : WR L w
theorem any_regionT {τ : Type} (x0 : τ) {id : Nat} (m : Nat) (slot : Nat → Option Nat) (val : τ → Nat → Value) (WR : τ → (Nat → Bool) → World → Prop) {A0 : Act} {W0 : World} {tm : τ → Array Value} (hm : P.follows .mixedOrders = true) (hu : upward ops = true) (hz : ops.size = m)
    (hsl : ∀ i d, i < m → slot i = some d → d < A0.tmps.size) (hin : ∀ i j d, i < m → j < m → slot i = some d → slot j = some d → i = j) (h0 : WR x0 (fun _ => false) W0.drew)
    (hop : ∀ x i o, i < m → ops[i]? = some o → ∀ L a w, L i = false → (∀ e ∈ o.after, Region.binds .any e = true → L e.on = true) → WR x L w → GHas m slot (val x) A0 o a → o.dst = slot i ∧ Region.wanted o (yielded ops a.tmps) = true ∧
      ∀ (K : Act → World → Prop), (∀ y w', (∀ j, L j = true → val y j = val x j) → WR y (fun j => j == i || L j) w' → K (a.put o.dst (val y i)) w') → o.wp P a w K Q)
    (htm : ∀ x, setAll slot (val x) m A0.tmps = tm x) (h : ∀ x L w, (∀ i, i < m → L i = true) → WR x L w → Q .normal { tmps := tm x, defers := A0.defers } w) : (Code.region id ops true).wp P Q A0 W0 := by
  refine wp_region_inv hm hu (fun L a w => ∃ x, TInv m slot (val x) (WR x) A0 L a w) ⟨x0, rfl, rfl, fun _ _ => rfl, (fun _ _ _ _ h => by cases h), h0⟩ ?_ ?_
  · rintro L a w i o ho hL hdep ⟨x, hI⟩
    have hi : i < m := by have := (Array.getElem?_eq_some_iff.1 ho).1; omega
    obtain ⟨h1, hw, h4⟩ := hop x i o hi ho L a w hL hdep hI.w ⟨hI.old, fun e he hb hlt d hd => hI.new _ d hlt hd (hdep e he hb)⟩
    have key : ∀ y w', (∀ j, L j = true → val y j = val x j) → WR y (fun j => j == i || L j) w' → TInv m slot (val y) (WR y) A0 (fun j => j == i || L j) (a.put o.dst (val y i)) w' := by
      intro y w' hy hb
      rw [h1]
      cases hd : slot i with
      | none =>
        refine ⟨hI.nod, hI.size, hI.old, fun j d hj hs hl => ?_, hb⟩
        rcases Bool.or_eq_true .. ▸ hl with e | e
        · rw [beq_iff_eq] at e; subst e; rw [hd] at hs; cases hs
        · rw [hy j e]; exact hI.new j d hj hs e
      | some d =>
        have hsi : d < a.tmps.size := by rw [hI.size]; exact hsl i d hi hd
        refine ⟨hI.nod, ?_, ?_, ?_, hb⟩
        · show (a.tmps.setIfInBounds _ _).size = _; simpa using hI.size
        · intro p hp
          show (a.tmps.setIfInBounds _ _)[p]? = _
          rw [Array.getElem?_setIfInBounds_ne (fun e => hp i hi (by rw [hd, e]))]
          exact hI.old p hp
        · intro j d2 hj hd2 hl
          show (a.tmps.setIfInBounds _ _)[d2]? = _
          by_cases hji : j = i
          · subst hji
            rw [hd] at hd2; cases hd2
            exact Array.getElem?_setIfInBounds_self_of_lt hsi
          · have hne : d ≠ d2 := fun e => hji (hin j i d2 hj hi hd2 (by rw [hd, e]))
            rw [Array.getElem?_setIfInBounds_ne hne]
            rcases Bool.or_eq_true .. ▸ hl with e | e
            · exact absurd (beq_iff_eq.1 e) hji
            · rw [hy j e]; exact hI.new j d2 hj hd2 e
    refine wpOp_step ho fun K' hK => ?_
    rw [if_pos hw]
    exact h4 _ (fun y w' hy hb => hK _ _ ⟨y, key y w' hy hb⟩)
  · rintro L a w hall ⟨x, hI⟩
    have ha : a = { tmps := tm x, defers := A0.defers } := by
      obtain ⟨at_, ad⟩ := a
      have h1 : ad = A0.defers := hI.nod
      have h2 : at_ = tm x := by
        rw [← htm]
        apply Array.ext_getElem?
        intro p
        rcases setAll_get slot (val x) m A0.tmps hin (fun i d hi hd => hsl i d hi hd) p with ⟨i, hi, hs, hv⟩ | ⟨hs, hv⟩
        · rw [hv]; exact hI.new i p hi hs (hall i (by omega))
        · rw [hv]; exact hI.old p hs
      rw [h1, h2]
    rw [ha]
    exact h x L w (fun i hi => hall i (by omega)) hI.w
end
end Go.Proofs.YtpfkeohaaeiaaaaGreatDoor.rea
