/- Texts Lka Lkb Lkc of this claim, one behind the other. -/
import Derived.Test.YtpfkeohaaeiaaaaGreatDoorRc1
import Derived.Laws.AppendOwn
import Derived.Shelf.RegionOpenPlain
import Derived.WalkKit
import Derived.Lib.Walk
import Derived.Lib.SliceRun
import Derived.Lib.Hide
import Derived.Test.YtpfkeohaaeiaaaaGreatDoorRc11
import Derived.Deep.MidRow
import Derived.Deep.WholeRow
import Derived.Deep.RegionWith
import Derived.Deep.DeepCutAuto
import Derived.Deep.CutBlock
import Derived.Test.YtpfkeohaaeiaaaaGreatDoorRc7
import Derived.BigQuiet
/- Loss, packets with one frame: a row of one frame cloned. -/
namespace Go.Proofs.YtpfkeohaaeiaaaaGreatDoor
open Go.RowKit
set_option maxRecDepth 100000
theorem facts56k : ∃ i, Tryz.prog.info? 56 = some i ∧ i.zero = some (mkFr 0 0 ⟨#[]⟩ false).val ∧ i.size = 13 ∧ i.bytes ≤ 1000 := ⟨_, rfl, rfl, rfl, by decide⟩
/-- a slice of one frame -/
def FrAt (w : World) (v : Value) (f : Fr) : Prop := ∃ g c, v = .slice (some ⟨g, 0, none⟩) 1 c ∧ 1 ≤ c ∧ ∀ j u, f.cells.toList[j]? = some u → w.cell? ⟨g, j, none⟩ = some u
theorem FrAt.below {w w' : World} {v : Value} {f : Fr} (h : FrAt w v f) (hb : Below w.heap.size w w') : FrAt w' v f := by
  obtain ⟨g, c, h1, h2, h3⟩ := h
  exact ⟨g, c, h1, h2, fun j u hu => (hb.cell (p := ⟨g, j, none⟩) (World.block_lt_of_cell? _ _ (h3 j u hu))).trans (h3 j u hu)⟩
set_option maxHeartbeats 2000000 in
/-- slices.Clone of one frame -/
theorem cloneF_one (v : Value) (f : Fr) (w : World) (h : FrAt w v f) (h1 : f.cells.all (·.oneCell') = true) :
    Calls Tryz.prog 67 #[v] w fun e w' => ∃ g c, e = .returned (.slice (some ⟨g, 0, none⟩) 1 c) ∧ 1 ≤ c ∧ w.heap.size ≤ g ∧ w'.ownsRow w.heap.size 56 13 (.slice (some ⟨g, 0, none⟩) 1 c) 1 f.cells.toList ∧ Below w.heap.size w w' := by
  obtain ⟨g0, c0, rfl, hc0, hx⟩ := h
  obtain ⟨i0, p1, p2, p3, p4⟩ := facts56k
  have hq := @Lib.run_eql_slice_nil Tryz.prog
  have HX := Lib.hid hx
  have H1 := Lib.hid (show ∀ u ∈ f.cells.toList, u.oneCell' = true from fun u hu => (Array.all_eq_true_iff_forall_mem.1 h1) u (by simpa using hu))
  have P1 := Lib.hid p1; have P2 := Lib.hid p2; have P3 := Lib.hid p3; have P4 := Lib.hid p4
  have HL := Lib.hid (show f.cells.toList.length = 1 * 13 from rfl)
  clear hx h1 p1 p2 p3 p4
  generalize f.cells.toList = cs at *
  go_enter Tryz.func67, Tryz.ntmps67
  go_wp2_with (refine wpList_append_own _ rfl (.tmp 5) (.tmp 6) 47 rfl w.heap.size 56 i0 _ 13 i0.bytes Tryz.underlying47 P1.out P2.out P3.out rfl rfl (by decide) _ 0 [] rfl (World.ownsRow_made w #[] 0 (Nat.le_refl _) (Nat.zero_le _) rfl) ⟨g0, 0, none⟩ 1 c0 cs rfl HL.out ?qc2 (fun u hu => H1.out u hu) (by unfold maxLen; omega) (by have := P4.out; omega) (by simp) ?_)
  case qc2 =>
    intro j u hj
    rw [Addr.add_lit]
    refine Lib.cell?_alloc_some _ ?_
    rw [Nat.zero_add]; exact HX.out j u hj
  intro v' w1 hown hgrow hnil
  go_wp2
  go_ret
  have hown2 := hown
  rcases hown.2 with ⟨rfl, e⟩ | ⟨g, c, cur, rfl, hb, hg, hn, hc, hs, ht⟩
  · exact absurd rfl hnil
  · exact ⟨g, c, rfl, hn, hb, hown2, ((Below.refl _ w).alloc (Nat.le_refl _) _).grown hgrow (by simp) (by intro k hk; simp [Value.ownBlock] at hk; omega)⟩
end Go.Proofs.YtpfkeohaaeiaaaaGreatDoor
/- Loss, packets with one frame: clone. -/
namespace Go.Proofs.YtpfkeohaaeiaaaaGreatDoor
open Go.RowKit
set_option maxRecDepth 100000
theorem cloneS_nil (w : World) : Calls Tryz.prog 68 #[.slice none 0 0] w fun e w' => e = .returned (.slice none 0 0) ∧ w = w' := by
  have h1 := @Lib.run_eql_slice_nil Tryz.prog
  go_enter Tryz.func68, Tryz.ntmps68
  go_wp2
  go_ret
  exact ⟨rfl, rfl⟩
/-- the same in a block of the call's own -/
def FrB (n : Nat) (w : World) (v : Value) (f : Fr) : Prop := ∃ (g c : Nat) (cur : Array Value), v = .slice (some ⟨g, 0, none⟩) 1 c ∧ 1 ≤ c ∧ n ≤ g ∧ w.heap[g]? = some (.cells cur 56 (0, 0)) ∧ ∀ (j : Nat) (u : Value), f.cells.toList[j]? = some u → cur[j]? = some u
def pkC (pn time size : Int) (el : Bool) (v : Value) : Array Value := #[.int .i64 pn, .int .i64 time, .int .i64 size, .bool el, v]
theorem sizeF56 (f : Fr) : (Tryz.prog.info? 56).map (·.size) = some f.cells.toList.length := by kernel_rfl
theorem sizeF56' (f : Fr) : (Tryz.prog.info? 56).map (·.size) = some f.cells.size := by kernel_rfl
theorem sizePk (pn time size : Int) (el : Bool) (v : Value) : (Tryz.prog.info? 49).map (·.size) = some (pkC pn time size el v).size := by kernel_rfl
theorem onePk (pn time size : Int) (el : Bool) (a : Option Addr) (n c : Nat) : (pkC pn time size el (.slice a n c)).all (·.oneCell') = true := by simp [pkC, Value.oneCell']
set_option maxHeartbeats 4000000 in
theorem clone_one (pn time size : Int) (el : Bool) (v : Value) (f : Fr) (w : World) (h : FrAt w v f) (h1 : f.cells.all (·.oneCell') = true) (hr : f.ranges = .slice none 0 0) :
    Calls Tryz.prog 41 #[.agg (pkC pn time size el v)] w fun e w' => ∃ v', e = .returned (.agg (pkC pn time size el v')) ∧ FrAt w' v' f ∧ FrB w.heap.size w' v' f ∧ Below w.heap.size w w' := by
  have CF := Lib.hid (fun wx (hx : FrAt wx v f) => cloneF_one v f wx hx h1)
  have FA := Lib.hid h
  have H1 := Lib.hid h1
  obtain ⟨g0, c0, rfl, _, _⟩ := h
  have hc4 : (pkC pn time size el (.slice (some ⟨g0, 0, none⟩) 1 c0))[4]? = some (.slice (some ⟨g0, 0, none⟩) 1 c0) := rfl
  clear h1
  unfold pkC at *
  go_enter Tryz.func41, Tryz.ntmps41
  have X := Lib.hid (box2 w (.cells #[.int .i64 pn, .int .i64 time, .int .i64 size, .bool el, .slice (some ⟨g0, 0, none⟩) 1 c0] 49) (.cells #[.int .i64 0, .int .i64 0, .int .i64 0, .bool false, .slice none 0 0] 49))
  go_upto_region 2 with (go_at_call 67; refine (CF.out _ (by exact FA.out.below X.out.2.2.1)).mono ?_; rintro e w1 ⟨g, c, rfl, hc, hg, hrow, hb⟩; have B1 := heap_below hb X.out.1; have z4 := frozen_whole B1 4; have c4 := at_whole B1 4 rfl; simp only [List.getElem_toArray, List.getElem_cons_zero, List.getElem_cons_succ] at c4; rw [X.out.2.2.2] at hg hrow; have HB1 := Lib.hid B1; have HB2 := Lib.hid (heap_below hb X.out.2.1); have HW := Lib.hid hrow; have BE := Lib.hid (X.out.2.2.1.trans (hb.mono (by rw [X.out.2.2.2]; omega))); clear B1 hrow hb)
  have hg0 : w.heap.size ≠ g := by omega
  obtain ⟨cur, hcur, hcs, htk⟩ : ∃ cur, w1.heap[g]? = some (.cells cur 56 (0, 0)) ∧ 13 ≤ cur.size ∧ cur.toList.take 13 = f.cells.toList := by
    rcases HW.out.2 with ⟨e, _⟩ | ⟨g', c', cur, e, h2, h3, h4, h5, h6, h7⟩
    · cases e
    · simp only [Value.slice.injEq, Option.some.injEq, Addr.mk.injEq] at e
      obtain ⟨⟨rfl, _, _⟩, _, rfl⟩ := e
      exact ⟨cur, h3, by omega, by simpa using h7⟩
  have S1 := Lib.hid (heap_set (i := 4) (.slice (some ⟨g, 0, none⟩) 1 c) HB1.out)
  have S2 := Lib.hid ((heap_setCell_other w1 ⟨w.heap.size, 4, none⟩ (w.heap.size + 1) (.slice (some ⟨g, 0, none⟩) 1 c) (by simp)).trans HB2.out)
  have S3 := Lib.hid ((heap_setCell_other w1 ⟨w.heap.size, 4, none⟩ g (.slice (some ⟨g, 0, none⟩) 1 c) (by simp; omega)).trans hcur)
  have S4 := Lib.hid (BE.out.setCell (p := ⟨w.heap.size, 4, none⟩) (Nat.le_refl _) (.slice (some ⟨g, 0, none⟩) 1 c))
  generalize World.setCell w1 _ _ = W2 at S1 S2 S3 S4 ⊢
  clear z4 c4 hcur HB1 HB2 HW BE X CF FA hc4
  have q4 : W2.cell? ⟨w.heap.size, 4, none⟩ = some (.slice (some ⟨g, 0, none⟩) 1 c) := at_whole S1.out 4 rfl
  have RA := Lib.hid (show W2.rangeAt g 0 f.cells.toList from fun j u hu => by
    have hj : j < 13 := (List.getElem?_eq_some_iff.1 hu).1
    rw [← htk, List.getElem?_take_of_lt hj] at hu
    simp only [World.cell?, S3.out, Nat.zero_add]
    simpa using hu)
  go_wp2_with fail
  refine wp_loop_rounds 2 ?_
  rw [rounds_succ]
  go_upto_region 5 with (first
    | (refine wpList_load_mid rfl 56 _ rfl g 0 rfl f.cells.toList _ (by exact RA.out) Tryz.underlying56 rfl (sizeF56 f) ?_; rw [Array.toArray_toList])
    | (refine wpList_store_row rfl 56 (.tmp 4) (.tmp 16) rfl W2.heap.size f.cells rfl rfl 56 _ (heap_alloc_new _ _) (sizeF56' f) rfl H1.out ?_; rw [World.setRow_alloc_new]))
  have V1 := Lib.hid (heap_below ((Below.refl _ W2).alloc (Nat.le_refl _) (.cells f.cells 56)) S1.out)
  have V2 := Lib.hid (heap_below ((Below.refl _ W2).alloc (Nat.le_refl _) (.cells f.cells 56)) S2.out)
  have V3 := Lib.hid (heap_below ((Below.refl _ W2).alloc (Nat.le_refl _) (.cells f.cells 56)) S3.out)
  have V4 := Lib.hid (S4.out.trans (((Below.refl _ W2).alloc (Nat.le_refl _) (.cells f.cells 56)).mono S4.out.size))
  have V5 := Lib.hid (heap_alloc_new W2 (.cells f.cells 56))
  have hTB : W2.heap.size ≠ g := fun e => Nat.lt_irrefl _ (e ▸ heap_lt S3.out)
  clear q4 RA S1 S2 S3 S4
  generalize W2.heap.size = tb at V5 hTB ⊢
  generalize W2.alloc (.cells f.cells 56) = W3 at V1 V2 V3 V4 V5 ⊢
  have q4 : W3.cell? ⟨w.heap.size, 4, none⟩ = some (.slice (some ⟨g, 0, none⟩) 1 c) := at_whole V1.out 4 rfl
  have q9 : W3.cell? ⟨tb, 9, none⟩ = some (.slice none 0 0) := by rw [← hr]; exact at_whole V5.out 9 rfl
  have hc9 : cur[9]? = some (.slice none 0 0) := by
    have : (cur.toList.take 13)[9]? = some f.ranges := by rw [htk]; rfl
    rw [List.getElem?_take_of_lt (by decide), hr] at this
    simpa using this
  have r9 : W3.cell? ⟨g, 9, none⟩ = some (.slice none 0 0) := by simp only [World.cell?, V3.out]; exact hc9
  have z9 := frozen_whole V3.out 9
  have HTK := Lib.hid htk
  have HC9 := Lib.hid hc9
  clear htk hc9
  go_region_with (go_at_call 68; refine (cloneS_nil _).mono ?_; rintro e w5 ⟨rfl, rfl⟩)
  all_goals
    have hcc : cur.setIfInBounds 9 (.slice none 0 0) = cur := by
      apply Array.ext_getElem?
      intro j
      by_cases e : 9 = j
      · subst e
        rw [Array.getElem?_setIfInBounds_self_of_lt (by omega), HC9.out]
      · rw [Array.getElem?_setIfInBounds_ne e]
    have U1 := Lib.hid (show (W3.setCell ⟨g, 9, none⟩ (.slice none 0 0)).drew.heap[w.heap.size]? = some (.cells (pkC pn time size el (.slice (some ⟨g, 0, none⟩) 1 c)) 49 (0, 0)) from (heap_setCell_other W3 ⟨g, 9, none⟩ w.heap.size (.slice none 0 0) (by simp; omega)).trans V1.out)
    have U2 := Lib.hid (show (W3.setCell ⟨g, 9, none⟩ (.slice none 0 0)).drew.heap[w.heap.size + 1]? = some (.cells (pkC 0 0 0 false (.slice none 0 0)) 49 (0, 0)) from (heap_setCell_other W3 ⟨g, 9, none⟩ (w.heap.size + 1) (.slice none 0 0) (by simp; omega)).trans V2.out)
    have U3 := Lib.hid (show (W3.setCell ⟨g, 9, none⟩ (.slice none 0 0)).drew.heap[g]? = some (.cells cur 56 (0, 0)) from by have := heap_set (i := 9) (.slice none 0 0) V3.out; rw [hcc] at this; exact this)
    have U4 := Lib.hid (show Below w.heap.size w (W3.setCell ⟨g, 9, none⟩ (.slice none 0 0)).drew from (V4.out.setCell (p := ⟨g, 9, none⟩) (by simp; omega) _).drew)
    clear V1 V2 V3 V4 V5 q4 q9 r9 z9 hcc
    generalize (World.setCell W3 _ _).drew = W4 at U1 U2 U3 U4 ⊢
    go_wp2_with fail
    rw [rounds_succ]
    go_wp2_with (first
      | (refine wpList_load_row rfl 49 _ rfl w.heap.size rfl 49 (pkC pn time size el (.slice (some ⟨g, 0, none⟩) 1 c)) (0, 0) _ (by exact U1.out) Tryz.underlying49 rfl (sizePk ..) ?_)
      | (refine wpList_store_row rfl 49 (.tmp 2) (.tmp 26) rfl (w.heap.size + 1) (pkC pn time size el (.slice (some ⟨g, 0, none⟩) 1 c)) rfl rfl 49 (pkC 0 0 0 false (.slice none 0 0)) (by exact U2.out) (sizePk ..) rfl (onePk ..) ?_))
    refine bodyPost_ret (v := .agg (pkC pn time size el (.slice (some ⟨g, 0, none⟩) 1 c))) (results_cell_row rfl _ _ (w.heap.size + 1) 49 _ (0, 0) _ rfl (setRow_heap _ _ _ _ 49 _ U2.out) Tryz.underlying49 rfl (sizePk ..)) rfl ⟨_, rfl, ⟨g, c, rfl, hc, fun j u hu => ?_⟩, ⟨g, c, cur, rfl, hc, by omega, (setRow_other W4 (w.heap.size + 1) g _ (by omega)).trans U3.out, fun j u hu => ?_⟩, ?_⟩
    · have hj : j < 13 := (List.getElem?_eq_some_iff.1 hu).1
      rw [← HTK.out, List.getElem?_take_of_lt hj] at hu
      have : (W4.setRow (w.heap.size + 1) (pkC pn time size el (.slice (some ⟨g, 0, none⟩) 1 c))).heap[g]? = some (.cells cur 56 (0, 0)) := (setRow_other W4 (w.heap.size + 1) g _ (by omega)).trans U3.out
      simp only [World.cell?, this]
      simpa using hu
    · have hj : j < 13 := (List.getElem?_eq_some_iff.1 hu).1
      rw [← HTK.out, List.getElem?_take_of_lt hj] at hu
      simpa using hu
    · exact ⟨U4.out.os, U4.out.tape, U4.out.output, by simpa using U4.out.size, fun k hk => (setRow_other W4 _ k _ (by omega)).trans (U4.out.block k hk)⟩
end Go.Proofs.YtpfkeohaaeiaaaaGreatDoor
/- Loss: Sent at a packet with one frame. Printed by gen/mkLkc.py. -/
namespace Go.Proofs.YtpfkeohaaeiaaaaGreatDoor
open Go.RowKit
theorem FrAt.of_block {w w' : World} {v : Value} {f : Fr} (h : FrAt w v f) (hk : ∀ g c, v = .slice (some ⟨g, 0, none⟩) 1 c → w'.heap[g]? = w.heap[g]?) : FrAt w' v f := by
  obtain ⟨g, c, h1, h2, h3⟩ := h
  exact ⟨g, c, h1, h2, fun j u hu => (World.cell?_of_block (a := ⟨g, j, none⟩) (hk g c h1)).trans (h3 j u hu)⟩
end Go.Proofs.YtpfkeohaaeiaaaaGreatDoor
namespace Go.Proofs.YtpfkeohaaeiaaaaGreatDoor.frm
open Go.RowKit Go.Maps
set_option maxRecDepth 100000
set_option maxHeartbeats 4000000 in
theorem sent_one {w : World} {b M : Nat} {R : Rc} (hR : RecAt w b M R) (ok : R.Ok) (p : Pk) (f : Go.Proofs.YtpfkeohaaeiaaaaGreatDoor.Fr) (hF : FrAt w p.fv f) (hf1 : f.cells.all (·.oneCell') = true) (hfr : f.ranges = .slice none 0 0) (hp : p.pn = R.nx) (ht : 0 ≤ p.time) (hs : 0 ≤ p.size) :
    Calls Tryz.prog 31 #[.pointer (some ⟨b, 0, none⟩), p.val] w fun e w' => ∃ v', e = .returned (.int .i64 0) ∧ RecAt w' b M (R.add { p with fv := v' }) ∧ FrAt w' v' f ∧ FrB w.heap.size w' v' f ∧ Tu b M w w' := by
  have FA := Lib.hid hF
  have hwf := Lib.hid (pnWf ok.n0 (by have := ok.n1; omega))
  have hup := Lib.hid ok.up
  have hn0 := ok.n0
  have hn1 := ok.n1
  have hn2 : IntKind.i64.wrap (R.nx + 1) = R.nx + 1 := IntWalk.i64_in _ (by omega)
  obtain ⟨pn, time, size, el, fv⟩ := p
  obtain ⟨g0, c0, hfv, _, _⟩ := hF
  obtain rfl : fv = .slice (some ⟨g0, 0, none⟩) 1 c0 := hfv
  obtain rfl : pn = R.nx := hp
  have C := Lib.hid (fun (wx : World) (hx : FrAt wx (.slice (some ⟨g0, 0, none⟩) 1 c0) f) => clone_one R.nx time size el (.slice (some ⟨g0, 0, none⟩) 1 c0) f wx hx hf1 hfr)
  unfold pkC at C
  simp only [Pk.val, Pk.cells] at ht hs FA ⊢
  have hb := heap_lt hR.1
  have X := Lib.hid (box1 w (.cells #[.int .i64 R.nx, .int .i64 time, .int .i64 size, .bool el, .slice (some ⟨g0, 0, none⟩) 1 c0] 49))
  have HR := Lib.hid (hR.below X.out.2.1)
  have x0 := at_whole X.out.1 0 rfl
  have x1 := at_whole X.out.1 1 rfl
  have x2 := at_whole X.out.1 2 rfl
  have x3 := at_whole X.out.1 3 rfl
  have x4 := at_whole X.out.1 4 rfl
  have b0 := at_whole HR.out.1 0 rfl
  have b1 := at_whole HR.out.1 1 rfl
  simp only [List.getElem_toArray, List.getElem_cons_zero, List.getElem_cons_succ] at x0 x1 x2 x3 x4 b0 b1
  have gd : decide (R.nx > 281474976710655) = false := by simp; omega
  have gd2 : (281474976710655 < R.nx) = False := eq_false (by omega)
  have gt : (time < 0) = False := eq_false (by omega)
  have gs : (size < 0) = False := eq_false (by omega)
  clear hR ok
  go_enter Tryz.func31, Tryz.ntmps31
  go_wp2
  generalize w.alloc _ = V at X HR x0 x1 x2 x3 x4 b0 b1 ⊢
  go_quiet (fail)
  go_wp2
  have Y := Lib.hid (show (V.drewN nq).heap[w.heap.size]? = some (.cells #[.int .i64 R.nx, .int .i64 time, .int .i64 size, .bool el, .slice (some ⟨g0, 0, none⟩) 1 c0] 49 (0, 0)) ∧ Below w.heap.size w (V.drewN nq) ∧ RecAt (V.drewN nq) b M R from ⟨X.out.1, belowN X.out.2.1 _, HR.out.1, HR.out.2.of_block rfl⟩)
  clear x0 x1 x2 x3 x4 b0 b1 X HR
  generalize V.drewN nq = V2 at Y ⊢
  have x0 := at_whole Y.out.1 0 rfl
  have x1 := at_whole Y.out.1 1 rfl
  have x2 := at_whole Y.out.1 2 rfl
  have x3 := at_whole Y.out.1 3 rfl
  have x4 := at_whole Y.out.1 4 rfl
  have b0 := at_whole Y.out.2.2.1 0 rfl
  simp only [List.getElem_toArray, List.getElem_cons_zero, List.getElem_cons_succ] at x0 x1 x2 x3 x4 b0
  have HS := Lib.hid (show ∀ w', Keep V2 w' → (w'.cell? ⟨b, 0, none⟩ = some (.map (some M)) ∧ w'.cell? ⟨w.heap.size, 0, none⟩ = some (.int .i64 R.nx) ∧ w'.cell? ⟨w.heap.size, 1, none⟩ = some (.int .i64 time) ∧ w'.cell? ⟨w.heap.size, 2, none⟩ = some (.int .i64 size) ∧ w'.cell? ⟨w.heap.size, 3, none⟩ = some (.bool el) ∧ w'.cell? ⟨w.heap.size, 4, none⟩ = some (.slice (some ⟨g0, 0, none⟩) 1 c0)) from
    fun w' h => ⟨at_whole (h _ _ _ Y.out.2.2.1) 0 rfl, at_whole (h _ _ _ Y.out.1) 0 rfl, at_whole (h _ _ _ Y.out.1) 1 rfl, at_whole (h _ _ _ Y.out.1) 2 rfl, at_whole (h _ _ _ Y.out.1) 3 rfl, at_whole (h _ _ _ Y.out.1) 4 rfl⟩)
  have UP := Lib.hid (show ∀ (w1 : World) (v1 : Value), Below V2.drew.heap.size V2.drew w1 → ∃ w3, (Instr.mapUpdate 78 (.map (some M)) (.int .i64 R.nx) (.agg #[.int .i64 R.nx, .int .i64 time, .int .i64 size, .bool el, v1])).run Tryz.prog w1 = .ok () w3 ∧ MapPk w3 M (R.nx.toNat + 1) (R.l ++ [⟨R.nx, time, size, el, v1⟩]) ∧ w1.grownBy w3 (some M) ∧ Keep V2 w3 from fun w1 v1 h => by
    obtain ⟨D, hD, hH⟩ := (Y.out.2.2.below (below_drew h)).2
    obtain ⟨w3, h1, h2, h3⟩ := hD.put (t := 78) (e := 49) (Maps.int_keyed Tryz.underlying3) Tryz.underlying78 (by unfold maxLen; omega) (.agg #[.int .i64 R.nx, .int .i64 time, .int .i64 size, .bool el, v1]) (Maps.keyOf_int_mk Tryz.underlying3 hwf.out)
    exact ⟨w3, h1, ⟨_, h2, hH.put hup.out ⟨R.nx, time, size, el, v1⟩ rfl⟩, h3, fun x y z hh => keep_map hD h3 x y z (keep_below (below_drew h) x y z hh)⟩)
  go_region_held3 (fun w' => w'.cell? ⟨b, 0, none⟩ = some (.map (some M)) ∧ w'.cell? ⟨w.heap.size, 0, none⟩ = some (.int .i64 R.nx) ∧ w'.cell? ⟨w.heap.size, 1, none⟩ = some (.int .i64 time) ∧ w'.cell? ⟨w.heap.size, 2, none⟩ = some (.int .i64 size) ∧ w'.cell? ⟨w.heap.size, 3, none⟩ = some (.bool el) ∧ w'.cell? ⟨w.heap.size, 4, none⟩ = some (.slice (some ⟨g0, 0, none⟩) 1 c0))
    (first | exact HS.out _ (keep_below (Below.refl V2.heap.size V2).drew) | exact HS.out _ (keep_below (below_drew hb1)) | exact HS.out _ hk3)
    (first | (go_at_call 41; refine (C.out _ (by exact (FA.out.below Y.out.2.1).below (Below.refl V2.heap.size V2).drew)).mono ?_; rintro e w1 ⟨v1, rfl, hfa, hfs, hb1⟩; obtain ⟨w3, hrun, hm3, hg3, hk3⟩ := UP.out w1 v1 hb1))
  have HFA := Lib.hid hfa
  have HFS := Lib.hid hfs
  have HG3 := Lib.hid hg3
  have HSZ := Lib.hid (show w.heap.size ≤ V2.heap.size from Y.out.2.1.size)
  have LB := Lib.hid (heap_lt Y.out.2.2.1)
  have LM := Lib.hid (show M < V2.heap.size from by obtain ⟨D, hD, _⟩ := Y.out.2.2.2; exact hD.lt)
  have R3 := Lib.hid (show w3.heap[b]? = some (.cells #[.map (some M), .int .i64 R.nx, .int .i64 R.lg] 80 (0, 0)) from hk3 _ _ _ Y.out.2.2.1)
  have T3 := Lib.hid (show Tu b M w w3 from (Tu.below Y.out.2.1).trans ((Tu.below (below_drew hb1)).trans (Tu.map hg3)))
  have M3 := Lib.hid hm3
  have d1 := at_whole R3.out 1 rfl
  have f1 := frozen_whole R3.out 1
  simp only [List.getElem_toArray, List.getElem_cons_zero, List.getElem_cons_succ] at d1
  clear hrun hm3 hg3 hk3 hb1 hfa hfs x0 x1 x2 x3 x4 b0
  go_wp2
  go_ret
  obtain ⟨g, c, cur, hv1, hc1, hgs, hgo, hcu⟩ := HFS.out
  have hgs2 : V2.heap.size ≤ g := hgs
  have hlb := LB.out
  have hlm := LM.out
  have hsz := HSZ.out
  refine ⟨v1, rfl, ⟨?_, ?_⟩, ?_, ⟨g, c, cur, hv1, hc1, by omega, (heap_setCell_other _ _ _ _ (by simp; omega)).trans ((HG3.out.block g (heap_lt hgo) (fun e => by cases e; omega)).trans hgo), hcu⟩, T3.out.trans (Tu.set _ _ _)⟩
  · exact (heap_set (.int .i64 (R.nx + 1)) R3.out)
  · obtain ⟨D, hD, hH⟩ := M3.out
    have hne : M ≠ b := fun e => by
      subst e
      have := hD.no_cells R3.out
      cases this
    have e : (R.nx + 1).toNat = R.nx.toNat + 1 := by omega
    exact MapPk.of_block (w := w3) (by show MapPk w3 M (R.nx + 1).toNat _; rw [e]; exact M3.out) (heap_setCell_other _ _ _ _ (fun e => hne e))
  · refine HFA.out.of_block fun g' c' e => ?_
    rw [hv1] at e
    simp only [Value.slice.injEq, Option.some.injEq, Addr.mk.injEq] at e
    obtain ⟨⟨rfl, _, _⟩, _, _⟩ := e
    refine (heap_setCell_other _ _ _ _ (by simp; omega)).trans (HG3.out.block g ?_ (fun e => by cases e; omega))
    obtain ⟨g2, c2, e2, _, hx⟩ := HFA.out
    rw [hv1] at e2
    simp only [Value.slice.injEq, Option.some.injEq, Addr.mk.injEq] at e2
    obtain ⟨⟨rfl, _, _⟩, _, _⟩ := e2
    exact World.block_lt_of_cell? _ _ (hx 0 (.int .i64 f.ty) rfl)
end Go.Proofs.YtpfkeohaaeiaaaaGreatDoor.frm
