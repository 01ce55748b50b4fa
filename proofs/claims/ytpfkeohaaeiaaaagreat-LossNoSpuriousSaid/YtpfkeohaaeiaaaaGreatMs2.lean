/- Texts U Held V H Os I Inv Lit Li of this claim, one behind the other. -/
import Derived.Test.YtpfkeohaaeiaaaaGreatMs1
import Derived.Deep.RegionHeld3
import Derived.Deep.RegionWith
import Derived.Deep.QuietTactic
import Derived.Deep.AppendLies
import Derived.Laws.Rows
import Derived.Orders
/- Law 13: the iterator over the outstanding packets. -/
namespace Go.Proofs.YtpfkeohaaeiaaaaGreat
open Go.RowKit Go.Maps Go.Sort Go.Shelf
attribute [local go_sem] Oper.semAt_some
def encP (p : Pk) : Array Value := #[p.val]
/-- rows and boxes of ints stay -/
def Ints (W W' : World) : Prop := ∀ (k : Nat) (cs : Array Value) (fz : Nat × Nat), W.heap[k]? = some (.cells cs 3 fz) → W'.heap[k]? = some (.cells cs 3 fz)
def KpI (n₀ : Nat) (W W' : World) : Prop := Below n₀ W W' ∧ Ints W W'
theorem Ints.trans {a b c : World} (h : Ints a b) (k : Ints b c) : Ints a c := fun _ _ _ hh => k _ _ _ (h _ _ _ hh)
theorem Ints.below {a b : World} (h : Below a.heap.size a b) : Ints a b := fun _ _ _ hh => heap_below h hh
theorem KpI.trans {n₀ : Nat} {a b c : World} (h : KpI n₀ a b) (k : KpI n₀ b c) : KpI n₀ a c := ⟨h.1.trans k.1, h.2.trans k.2⟩
theorem sortsL (m : Nat) : AnyZI.SortsIn Tryz.prog Tryz.sortedL_ren Fence.wide m :=
  ⟨fun blk off cap ss W hH hblk hsz => callsIn_wide.2 (Tryz.slices_Sort_int blk off cap ss W hH hblk hsz),
   fun p cap W => callsIn_wide.2 (Tryz.slices_Sort_int_none p cap W)⟩
set_option maxRecDepth 100000 in
set_option maxHeartbeats 4000000 in
theorem all_in (n : Nat) (hn : 6 ≤ n) (ly B b M nn n₀ : Nat) (l : List Pk) (nx : Int) (hu : Up nx l) (hnx : nx ≤ 281474976710656) (hll : l.length ≤ 1000000) (J Jx : List Pk → World → Prop) {m : Nat} (hJA : AbidesFrom m J)
    (hY : ∀ pre x W, x ∈ l → J pre W → pre.length < l.length → YieldAt Fence.wide (n - 1) Tryz.prog ly (encP x) W fun e W' =>
      (e = .returned (.bool true) ∧ J (pre ++ [x]) W' ∧ KpI n₀ W W') ∨ (e = .returned (.bool false) ∧ Jx (pre ++ [x]) W'))
    (W : World) (hWn : n₀ ≤ W.heap.size) (hBl : B < n₀) (hbl : b < n₀) (hMl : M < n₀)
    (hB : W.cell? ⟨B, 0, none⟩ = some (.pointer (some ⟨b, 0, none⟩))) (hb : W.cell? ⟨b, 0, none⟩ = some (.map (some M))) (hM : MapPk W M nn l) (h0 : J [] W) :
    CallsIn Fence.wide n Tryz.prog 56 #[.func (.yield ly) #[] #[], .pointer (some ⟨B, 0, none⟩)] W fun e W' => (∃ v, e = .returned v) ∧
      ((∃ ys, ys = l ∧ J ys W') ∨ (∃ pre, pre <+: l ∧ Jx pre W')) := by
  obtain ⟨D, hD, hH⟩ := hM
  have HD := Lib.hid (And.intro hD hH)
  have hsz : Maps.size D = l.length := by
    obtain ⟨es, rfl, ht⟩ := hH.tidy
    have := (keys_sorted hH hu (MapAt.keys hD) (List.Perm.refl _)).2
    simpa [Maps.size, intKeys] using this
  have hseq : SeqGives Fence.wide (n - 1 - 1 - 1 - 1) Tryz.prog 66 #[.pointer (some ⟨W.heap.size, 0, none⟩)] encZ (fun ss => ss.Perm (intKeys D)) (Maps.size D) (W.alloc (.cells #[.map (some M)] 57)) :=
    AnyZI.keys_gives (ρ := Tryz.keysL_ren) { Tryz.keysL with } Fence.wide _ trivial rfl (by omega) W.heap.size M nn D _ (by simp) (by simp) (World.ownsMap.alloc hD _)
  have cK : ∀ mb W, CallsIn Fence.wide (n - 1) Tryz.prog 58 #[.map mb] W fun e w' => e = .returned (.func (.func 66) #[] #[.pointer (some ⟨W.heap.size, 0, none⟩)]) ∧ w' = W.alloc (.cells #[.map mb] 57) := fun mb W => AnyZI.keys_in Tryz.keysL Fence.wide (n - 1) trivial rfl mb W
  have cS := AnyZI.sorted_in Tryz.sortedL Fence.wide (n - 1) trivial trivial trivial trivial rfl (by omega) (sortsL _) (enters_of Tryz.func65 (by kernel_rfl) rfl) 66 #[.pointer (some ⟨W.heap.size, 0, none⟩)] trivial (enters_of Tryz.func66 (by kernel_rfl) rfl) _ _ (by rw [hsz]; unfold maxLen; omega) (by rw [hsz]; omega) _ hseq
  change CallsIn _ _ Tryz.prog 57 _ _ _ at cS
  have CS := Lib.hid cS
  have CK := Lib.hid cK
  have HS := Lib.hid hsz
  clear cS cK hseq hsz hD hH
  have hfK : Fence.wide.fn 58 := trivial
  have hfS : Fence.wide.fn 57 := trivial
  have h1n : 1 ≤ n := by omega
  refine callsIn_of_wp Tryz.func56 rfl trivial ?_ rfl
  simp only [Tryz.ntmps56, List.size_toArray, List.length_cons, List.length_nil, Nat.reduceAdd, Nat.reduceSub, Array.replicate_succ, Array.replicate_zero, List.push_toArray, List.append_toArray, List.nil_append, List.cons_append]
  gi_wp2_with (gi_at_call 58; refine (CK.out _ _).mono ?_; rintro e w' ⟨rfl, rfl⟩)
  refine CS.out.mono ?_
  rintro e w1 ⟨v, ss, rfl, hS, hrow, hnil, hb1⟩
  clear hfK hfS hnil
  have hq := keys_sorted HD.out.2 hu (MapAt.keys HD.out.1) hS
  rw [hq.1, hq.2] at hrow
  have hb2 : Below W.heap.size W w1 := btrans ((Below.refl W.heap.size W).alloc (Nat.le_refl _) _) hb1
  have HBW := Lib.hid hb2
  have J1 := Lib.hid (hJA [] W w1 none h0 (grown_below (r := none) hb2) (fun r e => by cases e))
  clear hq hS hb1 hb2 h0 CS CK
  rcases hrow.2 with ⟨rfl, hz⟩ | ⟨g, cap, cur, rfl, hbase, hg, r1, r2, r3, r4⟩
  · have hl0 : l = [] := List.eq_nil_of_length_eq_zero hz
    subst hl0
    clear hrow
    gi_wp2
    refine wpIn_loop_rounds 1 ?_
    rw [roundsIn_succ]
    gi_wp2
    go_end0
    exact ⟨⟨_, rfl⟩, .inl ⟨[], rfl, J1.out⟩⟩
  · have hcl := Lib.hid (fun (k : Nat) (hk : k < l.length) => (show w1.cell? ⟨g, k, none⟩ = some (.int .i64 (l[k]'hk).pn) from by
      have := hrow.cells (g := g) rfl k (.int .i64 (l[k]'hk).pn) (by simp [encZ, hk])
      rwa [add_plain, Nat.zero_add] at this))
    have HG := Lib.hid hg
    have R1 := r1
    clear hrow hg r3 r4 hbase
    have hb0 : Below n₀ W w1 := HBW.out.mono hWn
    unfold maxLen at r2
    gi_wp2
    gi_loopw [14] (fun i wr => ∃ k : Nat, k ≤ l.length ∧ i = .int .i64 k ∧ J (l.take k) wr ∧ Below n₀ W wr ∧ Ints w1 wr) (fun i _ => l.length - (intOf i).toNat)
    case atStart => exact ⟨0, by omega, rfl, J1.out, hb0, fun _ _ _ h => h⟩
    case round =>
      obtain ⟨k, hk, rfl, hJ, hbk, hik⟩ := hrel
      have HI := Lib.hid (And.intro hbk hik)
      have cB : wr.cell? ⟨B, 0, none⟩ = some (.pointer (some ⟨b, 0, none⟩)) := (hbk.cell (p := ⟨B, 0, none⟩) hBl).trans hB
      have cb : wr.cell? ⟨b, 0, none⟩ = some (.map (some M)) := (hbk.cell (p := ⟨b, 0, none⟩) hbl).trans hb
      have hMk : MapPk wr M nn l := MapPk.of_block ⟨D, HD.out.1, HD.out.2⟩ (hbk.block M hMl)
      clear hbk hik
      by_cases hlt : k < l.length
      · have hgw : wr.heap[g]? = some (.cells cur 3 (0, 0)) := HI.out.2 _ _ _ HG.out
        have ck : wr.cell? ⟨g, k, none⟩ = some (.int .i64 (l[k]'hlt).pn) := (World.cell?_of_block (a := ⟨g, k, none⟩) (hgw.trans HG.out.symm)).trans (hcl.out k hlt)
        have hpm : l[k]'hlt ∈ l := List.getElem_mem hlt
        have hpb := hu.bnd _ hpm
        have hlook := hMk.look hpm (pnWf hpb.1 (by omega))
        have hts := Lib.hid (List.take_succ_eq_append_getElem hlt)
        obtain ⟨fn, tmps, assign, body, hy, hR⟩ := hY _ (l[k]'hlt) wr hpm hJ (by rw [List.length_take]; omega)
        have HR := Lib.hid hR
        clear hR hMk hgw hpm hJ
        simp only [encP, Pk.val, Pk.cells] at hy hlook
        gi_wp2
        refine HR.out.mono ?_
        rintro e W3 (⟨rfl, hJ3, hk3⟩ | ⟨rfl, hJx3⟩)
        · have K3 := Lib.hid hk3
          clear hk3 hpb hlook hy ck cB cb
          gi_wp2
          go_roundw
          case rel => exact ⟨k + 1, by omega, by go_num, by rw [hts.out]; exact hJ3, HI.out.1.trans K3.out.1, HI.out.2.trans K3.out.2⟩
          case measure => simp [intOf]; omega
        · clear hpb hlook hy ck cB cb
          gi_wp2
          refine bodyPost_ret (results_none rfl _ _ _) rfl ?_
          exact ⟨⟨_, rfl⟩, .inr ⟨_, by rw [← hts.out]; exact List.take_prefix _ _, hJx3⟩⟩
      · obtain rfl : k = l.length := by omega
        rw [List.take_length] at hJ
        clear hlt
        gi_wp2
        go_end0
        exact ⟨⟨_, rfl⟩, .inl ⟨l, rfl, hJ⟩⟩
/-- the packets of l, each known to be one of them -/
abbrev In (l : List Pk) := { p : Pk // p ∈ l }
theorem all_stops (n : Nat) (hn : 6 ≤ n) (B b M nn n₀ : Nat) (l : List Pk) (nx : Int) (hu : Up nx l) (hnx : nx ≤ 281474976710656) (hll : l.length ≤ 1000000) (W : World) (hn0 : n₀ ≤ W.heap.size) (hBl : B < n₀) (hbl : b < n₀) (hMl : M < n₀)
    (hB : W.cell? ⟨B, 0, none⟩ = some (.pointer (some ⟨b, 0, none⟩))) (hb : W.cell? ⟨b, 0, none⟩ = some (.map (some M))) (hM : MapPk W M nn l) :
    SeqStopsK Fence.wide n Tryz.prog 56 #[.pointer (some ⟨B, 0, none⟩)] (fun x : In l => encP x.1) (KpI n₀) (fun ys => ys.map (·.1) = l) (fun _ => True) l.length W := fun ly J Jx W2 hW hA _ hY h0 => by
  refine (all_in n hn ly B b M nn n₀ l nx hu hnx hll (fun pre W => ∃ pre' : List (In l), pre'.map (·.1) = pre ∧ J pre' W) (fun pre W => ∃ pre' : List (In l), pre'.map (·.1) = pre ∧ Jx pre' W) (m := W2.heap.size)
    (fun s A C row hs hg hr => by obtain ⟨p', e, hj⟩ := hs; exact ⟨p', e, hA p' A C row hj hg hr⟩) ?_ W2 (Nat.le_trans hn0 hW.size) hBl hbl hMl ((hW.cell (p := ⟨B, 0, none⟩) (Nat.lt_of_lt_of_le hBl hn0)).trans hB) ((hW.cell (p := ⟨b, 0, none⟩) (Nat.lt_of_lt_of_le hbl hn0)).trans hb)
    (hM.of_block (hW.block M (Nat.lt_of_lt_of_le hMl hn0))) ⟨[], rfl, h0⟩).mono ?_
  · rintro pre x W hx ⟨pre', rfl, hj⟩ hlen
    refine (hY pre' ⟨x, hx⟩ W hj (by simpa using hlen)).mono ?_
    rintro e W' (⟨h1, h2, h3⟩ | ⟨h1, h2⟩)
    · exact .inl ⟨h1, ⟨pre' ++ [⟨x, hx⟩], by simp, h2⟩, h3⟩
    · exact .inr ⟨h1, pre' ++ [⟨x, hx⟩], by simp, h2⟩
  · rintro e W' ⟨h1, h2⟩
    refine ⟨h1, ?_⟩
    rcases h2 with ⟨ys, rfl, ys', e, hj⟩ | ⟨pre, _, pre', _, hj⟩
    · exact .inl ⟨ys', e, hj⟩
    · exact .inr ⟨pre', trivial, hj⟩
set_option maxRecDepth 100000 in
set_option maxHeartbeats 2000000 in
/-- a nil Recovery yields nothing -/
theorem all_nil_stops (n : Nat) (_hn : 1 ≤ n) (B n₀ : Nat) (W : World) (hBl : B < n₀) (hn0 : n₀ ≤ W.heap.size) (hB : W.cell? ⟨B, 0, none⟩ = some (.pointer none)) :
    SeqStopsK Fence.wide n Tryz.prog 56 #[.pointer (some ⟨B, 0, none⟩)] (fun x : In [] => encP x.1) (KpI n₀) (fun ys => ys.map (·.1) = []) (fun _ => True) 0 W := by
  intro ly J Jx W2 hW hA _ hY h0
  have cB : W2.cell? ⟨B, 0, none⟩ = some (.pointer none) := (hW.cell (p := ⟨B, 0, none⟩) (Nat.lt_of_lt_of_le hBl hn0)).trans hB
  have HJ := Lib.hid h0
  clear hY h0 hA hW hB
  refine callsIn_of_wp Tryz.func56 rfl trivial ?_ rfl
  simp only [Tryz.ntmps56, List.size_toArray, List.length_cons, List.length_nil, Nat.reduceAdd, Nat.reduceSub, Array.replicate_succ, Array.replicate_zero, List.push_toArray, List.append_toArray, List.nil_append, List.cons_append]
  gi_wp2
  refine bodyPost_ret (results_none rfl _ _ _) rfl ?_
  exact ⟨⟨_, rfl⟩, .inl ⟨[], rfl, HJ.out⟩⟩
end Go.Proofs.YtpfkeohaaeiaaaaGreat
/- For a region that draws its order, loads cells, calls what only makes memory, and stores into a block R of the call's own: what holds in every order (for go_region_held3). -/
namespace Go.Proofs.YtpfkeohaaeiaaaaGreat
open Go.RowKit
/-- what a cell holds: a name for it, so that a fact on it stands before and behind a store -/
def cur (w : World) (p : Addr) : Value := (w.cell? p).getD undef
theorem cur_of {w : World} {p : Addr} {v : Value} (h : w.cell? p = some v) : w.cell? p = some (cur w p) := by unfold cur; rw [h]; rfl
theorem cur_set {w : World} {a p : Addr} {u v : Value} (h : w.cell? p = some u) : (w.setCell a v).cell? p = some (cur (w.setCell a v) p) := by
  by_cases e : a = p
  · subst e; exact cur_of (World.cell?_setCell_same _ _ _ h)
  · exact cur_of ((World.cell?_setCell_other _ _ _ _ e).trans h)
/-- w' is W, but for block R and what is new -/
structure Held (W : World) (R : Nat) (w' : World) : Prop where
  size : W.heap.size ≤ w'.heap.size
  cellH : ∀ p : Addr, p.block < W.heap.size → p.block ≠ R → w'.cell? p = W.cell? p
  frozH : ∀ p : Addr, p.block < W.heap.size → w'.frozen? p = W.frozen? p
  curH : ∀ p : Addr, p.block < W.heap.size → (∃ v, W.cell? p = some v) → ∃ v, w'.cell? p = some v
theorem Held.refl (W : World) (R : Nat) : Held W R W := ⟨Nat.le_refl _, fun _ _ _ => rfl, fun _ _ => rfl, fun _ _ h => h⟩
theorem Held.drew {W w : World} {R : Nat} (h : Held W R w) : Held W R w.drew := ⟨h.size, h.cellH, h.frozH, h.curH⟩
theorem Held.drewN {W w : World} {R : Nat} (h : Held W R w) (n : Nat) : Held W R (w.drewN n) := ⟨h.size, h.cellH, h.frozH, h.curH⟩
theorem Held.start (W : World) (R : Nat) : Held W R W.drew := (Held.refl W R).drew
theorem Held.below {W w w1 : World} {R : Nat} (h : Held W R w) (hb : Below w.heap.size w w1) : Held W R w1 :=
  ⟨Nat.le_trans h.size hb.size, fun p hp hn => (hb.cell (p := p) (Nat.lt_of_lt_of_le hp h.size)).trans (h.cellH p hp hn), fun p hp => (hb.frozen (p := p) (Nat.lt_of_lt_of_le hp h.size)).trans (h.frozH p hp),
   fun p hp hv => by rw [hb.cell (p := p) (Nat.lt_of_lt_of_le hp h.size)]; exact h.curH p hp hv⟩
theorem Held.alloc {W w : World} {R : Nat} (h : Held W R w) (o : Obj) : Held W R (w.alloc o) := h.below ((Below.refl _ _).alloc (Nat.le_refl _) _)
theorem Held.set {W w : World} {R : Nat} (h : Held W R w) (i : Nat) (v : Value) : Held W R (w.setCell ⟨R, i, none⟩ v) :=
  ⟨by simpa using h.size, fun p hp hn => (World.cell?_setCell_far _ _ _ _ (Ne.symm hn)).trans (h.cellH p hp hn), fun p hp => (World.frozen?_setCell ..).trans (h.frozH p hp),
   fun p hp hv => by obtain ⟨u, hu⟩ := h.curH p hp hv; exact ⟨_, cur_set hu⟩⟩
theorem Held.cell {W w' : World} {R : Nat} (h : Held W R w') {b o : Nat} {v : Value} (hc : W.cell? ⟨b, o, none⟩ = some v) (hR : b ≠ R) : w'.cell? ⟨b, o, none⟩ = some v :=
  (h.cellH ⟨b, o, none⟩ (World.block_lt_of_cell? _ _ hc) hR).trans hc
theorem Held.froz {W w' : World} {R : Nat} (h : Held W R w') {b o : Nat} (hf : W.frozen? ⟨b, o, none⟩ = false) (hl : b < W.heap.size) : w'.frozen? ⟨b, o, none⟩ = false := (h.frozH ⟨b, o, none⟩ hl).trans hf
theorem Held.cur {W w' : World} {R : Nat} (h : Held W R w') {b o : Nat} {v : Value} (hc : W.cell? ⟨b, o, none⟩ = some v) : w'.cell? ⟨b, o, none⟩ = some (cur w' ⟨b, o, none⟩) := by
  obtain ⟨u, hu⟩ := h.curH ⟨b, o, none⟩ (World.block_lt_of_cell? _ _ hc) ⟨v, hc⟩
  exact cur_of hu
theorem box1 (w : World) (o0 : Obj) : (w.alloc o0).heap[w.heap.size]? = some o0 ∧ Below w.heap.size w (w.alloc o0) ∧ (w.alloc o0).heap.size = w.heap.size + 1 :=
  ⟨heap_alloc_new w o0, (Below.refl _ w).alloc (Nat.le_refl _) _, World.size_alloc _ _⟩
theorem box2 (w : World) (o0 o1 : Obj) : ((w.alloc o0).alloc o1).heap[w.heap.size]? = some o0 ∧ ((w.alloc o0).alloc o1).heap[w.heap.size + 1]? = some o1 ∧
    Below w.heap.size w ((w.alloc o0).alloc o1) ∧ ((w.alloc o0).alloc o1).heap.size = w.heap.size + 1 + 1 := by
  obtain ⟨a, b, c⟩ := box1 w o0
  obtain ⟨d, e, f⟩ := box1 (w.alloc o0) o1
  rw [c] at d f
  exact ⟨(e.block _ (by omega)).trans a, d, b.trans (e.mono (by omega)), f⟩
theorem box3 (w : World) (o0 o1 o2 : Obj) : (((w.alloc o0).alloc o1).alloc o2).heap[w.heap.size]? = some o0 ∧ (((w.alloc o0).alloc o1).alloc o2).heap[w.heap.size + 1]? = some o1 ∧ (((w.alloc o0).alloc o1).alloc o2).heap[w.heap.size + 1 + 1]? = some o2 ∧
    Below w.heap.size w (((w.alloc o0).alloc o1).alloc o2) ∧ (((w.alloc o0).alloc o1).alloc o2).heap.size = w.heap.size + 1 + 1 + 1 := by
  obtain ⟨a, a', b, c⟩ := box2 w o0 o1
  obtain ⟨d, e, f⟩ := box1 ((w.alloc o0).alloc o1) o2
  rw [c] at d f
  exact ⟨(e.block _ (by omega)).trans a, (e.block _ (by omega)).trans a', d, b.trans (e.mono (by omega)), f⟩
/-- the cells of a block that is known whole -/
theorem at_whole {w : World} {b : Nat} {cs : Array Value} {T : TypeId} (h : w.heap[b]? = some (.cells cs T (0, 0))) (j : Nat) {v : Value} (hv : cs[j]? = some v) : w.cell? ⟨b, j, none⟩ = some v := (cell_whole h j).trans hv
theorem belowN {n : Nat} {w w1 : World} (h : Below n w w1) (k : Nat) : Below n w (w1.drewN k) := ⟨h.os, h.tape, h.output, h.size, h.block⟩
end Go.Proofs.YtpfkeohaaeiaaaaGreat
/- Law 13: filter: the packets that a condition wants. -/
namespace Go.Proofs.YtpfkeohaaeiaaaaGreat
open Go.RowKit Go.Shelf
attribute [local go_sem] Oper.semAt_some
theorem Ints.grown {W W' : World} {row : Option Nat} (hg : W.grownBy W' row) (hr : ∀ k cs fz, some k = row → W.heap[k]? ≠ some (.cells cs 3 fz)) : Ints W W' := fun k cs fz h => by
  refine (hg.block k (heap_lt h) (fun e => hr k cs fz e h)).trans h
theorem Ints.row {B n : Nat} {W W' : World} {v : Value} {xs : List Value} (hown : W.ownsRow B 39 5 v n xs) (hg : W.grownBy W' v.ownBlock) : Ints W W' := Ints.grown hg (fun k cs fz e h => by
  rcases hown.2 with ⟨rfl, _⟩ | ⟨g, cap, cur, rfl, hb, hgg, _⟩
  · simp [Value.ownBlock] at e
  · simp [Value.ownBlock] at e
    subst e
    rw [hgg] at h
    cases h)
theorem Ints.set {W : World} {B : Nat} {v u : Value} (h : Boxed W B 47 v) : Ints W (W.setCell ⟨B, 0, none⟩ u) := fun k cs fz hk => by
  refine (heap_setCell_other W _ k u (fun e => ?_)).trans hk
  have e : k = B := e
  subst e
  rw [show W.heap[k]? = _ from h] at hk
  cases hk
theorem row_keep {B n : Nat} {e : TypeId} {z : Nat} {W W' : World} {v : Value} {xs : List Value} (hown : W.ownsRow B e z v n xs) (hg : W.grownBy W' v.ownBlock) {k : Nat} {cs : Array Value} {T : TypeId} {fz : Nat × Nat} (h : W.heap[k]? = some (.cells cs T fz)) (hT : T ≠ e) : W'.heap[k]? = some (.cells cs T fz) := by
  refine (hg.block k (heap_lt h) (fun e => ?_)).trans h
  rcases hown.2 with ⟨rfl, _⟩ | ⟨g, cap, cur, rfl, hb, hgg, _⟩
  · simp [Value.ownBlock] at e
  · simp [Value.ownBlock] at e
    subst e
    rw [hgg] at h
    cases h
    exact hT rfl
theorem kpi_t {n₀ : Nat} {A B C : World} (h : KpI n₀ A B) (k : KpI n₀ B C) : KpI n₀ A C := h.trans k
theorem kpi_b {n₀ : Nat} {w : World} (hn : n₀ ≤ w.heap.size) (W : World) (l : Nat) (o o' : Obj) (hl : w.heap.size ≤ l) (h : W.heap[l]? = some o) (hc : o.isCells = false) (hw : o.isWalk = false) : KpI n₀ W (W.putObj l o') :=
  ⟨belowK_b hn W l o o' hl h hc hw, Ints.grown (grownBy_putObj' W l o') (fun k cs fz e hk => by cases e; rw [h] at hk; cases hk; cases hc)⟩
theorem KeepsFrom.below {B : Nat} {W W' : World} (h : Below W.heap.size W W') : KeepsFrom B W W' := KeepsFrom.of_grownBy (grown_below (r := none) h) (fun j e => by cases e)
theorem heap_own {β : Type} (B : Nat) (k : Nat) (cs : Array Value) (T : TypeId) : OwnFrom B (fun (_ : β) W => W.heap[k]? = some (.cells cs T (0, 0))) := fun s X Y row hs hg hr =>
  (hg.block k (heap_lt hs) (fun e => by obtain ⟨_, o, ho, hc⟩ := hr k e.symm; rw [hs] at ho; cases ho; cases hc)).trans hs
/-- the ones among those that have come -/
def FL {l : List Pk} (f : Pk → Bool) (pre : List (In l)) : List Pk := (pre.map (·.1)).filter f
theorem FL_snoc {l : List Pk} (f : Pk → Bool) (pre : List (In l)) (x : In l) : FL f (pre ++ [x]) = if f x.1 then FL f pre ++ [x.1] else FL f pre := by
  unfold FL
  rw [List.map_append, List.filter_append]
  by_cases h : f x.1 <;> simp [h]
theorem FL_le {l : List Pk} (f : Pk → Bool) (pre : List (In l)) : (FL f pre).length ≤ pre.length := by
  unfold FL
  exact Nat.le_trans (List.length_filter_le _ _) (by simp)
set_option maxRecDepth 100000 in
set_option maxHeartbeats 4000000 in
theorem filter_any (l : List Pk) (nx : Int) (hu : Up nx l) (hll : l.length ≤ 1000000) (B k : Nat) (lb : Array Value) (f : Pk → Bool) (w : World)
    (hS : SeqStopsK Fence.wide 7 Tryz.prog 56 #[.pointer (some ⟨B, 0, none⟩)] (fun x : In l => encP x.1) (KpI w.heap.size) (fun ys => ys.map (·.1) = l) (fun _ => True) l.length w)
    (ek : ∀ args w, (callFunc k args).run Tryz.prog w = .ok (.enter k args) w)
    (hwant : ∀ p ∈ l, ∀ W, Below w.heap.size w W → Calls Tryz.prog k (#[p.val] ++ lb) W fun e W' => e = .returned (.bool (f p)) ∧ Below W.heap.size W W') :
    Calls Tryz.prog 40 #[.func (.func 56) #[] #[.pointer (some ⟨B, 0, none⟩)], .func (.func k) #[] lb] w fun e w' =>
      ∃ v, e = .returned v ∧ w'.ownsRow w.heap.size 39 5 v (l.filter f).length (pcs (l.filter f)) ∧ (v = .slice none 0 0 ↔ l.filter f = []) ∧ Below w.heap.size w w' := by
  obtain ⟨i0, hi, hz0, hz1, hz2⟩ := info_parts info39
  have HW := Lib.hid hwant
  have X := Lib.hid (box2 w (.cells #[.func (.func k) #[] lb] 83) (.cells #[.slice none 0 0] 47))
  clear hwant
  refine (callsIn_wide (n := 8)).1 ?_
  refine callsIn_of_wp_marks Tryz.func40 rfl trivial ?_ rfl
  simp only [Tryz.ntmps40, List.size_toArray, List.length_cons, List.length_nil, Nat.reduceAdd, Nat.reduceSub, Array.replicate_succ, Array.replicate_zero, List.push_toArray, List.append_toArray, List.nil_append, List.cons_append]
  gi_wp2
  generalize (w.alloc _).alloc _ = W0 at X ⊢
  obtain ⟨X1, X2, X3, X4⟩ := X.out
  refine wpIn_rangeFunc_ownH rfl (by decide) (gf := 56) (lb := #[.pointer (some ⟨B, 0, none⟩)]) rfl trivial (enters_of Tryz.func56 (by kernel_rfl) rfl)
    hS kpi_t (kpi_b (by omega)) X3 (fun _ => rfl)
    (fun (pre : List (In l)) W => (W.heap[w.heap.size]? = some (.cells #[.func (.func k) #[] lb] 83 (0, 0)) ∧ ∃ v, Boxed W (w.heap.size + 1) 47 v ∧ W.ownsRow w.heap.size 39 5 v (FL f pre).length (pcs (FL f pre)) ∧ (v = .slice none 0 0 ↔ FL f pre = [])) ∧ Below w.heap.size w W)
    (fun _ _ _ => False)
    (OwnFrom.and (OwnFrom.and (heap_own _ _ _ _) (Own.from (holdsRow_own w.heap.size (w.heap.size + 1) 47 39 5 (fun (pre : List (In l)) => (FL f pre).length) (fun pre => pcs (FL f pre)) (fun pre v => v = .slice none 0 0 ↔ FL f pre = [])) _)) (ownFrom_below (Nat.le_refl _) (by omega)))
    (fun _ _ _ _ _ hs _ _ => hs)
    ⟨⟨X1, _, X2, World.ownsRow_nil _ _ _ _, by simp [FL]⟩, X3⟩
    (fun x a' W => ∃ Bx, W0.heap.size ≤ Bx ∧ W.heap[Bx]? = some (.cells x.1.cells 39 (0, 0)) ∧ a' = { tmps := #[.func (.func 56) #[] #[.pointer (some ⟨B, 0, none⟩)], .func (.func k) #[] lb, undef, .pointer (some ⟨w.heap.size, 0, none⟩), .slice none 0 0, .pointer (some ⟨w.heap.size + 1, 0, none⟩), .pointer (some ⟨Bx, 0, none⟩), .func (.func 56) #[] #[.pointer (some ⟨B, 0, none⟩)], x.1.val, undef, undef, undef, undef, undef, undef, undef, undef], defers := [] })
    (fun x a' s A C row hs hg hr => by
      obtain ⟨Bx, h1, h2, h3⟩ := hs
      exact ⟨Bx, h1, heap_own _ _ _ _ () A C row h2 hg hr, h3⟩)
    ?assign ?body ?done ?stop
  case assign =>
    rintro ly pre x W K hi hK
    obtain ⟨⟨pn, time, size, el, fv⟩, hx⟩ := x
    obtain ⟨fa, fl, fc, e⟩ := hu.fvs _ hx
    obtain rfl : fv = .slice fa fl fc := e
    simp only [encP, Pk.val, Pk.cells] at hK ⊢
    have H1 := Lib.hid (And.intro hi hK)
    clear hi hK
    gi_wp2
    refine H1.out.2 _ _ ((KeepsOthers.alloc _ _).from _) ⟨(Below.refl _ W).alloc H1.out.1.2.size _, Ints.below ((Below.refl _ W).alloc (Nat.le_refl _) _)⟩ ?_ ⟨W.heap.size, ?_, heap_alloc_new W _, rfl⟩
    · obtain ⟨⟨q1, v, q2, q3, q4⟩, q5⟩ := H1.out.1
      exact ⟨⟨(Below.heap_alloc W _ _ (heap_lt q1)).trans q1, v, q2.alloc _, q3.alloc _, q4⟩, q5.trans ((Below.refl _ W).alloc q5.size _)⟩
    · obtain ⟨⟨q1, v, q2, q3, q4⟩, q5⟩ := H1.out.1
      have := heap_lt (show W.heap[w.heap.size + 1]? = some (.cells #[v] 47 (0, 0)) from q2)
      omega
  case body =>
    rintro ly pre x a' W hl ⟨r, hr⟩ ⟨⟨hw3, v, hv, hrow, hnil⟩, hB⟩ ⟨Bx, hBx, hbx, rfl⟩ hlen
    have c3 := at_whole hw3 0 rfl
    simp only [List.getElem_toArray, List.getElem_cons_zero] at c3
    have hfv := hu.fvs _ x.2
    obtain ⟨⟨pn, time, size, el, fv⟩, hx⟩ := x
    obtain ⟨fa, fl, fc, e⟩ := hfv
    obtain rfl : fv = .slice fa fl fc := e
    simp only [Pk.val, Pk.cells] at hbx ⊢
    have l0 := at_whole hbx 0 rfl
    have l1 := at_whole hbx 1 rfl
    have l2 := at_whole hbx 2 rfl
    have l3 := at_whole hbx 3 rfl
    have l4 := at_whole hbx 4 rfl
    simp only [List.getElem_toArray, List.getElem_cons_zero, List.getElem_cons_succ] at l0 l1 l2 l3 l4
    have G := Lib.hid (And.intro hw3 (And.intro hv (And.intro hrow (And.intro hnil (And.intro hB hbx)))))
    clear hw3 hv hrow hnil hB hbx
    gi_wp2_with fail
    refine ⟨trivial, (CallsIn.inRound ly (callsIn_wide.2 (HW.out _ hx W G.out.2.2.2.2.1))).mono ?_⟩
    rintro e W1 ⟨rfl, hb1⟩
    have m0 := at_whole (heap_below hb1 G.out.2.2.2.2.2) 0 rfl
    have m1 := at_whole (heap_below hb1 G.out.2.2.2.2.2) 1 rfl
    have m2 := at_whole (heap_below hb1 G.out.2.2.2.2.2) 2 rfl
    have m3 := at_whole (heap_below hb1 G.out.2.2.2.2.2) 3 rfl
    have m4 := at_whole (heap_below hb1 G.out.2.2.2.2.2) 4 rfl
    simp only [List.getElem_toArray, List.getElem_cons_zero, List.getElem_cons_succ] at m0 m1 m2 m3 m4
    obtain ⟨q1, q2, q3, q4, q5, q6⟩ := G.out
    have hv1 : Boxed W1 (w.heap.size + 1) 47 v := heap_below hb1 q2
    have hr1 : W1.ownsRow w.heap.size 39 5 v (FL f pre).length (pcs (FL f pre)) := q3.kept (grown_below (r := none) hb1) (by cases hv : v.ownBlock <;> simp)
    have hB1 := q5.trans (hb1.mono q5.size)
    have hle := FL_le f pre
    have hs := Lib.hid (FL_snoc f pre ⟨_, hx⟩)
    have K1 := Lib.hid (And.intro (KeepsFrom.below (B := W0.heap.size) hb1) (And.intro (show KpI w.heap.size W W1 from ⟨hb1.mono q5.size, Ints.below hb1⟩) (heap_below hb1 q1)))
    clear q1 q2 q3 q5 q6 hb1 l0 l1 l2 l3 l4
    cases hfx : f { pn := pn, time := time, size := size, el := el, fv := Value.slice fa fl fc } with
    | false =>
      rw [hfx] at hs
      simp only [Bool.false_eq_true, if_false] at hs
      have H := Lib.hid (And.intro hv1 (And.intro hr1 (And.intro q4 hB1)))
      clear hv1 hr1 q4 hB1 m0 m1 m2 m3 m4 hfx
      gi_wp2
      refine ⟨K1.out.1, K1.out.2.1, ⟨K1.out.2.2, v, H.out.1, ?_, ?_⟩, H.out.2.2.2⟩
      · rw [hs.out]; exact H.out.2.1
      · rw [hs.out]; exact H.out.2.2.1
    | true =>
      rw [hfx] at hs
      simp only [if_true] at hs
      have hc := hv1.cell
      clear hfx
      gi_wp2_with (gi_at_builtin; refine wpListIn_append_own _ rfl _ _ 47 rfl w.heap.size 39 i0 (.agg #[.int .i64 0, .int .i64 0, .int .i64 0, .bool false, .slice none 0 0]) 5 56 Tryz.underlying47 hi hz0 hz1 hz2 rfl (by decide) _ _ _ rfl (hr1.alloc _) ⟨W1.heap.size, 0, none⟩ 1 1 (Pk.cells ⟨pn, time, size, el, .slice fa fl fc⟩).toList rfl rfl (World.news_of_block (heap_alloc_new _ _)) (Pk.one _ ⟨_, _, _, rfl⟩) (by unfold maxLen; omega) (by omega) (by have := hB1.size; simp; omega) ?_; intro v' w1 hown' hgrow _; obtain ⟨g', cap', rfl⟩ := ownsRow_succ hown'; obtain ⟨hv2, hv3, hr2, hk2, hb2⟩ := hv1.appended (by decide) hr1 hB1.size (by omega) hown' hgrow; have hi2 : Ints W1 w1 := (Ints.below ((Below.refl _ W1).alloc (Nat.le_refl _) _)).trans (Ints.row (hr1.alloc _) hgrow); have hc1 := hv2.cell; have hf1 := hv2.frozen)
      refine ⟨K1.out.1.trans (hk2.from _), K1.out.2.1.trans ⟨hb2, hi2.trans (Ints.set hv2)⟩, ⟨?_, _, hv3, ?_, ?_⟩, hB1.trans hb2⟩
      · exact (heap_setCell_other _ _ _ _ (fun e => by have : w.heap.size = w.heap.size + 1 := e; omega)).trans (row_keep (hr1.alloc _) hgrow ((Below.heap_alloc W1 _ _ (heap_lt K1.out.2.2)).trans K1.out.2.2) (by decide))
      · rw [hs.out, pcs_snoc, List.length_append]
        exact hr2
      · rw [hs.out]
        simp
  case done =>
    rintro D ys W hD hys ⟨⟨_, v, hv, hrow, hnil⟩, hB⟩ hK
    have hc := hv.cell
    have e : FL f ys = l.filter f := by unfold FL; rw [hys]
    rw [e] at hrow hnil
    have H := Lib.hid (And.intro hrow (And.intro hnil (And.intro hB hK)))
    clear e hrow hnil hB hK
    gi_wp2
    refine ⟨by simp, .inl ⟨_, _, rfl, run_takeDeferred H.out.2.2.2, ?_⟩⟩
    exact ⟨_, results_tmp rfl _ _ _, v, rfl, ownsRow_putObj H.out.1 _ H.out.2.2.2 rfl, H.out.2.1, H.out.2.2.1.trans (belowK_b (w := w) (Nat.le_refl _) W D _ _ (by omega) H.out.2.2.2 rfl rfl)⟩
  case stop =>
    rintro D c pre W _ _ h _
    exact h.elim
end Go.Proofs.YtpfkeohaaeiaaaaGreat
/- Law 13: the makers of a frame's parts. -/
namespace Go.Proofs.YtpfkeohaaeiaaaaGreat
open Go.RowKit
def fnv (k : Nat) : Value := .func (.func k) #[] #[]
/-- what integer(m, field k) hands back, its boxes at n and n + 1 -/
def intP (n : Nat) : Array Value := #[.func (.func 88) #[] #[.pointer (some ⟨n + 1, 0, none⟩), .pointer (some ⟨n, 0, none⟩)], .func (.func 90) #[] #[.pointer (some ⟨n + 1, 0, none⟩)], .func (.func 92) #[] #[.pointer (some ⟨n + 1, 0, none⟩)]]
def txtP (n : Nat) : Array Value := #[.func (.func 93) #[] #[.pointer (some ⟨n, 0, none⟩), .pointer (some ⟨n + 1, 0, none⟩)], fnv 94, fnv 96]
def fixP (n : Nat) : Array Value := #[.func (.func 97) #[] #[.pointer (some ⟨n + 1, 0, none⟩), .pointer (some ⟨n, 0, none⟩)], .func (.func 98) #[] #[.pointer (some ⟨n, 0, none⟩), .pointer (some ⟨n + 1, 0, none⟩)], .func (.func 99) #[] #[.pointer (some ⟨n + 1, 0, none⟩)]]
def uniP : Array Value := #[fnv 102, fnv 103, fnv 104]
def retP (n : Nat) : Array Value := #[fnv 106, .func (.func 90) #[] #[.pointer (some ⟨n + 1, 0, none⟩)], .func (.func 92) #[] #[.pointer (some ⟨n + 1, 0, none⟩)]]
set_option maxRecDepth 100000 in
set_option maxHeartbeats 2000000 in
theorem integer_any (m : Int) (k : Nat) (w : World) : Calls Tryz.prog 67 #[.int .i64 m, fnv k] w fun e w' =>
    e = .returned (.agg (intP w.heap.size)) ∧ w'.heap[w.heap.size]? = some (.cells #[.int .i64 m] 3 (0, 0)) ∧ w'.heap[w.heap.size + 1]? = some (.cells #[fnv k] 124 (0, 0)) ∧ Below w.heap.size w w' := by
  have F := Lib.hid (fun o => box3 w (.cells #[.int .i64 m] 3) (.cells #[fnv k] 124) o)
  unfold fnv intP at *
  go_enter Tryz.func67, Tryz.ntmps67
  go_wp2
  refine bodyPost_ret (v := .agg (intP w.heap.size)) (by simp [results, Tryz.results67, go_sem, intP]) rfl ⟨rfl, (F.out _).1, (F.out _).2.1, (F.out _).2.2.2.1⟩
set_option maxRecDepth 100000 in
set_option maxHeartbeats 2000000 in
theorem text_any (l m : Int) (w : World) : Calls Tryz.prog 75 #[.int .i64 l, .int .i64 m] w fun e w' =>
    e = .returned (.agg (txtP w.heap.size)) ∧ w'.heap[w.heap.size]? = some (.cells #[.int .i64 l] 3 (0, 0)) ∧ w'.heap[w.heap.size + 1]? = some (.cells #[.int .i64 m] 3 (0, 0)) ∧ Below w.heap.size w w' := by
  have F := Lib.hid (fun o => box3 w (.cells #[.int .i64 l] 3) (.cells #[.int .i64 m] 3) o)
  unfold txtP fnv at *
  go_enter Tryz.func75, Tryz.ntmps75
  go_wp2
  refine bodyPost_ret (v := .agg (txtP w.heap.size)) (by simp [results, Tryz.results75, go_sem, txtP, fnv]) rfl ⟨rfl, (F.out _).1, (F.out _).2.1, (F.out _).2.2.2.1⟩
set_option maxRecDepth 100000 in
set_option maxHeartbeats 2000000 in
theorem fixed_any (m : Int) (k : Nat) (w : World) : Calls Tryz.prog 76 #[.int .i64 m, fnv k] w fun e w' =>
    e = .returned (.agg (fixP w.heap.size)) ∧ w'.heap[w.heap.size]? = some (.cells #[.int .i64 m] 3 (0, 0)) ∧ w'.heap[w.heap.size + 1]? = some (.cells #[fnv k] 128 (0, 0)) ∧ Below w.heap.size w w' := by
  have F := Lib.hid (fun o => box3 w (.cells #[.int .i64 m] 3) (.cells #[fnv k] 128) o)
  unfold fnv fixP at *
  go_enter Tryz.func76, Tryz.ntmps76
  go_wp2
  refine bodyPost_ret (v := .agg (fixP w.heap.size)) (by simp [results, Tryz.results76, go_sem, fixP]) rfl ⟨rfl, (F.out _).1, (F.out _).2.1, (F.out _).2.2.2.1⟩
set_option maxRecDepth 100000 in
set_option maxHeartbeats 2000000 in
theorem uni_any (w : World) : Calls Tryz.prog 82 #[] w fun e w' => e = .returned (.agg uniP) ∧ Below w.heap.size w w' := by
  unfold uniP fnv
  go_enter Tryz.func82, Tryz.ntmps82
  go_wp2
  refine bodyPost_ret (v := .agg uniP) (by simp [results, Tryz.results82, go_sem, uniP, fnv]) rfl ⟨rfl, (Below.refl _ _).alloc (Nat.le_refl _) _⟩
end Go.Proofs.YtpfkeohaaeiaaaaGreat
/- A call's own new blocks, listed: what they hold, whatever is made or written elsewhere; a map of the call's own beside them. -/
namespace Go.Proofs.YtpfkeohaaeiaaaaGreat
open Go.RowKit
def isC : Obj → Bool
  | .cells _ _ _ => true
  | _ => false
/-- the blocks of the list hold what the list says; nothing that lay in w0 has turned -/
structure Os (w0 : World) (os : List (Nat × Obj)) (w : World) : Prop where
  bel : Below w0.heap.size w0 w
  ho : ∀ x ∈ os, w.heap[x.1]? = some x.2 ∧ isC x.2 = true
theorem Os.start (w0 : World) : Os w0 [] w0 := ⟨Below.refl _ _, fun x hx => by cases hx⟩
variable {w0 w w' : World} {os : List (Nat × Obj)}
theorem Os.below (h : Os w0 os w) (hb : Below w.heap.size w w') : Os w0 os w' := ⟨btrans h.bel hb, fun x hx => ⟨heap_below hb (h.ho x hx).1, (h.ho x hx).2⟩⟩
theorem Os.drewN (h : Os w0 os w) (n : Nat) : Os w0 os (w.drewN n) := ⟨belowN h.bel n, h.ho⟩
theorem Os.drew (h : Os w0 os w) : Os w0 os w.drew := ⟨h.bel.drew, h.ho⟩
theorem Os.add (h : Os w0 os w) {k : Nat} {o : Obj} (hk : w.heap[k]? = some o) (hc : isC o = true) : Os w0 ((k, o) :: os) w :=
  by
  refine ⟨h.bel, fun x hx => ?_⟩
  rcases List.mem_cons.1 hx with rfl | hx
  · exact ⟨hk, hc⟩
  · exact h.ho x hx
theorem Os.alloc (h : Os w0 os w) (o : Obj) (hc : isC o = true) : Os w0 ((w.heap.size, o) :: os) (w.alloc o) :=
  (h.below ((Below.refl _ w).alloc (Nat.le_refl _) o)).add (heap_alloc_new w o) hc
theorem Os.at (h : Os w0 os w) {k : Nat} {o : Obj} (hx : (k, o) ∈ os) : w.heap[k]? = some o := (h.ho _ hx).1
theorem Os.sub {os' : List (Nat × Obj)} (h : Os w0 os w) (hs : ∀ x ∈ os', x ∈ os) : Os w0 os' w := ⟨h.bel, fun x hx => h.ho x (hs x hx)⟩
theorem MapAt.no_cells {k : TypeId} {b n : Nat} {D : DataW Value} (h : MapAt w k b n D) {o : Obj} (ho : w.heap[b]? = some o) : isC o = false := by
  obtain ⟨es, clock, hb, _⟩ := h
  rw [hb] at ho
  cases ho
  rfl
theorem Os.insert (h : Os w0 os w) {k : TypeId} {b n : Nat} {D : DataW Value} (hm : MapAt w k b n D) (hb : w0.heap.size ≤ b) (hg : w.grownBy w' (some b)) : Os w0 os w' :=
  ⟨below_grown h.bel hg hb, fun x hx => ⟨heap_grown hg (h.ho x hx).1 (fun e => by have := hm.no_cells (e ▸ (h.ho x hx).1); rw [(h.ho x hx).2] at this; cases this), (h.ho x hx).2⟩⟩
end Go.Proofs.YtpfkeohaaeiaaaaGreat
/- Law 13: a frame's parts: the map of all of them. -/
namespace Go.Proofs.YtpfkeohaaeiaaaaGreat
open Go.RowKit
theorem size118 : (Tryz.prog.info? 118).map (·.size) = some 3 := by kernel_rfl
theorem int_ex (m : Int) (k : Nat) (w : World) : Calls Tryz.prog 67 #[.int .i64 m, .func (.func k) #[] #[]] w fun e w' => ∃ n,
    e = .returned (.agg #[.func (.func 88) #[] #[.pointer (some ⟨n + 1, 0, none⟩), .pointer (some ⟨n, 0, none⟩)], .func (.func 90) #[] #[.pointer (some ⟨n + 1, 0, none⟩)], .func (.func 92) #[] #[.pointer (some ⟨n + 1, 0, none⟩)]]) ∧
    w'.heap[n]? = some (.cells #[.int .i64 m] 3 (0, 0)) ∧ w'.heap[n + 1]? = some (.cells #[.func (.func k) #[] #[]] 124 (0, 0)) ∧ Below w.heap.size w w' := (integer_any m k w).mono fun _ _ h => ⟨_, h.1, h.2⟩
theorem txt_ex (l m : Int) (w : World) : Calls Tryz.prog 75 #[.int .i64 l, .int .i64 m] w fun e w' => ∃ n,
    e = .returned (.agg #[.func (.func 93) #[] #[.pointer (some ⟨n, 0, none⟩), .pointer (some ⟨n + 1, 0, none⟩)], .func (.func 94) #[] #[], .func (.func 96) #[] #[]]) ∧
    w'.heap[n]? = some (.cells #[.int .i64 l] 3 (0, 0)) ∧ w'.heap[n + 1]? = some (.cells #[.int .i64 m] 3 (0, 0)) ∧ Below w.heap.size w w' := (text_any l m w).mono fun _ _ h => ⟨_, h.1, h.2⟩
theorem fix_ex (m : Int) (k : Nat) (w : World) : Calls Tryz.prog 76 #[.int .i64 m, .func (.func k) #[] #[]] w fun e w' => ∃ n,
    e = .returned (.agg #[.func (.func 97) #[] #[.pointer (some ⟨n + 1, 0, none⟩), .pointer (some ⟨n, 0, none⟩)], .func (.func 98) #[] #[.pointer (some ⟨n, 0, none⟩), .pointer (some ⟨n + 1, 0, none⟩)], .func (.func 99) #[] #[.pointer (some ⟨n + 1, 0, none⟩)]]) ∧
    w'.heap[n]? = some (.cells #[.int .i64 m] 3 (0, 0)) ∧ w'.heap[n + 1]? = some (.cells #[.func (.func k) #[] #[]] 128 (0, 0)) ∧ Below w.heap.size w w' := (fixed_any m k w).mono fun _ _ h => ⟨_, h.1, h.2⟩
theorem uni_ex (w : World) : Calls Tryz.prog 82 #[] w fun e w' => e = .returned (.agg #[.func (.func 102) #[] #[], .func (.func 103) #[] #[], .func (.func 104) #[] #[]]) ∧ Below w.heap.size w w' := uni_any w
set_option maxRecDepth 100000 in
set_option maxHeartbeats 2000000 in
theorem ret_ex (w : World) : Calls Tryz.prog 83 #[] w fun e w' => ∃ n,
    e = .returned (.agg #[.func (.func 106) #[] #[], .func (.func 90) #[] #[.pointer (some ⟨n + 1, 0, none⟩)], .func (.func 92) #[] #[.pointer (some ⟨n + 1, 0, none⟩)]]) ∧
    w'.heap[n]? = some (.cells #[.int .i64 4611686018427387903] 3 (0, 0)) ∧ w'.heap[n + 1]? = some (.cells #[.func (.func 105) #[] #[]] 124 (0, 0)) ∧ Below w.heap.size w w' := by
  go_enter Tryz.func83, Tryz.ntmps83
  go_wp2_with fail
  refine (int_ex _ _ _).mono ?_
  rintro e w1 ⟨n, rfl, h0, h1, hb⟩
  have hz : w.heap.size < w1.heap.size := Nat.lt_of_lt_of_le (by simp) hb.size
  have hR := heap_below hb (heap_alloc_new w _)
  have r0 := at_whole hR 0 rfl
  have r1 := at_whole hR 1 rfl
  have r2 := at_whole hR 2 rfl
  have f0 := frozen_whole hR 0
  have f1 := frozen_whole hR 1
  have f2 := frozen_whole hR 2
  simp only [List.getElem_toArray, List.getElem_cons_zero, List.getElem_cons_succ] at r0 r1 r2
  have G := Lib.hid (And.intro h0 (And.intro h1 (And.intro hb hR)))
  clear h0 h1 hb hR
  go_wp2
  obtain ⟨h0, h1, hb, hR⟩ := G.out
  have hw : Below w.heap.size w w1 := ((Below.refl _ w).alloc (Nat.le_refl _) _).trans (hb.mono (by simp))
  have e0 : n ≠ w.heap.size := fun e => by rw [e, hR] at h0; cases h0
  have e1 : n + 1 ≠ w.heap.size := fun e => by rw [e, hR] at h1; cases h1
  have B := ((((Blk.start hR).set 0 (.func (.func 106) #[] #[])).set 1 (.func (.func 90) #[] #[.pointer (some ⟨n + 1, 0, none⟩)])).set 2 (.func (.func 92) #[] #[.pointer (some ⟨n + 1, 0, none⟩)])).alloc (.cells #[.func (.func 106) #[] #[], .func (.func 90) #[] #[.pointer (some ⟨n + 1, 0, none⟩)], .func (.func 92) #[] #[.pointer (some ⟨n + 1, 0, none⟩)]] 118)
  generalize World.alloc (World.setCell _ _ _) _ = W' at B ⊢
  have g := B.2
  have c0 := at_whole B.1 0 rfl
  have c1 := at_whole B.1 1 rfl
  have c2 := at_whole B.1 2 rfl
  simp only [List.getElem_toArray, List.getElem_cons_zero, List.getElem_cons_succ, List.setIfInBounds_toArray, List.set_cons_zero, List.set_cons_succ] at c0 c1 c2
  refine bodyPost_ret (v := .agg #[.func (.func 106) #[] #[], .func (.func 90) #[] #[.pointer (some ⟨n + 1, 0, none⟩)], .func (.func 92) #[] #[.pointer (some ⟨n + 1, 0, none⟩)]]) (by simp [results, Tryz.results83, go_sem, c0, c1, c2]) rfl ⟨n, rfl, heap_grown g h0 e0, heap_grown g h1 e1, below_grown hw g (Nat.le_refl _)⟩
end Go.Proofs.YtpfkeohaaeiaaaaGreat
/- A region that draws its order, by an invariant: it holds at the start and behind whatever operation may come up; then it holds behind the whole, in every order. -/
namespace Go.Proofs.YtpfkeohaaeiaaaaGreat
open Go.RowKit
/-- every operation waits only for elder ones -/
def upward (ops : Array Oper) : Bool := (List.range ops.size).all fun i => ((ops[i]?).map (·.after.all fun e => decide (e.on < i))).getD true
section
variable {P : Program} {ops : Array Oper} {Q : Exit → Act → World → Prop}
theorem getD_is {l : Array Bool} {i : Nat} (h : i < l.size) : l.getD i true = l.getD i false := by simp [Array.getD, h]
theorem mem_ready {l : Array Bool} {i : Nat} : i ∈ Region.ready .any ops l ↔ ∃ o, ops[i]? = some o ∧ l.getD i true = false ∧ ∀ e ∈ o.after, Region.binds .any e = true → l.getD e.on false = true := by
  unfold Region.ready
  rw [List.mem_filter, List.mem_range]
  constructor
  · rintro ⟨hi, h⟩
    rw [Array.getElem?_eq_getElem hi] at h ⊢
    simp only [Bool.and_eq_true, Option.map_some, Option.getD_some, Array.all_eq_true_iff_forall_mem, Bool.or_eq_true, Bool.not_eq_true'] at h
    exact ⟨_, rfl, h.1, fun e he hb => (h.2 e he).resolve_left (by simp [hb])⟩
  · rintro ⟨o, ho, h1, h2⟩
    refine ⟨(Array.getElem?_eq_some_iff.1 ho).1, ?_⟩
    rw [ho]
    simp only [Bool.and_eq_true, Option.map_some, Option.getD_some, Array.all_eq_true_iff_forall_mem, Bool.or_eq_true, Bool.not_eq_true']
    exact ⟨h1, fun e he => by
      cases hb : Region.binds .any e with
      | false => exact .inl rfl
      | true => exact .inr (h2 e he hb)⟩
theorem all_listed {l : Array Bool} (hz : l.size = ops.size) (hu : upward ops = true) (hr : Region.ready .any ops l = []) : ∀ i, i < ops.size → l.getD i false = true := by
  intro i
  induction i using Nat.strongRecOn with
  | ind i ih =>
    intro hi
    cases hl : l.getD i false with
    | true => rfl
    | false =>
      have ho : ops[i]? = some ops[i] := Array.getElem?_eq_getElem hi
      have hup : ∀ e ∈ ops[i].after, e.on < i := by
        have := List.all_eq_true.1 hu i (List.mem_range.2 hi)
        rw [ho] at this
        simp only [Option.map_some, Option.getD_some, Array.all_eq_true_iff_forall_mem, decide_eq_true_eq] at this
        exact this
      have : i ∈ Region.ready .any ops l := mem_ready.2 ⟨_, ho, by rw [getD_is (by omega)]; exact hl, fun e he _ => ih _ (hup e he) (Nat.lt_trans (hup e he) hi)⟩
      rw [hr] at this
      cases this
def left (n : Nat) (l : Array Bool) : Nat := (List.range n).countP fun j => !l.getD j true
theorem countP_lt {p q : Nat → Bool} {i : Nat} : ∀ {l : List Nat}, i ∈ l → (∀ j, q j = true → p j = true) → p i = true → q i = false → l.countP q < l.countP p
  | [], h, _, _, _ => by cases h
  | x :: l, h, hpq, hp, hq => by
    have hle : l.countP q ≤ l.countP p := List.countP_mono_left (fun j _ => hpq j)
    rcases List.mem_cons.1 h with rfl | h
    · rw [List.countP_cons_of_neg (by simp [hq]), List.countP_cons_of_pos hp]; omega
    · have := countP_lt h hpq hp hq
      rw [List.countP_cons, List.countP_cons]
      have : (if q x = true then 1 else 0) ≤ (if p x = true then 1 else 0) := by
        by_cases hx : q x = true
        · simp [hx, hpq x hx]
        · simp [hx]
      omega
theorem left_set {n i : Nat} {l : Array Bool} (hi : i < n) (hz : l.size = n) (hl : l.getD i true = false) : left n (l.setIfInBounds i true) < left n l := by
  unfold left
  refine countP_lt (i := i) (List.mem_range.2 hi) (fun j hj => ?_) (by simp [hl]) (by simp [Array.getD, hz, hi])
  by_cases e : j = i
  · subst e; simp [hl]
  · by_cases hj2 : j < l.size
    · simpa [Array.getD, hj2, Array.getElem_setIfInBounds, Ne.symm e] using hj
    · simp [Array.getD, hj2] at hj
theorem wpAny_inv (I : (Nat → Bool) → Act → World → Prop) (hu : upward ops = true)
    (hs : ∀ (L : Nat → Bool) a w i o, ops[i]? = some o → L i = false → (∀ e ∈ o.after, Region.binds .any e = true → L e.on = true) → I L a w → wpOp P ops Q i (I (fun j => j == i || L j)) a w)
    (he : ∀ L a w, (∀ i, i < ops.size → L i = true) → I L a w → Q .normal a w) :
    ∀ (fuel : Nat) (l : Array Bool) a w, l.size = ops.size → left ops.size l ≤ fuel → I (fun j => l.getD j false) a w → wpAny P .any ops Q fuel l a w := by
  intro fuel
  induction fuel with
  | zero =>
    intro l a w hz hf hI
    have hr : Region.ready .any ops l = [] := by
      rw [List.eq_nil_iff_forall_not_mem]
      intro i hi
      obtain ⟨o, ho, h1, _⟩ := mem_ready.1 hi
      have := left_set (Array.getElem?_eq_some_iff.1 ho).1 hz h1
      omega
    exact ⟨hr, he _ a w (all_listed hz hu hr) hI⟩
  | succ fuel ih =>
    intro l a w hz hf hI
    refine ⟨fun hr => he _ a w (all_listed hz hu hr) hI, fun i hi => ?_⟩
    obtain ⟨o, ho, h1, h2⟩ := mem_ready.1 hi
    have hlt := (Array.getElem?_eq_some_iff.1 ho).1
    have hL : l.getD i false = false := by rw [← getD_is (by omega)]; exact h1
    have hd := left_set hlt hz h1
    refine wpOp_mono (fun a' w' hI' => ih _ a' w' (by simpa using hz) (by omega) ?_) (hs _ a w i o ho hL h2 hI)
    have e : (fun j => (l.setIfInBounds i true).getD j false) = fun j => j == i || l.getD j false := by
      funext j
      by_cases e : j = i
      · subst e; simp [Array.getD, hz, hlt]
      · by_cases hj : j < l.size
        · simp [Array.getD, hj, Ne.symm e, e]
        · simp [Array.getD, hj, e]
    rw [e]
    exact hI'
/-- **the law** -/
theorem wp_region_inv {id : Nat} {a : Act} {w : World} (hm : P.follows .mixedOrders = true) (hu : upward ops = true) (I : (Nat → Bool) → Act → World → Prop) (h0 : I (fun _ => false) a w.drew)
    (hs : ∀ (L : Nat → Bool) a w i o, ops[i]? = some o → L i = false → (∀ e ∈ o.after, Region.binds .any e = true → L e.on = true) → I L a w → wpOp P ops Q i (I (fun j => j == i || L j)) a w)
    (he : ∀ L a w, (∀ i, i < ops.size → L i = true) → I L a w → Q .normal a w) : (Code.region id ops true).wp P Q a w := by
  refine wp_region_any hm (wpAny_inv I hu hs he _ _ _ _ (by simp) ?_ ?_)
  · refine Nat.le_trans List.countP_le_length (by simp)
  · have e : (fun j => (Array.replicate ops.size false).getD j false) = fun _ => false := by
      funext j
      by_cases hj : j < ops.size <;> simp [Array.getD, hj]
    rw [e]
    exact h0
end
end Go.Proofs.YtpfkeohaaeiaaaaGreat
/- Law 13: the literal of a map in frame.parts: its operations as a table, and what holds in every order. Printed by gen/mkLit.py. -/
namespace Go.Proofs.YtpfkeohaaeiaaaaGreat
open Go.RowKit Go.Maps
inductive Sp
  | mk
  | ld (p : Nat)
  | sl (xs : List Nat)
  | ins (k : Int) (t : Nat)
  | cl (f : Nat) (args : List Int)
  | mv (t : Nat)
  | asg (t : Nat)
def Sp.op : Sp → Op
  | .mk => .makeMap 111 none
  | .ld p => .load 118 (.tmp p)
  | .sl xs => .buildSlice 109 xs.length ((xs.zipIdx.map fun x => (x.2, Operand.tmp x.1)).toArray)
  | .ins k t => .insert 111 (.tmp 25) (.const (.int .i64 k)) (.tmp t)
  | .cl f args => .call { callee := .value (.func f), args := (args.map fun n => Operand.const (.int .i64 n)).toArray, argTypes := (args.map fun _ => 3).toArray }
  | .mv t => .move (.tmp t)
  | .asg t => .assign (.tmp t)
def Sp.needs : Sp → List Nat
  | .sl xs => xs
  | .ins _ t => [25, t]
  | .mv t => [t]
  | .asg t => [t]
  | _ => []
def rows : List (Option Nat × Sp) := [
  (some 25, .mk), (some 26, .sl []), (none, .ins 0 26), (some 27, .sl []), (none, .ins 1 27), (some 28, .sl []),
  (none, .ins 30 28), (some 29, .ld 7), (some 30, .ld 12), (some 31, .sl [29, 30]), (none, .ins 2 31), (some 32, .ld 1),
  (some 33, .ld 4), (some 34, .ld 3), (some 35, .sl [32, 33, 34]), (none, .ins 4 35), (some 36, .ld 1), (some 37, .ld 4),
  (some 38, .sl [36, 37]), (none, .ins 5 38), (some 39, .ld 5), (some 40, .ld 8), (some 41, .sl [39, 40]), (none, .ins 6 41),
  (some 42, .cl 75 [1, 128]), (some 43, .sl [42]), (none, .ins 7 43), (some 44, .ld 1), (some 45, .ld 5), (some 46, .ld 8),
  (some 47, .sl [44, 45, 46]), (none, .ins 8 47), (some 48, .ld 2), (some 49, .sl [48]), (none, .ins 16 49), (some 50, .ld 2),
  (some 51, .sl [50]), (none, .ins 20 51), (some 52, .ld 1), (some 53, .ld 2), (some 54, .sl [52, 53]), (none, .ins 17 54),
  (some 55, .ld 1), (some 56, .ld 2), (some 57, .sl [55, 56]), (none, .ins 21 57), (some 58, .cl 82 []), (some 59, .ld 2),
  (some 60, .sl [58, 59]), (none, .ins 18 60), (some 61, .cl 82 []), (some 62, .ld 2), (some 63, .sl [61, 62]), (none, .ins 22 63),
  (some 64, .ld 6), (some 65, .cl 83 []), (some 66, .ld 11), (some 67, .sl [64, 65, 66]), (none, .ins 24 67), (some 68, .ld 6),
  (some 69, .sl [68]), (none, .ins 25 69), (some 70, .ld 10), (some 71, .sl [70]), (none, .ins 26 71), (some 72, .ld 10),
  (some 73, .sl [72]), (none, .ins 27 73), (some 74, .ld 4), (some 75, .ld 9), (some 76, .sl [74, 75]), (none, .ins 28 76),
  (some 77, .ld 4), (some 78, .ld 9), (some 79, .sl [77, 78]), (none, .ins 29 79), (some 80, .mv 25), (some 0, .asg 80)]
/-- which operation sets slot t -/
def ix (t : Nat) : Nat := rows.findIdx fun r => r.1 == some t
/-- the operations are the table's, and each waits for what it reads -/
structure Tab (ops : Array Oper) : Prop where
  form : ops.toList.map (fun o => (o.dst, o.op, o.guard)) = rows.map (fun r => (r.1, r.2.op, none))
  deps : ((List.range 78).all fun i => match ops[i]?, rows[i]? with
    | some o, some r => r.2.needs.all fun t => o.after.any fun e => Region.binds .any e && e.on == ix t
    | _, _ => false) = true
  up : upward ops = true
theorem rows_ix : ((List.range 78).all fun i => match rows[i]? with
    | some (some d, _) => ix d == i
    | _ => true) = true := by decide +kernel
theorem rows_len : rows.length = 78 := by decide +kernel
theorem ix_of {i d : Nat} {s : Sp} (h : rows[i]? = some (some d, s)) : ix d = i := by
  have hi : i < 78 := rows_len ▸ (List.getElem?_eq_some_iff.1 h).1
  have := List.all_eq_true.1 rows_ix i (List.mem_range.2 hi)
  rw [h] at this
  simpa using this
variable {ops : Array Oper}
theorem Tab.row (T : Tab ops) {i : Nat} {o : Oper} (h : ops[i]? = some o) : ∃ s, rows[i]? = some (o.dst, s) ∧ o.op = s.op ∧ o.guard = none := by
  have h1 : (ops.toList.map (fun o => (o.dst, o.op, o.guard)))[i]? = some (o.dst, o.op, o.guard) := by
    rw [List.getElem?_map, Array.getElem?_toList, h]; rfl
  rw [T.form, List.getElem?_map] at h1
  cases hr : rows[i]? with
  | none => rw [hr] at h1; cases h1
  | some r =>
    rw [hr] at h1
    obtain ⟨d, s⟩ := r
    simp only [Option.map_some, Option.some.injEq, Prod.mk.injEq] at h1
    obtain ⟨rfl, h2, h3⟩ := h1
    exact ⟨s, rfl, h2.symm, h3.symm⟩
theorem Tab.needs (T : Tab ops) {i t : Nat} {o : Oper} {d : Option Nat} {s : Sp} (h : ops[i]? = some o) (hr : rows[i]? = some (d, s)) (ht : t ∈ s.needs) {L : Nat → Bool}
    (hL : ∀ e ∈ o.after, Region.binds .any e = true → L e.on = true) : L (ix t) = true := by
  have hi : i < 78 := rows_len ▸ (List.getElem?_eq_some_iff.1 hr).1
  have := List.all_eq_true.1 T.deps i (List.mem_range.2 hi)
  rw [h, hr] at this
  have := List.all_eq_true.1 this t ht
  obtain ⟨j, hj, he⟩ := Array.any_eq_true.1 this
  simp only [Bool.and_eq_true, beq_iff_eq] at he
  rw [← he.2]
  exact hL _ (Array.getElem_mem hj) he.1
end Go.Proofs.YtpfkeohaaeiaaaaGreat
/- Law 13: the literal of a map in frame.parts: the invariant that every operation keeps. -/
namespace Go.Proofs.YtpfkeohaaeiaaaaGreat
open Go.RowKit Go.Maps
def i64B (m : Int) : Obj := .cells #[.int .i64 m] 3
def fnB (T k : Nat) : Obj := .cells #[fnv k] T
/-- blocks of cells stay as they are -/
def Keep (w w' : World) : Prop := ∀ (b : Nat) (cs : Array Value) (T : TypeId), w.heap[b]? = some (.cells cs T (0, 0)) → w'.heap[b]? = some (.cells cs T (0, 0))
theorem keep_refl (w : World) : Keep w w := fun _ _ _ h => h
theorem keep_below {w w' : World} (h : Below w.heap.size w w') : Keep w w' := fun _ _ _ hb => heap_below h hb
theorem keep_map {w w' : World} {M k n : Nat} {D : DataW Value} (hm : MapAt w k M n D) (h : w.grownBy w' (some M)) : Keep w w' := fun b cs T hb =>
  heap_grown h hb (fun e => by have := hm.no_cells (e ▸ hb); simp [isC] at this)
/-- the cells of a part that operation s makes -/
def Pt (bx : Nat → Array Value) (s : Sp) (cs : Array Value) (w : World) : Prop :=
  match s with
  | .ld p => cs = bx p
  | .cl f args => (f = 75 ∧ ∃ l m n, args = [l, m] ∧ cs = txtP n ∧ w.heap[n]? = some (i64B l) ∧ w.heap[n + 1]? = some (i64B m)) ∨ (f = 82 ∧ cs = uniP) ∨
      (f = 83 ∧ ∃ n, cs = retP n ∧ w.heap[n]? = some (i64B 4611686018427387903) ∧ w.heap[n + 1]? = some (fnB 124 105))
  | _ => False
/-- the cells of a slice of parts, made of the slots xs -/
def Pts (bx : Nat → Array Value) : List Nat → Array Value → World → Prop
  | [], cs, _ => cs = #[]
  | x :: xs, cs, w => ∃ c1 c2 s, cs = c1 ++ c2 ∧ c1.size = 3 ∧ rows[ix x]? = some (some x, s) ∧ Pt bx s c1 w ∧ Pts bx xs c2 w
/-- what an operation's value is -/
def Rs (bx : Nat → Array Value) (s : Sp) (v : Value) (w : World) : Prop :=
  match s with
  | .ld _ => ∃ cs, v = .agg cs ∧ cs.size = 3 ∧ Pt bx s cs w
  | .cl _ _ => ∃ cs, v = .agg cs ∧ cs.size = 3 ∧ Pt bx s cs w
  | .sl xs => ∃ b cs, v = .slice (some ⟨b, 0, none⟩) xs.length xs.length ∧ w.heap[b]? = some (.cells cs 118 (0, 0)) ∧ Pts bx xs cs w
  | _ => True
theorem Pt.keep {bx : Nat → Array Value} {s : Sp} {cs : Array Value} {w w' : World} (h : Pt bx s cs w) (k : Keep w w') : Pt bx s cs w' := by
  cases s <;> try exact h
  rcases h with ⟨e, l, m, n, h1, h2, h3, h4⟩ | h | ⟨e, n, h2, h3, h4⟩
  · exact .inl ⟨e, l, m, n, h1, h2, k _ _ _ h3, k _ _ _ h4⟩
  · exact .inr (.inl h)
  · exact .inr (.inr ⟨e, n, h2, k _ _ _ h3, k _ _ _ h4⟩)
theorem Pts.keep {bx : Nat → Array Value} {w w' : World} (k : Keep w w') : ∀ {xs : List Nat} {cs : Array Value}, Pts bx xs cs w → Pts bx xs cs w'
  | [], _, h => h
  | _ :: _, _, ⟨c1, c2, s, h1, h2, h3, h4, h5⟩ => ⟨c1, c2, s, h1, h2, h3, h4.keep k, Pts.keep k h5⟩
theorem Rs.keep {bx : Nat → Array Value} {s : Sp} {v : Value} {w w' : World} (h : Rs bx s v w) (k : Keep w w') : Rs bx s v w' := by
  cases s
  case ld p => obtain ⟨cs, h1, h2, h3⟩ := h; exact ⟨cs, h1, h2, h3.keep k⟩
  case cl f a => obtain ⟨cs, h1, h2, h3⟩ := h; exact ⟨cs, h1, h2, h3.keep k⟩
  case sl xs => obtain ⟨b, cs, h1, h2, h3⟩ := h; exact ⟨b, cs, h1, k _ _ _ h2, h3.keep k⟩
  all_goals exact h
def cnt (L : Nat → Bool) : Nat := (List.range 78).countP L
theorem cnt_add {L : Nat → Bool} {i : Nat} (hi : i < 78) (hL : L i = false) : cnt L + 1 ≤ cnt fun j => j == i || L j :=
  countP_lt (i := i) (List.mem_range.2 hi) (fun j hj => by simp [hj]) (by simp) hL
theorem cnt_le (L : Nat → Bool) : cnt L ≤ 78 := by
  refine Nat.le_trans List.countP_le_length ?_
  simp
/-- the map so far -/
def Mp (w0 : World) (bx : Nat → Array Value) (L : Nat → Bool) (v : Value) (w : World) : Prop :=
  ∃ M n D, v = .map (some M) ∧ MapAt w 3 M n D ∧ IsMap D ∧ n ≤ cnt L ∧ w0.heap.size ≤ M ∧
    ∀ i k t, rows[i]? = some (none, .ins k t) → L i = true → ∃ u s, D.atKey (.int .i64 k) (.held undef) = .held u ∧ rows[ix t]? = some (some t, s) ∧ Rs bx s u w
structure Inv (w0 : World) (os : List (Nat × Obj)) (ad : Nat → Nat) (bx : Nat → Array Value) (L : Nat → Bool) (a : Act) (w : World) : Prop where
  os : Os w0 os w
  size : a.tmps.size = 81
  nod : a.defers = []
  low : ∀ p, 1 ≤ p → p ≤ 12 → a.tmps.getD p undef = .pointer (some ⟨ad p, 0, none⟩)
  res : ∀ i d s, rows[i]? = some (some d, s) → L i = true → Rs bx s (a.tmps.getD d undef) w
  mp : L (ix 25) = true → Mp w0 bx L (a.tmps.getD 25 undef) w
  mv : L (ix 80) = true → a.tmps.getD 80 undef = a.tmps.getD 25 undef ∧ L (ix 25) = true
  dep : ∀ j k t, rows[j]? = some (none, .ins k t) → L j = true → L (ix 25) = true
  asg : L (ix 0) = true → a.tmps.getD 0 undef = a.tmps.getD 80 undef ∧ L (ix 80) = true
variable {w0 : World} {os : List (Nat × Obj)} {ad : Nat → Nat} {bx : Nat → Array Value} {L : Nat → Bool} {a : Act} {w w' : World}
theorem Mp.step {v : Value} {i : Nat} (h : Mp w0 bx L v w) (k : Keep w w') (hm : ∀ M n D, MapAt w 3 M n D → MapAt w' 3 M n D) (hi : i < 78) (hL : L i = false) (hn : ∀ k t, rows[i]? ≠ some (none, .ins k t)) :
    Mp w0 bx (fun j => j == i || L j) v w' := by
  obtain ⟨M, n, D, h1, h2, h3, h4, h5, h6⟩ := h
  refine ⟨M, n, D, h1, hm _ _ _ h2, h3, by have := cnt_add hi hL; omega, h5, fun j q t hr hj => ?_⟩
  rcases Bool.or_eq_true .. ▸ hj with e | hj
  · rw [beq_iff_eq] at e; subst e; exact absurd hr (hn _ _)
  · obtain ⟨u, s, e1, e2, e3⟩ := h6 j q t hr hj
    exact ⟨u, s, e1, e2, e3.keep k⟩
theorem getD_set {t : Array Value} {d e : Nat} {v : Value} (hd : d < t.size) : (t.setIfInBounds d v).getD e undef = if e = d then v else t.getD e undef := by
  by_cases h : e = d
  · subst h; simp [Array.getD, hd]
  · by_cases he : e < t.size
    · simp [Array.getD, he, Ne.symm h, h]
    · simp [Array.getD, he, h]
theorem slots_high : (rows.all fun r => match r.1 with | some d => decide (d < 81) && (decide (25 ≤ d) || d == 0) | none => true) = true := by decide +kernel
theorem ix_low : (ix 25 == 0 && ix 80 == 76 && ix 0 == 77) = true := by decide +kernel
/-- an operation that puts a value into its slot -/
theorem Inv.put (h : Inv w0 os ad bx L a w) {i d : Nat} {s : Sp} {v : Value} (hr : rows[i]? = some (some d, s)) (hL : L i = false) (k : Keep w w') (ho : Os w0 os w')
    (hm : ∀ M n D, MapAt w 3 M n D → MapAt w' 3 M n D) (hv : Rs bx s v w') (h25 : d = 25 → Mp w0 bx (fun j => j == i || L j) v w')
    (h80 : d = 80 → v = a.tmps.getD 25 undef ∧ L (ix 25) = true) (h0 : d = 0 → v = a.tmps.getD 80 undef ∧ L (ix 80) = true) :
    Inv w0 os ad bx (fun j => j == i || L j) (a.put (some d) v) w' := by
  have hi : i < 78 := rows_len ▸ (List.getElem?_eq_some_iff.1 hr).1
  have hh := List.all_eq_true.1 slots_high _ (List.mem_of_getElem? hr)
  simp only [Bool.and_eq_true, Bool.or_eq_true, decide_eq_true_eq, beq_iff_eq] at hh
  have hd : d < a.tmps.size := by rw [h.size]; exact hh.1
  have hx := ix_of hr
  have e : ∀ t, (a.put (some d) v).tmps.getD t undef = if t = d then v else a.tmps.getD t undef := fun t => getD_set hd
  have hne : ∀ t, L (ix t) = true → t ≠ d := fun t ht e => by rw [e, hx, hL] at ht; cases ht
  have hor : ∀ t, ((fun j => j == i || L j) (ix t)) = true → ix t = i ∨ L (ix t) = true := fun t ht => by
    rcases Bool.or_eq_true .. ▸ ht with e | e
    · exact .inl (by simpa using e)
    · exact .inr e
  have hx1 := ix_low
  simp only [Bool.and_eq_true, beq_iff_eq] at hx1
  have hrow : ∀ t, (t = 25 ∨ t = 80 ∨ t = 0) → ix t = i → t = d := fun t ht e => by
    rcases ht with rfl | rfl | rfl
    · have : rows[ix 25]? = some (some 25, .mk) := by rw [hx1.1.1]; rfl
      rw [e, hr] at this; cases this; rfl
    · have : rows[ix 80]? = some (some 80, .mv 25) := by rw [hx1.1.2]; rfl
      rw [e, hr] at this; cases this; rfl
    · have : rows[ix 0]? = some (some 0, .asg 80) := by rw [hx1.2]; rfl
      rw [e, hr] at this; cases this; rfl
  have hup : ∀ t, L (ix t) = true → ((fun j => j == i || L j) (ix t)) = true := fun t ht => by simp [ht]
  refine ⟨ho, by simpa [Act.put] using h.size, h.nod, fun p h1 h2 => ?_, fun j d' s' hj hl => ?_, fun hl => ?_, fun hl => ?_, fun j q t hj hl => ?_, fun hl => ?_⟩
  · rw [e, if_neg (by omega)]; exact h.low p h1 h2
  · rw [e]
    rcases Bool.or_eq_true .. ▸ hl with e1 | e1
    · rw [beq_iff_eq] at e1; subst e1; rw [hr] at hj; cases hj
      rw [if_pos rfl]; exact hv
    · rw [if_neg (fun e2 => by rw [← ix_of hj, e2, hx, hL] at e1; cases e1)]; exact (h.res j d' s' hj e1).keep k
  · rcases hor 25 hl with e1 | e1
    · have := hrow 25 (.inl rfl) e1
      rw [e, if_pos this]; exact h25 this.symm
    · rw [e, if_neg (hne 25 e1)]
      exact (h.mp e1).step k hm hi hL (fun q t hq => by rw [hr] at hq; cases hq)
  · rcases hor 80 hl with e1 | e1
    · have := hrow 80 (.inr (.inl rfl)) e1
      obtain ⟨e2, e3⟩ := h80 this.symm
      rw [e, if_pos this, e, if_neg (hne 25 e3)]; exact ⟨e2, hup _ e3⟩
    · obtain ⟨e2, e3⟩ := h.mv e1
      rw [e, if_neg (hne 80 e1), e, if_neg (hne 25 e3)]; exact ⟨e2, hup _ e3⟩
  · rcases Bool.or_eq_true .. ▸ hl with e1 | e1
    · rw [beq_iff_eq] at e1; subst e1; rw [hr] at hj; cases hj
    · exact hup _ (h.dep j q t hj e1)
  · rcases hor 0 hl with e1 | e1
    · have := hrow 0 (.inr (.inr rfl)) e1
      obtain ⟨e2, e3⟩ := h0 this.symm
      rw [e, if_pos this, e, if_neg (hne 80 e3)]; exact ⟨e2, hup _ e3⟩
    · obtain ⟨e2, e3⟩ := h.asg e1
      rw [e, if_neg (hne 0 e1), e, if_neg (hne 80 e3)]; exact ⟨e2, hup _ e3⟩
end Go.Proofs.YtpfkeohaaeiaaaaGreat
