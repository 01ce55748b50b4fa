/- Law 20: the decoder's params. -/
import Derived.Test.YtddfikijehmoiaaDoorJ
import Derived.Test.YtddfikijehmoiaaDoorK
import Derived.Test.YtddfikijehmoiaaDoorP
namespace Go.Proofs.YtddfikijehmoiaaDoor
open Go.RowKit
def pmOf (ns : List Int) : Pm := ⟨ns[0]?.getD 0, ns[1]?.getD 0, ns[2]?.getD 0, ns[3]?.getD 0, ns[4]?.getD 0, ns[5]?.getD 0⟩
def decP (s : ByteArray) : Option Pm := (parse (bytesOf s) 6).bind fun r => if r.2 = s.size ∧ vldP (pmOf r.1) = true then some (pmOf r.1) else none
def decR (s : ByteArray) (ad : Addr) : Value := match decP s with | some pm => .tuple #[.agg pm.cells, .nilIface] | none => .tuple #[.agg (pmOf []).cells, .iface 98 (.pointer (some ad))]
theorem decR_none {s : ByteArray} (h : decP s = none) (ad : Addr) : decR s ad = .tuple #[.agg (pmOf []).cells, .iface 98 (.pointer (some ad))] := by unfold decR; rw [h]
theorem decR_some {s : ByteArray} {pm : Pm} (h : decP s = some pm) (ad : Addr) : decR s ad = .tuple #[.agg pm.cells, .nilIface] := by unfold decR; rw [h]
theorem decP_none (s : ByteArray) (k : Nat) (hk : k ≤ 6) (h : parse (bytesOf s) k = none) : decP s = none := by
  unfold decP
  have := parse_none (bytesOf s) k (6 - k) h
  rw [show k + (6 - k) = 6 by omega] at this
  rw [this]; rfl
theorem zero23 : (∀ w, (zeroValue 23).run Tryd.prog w = .ok (.agg (pmOf []).cells) w) ∧ (Tryd.prog.info? 23).map (·.size) = some 6 := zero_of_info (by kernel_rfl)
theorem grown_row {w w1 : World} {r : Option Nat} {b : Nat} {cs : Array Value} (h : w.grownBy w1 r) (hb : w.heap.size ≤ b) : w.grownBy (w1.setRow b cs) r :=
  ⟨h.os, h.tape, h.output, by simpa using h.size, fun k hk hr => (setRow_other w1 b k cs (by omega)).trans (h.block k hk hr)⟩
theorem results_cell_tmp {P : Program} {fn : Func} {p q : Tmp} {ty : TypeId} (h : fn.results = #[.cell p ty, .tmp q]) (tmps : Array Value) (w : World) (g : Nat) (t : TypeId) (cs : Array Value) (fr : Nat × Nat) (d : TypeDesc)
    (hp : tmps.getD p undef = .pointer (some ⟨g, 0, none⟩)) (hg : w.heap[g]? = some (.cells cs t fr))
    (hu : P.underlying ty = some d) (hd : (match d with | .struct _ | .array _ _ => true | _ => false) = true) (hi : (P.info? ty).map (·.size) = some cs.size) :
    (results fn tmps).run P w = .ok (.tuple #[.agg cs, tmps.getD q undef]) w := by
  have hp' : tmps[p]?.getD undef = .pointer (some ⟨g, 0, none⟩) := by simpa using hp
  simp [results, h, hp', asAddr, run_loadVar_row w g t ty cs fr d hg hu hd hi]
structure Dst (s : ByteArray) (w : World) (B k : Nat) (ns : List Int) (a : Nat) (wr : World) : Prop where
  oB : wr.heap[B]? = some (.cells #[.string s, .int .i64 a] 62 (0, 0))
  oZ : wr.heap[w.heap.size]? = some (.cells (pmOf []).cells 23 (0, 0))
  oP : wr.heap[w.heap.size + 1]? = some (.cells (pmOf ns).cells 23 (0, 0))
  g : w.grownBy wr (some B)
  hp : parse (bytesOf s) k = some (ns, (a : Int))
  hl : ns.length = k
  ne : B < w.heap.size ∧ B ≠ 0
theorem grown_new {w w1 : World} {r : Option Nat} {b i : Nat} {v : Value} (h : w.grownBy w1 r) (hb : w.heap.size ≤ b) : w.grownBy (w1.setCell ⟨b, i, none⟩ v) r :=
  ⟨h.os, h.tape, h.output, by simpa using h.size, fun k hk hr => (heap_setCell_other w1 _ k v (by simp; omega)).trans (h.block k hk hr)⟩
theorem Dst.alloc {s : ByteArray} {w : World} {B k : Nat} {ns : List Int} {a : Nat} {wr : World} (h : Dst s w B k ns a wr) (o : Obj) : Dst s w B k ns a (wr.alloc o) :=
  ⟨(Below.heap_alloc _ _ _ (heap_lt h.oB)).trans h.oB, (Below.heap_alloc _ _ _ (heap_lt h.oZ)).trans h.oZ, (Below.heap_alloc _ _ _ (heap_lt h.oP)).trans h.oP, grown_alloc h.g o, h.hp, h.hl, h.ne⟩
theorem Dst.drewN {s : ByteArray} {w : World} {B k : Nat} {ns : List Int} {a : Nat} {wr : World} (h : Dst s w B k ns a wr) (q : Nat) : Dst s w B k ns a (wr.drewN q) :=
  ⟨h.oB, h.oZ, h.oP, ⟨h.g.os, h.g.tape, h.g.output, h.g.size, h.g.block⟩, h.hp, h.hl, h.ne⟩
theorem Dst.below {s : ByteArray} {w : World} {B k : Nat} {ns : List Int} {a : Nat} {wr w2 : World} (h : Dst s w B k ns a wr) (hb : Below wr.heap.size wr w2) : Dst s w B k ns a w2 :=
  ⟨heap_below hb h.oB, heap_below hb h.oZ, heap_below hb h.oP, grown_trans h.g (grown_below hb), h.hp, h.hl, h.ne⟩
theorem Dst.blk {s : ByteArray} {w : World} {B k : Nat} {ns : List Int} {a : Nat} {n : Int} {b : Nat} {wr w2 : World} (h : Dst s w B k ns a wr) (hd : decV (bytesOf s) a = (n, (b : Int), 0)) (hb : Blk B #[.string s, .int .i64 b] 62 wr w2) (i : Nat) (hi : i = k) (hk : k < 6) :
    Dst s w B (k + 1) (ns ++ [n]) b (w2.setCell ⟨w.heap.size + 1, i, none⟩ (.int .i64 n)) := by
  subst hi
  have hne := h.ne
  have o1 := heap_grown hb.2 h.oZ (by omega)
  have o2 := heap_grown hb.2 h.oP (by omega)
  refine ⟨(heap_setCell_other _ _ _ _ (by simp; omega)).trans hb.1, (heap_setCell_other _ _ _ _ (by simp)).trans o1, ?_, grown_new (grown_trans h.g hb.2) (by omega), ?_, by simp [h.hl], h.ne⟩
  · rw [heap_set _ o2]
    congr 2
    have hl := h.hl
    have : i = 0 ∨ i = 1 ∨ i = 2 ∨ i = 3 ∨ i = 4 ∨ i = 5 := by omega
    rcases this with rfl | rfl | rfl | rfl | rfl | rfl
    · match ns, hl with | [], _ => rfl
    · match ns, hl with | [_], _ => rfl
    · match ns, hl with | [_, _], _ => rfl
    · match ns, hl with | [_, _, _], _ => rfl
    · match ns, hl with | [_, _, _, _], _ => rfl
    · match ns, hl with | [_, _, _, _, _], _ => rfl
  · rw [parse, h.hp]
    simp only [Option.bind_some]
    rw [hd, if_pos rfl]
def RelP (s : ByteArray) (w : World) (B : Nat) (i : Value) (wr : World) : Prop := ∃ (k : Nat) (ns : List Int) (a : Nat), k ≤ 6 ∧ i = .int .i64 k ∧ Dst s w B k ns a wr
def PostP (s : ByteArray) (B : Nat) (ad : Addr) (w : World) (e : Ending) (w' : World) : Prop := e = .returned (decR s ad) ∧ w.grownBy w' (some B)
theorem decV_nat (s : ByteArray) (a : Nat) (h : (decV (bytesOf s) a).2.2 = 0) : ∃ (n : Int) (b : Nat), decV (bytesOf s) a = (n, (b : Int), 0) := by
  have e : decV (bytesOf s) a = ((decV (bytesOf s) a).1, (decV (bytesOf s) a).2.1, 0) := by rw [← h]
  obtain ⟨h1, h2, _⟩ := decV_ok (bytesOf s) a (bytesOf_range s) _ _ e
  have hw := encV_len (decV (bytesOf s) a).1
  obtain ⟨b, hb⟩ := Int.eq_ofNat_of_zero_le (show 0 ≤ (decV (bytesOf s) a).2.1 by rw [h2, ← hw]; omega)
  exact ⟨_, b, by rw [← hb]; exact e⟩
set_option maxRecDepth 100000 in
set_option maxHeartbeats 4000000 in
theorem params_any (s : ByteArray) (B : Nat) (ad : Addr) (w : World) (hs : s.size ≤ maxLen) (h0 : w.cell? ⟨0, 0, none⟩ = some (.iface 98 (.pointer (some ad)))) (hne : B ≠ 0)
    (hB : w.heap[B]? = some (.cells #[.string s, .int .i64 ((0 : Nat) : Int)] 62 (0, 0))) :
    Calls Tryd.prog 21 #[.pointer (some ⟨B, 0, none⟩)] w (PostP s B ad w) := by
  have h00 : 0 < w.heap.size := World.block_lt_of_cell? _ _ h0
  have HD0 : Dst s w B 0 [] 0 (((w.alloc (.cells (pmOf []).cells 23)).alloc (.cells (pmOf []).cells 23)).alloc (.cells fCells 71)) := by
    have hlt := heap_lt hB
    have n1 := heap_alloc_new w (.cells (pmOf []).cells 23)
    have n2 := heap_alloc_new (w.alloc (.cells (pmOf []).cells 23)) (.cells (pmOf []).cells 23)
    rw [World.size_alloc] at n2
    refine ⟨?_, ?_, ?_, grown_alloc (grown_alloc (grown_alloc (grown_refl _ _) _) _) _, rfl, rfl, hlt, hne⟩
    · exact (Below.heap_alloc _ _ _ (by simp; omega)).trans ((Below.heap_alloc _ _ _ (by simp; omega)).trans ((Below.heap_alloc _ _ _ hlt).trans hB))
    · exact (Below.heap_alloc _ _ _ (by simp; omega)).trans ((Below.heap_alloc _ _ _ (by simp)).trans n1)
    · exact (Below.heap_alloc _ _ _ (by simp)).trans n2
  have HD := Lib.hid HD0
  have HC := Lib.hid (fun wr (h : w.grownBy wr (some B)) => (h.cell h0 (by simp; omega)))
  have HSZ := Lib.hid hs
  clear HD0 h0 hB hs
  go_enter Tryd.func21, Tryd.ntmps21
  go_wp2_with (go_at_call 26; refine (fields_any _).mono ?_; rintro e w' ⟨rfl, rfl⟩)
  go_loopw [10] (fun i wr => RelP s w B i wr) (fun i _ => 6 - (intOf i).toNat)
  case atStart => exact ⟨0, [], 0, by omega, rfl, HD.out⟩
  case round =>
    obtain ⟨k, ns, a, hk, rfl, hS⟩ := hrel
    have hbd := hS.ne
    have hszr : w.heap.size + 1 < wr.heap.size := heap_lt hS.oP
    by_cases hlt : k < 6
    · have hdec : (decV (bytesOf s) a).2.2 = 0 ∨ ¬ (decV (bytesOf s) a).2.2 = 0 := by omega
      rcases hdec with hdec | hdec
      · obtain ⟨n, b, hd⟩ := decV_nat s a hdec
        clear hdec
        have HNX := Lib.hid (fun w' (h : w'.heap[B]? = some (.cells #[.string s, .int .i64 a] 62 (0, 0))) => next_yes s a B w' HSZ.out h n b hd)
        have HBL := Lib.hid (fun o w2 hb i hi => (hS.alloc o).blk (w2 := w2) hd hb i hi hlt)
        have HS := Lib.hid hS
        clear hS hd
        have hk6 : k = 0 ∨ k = 1 ∨ k = 2 ∨ k = 3 ∨ k = 4 ∨ k = 5 := by omega
        rcases hk6 with rfl | rfl | rfl | rfl | rfl | rfl
        · as_aux_lemma =>
            have hidx := idxL0
            go_wp2_with (first
              | (go_at_call 29; refine (HNX.out _ ((HS.out.alloc (.cells #[.func (.func 32) #[] #[], .int .i64 0, .int .i64 1073741824, .bool true] 57)).oB)).mono ?_; rintro e w2 ⟨rfl, hb⟩; have HB2 := Lib.hid hb; have cf : w2.cell? ⟨wr.heap.size, 0, none⟩ = some (.func (.func 32) #[] #[]) := (by rw [cell_whole (heap_grown HB2.out.2 (heap_alloc_new wr _) (Nat.ne_of_gt (heap_lt HS.out.oB)))]; rfl); have oP := heap_grown HB2.out.2 (HS.out.alloc (.cells #[.func (.func 32) #[] #[], .int .i64 0, .int .i64 1073741824, .bool true] 57)).oP (by omega); have cP : w2.cell? ⟨w.heap.size + 1, 0, none⟩ = some (.int .i64 (ns[0]?.getD 0)) := (by rw [cell_whole oP]; rfl); have fP : w2.frozen? ⟨w.heap.size + 1, 0, none⟩ = false := frozen_whole oP 0; clear hb oP)
              | (go_at_call 32; refine (get0 (w.heap.size + 1) _).mono ?_; rintro e w' ⟨rfl, rfl⟩))
            go_roundw
            case rel => exact ⟨0 + 1, _, _, by omega, by simp, HBL.out _ _ HB2.out 0 rfl⟩
            case measure => simp [intOf]
        · as_aux_lemma =>
            have hidx := idxL1
            go_wp2_with (first
              | (go_at_call 29; refine (HNX.out _ ((HS.out.alloc (.cells #[.func (.func 33) #[] #[], .int .i64 0, .int .i64 1073741824, .bool true] 57)).oB)).mono ?_; rintro e w2 ⟨rfl, hb⟩; have HB2 := Lib.hid hb; have cf : w2.cell? ⟨wr.heap.size, 0, none⟩ = some (.func (.func 33) #[] #[]) := (by rw [cell_whole (heap_grown HB2.out.2 (heap_alloc_new wr _) (Nat.ne_of_gt (heap_lt HS.out.oB)))]; rfl); have oP := heap_grown HB2.out.2 (HS.out.alloc (.cells #[.func (.func 33) #[] #[], .int .i64 0, .int .i64 1073741824, .bool true] 57)).oP (by omega); have cP : w2.cell? ⟨w.heap.size + 1, 1, none⟩ = some (.int .i64 (ns[1]?.getD 0)) := (by rw [cell_whole oP]; rfl); have fP : w2.frozen? ⟨w.heap.size + 1, 1, none⟩ = false := frozen_whole oP 1; clear hb oP)
              | (go_at_call 33; refine (get1 (w.heap.size + 1) _).mono ?_; rintro e w' ⟨rfl, rfl⟩))
            go_roundw
            case rel => exact ⟨1 + 1, _, _, by omega, by simp, HBL.out _ _ HB2.out 1 rfl⟩
            case measure => simp [intOf]
        · as_aux_lemma =>
            have hidx := idxL2
            go_wp2_with (first
              | (go_at_call 29; refine (HNX.out _ ((HS.out.alloc (.cells #[.func (.func 34) #[] #[], .int .i64 0, .int .i64 64, .bool true] 57)).oB)).mono ?_; rintro e w2 ⟨rfl, hb⟩; have HB2 := Lib.hid hb; have cf : w2.cell? ⟨wr.heap.size, 0, none⟩ = some (.func (.func 34) #[] #[]) := (by rw [cell_whole (heap_grown HB2.out.2 (heap_alloc_new wr _) (Nat.ne_of_gt (heap_lt HS.out.oB)))]; rfl); have oP := heap_grown HB2.out.2 (HS.out.alloc (.cells #[.func (.func 34) #[] #[], .int .i64 0, .int .i64 64, .bool true] 57)).oP (by omega); have cP : w2.cell? ⟨w.heap.size + 1, 2, none⟩ = some (.int .i64 (ns[2]?.getD 0)) := (by rw [cell_whole oP]; rfl); have fP : w2.frozen? ⟨w.heap.size + 1, 2, none⟩ = false := frozen_whole oP 2; clear hb oP)
              | (go_at_call 34; refine (get2 (w.heap.size + 1) _).mono ?_; rintro e w' ⟨rfl, rfl⟩))
            go_roundw
            case rel => exact ⟨2 + 1, _, _, by omega, by simp, HBL.out _ _ HB2.out 2 rfl⟩
            case measure => simp [intOf]
        · as_aux_lemma =>
            have hidx := idxL3
            go_wp2_with (first
              | (go_at_call 29; refine (HNX.out _ ((HS.out.alloc (.cells #[.func (.func 35) #[] #[], .int .i64 0, .int .i64 64, .bool true] 57)).oB)).mono ?_; rintro e w2 ⟨rfl, hb⟩; have HB2 := Lib.hid hb; have cf : w2.cell? ⟨wr.heap.size, 0, none⟩ = some (.func (.func 35) #[] #[]) := (by rw [cell_whole (heap_grown HB2.out.2 (heap_alloc_new wr _) (Nat.ne_of_gt (heap_lt HS.out.oB)))]; rfl); have oP := heap_grown HB2.out.2 (HS.out.alloc (.cells #[.func (.func 35) #[] #[], .int .i64 0, .int .i64 64, .bool true] 57)).oP (by omega); have cP : w2.cell? ⟨w.heap.size + 1, 3, none⟩ = some (.int .i64 (ns[3]?.getD 0)) := (by rw [cell_whole oP]; rfl); have fP : w2.frozen? ⟨w.heap.size + 1, 3, none⟩ = false := frozen_whole oP 3; clear hb oP)
              | (go_at_call 35; refine (get3 (w.heap.size + 1) _).mono ?_; rintro e w' ⟨rfl, rfl⟩))
            go_roundw
            case rel => exact ⟨3 + 1, _, _, by omega, by simp, HBL.out _ _ HB2.out 3 rfl⟩
            case measure => simp [intOf]
        · as_aux_lemma =>
            have hidx := idxL4
            go_wp2_with (first
              | (go_at_call 29; refine (HNX.out _ ((HS.out.alloc (.cells #[.func (.func 36) #[] #[], .int .i64 0, .int .i64 20, .bool false] 57)).oB)).mono ?_; rintro e w2 ⟨rfl, hb⟩; have HB2 := Lib.hid hb; have cf : w2.cell? ⟨wr.heap.size, 0, none⟩ = some (.func (.func 36) #[] #[]) := (by rw [cell_whole (heap_grown HB2.out.2 (heap_alloc_new wr _) (Nat.ne_of_gt (heap_lt HS.out.oB)))]; rfl); have oP := heap_grown HB2.out.2 (HS.out.alloc (.cells #[.func (.func 36) #[] #[], .int .i64 0, .int .i64 20, .bool false] 57)).oP (by omega); have cP : w2.cell? ⟨w.heap.size + 1, 4, none⟩ = some (.int .i64 (ns[4]?.getD 0)) := (by rw [cell_whole oP]; rfl); have fP : w2.frozen? ⟨w.heap.size + 1, 4, none⟩ = false := frozen_whole oP 4; clear hb oP)
              | (go_at_call 36; refine (get4 (w.heap.size + 1) _).mono ?_; rintro e w' ⟨rfl, rfl⟩))
            go_roundw
            case rel => exact ⟨4 + 1, _, _, by omega, by simp, HBL.out _ _ HB2.out 4 rfl⟩
            case measure => simp [intOf]
        · as_aux_lemma =>
            have hidx := idxL5
            go_wp2_with (first
              | (go_at_call 29; refine (HNX.out _ ((HS.out.alloc (.cells #[.func (.func 37) #[] #[], .int .i64 50, .int .i64 100000, .bool false] 57)).oB)).mono ?_; rintro e w2 ⟨rfl, hb⟩; have HB2 := Lib.hid hb; have cf : w2.cell? ⟨wr.heap.size, 0, none⟩ = some (.func (.func 37) #[] #[]) := (by rw [cell_whole (heap_grown HB2.out.2 (heap_alloc_new wr _) (Nat.ne_of_gt (heap_lt HS.out.oB)))]; rfl); have oP := heap_grown HB2.out.2 (HS.out.alloc (.cells #[.func (.func 37) #[] #[], .int .i64 50, .int .i64 100000, .bool false] 57)).oP (by omega); have cP : w2.cell? ⟨w.heap.size + 1, 5, none⟩ = some (.int .i64 (ns[5]?.getD 0)) := (by rw [cell_whole oP]; rfl); have fP : w2.frozen? ⟨w.heap.size + 1, 5, none⟩ = false := frozen_whole oP 5; clear hb oP)
              | (go_at_call 37; refine (get5 (w.heap.size + 1) _).mono ?_; rintro e w' ⟨rfl, rfl⟩))
            go_roundw
            case rel => exact ⟨5 + 1, _, _, by omega, by simp, HBL.out _ _ HB2.out 5 rfl⟩
            case measure => simp [intOf]
      · have hnone : parse (bytesOf s) (k + 1) = none := by
          rw [parse, hS.hp]
          simp only [Option.bind_some]
          rw [if_neg hdec]
        have HR := Lib.hid (decR_none (decP_none s (k + 1) (by omega) hnone) ad)
        have HNX := Lib.hid (fun w' h0 (h : w'.heap[B]? = some (.cells #[.string s, .int .i64 a] 62 (0, 0))) => next_no s a B ad w' HSZ.out h0 h hdec)
        have HS := Lib.hid hS
        clear hS hdec hnone
        have hk6 : k = 0 ∨ k = 1 ∨ k = 2 ∨ k = 3 ∨ k = 4 ∨ k = 5 := by omega
        rcases hk6 with rfl | rfl | rfl | rfl | rfl | rfl
        · as_aux_lemma =>
            have hidx := idxL0
            go_wp2_with (first
              | (go_at_call 29; refine (HNX.out _ (HC.out _ (HS.out.alloc (.cells #[.func (.func 32) #[] #[], .int .i64 0, .int .i64 1073741824, .bool true] 57)).g) ((HS.out.alloc (.cells #[.func (.func 32) #[] #[], .int .i64 0, .int .i64 1073741824, .bool true] 57)).oB)).mono ?_; rintro e w2 ⟨rfl, hb⟩; have HB2 := Lib.hid ((HS.out.alloc (.cells #[.func (.func 32) #[] #[], .int .i64 0, .int .i64 1073741824, .bool true] 57)).below hb); clear hb)
              | (refine wpList_store_row rfl 23 _ _ rfl w.heap.size _ rfl rfl 23 _ HB2.out.oZ zero23.2 rfl (by kernel_rfl) ?_))
            change bodyPost _ _ _ _ _ (w2.setRow w.heap.size (pmOf []).cells)
            refine bodyPost_ret (results_cell_tmp rfl _ _ _ 23 (pmOf []).cells (0, 0) _ rfl (setRow_heap _ _ _ _ _ _ HB2.out.oZ) Tryd.underlying23 rfl zero23.2) rfl ⟨by rw [HR.out]; rfl, grown_row HB2.out.g (Nat.le_refl _)⟩
        · as_aux_lemma =>
            have hidx := idxL1
            go_wp2_with (first
              | (go_at_call 29; refine (HNX.out _ (HC.out _ (HS.out.alloc (.cells #[.func (.func 33) #[] #[], .int .i64 0, .int .i64 1073741824, .bool true] 57)).g) ((HS.out.alloc (.cells #[.func (.func 33) #[] #[], .int .i64 0, .int .i64 1073741824, .bool true] 57)).oB)).mono ?_; rintro e w2 ⟨rfl, hb⟩; have HB2 := Lib.hid ((HS.out.alloc (.cells #[.func (.func 33) #[] #[], .int .i64 0, .int .i64 1073741824, .bool true] 57)).below hb); clear hb)
              | (refine wpList_store_row rfl 23 _ _ rfl w.heap.size _ rfl rfl 23 _ HB2.out.oZ zero23.2 rfl (by kernel_rfl) ?_))
            change bodyPost _ _ _ _ _ (w2.setRow w.heap.size (pmOf []).cells)
            refine bodyPost_ret (results_cell_tmp rfl _ _ _ 23 (pmOf []).cells (0, 0) _ rfl (setRow_heap _ _ _ _ _ _ HB2.out.oZ) Tryd.underlying23 rfl zero23.2) rfl ⟨by rw [HR.out]; rfl, grown_row HB2.out.g (Nat.le_refl _)⟩
        · as_aux_lemma =>
            have hidx := idxL2
            go_wp2_with (first
              | (go_at_call 29; refine (HNX.out _ (HC.out _ (HS.out.alloc (.cells #[.func (.func 34) #[] #[], .int .i64 0, .int .i64 64, .bool true] 57)).g) ((HS.out.alloc (.cells #[.func (.func 34) #[] #[], .int .i64 0, .int .i64 64, .bool true] 57)).oB)).mono ?_; rintro e w2 ⟨rfl, hb⟩; have HB2 := Lib.hid ((HS.out.alloc (.cells #[.func (.func 34) #[] #[], .int .i64 0, .int .i64 64, .bool true] 57)).below hb); clear hb)
              | (refine wpList_store_row rfl 23 _ _ rfl w.heap.size _ rfl rfl 23 _ HB2.out.oZ zero23.2 rfl (by kernel_rfl) ?_))
            change bodyPost _ _ _ _ _ (w2.setRow w.heap.size (pmOf []).cells)
            refine bodyPost_ret (results_cell_tmp rfl _ _ _ 23 (pmOf []).cells (0, 0) _ rfl (setRow_heap _ _ _ _ _ _ HB2.out.oZ) Tryd.underlying23 rfl zero23.2) rfl ⟨by rw [HR.out]; rfl, grown_row HB2.out.g (Nat.le_refl _)⟩
        · as_aux_lemma =>
            have hidx := idxL3
            go_wp2_with (first
              | (go_at_call 29; refine (HNX.out _ (HC.out _ (HS.out.alloc (.cells #[.func (.func 35) #[] #[], .int .i64 0, .int .i64 64, .bool true] 57)).g) ((HS.out.alloc (.cells #[.func (.func 35) #[] #[], .int .i64 0, .int .i64 64, .bool true] 57)).oB)).mono ?_; rintro e w2 ⟨rfl, hb⟩; have HB2 := Lib.hid ((HS.out.alloc (.cells #[.func (.func 35) #[] #[], .int .i64 0, .int .i64 64, .bool true] 57)).below hb); clear hb)
              | (refine wpList_store_row rfl 23 _ _ rfl w.heap.size _ rfl rfl 23 _ HB2.out.oZ zero23.2 rfl (by kernel_rfl) ?_))
            change bodyPost _ _ _ _ _ (w2.setRow w.heap.size (pmOf []).cells)
            refine bodyPost_ret (results_cell_tmp rfl _ _ _ 23 (pmOf []).cells (0, 0) _ rfl (setRow_heap _ _ _ _ _ _ HB2.out.oZ) Tryd.underlying23 rfl zero23.2) rfl ⟨by rw [HR.out]; rfl, grown_row HB2.out.g (Nat.le_refl _)⟩
        · as_aux_lemma =>
            have hidx := idxL4
            go_wp2_with (first
              | (go_at_call 29; refine (HNX.out _ (HC.out _ (HS.out.alloc (.cells #[.func (.func 36) #[] #[], .int .i64 0, .int .i64 20, .bool false] 57)).g) ((HS.out.alloc (.cells #[.func (.func 36) #[] #[], .int .i64 0, .int .i64 20, .bool false] 57)).oB)).mono ?_; rintro e w2 ⟨rfl, hb⟩; have HB2 := Lib.hid ((HS.out.alloc (.cells #[.func (.func 36) #[] #[], .int .i64 0, .int .i64 20, .bool false] 57)).below hb); clear hb)
              | (refine wpList_store_row rfl 23 _ _ rfl w.heap.size _ rfl rfl 23 _ HB2.out.oZ zero23.2 rfl (by kernel_rfl) ?_))
            change bodyPost _ _ _ _ _ (w2.setRow w.heap.size (pmOf []).cells)
            refine bodyPost_ret (results_cell_tmp rfl _ _ _ 23 (pmOf []).cells (0, 0) _ rfl (setRow_heap _ _ _ _ _ _ HB2.out.oZ) Tryd.underlying23 rfl zero23.2) rfl ⟨by rw [HR.out]; rfl, grown_row HB2.out.g (Nat.le_refl _)⟩
        · as_aux_lemma =>
            have hidx := idxL5
            go_wp2_with (first
              | (go_at_call 29; refine (HNX.out _ (HC.out _ (HS.out.alloc (.cells #[.func (.func 37) #[] #[], .int .i64 50, .int .i64 100000, .bool false] 57)).g) ((HS.out.alloc (.cells #[.func (.func 37) #[] #[], .int .i64 50, .int .i64 100000, .bool false] 57)).oB)).mono ?_; rintro e w2 ⟨rfl, hb⟩; have HB2 := Lib.hid ((HS.out.alloc (.cells #[.func (.func 37) #[] #[], .int .i64 50, .int .i64 100000, .bool false] 57)).below hb); clear hb)
              | (refine wpList_store_row rfl 23 _ _ rfl w.heap.size _ rfl rfl 23 _ HB2.out.oZ zero23.2 rfl (by kernel_rfl) ?_))
            change bodyPost _ _ _ _ _ (w2.setRow w.heap.size (pmOf []).cells)
            refine bodyPost_ret (results_cell_tmp rfl _ _ _ 23 (pmOf []).cells (0, 0) _ rfl (setRow_heap _ _ _ _ _ _ HB2.out.oZ) Tryd.underlying23 rfl zero23.2) rfl ⟨by rw [HR.out]; rfl, grown_row HB2.out.g (Nat.le_refl _)⟩
    · obtain rfl : k = 6 := by omega
      clear hlt hk
      have cB0 : wr.cell? ⟨B, 0, none⟩ = some (.string s) := by rw [cell_whole hS.oB]; rfl
      have cB1 : wr.cell? ⟨B, 1, none⟩ = some (.int .i64 a) := by rw [cell_whole hS.oB]; rfl
      have cG := HC.out wr hS.g
      have hsz : s.size ≤ 9223372036854775807 := by have := HSZ.out; unfold maxLen at this; omega
      by_cases ha : a = s.size
      · have he : (decP s = some (pmOf ns) ∧ vldP (pmOf ns) = true) ∨ (decP s = none ∧ vldP (pmOf ns) = false) := by
          have ee : decP s = if vldP (pmOf ns) = true then some (pmOf ns) else none := by
            unfold decP
            rw [hS.hp]
            simp only [Option.bind_some]
            have : ((a : Int) = (s.size : Int)) := by omega
            simp [this]
          by_cases hv : vldP (pmOf ns) = true
          · exact .inl ⟨by rw [ee, if_pos hv], hv⟩
          · exact .inr ⟨by rw [ee, if_neg hv], by simpa using hv⟩
        have HCK := Lib.hid (fun W h => check_any (pmOf ns) ad W h)
        have HP := Lib.hid (fun W (h : Dst s w B 6 ns a W) => box6 h.oP)
        have hb1 : ((a : Int) != (s.size : Int)) = false := by simp; omega
        have hb2 : decide (a = s.size) = true := by simpa using ha
        have HA := Lib.hid ha
        have HS := Lib.hid hS
        obtain ⟨p0, p1, p2, p3, p4, p5⟩ := HP.out wr hS
        have HPM : Hid (pmOf ns = pmOf ns) := Lib.hid rfl
        unfold Pm.cells at HCK
        clear hS ha
        rcases he with ⟨he, hv⟩ | ⟨he, hv⟩
        · have HR := Lib.hid (decR_some he ad)
          rw [chk_yes hv] at HCK
          clear he hv
          go_wp2
          go_region_held3 (fun w' => w'.cell? ⟨B, 0, none⟩ = some (.string s) ∧ w'.cell? ⟨B, 1, none⟩ = some (.int .i64 a) ∧ w'.cell? ⟨w.heap.size + 1, 0, none⟩ = some (.int .i64 (pmOf ns).a) ∧ w'.cell? ⟨w.heap.size + 1, 1, none⟩ = some (.int .i64 (pmOf ns).b) ∧ w'.cell? ⟨w.heap.size + 1, 2, none⟩ = some (.int .i64 (pmOf ns).c) ∧ w'.cell? ⟨w.heap.size + 1, 3, none⟩ = some (.int .i64 (pmOf ns).d) ∧ w'.cell? ⟨w.heap.size + 1, 4, none⟩ = some (.int .i64 (pmOf ns).e) ∧ w'.cell? ⟨w.heap.size + 1, 5, none⟩ = some (.int .i64 (pmOf ns).f))
            (first | exact ⟨cB0, cB1, p0, p1, p2, p3, p4, p5⟩ | exact ⟨by rw [cell_whole HS2.out.oB]; rfl, by rw [cell_whole HS2.out.oB]; rfl, HP.out _ HS2.out⟩) (first
              | (go_at_call 17; refine (HCK.out _ (HC.out _ (HS.out.drewN 1).g)).mono ?_; rintro e w2 ⟨rfl, hb⟩; have HS2 := Lib.hid ((HS.out.drewN 1).below hb)))
          have HS3 := Lib.hid HS2.out
          have H1C : Hid ((pmOf ns).cells.all (·.oneCell') = true) := Lib.hid (by unfold Pm.cells; simp [Value.oneCell'])
          go_wp2_with (first
            | (with_reducible refine wpList_load_row rfl 23 _ rfl (w.heap.size + 1) rfl 23 (pmOf ns).cells (0, 0) _ HS3.out.oP Tryd.underlying23 rfl zero23.2 ?_)
            | (refine wpList_store_row rfl 23 _ _ rfl w.heap.size _ rfl rfl 23 _ HS3.out.oZ zero23.2 rfl (by exact H1C.out) ?_))
          change bodyPost _ _ _ _ _ (w2.setRow w.heap.size (pmOf ns).cells)
          refine bodyPost_ret (results_cell_tmp rfl _ _ _ 23 (pmOf ns).cells (0, 0) _ rfl (setRow_heap _ _ _ _ _ _ HS3.out.oZ) Tryd.underlying23 rfl zero23.2) rfl ⟨by rw [HR.out]; rfl, grown_row HS3.out.g (Nat.le_refl _)⟩
        · have HR := Lib.hid (decR_none he ad)
          rw [chk_no hv] at HCK
          clear he hv
          go_wp2
          go_region_held3 (fun w' => w'.cell? ⟨B, 0, none⟩ = some (.string s) ∧ w'.cell? ⟨B, 1, none⟩ = some (.int .i64 a) ∧ w'.cell? ⟨w.heap.size + 1, 0, none⟩ = some (.int .i64 (pmOf ns).a) ∧ w'.cell? ⟨w.heap.size + 1, 1, none⟩ = some (.int .i64 (pmOf ns).b) ∧ w'.cell? ⟨w.heap.size + 1, 2, none⟩ = some (.int .i64 (pmOf ns).c) ∧ w'.cell? ⟨w.heap.size + 1, 3, none⟩ = some (.int .i64 (pmOf ns).d) ∧ w'.cell? ⟨w.heap.size + 1, 4, none⟩ = some (.int .i64 (pmOf ns).e) ∧ w'.cell? ⟨w.heap.size + 1, 5, none⟩ = some (.int .i64 (pmOf ns).f))
            (first | exact ⟨cB0, cB1, p0, p1, p2, p3, p4, p5⟩ | exact ⟨by rw [cell_whole HS2.out.oB]; rfl, by rw [cell_whole HS2.out.oB]; rfl, HP.out _ HS2.out⟩) (first
              | (go_at_call 17; refine (HCK.out _ (HC.out _ (HS.out.drewN 1).g)).mono ?_; rintro e w2 ⟨rfl, hb⟩; have HS2 := Lib.hid ((HS.out.drewN 1).below hb)))
          go_wp2
          have cG2 := HC.out _ HS2.out.g
          have HZ := Lib.hid HS2.out.oZ
          have fZ := fun j => frozen_whole HZ.out j
          have z0 : w2.cell? ⟨w.heap.size, 0, none⟩ = some (.int .i64 0) := by rw [cell_whole HZ.out]; rfl
          have z1 : w2.cell? ⟨w.heap.size, 1, none⟩ = some (.int .i64 0) := by rw [cell_whole HZ.out]; rfl
          have z2 : w2.cell? ⟨w.heap.size, 2, none⟩ = some (.int .i64 0) := by rw [cell_whole HZ.out]; rfl
          have z3 : w2.cell? ⟨w.heap.size, 3, none⟩ = some (.int .i64 0) := by rw [cell_whole HZ.out]; rfl
          have z4 : w2.cell? ⟨w.heap.size, 4, none⟩ = some (.int .i64 0) := by rw [cell_whole HZ.out]; rfl
          have z5 : w2.cell? ⟨w.heap.size, 5, none⟩ = some (.int .i64 0) := by rw [cell_whole HZ.out]; rfl
          go_region
          go_wp2
          have HF := ((((((Blk.start HZ.out).set 0 (.int .i64 0)).set 1 (.int .i64 0)).set 2 (.int .i64 0)).set 3 (.int .i64 0)).set 4 (.int .i64 0)).set 5 (.int .i64 0) |>.drew
          have HG := grown_drew (grown_new (i := 5) (v := .int .i64 0) (grown_new (i := 4) (v := .int .i64 0) (grown_new (i := 3) (v := .int .i64 0) (grown_new (i := 2) (v := .int .i64 0) (grown_new (i := 1) (v := .int .i64 0) (grown_new (i := 0) (v := .int .i64 0) HS2.out.g (Nat.le_refl _)) (Nat.le_refl _)) (Nat.le_refl _)) (Nat.le_refl _)) (Nat.le_refl _)) (Nat.le_refl _))
          refine bodyPost_ret (results_cell_tmp rfl _ _ _ 23 (pmOf []).cells (0, 0) _ rfl (HF.1.trans rfl) Tryd.underlying23 rfl zero23.2) rfl ⟨by rw [HR.out]; rfl, HG⟩
      · have hn : decP s = none := by
          unfold decP
          rw [hS.hp]
          simp only [Option.bind_some]
          rw [if_neg (by intro h; exact ha (by have := h.1; omega))]
        have HR := Lib.hid (decR_none hn ad)
        have hb1 : ((a : Int) != (s.size : Int)) = true := by simp; omega
        have hb2 : decide (a = s.size) = false := by simpa using ha
        have HS := Lib.hid hS
        clear hS hn ha
        go_wp2
        go_quiet (fail)
        go_wp2
        have HS2 := Lib.hid (HS.out.drewN nq)
        have cG2 := HC.out _ HS2.out.g
        generalize wr.drewN nq = wq at *
        have HZ := Lib.hid HS2.out.oZ
        have fZ := fun j => frozen_whole HZ.out j
        have z0 : wq.cell? ⟨w.heap.size, 0, none⟩ = some (.int .i64 0) := by rw [cell_whole HZ.out]; rfl
        have z1 : wq.cell? ⟨w.heap.size, 1, none⟩ = some (.int .i64 0) := by rw [cell_whole HZ.out]; rfl
        have z2 : wq.cell? ⟨w.heap.size, 2, none⟩ = some (.int .i64 0) := by rw [cell_whole HZ.out]; rfl
        have z3 : wq.cell? ⟨w.heap.size, 3, none⟩ = some (.int .i64 0) := by rw [cell_whole HZ.out]; rfl
        have z4 : wq.cell? ⟨w.heap.size, 4, none⟩ = some (.int .i64 0) := by rw [cell_whole HZ.out]; rfl
        have z5 : wq.cell? ⟨w.heap.size, 5, none⟩ = some (.int .i64 0) := by rw [cell_whole HZ.out]; rfl
        go_region
        go_wp2
        have HF := ((((((Blk.start HZ.out).set 0 (.int .i64 0)).set 1 (.int .i64 0)).set 2 (.int .i64 0)).set 3 (.int .i64 0)).set 4 (.int .i64 0)).set 5 (.int .i64 0) |>.drew
        have HG := grown_drew (grown_new (i := 5) (v := .int .i64 0) (grown_new (i := 4) (v := .int .i64 0) (grown_new (i := 3) (v := .int .i64 0) (grown_new (i := 2) (v := .int .i64 0) (grown_new (i := 1) (v := .int .i64 0) (grown_new (i := 0) (v := .int .i64 0) HS2.out.g (Nat.le_refl _)) (Nat.le_refl _)) (Nat.le_refl _)) (Nat.le_refl _)) (Nat.le_refl _)) (Nat.le_refl _))
        refine bodyPost_ret (results_cell_tmp rfl _ _ _ 23 (pmOf []).cells (0, 0) _ rfl (HF.1.trans rfl) Tryd.underlying23 rfl zero23.2) rfl ⟨by rw [HR.out]; rfl, HG⟩
end Go.Proofs.YtddfikijehmoiaaDoor
