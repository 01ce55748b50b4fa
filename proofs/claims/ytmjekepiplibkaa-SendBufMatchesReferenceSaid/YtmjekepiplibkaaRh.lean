/- The law's changed: a frame with one field changed. -/
import Derived.Test.YtmjekepiplibkaaRg
import Derived.Test.YtmjekepiplibkaaCp
import Derived.Test.YtmjekepiplibkaaT
namespace Go.Proofs.Ytmjekepiplibkaa
open Go.RowKit
structure FrIn (f : Fr) : Prop where
  off : I64 f.off
  s : f.s.size ≤ 2000
  one : f.cells.all (·.oneCell') = true
theorem one_of {f g : Fr} (h : f.cells.all (·.oneCell') = true) (hr : g.ranges = f.ranges) : g.cells.all (·.oneCell') = true := by
  simp [Fr.cells, Value.oneCell'] at h ⊢
  rw [hr]; exact h
def ChgPost (w : World) (e : Ending) (w' : World) : Prop := (∃ f' : Fr, e = .returned f'.val ∧ f'.s.size ≤ 4010 ∧ f'.cells.all (·.oneCell') = true) ∧ Below w.heap.size w w'
theorem chg_fi {w W1 : World} {f : Fr} (HB : Below w.heap.size w W1) (q0 : W1.heap[w.heap.size]? = some (.cells f.cells 35 (0, 0))) (q1 : W1.heap[w.heap.size + 1]? = some (.cells fr0.cells 35 (0, 0))) (i : Nat) (v : Value) (f' : Fr) (e : f.cells.setIfInBounds i v = f'.cells) :
    (W1.setCell ⟨w.heap.size, i, none⟩ v).heap[w.heap.size]? = some (.cells f'.cells 35 (0, 0)) ∧ (W1.setCell ⟨w.heap.size, i, none⟩ v).heap[w.heap.size + 1]? = some (.cells fr0.cells 35 (0, 0)) ∧ Below w.heap.size w (W1.setCell ⟨w.heap.size, i, none⟩ v) :=
  ⟨by rw [heap_set v q0, e], (heap_setCell_other _ _ _ _ (by show w.heap.size + 1 ≠ w.heap.size; omega)).trans q1, HB.setCell (Nat.le_refl _) _⟩
theorem chg_fi_drew {w W1 : World} {f : Fr} (h : W1.heap[w.heap.size]? = some (.cells f.cells 35 (0, 0)) ∧ W1.heap[w.heap.size + 1]? = some (.cells fr0.cells 35 (0, 0)) ∧ Below w.heap.size w W1) :
    W1.drew.heap[w.heap.size]? = some (.cells f.cells 35 (0, 0)) ∧ W1.drew.heap[w.heap.size + 1]? = some (.cells fr0.cells 35 (0, 0)) ∧ Below w.heap.size w W1.drew := ⟨h.1, h.2.1, h.2.2.drew⟩
theorem below_setRow {w W : World} (h : Below w.heap.size w W) (r : Nat) (cs : Array Value) (hr : w.heap.size ≤ r) : Below w.heap.size w (W.setRow r cs) :=
  ⟨h.os, h.tape, h.output, by simpa using h.size, fun k hk => (setRow_other W r k cs (by omega)).trans (h.block k hk)⟩
set_option maxHeartbeats 4000000 in
theorem changed_off (f : Fr) (which n : Int) (w : World) (hf : FrIn f) (hw : I64 which) (hn : I64 n) (hp : pickF which 5 = 0) :
    Calls Try.prog 36 #[f.val, .int .i64 which, .int .i64 n] w (ChgPost w) := by
  have HB : Hid (Below w.heap.size w ((w.alloc (.cells f.cells 35)).alloc (.cells fr0.cells 35))) := Lib.hid (((Below.refl _ w).alloc (Nat.le_refl _) _).alloc (by simp) _)
  have HQ0 : Hid (((w.alloc (.cells f.cells 35)).alloc (.cells fr0.cells 35)).heap[w.heap.size]? = some (.cells f.cells 35 (0, 0))) := Lib.hid ((Below.heap_alloc _ _ _ (by simp)).trans (heap_alloc_new w _))
  have HQ1 : Hid (((w.alloc (.cells f.cells 35)).alloc (.cells fr0.cells 35)).heap[w.heap.size + 1]? = some (.cells fr0.cells 35 (0, 0))) := Lib.hid (by have := heap_alloc_new (w.alloc (.cells f.cells 35)) (.cells fr0.cells 35); simpa using this)
  have PK := Lib.hid (fun (wx : World) => pick_any which 5 wx hw.lo hw.hi (by decide) (by decide))
  have ONE := Lib.hid hf.one
  have hs := hf.s
  have ho1 := hf.off.lo
  have ho2 := hf.off.hi
  rw [hp] at PK
  have PN := Lib.hid (fun (wx : World) => pick_any n 5 wx hn.lo hn.hi (by decide) (by decide))
  have rn := pickF_range n 5 (by decide)
  generalize pickF n 5 = pn at *
  obtain ⟨z, hz⟩ : ∃ z, IntKind.i64.wrap (IntKind.i64.wrap (f.off + pn) - 2) = z := ⟨_, rfl⟩
  obtain ⟨y, hy⟩ : ∃ y, IntKind.i64.wrap (f.off + pn) = y := ⟨_, rfl⟩
  rw [hy] at hz
  clear hf hw hp
  change Calls Try.prog 36 #[.agg f.cells, .int .i64 which, .int .i64 n] w _
  go_enter Try.func36, Try.ntmps36
  go_wp2_with fail
  change Calls _ _ _ ((w.alloc (.cells f.cells 35)).alloc (.cells fr0.cells 35)) _
  generalize (w.alloc (.cells f.cells 35)).alloc (.cells fr0.cells 35) = W1 at *
  refine (PK.out _).mono ?_
  rintro e wm ⟨rfl, rfl⟩
  obtain ⟨d0, d2, d3, d4⟩ := Boxed.of HQ0.out
  have fr := frozen_whole HQ0.out
  have OF : Hid (({ f with off := z } : Fr).cells.all (·.oneCell') = true) := Lib.hid (one_of ONE.out rfl)
  have SZ : Hid (({ f with off := z } : Fr).s.size ≤ 4010) := Lib.hid (by show f.s.size ≤ 4010; omega)
  have FI := Lib.hid (chg_fi_drew (chg_fi HB.out HQ0.out HQ1.out 2 (.int .i64 z) { f with off := z } rfl))
  go_wp2
  go_still_tail 7, (by kernel_rfl)
  repeat still_step
  still_call ((PN.out _).mono (fun _ _ h => ⟨h.1, h.2.symm⟩))
  repeat still_step
  refine wpStill_nil ?_
  go_wp2_with (first
    | (refine wpList_load_own rfl _ rfl { f with off := z } w.heap.size rfl FI.out.1 ?_) | (refine wpList_store_row rfl 35 _ _ rfl (w.heap.size + 1) _ rfl rfl 35 _ FI.out.2.1 (size35 _) rfl OF.out ?_))
  exact bodyPost_ret (v := ({ f with off := z } : Fr).val) (results_cell_row rfl _ _ (w.heap.size + 1) 35 _ (0, 0) _ rfl (setRow_heap _ _ _ _ 35 _ FI.out.2.1) Try.underlying35 rfl (size35 _)) rfl ⟨⟨({ f with off := z } : Fr), rfl, SZ.out, OF.out⟩, below_setRow FI.out.2.2 _ _ (by omega)⟩
set_option maxHeartbeats 4000000 in
theorem changed_s (f : Fr) (which n : Int) (w : World) (hf : FrIn f) (hw : I64 which) (_hn : I64 n) (hp : pickF which 5 = 1) :
    Calls Try.prog 36 #[f.val, .int .i64 which, .int .i64 n] w (ChgPost w) := by
  have HB : Hid (Below w.heap.size w ((w.alloc (.cells f.cells 35)).alloc (.cells fr0.cells 35))) := Lib.hid (((Below.refl _ w).alloc (Nat.le_refl _) _).alloc (by simp) _)
  have HQ0 : Hid (((w.alloc (.cells f.cells 35)).alloc (.cells fr0.cells 35)).heap[w.heap.size]? = some (.cells f.cells 35 (0, 0))) := Lib.hid ((Below.heap_alloc _ _ _ (by simp)).trans (heap_alloc_new w _))
  have HQ1 : Hid (((w.alloc (.cells f.cells 35)).alloc (.cells fr0.cells 35)).heap[w.heap.size + 1]? = some (.cells fr0.cells 35 (0, 0))) := Lib.hid (by have := heap_alloc_new (w.alloc (.cells f.cells 35)) (.cells fr0.cells 35); simpa using this)
  have PK := Lib.hid (fun (wx : World) => pick_any which 5 wx hw.lo hw.hi (by decide) (by decide))
  have ONE := Lib.hid hf.one
  have hs := hf.s
  have ho1 := hf.off.lo
  have ho2 := hf.off.hi
  rw [hp] at PK
  clear hf hw hp
  change Calls Try.prog 36 #[.agg f.cells, .int .i64 which, .int .i64 n] w _
  go_enter Try.func36, Try.ntmps36
  go_wp2_with fail
  change Calls _ _ _ ((w.alloc (.cells f.cells 35)).alloc (.cells fr0.cells 35)) _
  generalize (w.alloc (.cells f.cells 35)).alloc (.cells fr0.cells 35) = W1 at *
  refine (PK.out _).mono ?_
  rintro e wm ⟨rfl, rfl⟩
  obtain ⟨d0, d2, d3, d4⟩ := Boxed.of HQ0.out
  have fr := frozen_whole HQ0.out
  have OF : Hid (({ f with s := f.s ++ ⟨#[120]⟩ } : Fr).cells.all (·.oneCell') = true) := Lib.hid (one_of ONE.out rfl)
  have SZ : Hid (({ f with s := f.s ++ ⟨#[120]⟩ } : Fr).s.size ≤ 4010) := Lib.hid (by show (f.s ++ ⟨#[120]⟩).size ≤ 4010; rw [ByteArray.size_append]; have : (⟨#[120]⟩ : ByteArray).size = 1 := rfl; omega)
  have FI := Lib.hid (chg_fi HB.out HQ0.out HQ1.out 3 (.string (f.s ++ ⟨#[120]⟩)) { f with s := f.s ++ ⟨#[120]⟩ } rfl)
  go_wp2_with (first
    | (refine wpList_load_own rfl _ rfl { f with s := f.s ++ ⟨#[120]⟩ } w.heap.size rfl FI.out.1 ?_) | (refine wpList_store_row rfl 35 _ _ rfl (w.heap.size + 1) _ rfl rfl 35 _ FI.out.2.1 (size35 _) rfl OF.out ?_))
  exact bodyPost_ret (v := ({ f with s := f.s ++ ⟨#[120]⟩ } : Fr).val) (results_cell_row rfl _ _ (w.heap.size + 1) 35 _ (0, 0) _ rfl (setRow_heap _ _ _ _ 35 _ FI.out.2.1) Try.underlying35 rfl (size35 _)) rfl ⟨⟨({ f with s := f.s ++ ⟨#[120]⟩ } : Fr), rfl, SZ.out, OF.out⟩, below_setRow FI.out.2.2 _ _ (by omega)⟩
set_option maxHeartbeats 4000000 in
theorem changed_fin (f : Fr) (which n : Int) (w : World) (hf : FrIn f) (hw : I64 which) (_hn : I64 n) (hp : pickF which 5 = 2) :
    Calls Try.prog 36 #[f.val, .int .i64 which, .int .i64 n] w (ChgPost w) := by
  have HB : Hid (Below w.heap.size w ((w.alloc (.cells f.cells 35)).alloc (.cells fr0.cells 35))) := Lib.hid (((Below.refl _ w).alloc (Nat.le_refl _) _).alloc (by simp) _)
  have HQ0 : Hid (((w.alloc (.cells f.cells 35)).alloc (.cells fr0.cells 35)).heap[w.heap.size]? = some (.cells f.cells 35 (0, 0))) := Lib.hid ((Below.heap_alloc _ _ _ (by simp)).trans (heap_alloc_new w _))
  have HQ1 : Hid (((w.alloc (.cells f.cells 35)).alloc (.cells fr0.cells 35)).heap[w.heap.size + 1]? = some (.cells fr0.cells 35 (0, 0))) := Lib.hid (by have := heap_alloc_new (w.alloc (.cells f.cells 35)) (.cells fr0.cells 35); simpa using this)
  have PK := Lib.hid (fun (wx : World) => pick_any which 5 wx hw.lo hw.hi (by decide) (by decide))
  have ONE := Lib.hid hf.one
  have hs := hf.s
  have ho1 := hf.off.lo
  have ho2 := hf.off.hi
  rw [hp] at PK
  clear hf hw hp
  change Calls Try.prog 36 #[.agg f.cells, .int .i64 which, .int .i64 n] w _
  go_enter Try.func36, Try.ntmps36
  go_wp2_with fail
  change Calls _ _ _ ((w.alloc (.cells f.cells 35)).alloc (.cells fr0.cells 35)) _
  generalize (w.alloc (.cells f.cells 35)).alloc (.cells fr0.cells 35) = W1 at *
  refine (PK.out _).mono ?_
  rintro e wm ⟨rfl, rfl⟩
  obtain ⟨d0, d2, d3, d4⟩ := Boxed.of HQ0.out
  have fr := frozen_whole HQ0.out
  have OF : Hid (({ f with fin := !f.fin } : Fr).cells.all (·.oneCell') = true) := Lib.hid (one_of ONE.out rfl)
  have SZ : Hid (({ f with fin := !f.fin } : Fr).s.size ≤ 4010) := Lib.hid (by show f.s.size ≤ 4010; omega)
  have FI := Lib.hid (chg_fi HB.out HQ0.out HQ1.out 4 (.bool (!f.fin)) { f with fin := !f.fin } rfl)
  go_wp2_with (first
    | (refine wpList_load_own rfl _ rfl { f with fin := !f.fin } w.heap.size rfl FI.out.1 ?_) | (refine wpList_store_row rfl 35 _ _ rfl (w.heap.size + 1) _ rfl rfl 35 _ FI.out.2.1 (size35 _) rfl OF.out ?_))
  exact bodyPost_ret (v := ({ f with fin := !f.fin } : Fr).val) (results_cell_row rfl _ _ (w.heap.size + 1) 35 _ (0, 0) _ rfl (setRow_heap _ _ _ _ 35 _ FI.out.2.1) Try.underlying35 rfl (size35 _)) rfl ⟨⟨({ f with fin := !f.fin } : Fr), rfl, SZ.out, OF.out⟩, below_setRow FI.out.2.2 _ _ (by omega)⟩
set_option maxHeartbeats 4000000 in
theorem changed_ty (f : Fr) (which n : Int) (w : World) (hf : FrIn f) (hw : I64 which) (_hn : I64 n) (hp : pickF which 5 = 3) :
    Calls Try.prog 36 #[f.val, .int .i64 which, .int .i64 n] w (ChgPost w) := by
  have HB : Hid (Below w.heap.size w ((w.alloc (.cells f.cells 35)).alloc (.cells fr0.cells 35))) := Lib.hid (((Below.refl _ w).alloc (Nat.le_refl _) _).alloc (by simp) _)
  have HQ0 : Hid (((w.alloc (.cells f.cells 35)).alloc (.cells fr0.cells 35)).heap[w.heap.size]? = some (.cells f.cells 35 (0, 0))) := Lib.hid ((Below.heap_alloc _ _ _ (by simp)).trans (heap_alloc_new w _))
  have HQ1 : Hid (((w.alloc (.cells f.cells 35)).alloc (.cells fr0.cells 35)).heap[w.heap.size + 1]? = some (.cells fr0.cells 35 (0, 0))) := Lib.hid (by have := heap_alloc_new (w.alloc (.cells f.cells 35)) (.cells fr0.cells 35); simpa using this)
  have PK := Lib.hid (fun (wx : World) => pick_any which 5 wx hw.lo hw.hi (by decide) (by decide))
  have ONE := Lib.hid hf.one
  have hs := hf.s
  have ho1 := hf.off.lo
  have ho2 := hf.off.hi
  rw [hp] at PK
  clear hf hw hp
  change Calls Try.prog 36 #[.agg f.cells, .int .i64 which, .int .i64 n] w _
  go_enter Try.func36, Try.ntmps36
  go_wp2_with fail
  change Calls _ _ _ ((w.alloc (.cells f.cells 35)).alloc (.cells fr0.cells 35)) _
  generalize (w.alloc (.cells f.cells 35)).alloc (.cells fr0.cells 35) = W1 at *
  refine (PK.out _).mono ?_
  rintro e wm ⟨rfl, rfl⟩
  obtain ⟨d0, d2, d3, d4⟩ := Boxed.of HQ0.out
  have fr := frozen_whole HQ0.out
  have OF : Hid (({ f with ty := n } : Fr).cells.all (·.oneCell') = true) := Lib.hid (one_of ONE.out rfl)
  have SZ : Hid (({ f with ty := n } : Fr).s.size ≤ 4010) := Lib.hid (by show f.s.size ≤ 4010; omega)
  have FI := Lib.hid (chg_fi HB.out HQ0.out HQ1.out 0 (.int .i64 n) { f with ty := n } rfl)
  go_wp2_with (first
    | (refine wpList_load_own rfl _ rfl { f with ty := n } w.heap.size rfl FI.out.1 ?_) | (refine wpList_store_row rfl 35 _ _ rfl (w.heap.size + 1) _ rfl rfl 35 _ FI.out.2.1 (size35 _) rfl OF.out ?_))
  exact bodyPost_ret (v := ({ f with ty := n } : Fr).val) (results_cell_row rfl _ _ (w.heap.size + 1) 35 _ (0, 0) _ rfl (setRow_heap _ _ _ _ 35 _ FI.out.2.1) Try.underlying35 rfl (size35 _)) rfl ⟨⟨({ f with ty := n } : Fr), rfl, SZ.out, OF.out⟩, below_setRow FI.out.2.2 _ _ (by omega)⟩
set_option maxHeartbeats 4000000 in
theorem changed_none (f : Fr) (which n : Int) (w : World) (hf : FrIn f) (hw : I64 which) (_hn : I64 n) (hp : pickF which 5 = 4) (h0 : f.s.size = 0) :
    Calls Try.prog 36 #[f.val, .int .i64 which, .int .i64 n] w (ChgPost w) := by
  have HB : Hid (Below w.heap.size w ((w.alloc (.cells f.cells 35)).alloc (.cells fr0.cells 35))) := Lib.hid (((Below.refl _ w).alloc (Nat.le_refl _) _).alloc (by simp) _)
  have HQ0 : Hid (((w.alloc (.cells f.cells 35)).alloc (.cells fr0.cells 35)).heap[w.heap.size]? = some (.cells f.cells 35 (0, 0))) := Lib.hid ((Below.heap_alloc _ _ _ (by simp)).trans (heap_alloc_new w _))
  have HQ1 : Hid (((w.alloc (.cells f.cells 35)).alloc (.cells fr0.cells 35)).heap[w.heap.size + 1]? = some (.cells fr0.cells 35 (0, 0))) := Lib.hid (by have := heap_alloc_new (w.alloc (.cells f.cells 35)) (.cells fr0.cells 35); simpa using this)
  have PK := Lib.hid (fun (wx : World) => pick_any which 5 wx hw.lo hw.hi (by decide) (by decide))
  have ONE := Lib.hid hf.one
  have hs := hf.s
  have ho1 := hf.off.lo
  have ho2 := hf.off.hi
  rw [hp] at PK
  have h0i : (f.s.size : Int) = 0 := by omega
  clear hf hw hp
  change Calls Try.prog 36 #[.agg f.cells, .int .i64 which, .int .i64 n] w _
  go_enter Try.func36, Try.ntmps36
  go_wp2_with fail
  change Calls _ _ _ ((w.alloc (.cells f.cells 35)).alloc (.cells fr0.cells 35)) _
  generalize (w.alloc (.cells f.cells 35)).alloc (.cells fr0.cells 35) = W1 at *
  refine (PK.out _).mono ?_
  rintro e wm ⟨rfl, rfl⟩
  obtain ⟨d0, d2, d3, d4⟩ := Boxed.of HQ0.out
  have fr := frozen_whole HQ0.out
  have OF : Hid ((f : Fr).cells.all (·.oneCell') = true) := Lib.hid (one_of ONE.out rfl)
  have SZ : Hid ((f : Fr).s.size ≤ 4010) := Lib.hid (by omega)
  have FI := Lib.hid (chg_fi HB.out HQ0.out HQ1.out 0 (.int .i64 f.ty) f rfl)
  have FI := Lib.hid (show W1.heap[w.heap.size]? = some (.cells f.cells 35 (0, 0)) ∧ W1.heap[w.heap.size + 1]? = some (.cells fr0.cells 35 (0, 0)) ∧ Below w.heap.size w W1 from ⟨HQ0.out, HQ1.out, HB.out⟩)
  go_wp2_with (first
    | (refine wpList_load_own rfl _ rfl f w.heap.size rfl FI.out.1 ?_) | (refine wpList_store_row rfl 35 _ _ rfl (w.heap.size + 1) _ rfl rfl 35 _ FI.out.2.1 (size35 _) rfl OF.out ?_))
  exact bodyPost_ret (v := (f : Fr).val) (results_cell_row rfl _ _ (w.heap.size + 1) 35 _ (0, 0) _ rfl (setRow_heap _ _ _ _ 35 _ FI.out.2.1) Try.underlying35 rfl (size35 _)) rfl ⟨⟨(f : Fr), rfl, SZ.out, OF.out⟩, below_setRow FI.out.2.2 _ _ (by omega)⟩
set_option maxHeartbeats 4000000 in
theorem changed_hash (f : Fr) (which n : Int) (w : World) (hf : FrIn f) (hw : I64 which) (hn : I64 n) (hp : pickF which 5 = 4) (h0 : 0 < f.s.size) :
    Calls Try.prog 36 #[f.val, .int .i64 which, .int .i64 n] w (ChgPost w) := by
  have HB : Hid (Below w.heap.size w ((w.alloc (.cells f.cells 35)).alloc (.cells fr0.cells 35))) := Lib.hid (((Below.refl _ w).alloc (Nat.le_refl _) _).alloc (by simp) _)
  have HQ0 : Hid (((w.alloc (.cells f.cells 35)).alloc (.cells fr0.cells 35)).heap[w.heap.size]? = some (.cells f.cells 35 (0, 0))) := Lib.hid ((Below.heap_alloc _ _ _ (by simp)).trans (heap_alloc_new w _))
  have HQ1 : Hid (((w.alloc (.cells f.cells 35)).alloc (.cells fr0.cells 35)).heap[w.heap.size + 1]? = some (.cells fr0.cells 35 (0, 0))) := Lib.hid (by have := heap_alloc_new (w.alloc (.cells f.cells 35)) (.cells fr0.cells 35); simpa using this)
  have PK := Lib.hid (fun (wx : World) => pick_any which 5 wx hw.lo hw.hi (by decide) (by decide))
  have ONE := Lib.hid hf.one
  have hs := hf.s
  have ho1 := hf.off.lo
  have ho2 := hf.off.hi
  rw [hp] at PK
  have PN := Lib.hid (fun (wx : World) => pick_any n f.s.size wx hn.lo hn.hi (by omega) (by omega))
  have rn := pickF_range n f.s.size (by omega)
  generalize pickF n f.s.size = pn at *
  obtain ⟨m, rfl⟩ : ∃ m : Nat, pn = m := ⟨pn.toNat, by omega⟩
  have hm1 : m + 1 ≤ f.s.size := by omega
  have hm2 : m ≤ f.s.size := by omega
  have hw1 : IntKind.i64.wrap ((m : Int) + 1) = (m : Int) + 1 := IntWalk.i64_in _ (by omega)
  have g1 : (0 : Int) ≤ (m : Int) + 1 := by omega
  have g2 : ((m : Int) + 1).toNat = m + 1 := by omega
  have g3 : (m : Int) + 1 ≤ (f.s.size : Int) := by omega
  have h0i : (0 : Int) < (f.s.size : Int) := by omega
  obtain ⟨s1, hs1⟩ : ∃ s, f.s.extract 0 m = s := ⟨_, rfl⟩
  obtain ⟨s2, hs2⟩ : ∃ s, f.s.extract (m + 1) f.s.size = s := ⟨_, rfl⟩
  have hz1 : s1.size ≤ 2000 := by rw [← hs1, ByteArray.size_extract]; omega
  have hz2 : s2.size ≤ 2000 := by rw [← hs2, ByteArray.size_extract]; omega
  have hc1 : (9223372036854775807 < s1.size + 1) = False := eq_false (by omega)
  have hc2 : (9223372036854775807 < s1.size + 1 + s2.size) = False := eq_false (by omega)
  clear hf hw hp
  change Calls Try.prog 36 #[.agg f.cells, .int .i64 which, .int .i64 n] w _
  go_enter Try.func36, Try.ntmps36
  go_wp2_with fail
  change Calls _ _ _ ((w.alloc (.cells f.cells 35)).alloc (.cells fr0.cells 35)) _
  generalize (w.alloc (.cells f.cells 35)).alloc (.cells fr0.cells 35) = W1 at *
  refine (PK.out _).mono ?_
  rintro e wm ⟨rfl, rfl⟩
  obtain ⟨d0, d2, d3, d4⟩ := Boxed.of HQ0.out
  have fr := frozen_whole HQ0.out
  have OF : Hid (({ f with s := s1 ++ ⟨#[35]⟩ ++ s2 } : Fr).cells.all (·.oneCell') = true) := Lib.hid (one_of ONE.out rfl)
  have SZ : Hid (({ f with s := s1 ++ ⟨#[35]⟩ ++ s2 } : Fr).s.size ≤ 4010) := Lib.hid (by show (s1 ++ ⟨#[35]⟩ ++ s2).size ≤ 4010; rw [ByteArray.size_append, ByteArray.size_append]; have : (⟨#[35]⟩ : ByteArray).size = 1 := rfl; omega)
  have FI := Lib.hid (chg_fi_drew (chg_fi HB.out HQ0.out HQ1.out 3 (.string (s1 ++ ⟨#[35]⟩ ++ s2)) { f with s := s1 ++ ⟨#[35]⟩ ++ s2 } rfl))
  go_wp2_with (go_at_call 11; refine (PN.out _).mono ?_; rintro e wm ⟨rfl, rfl⟩)
  go_still_tail 12, (by kernel_rfl)
  go_wp2_with (first
    | (refine wpList_load_own rfl _ rfl { f with s := s1 ++ ⟨#[35]⟩ ++ s2 } w.heap.size rfl FI.out.1 ?_) | (refine wpList_store_row rfl 35 _ _ rfl (w.heap.size + 1) _ rfl rfl 35 _ FI.out.2.1 (size35 _) rfl OF.out ?_))
  exact bodyPost_ret (v := ({ f with s := s1 ++ ⟨#[35]⟩ ++ s2 } : Fr).val) (results_cell_row rfl _ _ (w.heap.size + 1) 35 _ (0, 0) _ rfl (setRow_heap _ _ _ _ 35 _ FI.out.2.1) Try.underlying35 rfl (size35 _)) rfl ⟨⟨({ f with s := s1 ++ ⟨#[35]⟩ ++ s2 } : Fr), rfl, SZ.out, OF.out⟩, below_setRow FI.out.2.2 _ _ (by omega)⟩
theorem changed_any (f : Fr) (which n : Int) (w : World) (hf : FrIn f) (hw : I64 which) (hn : I64 n) :
    Calls Try.prog 36 #[f.val, .int .i64 which, .int .i64 n] w (ChgPost w) := by
  have hr := pickF_range which 5 (by decide)
  have hc : pickF which 5 = 0 ∨ pickF which 5 = 1 ∨ pickF which 5 = 2 ∨ pickF which 5 = 3 ∨ pickF which 5 = 4 := by omega
  rcases hc with h | h | h | h | h
  · exact changed_off f which n w hf hw hn h
  · exact changed_s f which n w hf hw hn h
  · exact changed_fin f which n w hf hw hn h
  · exact changed_ty f which n w hf hw hn h
  · rcases Nat.eq_zero_or_pos f.s.size with h0 | h0
    · exact changed_none f which n w hf hw hn h h0
    · exact changed_hash f which n w hf hw hn h h0
end Go.Proofs.Ytmjekepiplibkaa
