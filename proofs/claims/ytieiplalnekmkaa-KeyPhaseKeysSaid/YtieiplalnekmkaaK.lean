/- Law 25: the cipher's forward, swapped, text. -/
import Derived.Test.YtieiplalnekmkaaJ
import Derived.Test.YtieiplalnekmkaaHeld
namespace Go.Proofs.Ytieiplalnekmkaa
open Go.RowKit
def stv (l r : Int) : Value := .agg #[.int .u32 l, .int .u32 r]
def fwd (k : Ks) (s : Int × Int) (i : Nat) : Int × Int := (s.2, bits .xor .u32 s.1 (mixF k s.2 i))
theorem fwd_ok (k : Ks) (s : Int × Int) (i : Nat) (h : Wd s.2) : Wd (fwd k s i).1 ∧ Wd (fwd k s i).2 := ⟨h, xor_range _ _⟩
set_option maxRecDepth 100000 in
set_option maxHeartbeats 4000000 in
theorem fwd_any (k : Ks) (l r : Int) (i : Nat) (w : World) (hk : k.ok) (hr : Wd r) (hi : i < 8) :
    Calls Try.prog 44 #[stv l r, k.val, .int .i64 i] w fun e w' => e = .returned (stv (fwd k (l, r) i).1 (fwd k (l, r) i).2) ∧ Below w.heap.size w w' := by
  have MX := Lib.hid (fun w => mix_any k r i w hk hr hi)
  unfold fwd
  generalize mixF k r i = m at *
  obtain ⟨ka, kb, kc, kd⟩ := k
  clear hk hr hi
  unfold Ks.val stv at *
  have F := Lib.hid (box3 w (.cells #[.int .u32 l, .int .u32 r] 98) (.cells #[.int .u32 ka, .int .u32 kb, .int .u32 kc, .int .u32 kd] 96) (.cells #[.int .u32 0, .int .u32 0] 98))
  go_enter Try.func44, Try.ntmps44
  go_wp2
  generalize (((w.alloc (Obj.cells #[Value.int IntKind.u32 l, Value.int IntKind.u32 r] 98)).alloc (Obj.cells #[Value.int IntKind.u32 ka, Value.int IntKind.u32 kb, Value.int IntKind.u32 kc, Value.int IntKind.u32 kd] 96)).alloc (Obj.cells #[Value.int IntKind.u32 0, Value.int IntKind.u32 0] 98)) = W at F ⊢
  have ha := F.out.1
  have hb := F.out.2.1
  have hcc := F.out.2.2.1
  have hsz := F.out.2.2.2.2
  have c0 := at_whole ha 0 rfl
  have c1 := at_whole ha 1 rfl
  have k0 := at_whole hb 0 rfl
  have k1 := at_whole hb 1 rfl
  have k2 := at_whole hb 2 rfl
  have k3 := at_whole hb 3 rfl
  have r0 := at_whole hcc 0 rfl
  have r1 := at_whole hcc 1 rfl
  have fr0 := frozen_whole hcc 0
  have fr1 := frozen_whole hcc 1
  have lR : w.heap.size + 1 + 1 < W.heap.size := by omega
  clear ha hb hsz hcc
  have HS := Lib.hid (show ∀ w', Held W (w.heap.size + 1 + 1) w' → (w'.cell? ⟨w.heap.size, 0, none⟩ = some (.int .u32 l) ∧ w'.cell? ⟨w.heap.size, 1, none⟩ = some (.int .u32 r) ∧ w'.cell? ⟨w.heap.size + 1, 0, none⟩ = some (.int .u32 ka) ∧ w'.cell? ⟨w.heap.size + 1, 1, none⟩ = some (.int .u32 kb) ∧ w'.cell? ⟨w.heap.size + 1, 2, none⟩ = some (.int .u32 kc) ∧ w'.cell? ⟨w.heap.size + 1, 3, none⟩ = some (.int .u32 kd) ∧ w'.frozen? ⟨w.heap.size + 1 + 1, 0, none⟩ = false ∧ w'.frozen? ⟨w.heap.size + 1 + 1, 1, none⟩ = false ∧ w'.cell? ⟨w.heap.size + 1 + 1, 0, none⟩ = some (cur w' ⟨w.heap.size + 1 + 1, 0, none⟩) ∧ w'.cell? ⟨w.heap.size + 1 + 1, 1, none⟩ = some (cur w' ⟨w.heap.size + 1 + 1, 1, none⟩)) from fun w' h => ⟨h.cell c0 (by omega), h.cell c1 (by omega), h.cell k0 (by omega), h.cell k1 (by omega), h.cell k2 (by omega), h.cell k3 (by omega), h.froz fr0 lR, h.froz fr1 lR, h.cur r0, h.cur r1⟩)
  go_region_held3 (fun w' => w'.cell? ⟨w.heap.size, 0, none⟩ = some (.int .u32 l) ∧ w'.cell? ⟨w.heap.size, 1, none⟩ = some (.int .u32 r) ∧ w'.cell? ⟨w.heap.size + 1, 0, none⟩ = some (.int .u32 ka) ∧ w'.cell? ⟨w.heap.size + 1, 1, none⟩ = some (.int .u32 kb) ∧ w'.cell? ⟨w.heap.size + 1, 2, none⟩ = some (.int .u32 kc) ∧ w'.cell? ⟨w.heap.size + 1, 3, none⟩ = some (.int .u32 kd) ∧ w'.frozen? ⟨w.heap.size + 1 + 1, 0, none⟩ = false ∧ w'.frozen? ⟨w.heap.size + 1 + 1, 1, none⟩ = false ∧ w'.cell? ⟨w.heap.size + 1 + 1, 0, none⟩ = some (cur w' ⟨w.heap.size + 1 + 1, 0, none⟩) ∧ w'.cell? ⟨w.heap.size + 1 + 1, 1, none⟩ = some (cur w' ⟨w.heap.size + 1 + 1, 1, none⟩)) (first | exact HS.out _ (Held.start _ _) | exact HS.out _ ((Held.start _ _).below hb2) | exact HS.out _ ((((Held.start _ _).below hb2).set _ _).set _ _)) (first | (go_at_call 48; refine (MX.out _).mono ?_; rintro e w2 ⟨rfl, hb2⟩))
  have HB := Lib.hid hb2
  have hq := heap_set (.int .u32 (bits .xor .u32 l m)) (i := 1) (heap_set (.int .u32 r) (i := 0) (heap_below hb2 F.out.2.2.1))
  have HBB : Hid (Below w.heap.size w w2) := Lib.hid (F.out.2.2.2.1.drew.trans (hb2.mono (show w.heap.size ≤ W.heap.size by omega)))
  have q0 := at_whole hq 0 rfl
  have q1 := at_whole hq 1 rfl
  simp only [List.setIfInBounds_toArray, List.set_cons_zero, List.set_cons_succ, List.getElem_toArray, List.getElem_cons_zero, List.getElem_cons_succ] at q0 q1
  clear hb2 hq
  go_wp2
  refine bodyPost_ret (v := .agg #[.int .u32 r, .int .u32 (bits .xor .u32 l m)]) (by simp [results, Try.results44, go_sem, q0, q1]) rfl ⟨rfl, ?_⟩
  exact (HBB.out.setCell (by show w.heap.size ≤ w.heap.size + 1 + 1; omega) _).setCell (by show w.heap.size ≤ w.heap.size + 1 + 1; omega) _
set_option maxRecDepth 100000 in
set_option maxHeartbeats 4000000 in
theorem swap_any (l r : Int) (w : World) :
    Calls Try.prog 45 #[stv l r] w fun e w' => e = .returned (stv r l) ∧ Below w.heap.size w w' := by
  unfold stv
  go_enter Try.func45, Try.ntmps45
  go_wp2
  refine bodyPost_ret (v := .agg #[.int .u32 r, .int .u32 l]) (by simp [results, Try.results45, go_sem]) rfl ⟨rfl, ?_⟩
  exact ((Below.refl _ _).alloc (Nat.le_refl _) _).alloc (by simp) _
theorem beS_size (k : Nat) (N : Int) : (strOfNums (beB k N)).size = k := by
  unfold strOfNums beB
  simp [ByteArray.size]
def txt (l r : Int) : ByteArray := strOfNums (beB 4 l) ++ strOfNums (beB 4 r)
set_option maxRecDepth 100000 in
set_option maxHeartbeats 4000000 in
theorem txt_size (l r : Int) : (txt l r).size = 8 := by
  unfold txt
  rw [ByteArray.size_append, beS_size, beS_size]
set_option maxRecDepth 100000 in
set_option maxHeartbeats 4000000 in
theorem text_any (l r : Int) (w : World) (hl : Wd l) (hr : Wd r) :
    Calls Try.prog 46 #[stv l r] w fun e w' => e = .returned (.string (txt l r)) ∧ Below w.heap.size w w' := by
  have U1 := Lib.hid (fun w => uint_4 l w hl.1 hl.2)
  have U2 := Lib.hid (fun w => uint_4 r w hr.1 hr.2)
  obtain ⟨l0, l1⟩ := hl
  obtain ⟨r0, r1⟩ := hr
  have hA : (strOfNums (beB 4 l)).size ≤ 4 := by rw [beS_size]; exact Nat.le_refl _
  have hB : (strOfNums (beB 4 r)).size ≤ 4 := by rw [beS_size]; exact Nat.le_refl _
  unfold stv txt
  generalize strOfNums (beB 4 l) = A at *
  generalize strOfNums (beB 4 r) = B at *
  go_enter Try.func46, Try.ntmps46
  go_wp2_with fail
  refine (U1.out _).mono ?_
  rintro e w2 ⟨rfl, hb2⟩
  have c1 : w2.cell? ⟨w.heap.size, 1, none⟩ = some (.int .u32 r) := (hb2.cell (p := ⟨w.heap.size, 1, none⟩) (by simp)).trans (at_whole (heap_alloc_new w _) 1 rfl)
  have HB : Hid (Below w.heap.size w w2) := Lib.hid (((Below.refl _ w).alloc (Nat.le_refl _) _).trans (hb2.mono (by simp)))
  clear hb2
  go_wp2_with fail
  refine (U2.out _).mono ?_
  rintro e w3 ⟨rfl, hb3⟩
  have HB3 := Lib.hid (btrans HB.out hb3)
  clear hb3
  go_wp2
  go_ret
  exact ⟨rfl, HB3.out⟩
end Go.Proofs.Ytieiplalnekmkaa
