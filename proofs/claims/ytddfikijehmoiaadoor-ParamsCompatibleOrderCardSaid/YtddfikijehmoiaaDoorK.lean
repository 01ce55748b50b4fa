/- Law 20: the decoder's next. -/
import Derived.Test.YtddfikijehmoiaaDoorC
import Derived.Deep.QuietTactic
import Derived.BigQuiet
import Derived.Deep.RegionHeld3
namespace Go.Proofs.YtddfikijehmoiaaDoor
open Go.RowKit
theorem belowN {n : Nat} {a b : World} (h : Below n a b) (k : Nat) : Below n a (b.drewN k) := ⟨h.os, h.tape, h.output, h.size, h.block⟩
set_option maxRecDepth 100000 in
set_option maxHeartbeats 2000000 in
theorem next_no (s : ByteArray) (a B : Nat) (ad : Addr) (w : World) (hs : s.size ≤ maxLen) (h0 : w.cell? ⟨0, 0, none⟩ = some (.iface 98 (.pointer (some ad))))
    (hB : w.heap[B]? = some (.cells #[.string s, .int .i64 a] 62 (0, 0))) (he : (decV (bytesOf s) a).2.2 = 0 → False) :
    Calls Tryd.prog 29 #[.pointer (some ⟨B, 0, none⟩)] w fun e w' => e = .returned (.tuple #[.int .i64 0, .iface 98 (.pointer (some ad))]) ∧ Below w.heap.size w w' := by
  have h00 : 0 < w.heap.size := World.block_lt_of_cell? _ _ h0
  have c0 : w.cell? ⟨B, 0, none⟩ = some (.string s) := by rw [cell_whole hB]; rfl
  have c1 : w.cell? ⟨B, 1, none⟩ = some (.int .i64 a) := by rw [cell_whole hB]; rfl
  have hd := fun (w : World) => decode_any s a w hs
  unfold trip at hd
  generalize decV (bytesOf s) a = t at *
  obtain ⟨n, b, e⟩ := t
  have DE := Lib.hid hd
  have hne : (e != 0) = true := by simpa using he
  have hne2 : (e == 0) = false := by simpa using he
  have HC := Lib.hid (fun w' (h : Below w.heap.size w w') => (h.cell (p := ⟨0, 0, none⟩) h00).trans h0)
  have hlB := heap_lt hB
  clear hd he hB h0
  go_enter Tryd.func29, Tryd.ntmps29
  go_wp2
  go_region_held3 (fun w' => w'.cell? ⟨B, 0, none⟩ = some (.string s) ∧ w'.cell? ⟨B, 1, none⟩ = some (.int .i64 a)) (first | exact ⟨c0, c1⟩ | exact ⟨(hb2.cell (p := ⟨B, 0, none⟩) hlB).trans c0, (hb2.cell (p := ⟨B, 1, none⟩) hlB).trans c1⟩) (first
    | (go_at_call 15; refine (DE.out _).mono ?_; rintro e w2 ⟨rfl, hb2⟩))
  have HB2 : Hid (Below w.heap.size w w2) := Lib.hid (((Below.refl _ w).drew).trans hb2)
  have cg := HC.out _ HB2.out
  clear hb2
  go_wp2
  go_quiet (fail)
  go_wp2
  go_ret2
  exact ⟨rfl, belowN HB2.out _⟩
set_option maxRecDepth 100000 in
set_option maxHeartbeats 2000000 in
theorem next_yes (s : ByteArray) (a B : Nat) (w : World) (hs : s.size ≤ maxLen)
    (hB : w.heap[B]? = some (.cells #[.string s, .int .i64 a] 62 (0, 0))) (n b : Int) (he : decV (bytesOf s) a = (n, b, 0)) :
    Calls Tryd.prog 29 #[.pointer (some ⟨B, 0, none⟩)] w fun e w' => e = .returned (.tuple #[.int .i64 n, .nilIface]) ∧ Blk B #[.string s, .int .i64 b] 62 w w' := by
  have c0 : w.cell? ⟨B, 0, none⟩ = some (.string s) := by rw [cell_whole hB]; rfl
  have c1 : w.cell? ⟨B, 1, none⟩ = some (.int .i64 a) := by rw [cell_whole hB]; rfl
  have hd := fun (w : World) => decode_any s a w hs
  rw [he] at hd
  unfold trip at hd
  have DE := Lib.hid hd
  have HBK := Lib.hid (Blk.start hB)
  have hlB := heap_lt hB
  clear hd he hB
  go_enter Tryd.func29, Tryd.ntmps29
  go_wp2
  go_region_held3 (fun w' => w'.cell? ⟨B, 0, none⟩ = some (.string s) ∧ w'.cell? ⟨B, 1, none⟩ = some (.int .i64 a)) (first | exact ⟨c0, c1⟩ | exact ⟨(hb2.cell (p := ⟨B, 0, none⟩) hlB).trans c0, (hb2.cell (p := ⟨B, 1, none⟩) hlB).trans c1⟩) (first
    | (go_at_call 15; refine (DE.out _).mono ?_; rintro e w2 ⟨rfl, hb2⟩))
  have HB2 : Hid (Below w.heap.size w w2) := Lib.hid (((Below.refl _ w).drew).trans hb2)
  have f1 : w2.frozen? ⟨B, 1, none⟩ = false := frozen_whole (heap_below HB2.out HBK.out.1) 1
  clear hb2
  go_wp2
  go_ret2
  exact ⟨rfl, (HBK.out.below HB2.out).set 1 _⟩
end Go.Proofs.YtddfikijehmoiaaDoor
