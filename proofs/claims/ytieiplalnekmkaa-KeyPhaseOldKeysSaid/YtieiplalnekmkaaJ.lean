/- Law 25: the cipher's mix. -/
import Derived.Test.YtieiplalnekmkaaI
import Derived.Laws.Rows
import Derived.Laws.Closers25b
namespace Go.Proofs.Ytieiplalnekmkaa
open Go.RowKit
theorem belowN {n : Nat} {w w1 : World} (h : Below n w w1) (k : Nat) : Below n w (w1.drewN k) := ⟨h.os, h.tape, h.output, h.size, h.block⟩
/-- a key's words, a state's words -/
structure Ks where (a b c d : Int)
def Ks.at (k : Ks) : Nat → Int | 0 => k.a | 1 => k.b | 2 => k.c | _ => k.d
def Wd (x : Int) : Prop := 0 ≤ x ∧ x ≤ 4294967295
def Ks.ok (k : Ks) : Prop := Wd k.a ∧ Wd k.b ∧ Wd k.c ∧ Wd k.d
def Ks.val (k : Ks) : Value := .agg #[.int .u32 k.a, .int .u32 k.b, .int .u32 k.c, .int .u32 k.d]
def rot (x k : Int) : Int := if k = 7 then rot7 x else rot18 x
theorem rot_any (x k : Int) (w : World) (h : 0 ≤ x ∧ x ≤ 4294967295) (hk : k = 7 ∨ k = 18) : Calls Try.prog 50 #[.int .u32 x, .int .i64 k] w fun e w' => e = .returned (.int .u32 (rot x k)) ∧ w' = w := by
  rcases hk with rfl | rfl
  · exact (rot_7 x w h.1 h.2).mono fun e w' h => ⟨h.1, h.2.symm⟩
  · exact (rot_18 x w h.1 h.2).mono fun e w' h => ⟨h.1, h.2.symm⟩
def mixC (i : Nat) : Int := 2654435769 * ((i : Int) + 1) % 4294967296
def mixF (k : Ks) (r : Int) (i : Nat) : Int := bits .xor .u32 (bits .xor .u32 (rot ((r + k.at (i % 4) + mixC i) % 4294967296) 7) (rot r 18)) (k.at ((i + 1) % 4))
theorem xor_range (a b : Int) : Wd (bits .xor .u32 a b) := by
  have h := bits_within .xor .u32 a b
  exact ⟨h.1, h.2⟩
theorem mixF_range (k : Ks) (r : Int) (i : Nat) : Wd (mixF k r i) := xor_range _ _
set_option maxRecDepth 100000 in
set_option maxHeartbeats 2000000 in
theorem mix_0 (k : Ks) (r : Int) (w : World) (hk : k.ok) (hr : Wd r) :
    Calls Try.prog 48 #[k.val, .int .u32 r, .int .i64 0] w fun e w' => e = .returned (.int .u32 (mixF k r 0)) ∧ Below w.heap.size w w' := by
  obtain ⟨ka, kb, kc, kd⟩ := k
  obtain ⟨⟨a0, a1⟩, ⟨b0, b1⟩, ⟨c0, c1⟩, ⟨d0, d1⟩⟩ := hk
  obtain ⟨h0, h1⟩ := hr
  simp only at a0 a1 b0 b1 c0 c1 d0 d1
  unfold Ks.val
  go_enter Try.func48, Try.ntmps48
  go_wp2
  go_quiet ((go_at_call 50; exact Calls.quiet_of_same (rot_any _ _ _ (by omega) (by decide))))
  go_wp2
  go_ret
  exact ⟨rfl, belowN ((Below.refl _ _).alloc (Nat.le_refl _) _) _⟩
set_option maxRecDepth 100000 in
set_option maxHeartbeats 2000000 in
theorem mix_1 (k : Ks) (r : Int) (w : World) (hk : k.ok) (hr : Wd r) :
    Calls Try.prog 48 #[k.val, .int .u32 r, .int .i64 1] w fun e w' => e = .returned (.int .u32 (mixF k r 1)) ∧ Below w.heap.size w w' := by
  obtain ⟨ka, kb, kc, kd⟩ := k
  obtain ⟨⟨a0, a1⟩, ⟨b0, b1⟩, ⟨c0, c1⟩, ⟨d0, d1⟩⟩ := hk
  obtain ⟨h0, h1⟩ := hr
  simp only at a0 a1 b0 b1 c0 c1 d0 d1
  unfold Ks.val
  go_enter Try.func48, Try.ntmps48
  go_wp2
  go_quiet ((go_at_call 50; exact Calls.quiet_of_same (rot_any _ _ _ (by omega) (by decide))))
  go_wp2
  go_ret
  exact ⟨rfl, belowN ((Below.refl _ _).alloc (Nat.le_refl _) _) _⟩
set_option maxRecDepth 100000 in
set_option maxHeartbeats 2000000 in
theorem mix_2 (k : Ks) (r : Int) (w : World) (hk : k.ok) (hr : Wd r) :
    Calls Try.prog 48 #[k.val, .int .u32 r, .int .i64 2] w fun e w' => e = .returned (.int .u32 (mixF k r 2)) ∧ Below w.heap.size w w' := by
  obtain ⟨ka, kb, kc, kd⟩ := k
  obtain ⟨⟨a0, a1⟩, ⟨b0, b1⟩, ⟨c0, c1⟩, ⟨d0, d1⟩⟩ := hk
  obtain ⟨h0, h1⟩ := hr
  simp only at a0 a1 b0 b1 c0 c1 d0 d1
  unfold Ks.val
  go_enter Try.func48, Try.ntmps48
  go_wp2
  go_quiet ((go_at_call 50; exact Calls.quiet_of_same (rot_any _ _ _ (by omega) (by decide))))
  go_wp2
  go_ret
  exact ⟨rfl, belowN ((Below.refl _ _).alloc (Nat.le_refl _) _) _⟩
set_option maxRecDepth 100000 in
set_option maxHeartbeats 2000000 in
theorem mix_3 (k : Ks) (r : Int) (w : World) (hk : k.ok) (hr : Wd r) :
    Calls Try.prog 48 #[k.val, .int .u32 r, .int .i64 3] w fun e w' => e = .returned (.int .u32 (mixF k r 3)) ∧ Below w.heap.size w w' := by
  obtain ⟨ka, kb, kc, kd⟩ := k
  obtain ⟨⟨a0, a1⟩, ⟨b0, b1⟩, ⟨c0, c1⟩, ⟨d0, d1⟩⟩ := hk
  obtain ⟨h0, h1⟩ := hr
  simp only at a0 a1 b0 b1 c0 c1 d0 d1
  unfold Ks.val
  go_enter Try.func48, Try.ntmps48
  go_wp2
  go_quiet ((go_at_call 50; exact Calls.quiet_of_same (rot_any _ _ _ (by omega) (by decide))))
  go_wp2
  go_ret
  exact ⟨rfl, belowN ((Below.refl _ _).alloc (Nat.le_refl _) _) _⟩
set_option maxRecDepth 100000 in
set_option maxHeartbeats 2000000 in
theorem mix_4 (k : Ks) (r : Int) (w : World) (hk : k.ok) (hr : Wd r) :
    Calls Try.prog 48 #[k.val, .int .u32 r, .int .i64 4] w fun e w' => e = .returned (.int .u32 (mixF k r 4)) ∧ Below w.heap.size w w' := by
  obtain ⟨ka, kb, kc, kd⟩ := k
  obtain ⟨⟨a0, a1⟩, ⟨b0, b1⟩, ⟨c0, c1⟩, ⟨d0, d1⟩⟩ := hk
  obtain ⟨h0, h1⟩ := hr
  simp only at a0 a1 b0 b1 c0 c1 d0 d1
  unfold Ks.val
  go_enter Try.func48, Try.ntmps48
  go_wp2
  go_quiet ((go_at_call 50; exact Calls.quiet_of_same (rot_any _ _ _ (by omega) (by decide))))
  go_wp2
  go_ret
  exact ⟨rfl, belowN ((Below.refl _ _).alloc (Nat.le_refl _) _) _⟩
set_option maxRecDepth 100000 in
set_option maxHeartbeats 2000000 in
theorem mix_5 (k : Ks) (r : Int) (w : World) (hk : k.ok) (hr : Wd r) :
    Calls Try.prog 48 #[k.val, .int .u32 r, .int .i64 5] w fun e w' => e = .returned (.int .u32 (mixF k r 5)) ∧ Below w.heap.size w w' := by
  obtain ⟨ka, kb, kc, kd⟩ := k
  obtain ⟨⟨a0, a1⟩, ⟨b0, b1⟩, ⟨c0, c1⟩, ⟨d0, d1⟩⟩ := hk
  obtain ⟨h0, h1⟩ := hr
  simp only at a0 a1 b0 b1 c0 c1 d0 d1
  unfold Ks.val
  go_enter Try.func48, Try.ntmps48
  go_wp2
  go_quiet ((go_at_call 50; exact Calls.quiet_of_same (rot_any _ _ _ (by omega) (by decide))))
  go_wp2
  go_ret
  exact ⟨rfl, belowN ((Below.refl _ _).alloc (Nat.le_refl _) _) _⟩
set_option maxRecDepth 100000 in
set_option maxHeartbeats 2000000 in
theorem mix_6 (k : Ks) (r : Int) (w : World) (hk : k.ok) (hr : Wd r) :
    Calls Try.prog 48 #[k.val, .int .u32 r, .int .i64 6] w fun e w' => e = .returned (.int .u32 (mixF k r 6)) ∧ Below w.heap.size w w' := by
  obtain ⟨ka, kb, kc, kd⟩ := k
  obtain ⟨⟨a0, a1⟩, ⟨b0, b1⟩, ⟨c0, c1⟩, ⟨d0, d1⟩⟩ := hk
  obtain ⟨h0, h1⟩ := hr
  simp only at a0 a1 b0 b1 c0 c1 d0 d1
  unfold Ks.val
  go_enter Try.func48, Try.ntmps48
  go_wp2
  go_quiet ((go_at_call 50; exact Calls.quiet_of_same (rot_any _ _ _ (by omega) (by decide))))
  go_wp2
  go_ret
  exact ⟨rfl, belowN ((Below.refl _ _).alloc (Nat.le_refl _) _) _⟩
set_option maxRecDepth 100000 in
set_option maxHeartbeats 2000000 in
theorem mix_7 (k : Ks) (r : Int) (w : World) (hk : k.ok) (hr : Wd r) :
    Calls Try.prog 48 #[k.val, .int .u32 r, .int .i64 7] w fun e w' => e = .returned (.int .u32 (mixF k r 7)) ∧ Below w.heap.size w w' := by
  obtain ⟨ka, kb, kc, kd⟩ := k
  obtain ⟨⟨a0, a1⟩, ⟨b0, b1⟩, ⟨c0, c1⟩, ⟨d0, d1⟩⟩ := hk
  obtain ⟨h0, h1⟩ := hr
  simp only at a0 a1 b0 b1 c0 c1 d0 d1
  unfold Ks.val
  go_enter Try.func48, Try.ntmps48
  go_wp2
  go_quiet ((go_at_call 50; exact Calls.quiet_of_same (rot_any _ _ _ (by omega) (by decide))))
  go_wp2
  go_ret
  exact ⟨rfl, belowN ((Below.refl _ _).alloc (Nat.le_refl _) _) _⟩
theorem mix_any (k : Ks) (r : Int) (i : Nat) (w : World) (hk : k.ok) (hr : Wd r) (hi : i < 8) :
    Calls Try.prog 48 #[k.val, .int .u32 r, .int .i64 i] w fun e w' => e = .returned (.int .u32 (mixF k r i)) ∧ Below w.heap.size w w' := by
  have : i = 0 ∨ i = 1 ∨ i = 2 ∨ i = 3 ∨ i = 4 ∨ i = 5 ∨ i = 6 ∨ i = 7 := by omega
  rcases this with rfl | rfl | rfl | rfl | rfl | rfl | rfl | rfl
  · exact mix_0 k r w hk hr
  · exact mix_1 k r w hk hr
  · exact mix_2 k r w hk hr
  · exact mix_3 k r w hk hr
  · exact mix_4 k r w hk hr
  · exact mix_5 k r w hk hr
  · exact mix_6 k r w hk hr
  · exact mix_7 k r w hk hr
end Go.Proofs.Ytieiplalnekmkaa
