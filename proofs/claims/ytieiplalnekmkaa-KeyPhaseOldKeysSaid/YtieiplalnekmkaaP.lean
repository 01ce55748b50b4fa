/- Law 25: mac's Derive, keys' derive and Next. -/
import Derived.Test.YtieiplalnekmkaaO
namespace Go.Proofs.Ytieiplalnekmkaa
open Go.RowKit
def derM (l : ByteArray) : ByteArray := strOfNums (beB 1 l.size) ++ l ++ ⟨#[]⟩
def derF (s l : ByteArray) : ByteArray := tagF s (⟨#[1]⟩ ++ derM l) ++ tagF s (⟨#[2]⟩ ++ derM l)
theorem derF_size (s l : ByteArray) : (derF s l).size = 16 := by unfold derF; rw [ByteArray.size_append, tagF_size, tagF_size]
theorem derM_size (l : ByteArray) : (derM l).size = 1 + l.size := by unfold derM; rw [ByteArray.size_append, ByteArray.size_append, beS_size]; rfl
set_option maxRecDepth 100000 in
set_option maxHeartbeats 4000000 in
theorem der_any (s l : ByteArray) (w : World) (hs : s.size = 16) (hl : l.size ≤ 32) :
    Calls Try.prog 32 #[.string s, .string l, .string ⟨#[]⟩] w fun e w' => e = .returned (.tuple #[.string (derF s l), .int .i64 0]) ∧ Below w.heap.size w w' := by
  have U1 := Lib.hid (fun w => uint_1 l.size w (by omega) (by omega))
  have hM := derM_size l
  have T1 := Lib.hid (fun w => tag_any s (⟨#[1]⟩ ++ derM l) w hs (by rw [ByteArray.size_append, hM]; show 1 + _ ≤ _; omega))
  have T2 := Lib.hid (fun w => tag_any s (⟨#[2]⟩ ++ derM l) w hs (by rw [ByteArray.size_append, hM]; show 1 + _ ≤ _; omega))
  have hA : (strOfNums (beB 1 l.size)).size ≤ 1 := by rw [beS_size]; exact Nat.le_refl _
  have hk1 : ((s.size : Int) != 16) = false := by simp [hs]
  have hk2 : decide ((32 : Int) < (l.size : Int)) = false := by simp; omega
  have z1 := tagF_size s (⟨#[1]⟩ ++ derM l)
  have z2 := tagF_size s (⟨#[2]⟩ ++ derM l)
  have Z1 : (tagF s (⟨#[1]⟩ ++ derM l)).size ≤ 8 := by omega
  have Z2 : (tagF s (⟨#[2]⟩ ++ derM l)).size ≤ 8 := by omega
  have hl2 : (l.size : Int) ≤ 32 := by omega
  unfold derF
  generalize tagF s (⟨#[1]⟩ ++ derM l) = A at *
  generalize tagF s (⟨#[2]⟩ ++ derM l) = B at *
  unfold derM at *
  clear hM z1 z2 hs
  go_enter Try.func32, Try.ntmps32
  go_wp2_with fail
  refine (U1.out _).mono ?_
  rintro e w1 ⟨rfl, hb1⟩
  have HB1 := Lib.hid hb1
  clear hb1
  generalize strOfNums (beB 1 l.size) = N at *
  go_wp2_with fail
  refine (T1.out _).mono ?_
  rintro e w2 ⟨rfl, hb2⟩
  have HB2 := Lib.hid (btrans HB1.out hb2)
  clear hb2
  go_wp2_with fail
  refine (T2.out _).mono ?_
  rintro e w3 ⟨rfl, hb3⟩
  have HB3 := Lib.hid (btrans HB2.out hb3)
  clear hb3
  go_wp2
  go_ret2
  exact ⟨rfl, HB3.out⟩
/-- keys' derive with one label and no context -/
def dr (s l : ByteArray) : ByteArray := derF s (⟨#[]⟩ ++ l)
theorem dr_size (s l : ByteArray) : (dr s l).size = 16 := derF_size _ _
set_option maxRecDepth 100000 in
set_option maxHeartbeats 4000000 in
theorem dv_any (s l : ByteArray) (g : Nat) (w : World) (hs : s.size = 16) (hl : l.size ≤ 32) (hg : w.cell? ⟨g, 0, none⟩ = some (.string l)) :
    Calls Try.prog 31 #[.string s, .string ⟨#[]⟩, .slice (some ⟨g, 0, none⟩) 1 1] w fun e w' => e = .returned (.tuple #[.string (dr s l), .int .i64 0]) ∧ Below w.heap.size w w' := by
  have D := Lib.hid (fun w => der_any s (⟨#[]⟩ ++ l) w hs (by rw [ByteArray.size_append]; show 0 + _ ≤ _; omega))
  have hk1 : ((s.size : Int) != 16) = false := by simp [hs]
  unfold dr
  generalize derF s (⟨#[]⟩ ++ l) = A at *
  clear hs
  go_enter Try.func31, Try.ntmps31
  go_wp2
  refine wp_loop_rounds 2 ?_
  rw [rounds_succ]
  go_wp2
  rw [rounds_succ]
  go_wp2_with fail
  refine (D.out _).mono ?_
  rintro e w1 ⟨rfl, hb1⟩
  have HB1 := Lib.hid hb1
  clear hb1
  go_wp2
  go_ret2
  exact ⟨rfl, HB1.out⟩
set_option maxHeartbeats 1000000 in
theorem dv_bad (s : ByteArray) (v : Value) (w : World) (hs : s.size ≠ 16) :
    Calls Try.prog 31 #[.string s, .string ⟨#[]⟩, v] w fun e w' => e = .returned (.tuple #[.string ⟨#[]⟩, .int .i64 50]) ∧ w = w' := by
  have hk1 : ((s.size : Int) != 16) = true := by simp; omega
  go_enter Try.func31, Try.ntmps31
  go_wp2
  go_ret2
  exact ⟨rfl, rfl⟩
set_option maxHeartbeats 1000000 in
theorem next_any (s : ByteArray) (w : World) (hs : s.size = 16) :
    Calls Try.prog 20 #[.string s] w fun e w' => e = .returned (.tuple #[.string (dr s ⟨#[110, 101, 120, 116]⟩), .int .i64 0]) ∧ Below w.heap.size w w' := by
  have D := Lib.hid (fun g w => dv_any s ⟨#[110, 101, 120, 116]⟩ g w hs (by decide))
  have BW := Lib.hid ((Below.refl w.heap.size w).alloc (Nat.le_refl _) (.cells #[.string ⟨#[110, 101, 120, 116]⟩] 9))
  have C0 := Lib.hid (at_whole (heap_alloc_new w (.cells #[.string ⟨#[110, 101, 120, 116]⟩] 9)) 0 rfl)
  clear hs
  go_enter Try.func20, Try.ntmps20
  go_wp2_with fail
  refine (D.out w.heap.size _ C0.out).mono ?_
  rintro e w1 ⟨rfl, hb1⟩
  have HB1 := Lib.hid (btrans BW.out hb1)
  clear hb1
  go_wp2
  go_ret2
  exact ⟨rfl, HB1.out⟩
end Go.Proofs.Ytieiplalnekmkaa
