/- Law 25: varint's Uint, ReadUint; RotateLeft32. -/
import Derived.Test.YtieiplalnekmkaaG
import Derived.Test.YtieiplalnekmkaaA
import Derived.Deep.QuietTactic
import Derived.BigQuiet
namespace Go.Proofs.Ytieiplalnekmkaa
open Go.RowKit
set_option maxHeartbeats 1000000 in
theorem uint_1 (n : Int) (w : World) (h0 : 0 ≤ n) (h1 : n ≤ 255) : Calls Try.prog 33 #[.int .i64 n, .int .i64 1] w fun e w' => e = .returned (.tuple #[.string (strOfNums (beB 1 n)), .int .i64 0]) ∧ Below w.heap.size w w' := by
  have hn0 : decide (n < 0) = false := by simpa using h0
  have hsh : (n / 256 != 0) = false := by simp; omega
  have BE := Lib.hid (be_any n 1)
  have CO := Lib.hid (fun w => be_then n 1 w (by decide) (by omega) (by omega))
  go_enter Try.func33, Try.ntmps33
  go_wp2_with (first | (go_at_call 36; refine (BE.out _).mono ?_; rintro e w2 ⟨rfl, rfl⟩) | (go_at_call 35; refine (CO.out _).mono ?_; rintro e w3 ⟨rfl, hb3⟩))
  go_ret2
  exact ⟨rfl, hb3⟩
set_option maxHeartbeats 1000000 in
theorem uint_4 (n : Int) (w : World) (h0 : 0 ≤ n) (h1 : n ≤ 4294967295) : Calls Try.prog 33 #[.int .i64 n, .int .i64 4] w fun e w' => e = .returned (.tuple #[.string (strOfNums (beB 4 n)), .int .i64 0]) ∧ Below w.heap.size w w' := by
  have hn0 : decide (n < 0) = false := by simpa using h0
  have hsh : (n / 4294967296 != 0) = false := by simp; omega
  have BE := Lib.hid (be_any n 4)
  have CO := Lib.hid (fun w => be_then n 4 w (by decide) (by omega) (by omega))
  go_enter Try.func33, Try.ntmps33
  go_wp2_with (first | (go_at_call 36; refine (BE.out _).mono ?_; rintro e w2 ⟨rfl, rfl⟩) | (go_at_call 35; refine (CO.out _).mono ?_; rintro e w3 ⟨rfl, hb3⟩))
  go_ret2
  exact ⟨rfl, hb3⟩
set_option maxHeartbeats 1000000 in
theorem uint_8 (n : Int) (w : World) (h0 : 0 ≤ n) (h1 : n ≤ 9223372036854775807) : Calls Try.prog 33 #[.int .i64 n, .int .i64 8] w fun e w' => e = .returned (.tuple #[.string (strOfNums (beB 8 n)), .int .i64 0]) ∧ Below w.heap.size w w' := by
  have BE := Lib.hid (be_any n 8)
  have CO := Lib.hid (fun w => be_then n 8 w (by decide) (by omega) (by omega))
  go_enter Try.func33, Try.ntmps33
  go_wp2_with (first | (go_at_call 36; refine (BE.out _).mono ?_; rintro e w2 ⟨rfl, rfl⟩) | (go_at_call 35; refine (CO.out _).mono ?_; rintro e w3 ⟨rfl, hb3⟩))
  go_ret2
  exact ⟨rfl, hb3⟩
/-- four bytes of s as a word -/
def wd (s : ByteArray) (a : Nat) : Int := beN (((bytesOf s).drop a).take 4)
theorem wd_range (s : ByteArray) (a : Nat) : 0 ≤ wd s a ∧ wd s a ≤ 4294967295 := by
  have h := beN_bound (((bytesOf s).drop a).take 4) (fun x hx => bytesOf_range s x (List.mem_of_mem_drop (List.mem_of_mem_take hx)))
  have hl : (((bytesOf s).drop a).take 4).length ≤ 4 := List.length_take_le _ _
  have hp : (256 : Int) ^ (((bytesOf s).drop a).take 4).length ≤ 256 ^ 4 := by
    obtain ⟨k, hk⟩ : ∃ k, (((bytesOf s).drop a).take 4).length = k := ⟨_, rfl⟩
    rw [hk] at hl ⊢
    have : k = 0 ∨ k = 1 ∨ k = 2 ∨ k = 3 ∨ k = 4 := by omega
    rcases this with rfl | rfl | rfl | rfl | rfl <;> decide
  unfold wd
  exact ⟨h.1, by have := h.2; omega⟩
set_option maxHeartbeats 1000000 in
theorem ru_any (s : ByteArray) (a : Nat) (w : World) (h : a + 4 ≤ s.size) (hs : s.size ≤ maxLen) :
    Calls Try.prog 49 #[.string s, .int .i64 a, .int .i64 4] w fun e w' => e = .returned (.tuple #[.int .i64 (wd s a), .int .i64 0]) ∧ w = w' := by
  have RD := Lib.hid (read_any s a 4 w h hs (by decide))
  have hr := wd_range s a
  unfold maxLen at hs
  unfold wd at *
  generalize beN (((bytesOf s).drop a).take 4) = v at *
  have h1 : (a : Int) ≤ (s.size : Int) := by omega
  have h2 : (4 : Int) ≤ (s.size : Int) - (a : Int) := by omega
  go_enter Try.func49, Try.ntmps49
  go_wp2_with (go_at_call 51; refine RD.out.mono ?_; rintro e w' ⟨rfl, rfl⟩)
  go_ret2
  exact ⟨rfl, rfl⟩
def rot7 (x : Int) : Int := bits .or .u32 (x * 128 % 4294967296) (x / 33554432)
def rot18 (x : Int) : Int := bits .or .u32 (x * 262144 % 4294967296) (x / 16384)
set_option maxHeartbeats 1000000 in
theorem rot_7 (x : Int) (w : World) (_h0 : 0 ≤ x) (_h1 : x ≤ 4294967295) : Calls Try.prog 50 #[.int .u32 x, .int .i64 7] w fun e w' => e = .returned (.int .u32 (rot7 x)) ∧ w = w' := by
  have k7 : bits .and .u64 7 31 = 7 := by kernel_rfl
  go_enter Try.func50, Try.ntmps50
  go_wp2
  go_ret
  exact ⟨rfl, rfl⟩
set_option maxHeartbeats 1000000 in
theorem rot_18 (x : Int) (w : World) (_h0 : 0 ≤ x) (_h1 : x ≤ 4294967295) : Calls Try.prog 50 #[.int .u32 x, .int .i64 18] w fun e w' => e = .returned (.int .u32 (rot18 x)) ∧ w = w' := by
  have k7 : bits .and .u64 18 31 = 18 := by kernel_rfl
  go_enter Try.func50, Try.ntmps50
  go_wp2
  go_ret
  exact ⟨rfl, rfl⟩
end Go.Proofs.Ytieiplalnekmkaa
