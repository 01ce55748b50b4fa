/- Law 13: bytes as numbers. -/
import Derived.Test.YtafkndhnbnpahaaGreatA
namespace Go.Proofs.YtafkndhnbnpahaaGreat
open Go.RowKit
def bytesOf (s : ByteArray) : List Int := s.data.toList.map fun b => (b.toNat : Int)
def beN : List Int → Int := List.foldl (fun n b => n * 256 + b) 0
theorem beN_append (l m : List Int) : beN (l ++ m) = m.foldl (fun n b => n * 256 + b) (beN l) := by unfold beN; rw [List.foldl_append]
theorem beN_snoc (l : List Int) (x : Int) : beN (l ++ [x]) = beN l * 256 + x := by rw [beN_append]; rfl
theorem beN_from : ∀ (l : List Int) (v : Int), (∀ x ∈ l, 0 ≤ x ∧ x ≤ 255) → 0 ≤ v → v * 256 ^ l.length ≤ l.foldl (fun n b => n * 256 + b) v ∧ l.foldl (fun n b => n * 256 + b) v < (v + 1) * 256 ^ l.length := by
  intro l
  induction l with
  | nil => intro v _ hv; simp; omega
  | cons x l ih =>
    intro v h hv
    have hx := h x (by simp)
    have h2 := ih (v * 256 + x) (fun y hy => h y (by simp [hy])) (by omega)
    simp only [List.foldl_cons, List.length_cons]
    have hp : (0 : Int) < 256 ^ l.length := Int.pow_pos (by decide)
    obtain ⟨P, hP⟩ : ∃ P : Int, 256 ^ l.length = P := ⟨_, rfl⟩
    rw [Int.pow_succ, hP]
    rw [hP] at h2 hp
    clear hP
    have e1 : v * (P * 256) = v * 256 * P := by rw [Int.mul_comm P 256, ← Int.mul_assoc]
    have e2 : (v + 1) * (P * 256) = v * 256 * P + 256 * P := by rw [Int.mul_comm P 256, ← Int.mul_assoc, Int.add_mul, Int.add_mul]; simp
    have e3 : (v * 256 + x) * P = v * 256 * P + x * P := Int.add_mul ..
    have e4 : (v * 256 + x + 1) * P = v * 256 * P + x * P + P := by rw [Int.add_mul, Int.add_mul]; simp
    have e5 : 0 ≤ x * P := Int.mul_nonneg hx.1 (by omega)
    have e6 : x * P ≤ 255 * P := Int.mul_le_mul_of_nonneg_right hx.2 (by omega)
    rw [e1, e2]
    rw [e3, e4] at h2
    omega
theorem beN_bound (l : List Int) (h : ∀ x ∈ l, 0 ≤ x ∧ x ≤ 255) : 0 ≤ beN l ∧ beN l < 256 ^ l.length := by
  have := beN_from l 0 h (by decide)
  simp at this
  unfold beN
  exact this
theorem p256 {j : Nat} (h : j ≤ 7) : (256 : Int) ^ j ≤ 72057594037927936 := by
  have : j = 0 ∨ j = 1 ∨ j = 2 ∨ j = 3 ∨ j = 4 ∨ j = 5 ∨ j = 6 ∨ j = 7 := by omega
  rcases this with rfl | rfl | rfl | rfl | rfl | rfl | rfl | rfl <;> decide
theorem bytesOf_length (s : ByteArray) : (bytesOf s).length = s.size := by
  unfold bytesOf; rw [List.length_map, Array.length_toList]; rfl
theorem bytesOf_range (s : ByteArray) : ∀ x ∈ bytesOf s, 0 ≤ x ∧ x ≤ 255 := by
  intro x hx
  unfold bytesOf at hx
  obtain ⟨b, _, rfl⟩ := List.mem_map.1 hx
  have := b.toNat_lt
  omega
theorem bytesOf_at (s : ByteArray) (k : Nat) (h : k < s.size) : (bytesOf s)[k]? = some ((s[k]'h).toNat : Int) := by
  have h2 : k < s.data.toList.length := by simpa using h
  unfold bytesOf
  rw [List.getElem?_map, List.getElem?_eq_getElem h2]
  rfl
theorem u64_wrap (x : Int) (h0 : 0 ≤ x) (h1 : x < 18446744073709551616) : IntKind.u64.wrap x = x := by
  simp [IntKind.wrap, IntKind.bits, IntKind.signed]; omega
theorem or_byte (v b : Int) (h0 : 0 ≤ v) (h1 : v < 72057594037927936) (h2 : 0 ≤ b) (h3 : b ≤ 255) : bits .or .u64 (IntKind.u64.wrap (v * 256)) (IntKind.u64.wrap b) = v * 256 + b := by
  rw [u64_wrap _ (by omega) (by omega), u64_wrap _ (by omega) (by omega)]
  obtain ⟨m, rfl⟩ := Int.eq_ofNat_of_zero_le h0
  obtain ⟨n, rfl⟩ := Int.eq_ofNat_of_zero_le h2
  have e : ((m : Int) * 256) = ((m * 256 : Nat) : Int) := by simp
  rw [e, u64_or_nat _ _ (by omega) (by omega)]
  have : m * 256 ||| n = m * 256 + n := by
    have := Nat.shiftLeft_add_eq_or_of_lt (show n < 2 ^ 8 by omega) m
    rw [Nat.shiftLeft_eq] at this
    exact this.symm
  rw [this]; simp
end Go.Proofs.YtafkndhnbnpahaaGreat
