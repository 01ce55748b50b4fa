import Derived.Test.YtmjekepiplibkaaX
import Derived.Test.YtmjekepiplibkaaV
namespace Go.Proofs.Ytmjekepiplibkaa
open Go.RowKit
/-! a stream is written into a new buffer and sent in order -/
theorem bytes_str (xs : List Int) (h : ∀ x ∈ xs, 0 ≤ x ∧ x ≤ 255) : bytesOf (strOfNums xs) = xs := by
  unfold bytesOf
  rw [strOfNums_data, List.map_map]
  have : ∀ x ∈ xs, ((fun b : UInt8 => (b.toNat : Int)) ∘ fun n : Int => UInt8.ofNat n.toNat) x = x := by
    intro x hx
    have := h x hx
    simp only [Function.comp, UInt8.toNat_ofNat']
    omega
  rw [List.map_congr_left this, List.map_id']
theorem streamAt_byte (j : Nat) : 0 ≤ streamAt j ∧ streamAt j ≤ 255 := by unfold streamAt; omega
theorem streamRow_byte (n k : Nat) : ∀ x ∈ streamRow n k, 0 ≤ x ∧ x ≤ 255 := by
  intro x hx
  simp only [streamRow, List.mem_map] at hx
  obtain ⟨j, _, rfl⟩ := hx
  split
  · exact streamAt_byte j
  · omega
theorem stream_bytes (n : Nat) : bytesOf (strOfNums (streamRow n n)) = streamRow n n := bytes_str _ (streamRow_byte n n)
theorem first_none {x : Int} {l : List Int} (h : ∀ k, k < l.length → gd l k ≠ x) : first x l = l.length := first_is (Nat.le_refl _) h (fun h => absurd h (Nat.lt_irrefl _))
def stT (s M : Nat) : List Int := List.replicate s 1 ++ List.replicate (M - s) 0
theorem stT_length {s M : Nat} (h : s ≤ M) : (stT s M).length = M := by simp [stT]; omega
theorem gd_stT (s M k : Nat) : gd (stT s M) k = if k < s then 1 else 0 := by
  unfold stT
  rw [gd_append]
  simp only [List.length_replicate]
  split
  · exact gd_replicate _ _ _ ‹_›
  · by_cases h : k - s < M - s
    · exact gd_replicate _ _ _ h
    · exact gd_ge (by simp; omega)
/-- N bytes of the stream, a buffer of lim, s of them sent -/
def flX (lim N s : Nat) : Wh := ⟨lim, (streamRow N N).take (min N lim), stT s (min N lim), false, 0⟩
theorem start_writeN (lim N : Nat) : (newX lim).writeN (strOfNums (streamRow N N)) = min N lim := by
  unfold Wh.writeN
  rw [strOfNums_size, streamRow_length]
  simp [newX, Wh.space, Wh.u, lead]
theorem start_eq (lim N : Nat) : (newX lim).write (strOfNums (streamRow N N)) = flX lim N 0 := by
  unfold Wh.write
  rw [start_writeN, stream_bytes]
  simp [newX, flX, stT]
section
variable {lim N s : Nat}
theorem fl_S (lim N s : Nat) : (flX lim N s).S.length = min N lim := by simp [flX, streamRow_length]
theorem fl_sent (h : s ≤ min N lim) : (flX lim N s).sent = s := by
  refine first_is (by simp only [flX, stT_length h]; exact h) (fun k hk => ?_) (fun hk => ?_)
  · simp only [flX]; rw [gd_stT, if_pos hk]; decide
  · simp only [flX]; rw [gd_stT, if_neg (Nat.lt_irrefl _)]
theorem fl_u : (flX lim N s).u = 0 := by
  refine lead_is (Nat.zero_le _) (fun k hk => absurd hk (Nat.not_lt_zero k)) (fun hk => ?_)
  simp only [flX]; rw [gd_stT]; split <;> decide
theorem fl_ok (h : s ≤ min N lim) (h1 : 1 ≤ lim) (h2 : lim ≤ 8192) : (flX lim N s).Ok := by
  have hS := fl_S lim N s
  have hl : (flX lim N s).lim = (lim : Int) := rfl
  refine ⟨by omega, by omega, by simp only [flX, stT_length h]; simp [streamRow_length], by omega, by rw [hS, fl_u]; omega, fun j hj => ?_⟩
  rw [fl_sent h] at hj
  simp only [flX]; rw [gd_stT, if_neg (by omega)]
theorem fl_first2 (_h : s ≤ min N lim) : first 2 (flX lim N s).T = (flX lim N s).T.length := by
  refine first_none (fun k hk => ?_)
  simp only [flX]; rw [gd_stT]; split <;> decide
theorem fl_next (h : s ≤ min N lim) (most credit : Int) (hm : 1 ≤ most) : (flX lim N s).nextP most credit = if s < min N lim ∧ 0 < credit then some (s, s + (min ((min N lim : Nat) - (s : Int)) (min most credit)).toNat) else none := by
  unfold Wh.nextP
  rw [if_neg (by omega), if_neg (by rw [fl_first2 h]; omega), fl_sent h, fl_S]
  by_cases hc : s < min N lim ∧ 0 < credit
  · rw [if_pos ⟨hc.1, by omega, hc.2⟩, if_pos hc]
  · rw [if_neg (fun hh => hc ⟨hh.1, hh.2.2⟩), if_neg (by simp [Wh.opn, flX]), if_neg hc]
theorem fl_frame {t : Nat} (h1 : s ≤ t) (h : t ≤ min N lim) : (flX lim N s).frame s t = flX lim N t := by
  unfold Wh.frame Wh.finT
  rw [show (flX lim N s).opn = false from by simp [Wh.opn, flX]]
  simp only [Bool.and_false, flX, Wh.mk.injEq, true_and]
  refine ⟨?_, by simp⟩
  refine ext_gd (by rw [setTo_length, stT_length (by omega), stT_length h]) (fun j hj => ?_)
  rw [setTo_length, stT_length (by omega)] at hj
  rw [gd_setTo _ _ _ _ _ (by rw [stT_length (by omega)]; omega), gd_stT, gd_stT]
  by_cases e : s ≤ j ∧ j < s + (t - s)
  · rw [if_pos e, if_pos (by omega)]
  · rw [if_neg e]
    by_cases e2 : j < s
    · rw [if_pos e2, if_pos (by omega)]
    · rw [if_neg e2, if_neg (by omega)]
theorem fl_frameR {t : Nat} : (flX lim N s).frameR s t = mkFr 8 s (strOfNums ((((streamRow N N).take (min N lim)).drop s).take (t - s))) false := by
  unfold Wh.frameR Wh.finT
  rw [show (flX lim N s).opn = false from by simp [Wh.opn, flX]]
  simp [flX]
theorem fl_space : (flX lim N s).space = (lim : Int) - (min N lim : Nat) := by
  unfold Wh.space
  rw [fl_u, fl_S]; simp [flX]
end
end Go.Proofs.Ytmjekepiplibkaa
