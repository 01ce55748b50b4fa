import Derived.Test.YtmjekepiplibkaaT
import Derived.OwnWalk
namespace Go.Proofs.Ytmjekepiplibkaa
open Go.RowKit
/-- a byte of an own row is set -/
theorem own_set {w : World} {e : TypeId} {g n cap : Nat} {xs : List Int} (h : w.ownsRow 0 e 1 (.slice (some ⟨g, 0, none⟩) n cap) n (xs.map (.int .u8))) (k : Nat) (v : Int) :
    (w.setCell ⟨g, k, none⟩ (.int .u8 v)).ownsRow 0 e 1 (.slice (some ⟨g, 0, none⟩) n cap) n ((xs.set k v).map (.int .u8)) := by
  obtain ⟨hl, h⟩ := h
  rcases h with ⟨e, _⟩ | ⟨g', cap', cur, e, h2, h3, h4, h5, h6, h7⟩
  · cases e
  · simp only [Value.slice.injEq, Option.some.injEq, Addr.mk.injEq] at e
    obtain ⟨⟨rfl, _, _⟩, _, rfl⟩ := e
    refine ⟨by simpa using hl, .inr ⟨g, cap, cur.setIfInBounds k (.int .u8 v), rfl, h2, heap_set _ h3, h4, h5, by simpa using h6, ?_⟩⟩
    rw [Array.toList_setIfInBounds, List.take_set, h7, List.map_set]
/-- the law's stream: its byte at j, and its first k bytes in a row of n -/
def streamAt (j : Nat) : Int := 97 + ((j * 7 + j / 26 * 3) % 26 : Nat)
def streamRow (n k : Nat) : List Int := (List.range n).map (fun j => if j < k then streamAt j else 0)
theorem streamRow_length (n k : Nat) : (streamRow n k).length = n := by simp [streamRow]
theorem streamRow_succ (n k : Nat) (h : k < n) : (streamRow n k).set k (streamAt k) = streamRow n (k + 1) := by
  apply List.ext_getElem?
  intro j
  rw [List.getElem?_set]
  simp only [streamRow, List.length_map, List.length_range, List.getElem?_map]
  by_cases hj : j < n
  · rw [List.getElem?_range hj]
    by_cases e : k = j
    · subst e; simp [h]
    · rw [if_neg e]; simp only [Option.map_some]; congr 1
      by_cases h1 : j < k
      · rw [if_pos h1, if_pos (by omega)]
      · rw [if_neg h1, if_neg (by omega)]
  · rw [List.getElem?_eq_none (by simp; omega)]; simp; omega
theorem streamRow_zero (n : Nat) : (streamRow n 0).map (Value.int .u8) = List.replicate n (.int .u8 0) := by
  rw [streamRow, List.map_map]
  apply List.ext_getElem?
  intro j
  simp [List.getElem?_replicate]
  by_cases h : j < n
  · simp [h]
  · simp [h]
end Go.Proofs.Ytmjekepiplibkaa
