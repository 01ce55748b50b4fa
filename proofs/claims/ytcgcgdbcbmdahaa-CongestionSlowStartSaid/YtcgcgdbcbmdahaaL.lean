/- The calls that the laws make: a slice of them, opened to its cells. -/
import Derived.Test.YtcgcgdbcbmdahaaH
import Derived.Test.YtcgcgdbcbmdahaaStructs
namespace Go.Proofs.Ytcgcgdbcbmdahaa
open Go.ChangeShapes Go.WideShapes Go.RowKit
/-- the slice value v holds the calls ps -/
def PAt (w : World) (v : Value) (ps : List Prm) : Prop :=
  (∃ a cap, v = .slice a 0 cap ∧ ps = []) ∨
  (∃ b off cap, v = .slice (some ⟨b, off, none⟩) ps.length cap ∧ 0 < ps.length ∧ ps.length ≤ cap ∧ cap ≤ maxLen ∧ b < w.heap.size ∧
    ∀ (i : Nat) (p : Prm), ps[i]? = some p → w.cell? ⟨b, off + i * 4, none⟩ = some (.int .i64 p.kind) ∧ w.cell? ⟨b, off + i * 4 + 1, none⟩ = some (.int .i64 p.now) ∧ w.cell? ⟨b, off + i * 4 + 2, none⟩ = some (.int .i64 p.sent) ∧ w.cell? ⟨b, off + i * 4 + 3, none⟩ = some (.int .i64 p.n))
theorem prms_at {H : Type} {enc : TypeId × Value → H} {W : World} {base : Nat} {v : Value} {d : DataW H} {p : List MemPlace} (hv : Value.okWide Try.prog W .any base 22 v) (h : DataW.Trod enc Try.prog W 0 (fun _ => true) true 22 v d p) :
    ∃ ps : List Prm, PAt W v ps ∧ ps.length ≤ maxLen ∧ ∀ q ∈ ps, q.wf := by
  obtain ⟨a, len, cap, rfl, hl, hx⟩ := int_structs_at Try.underlying22 Try.underlying30 (by kernel_rfl) (by kernel_rfl) (by decide) Try.underlying3 (fun j f hj => by
    have : j = 0 ∨ j = 1 ∨ j = 2 ∨ j = 3 := by have := (Array.getElem?_eq_some_iff.1 hj).1; simp at this; omega
    rcases this with rfl | rfl | rfl | rfl <;> (simp at hj; subst hj; rfl)) hv h
  rcases hx with rfl | ⟨b, off, rfl, hm, hc⟩
  · exact ⟨[], .inl ⟨a, cap, rfl, rfl⟩, by simp, by simp⟩
  · rcases Nat.eq_zero_or_pos len with h0 | h0
    · subst h0; exact ⟨[], .inl ⟨_, cap, rfl, rfl⟩, by simp, by simp⟩
    · let f : Nat → Prm := fun i => ⟨numAt W b (off + i * 4), numAt W b (off + i * 4 + 1), numAt W b (off + i * 4 + 2), numAt W b (off + i * 4 + 3)⟩
      have hlen : ((List.range len).map f).length = len := by simp
      refine ⟨(List.range len).map f, .inr ⟨b, off, cap, by rw [hlen], by omega, by omega, hm, World.block_lt_of_cell? _ _ (hc 0 h0 0 (by decide)).1, ?_⟩, by omega, ?_⟩
      · intro i p hp
        rw [List.getElem?_map, Option.map_eq_some_iff] at hp
        obtain ⟨i', hi', rfl⟩ := hp
        have hi2 : i < len := by have := (List.getElem?_eq_some_iff.1 hi').1; simpa using this
        have : i' = i := by rw [List.getElem?_range hi2] at hi'; exact (Option.some.inj hi').symm
        subst this
        exact ⟨(hc i' hi2 0 (by decide)).1, (hc i' hi2 1 (by decide)).1, (hc i' hi2 2 (by decide)).1, (hc i' hi2 3 (by decide)).1⟩
      · intro q hq
        obtain ⟨i, hi, rfl⟩ := List.mem_map.1 hq
        have hi2 : i < len := by simpa using hi
        exact ⟨bounds_i64 (hc i hi2 0 (by decide)).2, bounds_i64 (hc i hi2 1 (by decide)).2, bounds_i64 (hc i hi2 2 (by decide)).2, bounds_i64 (hc i hi2 3 (by decide)).2⟩
theorem PAt.form {w : World} {v : Value} {ps : List Prm} (h : PAt w v ps) : ∃ a cap, v = .slice a ps.length cap ∧ (ps = [] ∨ ∃ b off, a = some ⟨b, off, none⟩ ∧ b < w.heap.size ∧ ps.length ≤ cap ∧ cap ≤ maxLen ∧
    ∀ (i : Nat) (p : Prm), ps[i]? = some p → w.cell? ⟨b, off + i * 4, none⟩ = some (.int .i64 p.kind) ∧ w.cell? ⟨b, off + i * 4 + 1, none⟩ = some (.int .i64 p.now) ∧ w.cell? ⟨b, off + i * 4 + 2, none⟩ = some (.int .i64 p.sent) ∧ w.cell? ⟨b, off + i * 4 + 3, none⟩ = some (.int .i64 p.n)) := by
  rcases h with ⟨a, cap, rfl, rfl⟩ | ⟨b, off, cap, rfl, h0, h1, h2, h3, h4⟩
  · exact ⟨a, cap, rfl, .inl rfl⟩
  · exact ⟨_, cap, rfl, .inr ⟨b, off, rfl, h3, h1, h2, h4⟩⟩
end Go.Proofs.Ytcgcgdbcbmdahaa
