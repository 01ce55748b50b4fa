/- 'append(own, s...)' of a string, and 'append(own, make([]T, n)...)', where own is nil or a row of the call's own. -/
import Derived.Test.YtmjekepiplibkaaAppend
import Derived.Deep.AppendSrc
import Derived.Laws.CopyRow
namespace Go.Proofs.Ytmjekepiplibkaa
open Go.RowKit
section
variable {P : Program}
/-- what an append leaves of an own row, the two arms once for whatever is appended -/
theorem own_after (w : World) (base : Nat) (e : TypeId) (size : Nat) (n m : Nat) (xs news : List Value) (g cap : Nat) (cur : Array Value) (hbg : base ≤ g) (hg : w.heap[g]? = some (.cells cur e (0, 0))) (hcm : cap ≤ maxLen) (hcs : cur.size = cap * size)
    (htake : cur.toList.take (n * size) = xs) (hxl : xs.length = n * size) (hl : news.length = m * size) (hroom : n + m ≤ cap) :
    (w.setRow g (cur.toList.take (n * size) ++ news ++ cur.toList.drop (n * size + news.length)).toArray).ownsRow base e size (.slice (some ⟨g, 0, none⟩) (n + m) cap) (n + m) (xs ++ news) ∧
    w.grownBy (w.setRow g (cur.toList.take (n * size) ++ news ++ cur.toList.drop (n * size + news.length)).toArray) (some g) := by
  have hlen : (xs ++ news).length = (n + m) * size := by rw [List.length_append, hxl, hl, Nat.add_mul]
  refine ⟨⟨hlen, .inr ⟨g, cap, _, rfl, hbg, setRow_heap w g cur _ e _ hg, hroom, hcm, ?_, ?_⟩⟩, ⟨rfl, rfl, rfl, by simp, fun k _ hk => setRow_other w g k _ (fun e => hk (by simp [e]))⟩⟩
  · have hle : n * size + news.length ≤ cap * size := by rw [hl, ← Nat.add_mul]; exact Nat.mul_le_mul_right _ hroom
    simp only [List.size_toArray, List.length_append, List.length_take, List.length_drop, Array.length_toList]
    omega
  · rw [htake, ← hlen]
    exact List.take_left
theorem new_after (w : World) (base : Nat) (e : TypeId) (z : Value) (size : Nat) (n m : Nat) (xs news : List Value) (old : Nat) (row : Option Nat) (hzs : z.cells.size = size) (hxl : xs.length = n * size) (hl : news.length = m * size) (h63 : n + m ≤ maxLen) (hbase : base ≤ w.heap.size) :
    (w.drew.alloc (.cells ((xs ++ news).toArray ++ Builtin.zeroCells z.cells (grownCap w (n + m) old e - (n + m))) e)).ownsRow base e size (.slice (some ⟨w.heap.size, 0, none⟩) (n + m) (grownCap w (n + m) old e)) (n + m) (xs ++ news) ∧
    w.grownBy (w.drew.alloc (.cells ((xs ++ news).toArray ++ Builtin.zeroCells z.cells (grownCap w (n + m) old e - (n + m))) e)) row := by
  have hlen : (xs ++ news).length = (n + m) * size := by rw [List.length_append, hxl, hl, Nat.add_mul]
  have hge := grownCap_ge w (n + m) old e
  have hcm : grownCap w (n + m) old e ≤ maxLen := grownCap_le_maxLen w (n + m) old e h63
  refine ⟨⟨hlen, .inr ⟨w.heap.size, _, _, rfl, hbase, heap_alloc_new w.drew _, hge, hcm, ?_, ?_⟩⟩, ⟨rfl, rfl, rfl, by simp, fun k hk _ => Below.heap_alloc w.drew _ k hk⟩⟩
  · simp only [Array.size_append, List.size_toArray, size_zeroCells, hzs, hlen, ← Nat.add_mul]
    congr 1
    omega
  · simp only [Array.toList_append]
    rw [← hlen]
    exact List.take_left
theorem run_append_src (w : World) (base : Nat) (t tx ty e : TypeId) (i : TypeInfo) (z : Value) (size bytes : Nat) (ht : P.underlying t = some (.slice e)) (hi : P.info? e = some i) (hz : i.zero = some z)
    (hsize : i.size = size) (hby : i.bytes = bytes) (hzs : z.cells.size = size) (hsz : 0 < size)
    (v : Value) (n : Nat) (xs : List Value) (hown : w.ownsRow base e size v n xs) (x : Value) (m : Nat) (news : List Value) (hs : Src P size tx x m news w)
    (h63 : n + m ≤ maxLen) (hbytes : (n + m) * bytes ≤ 140737488355328) (hbase : base ≤ w.heap.size) :
    ∃ v' w', (Builtin.append_ #[t, tx] ty #[v, x]).run P w = .ok v' w' ∧ w'.ownsRow base e size v' (n + m) (xs ++ news) ∧ w.grownBy w' v.ownBlock ∧ ∀ k, v'.ownBlock = some k → v.ownBlock = some k ∨ w.heap.size ≤ k := by
  subst hsize
  subst hby
  have hsmall : n + m ≤ 9223372036854775807 := by simp only [maxLen] at h63; omega
  rcases hown.2 with ⟨rfl, rfl⟩ | ⟨g, cap, cur, rfl, hbg, hg, hnc, hcm, hcs, htake⟩
  · have hx : xs = [] := List.eq_nil_of_length_eq_zero (by simpa using hown.1)
    subst hx
    by_cases hm : m = 0
    · subst hm
      have hn : news = [] := List.eq_nil_of_length_eq_zero (by simpa using hs.newsLen)
      subst hn
      refine ⟨.slice none 0 0, w, ?_, World.ownsRow_nil w base e i.size, ⟨rfl, rfl, rfl, Nat.le_refl _, fun _ _ _ => rfl⟩, fun k hk => .inl hk⟩
      rcases hs.kind with ⟨e', hk⟩ | hk <;> simp [Builtin.append_, run_underlying ht, run_underlying hk, sizeOf, typeInfo, hi, hs.len, hs.cells]
    · have hr := run_append_grow_src (P := P) w t tx ty e i z ht hi hz none 0 0 [] (run_firstCells_none w.drew i.size 0 0 0) x m news hs (by omega) (by omega) (growslice_fits (by omega) hbytes)
      have ha := new_after w base e z i.size 0 m [] news 0 (Value.ownBlock (.slice none 0 0)) hzs (by simp) hs.newsLen h63 hbase
      exact ⟨_, _, hr, ha.1, ha.2, fun k hk => .inr (by cases hk; exact Nat.le_refl _)⟩
  · by_cases hroom : n + m ≤ cap
    · have hfit : n * i.size + news.length ≤ cur.size := by rw [hs.newsLen, hcs, ← Nat.add_mul]; exact Nat.mul_le_mul_right _ hroom
      have hst := run_storeCells_at (P := P) g (n * i.size) e news 0 cur w hg (by simpa using hfit) hs.one
      simp only [Nat.add_zero] at hst
      have ha := own_after w base e i.size n m xs news g cap cur hbg hg hcm hcs htake hown.1 hs.newsLen hroom
      refine ⟨_, _, ?_, ha.1, ha.2, fun k hk => .inl hk⟩
      have hadd : (⟨g, 0, none⟩ : Addr).add (n * i.size) = ⟨g, n * i.size, none⟩ := by rw [add_plain, Nat.zero_add]
      rcases hs.kind with ⟨e', hk⟩ | hk <;> simp [Builtin.append_, run_underlying ht, run_underlying hk, sizeOf, typeInfo, hi, hs.len, hroom, hs.cells, hadd, hst]
    · have holds : ∀ j u, xs[j]? = some u → w.cell? ((⟨g, 0, none⟩ : Addr).add j) = some u := hown.cells (g := g) rfl
      have hold := run_firstCells_some (P := P) w.drew i.size n ⟨g, 0, none⟩ n cap xs hown.1 (by simpa using holds)
      have hr := run_append_grow_src (P := P) w t tx ty e i z ht hi hz (some ⟨g, 0, none⟩) n cap xs hold x m news hs (by omega) (by omega) (growslice_fits (by omega) hbytes)
      have ha := new_after w base e z i.size n m xs news cap (some g) hzs hown.1 hs.newsLen h63 hbase
      exact ⟨_, _, hr, ha.1, ha.2, fun k hk => .inr (by cases hk; exact Nat.le_refl _)⟩
end
end Go.Proofs.Ytmjekepiplibkaa
