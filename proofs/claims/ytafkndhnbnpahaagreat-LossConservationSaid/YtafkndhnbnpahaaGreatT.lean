/- Law 13: packets as plain data; a map of packets; its keys, sorted. -/
import Derived.Test.YtafkndhnbnpahaaGreatSh
import Derived.Test.YtafkndhnbnpahaaGreatSi
import Derived.Test.YtafkndhnbnpahaaGreatMap
import Derived.Test.YtafkndhnbnpahaaGreatF
import Derived.Test.YtafkndhnbnpahaaGreatG
namespace Go.Proofs.YtafkndhnbnpahaaGreat
open Go.RowKit Go.Maps Go.Sort Go.Shelf
/-- a packet; fv: what its field Frames holds -/
structure Pk where
  pn : Int
  time : Int
  size : Int
  el : Bool
  fv : Value
def Pk.cells (p : Pk) : Array Value := #[.int .i64 p.pn, .int .i64 p.time, .int .i64 p.size, .bool p.el, p.fv]
def Pk.val (p : Pk) : Value := .agg p.cells
/-- the packets stand in rising order, their numbers are below nx -/
structure Up (nx : Int) (l : List Pk) : Prop where
  inc : l.Pairwise fun p q => p.pn < q.pn
  bnd : ∀ p ∈ l, 0 ≤ p.pn ∧ p.pn < nx
  fvs : ∀ p ∈ l, ∃ a n c, p.fv = .slice a n c
theorem pnWf {x : Int} (h0 : 0 ≤ x) (h1 : x ≤ 281474976710656) : (Lit.int .i64 x).wf = true := by
  have : IntKind.i64.min = -9223372036854775808 := by decide
  have : IntKind.i64.max = 9223372036854775807 := by decide
  simp [Lit.wf]; omega
/-- the map D holds the packets, each under its number -/
structure HoldsPk (D : DataW Value) (l : List Pk) : Prop where
  tidy : Tidy D
  mem : ∀ x : Int, Maps.has D (.int .i64 x) = true ↔ ∃ p ∈ l, p.pn = x
  at_ : ∀ p ∈ l, ∀ z, D.atKey (.int .i64 p.pn) (.held z) = .held p.val
theorem holds_nil : HoldsPk (.map []) [] := ⟨tidy_empty, fun x => by simp [Maps.has], fun p hp => by cases hp⟩
theorem isKey (x : Int) : WideAt.IsKeyLit (.int .i64 x) := by simp [WideAt.IsKeyLit]
theorem HoldsPk.put {D : DataW Value} {l : List Pk} {nx : Int} (h : HoldsPk D l) (hu : Up nx l) (p : Pk) (hp : p.pn = nx) : HoldsPk (D.put (.int .i64 p.pn) (.held p.val)) (l ++ [p]) := by
  refine ⟨h.tidy.put (isKey _) _, fun x => ?_, fun q hq z => ?_⟩
  · by_cases e : x = p.pn
    · subst e
      rw [has_put_same h.tidy.isMap (isKey _)]
      simp
    · rw [has_put_other (fun e2 => e (by cases e2; rfl)), h.mem]
      constructor
      · rintro ⟨q, hq, rfl⟩; exact ⟨q, by simp [hq], rfl⟩
      · rintro ⟨q, hq, rfl⟩
        rcases List.mem_append.1 hq with hq | hq
        · exact ⟨q, hq, rfl⟩
        · exact absurd (by rw [List.mem_singleton.1 hq]) e
  · rcases List.mem_append.1 hq with hq | hq
    · have := hu.bnd q hq
      have hne : Lit.int .i64 q.pn ≠ Lit.int .i64 p.pn := fun e2 => by
        have e3 : q.pn = p.pn := by simpa using e2
        omega
      rw [atKey_put_other hne]
      exact h.at_ q hq z
    · rw [List.mem_singleton.1 hq, atKey_put_same h.tidy.isMap (isKey _)]
theorem HoldsPk.del {D : DataW Value} {l : List Pk} (h : HoldsPk D l) (x : Int) : HoldsPk (D.del (.int .i64 x)) (l.filter fun p => p.pn != x) := by
  refine ⟨h.tidy.del _, fun y => ?_, fun q hq z => ?_⟩
  · by_cases e : y = x
    · subst e
      rw [has_del_same]
      simp
    · rw [has_del_other (fun e2 => e (by cases e2; rfl)), h.mem]
      constructor
      · rintro ⟨q, hq, rfl⟩; exact ⟨q, List.mem_filter.2 ⟨hq, by simpa using e⟩, rfl⟩
      · rintro ⟨q, hq, rfl⟩; exact ⟨q, (List.mem_filter.1 hq).1, rfl⟩
  · obtain ⟨h1, h2⟩ := List.mem_filter.1 hq
    have h2 : q.pn ≠ x := by simpa using h2
    rw [atKey_del_other (fun e2 => h2 (by cases e2; rfl))]
    exact h.at_ q h1 z
theorem Up.app {nx : Int} {l : List Pk} (h : Up nx l) (p : Pk) (hp : p.pn = nx) (h0 : 0 ≤ nx) (hf : ∃ a n c, p.fv = .slice a n c) : Up (nx + 1) (l ++ [p]) := by
  refine ⟨List.pairwise_append.2 ⟨h.inc, by simp, fun a ha b hb => ?_⟩, fun q hq => ?_, fun q hq => ?_⟩
  · rw [List.mem_singleton.1 hb, hp]; exact (h.bnd a ha).2
  · rcases List.mem_append.1 hq with hq | hq
    · have := h.bnd q hq; omega
    · rw [List.mem_singleton.1 hq]; omega
  · rcases List.mem_append.1 hq with hq | hq
    · exact h.fvs q hq
    · rw [List.mem_singleton.1 hq]; exact hf
theorem Up.filter {nx : Int} {l : List Pk} (h : Up nx l) (f : Pk → Bool) : Up nx (l.filter f) := ⟨h.inc.sublist List.filter_sublist, fun q hq => h.bnd q (List.mem_filter.1 hq).1, fun q hq => h.fvs q (List.mem_filter.1 hq).1⟩
/-- block M is a map of at most nn entries that holds the packets -/
def MapPk (w : World) (M nn : Nat) (l : List Pk) : Prop := ∃ D, MapAt w 3 M nn D ∧ HoldsPk D l
theorem MapAt.of_block {w w' : World} {k : TypeId} {b n : Nat} {D : DataW Value} (h : MapAt w k b n D) (hb : w'.heap[b]? = w.heap[b]?) : MapAt w' k b n D := by
  obtain ⟨es, clock, h1, Ft, hs, hD⟩ := h
  exact ⟨es, clock, hb.trans h1, Ft, hs, hD⟩
theorem MapPk.of_block {w w' : World} {M nn : Nat} {l : List Pk} (h : MapPk w M nn l) (hb : w'.heap[M]? = w.heap[M]?) : MapPk w' M nn l := by
  obtain ⟨D, h1, h2⟩ := h
  exact ⟨D, h1.of_block hb, h2⟩
theorem MapPk.lt {w : World} {M nn : Nat} {l : List Pk} (h : MapPk w M nn l) : M < w.heap.size := by
  obtain ⟨D, h1, h2⟩ := h
  exact h1.lt
theorem zero32 : ∃ z, ∀ w, (zeroValue 32).run Tryz.prog w = .ok z w := ⟨_, fun w => Tryz.zeroValue32 w⟩
theorem MapPk.look {w : World} {M nn : Nat} {l : List Pk} (h : MapPk w M nn l) {p : Pk} (hp : p ∈ l) (hw : (Lit.int .i64 p.pn).wf = true) : (Instr.lookup 73 (.map (some M)) (.int .i64 p.pn) false).run Tryz.prog w = .ok p.val w := by
  obtain ⟨D, h1, h2⟩ := h
  exact h1.look (t := 73) (e := 32) (K := Maps.int_keyed Tryz.underlying3) Tryz.underlying73 (Tryz.zeroValue32 w) (Maps.keyOf_int_mk Tryz.underlying3 hw) (h2.at_ p hp _)
theorem keys_sorted {D : DataW Value} {l : List Pk} {nx : Int} (h : HoldsPk D l) (hu : Up nx l) (hk : ∀ es, D = .map es → ∀ p ∈ es, ∃ x, p.1 = .int .i64 x) {ss : List Int} (hs : ss.Perm (intKeys D)) :
    ss.mergeSort (fun x y => decide (x ≤ y)) = l.map (·.pn) ∧ ss.length = l.length := by
  obtain ⟨es, rfl, ht⟩ := h.tidy
  have hnd : (l.map (·.pn)).Nodup := List.pairwise_map.2 (hu.inc.imp fun h e => by omega)
  have hp := perm_intKeys ht (hk es rfl) hnd (fun x => by rw [h.mem, List.mem_map])
  have hp2 : ss.Perm (l.map (·.pn)) := hs.trans hp.symm
  refine ⟨?_, by rw [hp2.length_eq, List.length_map]⟩
  refine List.Perm.eq_of_pairwise (le := fun a b => a ≤ b) (fun a b _ _ h1 h2 => Int.le_antisymm h1 h2) ?_ ?_ ((List.mergeSort_perm _ _).trans hp2)
  · refine (List.pairwise_mergeSort (le := fun x y : Int => decide (x ≤ y)) (fun a b c h1 h2 => by simp only [decide_eq_true_eq] at *; omega) (fun a b => by simp only [Bool.or_eq_true, decide_eq_true_eq]; omega) ss).imp fun h => by simpa using h
  · exact List.pairwise_map.2 (hu.inc.imp fun h => by omega)
theorem MapAt.keys {w : World} {b n : Nat} {D : DataW Value} (h : MapAt w 3 b n D) : ∀ es, D = .map es → ∀ p ∈ es, ∃ x, p.1 = .int .i64 x := by
  obtain ⟨es, rfl, hko⟩ := World.ownsMap.keysOf h
  rintro es' e p hp
  cases e
  obtain ⟨v, hv⟩ := hko p hp
  obtain ⟨x, _, hx, _⟩ := Maps.keyOf_i64 Tryz.underlying3 hv
  exact ⟨x, hx⟩
/-- the cells of a row of packets -/
def pcs (l : List Pk) : List Value := l.flatMap fun p => p.cells.toList
theorem pcs_length (l : List Pk) : (pcs l).length = l.length * 5 := by
  induction l with
  | nil => rfl
  | cons p l ih => simp [pcs, Pk.cells] at ih ⊢; omega
theorem pcs_snoc (l : List Pk) (p : Pk) : pcs (l ++ [p]) = pcs l ++ p.cells.toList := by simp [pcs]
theorem pcs_at (l : List Pk) (k j : Nat) (hk : k < l.length) (hj : j < 5) : (pcs l)[k * 5 + j]? = (l[k]'hk).cells.toList[j]? := by
  induction l generalizing k with
  | nil => simp at hk
  | cons p l ih =>
    cases k with
    | zero => simp only [pcs, List.flatMap_cons, Nat.zero_mul, Nat.zero_add, List.getElem_cons_zero]; rw [List.getElem?_append_left (by simp [Pk.cells]; exact hj)]
    | succ k =>
      simp only [pcs, List.flatMap_cons, List.getElem_cons_succ]
      rw [List.getElem?_append_right (by simp [Pk.cells]; omega)]
      have := ih k (by simpa using hk)
      rw [← this]
      simp only [pcs]
      congr 1
      simp [Pk.cells]; omega
theorem Pk.one (p : Pk) (h : ∃ a n c, p.fv = .slice a n c) : ∀ u ∈ p.cells.toList, u.oneCell' = true := by
  obtain ⟨a, n, c, e⟩ := h
  intro u hu
  simp [Pk.cells, e] at hu
  rcases hu with rfl | rfl | rfl | rfl | rfl <;> rfl
theorem info32 : (Tryz.prog.info? 32).map (fun i => (i.zero, i.size, i.bytes)) = some (some (.agg #[.int .i64 0, .int .i64 0, .int .i64 0, .bool false, .slice none 0 0]), 5, 56) := by kernel_rfl
theorem size32 : (Tryz.prog.info? 32).map (·.size) = some 5 := by kernel_rfl
end Go.Proofs.YtafkndhnbnpahaaGreat
