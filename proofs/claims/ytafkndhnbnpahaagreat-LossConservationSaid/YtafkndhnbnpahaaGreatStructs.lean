/- Arguments that are slices of structs of one-cell fields, opened to their cells. The first theorem is the guide's lemma on such slices, laid here as it is meant to be. -/
import Derived.Test.YtafkndhnbnpahaaGreatBase
import Derived.Deep.Slices
import Derived.Deep.Fields
import Derived.ChangeSame
namespace Go.Proofs.YtafkndhnbnpahaaGreat
open Go.ChangeShapes Go.WideShapes Go.Deep Go.RowKit
section
variable {H : Type} {enc : TypeId × Value → H} {P : Program} {w : World} {base : Nat} {spare : Nat → Bool} {held : Bool}
theorem open_slice_fields {t e : TypeId} {fs : Array Field} {fuel : Nat} {cs : List Value} {x : DataW H × List MemPlace} (ht : P.underlying t = some (.slice e)) (he : P.underlying e = some (.struct fs))
    (hone : oneCellFields P fs = true) (hC : P.cellsOf e = fs.size) (h : DataW.trod enc P w base spare held fuel t cs = some x) :
    (cs = [.slice none 0 0] ∧ x = (.nil, [])) ∨
    ∃ (a : Addr) (len cap m : Nat) (D : Nat → DataW H) (Pl : Nat → List MemPlace), cs = [.slice (some a) len cap] ∧ base ≤ a.block ∧ len ≤ cap ∧ cap ≤ maxLen ∧ m = (if spare a.block then cap else len) ∧
      x = (.slice ((List.range len).map D) ((List.range (m - len)).map fun j => D (len + j)), MemPlace.row a (m * fs.size) ++ (List.range m).flatMap Pl) ∧
      ∀ i, i < m → ∃ (ys : List (DataW H × List MemPlace)) (n : Nat), D i = .agg (ys.map (·.1)) ∧ Pl i = ys.flatMap (·.2) ∧ ys.length = fs.size ∧
        ∀ (j : Nat) (f : Field), fs[j]? = some f → ∃ (v : Value) (y : DataW H × List MemPlace), w.cell? (a.add (i * fs.size + j)) = some v ∧ ys[j]? = some y ∧ DataW.trod enc P w base spare held n f.type [v] = some y := by
  rcases open_slice ht h with h0 | ⟨a, len, cap, m, n, D, Pl, hcs, hb, hl, hm, hmm, hx, hi⟩
  · exact .inl h0
  · refine .inr ⟨a, len, cap, m, D, Pl, hcs, hb, hl, hm, hmm, by rw [hC] at hx; exact hx, fun i him => ?_⟩
    obtain ⟨cs', hc, ht'⟩ := hi i him
    rw [hC] at hc
    obtain ⟨ys, n', hn', hy, hlen, hyl, hf⟩ := DataW.trod_struct he ht'
    obtain ⟨_, hcl, hat⟩ := World.cells?_some hc
    simp only [Prod.mk.injEq] at hy
    refine ⟨ys, n', hy.1, hy.2, hyl, fun j f hj => ?_⟩
    obtain ⟨ho, hk⟩ := hone_of hone j f hj
    have hjl : j < fs.size := (Array.getElem?_eq_some_iff.1 hj).1
    have hcell := hat j hjl
    have hv : cs'[j]? = some (cs'[j]'(by omega)) := List.getElem?_eq_getElem (by omega)
    have h1 := hf j f hj
    rw [ho, hk] at h1
    have hone' : (cs'.drop j).take 1 = [cs'[j]'(by omega)] := by
      rw [List.drop_eq_getElem_cons (by omega)]
      rfl
    rw [hone'] at h1
    have hys : ys[j]? = some (ys[j]'(by omega)) := List.getElem?_eq_getElem (by omega)
    refine ⟨_, _, ?_, hys, h1.trans hys⟩
    rw [← Go.Deep.add_add, hcell, hv]
end

/-- the integer in a cell -/
def numAt (w : World) (b o : Nat) : Int := match w.cell? ⟨b, o, none⟩ with
  | some (.int _ n) => n
  | _ => 0
set_option maxRecDepth 100000 in
/-- a slice of structs of n integer fields: every cell is an integer that fits -/
theorem int_structs_at {H : Type} {enc : TypeId × Value → H} {W : World} {base : Nat} {held : Bool} {t e it : TypeId} {v : Value} {d : DataW H} {p : List MemPlace} {fs : Array Field}
    (ht : Tryz.prog.underlying t = some (.slice e)) (he : Tryz.prog.underlying e = some (.struct fs)) (hone : oneCellFields Tryz.prog fs = true) (hC : Tryz.prog.cellsOf e = fs.size)
    (hs : 0 < fs.size) (hi : Tryz.prog.underlying it = some (.int .i64)) (hf : ∀ (j : Nat) (f : Field), fs[j]? = some f → f.type = it) (hv : Value.okWide Tryz.prog W .any base t v)
    (h : DataW.Trod enc Tryz.prog W 0 (fun _ => true) held t v d p) :
    ∃ a len cap, v = .slice a len cap ∧ len ≤ cap ∧ (len = 0 ∨ ∃ b off, a = some ⟨b, off, none⟩ ∧ cap ≤ maxLen ∧
      ∀ i, i < len → ∀ j, j < fs.size → W.cell? ⟨b, off + (i * fs.size + j), none⟩ = some (.int .i64 (numAt W b (off + (i * fs.size + j)))) ∧ (Lit.int .i64 (numAt W b (off + (i * fs.size + j)))).wf = true) := by
  obtain ⟨a0, len, cap, rfl⟩ := okWide_slice ht hv
  obtain ⟨fuel, hf'⟩ := h
  rcases open_slice_fields ht he hone hC hf' with ⟨hcs, hx⟩ | ⟨a, len', cap', m, D, Pl, hcs, _, hl, hm, hmm, hx, hall⟩
  · simp [Value.cells] at hcs
    obtain ⟨rfl, rfl, rfl⟩ := hcs
    exact ⟨none, 0, 0, rfl, Nat.le_refl _, .inl rfl⟩
  · simp [Value.cells] at hcs
    obtain ⟨rfl, rfl, rfl⟩ := hcs
    simp only [if_true] at hmm
    refine ⟨some a, len, cap, rfl, hl, ?_⟩
    rcases Nat.eq_zero_or_pos len with h0 | h0
    · exact .inl h0
    · right
      have one : ∀ i, i < len → ∀ j, j < fs.size → ∃ z, W.cell? (a.add (i * fs.size + j)) = some (.int .i64 z) ∧ (Lit.int .i64 z).wf = true := by
        intro i hi' j hj
        obtain ⟨ys, n, _, _, _, hy⟩ := hall i (by omega)
        obtain ⟨cv, y, hc, _, ht'⟩ := hy j fs[j] (by simp [hj])
        rw [hf j fs[j] (by simp [hj])] at ht'
        obtain ⟨z, hz, _, hw⟩ := DataW.trod_int hi ht'
        simp at hz
        subst hz
        exact ⟨z, hc, hw⟩
      · obtain ⟨z0, hz0, _⟩ := one 0 h0 0 hs
        have hsp := cell_spot hz0
        obtain ⟨b, o, s⟩ := a
        obtain rfl : s = none := by
          have := congrArg Addr.spot hsp
          simpa [Addr.add] using this
        refine ⟨b, o, rfl, hm, fun i hi' j hj => ?_⟩
        obtain ⟨z, hz, hw⟩ := one i hi' j hj
        rw [add_plain] at hz
        have : numAt W b (o + (i * fs.size + j)) = z := by unfold numAt; rw [hz]
        rw [this]
        exact ⟨hz, hw⟩
/-- the bool in a cell -/
def boolAt (w : World) (b o : Nat) : Bool := match w.cell? ⟨b, o, none⟩ with
  | some (.bool x) => x
  | _ => false
set_option maxRecDepth 100000 in
/-- a slice of bools -/
theorem bools_at {H : Type} {enc : TypeId × Value → H} {W : World} {base : Nat} {held : Bool} {t e : TypeId} {v : Value} {d : DataW H} {p : List MemPlace}
    (ht : Tryz.prog.underlying t = some (.slice e)) (he : Tryz.prog.underlying e = some .bool) (hC : Tryz.prog.cellsOf e = 1) (hv : Value.okWide Tryz.prog W .any base t v)
    (h : DataW.Trod enc Tryz.prog W 0 (fun _ => true) held t v d p) :
    ∃ a len cap, v = .slice a len cap ∧ len ≤ cap ∧ (len = 0 ∨ ∃ b off, a = some ⟨b, off, none⟩ ∧ cap ≤ maxLen ∧ b < W.heap.size ∧
      ∀ i, i < len → W.cell? ⟨b, off + i, none⟩ = some (.bool (boolAt W b (off + i)))) := by
  obtain ⟨a0, len, cap, rfl⟩ := okWide_slice ht hv
  obtain ⟨fuel, hf'⟩ := h
  rcases open_slice ht hf' with ⟨hcs, hx⟩ | ⟨a, len', cap', m, n, D, Pl, hcs, _, hl, hm, hmm, hx, hall⟩
  · simp [Value.cells] at hcs
    obtain ⟨rfl, rfl, rfl⟩ := hcs
    exact ⟨none, 0, 0, rfl, Nat.le_refl _, .inl rfl⟩
  · simp [Value.cells] at hcs
    obtain ⟨rfl, rfl, rfl⟩ := hcs
    simp only [if_true] at hmm
    refine ⟨some a, len, cap, rfl, hl, ?_⟩
    rcases Nat.eq_zero_or_pos len with h0 | h0
    · exact .inl h0
    · right
      have one : ∀ i, i < len → ∃ z, W.cell? (a.add i) = some (.bool z) := by
        intro i hi'
        obtain ⟨cs', hc, htr⟩ := hall i (by omega)
        rw [hC] at hc
        obtain ⟨z, rfl, _⟩ := DataW.trod_bool he htr
        obtain ⟨_, hcl, hat⟩ := World.cells?_some hc
        have := hat 0 (by simp)
        rw [Nat.mul_one] at this
        refine ⟨z, ?_⟩
        simpa [Addr.add] using this
      obtain ⟨z0, hz0⟩ := one 0 h0
      have hsp := cell_spot hz0
      obtain ⟨b, o, s⟩ := a
      obtain rfl : s = none := by
        have := congrArg Addr.spot hsp
        simpa [Addr.add] using this
      refine ⟨b, o, rfl, hm, ?_, fun i hi' => ?_⟩
      · have := World.block_lt_of_cell? _ _ hz0
        rw [add_plain] at this
        exact this
      · obtain ⟨z, hz⟩ := one i hi'
        rw [add_plain] at hz
        have : boolAt W b (o + i) = z := by unfold boolAt; rw [hz]
        rw [this]
        exact hz
end Go.Proofs.YtafkndhnbnpahaaGreat
