/- Texts Structs Ah Ai Aj Cn Co Tka Scope Tkb of this claim, one behind the other. -/
import Derived.Test.YtafkndhnbnpahaaGreatTk1
import Derived.Deep.Slices
import Derived.Deep.Fields
import Derived.ChangeSame
import Derived.Test.YtafkndhnbnpahaaGreatTk5
import Derived.Deep.MidRow
import Derived.Deep.WholeRow
import Derived.Laws.OwnMore
import Derived.Test.YtafkndhnbnpahaaGreatTk4
import Derived.ControlIn
import Derived.Scope
import Derived.ScopeJumps
import Derived.Test.YtafkndhnbnpahaaGreatTk2
/- Arguments that are slices of structs of one-cell fields, opened to their cells. The first theorem is the guide's lemma on such slices, laid here as it is meant to be. -/
namespace Go.Proofs.YtafkndhnbnpahaaGreat
open Go.ChangeShapes Go.WideShapes Go.Deep Go.RowKit
section
variable {H : Type} {enc : TypeId × Value → H} {P : Program} {w : World} {base : Nat} {spare : Nat → Bool} {held : Bool}
theorem open_slice_fields {t e : TypeId} {fs : Array Field} {fuel : Nat} {cs : List Value} {x : DataW H × List MemPlace} (ht : P.underlying t = some (.slice e)) (he : P.underlying e = some (.struct fs))
    (hone : oneCellFields P fs = true) (hC : P.cellsOf e = fs.size) (h : DataW.trod enc P w base spare held fuel t cs = some x) :
    (cs = [.slice none 0 0] ∧ x = (.nil, [])) ∨
    ∃ (a : Addr) (len cap m : Nat) (D : Nat → DataW H) (Pl : Nat → List MemPlace), cs = [.slice (some a) len cap] ∧ base ≤ a.block ∧ len ≤ cap ∧ cap ≤ maxLen ∧ m = (if spare a.block then cap else len) ∧
      x = (.slice ((List.range len).map D) ((List.range (m - len)).map fun j => D (len + j)), MemPlace.row a (m * fs.size) ++ (List.range m).flatMap Pl) ∧
      ∀ i, i < m → ∃ (ys : List (DataW H × List MemPlace)) (n : Nat), D i = .agg (ys.map (·.1)) ∧ Pl i = ys.flatMap (·.2) ∧ ys.length = fs.size ∧
        ∀ (j : Nat) (f : Field), fs[j]? = some f → ∃ (v : Value) (y : DataW H × List MemPlace), w.cell? (a.add (i * fs.size + j)) = some v ∧ ys[j]? = some y ∧ DataW.trod enc P w base spare held n f.type [v] = some y := by
  rcases open_slice ht h with h0 | ⟨a, len, cap, m, n, D, Pl, hcs, hb, hl, hm, hmm, hx, hi⟩
  · exact .inl h0
  · refine .inr ⟨a, len, cap, m, D, Pl, hcs, hb, hl, hm, hmm, by rw [hC] at hx; exact hx, fun i him => ?_⟩
    obtain ⟨cs', hc, ht'⟩ := hi i him
    rw [hC] at hc
    obtain ⟨ys, n', hn', hy, hlen, hyl, hf⟩ := DataW.trod_struct he ht'
    obtain ⟨_, hcl, hat⟩ := World.cells?_some hc
    simp only [Prod.mk.injEq] at hy
    refine ⟨ys, n', hy.1, hy.2, hyl, fun j f hj => ?_⟩
    obtain ⟨ho, hk⟩ := hone_of hone j f hj
    have hjl : j < fs.size := (Array.getElem?_eq_some_iff.1 hj).1
    have hcell := hat j hjl
    have hv : cs'[j]? = some (cs'[j]'(by omega)) := List.getElem?_eq_getElem (by omega)
    have h1 := hf j f hj
    rw [ho, hk] at h1
    have hone' : (cs'.drop j).take 1 = [cs'[j]'(by omega)] := by
      rw [List.drop_eq_getElem_cons (by omega)]
      rfl
    rw [hone'] at h1
    have hys : ys[j]? = some (ys[j]'(by omega)) := List.getElem?_eq_getElem (by omega)
    refine ⟨_, _, ?_, hys, h1.trans hys⟩
    rw [← Go.Deep.add_add, hcell, hv]
end

/-- the integer in a cell -/
def numAt (w : World) (b o : Nat) : Int := match w.cell? ⟨b, o, none⟩ with
  | some (.int _ n) => n
  | _ => 0
set_option maxRecDepth 100000 in
/-- a slice of structs of n integer fields: every cell is an integer that fits -/
theorem int_structs_at {H : Type} {enc : TypeId × Value → H} {W : World} {base : Nat} {held : Bool} {t e it : TypeId} {v : Value} {d : DataW H} {p : List MemPlace} {fs : Array Field}
    (ht : Tryz.prog.underlying t = some (.slice e)) (he : Tryz.prog.underlying e = some (.struct fs)) (hone : oneCellFields Tryz.prog fs = true) (hC : Tryz.prog.cellsOf e = fs.size)
    (hs : 0 < fs.size) (hi : Tryz.prog.underlying it = some (.int .i64)) (hf : ∀ (j : Nat) (f : Field), fs[j]? = some f → f.type = it) (hv : Value.okWide Tryz.prog W .any base t v)
    (h : DataW.Trod enc Tryz.prog W 0 (fun _ => true) held t v d p) :
    ∃ a len cap, v = .slice a len cap ∧ len ≤ cap ∧ (len = 0 ∨ ∃ b off, a = some ⟨b, off, none⟩ ∧ cap ≤ maxLen ∧
      ∀ i, i < len → ∀ j, j < fs.size → W.cell? ⟨b, off + (i * fs.size + j), none⟩ = some (.int .i64 (numAt W b (off + (i * fs.size + j)))) ∧ (Lit.int .i64 (numAt W b (off + (i * fs.size + j)))).wf = true) := by
  obtain ⟨a0, len, cap, rfl⟩ := okWide_slice ht hv
  obtain ⟨fuel, hf'⟩ := h
  rcases open_slice_fields ht he hone hC hf' with ⟨hcs, hx⟩ | ⟨a, len', cap', m, D, Pl, hcs, _, hl, hm, hmm, hx, hall⟩
  · simp [Value.cells] at hcs
    obtain ⟨rfl, rfl, rfl⟩ := hcs
    exact ⟨none, 0, 0, rfl, Nat.le_refl _, .inl rfl⟩
  · simp [Value.cells] at hcs
    obtain ⟨rfl, rfl, rfl⟩ := hcs
    simp only [if_true] at hmm
    refine ⟨some a, len, cap, rfl, hl, ?_⟩
    rcases Nat.eq_zero_or_pos len with h0 | h0
    · exact .inl h0
    · right
      have one : ∀ i, i < len → ∀ j, j < fs.size → ∃ z, W.cell? (a.add (i * fs.size + j)) = some (.int .i64 z) ∧ (Lit.int .i64 z).wf = true := by
        intro i hi' j hj
        obtain ⟨ys, n, _, _, _, hy⟩ := hall i (by omega)
        obtain ⟨cv, y, hc, _, ht'⟩ := hy j fs[j] (by simp [hj])
        rw [hf j fs[j] (by simp [hj])] at ht'
        obtain ⟨z, hz, _, hw⟩ := DataW.trod_int hi ht'
        simp at hz
        subst hz
        exact ⟨z, hc, hw⟩
      · obtain ⟨z0, hz0, _⟩ := one 0 h0 0 hs
        have hsp := cell_spot hz0
        obtain ⟨b, o, s⟩ := a
        obtain rfl : s = none := by
          have := congrArg Addr.spot hsp
          simpa [Addr.add] using this
        refine ⟨b, o, rfl, hm, fun i hi' j hj => ?_⟩
        obtain ⟨z, hz, hw⟩ := one i hi' j hj
        rw [add_plain] at hz
        have : numAt W b (o + (i * fs.size + j)) = z := by unfold numAt; rw [hz]
        rw [this]
        exact ⟨hz, hw⟩
/-- the bool in a cell -/
def boolAt (w : World) (b o : Nat) : Bool := match w.cell? ⟨b, o, none⟩ with
  | some (.bool x) => x
  | _ => false
set_option maxRecDepth 100000 in
/-- a slice of bools -/
theorem bools_at {H : Type} {enc : TypeId × Value → H} {W : World} {base : Nat} {held : Bool} {t e : TypeId} {v : Value} {d : DataW H} {p : List MemPlace}
    (ht : Tryz.prog.underlying t = some (.slice e)) (he : Tryz.prog.underlying e = some .bool) (hC : Tryz.prog.cellsOf e = 1) (hv : Value.okWide Tryz.prog W .any base t v)
    (h : DataW.Trod enc Tryz.prog W 0 (fun _ => true) held t v d p) :
    ∃ a len cap, v = .slice a len cap ∧ len ≤ cap ∧ (len = 0 ∨ ∃ b off, a = some ⟨b, off, none⟩ ∧ cap ≤ maxLen ∧ b < W.heap.size ∧
      ∀ i, i < len → W.cell? ⟨b, off + i, none⟩ = some (.bool (boolAt W b (off + i)))) := by
  obtain ⟨a0, len, cap, rfl⟩ := okWide_slice ht hv
  obtain ⟨fuel, hf'⟩ := h
  rcases open_slice ht hf' with ⟨hcs, hx⟩ | ⟨a, len', cap', m, n, D, Pl, hcs, _, hl, hm, hmm, hx, hall⟩
  · simp [Value.cells] at hcs
    obtain ⟨rfl, rfl, rfl⟩ := hcs
    exact ⟨none, 0, 0, rfl, Nat.le_refl _, .inl rfl⟩
  · simp [Value.cells] at hcs
    obtain ⟨rfl, rfl, rfl⟩ := hcs
    simp only [if_true] at hmm
    refine ⟨some a, len, cap, rfl, hl, ?_⟩
    rcases Nat.eq_zero_or_pos len with h0 | h0
    · exact .inl h0
    · right
      have one : ∀ i, i < len → ∃ z, W.cell? (a.add i) = some (.bool z) := by
        intro i hi'
        obtain ⟨cs', hc, htr⟩ := hall i (by omega)
        rw [hC] at hc
        obtain ⟨z, rfl, _⟩ := DataW.trod_bool he htr
        obtain ⟨_, hcl, hat⟩ := World.cells?_some hc
        have := hat 0 (by simp)
        rw [Nat.mul_one] at this
        refine ⟨z, ?_⟩
        simpa [Addr.add] using this
      obtain ⟨z0, hz0⟩ := one 0 h0
      have hsp := cell_spot hz0
      obtain ⟨b, o, s⟩ := a
      obtain rfl : s = none := by
        have := congrArg Addr.spot hsp
        simpa [Addr.add] using this
      refine ⟨b, o, rfl, hm, ?_, fun i hi' => ?_⟩
      · have := World.block_lt_of_cell? _ _ hz0
        rw [add_plain] at this
        exact this
      · obtain ⟨z, hz⟩ := one i hi'
        rw [add_plain] at hz
        have : boolAt W b (o + i) = z := by unfold boolAt; rw [hz]
        rw [this]
        exact hz
end Go.Proofs.YtafkndhnbnpahaaGreat
/- Law 13: a slice of spans that comes as an argument, opened. -/
namespace Go.Proofs.YtafkndhnbnpahaaGreat
open Go.RowKit Go.WideShapes Go.ChangeShapes
set_option maxRecDepth 100000 in
theorem sp_arg {H : Type} {enc : TypeId × Value → H} {W : World} {base : Nat} {held : Bool} {v : Value} {d : DataW H} {p : List MemPlace} (hv : Value.okWide Tryz.prog W .any base 27 v) (h : DataW.Trod enc Tryz.prog W 0 (fun _ => true) held 27 v d p) :
    ∃ n F T, SpArg W v n F T ∧ n ≤ 9223372036854775807 := by
  obtain ⟨a, len, cap, rfl, hl, hx⟩ := int_structs_at Tryz.underlying27 Tryz.underlying51 (by kernel_rfl) (by kernel_rfl) (by decide) Tryz.underlying3 (fun j f hf => by
    match j, hf with
    | 0, hf => cases hf; rfl
    | 1, hf => cases hf; rfl
    | n + 2, hf => simp at hf) hv h
  rcases hx with h0 | ⟨b, off, rfl, hm, hc⟩
  · subst h0
    exact ⟨0, fun _ => 0, fun _ => 0, ⟨a, cap, rfl, hl, .inl rfl⟩, by decide⟩
  · refine ⟨len, fun k => numAt W b (off + (k * 2 + 0)), fun k => numAt W b (off + (k * 2 + 1)), ⟨_, cap, rfl, hl, .inr ⟨b, off, rfl, hm, fun k hk => ?_⟩⟩, by unfold maxLen at hm; omega⟩
    have h1 := hc k hk 0 (by decide)
    have h2 := hc k hk 1 (by decide)
    exact ⟨h1.1, h2.1, h1.2, h2.2⟩
end Go.Proofs.YtafkndhnbnpahaaGreat
/- Law 13: CallParams that come as arguments, opened to plain data. -/
namespace Go.Proofs.YtafkndhnbnpahaaGreat
open Go.RowKit Go.ChangeShapes Go.WideShapes Go.Deep
theorem I64.of {n : Int} (h : (Lit.int .i64 n).wf = true) : I64 n := bounds_i64 h
/-- what a CallParams that came holds -/
structure CpArg (w : World) (c : Cp) : Prop where
  kind : I64 c.kind
  ticks : I64 c.ticks
  size : I64 c.size
  sp : ∃ n F T, SpArg w c.sv n F T ∧ n ≤ 9223372036854775807
  last : I64 c.last
  ft : I64 c.ft
  fa : I64 c.fa
  fb : I64 c.fb
  fc : I64 c.fc
  fs : c.fs.size ≤ maxLen
  fsp : ∃ n F T, SpArg w c.fsv n F T ∧ n ≤ 9223372036854775807
  pn : I64 c.p.pn
  time : I64 c.p.time
  psize : I64 c.p.size
  fv : ∃ a n k, c.p.fv = .slice a n k
theorem CpArg.below {w w' : World} {c : Cp} (h : CpArg w c) (hb : Below w.heap.size w w') : CpArg w' c := by
  obtain ⟨h1, h2, h3, ⟨n, F, T, s1, s2⟩, h5, h6, h7, h8, h9, h10, ⟨m, G, U, s3, s4⟩, h12, h13, h14, h15⟩ := h
  exact ⟨h1, h2, h3, ⟨n, F, T, s1.below hb, s2⟩, h5, h6, h7, h8, h9, h10, ⟨m, G, U, s3.below hb, s4⟩, h12, h13, h14, h15⟩
section
variable {H : Type} {enc : TypeId × Value → H} {w : World} {held : Bool}
theorem cellsOf29 : Tryz.prog.cellsOf 29 = 7 := by kernel_rfl
theorem cellsOf32 : Tryz.prog.cellsOf 32 = 5 := by kernel_rfl
theorem cellsOf34 : Tryz.prog.cellsOf 34 = 17 := by kernel_rfl
theorem split1 {cs : List Value} {n : Nat} (h : cs.length = n + 1) : ∃ c l, cs = c :: l ∧ l.length = n := by
  cases cs with
  | nil => simp at h
  | cons c l => exact ⟨c, l, rfl, by simpa using h⟩
theorem get_some {α : Type} {xs : List α} {n i : Nat} (h : xs.length = n) (hi : i < n) : ∃ y, xs[i]? = some y := ⟨xs[i]'(by omega), by simp [h, hi]⟩
set_option maxRecDepth 100000 in
theorem sp_of_trod {fuel : Nat} {v : Value} {x : DataW H × List MemPlace} (h : DataW.trod enc Tryz.prog w 0 (fun _ => true) held fuel 27 [v] = some x) : ∃ n F T, SpArg w v n F T ∧ n ≤ 9223372036854775807 := by
  rcases open_slice_fields Tryz.underlying27 Tryz.underlying51 (by kernel_rfl) (by kernel_rfl) h with ⟨hcs, hx⟩ | ⟨a, len, cap, m, D, Pl, hcs, _, hl, hm, hmm, hx, hall⟩
  · obtain rfl : v = .slice none 0 0 := by simpa using hcs
    exact ⟨0, fun _ => 0, fun _ => 0, ⟨none, 0, rfl, Nat.le_refl _, .inl rfl⟩, by decide⟩
  · obtain rfl : v = .slice (some a) len cap := by simpa using hcs
    simp only [if_true] at hmm
    rcases Nat.eq_zero_or_pos len with h0 | h0
    · subst h0
      exact ⟨0, fun _ => 0, fun _ => 0, ⟨_, cap, rfl, hl, .inl rfl⟩, by decide⟩
    · have one : ∀ i, i < len → ∀ j, j < 2 → ∃ z, w.cell? (a.add (i * 2 + j)) = some (.int .i64 z) ∧ (Lit.int .i64 z).wf = true := by
        intro i hi' j hj
        obtain ⟨ys, n, _, _, _, hy⟩ := hall i (by omega)
        have hj2 : j = 0 ∨ j = 1 := by omega
        rcases hj2 with rfl | rfl
        · obtain ⟨cv, y, hc, _, ht'⟩ := hy 0 _ rfl
          obtain ⟨z, hz, _, hw⟩ := DataW.trod_int Tryz.underlying3 ht'
          simp at hz
          subst hz
          exact ⟨z, hc, hw⟩
        · obtain ⟨cv, y, hc, _, ht'⟩ := hy 1 _ rfl
          obtain ⟨z, hz, _, hw⟩ := DataW.trod_int Tryz.underlying3 ht'
          simp at hz
          subst hz
          exact ⟨z, hc, hw⟩
      obtain ⟨z0, hz0, _⟩ := one 0 h0 0 (by decide)
      have hsp := cell_spot hz0
      obtain ⟨b, o, s⟩ := a
      obtain rfl : s = none := by
        have := congrArg Addr.spot hsp
        simpa [Addr.add] using this
      refine ⟨len, fun k => numAt w b (o + (k * 2 + 0)), fun k => numAt w b (o + (k * 2 + 1)), ⟨_, cap, rfl, hl, .inr ⟨b, o, rfl, hm, fun k hk => ?_⟩⟩, by unfold maxLen at hm; omega⟩
      obtain ⟨z1, c1, w1⟩ := one k hk 0 (by decide)
      obtain ⟨z2, c2, w2⟩ := one k hk 1 (by decide)
      rw [add_plain] at c1 c2
      have e1 : numAt w b (o + (k * 2 + 0)) = z1 := by unfold numAt; rw [c1]
      have e2 : numAt w b (o + (k * 2 + 1)) = z2 := by unfold numAt; rw [c2]
      simp only [e1, e2]
      exact ⟨c1, c2, w1, w2⟩
set_option maxRecDepth 100000 in
theorem open_fp {fuel : Nat} {cs : List Value} {x : DataW H × List MemPlace} (h : DataW.trod enc Tryz.prog w 0 (fun _ => true) held fuel 29 cs = some x) : ∃ ft fa fb fc fs fin fsv, cs = [.int .i64 ft, .int .i64 fa, .int .i64 fb, .int .i64 fc, .string fs, .bool fin, fsv] ∧ I64 ft ∧ I64 fa ∧ I64 fb ∧ I64 fc ∧ fs.size ≤ maxLen ∧ ∃ n F T, SpArg w fsv n F T ∧ n ≤ 9223372036854775807 := by
  obtain ⟨xs, n, _, _, hlen, hxl, hf⟩ := DataW.trod_struct Tryz.underlying29 h
  rw [cellsOf29] at hlen
  replace hxl : xs.length = 7 := hxl
  obtain ⟨a0, l0, rfl, hlen0⟩ := split1 hlen
  obtain ⟨a1, l1, rfl, hlen1⟩ := split1 hlen0
  obtain ⟨a2, l2, rfl, hlen2⟩ := split1 hlen1
  obtain ⟨a3, l3, rfl, hlen3⟩ := split1 hlen2
  obtain ⟨a4, l4, rfl, hlen4⟩ := split1 hlen3
  obtain ⟨a5, l5, rfl, hlen5⟩ := split1 hlen4
  obtain ⟨a6, l6, rfl, hlen6⟩ := split1 hlen5
  obtain rfl := List.eq_nil_of_length_eq_zero hlen6
  have h0 := hf 0 _ rfl
  obtain ⟨y0, e0⟩ := get_some hxl (show 0 < 7 by decide)
  rw [e0] at h0
  replace h0 : DataW.trod enc Tryz.prog w 0 (fun _ => true) held n 3 [a0] = some y0 := h0
  obtain ⟨z0, ez0, _, hw0⟩ := DataW.trod_int Tryz.underlying3 h0
  obtain rfl : a0 = .int .i64 z0 := by simpa using ez0
  have h1 := hf 1 _ rfl
  obtain ⟨y1, e1⟩ := get_some hxl (show 1 < 7 by decide)
  rw [e1] at h1
  replace h1 : DataW.trod enc Tryz.prog w 0 (fun _ => true) held n 3 [a1] = some y1 := h1
  obtain ⟨z1, ez1, _, hw1⟩ := DataW.trod_int Tryz.underlying3 h1
  obtain rfl : a1 = .int .i64 z1 := by simpa using ez1
  have h2 := hf 2 _ rfl
  obtain ⟨y2, e2⟩ := get_some hxl (show 2 < 7 by decide)
  rw [e2] at h2
  replace h2 : DataW.trod enc Tryz.prog w 0 (fun _ => true) held n 3 [a2] = some y2 := h2
  obtain ⟨z2, ez2, _, hw2⟩ := DataW.trod_int Tryz.underlying3 h2
  obtain rfl : a2 = .int .i64 z2 := by simpa using ez2
  have h3 := hf 3 _ rfl
  obtain ⟨y3, e3⟩ := get_some hxl (show 3 < 7 by decide)
  rw [e3] at h3
  replace h3 : DataW.trod enc Tryz.prog w 0 (fun _ => true) held n 3 [a3] = some y3 := h3
  obtain ⟨z3, ez3, _, hw3⟩ := DataW.trod_int Tryz.underlying3 h3
  obtain rfl : a3 = .int .i64 z3 := by simpa using ez3
  have h4 := hf 4 _ rfl
  obtain ⟨y4, e4⟩ := get_some hxl (show 4 < 7 by decide)
  rw [e4] at h4
  replace h4 : DataW.trod enc Tryz.prog w 0 (fun _ => true) held n 9 [a4] = some y4 := h4
  obtain ⟨z4, ez4, _, hw4⟩ := DataW.trod_string Tryz.underlying9 h4
  obtain rfl : a4 = .string z4 := by simpa using ez4
  have h5 := hf 5 _ rfl
  obtain ⟨y5, e5⟩ := get_some hxl (show 5 < 7 by decide)
  rw [e5] at h5
  replace h5 : DataW.trod enc Tryz.prog w 0 (fun _ => true) held n 4 [a5] = some y5 := h5
  obtain ⟨z5, ez5, _⟩ := DataW.trod_bool Tryz.underlying4 h5
  obtain rfl : a5 = .bool z5 := by simpa using ez5
  have h6 := hf 6 _ rfl
  obtain ⟨y6, e6⟩ := get_some hxl (show 6 < 7 by decide)
  rw [e6] at h6
  replace h6 : DataW.trod enc Tryz.prog w 0 (fun _ => true) held n 27 [a6] = some y6 := h6
  have hw6 := sp_of_trod h6
  exact ⟨z0, z1, z2, z3, z4, z5, a6, rfl, I64.of hw0, I64.of hw1, I64.of hw2, I64.of hw3, hw4, hw6⟩
set_option maxRecDepth 100000 in
theorem open_pkc {fuel : Nat} {cs : List Value} {x : DataW H × List MemPlace} (h : DataW.trod enc Tryz.prog w 0 (fun _ => true) held fuel 32 cs = some x) : ∃ p : Pk, cs = p.cells.toList ∧ I64 p.pn ∧ I64 p.time ∧ I64 p.size ∧ (∃ a n k, p.fv = .slice a n k) := by
  obtain ⟨xs, n, _, _, hlen, hxl, hf⟩ := DataW.trod_struct Tryz.underlying32 h
  rw [cellsOf32] at hlen
  replace hxl : xs.length = 5 := hxl
  obtain ⟨a0, l0, rfl, hlen0⟩ := split1 hlen
  obtain ⟨a1, l1, rfl, hlen1⟩ := split1 hlen0
  obtain ⟨a2, l2, rfl, hlen2⟩ := split1 hlen1
  obtain ⟨a3, l3, rfl, hlen3⟩ := split1 hlen2
  obtain ⟨a4, l4, rfl, hlen4⟩ := split1 hlen3
  obtain rfl := List.eq_nil_of_length_eq_zero hlen4
  have h0 := hf 0 _ rfl
  obtain ⟨y0, e0⟩ := get_some hxl (show 0 < 5 by decide)
  rw [e0] at h0
  replace h0 : DataW.trod enc Tryz.prog w 0 (fun _ => true) held n 3 [a0] = some y0 := h0
  obtain ⟨z0, ez0, _, hw0⟩ := DataW.trod_int Tryz.underlying3 h0
  obtain rfl : a0 = .int .i64 z0 := by simpa using ez0
  have h1 := hf 1 _ rfl
  obtain ⟨y1, e1⟩ := get_some hxl (show 1 < 5 by decide)
  rw [e1] at h1
  replace h1 : DataW.trod enc Tryz.prog w 0 (fun _ => true) held n 3 [a1] = some y1 := h1
  obtain ⟨z1, ez1, _, hw1⟩ := DataW.trod_int Tryz.underlying3 h1
  obtain rfl : a1 = .int .i64 z1 := by simpa using ez1
  have h2 := hf 2 _ rfl
  obtain ⟨y2, e2⟩ := get_some hxl (show 2 < 5 by decide)
  rw [e2] at h2
  replace h2 : DataW.trod enc Tryz.prog w 0 (fun _ => true) held n 3 [a2] = some y2 := h2
  obtain ⟨z2, ez2, _, hw2⟩ := DataW.trod_int Tryz.underlying3 h2
  obtain rfl : a2 = .int .i64 z2 := by simpa using ez2
  have h3 := hf 3 _ rfl
  obtain ⟨y3, e3⟩ := get_some hxl (show 3 < 5 by decide)
  rw [e3] at h3
  replace h3 : DataW.trod enc Tryz.prog w 0 (fun _ => true) held n 4 [a3] = some y3 := h3
  obtain ⟨z3, ez3, _⟩ := DataW.trod_bool Tryz.underlying4 h3
  obtain rfl : a3 = .bool z3 := by simpa using ez3
  have h4 := hf 4 _ rfl
  obtain ⟨y4, e4⟩ := get_some hxl (show 4 < 5 by decide)
  rw [e4] at h4
  replace h4 : DataW.trod enc Tryz.prog w 0 (fun _ => true) held n 30 [a4] = some y4 := h4
  have hw4 : ∃ a n k, a4 = .slice a n k := by
    rcases open_slice Tryz.underlying30 h4 with ⟨ez, _⟩ | ⟨_, _, _, _, _, _, _, ez, _⟩
    · exact ⟨_, _, _, by simpa using ez⟩
    · exact ⟨_, _, _, by simpa using ez⟩
  exact ⟨⟨z0, z1, z2, z3, a4⟩, rfl, I64.of hw0, I64.of hw1, I64.of hw2, hw4⟩
set_option maxRecDepth 100000 in
theorem open_cp {fuel : Nat} {cs : List Value} {x : DataW H × List MemPlace} (h : DataW.trod enc Tryz.prog w 0 (fun _ => true) held fuel 34 cs = some x) : ∃ c : Cp, cs = c.cells.toList ∧ CpArg w c := by
  obtain ⟨xs, n, _, _, hlen, hxl, hf⟩ := DataW.trod_struct Tryz.underlying34 h
  rw [cellsOf34] at hlen
  replace hxl : xs.length = 7 := hxl
  obtain ⟨a0, l0, rfl, hlen0⟩ := split1 hlen
  obtain ⟨a1, l1, rfl, hlen1⟩ := split1 hlen0
  obtain ⟨a2, l2, rfl, hlen2⟩ := split1 hlen1
  obtain ⟨a3, l3, rfl, hlen3⟩ := split1 hlen2
  obtain ⟨a4, l4, rfl, hlen4⟩ := split1 hlen3
  obtain ⟨a5, l5, rfl, hlen5⟩ := split1 hlen4
  obtain ⟨a6, l6, rfl, hlen6⟩ := split1 hlen5
  obtain ⟨a7, l7, rfl, hlen7⟩ := split1 hlen6
  obtain ⟨a8, l8, rfl, hlen8⟩ := split1 hlen7
  obtain ⟨a9, l9, rfl, hlen9⟩ := split1 hlen8
  obtain ⟨a10, l10, rfl, hlen10⟩ := split1 hlen9
  obtain ⟨a11, l11, rfl, hlen11⟩ := split1 hlen10
  obtain ⟨a12, l12, rfl, hlen12⟩ := split1 hlen11
  obtain ⟨a13, l13, rfl, hlen13⟩ := split1 hlen12
  obtain ⟨a14, l14, rfl, hlen14⟩ := split1 hlen13
  obtain ⟨a15, l15, rfl, hlen15⟩ := split1 hlen14
  obtain ⟨a16, l16, rfl, hlen16⟩ := split1 hlen15
  obtain rfl := List.eq_nil_of_length_eq_zero hlen16
  have h0 := hf 0 _ rfl
  obtain ⟨y0, e0⟩ := get_some hxl (show 0 < 7 by decide)
  rw [e0] at h0
  replace h0 : DataW.trod enc Tryz.prog w 0 (fun _ => true) held n 3 [a0] = some y0 := h0
  obtain ⟨z0, ez0, _, hw0⟩ := DataW.trod_int Tryz.underlying3 h0
  obtain rfl : a0 = .int .i64 z0 := by simpa using ez0
  have h1 := hf 1 _ rfl
  obtain ⟨y1, e1⟩ := get_some hxl (show 1 < 7 by decide)
  rw [e1] at h1
  replace h1 : DataW.trod enc Tryz.prog w 0 (fun _ => true) held n 3 [a1] = some y1 := h1
  obtain ⟨z1, ez1, _, hw1⟩ := DataW.trod_int Tryz.underlying3 h1
  obtain rfl : a1 = .int .i64 z1 := by simpa using ez1
  have h2 := hf 2 _ rfl
  obtain ⟨y2, e2⟩ := get_some hxl (show 2 < 7 by decide)
  rw [e2] at h2
  replace h2 : DataW.trod enc Tryz.prog w 0 (fun _ => true) held n 3 [a2] = some y2 := h2
  obtain ⟨z2, ez2, _, hw2⟩ := DataW.trod_int Tryz.underlying3 h2
  obtain rfl : a2 = .int .i64 z2 := by simpa using ez2
  have h3 := hf 3 _ rfl
  obtain ⟨y3, e3⟩ := get_some hxl (show 3 < 7 by decide)
  rw [e3] at h3
  replace h3 : DataW.trod enc Tryz.prog w 0 (fun _ => true) held n 27 [a3] = some y3 := h3
  have hw3 := sp_of_trod h3
  have h4 := hf 4 _ rfl
  obtain ⟨y4, e4⟩ := get_some hxl (show 4 < 7 by decide)
  rw [e4] at h4
  replace h4 : DataW.trod enc Tryz.prog w 0 (fun _ => true) held n 3 [a4] = some y4 := h4
  obtain ⟨z4, ez4, _, hw4⟩ := DataW.trod_int Tryz.underlying3 h4
  obtain rfl : a4 = .int .i64 z4 := by simpa using ez4
  have h5 := hf 5 _ rfl
  obtain ⟨y5, e5⟩ := get_some hxl (show 5 < 7 by decide)
  rw [e5] at h5
  replace h5 : DataW.trod enc Tryz.prog w 0 (fun _ => true) held n 29 [a5, a6, a7, a8, a9, a10, a11] = some y5 := h5
  have h6 := hf 6 _ rfl
  obtain ⟨y6, e6⟩ := get_some hxl (show 6 < 7 by decide)
  rw [e6] at h6
  replace h6 : DataW.trod enc Tryz.prog w 0 (fun _ => true) held n 32 [a12, a13, a14, a15, a16] = some y6 := h6
  obtain ⟨ft, fa, fb, fc, fs, fin, fsv, ee, g1, g2, g3, g4, g5, g6⟩ := open_fp h5
  obtain ⟨p, ep, p1, p2, p3, p4⟩ := open_pkc h6
  simp only [List.cons.injEq, and_true] at ee
  obtain ⟨rfl, rfl, rfl, rfl, rfl, rfl, rfl⟩ := ee
  obtain ⟨pn, time, psize, el, fv⟩ := p
  simp only [Pk.cells, List.cons.injEq, and_true] at ep
  obtain ⟨rfl, rfl, rfl, rfl, rfl⟩ := ep
  exact ⟨⟨z0, z1, z2, a3, z4, ft, fa, fb, fc, fs, fin, a11, ⟨pn, time, psize, el, a16⟩⟩, rfl, ⟨I64.of hw0, I64.of hw1, I64.of hw2, hw3, I64.of hw4, g1, g2, g3, g4, g5, g6, p1, p2, p3, p4⟩⟩
set_option maxRecDepth 100000 in
/-- a CallParams by value -/
theorem cp_arg {base : Nat} {v : Value} {d : DataW H} {p : List MemPlace} (hv : Value.okWide Tryz.prog w .any base 34 v) (h : DataW.Trod enc Tryz.prog w 0 (fun _ => true) held 34 v d p) : ∃ c : Cp, v = .agg c.cells ∧ CpArg w c := by
  obtain ⟨cs, rfl, hsz⟩ := okWide_struct Tryz.underlying34 hv
  obtain ⟨fuel, hf⟩ := h
  obtain ⟨c, e, hc⟩ := open_cp hf
  refine ⟨c, ?_, hc⟩
  congr 1
  have e : cs.toList = c.cells.toList := by simpa [Value.cells] using e
  exact Array.toList_inj.1 e
end
end Go.Proofs.YtafkndhnbnpahaaGreat
/- Law 13: a slice of CallParams that comes as an argument, opened. -/
namespace Go.Proofs.YtafkndhnbnpahaaGreat
open Go.RowKit Go.ChangeShapes Go.WideShapes Go.Deep
/-- the slice v holds the CallParams -/
def CpsAt (w : World) (v : Value) (l : List Cp) : Prop := (l = [] ∧ ∃ a cap, v = .slice a 0 cap) ∨
  ∃ b off cap, v = .slice (some ⟨b, off, none⟩) l.length cap ∧ 0 < l.length ∧ l.length ≤ cap ∧ cap ≤ maxLen ∧ ∀ i c, l[i]? = some c → w.rangeAt b (off + i * 17) c.cells.toList
instance : Inhabited Cp := ⟨⟨0, 0, 0, .slice none 0 0, 0, 0, 0, 0, 0, ⟨#[]⟩, false, .slice none 0 0, ⟨0, 0, 0, false, .slice none 0 0⟩⟩⟩
set_option maxRecDepth 100000 in
theorem cps_at {H : Type} {enc : TypeId × Value → H} {W : World} {base : Nat} {held : Bool} {v : Value} {d : DataW H} {p : List MemPlace} (hv : Value.okWide Tryz.prog W .any base 22 v)
    (h : DataW.Trod enc Tryz.prog W 0 (fun _ => true) held 22 v d p) : ∃ l, CpsAt W v l ∧ l.length ≤ maxLen ∧ ∀ c ∈ l, CpArg W c := by
  obtain ⟨a0, len, cap, rfl⟩ := okWide_slice Tryz.underlying22 hv
  obtain ⟨fuel, hf'⟩ := h
  rcases open_slice Tryz.underlying22 hf' with ⟨hcs, hx⟩ | ⟨a, len', cap', m, n, D, Pl, hcs, _, hl, hm, hmm, hx, hall⟩
  · simp [Value.cells] at hcs
    obtain ⟨rfl, rfl, rfl⟩ := hcs
    exact ⟨[], .inl ⟨rfl, _, _, rfl⟩, by simp, by simp⟩
  · simp [Value.cells] at hcs
    obtain ⟨rfl, rfl, rfl⟩ := hcs
    simp only [if_true] at hmm
    rcases Nat.eq_zero_or_pos len with h0 | h0
    · subst h0
      exact ⟨[], .inl ⟨rfl, _, _, rfl⟩, by simp, by simp⟩
    · have one : ∀ i, ∃ c : Cp, i < len → (∀ j u, c.cells.toList[j]? = some u → W.cell? ((a.add (i * 17)).add j) = some u) ∧ CpArg W c := by
        intro i
        by_cases hi : i < len
        · obtain ⟨cs', hc, ht'⟩ := hall i (by omega)
          obtain ⟨c, rfl, hw⟩ := open_cp ht'
          rw [cellsOf34] at hc
          obtain ⟨_, hcl, hat⟩ := World.cells?_some hc
          refine ⟨c, fun _ => ⟨fun j u hu => ?_, hw⟩⟩
          have hj : j < 17 := by have := (List.getElem?_eq_some_iff.1 hu).1; rw [hcl] at this; exact this
          rw [hat j hj]; exact hu
        · exact ⟨default, fun h => absurd h hi⟩
      obtain ⟨g, hg⟩ := Classical.axiomOfChoice one
      have hsp : a.spot = none := by
        have := cell_spot ((hg 0 h0).1 0 _ rfl)
        have := congrArg Addr.spot this
        simpa [Addr.add] using this
      obtain ⟨b, o, s⟩ := a
      obtain rfl : s = none := hsp
      have hlen : ((List.range len).map g).length = len := by simp
      refine ⟨(List.range len).map g, .inr ⟨b, o, cap, by rw [hlen], by omega, by omega, hm, fun i c hi j u hu => ?_⟩, by omega, fun c hc => ?_⟩
      · have hil : i < len := by have := (List.getElem?_eq_some_iff.1 hi).1; omega
        have : c = g i := by simpa [List.getElem?_map, List.getElem?_range hil] using hi.symm
        subst this
        have := (hg i hil).1 j u hu
        rw [add_plain, add_plain] at this
        exact this
      · obtain ⟨i, hi, rfl⟩ := List.mem_map.1 hc
        exact (hg i (by simpa using hi)).2
theorem CpsAt.below {w w' : World} {v : Value} {l : List Cp} (h : CpsAt w v l) (hb : Below w.heap.size w w') : CpsAt w' v l := by
  rcases h with h | ⟨b, off, cap, h1, h2, h3, h4, h5⟩
  · exact .inl h
  · exact .inr ⟨b, off, cap, h1, h2, h3, h4, fun i c hi j u hu => (hb.cell (p := ⟨b, off + i * 17 + j, none⟩) (World.block_lt_of_cell? _ _ (h5 i c hi j u hu))).trans (h5 i c hi j u hu)⟩
theorem CpsAt.form {w : World} {v : Value} {l : List Cp} (h : CpsAt w v l) : ∃ a cap, v = .slice a l.length cap := by
  rcases h with ⟨rfl, a, cap, rfl⟩ | ⟨b, off, cap, rfl, _⟩
  · exact ⟨_, _, rfl⟩
  · exact ⟨_, _, rfl⟩
theorem size34 (c : Cp) : (Tryz.prog.info? 34).map (·.size) = some c.cells.toList.length := info34
/-- a CallParams out of the slice -/
theorem wpList_load_cp {ops : Array Oper} {rest : List Oper} {o : Oper} {a : Act} {w : World} {Q : Exit → Act → World → Prop} (hgd : o.guard = none) (x : Operand) (ho : o.op = .load 34 x) (c : Cp)
    (g k : Nat) (hx : a.eval x = .pointer (some ⟨g, k, none⟩)) (hc : w.rangeAt g k c.cells.toList)
    (h : wpList Tryz.prog ops Q rest (a.put o.dst (.agg c.cells)) w) : wpList Tryz.prog ops Q (o :: rest) a w :=
  wpList_load_mid hgd 34 x ho g k hx c.cells.toList _ hc Tryz.underlying34 rfl (size34 c) (by rw [Array.toArray_toList]; exact h)
theorem hold_load {P : Program} {ops : Array Oper} {rest : List Oper} {o : Oper} {a : Act} {w : World} {Q : Exit → Act → World → Prop} (ty : TypeId) (x : Operand) (_ho : o.op = .load ty x) (h : Hid (wpList P ops Q (o :: rest) a w)) : wpList P ops Q (o :: rest) a w := h.out
/-- 'c := l[i]': the variable made and set -/
theorem wpList_store_cp {ops : Array Oper} {rest : List Oper} {o : Oper} {a : Act} {w : World} {Q : Exit → Act → World → Prop} (hgd : o.guard = none) (x y : Operand) (ho : o.op = .store 34 x y) (c : Cp) (h1 : c.cells.all (·.oneCell') = true)
    (cs : Array Value) (hcs : cs.size = 17) (hx : a.eval x = .pointer (some ⟨w.heap.size, 0, none⟩)) (hy : a.eval y = .agg c.cells)
    (h : wpList Tryz.prog ops Q rest (a.put o.dst undef) (w.alloc (.cells c.cells 34))) : wpList Tryz.prog ops Q (o :: rest) a (w.alloc (.cells cs 34)) :=
  wpList_store_row hgd 34 x y ho w.heap.size c.cells hx hy 34 cs (heap_alloc_new _ _) info34 hcs h1 (by rw [World.setRow_alloc_new]; exact h)
theorem CpArg.one {w : World} {c : Cp} (h : CpArg w c) : c.cells.all (·.oneCell') = true := by
  obtain ⟨n, F, T, ⟨a, cap, e, _⟩, _⟩ := h.sp
  obtain ⟨m, G, U, ⟨a2, cap2, e2, _⟩, _⟩ := h.fsp
  obtain ⟨a3, n3, k3, e3⟩ := h.fv
  unfold Cp.cells
  rw [e, e2, e3]
  simp [Value.oneCell']
end Go.Proofs.YtafkndhnbnpahaaGreat
/- Law 13: count. -/
namespace Go.Proofs.YtafkndhnbnpahaaGreat
open Go.RowKit Go.WideShapes Go.ChangeShapes
def ints (l : List Int) : List Value := l.map (.int .i64)
def inR (v : Value) (l : List Int) : Rw := ⟨3, 1, v, l.length, ints l⟩
/-- how many packets of the list have number i -/
def cntP (l : List Pk) (i : Nat) : Int := ((l.filter (fun p => p.pn == (i : Int))).length : Int)
def bump1 (T : List Int) (p : Pk) : List Int := T.set p.pn.toNat (T[p.pn.toNat]?.getD 0 + 1)
def bump (T : List Int) (l : List Pk) : List Int := l.foldl bump1 T
theorem bump1_len (T : List Int) (p : Pk) : (bump1 T p).length = T.length := by simp [bump1]
theorem bump_len (l : List Pk) : ∀ T, (bump T l).length = T.length := by
  induction l with
  | nil => intro T; rfl
  | cons p l ih => intro T; show (bump (bump1 T p) l).length = _; rw [ih, bump1_len]
theorem bump_snoc (T : List Int) (l : List Pk) (p : Pk) : bump T (l ++ [p]) = bump1 (bump T l) p := by simp [bump]
theorem cntP_nil (i : Nat) : cntP [] i = 0 := rfl
theorem cntP_snoc (l : List Pk) (p : Pk) (i : Nat) : cntP (l ++ [p]) i = cntP l i + if p.pn = i then 1 else 0 := by
  unfold cntP
  rw [List.filter_append]
  by_cases h : p.pn = i <;> simp [h]
theorem cntP_cons (l : List Pk) (p : Pk) (i : Nat) : cntP (p :: l) i = cntP l i + if p.pn = i then 1 else 0 := by
  unfold cntP
  by_cases h : p.pn = i <;> simp [h]
theorem cntP_nonneg (l : List Pk) (i : Nat) : 0 ≤ cntP l i := Int.natCast_nonneg _
theorem cntP_le (l : List Pk) (i : Nat) : cntP l i ≤ l.length := by
  unfold cntP
  have := List.length_filter_le (fun p : Pk => p.pn == (i : Int)) l
  omega
theorem bump1_get (T : List Int) (p : Pk) (i : Nat) (hi : i < T.length) (h0 : 0 ≤ p.pn) : (bump1 T p)[i]?.getD 0 = T[i]?.getD 0 + if p.pn = i then 1 else 0 := by
  unfold bump1
  rw [List.getElem?_set]
  by_cases h : p.pn = i
  · have : p.pn.toNat = i := by omega
    simp [h, hi]
  · have : p.pn.toNat ≠ i := by omega
    simp [h, this]
theorem bump_get (l : List Pk) : ∀ (T : List Int) (i : Nat), i < T.length → (∀ p ∈ l, 0 ≤ p.pn) → (bump T l)[i]?.getD 0 = T[i]?.getD 0 + cntP l i := by
  induction l with
  | nil => intro T i _ _; show T[i]?.getD 0 = _; simp [cntP]
  | cons p l ih =>
    intro T i hi h
    show (bump (bump1 T p) l)[i]?.getD 0 = _
    rw [ih _ _ (by rw [bump1_len]; exact hi) (fun q hq => h q (by simp [hq])), bump1_get _ _ _ hi (h p (by simp)), cntP_cons]
    omega
theorem cntP_split (f : Pk → Bool) (l : List Pk) (i : Nat) : cntP (l.filter f) i + cntP (l.filter (fun p => !f p)) i = cntP l i := by
  induction l with
  | nil => rfl
  | cons p l ih =>
    by_cases h : f p
    · simp only [List.filter_cons, h, if_true, Bool.not_true, Bool.false_eq_true, if_false, cntP_cons]; omega
    · simp only [List.filter_cons, h, if_false, Bool.not_false, Bool.false_eq_true, if_true, cntP_cons]; omega
theorem ints_get (T : List Int) (j : Nat) (hj : j < T.length) : (ints T)[j]? = some (.int .i64 (T[j]?.getD 0)) := by
  unfold ints
  rw [List.getElem?_map, List.getElem?_eq_getElem hj]; rfl
theorem ints_set (T : List Int) (j : Nat) (x : Int) : (ints T).set j (.int .i64 x) = ints (T.set j x) := by
  unfold ints
  rw [List.map_set]
theorem PkRow.apart {B B' g n cap : Nat} {w w' : World} {v : Value} {l : List Pk} {xs : List Value} (h : PkRow B w v l) (hr : w.ownsRow B' 3 1 (.slice (some ⟨g, 0, none⟩) n cap) n xs) (ht : Tu g g w w') : PkRow B w' v l := by
  refine ⟨⟨h.1.1, ?_⟩, h.2⟩
  rcases h.1.2 with h1 | ⟨g1, c1, cur, rfl, hb, hgg, rest⟩
  · exact .inl h1
  · have hne : g1 ≠ g := fun e => by
      subst e
      rcases hr.2 with ⟨h', _⟩ | ⟨g', cap', cur', h', _, hg, _⟩
      · simp at h'
      · simp only [Value.slice.injEq, Option.some.injEq, Addr.mk.injEq, and_true, true_and] at h'
        obtain ⟨rfl, rfl⟩ := h'
        rw [hgg] at hg
        cases hg
    exact .inr ⟨g1, c1, cur, rfl, hb, (ht.block g1 (heap_lt hgg) hne hne).trans hgg, rest⟩
/-- every number of the list is that of a counter -/
def InT (T : List Int) (l : List Pk) : Prop := ∀ p ∈ l, 0 ≤ p.pn ∧ p.pn < T.length
def Few (T : List Int) : Prop := T.length ≤ 10000 ∧ ∀ i : Nat, 0 ≤ T[i]?.getD 0 ∧ T[i]?.getD 0 ≤ 1000000
theorem Few.bump {T : List Int} {l : List Pk} (h : Few T) (hl : InT T l) (i : Nat) (hi : i < T.length) : 0 ≤ (bump T l)[i]?.getD 0 ∧ (bump T l)[i]?.getD 0 ≤ 1000000 + l.length := by
  rw [bump_get l T i hi (fun p hp => (hl p hp).1)]
  have := h.2 i
  have := cntP_nonneg l i
  have := cntP_le l i
  omega
def CntPost (B : Nat) (tv : Value) (T : List Int) (l : List Pk) (g : Nat) (w : World) (e : Ending) (w' : World) : Prop :=
  e = .returned (.bool true) ∧ w'.ownsRow B 3 1 tv (bump T l).length (ints (bump T l)) ∧ Tu g g w w'
set_option maxRecDepth 100000 in
set_option maxHeartbeats 4000000 in
theorem count_any (g cap : Nat) (B B' : Nat) (T : List Int) (v : Value) (l : List Pk) (w : World) (hr : w.ownsRow B 3 1 (.slice (some ⟨g, 0, none⟩) T.length cap) T.length (ints T)) (hp : PkRow B' w v l) (hin : InT T l) (hf : Few T) (hll : l.length ≤ 10000) :
    Calls Tryz.prog 32 #[.slice (some ⟨g, 0, none⟩) T.length cap, v] w (CntPost B (.slice (some ⟨g, 0, none⟩) T.length cap) T l g w) := by
  have hfm := hp.form
  have hv : ∃ a c, v = .slice a l.length c := by
    rcases hfm with ⟨rfl, rfl⟩ | ⟨g1, c1, cur, rfl, _⟩
    · exact ⟨_, _, rfl⟩
    · exact ⟨_, _, rfl⟩
  obtain ⟨a, c, rfl⟩ := hv
  have HP := Lib.hid hp
  have HR := Lib.hid hr
  have HIN := Lib.hid hin
  have HF := Lib.hid hf
  have hT := hf.1
  clear hp hr hin hf hfm
  go_enter Tryz.func32, Tryz.ntmps32
  go_wp2_with fail
  go_loopw [5] (fun i wr => ∃ j : Nat, j ≤ l.length ∧ i = .int .i64 j ∧ wr.ownsRow B 3 1 (.slice (some ⟨g, 0, none⟩) T.length cap) (bump T (l.take j)).length (ints (bump T (l.take j))) ∧ Tu g g w wr) (fun i _ => l.length - (intOf i).toNat)
  case atStart => exact ⟨0, by omega, rfl, HR.out, Tu.refl _ _ _⟩
  case round =>
    obtain ⟨j, hj, rfl, h1, h2⟩ := hrel
    have HJ := Lib.hid (And.intro h1 h2)
    clear h1 h2
    by_cases hjl : j < l.length
    · have hpn := HIN.out (l[j]'hjl) (List.getElem_mem hjl)
      have PJ := HP.out.apart HR.out HJ.out.2
      rcases PJ.form with ⟨_, h0⟩ | ⟨g1, c1, cur, e, hpos, hcap, hcm, _, _, hcell⟩
      · rw [h0] at hjl; cases hjl
      · cases e
        have q0 := (hcell j hjl).1
        have TK := Lib.hid (show l.take (j + 1) = l.take j ++ [l[j]'hjl] from by rw [List.take_add_one, List.getElem?_eq_getElem hjl]; rfl)
        have SN := Lib.hid (bump_snoc T (l.take j) (l[j]'hjl))
        clear hcell
        generalize l[j]'hjl = p at *
        obtain ⟨m, hm⟩ : ∃ m : Nat, p.pn = m := ⟨p.pn.toNat, by omega⟩
        have hmt : m < T.length := by omega
        rw [hm] at q0
        have hbl := bump_len (l.take j) T
        have hb := HF.out.bump (l := l.take j) (fun q hq => HIN.out q (List.mem_of_mem_take hq)) m hmt
        have hlj : (l.take j).length ≤ 10000 := by rw [List.length_take]; omega
        have hrow : wr.ownsRow B 3 1 (.slice (some ⟨g, 0, none⟩) T.length cap) T.length (ints (bump T (l.take j))) := by have := HJ.out.1; rw [hbl] at this; exact this
        have c0 := hrow.cellAt m (by omega)
        rw [ints_get _ _ (by omega)] at c0
        have z0 := hrow.frozenAt m
        obtain ⟨x, hx⟩ : ∃ x, (bump T (l.take j))[m]?.getD 0 = x := ⟨_, rfl⟩
        have ST := Lib.hid (hrow.stored m (.int .i64 (x + 1)))
        have BB := Lib.hid (show bump1 (bump T (l.take j)) p = (bump T (l.take j)).set m (x + 1) from by unfold bump1; rw [hm, Int.toNat_natCast, hx])
        rw [hx] at c0 hb
        obtain ⟨hb0, hb1⟩ := hb
        have HL1 := Lib.hid hbl
        have i0 : (0 : Int) ≤ (j : Int) := by omega
        have i1 : (j : Int) < (l.length : Int) := by omega
        have i2 : ((m : Int) < 0) = False := eq_false (by omega)
        have i3 : ((T.length : Int) ≤ (m : Int)) = False := eq_false (by omega)
        have i4 : (m : Int) < (T.length : Int) := by omega
        have i5 : x ≤ 2000000 := by omega
        clear hm hx hbl hrow hpn PJ hlj hb1
        unfold maxLen at hcm
        go_wp2
        go_roundw
        case rel =>
          refine ⟨j + 1, by omega, by go_num, ?_, HJ.out.2.trans (Tu.set _ _ _)⟩
          rw [TK.out, SN.out, BB.out, List.length_set, HL1.out, ← ints_set]
          exact ST.out.1
        case measure => simp [intOf]; omega
    · obtain rfl : j = l.length := by omega
      have HE := Lib.hid (show wr.ownsRow B 3 1 (.slice (some ⟨g, 0, none⟩) T.length cap) (bump T l).length (ints (bump T l)) ∧ Tu g g w wr from by have := HJ.out; rw [List.take_length] at this; exact this)
      clear HJ hjl hj
      go_wp2
      go_ret
      exact ⟨rfl, HE.out.1, HE.out.2⟩
end Go.Proofs.YtafkndhnbnpahaaGreat
/- Law 13: count beside a Recovery of the call's own; the counters and the packets left. -/
namespace Go.Proofs.YtafkndhnbnpahaaGreat
open Go.RowKit Go.WideShapes Go.ChangeShapes
variable {w0 w w' : World} {b M : Nat} {R : Rc} {rows rows' : List Rw} {os : List (Nat × Obj)}
def No3 (os : List (Nat × Obj)) : Prop := ∀ x ∈ os, ∃ cs T, x.2 = .cells cs T (0, 0) ∧ T ≠ 3
/-- only the row of counters has turned -/
theorem Lw.other (h : Lw w0 w b M R rows os) {g : Nat} {cur : Array Value} (hg : w.heap[g]? = some (.cells cur 3 (0, 0))) (hgb : w0.heap.size ≤ g) (ht : Tu g g w w') (hs : ∀ x ∈ rows', x ∈ rows ∧ x.e ≠ 3) (ho : No3 os) :
    Lw w0 w' b M R rows' os := by
  have hbg : b ≠ g := fun e => by subst e; have := h.at_.1; rw [hg] at this; cases this
  have hMg : M ≠ g := fun e => by subst e; have := h.at_.noC hg; cases this
  refine ⟨Tu.to_below h.bel ht hgb hgb h.bel.size, ⟨(ht.block b (heap_lt h.at_.1) hbg hbg).trans h.at_.1, h.at_.2.of_block (ht.block M h.at_.2.lt hMg hMg)⟩, h.ok, h.nil, h.ownb, h.ownM, fun x hx => ?_, fun x hx => ?_⟩
  · obtain ⟨h1, h2⟩ := hs x hx
    obtain ⟨hr, h3⟩ := h.rows x h1
    refine ⟨⟨hr.1, ?_⟩, h3⟩
    rcases hr.2 with h4 | ⟨g1, cap, cur1, e1, hb, hgg, rest⟩
    · exact .inl h4
    · have hne : g1 ≠ g := fun e => by
        subst e
        rw [hgg] at hg
        simp only [Option.some.injEq, Obj.cells.injEq] at hg
        exact h2 hg.2.1
      exact .inr ⟨g1, cap, cur1, e1, hb, (ht.block g1 (heap_lt hgg) hne hne).trans hgg, rest⟩
  · obtain ⟨h1, h2, h3⟩ := h.os x hx
    obtain ⟨cs, T, h4, h5⟩ := ho x hx
    have hne : x.1 ≠ g := fun e => by
      rw [h4, e, hg] at h1
      cases h1
      exact h5 rfl
    exact ⟨(ht.block x.1 (heap_lt h1) hne hne).trans h1, h2, h3⟩
set_option maxRecDepth 100000 in
theorem count_nil (w : World) : Calls Tryz.prog 32 #[.slice none 0 0, .slice none 0 0] w fun e w' => e = .returned (.bool true) ∧ w = w' := by
  go_enter Tryz.func32, Tryz.ntmps32
  go_wp2
  refine wp_loop_rounds 1 ?_
  rw [rounds_succ]
  go_wp2
  go_ret
  exact ⟨rfl, rfl⟩
theorem lw_count {tv v : Value} {T : List Int} {l : List Pk} (h : Lw w0 w b M R rows os) (ht : inR tv T ∈ rows) (hv : pkR v l ∈ rows) (hn : Isnil v l) (hin : InT T l) (hf : Few T) (hl : l.length ≤ 10000)
    (hs : ∀ x ∈ rows', x ∈ rows ∧ x.e ≠ 3) (ho : No3 os) :
    Calls Tryz.prog 32 #[tv, v] w fun e w' => e = .returned (.bool true) ∧ Lw w0 w' b M R (inR tv (bump T l) :: rows') os := by
  have hr : w.ownsRow w0.heap.size 3 1 tv T.length (ints T) := (h.rows _ ht).1
  rcases hr.2 with ⟨rfl, h0⟩ | ⟨g, cap, cur, rfl, hb, hgg, _⟩
  · have hl0 : l = [] := by
      cases l with
      | nil => rfl
      | cons p l => have := hin p (by simp); omega
    subst hl0
    obtain rfl := hn.2 rfl
    refine (count_nil w).mono ?_
    rintro e w' ⟨rfl, rfl⟩
    have e1 : bump T [] = T := rfl
    rw [e1]
    exact ⟨rfl, (h.sub (fun x hx => (hs x hx).1) (fun x hx => hx)).addRow (inR _ T) hr (show (3 : Nat) ≠ 75 by decide)⟩
  · refine (count_any g cap w0.heap.size w0.heap.size T v l w hr (h.row hv hn) hin hf hl).mono ?_
    rintro e w' ⟨rfl, h1, h2⟩
    exact ⟨rfl, (h.other hgg hb h2 hs ho).addRow (inR _ _) h1 (show (3 : Nat) ≠ 75 by decide)⟩
theorem info3 : (Tryz.prog.info? 3).map (fun i => (i.zero, i.size, i.bytes)) = some (some (.int .i64 0), 1, 8) := by kernel_rfl
/-- one number put behind the counters -/
theorem wpList_append_in {ops : Array Oper} {rest : List Oper} {o : Oper} {a : Act} {Q : Exit → Act → World → Prop} (hgd : o.guard = none) (s x : Operand) (hop : o.op = .call { callee := .builtin .append, args := #[s, x], argTypes := #[53, 53] })
    {tv : Value} {T : List Int} (z : Int) (h : Lw w0 w b M R rows os) (ht : inR tv T ∈ rows) (hs : a.eval s = tv) (g0 : Nat) (hx : a.eval x = .slice (some ⟨g0, 0, none⟩) 1 1) (hg0 : w.heap[g0]? = some (.cells #[.int .i64 z] 3 (0, 0)))
    (hT : T.length ≤ 10000) (hr : ∀ x ∈ rows', x ∈ rows ∧ x.e ≠ 3) (ho : No3 os)
    (hk : ∀ a' cap w', Lw w0 w' b M R (inR (.slice a' (T.length + 1) cap) (T ++ [z]) :: rows') os → wpList Tryz.prog ops Q rest (a.put o.dst (.slice a' (T.length + 1) cap)) w') : wpList Tryz.prog ops Q (o :: rest) a w := by
  obtain ⟨i0, hi, hz0, hz1, hz2⟩ := info_parts info3
  have hown : w.ownsRow w0.heap.size 3 1 tv T.length (ints T) := (h.rows _ ht).1
  refine wpList_append_own w hgd s x 53 hop w0.heap.size 3 i0 (.int .i64 0) 1 8 Tryz.underlying53 hi hz0 hz1 hz2 rfl (by decide) tv T.length (ints T) hs hown ⟨g0, 0, none⟩ 1 1 [.int .i64 z] hx rfl (World.news_of_block hg0) (by simp [Value.oneCell']) (by unfold maxLen; omega) (by omega) h.bel.size ?_
  intro v' w' hown' hgrow _
  obtain ⟨g', cap', rfl⟩ := ownsRow_succ hown'
  have e1 : ints T ++ [Value.int .i64 z] = ints (T ++ [z]) := by simp [ints]
  rw [e1] at hown'
  have hnew : w'.ownsRow w0.heap.size 3 1 (.slice (some ⟨g', 0, none⟩) (T.length + 1) cap') (T ++ [z]).length (ints (T ++ [z])) := by rw [List.length_append]; exact hown'
  refine hk _ _ _ ?_
  rcases hown.2 with ⟨rfl, _⟩ | ⟨g, cap, cur, rfl, hb, hgg, _⟩
  · have hb : Below w.heap.size w w' := (Below.refl _ w).grown hgrow (Nat.le_refl _) (fun k e => by simp [Value.ownBlock] at e)
    exact ((h.below hb).sub (fun x hx => (hr x hx).1) (fun x hx => hx)).addRow (inR _ _) hnew (show (3 : Nat) ≠ 75 by decide)
  · exact (h.other hgg hb (Tu.map hgrow) hr ho).addRow (inR _ _) hnew (show (3 : Nat) ≠ 75 by decide)
/-- each packet that was sent is counted once, or is left -/
structure TimesOk (l : List Pk) (nx : Int) (T : List Int) : Prop where
  len : (T.length : Int) = nx
  ge : ∀ i : Nat, 0 ≤ T[i]?.getD 0
  one : ∀ i : Nat, i < T.length → T[i]?.getD 0 + cntP l i = 1
theorem TimesOk.nil : TimesOk [] 0 [] := ⟨rfl, by simp, by simp⟩
theorem TimesOk.few {l : List Pk} {nx : Int} {T : List Int} (h : TimesOk l nx T) (hn : nx ≤ 10000) : Few T := by
  refine ⟨by have := h.len; omega, fun i => ⟨h.ge i, ?_⟩⟩
  by_cases hi : i < T.length
  · have := h.one i hi
    have := cntP_nonneg l i
    omega
  · rw [List.getElem?_eq_none (by omega)]; simp
theorem TimesOk.filter {l : List Pk} {nx : Int} {T : List Int} (h : TimesOk l nx T) (f : Pk → Bool) (h0 : ∀ p ∈ l, 0 ≤ p.pn) : TimesOk (l.filter fun p => !f p) nx (bump T (l.filter f)) := by
  have hp : ∀ p ∈ l.filter f, 0 ≤ p.pn := fun p hp => h0 p (List.mem_filter.1 hp).1
  refine ⟨by rw [bump_len]; exact h.len, fun i => ?_, fun i hi => ?_⟩
  · by_cases hi : i < T.length
    · rw [bump_get _ _ _ hi hp]
      have := h.ge i
      have := cntP_nonneg (l.filter f) i
      omega
    · rw [List.getElem?_eq_none (by rw [bump_len]; omega)]; simp
  · rw [bump_len] at hi
    rw [bump_get _ _ _ hi hp]
    have := h.one i hi
    have := cntP_split f l i
    omega
theorem TimesOk.all {l : List Pk} {nx : Int} {T : List Int} (h : TimesOk l nx T) (h0 : ∀ p ∈ l, 0 ≤ p.pn) : TimesOk [] nx (bump T l) := by
  have := h.filter (fun _ => true) h0
  have e1 : l.filter (fun _ => true) = l := List.filter_eq_self.2 (fun _ _ => rfl)
  have e2 : l.filter (fun _ => !true) = [] := List.filter_eq_nil_iff.2 (fun _ _ => by simp)
  rw [e1, e2] at this
  exact this
theorem TimesOk.add {l : List Pk} {nx : Int} {T : List Int} (h : TimesOk l nx T) (p : Pk) (hp : p.pn = nx) (hb : ∀ q ∈ l, q.pn < nx) : TimesOk (l ++ [p]) (nx + 1) (T ++ [0]) := by
  have hl := h.len
  refine ⟨by simp; omega, fun i => ?_, fun i hi => ?_⟩
  · by_cases hi : i < T.length
    · rw [List.getElem?_append_left hi]; exact h.ge i
    · rw [List.getElem?_append_right (by omega)]
      by_cases h2 : i - T.length = 0
      · rw [h2]; simp
      · rw [List.getElem?_eq_none (by simp; omega)]; simp
  · rw [cntP_snoc]
    by_cases hi2 : i < T.length
    · rw [List.getElem?_append_left hi2, if_neg (by omega)]
      have := h.one i hi2
      omega
    · have hi3 : i = T.length := by simp at hi; omega
      subst hi3
      rw [List.getElem?_append_right (by omega), if_pos (by omega)]
      have : cntP l T.length = 0 := by
        unfold cntP
        rw [List.filter_eq_nil_iff.2 (fun q hq => by have := hb q hq; simp; omega)]
        rfl
      simp [this]
theorem TimesOk.inT {l k : List Pk} {nx : Int} {T : List Int} (h : TimesOk l nx T) (hb : ∀ q ∈ l, 0 ≤ q.pn ∧ q.pn < nx) (hk : ∀ q ∈ k, q ∈ l) : InT T k := fun q hq => by
  have := hb q (hk q hq)
  have := h.len
  omega
theorem TimesOk.done {nx : Int} {T : List Int} (h : TimesOk [] nx T) (i : Nat) (hi : i < T.length) : T[i]?.getD 0 = 1 := by
  have := h.one i hi
  rw [cntP_nil] at this
  omega
end Go.Proofs.YtafkndhnbnpahaaGreat
/- Law 13: a Tracker as plain data; the iterator over its intervals. -/
namespace Go.Proofs.YtafkndhnbnpahaaGreat
open Go.RowKit Go.Sort Go.Shelf
attribute [local go_sem] Oper.semAt_some
/-- a Tracker lies at block t: 17 intervals, their number, delay, floor, largest, when, count, due -/
def TkAt (w : World) (t : Nat) (zs : List Int) : Prop := zs.length = 41 ∧ w.heap[t]? = some (.cells (zs.map (Value.int .i64)).toArray 92 (0, 0))
theorem TkAt.cell {w : World} {t : Nat} {zs : List Int} (h : TkAt w t zs) (i : Nat) (hi : i < 41) : w.cell? ⟨t, i, none⟩ = some (.int .i64 (zs[i]?.getD 0)) := by
  obtain ⟨h1, h2⟩ := h
  refine at_whole h2 i ?_
  rw [List.getElem?_toArray, List.getElem?_map, List.getElem?_eq_getElem (by omega)]
  rfl
theorem TkAt.frozen {w : World} {t : Nat} {zs : List Int} (h : TkAt w t zs) (i : Nat) : w.frozen? ⟨t, i, none⟩ = false := frozen_of_row w t i _ 92 h.2
theorem TkAt.block {w w' : World} {t : Nat} {zs : List Int} (h : TkAt w t zs) (hb : w'.heap[t]? = w.heap[t]?) : TkAt w' t zs := ⟨h.1, hb.trans h.2⟩
theorem TkAt.lt {w : World} {t : Nat} {zs : List Int} (h : TkAt w t zs) : t < w.heap.size := heap_lt h.2
theorem TkAt.set {w : World} {t : Nat} {zs : List Int} (h : TkAt w t zs) (i : Nat) (x : Int) : TkAt (w.setCell ⟨t, i, none⟩ (.int .i64 x)) t (zs.set i x) := by
  refine ⟨by rw [List.length_set]; exact h.1, ?_⟩
  rw [heap_setCell_same w t i _ 92 _ h.2, List.map_set]
  simp
/-- the interval at index k, with its index -/
def ivAt (zs : List Int) (k : Nat) : Nat × Int × Int := (k, zs[k * 2]?.getD 0, zs[k * 2 + 1]?.getD 0)
def encIv (x : Nat × Int × Int) : Array Value := #[.int .i64 x.1, .agg #[.int .i64 x.2.1, .int .i64 x.2.2]]
def ivs (zs : List Int) (n : Nat) : List (Nat × Int × Int) := (List.range n).map (ivAt zs)
theorem ivs_succ (zs : List Int) (n : Nat) : ivs zs (n + 1) = ivs zs n ++ [ivAt zs n] := by simp [ivs, List.range_succ]
theorem ivs_pre (zs : List Int) {k n : Nat} (h : k ≤ n) : ivs zs k <+: ivs zs n := by
  obtain ⟨d, rfl⟩ := Nat.exists_eq_add_of_le h
  refine ⟨(List.range d).map (fun i => ivAt zs (k + i)), ?_⟩
  simp [ivs, List.range_add]
/-- the iterator's own box and the Tracker stay -/
def KpT (B t : Nat) (W W' : World) : Prop := W'.heap[B]? = W.heap[B]? ∧ W'.heap[t]? = W.heap[t]?
theorem KpT.refl (B t : Nat) (W : World) : KpT B t W W := ⟨rfl, rfl⟩
theorem KpT.trans {B t : Nat} {a b c : World} (h : KpT B t a b) (k : KpT B t b c) : KpT B t a c := ⟨k.1.trans h.1, k.2.trans h.2⟩
theorem KpT.below {B t n : Nat} {a b : World} (h : Below n a b) (hB : B < n) (ht : t < n) : KpT B t a b := ⟨h.block B hB, h.block t ht⟩
theorem kpT_b {B t m : Nat} (hB : B < m) (ht : t < m) (W : World) (l : Nat) (o o' : Obj) (hl : m ≤ l) (h : W.heap[l]? = some o) (_hc : o.isCells = false) (_hw : o.isWalk = false) : KpT B t W (W.putObj l o') :=
  ⟨(grownBy_putObj' W l o').block B (by have := (Array.getElem?_eq_some_iff.1 h).1; omega) (fun e => by cases e; omega), (grownBy_putObj' W l o').block t (by have := (Array.getElem?_eq_some_iff.1 h).1; omega) (fun e => by cases e; omega)⟩
set_option maxRecDepth 100000 in
set_option maxHeartbeats 4000000 in
theorem iv_in (n : Nat) (hn : 2 ≤ n) (ly B t m : Nat) (zs : List Int) (hm : m ≤ 17) (J Jx : List (Nat × Int × Int) → World → Prop)
    (hY : ∀ pre x W, x ∈ ivs zs m → J pre W → pre.length < m → YieldAt Fence.wide (n - 1) Tryz.prog ly (encIv x) W fun e W' =>
      (e = .returned (.bool true) ∧ J (pre ++ [x]) W' ∧ KpT B t W W') ∨ (e = .returned (.bool false) ∧ Jx (pre ++ [x]) W'))
    (W : World) (hB : W.cell? ⟨B, 0, none⟩ = some (.pointer (some ⟨t, 0, none⟩))) (hT : TkAt W t zs) (hz : zs[34]?.getD (0:Int) = (m:Int)) (h0 : J [] W) :
    CallsIn Fence.wide n Tryz.prog 76 #[.func (.yield ly) #[] #[], .pointer (some ⟨B, 0, none⟩)] W fun e W' => (∃ v, e = .returned v) ∧
      ((∃ ys, ys = ivs zs m ∧ J ys W') ∨ (∃ pre, (∃ k, k < m ∧ pre = ivs zs (k + 1)) ∧ Jx pre W')) := by
  have c34 := hT.cell 34 (by decide)
  rw [hz] at c34
  have HT := Lib.hid hT
  have HJ := Lib.hid h0
  clear hT hz h0
  have h1n : 1 ≤ n := by omega
  refine callsIn_of_wp Tryz.func76 rfl trivial ?_ rfl
  simp only [Tryz.ntmps76, List.size_toArray, List.length_cons, List.length_nil, Nat.reduceAdd, Nat.reduceSub, Array.replicate_succ, Array.replicate_zero, List.push_toArray, List.append_toArray, List.nil_append, List.cons_append]
  gi_wp2
  gi_loopw [8] (fun i wr => ∃ k : Nat, k ≤ m ∧ i = .int .i64 k ∧ J (ivs zs k) wr ∧ KpT B t W wr) (fun i _ => m - (intOf i).toNat)
  case atStart => exact ⟨0, by omega, rfl, HJ.out, KpT.refl _ _ _⟩
  case round =>
    obtain ⟨k, hk, rfl, hJ, hb⟩ := hrel
    have cB : wr.cell? ⟨B, 0, none⟩ = some (.pointer (some ⟨t, 0, none⟩)) := (World.cell?_of_block (a := ⟨B, 0, none⟩) hb.1).trans hB
    have HB := Lib.hid hb
    have Tk : TkAt wr t zs := HT.out.block hb.2
    clear hb
    by_cases hlt : k < m
    · have d0 := Tk.cell (k * 2) (by omega)
      have d1 := Tk.cell (k * 2 + 1) (by omega)
      have hts := Lib.hid (ivs_succ zs k)
      obtain ⟨fn, tmps, assign, body, hy, hR⟩ := hY _ (ivAt zs k) wr (List.mem_map.2 ⟨k, List.mem_range.2 hlt, rfl⟩) hJ (by simp [ivs]; omega)
      simp only [encIv, ivAt] at hy
      have HR := Lib.hid hR
      clear hR hJ Tk
      generalize zs[k * 2]?.getD 0 = f0 at *
      generalize zs[k * 2 + 1]?.getD 0 = t0 at *
      have i0 : (k : Int) < (m : Int) := by omega
      gi_wp2
      refine HR.out.mono ?_
      rintro e W3 (⟨rfl, hJ3, hk3⟩ | ⟨rfl, hJx3⟩)
      · have K3 := Lib.hid (And.intro hJ3 hk3)
        clear hk3 hJ3 hy cB d0 d1
        gi_wp2
        go_roundw
        case rel => exact ⟨k + 1, by omega, by go_num, by rw [hts.out]; exact K3.out.1, HB.out.trans K3.out.2⟩
        case measure => simp [intOf]; omega
      · have K3 := Lib.hid hJx3
        clear hJx3 hy cB d0 d1
        gi_wp2
        refine bodyPost_ret (results_none rfl _ _ _) rfl ?_
        exact ⟨⟨_, rfl⟩, .inr ⟨_, ⟨k, hlt, hts.out.symm ▸ rfl⟩, K3.out⟩⟩
    · obtain rfl : k = m := by omega
      clear hlt Tk
      gi_wp2
      go_end0
      exact ⟨⟨_, rfl⟩, .inl ⟨_, rfl, hJ⟩⟩
theorem iv_stops (n : Nat) (hn : 2 ≤ n) (B t m : Nat) (zs : List Int) (hm : m ≤ 17) (W : World) (hBl : B < W.heap.size) (hB : W.cell? ⟨B, 0, none⟩ = some (.pointer (some ⟨t, 0, none⟩))) (hT : TkAt W t zs) (hz : zs[34]?.getD (0:Int) = (m:Int)) :
    SeqStopsK Fence.wide n Tryz.prog 76 #[.pointer (some ⟨B, 0, none⟩)] encIv (KpT B t) (fun ys => ys = ivs zs m) (fun pre => ∃ k, k < m ∧ pre = ivs zs (k + 1)) m W := fun ly J Jx W2 hW _ _ hY h0 => by
  refine (iv_in n hn ly B t m zs hm J Jx (fun pre x W _ h hl => hY pre x W h hl) W2 ((hW.cell (p := ⟨B, 0, none⟩) hBl).trans hB) (hT.block (hW.block t hT.lt)) hz h0).mono ?_
  rintro e W' ⟨h1, h2⟩
  exact ⟨h1, h2⟩
abbrev InIv (zs : List Int) (m : Nat) := { x : Nat × Int × Int // x ∈ ivs zs m }
theorem iv_stopsS (n : Nat) (hn : 2 ≤ n) (B t m : Nat) (zs : List Int) (hm : m ≤ 17) (W : World) (hBl : B < W.heap.size) (hB : W.cell? ⟨B, 0, none⟩ = some (.pointer (some ⟨t, 0, none⟩))) (hT : TkAt W t zs) (hz : zs[34]?.getD (0:Int) = (m:Int)) :
    SeqStopsK Fence.wide n Tryz.prog 76 #[.pointer (some ⟨B, 0, none⟩)] (fun x : InIv zs m => encIv x.1) (KpT B t) (fun ys => ys.map (·.1) = ivs zs m) (fun _ => True) m W := fun ly J Jx W2 hW _ _ hY h0 => by
  refine (iv_in n hn ly B t m zs hm (fun pre W => ∃ pre' : List (InIv zs m), pre'.map (·.1) = pre ∧ J pre' W) (fun pre W => ∃ pre' : List (InIv zs m), pre'.map (·.1) = pre ∧ Jx pre' W) ?_ W2 ((hW.cell (p := ⟨B, 0, none⟩) hBl).trans hB) (hT.block (hW.block t hT.lt)) hz ⟨[], rfl, h0⟩).mono ?_
  · rintro pre x W hx ⟨pre', rfl, hj⟩ hlen
    refine (hY pre' ⟨x, hx⟩ W hj (by simpa using hlen)).mono ?_
    rintro e W' (⟨h1, h2, h3⟩ | ⟨h1, h2⟩)
    · exact .inl ⟨h1, ⟨pre' ++ [⟨x, hx⟩], by simp, h2⟩, h3⟩
    · exact .inr ⟨h1, pre' ++ [⟨x, hx⟩], by simp, h2⟩
  · rintro e W' ⟨h1, h2⟩
    refine ⟨h1, ?_⟩
    rcases h2 with ⟨ys, rfl, ys', e, hj⟩ | ⟨pre, _, pre', _, hj⟩
    · exact .inl ⟨ys', e, hj⟩
    · exact .inr ⟨pre', trivial, hj⟩
end Go.Proofs.YtafkndhnbnpahaaGreat
/- A scope through which the run goes without a goto, inside a fence (the library's wp_scope_straight has no fenced twin). -/
namespace Go.Proofs.YtafkndhnbnpahaaGreat
theorem stepR_scope {P : Program} {b : Frame} {a : Act} {k : List Item} {cs : List Frame} {w : World} {c : Code} : step P (lone (b.atR a (.code (.scope c) :: k)) cs w) = .next (lone (b.atR a (.code c :: .inScope c :: k)) cs w) :=
  step_lone_go (by simp [stepG, stepG.exec, Frame.atR])
theorem stepR_inScope {P : Program} {b : Frame} {a : Act} {k : List Item} {cs : List Frame} {w : World} {c : Code} : step P (lone (b.atR a (.inScope c :: k)) cs w) = .next (lone (b.atR a k) cs w) :=
  step_lone_go (by simp [stepG, stepG.exec, Frame.atR])
theorem wpIn_scope_straight {F : Fence} {n : Nat} {P : Program} {Q : Exit → Act → World → Prop} {a : Act} {w : World} {c : Code} (h : c.wpIn F n P (Exit.noGoto Q) a w) : (Code.scope c).wpIn F n P Q a w := by
  intro b k cs hro hb hr
  have h0 : (lone (b.atR a (.code (.scope c) :: k)) cs w).fenced P F := fenced_calm hb hr rfl
  obtain ⟨e, a₁, w₁, hq, harr⟩ := h b (.inScope c :: k) cs hro hb hr
  cases e with
  | normal => exact ⟨.normal, a₁, w₁, hq, .head h0 stepR_scope (StepsIn.trans harr (.one (fenced_calm hb hr rfl) stepR_inScope))⟩
  | exit id =>
    have hx : exitTo id (.inScope c :: k) = exitTo id k := by simp [exitTo]
    exact ⟨.exit id, a₁, w₁, hq, fun k' hk => .head h0 stepR_scope (harr.1 k' (by rw [hx]; exact hk)),
      fun hr' hk => let ⟨k₁, h1, h2⟩ := harr.2 hr' (by rw [hx]; exact hk); ⟨k₁, h1, .head h0 stepR_scope h2⟩⟩
  | goto l => exact hq.elim
  | ret => exact ⟨_, a₁, w₁, hq, .of_steps (.one h0 stepR_scope) harr⟩
  | panic ch => exact ⟨_, a₁, w₁, hq, .of_steps (.one h0 stepR_scope) harr⟩
  | outgrown => exact ⟨_, a₁, w₁, hq, .of_steps (.one h0 stepR_scope) harr⟩
end Go.Proofs.YtafkndhnbnpahaaGreat
/- Law 13: has and place. -/
namespace Go.Proofs.YtafkndhnbnpahaaGreat
open Go.RowKit Go.Sort Go.Shelf
attribute [local go_sem] Oper.semAt_some
set_option maxRecDepth 100000 in
theorem all62 (p : Option Addr) (w : World) : Calls Tryz.prog 62 #[.pointer p] w fun e w' => e = .returned (.func (.func 76) #[] #[.pointer (some ⟨w.heap.size, 0, none⟩)]) ∧ w' = w.alloc (.cells #[.pointer p] 110) := by
  go_enter Tryz.func62, Tryz.ntmps62
  go_wp2
  go_ret
  exact ⟨rfl, rfl⟩
def conB (pn : Int) (x : Nat × Int × Int) : Bool := decide (x.2.1 ≤ pn) && decide (pn < x.2.2)
def hasB (pn : Int) (l : List (Nat × Int × Int)) : Bool := l.any (conB pn)
theorem hasB_snoc (pn : Int) (l : List (Nat × Int × Int)) (x : Nat × Int × Int) : hasB pn (l ++ [x]) = (hasB pn l || conB pn x) := by simp [hasB]
theorem hasB_pre {pn : Int} {l l' : List (Nat × Int × Int)} (h : l <+: l') (hb : hasB pn l = true) : hasB pn l' = true := by
  obtain ⟨t, rfl⟩ := h
  unfold hasB at *
  rw [List.any_append, hb]; rfl
theorem boxes3 (w : World) (o1 o2 o3 : Obj) : ((w.alloc o1).alloc o2).alloc o3 = ((w.alloc o1).alloc o2).alloc o3 ∧ (((w.alloc o1).alloc o2).alloc o3).heap[w.heap.size]? = some o1 ∧ (((w.alloc o1).alloc o2).alloc o3).heap[w.heap.size + 1]? = some o2 ∧ (((w.alloc o1).alloc o2).alloc o3).heap[w.heap.size + 2]? = some o3 ∧
    Below w.heap.size w (((w.alloc o1).alloc o2).alloc o3) ∧ (((w.alloc o1).alloc o2).alloc o3).heap.size = w.heap.size + 3 := by
  refine ⟨rfl, ?_, ?_, ?_, ((((Below.refl _ w).alloc (Nat.le_refl _) _).alloc (by simp) _).alloc (by simp; omega) _), by simp⟩
  · rw [Below.heap_alloc _ _ _ (by simp; omega), Below.heap_alloc _ _ _ (by simp)]; exact heap_alloc_new w _
  · rw [Below.heap_alloc _ _ _ (by simp)]; have := heap_alloc_new (w.alloc o1) o2; rwa [World.size_alloc] at this
  · have := heap_alloc_new ((w.alloc o1).alloc o2) o3; rwa [World.size_alloc, World.size_alloc] at this
set_option maxRecDepth 100000 in
set_option maxHeartbeats 4000000 in
theorem has_any (t m : Nat) (zs : List Int) (pn : Int) (w : World) (hT : TkAt w t zs) (hm : m ≤ 17) (hz : zs[34]?.getD (0:Int) = (m:Int)) :
    Calls Tryz.prog 58 #[.pointer (some ⟨t, 0, none⟩), .int .i64 pn] w fun e w' => e = .returned (.bool (hasB pn (ivs zs m))) ∧ Below w.heap.size w w' := by
  have X := Lib.hid (boxes3 w (.cells #[.int .i64 pn] 3) (.cells #[.bool false] 4) (.cells #[.pointer (some ⟨t, 0, none⟩)] 110))
  have HT := Lib.hid (And.intro hT hz)
  clear hT hz
  refine (callsIn_wide (n := 8)).1 ?_
  refine callsIn_of_wp_marks Tryz.func58 rfl trivial ?_ rfl
  simp only [Tryz.ntmps58, List.size_toArray, List.length_cons, List.length_nil, Nat.reduceAdd, Nat.reduceSub, Array.replicate_succ, Array.replicate_zero, List.push_toArray, List.append_toArray, List.nil_append, List.cons_append]
  gi_wp2_with (refine ⟨trivial, (callsIn_wide.2 (all62 _ _)).mono ?_⟩; rintro e w' ⟨rfl, rfl⟩)
  generalize ((w.alloc _).alloc _).alloc _ = W0 at X ⊢
  obtain ⟨_, X1, X2, X3, X4, X5⟩ := X.out
  refine wpIn_rangeFunc_ownH rfl (by decide) (gf := 76) (lb := #[.pointer (some ⟨w.heap.size + 2, 0, none⟩)]) rfl trivial (enters_of Tryz.func76 (by kernel_rfl) rfl)
    (iv_stops 7 (by decide) (w.heap.size + 2) t m zs hm W0 (by omega) (at_whole X3 0 rfl) (HT.out.1.block (X4.block t HT.out.1.lt)) HT.out.2)
    (fun h k => h.trans k) (kpT_b (by omega) (by have := HT.out.1.lt; omega)) (Below.refl _ _) (fun _ => rfl)
    (fun pre W => (W.heap[w.heap.size]? = some (.cells #[.int .i64 pn] 3 (0, 0)) ∧ (W.heap[w.heap.size + 2]? = some (.cells #[.pointer (some ⟨t, 0, none⟩)] 110 (0, 0)) ∧ (W.heap[w.heap.size + 1]? = some (.cells #[.bool false] 4 (0, 0)) ∧ hasB pn pre = false))) ∧ Below w.heap.size w W)
    (fun c pre W => (W.heap[w.heap.size + 1]? = some (.cells #[.bool true] 4 (0, 0)) ∧ (c = .ret ∧ hasB pn pre = true)) ∧ Below w.heap.size w W)
    (OwnFrom.and (OwnFrom.and (heap_own _ _ _ _) (OwnFrom.and (heap_own _ _ _ _) (OwnFrom.and (heap_own _ _ _ _) (fun s _ _ _ hs _ _ => hs)))) (ownFrom_below (Nat.le_refl _) (by omega)))
    (fun c => OwnFrom.and (OwnFrom.and (heap_own _ _ _ _) (fun s _ _ _ hs _ _ => hs)) (ownFrom_below (Nat.le_refl _) (by omega)))
    ⟨⟨X1, X3, X2, rfl⟩, X4⟩
    (fun x a' W => ∃ Bx, W0.heap.size ≤ Bx ∧ W.heap[Bx]? = some (.cells #[.int .i64 x.2.1, .int .i64 x.2.2] 51 (0, 0)) ∧ a' = { tmps := #[.pointer (some ⟨t, 0, none⟩), .int .i64 pn, undef, .pointer (some ⟨w.heap.size, 0, none⟩), .pointer (some ⟨w.heap.size + 1, 0, none⟩), undef, .pointer (some ⟨Bx, 0, none⟩), .pointer (some ⟨t, 0, none⟩), .func (.func 76) #[] #[.pointer (some ⟨w.heap.size + 2, 0, none⟩)], .int .i64 x.1, .agg #[.int .i64 x.2.1, .int .i64 x.2.2], undef, undef, undef, undef, undef, undef, undef, undef, undef, undef], defers := [] })
    (fun x a' s A C row hs hg hr => by
      obtain ⟨Bx, h1, h2, h3⟩ := hs
      exact ⟨Bx, h1, heap_own _ _ _ _ () A C row h2 hg hr, h3⟩)
    ?assign ?body ?done ?stop
  case assign =>
    rintro ly pre ⟨k, f, tt⟩ W K hi hK
    simp only [encIv] at hK ⊢
    have H1 := Lib.hid (And.intro hi hK)
    clear hi hK
    gi_wp2
    obtain ⟨⟨q1, q2, q3, q4⟩, q5⟩ := H1.out.1
    have hs := heap_lt q2
    have ht := HT.out.1.lt
    refine H1.out.2 _ _ ((KeepsOthers.alloc _ _).from _) (KpT.below ((Below.refl _ W).alloc (Nat.le_refl _) _) (by omega) (by omega)) ?_ ⟨W.heap.size, by omega, heap_alloc_new W _, rfl⟩
    exact ⟨⟨(Below.heap_alloc W _ _ (heap_lt q1)).trans q1, (Below.heap_alloc W _ _ (heap_lt q2)).trans q2, (Below.heap_alloc W _ _ (heap_lt q3)).trans q3, q4⟩, q5.trans ((Below.refl _ W).alloc q5.size _)⟩
  case body =>
    rintro ly pre ⟨k, f, tt⟩ a' W hl ⟨r, hr⟩ ⟨⟨q1, q2, q3, q4⟩, q5⟩ ⟨Bx, hBx, hbx, rfl⟩ hlen
    simp only at hbx ⊢
    have l0 := at_whole hbx 0 rfl
    have l1 := at_whole hbx 1 rfl
    have c0 := at_whole q1 0 rfl
    have c1 := at_whole q3 0 rfl
    have z1 := frozen_of_row W (w.heap.size + 1) 0 _ 4 q3
    simp only [List.getElem_toArray, List.getElem_cons_zero, List.getElem_cons_succ] at l0 l1 c0 c1
    have AS := Lib.hid (hasB_snoc pn pre (k, f, tt))
    have G := Lib.hid (And.intro q1 (And.intro q2 (And.intro q3 (And.intro q4 q5))))
    clear q1 q2 q3 q4 q5 hbx
    by_cases h1 : f ≤ pn
    · by_cases h2 : pn < tt
      · have e : Hid (conB pn (k, f, tt) = true) := Lib.hid (by simp [conB, h1, h2])
        gi_wp2
        refine ⟨(KeepsOthers.setCell _ _ _).from _, ⟨⟨?_, rfl, by rw [AS.out, e.out, Bool.or_true]⟩, G.out.2.2.2.2.setCell (p := ⟨w.heap.size + 1, 0, none⟩) (by simp) _⟩⟩
        exact heap_setCell_same W (w.heap.size + 1) 0 _ 4 _ G.out.2.2.1
      · have e : Hid (conB pn (k, f, tt) = false) := Lib.hid (by simp [conB, h2])
        gi_wp2
        exact ⟨(KeepsOthers.refl _).from _, KpT.refl _ _ _, ⟨⟨G.out.1, G.out.2.1, G.out.2.2.1, by rw [AS.out, e.out, G.out.2.2.2.1]; rfl⟩, G.out.2.2.2.2⟩⟩
    · have e : Hid (conB pn (k, f, tt) = false) := Lib.hid (by simp [conB, h1])
      gi_wp2
      exact ⟨(KeepsOthers.refl _).from _, KpT.refl _ _ _, ⟨⟨G.out.1, G.out.2.1, G.out.2.2.1, by rw [AS.out, e.out, G.out.2.2.2.1]; rfl⟩, G.out.2.2.2.2⟩⟩
  case done => 
    rintro D ys W hD rfl ⟨⟨q1, q2, q3, q4⟩, q5⟩ hK
    have H := Lib.hid (And.intro q3 (And.intro q4 (And.intro q5 hK)))
    have c1 := at_whole q3 0 rfl
    have z1 := frozen_of_row W (w.heap.size + 1) 0 _ 4 q3
    simp only [List.getElem_toArray, List.getElem_cons_zero] at c1
    clear q1 q2 q3 q4 q5 hK
    gi_wp2
    refine ⟨by simp, .inl ⟨_, _, rfl, run_takeDeferred ((KeepsOthers.setCell _ _ _).same D _ H.out.2.2.2 rfl), ?_⟩⟩
    have hD2 : w.heap.size + 1 ≠ D := by omega
    have hc := at_whole ((World.putObj_heap_other (w := W.setCell ⟨w.heap.size + 1, 0, none⟩ (.bool false)) (o := .deferred none) hD2).trans (heap_setCell_same W (w.heap.size + 1) 0 _ 4 (.bool false) H.out.1)) 0 rfl
    refine ⟨.bool false, by simp [results, Tryz.f58, go_sem, hc], ?_, ?_⟩
    · rw [H.out.2.1]
    · have hb := H.out.2.2.1.setCell (p := ⟨w.heap.size + 1, 0, none⟩) (by simp) (.bool false)
      exact hb.trans (belowK_b (w := w) (Nat.le_refl _) _ D _ _ (by omega) ((KeepsOthers.setCell W ⟨w.heap.size + 1, 0, none⟩ (.bool false)).same D _ H.out.2.2.2 rfl) rfl rfl)
  case stop =>
    rintro D c pre W hD ⟨k, hk, rfl⟩ ⟨⟨q1, rfl, q2⟩, q3⟩ hK
    have H := Lib.hid (And.intro q1 (And.intro q2 (And.intro q3 hK)))
    have c1 := at_whole q1 0 rfl
    simp only [List.getElem_toArray, List.getElem_cons_zero] at c1
    clear q1 q2 q3 hK
    gi_wp2
    refine ⟨by simp, .inl ⟨_, _, rfl, run_takeDeferred H.out.2.2.2, ?_⟩⟩
    have hD2 : w.heap.size + 1 ≠ D := by omega
    have hc := at_whole ((World.putObj_heap_other (w := W) (o := .deferred none) hD2).trans H.out.1) 0 rfl
    refine ⟨.bool true, by simp [results, Tryz.f58, go_sem, hc], ?_, ?_⟩
    · rw [hasB_pre (ivs_pre zs (show k + 1 ≤ m by omega)) H.out.2.1]
    · exact H.out.2.2.1.trans (belowK_b (w := w) (Nat.le_refl _) _ D _ _ (by omega) H.out.2.2.2 rfl rfl)
end Go.Proofs.YtafkndhnbnpahaaGreat
