/- Law 13: CallParams that come as arguments, opened to plain data. -/
import Derived.Test.YtafkndhnbnpahaaGreatAh
import Derived.Test.YtafkndhnbnpahaaGreatZk
import Derived.Deep.Slices
namespace Go.Proofs.YtafkndhnbnpahaaGreat
open Go.RowKit Go.ChangeShapes Go.WideShapes Go.Deep
theorem I64.of {n : Int} (h : (Lit.int .i64 n).wf = true) : I64 n := bounds_i64 h
/-- what a CallParams that came holds -/
structure CpArg (w : World) (c : Cp) : Prop where
  kind : I64 c.kind
  ticks : I64 c.ticks
  size : I64 c.size
  sp : ∃ n F T, SpArg w c.sv n F T ∧ n ≤ 9223372036854775807
  last : I64 c.last
  ft : I64 c.ft
  fa : I64 c.fa
  fb : I64 c.fb
  fc : I64 c.fc
  fs : c.fs.size ≤ maxLen
  fsp : ∃ n F T, SpArg w c.fsv n F T ∧ n ≤ 9223372036854775807
  pn : I64 c.p.pn
  time : I64 c.p.time
  psize : I64 c.p.size
  fv : ∃ a n k, c.p.fv = .slice a n k
theorem CpArg.below {w w' : World} {c : Cp} (h : CpArg w c) (hb : Below w.heap.size w w') : CpArg w' c := by
  obtain ⟨h1, h2, h3, ⟨n, F, T, s1, s2⟩, h5, h6, h7, h8, h9, h10, ⟨m, G, U, s3, s4⟩, h12, h13, h14, h15⟩ := h
  exact ⟨h1, h2, h3, ⟨n, F, T, s1.below hb, s2⟩, h5, h6, h7, h8, h9, h10, ⟨m, G, U, s3.below hb, s4⟩, h12, h13, h14, h15⟩
section
variable {H : Type} {enc : TypeId × Value → H} {w : World} {held : Bool}
theorem cellsOf29 : Tryz.prog.cellsOf 29 = 7 := by kernel_rfl
theorem cellsOf32 : Tryz.prog.cellsOf 32 = 5 := by kernel_rfl
theorem cellsOf34 : Tryz.prog.cellsOf 34 = 17 := by kernel_rfl
theorem split1 {cs : List Value} {n : Nat} (h : cs.length = n + 1) : ∃ c l, cs = c :: l ∧ l.length = n := by
  cases cs with
  | nil => simp at h
  | cons c l => exact ⟨c, l, rfl, by simpa using h⟩
theorem get_some {α : Type} {xs : List α} {n i : Nat} (h : xs.length = n) (hi : i < n) : ∃ y, xs[i]? = some y := ⟨xs[i]'(by omega), by simp [h, hi]⟩
set_option maxRecDepth 100000 in
theorem sp_of_trod {fuel : Nat} {v : Value} {x : DataW H × List MemPlace} (h : DataW.trod enc Tryz.prog w 0 (fun _ => true) held fuel 27 [v] = some x) : ∃ n F T, SpArg w v n F T ∧ n ≤ 9223372036854775807 := by
  rcases open_slice_fields Tryz.underlying27 Tryz.underlying51 (by kernel_rfl) (by kernel_rfl) h with ⟨hcs, hx⟩ | ⟨a, len, cap, m, D, Pl, hcs, _, hl, hm, hmm, hx, hall⟩
  · obtain rfl : v = .slice none 0 0 := by simpa using hcs
    exact ⟨0, fun _ => 0, fun _ => 0, ⟨none, 0, rfl, Nat.le_refl _, .inl rfl⟩, by decide⟩
  · obtain rfl : v = .slice (some a) len cap := by simpa using hcs
    simp only [if_true] at hmm
    rcases Nat.eq_zero_or_pos len with h0 | h0
    · subst h0
      exact ⟨0, fun _ => 0, fun _ => 0, ⟨_, cap, rfl, hl, .inl rfl⟩, by decide⟩
    · have one : ∀ i, i < len → ∀ j, j < 2 → ∃ z, w.cell? (a.add (i * 2 + j)) = some (.int .i64 z) ∧ (Lit.int .i64 z).wf = true := by
        intro i hi' j hj
        obtain ⟨ys, n, _, _, _, hy⟩ := hall i (by omega)
        have hj2 : j = 0 ∨ j = 1 := by omega
        rcases hj2 with rfl | rfl
        · obtain ⟨cv, y, hc, _, ht'⟩ := hy 0 _ rfl
          obtain ⟨z, hz, _, hw⟩ := DataW.trod_int Tryz.underlying3 ht'
          simp at hz
          subst hz
          exact ⟨z, hc, hw⟩
        · obtain ⟨cv, y, hc, _, ht'⟩ := hy 1 _ rfl
          obtain ⟨z, hz, _, hw⟩ := DataW.trod_int Tryz.underlying3 ht'
          simp at hz
          subst hz
          exact ⟨z, hc, hw⟩
      obtain ⟨z0, hz0, _⟩ := one 0 h0 0 (by decide)
      have hsp := cell_spot hz0
      obtain ⟨b, o, s⟩ := a
      obtain rfl : s = none := by
        have := congrArg Addr.spot hsp
        simpa [Addr.add] using this
      refine ⟨len, fun k => numAt w b (o + (k * 2 + 0)), fun k => numAt w b (o + (k * 2 + 1)), ⟨_, cap, rfl, hl, .inr ⟨b, o, rfl, hm, fun k hk => ?_⟩⟩, by unfold maxLen at hm; omega⟩
      obtain ⟨z1, c1, w1⟩ := one k hk 0 (by decide)
      obtain ⟨z2, c2, w2⟩ := one k hk 1 (by decide)
      rw [add_plain] at c1 c2
      have e1 : numAt w b (o + (k * 2 + 0)) = z1 := by unfold numAt; rw [c1]
      have e2 : numAt w b (o + (k * 2 + 1)) = z2 := by unfold numAt; rw [c2]
      simp only [e1, e2]
      exact ⟨c1, c2, w1, w2⟩
set_option maxRecDepth 100000 in
theorem open_fp {fuel : Nat} {cs : List Value} {x : DataW H × List MemPlace} (h : DataW.trod enc Tryz.prog w 0 (fun _ => true) held fuel 29 cs = some x) : ∃ ft fa fb fc fs fin fsv, cs = [.int .i64 ft, .int .i64 fa, .int .i64 fb, .int .i64 fc, .string fs, .bool fin, fsv] ∧ I64 ft ∧ I64 fa ∧ I64 fb ∧ I64 fc ∧ fs.size ≤ maxLen ∧ ∃ n F T, SpArg w fsv n F T ∧ n ≤ 9223372036854775807 := by
  obtain ⟨xs, n, _, _, hlen, hxl, hf⟩ := DataW.trod_struct Tryz.underlying29 h
  rw [cellsOf29] at hlen
  replace hxl : xs.length = 7 := hxl
  obtain ⟨a0, l0, rfl, hlen0⟩ := split1 hlen
  obtain ⟨a1, l1, rfl, hlen1⟩ := split1 hlen0
  obtain ⟨a2, l2, rfl, hlen2⟩ := split1 hlen1
  obtain ⟨a3, l3, rfl, hlen3⟩ := split1 hlen2
  obtain ⟨a4, l4, rfl, hlen4⟩ := split1 hlen3
  obtain ⟨a5, l5, rfl, hlen5⟩ := split1 hlen4
  obtain ⟨a6, l6, rfl, hlen6⟩ := split1 hlen5
  obtain rfl := List.eq_nil_of_length_eq_zero hlen6
  have h0 := hf 0 _ rfl
  obtain ⟨y0, e0⟩ := get_some hxl (show 0 < 7 by decide)
  rw [e0] at h0
  replace h0 : DataW.trod enc Tryz.prog w 0 (fun _ => true) held n 3 [a0] = some y0 := h0
  obtain ⟨z0, ez0, _, hw0⟩ := DataW.trod_int Tryz.underlying3 h0
  obtain rfl : a0 = .int .i64 z0 := by simpa using ez0
  have h1 := hf 1 _ rfl
  obtain ⟨y1, e1⟩ := get_some hxl (show 1 < 7 by decide)
  rw [e1] at h1
  replace h1 : DataW.trod enc Tryz.prog w 0 (fun _ => true) held n 3 [a1] = some y1 := h1
  obtain ⟨z1, ez1, _, hw1⟩ := DataW.trod_int Tryz.underlying3 h1
  obtain rfl : a1 = .int .i64 z1 := by simpa using ez1
  have h2 := hf 2 _ rfl
  obtain ⟨y2, e2⟩ := get_some hxl (show 2 < 7 by decide)
  rw [e2] at h2
  replace h2 : DataW.trod enc Tryz.prog w 0 (fun _ => true) held n 3 [a2] = some y2 := h2
  obtain ⟨z2, ez2, _, hw2⟩ := DataW.trod_int Tryz.underlying3 h2
  obtain rfl : a2 = .int .i64 z2 := by simpa using ez2
  have h3 := hf 3 _ rfl
  obtain ⟨y3, e3⟩ := get_some hxl (show 3 < 7 by decide)
  rw [e3] at h3
  replace h3 : DataW.trod enc Tryz.prog w 0 (fun _ => true) held n 3 [a3] = some y3 := h3
  obtain ⟨z3, ez3, _, hw3⟩ := DataW.trod_int Tryz.underlying3 h3
  obtain rfl : a3 = .int .i64 z3 := by simpa using ez3
  have h4 := hf 4 _ rfl
  obtain ⟨y4, e4⟩ := get_some hxl (show 4 < 7 by decide)
  rw [e4] at h4
  replace h4 : DataW.trod enc Tryz.prog w 0 (fun _ => true) held n 9 [a4] = some y4 := h4
  obtain ⟨z4, ez4, _, hw4⟩ := DataW.trod_string Tryz.underlying9 h4
  obtain rfl : a4 = .string z4 := by simpa using ez4
  have h5 := hf 5 _ rfl
  obtain ⟨y5, e5⟩ := get_some hxl (show 5 < 7 by decide)
  rw [e5] at h5
  replace h5 : DataW.trod enc Tryz.prog w 0 (fun _ => true) held n 4 [a5] = some y5 := h5
  obtain ⟨z5, ez5, _⟩ := DataW.trod_bool Tryz.underlying4 h5
  obtain rfl : a5 = .bool z5 := by simpa using ez5
  have h6 := hf 6 _ rfl
  obtain ⟨y6, e6⟩ := get_some hxl (show 6 < 7 by decide)
  rw [e6] at h6
  replace h6 : DataW.trod enc Tryz.prog w 0 (fun _ => true) held n 27 [a6] = some y6 := h6
  have hw6 := sp_of_trod h6
  exact ⟨z0, z1, z2, z3, z4, z5, a6, rfl, I64.of hw0, I64.of hw1, I64.of hw2, I64.of hw3, hw4, hw6⟩
set_option maxRecDepth 100000 in
theorem open_pkc {fuel : Nat} {cs : List Value} {x : DataW H × List MemPlace} (h : DataW.trod enc Tryz.prog w 0 (fun _ => true) held fuel 32 cs = some x) : ∃ p : Pk, cs = p.cells.toList ∧ I64 p.pn ∧ I64 p.time ∧ I64 p.size ∧ (∃ a n k, p.fv = .slice a n k) := by
  obtain ⟨xs, n, _, _, hlen, hxl, hf⟩ := DataW.trod_struct Tryz.underlying32 h
  rw [cellsOf32] at hlen
  replace hxl : xs.length = 5 := hxl
  obtain ⟨a0, l0, rfl, hlen0⟩ := split1 hlen
  obtain ⟨a1, l1, rfl, hlen1⟩ := split1 hlen0
  obtain ⟨a2, l2, rfl, hlen2⟩ := split1 hlen1
  obtain ⟨a3, l3, rfl, hlen3⟩ := split1 hlen2
  obtain ⟨a4, l4, rfl, hlen4⟩ := split1 hlen3
  obtain rfl := List.eq_nil_of_length_eq_zero hlen4
  have h0 := hf 0 _ rfl
  obtain ⟨y0, e0⟩ := get_some hxl (show 0 < 5 by decide)
  rw [e0] at h0
  replace h0 : DataW.trod enc Tryz.prog w 0 (fun _ => true) held n 3 [a0] = some y0 := h0
  obtain ⟨z0, ez0, _, hw0⟩ := DataW.trod_int Tryz.underlying3 h0
  obtain rfl : a0 = .int .i64 z0 := by simpa using ez0
  have h1 := hf 1 _ rfl
  obtain ⟨y1, e1⟩ := get_some hxl (show 1 < 5 by decide)
  rw [e1] at h1
  replace h1 : DataW.trod enc Tryz.prog w 0 (fun _ => true) held n 3 [a1] = some y1 := h1
  obtain ⟨z1, ez1, _, hw1⟩ := DataW.trod_int Tryz.underlying3 h1
  obtain rfl : a1 = .int .i64 z1 := by simpa using ez1
  have h2 := hf 2 _ rfl
  obtain ⟨y2, e2⟩ := get_some hxl (show 2 < 5 by decide)
  rw [e2] at h2
  replace h2 : DataW.trod enc Tryz.prog w 0 (fun _ => true) held n 3 [a2] = some y2 := h2
  obtain ⟨z2, ez2, _, hw2⟩ := DataW.trod_int Tryz.underlying3 h2
  obtain rfl : a2 = .int .i64 z2 := by simpa using ez2
  have h3 := hf 3 _ rfl
  obtain ⟨y3, e3⟩ := get_some hxl (show 3 < 5 by decide)
  rw [e3] at h3
  replace h3 : DataW.trod enc Tryz.prog w 0 (fun _ => true) held n 4 [a3] = some y3 := h3
  obtain ⟨z3, ez3, _⟩ := DataW.trod_bool Tryz.underlying4 h3
  obtain rfl : a3 = .bool z3 := by simpa using ez3
  have h4 := hf 4 _ rfl
  obtain ⟨y4, e4⟩ := get_some hxl (show 4 < 5 by decide)
  rw [e4] at h4
  replace h4 : DataW.trod enc Tryz.prog w 0 (fun _ => true) held n 30 [a4] = some y4 := h4
  have hw4 : ∃ a n k, a4 = .slice a n k := by
    rcases open_slice Tryz.underlying30 h4 with ⟨ez, _⟩ | ⟨_, _, _, _, _, _, _, ez, _⟩
    · exact ⟨_, _, _, by simpa using ez⟩
    · exact ⟨_, _, _, by simpa using ez⟩
  exact ⟨⟨z0, z1, z2, z3, a4⟩, rfl, I64.of hw0, I64.of hw1, I64.of hw2, hw4⟩
set_option maxRecDepth 100000 in
theorem open_cp {fuel : Nat} {cs : List Value} {x : DataW H × List MemPlace} (h : DataW.trod enc Tryz.prog w 0 (fun _ => true) held fuel 34 cs = some x) : ∃ c : Cp, cs = c.cells.toList ∧ CpArg w c := by
  obtain ⟨xs, n, _, _, hlen, hxl, hf⟩ := DataW.trod_struct Tryz.underlying34 h
  rw [cellsOf34] at hlen
  replace hxl : xs.length = 7 := hxl
  obtain ⟨a0, l0, rfl, hlen0⟩ := split1 hlen
  obtain ⟨a1, l1, rfl, hlen1⟩ := split1 hlen0
  obtain ⟨a2, l2, rfl, hlen2⟩ := split1 hlen1
  obtain ⟨a3, l3, rfl, hlen3⟩ := split1 hlen2
  obtain ⟨a4, l4, rfl, hlen4⟩ := split1 hlen3
  obtain ⟨a5, l5, rfl, hlen5⟩ := split1 hlen4
  obtain ⟨a6, l6, rfl, hlen6⟩ := split1 hlen5
  obtain ⟨a7, l7, rfl, hlen7⟩ := split1 hlen6
  obtain ⟨a8, l8, rfl, hlen8⟩ := split1 hlen7
  obtain ⟨a9, l9, rfl, hlen9⟩ := split1 hlen8
  obtain ⟨a10, l10, rfl, hlen10⟩ := split1 hlen9
  obtain ⟨a11, l11, rfl, hlen11⟩ := split1 hlen10
  obtain ⟨a12, l12, rfl, hlen12⟩ := split1 hlen11
  obtain ⟨a13, l13, rfl, hlen13⟩ := split1 hlen12
  obtain ⟨a14, l14, rfl, hlen14⟩ := split1 hlen13
  obtain ⟨a15, l15, rfl, hlen15⟩ := split1 hlen14
  obtain ⟨a16, l16, rfl, hlen16⟩ := split1 hlen15
  obtain rfl := List.eq_nil_of_length_eq_zero hlen16
  have h0 := hf 0 _ rfl
  obtain ⟨y0, e0⟩ := get_some hxl (show 0 < 7 by decide)
  rw [e0] at h0
  replace h0 : DataW.trod enc Tryz.prog w 0 (fun _ => true) held n 3 [a0] = some y0 := h0
  obtain ⟨z0, ez0, _, hw0⟩ := DataW.trod_int Tryz.underlying3 h0
  obtain rfl : a0 = .int .i64 z0 := by simpa using ez0
  have h1 := hf 1 _ rfl
  obtain ⟨y1, e1⟩ := get_some hxl (show 1 < 7 by decide)
  rw [e1] at h1
  replace h1 : DataW.trod enc Tryz.prog w 0 (fun _ => true) held n 3 [a1] = some y1 := h1
  obtain ⟨z1, ez1, _, hw1⟩ := DataW.trod_int Tryz.underlying3 h1
  obtain rfl : a1 = .int .i64 z1 := by simpa using ez1
  have h2 := hf 2 _ rfl
  obtain ⟨y2, e2⟩ := get_some hxl (show 2 < 7 by decide)
  rw [e2] at h2
  replace h2 : DataW.trod enc Tryz.prog w 0 (fun _ => true) held n 3 [a2] = some y2 := h2
  obtain ⟨z2, ez2, _, hw2⟩ := DataW.trod_int Tryz.underlying3 h2
  obtain rfl : a2 = .int .i64 z2 := by simpa using ez2
  have h3 := hf 3 _ rfl
  obtain ⟨y3, e3⟩ := get_some hxl (show 3 < 7 by decide)
  rw [e3] at h3
  replace h3 : DataW.trod enc Tryz.prog w 0 (fun _ => true) held n 27 [a3] = some y3 := h3
  have hw3 := sp_of_trod h3
  have h4 := hf 4 _ rfl
  obtain ⟨y4, e4⟩ := get_some hxl (show 4 < 7 by decide)
  rw [e4] at h4
  replace h4 : DataW.trod enc Tryz.prog w 0 (fun _ => true) held n 3 [a4] = some y4 := h4
  obtain ⟨z4, ez4, _, hw4⟩ := DataW.trod_int Tryz.underlying3 h4
  obtain rfl : a4 = .int .i64 z4 := by simpa using ez4
  have h5 := hf 5 _ rfl
  obtain ⟨y5, e5⟩ := get_some hxl (show 5 < 7 by decide)
  rw [e5] at h5
  replace h5 : DataW.trod enc Tryz.prog w 0 (fun _ => true) held n 29 [a5, a6, a7, a8, a9, a10, a11] = some y5 := h5
  have h6 := hf 6 _ rfl
  obtain ⟨y6, e6⟩ := get_some hxl (show 6 < 7 by decide)
  rw [e6] at h6
  replace h6 : DataW.trod enc Tryz.prog w 0 (fun _ => true) held n 32 [a12, a13, a14, a15, a16] = some y6 := h6
  obtain ⟨ft, fa, fb, fc, fs, fin, fsv, ee, g1, g2, g3, g4, g5, g6⟩ := open_fp h5
  obtain ⟨p, ep, p1, p2, p3, p4⟩ := open_pkc h6
  simp only [List.cons.injEq, and_true] at ee
  obtain ⟨rfl, rfl, rfl, rfl, rfl, rfl, rfl⟩ := ee
  obtain ⟨pn, time, psize, el, fv⟩ := p
  simp only [Pk.cells, List.cons.injEq, and_true] at ep
  obtain ⟨rfl, rfl, rfl, rfl, rfl⟩ := ep
  exact ⟨⟨z0, z1, z2, a3, z4, ft, fa, fb, fc, fs, fin, a11, ⟨pn, time, psize, el, a16⟩⟩, rfl, ⟨I64.of hw0, I64.of hw1, I64.of hw2, hw3, I64.of hw4, g1, g2, g3, g4, g5, g6, p1, p2, p3, p4⟩⟩
set_option maxRecDepth 100000 in
/-- a CallParams by value -/
theorem cp_arg {base : Nat} {v : Value} {d : DataW H} {p : List MemPlace} (hv : Value.okWide Tryz.prog w .any base 34 v) (h : DataW.Trod enc Tryz.prog w 0 (fun _ => true) held 34 v d p) : ∃ c : Cp, v = .agg c.cells ∧ CpArg w c := by
  obtain ⟨cs, rfl, hsz⟩ := okWide_struct Tryz.underlying34 hv
  obtain ⟨fuel, hf⟩ := h
  obtain ⟨c, e, hc⟩ := open_cp hf
  refine ⟨c, ?_, hc⟩
  congr 1
  have e : cs.toList = c.cells.toList := by simpa [Value.cells] using e
  exact Array.toList_inj.1 e
end
end Go.Proofs.YtafkndhnbnpahaaGreat
