/- The law's calls (CallParams), as they come in: opened to plain data. -/
import Derived.Test.YtmjekepiplibkaaSf
import Derived.Deep.Slices
namespace Go.Proofs.Ytmjekepiplibkaa
open Go.RowKit Go.ChangeShapes Go.WideShapes Go.Deep
structure I64 (n : Int) : Prop where
  lo : -9223372036854775808 ≤ n
  hi : n ≤ 9223372036854775807
theorem I64.of {n : Int} (h : (Lit.int .i64 n).wf = true) : I64 n := ⟨(bounds_i64 h).1, (bounds_i64 h).2⟩
structure FrWf (f : Fr) : Prop where
  ty : I64 f.ty
  str : I64 f.str
  off : I64 f.off
  s : f.s.size ≤ maxLen
  max : I64 f.max
  code : I64 f.code
  delay : I64 f.delay
  seq : I64 f.seq
  retire : I64 f.retire
  cid : f.cid.size ≤ maxLen
  ranges : f.ranges.oneCell' = true
structure Cp where
  kind : Int
  n : Int
  credit : Int
  s : ByteArray
  which : Int
  f : Fr
def Cp.cells (c : Cp) : List Value := [.int .i64 c.kind, .int .i64 c.n, .int .i64 c.credit, .string c.s, .int .i64 c.which] ++ c.f.cells.toList
structure CpWf (c : Cp) : Prop where
  kind : I64 c.kind
  n : I64 c.n
  credit : I64 c.credit
  s : c.s.size ≤ maxLen
  which : I64 c.which
  f : FrWf c.f
section
variable {H : Type} {enc : TypeId × Value → H} {w : World} {base : Nat} {spare : Nat → Bool} {held : Bool}
theorem cellsOf3 : Try.prog.cellsOf 3 = 1 := by kernel_rfl
theorem cellsOf4 : Try.prog.cellsOf 4 = 1 := by kernel_rfl
theorem cellsOf9 : Try.prog.cellsOf 9 = 1 := by kernel_rfl
theorem cellsOf33 : Try.prog.cellsOf 33 = 1 := by kernel_rfl
theorem cellsOf35 : Try.prog.cellsOf 35 = 13 := by kernel_rfl
theorem cellsOf44 : Try.prog.cellsOf 44 = 18 := by kernel_rfl
theorem split1 {cs : List Value} {n : Nat} (h : cs.length = n + 1) : ∃ c l, cs = c :: l ∧ l.length = n := by
  cases cs with
  | nil => simp at h
  | cons c l => exact ⟨c, l, rfl, by simpa using h⟩
theorem get_some {α : Type} {xs : List α} {n i : Nat} (h : xs.length = n) (hi : i < n) : ∃ y, xs[i]? = some y := ⟨xs[i]'(by omega), by simp [h, hi]⟩
theorem open_fr {fuel : Nat} {cs : List Value} {x : DataW H × List MemPlace} (h : DataW.trod enc Try.prog w base spare held fuel 35 cs = some x) : ∃ f : Fr, cs = f.cells.toList ∧ FrWf f := by
  obtain ⟨xs, n, _, _, hlen, hxl, hf⟩ := DataW.trod_struct Try.underlying35 h
  rw [cellsOf35] at hlen
  replace hxl : xs.length = 13 := hxl
  obtain ⟨a0, l0, rfl, hlen0⟩ := split1 hlen
  obtain ⟨a1, l1, rfl, hlen1⟩ := split1 hlen0
  obtain ⟨a2, l2, rfl, hlen2⟩ := split1 hlen1
  obtain ⟨a3, l3, rfl, hlen3⟩ := split1 hlen2
  obtain ⟨a4, l4, rfl, hlen4⟩ := split1 hlen3
  obtain ⟨a5, l5, rfl, hlen5⟩ := split1 hlen4
  obtain ⟨a6, l6, rfl, hlen6⟩ := split1 hlen5
  obtain ⟨a7, l7, rfl, hlen7⟩ := split1 hlen6
  obtain ⟨a8, l8, rfl, hlen8⟩ := split1 hlen7
  obtain ⟨a9, l9, rfl, hlen9⟩ := split1 hlen8
  obtain ⟨a10, l10, rfl, hlen10⟩ := split1 hlen9
  obtain ⟨a11, l11, rfl, hlen11⟩ := split1 hlen10
  obtain ⟨a12, l12, rfl, hlen12⟩ := split1 hlen11
  obtain rfl := List.eq_nil_of_length_eq_zero hlen12
  have h0 := hf 0 _ rfl
  obtain ⟨y0, e0⟩ := get_some hxl (show 0 < 13 by decide)
  rw [e0] at h0
  replace h0 : DataW.trod enc Try.prog w base spare held n 3 [a0] = some y0 := h0
  obtain ⟨z0, ez0, _, hw0⟩ := DataW.trod_int Try.underlying3 h0
  obtain rfl : a0 = .int .i64 z0 := by simpa using ez0
  have h1 := hf 1 _ rfl
  obtain ⟨y1, e1⟩ := get_some hxl (show 1 < 13 by decide)
  rw [e1] at h1
  replace h1 : DataW.trod enc Try.prog w base spare held n 3 [a1] = some y1 := h1
  obtain ⟨z1, ez1, _, hw1⟩ := DataW.trod_int Try.underlying3 h1
  obtain rfl : a1 = .int .i64 z1 := by simpa using ez1
  have h2 := hf 2 _ rfl
  obtain ⟨y2, e2⟩ := get_some hxl (show 2 < 13 by decide)
  rw [e2] at h2
  replace h2 : DataW.trod enc Try.prog w base spare held n 3 [a2] = some y2 := h2
  obtain ⟨z2, ez2, _, hw2⟩ := DataW.trod_int Try.underlying3 h2
  obtain rfl : a2 = .int .i64 z2 := by simpa using ez2
  have h3 := hf 3 _ rfl
  obtain ⟨y3, e3⟩ := get_some hxl (show 3 < 13 by decide)
  rw [e3] at h3
  replace h3 : DataW.trod enc Try.prog w base spare held n 9 [a3] = some y3 := h3
  obtain ⟨z3, ez3, _, hw3⟩ := DataW.trod_string Try.underlying9 h3
  obtain rfl : a3 = .string z3 := by simpa using ez3
  have h4 := hf 4 _ rfl
  obtain ⟨y4, e4⟩ := get_some hxl (show 4 < 13 by decide)
  rw [e4] at h4
  replace h4 : DataW.trod enc Try.prog w base spare held n 4 [a4] = some y4 := h4
  obtain ⟨z4, ez4, _⟩ := DataW.trod_bool Try.underlying4 h4
  obtain rfl : a4 = .bool z4 := by simpa using ez4
  have h5 := hf 5 _ rfl
  obtain ⟨y5, e5⟩ := get_some hxl (show 5 < 13 by decide)
  rw [e5] at h5
  replace h5 : DataW.trod enc Try.prog w base spare held n 3 [a5] = some y5 := h5
  obtain ⟨z5, ez5, _, hw5⟩ := DataW.trod_int Try.underlying3 h5
  obtain rfl : a5 = .int .i64 z5 := by simpa using ez5
  have h6 := hf 6 _ rfl
  obtain ⟨y6, e6⟩ := get_some hxl (show 6 < 13 by decide)
  rw [e6] at h6
  replace h6 : DataW.trod enc Try.prog w base spare held n 3 [a6] = some y6 := h6
  obtain ⟨z6, ez6, _, hw6⟩ := DataW.trod_int Try.underlying3 h6
  obtain rfl : a6 = .int .i64 z6 := by simpa using ez6
  have h7 := hf 7 _ rfl
  obtain ⟨y7, e7⟩ := get_some hxl (show 7 < 13 by decide)
  rw [e7] at h7
  replace h7 : DataW.trod enc Try.prog w base spare held n 4 [a7] = some y7 := h7
  obtain ⟨z7, ez7, _⟩ := DataW.trod_bool Try.underlying4 h7
  obtain rfl : a7 = .bool z7 := by simpa using ez7
  have h8 := hf 8 _ rfl
  obtain ⟨y8, e8⟩ := get_some hxl (show 8 < 13 by decide)
  rw [e8] at h8
  replace h8 : DataW.trod enc Try.prog w base spare held n 3 [a8] = some y8 := h8
  obtain ⟨z8, ez8, _, hw8⟩ := DataW.trod_int Try.underlying3 h8
  obtain rfl : a8 = .int .i64 z8 := by simpa using ez8
  have h9 := hf 9 _ rfl
  obtain ⟨y9, e9⟩ := get_some hxl (show 9 < 13 by decide)
  rw [e9] at h9
  replace h9 : DataW.trod enc Try.prog w base spare held n 33 [a9] = some y9 := h9
  have hw9 : a9.oneCell' = true := by
    rcases open_slice Try.underlying33 h9 with ⟨ez, _⟩ | ⟨_, _, _, _, _, _, _, ez, _⟩
    · obtain rfl : a9 = .slice none 0 0 := by simpa using ez
      rfl
    · simp only [List.cons.injEq, and_true] at ez; rw [ez]; rfl
  have h10 := hf 10 _ rfl
  obtain ⟨y10, e10⟩ := get_some hxl (show 10 < 13 by decide)
  rw [e10] at h10
  replace h10 : DataW.trod enc Try.prog w base spare held n 3 [a10] = some y10 := h10
  obtain ⟨z10, ez10, _, hw10⟩ := DataW.trod_int Try.underlying3 h10
  obtain rfl : a10 = .int .i64 z10 := by simpa using ez10
  have h11 := hf 11 _ rfl
  obtain ⟨y11, e11⟩ := get_some hxl (show 11 < 13 by decide)
  rw [e11] at h11
  replace h11 : DataW.trod enc Try.prog w base spare held n 3 [a11] = some y11 := h11
  obtain ⟨z11, ez11, _, hw11⟩ := DataW.trod_int Try.underlying3 h11
  obtain rfl : a11 = .int .i64 z11 := by simpa using ez11
  have h12 := hf 12 _ rfl
  obtain ⟨y12, e12⟩ := get_some hxl (show 12 < 13 by decide)
  rw [e12] at h12
  replace h12 : DataW.trod enc Try.prog w base spare held n 9 [a12] = some y12 := h12
  obtain ⟨z12, ez12, _, hw12⟩ := DataW.trod_string Try.underlying9 h12
  obtain rfl : a12 = .string z12 := by simpa using ez12
  exact ⟨⟨z0, z1, z2, z3, z4, z5, z6, z7, z8, a9, z10, z11, z12⟩, rfl, ⟨I64.of hw0, I64.of hw1, I64.of hw2, hw3, I64.of hw5, I64.of hw6, I64.of hw8, I64.of hw10, I64.of hw11, hw12, hw9⟩⟩
theorem open_cp {fuel : Nat} {cs : List Value} {x : DataW H × List MemPlace} (h : DataW.trod enc Try.prog w base spare held fuel 44 cs = some x) : ∃ c : Cp, cs = c.cells ∧ CpWf c := by
  obtain ⟨xs, n, _, _, hlen, hxl, hf⟩ := DataW.trod_struct Try.underlying44 h
  rw [cellsOf44] at hlen
  replace hxl : xs.length = 6 := hxl
  obtain ⟨a0, l0, rfl, hlen0⟩ := split1 hlen
  obtain ⟨a1, l1, rfl, hlen1⟩ := split1 hlen0
  obtain ⟨a2, l2, rfl, hlen2⟩ := split1 hlen1
  obtain ⟨a3, l3, rfl, hlen3⟩ := split1 hlen2
  obtain ⟨a4, l4, rfl, hlen4⟩ := split1 hlen3
  have h0 := hf 0 _ rfl
  obtain ⟨y0, e0⟩ := get_some hxl (show 0 < 6 by decide)
  rw [e0] at h0
  replace h0 : DataW.trod enc Try.prog w base spare held n 3 [a0] = some y0 := h0
  obtain ⟨z0, ez0, _, hw0⟩ := DataW.trod_int Try.underlying3 h0
  obtain rfl : a0 = .int .i64 z0 := by simpa using ez0
  have h1 := hf 1 _ rfl
  obtain ⟨y1, e1⟩ := get_some hxl (show 1 < 6 by decide)
  rw [e1] at h1
  replace h1 : DataW.trod enc Try.prog w base spare held n 3 [a1] = some y1 := h1
  obtain ⟨z1, ez1, _, hw1⟩ := DataW.trod_int Try.underlying3 h1
  obtain rfl : a1 = .int .i64 z1 := by simpa using ez1
  have h2 := hf 2 _ rfl
  obtain ⟨y2, e2⟩ := get_some hxl (show 2 < 6 by decide)
  rw [e2] at h2
  replace h2 : DataW.trod enc Try.prog w base spare held n 3 [a2] = some y2 := h2
  obtain ⟨z2, ez2, _, hw2⟩ := DataW.trod_int Try.underlying3 h2
  obtain rfl : a2 = .int .i64 z2 := by simpa using ez2
  have h3 := hf 3 _ rfl
  obtain ⟨y3, e3⟩ := get_some hxl (show 3 < 6 by decide)
  rw [e3] at h3
  replace h3 : DataW.trod enc Try.prog w base spare held n 9 [a3] = some y3 := h3
  obtain ⟨z3, ez3, _, hw3⟩ := DataW.trod_string Try.underlying9 h3
  obtain rfl : a3 = .string z3 := by simpa using ez3
  have h4 := hf 4 _ rfl
  obtain ⟨y4, e4⟩ := get_some hxl (show 4 < 6 by decide)
  rw [e4] at h4
  replace h4 : DataW.trod enc Try.prog w base spare held n 3 [a4] = some y4 := h4
  obtain ⟨z4, ez4, _, hw4⟩ := DataW.trod_int Try.underlying3 h4
  obtain rfl : a4 = .int .i64 z4 := by simpa using ez4
  have h5 := hf 5 _ rfl
  obtain ⟨y5, e5⟩ := get_some hxl (show 5 < 6 by decide)
  rw [e5] at h5
  replace h5 : DataW.trod enc Try.prog w base spare held n 35 (l4.take (Try.prog.cellsOf 35)) = some y5 := h5
  rw [cellsOf35, List.take_of_length_le (by omega)] at h5
  obtain ⟨f, rfl, hwf⟩ := open_fr h5
  exact ⟨⟨z0, z1, z2, z3, z4, f⟩, rfl, ⟨I64.of hw0, I64.of hw1, I64.of hw2, hw3, I64.of hw4, hwf⟩⟩
end
/-- a slice of calls -/
def CpsAt (w : World) (v : Value) (l : List Cp) : Prop := (l = [] ∧ ∃ a cap, v = .slice a 0 cap) ∨
  ∃ b off cap, v = .slice (some ⟨b, off, none⟩) l.length cap ∧ 0 < l.length ∧ l.length ≤ cap ∧ cap ≤ maxLen ∧ ∀ i c, l[i]? = some c → w.rangeAt b (off + i * 18) c.cells
instance : Inhabited Cp := ⟨⟨0, 0, 0, ⟨#[]⟩, 0, fr0⟩⟩
theorem cps_at {H : Type} {enc : TypeId × Value → H} {W : World} {base : Nat} {held : Bool} {v : Value} {d : DataW H} {p : List MemPlace} (hv : Value.okWide Try.prog W .any base 41 v)
    (h : DataW.Trod enc Try.prog W 0 (fun _ => true) held 41 v d p) : ∃ l, CpsAt W v l ∧ l.length ≤ maxLen ∧ ∀ c ∈ l, CpWf c := by
  obtain ⟨a0, len, cap, rfl⟩ := okWide_slice Try.underlying41 hv
  obtain ⟨fuel, hf'⟩ := h
  rcases open_slice Try.underlying41 hf' with ⟨hcs, hx⟩ | ⟨a, len', cap', m, n, D, Pl, hcs, _, hl, hm, hmm, hx, hall⟩
  · simp [Value.cells] at hcs
    obtain ⟨rfl, rfl, rfl⟩ := hcs
    exact ⟨[], .inl ⟨rfl, _, _, rfl⟩, by simp, by simp⟩
  · simp [Value.cells] at hcs
    obtain ⟨rfl, rfl, rfl⟩ := hcs
    simp only [if_true] at hmm
    rcases Nat.eq_zero_or_pos len with h0 | h0
    · subst h0
      exact ⟨[], .inl ⟨rfl, _, _, rfl⟩, by simp, by simp⟩
    · have one : ∀ i, ∃ c : Cp, i < len → (∀ j u, c.cells[j]? = some u → W.cell? ((a.add (i * 18)).add j) = some u) ∧ CpWf c := by
        intro i
        by_cases hi : i < len
        · obtain ⟨cs', hc, ht'⟩ := hall i (by omega)
          obtain ⟨c, rfl, hw⟩ := open_cp ht'
          rw [cellsOf44] at hc
          obtain ⟨_, hcl, hat⟩ := World.cells?_some hc
          refine ⟨c, fun _ => ⟨fun j u hu => ?_, hw⟩⟩
          have hj : j < 18 := by have := (List.getElem?_eq_some_iff.1 hu).1; rw [hcl] at this; exact this
          rw [hat j hj]; exact hu
        · exact ⟨default, fun h => absurd h hi⟩
      obtain ⟨g, hg⟩ := Classical.axiomOfChoice one
      have hsp : a.spot = none := by
        have := cell_spot ((hg 0 h0).1 0 _ rfl)
        have := congrArg Addr.spot this
        simpa [Addr.add] using this
      obtain ⟨b, o, s⟩ := a
      obtain rfl : s = none := hsp
      have hlen : ((List.range len).map g).length = len := by simp
      refine ⟨(List.range len).map g, .inr ⟨b, o, cap, by rw [hlen], by omega, by omega, hm, fun i c hi j u hu => ?_⟩, by omega, fun c hc => ?_⟩
      · have hil : i < len := by have := (List.getElem?_eq_some_iff.1 hi).1; omega
        have : c = g i := by simpa [List.getElem?_map, List.getElem?_range hil] using hi.symm
        subst this
        have := (hg i hil).1 j u hu
        rw [add_plain, add_plain] at this
        exact this
      · obtain ⟨i, hi, rfl⟩ := List.mem_map.1 hc
        exact (hg i (by simpa using hi)).2
theorem CpsAt.below {w w' : World} {v : Value} {l : List Cp} (h : CpsAt w v l) (hb : Below w.heap.size w w') : CpsAt w' v l := by
  rcases h with h | ⟨b, off, cap, h1, h2, h3, h4, h5⟩
  · exact .inl h
  · exact .inr ⟨b, off, cap, h1, h2, h3, h4, fun i c hi j u hu => (hb.cell (p := ⟨b, off + i * 18 + j, none⟩) (World.block_lt_of_cell? _ _ (h5 i c hi j u hu))).trans (h5 i c hi j u hu)⟩
theorem CpsAt.form {w : World} {v : Value} {l : List Cp} (h : CpsAt w v l) : ∃ a cap, v = .slice a l.length cap := by
  rcases h with ⟨rfl, a, cap, rfl⟩ | ⟨b, off, cap, rfl, _⟩
  · exact ⟨_, _, rfl⟩
  · exact ⟨_, _, rfl⟩
end Go.Proofs.Ytmjekepiplibkaa
