/- Law 13: a slice of CallParams that comes as an argument, opened. -/
import Derived.Test.YtafkndhnbnpahaaGreatAi
import Derived.Deep.MidRow
import Derived.Deep.WholeRow
namespace Go.Proofs.YtafkndhnbnpahaaGreat
open Go.RowKit Go.ChangeShapes Go.WideShapes Go.Deep
/-- the slice v holds the CallParams -/
def CpsAt (w : World) (v : Value) (l : List Cp) : Prop := (l = [] ∧ ∃ a cap, v = .slice a 0 cap) ∨
  ∃ b off cap, v = .slice (some ⟨b, off, none⟩) l.length cap ∧ 0 < l.length ∧ l.length ≤ cap ∧ cap ≤ maxLen ∧ ∀ i c, l[i]? = some c → w.rangeAt b (off + i * 17) c.cells.toList
instance : Inhabited Cp := ⟨⟨0, 0, 0, .slice none 0 0, 0, 0, 0, 0, 0, ⟨#[]⟩, false, .slice none 0 0, ⟨0, 0, 0, false, .slice none 0 0⟩⟩⟩
set_option maxRecDepth 100000 in
theorem cps_at {H : Type} {enc : TypeId × Value → H} {W : World} {base : Nat} {held : Bool} {v : Value} {d : DataW H} {p : List MemPlace} (hv : Value.okWide Tryz.prog W .any base 22 v)
    (h : DataW.Trod enc Tryz.prog W 0 (fun _ => true) held 22 v d p) : ∃ l, CpsAt W v l ∧ l.length ≤ maxLen ∧ ∀ c ∈ l, CpArg W c := by
  obtain ⟨a0, len, cap, rfl⟩ := okWide_slice Tryz.underlying22 hv
  obtain ⟨fuel, hf'⟩ := h
  rcases open_slice Tryz.underlying22 hf' with ⟨hcs, hx⟩ | ⟨a, len', cap', m, n, D, Pl, hcs, _, hl, hm, hmm, hx, hall⟩
  · simp [Value.cells] at hcs
    obtain ⟨rfl, rfl, rfl⟩ := hcs
    exact ⟨[], .inl ⟨rfl, _, _, rfl⟩, by simp, by simp⟩
  · simp [Value.cells] at hcs
    obtain ⟨rfl, rfl, rfl⟩ := hcs
    simp only [if_true] at hmm
    rcases Nat.eq_zero_or_pos len with h0 | h0
    · subst h0
      exact ⟨[], .inl ⟨rfl, _, _, rfl⟩, by simp, by simp⟩
    · have one : ∀ i, ∃ c : Cp, i < len → (∀ j u, c.cells.toList[j]? = some u → W.cell? ((a.add (i * 17)).add j) = some u) ∧ CpArg W c := by
        intro i
        by_cases hi : i < len
        · obtain ⟨cs', hc, ht'⟩ := hall i (by omega)
          obtain ⟨c, rfl, hw⟩ := open_cp ht'
          rw [cellsOf34] at hc
          obtain ⟨_, hcl, hat⟩ := World.cells?_some hc
          refine ⟨c, fun _ => ⟨fun j u hu => ?_, hw⟩⟩
          have hj : j < 17 := by have := (List.getElem?_eq_some_iff.1 hu).1; rw [hcl] at this; exact this
          rw [hat j hj]; exact hu
        · exact ⟨default, fun h => absurd h hi⟩
      obtain ⟨g, hg⟩ := Classical.axiomOfChoice one
      have hsp : a.spot = none := by
        have := cell_spot ((hg 0 h0).1 0 _ rfl)
        have := congrArg Addr.spot this
        simpa [Addr.add] using this
      obtain ⟨b, o, s⟩ := a
      obtain rfl : s = none := hsp
      have hlen : ((List.range len).map g).length = len := by simp
      refine ⟨(List.range len).map g, .inr ⟨b, o, cap, by rw [hlen], by omega, by omega, hm, fun i c hi j u hu => ?_⟩, by omega, fun c hc => ?_⟩
      · have hil : i < len := by have := (List.getElem?_eq_some_iff.1 hi).1; omega
        have : c = g i := by simpa [List.getElem?_map, List.getElem?_range hil] using hi.symm
        subst this
        have := (hg i hil).1 j u hu
        rw [add_plain, add_plain] at this
        exact this
      · obtain ⟨i, hi, rfl⟩ := List.mem_map.1 hc
        exact (hg i (by simpa using hi)).2
theorem CpsAt.below {w w' : World} {v : Value} {l : List Cp} (h : CpsAt w v l) (hb : Below w.heap.size w w') : CpsAt w' v l := by
  rcases h with h | ⟨b, off, cap, h1, h2, h3, h4, h5⟩
  · exact .inl h
  · exact .inr ⟨b, off, cap, h1, h2, h3, h4, fun i c hi j u hu => (hb.cell (p := ⟨b, off + i * 17 + j, none⟩) (World.block_lt_of_cell? _ _ (h5 i c hi j u hu))).trans (h5 i c hi j u hu)⟩
theorem CpsAt.form {w : World} {v : Value} {l : List Cp} (h : CpsAt w v l) : ∃ a cap, v = .slice a l.length cap := by
  rcases h with ⟨rfl, a, cap, rfl⟩ | ⟨b, off, cap, rfl, _⟩
  · exact ⟨_, _, rfl⟩
  · exact ⟨_, _, rfl⟩
theorem size34 (c : Cp) : (Tryz.prog.info? 34).map (·.size) = some c.cells.toList.length := info34
/-- a CallParams out of the slice -/
theorem wpList_load_cp {ops : Array Oper} {rest : List Oper} {o : Oper} {a : Act} {w : World} {Q : Exit → Act → World → Prop} (hgd : o.guard = none) (x : Operand) (ho : o.op = .load 34 x) (c : Cp)
    (g k : Nat) (hx : a.eval x = .pointer (some ⟨g, k, none⟩)) (hc : w.rangeAt g k c.cells.toList)
    (h : wpList Tryz.prog ops Q rest (a.put o.dst (.agg c.cells)) w) : wpList Tryz.prog ops Q (o :: rest) a w :=
  wpList_load_mid hgd 34 x ho g k hx c.cells.toList _ hc Tryz.underlying34 rfl (size34 c) (by rw [Array.toArray_toList]; exact h)
theorem hold_load {P : Program} {ops : Array Oper} {rest : List Oper} {o : Oper} {a : Act} {w : World} {Q : Exit → Act → World → Prop} (ty : TypeId) (x : Operand) (_ho : o.op = .load ty x) (h : Hid (wpList P ops Q (o :: rest) a w)) : wpList P ops Q (o :: rest) a w := h.out
/-- 'c := l[i]': the variable made and set -/
theorem wpList_store_cp {ops : Array Oper} {rest : List Oper} {o : Oper} {a : Act} {w : World} {Q : Exit → Act → World → Prop} (hgd : o.guard = none) (x y : Operand) (ho : o.op = .store 34 x y) (c : Cp) (h1 : c.cells.all (·.oneCell') = true)
    (cs : Array Value) (hcs : cs.size = 17) (hx : a.eval x = .pointer (some ⟨w.heap.size, 0, none⟩)) (hy : a.eval y = .agg c.cells)
    (h : wpList Tryz.prog ops Q rest (a.put o.dst undef) (w.alloc (.cells c.cells 34))) : wpList Tryz.prog ops Q (o :: rest) a (w.alloc (.cells cs 34)) :=
  wpList_store_row hgd 34 x y ho w.heap.size c.cells hx hy 34 cs (heap_alloc_new _ _) info34 hcs h1 (by rw [World.setRow_alloc_new]; exact h)
theorem CpArg.one {w : World} {c : Cp} (h : CpArg w c) : c.cells.all (·.oneCell') = true := by
  obtain ⟨n, F, T, ⟨a, cap, e, _⟩, _⟩ := h.sp
  obtain ⟨m, G, U, ⟨a2, cap2, e2, _⟩, _⟩ := h.fsp
  obtain ⟨a3, n3, k3, e3⟩ := h.fv
  unfold Cp.cells
  rw [e, e2, e3]
  simp [Value.oneCell']
end Go.Proofs.YtafkndhnbnpahaaGreat
