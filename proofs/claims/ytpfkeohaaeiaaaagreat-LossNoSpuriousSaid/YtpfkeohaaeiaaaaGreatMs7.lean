/- Texts Zl Zm Structs Ah Ai Aj Cn Co InvIn of this claim, one behind the other. -/
import Derived.Test.YtpfkeohaaeiaaaaGreatMs6
import Derived.Test.YtpfkeohaaeiaaaaGreatMs1
import Derived.Deep.Slices
import Derived.Deep.Fields
import Derived.ChangeSame
import Derived.Deep.MidRow
import Derived.Deep.WholeRow
import Derived.Laws.OwnMore
import Derived.Test.YtpfkeohaaeiaaaaGreatMs2
import Derived.OrdersIn
/- Law 13: plain laws on what is left behind ACK frames. -/
namespace Go.Proofs.YtpfkeohaaeiaaaaGreat
theorem acked_sub (R : Rc) (n : Nat) (F T : Nat → Int) (now d : Int) : ∀ p ∈ (R.acked n F T now d).l, p ∈ R.l ∧ akF n F T p = false ∧ exF (max R.lg (T 0 - 1)) now d p = false := by
  intro p hp
  obtain ⟨h1, h2⟩ := List.mem_filter.1 hp
  obtain ⟨h3, h4⟩ := List.mem_filter.1 h1
  exact ⟨h3, by simpa using h4, by simpa [Rc.ack] using h2⟩
/-- the same frame again: nothing is acknowledged, nothing lost -/
theorem acked_again (R : Rc) (n : Nat) (F T : Nat → Int) (now d : Int) :
    (R.acked n F T now d).l.filter (akF n F T) = [] ∧ (R.acked n F T now d).lostA n F T now d = [] ∧ (R.acked n F T now d).acked n F T now d = R.acked n F T now d := by
  have h := acked_sub R n F T now d
  have hlg : (R.acked n F T now d).lg = max R.lg (T 0 - 1) := rfl
  have e : max (max R.lg (T 0 - 1)) (T 0 - 1) = max R.lg (T 0 - 1) := by omega
  generalize R.acked n F T now d = Q at *
  have ha : Q.l.filter (akF n F T) = [] := List.filter_eq_nil_iff.2 (fun p hp => by simp [(h p hp).2.1])
  have hk : Q.l.filter (fun p => !akF n F T p) = Q.l := List.filter_eq_self.2 (fun p hp => by simp [(h p hp).2.1])
  have hack : Q.ack n F T = Q := by
    unfold Rc.ack Rc.cut
    rw [hk, hlg, e, ← hlg]
  refine ⟨ha, ?_, ?_⟩
  · unfold Rc.lostA
    rw [hack]
    exact List.filter_eq_nil_iff.2 (fun p hp => by rw [hlg]; simp [(h p hp).2.2])
  · unfold Rc.acked
    rw [hack]
    unfold Rc.cut
    rw [List.filter_eq_self.2 (fun p hp => by rw [hlg]; simp [(h p hp).2.2])]
theorem inF_zero {n : Nat} {F T : Nat → Int} (h : RgOk n F T) : inF n F T (T 0 - 1) = true := by
  have := (h.at_ 0 h.lo).2.1
  exact List.any_eq_true.2 ⟨0, List.mem_range.2 h.lo, by simp only [spF, Bool.and_eq_true, decide_eq_true_eq]; omega⟩
theorem sends_has (f : Nat → Pk) (n : Nat) (g : Pk → Bool) (i : Nat) (hi : i < n) (hg : g (f i) = true) : (sends f n).l.filter g ≠ [] := by
  intro h
  have := List.filter_eq_nil_iff.1 h (f i) (List.mem_map.2 ⟨i, List.mem_range.2 hi, rfl⟩)
  exact this hg
open Go.RowKit
/-- New beside blocks of the call's own -/
theorem lw_new2 {w0 w : World} (hb : Below w0.heap.size w0 w) (os : List (Nat × Obj)) (ho : ∀ x ∈ os, w.heap[x.1]? = some x.2 ∧ isC x.2 = true) : Calls Tryz.prog 6 #[] w fun e w' => ∃ b M, e = .returned (.pointer (some ⟨b, 0, none⟩)) ∧ Lw w0 w' b M ⟨[], 0, -1⟩ [] os ∧ Below w.heap.size w w' := by
  refine (new_any w).mono ?_
  rintro e w' ⟨b, M, rfl, h1, h2, h3, h4⟩
  exact ⟨b, M, rfl, ⟨hb.trans (h4.mono hb.size), h3, ⟨⟨by simp, by simp, by simp⟩, by decide, by decide, by decide, by decide, by decide, by simp⟩, by simp, Nat.le_trans hb.size h1, Nat.le_trans hb.size h2, by simp,
    fun x hx => ⟨heap_below h4 (ho x hx).1, (ho x hx).2, by have := heap_lt (ho x hx).1; omega⟩⟩, h4⟩
end Go.Proofs.YtpfkeohaaeiaaaaGreat
/- Law 13: plain laws for LossDeadline. -/
namespace Go.Proofs.YtpfkeohaaeiaaaaGreat
open Go.RowKit
theorem mnT_le (h : Int) (l : List Pk) : mnT h l ≤ h ∧ ∀ p ∈ l, mnT h l ≤ p.time := by
  induction l generalizing h with
  | nil => exact ⟨Int.le_refl _, by simp⟩
  | cons p l ih =>
    have := ih (min h p.time)
    show mnT (min h p.time) l ≤ h ∧ ∀ q ∈ p :: l, mnT (min h p.time) l ≤ q.time
    refine ⟨by omega, fun q hq => ?_⟩
    rcases List.mem_cons.1 hq with rfl | hq
    · omega
    · exact this.2 q hq
theorem mnT_has (h : Int) (l : List Pk) : mnT h l = h ∨ ∃ p ∈ l, mnT h l = p.time := by
  induction l generalizing h with
  | nil => exact .inl rfl
  | cons p l ih =>
    have e : mnT h (p :: l) = mnT (min h p.time) l := rfl
    rcases ih (min h p.time) with h1 | ⟨q, hq, h1⟩
    · rw [e, h1]
      rcases Int.le_total h p.time with h2 | h2
      · left; omega
      · right; exact ⟨p, by simp, by omega⟩
    · right; rw [e]; exact ⟨q, by simp [hq], h1⟩
/-- the deadline is the least time and the delay -/
theorem dead_is {l : List Pk} (d : Int) (hne : l ≠ []) : ∃ m, deadT l d = m + d ∧ (∀ p ∈ l, m ≤ p.time) ∧ ∃ p ∈ l, p.time = m := by
  cases l with
  | nil => exact absurd rfl hne
  | cons p t =>
    refine ⟨mnT p.time (p :: t), rfl, (mnT_le p.time (p :: t)).2, ?_⟩
    rcases mnT_has p.time (p :: t) with h | ⟨q, hq, h⟩
    · exact ⟨p, by simp, h.symm⟩
    · exact ⟨q, hq, h.symm⟩
/-- when nothing is left that is lost by its number: what the deadline says -/
theorem dead_law {R : Rc} (now d : Int) (hex : ∀ p ∈ R.l, exF R.lg now d p = false) (hne : R.l.filter (dlF R.lg) ≠ []) (hd : 200 ≤ d) (htm : ∀ p ∈ R.l, 0 ≤ p.time ∧ p.time ≤ 1000000) (hd2 : d ≤ 1000000) :
    ∃ t, deadT (R.l.filter (dlF R.lg)) d = t ∧ d ≤ t ∧ t ≤ 2000000 ∧ R.l.filter (exF R.lg (t - 1) d) = [] ∧ R.cut (exF R.lg (t - 1) d) = R ∧ R.l.filter (exF R.lg t d) ≠ [] ∧ ∀ p ∈ R.l.filter (exF R.lg t d), p.time + d ≤ t ∧ p.pn < R.lg := by
  obtain ⟨m, h1, h2, p0, hp0, hp1⟩ := dead_is d hne
  obtain ⟨hm1, hm2⟩ := List.mem_filter.1 hp0
  have hlow : ∀ p ∈ R.l, p.pn < R.lg → ¬ (p.pn + 3 ≤ R.lg) := fun p hp h hc => by
    have := hex p hp
    simp [exF, h, hc] at this
  have hb0 := htm p0 hm1
  have hz : ∀ p ∈ R.l, exF R.lg (m + d - 1) d p = false := fun p hp => by
    by_cases hl : p.pn < R.lg
    · have h3 := hlow p hp hl
      have h4 := h2 p (List.mem_filter.2 ⟨hp, by simpa [dlF] using hl⟩)
      have h5 : ¬ (p.time ≤ m + d - 1 - d) := by omega
      simp [exF, hl, h3, h5]
    · simp [exF, hl]
  refine ⟨m + d, h1, by omega, by omega, List.filter_eq_nil_iff.2 (fun p hp => by simp [hz p hp]), ?_, ?_, ?_⟩
  · unfold Rc.cut
    rw [List.filter_eq_self.2 (fun p hp => by simp [hz p hp])]
  · intro h
    have := List.filter_eq_nil_iff.1 h p0 hm1
    have hl : p0.pn < R.lg := by simpa [dlF] using hm2
    exact this (by simp only [exF, Bool.and_eq_true, decide_eq_true_eq, Bool.or_eq_true]; omega)
  · intro p hp
    obtain ⟨h3, h4⟩ := List.mem_filter.1 hp
    simp only [exF, Bool.and_eq_true, decide_eq_true_eq, Bool.or_eq_true] at h4
    have := hlow p h3 h4.1
    omega
/-- the time at which packet k - 1 is sent -/
def cumT (z : Nat → Int) : Nat → Int
  | 0 => 0
  | k + 1 => cumT z k + pickF (z k) 9
theorem cumT_bnd (z : Nat → Int) (k : Nat) : 0 ≤ cumT z k ∧ cumT z k ≤ 9 * k := by
  induction k with
  | zero => exact ⟨Int.le_refl _, by simp [cumT]⟩
  | succ k ih =>
    have := pickF_range (z k) 9 (by decide)
    simp only [cumT]
    omega
end Go.Proofs.YtpfkeohaaeiaaaaGreat
/- Arguments that are slices of structs of one-cell fields, opened to their cells. The first theorem is the guide's lemma on such slices, laid here as it is meant to be. -/
namespace Go.Proofs.YtpfkeohaaeiaaaaGreat
open Go.ChangeShapes Go.WideShapes Go.Deep Go.RowKit
section
variable {H : Type} {enc : TypeId × Value → H} {P : Program} {w : World} {base : Nat} {spare : Nat → Bool} {held : Bool}
theorem open_slice_fields {t e : TypeId} {fs : Array Field} {fuel : Nat} {cs : List Value} {x : DataW H × List MemPlace} (ht : P.underlying t = some (.slice e)) (he : P.underlying e = some (.struct fs))
    (hone : oneCellFields P fs = true) (hC : P.cellsOf e = fs.size) (h : DataW.trod enc P w base spare held fuel t cs = some x) :
    (cs = [.slice none 0 0] ∧ x = (.nil, [])) ∨
    ∃ (a : Addr) (len cap m : Nat) (D : Nat → DataW H) (Pl : Nat → List MemPlace), cs = [.slice (some a) len cap] ∧ base ≤ a.block ∧ len ≤ cap ∧ cap ≤ maxLen ∧ m = (if spare a.block then cap else len) ∧
      x = (.slice ((List.range len).map D) ((List.range (m - len)).map fun j => D (len + j)), MemPlace.row a (m * fs.size) ++ (List.range m).flatMap Pl) ∧
      ∀ i, i < m → ∃ (ys : List (DataW H × List MemPlace)) (n : Nat), D i = .agg (ys.map (·.1)) ∧ Pl i = ys.flatMap (·.2) ∧ ys.length = fs.size ∧
        ∀ (j : Nat) (f : Field), fs[j]? = some f → ∃ (v : Value) (y : DataW H × List MemPlace), w.cell? (a.add (i * fs.size + j)) = some v ∧ ys[j]? = some y ∧ DataW.trod enc P w base spare held n f.type [v] = some y := by
  rcases open_slice ht h with h0 | ⟨a, len, cap, m, n, D, Pl, hcs, hb, hl, hm, hmm, hx, hi⟩
  · exact .inl h0
  · refine .inr ⟨a, len, cap, m, D, Pl, hcs, hb, hl, hm, hmm, by rw [hC] at hx; exact hx, fun i him => ?_⟩
    obtain ⟨cs', hc, ht'⟩ := hi i him
    rw [hC] at hc
    obtain ⟨ys, n', hn', hy, hlen, hyl, hf⟩ := DataW.trod_struct he ht'
    obtain ⟨_, hcl, hat⟩ := World.cells?_some hc
    simp only [Prod.mk.injEq] at hy
    refine ⟨ys, n', hy.1, hy.2, hyl, fun j f hj => ?_⟩
    obtain ⟨ho, hk⟩ := hone_of hone j f hj
    have hjl : j < fs.size := (Array.getElem?_eq_some_iff.1 hj).1
    have hcell := hat j hjl
    have hv : cs'[j]? = some (cs'[j]'(by omega)) := List.getElem?_eq_getElem (by omega)
    have h1 := hf j f hj
    rw [ho, hk] at h1
    have hone' : (cs'.drop j).take 1 = [cs'[j]'(by omega)] := by
      rw [List.drop_eq_getElem_cons (by omega)]
      rfl
    rw [hone'] at h1
    have hys : ys[j]? = some (ys[j]'(by omega)) := List.getElem?_eq_getElem (by omega)
    refine ⟨_, _, ?_, hys, h1.trans hys⟩
    rw [← Go.Deep.add_add, hcell, hv]
end

/-- the integer in a cell -/
def numAt (w : World) (b o : Nat) : Int := match w.cell? ⟨b, o, none⟩ with
  | some (.int _ n) => n
  | _ => 0
set_option maxRecDepth 100000 in
/-- a slice of structs of n integer fields: every cell is an integer that fits -/
theorem int_structs_at {H : Type} {enc : TypeId × Value → H} {W : World} {base : Nat} {held : Bool} {t e it : TypeId} {v : Value} {d : DataW H} {p : List MemPlace} {fs : Array Field}
    (ht : Tryz.prog.underlying t = some (.slice e)) (he : Tryz.prog.underlying e = some (.struct fs)) (hone : oneCellFields Tryz.prog fs = true) (hC : Tryz.prog.cellsOf e = fs.size)
    (hs : 0 < fs.size) (hi : Tryz.prog.underlying it = some (.int .i64)) (hf : ∀ (j : Nat) (f : Field), fs[j]? = some f → f.type = it) (hv : Value.okWide Tryz.prog W .any base t v)
    (h : DataW.Trod enc Tryz.prog W 0 (fun _ => true) held t v d p) :
    ∃ a len cap, v = .slice a len cap ∧ len ≤ cap ∧ (len = 0 ∨ ∃ b off, a = some ⟨b, off, none⟩ ∧ cap ≤ maxLen ∧
      ∀ i, i < len → ∀ j, j < fs.size → W.cell? ⟨b, off + (i * fs.size + j), none⟩ = some (.int .i64 (numAt W b (off + (i * fs.size + j)))) ∧ (Lit.int .i64 (numAt W b (off + (i * fs.size + j)))).wf = true) := by
  obtain ⟨a0, len, cap, rfl⟩ := okWide_slice ht hv
  obtain ⟨fuel, hf'⟩ := h
  rcases open_slice_fields ht he hone hC hf' with ⟨hcs, hx⟩ | ⟨a, len', cap', m, D, Pl, hcs, _, hl, hm, hmm, hx, hall⟩
  · simp [Value.cells] at hcs
    obtain ⟨rfl, rfl, rfl⟩ := hcs
    exact ⟨none, 0, 0, rfl, Nat.le_refl _, .inl rfl⟩
  · simp [Value.cells] at hcs
    obtain ⟨rfl, rfl, rfl⟩ := hcs
    simp only [if_true] at hmm
    refine ⟨some a, len, cap, rfl, hl, ?_⟩
    rcases Nat.eq_zero_or_pos len with h0 | h0
    · exact .inl h0
    · right
      have one : ∀ i, i < len → ∀ j, j < fs.size → ∃ z, W.cell? (a.add (i * fs.size + j)) = some (.int .i64 z) ∧ (Lit.int .i64 z).wf = true := by
        intro i hi' j hj
        obtain ⟨ys, n, _, _, _, hy⟩ := hall i (by omega)
        obtain ⟨cv, y, hc, _, ht'⟩ := hy j fs[j] (by simp [hj])
        rw [hf j fs[j] (by simp [hj])] at ht'
        obtain ⟨z, hz, _, hw⟩ := DataW.trod_int hi ht'
        simp at hz
        subst hz
        exact ⟨z, hc, hw⟩
      · obtain ⟨z0, hz0, _⟩ := one 0 h0 0 hs
        have hsp := cell_spot hz0
        obtain ⟨b, o, s⟩ := a
        obtain rfl : s = none := by
          have := congrArg Addr.spot hsp
          simpa [Addr.add] using this
        refine ⟨b, o, rfl, hm, fun i hi' j hj => ?_⟩
        obtain ⟨z, hz, hw⟩ := one i hi' j hj
        rw [add_plain] at hz
        have : numAt W b (o + (i * fs.size + j)) = z := by unfold numAt; rw [hz]
        rw [this]
        exact ⟨hz, hw⟩
/-- the bool in a cell -/
def boolAt (w : World) (b o : Nat) : Bool := match w.cell? ⟨b, o, none⟩ with
  | some (.bool x) => x
  | _ => false
set_option maxRecDepth 100000 in
/-- a slice of bools -/
theorem bools_at {H : Type} {enc : TypeId × Value → H} {W : World} {base : Nat} {held : Bool} {t e : TypeId} {v : Value} {d : DataW H} {p : List MemPlace}
    (ht : Tryz.prog.underlying t = some (.slice e)) (he : Tryz.prog.underlying e = some .bool) (hC : Tryz.prog.cellsOf e = 1) (hv : Value.okWide Tryz.prog W .any base t v)
    (h : DataW.Trod enc Tryz.prog W 0 (fun _ => true) held t v d p) :
    ∃ a len cap, v = .slice a len cap ∧ len ≤ cap ∧ (len = 0 ∨ ∃ b off, a = some ⟨b, off, none⟩ ∧ cap ≤ maxLen ∧ b < W.heap.size ∧
      ∀ i, i < len → W.cell? ⟨b, off + i, none⟩ = some (.bool (boolAt W b (off + i)))) := by
  obtain ⟨a0, len, cap, rfl⟩ := okWide_slice ht hv
  obtain ⟨fuel, hf'⟩ := h
  rcases open_slice ht hf' with ⟨hcs, hx⟩ | ⟨a, len', cap', m, n, D, Pl, hcs, _, hl, hm, hmm, hx, hall⟩
  · simp [Value.cells] at hcs
    obtain ⟨rfl, rfl, rfl⟩ := hcs
    exact ⟨none, 0, 0, rfl, Nat.le_refl _, .inl rfl⟩
  · simp [Value.cells] at hcs
    obtain ⟨rfl, rfl, rfl⟩ := hcs
    simp only [if_true] at hmm
    refine ⟨some a, len, cap, rfl, hl, ?_⟩
    rcases Nat.eq_zero_or_pos len with h0 | h0
    · exact .inl h0
    · right
      have one : ∀ i, i < len → ∃ z, W.cell? (a.add i) = some (.bool z) := by
        intro i hi'
        obtain ⟨cs', hc, htr⟩ := hall i (by omega)
        rw [hC] at hc
        obtain ⟨z, rfl, _⟩ := DataW.trod_bool he htr
        obtain ⟨_, hcl, hat⟩ := World.cells?_some hc
        have := hat 0 (by simp)
        rw [Nat.mul_one] at this
        refine ⟨z, ?_⟩
        simpa [Addr.add] using this
      obtain ⟨z0, hz0⟩ := one 0 h0
      have hsp := cell_spot hz0
      obtain ⟨b, o, s⟩ := a
      obtain rfl : s = none := by
        have := congrArg Addr.spot hsp
        simpa [Addr.add] using this
      refine ⟨b, o, rfl, hm, ?_, fun i hi' => ?_⟩
      · have := World.block_lt_of_cell? _ _ hz0
        rw [add_plain] at this
        exact this
      · obtain ⟨z, hz⟩ := one i hi'
        rw [add_plain] at hz
        have : boolAt W b (o + i) = z := by unfold boolAt; rw [hz]
        rw [this]
        exact hz
end Go.Proofs.YtpfkeohaaeiaaaaGreat
/- Law 13: a slice of spans that comes as an argument, opened. -/
namespace Go.Proofs.YtpfkeohaaeiaaaaGreat
open Go.RowKit Go.WideShapes Go.ChangeShapes
set_option maxRecDepth 100000 in
theorem sp_arg {H : Type} {enc : TypeId × Value → H} {W : World} {base : Nat} {held : Bool} {v : Value} {d : DataW H} {p : List MemPlace} (hv : Value.okWide Tryz.prog W .any base 41 v) (h : DataW.Trod enc Tryz.prog W 0 (fun _ => true) held 41 v d p) :
    ∃ n F T, SpArg W v n F T ∧ n ≤ 9223372036854775807 := by
  obtain ⟨a, len, cap, rfl, hl, hx⟩ := int_structs_at Tryz.underlying41 Tryz.underlying54 (by kernel_rfl) (by kernel_rfl) (by decide) Tryz.underlying3 (fun j f hf => by
    match j, hf with
    | 0, hf => cases hf; rfl
    | 1, hf => cases hf; rfl
    | n + 2, hf => simp at hf) hv h
  rcases hx with h0 | ⟨b, off, rfl, hm, hc⟩
  · subst h0
    exact ⟨0, fun _ => 0, fun _ => 0, ⟨a, cap, rfl, hl, .inl rfl⟩, by decide⟩
  · refine ⟨len, fun k => numAt W b (off + (k * 2 + 0)), fun k => numAt W b (off + (k * 2 + 1)), ⟨_, cap, rfl, hl, .inr ⟨b, off, rfl, hm, fun k hk => ?_⟩⟩, by unfold maxLen at hm; omega⟩
    have h1 := hc k hk 0 (by decide)
    have h2 := hc k hk 1 (by decide)
    exact ⟨h1.1, h2.1, h1.2, h2.2⟩
end Go.Proofs.YtpfkeohaaeiaaaaGreat
/- Law 13: CallParams that come as arguments, opened to plain data. -/
namespace Go.Proofs.YtpfkeohaaeiaaaaGreat
open Go.RowKit Go.ChangeShapes Go.WideShapes Go.Deep
theorem I64.of {n : Int} (h : (Lit.int .i64 n).wf = true) : I64 n := bounds_i64 h
/-- what a CallParams that came holds -/
structure CpArg (w : World) (c : Cp) : Prop where
  kind : I64 c.kind
  ticks : I64 c.ticks
  size : I64 c.size
  sp : ∃ n F T, SpArg w c.sv n F T ∧ n ≤ 9223372036854775807
  last : I64 c.last
  ft : I64 c.ft
  fa : I64 c.fa
  fb : I64 c.fb
  fc : I64 c.fc
  fs : c.fs.size ≤ maxLen
  fsp : ∃ n F T, SpArg w c.fsv n F T ∧ n ≤ 9223372036854775807
  pn : I64 c.p.pn
  time : I64 c.p.time
  psize : I64 c.p.size
  fv : ∃ a n k, c.p.fv = .slice a n k
theorem CpArg.below {w w' : World} {c : Cp} (h : CpArg w c) (hb : Below w.heap.size w w') : CpArg w' c := by
  obtain ⟨h1, h2, h3, ⟨n, F, T, s1, s2⟩, h5, h6, h7, h8, h9, h10, ⟨m, G, U, s3, s4⟩, h12, h13, h14, h15⟩ := h
  exact ⟨h1, h2, h3, ⟨n, F, T, s1.below hb, s2⟩, h5, h6, h7, h8, h9, h10, ⟨m, G, U, s3.below hb, s4⟩, h12, h13, h14, h15⟩
section
variable {H : Type} {enc : TypeId × Value → H} {w : World} {held : Bool}
theorem cellsOf32 : Tryz.prog.cellsOf 39 = 5 := by kernel_rfl
theorem split1 {cs : List Value} {n : Nat} (h : cs.length = n + 1) : ∃ c l, cs = c :: l ∧ l.length = n := by
  cases cs with
  | nil => simp at h
  | cons c l => exact ⟨c, l, rfl, by simpa using h⟩
theorem get_some {α : Type} {xs : List α} {n i : Nat} (h : xs.length = n) (hi : i < n) : ∃ y, xs[i]? = some y := ⟨xs[i]'(by omega), by simp [h, hi]⟩
set_option maxRecDepth 100000 in
theorem sp_of_trod {fuel : Nat} {v : Value} {x : DataW H × List MemPlace} (h : DataW.trod enc Tryz.prog w 0 (fun _ => true) held fuel 41 [v] = some x) : ∃ n F T, SpArg w v n F T ∧ n ≤ 9223372036854775807 := by
  rcases open_slice_fields Tryz.underlying41 Tryz.underlying54 (by kernel_rfl) (by kernel_rfl) h with ⟨hcs, hx⟩ | ⟨a, len, cap, m, D, Pl, hcs, _, hl, hm, hmm, hx, hall⟩
  · obtain rfl : v = .slice none 0 0 := by simpa using hcs
    exact ⟨0, fun _ => 0, fun _ => 0, ⟨none, 0, rfl, Nat.le_refl _, .inl rfl⟩, by decide⟩
  · obtain rfl : v = .slice (some a) len cap := by simpa using hcs
    simp only [if_true] at hmm
    rcases Nat.eq_zero_or_pos len with h0 | h0
    · subst h0
      exact ⟨0, fun _ => 0, fun _ => 0, ⟨_, cap, rfl, hl, .inl rfl⟩, by decide⟩
    · have one : ∀ i, i < len → ∀ j, j < 2 → ∃ z, w.cell? (a.add (i * 2 + j)) = some (.int .i64 z) ∧ (Lit.int .i64 z).wf = true := by
        intro i hi' j hj
        obtain ⟨ys, n, _, _, _, hy⟩ := hall i (by omega)
        have hj2 : j = 0 ∨ j = 1 := by omega
        rcases hj2 with rfl | rfl
        · obtain ⟨cv, y, hc, _, ht'⟩ := hy 0 _ rfl
          obtain ⟨z, hz, _, hw⟩ := DataW.trod_int Tryz.underlying3 ht'
          simp at hz
          subst hz
          exact ⟨z, hc, hw⟩
        · obtain ⟨cv, y, hc, _, ht'⟩ := hy 1 _ rfl
          obtain ⟨z, hz, _, hw⟩ := DataW.trod_int Tryz.underlying3 ht'
          simp at hz
          subst hz
          exact ⟨z, hc, hw⟩
      obtain ⟨z0, hz0, _⟩ := one 0 h0 0 (by decide)
      have hsp := cell_spot hz0
      obtain ⟨b, o, s⟩ := a
      obtain rfl : s = none := by
        have := congrArg Addr.spot hsp
        simpa [Addr.add] using this
      refine ⟨len, fun k => numAt w b (o + (k * 2 + 0)), fun k => numAt w b (o + (k * 2 + 1)), ⟨_, cap, rfl, hl, .inr ⟨b, o, rfl, hm, fun k hk => ?_⟩⟩, by unfold maxLen at hm; omega⟩
      obtain ⟨z1, c1, w1⟩ := one k hk 0 (by decide)
      obtain ⟨z2, c2, w2⟩ := one k hk 1 (by decide)
      rw [add_plain] at c1 c2
      have e1 : numAt w b (o + (k * 2 + 0)) = z1 := by unfold numAt; rw [c1]
      have e2 : numAt w b (o + (k * 2 + 1)) = z2 := by unfold numAt; rw [c2]
      simp only [e1, e2]
      exact ⟨c1, c2, w1, w2⟩
set_option maxRecDepth 100000 in
theorem open_pkc {fuel : Nat} {cs : List Value} {x : DataW H × List MemPlace} (h : DataW.trod enc Tryz.prog w 0 (fun _ => true) held fuel 39 cs = some x) : ∃ p : Pk, cs = p.cells.toList ∧ I64 p.pn ∧ I64 p.time ∧ I64 p.size ∧ (∃ a n k, p.fv = .slice a n k) := by
  obtain ⟨xs, n, _, _, hlen, hxl, hf⟩ := DataW.trod_struct Tryz.underlying39 h
  rw [cellsOf32] at hlen
  replace hxl : xs.length = 5 := hxl
  obtain ⟨a0, l0, rfl, hlen0⟩ := split1 hlen
  obtain ⟨a1, l1, rfl, hlen1⟩ := split1 hlen0
  obtain ⟨a2, l2, rfl, hlen2⟩ := split1 hlen1
  obtain ⟨a3, l3, rfl, hlen3⟩ := split1 hlen2
  obtain ⟨a4, l4, rfl, hlen4⟩ := split1 hlen3
  obtain rfl := List.eq_nil_of_length_eq_zero hlen4
  have h0 := hf 0 _ rfl
  obtain ⟨y0, e0⟩ := get_some hxl (show 0 < 5 by decide)
  rw [e0] at h0
  replace h0 : DataW.trod enc Tryz.prog w 0 (fun _ => true) held n 3 [a0] = some y0 := h0
  obtain ⟨z0, ez0, _, hw0⟩ := DataW.trod_int Tryz.underlying3 h0
  obtain rfl : a0 = .int .i64 z0 := by simpa using ez0
  have h1 := hf 1 _ rfl
  obtain ⟨y1, e1⟩ := get_some hxl (show 1 < 5 by decide)
  rw [e1] at h1
  replace h1 : DataW.trod enc Tryz.prog w 0 (fun _ => true) held n 3 [a1] = some y1 := h1
  obtain ⟨z1, ez1, _, hw1⟩ := DataW.trod_int Tryz.underlying3 h1
  obtain rfl : a1 = .int .i64 z1 := by simpa using ez1
  have h2 := hf 2 _ rfl
  obtain ⟨y2, e2⟩ := get_some hxl (show 2 < 5 by decide)
  rw [e2] at h2
  replace h2 : DataW.trod enc Tryz.prog w 0 (fun _ => true) held n 3 [a2] = some y2 := h2
  obtain ⟨z2, ez2, _, hw2⟩ := DataW.trod_int Tryz.underlying3 h2
  obtain rfl : a2 = .int .i64 z2 := by simpa using ez2
  have h3 := hf 3 _ rfl
  obtain ⟨y3, e3⟩ := get_some hxl (show 3 < 5 by decide)
  rw [e3] at h3
  replace h3 : DataW.trod enc Tryz.prog w 0 (fun _ => true) held n 4 [a3] = some y3 := h3
  obtain ⟨z3, ez3, _⟩ := DataW.trod_bool Tryz.underlying4 h3
  obtain rfl : a3 = .bool z3 := by simpa using ez3
  have h4 := hf 4 _ rfl
  obtain ⟨y4, e4⟩ := get_some hxl (show 4 < 5 by decide)
  rw [e4] at h4
  replace h4 : DataW.trod enc Tryz.prog w 0 (fun _ => true) held n 37 [a4] = some y4 := h4
  have hw4 : ∃ a n k, a4 = .slice a n k := by
    rcases open_slice Tryz.underlying37 h4 with ⟨ez, _⟩ | ⟨_, _, _, _, _, _, _, ez, _⟩
    · exact ⟨_, _, _, by simpa using ez⟩
    · exact ⟨_, _, _, by simpa using ez⟩
  exact ⟨⟨z0, z1, z2, z3, a4⟩, rfl, I64.of hw0, I64.of hw1, I64.of hw2, hw4⟩
end
end Go.Proofs.YtpfkeohaaeiaaaaGreat
/- Law 13: a slice of CallParams that comes as an argument, opened. -/
namespace Go.Proofs.YtpfkeohaaeiaaaaGreat
open Go.RowKit Go.ChangeShapes Go.WideShapes Go.Deep
/-- the slice v holds the CallParams -/
def CpsAt (w : World) (v : Value) (l : List Cp) : Prop := (l = [] ∧ ∃ a cap, v = .slice a 0 cap) ∨
  ∃ b off cap, v = .slice (some ⟨b, off, none⟩) l.length cap ∧ 0 < l.length ∧ l.length ≤ cap ∧ cap ≤ maxLen ∧ ∀ i c, l[i]? = some c → w.rangeAt b (off + i * 17) c.cells.toList
instance : Inhabited Cp := ⟨⟨0, 0, 0, .slice none 0 0, 0, 0, 0, 0, 0, ⟨#[]⟩, false, .slice none 0 0, ⟨0, 0, 0, false, .slice none 0 0⟩⟩⟩
theorem CpsAt.below {w w' : World} {v : Value} {l : List Cp} (h : CpsAt w v l) (hb : Below w.heap.size w w') : CpsAt w' v l := by
  rcases h with h | ⟨b, off, cap, h1, h2, h3, h4, h5⟩
  · exact .inl h
  · exact .inr ⟨b, off, cap, h1, h2, h3, h4, fun i c hi j u hu => (hb.cell (p := ⟨b, off + i * 17 + j, none⟩) (World.block_lt_of_cell? _ _ (h5 i c hi j u hu))).trans (h5 i c hi j u hu)⟩
theorem CpsAt.form {w : World} {v : Value} {l : List Cp} (h : CpsAt w v l) : ∃ a cap, v = .slice a l.length cap := by
  rcases h with ⟨rfl, a, cap, rfl⟩ | ⟨b, off, cap, rfl, _⟩
  · exact ⟨_, _, rfl⟩
  · exact ⟨_, _, rfl⟩
theorem hold_load {P : Program} {ops : Array Oper} {rest : List Oper} {o : Oper} {a : Act} {w : World} {Q : Exit → Act → World → Prop} (ty : TypeId) (x : Operand) (_ho : o.op = .load ty x) (h : Hid (wpList P ops Q (o :: rest) a w)) : wpList P ops Q (o :: rest) a w := h.out
theorem CpArg.one {w : World} {c : Cp} (h : CpArg w c) : c.cells.all (·.oneCell') = true := by
  obtain ⟨n, F, T, ⟨a, cap, e, _⟩, _⟩ := h.sp
  obtain ⟨m, G, U, ⟨a2, cap2, e2, _⟩, _⟩ := h.fsp
  obtain ⟨a3, n3, k3, e3⟩ := h.fv
  unfold Cp.cells
  rw [e, e2, e3]
  simp [Value.oneCell']
end Go.Proofs.YtpfkeohaaeiaaaaGreat
/- Law 13: count. -/
namespace Go.Proofs.YtpfkeohaaeiaaaaGreat
open Go.RowKit Go.WideShapes Go.ChangeShapes
def ints (l : List Int) : List Value := l.map (.int .i64)
def inR (v : Value) (l : List Int) : Rw := ⟨3, 1, v, l.length, ints l⟩
/-- how many packets of the list have number i -/
def cntP (l : List Pk) (i : Nat) : Int := ((l.filter (fun p => p.pn == (i : Int))).length : Int)
def bump1 (T : List Int) (p : Pk) : List Int := T.set p.pn.toNat (T[p.pn.toNat]?.getD 0 + 1)
def bump (T : List Int) (l : List Pk) : List Int := l.foldl bump1 T
theorem bump1_len (T : List Int) (p : Pk) : (bump1 T p).length = T.length := by simp [bump1]
theorem bump_len (l : List Pk) : ∀ T, (bump T l).length = T.length := by
  induction l with
  | nil => intro T; rfl
  | cons p l ih => intro T; show (bump (bump1 T p) l).length = _; rw [ih, bump1_len]
theorem bump_snoc (T : List Int) (l : List Pk) (p : Pk) : bump T (l ++ [p]) = bump1 (bump T l) p := by simp [bump]
theorem cntP_nil (i : Nat) : cntP [] i = 0 := rfl
theorem cntP_snoc (l : List Pk) (p : Pk) (i : Nat) : cntP (l ++ [p]) i = cntP l i + if p.pn = i then 1 else 0 := by
  unfold cntP
  rw [List.filter_append]
  by_cases h : p.pn = i <;> simp [h]
theorem cntP_cons (l : List Pk) (p : Pk) (i : Nat) : cntP (p :: l) i = cntP l i + if p.pn = i then 1 else 0 := by
  unfold cntP
  by_cases h : p.pn = i <;> simp [h]
theorem cntP_nonneg (l : List Pk) (i : Nat) : 0 ≤ cntP l i := Int.natCast_nonneg _
theorem cntP_le (l : List Pk) (i : Nat) : cntP l i ≤ l.length := by
  unfold cntP
  have := List.length_filter_le (fun p : Pk => p.pn == (i : Int)) l
  omega
theorem bump1_get (T : List Int) (p : Pk) (i : Nat) (hi : i < T.length) (h0 : 0 ≤ p.pn) : (bump1 T p)[i]?.getD 0 = T[i]?.getD 0 + if p.pn = i then 1 else 0 := by
  unfold bump1
  rw [List.getElem?_set]
  by_cases h : p.pn = i
  · have : p.pn.toNat = i := by omega
    simp [h, hi]
  · have : p.pn.toNat ≠ i := by omega
    simp [h, this]
theorem bump_get (l : List Pk) : ∀ (T : List Int) (i : Nat), i < T.length → (∀ p ∈ l, 0 ≤ p.pn) → (bump T l)[i]?.getD 0 = T[i]?.getD 0 + cntP l i := by
  induction l with
  | nil => intro T i _ _; show T[i]?.getD 0 = _; simp [cntP]
  | cons p l ih =>
    intro T i hi h
    show (bump (bump1 T p) l)[i]?.getD 0 = _
    rw [ih _ _ (by rw [bump1_len]; exact hi) (fun q hq => h q (by simp [hq])), bump1_get _ _ _ hi (h p (by simp)), cntP_cons]
    omega
theorem cntP_split (f : Pk → Bool) (l : List Pk) (i : Nat) : cntP (l.filter f) i + cntP (l.filter (fun p => !f p)) i = cntP l i := by
  induction l with
  | nil => rfl
  | cons p l ih =>
    by_cases h : f p
    · simp only [List.filter_cons, h, if_true, Bool.not_true, Bool.false_eq_true, if_false, cntP_cons]; omega
    · simp only [List.filter_cons, h, if_false, Bool.not_false, Bool.false_eq_true, if_true, cntP_cons]; omega
theorem ints_get (T : List Int) (j : Nat) (hj : j < T.length) : (ints T)[j]? = some (.int .i64 (T[j]?.getD 0)) := by
  unfold ints
  rw [List.getElem?_map, List.getElem?_eq_getElem hj]; rfl
theorem ints_set (T : List Int) (j : Nat) (x : Int) : (ints T).set j (.int .i64 x) = ints (T.set j x) := by
  unfold ints
  rw [List.map_set]
theorem PkRow.apart {B B' g n cap : Nat} {w w' : World} {v : Value} {l : List Pk} {xs : List Value} (h : PkRow B w v l) (hr : w.ownsRow B' 3 1 (.slice (some ⟨g, 0, none⟩) n cap) n xs) (ht : Tu g g w w') : PkRow B w' v l := by
  refine ⟨⟨h.1.1, ?_⟩, h.2⟩
  rcases h.1.2 with h1 | ⟨g1, c1, cur, rfl, hb, hgg, rest⟩
  · exact .inl h1
  · have hne : g1 ≠ g := fun e => by
      subst e
      rcases hr.2 with ⟨h', _⟩ | ⟨g', cap', cur', h', _, hg, _⟩
      · simp at h'
      · simp only [Value.slice.injEq, Option.some.injEq, Addr.mk.injEq, and_true, true_and] at h'
        obtain ⟨rfl, rfl⟩ := h'
        rw [hgg] at hg
        cases hg
    exact .inr ⟨g1, c1, cur, rfl, hb, (ht.block g1 (heap_lt hgg) hne hne).trans hgg, rest⟩
/-- every number of the list is that of a counter -/
def InT (T : List Int) (l : List Pk) : Prop := ∀ p ∈ l, 0 ≤ p.pn ∧ p.pn < T.length
def Few (T : List Int) : Prop := T.length ≤ 10000 ∧ ∀ i : Nat, 0 ≤ T[i]?.getD 0 ∧ T[i]?.getD 0 ≤ 1000000
theorem Few.bump {T : List Int} {l : List Pk} (h : Few T) (hl : InT T l) (i : Nat) (hi : i < T.length) : 0 ≤ (bump T l)[i]?.getD 0 ∧ (bump T l)[i]?.getD 0 ≤ 1000000 + l.length := by
  rw [bump_get l T i hi (fun p hp => (hl p hp).1)]
  have := h.2 i
  have := cntP_nonneg l i
  have := cntP_le l i
  omega
def CntPost (B : Nat) (tv : Value) (T : List Int) (l : List Pk) (g : Nat) (w : World) (e : Ending) (w' : World) : Prop :=
  e = .returned (.bool true) ∧ w'.ownsRow B 3 1 tv (bump T l).length (ints (bump T l)) ∧ Tu g g w w'
end Go.Proofs.YtpfkeohaaeiaaaaGreat
/- Law 13: count beside a Recovery of the call's own; the counters and the packets left. -/
namespace Go.Proofs.YtpfkeohaaeiaaaaGreat
open Go.RowKit Go.WideShapes Go.ChangeShapes
variable {w0 w w' : World} {b M : Nat} {R : Rc} {rows rows' : List Rw} {os : List (Nat × Obj)}
def No3 (os : List (Nat × Obj)) : Prop := ∀ x ∈ os, ∃ cs T, x.2 = .cells cs T (0, 0) ∧ T ≠ 3
/-- only the row of counters has turned -/
theorem Lw.other (h : Lw w0 w b M R rows os) {g : Nat} {cur : Array Value} (hg : w.heap[g]? = some (.cells cur 3 (0, 0))) (hgb : w0.heap.size ≤ g) (ht : Tu g g w w') (hs : ∀ x ∈ rows', x ∈ rows ∧ x.e ≠ 3) (ho : No3 os) :
    Lw w0 w' b M R rows' os := by
  have hbg : b ≠ g := fun e => by subst e; have := h.at_.1; rw [hg] at this; cases this
  have hMg : M ≠ g := fun e => by subst e; have := h.at_.noC hg; cases this
  refine ⟨Tu.to_below h.bel ht hgb hgb h.bel.size, ⟨(ht.block b (heap_lt h.at_.1) hbg hbg).trans h.at_.1, h.at_.2.of_block (ht.block M h.at_.2.lt hMg hMg)⟩, h.ok, h.nil, h.ownb, h.ownM, fun x hx => ?_, fun x hx => ?_⟩
  · obtain ⟨h1, h2⟩ := hs x hx
    obtain ⟨hr, h3⟩ := h.rows x h1
    refine ⟨⟨hr.1, ?_⟩, h3⟩
    rcases hr.2 with h4 | ⟨g1, cap, cur1, e1, hb, hgg, rest⟩
    · exact .inl h4
    · have hne : g1 ≠ g := fun e => by
        subst e
        rw [hgg] at hg
        simp only [Option.some.injEq, Obj.cells.injEq] at hg
        exact h2 hg.2.1
      exact .inr ⟨g1, cap, cur1, e1, hb, (ht.block g1 (heap_lt hgg) hne hne).trans hgg, rest⟩
  · obtain ⟨h1, h2, h3⟩ := h.os x hx
    obtain ⟨cs, T, h4, h5⟩ := ho x hx
    have hne : x.1 ≠ g := fun e => by
      rw [h4, e, hg] at h1
      cases h1
      exact h5 rfl
    exact ⟨(ht.block x.1 (heap_lt h1) hne hne).trans h1, h2, h3⟩
theorem info3 : (Tryz.prog.info? 3).map (fun i => (i.zero, i.size, i.bytes)) = some (some (.int .i64 0), 1, 8) := by kernel_rfl
/-- one number put behind the counters -/
theorem wpList_append_in {ops : Array Oper} {rest : List Oper} {o : Oper} {a : Act} {Q : Exit → Act → World → Prop} (hgd : o.guard = none) (s x : Operand) (hop : o.op = .call { callee := .builtin .append, args := #[s, x], argTypes := #[22, 22] })
    {tv : Value} {T : List Int} (z : Int) (h : Lw w0 w b M R rows os) (ht : inR tv T ∈ rows) (hs : a.eval s = tv) (g0 : Nat) (hx : a.eval x = .slice (some ⟨g0, 0, none⟩) 1 1) (hg0 : w.heap[g0]? = some (.cells #[.int .i64 z] 3 (0, 0)))
    (hT : T.length ≤ 10000) (hr : ∀ x ∈ rows', x ∈ rows ∧ x.e ≠ 3) (ho : No3 os)
    (hk : ∀ a' cap w', Lw w0 w' b M R (inR (.slice a' (T.length + 1) cap) (T ++ [z]) :: rows') os → wpList Tryz.prog ops Q rest (a.put o.dst (.slice a' (T.length + 1) cap)) w') : wpList Tryz.prog ops Q (o :: rest) a w := by
  obtain ⟨i0, hi, hz0, hz1, hz2⟩ := info_parts info3
  have hown : w.ownsRow w0.heap.size 3 1 tv T.length (ints T) := (h.rows _ ht).1
  refine wpList_append_own w hgd s x 22 hop w0.heap.size 3 i0 (.int .i64 0) 1 8 Tryz.underlying22 hi hz0 hz1 hz2 rfl (by decide) tv T.length (ints T) hs hown ⟨g0, 0, none⟩ 1 1 [.int .i64 z] hx rfl (World.news_of_block hg0) (by simp [Value.oneCell']) (by unfold maxLen; omega) (by omega) h.bel.size ?_
  intro v' w' hown' hgrow _
  obtain ⟨g', cap', rfl⟩ := ownsRow_succ hown'
  have e1 : ints T ++ [Value.int .i64 z] = ints (T ++ [z]) := by simp [ints]
  rw [e1] at hown'
  have hnew : w'.ownsRow w0.heap.size 3 1 (.slice (some ⟨g', 0, none⟩) (T.length + 1) cap') (T ++ [z]).length (ints (T ++ [z])) := by rw [List.length_append]; exact hown'
  refine hk _ _ _ ?_
  rcases hown.2 with ⟨rfl, _⟩ | ⟨g, cap, cur, rfl, hb, hgg, _⟩
  · have hb : Below w.heap.size w w' := (Below.refl _ w).grown hgrow (Nat.le_refl _) (fun k e => by simp [Value.ownBlock] at e)
    exact ((h.below hb).sub (fun x hx => (hr x hx).1) (fun x hx => hx)).addRow (inR _ _) hnew (show (3 : Nat) ≠ 59 by decide)
  · exact (h.other hgg hb (Tu.map hgrow) hr ho).addRow (inR _ _) hnew (show (3 : Nat) ≠ 59 by decide)
/-- each packet that was sent is counted once, or is left -/
structure TimesOk (l : List Pk) (nx : Int) (T : List Int) : Prop where
  len : (T.length : Int) = nx
  ge : ∀ i : Nat, 0 ≤ T[i]?.getD 0
  one : ∀ i : Nat, i < T.length → T[i]?.getD 0 + cntP l i = 1
theorem TimesOk.nil : TimesOk [] 0 [] := ⟨rfl, by simp, by simp⟩
theorem TimesOk.few {l : List Pk} {nx : Int} {T : List Int} (h : TimesOk l nx T) (hn : nx ≤ 10000) : Few T := by
  refine ⟨by have := h.len; omega, fun i => ⟨h.ge i, ?_⟩⟩
  by_cases hi : i < T.length
  · have := h.one i hi
    have := cntP_nonneg l i
    omega
  · rw [List.getElem?_eq_none (by omega)]; simp
theorem TimesOk.filter {l : List Pk} {nx : Int} {T : List Int} (h : TimesOk l nx T) (f : Pk → Bool) (h0 : ∀ p ∈ l, 0 ≤ p.pn) : TimesOk (l.filter fun p => !f p) nx (bump T (l.filter f)) := by
  have hp : ∀ p ∈ l.filter f, 0 ≤ p.pn := fun p hp => h0 p (List.mem_filter.1 hp).1
  refine ⟨by rw [bump_len]; exact h.len, fun i => ?_, fun i hi => ?_⟩
  · by_cases hi : i < T.length
    · rw [bump_get _ _ _ hi hp]
      have := h.ge i
      have := cntP_nonneg (l.filter f) i
      omega
    · rw [List.getElem?_eq_none (by rw [bump_len]; omega)]; simp
  · rw [bump_len] at hi
    rw [bump_get _ _ _ hi hp]
    have := h.one i hi
    have := cntP_split f l i
    omega
theorem TimesOk.all {l : List Pk} {nx : Int} {T : List Int} (h : TimesOk l nx T) (h0 : ∀ p ∈ l, 0 ≤ p.pn) : TimesOk [] nx (bump T l) := by
  have := h.filter (fun _ => true) h0
  have e1 : l.filter (fun _ => true) = l := List.filter_eq_self.2 (fun _ _ => rfl)
  have e2 : l.filter (fun _ => !true) = [] := List.filter_eq_nil_iff.2 (fun _ _ => by simp)
  rw [e1, e2] at this
  exact this
theorem TimesOk.add {l : List Pk} {nx : Int} {T : List Int} (h : TimesOk l nx T) (p : Pk) (hp : p.pn = nx) (hb : ∀ q ∈ l, q.pn < nx) : TimesOk (l ++ [p]) (nx + 1) (T ++ [0]) := by
  have hl := h.len
  refine ⟨by simp; omega, fun i => ?_, fun i hi => ?_⟩
  · by_cases hi : i < T.length
    · rw [List.getElem?_append_left hi]; exact h.ge i
    · rw [List.getElem?_append_right (by omega)]
      by_cases h2 : i - T.length = 0
      · rw [h2]; simp
      · rw [List.getElem?_eq_none (by simp; omega)]; simp
  · rw [cntP_snoc]
    by_cases hi2 : i < T.length
    · rw [List.getElem?_append_left hi2, if_neg (by omega)]
      have := h.one i hi2
      omega
    · have hi3 : i = T.length := by simp at hi; omega
      subst hi3
      rw [List.getElem?_append_right (by omega), if_pos (by omega)]
      have : cntP l T.length = 0 := by
        unfold cntP
        rw [List.filter_eq_nil_iff.2 (fun q hq => by have := hb q hq; simp; omega)]
        rfl
      simp [this]
theorem TimesOk.inT {l k : List Pk} {nx : Int} {T : List Int} (h : TimesOk l nx T) (hb : ∀ q ∈ l, 0 ≤ q.pn ∧ q.pn < nx) (hk : ∀ q ∈ k, q ∈ l) : InT T k := fun q hq => by
  have := hb q (hk q hq)
  have := h.len
  omega
theorem TimesOk.done {nx : Int} {T : List Int} (h : TimesOk [] nx T) (i : Nat) (hi : i < T.length) : T[i]?.getD 0 = 1 := by
  have := h.one i hi
  rw [cntP_nil] at this
  omega
end Go.Proofs.YtpfkeohaaeiaaaaGreat
/- A region that draws its order inside a fence (and inside a round): every operation but the last yields a value that is known ahead and leaves the world alone; the last one (a store) comes behind all of them. -/
namespace Go.Proofs.YtpfkeohaaeiaaaaGreat
open Go.RowKit
section
variable {F : Fence} {n : Nat} {P : Program} {ops : Array Oper} {Q : Exit → Act → World → Prop}
theorem wpAnyIn_inv (I : (Nat → Bool) → Act → World → Prop) (hu : upward ops = true)
    (hs : ∀ (L : Nat → Bool) a w i o, ops[i]? = some o → L i = false → (∀ e ∈ o.after, Region.binds .any e = true → L e.on = true) → I L a w → wpOpIn F n P ops Q i (I (fun j => j == i || L j)) a w)
    (he : ∀ L a w, (∀ i, i < ops.size → L i = true) → I L a w → Q .normal a w) :
    ∀ (fuel : Nat) (l : Array Bool) a w, l.size = ops.size → left ops.size l ≤ fuel → I (fun j => l.getD j false) a w → wpAnyIn F n P .any ops Q fuel l a w := by
  intro fuel
  induction fuel with
  | zero =>
    intro l a w hz hf hI
    have hr : Region.ready .any ops l = [] := by
      rw [List.eq_nil_iff_forall_not_mem]
      intro i hi
      obtain ⟨o, ho, h1, _⟩ := mem_ready.1 hi
      have := left_set (Array.getElem?_eq_some_iff.1 ho).1 hz h1
      omega
    exact ⟨hr, he _ a w (all_listed hz hu hr) hI⟩
  | succ fuel ih =>
    intro l a w hz hf hI
    refine ⟨fun hr => he _ a w (all_listed hz hu hr) hI, fun i hi => ?_⟩
    obtain ⟨o, ho, h1, h2⟩ := mem_ready.1 hi
    have hlt := (Array.getElem?_eq_some_iff.1 ho).1
    have hL : l.getD i false = false := by rw [← getD_is (by omega)]; exact h1
    have hd := left_set hlt hz h1
    refine wpOpIn_mono (fun a' w' hI' => ih _ a' w' (by simpa using hz) (by omega) ?_) (hs _ a w i o ho hL h2 hI)
    have e : (fun j => (l.setIfInBounds i true).getD j false) = fun j => j == i || l.getD j false := by
      funext j
      by_cases e : j = i
      · subst e; simp [Array.getD, hz, hlt]
      · by_cases hj : j < l.size
        · simp [Array.getD, hj, Ne.symm e, e]
        · simp [Array.getD, hj, e]
    rw [e]
    exact hI'
theorem wpIn_region_inv {id : Nat} {a : Act} {w : World} (hm : P.follows .mixedOrders = true) (hu : upward ops = true) (I : (Nat → Bool) → Act → World → Prop) (h0 : I (fun _ => false) a w.drew)
    (hs : ∀ (L : Nat → Bool) a w i o, ops[i]? = some o → L i = false → (∀ e ∈ o.after, Region.binds .any e = true → L e.on = true) → I L a w → wpOpIn F n P ops Q i (I (fun j => j == i || L j)) a w)
    (he : ∀ L a w, (∀ i, i < ops.size → L i = true) → I L a w → Q .normal a w) : (Code.region id ops true).wpIn F n P Q a w := by
  refine wpIn_region_any hm (wpAnyIn_inv I hu hs he _ _ _ _ (by simp) ?_ ?_)
  · refine Nat.le_trans List.countP_le_length (by simp)
  · have e : (fun j => (Array.replicate ops.size false).getD j false) = fun _ => false := by
      funext j
      by_cases hj : j < ops.size <;> simp [Array.getD, hj]
    rw [e]
    exact h0
/-- the slots that are set hold their values; the others are as they were -/
structure PInv (s m : Nat) (val : Nat → Value) (A0 : Act) (W0 W1 : World) (L : Nat → Bool) (a : Act) (w : World) : Prop where
  nod : a.defers = A0.defers
  size : a.tmps.size = A0.tmps.size
  old : ∀ p, p < s ∨ s + m ≤ p → a.tmps[p]? = A0.tmps[p]?
  new : ∀ j, j < m → a.tmps[s + j]? = if L j then some (val j) else A0.tmps[s + j]?
  w : w = if L m then W1 else W0
/-- what an operation may lean on -/
structure PHas (s m : Nat) (val : Nat → Value) (A0 : Act) (o : Oper) (a : Act) : Prop where
  old : ∀ p, p < s ∨ s + m ≤ p → a.tmps[p]? = A0.tmps[p]?
  dep : ∀ e ∈ o.after, Region.binds .any e = true → e.on < m → a.tmps[s + e.on]? = some (val e.on)
/-- each operation ahead of the last is waited for by one behind it -/
def covers (ops : Array Oper) (m : Nat) : Bool := (List.range m).all fun j => (List.range (m + 1)).any fun k => decide (j < k) && ((ops[k]?).map (·.after.any fun e => Region.binds .any e && e.on == j)).getD false
theorem all_of_last {m : Nat} {L : Nat → Bool} (hc : covers ops m = true) (hcl : ∀ j o e, (L j = true ∨ j = m) → ops[j]? = some o → e ∈ o.after → Region.binds .any e = true → L e.on = true) : ∀ d j, m = j + d → 0 < d → L j = true := by
  intro d
  induction d using Nat.strongRecOn with
  | ind d ih =>
    intro j hj hd
    have h1 := List.all_eq_true.1 hc j (List.mem_range.2 (by omega))
    obtain ⟨k, hk, h2⟩ := List.any_eq_true.1 h1
    rw [Bool.and_eq_true, decide_eq_true_eq] at h2
    have hk2 := List.mem_range.1 hk
    cases ho : ops[k]? with
    | none => rw [ho] at h2; simp at h2
    | some o =>
      rw [ho] at h2
      obtain ⟨hjk, h3⟩ := h2
      have h3 : (o.after.any fun e => Region.binds .any e && e.on == j) = true := h3
      rw [Array.any_eq_true'] at h3
      simp only [Bool.and_eq_true, beq_iff_eq] at h3
      obtain ⟨e, he, hb, rfl⟩ := h3
      refine hcl k o e ?_ ho he hb
      by_cases hkm : k = m
      · exact .inr hkm
      · exact .inl (ih (m - k) (by omega) k (by omega) (by omega))
theorem foldl_set (s m : Nat) (val : Nat → Value) (t : Array Value) (hsz : s + m ≤ t.size) : ∀ p, ((List.range m).foldl (fun t j => t.setIfInBounds (s + j) (val j)) t)[p]? = if s ≤ p ∧ p < s + m then some (val (p - s)) else t[p]? := by
  induction m with
  | zero => intro p; rw [if_neg (by omega)]; rfl
  | succ m ih =>
    intro p
    have hz : ∀ (l : List Nat) (u : Array Value), (l.foldl (fun t j => t.setIfInBounds (s + j) (val j)) u).size = u.size := by
      intro l
      induction l with
      | nil => intro u; rfl
      | cons x l ih2 => intro u; rw [List.foldl_cons, ih2]; simp
    rw [List.range_succ, List.foldl_append]
    show (Array.setIfInBounds _ _ _)[p]? = _
    rw [Array.getElem?_setIfInBounds, ih (by omega) p, hz]
    by_cases h1 : s + m = p
    · subst h1
      rw [if_pos rfl, if_pos (by omega), if_pos (by omega)]
      simp
    · rw [if_neg h1]
      by_cases h2 : s ≤ p ∧ p < s + m
      · rw [if_pos h2, if_pos (by omega)]
      · rw [if_neg h2, if_neg (by omega)]
theorem pure_region {id : Nat} (s m : Nat) (val : Nat → Value) {A0 : Act} {W0 W1 : World} {tm : Array Value} (hm : P.follows .mixedOrders = true) (hu : upward ops = true) (hc : covers ops m = true) (hz : ops.size = m + 1) (hsz : s + m ≤ A0.tmps.size)
    (hop : ∀ i o, i < m → ops[i]? = some o → ∀ a, PHas s m val A0 o a → o.dst = some (s + i) ∧ o.guard = none ∧ (∀ f, o.about P W0.drew a.eval = some f → F.fn f) ∧ (o.semAt F.round a.eval).run P W0.drew = .ok (.value (val i)) W0.drew)
    (hst : ∀ o, ops[m]? = some o → ∀ a, PHas s m val A0 o a → o.dst = none ∧ o.guard = none ∧ (∀ f, o.about P W0.drew a.eval = some f → F.fn f) ∧ (o.semAt F.round a.eval).run P W0.drew = .ok .skip W1)
    (htm : (List.range m).foldl (fun t j => t.setIfInBounds (s + j) (val j)) A0.tmps = tm) (h : Q .normal { tmps := tm, defers := A0.defers } W1) : (Code.region id ops true).wpIn F n P Q A0 W0 := by
  refine wpIn_region_inv hm hu (fun L a w => PInv s m val A0 W0.drew W1 L a w ∧ ∀ j o e, L j = true → ops[j]? = some o → e ∈ o.after → Region.binds .any e = true → L e.on = true) ⟨⟨rfl, rfl, fun _ _ => rfl, fun _ _ => rfl, rfl⟩, fun _ _ _ h => by cases h⟩ ?_ ?_
  · rintro L a w i o ho hL hdep ⟨hI, hcl⟩
    have hi : i < m + 1 := by have := (Array.getElem?_eq_some_iff.1 ho).1; omega
    have hcl' : ∀ j o' e, (j == i || L j) = true → ops[j]? = some o' → e ∈ o'.after → Region.binds .any e = true → (e.on == i || L e.on) = true := by
      intro j o' e hj ho' he hb
      rw [Bool.or_eq_true] at hj ⊢
      rcases hj with hj | hj
      · rw [beq_iff_eq] at hj
        subst hj
        rw [ho] at ho'
        cases ho'
        exact .inr (hdep e he hb)
      · exact .inr (hcl j o' e hj ho' he hb)
    have hdep' : ∀ e ∈ o.after, Region.binds .any e = true → e.on < m → a.tmps[s + e.on]? = some (val e.on) := fun e he hb hlt => by rw [hI.new _ hlt, hdep e he hb]; rfl
    by_cases him : i = m
    · subst him
      have hall : ∀ j, j < i → L j = true := fun j hj => all_of_last hc (fun k o' e hk ho' he hb => by
        rcases hk with hk | rfl
        · exact hcl k o' e hk ho' he hb
        · rw [ho] at ho'; cases ho'; exact hdep e he hb) (i - j) j (by omega) (by omega)
      have hw : w = W0.drew := by rw [hI.w, hL]; rfl
      subst hw
      obtain ⟨h1, h2, h3, h4⟩ := hst o ho a ⟨hI.old, hdep'⟩
      refine wpOpIn_step ho fun K' hK => ?_
      rw [if_pos (by simp [Region.wanted, h2])]
      unfold Oper.wpIn
      refine ⟨h3, ?_⟩
      rw [h4]
      refine hK _ _ ⟨⟨?_, ?_, ?_, ?_, ?_⟩, hcl'⟩
      · rw [h1]; exact hI.nod
      · rw [h1]; exact hI.size
      · rw [h1]; exact hI.old
      · rw [h1]
        intro j hj
        show a.tmps[s + j]? = _
        rw [hI.new j hj, hall j hj]
        simp
      · simp
    · have hlt : i < m := by omega
      have hLm : L m = false := by
        cases e : L m with
        | false => rfl
        | true =>
          have := all_of_last (L := L) hc (fun k o' e' hk ho' he hb => by
            rcases hk with hk | rfl
            · exact hcl k o' e' hk ho' he hb
            · exact hcl k o' e' e ho' he hb) (m - i) i (by omega) (by omega)
          rw [this] at hL
          cases hL
      have hw : w = W0.drew := by rw [hI.w, hLm]; rfl
      subst hw
      obtain ⟨h1, h2, h3, h4⟩ := hop i o hlt ho a ⟨hI.old, hdep'⟩
      refine wpOpIn_step ho fun K' hK => ?_
      rw [if_pos (by simp [Region.wanted, h2])]
      unfold Oper.wpIn
      refine ⟨h3, ?_⟩
      rw [h4]
      have hsi : s + i < a.tmps.size := by rw [hI.size]; omega
      refine hK _ _ ⟨⟨?_, ?_, ?_, ?_, ?_⟩, hcl'⟩
      · rw [h1]; exact hI.nod
      · rw [h1]; show (a.tmps.setIfInBounds _ _).size = _; simpa using hI.size
      · rw [h1]
        intro p hp
        show (a.tmps.setIfInBounds _ _)[p]? = _
        rw [Array.getElem?_setIfInBounds_ne (by omega)]
        exact hI.old p hp
      · rw [h1]
        intro j hj
        show (a.tmps.setIfInBounds _ _)[s + j]? = _
        by_cases hji : j = i
        · subst hji
          rw [Array.getElem?_setIfInBounds_self_of_lt hsi]
          simp
        · rw [Array.getElem?_setIfInBounds_ne (by omega), hI.new j hj]
          simp [hji]
      · rw [show ((m == i) || L m) = false from by rw [hLm, Bool.or_false]; exact beq_eq_false_iff_ne.2 (fun e => him e.symm)]
        rfl
  · rintro L a w hall ⟨hI, _⟩
    have hw : w = W1 := by rw [hI.w, hall m (by omega)]; rfl
    have ha : a = { tmps := tm, defers := A0.defers } := by
      obtain ⟨at_, ad⟩ := a
      have h1 : ad = A0.defers := hI.nod
      have h2 : at_ = tm := by
        rw [← htm]
        apply Array.ext_getElem?
        intro p
        rw [foldl_set s m val A0.tmps hsz p]
        by_cases hp : s ≤ p ∧ p < s + m
        · rw [if_pos hp]
          have := hI.new (p - s) (by omega)
          rw [hall _ (by omega), if_pos rfl, show s + (p - s) = p by omega] at this
          exact this
        · rw [if_neg hp]
          exact hI.old p (by omega)
      rw [h1, h2]
    rw [hw, ha]
    exact h
end
end Go.Proofs.YtpfkeohaaeiaaaaGreat
