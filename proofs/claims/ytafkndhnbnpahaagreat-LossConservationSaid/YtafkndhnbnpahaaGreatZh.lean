/- Law 13: RangesFrom. -/
import Derived.Test.YtafkndhnbnpahaaGreatZg
namespace Go.Proofs.YtafkndhnbnpahaaGreat
open Go.RowKit
def fF (l : List (Int × Int)) (j : Nat) : Int := (l.getD j (0, 0)).1
def fT (l : List (Int × Int)) (j : Nat) : Int := (l.getD j (0, 0)).2
theorem fF_old (l : List (Int × Int)) (x : Int × Int) (j : Nat) (h : j < l.length) : fF (l ++ [x]) j = fF l j := by unfold fF; simp [List.getD, List.getElem?_append_left h]
theorem fT_old (l : List (Int × Int)) (x : Int × Int) (j : Nat) (h : j < l.length) : fT (l ++ [x]) j = fT l j := by unfold fT; simp [List.getD, List.getElem?_append_left h]
theorem fF_new (l : List (Int × Int)) (x : Int × Int) : fF (l ++ [x]) l.length = x.1 := by unfold fF; simp [List.getD]
theorem fT_new (l : List (Int × Int)) (x : Int × Int) : fT (l ++ [x]) l.length = x.2 := by unfold fT; simp [List.getD]
def RgIn (l : List (Int × Int)) : Prop := ∀ k, k < l.length → 0 ≤ fF l k ∧ fF l k < fT l k ∧ fT l k ≤ 281474976710656 ∧ fT l k < prv (fF l) k
theorem RgIn.app {l : List (Int × Int)} (h : RgIn l) (x y : Int) (h0 : 0 ≤ x) (h1 : x < y) (h2 : y ≤ 281474976710656) (h3 : y < prv (fF l) l.length) : RgIn (l ++ [(x, y)]) := by
  intro k hk
  rw [List.length_append, List.length_singleton] at hk
  have hp : ∀ k, k ≤ l.length → prv (fF (l ++ [(x, y)])) k = prv (fF l) k := fun k hk => by
    cases k with
    | zero => rfl
    | succ m => exact fF_old _ _ _ (by omega)
  rcases Nat.lt_or_ge k l.length with hlt | hge
  · rw [fF_old _ _ _ hlt, fT_old _ _ _ hlt, hp _ (by omega)]
    exact h k hlt
  · obtain rfl : k = l.length := by omega
    rw [fF_new, fT_new, hp _ (Nat.le_refl _)]
    exact ⟨h0, h1, h2, h3⟩
/-- the cells of a row of spans -/
def scs (l : List (Int × Int)) : List Value := l.flatMap fun p => [.int .i64 p.1, .int .i64 p.2]
theorem scs_snoc (l : List (Int × Int)) (x y : Int) : scs (l ++ [(x, y)]) = scs l ++ [.int .i64 x, .int .i64 y] := by simp [scs]
theorem scs_at (l : List (Int × Int)) (k : Nat) (hk : k < l.length) : (scs l)[k * 2]? = some (.int .i64 (fF l k)) ∧ (scs l)[k * 2 + 1]? = some (.int .i64 (fT l k)) := by
  induction l generalizing k with
  | nil => simp at hk
  | cons p l ih =>
    cases k with
    | zero => simp [scs, fF, fT]
    | succ k =>
      have := ih k (by simpa using hk)
      have e : (k + 1) * 2 = k * 2 + 1 + 1 := by omega
      simp only [scs, List.flatMap_cons, e, List.cons_append, List.nil_append, List.getElem?_cons_succ, fF, fT, List.getD_cons_succ] at this ⊢
      exact this
theorem info51 : (Tryz.prog.info? 51).map (fun i => (i.zero, i.size, i.bytes)) = some (some (.agg #[.int .i64 0, .int .i64 0]), 2, 16) := by kernel_rfl
/-- the slice v holds n spans of whatever ints -/
def SpArg (w : World) (v : Value) (n : Nat) (F T : Nat → Int) : Prop := ∃ a cap, v = .slice a n cap ∧ n ≤ cap ∧ (n = 0 ∨ ∃ g o, a = some ⟨g, o, none⟩ ∧ cap ≤ maxLen ∧
  ∀ k, k < n → w.cell? ⟨g, o + k * 2, none⟩ = some (.int .i64 (F k)) ∧ w.cell? ⟨g, o + k * 2 + 1, none⟩ = some (.int .i64 (T k)) ∧ (Lit.int .i64 (F k)).wf = true ∧ (Lit.int .i64 (T k)).wf = true)
theorem SpArg.below {w w' : World} {v : Value} {n : Nat} {F T : Nat → Int} (h : SpArg w v n F T) (hb : Below w.heap.size w w') : SpArg w' v n F T := by
  obtain ⟨a, cap, h1, h2, h3⟩ := h
  refine ⟨a, cap, h1, h2, h3.imp id ?_⟩
  rintro ⟨g, o, h4, h5, h6⟩
  exact ⟨g, o, h4, h5, fun k hk => ⟨(hb.cell (World.block_lt_of_cell? _ _ (h6 k hk).1)).trans (h6 k hk).1, (hb.cell (World.block_lt_of_cell? _ _ (h6 k hk).2.1)).trans (h6 k hk).2.1, (h6 k hk).2.2⟩⟩
/-- what RangesFrom hands back -/
def RgPost (top : Int) (w : World) (e : Ending) (w' : World) : Prop := ∃ v l, e = .returned v ∧ RgOk (List.length l) (fF l) (fT l) ∧ w'.ownsRow w.heap.size 51 2 v l.length (scs l) ∧ fT l 0 = top ∧ Below w.heap.size w w'
theorem spans_of_row {B : Nat} {w : World} {v : Value} {l : List (Int × Int)} (h : w.ownsRow B 51 2 v l.length (scs l)) (h0 : 0 < l.length) : ∃ g cap cur, v = .slice (some ⟨g, 0, none⟩) l.length cap ∧ B ≤ g ∧ SpansAt w v l.length (fF l) (fT l) ∧ w.heap[g]? = some (.cells cur 51 (0, 0)) := by
  rcases h.2 with ⟨_, hz⟩ | ⟨g, cap, cur, rfl, hbase, hg, r1, r2, r3, r4⟩
  · omega
  · refine ⟨g, cap, cur, rfl, hbase, ⟨g, 0, cap, rfl, r1, r2, fun k hk => ?_⟩, hg⟩
    have h1 := h.cells (g := g) rfl (k * 2) _ (scs_at l k hk).1
    have h2 := h.cells (g := g) rfl (k * 2 + 1) _ (scs_at l k hk).2
    rw [add_plain] at h1 h2
    exact ⟨h1, by rw [show 0 + k * 2 + 1 = 0 + (k * 2 + 1) by omega]; exact h2⟩
theorem rwrap (x : Int) (h0 : -9223372036854775808 ≤ x) (h1 : x ≤ 9223372036854775807) : IntKind.i64.wrap x = x := IntWalk.i64_in _ ⟨h0, h1⟩
set_option maxRecDepth 100000 in
set_option maxHeartbeats 8000000 in
theorem ranges_any (v : Value) (n0 : Nat) (F0 T0 : Nat → Int) (lg : Int) (w : World) (hA : SpArg w v n0 F0 T0) (hl : -9223372036854775808 ≤ lg) (hl' : lg ≤ 9223372036854775807) (_hn0 : n0 ≤ 9223372036854775807) :
    Calls Tryz.prog 21 #[v, .int .i64 lg] w (RgPost (1 + pickF lg 1073741824) w) := by
  obtain ⟨i0, hi, hz0, hz1, hz2⟩ := info_parts info51
  have P := Lib.hid (pick9_any lg 1073741824 w hl hl' (by decide) (by decide))
  have hp := pickF_range lg 1073741824 (by decide)
  have HA := Lib.hid hA
  obtain ⟨a, cap, rfl, hcap, _⟩ := hA
  generalize pickF lg 1073741824 = top at *
  obtain ⟨hp0, hp1⟩ := hp
  go_enter Tryz.func21, Tryz.ntmps21
  go_wp2_with (go_at_call 48; refine P.out.mono ?_; rintro e w' ⟨rfl, rfl⟩)
  go_loopw [5, 6, 7] (fun t o i wr => ∃ (l : List (Int × Int)) (to : Int), i = .int .i64 l.length ∧ t = .int .i64 to ∧ l.length ≤ n0 ∧ l.length ≤ 16 ∧ Hid (RgIn l) ∧ Hid (wr.ownsRow w.heap.size 51 2 o l.length (scs l) ∧ Below w.heap.size w wr) ∧ to ≤ 1073741824 ∧ -1000 ≤ to ∧ to < prv (fF l) l.length ∧ Hid ((l.length = 0 → to = 1 + top) ∧ (0 < l.length → fT l 0 = 1 + top)))
    (fun _ _ i _ => 16 - (intOf i).toNat)
  case atStart => exact ⟨[], 1 + top, rfl, rfl, Nat.zero_le _, Nat.zero_le _, Lib.hid (fun k hk => by simp at hk), Lib.hid ⟨World.ownsRow_nil _ _ _ _, Below.refl _ _⟩, by omega, by omega, by show 1 + top < 281474976710658; omega, Lib.hid ⟨fun _ => rfl, fun h => by simp at h⟩⟩
  case round =>
    obtain ⟨l, to, rfl, rfl, hl0, hl1, hIn, hRow, ht1, ht2, hprv, hTop⟩ := hrel
    have hob : ∃ oa oc, u6 = .slice oa l.length oc := by
      rcases hRow.out.1.2 with ⟨rfl, hz⟩ | ⟨g, cap', cur, rfl, _⟩
      · exact ⟨_, _, by rw [hz]⟩
      · exact ⟨_, _, rfl⟩
    obtain ⟨oa, oc, rfl⟩ := hob
    have hend : ∀ (wr : World) (x : Value), wr.ownsRow w.heap.size 51 2 x l.length (scs l) ∧ Below w.heap.size w wr → RgIn l → 0 < l.length → l.length ≤ 16 → fT l 0 = 1 + top → RgPost (1 + top) w (.returned x) wr := by
      rintro wr x ⟨h1, h2⟩ h3 h4 h5 h6
      exact ⟨x, l, rfl, ⟨h4, h5, h3⟩, h1, h6, h2⟩
    have HEND := Lib.hid hend
    clear hend
    by_cases hc : l.length < n0 ∧ l.length < 16 ∧ 0 < to
    · obtain ⟨c1, c2, c3⟩ := hc
      obtain ⟨a2, cap2, ea, hcp2, h3⟩ := HA.out
      cases ea
      rcases h3 with h3 | ⟨g, o, ea, hm, hcc⟩
      · omega
      · subst ea
        obtain ⟨hown, hbel⟩ := hRow.out
        have d0 := (hbel.cell (World.block_lt_of_cell? _ _ (hcc l.length c1).1)).trans (hcc l.length c1).1
        have P0 := Lib.hid (fun w => pick9_any (F0 l.length) 20 w (bounds_i64 (hcc l.length c1).2.2.1).1 (bounds_i64 (hcc l.length c1).2.2.1).2 (by decide) (by decide))
        have P1 := Lib.hid (fun w => pick9_any (T0 l.length) 20 w (bounds_i64 (hcc l.length c1).2.2.2).1 (bounds_i64 (hcc l.length c1).2.2.2).2 (by decide) (by decide))
        have p0 := pickF_range (F0 l.length) 20 (by decide)
        have p1 := pickF_range (T0 l.length) 20 (by decide)
        obtain ⟨x, hx⟩ : ∃ x, x = max (to - 1 - pickF (F0 l.length) 20) 0 := ⟨_, rfl⟩
        have hx0 : 0 ≤ x := by omega
        have hx1 : x < to := by omega
        have HX := Lib.hid hx
        have hx' := hx.symm
        have k0 : (0 : Int) ≤ (l.length : Int) := by omega
        have k1 : (l.length : Int) < (n0 : Int) := by omega
        have k2 : (l.length : Int) < 16 := by omega
        unfold maxLen at hm
        clear hx
        go_wp2_with fail
        refine (P0.out _).mono ?_
        rintro e w' ⟨rfl, rfl⟩
        go_wp2_with (at_builtin; refine wpList_append_own _ rfl _ _ 27 rfl w.heap.size 51 i0 (.agg #[.int .i64 0, .int .i64 0]) 2 16 Tryz.underlying27 hi hz0 hz1 hz2 rfl (by decide) _ _ _ rfl (hown.alloc _) ⟨wr.heap.size, 0, none⟩ 1 1 [.int .i64 x, .int .i64 to] rfl rfl (World.news_of_block (heap_alloc_new _ _)) (by intro u hu; simp at hu; rcases hu with rfl | rfl <;> rfl) (by unfold maxLen; omega) (by omega) (by have := hbel.size; simp; omega) ?_; intro v' w2 hown' hgrow _; have hb2 : Below w.heap.size w w2 := (hbel.trans (((Below.refl _ wr).alloc (Nat.le_refl _) _).mono hbel.size)).grown hgrow (by have := hbel.size; simp; omega) (fun k hk => (hown.lt k hk).1); have d1' := (hb2.cell (World.block_lt_of_cell? _ _ (hcc l.length c1).2.1)).trans (hcc l.length c1).2.1; have H2 := Lib.hid (And.intro hown' hb2); clear hown' hgrow hb2 hown hbel)
        refine (P1.out _).mono ?_
        rintro e w' ⟨rfl, rfl⟩
        have hin2 := Lib.hid (hIn.out.app x to hx0 hx1 (by omega) hprv)
        have ht0 := Lib.hid (show fT (l ++ [(x, to)]) 0 = 1 + top from by
          rcases Nat.eq_zero_or_pos l.length with h | h
          · have := hTop.out.1 h
            have e2 := fT_new l (x, to)
            rw [h] at e2
            rw [e2]; exact this
          · rw [fT_old _ _ _ h]; exact hTop.out.2 h)
        have hpr := Lib.hid (show prv (fF (l ++ [(x, to)])) (l.length + 1) = x from fF_new l (x, to))
        clear d0 d1' hcc
        go_wp2
        go_roundw
        case rel => exact ⟨l ++ [(x, to)], x - 1 - pickF (T0 l.length) 20, by rw [List.length_append, List.length_singleton]; go_num, rfl, by rw [List.length_append, List.length_singleton]; omega, by rw [List.length_append, List.length_singleton]; omega, hin2,
          Lib.hid ⟨by rw [List.length_append, List.length_singleton, scs_snoc]; exact H2.out.1, H2.out.2⟩, by omega, by omega, by rw [List.length_append, List.length_singleton, hpr.out]; omega, Lib.hid ⟨fun h => by rw [List.length_append, List.length_singleton] at h; omega, fun _ => ht0.out⟩⟩
        case measure => simp [intOf]; omega
    · have hout : decide (l.length < n0 ∧ l.length < 16 ∧ 0 < to) = false := by simpa using hc
      rcases Nat.eq_zero_or_pos l.length with hz | hz
      · have hl0' : l = [] := List.eq_nil_of_length_eq_zero hz
        subst hl0'
        have hto := hTop.out.1 rfl
        subst hto
        obtain ⟨hown, hbel⟩ := hRow.out
        have c3 : (0 : Int) < 1 + top := by omega
        simp only [List.length_nil] at hc hown
        have hn0 : ¬ (0 < n0) := fun h => hc ⟨h, by omega, c3⟩
        clear hc hout hIn hprv hTop hRow
        simp only [List.length_nil]
        go_wp2_with (at_builtin; refine wpList_append_own _ rfl _ _ 27 rfl w.heap.size 51 i0 (.agg #[.int .i64 0, .int .i64 0]) 2 16 Tryz.underlying27 hi hz0 hz1 hz2 rfl (by decide) _ _ _ rfl (hown.alloc _) ⟨wr.heap.size, 0, none⟩ 1 1 [.int .i64 (1 + top - 1), .int .i64 (1 + top)] rfl rfl (World.news_of_block (heap_alloc_new _ _)) (by intro u hu; simp at hu; rcases hu with rfl | rfl <;> rfl) (by unfold maxLen; omega) (by omega) (by have := hbel.size; simp; omega) ?_; intro v' w2 hown' hgrow _; skip)
        have e2 : (1 + top - 1 : Int) = top := by omega
        have hrow2 : w2.ownsRow w.heap.size 51 2 v' ([(1 + top - 1, 1 + top)] : List (Int × Int)).length (scs [(1 + top - 1, 1 + top)]) := by simpa [scs] using hown'
        have hb2 : Below w.heap.size w w2 := (hbel.trans (((Below.refl _ wr).alloc (Nat.le_refl _) _).mono hbel.size)).grown hgrow (by have := hbel.size; simp; omega) (fun k hk => (hown.lt k hk).1)
        have hin2 : RgIn [(1 + top - 1, 1 + top)] := fun k hk => by
          obtain rfl : k = 0 := by simp at hk; omega
          show 0 ≤ 1 + top - 1 ∧ 1 + top - 1 < 1 + top ∧ 1 + top ≤ 281474976710656 ∧ 1 + top < 281474976710658
          omega
        obtain ⟨g, cp, cur, rfl, q1, q2, q3⟩ := spans_of_row hrow2 (by simp)
        clear hown' hgrow hown hbel
        go_wp2
        go_ret
        exact ⟨_, _, rfl, ⟨by simp, by simp, hin2⟩, hrow2, rfl, hb2⟩
      · have hne : ((l.length : Int) = 0) = False := eq_false (by omega)
        by_cases c1 : l.length < n0
        · by_cases c2 : l.length < 16
          · have c3 : ¬ 0 < to := fun h => hc ⟨c1, c2, h⟩
            clear hc hout
            go_wp2
            go_ret
            exact HEND.out _ _ hRow.out hIn.out hz hl1 (hTop.out.2 hz)
          · clear hc hout
            go_wp2
            go_ret
            exact HEND.out _ _ hRow.out hIn.out hz hl1 (hTop.out.2 hz)
        · clear hc hout
          go_wp2
          go_ret
          exact HEND.out _ _ hRow.out hIn.out hz hl1 (hTop.out.2 hz)
end Go.Proofs.YtafkndhnbnpahaaGreat
