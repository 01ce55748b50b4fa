/- Law 13: putRanges: the ranges of an ACK frame. -/
import Derived.Test.YtafkndhnbnpahaaGreatO
import Derived.Deep.RegionHeld3
import Derived.Laws.Concat
namespace Go.Proofs.YtafkndhnbnpahaaGreat
open Go.RowKit
/-- a builder of the call's own holds at most m bytes -/
def Bd (B b m : Nat) (w : World) : Prop := ∃ l : List UInt8, Lib.IsBuilder 147 5 B b (Lib.byteCells l) w ∧ l.length ≤ m
theorem BAt.below {B b : Nat} {p : Value} {bs : List Value} {w w' : World} (h : Lib.BuilderAt 147 5 B b p bs w) (hb : Below w.heap.size w w') : Lib.BuilderAt 147 5 B b p bs w' := by
  obtain ⟨h1, v, h2, h3, h4⟩ := h
  refine ⟨h1, v, heap_below hb h2, h3.kept (grown_below (r := none) hb) ?_, h4⟩
  cases hv : v.ownBlock <;> simp
theorem Bd.below {B b m : Nat} {w w' : World} (h : Bd B b m w) (hb : Below w.heap.size w w') : Bd B b m w' := by
  obtain ⟨l, h | h, hl⟩ := h
  · exact ⟨l, .inl (BAt.below h hb), hl⟩
  · exact ⟨l, .inr (BAt.below h hb), hl⟩
theorem Bd.drew {B b m : Nat} {w : World} (h : Bd B b m w) : Bd B b m w.drew := by
  obtain ⟨l, h | h, hl⟩ := h
  · exact ⟨l, .inl h.drew, hl⟩
  · exact ⟨l, .inr h.drew, hl⟩
theorem Bd.new (w : World) : Bd w.heap.size w.heap.size 0 (w.alloc (.cells #[.pointer none, .slice none 0 0] 147)) :=
  ⟨[], .inl ⟨Nat.le_refl _, _, heap_alloc_new w _, World.ownsRow_nil _ _ _ _, by simp [Value.ownBlock]⟩, Nat.le_refl _⟩
theorem Bd.lt {B b m : Nat} {w : World} (h : Bd B b m w) : b < w.heap.size := by
  obtain ⟨l, h | h, _⟩ := h <;> exact h.lt
theorem write_bd (B b m q : Nat) (s : ByteArray) (w : World) (h : Bd B b m w) (hs : s.size ≤ q) (hm : m + q ≤ 100000) (hBw : B ≤ w.heap.size) :
    Calls Tryz.prog 118 #[.pointer (some ⟨b, 0, none⟩), .string s] w fun e w' => e = .returned (.tuple #[.int .i64 s.size, .nilIface]) ∧ Bd B b (m + q) w' ∧ Below B w w' ∧ Apart b w w' := by
  obtain ⟨l, h, hl⟩ := h
  refine (write_any B b _ s w h (by rw [Lib.byteCells_length]; omega) hBw).mono ?_
  rintro e w' ⟨rfl, h1, h2, h3⟩
  refine ⟨rfl, ⟨l ++ s.data.toList, .inr ?_, ?_⟩, h2, h3⟩
  · rw [Lib.byteCells_append]; exact h1
  · have : s.data.toList.length = s.size := by rw [Array.length_toList]; rfl
    rw [List.length_append]; omega
theorem string_bd (B b m : Nat) (w : World) (h : Bd B b m w) (hBw : B ≤ w.heap.size) : Calls Tryz.prog 119 #[.pointer (some ⟨b, 0, none⟩)] w fun e w' => ∃ s : ByteArray, s.size ≤ m ∧ e = .returned (.string s) ∧ Below B w w' := by
  obtain ⟨l, h, hl⟩ := h
  refine (Tryz.Builder_String_any B b l w h hBw).mono ?_
  rintro e w' ⟨rfl, h2⟩
  exact ⟨_, by simpa [ByteArray.size] using hl, rfl, h2⟩
def prv (F : Nat → Int) : Nat → Int
  | 0 => 281474976710658
  | k + 1 => F k
theorem cat_run (a b : ByteArray) (W : World) (ha : a.size ≤ 8) (hb : b.size ≤ 8) : (binOp .add 9 (.string a) (.string b)).run Tryz.prog W = .ok (.string (a ++ b)) W := by
  have ha' : (a.size : Int) ≤ 8388608 := by omega
  have hb' : (b.size : Int) ≤ 8388608 := by omega
  have h9 := Tryz.underlying9
  simp [binOp, run_string_add, *]
/-- n ranges, descending -/
structure RgOk (n : Nat) (F T : Nat → Int) : Prop where
  lo : 1 ≤ n
  hi : n ≤ 16
  at_ : ∀ k, k < n → 0 ≤ F k ∧ F k < T k ∧ T k ≤ 281474976710656 ∧ T k < prv F k
/-- the slice v holds the n spans -/
def SpansAt (w : World) (v : Value) (n : Nat) (F T : Nat → Int) : Prop := ∃ g o cap, v = .slice (some ⟨g, o, none⟩) n cap ∧ n ≤ cap ∧ cap ≤ maxLen ∧
  ∀ k, k < n → w.cell? ⟨g, o + k * 2, none⟩ = some (.int .i64 (F k)) ∧ w.cell? ⟨g, o + k * 2 + 1, none⟩ = some (.int .i64 (T k))
theorem SpansAt.below {w w' : World} {v : Value} {n : Nat} {F T : Nat → Int} (h : SpansAt w v n F T) (hb : Below w.heap.size w w') : SpansAt w' v n F T := by
  obtain ⟨g, o, cap, h1, h2, h3, h4⟩ := h
  exact ⟨g, o, cap, h1, h2, h3, fun k hk => ⟨(hb.cell (World.block_lt_of_cell? _ _ (h4 k hk).1)).trans (h4 k hk).1, (hb.cell (World.block_lt_of_cell? _ _ (h4 k hk).2)).trans (h4 k hk).2⟩⟩
set_option maxRecDepth 100000 in
set_option maxHeartbeats 4000000 in
theorem putRanges_any (b n : Nat) (F T : Nat → Int) (cs : Array Value) (v : Value) (w : World) (hR : RgOk n F T) (hS : SpansAt w v n F T) (hb : w.heap[b]? = some (.cells cs 41 (0, 0))) (hc : cs[9]? = some v) :
    Calls Tryz.prog 97 #[.pointer (some ⟨b, 0, none⟩)] w (Short w) := by
  obtain ⟨g, o, cap, rfl, hcap, hm, hsp⟩ := hS
  obtain ⟨hn1, hn2, hok⟩ := hR
  have c9 : w.cell? ⟨b, 9, none⟩ = some (.slice (some ⟨g, o, none⟩) n cap) := (cell_whole hb 9).trans hc
  have hbl := heap_lt hb
  have e0 : ((n : Int) = 0) = False := eq_false (by omega)
  have SP := Lib.hid hsp
  have OK := Lib.hid hok
  have HB := Lib.hid hb
  have HC := Lib.hid hc
  unfold maxLen at hm
  clear hsp hok hb hc
  have N0 := Lib.hid (Bd.new w)
  have c9' : (w.alloc (.cells #[.pointer none, .slice none 0 0] 147)).cell? ⟨b, 9, none⟩ = some (.slice (some ⟨g, o, none⟩) n cap) := by
    rw [Below.cell ((Below.refl w.heap.size w).alloc (Nat.le_refl _) _) (p := ⟨b, 9, none⟩) hbl]; exact c9
  have B0 := Lib.hid ((Below.refl w.heap.size w).alloc (Nat.le_refl _) (.cells #[.pointer none, .slice none 0 0] 147))
  go_enter Tryz.func97, Tryz.ntmps97
  go_wp2_with fail
  refine (number_ex _ _ _ (by omega) (by omega) (by omega)).mono ?_
  rintro e w1 ⟨s1, hs1, rfl, hb1⟩
  have N1 := Lib.hid (N0.out.below hb1)
  have B1 := Lib.hid (btrans B0.out hb1)
  have c91 : w1.cell? ⟨b, 9, none⟩ = some (.slice (some ⟨g, o, none⟩) n cap) := by rw [Below.cell B1.out (p := ⟨b, 9, none⟩) hbl]; exact c9
  clear hb1 N0 B0 c9'
  go_wp2_with fail
  refine (write_bd _ _ _ 8 s1 _ N1.out hs1 (by omega) B1.out.size).mono ?_
  rintro e w2 ⟨rfl, hN2, hb2, ha2⟩
  have N2 := Lib.hid hN2
  have B2 := Lib.hid (B1.out.trans hb2)
  have c92 : w2.cell? ⟨b, 9, none⟩ = some (.slice (some ⟨g, o, none⟩) n cap) := by rw [Below.cell B2.out (p := ⟨b, 9, none⟩) hbl]; exact c9
  clear hN2 hb2 ha2 N1 B1 c91 c9 w1
  go_wp2
  go_loopw [4, 28] (fun f i wr => ∃ k : Nat, k ≤ n ∧ i = .int .i64 k ∧ f = .int .i64 (prv F k) ∧ Bd w.heap.size w.heap.size (8 + 16 * k) wr ∧ Below w.heap.size w wr) (fun _ i _ => n - (intOf i).toNat)
  case atStart => exact ⟨0, by omega, rfl, rfl, N2.out, B2.out⟩
  case round =>
    obtain ⟨k, hk, rfl, rfl, hN, hB⟩ := hrel
    have N := Lib.hid hN
    have B := Lib.hid hB
    clear hN hB
    by_cases hlt : k < n
    · obtain ⟨q1, q2, q3, q4⟩ := OK.out k hlt
      have s0 : wr.cell? ⟨g, o + k * 2, none⟩ = some (.int .i64 (F k)) := (B.out.cell (World.block_lt_of_cell? _ _ (SP.out k hlt).1)).trans (SP.out k hlt).1
      have s1 : wr.cell? ⟨g, o + k * 2 + 1, none⟩ = some (.int .i64 (T k)) := (B.out.cell (World.block_lt_of_cell? _ _ (SP.out k hlt).2)).trans (SP.out k hlt).2
      have p0 : 0 < prv F k := by omega
      have g1 : ¬ (F k < 0) := by omega
      have g2 : ¬ (281474976710656 < T k) := by omega
      have g3 : ¬ (prv F k ≤ T k) := by omega
      have g4 : prv F k ≤ 281474976710658 := by
        cases k with
        | zero => exact Int.le_refl _
        | succ m => have := OK.out m (by omega); show F m ≤ _; omega
      have X := Lib.hid (box1 wr (.cells #[.int .i64 (F k), .int .i64 (T k)] 51))
      have NX := Lib.hid (N.out.below X.out.2.1)
      have BX := Lib.hid (btrans B.out X.out.2.1)
      have PS := Lib.hid (show prv F (k + 1) = F k from rfl)
      rcases Nat.eq_zero_or_pos k with hk0 | hk0
      · subst hk0
        rw [Nat.zero_mul, Nat.add_zero] at s0 s1
        have HS := Lib.hid (show ∀ w', Apart w.heap.size (wr.alloc (.cells #[.int .i64 (F 0), .int .i64 (T 0)] 51)) w' → (w'.cell? ⟨wr.heap.size, 0, none⟩ = some (.int .i64 (F 0)) ∧ w'.cell? ⟨wr.heap.size, 1, none⟩ = some (.int .i64 (T 0))) from
          fun w' h => ⟨at_whole (h _ _ _ _ X.out.1 (by have := B.out.size; have := N.out.lt; omega) (by decide)) 0 rfl, at_whole (h _ _ _ _ X.out.1 (by have := N.out.lt; omega) (by decide)) 1 rfl⟩)
        have W1 : IntKind.i64.wrap (T 0 - F 0) = T 0 - F 0 := IntWalk.i64_in _ (by omega)
        have W2 : IntKind.i64.wrap (T 0 - F 0 - 1) = T 0 - F 0 - 1 := IntWalk.i64_in _ (by omega)
        go_wp2
        generalize wr.alloc (.cells #[.int .i64 (F 0), .int .i64 (T 0)] 51) = V at X NX BX HS ⊢
        have t1 := Lib.hid True.intro
        go_region_held3 (fun w' => w'.cell? ⟨wr.heap.size, 0, none⟩ = some (.int .i64 (F 0)) ∧ w'.cell? ⟨wr.heap.size, 1, none⟩ = some (.int .i64 (T 0)))
          (first | exact HS.out _ (Apart.below (Below.refl V.heap.size V).drew) | exact HS.out _ (Apart.below (below_drew hb1)) | exact HS.out _ (Apart.below (btrans (below_drew hb1) hb2)) | exact HS.out _ ((Apart.below (btrans (below_drew hb1) hb2)).trans ha3))
          (first | (go_at_call 107; have t2 := t1.out; clear t1; refine (number_ex _ _ _ (by omega) (by omega) (by omega)).mono ?_; rintro e w1 ⟨s1, hs1, rfl, hb1⟩) | (go_at_call 107; refine (number_ex _ _ _ (by omega) (by omega) (by omega)).mono ?_; rintro e w2 ⟨s2, hs2, rfl, hb2⟩; have z2 : (9223372036854775807 < s1.size + s2.size) = False := eq_false (by omega)) | (go_at_call 118; refine (write_bd _ _ _ 16 _ _ ((NX.out.drew.below hb1).below hb2) (by rw [ByteArray.size_append]; omega) (by omega) (Nat.le_trans BX.out.size (btrans (below_drew hb1) hb2).size)).mono ?_; rintro e w3 ⟨rfl, hB3, hb3, ha3⟩))
        have y0 := (HS.out _ ((Apart.below (btrans (below_drew hb1) hb2)).trans ha3)).1
        have NN := Lib.hid hB3
        have BB := Lib.hid ((BX.out.trans ((btrans (below_drew hb1) hb2).mono BX.out.size)).trans hb3)
        clear hB3 hb3 ha3 hb1 hb2 z2
        go_wp2
        go_roundw
        case rel => exact ⟨0 + 1, by omega, by go_num, by rw [PS.out], by have := NN.out; rwa [show 8 + 16 * 0 + 16 = 8 + 16 * (0 + 1) by omega] at this, BB.out⟩
        case measure => simp [intOf]; omega
      · have hk1 : (0 : Int) < (k : Int) := by omega
        have g5 : IntKind.i64.wrap (prv F k - T k) = prv F k - T k := IntWalk.i64_in _ (by omega)
        have g6 : IntKind.i64.wrap (prv F k - T k - 1) = prv F k - T k - 1 := IntWalk.i64_in _ (by omega)
        have HS := Lib.hid (show ∀ w', Apart w.heap.size (wr.alloc (.cells #[.int .i64 (F k), .int .i64 (T k)] 51)) w' → (w'.cell? ⟨wr.heap.size, 0, none⟩ = some (.int .i64 (F k)) ∧ w'.cell? ⟨wr.heap.size, 1, none⟩ = some (.int .i64 (T k))) from
          fun w' h => ⟨at_whole (h _ _ _ _ X.out.1 (by have := B.out.size; have := N.out.lt; omega) (by decide)) 0 rfl, at_whole (h _ _ _ _ X.out.1 (by have := N.out.lt; omega) (by decide)) 1 rfl⟩)
        have W1 : IntKind.i64.wrap (T k - F k) = T k - F k := IntWalk.i64_in _ (by omega)
        have W2 : IntKind.i64.wrap (T k - F k - 1) = T k - F k - 1 := IntWalk.i64_in _ (by omega)
        go_wp2
        generalize wr.alloc (.cells #[.int .i64 (F k), .int .i64 (T k)] 51) = V at X NX BX HS ⊢
        have t1 := Lib.hid True.intro
        go_region_held3 (fun w' => w'.cell? ⟨wr.heap.size, 0, none⟩ = some (.int .i64 (F k)) ∧ w'.cell? ⟨wr.heap.size, 1, none⟩ = some (.int .i64 (T k)))
          (first | exact HS.out _ (Apart.below (Below.refl V.heap.size V).drew) | exact HS.out _ (Apart.below (below_drew hb1)) | exact HS.out _ (Apart.below (btrans (below_drew hb1) hb2)) | exact HS.out _ ((Apart.below (btrans (below_drew hb1) hb2)).trans ha3))
          (first | (go_at_call 107; have t2 := t1.out; clear t1; refine (number_ex _ _ _ (by omega) (by omega) (by omega)).mono ?_; rintro e w1 ⟨s1, hs1, rfl, hb1⟩) | (go_at_call 107; refine (number_ex _ _ _ (by omega) (by omega) (by omega)).mono ?_; rintro e w2 ⟨s2, hs2, rfl, hb2⟩; have z2 : (9223372036854775807 < s1.size + s2.size) = False := eq_false (by omega)) | (go_at_call 118; refine (write_bd _ _ _ 16 _ _ ((NX.out.drew.below hb1).below hb2) (by rw [ByteArray.size_append]; omega) (by omega) (Nat.le_trans BX.out.size (btrans (below_drew hb1) hb2).size)).mono ?_; rintro e w3 ⟨rfl, hB3, hb3, ha3⟩))
        have y0 := (HS.out _ ((Apart.below (btrans (below_drew hb1) hb2)).trans ha3)).1
        have NN := Lib.hid hB3
        have BB := Lib.hid ((BX.out.trans ((btrans (below_drew hb1) hb2).mono BX.out.size)).trans hb3)
        clear hB3 hb3 ha3 hb1 hb2 z2
        go_wp2
        go_roundw
        case rel => exact ⟨k + 1, by omega, by go_num, by rw [PS.out], by have := NN.out; rwa [show 8 + 16 * k + 16 = 8 + 16 * (k + 1) by omega] at this, BB.out⟩
        case measure => simp [intOf]; omega
    · obtain rfl : k = n := by omega
      clear hlt
      go_wp2_with (go_at_call 119; refine (string_bd _ _ _ _ N.out B.out.size).mono ?_; rintro e w' ⟨s, hs, rfl, hb⟩)
      go_ret
      exact ⟨s, by omega, rfl, B.out.trans hb⟩
end Go.Proofs.YtafkndhnbnpahaaGreat
